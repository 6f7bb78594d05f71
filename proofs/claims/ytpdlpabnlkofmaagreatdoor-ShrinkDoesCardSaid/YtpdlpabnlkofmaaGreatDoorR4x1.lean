/-
  Part 1.
-/
import Derived.Test.YtpdlpabnlkofmaaGreatDoorProg
import Derived.Orders
import Derived.Tactics
import Derived.OrdersIn
import Derived.TacticsIn
import Derived.RangeFuncSeq
import Derived.RangeFuncLeaves
import Derived.Laws.Sem
import Derived.KernelRfl
import Derived.Below
import Derived.IntWalk
import Derived.Laws.AppendOwn
import Derived.Laws.MakeOwn
import Derived.WalkKit
import Derived.ProofKit
import Derived.OpenShut
import Derived.ChangeCalls
import Derived.Laws.Strings
import Derived.Lib.ConvBytes
import Derived.MapKept
import Derived.Maps.RangeRun
import Derived.Lib.AppendZeros
import Derived.LaidMore
import Derived.Lay
import Derived.SevenTiedAt
import Derived.Stop.Joined
set_option maxHeartbeats 8000000
set_option linter.all false
set_option maxRecDepth 100000
namespace Go
def cK{p:Prop}(h:p:=by omega):p:=h
def dD{p:Prop}(h:p:=by grind):p:=h
def ee{p:Prop}(h:p:=by decide):p:=h
def ei{p:Prop}(h:p:=by simp):p:=h
def ej:=@if_neg
def ew:=@if_pos
def ez:=@decide_eq_true
def fN:=@decide_eq_false
def ga:=@decide_eq_decide
def gN:=@congrArg
def gO:=@of_decide_eq_true
def g6:=@of_decide_eq_false
def g7:=@Classical.byContradiction
noncomputable abbrev hH:=Proofs.Tryz.prog
abbrev hM:=World->Prop
abbrev hZ(i:Int):Value:=.int .i64 i
end Go
open ByteArray renaming mk->kp
open List renaming getElem?_eq_some_iff->kE,length_append->lY,append_assoc->n3,length_cons->oj,mem_cons_self->oD,append_nil->o6,mem_cons_of_mem->qb,replicate->qW,mem_cons->sl,nil_append->s4,getElem?_append_left->tx,mem_singleton->vA,getElem?_eq_none_iff->AT,map_congr_left->A4,length_replicate->BH,all_eq_true->Eu,length_nil->J7,size_toArray->Kw,getElem?_toArray->OT,mem_filterMap->Pw,zipIdx_cons->Za
open Go.Instr renaming build->l2,sliceAt->n4,index->u3,sliceBounds->vw,loadAt->wZ,box->zT,fieldAt->EO,indexAt->ES,storeAt->IE,buildSlice->I0,makeSlice->Mf,alloc->Ph,extract->QH,fill->U2,sliceBound->Y9
open Option renaming bind_some->mO,some->oe,map_some->D4
open Go.Value renaming int->nf,bool->wA,slice->x6,cells->SK,pointer->aaF
open Bool renaming and_eq_true->n5,not_eq_true'->sk,or_eq_true->wS,true_and->yk,not_false->NY
open Nat renaming le_refl->o1,zero_add->tW,le_trans->wc,le_of_eq->yQ,beq->Bd,le_of_ble_eq_true->Bq,mul_le_mul_right->BJ,land->GL,shiftLeft->IZ,succ_mul->Jv,lor->NS,add_zero->N0,eq_of_beq_eq_true->O1,testBit_two_pow->Pv,mul_le_mul->Py,one_shiftLeft->P6,ble->P7,testBit_or->Sg,add_mul->SL,blt->aac
open Array renaming getD_eq_getD_getElem?->Cn,getElem?_eq_some_iff->Ct,length_toList->Lp,getElem?_modify->O7,toArray_toList->Pn,empty_append->T9,foldl_toList->U0,ext'->aat,range->abd
open Go.World renaming cell?->P8,setCell->aaw
open Prod renaming mk->aal
open Go.Code renaming region->abc
open Classical renaming choose->abg
namespace Go.Fw
abbrev Env:=Nat->Value
def ev(e:Env):Operand->Value
 | .tmp t=>e t
 | .const v=>v
 | .global g=>.pointer (some ⟨g,0,none⟩)
 | .func f=>.func (.func f) #[] #[]
def zU(e:Env)(d:Nat)(v:Value):Env:=λi=>bif Bd i d then v else e i
def jX(e:Env)(d:Option Nat)(v:Value):Env:=match d with|some d=>zU e d v|none=>e
theorem nt(e:Env)(d:Nat)(v:Value):zU e d v d=v:=by simp[zU]
theorem oM(e:Env){d i:Nat}(v:Value)(h:i≠d):zU e d v i=e i:=by
 have:Bd i d=false:=by
  cases hh:Bd i d
  .rfl
  simp_all
 simp[zU,this]
def VB(e:Env){d u:Nat}(v B:Value)(h:d≠u):zU (zU e d v) u B=zU (zU e u B) d v:=by
 funext i
 by_cases h1:i=d
 .subst h1;rw[oM _ _ h,nt,nt]
 by_cases h2:i=u
 .subst h2;rw[nt,oM _ _ h1,nt]
 rw[oM _ _ h2,oM _ _ h1,oM _ _ h1,oM _ _ h2]
def ahh(e:Env)(d:Nat)(v:Value)(h:e d=v):zU e d v=e:=by
 funext i
 by_cases h1:i=d
 .subst h1;rw[nt,h]
 rw[oM _ _ h1]
def mark(D:Nat):Deferred:={target:=.collected D,args:=#[]}
structure jA(ds:List Nat)(n:Nat)(e:Env)(a:Act):Prop where
 defers:a.defers=ds.map mark
 size:a.tmps.size=n
 get:∀i,a.tmps.getD i undef=e i
def jA.eval{ds:List Nat}{n:Nat}{e:Env}{a:Act}(h:jA ds n e a):a.eval=ev e:=by
 funext x
 cases x<;>simp[Act.eval,ev]
 case tmp t=>simpa using h.get t
theorem jA.put{ds:List Nat}{n:Nat}{e:Env}{a:Act}(h:jA ds n e a){d:Option Nat}(u:∀k,d=some k->k<n)(v:Value) :
  jA ds n (jX e d v) (a.put d v):=by
 cases d with
 | none=>exact h
 | some d=>
  have u:=u d rfl
  refine⟨h.defers,by simp[Act.put,h.size],λi=>?_⟩
  have B:=h.get i
  simp only[Act.put,jX,Cn]at *
  by_cases hi:i=d
  .subst hi
   rw[Array.getElem?_setIfInBounds_self_of_lt (by rw[h.size];exact u),nt]
   rfl
  .rw[Array.getElem?_setIfInBounds_ne (Ne.symm hi),oM _ _ hi]
   exact B
def pr(P:Program){α:Type}:Sem α->Option α
 | .pure a=>some a
 | .program k=>pr P (k P)
 | .mark _ k=>pr P k
 | _=>none
theorem fY{P:Program}{α:Type}{m:Sem α}{v:α}(h:pr P m=some v)(w:World):m.run P w=.ok v w:=by
 induction m with
 | pure a=>simp only[pr,oe.injEq]at h;simp_all
 | program k u=>exact u P h
 | mark x k u=>exact u h
 | _=>simp[pr]at h
theorem fQ{P:Program}{α:Type}(a:α):pr P (pure a:Sem α)=some a:=rfl
theorem cX{P:Program}{α β:Type}(m:Sem α)(f:α->Sem β):pr P (m >>= f)=(pr P m).bind λa=>pr P (f a):=by
 show pr P (m.bind f)=_
 induction m with
 | pure a=>rfl
 | program k u=>exact u P
 | mark x k u=>exact u
 | _=>rfl
theorem eK{P:Program}{α β:Type}{m:Sem α}{f:α->Sem β}{w w':World}{a:α}(h:m.run P w=.ok a w') :
  (m >>= f).run P w=(f a).run P w':=by simp_all
theorem run_pure{P:Program}{α:Type}(a:α)(w:World):(pure a:Sem α).run P w=.ok a w:=rfl
abbrev FO(r:Option Nat):Fence:={Fence.wide with round:=r}
def DU{r:Option Nat}{p:Prop}:(FO r).depth.isSome=true->p:=λh=>by cases h
def y9{r:Option Nat}{n:Nat}{P:Program}{f:FuncId}{args:Array Value}{w:World}{R:Ending->hM}:CallsIn (FO r) n P f args w R↔Calls P f args w R:=
 callsIn_wide (n:=n)
def tP(K:Value->hM):Ending->hM:=λe w=>∃v,e=.returned v/\K v w
def tP.mono{K u:Value->hM}{e:Ending}{w:World}(h:tP K e w)(k:∀v w,K v w->u v w):tP u e w:=
 let ⟨v,E,B⟩:=h;⟨v,E,k _ _ B⟩
def Plain(P : Program)(f : FuncId) : Prop := ∃u, P.funcs[f]?=some u /\ (u.name == "runtime.NumGoroutine")=false /\ u.body.isNone=false
theorem zY{P:Program}{f:FuncId}(h:Plain P f)(args:Array Value)(w:World) :
  (callFunc f args).run P w=.ok (.enter f args) w:=by
 obtain⟨u,h1,h2,h3⟩:=h
 show(match P.funcs[f]? with|none=>_|some u=>_:Sem Next).run P w=_
 rw[h1]
 simp[h2,h3]
structure eR(P:Program)(m:Sem Value)(K:Value->Prop):Prop where
 ex:∃v,pr P m=some v/\K v
structure J8(P:Program)(m:Sem Value)(w:World)(K:Value->Prop):Prop where
 ex:∃v,m.run P w=.ok v w/\K v
structure rJ(P:Program)(m:Sem Value)(w:World)(K:Value->hM):Prop where
 ex:∃v w',m.run P w=.ok v w'/\K v w'
structure Vf(P:Program)(m:Sem Unit)(w:World)(K:hM):Prop where
 ex:∃w',m.run P w=.ok () w'/\K w'
structure Cr(P:Program)(f:FuncId)(args:List Value)(w:World)(K:Value->hM):Prop where
 ex:(Plain P f/\Calls P f args.toArray w (tP K))\/∃v w',(callFunc f args.toArray).run P w=.ok (.value v) w'/\K v w'
structure kH(P:Program)(fv:Value)(args:List Value)(w:World)(K:Value->hM):Prop where
 ex:(∃g first cap,fv=.func (.func g) first cap/\Plain P g/\Calls P g (first++args.toArray++cap) w (tP K))\/
  ∃l,fv=.func (.yield l) #[] #[]/\YieldAt (FO none) 0 P l args.toArray w (tP K)
structure yz(v:Value)(A B:Prop):Prop where
 ex:∃t,v=.bool t/\(t=true->A)/\(t=false->B)
structure Q0(P:Program)(m:Sem Value)(v:Value)(w:World)(R:Prop):Prop where
 al6:m.run P w=.ok v w
 rest:R
inductive DV where
 | val (v:Value)
 | p (m:Sem Value)
 | q (m:Sem Value)
 | e (m:Sem Value)
 | u (m:Sem Unit)
 | call (f:FuncId) (args:List Value)
 | Q1 (fv:Value) (args:List Value)
 | bad
def Vg:Operand->Bool|.const _=>true|_=>false
def To:Value->Sem Value
 | .pointer none|.nilIface|.nilFunc => stuck "nil"
 | .func (.method _) _ _ => stuck "method"
 | x=>pure x
def VC(c a b:Value):Sem Value:=do pure (if <- asBool c then a else b)
def abw(op:BinOp)(t:TypeId)(cx cy:Bool)(a b:Value):Sem Value:=
 match a,b with
 | .nilIface, .nilIface => if cx||cy then binOp op t a b else stuck "two nil interfaces"
 | .agg _, .agg _ => .program λp => if p.eqGuardType p.depth t then stuck "an interface in a part" else binOp op t a b
 | _,_=>binOp op t a b
def kj(op:BinOp)(t:TypeId)(cx cy:Bool)(a b:Value):Sem Value:=
 match op with
 | .eql=>abw .eql t cx cy a b
 | .neq=>abw .neq t cx cy a b
 | op=>binOp op t a b
def abx(P:Program)(op:BinOp)(t:TypeId)(x y:Operand):Bool:=
 match op with
 | .eql|.neq=>match P.underlying t with
  | some (.pointer _)|some .unsafePointer=>!(Vg x||Vg y)
  | _=>false
 | _=>false
def isMap(P:Program)(t:TypeId):Bool:=match P.underlying t with|some (.map _ _)|some (.chan _ _)=>true|_=>false
def al7(P:Program)(s d:TypeId):Nat:=
 match P.underlying d with
 | some (.slice _)=>2
 | some .string=>match P.underlying s with|some (.slice _)=>1|_=>0
 | _=>0
def zZ(P:Program)(o:Oper)(ρ:Operand->Value):DV:=
 match o.op with
 | .move x|.assign x=>.val (ρ x)
 | .pick c a b=>.p (VC (ρ c) (ρ a) (ρ b))
 | .alloc t=>.e (Ph t true (.tuple #[]))
 | .box t x=>.e (zT t (ρ x))
 | .build t parts=>.p (l2 t (parts.toList.map λq=>(q.1,ρ q.2)).toArray)
 | .buildSlice t n parts=>.e (I0 t n (parts.toList.map λq=>(q.1,ρ q.2)).toArray)
 | .load t a=>.q (wZ t (ρ a))
 | .store t a x=>.u (IE t (ρ a) (ρ x))
 | .nilCheck x=>.p (To (ρ x))
 | .binOp op t x y _=>if abx P op t x y then .q (kj op t (Vg x) (Vg y) (ρ x) (ρ y))else .p (kj op t (Vg x) (Vg y) (ρ x) (ρ y))
 | .unOp op _ x=>.p (Op.unary op (ρ x))
 | .convert s d x=>match al7 P s d with|0=>.p (convert s d (ρ x))|1=>.q (convert s d (ρ x))|_=>.e (convert s d (ρ x))
 | .makeInterface t x=>.q (Instr.makeInterface t (ρ x))
 | .makeFunc fn first cap=>.val (.func fn (first.toList.map ρ).toArray (cap.toList.map ρ).toArray)
 | .makeMap t r=>.e (Instr.makeMap t (r.map ρ))
 | .makeSlice t l c=>.e (Mf t (ρ l) (ρ c))
 | .slice t x lo hi B=>.p (n4 t (ρ x) (lo.map ρ) (hi.map ρ) (B.map ρ))
 | .fieldAddr s x f=>.p (EO s (ρ x) f)
 | .field t x f=>.p (Instr.field t (ρ x) f)
 | .indexAddr t x i=>.p (ES t (ρ x) (ρ i))
 | .index t x i=>.p (u3 t (ρ x) (ρ i))
 | .lookup t x i ok=>.q (Instr.lookup t (ρ x) (ρ i) ok)
 | .mapUpdate t m k x|.insert t m k x=>.u (Instr.mapUpdate t (ρ m) (ρ k) (ρ x))
 | .mapEntry t m k=>.e (Instr.mapEntry t (ρ m) (ρ k))
 | .entryStore t m s x=>.u (Instr.entryStore t (ρ m) (ρ s) (ρ x))
 | .range t x=>.e (Instr.range t (ρ x))
 | .next it s=>.e (Instr.next (ρ it) s o.type)
 | .entry it=>.q (Instr.entry (ρ it))
 | .typeAssert x t u ok=>.q (Instr.typeAssert (ρ x) t u ok)
 | .extract t i=>.p (QH (ρ t) i)
 | .call c=>
  match c.callee with
  | .value (.func f)=>.call f (c.args.toList.map ρ)
  | .value x=>.Q1 (ρ x) (c.args.toList.map ρ)
  | .invoke ..=>.bad
  | .builtin b=>
   match b with
   | .len=>if isMap P (c.argTypes.getD 0 0)then .q (Builtin.len_ c.argTypes o.type (c.args.toList.map ρ).toArray)else .p (Builtin.len_ c.argTypes o.type (c.args.toList.map ρ).toArray)
   | .cap=>.p (Builtin.cap_ c.argTypes o.type (c.args.toList.map ρ).toArray)
   | .min=>.p (Builtin.min_ c.argTypes o.type (c.args.toList.map ρ).toArray)
   | .max=>.p (Builtin.max_ c.argTypes o.type (c.args.toList.map ρ).toArray)
   | .append=>.e (Builtin.append_ c.argTypes o.type (c.args.toList.map ρ).toArray)
   | .copy=>.e (Builtin.copy_ c.argTypes o.type (c.args.toList.map ρ).toArray)
   | .clear=>.e (Builtin.clear_ c.argTypes o.type (c.args.toList.map ρ).toArray)
   | .delete=>.e (Builtin.delete_ c.argTypes o.type (c.args.toList.map ρ).toArray)
   | _=>.bad
 | _=>.bad
def Gy(P:Program)(k:DV)(K:Value->hM)(w:World):Prop:=
 match k with
 | .val v=>K v w
 | .p m=>eR P m (λv=>K v w)
 | .q m=>J8 P m w (λv=>K v w)
 | .e m=>rJ P m w K
 | .u m=>Vf P m w (λw'=>K undef w')
 | .call f args=>Cr P f args w K
 | .Q1 fv args=>kH P fv args w K
 | .bad=>False
def DV.quiet:DV->Bool
 | .val _|.p _|.q _=>true
 | _=>false
def DV.reads:DV->Bool
 | .q _=>true
 | _=>false
def DV.has(P:Program)(k:DV)(w:World)(v:Value):Prop:=
 match k with
 | .val x=>x=v
 | .p m=>pr P m=some v
 | .q m=>m.run P w=.ok v w
 | _=>False
def Gy.has{P:Program}{k:DV}{K:Value->hM}{w:World}(u:k.quiet=true)(h:Gy P k K w):∃v,k.has P w v/\K v w:=by
 cases k<;>simp only[DV.quiet,Bool.false_eq_true]at u<;>simp only[Gy]at h
 case val v=>exact⟨v,rfl,h⟩
 case p m=>exact h.ex
 case q m=>exact h.ex
def DV.Tp{P:Program}{k:DV}{w w':World}{v:Value}(u:k.reads=false)(h:k.has P w v):k.has P w' v:=by
 cases k<;>simp only[DV.has,DV.reads,Bool.true_eq_false]at *
 .exact h
 exact h
def Gy.VD{P:Program}{k:DV}{K:Value->hM}{w:World}{v:Value}(h:k.has P w v)(B:K v w):Gy P k K w:=by
 cases k<;>simp only[DV.has]at h<;>simp only[Gy]
 case val u=>grind
 case p m=>exact⟨v,h,B⟩
 case q m=>exact⟨v,h,B⟩
def Gy.mono{P:Program}{k:DV}{K E:Value->hM}{w:World}(h:Gy P k K w)(B:∀v w,K v w->E v w):Gy P k E w:=by
 cases k<;>simp only[Gy]at *
 case val v=>grind
 case p m=>exact⟨let ⟨v,a,b⟩:=h.ex;⟨v,a,B _ _ b⟩⟩
 case q m=>exact⟨let ⟨v,a,b⟩:=h.ex;⟨v,a,B _ _ b⟩⟩
 case e m=>exact⟨let ⟨v,w',a,b⟩:=h.ex;⟨v,w',a,B _ _ b⟩⟩
 case u m=>exact⟨let ⟨w',a,b⟩:=h.ex;⟨w',a,B _ _ b⟩⟩
 case call f args=>
  rcases h.ex with⟨a,b⟩|⟨v,w',a,b⟩
  .exact⟨.inl ⟨a,b.mono λe w' r=>r.mono B⟩⟩
  .exact⟨.inr ⟨v,w',a,B _ _ b⟩⟩
 case Q1 fv args=>
  rcases h.ex with⟨g,f,c,a,b,d⟩|⟨l,a,G,t,s,b,c,d⟩
  .exact⟨.inl ⟨g,f,c,a,b,d.mono λe w' r=>r.mono B⟩⟩
  .exact⟨.inr ⟨l,a,G,t,s,b,c,d.mono λe w' r=>r.mono B⟩⟩
def um{r:Option Nat}{P:Program}{o:Oper}{a:Act}{w:World}:∀f,o.about P w a.eval=some f->(FO r).fn f:=λ_ _=>trivial
def Kg{r:Option Nat}{P:Program}{o:Oper}{a:Act}{next:Act->hM}{Q:Exit->Act->hM}{f:FuncId}{args:Array Value}{w:World}
  {K:Value->hM}(h:Calls P f args w (tP K)) (E:∀v w',K v w'->next (a.put o.dst v) w'):o.uponIn (FO r) 0 P a next Q (.ok (.enter f args) w):=by
 rw[Oper.uponIn_enter]
 refine⟨DU,y9.2 (h.mono λe w' ⟨v,u,B⟩=>?_)⟩
 grind
def F8{r:Option Nat}{P:Program}{o:Oper}{a:Act}{next:Act->hM}{Q:Exit->Act->hM}{l:Nat}{f:FuncId}{tmps:Array Value}{assign body:Code}{w:World}
  {K:Value->hM}(h:RoundIn (FO none) 0 P l f tmps assign body w (tP K)) (B:∀v w',K v w'->next (a.put o.dst v) w'):o.uponIn (FO r) 0 P a next Q (.ok (.round l f tmps assign body) w):=by
 rw[Oper.uponIn_round]
 refine⟨DU,?_⟩
 have u:RoundIn (FO r) 0 P l f tmps assign body w (tP K):=h
 refine u.mono λe w' ⟨v,G,E⟩=>?_
 grind
def kI{r:Option Nat}{P:Program}{o:Oper}{a:Act}{next:Act->hM}{Q:Exit->Act->hM}{w w':World}{v:Value}(B:∀c,o.op≠.defer c)
  (h:(execOp a.eval o).run P w=.ok (.value v) w') (u:next (a.put o.dst v) w'):o.wpIn (FO r) 0 P a w next Q:=by
 unfold Oper.wpIn;rw[Oper.semAt_eq _ _ _ B,h,Oper.uponIn_value];exact⟨um,u⟩
def Of{r:Option Nat}{P:Program}{o:Oper}{a:Act}{next:Act->hM}{Q:Exit->Act->hM}{w w':World}(B:∀c,o.op≠.defer c)
  (h:(execOp a.eval o).run P w=.ok .skip w') (u:next (a.put o.dst undef) w'):o.wpIn (FO r) 0 P a w next Q:=by
 unfold Oper.wpIn;rw[Oper.semAt_eq _ _ _ B,h,Oper.uponIn_skip];exact⟨um,u⟩
def Kh{P:Program}{m:Sem Value}{w w':World}{v:Value}(h:m.run P w=.ok v w') :
  (do pure (.value (<- m)):Sem Next).run P w=.ok (.value v) w':=by simp_all
def al8{P:Program}{m:Sem Unit}{w w':World}(h:m.run P w=.ok () w') :
  (do m;pure .skip:Sem Next).run P w=.ok .skip w':=by simp_all
theorem Dc{α β:Type}(f:α->β)(l:Array α):(l.toList.map f).toArray=l.map f:=by
 grind
def eqG(t:TypeId)(x y:Operand)(a b:Value):Sem Unit:=
 match a,b with
 | .nilIface,.nilIface=>if (Vg x||Vg y)=true then pure ()else do
   if <- Op.eqGuardIn Op.maxDepth t a b then unsupported (.noEntry "binop/eql: two nil values of an interface type with methods, neither of them the literal nil")
 | .agg _,.agg _=>do
  if !(<- program).eqGuardType (<- program).depth t then return
  if <- Op.eqGuardIn Op.maxDepth t a b then unsupported (.noEntry "binop/eql: two nil values of an interface type with methods, in a part of a struct or an array")
 | _,_=>pure ()
def Cs{P:Program}{op:BinOp}(E:op=.eql\/op=.neq){t:TypeId}{x y:Operand}{a b:Value}{w w':World}{v:Value}
  (h:(abw op t (Vg x) (Vg y) a b).run P w=.ok v w'):(eqGuard op t x y a b).run P w=.ok () w/\(binOp op t a b).run P w=.ok v w':=by
 have u:eqGuard op t x y a b=eqG t x y a b:=by rcases E with rfl|rfl<;>cases x<;>cases y<;>rfl
 rw[u]
 clear u
 unfold eqG
 unfold abw at h
 split at h
 .split at h
  .simp_all
  simp_all
 .rename_i c1 c2
  have B : (if P.eqGuardType P.depth t then stuck "an interface in a part" else binOp op t (.agg c1) (.agg c2) : Sem Value).run P w=.ok v w' := h
  split at B
  .simp_all
  simp_all
 simp_all
def Ki{P:Program}{op:BinOp}{t:TypeId}{x y:Operand}{a b:Value}{w w':World}{v:Value}
  (h:(kj op t (Vg x) (Vg y) a b).run P w=.ok v w'):(do eqGuard op t x y a b;binOp op t a b:Sem Value).run P w=.ok v w':=by
 unfold kj at h
 split at h
 .obtain⟨h1,h2⟩:=Cs (.inl rfl) h
  simp_all
 .obtain⟨h1,h2⟩:=Cs (.inr rfl) h
  simp_all
 rename_i n1 n2
 have h1:(eqGuard op t x y a b).run P w=.ok () w:=by
  unfold eqGuard
  simp_all
 simp_all
theorem Gy.wp{r:Option Nat}{ds:List Nat}{P:Program}{n:Nat}{o:Oper}{e:Env}{a:Act}{w:World}{K:Value->hM}{Q:Exit->Act->hM}{next:Act->hM}
  (ha:jA ds n e a) (h:Gy P (zZ P o (ev e)) K w) (G:∀v w',K v w'->next (a.put o.dst v) w'):o.wpIn (FO r) 0 P a w next Q:=by
 have I:=ha.eval
 have B:∀c,o.op≠.defer c:=λc hc=>by unfold zZ at h;rw[hc]at h;exact h
 have V:∀{m:Sem Value},eR P m (λv=>K v w)->execOp (ev e) o=(do pure (.value (<- m)):Sem Next)->o.wpIn (FO r) 0 P a w next Q:=λM J=>by
  obtain⟨v,h1,h2⟩:=M.ex
  exact kI (w':=w) B (by rw[I,J];exact Kh (fY h1 w)) (G _ _ h2)
 have Y:∀{m:Sem Value},J8 P m w (λv=>K v w)->execOp (ev e) o=(do pure (.value (<- m)):Sem Next)->o.wpIn (FO r) 0 P a w next Q:=λM J=>by
  obtain⟨v,h1,h2⟩:=M.ex
  exact kI (w':=w) B (by rw[I,J];exact Kh h1) (G _ _ h2)
 have E:∀{m:Sem Value},rJ P m w K->execOp (ev e) o=(do pure (.value (<- m)):Sem Next)->o.wpIn (FO r) 0 P a w next Q:=λM J=>by
  obtain⟨v,w',h1,h2⟩:=M.ex
  exact kI B (by rw[I,J];exact Kh h1) (G _ _ h2)
 have U:∀{m:Sem Unit},Vf P m w (λw'=>K undef w')->execOp (ev e) o=(do m;pure .skip:Sem Next)->o.wpIn (FO r) 0 P a w next Q:=λM J=>by
  obtain⟨w',h1,h2⟩:=M.ex
  exact Of B (by rw[I,J];exact al8 h1) (G _ _ h2)
 unfold zZ at h
 cases ki:o.op with
 | move x=>rw[ki]at h;exact kI (w':=w) B (by rw[I];simp only[execOp,ki];rfl) (G _ _ h)
 | assign x=>rw[ki]at h;exact kI (w':=w) B (by rw[I];simp only[execOp,ki];rfl) (G _ _ h)
 | pick c x y=>
  rw[ki]at h
  obtain⟨v,h1,h2⟩:=h.ex
  refine kI (w':=w) B ?_ (G _ _ h2)
  rw[I];simp only[execOp,ki]
  have:=fY h1 w
  unfold VC at this
  revert this
  cases ev e c<;>simp only[asBool]<;>intro this<;>first|(simp only[stuck]at this;exact absurd this (by simp[Sem.run]))|skip
  case bool t=>
   have e2:v=(if t=true then ev e x else ev e y):=by
    have:(Result.ok (if t=true then ev e x else ev e y) w:Result Value)=.ok v w:=this
    simpa using this.symm
   rw[e2];rfl
 | alloc t=>rw[ki]at h;exact E h (by simp only[execOp,ki])
 | box t x=>rw[ki]at h;exact E h (by simp only[execOp,ki])
 | build t ps=>rw[ki]at h;exact V h (by simp only[execOp,ki,Dc])
 | buildSlice t n ps=>rw[ki]at h;exact E h (by simp only[execOp,ki,Dc])
 | insert t m k x=>rw[ki]at h;exact U h (by simp only[execOp,ki])
 | load t x=>rw[ki]at h;exact Y h (by simp only[execOp,ki])
 | store t x y=>rw[ki]at h;exact U h (by simp only[execOp,ki])
 | nilCheck x=>
  rw[ki]at h
  obtain⟨v,h1,h2⟩:=h.ex
  refine kI (w':=w) B ?_ (G _ _ h2)
  rw[I];simp only[execOp,ki]
  revert h1
  cases J:ev e x with
  | pointer p=>cases p<;>simp[To,stuck,pr,fQ]<;>(try(rintro rfl;rfl))
  | func fn f c=>cases fn<;>simp[To,stuck,pr,fQ]<;>(try(rintro rfl;rfl))
  | _=>simp[To,stuck,pr,fQ]<;>(try(rintro rfl;rfl))
 | binOp op t x y u=>
  rw[ki]at h
  dsimp only at h
  split at h
  .obtain⟨v,h1,h2⟩:=h.ex
   exact kI (w':=w) B (by rw[I];simp only[execOp,ki];exact Kh (Ki h1)) (G _ _ h2)
  .obtain⟨v,h1,h2⟩:=h.ex
   exact kI (w':=w) B (by rw[I];simp only[execOp,ki];exact Kh (Ki (fY h1 w))) (G _ _ h2)
 | unOp op t x=>rw[ki]at h;exact V h (by simp only[execOp,ki])
 | convert s d x=>
  rw[ki]at h
  dsimp only at h
  split at h
  .exact V h (by simp only[execOp,ki])
  .exact Y h (by simp only[execOp,ki])
  .exact E h (by simp only[execOp,ki])
 | makeInterface t x=>rw[ki]at h;exact Y h (by simp only[execOp,ki])
 | makeFunc fn f c=>rw[ki]at h;exact kI (w':=w) B (by rw[I];simp only[execOp,ki,<- Dc];rfl) (G _ _ h)
 | makeMap t r=>rw[ki]at h;exact E h (by simp only[execOp,ki])
 | makeSlice t l c=>rw[ki]at h;exact E h (by simp only[execOp,ki])
 | slice t x lo hi mx=>rw[ki]at h;exact V h (by simp only[execOp,ki])
 | fieldAddr s x f=>rw[ki]at h;exact V h (by simp only[execOp,ki])
 | field t x f=>rw[ki]at h;exact V h (by simp only[execOp,ki])
 | indexAddr t x i=>rw[ki]at h;exact V h (by simp only[execOp,ki])
 | index t x i=>rw[ki]at h;exact V h (by simp only[execOp,ki])
 | lookup t x i ok=>rw[ki]at h;exact Y h (by simp only[execOp,ki])
 | mapUpdate t m k x=>rw[ki]at h;exact U h (by simp only[execOp,ki])
 | mapEntry t m k=>rw[ki]at h;exact E h (by simp only[execOp,ki])
 | entryStore t m s x=>rw[ki]at h;exact U h (by simp only[execOp,ki])
 | range t x=>rw[ki]at h;exact E h (by simp only[execOp,ki])
 | next it s=>rw[ki]at h;exact E h (by simp only[execOp,ki])
 | entry it=>rw[ki]at h;exact Y h (by simp only[execOp,ki])
 | typeAssert x t u ok=>rw[ki]at h;exact Y h (by simp only[execOp,ki])
 | extract t i=>rw[ki]at h;exact V h (by simp only[execOp,ki])
 | call c=>
  rw[ki]at h
  dsimp only at h
  have O:(c.args.toList.map (ev e)).toArray=c.args.map (ev e):=Dc _ _
  cases hc:c.callee with
  | value x=>
   rw[hc]at h
   have W:∀{g:FuncId}{first cap:Array Value},ev e x=.func (.func g) first cap->Plain P g->Calls P g (first++(c.args.toList.map (ev e)).toArray++cap) w (tP K)->o.wpIn (FO r) 0 P a w next Q:=by
    intro g first cap J M j5
    unfold Oper.wpIn
    rw[Oper.semAt_eq _ _ _ B]
    have Z:(execOp a.eval o).run P w=.ok (.enter g (first++(c.args.toList.map (ev e)).toArray++cap)) w:=by
     rw[I]
     simp only[execOp,ki]
     have h1:(resolve (ev e) c o.type).run P w=.ok {target:=.fn (.func g) cap,args:=first++c.args.map (ev e)} w:=by
      simp only[resolve,hc,J];rfl
     rw[eK h1]
     show(callFunc g (first++c.args.map (ev e)++cap)).run P w=_
     rw[zY M,O]
    rw[Z]
    exact⟨um,Kg j5 λv w' hv=>G v w' hv⟩
   have hyl:∀{l:Nat},ev e x=.func (.yield l) #[] #[]->YieldAt (FO none) 0 P l (c.args.toList.map (ev e)).toArray w (tP K)->o.wpIn (FO r) 0 P a w next Q:=by
    rintro l J ⟨fn,tmps,assign,body,hy,Z⟩
    unfold Oper.wpIn
    rw[Oper.semAt_eq _ _ _ B]
    have hr':(execOp a.eval o).run P w=.ok (.round l fn tmps assign body) w:=by
     rw[I]
     simp only[execOp,ki]
     have h1:(resolve (ev e) c o.type).run P w=.ok {target:=.fn (.yield l) #[],args:=#[]++c.args.map (ev e)} w:=by
      simp only[resolve,hc,J];rfl
     rw[eK h1]
     show(Instr.yield l (#[]++c.args.map (ev e))).run P w=_
     rw[T9,<- O];exact hy
    rw[hr']
    exact⟨um,F8 Z λv w' hv=>G v w' hv⟩
   have wx:kH P (ev e x) (c.args.toList.map (ev e)) w K->o.wpIn (FO r) 0 P a w next Q:=λh=>by
    rcases h.ex with⟨g,first,cap,h1,h2,h3⟩|⟨l,h1,h2⟩
    .exact W h1 h2 h3
    .exact hyl h1 h2
   cases x with
   | func f=>
    rcases h.ex with⟨h1,h2⟩|⟨v,w',h1,h2⟩
    .exact W (g:=f) (first:=#[]) (cap:=#[]) rfl h1 (by simpa using h2)
    .refine kI B ?_ (G _ _ h2)
     rw[I]
     simp only[execOp,ki]
     have h3:(resolve (ev e) c o.type).run P w=.ok {target:=.fn (.func f) #[],args:=#[]++c.args.map (ev e)} w:=by
      simp only[resolve,hc,ev];rfl
     rw[eK h3]
     show(callFunc f (#[]++c.args.map (ev e)++#[])).run P w=_
     rw[<- O,T9,Array.append_empty]
     exact h1
   | tmp t=>exact wx h
   | const v=>exact wx h
   | global g=>exact wx h
  | invoke r nm=>rw[hc]at h;exact h.elim
  | builtin b=>
   rw[hc]at h
   dsimp only at h
   have hb:∀{m:Sem Value},builtin b c.argTypes o.type (c.args.map fun|.const _=>true|_=>false) (c.args.map (ev e))=(do pure (.value (<- m)):Sem Next)->
     execOp (ev e) o=(do pure (.value (<- m)):Sem Next):=by
    intro m hm
    simp only[execOp,ki]
    have h1:resolve (ev e) c o.type=pure {target:=.builtin b c.argTypes o.type (c.args.map fun|.const _=>true|_=>false),args:=c.args.map (ev e)}:=by
     simp only[resolve,hc];rfl
    rw[h1]
    exact hm
   rw[O]at h
   cases b<;>first|exact h.elim|skip
   case len=>
    dsimp only at h
    split at h
    .exact Y h (hb rfl)
    .exact V h (hb rfl)
   case cap=>exact V h (hb rfl)
   case min=>exact V h (hb rfl)
   case max=>exact V h (hb rfl)
   case append=>exact E h (hb rfl)
   case copy=>exact E h (hb rfl)
   case clear=>exact E h (hb rfl)
   case delete=>exact E h (hb rfl)
 | _=>rw[ki]at h;exact h.elim
def pre(o:Oper):List Nat:=(o.after.toList.filter λe=>Region.binds .any e).map (·.on)
def BB(u:List Oper)(j:Nat):Option Nat:=(u[j]?).bind (·.dst)
def looks(u:List Oper)(o:Oper):List Nat:=
 (o.op.operands.toList.filterMap fun|.tmp t=>some t|_=>none)++(match o.guard with|some (j,_)=>(BB u j).toList|none=>[])
def oN(u:List Oper)(o:Oper)(e:Env):Bool:=
 match o.guard with
 | none=>true
 | some (j,b)=>match BB u j with
  | none=>false
  | some s=>match e s with
   | .bool B=>B == b
   | _=>false
theorem Gz{ds:List Nat}{n:Nat}{e:Env}{a:Act}(h:jA ds n e a)(u:List Oper)(o:Oper):Region.wanted o (yielded u.toArray a.tmps)=oN u o e:=by
 unfold Region.wanted oN
 cases o.guard with
 | none=>rfl
 | some g=>
  obtain⟨j,b⟩:=g
  simp only[yielded,BB,OT]
  cases (u[j]?).bind (·.dst)with
  | none=>simp
  | some s=>
   have B:=h.get s
   simp only[mO]
   rw[<- B,Cn]
   cases a.tmps[s]? with
   | none=>simp[undef]
   | some v=>grind
theorem Tq{P:Program}{o:Oper}{ρ ρ':Operand->Value}(h:∀x∈o.op.operands,ρ x=ρ' x):zZ P o ρ=zZ P o ρ':=by
 unfold zZ
 cases ki:o.op<;>rw[ki]at h<;>simp only[Op.operands]at h<;>dsimp only
 case call c=>
  have G:∀x∈c.args,ρ x=ρ' x:=λx B=>h x (by simp[Call.operands,B])
  have E:c.args.toList.map ρ=c.args.toList.map ρ':=A4 λx B=>G x dD
  rw[E]
  cases hc:c.callee with
  | value x=>
   have B:ρ x=ρ' x:=h x (by simp[Call.operands,hc])
   grind
  | _=>rfl
 case build t ps=>
  have E:(ps.toList.map λq=>(q.1,ρ q.2))=ps.toList.map λq=>(q.1,ρ' q.2):=
   A4 λq I=>dD
  grind
 case buildSlice t n ps=>
  have E:(ps.toList.map λq=>(q.1,ρ q.2))=ps.toList.map λq=>(q.1,ρ' q.2):=
   A4 λq I=>dD
  grind
 case makeFunc fn f c=>
  simp_all
 case makeMap t r=>
  have:r.map ρ=r.map ρ':=by cases r with|none=>rfl|some x=>grind
  grind
 case slice t x lo hi mx=>
  have J:ρ x=ρ' x:=h x ei
  have h1:lo.map ρ=lo.map ρ':=by cases lo with|none=>rfl|some y=>grind
  have h2:hi.map ρ=hi.map ρ':=by cases hi with|none=>rfl|some y=>grind
  have h3:mx.map ρ=mx.map ρ':=by cases mx with|none=>rfl|some y=>grind
  grind
 case load t x=>grind
 case store t x y=>grind
 case pick c x y=>grind
 case binOp op t x y u=>grind
 case insert t m k x=>grind
 case mapUpdate t m k x=>grind
 case entryStore t m k x=>grind
 case mapEntry t m k=>grind
 case lookup t m k ok=>grind
 case indexAddr t m k=>grind
 case index t m k=>grind
 case makeSlice t m k=>grind
 all_goals grind
def ahi{e:Env}{d:Nat}{v:Value}{x:Operand}(h:x≠.tmp d):ev (zU e d v) x=ev e x:=by
 cases x<;>simp only[ev]
 case tmp t=>exact oM _ _ λu=>h (by rw[u])
theorem Dd{P:Program}{B:List Oper}{o:Oper}{e:Env}{d:Option Nat}{v:Value}(h:∀k,d=some k->k ∉ looks B o) :
  zZ P o (ev (jX e d v))=zZ P o (ev e):=by
 cases d with
 | none=>rfl
 | some d=>
  refine Tq λx E=>ahi λu=>h d rfl ?_
  subst u
  exact List.mem_append_left _ (Pw.2 ⟨.tmp d,dD,rfl⟩)
theorem xN{u:List Oper}{o:Oper}{e:Env}{d:Option Nat}{v:Value}(h:∀k,d=some k->k ∉ looks u o) :
  oN u o (jX e d v)=oN u o e:=by
 cases d with
 | none=>rfl
 | some d=>
  have h:=h d rfl
  unfold oN
  unfold looks at h
  cases hg:o.guard with
  | none=>rfl
  | some g=>
   obtain⟨j,b⟩:=g
   rw[hg]at h
   dsimp only at h |-
   cases hs:BB u j with
   | none=>rfl
   | some s=>
    rw[hs]at h
    have:s≠d:=λB=>h (by simp[B])
    simp only[jX,oM _ _ this]
def VE(u:List Oper)(x y:Oper):Prop:=
 (∀d,x.dst=some d->d ∉ looks u y/\y.dst≠some d)/\(∀d,y.dst=some d->d ∉ looks u x)
theorem Tr{e:Env}{d u:Option Nat}{v B:Value}(h:∀k,d=some k->u≠some k):jX (jX e d v) u B=jX (jX e u B) d v:=by
 cases d with
 | none=>rfl
 | some d=>cases u with
  | none=>rfl
  | some u=>exact VB _ _ _ λE=>h d rfl (by rw[E])
def De(P:Program)(u:List Oper)(o:Oper)(K:Env->hM)(e:Env)(w:World):Prop:=
 if oN u o e=true then Gy P (zZ P o (ev e)) (λv w'=>K (jX e o.dst v) w') w else K (jX e o.dst undef) w
def De.mono{P:Program}{u:List Oper}{o:Oper}{K B:Env->hM}{e:Env}{w:World}(h:De P u o K e w)
  (E:∀v w',K (jX e o.dst v) w'->B (jX e o.dst v) w'):De P u o B e w:=by
 unfold De at *
 split
 .rename_i hw;rw[ew hw]at h;exact h.mono λv w'=>E v w'
 grind
def Og(u:List Oper)(L:Nat->Bool)(i:Nat):Prop:=L i=false/\∃o,u[i]?=some o/\∀p∈pre o,L p=true
def mg(L:Nat->Bool)(i:Nat):Nat->Bool:=λk=>if k=i then true else L k
def Down(u:List Oper)(L:Nat->Bool):Prop:=∀i o,L i=true->u[i]?=some o->∀p∈pre o,L p=true
def Ts(L:Nat->Bool)(i:Nat):mg L i i=true:=by simp[mg]
theorem Q2(L:Nat->Bool){i k:Nat}(h:k≠i):mg L i k=L k:=by simp[mg,h]
def Il(L:Nat->Bool)(i:Nat){k:Nat}(h:L k=true):mg L i k=true:=by unfold mg;grind
theorem Tt(L:Nat->Bool)(i j:Nat):mg (mg L i) j=mg (mg L j) i:=by
 grind[mg]
def Down.set{u:List Oper}{L:Nat->Bool}{i:Nat}(h:Down u L)(E:Og u L i):Down u (mg L i):=by
 intro k o B J p G
 by_cases e:k=i
 .subst e
  obtain⟨_,O,I,M⟩:=E
  grind[mg]
 rw[Q2 _ e]at B
 exact Il _ _ (h k o B J p G)
def Og.set{u:List Oper}{L:Nat->Bool}{i j:Nat}(h:Og u L j)(I:j≠i):Og u (mg L i) j:=
 ⟨by rw[Q2 _ I];exact h.1,let ⟨o,E,G⟩:=h.2;⟨o,E,λp B=>Il _ _ (G p B)⟩⟩
inductive Oh(ops:List Oper):Nat->Nat->Prop
 | one {j i:Nat}{o:Oper}(h:ops[j]?=some o) (hp:i∈pre o):Oh ops j i
 | more {j p i:Nat}{o:Oper}(h:ops[j]?=some o) (hp:p∈pre o) (hd:Oh ops p i):Oh ops j i
theorem Oh.listed{u:List Oper}{L:Nat->Bool}(I:Down u L){j i:Nat}(h:Oh u j i):(∀o,u[j]?=some o->∀p∈pre o,L p=true)->L i=true:=by
 induction h with
 | one h B=>grind
 | more h B O M=>intro J;exact M λo E q G=>I _ o (J _ h _ B) E q G
def Oh.Ga{u:List Oper}{L:Nat->Bool}(G:Down u L){j i:Nat}(h:Oh u j i)(B:Og u L j):L i=true:=
 h.listed G λo J p I=>by obtain⟨_,O,E,M⟩:=B;grind
def WS(P:Program)(u:List Oper)(Q:Env->hM)(S:Nat->hM):Nat->(Nat->Bool)->Env->hM
 | 0,L,e,w=>(∀i,¬ Og u L i)/\Q e w
 | f+1,L,e,w=>((∀i,¬ Og u L i)->Q e w)/\
   ∀i o,u[i]?=some o->Og u L i->De P u o (λB w'=>(w'=w\/S i w')/\WS P u Q S f (mg L i) B w') e w
theorem WS.weaken{P:Program}{u:List Oper}{Q:Env->hM}{S E:Nat->hM}(h:∀i w,S i w->E i w) :
  ∀(f:Nat) (_L:Nat->Bool) (_e:Env) (_w:World),WS P u Q S f _L _e _w->WS P u Q E f _L _e _w
 | 0,_,_,_,B=>B
 | f+1,L,e,w,B=>⟨B.1,λi o G I=>(B.2 i o G I).mono λ_ _ ⟨h1,h2⟩=>⟨h1.imp id (h _ _),WS.weaken h f _ _ _ h2⟩⟩
theorem WS.first{P:Program}{B:List Oper}{Q:Env->hM}{S:Nat->hM}{i:Nat}{G:Oper}{X:DV}{b:Bool}{v:Value}
  (hi:B[i]?=some G) (hn:b=false->v=undef) :
  ∀(f:Nat) (L:Nat->Bool) (e:Env) (w:World),Down B L->Og B L i->
   (∀j E,B[j]?=some E->j≠i->L j=false->i ∉ pre E->VE B G E)->
   zZ P G (ev e)=X->oN B G e=b->(b=true->X.has P w v)->
   WS P B Q (λj w'=>S j w'/\(Oh B j i\/(b=true->X.has P w' v))) f (mg L i) (jX e G.dst v) w->WS P B Q S (f+1) L e w:=by
 have done:∀(K:Env->hM) (e:Env) (w:World),zZ P G (ev e)=X->oN B G e=b->(b=true->X.has P w v)->K (jX e G.dst v) w->De P B G K e w:=by
  intro K e w hX hb hy J
  unfold De
  rw[hb]
  cases b with
  | true=>rw[ew rfl,hX];exact Gy.VD (hy rfl) J
  | false=>grind
 have sub:∀{f:Nat}{L:Nat->Bool}{e:Env}{w:World},WS P B Q (λj w'=>S j w'/\(Oh B j i\/(b=true->X.has P w' v))) f L e w->WS P B Q S f L e w:=
  λh=>WS.weaken (λ_ _ h=>h.1) _ _ _ _ h
 intro f
 induction f with
 | zero=>
  intro L e w hL U Q3 hX hb hy H
  refine⟨λh=>absurd U (h i),λj E Q4 O=>?_⟩
  by_cases I:j=i
  .grind
  .exact absurd (O.set I) (H.1 j)
 | succ f ih=>
  intro L e w hL U Q3 hX hb hy H
  refine⟨λh=>absurd U (h i),λj E Q4 O=>?_⟩
  by_cases I:j=i
  .grind
  .have eE:i ∉ pre E:=λhp=>by
    obtain⟨_,V,W,wy⟩:=O.2.elim λV h=>(⟨trivial,V,h.1,h.2⟩:True/\∃V,B[j]?=some V/\∀p∈pre V,L p=true)
    rw[Q4]at W;cases W
    have:=wy i hp
    rw[U.1]at this;cases this
   have M:=Q3 j E Q4 I O.1 eE
   have al9:¬ Oh B j i:=λhd=>by
    have:=hd.Ga hL O
    rw[U.1]at this;cases this
   have h1:=H.2 j E Q4 (O.set I)
   have Y:∀k,G.dst=some k->k ∉ looks B E:=λk J=>(M.1 k J).1
   have Z:∀k,E.dst=some k->k ∉ looks B G:=λk J=>M.2 k J
   have dd:∀k,G.dst=some k->E.dst≠some k:=λk J=>(M.1 k J).2
   have cont:∀(u:Value) (w':World),(w'=w\/(S j w'/\(Oh B j i\/(b=true->X.has P w' v))))->
     WS P B Q (λj w'=>S j w'/\(Oh B j i\/(b=true->X.has P w' v))) f (mg (mg L i) j) (jX (jX e G.dst v) E.dst u) w'->
     (w'=w\/S j w')/\WS P B Q S (f+1) (mg L j) (jX e E.dst u) w':=by
    intro u w' hw hWS
    refine⟨hw.imp id λh=>h.1,?_⟩
    refine ih (mg L j) (jX e E.dst u) w' (hL.set O) (U.set (Ne.symm I)) ?_ ?_ ?_ ?_ ?_
    .grind[mg,pre,VE]
    .rw[Dd Z];exact hX
    .rw[xN Z];exact hb
    .grind
    .rw[Tt,Tr λk J=>dD]
     exact hWS
   unfold De at h1 |-
   rw[xN Y]at h1
   split
   .rename_i hw
    rw[ew hw,Dd Y]at h1
    exact h1.mono λu w' hh=>cont u w' hh.1 hh.2
   grind
def wr(u:List Oper):List Nat:=u.filterMap (·.dst)
def VF{u:List Oper}{i:Nat}{o:Oper}{d:Nat}(h:u[i]?=some o)(B:o.dst=some d):d∈wr u:=
 Pw.2 ⟨o,List.mem_of_getElem? h,B⟩
theorem za{e e0:Env}{u:List Oper}{i:Nat}{o:Oper}(h:∀k,k ∉ wr u->e k=e0 k)(G:u[i]?=some o)(v:Value) :
  ∀k,k ∉ wr u->jX e o.dst v k=e0 k:=by
 intro k B
 cases hd:o.dst with
 | none=>exact h k B
 | some d=>
  have:k≠d:=λE=>B (by rw[E];exact VF G hd)
  simp only[jX,oM _ _ this]
  grind
def De.wpOp{r:Option Nat}{ds:List Nat}{P:Program}{n:Nat}{u:List Oper}{i:Nat}{o:Oper}{K:Env->hM}{E:Act->hM}{M:Exit->Act->hM}{e:Env}{a:Act}{w:World}
  (O:u[i]?=some o) (J:∀k,o.dst=some k->k<n) (B:jA ds n e a) (h:De P u o K e w)
  (I:∀v G w',jA ds n (jX e o.dst v) G->K (jX e o.dst v) w'->E G w'):wpOpIn (FO r) 0 P u.toArray M i E a w:=by
 unfold Go.wpOpIn
 simp only[OT,O]
 rw[Gz B]
 unfold De at h
 split
 .rename_i hw
  rw[ew hw]at h
  exact Gy.wp B h λv w' U=>I v _ _ (B.put J v) U
 rename_i hw
 rw[ej hw]at h
 exact⟨um,I undef _ _ (B.put J undef) h⟩
theorem WS.any{r:Option Nat}{ds:List Nat}{P:Program}{n:Nat}{u:List Oper}{Q:Env->hM}{V:Exit->Act->hM}{S:Nat->hM}{e0:Env}
  (hd:∀d∈wr u,d<n) (Y:∀e a w,jA ds n e a->(∀k,k ∉ wr u->e k=e0 k)->Q e w->V .normal a w) :
  ∀(f:Nat) (L:Nat->Bool) (listed:Array Bool) (e:Env) (a:Act) (w:World),jA ds n e a->(∀k,k ∉ wr u->e k=e0 k)->listed.size=u.length->
   (∀i,listed.getD i false=L i)->WS P u Q S f L e w->wpAnyIn (FO r) 0 P .any u.toArray V f listed a w:=by
 have B:∀(L:Nat->Bool) (listed:Array Bool) (_:listed.size=u.length) (_:∀i,listed.getD i false=L i) (i:Nat),
   i∈Region.ready .any u.toArray listed↔Og u L i:=by
  intro L listed I E i
  rw[mem_ready]
  have W:∀o,u[i]?=some o->listed.getD i true=L i:=λo G=>by
   grind
  unfold Og pre
  grind
 intro f
 induction f with
 | zero=>
  intro L listed e a w J M I E h
  refine⟨?_,Y e a w J M h.2⟩
  cases O:Region.ready .any u.toArray listed with
  | nil=>rfl
  | cons i r=>exact absurd ((B L listed I E i).1 dD) (h.1 i)
 | succ f Z=>
  intro L listed e a w J M I E h
  refine⟨λhn=>Y e a w J M (h.1 λi hi=>?_),λi hi=>?_⟩
  .have:=(B L listed I E i).2 hi
   grind
  .have O:=(B L listed I E i).1 hi
   obtain⟨o,G,_⟩:=O.2
   refine De.wpOp G (λk hk=>hd k (VF G hk)) J (h.2 i o G O) λv a' w' Im hh=>?_
   refine Z (mg L i) _ _ a' w' Im (za M G v) dD (λk=>?_) hh.2
   have nO:i<listed.size:=dD
   have U:=E k
   simp only[Cn]at U |-
   grind[mg]
def WS.region{r:Option Nat}{ds:List Nat}{P:Program}{n:Nat}{id:Nat}{u:List Oper}{Q:Env->hM}{E:Exit->Act->hM}{S:Nat->hM}{e:Env}{a:Act}{w:World}
  (G:P.follows .mixedOrders=true) (I:∀d∈wr u,d<n) (J:jA ds n e a)
  (M:∀B a w,jA ds n B a->(∀k,k ∉ wr u->B k=e k)->Q B w->E .normal a w)
  (h:WS P u Q S u.length (λ_=>false) e {w with drawn:=w.drawn+1}):(abc id u.toArray true).wpIn (FO r) 0 P E a w:=by
 refine wpIn_region_any G ?_
 rw[Kw]
 refine WS.any I M u.length (λ_=>false) _ e a _ J (λ_ _=>rfl) ei (λi=>?_) h
 simp only[Cn,Array.getElem?_replicate]
 grind
def lk(s:Nat):List (Nat×Option Bool)->Option (Option Bool)
 | []=>none
 | q::r=>bif Bd q.1 s then some q.2 else lk s r
def Io(d:Nat):List (Nat×Option Bool)->List (Nat×Option Bool)
 | []=>[]
 | q::r=>bif Bd q.1 d then Io d r else q::Io d r
def del(d:Option Nat)(u:List (Nat×Option Bool)):List (Nat×Option Bool):=match d with|none=>u|some d=>Io d u
def Df(u:List (Nat×Option Bool)):Operand->Option Bool
 | .const (.bool b)=>some b
 | .tmp t=>match lk t u with|some b=>b|none=>none
 | _=>none
def ae9(u:List (Nat×Option Bool)):Op->Option Operand
 | .move x=>some x
 | .assign x=>some x
 | .pick (.tmp c) a b=>match lk c u with|some (some t)=>some (bif t then a else b)|_=>none
 | _=>none
def VG(u:List (Nat×Option Bool))(d:Option Nat)(x:Operand):List (Nat×Option Bool):=
 match d,Df u x with
 | some d,some b=>(d,some b)::Io d u
 | d,_=>del d u
def ofK:Option Bool->Value|some b=>.bool b|none=>undef
def kB(u:List (Nat×Option Bool))(e:Env):Prop:=∀s b,lk s u=some b->e s=ofK b
theorem DW(n:Nat):Bd n n=true:=Nat.beq_refl n
theorem BC{a b:Nat}(h:a≠b):Bd a b=false:=by
 cases hh:Bd a b
 .rfl
 simp_all
theorem abB(s d:Nat)(u:List (Nat×Option Bool)):lk s (Io d u)=if s=d then none else lk s u:=by
 induction u with
 | nil=>simp[Io,lk]
 | cons q r B=>
  simp only[Io,lk]
  by_cases h1:q.1=d
  .rw[h1,DW,cond_true,B]
   by_cases h2:s=d
   .simp[h2]
   .rw[ej h2,ej h2,BC (λE=>h2 E.symm),cond_false]
  .rw[BC h1,cond_false]
   simp only[lk,B]
   by_cases h2:q.1=s
   .grind
   .rw[BC h2,cond_false,cond_false]
def kB.nil(e:Env):kB [] e:=λs b h=>by simp[lk]at h
theorem kB.del{E:List (Nat×Option Bool)}{e:Env}(h:kB E e)(d:Option Nat)(v:Value):kB (del d E) (jX e d v):=by
 cases d with
 | none=>exact h
 | some d=>
  intro s b B
  simp only[Fw.del,abB]at B
  by_cases u:s=d
  .simp[u]at B
  .rw[ej u]at B
   simp only[jX,oM _ _ u]
   exact h s b B
def kB.cons{B:List (Nat×Option Bool)}{e:Env}(h:kB B e){s:Nat}{b:Option Bool}(E:e s=ofK b):kB ((s,b)::B) e:=by
 intro s' G u
 simp only[lk]at u
 by_cases h1:s=s'
 .subst h1;rw[DW,cond_true]at u;cases u;exact E
 rw[BC h1,cond_false]at u;exact h _ _ u
theorem kB.known{E:List (Nat×Option Bool)}{e:Env}(h:kB E e){x:Operand}{b:Bool}(B:Df E x=some b):ev e x=.bool b:=by
 cases x with
 | tmp t=>
  have u:(match lk t E with|some b=>b|none=>none)=some b:=B
  split at u
  .rename_i b' hb;subst u;exact h t _ hb
  grind
 | const v=>cases v<;>simp[Df]at B;simp[ev,B]
 | _=>simp[Df]at B
def kB.aft{u:List (Nat×Option Bool)}{e:Env}(h:kB u e)(d:Option Nat)(x:Operand):kB (VG u d x) (jX e d (ev e x)):=by
 unfold VG
 split
 .rename_i d b hb
  have h1:=h.del (some d) (ev e x)
  exact kB.cons (b:=some b) h1 (by simp only[jX,nt];exact h.known hb)
 exact h.del _ _
def uo(P:Program)(u:List Oper)(r:Oper)(e:Env)(w:World)(R:Prop):Prop:=
 bif oN u r e then(match zZ P r (ev e),r.dst with|.q m,some d=>Q0 P m (e d) w R|_,_=>False)else R
def z6(P:Program)(u:List Oper):List Oper->Env->World->Prop->Prop
 | [],_,_,R=>R
 | r::ks,e,w,R=>uo P u r e w (z6 P u ks e w R)
theorem Kj{P:Program}{u:List Oper}{ks:List Oper}{e:Env}{w:World}{R:Prop}:z6 P u ks e w R->(∀r∈ks,uo P u r e w True)/\R:=by
 induction ks with
 | nil=>intro h;exact⟨ei,h⟩
 | cons r ks B=>
  intro h
  have:uo P u r e w True/\z6 P u ks e w R:=by
   simp only[z6,uo]at h |-
   cases hw:oN u r e with
   | false=>grind
   | true=>
    rw[hw]at h
    simp only[cond_true]at h |-
    cases hk:zZ P r (ev e)<;>rw[hk]at h<;>cases hd:r.dst<;>rw[hd]at h<;>first|grind|skip
    exact⟨⟨h.al6,trivial⟩,h.rest⟩
  grind
def DX(n:Nat)(o:Oper):Bool:=match o.dst with|none=>true|some d=>aac d n
def goF(P:Program)(B:List Oper)(o:Oper)(ks:List Oper)(rec:List (Nat×Option Bool)->Env->hM)(u:List (Nat×Option Bool))(e:Env)(w:World):Prop:=
 match ae9 u o.op with
 | some x=>rec (VG u o.dst x) (jX e o.dst (ev e x)) w
 | none=>Gy P (zZ P o (ev e)) (λv w'=>z6 P B ks (jX e o.dst v) w' (rec (del o.dst u) (jX e o.dst v) w')) w
def skF(o:Oper)(rec:List (Nat×Option Bool)->Env->hM)(u:List (Nat×Option Bool))(e:Env)(w:World):Prop:=
 rec (match o.dst with|some d=>(d,none)::Io d u|none=>u) (jX e o.dst undef) w
theorem kB.skip{u:List (Nat×Option Bool)}{e:Env}(h:kB u e)(d:Option Nat) :
  kB (match d with|some d=>(d,none)::Io d u|none=>u) (jX e d undef):=by
 cases d with
 | none=>exact h
 | some d=>exact kB.cons (b:=none) (h.del (some d) undef) (by simp only[jX,nt];rfl)
def DS(P:Program)(n:Nat)(u:List Oper)(q:Oper×List Oper)(rec:List (Nat×Option Bool)->Env->hM)(B:List (Nat×Option Bool))(e:Env)(w:World):Prop:=
  bif DX n q.1 then
   match q.1.guard with
   | none=>goF P u q.1 q.2 rec B e w
   | some g=>match BB u g.1 with
    | none=>False
    | some s=>match lk s B with
     | some none=>skF q.1 rec B e w
     | some (some E)=>bif E == g.2 then goF P u q.1 q.2 rec B e w else skF q.1 rec B e w
     | none=>yz (e s)
       (bif g.2 then goF P u q.1 q.2 rec ((s,some true)::B) (zU e s (.bool true)) w else skF q.1 rec ((s,some true)::B) (zU e s (.bool true)) w)
       (bif g.2 then skF q.1 rec ((s,some false)::B) (zU e s (.bool false)) w else goF P u q.1 q.2 rec ((s,some false)::B) (zU e s (.bool false)) w)
  else False
def DR(P:Program)(n:Nat)(u:List Oper):List (Oper×List Oper)->(Env->hM)->List (Nat×Option Bool)->Env->hM
 | [],Q,_,e,w=>Q e w
 | q::rest,Q,kg,e,w=>DS P n u q (DR P n u rest Q) kg e w
def xO{P:Program}{u:List Oper}{o:Oper}{ks:List Oper}{rec:List (Nat×Option Bool)->Env->hM}{G:List (Nat×Option Bool)}{e:Env}{w:World}
  (B:kB G e) (h:goF P u o ks rec G e w) :
  Gy P (zZ P o (ev e)) (λv w'=>(w'=w\/∀r∈ks,uo P u r (jX e o.dst v) w' True)/\∃E,kB E (jX e o.dst v)/\rec E (jX e o.dst v) w') w:=by
 unfold goF at h
 split at h
 .rename_i x hx
  have J:(zZ P o (ev e)).has P w (ev e x):=by
   unfold zZ
   cases ki:o.op<;>rw[ki]at hx<;>simp only[ae9]at hx<;>first|cases hx|skip
   case move y=>simp only[DV.has]
   case assign y=>simp only[DV.has]
   case pick c a b=>
    cases c<;>simp only at hx<;>first|cases hx|skip
    rename_i c
    split at hx
    .rename_i t ht
     cases hx
     have hc:e c=.bool t:=B c _ ht
     simp only[DV.has,ev,hc,VC]
     cases t<;>rfl
    .cases hx
  exact Gy.VD J ⟨.inl rfl,_,B.aft _ _,h⟩
 refine h.mono λv w' I=>?_
 have:=Kj I
 exact⟨.inr this.1,_,B.del _ _,this.2⟩
theorem Ip{P:Program}{n:Nat}{u:List Oper}{q:Oper×List Oper}{rec:List (Nat×Option Bool)->Env->hM}{G:List (Nat×Option Bool)}{e:Env}{w:World}
  (B:kB G e) (h:DS P n u q rec G e w) :
  (∀d,q.1.dst=some d->d<n)/\
  De P u q.1 (λV w'=>(w'=w\/∀r∈q.2,uo P u r V w' True)/\∃M,kB M V/\rec M V w') e w:=by
 unfold DS at h
 cases hd:DX n q.1 with
 | false=>grind
 | true=>
  rw[hd]at h
  refine⟨λd Y=>by unfold DX at hd;simp_all,?_⟩
  have U:∀{G:List (Nat×Option Bool)},kB G e->skF q.1 rec G e w->
    (w=w\/∀r∈q.2,uo P u r (jX e q.1.dst undef) w True)/\∃M,kB M (jX e q.1.dst undef)/\rec M (jX e q.1.dst undef) w:=
   λB h=>⟨.inl rfl,_,B.skip _,h⟩
  simp only[cond_true]at h
  unfold De
  cases hg:q.1.guard with
  | none=>
   rw[hg]at h
   have O:oN u q.1 e=true:=by unfold oN;rw[hg]
   rw[ew O]
   exact xO B h
  | some g=>
   obtain⟨j,b⟩:=g
   rw[hg]at h
   dsimp only at h
   cases hs:BB u j with
   | none=>rw[hs]at h;exact h.elim
   | some s=>
    rw[hs]at h
    dsimp only at h
    have O:∀t,e s=.bool t->oN u q.1 e=(t == b):=λt ht=>by unfold oN;rw[hg];dsimp only;rw[hs];dsimp only;rw[ht]
    cases hl:lk s G with
    | some Z=>
     rw[hl]at h
     cases Z with
     | none=>
      dsimp only at h
      have hu:oN u q.1 e=false:=by
       unfold oN;rw[hg];dsimp only;rw[hs];dsimp only;rw[B s none hl];rfl
      rw[ej (by rw[hu];simp)]
      exact U B h
     | some W=>
      dsimp only at h
      rw[O W (B s _ hl)]
      cases hb:W == b with
      | true=>rw[hb]at h;rw[ew rfl];exact xO B h
      | false=>rw[hb]at h;rw[ej ei];exact U B h
    | none=>
     rw[hl]at h
     obtain⟨t,ht,I,E⟩:=h.ex
     rw[O t ht]
     have J:∀c,t=c->zU e s (.bool c)=e:=λc hc=>ahh _ _ _ (by rw[ht,hc])
     cases t with
     | true=>
      have I:=I rfl
      rw[J true rfl]at I
      cases b with
      | true=>rw[ew (by rfl)];exact xO (B.cons (b:=some _) ht) I
      | false=>rw[ej ei];exact U (B.cons (b:=some _) ht) I
     | false=>
      have E:=E rfl
      rw[J false rfl]at E
      cases b with
      | true=>rw[ej ei];exact U (B.cons (b:=some _) ht) E
      | false=>rw[ew (by rfl)];exact xO (B.cons (b:=some _) ht) E
theorem DR.list{r:Option Nat}{ds:List Nat}{P:Program}{n:Nat}{u:List Oper}{Q:Env->hM}{V:Exit->Act->hM}{e0:Env}
  (hQ:∀e a w,jA ds n e a->(∀k,k ∉ wr u->e k=e0 k)->Q e w->V .normal a w) :
  ∀(l:List Oper) (I:List (Nat×Option Bool)) (e:Env) (a:Act) (w:World),(∀o∈l,o∈u)->jA ds n e a->(∀k,k ∉ wr u->e k=e0 k)->kB I e->
   DR P n u (l.map λo=>(o,[])) Q I e w->wpListIn (FO r) 0 P u.toArray V l a w:=by
 intro l
 induction l with
 | nil=>intro I e a w _ B J _ h;exact hQ e a w B J h
 | cons o l W=>
  intro I e a w Y B J hk h
  obtain⟨Z,G⟩:=Ip hk h
  obtain⟨i,hi⟩:=List.getElem?_of_mem (Y o oD)
  have E:∀x∈l,x∈u:=λx hx=>Y x (qb _ hx)
  unfold wpListIn
  rw[Gz B]
  unfold De at G
  split
  .rename_i hw
   rw[ew hw]at G
   exact Gy.wp B G λv w' ⟨_,U,M,O⟩=>W U _ _ w' E (B.put Z v) (za J hi v) M O
  .rename_i hw
   rw[ej hw]at G
   obtain⟨_,U,M,O⟩:=G
   exact⟨um,W U _ _ w E (B.put Z undef) (za J hi undef) M O⟩
def DR.region{r:Option Nat}{ds:List Nat}{P:Program}{n:Nat}{id:Nat}{u:List Oper}{Q:Env->hM}{E:Exit->Act->hM}{e:Env}{a:Act}{w:World}
  (G:jA ds n e a) (I:∀B a w,jA ds n B a->(∀k,k ∉ wr u->B k=e k)->Q B w->E .normal a w)
  (h:DR P n u (u.map λo=>(o,[])) Q [] e w):(abc id u.toArray false).wpIn (FO r) 0 P E a w:=
 wpIn_region_lit (DR.list I u [] e a w (λ_ h=>h) G (λ_ _=>rfl) (kB.nil e) h)
def Oi(P:Program)(o:Oper):Bool:=(zZ P o λ_=>undef).quiet
def Iq(P:Program)(o:Oper):Bool:=(zZ P o λ_=>undef).reads
theorem Kk{P:Program}{o:Oper}(ρ ρ':Operand->Value):(zZ P o ρ).quiet=(zZ P o ρ').quiet/\(zZ P o ρ).reads=(zZ P o ρ').reads:=by
 unfold zZ
 cases o.op<;>try exact⟨rfl,rfl⟩
 case binOp op t x y u=>dsimp only;split<;>exact⟨rfl,rfl⟩
 case convert s d x=>dsimp only;split<;>exact⟨rfl,rfl⟩
 case call c=>
  dsimp only
  cases c.callee with
  | value x=>cases x<;>exact⟨rfl,rfl⟩
  | invoke r nm=>grind
  | builtin b=>cases b<;>dsimp only<;>first|exact⟨rfl,rfl⟩|(split<;>exact⟨rfl,rfl⟩)
def iK(d:Nat):List Nat->Bool
 | []=>false
 | x::r=>Bd x d||iK d r
theorem z7{d:Nat}{l:List Nat}:iK d l=true↔d∈l:=by
 induction l with
 | nil=>simp[iK]
 | cons x r u=>
  simp only[iK,wS,u,sl]
  constructor
  .rintro(h|h)
   .simp_all
   grind
  .rintro(rfl|h)
   .simp_all
   grind
def Q5{d:Nat}{l:List Nat}:iK d l=false↔d ∉ l:=by
 rw[<- z7];simp
def eqO(d:Nat):Option Nat->Bool|none=>false|some k=>Bd k d
theorem abD{d:Nat}{o:Option Nat}:eqO d o=true↔o=some d:=by
 cases o with
 | none=>simp[eqO]
 | some k=>simp_all[eqO]
def Ir(u:List Oper)(x y:Oper):Bool:=match y.dst with|none=>true|some d=>!iK d (looks u x)&&!eqO d x.dst
def BD{u:List Oper}{x y:Oper}(h:Ir u x y=true):∀d,y.dst=some d->d ∉ looks u x/\x.dst≠some d:=by
 intro d E
 unfold Ir at h
 rw[E]at h
 simp only[n5,sk]at h
 exact⟨Q5.1 h.1,λB=>by rw[<- abD]at B;grind⟩
def Oj(u:List Oper)(x y:Oper):Bool:=Ir u y x&&Ir u x y
def Kl{u:List Oper}{x y:Oper}(h:Oj u x y=true):VE u x y:=by
 simp only[Oj,n5]at h
 exact⟨λd B=>BD h.1 d B,λd B=>(BD h.2 d B).1⟩
def BE(f:Nat->Oper->Bool):Nat->List Oper->Bool
 | _,[]=>true
 | k,o::r=>f k o&&BE f (k+1) r
theorem oh{f:Nat->Oper->Bool}{l:List Oper}:∀{k:Nat},BE f k l=true->∀i o,l[i]?=some o->f (k+i) o=true:=by
 induction l with
 | nil=>grind
 | cons x r u=>
  grind[BE]
def CP:List Nat->Nat->Nat
 | [],_=>0
 | x::_,0=>x
 | _::r,n+1=>CP r n
def GA(u:List Nat):List Nat->Nat
 | []=>0
 | p::r=>NS (NS (IZ 1 p) (CP u p)) (GA u r)
def GB(B:List Oper)(u:List Nat):Bool:=
 BE (λj o=>(pre o).all (λp=>aac p j)&&Bd (CP u j) (GA u (pre o))) 0 B
theorem Tu{u l:List Nat}{i:Nat}(h:(GA u l).testBit i=true):∃p∈l,p=i\/(CP u p).testBit i=true:=by
 induction l with
 | nil=>simp[GA]at h
 | cons p r E=>
  have B:(((1 <<< p) ||| CP u p) ||| GA u r).testBit i=true:=h
  simp only[Sg,wS]at B
  rcases B with(B|B)|B
  .refine⟨p,ei,.inl ?_⟩
   rw[P6,Pv]at B
   grind
  .grind
  grind
theorem GC{u:List Oper}{B:List Nat}(h:GB u B=true):∀(n j:Nat),j<n->j<u.length->∀i,(CP B j).testBit i=true->Oh u j i:=by
 intro n
 induction n with
 | zero=>omega
 | succ n M=>
  intro j O hlen i hi
  obtain⟨o,G⟩:∃o,u[j]?=some o:=⟨u[j],by simp[hlen]⟩
  have:=oh h j o G
  simp only[tW,n5,Eu]at this
  obtain⟨h1,h2⟩:=this
  have h2:=O1 h2
  rw[h2]at hi
  obtain⟨p,I,E⟩:=Tu hi
  rcases E with rfl|E
  .exact .one G I
  .have J:p<j:=by simp_all
   exact .more G I (M p cK cK i E)
def bit(m i:Nat):Bool:=Nat.testBit m i
def GD(u:List Oper)(y:Oper):Bool:=match y.dst with|none=>false|some d=>!iK d (looks u y)
theorem Ok{u:List Oper}{y:Oper}(h:GD u y=true):∃d,y.dst=some d/\d ∉ looks u y:=by
 unfold GD at h
 cases hd:y.dst with
 | none=>grind
 | some d=>rw[hd]at h;exact⟨d,rfl,Q5.1 dD⟩
def VH(P:Program)(u:List Oper)(B:List Nat)(m i:Nat)(ks:List Nat):Bool:=
 match u[i]? with
 | none=>false
 | some o=>
  !bit m i&&((pre o).all (λp=>bit m p) &&
  (bif Oi P o then
   BE (λj y=>Bd j i||(bit m j||(iK i (pre y)||Oj u o y))) 0 u
  else
   BE (λj y=>Bd j i||(bit m j||!(pre y).all λp=>bit m p)) 0 u &&
   (BE (λr y=>!bit m r||(!Iq P y||(bit (CP B i) r||iK r ks))) 0 u &&
   ks.all (λr=>match u[r]? with
    | none=>false
    | some y=>GD u y&&BE (λj z=>Bd j r||(bit (CP B r) j||Ir u y z)) 0 u))))
inductive PT where
 | nil
 | stop
 | op (i:Nat) (ks:List Nat) (r:PT)
 | alt (i:Nat) (ks:List Nat) (r o:PT)
def PT.of:List (Nat×List Nat)->PT
 | []=>.nil
 | q::r=>.op q.1 q.2 (PT.of r)
def PT.ids:PT->List Nat
 | .alt i _ _ o=>i::o.ids
 | _=>[]
def PT.many:PT->Bool
 | .alt _ _ _ _=>true
 | .op _ _ r=>r.many
 | _=>false
def afb(P:Program)(u:List Oper)(B:List Nat)(m i:Nat)(ks:List Nat):Bool:=
 match u[i]? with
 | none=>false
 | some o=>
  !bit m i&&((pre o).all (λp=>bit m p)&&(!Oi P o&&(
   (BE (λr y=>!bit m r||(!Iq P y||(bit (CP B i) r||iK r ks))) 0 u &&
   ks.all (λr=>match u[r]? with
    | none=>false
    | some y=>GD u y&&BE (λj z=>Bd j r||(bit (CP B r) j||Ir u y z)) 0 u)))))
def Q6(P:Program)(u:List Oper)(B:List Nat):Bool->Nat->Nat->PT->Bool
 | c,f,m,.nil=>!c&&(Bd f 0&&BE (λj _=>bit m j) 0 u)
 | c,_,_,.stop=>c
 | c,f,m,.op i ks r=>!c&&(match f with|0=>false|E+1=>VH P u B m i ks&&Q6 P u B false E (NS m (IZ 1 i)) r)
 | c,f,m,.alt i ks r o=>(c||BE (λj y=>bit m j||(!(pre y).all (λp=>bit m p)||iK j (i::o.ids))) 0 u) &&
  ((match f with|0=>false|E+1=>afb P u B m i ks&&Q6 P u B false E (NS m (IZ 1 i)) r)&&Q6 P u B true f m o)
def GF(B:List Oper):List Nat:=B.foldl (λu o=>u++[GA u (pre o)]) []
def PT.run(k:Nat):Nat->PT
 | 0=>.nil
 | n+1=>.op k [] (PT.run (k+1) n)
def we(u:List Oper)(i:Nat):Oper:=(u[i]?).getD default
def DT(P:Program)(n:Nat)(u:List Oper):PT->(Env->hM)->List (Nat×Option Bool)->Env->hM
 | .nil,Q,_,e,w=>Q e w
 | .stop,_,_,_,_=>True
 | .op i ks r,Q,B,e,w=>DS P n u (we u i,ks.map (we u)) (DT P n u r Q) B e w
 | .alt i ks r o,Q,B,e,w=>DS P n u (we u i,ks.map (we u)) (DT P n u r Q) B e w/\DT P n u o Q B e w
def DQ(P:Program)(u:List Oper):PT->(Env->hM)->Env->hM
 | .nil,Q,e,w=>Q e w
 | .stop,_,_,_=>True
 | .op i ks r,Q,e,w=>De P u (we u i) (λB w'=>(w'=w\/∀r∈ks.map (we u),uo P u r B w' True)/\DQ P u r Q B w') e w
 | .alt i ks r o,Q,e,w=>De P u (we u i) (λB w'=>(w'=w\/∀r∈ks.map (we u),uo P u r B w' True)/\DQ P u r Q B w') e w/\DQ P u o Q e w
theorem DT.plain{P:Program}{n:Nat}{B:List Oper}{Q:Env->hM}:∀(p:PT) (u:List (Nat×Option Bool)) (e:Env) (w:World),kB u e->DT P n B p Q u e w->DQ P B p Q e w:=by
 intro p
 induction p with
 | nil=>intro u e w _ h;exact h
 | stop=>intro u e w _ _;trivial
 | op i ks p G=>intro u e w E h;exact(Ip E h).2.mono λv w' ⟨h1,J,h2,h3⟩=>⟨h1,G J _ _ h2 h3⟩
 | alt i ks p o G I=>intro u e w E h;exact⟨(Ip E h.1).2.mono λv w' ⟨h1,J,h2,h3⟩=>⟨h1,G J _ _ h2 h3⟩,I u e w E h.2⟩
structure Tk where
 idx:Nat
 o:Oper
 b:Bool
 X:DV
 v:Value
structure DY(P:Program)(ops:List Oper)(L:Nat->Bool)(T:List Tk)(e:Env):Prop where
 op:∀x∈T,ops[x.idx]?=some x.o
 listed:∀x∈T,L x.idx=true
 kind:∀x∈T,x.X.reads=Iq P x.o
 still:∀x∈T,x.X.reads=false->x.b=true->∀w,x.X.has P w x.v
 reads:∀x∈T,x.X.reads=true->(∀j z,ops[j]?=some z->j≠x.idx->Oh ops x.idx j\/Ir ops x.o z=true)->GD ops x.o=true->
  zZ P x.o (ev e)=x.X/\oN ops x.o e=x.b/\∃d,x.o.dst=some d/\(x.b=true->e d=x.v)
def ST(P:Program)(u:List Oper)(T:List Tk):Nat->hM:=λj w=>∀x∈T,Oh u j x.idx\/(x.b=true->x.X.has P w x.v)
def Q7{m i:Nat}:(λk=>bit (NS m (IZ 1 i)) k)=mg (λk=>bit m k) i:=by
 funext k
 show(m ||| 1 <<< i).testBit k=_
 rw[Sg,P6,Pv]
 grind[mg,bit]
theorem DY.next{P:Program}{u:List Oper}{L:Nat->Bool}{T:List Tk}{e:Env}(h:DY P u L T e)(Y:Down u L){i:Nat}{o:Oper}(ho:u[i]?=some o)(hi:L i=false)(v:Value) :
  DY P u (mg L i) T (jX e o.dst v):=by
 refine⟨h.op,λx E=>Il _ _ (h.listed x E),h.kind,h.still,λx E Z U J=>?_⟩
 obtain⟨h1,h2,d,W,h3⟩:=h.reads x E Z U J
 have F9:i≠x.idx:=λV=>by have:=h.listed x E;grind
 have G:Ir u x.o o=true:=by
  rcases U i o ho F9 with al9|G
  .have:L i=true:=al9.listed Y λo' M p hp=>Y x.idx o' (h.listed x E) M p hp
   grind
  omega
 have B:=BD G
 refine⟨by rw[Dd λk I=>(B k I).1];exact h1,by rw[xN λk I=>(B k I).1];exact h2,d,W,λhb=>?_⟩
 have:=h3 hb
 cases Km:o.dst with
 | none=>exact this
 | some k=>
  have O:d≠k:=λV=>(B k Km).2 (by rw[W,V])
  simp only[jX,oM _ _ O]
  exact this
theorem Kn{P:Program}{u:List Oper}{I:List Nat}(hc:GB u I=true){f m i:Nat}{ks:List Nat}{o:Oper}{T:List Tk}{e:Env}{w:World}{Q:Env->hM}{rec:Env->hM}
  (Z:u[i]?=some o) (U:bit m i=false) (hL:Down u (bit m)) (E:DY P u (bit m) T e)
  (zb:∀(r:Nat) (y:Oper),u[r]?=some y->(!bit m r||(!Iq P y||(bit (CP I i) r||iK r ks)))=true)
  (Ko:∀r∈ks,(match u[r]? with|none=>false|some y=>GD u y&&BE (λj z=>Bd j r||(bit (CP I r) j||Ir u y z)) 0 u)=true)
  (iT:De P u o (λM w'=>(w'=w\/∀r∈ks.map (we u),uo P u r M w' True)/\rec M w') e w)
  (Y:∀v w',DY P u (mg (bit m) i) T (jX e o.dst v)->rec (jX e o.dst v) w'->WS P u Q (ST P u T) f (mg (bit m) i) (jX e o.dst v) w') :
  De P u o (λM w'=>(w'=w\/ST P u T i w')/\WS P u Q (ST P u T) f (mg (bit m) i) M w') e w:=by
 refine iT.mono λv w' hh=>?_
 obtain⟨G,z8⟩:=hh
 have O:=E.next hL Z U v
 refine⟨?_,?_⟩
 .rcases G with hw|G
  .grind
  refine .inr λx B=>?_
  cases Vh:x.X.reads with
  | false=>exact .inr λhb=>E.still x B Vh hb w'
  | true=>
   have h1:=zb x.idx x.o (E.op x B)
   simp only[wS,sk]at h1
   rcases h1 with h1|h1|h1|h1
   .have:=E.listed x B;grind
   .have:=E.kind x B;grind
   .have DZ:i<u.length:=(kE.1 Z).1
    exact .inl (GC hc (i+1) i cK DZ _ h1)
   .have Kp:=z7.1 h1
    have h2:=Ko x.idx Kp
    rw[E.op x B]at h2
    simp only[n5]at h2
    obtain⟨V,h2⟩:=h2
    have h2:=oh h2
    have W:x.idx<u.length:=(kE.1 (E.op x B)).1
    obtain⟨e1,e2,d,hd,e3⟩:=O.reads x B Vh (λk z hz F9=>by
     have:=h2 k z hz
     simp only[tW,wS]at this
     rcases this with h3|h3|h3
     .simp_all
     .exact .inl (GC hc (x.idx+1) x.idx cK W _ h3)
     grind) V
    refine .inr λhb=>?_
    have J:=G x.o (List.mem_map.2 ⟨x.idx,Kp,by simp[we,E.op x B]⟩)
    unfold uo at J
    rw[e2,hb,e1,hd]at J
    simp only[cond_true]at J
    cases hX:x.X<;>rw[hX]at J Vh<;>first|grind|cases Vh|skip
    have:=J.al6
    rw[e3 hb]at this
    exact this
 grind
theorem abF{P:Program}{u:List Oper}{cls:List Nat}{Q:Env->hM}(hc:GB u cls=true) :
  ∀(p:PT) (f m:Nat) (T:List Tk) (e:Env) (w:World),
   Down u (bit m)->DY P u (bit m) T e->DQ P u p Q e w->
   (Q6 P u cls false f m p=true->WS P u Q (ST P u T) f (bit m) e w)/\
   (Q6 P u cls true f m p=true->∀j∈p.ids,∃f',f=f'+1/\Og u (bit m) j/\∀U,u[j]?=some U->De P u U (λZ w'=>(w'=w\/ST P u T j w')/\WS P u Q (ST P u T) f' (mg (bit m) j) Z w') e w):=by
 intro p
 induction p with
 | nil=>
  intro f m T e w W hT h
  refine⟨λB=>?_,λ_ j I=>by cases I⟩
  simp only[Q6,NY,yk,n5]at B
  have wy:=oh B.2
  rw[O1 B.1]
  refine⟨λi hr=>?_,h⟩
  obtain⟨h0,o,J,_⟩:=hr
  grind
 | stop=>
  intro f m T e w W hT h
  exact⟨λB=>by simp[Q6]at B,λ_ j I=>by cases I⟩
 | op i ks p ih=>
  intro f m T e w W hT h
  refine⟨λB=>?_,λ_ j I=>by cases I⟩
  simp only[Q6,NY,yk]at B
  cases f with
  | zero=>cases B
  | succ f=>
   simp only[n5]at B
   obtain⟨G,B⟩:=B
   unfold VH at G
   cases J:u[i]? with
   | none=>rw[J]at G;cases G
   | some o=>
   rw[J]at G
   simp only[n5,sk,Eu]at G
   obtain⟨O,ahn,G⟩:=G
   have hr:Og u (bit m) i:=⟨O,o,J,ahn⟩
   have Y:we u i=o:=by simp[we,J]
   have V:De P u (we u i) (λZ w'=>(w'=w\/∀r∈ks.map (we u),uo P u r Z w' True)/\DQ P u p Q Z w') e w:=h
   rw[Y]at V
   have Gb:(bit (NS m (IZ 1 i)))=mg (bit m) i:=Q7
   have hL':Down u (mg (bit m) i):=W.set hr
   cases hq:Oi P o with
   | true=>
    rw[hq]at G
    simp only[cond_true]at G
    have Q3:=oh G
    have hqq:∀ρ,(zZ P o ρ).quiet=true:=λρ=>by rw[(Kk ρ λ_=>undef).1];exact hq
    obtain⟨b,v,hb,hn,hy,z8⟩:∃b v,oN u o e=b/\(b=false->v=undef)/\(b=true->(zZ P o (ev e)).has P w v)/\
      DQ P u p Q (jX e o.dst v) w:=by
     unfold De at V
     cases hb:oN u o e with
     | true=>
      rw[ew hb]at V
      obtain⟨v,hv,_,z8⟩:=V.has (hqq _)
      exact⟨true,v,rfl,ei,λ_=>hv,z8⟩
     | false=>
      rw[ej (by rw[hb];simp)]at V
      obtain⟨_,z8⟩:=V
      exact⟨false,undef,rfl,λ_=>rfl,ei,z8⟩
    refine WS.first (X:=zZ P o (ev e)) J hn f (bit m) e w W hr ?_ rfl hb hy ?_
    .intro j U Q4 hji atQ Y
     have:=Q3 j U Q4
     simp only[tW,wS]at this
     rcases this with h1|h1|h1|h1
     .exact absurd (O1 h1) hji
     .rw[atQ]at h1;cases h1
     .exact absurd (z7.1 h1) Y
     .exact Kl h1
    .have hT':DY P u (mg (bit m) i) (⟨i,o,b,zZ P o (ev e),v⟩::T) (jX e o.dst v):=by
      have M:=hT.next W J O v
      constructor
      .intro x E;rcases sl.1 E with rfl|E
       .exact J
       .exact M.op x E
      .intro x E;rcases sl.1 E with rfl|E
       .exact Ts _ _
       .exact M.listed x E
      .intro x E;rcases sl.1 E with rfl|E
       .exact(Kk _ _).2
       .exact M.kind x E
      .intro x E;rcases sl.1 E with rfl|E
       .intro h1 h2 w';exact DV.Tp h1 (hy h2)
       .exact M.still x E
      .intro x E;rcases sl.1 E with rfl|E
       .intro h1 h2 h3
        obtain⟨d,hd,Kb⟩:=Ok h3
        dsimp only at hd Kb |-
        have hh:∀k,o.dst=some k->k ∉ looks u o:=λk hk=>by rw[hd]at hk;cases hk;exact Kb
        refine⟨Dd hh,by rw[xN hh];exact hb,d,hd,λ_=>?_⟩
        rw[hd];exact nt _ _ _
       .exact M.reads x E
     have:=(ih f _ _ _ w (by rw[Gb];exact hL') (by rw[Gb];exact hT') z8).1 B
     rw[Gb]at this
     refine WS.weaken (λj w' I=>?_) _ _ _ _ this
     exact⟨λx E=>I x (qb _ E),I _ oD⟩
   | false=>
    rw[hq]at G
    simp only[cond_false,n5,Eu]at G
    obtain⟨VI,zb,Ko⟩:=G
    have VI:=oh VI
    have zb:=oh zb
    refine⟨λY=>absurd hr (Y i),λj U Q4 I=>?_⟩
    have hji:j=i:=by
     have:=VI j U Q4
     simp only[tW,wS,sk]at this
     rcases this with h1|h1|h1
     .simp_all
     .have:=I.1;grind
     .obtain⟨_,o',ho',wy⟩:=I
      grind
    subst hji
    rw[J]at Q4;cases Q4
    refine Kn hc J O W hT (λr y hy=>dD) Ko V λv w' M z8=>?_
    grind
 | alt i ks p o' ih ih2=>
  intro f m T e w W hT h
  obtain⟨h1,h2⟩:De P u (we u i) (λZ w'=>(w'=w\/∀r∈ks.map (we u),uo P u r Z w' True)/\DQ P u p Q Z w') e w/\DQ P u o' Q e w:=h
  have chain:∀c,Q6 P u cls c f m (.alt i ks p o')=true->∀j∈i::o'.ids,∃f',f=f'+1/\Og u (bit m) j/\∀U,u[j]?=some U->De P u U (λZ w'=>(w'=w\/ST P u T j w')/\WS P u Q (ST P u T) f' (mg (bit m) j) Z w') e w:=by
   intro c B
   simp only[Q6,n5]at B
   obtain⟨_,B,hp2⟩:=B
   cases f with
   | zero=>cases B
   | succ f=>
    simp only[n5]at B
    obtain⟨G,B⟩:=B
    intro j I
    rcases sl.1 I with rfl|I
    .unfold afb at G
     cases J:u[j]? with
     | none=>rw[J]at G;cases G
     | some o=>
      rw[J]at G
      simp only[n5,sk,Eu]at G
      obtain⟨O,ahn,_,zb,Ko⟩:=G
      have hr:Og u (bit m) j:=⟨O,o,J,ahn⟩
      refine⟨f,rfl,hr,λU Q4=>?_⟩
      cases Q4
      have zb:=oh zb
      have Y:we u j=o:=by simp[we,J]
      rw[Y]at h1
      have V:=h1
      have Gb:(bit (NS m (IZ 1 j)))=mg (bit m) j:=Q7
      have hL':Down u (mg (bit m) j):=W.set hr
      refine Kn hc J O W hT (λr y hy=>dD) Ko V λv w' M z8=>?_
      grind
    .exact(ih2 (f+1) m T e w W hT h2).2 hp2 j I
  refine⟨λB=>?_,λB=>chain true B⟩
  have hch:=chain false B
  simp only[Q6,Bool.false_or,n5]at B
  have atS:=oh B.1
  obtain⟨f',rfl,hri,_⟩:=hch i oD
  refine⟨λY=>absurd hri (Y i),λj U Q4 I=>?_⟩
  have Kp:j∈i::o'.ids:=by
   have:=atS j U Q4
   simp only[tW,wS,sk]at this
   rcases this with h3|h3|h3
   .have:=I.1;grind
   .obtain⟨_,o2,ho2,wy⟩:=I
    grind
   .exact z7.1 h3
  obtain⟨f2,hf,_,V⟩:=hch j Kp
  simp_all
structure yA(F:(hM)->Prop)(G:hM):Prop where
 ex:∃I:hM,F I/\∀w,I w->G w
structure Q9(B:(hM)->hM)(F:(hM)->Prop):Prop where
 ex:∃I:Nat->hM,(∃m,F (I m))/\∀m w,I m w->B (λw'=>∃m',m'<m/\I m' w') w
structure fe(F:(Value->hM)->Prop)(G:Value->hM):Prop where
 ex:∃I:Value->hM,F I/\∀x0 w,I x0 w->G x0 w
structure kJ(B:(Value->hM)->Value->hM)(F:(Value->hM)->Prop):Prop where
 ex:∃I:Nat->Value->hM,(∃m,F (I m))/\∀m x0 w,I m x0 w->B (λy0 w'=>∃m',m'<m/\I m' y0 w') x0 w
structure GG(F:(Value->Value->hM)->Prop)(G:Value->Value->hM):Prop where
 ex:∃I:Value->Value->hM,F I/\∀x0 x1 w,I x0 x1 w->G x0 x1 w
structure px(B:(Value->Value->hM)->Value->Value->hM)(F:(Value->Value->hM)->Prop):Prop where
 ex:∃I:Nat->Value->Value->hM,(∃m,F (I m))/\∀m x0 x1 w,I m x0 x1 w->B (λy0 y1 w'=>∃m',m'<m/\I m' y0 y1 w') x0 x1 w
structure amd(F:(Value->Value->Value->hM)->Prop)(G:Value->Value->Value->hM):Prop where
 ex:∃I:Value->Value->Value->hM,F I/\∀x0 x1 x2 w,I x0 x1 x2 w->G x0 x1 x2 w
structure afe(B:(Value->Value->Value->hM)->Value->Value->Value->hM)(F:(Value->Value->Value->hM)->Prop):Prop where
 ex:∃I:Nat->Value->Value->Value->hM,(∃m,F (I m))/\∀m x0 x1 x2 w,I m x0 x1 x2 w->B (λy0 y1 y2 w'=>∃m',m'<m/\I m' y0 y1 y2 w') x0 x1 x2 w
structure ame(F:(Value->Value->Value->Value->hM)->Prop)(G:Value->Value->Value->Value->hM):Prop where
 ex:∃I:Value->Value->Value->Value->hM,F I/\∀x0 x1 x2 x3 w,I x0 x1 x2 x3 w->G x0 x1 x2 x3 w
structure amf(B:(Value->Value->Value->Value->hM)->Value->Value->Value->Value->hM)(F:(Value->Value->Value->Value->hM)->Prop):Prop where
 ex:∃I:Nat->Value->Value->Value->Value->hM,(∃m,F (I m))/\∀m x0 x1 x2 x3 w,I m x0 x1 x2 x3 w->B (λy0 y1 y2 y3 w'=>∃m',m'<m/\I m' y0 y1 y2 y3 w') x0 x1 x2 x3 w
structure amg(F:(Value->Value->Value->Value->Value->hM)->Prop)(G:Value->Value->Value->Value->Value->hM):Prop where
 ex:∃I:Value->Value->Value->Value->Value->hM,F I/\∀x0 x1 x2 x3 x4 w,I x0 x1 x2 x3 x4 w->G x0 x1 x2 x3 x4 w
structure amh(B:(Value->Value->Value->Value->Value->hM)->Value->Value->Value->Value->Value->hM)(F:(Value->Value->Value->Value->Value->hM)->Prop):Prop where
 ex:∃I:Nat->Value->Value->Value->Value->Value->hM,(∃m,F (I m))/\∀m x0 x1 x2 x3 x4 w,I m x0 x1 x2 x3 x4 w->B (λy0 y1 y2 y3 y4 w'=>∃m',m'<m/\I m' y0 y1 y2 y3 y4 w') x0 x1 x2 x3 x4 w
def lkv(i:Nat):List (Nat×Value)->Value->Value
 | [],d=>d
 | q::r,d=>bif Bd q.1 i then q.2 else lkv i r d
def Gc(e:Env)(M:Nat)(bs:List (Nat×Value))(dead:Env):Env:=λi=>bif bit M i then lkv i bs (dead i)else e i
def z9(l:List Nat)(F:(Env->hM)->Prop)(G:List (Nat×Value)->hM):Prop:=
 match l with
 | []=>yA (λK=>F λe w=>K w) (λw=>G [] w)
 | [u]=>fe (λK=>F λe w=>K (e u) w) (λE w=>G [(u,E)] w)
 | [u,B]=>GG (λK=>F λe w=>K (e u) (e B) w) (λE J w=>G [(u,E),(B,J)] w)
 | [u,B,I]=>amd (λK=>F λe w=>K (e u) (e B) (e I) w) (λE J M w=>G [(u,E),(B,J),(I,M)] w)
 | [u,B,I,O]=>ame (λK=>F λe w=>K (e u) (e B) (e I) (e O) w) (λE J M U w=>G [(u,E),(B,J),(I,M),(O,U)] w)
 | [u,B,I,O,V]=>amg (λK=>F λe w=>K (e u) (e B) (e I) (e O) (e V) w) (λE J M U W w=>G [(u,E),(B,J),(I,M),(O,U),(V,W)] w)
 | _=>False
def Aa(l:List Nat)(B:(Env->hM)->List (Nat×Value)->hM)(e:Env)(w:World):Prop:=
 match l with
 | []=>Q9 (λK w=>B (λu w'=>K w') [] w) (λK=>K w)
 | [E]=>kJ (λK J w=>B (λu w'=>K (u E) w') [(E,J)] w) (λK=>K (e E) w)
 | [E,G]=>px (λK J M w=>B (λu w'=>K (u E) (u G) w') [(E,J),(G,M)] w) (λK=>K (e E) (e G) w)
 | [E,G,I]=>afe (λK J M U w=>B (λu w'=>K (u E) (u G) (u I) w') [(E,J),(G,M),(I,U)] w) (λK=>K (e E) (e G) (e I) w)
 | [E,G,I,O]=>amf (λK J M U W w=>B (λu w'=>K (u E) (u G) (u I) (u O) w') [(E,J),(G,M),(I,U),(O,W)] w) (λK=>K (e E) (e G) (e I) (e O) w)
 | [E,G,I,O,V]=>amh (λK J M U W Y w=>B (λu w'=>K (u E) (u G) (u I) (u O) (u V) w') [(E,J),(G,M),(I,U),(O,W),(V,Y)] w) (λK=>K (e E) (e G) (e I) (e O) (e V) w)
 | _=>False
def jI(l:List Nat)(e:Env):List (Nat×Value):=l.map λa=>(a,e a)
def z9.spec{l:List Nat}{F:(Env->hM)->Prop}{G:List (Nat×Value)->hM}(h:z9 l F G) :
  ∃I:List (Nat×Value)->hM,F (λe w=>I (jI l e) w)/\∀(e:Env) w,I (jI l e) w->G (jI l e) w:=by
 unfold z9 at h
 split at h
 .obtain⟨I,h1,h2⟩:=h.ex
  exact⟨λ_ w=>I w,h1,λ_ w hi=>h2 w hi⟩
 .obtain⟨I,h1,h2⟩:=h.ex
  exact⟨λq w=>match q with|[u]=>I u.2 w|_=>False,h1,λe w hi=>h2 _ w hi⟩
 .obtain⟨I,h1,h2⟩:=h.ex
  exact⟨λq w=>match q with|[u,B]=>I u.2 B.2 w|_=>False,h1,λe w hi=>h2 _ _ w hi⟩
 .obtain⟨I,h1,h2⟩:=h.ex
  exact⟨λq w=>match q with|[u,B,E]=>I u.2 B.2 E.2 w|_=>False,h1,λe w hi=>h2 _ _ _ w hi⟩
 .obtain⟨I,h1,h2⟩:=h.ex
  exact⟨λq w=>match q with|[u,B,E,J]=>I u.2 B.2 E.2 J.2 w|_=>False,h1,λe w hi=>h2 _ _ _ _ w hi⟩
 .obtain⟨I,h1,h2⟩:=h.ex
  exact⟨λq w=>match q with|[u,B,E,J,M]=>I u.2 B.2 E.2 J.2 M.2 w|_=>False,h1,λe w hi=>h2 _ _ _ _ _ w hi⟩
 grind
def Aa.spec{l:List Nat}{B:(Env->hM)->List (Nat×Value)->hM}{e:Env}{w:World}(h:Aa l B e w) :
  ∃I:Nat->List (Nat×Value)->hM,(∃m,I m (jI l e) w)/\
   ∀m e w,I m (jI l e) w->B (λU w'=>∃M,M<m/\I M (jI l U) w') (jI l e) w:=by
 unfold Aa at h
 split at h
 .obtain⟨I,⟨m,h1⟩,h2⟩:=h.ex
  exact⟨λm _ w=>I m w,⟨m,h1⟩,λm _ w hi=>h2 m w hi⟩
 .obtain⟨I,⟨m,h1⟩,h2⟩:=h.ex
  exact⟨λm q w=>match q with|[u]=>I m u.2 w|_=>False,⟨m,h1⟩,λm e w hi=>h2 m _ w hi⟩
 .obtain⟨I,⟨m,h1⟩,h2⟩:=h.ex
  exact⟨λm q w=>match q with|[u,E]=>I m u.2 E.2 w|_=>False,⟨m,h1⟩,λm e w hi=>h2 m _ _ w hi⟩
 .obtain⟨I,⟨m,h1⟩,h2⟩:=h.ex
  exact⟨λm q w=>match q with|[u,E,G]=>I m u.2 E.2 G.2 w|_=>False,⟨m,h1⟩,λm e w hi=>h2 m _ _ _ w hi⟩
 .obtain⟨I,⟨m,h1⟩,h2⟩:=h.ex
  exact⟨λm q w=>match q with|[u,E,G,J]=>I m u.2 E.2 G.2 J.2 w|_=>False,⟨m,h1⟩,λm e w hi=>h2 m _ _ _ _ w hi⟩
 .obtain⟨I,⟨m,h1⟩,h2⟩:=h.ex
  exact⟨λm q w=>match q with|[u,E,G,J,O]=>I m u.2 E.2 G.2 J.2 O.2 w|_=>False,⟨m,h1⟩,λm e w hi=>h2 m _ _ _ _ _ w hi⟩
 grind
def VJ(m d:Nat):Nat:=NS m (IZ 1 d)
def ami(m d:Nat):Nat:=bif bit m d then Nat.sub m (IZ 1 d)else m
def zd:List Nat->Nat
 | []=>0
 | d::r=>VJ (zd r) d
def wz:List Operand->Nat->Nat
 | [],m=>m
 | .tmp t::r,m=>VJ (wz r m) t
 | _::r,m=>wz r m
def lkX(id:Nat):List (Nat×Nat)->Nat
 | []=>0
 | q::r=>bif Bd q.1 id then q.2 else lkX id r
def VK:List Oper->Nat->Nat
 | [],lo=>lo
 | o::r,lo=>wz o.op.operands.toList (match o.dst with|some d=>ami (VK r lo) d|none=>VK r lo)
def amj:List Nat->Nat->Nat
 | [],m=>m
 | d::r,m=>amj r (ami m d)
def li(rl:Nat):Code->List (Nat×Nat)->Nat->Nat
 | .skip,_,lo=>lo
 | .ret,_,_=>rl
 | .exit id,X,_=>lkX id X
 | .region _ ops _,_,lo=>VK ops.toList lo
 | .seq a b,X,lo=>li rl a X (li rl b X lo)
 | .cond c a b,X,lo=>wz [c] (NS (li rl a X lo) (li rl b X lo))
 | .block id c,X,lo=>li rl c ((id,lo)::X) lo
 | .loop c,X,_=>li rl c X (li rl c X 0)
 | .rangeFunc g ps a b,X,lo=>wz [g] (NS lo (amj ps.toList (li rl a X (li rl b X lo))))
 | _,_,_=>0
def fF:Code->Bool
 | .seq a b=>fF a||fF b
 | .cond _ a b=>fF a||fF b
 | .block _ c=>fF c
 | .loop c=>fF c
 | .rangeFunc _ _ _ _=>true
 | _=>false
def iU:Code->Nat
 | .region _ ops _=>zd (wr ops.toList)
 | .seq a b=>NS (iU a) (iU b)
 | .cond _ a b=>NS (iU a) (iU b)
 | .block _ c=>iU c
 | .loop c=>iU c
 | _=>0
def guarded:List Oper->Bool
 | []=>false
 | o::r=>o.guard.isSome||guarded r
def abH(a b:Nat):Nat:=Nat.add a b
mutual
def exC(id:Nat):Code->Nat
 | .exit k=>bif Bd k id then 1 else 0
 | .seq a b=>bif Bd (nxC a) 0 then exC id a else abH (exC id a) (exC id b)
 | .cond _ a b=>abH (exC id a) (exC id b)
 | .block _ c=>exC id c
 | .loop c=>exC id c
 | .rangeFunc _ _ _ b=>exC id b
 | _=>0
def nxC:Code->Nat
 | .skip=>1
 | .region _ ops _=>bif guarded ops.toList then 2 else 1
 | .seq a b=>bif Bd (nxC a) 0 then 0 else nxC b
 | .cond _ a b=>abH (nxC a) (nxC b)
 | .block id c=>abH (nxC c) (exC id c)
 | .rangeFunc _ _ _ _=>1
 | _=>0
end
def gi(m:Nat):Nat->Nat->List Nat
 | 0,_=>[]
 | f+1,i=>bif bit m i then i::gi m f (i+1)else gi m f (i+1)
abbrev CQ:=Exit->List Nat->Env->hM
def ti(K:List Nat->Env->hM)(Q:CQ):CQ
 | .normal,ds,e,w=>K ds e w
 | x,ds,e,w=>Q x ds e w
def VL(id:Nat)(Q:CQ):CQ
 | .exit k,ds,e,w=>bif Bd k id then Q .normal ds e w else Q (.exit k) ds e w
 | x,ds,e,w=>Q x ds e w
def VM(K:Option Code->hM):CQ
 | .normal,_,_,w=>K none w
 | .ret,_,_,w=>K (some .ret) w
 | .exit id,_,_,w=>K (some (.exit id)) w
 | _,_,_,_=>False
def aft(N R:Nat->hM)(X:Nat->Nat->hM):Option Code->Nat->hM
 | none=>N
 | some .ret=>R
 | some (.exit id)=>X id
 | _=>λ_ _=>False
def outs:List Nat->Code->Bool
 | l,.exit id=>!(l.any λk=>Bd k id)
 | l,.seq a b=>outs l a||outs l b
 | l,.cond _ a b=>outs l a||outs l b
 | l,.block id c=>outs (id::l) c
 | l,.loop c=>outs l c
 | _,_=>false
def D0:List Value->Nat->Value
 | [],_=>undef
 | v::_,0=>v
 | _::r,k+1=>D0 r k
def GH(args:List Value):List Nat->Nat->Env->Env
 | [],_,e=>e
 | p::r,k,e=>GH args r (k+1) (zU e p (D0 args k))
def lH(ds:List Nat):Value:=.tuple (ds.map fun (D:Nat)=>nf .u64 (D:Int)).toArray
def ahp:Value->Nat
 | .int _ n=>n.toNat
 | _=>0
def Ab:Value->List Nat
 | .tuple vs=>vs.toList.map ahp
 | _=>[]
theorem BF(ds:List Nat):Ab (lH ds)=ds:=by
 show(ds.map fun (D:Nat)=>nf .u64 (D:Int)).map ahp=ds
 rw[List.map_map]
 conv=>rhs;rw[<- List.map_id ds]
 exact A4 λD _=>by simp[ahp]
structure Ac(P:Program)(fv:Value)(np:Nat)(w:World)(round:List Value->World->(World->(hM)->Prop)->(Option Code->hM)->Prop)(after:Option Code->Nat->hM):Prop where
 ex:∃gf cap,fv=.func (.func gf) #[] cap/\Plain P gf/\∀L0:Loop,L0.state=.ready->L0.pending=none->
  (∀(args:List Value) (W:World) (K:Value->hM),args.length=np->W.heap[w.heap.size+1]?=some (.loop L0)->
   round args W (λw1 k=>w1.heap[w.heap.size+1]?=some (.loop L0)/\k (w1.putObj (w.heap.size+1) (.loop {L0 with state:=.busy})))
    (λj W'=>W'.heap[w.heap.size+1]?=some (.loop {L0 with state:=.busy})/\K (.bool j.isNone) (W'.putObj (w.heap.size+1) (.loop {L0 with state:=if j.isNone then .ready else .done,pending:=j})))->
   YieldAt (FO none) 0 P (w.heap.size+1) args.toArray W (tP K))->
  Calls P gf (#[.func (.yield (w.heap.size+1)) #[] #[]]++cap) ((w.alloc (.deferred (some []))).alloc (.loop L0))
   (tP λ_ W2=>∃st j,st≠.busy/\W2.heap[w.heap.size+1]?=some (.loop {L0 with state:=st,pending:=j})/\after j w.heap.size (W2.putObj (w.heap.size+1) (.loop {L0 with state:=.exhausted,pending:=j})))
abbrev dI:=Nat->PT
def Kq(pl:dI):Code->Bool
 | .region id _ true=>(pl id).many
 | .block _ c=>Kq pl c
 | .seq a b=>Kq pl a||Kq pl b
 | .cond _ a b=>Kq pl a||Kq pl b
 | _=>false
def drew(w:World):World:={w with drawn:=w.drawn+1}
def D(P:Program)(n:Nat)(pl:dI)(rl:Nat):Code->List (Nat×Nat)->Nat->CQ->List Nat->Env->hM
 | .skip,_,_,Q,ds,e,w=>Q .normal ds e w
 | .ret,_,_,Q,ds,e,w=>Q .ret ds e w
 | .exit id,_,_,Q,ds,e,w=>Q (.exit id) ds e w
 | .region _ ops false,_,_,Q,ds,e,w=>DR P n ops.toList (ops.toList.map λo=>(o,[])) (Q .normal ds) [] e w
 | .region id ops true,_,_,Q,ds,e,w=>
  bif ops.toList.all (DX n)&&(GB ops.toList (GF ops.toList)&&Q6 P ops.toList (GF ops.toList) false ops.toList.length 0 (pl id))then
   DT P n ops.toList (pl id) (Q .normal ds) [] e (drew w)
  else False
 | .seq a b,X,lo,Q,ds,e,w=>
  bif P7 (nxC a) 1&&!Kq pl a then D P n pl rl a X (li rl b X lo) (ti (D P n pl rl b X lo Q) Q) ds e w
  else bif fF a then z9 (n::gi (GL (iU a) (li rl b X lo)) n 0)
   (λK=>D P n pl rl a X (li rl b X lo) (ti (λds e w=>K (zU e n (lH ds)) w) Q) ds e w)
   (λbs w'=>∀dead,D P n pl rl b X lo Q (Ab (lkv n bs undef)) (Gc e (iU a) bs.tail dead) w')
  else z9 (gi (GL (iU a) (li rl b X lo)) n 0)
   (λK=>D P n pl rl a X (li rl b X lo) (ti (λ_ e w=>K e w) Q) ds e w)
   (λbs w'=>∀dead,D P n pl rl b X lo Q ds (Gc e (iU a) bs dead) w')
 | .cond c a b,X,lo,Q,ds,e,w=>yz (ev e c) (D P n pl rl a X lo Q ds e w) (D P n pl rl b X lo Q ds e w)
 | .block id c,X,lo,Q,ds,e,w=>D P n pl rl c ((id,lo)::X) lo (VL id Q) ds e w
 | .loop c,X,_,Q,ds,e,w=>
  bif fF c then Aa (n::gi (GL (iU c) (li rl c X (li rl c X 0))) n 0)
   (λK bs w=>∀dead,D P n pl rl c X (li rl c X (li rl c X 0)) (ti (λds e w=>K (zU e n (lH ds)) w) Q) (Ab (lkv n bs undef)) (Gc e (iU c) bs.tail dead) w) (zU e n (lH ds)) w
  else Aa (gi (GL (iU c) (li rl c X (li rl c X 0))) n 0)
   (λK bs w=>∀dead,D P n pl rl c X (li rl c X (li rl c X 0)) (ti (λ_ e w=>K e w) Q) ds (Gc e (iU c) bs dead) w) e w
 | .rangeFunc g ps u E,_,_,Q,ds,e,w=>
  bif ps.toList.all (λp=>aac p n)&&(!fF u&&!fF E)then
   Ac P (ev e g) ps.toList.length w
    (λargs W B K=>D P n pl 0 u [] (li 0 E [] 0) (ti (λG J I=>B I λM=>D P n pl 0 E [] 0 (VM K) G J M) λ_ _ _ _=>False) [] (GH args ps.toList 0 e) W)
    (aft (λD w=>Q .normal (D::ds) e w) (λD w=>Q .ret (D::ds) e w) (bif outs [] E then(λid D w=>Q (.exit id) (D::ds) e w) elseλ_ _ _=>False))
  else False
 | _,_,_,_,_,_,_=>False
theorem VN{m d i:Nat}:bit (VJ m d) i=(bit m i||decide (i=d)):=by
 show(m ||| 1 <<< d).testBit i=_
 rw[Sg,P6,Pv]
 unfold bit
 grind
theorem Ol{l:List Nat}{i:Nat}:bit (zd l) i=true↔i∈l:=by
 induction l with
 | nil=>simp[zd,bit]
 | cons d r u=>simp only[zd,VN,wS,u,decide_eq_true_eq,sl];grind
theorem Om{l:List Nat}{e:Env}{i:Nat}:lkv i (jI l e) (e i)=e i:=by
 induction l with
 | nil=>rfl
 | cons a r u=>
  show(bif Bd a i then e a else lkv i (jI r e) (e i))=e i
  by_cases h:a=i
  .grind
  .rw[BC h];exact u
theorem xP{e u:Env}{M:Nat}{l:List Nat}(h:∀i,bit M i=false->u i=e i):Gc e M (jI l u) u=u:=by
 funext i
 unfold Gc
 cases hb:bit M i with
 | true=>simp only[cond_true];exact Om
 | false=>grind
theorem Ks{m:Nat}:∀(f i k:Nat),k∈gi m f i->k<i+f:=by
 intro f
 induction f with
 | zero=>intro i k h;cases h
 | succ f u=>
  grind[gi]
theorem On{l:List Nat}{n:Nat}{v:Value}{e:Env}(h:∀k∈l,k<n):jI l (zU e n v)=jI l e:=
 A4 λk u=>by rw[oM _ _ (Nat.ne_of_lt (h k u))]
theorem GI{l:List Nat}{n:Nat}{ds:List Nat}{e:Env}(h:∀k∈l,k<n):jI (n::l) (zU e n (lH ds))=(n,lH ds)::jI l e:=by
 show(n,zU e n (lH ds) n)::jI l (zU e n (lH ds))=_
 rw[nt,On h]
theorem Ra{m n:Nat}:∀k∈gi m n 0,k<n:=λk u=>by have:=Ks n 0 k u;omega
def uq(n:Nat)(M:Nat)(b:Bool)(ds:List Nat)(e:Env)(Q:CQ):Exit->Act->hM:=
 λx E w'=>∃u B,jA u n B E/\(∀i,bit M i=false->B i=e i)/\(b=false->u=ds)/\Q x u B w'
theorem least{p:Nat->Prop}(h:∃m,p m):∃m,p m/\∀k,p k->m<=k:=by
 obtain⟨m,u⟩:=h
 induction m using Nat.strongRecOn with
 | _ m B=>
  grind
theorem Is{n:Nat}{args:List Value}:∀(ps:List Nat) (k:Nat) (e:Env) (a:Act),(∀p∈ps,p<n)->jA [] n e a->k+ps.length<=args.length->
  jA [] n (GH args ps k e) {a with tmps:=(ps.zip (args.drop k)).foldl (λt (q:Nat×Value)=>t.setIfInBounds q.1 q.2) a.tmps}:=by
 intro ps
 induction ps with
 | nil=>simp_all[Env,GH]
 | cons p ps J=>
  intro k e a B E I
  have G:k<args.length:=dD
  have M:args.drop k=D0 args k::args.drop (k+1):=by
   rw[List.drop_eq_getElem_cons G]
   congr 1
   clear J E I B
   induction args generalizing k with
   | nil=>simp at G
   | cons v r u=>cases k with
    | zero=>rfl
    | succ k=>exact u k dD
  rw[M]
  have h1:=E.put (d:=some p) (λk I=>by simp_all) (D0 args k)
  exact J (k+1) _ _ (λq O=>B q (qb _ O)) h1 dD
theorem VO{P:Program}{n:Nat}{pl:dI}{g:Operand}{ps:Array Tmp}{u E:Code}
  (ihA:∀(r:Option Nat) (rl:Nat) (X:List (Nat×Nat)) (lo:Nat) (Q:CQ) (ds:List Nat) (e:Env) (a:Act) (w:World),
   (r=none\/fF u=false)->jA ds n e a->D P n pl rl u X lo Q ds e w->u.wpIn (FO r) 0 P (uq n (iU u) (fF u) ds e Q) a w)
  (ihB:∀(r:Option Nat) (rl:Nat) (X:List (Nat×Nat)) (lo:Nat) (Q:CQ) (ds:List Nat) (e:Env) (a:Act) (w:World),
   (r=none\/fF E=false)->jA ds n e a->D P n pl rl E X lo Q ds e w->E.wpIn (FO r) 0 P (uq n (iU E) (fF E) ds e Q) a w)
  (rl:Nat) (X:List (Nat×Nat)) (lo:Nat) (Q:CQ) (ds:List Nat) (e:Env) (a:Act) (w:World) (O:jA ds n e a) (h:D P n pl rl (.rangeFunc g ps u E) X lo Q ds e w) :
  (Code.rangeFunc g ps u E).wpIn (FO none) 0 P (uq n 0 true ds e Q) a w:=by
 have h':(bif ps.toList.all (λp=>aac p n)&&(!fF u&&!fF E)then
  Ac P (ev e g) ps.toList.length w
   (λargs W B K=>D P n pl 0 u [] (li 0 E [] 0) (ti (λM e1 w1=>B w1 λw2=>D P n pl 0 E [] 0 (VM K) M e1 w2) λ_ _ _ _=>False) [] (GH args ps.toList 0 e) W)
   (aft (λD w=>Q .normal (D::ds) e w) (λD w=>Q .ret (D::ds) e w) (bif outs [] E then(λid D w=>Q (.exit id) (D::ds) e w) elseλ_ _ _=>False))
  else False):=h
 cases hc:(ps.toList.all (λp=>aac p n)&&(!fF u&&!fF E))with
 | false=>grind
 | true=>
  rw[hc]at h'
  simp only[cond_true]at h'
  simp only[n5,sk]at hc
  obtain⟨hps,hA,hB⟩:=hc
  have atV:∀p∈ps.toList,p<n:=λp V=>Nat.blt_eq▸Eu.1 hps p V
  obtain⟨gf,cap,hfv,oG,Gd⟩:=h'.ex
  refine wpIn_rangeFunc λfn _=>?_
  let Z:Loop:={state:=.ready,pending:=none,fn,tmps:=a.tmps,params:=ps,assign:=u,body:=E,defers:=w.heap.size}
  have hY:=Gd Z rfl rfl (λargs W K hlen hl D1=>?_)
  .have hC:=hY.mono (R':=rangePost (FO none) 0 P (w.heap.size+1) (uq n 0 true ds e Q) {a with defers:=[{target:=.collected w.heap.size,args:=#[]}]++a.defers}) (λx w3 hx=>?_)
   .have hC1:=(y9 (r:=none) (n:=0)).2 hC
    refine⟨w.heap.size+1,[{target:=.collected w.heap.size,args:=#[]}],(w.alloc (.deferred (some []))).alloc (.loop Z),
     {target:=.fn (.func gf) cap,args:=#[.func (.yield (w.heap.size+1)) #[] #[]]},(w.alloc (.deferred (some []))).alloc (.loop Z),gf,#[.func (.yield (w.heap.size+1)) #[] #[]]++cap,
     (w.alloc (.deferred (some []))).alloc (.loop Z),run_enterLoop_outer ..,?_,λ_ _=>trivial,?_,DU,?_⟩
    rotate_left 2
    .exact hC1
    .have hg:a.eval g=.func (.func gf) #[] cap:=by rw[O.eval];exact hfv
     simp only[resolve,hg]
     simp[go_sem]
    .show(callFunc gf (#[.func (.yield (w.heap.size+1)) #[] #[]]++cap)).run P _=_
     exact zY oG _ _
   ·
    obtain⟨v,rfl,st,j,iT,hl3,I⟩:=hx
    refine⟨j,_,run_endLoop hl3 cK,?_⟩
    have G:jA (w.heap.size::ds) n e {a with defers:=[{target:=.collected w.heap.size,args:=#[]}]++a.defers}:=⟨by rw[O.defers];rfl,O.size,O.get⟩
    cases j with
    | none=>exact⟨_,e,G,λ_ _=>rfl,λY=>(by cases Y),I⟩
    | some c=>
     cases c with
     | ret=>exact wpIn_ret ⟨_,e,G,λ_ _=>rfl,λY=>(by cases Y),I⟩
     | exit id=>
       have Ka:(bif outs [] E then(λid D w=>Q (.exit id) (D::ds) e w) elseλ_ _ _=>False:Nat->Nat->hM) id w.heap.size _:=I
       cases ho:outs [] E with
       | true=>rw[ho]at Ka;exact wpIn_exit ⟨_,e,G,λ_ _=>rfl,λY=>(by cases Y),Ka⟩
       | false=>grind
     | _=>exact I.elim
  ·
   have nO:w.heap.size+1<W.heap.size:=(Ct.1 hl).1
   refine⟨fn,_,u,E,run_yield hl cK,roundIn_of_wpIn trivial ?_⟩
   have G:jA [] n (GH args ps.toList 0 e) {tmps:=(ps.zip args.toArray).foldl (λt (q:Nat×Value)=>t.setIfInBounds q.1 q.2) a.tmps,defers:=[]}:=by
    have h0:jA [] n e {tmps:=a.tmps,defers:=[]}:=⟨rfl,O.size,O.get⟩
    have:=Is ps.toList 0 e _ atV h0 (by simpa using yQ hlen.symm)
    have e1:(ps.zip args.toArray).foldl (λt (q:Nat×Value)=>t.setIfInBounds q.1 q.2) a.tmps=(ps.toList.zip (args.drop 0)).foldl (λt (q:Nat×Value)=>t.setIfInBounds q.1 q.2) a.tmps:=by
     rw[<- U0,Array.toList_zip];simp
    grind
   refine wpIn_mono (ihA (some (w.heap.size+1)) 0 [] _ _ [] _ _ W (.inr hA) G D1) λx a1 w1 V=>?_
   obtain⟨M,e1,ha1,_,VP,J⟩:=V
   cases x with
   | normal=>
    obtain⟨hl1,J⟩:=J
    refine⟨_,run_beginRound hl1 rfl,?_⟩
    refine wpIn_mono (ihB (some (w.heap.size+1)) 0 [] _ _ M e1 a1 _ (.inr hB) ha1 J) λx a2 w2 V=>?_
    obtain⟨ds2,e2,ha2,_,_,J⟩:=V
    cases x with
    | normal=>obtain⟨U,I⟩:=J;exact⟨_,_,run_endRound none U,_,rfl,I⟩
    | ret=>obtain⟨U,I⟩:=J;exact⟨_,_,run_endRound (some .ret) U,_,rfl,I⟩
    | exit id=>obtain⟨U,I⟩:=J;exact⟨_,_,run_endRound (some (.exit id)) U,_,rfl,I⟩
    | _=>exact J.elim
   | _=>exact J.elim
theorem abK{P:Program}{n:Nat}{pl:dI}(hm:P.follows .mixedOrders=true) :
  ∀(c:Code) (r:Option Nat) (rl:Nat) (X:List (Nat×Nat)) (lo:Nat) (Q:CQ) (ds:List Nat) (e:Env) (a:Act) (w:World),
   (r=none\/fF c=false)->jA ds n e a->D P n pl rl c X lo Q ds e w->c.wpIn (FO r) 0 P (uq n (iU c) (fF c) ds e Q) a w:=by
 intro c
 induction c with
 | skip=>intro r rl X lo Q ds e a w _ Y h;exact wpIn_skip ⟨ds,e,Y,λ_ _=>rfl,λ_=>rfl,h⟩
 | ret=>intro r rl X lo Q ds e a w _ Y h;exact wpIn_ret ⟨ds,e,Y,λ_ _=>rfl,λ_=>rfl,h⟩
 | exit id=>intro r rl X lo Q ds e a w _ Y h;exact wpIn_exit ⟨ds,e,Y,λ_ _=>rfl,λ_=>rfl,h⟩
 | region id B draw=>
  intro r rl X lo Q ds e a w _ Y h
  have hQ:∀(u:Env) (G:Act) (w':World),jA ds n u G->(∀k,k ∉ wr B.toList->u k=e k)->Q .normal ds u w'->uq n (iU (.region id B draw)) (fF (.region id B draw)) ds e Q .normal G w':=
   λu G w' Im W hq=>by
    refine⟨ds,u,Im,λi hi=>W i λKp=>?_,λ_=>rfl,hq⟩
    have h1:bit (zd (wr B.toList)) i=true:=Ol.2 Kp
    have h2:bit (zd (wr B.toList)) i=false:=hi
    grind
  cases draw with
  | false=>
   have:=DR.region (r:=r) (id:=id) Y hQ (show DR P n B.toList (B.toList.map λo=>(o,[])) (Q .normal ds) [] e w from h)
   omega
  | true=>
   have Z:(bif B.toList.all (DX n)&&(GB B.toList (GF B.toList)&&Q6 P B.toList (GF B.toList) false B.toList.length 0 (pl id))then
    DT P n B.toList (pl id) (Q .normal ds) [] e (drew w)else False):=h
   cases hc:(B.toList.all (DX n)&&(GB B.toList (GF B.toList)&&Q6 P B.toList (GF B.toList) false B.toList.length 0 (pl id)))with
   | false=>grind
   | true=>
    rw[hc]at Z
    simp only[n5]at hc
    obtain⟨h2,h3,h4⟩:=hc
    have hd:∀d∈wr B.toList,d<n:=λd hd=>by
     obtain⟨o,ho,Km⟩:=Pw.1 hd
     have:=Eu.1 h2 o ho
     unfold DX at this
     simp_all
    have hz:(bit 0)=λ_=>false:=by funext i;simp[bit]
    have hws:=(abF (Q:=Q .normal ds) h3 (pl id) B.toList.length 0 [] e (drew w) (λi o hi=>dD) (by constructor<;>simp) (DT.plain _ _ _ _ (kB.nil e) Z)).1 h4
    rw[hz]at hws
    have:=WS.region (r:=r) (id:=id) hm hd Y hQ hws
    omega
 | seq M U ih1 ih2=>
  intro r rl X lo Q ds e a w hr Y h
  have BG:r=none\/fF M=false:=hr.imp id λh=>by grind[fF]
  have Dh:r=none\/fF U=false:=hr.imp id λh=>by grind[fF]
  have key:∀(K:List Nat->Env->hM),D P n pl rl M X (li rl U X lo) (ti K Q) ds e w->
    (∀E u G w',jA E n u G->(∀i,bit (iU M) i=false->u i=e i)->(fF M=false->E=ds)->K E u w'->U.wpIn (FO r) 0 P (uq n (iU U) (fF U) E u Q) G w')->
    (Code.seq M U).wpIn (FO r) 0 P (uq n (iU (.seq M U)) (fF (.seq M U)) ds e Q) a w:=by
   intro K hK hk
   refine wpIn_seq (wpIn_mono (ih1 r rl X _ _ ds e a w BG Y hK) λx G w' hp=>?_)
   obtain⟨E,u,Im,W,O,hq⟩:=hp
   have hor:∀i,bit (iU (.seq M U)) i=false->bit (iU M) i=false/\bit (iU U) i=false:=λi hi=>by
    simp_all[bit,iU]
   have hrf:fF (.seq M U)=false->fF M=false/\fF U=false:=λhh=>by
    grind[fF]
   cases x with
   | normal=>
    refine wpIn_mono (hk E u G w' Im W O hq) λx2 a2 w2 hp2=>?_
    grind[uq,iU,fF]
   | _=>exact⟨E,u,Im,λi hi=>W i (hor i hi).1,λhh=>O (hrf hh).1,hq⟩
  have Z:(bif P7 (nxC M) 1&&!Kq pl M then D P n pl rl M X (li rl U X lo) (ti (D P n pl rl U X lo Q) Q) ds e w
   else bif fF M then z9 (n::gi (GL (iU M) (li rl U X lo)) n 0)
    (λK=>D P n pl rl M X (li rl U X lo) (ti (λds e w=>K (zU e n (lH ds)) w) Q) ds e w)
    (λbs w'=>∀dead,D P n pl rl U X lo Q (Ab (lkv n bs undef)) (Gc e (iU M) bs.tail dead) w')
   else z9 (gi (GL (iU M) (li rl U X lo)) n 0)
    (λK=>D P n pl rl M X (li rl U X lo) (ti (λ_ e w=>K e w) Q) ds e w)
    λbs w'=>∀dead,D P n pl rl U X lo Q ds (Gc e (iU M) bs dead) w'):=h
  cases hc:(P7 (nxC M) 1&&!Kq pl M)with
  | true=>
   grind
  | false=>
   rw[hc]at Z
   simp only[cond_false]at Z
   cases hc2:fF M with
   | false=>
    rw[hc2]at Z
    simp only[cond_false]at Z
    obtain⟨I,h1,h2⟩:=z9.spec Z
    refine key _ h1 λE u G w' Im W O hk=>?_
    have:=h2 u w' hk u
    rw[xP W]at this
    grind
   | true=>
    rw[hc2]at Z
    simp only[cond_true]at Z
    obtain⟨I,h1,h2⟩:=z9.spec Z
    refine key _ h1 λE u G w' Im W O hk=>?_
    have:=h2 (zU u n (lH E)) w' hk u
    rw[GI Ra]at this
    rw[show((n,lH E)::jI (gi (GL (iU M) (li rl U X lo)) n 0) u).tail=jI (gi (GL (iU M) (li rl U X lo)) n 0) u from rfl,xP W,
     show lkv n ((n,lH E)::jI (gi (GL (iU M) (li rl U X lo)) n 0) u) undef=lH E by show(bif Bd n n then lH E else _)=_;simp_all,BF]at this
    grind
 | cond c M U ih1 ih2=>
  intro r rl X lo Q ds e a w hr Y h
  obtain⟨t,ht,hA,hB⟩:=(show yz (ev e c) (D P n pl rl M X lo Q ds e w) (D P n pl rl U X lo Q ds e w)from h).ex
  have hor:∀i,bit (iU (.cond c M U)) i=false->bit (iU M) i=false/\bit (iU U) i=false:=λi hi=>by
   simp_all[bit,iU]
  have hrf:fF (.cond c M U)=false->fF M=false/\fF U=false:=λhh=>by
   grind[fF]
  refine wpIn_cond_split (t:=t) (by rw[Y.eval];exact ht) (λh1=>?_) (λh1=>?_)
  .exact wpIn_mono (ih1 r rl X lo Q ds e a w (hr.imp id λh=>(hrf h).1) Y (hA h1)) λx G w' ⟨E,u,Im,W,O,hq⟩=>⟨E,u,Im,λi hi=>W i (hor i hi).1,λhh=>O (hrf hh).1,hq⟩
  .exact wpIn_mono (ih2 r rl X lo Q ds e a w (hr.imp id λh=>(hrf h).2) Y (hB h1)) λx G w' ⟨E,u,Im,W,O,hq⟩=>⟨E,u,Im,λi hi=>W i (hor i hi).2,λhh=>O (hrf hh).2,hq⟩
 | block id c ih=>
  intro r rl X lo Q ds e a w hr Y h
  refine wpIn_block (wpIn_mono (ih r rl _ _ _ ds e a w hr Y h) λx G w' hp=>?_)
  obtain⟨E,u,Im,W,O,hq⟩:=hp
  cases x with
  | exit k=>
   simp only[Exit.inBlock]
   simp only[VL]at hq
   by_cases hk:k=id
   .subst hk
    rw[DW]at hq
    grind[uq,iU,fF]
   .rw[BC hk]at hq
    grind[uq,iU,fF]
  | _=>exact⟨E,u,Im,W,O,hq⟩
 | loop c ih=>
  intro r rl X lo Q ds e a w hr Y h
  have key:∀(V:List Nat->Env->List (Nat×Value)) (I:Nat->List (Nat×Value)->hM),(∃m,I m (V ds e) w)->
    (∀m E u w',(∀i,bit (iU c) i=false->u i=e i)->(fF c=false->E=ds)->I m (V E u) w'->D P n pl rl c X (li rl c X (li rl c X 0)) (ti (λds2 e2 w2=>∃m',m'<m/\I m' (V ds2 e2) w2) Q) E u w')->
    (Code.loop c).wpIn (FO r) 0 P (uq n (iU (.loop c)) (fF (.loop c)) ds e Q) a w:=by
   intro V I ⟨m,h1⟩ h2
   let Inv:Nat->Act->hM:=λm G w'=>∃E u,jA E n u G/\(∀i,bit (iU c) i=false->u i=e i)/\(fF c=false->E=ds)/\I m (V E u) w'
   have body:∀m G w',Inv m G w'->c.wpIn (FO r) 0 P (Exit.then (λa2 w2=>∃m',m'<m/\Inv m' a2 w2) (uq n (iU (.loop c)) (fF (.loop c)) ds e Q)) G w':=by
    rintro m G w' ⟨E,u,Im,W,O,hi⟩
    refine wpIn_mono (ih r rl X _ _ E u G w' hr Im (h2 m E u w' W O hi)) λx a2 w2 hp=>?_
    obtain⟨ds2,e2,ha2,hf2,atY,hq⟩:=hp
    have hfe:∀i,bit (iU c) i=false->e2 i=e i:=λi hi=>(hf2 i hi).trans (W i hi)
    have amn:fF c=false->ds2=ds:=λhh=>(atY hh).trans (O hh)
    cases x with
    | normal=>obtain⟨m',hm',Oo⟩:=hq;exact⟨m',hm',ds2,e2,ha2,hfe,amn,Oo⟩
    | _=>exact⟨ds2,e2,ha2,hfe,amn,hq⟩
   classical
   let J:Act->hM:=λG w'=>∃m,Inv m G w'
   let μ:Act->World->Nat:=λG w'=>if h:∃m,Inv m G w' then abg (least h)else 0
   have hμ:∀G w',J G w'->Inv (μ G w') G w'/\∀k,Inv k G w'->μ G w'<=k:=λG w' hj=>by
    grind
   refine wpIn_loop J μ ⟨m,ds,e,Y,λ_ _=>rfl,λ_=>rfl,h1⟩ λG w' hj=>?_
   refine wpIn_mono (body _ G w' (hμ G w' hj).1) λx a2 w2 hp=>?_
   cases x with
   | normal=>
    obtain⟨m',hm',Oo⟩:=hp
    exact⟨⟨m',Oo⟩,Nat.lt_of_le_of_lt ((hμ a2 w2 ⟨m',Oo⟩).2 m' Oo) hm'⟩
   | _=>exact hp
  have Z:(bif fF c then Aa (n::gi (GL (iU c) (li rl c X (li rl c X 0))) n 0)
    (λK bs w=>∀dead,D P n pl rl c X (li rl c X (li rl c X 0)) (ti (λds e w=>K (zU e n (lH ds)) w) Q) (Ab (lkv n bs undef)) (Gc e (iU c) bs.tail dead) w) (zU e n (lH ds)) w
   else Aa (gi (GL (iU c) (li rl c X (li rl c X 0))) n 0)
    (λK bs w=>∀dead,D P n pl rl c X (li rl c X (li rl c X 0)) (ti (λ_ e w=>K e w) Q) ds (Gc e (iU c) bs dead) w) e w):=h
  cases hc:fF c with
  | false=>
   rw[hc]at Z
   simp only[cond_false]at Z
   obtain⟨I,h1,h2⟩:=Aa.spec Z
   rw[show fF (.loop c)=fF c from rfl]at key
   have:=key (λ_ e=>jI (gi (GL (iU c) (li rl c X (li rl c X 0))) n 0) e) I h1 λm E u w' W O hi=>by
    have:=h2 m u w' hi u
    rw[xP W]at this
    grind
   exact this
  | true=>
   rw[hc]at Z
   simp only[cond_true]at Z
   obtain⟨I,h1,h2⟩:=Aa.spec Z
   refine key (λds e=>jI (n::gi (GL (iU c) (li rl c X (li rl c X 0))) n 0) (zU e n (lH ds))) I h1 λm E u w' W O hi=>?_
   have:=h2 m (zU u n (lH E)) w' hi u
   rw[GI Ra]at this
   rw[show((n,lH E)::jI (gi (GL (iU c) (li rl c X (li rl c X 0))) n 0) u).tail=jI (gi (GL (iU c) (li rl c X (li rl c X 0))) n 0) u from rfl,xP W,
    show lkv n ((n,lH E)::jI (gi (GL (iU c) (li rl c X (li rl c X 0))) n 0) u) undef=lH E by show(bif Bd n n then lH E else _)=_;simp_all,BF]at this
   exact this
 | rangeFunc g ps asx bd ihA ihB=>
  intro r rl X lo Q ds e a w hr Y h
  have CS:r=none:=hr.resolve_right (by simp[fF])
  subst CS
  exact VO ihA ihB rl X lo Q ds e a w Y h
 | _=>intro r rl X lo Q ds e a w _ Y h;exact h.elim
def Oq(P:Program):List ResultVar->Env->(List Value->Prop)->hM
 | [],_,K,_=>K []
 | .tmp t::r,e,K,w=>Oq P r e (λvs=>K (e t::vs)) w
 | .cell a t::r,e,K,w=>J8 P (wZ t (e a)) w (λv=>Oq P r e (λvs=>K (v::vs)) w)
def VQ:List Value->Value
 | [v]=>v
 | vs=>.tuple vs.toArray
def mQ:List Nat->World->(hM)->Prop
 | [],w,K=>K w
 | D::r,w,K=>w.heap[D]?=some (.deferred (some []))/\mQ r (w.putObj D (.deferred none)) K
def Ot(P:Program)(rs:List ResultVar)(K:Value->hM):CQ
 | .normal,ds,e,w=>mQ ds w λw=>Oq P rs e (λvs=>K (VQ vs) w) w
 | .ret,ds,e,w=>mQ ds w λw=>Oq P rs e (λvs=>K (VQ vs) w) w
 | _,_,_,_=>False
def CT:List Value->Env
 | [],_=>undef
 | v::_,0=>v
 | _::r,n+1=>CT r n
theorem VR(l:List Value)(i:Nat):CT l i=l.getD i undef:=by
 induction l generalizing i with
 | nil=>simp[CT]
 | cons v r u=>cases i with
  | zero=>rfl
  | succ i=>simp[CT,u]
def Tv(tmps:Array Value):ResultVar->Sem Value
 | .tmp t=>pure (tmps.getD t undef)
 | .cell a t=>do loadVar t (<- asAddr (tmps.getD a undef))
theorem It{P:Program}{t:TypeId}{v u:Value}{w:World}(h:(wZ t v).run P w=.ok u w):(do loadVar t (<- asAddr v):Sem Value).run P w=.ok u w:=by
 cases v with
 | pointer a=>cases a with
  | none => exact absurd (show(Result.halt (.stuck "an address expected (no nilCheck in front?)") w : Result Value)=.ok u w from h) ei
  | some a=>exact h
 | _ => exact absurd (show(Result.halt (.stuck "an address expected (no nilCheck in front?)") w : Result Value)=.ok u w from h) ei
theorem VS{P:Program}{ds:List Nat}{n:Nat}{e:Env}{a:Act}(B:jA ds n e a):∀(rs:List ResultVar) (K:List Value->Prop) (w:World),Oq P rs e K w->
  ∃vs,(rs.mapM (Tv a.tmps)).run P w=.ok vs w/\K vs:=by
 intro rs
 induction rs with
 | nil=>intro K w h;exact⟨[],rfl,h⟩
 | cons r rs G=>
  intro K w h
  have step:∀v,(Tv a.tmps r).run P w=.ok v w->Oq P rs e (λvs=>K (v::vs)) w->∃vs,((r::rs).mapM (Tv a.tmps)).run P w=.ok vs w/\K vs:=by
   intro v E u
   obtain⟨vs,h1,h2⟩:=G _ w u
   simp_all
  cases r with
  | tmp t=>exact step (e t) (by rw[<- B.get t];rfl) h
  | cell c t=>
   obtain⟨v,E,u⟩:=h.ex
   refine step v ?_ u
   show(do loadVar t (<- asAddr (a.tmps.getD c undef)):Sem Value).run P w=_
   rw[B.get c]
   exact It E
theorem Ku{P:Program}{u:Func}{rs:List ResultVar}(B:u.results=rs.toArray){tmps:Array Value}{w:World}{vs:List Value}
  (h:(rs.mapM (Tv tmps)).run P w=.ok vs w):(results u tmps).run P w=.ok (VQ vs) w:=by
 have e:results u tmps=(rs.toArray.mapM (Tv tmps) >>= λvs=>pure (if h:vs.size=1 then vs[0]else .tuple vs)):=by
  unfold results;rw[B];rfl
 rw[e,List.mapM_toArray]
 have h1:(Functor.map (λa=>a.toArray) (rs.mapM (Tv tmps))).run P w=.ok vs.toArray w:=by
  simp_all
 rw[eK h1]
 show Result.ok _ w=Result.ok _ w
 congr 1
 match vs with
 | []=>rfl
 | [v]=>rfl
 | a::b::r=>simp[VQ]
theorem Iu{P:Program}{u:Func}{tmps:Array Value}{R:Ending->hM}:∀(ds:List Nat) (w:World),mQ ds w (λw'=>∃v,(results u tmps).run P w'=.ok v w'/\R (.returned v) w')->
  LeavesInM (FO none) 0 P u tmps R (ds.map mark) .returning w:=by
 intro ds
 induction ds with
 | nil=>intro w ⟨v,h1,h2⟩;exact⟨v,h1,h2⟩
 | cons D r B=>intro w h;exact⟨ei,.inl ⟨D,_,rfl,run_takeDeferred h.1,B _ h.2⟩⟩
theorem mQ.mono{ds:List Nat}{K u:hM}(B:∀w,K w->u w):∀{w:World},mQ ds w K->mQ ds w u:=by
 induction ds with
 | nil=>intro w h;exact B w h
 | cons D r E=>intro w h;exact⟨h.1,E h.2⟩
theorem D2{P:Program}{n:Nat}{pl:dI}{rl:Nat}{f:FuncId}{u:Func}{c:Code}{rs:List ResultVar}{args:List Value}{w:World}{K:Value->hM}
  (Y:P.follows .mixedOrders=true) (O:P.funcs[f]?=some u) (hb:u.body=some c) (hn:u.ntmps=n) (U:u.results=rs.toArray) (M:args.length<=n)
  (h:D P n pl rl c [] rl (Ot P rs K) [] (CT args) w):Calls P f args.toArray w (tP K):=by
 refine y9.1 (callsIn_of_wp_marks (F:=FO none) (n:=0) O hb trivial ?_)
 have ha:jA [] n (CT args) {tmps:=args.toArray++Array.replicate (u.ntmps-args.toArray.size) undef,defers:=[]}:=by
  refine⟨rfl,dD,λi=>?_⟩
  rw[VR,Cn,Array.getElem?_append]
  grind
 refine wpIn_mono (abK Y c none rl [] rl _ [] _ _ w (.inl rfl) ha h) λx G w' V=>?_
 obtain⟨J,Z,I,_,_,B⟩:=V
 have E:mQ J w' (λw=>Oq P rs Z (λvs=>K (VQ vs) w) w)->LeavesInM (FO none) 0 P u G.tmps (tP K) G.defers .returning w':=λB=>by
  rw[I.defers]
  refine Iu J w' (B.mono λW h1=>?_)
  obtain⟨vs,h1,h2⟩:=VS I rs _ W h1
  exact⟨_,Ku U h1,_,rfl,h2⟩
 cases x with
 | normal=>exact E B
 | ret=>exact E B
 | _=>exact B.elim
def okD{P:Program}{n:Nat}{pl:dI}{rl:Nat}{f:FuncId}{u:Func}{c:Code}{rs:List ResultVar}{args:List Value}{w:World}{K:Value->hM}{S:Prop}
  (E:P.funcs[f]?=some u) (hb:u.body=some c) (J:u.ntmps=n) (G:u.results=rs.toArray) (I:P.follows .mixedOrders=true) (B:args.length<=n)
  (e:D P n pl rl c [] rl (Ot P rs K) [] (CT args) w=S) (h:S):Calls P f args.toArray w (tP K):=D2 I E hb J G B (e.mpr h)
def okE{P:Program}(n:Nat)(pl:dI)(rl:Nat)(rs:List ResultVar){f:FuncId}{u:Func}{args:List Value}{w:World}{K:Value->hM}{S:Prop}
  (E:P.funcs[f]?=some u) (hb:u.body=some (u.body.getD .skip)) (J:u.ntmps=n) (G:u.results=rs.toArray) (I:P.follows .mixedOrders=true) (B:args.length<=n)
  (e:D P n pl rl (u.body.getD .skip) [] rl (Ot P rs K) [] (CT args) w=S) (h:S):Calls P f args.toArray w (tP K):=okD E hb J G I B e h
theorem okZ{P:Program}(n:Nat)(pl:dI)(rl:Nat)(rs:List ResultVar){f:FuncId}{u:Func}{args:List Value}{w:World}{K:Value->hM}{S:Prop}
  (B:P.funcs[f]?=some u) (E:P.follows .mixedOrders=true) (hc:(u.body.isSome,u.ntmps,u.results,P7 args.length n)=(true,n,rs.toArray,true))
  (e:D P n pl rl (u.body.getD .skip) [] rl (Ot P rs K) [] (CT args) w=S) (h:S):Calls P f args.toArray w (tP K):=by
 have h1:u.body.isSome=true:=gN (λx=>x.1) hc
 have h2:u.ntmps=n:=gN (λx=>x.2.1) hc
 have h3:u.results=rs.toArray:=gN (λx=>x.2.2.1) hc
 have h4:P7 args.length n=true:=gN (λx=>x.2.2.2) hc
 have h5:u.body=some (u.body.getD .skip):=by
  cases hb:u.body with
  | none=>rw[hb]at h1;cases h1
  | some c=>rfl
 exact okD B h5 h2 h3 E (Bq h4) e h
def dJ{P : Program}{f : FuncId}{u : Func}(B : P.funcs[f]?=some u)(h : (u.name == "runtime.NumGoroutine", u.body.isNone)=(false, false) := by kernel_rfl) : Plain P f := ⟨u, B, gN (λx => x.1) h, gN (λx => x.2) h⟩
def vb{a b:Bool}(h:a=b):wA a=wA b:=gN _ h
def N1{p:Prop}[Decidable p](h:p):wA true=wA (decide p):=vb (ez h).symm
def jvF{p:Prop}[Decidable p](h:¬ p):wA false=wA (decide p):=vb (fN h).symm
def yB{p q:Prop}[Decidable p][Decidable q](h:p↔q):wA (decide p)=wA (decide q):=vb (ga.2 h)
end Go.Fw
namespace Go.Proofs.YtpdlpabnlkofmaaGreatDoor
open Go.Fw
variable (w:World) (K:Value->hM)
abbrev i(n:Int):Value:=.int .i64 n
abbrev tt:Value:=.bool true
abbrev ff:Value:=.bool false
abbrev fA(T:Nat)(v:Value)(f:Nat)(K:Value->Prop):Prop:=eR hH (EO T v f) K
abbrev iA(T:Nat)(v j:Value)(K:Value->Prop):Prop:=eR hH (ES T v j) K
abbrev lA(T:Nat)(p:Value)(w:World)(K:Value->Prop):Prop:=J8 hH (wZ T p) w K
abbrev sA(T:Nat)(p v:Value)(w:World)(K:hM):Prop:=Vf hH (IE T p v) w K
abbrev bA(o:BinOp)(T:Nat)(x y:Value)(K:Value->Prop):Prop:=eR hH (kj o T false false x y) K
abbrev bB(o:BinOp)(T:Nat)(x y:Value)(K:Value->Prop):Prop:=eR hH (kj o T false true x y) K
abbrev bC(o:BinOp)(T:Nat)(x y:Value)(K:Value->Prop):Prop:=eR hH (kj o T true false x y) K
abbrev cF(f:Nat)(args:List Value)(w:World)(K:Value->hM):Prop:=Cr hH f args w K
abbrev nC(v:Value)(K:Value->Prop):Prop:=eR hH (To v) K
abbrev lN(T:Nat)(v:Value)(K:Value->Prop):Prop:=eR hH (Builtin.len_ #[T] 3 [v].toArray) K
abbrev aL(T:Nat)(w:World)(K:Value->hM):Prop:=rJ hH (Ph T true (.tuple #[])) w K
abbrev xT(v:Value)(k:Nat)(K:Value->Prop):Prop:=eR hH (QH v k) K
abbrev kA(T:Nat)(p v:Value)(w:World)(R:Prop):Prop:=Q0 hH (wZ T p) v w R
abbrev aP(T:Nat)(a b:Value)(w:World)(K:Value->hM):Prop:=rJ hH (Builtin.append_ #[T,T] T [a,b].toArray) w K
abbrev bS(T n:Nat)(l:List (Nat×Value))(w:World)(K:Value->hM):Prop:=rJ hH (I0 T n l.toArray) w K
abbrev cV(v:Value)(a b:Prop):Prop:=yz v a b
noncomputable abbrev PG:Program:=hH
abbrev CR(n:Nat)(a:List Value)(w:World)(K:Value->hM):Prop:=Calls hH n a.toArray w (tP K)
abbrev PL(n:Nat):Prop:=Plain hH n
theorem mixed:Tryz.prog.follows .mixedOrders=true:=by kernel_rfl
theorem qO(n:Nat)(pl:dI)(rl:Nat)(rs:List ResultVar){f:FuncId}{u:Func}{args:List Value}{w:World}{K:Value->hM}{S:Prop}
  (B:PG.funcs[f]?=some u) (h:S) (hc:(u.body.isSome,u.ntmps,u.results,P7 args.length n)=(true,n,rs.toArray,true):=by kernel_rfl)
  (e:D PG n pl rl (u.body.getD .skip) [] rl (Ot PG rs K) [] (CT args) w=S:=by kernel_rfl):CR f args w K:=okZ n pl rl rs B mixed hc e h
def Tw:List ResultVar->Nat
 | []=>0
 | .tmp t::r=>VJ (Tw r) t
 | .cell a _::r=>VJ (Tw r) a
theorem oH{f:FuncId}{u:Func}(B:Tryz.prog.funcs[f]?=some u){args:List Value}{w:World}{K:Value->hM}{pl:dI}
  (h:D hH u.ntmps pl (Tw u.results.toList) (u.body.getD .skip) [] (Tw u.results.toList) (Ot hH u.results.toList K) [] (CT args) w)
  (hc:(u.body.isSome,P7 args.length u.ntmps)=(true,true):=by kernel_rfl):Calls hH f args.toArray w (tP K):=by
 have h1:u.body.isSome=true:=gN (λx=>x.1) hc
 have h5:u.body=some (u.body.getD .skip):=by
  cases hb:u.body with
  | none=>rw[hb]at h1;cases h1
  | some c=>rfl
 exact D2 mixed B h5 rfl ei (Bq (gN (λx=>x.2) hc)) h
theorem eX{f:FuncId}{u:Func}(B:Tryz.prog.funcs[f]?=some u){args:List Value}{w:World}{K:Value->hM}
  (h:D hH u.ntmps (λ_=>.nil) (Tw u.results.toList) (u.body.getD .skip) [] (Tw u.results.toList) (Ot hH u.results.toList K) [] (CT args) w)
  (hc:(u.body.isSome,P7 args.length u.ntmps)=(true,true):=by kernel_rfl):Calls hH f args.toArray w (tP K):=oH B h hc
def P11:dI:=λi=>match i with
 | 1=>(.op 0 [] (.op 1 [] (.op 3 [] (.op 4 [] (.op 6 [] (.op 7 [] (.op 9 [] (.op 10 [] (.alt 2 [4,7,10] (.alt 5 [7,10] (.alt 8 [10] (.alt 11 [] (.of [(12,[]),(13,[1,4,7,10]),(14,[])]) (.alt 13 [1,4,7,10] (.of [(11,[]),(12,[]),(14,[])]) .stop)) (.alt 13 [1,4,7,10] (.of [(8,[10]),(11,[]),(12,[]),(14,[])]) .stop)) (.alt 13 [1,4,7,10] (.of [(5,[7,10]),(8,[10]),(11,[]),(12,[]),(14,[])]) .stop)) (.alt 13 [1,4,7,10] (.of [(2,[4,7,10]),(5,[7,10]),(8,[10]),(11,[]),(12,[]),(14,[])]) .stop))))))))))
 | 5=>(.of [(0,[]),(1,[]),(2,[]),(3,[]),(4,[]),(5,[]),(6,[]),(7,[1]),(8,[1]),(9,[]),(10,[]),(11,[])])
 | 9=>(.of [(0,[]),(1,[]),(2,[]),(3,[]),(4,[]),(5,[]),(6,[]),(7,[]),(9,[]),(10,[]),(11,[]),(12,[]),(13,[]),(14,[]),(8,[1,10,14]),(15,[]),(16,[1]),(17,[]),(18,[]),(19,[])])
 | _=>.nil
def P19:dI:=λi=>match i with
 | 6=>.run 0 51
 | _=>.nil
def P46:dI:=λi=>match i with
 | 5=>(.op 0 [] (.op 1 [] (.op 2 [] (.op 3 [] (.op 4 [] (.op 5 [] (.op 6 [] (.op 7 [] (.op 8 [] (.op 9 [] (.op 10 [] (.op 11 [] (.op 12 [] (.op 13 [] (.op 14 [] (.op 15 [] (.op 16 [] (.op 17 [] (.op 18 [] (.op 19 [] (.op 20 [] (.op 21 [] (.op 22 [] (.alt 23 [4,9,17] (.of [(24,[]),(25,[4,9,17,22]),(26,[])]) (.alt 25 [4,9,17,22] (.of [(23,[4,9,17]),(24,[]),(26,[])]) .stop)))))))))))))))))))))))))
 | 9=>(.of [(0,[]),(1,[]),(2,[]),(3,[]),(4,[]),(5,[]),(6,[]),(7,[]),(8,[]),(9,[]),(10,[]),(11,[]),(12,[]),(13,[]),(14,[]),(15,[]),(16,[]),(17,[]),(18,[]),(19,[]),(20,[]),(21,[1]),(22,[]),(23,[]),(24,[])])
 | _=>.nil
def S57(p0:Value):Prop:=
 rJ hH (zT 27 p0) w λp1 a=>lA 27 p1 a λb=>cF 118 [b] a λc d=>eR hH (Op.unary .not c) λe=>cV e (K (.tuple #[(i 8),(i 0)]) d) (lA 27 p1 d λf=>
 cF 119 [f] d λg h=>cV g (K (.tuple #[(i 2),(i 0)]) h) (lA 27 p1 h λj=>cF 120 [j] h λk l=>kJ (λK1 i5 n=>∀_:Env,
 lN 24 k λo=>bA .lss 3 i5 o λp=>cV p (iA 24 k i5 λq=>fA 146 q 2 λr=>lA 141 r n λs=>cF 121 [s,(i 1)] n λt u=>bB .geq 3 t (i 0) λv=>cV v (K (.tuple #[(i 11),t]) u) (
 bB .add 3 i5 (i 1) λx=>K1 x u)) (lA 27 p1 n λy=>cF 122 [y] n λz aa=>bB .geq 3 z (i 0) λab=>cV ab (K (.tuple #[(i 10),z]) aa) (kJ (λK2 J ac=>∀_:Env,
 lN 24 k λad=>bA .lss 3 J ad λae=>cV ae (kJ (λK3 U M=>∀_:Env,
 iA 24 k J λag=>fA 146 ag 1 λah=>lA 91 ah M λai=>lN 91 ai λaj=>bA .lss 3 U aj λak=>cV ak (iA 24 k J λal=>fA 146 al 1 λam=>lA 91 am M λan=>iA 91 an U λao=>
 lA 9 ao M λap=>fe (λK4=>iA 24 k J λaq=>fA 146 aq 1 λar=>lA 91 ar M λY=>cF 123 [Y,ap] M λau Z=>bA .lss 3 au U λaw=>cV aw (K4 tt Z) (lA 27 p1 Z λax=>
 cF 124 [ax] Z λay az=>cF 123 [ay,ap] az λa0 a1=>bB .geq 3 a0 (i 0) λa2=>cV a2 (K4 tt a1) (lA 27 p1 a1 λa3=>cF 125 [a3] a1 λa4 a5=>cF 123 [a4,ap] a5 λa6 a7=>
 bB .geq 3 a6 (i 0) λa8=>K4 a8 a7))) (λa9 ba=>∀_:Env,
 cV a9 (iA 24 k J λbb=>fA 146 bb 3 λbc=>lA 3 bc (drew ba) λbd=>K (.tuple #[(i 10),bd]) (drew ba)) (bB .add 3 U (i 1) λbe=>K3 be ba))) (bB .add 3 J (i 1) λbf=>
 K2 bf M)) λK3=>K3 (i 0) ac) (kJ (λW B V=>∀_:Env,
 lN 24 k λbh=>bA .lss 3 B bh λbi=>cV bi (kJ (λK6 G E=>∀_:Env,
 iA 24 k B λbk=>fA 146 bk 2 λbl=>lA 141 bl E λbm=>lN 141 bm λbn=>bA .lss 3 G bn λbo=>cV bo (lA 27 p1 (drew E) λbp=>iA 24 k B λbq=>lA 146 bq (drew E) λbr=>
 iA 24 k B λbs=>fA 146 bs 2 λbt=>lA 141 bt (drew E) λbu=>iA 141 bu G λbv=>lA 193 bv (drew E) λbw=>cF 126 [bp,br,bw] (drew E) λbx bz=>bB .geq 3 bx (i 0) λb0=>
 cV b0 (K (.tuple #[(i 9),bx]) bz) (bB .add 3 G (i 1) λb1=>K6 b1 bz)) (bB .add 3 B (i 1) λb2=>W b2 E)) λK6=>K6 (i 0) V) (lA 27 p1 (drew V) λb3=>lA 27 p1 (drew V) λb4=>
 cF 124 [b3] (drew V) λb5 b6=>kA 27 p1 b4 b6 (cF 62 [b4] b6 λb7 b8=>eR hH (n4 91 b5 none (some b7) none) λb9=>kJ (λK7 I O=>∀_:Env,
 fA 27 p1 5 λcb=>lA 25 cb O λcc=>lN 25 cc λcd=>bA .lss 3 I cd λce=>cV ce (fA 27 p1 5 λcf=>lA 25 cf O λcg=>iA 25 cg I λch=>fA 85 ch 0 λci=>lA 82 ci O λcj=>
 cF 127 [cj,b9] O λck cl=>bB .geq 3 ck (i 0) λcm=>cV cm (K (.tuple #[(i 9),ck]) cl) (bB .add 3 I (i 1) λcn=>K7 cn cl)) (K (.tuple #[(i 0),(i 0)]) O)) λK7=>K7 (i 0) b8)))
 λW=>W (i 0) ac)) λK2=>K2 (i 0) aa))) λK1=>K1 (i 0) l))
def P57:dI:=λi=>match i with
 | 23=>.run 0 7
 | 30=>.run 0 15
 | 33=>(.of [(0,[]),(2,[]),(1,[2]),(3,[]),(4,[]),(5,[])])
 | _=>.nil
theorem ahq(p0:Value)(h:S57 w K p0):CR 57 [p0] w K:=
 qO 150 P57 12 [.tmp 2,.tmp 3] Tryz.func57 h
def S61(E I M:Value):Prop:=
 fe (λJ=>lN 41 E λa=>lN 41 M λb=>bA .neq 3 a b λc=>cV c (J tt w) (lN 41 E λd=>bB .gtr 3 d (i 20) λe=>cV e (J tt w) (bB .lss 3 I (i 0) λf=>
 cV f (J tt w) (lN 41 E λg=>bA .gtr 3 I g λh=>J h w)))) (λj k=>∀_:Env,
 cV j (K (.tuple #[(.pointer none),(i 1)]) k) (kJ (λK2 B l=>∀_:Env,
 bA .lss 3 B I λn=>cV n (fe (λG=>bB .eql 3 B (i 0) λo=>cV o (iA 41 E (i 0) λp=>lA 3 p (drew l) λq=>bB .neq 3 q (i 0) λr=>cV r (G tt (drew l)) (
 bB .gtr 3 B (i 0) λs=>cV s (iA 41 E B λt=>lA 3 t (drew l) λu=>bB .sub 3 B (i 1) λv=>iA 41 E v λx=>lA 3 x (drew l) λy=>bA .neq 3 u y λz=>cV z (iA 41 E B λaa=>
 lA 3 aa (drew l) λZ=>bB .sub 3 B (i 1) λac=>iA 41 E ac λad=>lA 3 ad (drew l) λae=>bB .add 3 ae (i 1) λaf=>bA .neq 3 Z af λag=>G ag (drew l)) (G ff (drew l))) (
 G ff (drew l)))) (bB .gtr 3 B (i 0) λW=>cV W (iA 41 E B λai=>lA 3 ai (drew l) λaj=>bB .sub 3 B (i 1) λak=>iA 41 E ak λal=>lA 3 al (drew l) λam=>bA .neq 3 aj am λan=>
 cV an (iA 41 E B λao=>lA 3 ao (drew l) λap=>bB .sub 3 B (i 1) λaq=>iA 41 E aq λar=>lA 3 ar (drew l) λO=>bB .add 3 O (i 1) λau=>bA .neq 3 ap au λav=>
 G av (drew l)) (G ff (drew l))) (G ff (drew l)))) (λaw V=>∀_:Env,
 cV aw (K (.tuple #[(.pointer none),(i 1)]) V) (bB .add 3 B (i 1) λay=>K2 ay V))) (bS 41 0 [] l λaz a0=>eR hH (n4 41 E none (some I) none) λa1=>
 aP 41 az a1 a0 λY a3=>bS 41 0 [] a3 λa4 a5=>aP 41 a4 M a5 λa6 a7=>eR hH (l2 122 [(0,Y),(1,a6)].toArray) λa8=>rJ hH (zT 122 a8) a7 λU ba=>
 bS 41 0 [] ba λbb bc=>aP 41 bb M bc λbd be=>nC U λbf=>fA 122 bf 2 λbg=>sA 41 bg bd be λbh=>bS 41 0 [] bh λbi bj=>eR hH (n4 41 M none (some I) none) λbk=>
 aP 41 bi bk bj λbl bm=>nC U λbn=>fA 122 bn 3 λbo=>sA 41 bo bl bm λbp=>K (.tuple #[U,(i 0)]) bp)) λK2=>K2 (i 0) k))
def P61:dI:=λi=>match i with
 | 6=>.run 0 37
 | _=>.nil
theorem ahr(u B E:Value)(h:S61 w K u B E):CR 61 [u,B,E] w K:=
 qO 97 P61 192 [.tmp 6,.tmp 7] Tryz.func61 h
def P62:dI:=λi=>match i with
 | 1=>(.of [(0,[]),(3,[]),(4,[]),(5,[]),(1,[4]),(2,[]),(6,[]),(7,[])])
 | _=>.nil
def P65:dI:=λi=>match i with
 | 6=>(.of [(0,[]),(1,[]),(2,[]),(3,[1]),(4,[1]),(5,[]),(6,[]),(7,[])])
 | 8=>(.of [(0,[]),(1,[]),(2,[]),(3,[1]),(4,[]),(5,[]),(6,[])])
 | 10=>(.of [(0,[]),(1,[]),(2,[]),(3,[1]),(4,[]),(5,[]),(6,[])])
 | 13=>(.of [(0,[]),(1,[]),(2,[]),(3,[]),(4,[]),(5,[]),(6,[]),(7,[]),(8,[1]),(9,[1]),(10,[]),(11,[]),(12,[])])
 | 15=>(.of [(0,[]),(1,[]),(2,[]),(3,[]),(4,[]),(5,[]),(6,[]),(7,[]),(8,[]),(9,[]),(10,[]),(11,[]),(12,[]),(13,[1]),(14,[1]),(15,[]),(16,[]),(17,[])])
 | 17=>(.of [(0,[]),(1,[]),(2,[]),(3,[]),(4,[]),(5,[]),(6,[]),(7,[]),(8,[]),(9,[]),(10,[]),(11,[]),(12,[1]),(13,[1]),(14,[]),(15,[]),(16,[])])
 | 21=>(.of [(0,[]),(1,[]),(2,[]),(3,[]),(4,[]),(5,[]),(6,[]),(7,[]),(8,[]),(9,[4,8]),(10,[]),(11,[])])
 | _=>.nil
def P71:dI:=λi=>match i with
 | 6=>.run 0 9
 | _=>.nil
def P77:dI:=λi=>match i with
 | 3=>.run 0 14
 | _=>.nil
theorem at1:PL 11:=dJ Tryz.func11
theorem at2:PL 17:=dJ Tryz.func17
theorem Kv:PL 19:=dJ Tryz.func19
theorem Tx:PL 45:=dJ Tryz.func45
theorem Iv:PL 46:=dJ Tryz.func46
theorem ahs:PL 47:=dJ Tryz.func47
theorem amp:PL 49:=dJ Tryz.func49
theorem at3:PL 57:=dJ Tryz.func57
theorem amq:PL 58:=dJ Tryz.func58
theorem Ty:PL 59:=dJ Tryz.func59
theorem at4:PL 61:=dJ Tryz.func61
theorem Iw:PL 62:=dJ Tryz.func62
theorem at5:PL 65:=dJ Tryz.func65
theorem amr:PL 71:=dJ Tryz.func71
theorem ams:PL 77:=dJ Tryz.func77
variable (w:World) (K:Value->hM)
def P84:dI:=λi=>match i with
 | 1=>(.of [(0,[]),(1,[]),(2,[]),(3,[]),(4,[]),(5,[3]),(6,[]),(7,[]),(8,[])])
 | _=>.nil
def P86:dI:=λi=>match i with
 | 5=>.run 0 9
 | _=>.nil
def S92(O CU:Value):Prop:=
 cF 17 [O] w λa b=>lN 41 CU λc=>lN 41 a λd=>bA .neq 3 c d λe=>cV e (K (.tuple #[(.slice none 0 0),(i 1)]) b) (kJ (λZ J f=>∀_:Env,
 lN 41 a λg=>bA .lss 3 J g λh=>cV h (fe (λK2=>iA 41 CU J λj=>lA 3 j (drew f) λk=>bB .lss 3 k (i 0) λl=>cV l (K2 tt (drew f)) (iA 41 CU J λn=>lA 3 n (drew f) λo=>
 iA 41 a J λp=>lA 3 p (drew f) λq=>bA .gtr 3 o q λr=>K2 r (drew f))) (λs t=>∀_:Env,
 cV s (K (.tuple #[(.slice none 0 0),(i 1)]) t) (bB .add 3 J (i 1) λu=>Z u t))) (GG (λY=>nC O λv=>fA 122 v 3 λx=>lA 41 x (drew f) λy=>((bS 41 0 [] (drew f) λz aa=>
 kA 41 x y aa ((aP 41 z CU aa λab ac=>kA 41 x y ac (bS 41 0 [] ac λad ae=>kA 41 x y ae (aP 41 ad y ae λaf ag=>Y ab af ag)))
 /\((bS 41 0 [] aa λah ai=>kA 41 x y ai (aP 41 z CU ai λaj ak=>kA 41 x y ak (aP 41 ah y ak λal am=>Y aj al am)))
 /\
 True)))
 /\((bS 41 0 [] (drew f) λan B=>kA 41 x y B (bS 41 0 [] B λap aq=>kA 41 x y aq (aP 41 ap CU aq λar I=>kA 41 x y I (aP 41 an y I λau av=>Y ar au av))))
 /\
 True))) (λU VT aw=>∀_:Env,
 kJ (λW G M=>∀_:Env,
 nC O λay=>fA 122 ay 4 λaz=>lA 120 az M λa0=>lN 120 a0 λa1=>bA .lss 3 G a1 λa2=>cV a2 (yA (λK5=>nC O λa3=>fA 122 a3 4 λa4=>lA 120 a4 M λa5=>
 iA 120 a5 G λa6=>lA 125 a6 M λa7=>aL 125 M λB a8=>sA 125 B a7 a8 λE=>fA 125 B 0 λba=>lA 3 ba E λbb=>iA 41 U bb λbc=>lA 3 bc E λbd=>bB .gtr 3 bd (i 0) λbe=>
 cV be (fA 125 B 0 λbf=>lA 3 bf (drew E) λbg=>fA 125 B 0 λbh=>lA 3 bh (drew E) λbi=>iA 41 U bi λbj=>lA 3 bj (drew E) λbk=>bB .sub 3 bk (i 1) λbl=>
 iA 41 U bg λbm=>sA 3 bm bl (drew E) λV=>fA 125 B 1 λbo=>lA 3 bo V λbp=>fA 125 B 2 λbq=>lA 3 bq V λbr=>iA 41 VT bp λbs=>sA 3 bs br V λbt=>
 K5 bt) (K5 E)) (λbu=>∀_:Env,
 bB .add 3 G (i 1) λbv=>W bv bu)) (K (.tuple #[VT,(i 0)]) M)) λW=>W (i 0) aw))) λZ=>Z (i 0) b)
def P92:dI:=λi=>match i with
 | 7=>.run 0 16
 | 9=>(.op 1 [] (.op 4 [] (.op 5 [] (.op 6 [] (.op 7 [] (.alt 0 [7] (.alt 2 [7] (.of [(3,[7]),(8,[]),(9,[]),(10,[])]) (.alt 3 [7] (.of [(2,[7]),(8,[]),(9,[]),(10,[])]) .stop)) (.alt 3 [7] (.of [(0,[7]),(2,[7]),(8,[]),(9,[]),(10,[])]) .stop)))))))
 | 15=>.run 0 11
 | _=>.nil
theorem aht(u CU:Value)(h:S92 w K u CU):CR 92 [u,CU] w K:=
 qO 89 P92 48 [.tmp 4,.tmp 5] Tryz.func92 h
def P93:dI:=λi=>match i with
 | 5=>.run 0 13
 | _=>.nil
def S94(G:Value):Prop:=
 px (λu E B a=>∀_:Env,
 lN 41 G λb=>bA .lss 3 B b λc=>cV c (bC .mul 3 (i 10000) E λd=>iA 41 G B λe=>lA 3 e a λf=>bA .add 3 d f λg=>bB .add 3 B (i 1) λh=>u g h a) (K E a))
 (λu=>u (i 0) (i 0) w)
theorem ahu(u:Value)(h:S94 w K u):CR 94 [u] w K:=
 qO 19 (λ_=>.nil) 4 [.tmp 2] Tryz.func94 h
def S122(p0:Value):Prop:=
 rJ hH (zT 27 p0) w λp1 a=>bS 23 0 [] a λb c=>lA 27 p1 c λd=>cF 59 [d] c λe f=>aP 23 b e f λg h=>fA 27 p1 2 λj=>lA 23 j h λk=>aP 23 g k h λl n=>
 px (λJ B G o=>∀_:Env,
 fA 27 p1 3 λp=>lA 24 p o λq=>lN 24 q λr=>bA .lss 3 G r λs=>cV s (fA 27 p1 3 λt=>lA 24 t (drew o) λu=>iA 24 u G λv=>fA 146 v 0 λx=>lA 9 x (drew o) λy=>
 fA 27 p1 3 λz=>lA 24 z (drew o) λaa=>iA 24 aa G λW=>fA 146 W 3 λac=>lA 3 ac (drew o) λY=>eR hH (l2 161 [(0,y),(2,Y)].toArray) λae=>
 bS 23 1 [(0,ae)] (drew o) λaf ag=>aP 23 B af ag λU ai=>bB .add 3 G (i 1) λaj=>J U aj ai) (cF 202 [B] o λak al=>kJ (λK2 E O=>∀_:Env,
 lN 23 B λan=>bA .lss 3 E an λao=>cV ao (iA 23 B E λZ=>fA 161 Z 0 λaq=>lA 9 aq O λar=>cF 123 [ak,ar] O λM I=>bA .lss 3 M E λav=>cV av (iA 23 B E λaw=>
 fA 161 aw 2 λax=>lA 3 ax I λay=>K ay I) (bB .add 3 E (i 1) λV=>K2 V I)) (K (i (-1)) O)) λK2=>K2 (i 0) al)) (λJ=>J l (i 0) n)
def at7:dI:=λi=>match i with
 | 6=>.run 0 17
 | _=>.nil
theorem abL(p0:Value)(h:S122 w K p0):CR 122 [p0] w K:=
 qO 60 at7 4 [.tmp 2] Tryz.func122 h
def aua:dI:=λi=>match i with
 | 3=>(.of [(0,[]),(2,[]),(3,[]),(1,[3]),(4,[]),(5,[])])
 | 16=>(.of [(0,[]),(2,[]),(3,[]),(1,[3]),(4,[]),(5,[])])
 | _=>.nil
def S130(E:Value):Prop:=
 lN 9 E λa=>bB .gtr 3 a (i 4000) λb=>cV b (K (.tuple #[(.slice none 0 0),(i 2),(i 4000)]) w) (bS 198 0 [] w λc d=>cF 205 [E,(i 0)] d λe f=>px (λZ ze B g=>∀_:Env,
 lN 9 E λh=>bA .lss 3 B h λj=>cV j (eR hH (l2 209 [(3,B)].toArray) λk=>aL 209 g λI l=>sA 209 I k l λn=>fe (λK2=>eR hH (u3 9 E B) λo=>
 cF 206 [o] n λp q=>cV p (fA 209 I 0 λr=>sA 3 r (i 1) q λs=>kJ (λY G t=>∀_:Env,
 fe (λW=>lN 9 E λu=>bA .lss 3 G u λv=>cV v (eR hH (u3 9 E G) λx=>cF 206 [x] t λy z=>cV y (W tt z) (eR hH (u3 9 E G) λaa=>
 cF 207 [aa] z λab ac=>W ab ac)) (W ff t)) (λad ae=>∀_:Env,
 cV ad (bB .add 3 G (i 1) λaf=>Y af ae) (bA .sub 3 G B λag=>bB .gtr 3 ag (i 16) λah=>cV ah (K (.tuple #[(.slice none 0 0),(i 2),B]) ae) (K2 G ae)))) λY=>Y B s) (
 eR hH (u3 9 E B) λai=>cF 207 [ai] q λaj ak=>cV aj (fA 209 I 0 λal=>sA 3 al (i 2) ak λam=>kJ (λU O an=>∀_:Env,
 fe (λK6=>lN 9 E λao=>bA .lss 3 O ao λap=>cV ap (eR hH (u3 9 E O) λaq=>cF 207 [aq] an λar V=>K6 ar V) (K6 ff an)) (λau J=>∀_:Env,
 cV au (yA (λK7=>fA 209 I 2 λaw=>lA 3 aw J λax=>bB .leq 3 ax (i 4294967296) λay=>cV ay (fA 209 I 2 λaz=>lA 3 az (drew J) λa0=>bC .mul 3 (i 10) a0 λa1=>
 eR hH (u3 9 E O) λa2=>bB .sub 5 a2 (.int .u8 48) λa3=>eR hH (convert 5 3 a3) λa4=>bA .add 3 a1 a4 λa5=>fA 209 I 2 λa6=>sA 3 a6 a5 (drew J) λa7=>
 K7 a7) (K7 J)) (λa8=>∀_:Env,
 bB .add 3 O (i 1) λa9=>U a9 a8)) (fA 209 I 2 λba=>lA 3 ba J λbb=>bB .gtr 3 bb (i 4294967296) λbc=>cV bc (K (.tuple #[(.slice none 0 0),(i 4),B]) J) (K2 O J))))
 λU=>U B am) (fA 209 I 0 λbd=>sA 3 bd (i 3) ak λbe=>cF 208 [E,B] be λbf bg=>bA .add 3 B bf λbh=>bA .eql 3 bh B λbi=>cV bi (K (.tuple #[(.slice none 0 0),(i 3),B]) bg) (
 K2 bh bg)))) (λM bj=>∀_:Env,
 eR hH (n4 9 E (some B) (some M) none) λbk=>fA 209 I 1 λbl=>sA 9 bl bk bj λbm=>lA 209 I bm λbn=>bS 198 1 [(0,bn)] bm λbo bp=>aP 198 ze bo bp λbq br=>
 cF 205 [E,M] br λbs bt=>Z bq bs bt)) (K (.tuple #[ze,(i 0),(i 0)]) g)) λZ=>Z c e f)
def aub:dI:=λi=>match i with
 | 17=>.run 0 11
 | _=>.nil
theorem abM(u:Value)(h:S130 w K u):CR 130 [u] w K:=
 qO 107 aub 28 [.tmp 2,.tmp 3,.tmp 4] Tryz.func130 h
def auc:dI:=λi=>match i with
 | 1=>.run 0 17
 | _=>.nil
theorem aud:PL 81:=dJ Tryz.func81
theorem Ou:PL 83:=dJ Tryz.func83
theorem aue:PL 86:=dJ Tryz.func86
theorem amt:PL 92:=dJ Tryz.func92
theorem auf:PL 93:=dJ Tryz.func93
theorem aug:PL 94:=dJ Tryz.func94
theorem afj:PL 106:=dJ Tryz.func106
theorem amu:PL 118:=dJ Tryz.func118
theorem amv:PL 119:=dJ Tryz.func119
theorem afk:PL 120:=dJ Tryz.func120
theorem VU:PL 121:=dJ Tryz.func121
theorem amw:PL 122:=dJ Tryz.func122
theorem rS:PL 123:=dJ Tryz.func123
theorem Ky:PL 124:=dJ Tryz.func124
theorem Rb:PL 125:=dJ Tryz.func125
theorem amx:PL 126:=dJ Tryz.func126
theorem VV:PL 127:=dJ Tryz.func127
theorem amy:PL 130:=dJ Tryz.func130
theorem yC:PL 131:=dJ Tryz.func131
variable (w:World) (K:Value->hM)
def auh:dI:=λi=>match i with
 | 7=>.run 0 24
 | 8=>.run 0 13
 | _=>.nil
def aui:dI:=λi=>match i with
 | 1=>.run 0 45
 | 3=>.run 0 26
 | _=>.nil
def auj:dI:=λi=>match i with
 | 8=>(.of [(0,[]),(1,[]),(2,[]),(3,[]),(4,[]),(5,[]),(6,[]),(7,[1]),(8,[]),(9,[]),(10,[])])
 | 10=>.run 0 19
 | _=>.nil
def auk:dI:=λi=>match i with
 | 1=>.run 0 18
 | _=>.nil
def aul:dI:=λi=>match i with
 | 2=>.run 0 10
 | 4=>.run 0 13
 | _=>.nil
def aum:dI:=λi=>match i with
 | 3=>.run 0 14
 | _=>.nil
def P149:dI:=λi=>match i with
 | 5=>.run 0 12
 | _=>.nil
def aun:dI:=λi=>match i with
 | 6=>.run 0 16
 | _=>.nil
def auo:dI:=λi=>match i with
 | 6=>(.of [(0,[]),(1,[]),(2,[]),(3,[]),(4,[]),(5,[]),(6,[]),(7,[]),(8,[]),(9,[]),(10,[]),(11,[]),(12,[]),(13,[]),(14,[3,8,10]),(15,[3]),(16,[])])
 | _=>.nil
def aup:dI:=λi=>match i with
 | 6=>.run 0 10
 | _=>.nil
def auq:dI:=λi=>match i with
 | 5=>(.of [(0,[]),(1,[]),(2,[]),(3,[]),(4,[]),(5,[]),(6,[4]),(7,[]),(8,[]),(9,[]),(10,[])])
 | _=>.nil
def S165(E B:Value):Prop:=
 aL 231 w λa b=>fe (λI=>bB .lss 3 B (i 0) λc=>cV c (I tt b) (nC E λd=>fA 196 d 1 λe=>lA 179 e b λf=>lN 179 f λg=>bA .geq 3 B g λh=>I h b)) (λj k=>∀_:Env,
 cV j (eR hH (l2 231 [].toArray) λl=>sA 231 a l k λn=>lA 231 a n λr=>K (.tuple #[r,(i 1)]) n) (cF 151 [E,B] k λo p=>eR hH (Op.unary .not o) λq=>
 cV q (eR hH (l2 231 [].toArray) λs=>sA 231 a s p λt=>lA 231 a t λZ=>K (.tuple #[Z,(i 13)]) t) (nC E λu=>fA 196 u 1 λv=>lA 179 v p λx=>
 iA 179 x B λy=>lA 231 y p λz=>aL 231 p λU ab=>sA 231 U z ab λac=>bS 179 0 [] ac λad O=>nC E λaf=>fA 196 af 1 λag=>lA 179 ag O λW=>eR hH (n4 179 W none (some B) none) λai=>
 aP 179 ad ai O λaj M=>nC E λal=>fA 196 al 1 λam=>lA 179 am M λan=>bB .add 3 B (i 1) λao=>eR hH (n4 179 an (some ao) none none) λap=>
 aP 179 aj ap M λaq ar=>nC E λG=>fA 196 G 1 λY=>sA 179 Y aq ar λV=>lA 231 U V λaw=>sA 231 a aw V λJ=>lA 231 a J λOv=>K (.tuple #[Ov,(i 0)]) J)))
theorem abN(u B:Value)(h:S165 w K u B):CR 165 [u,B] w K:=
 qO 54 (λ_=>.nil) 48 [.cell 4 231,.tmp 5] Tryz.func165 h
def aur:dI:=λi=>match i with
 | 5=>(.of [(0,[]),(1,[]),(2,[]),(3,[]),(4,[]),(5,[]),(6,[]),(7,[]),(8,[]),(9,[]),(10,[]),(11,[]),(12,[]),(13,[]),(14,[]),(15,[4]),(16,[]),(17,[]),(18,[]),(19,[])])
 | _=>.nil
def aus:dI:=λi=>match i with
 | 8=>.run 0 22
 | _=>.nil
theorem Rc:PL 132:=dJ Tryz.func132
theorem afl:PL 133:=dJ Tryz.func133
theorem afm:PL 134:=dJ Tryz.func134
theorem amz:PL 135:=dJ Tryz.func135
theorem Rd:PL 136:=dJ Tryz.func136
theorem amA:PL 139:=dJ Tryz.func139
theorem amB:PL 144:=dJ Tryz.func144
theorem amC:PL 145:=dJ Tryz.func145
theorem afn:PL 148:=dJ Tryz.func148
theorem amD:PL 150:=dJ Tryz.func150
theorem afo:PL 151:=dJ Tryz.func151
theorem amE:PL 153:=dJ Tryz.func153
theorem amF:PL 154:=dJ Tryz.func154
theorem afp:PL 155:=dJ Tryz.func155
theorem afq:PL 156:=dJ Tryz.func156
theorem amG:PL 157:=dJ Tryz.func157
theorem Re:PL 162:=dJ Tryz.func162
theorem amH:PL 165:=dJ Tryz.func165
theorem afr:PL 166:=dJ Tryz.func166
theorem amI:PL 167:=dJ Tryz.func167
theorem VW:PL 198:=dJ Tryz.func198
variable (w:World) (K:Value->hM)
def aut:dI:=λi=>match i with
 | 10=>.run 0 7
 | _=>.nil
def auu:dI:=λi=>match i with
 | 2=>.run 0 17
 | 6=>.run 0 12
 | 8=>.run 0 9
 | 9=>.run 0 12
 | _=>.nil
def auv:dI:=λi=>match i with
 | 5=>.run 0 8
 | 7=>.run 0 9
 | 9=>.run 0 9
 | 10=>.run 0 8
 | _=>.nil
def auw:dI:=λi=>match i with
 | 5=>.run 0 17
 | _=>.nil
def auy:dI:=λi=>match i with
 | 1=>.run 0 11
 | _=>.nil
def auz:dI:=λi=>match i with
 | 1=>.run 0 11
 | 4=>.run 0 10
 | _=>.nil
def S219(E V:Value):Prop:=
 lN 41 V λa=>cF 266 [E,a] w λb c=>eR hH (Op.unary .not b) λd=>cV d (K (.tuple #[(i 0),(i 8)]) c) (aL 318 c λp6 e=>lN 277 E λf=>kJ (λB g h=>∀_:Env,
 bA .lss 3 g f λj=>cV j (yA (λK2=>iA 277 E g λk=>lA 320 k h λl=>aL 320 h λn o=>sA 320 n l o λp=>fA 320 n 0 λq=>lA 3 q p λr=>cF 267 [r] p λs t=>
 bB .eql 3 s (i 0) λu=>cV u (fA 320 n 1 λv=>lA 3 v t λx=>fe (λK3=>fA 320 n 0 λy=>lA 3 y t λz=>bB .eql 3 z (i 2) λaa=>cV aa (fA 320 n 1 λab=>lA 3 ab t λac=>
 iA 41 V ac λad=>lA 3 ad t λae=>K3 ae t) (K3 x t)) (λn9 af=>∀_:Env,
 cF 268 [p6,n9] af λ_ ag=>K2 ag)) (bB .eql 3 s (i 1) λah=>cV ah (fA 320 n 0 λU=>lA 3 U (drew t) λO=>fA 318 p6 0 λak=>cF 270 [ak] (drew t) λal am=>kA 3 U O am (
 cF 269 [O,al] am λY ao=>xT Y 0 λap=>xT Y 1 λ_=>cF 268 [p6,ap] ao λ_ aq=>K2 aq)) (fA 318 p6 0 λar=>cF 270 [ar] t λG M=>fA 320 n 0 λZ=>lA 3 Z (drew M) λaw=>
 fA 318 p6 0 λax=>cF 270 [ax] (drew M) λay I=>kA 3 Z aw I (cF 271 [aw,ay,G] I λJ a1=>xT J 0 λa2=>xT J 1 λW=>bB .neq 31 W (i 0) λa4=>cV a4 (K (.tuple #[(i 0),W]) a1) (
 cF 268 [p6,a2] a1 λ_ a5=>K2 a5))))) (λa6=>∀_:Env,
 bB .add 3 g (i 1) λa7=>B a7 a6)) (fA 318 p6 0 λa8=>cF 270 [a8] h λa9 ba=>K (.tuple #[a9,(i 0)]) ba)) λB=>B (i 0) e)
def auA:dI:=λi=>match i with
 | 9=>(.of [(0,[]),(1,[]),(2,[]),(4,[]),(3,[1]),(5,[]),(6,[]),(7,[]),(8,[]),(9,[]),(10,[])])
 | 19=>(.of [(0,[]),(1,[]),(2,[]),(3,[1]),(4,[]),(5,[]),(6,[]),(7,[]),(8,[]),(9,[])])
 | _=>.nil
theorem abO(u B:Value)(h:S219 w K u B):CR 219 [u,B] w K:=
 qO 74 auA 48 [.tmp 4,.tmp 5] Tryz.func219 h
def S220(B I:Value):Prop:=
 cF 200 [B] w λa b=>eR hH (Op.unary .not a) λc=>cV c (K (.tuple #[(.slice none 0 0),(i 8)]) b) (kJ (λG E d=>∀_:Env,
 lN 82 B λe=>bA .lss 3 E e λf=>cV f (fe (λK2=>iA 82 B E λg=>fA 164 g 0 λh=>lA 3 h d λj=>bB .eql 3 j (i 2) λk=>cV k (iA 82 B E λl=>fA 164 l 2 λn=>
 lA 9 n d λo=>cF 123 [I,o] d λp q=>bB .lss 3 p (i 0) λr=>K2 r q) (K2 ff d)) (λs t=>∀_:Env,
 cV s (K (.tuple #[(.slice none 0 0),(i 9)]) t) (bB .add 3 E (i 1) λu=>G u t))) (cF 272 [B,(i 0),I] d λv x=>K (.tuple #[v,(i 0)]) x)) λG=>G (i 0) b)
theorem abP(u B:Value)(h:S220 w K u B):CR 220 [u,B] w K:=
 qO 35 (λ_=>.nil) 48 [.tmp 4,.tmp 5] Tryz.func220 h
def S224(u B E:Value):Prop:=
 lN 179 u λa=>eR hH (n4 179 u (some B) (some E) (some a)) λ_=>bA .eql 3 B E λb=>cV b (K u w) (lN 179 u λc=>eR hH (n4 179 u none (some B) none) λd=>
 eR hH (n4 179 u (some E) none none) λe=>aP 179 d e (drew w) λf g=>lN 179 f λh=>eR hH (n4 179 f (some h) (some c) none) λj=>
 rJ hH (Builtin.clear_ #[179] 0 [j].toArray) g λ_ k=>K f k)
def auB:dI:=λi=>match i with
 | 5=>.run 0 8
 | _=>.nil
theorem abQ(u E B:Value)(h:S224 w K u E B):CR 224 [u,E,B] w K:=
 qO 33 auB 64 [.tmp 6] Tryz.func224 h
def S229(E jJ:Value):Prop:=
 nC E λa=>fA 196 a 1 λb=>lA 179 b w λc=>lN 179 c λd=>bB .sub 3 d (i 1) λe=>kJ (λG B f=>∀_:Env,
 bB .geq 3 B (i 0) λg=>cV g (fe (λK2=>nC E λh=>fA 196 h 1 λj=>lA 179 j f λk=>iA 179 k B λl=>fA 231 l 0 λn=>lA 3 n f λo=>bB .eql 3 o (i 3) λp=>
 cV p (nC E λq=>fA 196 q 1 λr=>lA 179 r f λs=>iA 179 s B λt=>fA 231 t 2 λu=>lA 3 u f λv=>bA .eql 3 v jJ λx=>K2 x f) (K2 ff f)) (λy z=>∀_:Env,
 cV y (nC E λU=>fA 196 U 1 λI=>lA 179 I z λV=>iA 179 V B λJ=>fA 231 J 3 λO=>lA 3 O z λW=>K (.tuple #[W,tt]) z) (bB .sub 3 B (i 1) λM=>G M z))) (
 K (.tuple #[(i 0),ff]) f)) (λG=>G e w)
theorem abR(u jJ:Value)(h:S229 w K u jJ):CR 229 [u,jJ] w K:=
 qO 46 (λ_=>.nil) 48 [.tmp 4,.tmp 5] Tryz.func229 h
def auC:dI:=λi=>match i with
 | 3=>.run 0 10
 | 5=>(.of [(0,[]),(1,[]),(2,[]),(3,[]),(4,[]),(5,[]),(6,[4]),(7,[]),(8,[]),(9,[]),(10,[])])
 | _=>.nil
def S252(B E:Value):Prop:=
 bB .add 3 E (i 1) λa=>afe (λu J G I b=>∀_:Env,
 iA 82 B E λc=>fA 164 c 0 λd=>lA 3 d b λe=>cF 273 [e] b λf g=>bA .lss 3 I f λh=>cV h (cF 252 [B,G] g λj k=>eR hH (Builtin.max_ #[3,3] 3 [J,j].toArray) λl=>
 cF 251 [B,G] k λn o=>bB .add 3 I (i 1) λp=>u l n p o) (bB .add 3 J (i 1) λq=>K q g)) (λu=>u (i 0) a (i 0) w)
theorem abS(B u:Value)(h:S252 w K B u):CR 252 [B,u] w K:=
 qO 30 (λ_=>.nil) 16 [.tmp 4] Tryz.func252 h
theorem Rf:PL 199:=dJ Tryz.func199
theorem KA:PL 200:=dJ Tryz.func200
theorem afs:PL 201:=dJ Tryz.func201
theorem VX:PL 202:=dJ Tryz.func202
theorem afu:PL 205:=dJ Tryz.func205
theorem Rg:PL 206:=dJ Tryz.func206
theorem Rh:PL 207:=dJ Tryz.func207
theorem amJ:PL 208:=dJ Tryz.func208
theorem vN:PL 209:=dJ Tryz.func209
theorem VY:PL 210:=dJ Tryz.func210
theorem ur:PL 211:=dJ Tryz.func211
theorem amK:PL 212:=dJ Tryz.func212
theorem afv:PL 213:=dJ Tryz.func213
theorem GK:PL 214:=dJ Tryz.func214
theorem afw:PL 215:=dJ Tryz.func215
theorem afx:PL 216:=dJ Tryz.func216
theorem amL:PL 219:=dJ Tryz.func219
theorem amM:PL 220:=dJ Tryz.func220
theorem amN:PL 222:=dJ Tryz.func222
theorem afy:PL 223:=dJ Tryz.func223
theorem amO:PL 224:=dJ Tryz.func224
theorem amP:PL 226:=dJ Tryz.func226
theorem amQ:PL 228:=dJ Tryz.func228
theorem amR:PL 229:=dJ Tryz.func229
theorem Ri:PL 230:=dJ Tryz.func230
theorem KB:PL 251:=dJ Tryz.func251
theorem VZ:PL 252:=dJ Tryz.func252
variable (w:World) (K:Value->hM)
def S256(p0 KC Z:Value):Prop:=
 nC p0 λa=>fA 305 a 0 λb=>lA 198 b (drew w) λc=>nC p0 λd=>fA 305 d 1 λe=>lA 3 e (drew w) λf=>cF 214 [c,f] (drew w) λg h=>px (λK1 B M j=>∀_:Env,
 bB .leq 3 M (i 14) λk=>cV k (fe (λK2=>nC p0 λl=>fA 305 l 0 λn=>lA 198 n (drew j) λo=>nC p0 λp=>fA 305 p 1 λq=>lA 3 q (drew j) λr=>cF 290 [M] (drew j) λs t=>
 kA 198 n o t (kA 3 q r t (cF 209 [o,r,s] t λu v=>cV u (K2 M v) (K2 B v)))) (λabT x=>∀_:Env,
 bB .add 3 M (i 1) λy=>K1 abT y x)) (fe (λK3=>bB .eql 3 B (i 13) λz=>cV z (bB .eql 3 Z (i 0) λaa=>K3 aa j) (K3 ff j)) (λab J=>∀_:Env,
 cV ab (cF 291 [p0,(i 5)] J λ_ ad=>K (.tuple #[]) ad) (yA (λK4=>bB .neq 3 B (i 1) λae=>cV ae (nC p0 λaf=>fA 305 af 1 λag=>lA 3 ag J λah=>bB .add 3 ah (i 1) λai=>
 nC p0 λaj=>fA 305 aj 1 λak=>sA 3 ak ai J λal=>K4 al) (K4 J)) (λam=>∀_:Env,
 cF 292 [p0,B,g] am λan ao=>aL 193 ao λI aq=>sA 193 I an aq λO=>nC p0 λU=>fA 305 U 4 λau=>lA 141 au O λav=>lN 141 av λaw=>nC p0 λax=>fA 305 ax 4 λay=>
 lA 141 ay (drew O) λaz=>lA 193 I (drew O) λa0=>bS 141 1 [(0,a0)] (drew O) λa1 a2=>kA 141 ay az a2 (aP 141 az a1 a2 λa3 a4=>nC p0 λa5=>fA 305 a5 4 λa6=>
 sA 141 a6 a3 a4 λa7=>fe (λK5=>bB .neq 3 B (i 11) λa8=>cV a8 (bB .neq 3 B (i 12) λa9=>K5 a9 a7) (K5 ff a7)) (λba Y=>∀_:Env,
 cV ba (cF 257 [p0,(Go.Value.string (kp (#[59])))] Y λ_ bc=>K (.tuple #[]) bc) (fe (λK6=>bB .eql 3 B (i 12) λbd=>cV bd (bB .add 3 Z (i 1) λbe=>
 K6 be Y) (K6 Z Y)) (λG bf=>∀_:Env,
 bB .add 3 KC (i 1) λbg=>cF 293 [p0,bg,G] bf λbh bi=>fA 193 I 6 λbj=>sA 3 bj bh bi λE=>yA (λK7=>fe (λK8=>bB .eql 3 B (i 11) λbl=>cV bl (
 nC p0 λbm=>fA 305 bm 2 λbn=>lA 31 bn (drew E) λbo=>bB .eql 31 bo (i 0) λbp=>cV bp (nC p0 λbq=>fA 305 bq 0 λbr=>lA 198 br (drew E) λbs=>nC p0 λbt=>
 fA 305 bt 1 λbu=>lA 3 bu (drew E) λbv=>cF 209 [bs,bv,(Go.Value.string (kp (#[101,108,115,101])))] (drew E) λbw bx=>K8 bw bx) (K8 ff (drew E))) (K8 ff (drew E)))
 (λbz W=>∀_:Env,
 cV bz (nC p0 λb1=>fA 305 b1 1 λb2=>lA 3 b2 W λb3=>bB .add 3 b3 (i 1) λb4=>nC p0 λb5=>fA 305 b5 1 λb6=>sA 3 b6 b4 W λb7=>bB .add 3 KC (i 1) λb8=>
 cF 293 [p0,b8,G] b7 λb9 ca=>fA 193 I 7 λcb=>sA 3 cb b9 ca λcc=>K7 cc) (K7 W))) (λV=>∀_:Env,
 nC p0 λce=>fA 305 ce 4 λcf=>lA 141 cf (drew V) λcg=>lA 193 I (drew V) λch=>iA 141 cg aw λci=>sA 193 ci ch (drew V) λcj=>K (.tuple #[]) cj)))))))))) (λK1=>K1 (i 1) (i 2) h)
def auD:dI:=λi=>match i with
 | 0=>.run 0 11
 | 4=>(.of [(0,[]),(1,[]),(2,[]),(3,[]),(4,[]),(5,[]),(6,[]),(7,[]),(8,[]),(9,[3,7]),(10,[])])
 | 12=>(.of [(0,[]),(1,[]),(2,[]),(3,[]),(4,[]),(5,[]),(6,[4]),(7,[]),(8,[]),(9,[]),(10,[])])
 | 19=>.run 0 20
 | 22=>.run 0 8
 | _=>.nil
theorem abU(p0 u B:Value)(h:S256 w K p0 u B):CR 256 [p0,u,B] w K:=
 qO 134 auD 0 [] Tryz.func256 h
def auE:dI:=λi=>match i with
 | 0=>.run 0 17
 | _=>.nil
def S258(I i1 M E:Value):Prop:=
 aL 308 w λa b=>bB .eql 3 E (i 5) λc=>cV c (cF 294 [I,i1,M] b λd e=>sA 308 a d e λf=>lA 308 a f λr=>K r f) (bB .add 3 E (i 1) λg=>cF 258 [I,i1,M,g] b λh j=>
 aL 308 j λk l=>sA 308 k h l λn=>Q9 (λK1 o=>∀_:Env,
 fA 308 k 2 λp=>lA 31 p o λq=>bB .eql 31 q (i 0) λs=>cV s (px (λK2 W B t=>∀_:Env,
 cF 295 [E] t λu v=>lN 41 u λx=>bA .lss 3 B x λy=>cV y (fe (λK3=>fA 308 k 1 λz=>lA 3 z (drew v) λaa=>cF 295 [E] (drew v) λab U=>kA 3 z aa U (iA 41 ab B λad=>
 lA 3 ad U λae=>cF 296 [ae] U λaf ag=>kA 3 z aa ag (cF 209 [I,aa,af] ag λah ai=>cV ah (cF 295 [E] ai λaj ak=>iA 41 aj B λal=>lA 3 al ak λam=>K3 am ak) (
 K3 W ai)))) (λY an=>∀_:Env,
 bB .add 3 B (i 1) λao=>K2 Y ao an)) (bB .eql 3 W (i 0) λap=>cV ap (lA 308 k v λaq=>sA 308 a aq v λar=>lA 308 a ar λIy=>K Iy ar) (fA 308 k 1 λO=>
 lA 3 O v λau=>bB .add 3 au (i 1) λav=>bB .add 3 E (i 1) λaw=>cF 258 [I,av,M,aw] v λax ay=>aL 308 ay λJ az=>sA 308 J ax az λG=>fA 308 J 2 λa1=>
 lA 31 a1 G λa2=>bB .neq 31 a2 (i 0) λa3=>cV a3 (lA 308 J G λa4=>sA 308 a a4 G λa5=>lA 308 a a5 λOv=>K Ov a5) (fA 308 k 1 λa6=>lA 3 a6 G λa7=>iA 198 I a7 λa8=>
 fA 209 a8 3 λa9=>lA 3 a9 G λba=>eR hH (l2 164 [(0,W),(3,ba)].toArray) λbb=>bS 82 1 [(0,bb)] G λbc bd=>fA 308 k 0 λbe=>lA 82 be bd λbf=>
 aP 82 bc bf bd λbg bh=>fA 308 J 0 λbi=>lA 82 bi bh λbj=>aP 82 bg bj bh λbk bl=>fA 308 J 1 λbm=>lA 3 bm bl λbn=>eR hH (l2 308 [(0,bk),(1,bn)].toArray) λbo=>
 sA 308 k bo bl λV=>bB .eql 3 E (i 2) λbq=>cV bq (lA 308 k V λbr=>sA 308 a br V λbs=>lA 308 a bs λr_3=>K r_3 bs) (K1 V))))) λK2=>K2 (i 0) (i 0) o) (
 lA 308 k o λbt=>sA 308 a bt o λbu=>lA 308 a bu λZ=>K Z bu)) λK1=>K1 n)
def auF:dI:=λi=>match i with
 | 9=>(.of [(0,[]),(1,[]),(2,[]),(3,[]),(5,[]),(4,[2]),(6,[]),(7,[]),(8,[2]),(9,[])])
 | _=>.nil
theorem abV(B E G u:Value)(h:S258 w K B E G u):CR 258 [B,E,G,u] w K:=
 qO 91 auF 256 [.cell 8 308] Tryz.func258 h
def auG:dI:=λi=>match i with
 | 1=>.run 0 11
 | _=>.nil
def auH:dI:=λi=>match i with
 | 1=>.run 0 15
 | _=>.nil
def auI:dI:=λi=>match i with
 | 1=>.run 0 13
 | 2=>.run 0 15
 | _=>.nil
def S271(u E b2:Value):Prop:=
 fe (λB=>bB .lss 3 u (i 0) λa=>cV a (B tt w) (bB .geq 3 u (i 16) λb=>B b w)) (λc d=>∀_:Env,
 cV c (K (.tuple #[(i 0),(i 1)]) d) (cF 304 [] d λe f=>eR hH (u3 348 e u) λg=>bB .eql 288 g .nilFunc λh=>cV h (K (.tuple #[(i 0),(i 1)]) f) (fe (λK2=>
 bB .eql 3 u (i 8) λj=>cV j (bB .eql 3 b2 (i 0) λk=>K2 k f) (bB .eql 3 u (i 9) λl=>cV l (bB .eql 3 b2 (i 0) λn=>K2 n f) (K2 ff f))) (λo p=>∀_:Env,
 cV o (K (.tuple #[(i 0),(i 12)]) p) (kH hH g [E,b2] p λq r=>K (.tuple #[q,(i 0)]) r)))))
theorem abW(u B b2:Value)(h:S271 w K u B b2):CR 271 [u,B,b2] w K:=
 qO 36 (λ_=>.nil) 192 [.tmp 6,.tmp 7] Tryz.func271 h
def S275(E B b2:Value):Prop:=
 bB .eql 3 E (i 5) λa=>cV a (bA .add 3 B b2 λb=>K (.tuple #[b,(i 0)]) w) (bB .eql 3 E (i 6) λc=>cV c (bA .sub 3 B b2 λd=>K (.tuple #[d,(i 0)]) w) (bB .eql 3 E (i 7) λe=>
 cV e (bA .mul 3 B b2 λf=>K (.tuple #[f,(i 0)]) w) (bB .eql 3 E (i 8) λg=>cV g (bB .eql 3 b2 (i 0) λh=>cV h (K (.tuple #[(i 0),(i 12)]) w) (cF 306 [B,b2] w λj k=>
 K (.tuple #[j,(i 0)]) k)) (bB .eql 3 E (i 9) λl=>cV l (bB .eql 3 b2 (i 0) λn=>cV n (K (.tuple #[(i 0),(i 12)]) w) (cF 306 [B,b2] w λo p=>bA .mul 3 b2 o λq=>bA .sub 3 B q λr=>
 K (.tuple #[r,(i 0)]) p)) (bB .eql 3 E (i 10) λs=>cV s (bA .eql 3 B b2 λt=>cF 305 [t] w λu v=>K (.tuple #[u,(i 0)]) v) (bB .eql 3 E (i 11) λx=>cV x (bA .neq 3 B b2 λy=>
 cF 305 [y] w λz aa=>K (.tuple #[z,(i 0)]) aa) (bB .eql 3 E (i 12) λW=>cV W (bA .lss 3 B b2 λac=>cF 305 [ac] w λY ae=>K (.tuple #[Y,(i 0)]) ae) (bB .eql 3 E (i 13) λaf=>
 cV af (bA .leq 3 B b2 λag=>cF 305 [ag] w λJ ai=>K (.tuple #[J,(i 0)]) ai) (bB .eql 3 E (i 14) λaj=>cV aj (GG (λI=>bB .neq 3 B (i 0) λak=>cV ak (bB .neq 3 b2 (i 0) λal=>
 cF 305 [al] w λam an=>I am (i 0) an) (cF 305 [ff] w λao Z=>I ao (i 0) Z)) (λaq ar G=>∀_:Env,
 K (.tuple #[aq,ar]) G)) (bB .eql 3 E (i 15) λV=>cV V (GG (λK2=>bB .neq 3 B (i 0) λav=>cV av (cF 305 [tt] w λaw ax=>K2 aw (i 0) ax) (bB .neq 3 b2 (i 0) λay=>
 cF 305 [ay] w λM U=>K2 M (i 0) U)) (λO a3 a4=>∀_:Env,
 K (.tuple #[O,a3]) a4)) (K (.tuple #[(i 0),(i 1)]) w)))))))))))
theorem abX(u B b2:Value)(h:S275 w K u B b2):CR 275 [u,B,b2] w K:=
 qO 84 (λ_=>.nil) 192 [.tmp 6,.tmp 7] Tryz.func275 h
def S289(O G:Value):Prop:=
 px (λZ W M a=>∀_:Env,
 lN 141 O λb=>bA .lss 3 M b λc=>cV c (iA 141 O M λd=>lA 193 d a λe=>aL 193 a λf g=>sA 193 f e g λh=>fe (λK2=>fA 193 f 6 λj=>lA 3 j h λk=>
 bB .lss 3 k (i 0) λl=>cV l (K2 tt h) (fA 193 f 7 λn=>lA 3 n h λo=>bB .lss 3 o (i 0) λp=>cV p (K2 tt h) (fA 193 f 6 λq=>lA 3 q h λr=>bB .gtr 3 r (i 40) λs=>
 cV s (K2 tt h) (fA 193 f 7 λt=>lA 3 t h λu=>bB .gtr 3 u (i 40) λv=>cV v (K2 tt h) (bB .add 3 M (i 1) λx=>fA 193 f 6 λy=>lA 3 y h λz=>bA .add 3 x z λaa=>
 fA 193 f 7 λab=>lA 3 ab h λac=>bA .add 3 aa ac λad=>lN 141 O λae=>bA .gtr 3 ad ae λaf=>K2 af h))))) (λag B=>∀_:Env,
 cV ag (K (i (-1)) B) (fe (λE=>fA 193 f 6 λai=>lA 3 ai B λaj=>bB .gtr 3 aj (i 0) λak=>cV ak (fA 193 f 0 λal=>lA 3 al B λam=>bB .neq 3 am (i 11) λan=>
 cV an (fA 193 f 0 λao=>lA 3 ao B λap=>bB .neq 3 ap (i 12) λaq=>cV aq (E tt B) (fA 193 f 7 λar=>lA 3 ar B λV=>bB .gtr 3 V (i 0) λau=>cV au (fA 193 f 0 λav=>
 lA 3 av B λaw=>bB .neq 3 aw (i 11) λax=>cV ax (E tt B) (fA 193 f 0 λay=>lA 3 ay B λaz=>bB .eql 3 az (i 13) λa0=>cV a0 (bB .eql 3 G (i 0) λa1=>E a1 B) (
 E ff B))) (fA 193 f 0 λa2=>lA 3 a2 B λa3=>bB .eql 3 a3 (i 13) λa4=>cV a4 (bB .eql 3 G (i 0) λa5=>E a5 B) (E ff B)))) (fA 193 f 7 λa6=>lA 3 a6 B λa7=>
 bB .gtr 3 a7 (i 0) λa8=>cV a8 (fA 193 f 0 λa9=>lA 3 a9 B λba=>bB .neq 3 ba (i 11) λbb=>cV bb (E tt B) (fA 193 f 0 λbc=>lA 3 bc B λbd=>bB .eql 3 bd (i 13) λbe=>
 cV be (bB .eql 3 G (i 0) λbf=>E bf B) (E ff B))) (fA 193 f 0 λbg=>lA 3 bg B λbh=>bB .eql 3 bh (i 13) λbi=>cV bi (bB .eql 3 G (i 0) λbj=>E bj B) (
 E ff B)))) (fA 193 f 7 λbk=>lA 3 bk B λbl=>bB .gtr 3 bl (i 0) λbm=>cV bm (fA 193 f 0 λbn=>lA 3 bn B λbo=>bB .neq 3 bo (i 11) λbp=>cV bp (E tt B) (fA 193 f 0 λbq=>
 lA 3 bq B λbr=>bB .eql 3 br (i 13) λbs=>cV bs (bB .eql 3 G (i 0) λbt=>E bt B) (E ff B))) (fA 193 f 0 λbu=>lA 3 bu B λbv=>bB .eql 3 bv (i 13) λbw=>
 cV bw (bB .eql 3 G (i 0) λbx=>E bx B) (E ff B)))) (λbz J=>∀_:Env,
 cV bz (K (i (-1)) J) (bB .add 3 M (i 1) λb1=>fA 193 f 6 λb2=>lA 3 b2 (drew J) λb3=>bA .add 3 b1 b3 λb4=>fe (λK4=>fA 193 f 0 λb5=>lA 3 b5 (drew J) λb6=>
 bB .eql 3 b6 (i 12) λb7=>cV b7 (bB .add 3 G (i 1) λb8=>K4 b8 (drew J)) (K4 G (drew J))) (λI U=>∀_:Env,
 fe (λK5=>fe (λK6=>fA 193 f 0 λca=>lA 3 ca U λcb=>bB .eql 3 cb (i 11) λcc=>cV cc (K6 tt U) (fA 193 f 0 λcd=>lA 3 cd U λce=>bB .eql 3 ce (i 12) λcf=>
 K6 cf U)) (λcg ch=>∀_:Env,
 cV cg (bB .add 3 M (i 1) λci=>eR hH (n4 141 O (some ci) (some b4) none) λcj=>fA 193 f 7 λck=>lA 3 ck (drew ch) λcl=>bA .add 3 b4 cl λcm=>eR hH (n4 141 O (some b4) (some cm) none) λcn=>
 cF 289 [cj,I] (drew ch) λco cp=>kA 3 ck cl cp (cF 289 [cn,I] cp λcq cr=>fe (λK7=>bB .lss 3 co (i 0) λcs=>cV cs (K7 tt cr) (bB .lss 3 cq (i 0) λct=>K7 ct cr))
 (λcu cv=>∀_:Env,
 cV cu (K (i (-1)) cv) (bC .add 3 (i 1) co λcw=>bC .add 3 (i 1) cq λcx=>eR hH (Builtin.max_ #[3,3,3] 3 [W,cw,cx].toArray) λcy=>K5 cy cv)))) (K5 W ch))) (λY cz=>∀_:Env,
 fA 193 f 7 λc0=>lA 3 c0 cz λc1=>bA .add 3 b4 c1 λc2=>Z Y c2 cz))))))) (K W a)) (λZ=>Z (i 0) (i 0) w)
def auJ:dI:=λi=>match i with
 | 8=>.run 0 8
 | 12=>(.of [(0,[]),(1,[]),(2,[]),(3,[]),(4,[]),(5,[]),(7,[]),(8,[]),(9,[]),(10,[]),(11,[]),(12,[]),(13,[]),(14,[]),(6,[11]),(15,[]),(16,[]),(17,[])])
 | _=>.nil
theorem abY(u B:Value)(h:S289 w K u B):CR 289 [u,B] w K:=
 qO 135 auJ 16 [.tmp 4] Tryz.func289 h
theorem afz:PL 253:=dJ Tryz.func253
theorem afA:PL 254:=dJ Tryz.func254
theorem amU:PL 255:=dJ Tryz.func255
theorem afB:PL 256:=dJ Tryz.func256
theorem yD:PL 257:=dJ Tryz.func257
theorem Rk:PL 258:=dJ Tryz.func258
theorem amV:PL 259:=dJ Tryz.func259
theorem amW:PL 260:=dJ Tryz.func260
theorem amX:PL 261:=dJ Tryz.func261
theorem amY:PL 266:=dJ Tryz.func266
theorem V2:PL 267:=dJ Tryz.func267
theorem Rl:PL 268:=dJ Tryz.func268
theorem amZ:PL 269:=dJ Tryz.func269
theorem Rm:PL 270:=dJ Tryz.func270
theorem am0:PL 271:=dJ Tryz.func271
theorem afC:PL 272:=dJ Tryz.func272
theorem KD:PL 273:=dJ Tryz.func273
theorem am1:PL 274:=dJ Tryz.func274
theorem am2:PL 275:=dJ Tryz.func275
theorem am3:PL 276:=dJ Tryz.func276
theorem am4:PL 277:=dJ Tryz.func277
theorem am5:PL 288:=dJ Tryz.func288
theorem V3:PL 289:=dJ Tryz.func289
variable (w:World) (K:Value->hM)
def auK:dI:=λi=>match i with
 | 2=>.run 0 10
 | 4=>.run 0 13
 | _=>.nil
def auL:dI:=λi=>match i with
 | 2=>.run 0 13
 | 5=>.run 0 17
 | _=>.nil
def S294(B E U:Value):Prop:=
 aL 308 w λa b=>lN 198 B λc=>bA .geq 3 E c λd=>cV d (cF 320 [B,E,(i 6)] b λe f=>sA 308 a e f λg=>lA 308 a g λr=>K r g) (fe (λK1=>cF 209 [B,E,(Go.Value.string (kp (#[33])))] b λh j=>
 cV h (K1 tt j) (cF 209 [B,E,(Go.Value.string (kp (#[45])))] j λk l=>K1 k l)) (λM n=>∀_:Env,
 cF 209 [B,E,(Go.Value.string (kp (#[40])))] n λo p=>fe (λK2=>cV M (bB .eql 3 U (i 12) λq=>K2 q p) (cV o (bB .eql 3 U (i 12) λs=>K2 s p) (K2 ff p)))
 (λt u=>∀_:Env,
 cV t (cF 320 [B,E,(i 7)] u λv x=>sA 308 a v x λy=>lA 308 a y λIy=>K Iy y) (cV M (bB .add 3 E (i 1) λz=>bB .add 3 U (i 1) λaa=>cF 294 [B,z,aa] u λab ac=>
 aL 308 ac λJ ae=>sA 308 J ab ae λI=>fA 308 J 2 λag=>lA 31 ag I λah=>bB .neq 31 ah (i 0) λai=>cV ai (lA 308 J I λaj=>sA 308 a aj I λak=>lA 308 a ak λOv=>
 K Ov ak) (fe (λK3=>iA 198 B E λal=>fA 209 al 1 λam=>lA 9 am I λan=>eR hH (kj .eql 9 false true an (Go.Value.string (kp (#[45])))) λao=>
 cV ao (K3 (i 3) I) (K3 (i 4) I)) (λV0 ap=>∀_:Env,
 iA 198 B E λaq=>fA 209 aq 3 λar=>lA 3 ar ap λY=>eR hH (l2 164 [(0,V0),(3,Y)].toArray) λau=>bS 82 1 [(0,au)] ap λav aw=>fA 308 J 0 λax=>
 lA 82 ax aw λay=>aP 82 av ay aw λaz a0=>fA 308 J 0 λa1=>sA 82 a1 az a0 λa2=>lA 308 J a2 λa3=>sA 308 a a3 a2 λa4=>lA 308 a a4 λr_3=>K r_3 a4))) (cV o (
 bB .add 3 E (i 1) λa5=>bB .add 3 U (i 1) λa6=>cF 258 [B,a5,a6,(i 0)] u λa7 a8=>aL 308 a8 λG ba=>sA 308 G a7 ba λO=>fA 308 G 2 λbc=>lA 31 bc O λbd=>
 bB .neq 31 bd (i 0) λbe=>cV be (lA 308 G O λbf=>sA 308 a bf O λbg=>lA 308 a bg λr_4=>K r_4 bg) (fA 308 G 1 λbh=>lA 3 bh O λbi=>cF 209 [B,bi,(Go.Value.string (kp (#[41])))] O λbj V=>
 eR hH (Op.unary .not bj) λbl=>cV bl (fA 308 G 1 λbm=>lA 3 bm V λbn=>cF 320 [B,bn,(i 5)] V λbo bp=>sA 308 a bo bp λbq=>lA 308 a bq λr_5=>K r_5 bq) (
 fA 308 G 1 λbr=>lA 3 br V λbs=>bB .add 3 bs (i 1) λbt=>fA 308 G 1 λbu=>sA 3 bu bt V λbv=>lA 308 G bv λbw=>sA 308 a bw bv λbx=>lA 308 a bx λr_6=>
 K r_6 bx))) (iA 198 B E λbz=>fA 209 bz 0 λb0=>lA 3 b0 u λb1=>bB .eql 3 b1 (i 2) λb2=>cV b2 (iA 198 B E λb3=>fA 209 b3 2 λb4=>lA 3 b4 (drew u) λb5=>
 iA 198 B E λb6=>fA 209 b6 3 λb7=>lA 3 b7 (drew u) λb8=>eR hH (l2 164 [(0,(i 1)),(1,b5),(3,b8)].toArray) λb9=>bB .add 3 E (i 1) λca=>bS 82 1 [(0,b9)] (drew u) λcb cc=>
 eR hH (l2 308 [(0,cb),(1,ca)].toArray) λcd=>sA 308 a cd cc λce=>lA 308 a ce λZ=>K Z ce) (fe (λK4=>iA 198 B E λcf=>fA 209 cf 0 λcg=>
 lA 3 cg u λch=>bB .eql 3 ch (i 1) λci=>cV ci (iA 198 B E λcj=>fA 209 cj 1 λck=>lA 9 ck u λcl=>cF 211 [cl] u λcm cn=>K4 cm cn) (K4 ff u)) (λco W=>∀_:Env,
 cV co (iA 198 B E λcq=>fA 209 cq 1 λcr=>lA 9 cr (drew W) λcs=>iA 198 B E λct=>fA 209 ct 3 λcu=>lA 3 cu (drew W) λcv=>eR hH (l2 164 [(0,(i 2)),(2,cs),(3,cv)].toArray) λcw=>
 bB .add 3 E (i 1) λcx=>bS 82 1 [(0,cw)] (drew W) λcy cz=>eR hH (l2 308 [(0,cy),(1,cx)].toArray) λc0=>sA 308 a c0 cz λc1=>lA 308 a c1 λr_8=>
 K r_8 c1) (cF 320 [B,E,(i 5)] W λc2 c3=>sA 308 a c2 c3 λc4=>lA 308 a c4 λr_9=>K r_9 c4)))))))))
def auR:dI:=λi=>match i with
 | 27=>(.of [(0,[]),(1,[]),(2,[]),(3,[]),(4,[]),(5,[]),(6,[]),(7,[]),(8,[]),(9,[]),(10,[]),(12,[]),(13,[]),(11,[]),(14,[]),(15,[])])
 | 29=>(.of [(0,[]),(1,[]),(2,[]),(3,[]),(4,[]),(5,[]),(6,[]),(7,[]),(8,[]),(9,[]),(10,[]),(12,[]),(13,[]),(11,[]),(14,[]),(15,[])])
 | _=>.nil
theorem abZ(u E B:Value)(h:S294 w K u E B):CR 294 [u,E,B] w K:=
 qO 152 auR 64 [.cell 6 308] Tryz.func294 h
def S304:Prop:=
 aL 348 w λa b=>aL 348 b λB c=>iA 348 B (i 5) λd=>sA 288 d (.func (.func 324) #[] #[]) c λe=>iA 348 B (i 6) λf=>sA 288 f (.func (.func 325) #[] #[]) e λg=>
 iA 348 B (i 7) λh=>sA 288 h (.func (.func 326) #[] #[]) g λj=>iA 348 B (i 8) λk=>sA 288 k (.func (.func 327) #[] #[]) j λl=>iA 348 B (i 9) λn=>sA 288 n (.func (.func 328) #[] #[]) l λo=>
 kH hH (.func (.func 322) #[] #[]) [(.func (.func 329) #[] #[])] o λp q=>iA 348 B (i 10) λs=>sA 288 s p q λt=>kH hH (.func (.func 322) #[] #[]) [(.func (.func 330) #[] #[])] t λu v=>
 iA 348 B (i 11) λx=>sA 288 x u v λy=>kH hH (.func (.func 322) #[] #[]) [(.func (.func 331) #[] #[])] y λz aa=>iA 348 B (i 12) λJ=>sA 288 J z aa λac=>
 kH hH (.func (.func 322) #[] #[]) [(.func (.func 332) #[] #[])] ac λM Z=>iA 348 B (i 13) λaf=>sA 288 af M Z λU=>kH hH (.func (.func 322) #[] #[]) [(.func (.func 333) #[] #[])] U λI Y=>
 iA 348 B (i 14) λV=>sA 288 V I Y λW=>kH hH (.func (.func 322) #[] #[]) [(.func (.func 334) #[] #[])] W λal am=>iA 348 B (i 15) λan=>sA 288 an al am λE=>
 lA 348 B E λO=>sA 348 a O E λG=>lA 348 a G λr=>K r G
theorem ab0(h:S304 w K):CR 304 [] w K:=
 qO 27 (λ_=>.nil) 1 [.cell 0 348] Tryz.func304 h
def S307(E a:Value):Prop:=
 lA 179 a w λb=>lN 179 b λc=>bB .sub 3 c (i 1) λd=>kJ (λB u e=>∀_:Env,
 bB .geq 3 u (i 0) λf=>cV f (lA 179 a e λg=>iA 179 g u λh=>lA 231 h e λj=>kH hH E [u,j] e λk l=>eR hH (Op.unary .not k) λn=>cV n (
 K (.tuple #[]) l) (bB .sub 3 u (i 1) λo=>B o l)) (K (.tuple #[]) e)) (λB=>B d w)
theorem ab1(u B:Value)(h:S307 w K u B):CR 307 [u,B] w K:=
 qO 19 (λ_=>.nil) 0 [] Tryz.func307 h
def S315(u:Value):Prop:=
 fe (λB=>bB .lss 3 u (i 1) λa=>cV a (B tt w) (bB .gtr 3 u (i 14) λb=>B b w)) (λc d=>∀_:Env,
 cV c (K (Go.Value.string (kp (#[]))) d) (bS 91 15 [(0,(Go.Value.string (kp (#[])))),(1,(Go.Value.string (kp (#[114,101])))),(2,(Go.Value.string (kp (#[114,110])))),(3,(Go.Value.string (kp (#[110,101])))),(4,(Go.Value.string (kp (#[114,110,101,102])))),(5,(Go.Value.string (kp (#[110])))),(6,(Go.Value.string (kp (#[110])))),(7,(Go.Value.string (kp (#[])))),(8,(Go.Value.string (kp (#[])))),(9,(Go.Value.string (kp (#[110])))),(10,(Go.Value.string (kp (#[110])))),(11,(Go.Value.string (kp (#[101,98])))),(12,(Go.Value.string (kp (#[107,98])))),(13,(Go.Value.string (kp (#[])))),(14,(Go.Value.string (kp (#[101]))))] d λe f=>
 iA 91 e u λg=>lA 9 g f λh=>K h f))
theorem ab2(u:Value)(h:S315 w K u):CR 315 [u] w K:=
 qO 13 (λ_=>.nil) 4 [.tmp 2] Tryz.func315 h
def auS:dI:=λi=>match i with
 | 1=>.run 0 45
 | 3=>.run 0 13
 | _=>.nil
def auT:dI:=λi=>match i with
 | 3=>.run 0 18
 | _=>.nil
def auU:dI:=λi=>match i with
 | 1=>.run 0 31
 | 2=>.run 0 12
 | _=>.nil
def S320(B G I:Value):Prop:=
 aL 308 w λa b=>fe (λE=>lN 198 B λc=>bA .geq 3 G c λd=>cV d (E (i 6) b) (E I b)) (λu e=>∀_:Env,
 cF 214 [B,G] e λf g=>eR hH (l2 308 [(2,u),(3,f)].toArray) λh=>sA 308 a h g λj=>lA 308 a j λr=>K r j)
theorem ab3(B E u:Value)(h:S320 w K B E u):CR 320 [B,E,u] w K:=
 qO 16 (λ_=>.nil) 64 [.cell 6 308] Tryz.func320 h
theorem am6:PL 290:=dJ Tryz.func290
theorem GM:PL 291:=dJ Tryz.func291
theorem am7:PL 292:=dJ Tryz.func292
theorem afD:PL 293:=dJ Tryz.func293
theorem afE:PL 294:=dJ Tryz.func294
theorem V4:PL 295:=dJ Tryz.func295
theorem am8:PL 296:=dJ Tryz.func296
theorem am9:PL 297:=dJ Tryz.func297
theorem ana:PL 298:=dJ Tryz.func298
theorem anb:PL 299:=dJ Tryz.func299
theorem anc:PL 300:=dJ Tryz.func300
theorem ane:PL 301:=dJ Tryz.func301
theorem V5:PL 302:=dJ Tryz.func302
theorem KE:PL 303:=dJ Tryz.func303
theorem anf:PL 304:=dJ Tryz.func304
theorem Ad:PL 305:=dJ Tryz.func305
theorem afF:PL 306:=dJ Tryz.func306
theorem ang:PL 307:=dJ Tryz.func307
theorem anh:PL 315:=dJ Tryz.func315
theorem KF:PL 316:=dJ Tryz.func316
theorem D5:PL 317:=dJ Tryz.func317
theorem KG:PL 318:=dJ Tryz.func318
theorem ani:PL 319:=dJ Tryz.func319
theorem Rn:PL 320:=dJ Tryz.func320
theorem anj:PL 321:=dJ Tryz.func321
theorem GN:PL 322:=dJ Tryz.func322
theorem GO:PL 323:=dJ Tryz.func323
theorem ank:PL 324:=dJ Tryz.func324
theorem anl:PL 325:=dJ Tryz.func325
theorem anm:PL 326:=dJ Tryz.func326
theorem ann:PL 327:=dJ Tryz.func327
theorem ano:PL 328:=dJ Tryz.func328
theorem anp:PL 329:=dJ Tryz.func329
theorem anq:PL 330:=dJ Tryz.func330
theorem anr:PL 331:=dJ Tryz.func331
theorem ans:PL 332:=dJ Tryz.func332
theorem ant:PL 333:=dJ Tryz.func333
theorem anu:PL 334:=dJ Tryz.func334
end Go.Proofs.YtpdlpabnlkofmaaGreatDoor
namespace Go.Fw
def mR(w:World)(b:Nat)(cs:List Value):Prop:=∃u,w.heap[b]?=some (.cells cs.toArray u (0,0))
def Cell(w:World)(b o:Nat)(v:Value):Prop:=w.cell? ⟨b,o,none⟩=some v
structure gu(A:Nat->Prop)(w w':World):Prop where
 os:w'.os=w.os
 tape:w'.tape=w.tape
 output:w'.output=w.output
 size:w.heap.size<=w'.heap.size
 bY:∀b,b<w.heap.size->¬ A b->w'.heap[b]?=w.heap[b]?
def bD:Nat->Prop:=λ_=>False
abbrev Ext(w w':World):Prop:=gu bD w w'
def gu.refl(A:Nat->Prop)(w:World):gu A w w:=⟨rfl,rfl,rfl,o1 _,λ_ _ _=>rfl⟩
def gu.trans{A B C:Nat->Prop}{w G I:World}(h:gu A w G)(k:gu B G I)(M:∀b,A b->C b)(J:∀b,b<w.heap.size->B b->C b):gu C w I:=
 ⟨k.os.trans h.os,k.tape.trans h.tape,k.output.trans h.output,wc h.size k.size,λb hb E=>
  (k.bY b (Nat.lt_of_lt_of_le hb h.size) λu=>E (J b hb u)).trans (h.bY b hb λu=>E (M b u))⟩
def gu.then{A:Nat->Prop}{w u B:World}(h:gu A w u)(k:Ext u B):gu A w B:=h.trans k (λ_ h=>h) λ_ _ h=>h.elim
def gu.mono{A B:Nat->Prop}{w w':World}(h:gu A w w')(u:∀b,A b->B b):gu B w w':=⟨h.os,h.tape,h.output,h.size,λb hb E=>h.bY b hb λx=>E (u b x)⟩
def Ext.refl(w:World):Ext w w:=gu.refl _ _
def Ext.trans{w u B:World}(h:Ext w u)(k:Ext u B):Ext w B:=gu.then h k
def Ext.aG{A:Nat->Prop}{w w':World}(h:Ext w w'):gu A w w':=h.mono λ_ h=>h.elim
theorem Ext.drew(w:World):Ext w (drew w):=⟨rfl,rfl,rfl,o1 _,λ_ _ _=>rfl⟩
def ve{w:World}{b:Nat}{o:Obj}(h:w.heap[b]?=some o):b<w.heap.size:=(Ct.1 h).1
def mR.lt{w:World}{b:Nat}{cs:List Value}(h:mR w b cs):b<w.heap.size:=ve h.choose_spec
def Cell.lt{w:World}{b o:Nat}{v:Value}(h:Cell w b o v):b<w.heap.size:=by
 unfold Cell P8 at h
 grind
def Cell.of_eq{w w':World}{b o:Nat}{v:Value}(h:Cell w b o v)(u:w'.heap[b]?=w.heap[b]?):Cell w' b o v:=by
 unfold Cell P8 at *
 grind
def mR.of_eq{w w':World}{b:Nat}{cs:List Value}(h:mR w b cs)(u:w'.heap[b]?=w.heap[b]?):mR w' b cs:=by
 grind[mR]
def Cell.aG{A:Nat->Prop}{w w':World}{b o:Nat}{v:Value}(h:Cell w b o v)(hc:gu A w w')(u:¬ A b):Cell w' b o v:=h.of_eq (hc.bY b h.lt u)
theorem Cell.ext{w w':World}{b o:Nat}{v:Value}(h:Cell w b o v)(hc:Ext w w'):Cell w' b o v:=h.aG hc (λx=>x)
def mR.cell{w:World}{b o:Nat}{cs:List Value}{v:Value}(h:mR w b cs)(u:cs[o]?=some v):Cell w b o v:=by
 obtain⟨B,h⟩:=h
 unfold Cell P8
 grind
def mR.frozen{w:World}{b o:Nat}{cs:List Value}(h:mR w b cs):w.frozen? ⟨b,o,none⟩=false:=by
 obtain⟨u,h⟩:=h
 unfold World.frozen?
 grind
def IA(w:World)(b o:Nat)(v:Value)(k:Nat)(h:k≠b):(w.setCell ⟨b,o,none⟩ v).heap[k]?=w.heap[k]?:=by
 simp only[aaw,O7]
 grind
def mR.setCell{w:World}{b o:Nat}{cs:List Value}(h:mR w b cs)(v:Value):mR (w.setCell ⟨b,o,none⟩ v) b (cs.set o v):=by
 obtain⟨u,h⟩:=h
 refine⟨u,?_⟩
 simp only[aaw,O7,if_true,h]
 simp
def gu.setCell(w:World)(b o:Nat)(v:Value):gu (· = b) w (w.setCell ⟨b,o,none⟩ v):=
 ⟨rfl,rfl,rfl,by simp_all,λk _ u=>IA w b o v k u⟩
def push(w:World)(o:Obj):World:={w with heap:=w.heap.push o}
def xQ(w:World)(o:Obj)(k:Nat)(h:k<w.heap.size):(push w o).heap[k]?=w.heap[k]?:=by
 grind[push]
def mj(w:World)(o:Obj):(push w o).heap[w.heap.size]?=some o:=by
 grind[push]
theorem BI(w:World)(o:Obj):(push w o).heap.size=w.heap.size+1:=by simp[push]
theorem Ext.push(w:World)(o:Obj):Ext w (push w o):=⟨rfl,rfl,rfl,by rw[BI];omega,λb hb _=>xQ w o b hb⟩
theorem mR.push(w:World)(cs:List Value)(u:TypeId):mR (push w (.cells cs.toArray u)) w.heap.size cs:=⟨u,mj _ _⟩
structure HP where
 p:World->(Nat->Prop)->Prop
 loc:∀w w' F,p w F->(∀b,F b->w'.heap[b]?=w.heap[b]?)->p w' F
 lt:∀w F b,p w F->F b->b<w.heap.size
def bY(b:Nat)(cs:List Value):HP where
 p w F:=mR w b cs/\∀k,F k↔k=b
 loc w w' F h hh:=⟨h.1.of_eq (hh b ((h.2 b).2 rfl)),h.2⟩
 lt w F b' h hb:=by rw[(h.2 b').1 hb];exact h.1.lt
def rT(w0:World)(A:Nat->Prop):List HP->World->(Nat->Prop)->Prop
 | [],_,U=>∀b,¬ U b
 | H::L,w,U=>∃F u,H.p w F/\(∀b,F b->A b\/w0.heap.size<=b)/\(∀b,F b->¬ u b)/\(∀b,U b↔F b\/u b)/\rT w0 A L w u
structure St(w0:World)(A:Nat->Prop)(L:List HP)(w:World):Prop where
 aG:gu A w0 w
 tQ:∃U,rT w0 A L w U
theorem rT.lt{w0:World}{A:Nat->Prop}{L:List HP}{w:World}{U:Nat->Prop}(h:rT w0 A L w U):∀b,U b->b<w.heap.size:=by
 induction L generalizing U with
 | nil=>intro b hb;exact(h b hb).elim
 | cons H L u=>
  obtain⟨F,B,h1,h2,h3,h4,h5⟩:=h
  intro b hb
  rcases(h4 b).1 hb with hf|hu
  .exact H.lt _ _ _ h1 hf
  .exact u h5 b hu
theorem rT.loc{w0:World}{A:Nat->Prop}{L:List HP}{w w':World}{U:Nat->Prop}(h:rT w0 A L w U)(u:∀b,U b->w'.heap[b]?=w.heap[b]?):rT w0 A L w' U:=by
 induction L generalizing U with
 | nil=>exact h
 | cons H L E=>
  obtain⟨F,B,h1,h2,h3,h4,h5⟩:=h
  exact⟨F,B,H.loc _ _ _ h1 λb hb=>u b ((h4 b).2 (.inl hb)),h2,h3,h4,E h5 λb hb=>u b ((h4 b).2 (.inr hb))⟩
def St.start(w:World):St w bD [] w:=⟨gu.refl _ _,bD,λ_ h=>h⟩
def St.begin{w:World}{F:Nat->Prop}{H:HP}(h:H.p w F):St w F [H] w:=
 ⟨gu.refl _ _,F,F,bD,h,λ_ h=>.inl h,λ_ _ h=>h,λ_=>⟨.inl,λh=>h.elim id λh=>h.elim⟩,λ_ h=>h⟩
theorem St.ext{w0:World}{A:Nat->Prop}{L:List HP}{w w':World}(h:St w0 A L w)(e:Ext w w'):St w0 A L w':=by
 obtain⟨U,u⟩:=h.tQ
 exact⟨h.aG.then e,U,u.loc λb hb=>e.bY b (u.lt b hb) λx=>x⟩
theorem St.drew{w0:World}{A:Nat->Prop}{L:List HP}{w:World}(h:St w0 A L w):St w0 A L (drew w):=h.ext (Ext.drew w)
def St.new{w0:World}{A:Nat->Prop}{L:List HP}{w w':World}{H:HP}{F:Nat->Prop}(h:St w0 A L w)(e:Ext w w')(I:H.p w' F)(J:∀b,F b->w.heap.size<=b):St w0 A (H::L) w':=by
 obtain⟨U,M⟩:=(h.ext e).tQ
 obtain⟨E,u⟩:=h.tQ
 have B:rT w0 A L w' E:=u.loc λb hb=>e.bY b (u.lt b hb) (λx=>x)
 refine⟨(h.ext e).aG,λb=>F b\/E b,F,E,I,λb hb=>.inr ?_,λb hb G=>?_,λb=>Iff.rfl,B⟩
 .exact wc h.aG.size (J b hb)
 have:=u.lt b G;grind
def St.ry{w0:World}{A:Nat->Prop}{L:List HP}{w w':World}{H H':HP}(h:St w0 A (H::L) w)
  (M:∀F,H.p w F->∃B,H'.p w' B/\(∀b,B b->F b\/w.heap.size<=b)/\gu F w w'):St w0 A (H'::L) w':=by
 obtain⟨U,F,G,h1,h2,h3,h4,h5⟩:=h.tQ
 obtain⟨B,O,I,E⟩:=M F h1
 refine⟨h.aG.trans E (λ_ h=>h) λb hb u=>?_,λb=>B b\/G b,B,G,O,λb hb=>?_,λb hb J=>?_,λb=>Iff.rfl,?_⟩
 .grind
 .rcases I b hb with u|u
  .grind
  exact .inr (wc h.aG.size u)
 .rcases I b hb with u|u
  .grind
  have:=h5.lt b J;omega
 exact h5.loc λb hb=>E.bY b (h5.lt b hb) λu=>h3 b u hb
def St.drop{w0:World}{A:Nat->Prop}{L:List HP}{w:World}{H:HP}(h:St w0 A (H::L) w):St w0 A L w:=by
 obtain⟨U,F,u,h1,h2,h3,h4,h5⟩:=h.tQ
 exact⟨h.aG,u,h5⟩
def St.swap{w0:World}{A:Nat->Prop}{L:List HP}{w:World}{H H':HP}(h:St w0 A (H::H'::L) w):St w0 A (H'::H::L) w:=by
 obtain⟨U,F,O,h1,h2,h3,h4,E,u,G,I,J,V,B⟩:=h.tQ
 refine⟨h.aG,U,E,λb=>F b\/u b,G,I,λb hb=>?_,λb=>?_,F,u,h1,h2,λb hb M=>?_,λb=>Iff.rfl,B⟩
 .grind
 .grind
 grind
def rT.swap{w0:World}{A:Nat->Prop}{L:List HP}{w:World}{H H':HP}{U:Nat->Prop}(h:rT w0 A (H::H'::L) w U):rT w0 A (H'::H::L) w U:=by
 obtain⟨F,O,h1,h2,h3,h4,E,u,G,I,J,V,B⟩:=h
 refine⟨E,λb=>F b\/u b,G,I,λb hb=>?_,λb=>?_,F,u,h1,h2,λb hb M=>?_,λb=>Iff.rfl,B⟩
 .grind
 .grind
 grind
def rT.under{w0:World}{A:Nat->Prop}{L L':List HP}{w:World}{H:HP}{U:Nat->Prop}(u:∀U,rT w0 A L w U->rT w0 A L' w U)(h:rT w0 A (H::L) w U):rT w0 A (H::L') w U:=by
 grind[rT]
theorem rT.pull{w0:World}{A:Nat->Prop}{u B:List HP}{w:World}{H:HP}{U:Nat->Prop}(h:rT w0 A (u++H::B) w U):rT w0 A (H::(u++B)) w U:=by
 induction u generalizing U with
 | nil=>exact h
 | cons X u E=>exact rT.swap (rT.under (λU h=>E h) h)
def St.pull{w0:World}{A:Nat->Prop}{w:World}(u:List HP){H:HP}{B:List HP}(h:St w0 A (u++H::B) w):St w0 A (H::(u++B)) w:=by
 obtain⟨U,E⟩:=h.tQ
 exact⟨h.aG,U,E.pull⟩
def St.p1{w0:World}{A:Nat->Prop}{w:World}{u H:HP}{R:List HP}(h:St w0 A (u::H::R) w):St w0 A (H::u::R) w:=St.pull [u] h
def St.p2{w0:World}{A:Nat->Prop}{w:World}{B u H:HP}{R:List HP}(h:St w0 A (B::u::H::R) w):St w0 A (H::B::u::R) w:=St.pull [B,u] h
def St.p3{w0:World}{A:Nat->Prop}{w:World}{E u B H:HP}{R:List HP}(h:St w0 A (E::u::B::H::R) w):St w0 A (H::E::u::B::R) w:=St.pull [E,u,B] h
def St.p4{w0:World}{A:Nat->Prop}{w:World}{E u B G H:HP}{R:List HP}(h:St w0 A (E::u::B::G::H::R) w):St w0 A (H::E::u::B::G::R) w:=St.pull [E,u,B,G] h
def St.p5{w0:World}{A:Nat->Prop}{w:World}{E u B G P4 H:HP}{R:List HP}(h:St w0 A (E::u::B::G::P4::H::R) w):St w0 A (H::E::u::B::G::P4::R) w:=St.pull [E,u,B,G,P4] h
def St.p6{w0:World}{A:Nat->Prop}{w:World}{G B E I P4 u H:HP}{R:List HP}(h:St w0 A (G::B::E::I::P4::u::H::R) w):St w0 A (H::G::B::E::I::P4::u::R) w:=St.pull [G,B,E,I,P4,u] h
def St.p7{w0:World}{A:Nat->Prop}{w:World}{G B E I P4 u J H:HP}{R:List HP}(h:St w0 A (G::B::E::I::P4::u::J::H::R) w):St w0 A (H::G::B::E::I::P4::u::J::R) w:=St.pull [G,B,E,I,P4,u,J] h
def St.p8{w0:World}{A:Nat->Prop}{w:World}{I B G J P4 u M E H:HP}{R:List HP}(h:St w0 A (I::B::G::J::P4::u::M::E::H::R) w):St w0 A (H::I::B::G::J::P4::u::M::E::R) w:=St.pull [I,B,G,J,P4,u,M,E] h
def St.p9{w0:World}{A:Nat->Prop}{w:World}{J E I M P4 B O G u H:HP}{R:List HP}(h:St w0 A (J::E::I::M::P4::B::O::G::u::H::R) w):St w0 A (H::J::E::I::M::P4::B::O::G::u::R) w:=St.pull [J,E,I,M,P4,B,O,G,u] h
def St.p10{w0:World}{A:Nat->Prop}{w:World}{J E I M P4 B O G u P9 H:HP}{R:List HP}(h:St w0 A (J::E::I::M::P4::B::O::G::u::P9::H::R) w):St w0 A (H::J::E::I::M::P4::B::O::G::u::P9::R) w:=St.pull [J,E,I,M,P4,B,O,G,u,P9] h
def St.p11{w0:World}{A:Nat->Prop}{w:World}{M G J O P4 E U I B P9 u H:HP}{R:List HP}(h:St w0 A (M::G::J::O::P4::E::U::I::B::P9::u::H::R) w):St w0 A (H::M::G::J::O::P4::E::U::I::B::P9::u::R) w:=St.pull [M,G,J,O,P4,E,U,I,B,P9,u] h
def St.p12{w0:World}{A:Nat->Prop}{w:World}{M E J O P4 G U I B P9 u P11 H:HP}{R:List HP}(h:St w0 A (M::E::J::O::P4::G::U::I::B::P9::u::P11::H::R) w):St w0 A (H::M::E::J::O::P4::G::U::I::B::P9::u::P11::R) w:=St.pull [M,E,J,O,P4,G,U,I,B,P9,u,P11] h
def St.p0{w0:World}{A:Nat->Prop}{w:World}{L:List HP}(h:St w0 A L w):St w0 A L w:=h
def St.head{w0:World}{A:Nat->Prop}{L:List HP}{w:World}{H:HP}(h:St w0 A (H::L) w):∃F,H.p w F/\∀b,F b->A b\/w0.heap.size<=b:=by
 obtain⟨U,F,u,h1,h2,_⟩:=h.tQ;grind
theorem St.hb{w0:World}{A:Nat->Prop}{L:List HP}{w:World}{b:Nat}{cs:List Value}(h:St w0 A (bY b cs::L) w):mR w b cs:=by
 obtain⟨F,h1,_⟩:=h.head;exact h1.1
def wB:Value->Bool
 | .agg _=>false
 | .tuple _=>false
 | _=>true
def dF(P:Program)(T:TypeId):Option (Bool×Nat):=
 match P.underlying T with
 | some d=>(P.info? T).map λi=>(match d with|.struct _|.array _ _=>true|_=>false,i.size)
 | none=>none
def aU(P:Program)(T f:Nat):Option (Nat×Option Bool):=
 match P.underlying T with
 | some (.struct B)=>(B[f]?).map λu=>(u.offset,(P.info? u.type).map λi=>i.size != 0)
 | _=>none
def eN(P:Program)(T:TypeId):Option (TypeId×Nat×Nat×Option Nat):=
 match P.underlying T with
 | some (.slice E)=>(P.info? E).map λi=>(E,i.size,i.bytes,i.zero.map λz=>z.cells.size)
 | _=>none
def ep(P:Program)(T:TypeId):Option (Option Value):=(P.info? T).map λi=>i.zero
abbrev V6(P:Program)(T:TypeId):Prop:=dF P T=some (false,1)
abbrev ab4(P:Program)(T:TypeId)(n:Nat):Prop:=dF P T=some (true,n)
abbrev wC(P:Program)(T f u:Nat):Prop:=aU P T f=some (u,some true)
abbrev Vi(P:Program)(T E n bytes:Nat):Prop:=eN P T=some (E,n,bytes,some n)
abbrev oo(P:Program)(T:TypeId)(z:Value):Prop:=ep P T=some (some z)
theorem ml{P:Program}{T:TypeId}{i:TypeInfo}(h:P.info? T=some i):pr P (typeInfo T)=some i:=by
 show pr P (match P.info? T with|some i => pure i|none => stuck "no such type")=_
 rw[h];rfl
theorem cZ{P:Program}{T:TypeId}{d:TypeDesc}(h:P.underlying T=some d):pr P (underlying T)=some d:=by
 show pr P (match P.underlying T with|some d => pure d|none => stuck "no such type")=_
 rw[h];rfl
theorem mS{P:Program}{T:TypeId}{i:TypeInfo}(h:P.info? T=some i):pr P (sizeOf T)=some i.size:=by
 unfold sizeOf;rw[cX,ml h];rfl
theorem xR{P:Program}{α β:Type}(m:Sem α)(f:α->β):pr P (do pure (f (<- m)))=(pr P m).map f:=by
 rw[cX];cases pr P m<;>rfl
theorem lC{P:Program}{T:TypeId}{a:Bool}{n:Nat}(h:dF P T=some (a,n)):pr P (isAgg T)=some a/\pr P (sizeOf T)=some n:=by
 unfold dF at h
 cases hd:P.underlying T with
 | none=>grind
 | some d=>
  rw[hd]at h
  cases hi:P.info? T with
  | none=>grind
  | some i=>
   rw[hi]at h
   simp only[D4,oe.injEq,aal.injEq]at h
   obtain⟨h1,h2⟩:=h
   refine⟨?_,by rw[mS hi,h2]⟩
   unfold isAgg
   rw[cX,cZ hd]
   show pr P (match d with|.struct _|.array _ _=>pure true|_=>pure false)=_
   rw[<- h1]
   cases d<;>rfl
theorem fp{P:Program}{T E n u:Nat}{z:Option Nat}(h:eN P T=some (E,n,u,z)) :
  P.underlying T=some (.slice E)/\∃i,P.info? E=some i/\i.size=n/\i.bytes=u/\i.zero.map (λz=>z.cells.size)=z:=by
 unfold eN at h
 split at h
 .rename_i E' hE
  cases hi:P.info? E' with
  | none=>grind
  | some i=>
   grind
 cases h
section
variable {P:Program}{w:World}
theorem pop{m:Sem Value}{v:Value}{K:Value->Prop}(h:pr P m=some v)(k:K v):eR P m K:=⟨v,h,k⟩
theorem aE{a:Addr}{K:Value->Prop}(k:K (.pointer (some a))):eR P (To (.pointer (some a))) K:=⟨_,rfl,k⟩
theorem bR{b:Bool}{K:Value->Prop}(k:K (.bool (!b))):eR P (Op.unary .not (.bool b)) K:=⟨_,rfl,k⟩
theorem KH{p:Prop}[Decidable p]{K:Value->Prop}(k:K (.bool (decide (¬ p)))):eR P (Op.unary .not (.bool (decide p))) K:=by
 refine bR ?_
 grind
theorem aQ{vs:List Value}{i:Nat}{v:Value}{K:Value->Prop}(h:vs[i]?=some v)(k:K v):eR P (QH (.tuple vs.toArray) i) K:=
 ⟨v,by simp only[QH,OT,h];rfl,k⟩
theorem aR{T:Nat}{cx cy:Bool}{a b:Int}{K:Value->Prop}(k:K (.bool (decide (a<b)))):eR P (kj .lss T cx cy (hZ a) (hZ b)) K:=⟨_,rfl,k⟩
theorem iB{T:Nat}{cx cy:Bool}{a b:Int}{K:Value->Prop}(k:K (.bool (decide (a<=b)))):eR P (kj .leq T cx cy (hZ a) (hZ b)) K:=⟨_,rfl,k⟩
theorem cO{T:Nat}{cx cy:Bool}{a b:Int}{K:Value->Prop}(k:K (.bool (decide (b<a)))):eR P (kj .gtr T cx cy (hZ a) (hZ b)) K:=⟨_,rfl,k⟩
theorem cR{T:Nat}{cx cy:Bool}{a b:Int}{K:Value->Prop}(k:K (.bool (decide (b<=a)))):eR P (kj .geq T cx cy (hZ a) (hZ b)) K:=⟨_,rfl,k⟩
theorem aH{T:Nat}{cx cy:Bool}{a b:Int}{K:Value->Prop}(k:K (.bool (decide (a=b)))):eR P (kj .eql T cx cy (hZ a) (hZ b)) K:=⟨_,rfl,k⟩
theorem bW{T:Nat}{cx cy:Bool}{a b:Int}{K:Value->Prop}(k:K (.bool (decide (a≠b)))):eR P (kj .neq T cx cy (hZ a) (hZ b)) K:=
 ⟨_,(show pr P (kj .neq T cx cy (hZ a) (hZ b))=some (.bool (decide (a≠b)))from by
  show some (wA (a != b))=_
  grind),k⟩
theorem aN{T:Nat}{cx cy:Bool}{a b:Int}{K:Value->Prop}(h : -9223372036854775808<=a+b/\a+b<=9223372036854775807)(k:K (hZ (a+b))) :
  eR P (kj .add T cx cy (hZ a) (hZ b)) K:=
 ⟨_,(show pr P (kj .add T cx cy (hZ a) (hZ b))=some (hZ (a+b))from by
  show some (nf .i64 (IntKind.i64.wrap (a+b)))=_
  rw[IntWalk.i64_in _ h]),k⟩
theorem fg{T:Nat}{cx cy:Bool}{a b:Int}{K:Value->Prop}(h : -9223372036854775808<=a-b/\a-b<=9223372036854775807)(k:K (hZ (a-b))) :
  eR P (kj .sub T cx cy (hZ a) (hZ b)) K:=
 ⟨_,(show pr P (kj .sub T cx cy (hZ a) (hZ b))=some (hZ (a-b))from by
  show some (nf .i64 (IntKind.i64.wrap (a-b)))=_
  rw[IntWalk.i64_in _ h]),k⟩
theorem IB{T:Nat}{cx cy:Bool}{a b:Int}{K:Value->Prop}(h : -9223372036854775808<=a*b/\a*b<=9223372036854775807)(k:K (hZ (a*b))) :
  eR P (kj .mul T cx cy (hZ a) (hZ b)) K:=
 ⟨_,(show pr P (kj .mul T cx cy (hZ a) (hZ b))=some (hZ (a*b))from by
  show some (nf .i64 (IntKind.i64.wrap (a*b)))=_
  rw[IntWalk.i64_in _ h]),k⟩
theorem aC{p:Prop}[Decidable p]{A B:Prop}(h1:p->A)(h2:¬ p->B):yz (.bool (decide p)) A B:=
 ⟨_,rfl,λh=>h1 (gO h),λh=>h2 (g6 h)⟩
theorem iw{A B:Prop}(h:A):yz (.bool true) A B:=⟨_,rfl,λ_=>h,λh=>by cases h⟩
theorem ft{A B:Prop}(h:B):yz (.bool false) A B:=⟨_,rfl,λh=>(by cases h),λ_=>h⟩
theorem aY{b:Bool}{A B:Prop}(h1:b=true->A)(h2:b=false->B):yz (.bool b) A B:=⟨_,rfl,h1,h2⟩
theorem gx{α:Type}(l:List α){i:Nat}(h:i<l.length):∃x,l[i]?=some x:=⟨_,List.getElem?_eq_getElem h⟩
theorem dL{a b:Nat}(h:P7 a b=true):a<=b:=Bq h
theorem dQ{f:FuncId}{args:List Value}{Φ K:Value->hM}(pl:Plain P f)(h:Calls P f args.toArray w (tP Φ))(k:∀v w',Φ v w'->K v w') :
  Cr P f args w K:=⟨.inl ⟨pl,h.mono λ_ _ r=>r.mono k⟩⟩
theorem gT{g:FuncId}{args first cap:List Value}{Φ K:Value->hM}(pl:Plain P g)(h:Calls P g (first++args++cap).toArray w (tP Φ))(k:∀v w',Φ v w'->K v w') :
  kH P (.func (.func g) first.toArray cap.toArray) args w K:=⟨.inl ⟨g,_,_,rfl,pl,by simpa using h.mono λ_ _ r=>r.mono k⟩⟩
variable {w0:World}{A:Nat->Prop}{L:List HP}
theorem run_load(a:Addr)(v:Value)(h:w.cell? a=some v):(load a).run P w=.ok v w:=by
 simp_all
theorem gE(b o j:Nat):(Addr.mk b o none).add j=⟨b,o+j,none⟩:=by
 unfold Addr.add;grind
theorem run_loadCellsFrom(b o:Nat):∀(n i:Nat) (u:Array Value) (cs:List Value),cs.length=n->(∀j c,cs[j]?=some c->Cell w b (o+i+j) c)->
  (loadCellsFrom ⟨b,o,none⟩ i n u).run P w=.ok (u++cs.toArray) w:=by
 intro n
 induction n with
 | zero=>intro i u cs B _;obtain rfl:=List.length_eq_zero_iff.1 B;simp[loadCellsFrom]
 | succ n E=>
  intro i u cs B h
  match cs,B with
  | c::cs,B=>
   unfold loadCellsFrom
   rw[eK (run_load _ c (by rw[gE];exact h 0 c rfl))]
   rw[E (i+1) (u.push c) cs dD λj d G=>by have:=h (j+1) d dD;grind]
   simp
theorem run_loadCells{b o:Nat}{cs:List Value}(h:∀j c,cs[j]?=some c->Cell w b (o+j) c):(loadCells ⟨b,o,none⟩ cs.length).run P w=.ok cs.toArray w:=by
 unfold loadCells
 rw[run_loadCellsFrom b o cs.length 0 #[] cs rfl λj c hc=>dD]
 simp
theorem aF{T:TypeId}{b o:Nat}{v:Value}(ht:V6 P T)(h:Cell w b o v):(wZ T (.pointer (some ⟨b,o,none⟩))).run P w=.ok v w:=by
 show(loadVar T ⟨b,o,none⟩).run P w=_
 unfold loadVar
 rw[eK (fY (lC ht).1 w)]
 exact run_load _ v h
theorem Cu{T:TypeId}{b o:Nat}{cs:List Value}(ht:ab4 P T cs.length)(h:∀j c,cs[j]?=some c->Cell w b (o+j) c) :
  (wZ T (.pointer (some ⟨b,o,none⟩))).run P w=.ok (.agg cs.toArray) w:=by
 show(loadVar T ⟨b,o,none⟩).run P w=_
 unfold loadVar
 rw[eK (fY (lC ht).1 w)]
 simp only[if_true]
 rw[eK (fY (lC ht).2 w),eK (run_loadCells h)]
 rfl
theorem aB{T:TypeId}{b o:Nat}{cs:List Value}{v:Value}{K:Value->Prop}(ht:V6 P T)(hb:mR w b cs)(hc:cs[o]?=some v)(k:K v) :
  J8 P (wZ T (.pointer (some ⟨b,o,none⟩))) w K:=⟨v,aF ht (hb.cell hc),k⟩
theorem KI{T:TypeId}{b n:Nat}{cs:List Value}{K:Value->Prop}(ht:ab4 P T n)(hb:mR w b cs)(u:cs.length=n)(k:K (.agg cs.toArray)) :
  J8 P (wZ T (.pointer (some ⟨b,0,none⟩))) w K:=by
 subst u
 exact⟨_,Cu ht λj c hc=>by rw[tW];exact hb.cell hc,k⟩
theorem Ow{T f u b o:Nat}(ht:wC P T f u):pr P (EO T (.pointer (some ⟨b,o,none⟩)) f)=some (.pointer (some ⟨b,o+u,none⟩)):=by
 unfold wC aU at ht
 split at ht
 .rename_i fs hfs
  cases hf:fs[f]? with
  | none=>grind
  | some fd=>
   rw[hf]at ht
   simp only[D4,oe.injEq,aal.injEq]at ht
   obtain⟨E,G⟩:=ht
   cases hi:P.info? fd.type with
   | none=>grind
   | some i=>
    rw[hi]at G
    have B:i.size≠0:=dD
    unfold EO
    rw[cX,cZ hfs]
    simp only[mO,hf]
    show pr P (do pure (aaF (some (<- fieldPlace ⟨b,o,none⟩ fd))))=_
    rw[xR]
    unfold fieldPlace
    rw[cX,mS hi]
    simp only[mO,ej B,gE,E]
    rfl
 cases ht
theorem aA{T f u b o:Nat}{K:Value->Prop}(ht:wC P T f u)(k:K (.pointer (some ⟨b,o+u,none⟩))) :
  eR P (EO T (.pointer (some ⟨b,o,none⟩)) f) K:=⟨_,Ow ht,k⟩
theorem pfb{T f u b o T2:Nat}{cs:List Value}{v:Value}{K:Value->Prop}(ht:wC P T f u)(h2:V6 P T2)(hb:mR w b cs)(hc:cs[o+u]?=some v)(k:K v) :
  eR P (EO T (.pointer (some ⟨b,o,none⟩)) f) λp=>J8 P (wZ T2 p) w K:=aA ht (aB h2 hb hc k)
theorem IC(T:TypeId)(v:Value):(zT T v).run P w=.ok (.pointer (some ⟨w.heap.size,0,none⟩)) (push w (.cells v.cells T)):=rfl
theorem St.push{T:TypeId}{cs:List Value}(u:St w0 A L w):St w0 A (bY w.heap.size cs::L) (push w (.cells cs.toArray T)):=
 u.new (Ext.push _ _) (F:=λk=>k=w.heap.size) ⟨mR.push w cs T,λ_=>Iff.rfl⟩ λb hb=>by rw[hb];exact o1 _
theorem nu{T:TypeId}{v:Value}{K:Value->hM}(B:St w0 A L w)(u:wB v=true)
  (k:∀b w',St w0 A (bY b [v]::L) w'->K (.pointer (some ⟨b,0,none⟩)) w'):rJ P (zT T v) w K:=by
 refine⟨_,_,IC T v,k _ _ ?_⟩
 have:v.cells=[v].toArray:=by cases v<;>first|rfl|cases u
 rw[this]
 exact B.push
theorem nw{T:TypeId}{cs:List Value}{K:Value->hM}(u:St w0 A L w)
  (k:∀b w',St w0 A (bY b cs::L) w'->K (.pointer (some ⟨b,0,none⟩)) w'):rJ P (zT T (.agg cs.toArray)) w K:=
 ⟨_,_,IC T _,k _ _ u.push⟩
theorem gB{T:TypeId}{z:Value}{K:Value->hM}(E:St w0 A L w)(u:oo P T z)(B:wB z=true)
  (k:∀b w',St w0 A (bY b [z]::L) w'->K (.pointer (some ⟨b,0,none⟩)) w'):rJ P (Ph T true (.tuple #[])) w K:=by
 unfold oo ep at u
 cases hi:P.info? T with
 | none=>rw[hi]at u;cases u
 | some i=>
  rw[hi]at u
  simp only[D4,oe.injEq]at u
  have h1:pr P (zeroValue T)=some z:=by unfold zeroValue;rw[cX,ml hi];simp only[mO,u];rfl
  refine⟨_,push w (.cells [z].toArray T),?_,k _ _ (E.push (T:=T))⟩
  unfold Ph
  rw[eK (fY h1 w)]
  have:z.cells=[z].toArray:=by cases z<;>first|rfl|cases B
  show(do pure (aaF (some (<- newVar T z))):Sem Value).run P w=_
  unfold newVar
  rw[this]
  rfl
theorem aM{T:TypeId}{cs:List Value}{K:Value->hM}(B:St w0 A L w)(u:oo P T (.agg cs.toArray))
  (k:∀b w',St w0 A (bY b cs::L) w'->K (.pointer (some ⟨b,0,none⟩)) w'):rJ P (Ph T true (.tuple #[])) w K:=by
 unfold oo ep at u
 cases hi:P.info? T with
 | none=>rw[hi]at u;cases u
 | some i=>
  rw[hi]at u
  simp only[D4,oe.injEq]at u
  have h1:pr P (zeroValue T)=some (.agg cs.toArray):=by unfold zeroValue;rw[cX,ml hi];simp only[mO,u];rfl
  refine⟨_,push w (.cells cs.toArray T),?_,k _ _ (B.push (T:=T))⟩
  unfold Ph
  rw[eK (fY h1 w)]
  rfl
theorem run_store{b o:Nat}{cs:List Value}{v:Value}(hb:mR w b cs)(u:o<cs.length)(B:wB v=true) :
  (store ⟨b,o,none⟩ v).run P w=.ok () (w.setCell ⟨b,o,none⟩ v):=by
 have h1:w.cell? ⟨b,o,none⟩=some cs[o]:=hb.cell (by simp[u])
 have h2:=hb.frozen (o:=o)
 unfold store
 cases v<;>first|cases B|skip
 all_goals
  simp only[Sem.run,h1,h2]
  rfl
theorem KJ{b o:Nat}{cs:List Value}{v:Value}(E:St w0 A (bY b cs::L) w):St w0 A (bY b (cs.set o v)::L) (w.setCell ⟨b,o,none⟩ v):=
 E.ry λF u=>⟨F,⟨u.1.setCell v,u.2⟩,λ_ h=>.inl h,(gu.setCell w b o v).mono λk B=>(u.2 k).2 B⟩
theorem aT{T:TypeId}{b o:Nat}{cs:List Value}{v:Value}{K:hM}(B:St w0 A (bY b cs::L) w)(ht:V6 P T)(E:o<cs.length)(u:wB v=true)
  (k:∀w',St w0 A (bY b (cs.set o v)::L) w'->K w'):Vf P (IE T (.pointer (some ⟨b,o,none⟩)) v) w K:=by
 refine⟨_,?_,k _ (KJ B)⟩
 show(storeVar T ⟨b,o,none⟩ v).run P w=_
 have hc:v.cells = #[v]:=by cases v<;>first|rfl|cases u
 unfold storeVar
 rw[eK (fY (lC ht).2 w),hc]
 simp only[Kw,oj,J7,tW,ne_eq,not_true_eq_false,if_false]
 show(storeCells ⟨b,o,none⟩ [v]).run P w=_
 unfold storeCells
 rw[gE,N0,eK (run_store B.hb E u)]
 rfl
def jh:List Value->Nat->List Value->List Value
 | cs,_,[]=>cs
 | cs,o,v::r=>jh (cs.set o v) (o+1) r
theorem D6{b o:Nat}:∀(vs:List Value) (i:Nat) (cs:List Value) (w:World),St w0 A (bY b cs::L) w->o+i+vs.length<=cs.length->(∀v∈vs,wB v=true)->
  ∃w',(storeCells ⟨b,o,none⟩ vs i).run P w=.ok () w'/\St w0 A (bY b (jh cs (o+i) vs)::L) w':=by
 intro vs
 induction vs with
 | nil=>intro i cs w u _ _;exact⟨w,rfl,u⟩
 | cons v r J=>
  intro i cs w u E B
  have I:o+i+(r.length+1)<=cs.length:=by simpa using E
  have h1:=run_store (P:=P) u.hb (o:=o+i) (v:=v) cK (B v ei)
  obtain⟨w',h2,h3⟩:=J (i+1) (cs.set (o+i) v) _ (KJ u) (by simp;omega) (λx G=>B x (by simp[G]))
  refine⟨w',?_,by rw[show o+(i+1)=o+i+1 from cK]at h3;exact h3⟩
  show(do store ((Addr.mk b o none).add i) v;storeCells ⟨b,o,none⟩ r (i+1):Sem Unit).run P w=_
  rw[gE,eK h1,h2]
theorem D7{T:TypeId}{b o n:Nat}{cs vs:List Value}{K:hM}(E:St w0 A (bY b cs::L) w)(ht:ab4 P T n)(u:vs.length=n)(G:o+n<=cs.length)(B:∀v∈vs,wB v=true)
  (k:∀w',St w0 A (bY b (jh cs o vs)::L) w'->K w'):Vf P (IE T (.pointer (some ⟨b,o,none⟩)) (.agg vs.toArray)) w K:=by
 subst u
 obtain⟨w',h1,h2⟩:=D6 (P:=P) (o:=o) vs 0 cs w E cK B
 refine⟨w',?_,k w' h2⟩
 show(storeVar T ⟨b,o,none⟩ (.agg vs.toArray)).run P w=_
 unfold storeVar
 rw[eK (fY (lC ht).2 w)]
 simp only[SK,Kw,ne_eq,not_true_eq_false,if_false]
 exact h1
end
end Go.Fw
namespace Go.Fw
class Flat (α:Type) where
 agg:Bool
 sz:Nat
 enc:α->List Value
 val:α->Value
 pos:0<sz
 len:∀a,(enc a).length=sz
 one:∀a v,v∈enc a->wB v=true
 nx:agg=true->∀a,val a=.agg (enc a).toArray
 nT:agg=false->∀a,enc a=[val a]
instance:Flat Int where
 agg:=false
 sz:=1
 enc n:=[hZ n]
 val n:=hZ n
 pos:=ee
 len _:=rfl
 one a v h:=by rw[vA.1 h];rfl
 nx h:=by cases h
 nT _ _:=rfl
instance:Flat Bool where
 agg:=false
 sz:=1
 enc n:=[.bool n]
 val n:=.bool n
 pos:=ee
 len _:=rfl
 one a v h:=by rw[vA.1 h];rfl
 nx h:=by cases h
 nT _ _:=rfl
instance:Flat ByteArray where
 agg:=false
 sz:=1
 enc n:=[.string n]
 val n:=.string n
 pos:=ee
 len _:=rfl
 one a v h:=by rw[vA.1 h];rfl
 nx h:=by cases h
 nT _ _:=rfl
section
variable {α:Type}[Flat α]
def flat(xs:List α):List Value:=xs.flatMap Flat.enc
theorem kK:flat ([]:List α)=[]:=rfl
theorem kL(x:α)(xs:List α):flat (x::xs)=Flat.enc x++flat xs:=by simp[flat]
theorem gF(xs ys:List α):flat (xs++ys)=flat xs++flat ys:=by simp[flat]
theorem dB(xs:List α):(flat xs).length=xs.length*Flat.sz α:=by
 induction xs with
 | nil=>simp[kK]
 | cons x xs u=>rw[kL,lY,u,Flat.len,oj,Jv];omega
theorem Ae{xs:List α}:∀v∈flat xs,wB v=true:=by
 intro v B
 obtain⟨x,_,u⟩:=List.mem_flatMap.1 B
 exact Flat.one x v u
theorem rU{xs:List α}{i j:Nat}{x:α}{c:Value}(u:xs[i]?=some x)(hc:(Flat.enc x)[j]?=some c):(flat xs)[i*Flat.sz α+j]?=some c:=by
 induction xs generalizing i with
 | nil=>simp at u
 | cons y ys B=>
  rw[kL]
  cases i with
  | zero=>
   grind
  | succ i=>
   have:=B (by simpa using u)
   rw[List.getElem?_append_right (by rw[Flat.len,Jv];omega),Flat.len]
   grind
theorem GP(xs:List α)(n:Nat):flat (xs.take n)=(flat xs).take (n*Flat.sz α):=by
 induction xs generalizing n with
 | nil=>simp[kK]
 | cons x xs u=>
  cases n with
  | zero=>simp[kK]
  | succ n=>
   rw[List.take_succ_cons,kL,kL,u,List.take_append,Flat.len]
   have h1:(n+1)*Flat.sz α-Flat.sz α=n*Flat.sz α:=dD
   rw[h1,List.take_of_length_le (i:=(n+1)*Flat.sz α) (l:=Flat.enc x) (by rw[Flat.len,Jv];omega)]
theorem GQ(xs:List α)(n:Nat):flat (xs.drop n)=(flat xs).drop (n*Flat.sz α):=by
 induction xs generalizing n with
 | nil=>simp[kK]
 | cons x xs u=>
  cases n with
  | zero=>simp
  | succ n=>
   rw[List.drop_succ_cons,kL,u,List.drop_append,Flat.len]
   have h1:(n+1)*Flat.sz α-Flat.sz α=n*Flat.sz α:=dD
   rw[h1,List.drop_of_length_le (i:=(n+1)*Flat.sz α) (l:=Flat.enc x) (by rw[Flat.len,Jv];omega),s4]
def At(S:Nat->Prop)(w:World)(p:Value)(x:α):Prop:=
 ∃b o,p=.pointer (some ⟨b,o,none⟩)/\S b/\∀j c,(Flat.enc x)[j]?=some c->Cell w b (o+j) c
def dA(S:Nat->Prop)(w:World)(v:Value)(xs:List α):Prop:=
 ∃a cap,v=.slice a xs.length cap/\xs.length<=cap/\((xs=[]/\cap=0)\/∃b o,a=some ⟨b,o,none⟩/\(xs≠[]->S b)/\∀j c,(flat xs)[j]?=some c->Cell w b (o+j) c)
def bH(v:Value)(xs:List α):HP where
 p w F:=(v=.slice none 0 0/\xs=[]/\∀b,¬ F b)\/
  ∃b cap rest,v=.slice (some ⟨b,0,none⟩) xs.length cap/\mR w b (flat xs++rest)/\(xs.length<=cap/\cap*Flat.sz α<=(flat xs++rest).length)/\∀k,F k↔k=b
 loc w w' F h hh:=by
  rcases h with h|⟨b,cap,rest,h1,h2,h3,h4⟩
  .grind
  .exact .inr ⟨b,cap,rest,h1,h2.of_eq (hh b ((h4 b).2 rfl)),h3,h4⟩
 lt w F b h hb:=by
  rcases h with h|⟨u,cap,rest,h1,h2,h3,h4⟩
  .grind
  .rw[(h4 b).1 hb];exact h2.lt
variable {P:Program}{w w0:World}{A S:Nat->Prop}{L:List HP}{xs ys:List α}
theorem At.aG{A:Nat->Prop}{w w':World}{p:Value}{x:α}(h:At S w p x)(hc:gu A w w')(u:∀b,S b->¬ A b):At S w' p x:=by
 obtain⟨b,o,h1,h2,h3⟩:=h;exact⟨b,o,h1,h2,λj c B=>(h3 j c B).aG hc (u b h2)⟩
theorem At.ext{w w':World}{p:Value}{x:α}(h:At S w p x)(hc:Ext w w'):At S w' p x:=h.aG hc λ_ _ h=>h
theorem dA.aG{A:Nat->Prop}{w w':World}{v:Value}(h:dA S w v xs)(hc:gu A w w')(B:∀b,S b->¬ A b):dA S w' v xs:=by
 obtain⟨a,cap,h1,h2,h3⟩:=h
 refine⟨a,cap,h1,h2,?_⟩
 rcases h3 with h3|⟨b,o,h3,h4,h5⟩
 .grind
 exact .inr ⟨b,o,h3,h4,λj c u=>(h5 j c u).aG hc (B b (h4 λh=>by subst h;simp[kK]at u))⟩
theorem dA.ext{w w':World}{v:Value}(h:dA S w v xs)(hc:Ext w w'):dA S w' v xs:=h.aG hc λ_ _ h=>h
theorem dA.mono{u:Nat->Prop}{v:Value}(h:dA S w v xs)(B:∀b,S b->u b):dA u w v xs:=by
 grind[dA]
theorem dA.nil(S:Nat->Prop)(w:World):dA S w (.slice none 0 0) ([]:List α):=⟨none,0,rfl,o1 _,.inl ⟨rfl,rfl⟩⟩
theorem bH.rd{v:Value}{F:Nat->Prop}(h:(bH v xs).p w F):dA F w v xs:=by
 rcases h with⟨h1,h2,h3⟩|⟨b,cap,rest,h1,h2,h3,h4⟩
 .subst h1 h2;exact dA.nil _ _
 refine⟨_,cap,h1,?_,.inr ⟨b,0,rfl,λ_=>(h4 b).2 rfl,λj c u=>?_⟩⟩
 .exact h3.1
 rw[tW]
 exact h2.cell dD
theorem St.rd{v:Value}(u:St w0 A (bH v xs::L) w):∃S,(∀b,S b->A b\/w0.heap.size<=b)/\dA S w v xs:=by
 obtain⟨F,h1,h2⟩:=u.head;exact⟨F,h2,bH.rd h1⟩
theorem St.dX{v:Value}(u:St w0 A (bH v xs::L) w):dA (λ_=>True) w v xs:=by
 obtain⟨S,_,h⟩:=u.rd;exact h.mono λ_ _=>trivial
theorem St.eM(u:St w0 A L w):St w0 A (bH (.slice none 0 0) ([]:List α)::L) w:=
 u.new (Ext.refl w) (F:=bD) (.inl ⟨rfl,rfl,λ_ h=>h⟩) λ_ h=>h.elim
theorem aD{T:TypeId}{p:Value}{x:α}{K:Value->Prop}(ht:dF P T=some (Flat.agg α,Flat.sz α))(h:At S w p x)(k:K (Flat.val x)):J8 P (wZ T p) w K:=by
 obtain⟨b,o,rfl,_,h3⟩:=h
 cases ha:Flat.agg α with
 | true=>
  rw[ha]at ht
  refine⟨_,?_,k⟩
  rw[Flat.nx ha x]
  exact Cu (by rw[Flat.len];exact ht) h3
 | false=>
  rw[ha]at ht
  have h1:=Flat.nT ha x
  have u:Flat.sz α=1:=by rw[<- Flat.len x,h1];rfl
  rw[u]at ht
  exact⟨_,aF ht (by have:=h3 0 (Flat.val x) dD;omega),k⟩
theorem St.At{b:Nat}{x:α}(B:St w0 A (Fw.bY b (Flat.enc x)::L) w):Fw.At (λ_=>True) w (.pointer (some ⟨b,0,none⟩)) x:=
 ⟨b,0,rfl,trivial,λj c u=>by rw[tW];exact B.hb.cell u⟩
theorem bV{β:Type}[Flat β]{T f u:Nat}{p:Value}{x:α}(y:β){K:Value->Prop}(ht:wC P T f u)(h:At S w p x)(G:(Flat.enc x)[u]?=some (Flat.val y))(B:Flat.agg β=false)
  (k:∀q,At S w q y->K q):eR P (EO T p f) K:=by
 obtain⟨b,o,rfl,h2,h3⟩:=h
 refine aA ht (k _ ⟨b,o+u,rfl,h2,λj c E=>?_⟩)
 rw[Flat.nT B]at E
 grind
theorem ID{T R E n u:Nat}{z:Option Nat}{a:Option Addr}{l c:Nat}(ht:eN P T=some (E,n,u,z)):pr P (Builtin.len_ #[T] R [x6 a l c].toArray)=some (hZ l):=by
 show pr P (do
  match <- underlying T,x6 a l c with
  | .string,.string s=>pure (goInt s.size)
  | .array n _,_=>pure (goInt n)
  | .pointer arr,_=>
   let .array n _ <- underlying arr|stuck "len: pointer to array expected"
   pure (goInt n)
  | .slice _,.slice _ n _=>pure (goInt n)
  | .map _ _,.map none|.chan _ _,.chan none=>pure (goInt 0)
  | .map _ _,.map (some r)=>
   let .map entries _ <- getObj r|stuck "len: map expected"
   pure (goInt entries.size)
  | .chan _ _,.chan (some r)=>
   let .chan _ buf _ _ _ timer <- getObj r|stuck "len: channel expected"
   pure (goInt (if timer then 0 else buf.size))
  | _, _ => stuck "len: string, array, pointer to array, slice, map or channel expected")=_
 rw[cX,cZ (fp ht).1]
 rfl
theorem aK{T R E n u:Nat}{z:Option Nat}{v:Value}{K:Value->Prop}(ht:eN P T=some (E,n,u,z))(h:dA S w v xs)(k:K (hZ (xs.length:Int))) :
  eR P (Builtin.len_ #[T] R [v].toArray) K:=by
 obtain⟨a,cap,rfl,_⟩:=h
 exact⟨_,ID ht,k⟩
theorem aO{T E I:Nat}{z:Option Nat}{v:Value}{i:Int}{x:α}{K:Value->Prop}(ht:eN P T=some (E,Flat.sz α,I,z))(h:dA S w v xs)(J:0<=i)(u:xs[i.toNat]?=some x)
  (k:∀p,At S w p x->K p):eR P (ES T v (hZ i)) K:=by
 obtain⟨a,cap,rfl,Y,h3⟩:=h
 have Z:i.toNat<xs.length:=(kE.1 u).1
 rcases h3 with⟨rfl,_⟩|⟨b,o,rfl,h4,h5⟩
 .simp at u
 obtain⟨G,W,hi,U,_⟩:=fp ht
 refine⟨.pointer (some ⟨b,o+i.toNat*Flat.sz α,none⟩),?_,k _ ⟨b,_,rfl,h4 dD,λj c O=>?_⟩⟩
 .unfold ES
  rw[cX]
  show pr P _=_
  simp only[asIntOf]
  have M:pr P (underlying T)=some (.slice E):=cZ G
  have B:pr P (sizeOf E)=some (Flat.sz α):=by rw[mS hi,U]
  simp only[cX,M,B,mO,fQ]
  have V:0<=i/\i<(xs.length:Int):=⟨J,cK⟩
  simp only[ew V,cX,B,mO,fQ,gE]
 have:=h5 (i.toNat*Flat.sz α+j) c (rU u O)
 grind
end
end Go.Fw
namespace Go.Fw
section
variable {α:Type}[Flat α] {P:Program}{w w0:World}{A S:Nat->Prop}{L:List HP}{xs ys:List α}
theorem jl{y:Nat}{i:Int}{code:BoundsCode}(u:0<=i)(h1:i<=y):pr P (Y9 (hZ i) y code)=some i.toNat:=by
 unfold Y9
 rw[cX]
 simp only[asIntOf,fQ,mO,ew (show 0<=i/\i<=(y:Int)from⟨u,h1⟩)]
theorem wD{T E sz G:Nat}{z:Option Nat}{a:Option Addr}{n cap l h:Nat}{lo hi:Option Value}(ht:eN P T=some (E,sz,G,z))
  (hb:pr P (vw true n cap lo hi none)=some (l,h,cap)) :
  pr P (n4 T (.slice a n cap) lo hi none)=some (.slice (if cap=l then a else a.map (·.add (l*sz))) (h-l) (cap-l)):=by
 obtain⟨u,J,B,I,_⟩:=fp ht
 unfold n4
 rw[cX,cZ u]
 simp only[mO]
 unfold Instr.slice
 rw[cX,cZ u]
 simp only[mO]
 rw[cX,hb]
 simp only[mO]
 rw[cX,mS B,I]
 rfl
theorem oq{n cap l h:Nat}{lo hi:Option Value}(E:lo=none/\l=0\/∃i:Int,lo=some (hZ i)/\0<=i/\l=i.toNat)(G:hi=none/\h=n\/∃i:Int,hi=some (hZ i)/\0<=i/\h=i.toNat)
  (h1:l<=h) (h2:h<=cap):pr P (vw true n cap lo hi none)=some (l,h,cap):=by
 rcases E with⟨rfl,rfl⟩|⟨i,rfl,B,rfl⟩<;>rcases G with⟨rfl,rfl⟩|⟨I,rfl,u,rfl⟩<;>simp only[vw,cX,fQ,mO]
 .rw[jl u cK];rfl
 .rw[jl B cK];rfl
 rw[jl u cK];simp only[mO];rw[jl B cK];rfl
theorem dA.cut{v:Value}{a:Option Addr}{n cap l h:Nat}(E:v=.slice a n cap)(J:dA S w v xs)(h1:l<=h)(h2:h<=xs.length) :
  dA S w (.slice (if cap=l then a else a.map (·.add (l*Flat.sz α))) (h-l) (cap-l)) ((xs.take h).drop l):=by
 obtain⟨W,G,M,V,h3⟩:=J
 rw[M]at E
 simp only[x6.injEq]at E
 obtain⟨rfl,Z,rfl⟩:=E
 have hlen:((xs.take h).drop l).length=h-l:=by simp;omega
 rcases h3 with⟨B,Y⟩|⟨b,o,rfl,h4,h5⟩
 .subst B
  exact⟨_,G-l,by rw[hlen],ei,.inl ⟨ei,cK⟩⟩
 refine⟨_,G-l,by rw[hlen],cK,.inr ?_⟩
 have O:(xs.take h).drop l≠[]->xs≠[]:=λu I=>u dD
 by_cases u:G=l
 .rw[ew u]
  grind[flat,Cell]
 rw[ej u]
 refine⟨b,o+l*Flat.sz α,by simp[gE],λI=>h4 (O I),λj c U=>?_⟩
 rw[GQ,GP,List.getElem?_drop,List.getElem?_take]at U
 grind
theorem Ro{T E J:Nat}{z:Option Nat}{v:Value}{lo hi:Option Value}{l h:Nat}{K:Value->Prop}(ht:eN P T=some (E,Flat.sz α,J,z))(G:dA S w v xs)
  (I:lo=none/\l=0\/∃i:Int,lo=some (hZ i)/\0<=i/\l=i.toNat) (M:hi=none/\h=xs.length\/∃i:Int,hi=some (hZ i)/\0<=i/\h=i.toNat)
  (h1:l<=h) (h2:h<=xs.length) (k:∀B,dA S w B ((xs.take h).drop l)->K B):eR P (n4 T v lo hi none) K:=by
 have u:=G
 obtain⟨a,cap,rfl,O,h3⟩:=G
 exact⟨_,wD ht (oq I M h1 cK),k _ (u.cut rfl h1 h2)⟩
theorem l4{T E G:Nat}{z:Option Nat}{v:Value}{i:Int}{K:Value->Prop}(ht:eN P T=some (E,Flat.sz α,G,z))(B:dA S w v xs)(I:0<=i)(h2:i<=xs.length)
  (k:∀u,dA S w u (xs.take i.toNat)->K u):eR P (n4 T v none (some (hZ i)) none) K:=
 Ro ht B (.inl ⟨rfl,rfl⟩) (.inr ⟨i,rfl,I,rfl⟩) cK cK λu h=>k u dD
theorem BK{T E G:Nat}{z:Option Nat}{v:Value}{i:Int}{K:Value->Prop}(ht:eN P T=some (E,Flat.sz α,G,z))(B:dA S w v xs)(I:0<=i)(h2:i<=xs.length)
  (k:∀u,dA S w u (xs.drop i.toNat)->K u):eR P (n4 T v (some (hZ i)) none none) K:=
 Ro ht B (.inr ⟨i,rfl,I,rfl⟩) (.inl ⟨rfl,rfl⟩) cK cK λu h=>k u dD
theorem mT{b o:Nat}:∀(vs:List Value) (i:Nat) (cs:List Value) (w:World),mR w b cs->o+i+vs.length<=cs.length->(∀v∈vs,wB v=true)->
  ∃w',(storeCells ⟨b,o,none⟩ vs i).run P w=.ok () w'/\mR w' b (jh cs (o+i) vs)/\gu (· = b) w w':=by
 intro vs
 induction vs with
 | nil=>intro i cs w hb _ _;exact⟨w,rfl,hb,gu.refl _ _⟩
 | cons v r B=>
  intro i cs w hb I u
  have G:o+i+(r.length+1)<=cs.length:=cK
  have h1:=run_store (P:=P) hb (o:=o+i) (v:=v) cK (u v ei)
  obtain⟨w',h2,h3,h4⟩:=B (i+1) (cs.set (o+i) v) _ (hb.setCell v) (by simp;omega) (λx E=>u x (by simp[E]))
  refine⟨w',?_,by grind[mR,jh],(gu.setCell w b (o+i) v).trans h4 (λ_ h=>h) λ_ _ h=>h⟩
  show(do store ((Addr.mk b o none).add i) v;storeCells ⟨b,o,none⟩ r (i+1):Sem Unit).run P w=_
  rw[gE,eK h1,h2]
theorem mn(pre u post vs:List Value)(h:u.length=vs.length):jh (pre++u++post) pre.length vs=pre++vs++post:=by
 induction vs generalizing pre u with
 | nil=>grind[jh]
 | cons v r B=>
  match u,h with
  | m::u,h=>
   have e:(pre++(m::u)++post).set pre.length v=(pre++[v])++u++post:=ei
   simp only[jh,e]
   have:=B (pre++[v]) u dD
   simp_all
theorem xS{sz:Nat}{v:Value}(u:sz=Flat.sz α)(h:dA S w v ys):(Builtin.firstCells sz ys.length v).run P w=.ok (flat ys).toArray w:=by
 subst u
 obtain⟨a,cap,rfl,_,h3⟩:=h
 rcases h3 with⟨rfl,_⟩|⟨b,o,rfl,_,h5⟩
 .cases a with
  | none=>rfl
  | some a=>simp[Builtin.firstCells,loadCells,loadCellsFrom,kK]
 have:=run_loadCells (P:=P) h5
 rw[dB]at this
 exact this
theorem rK{b o:Nat}{cs:List Value}(h:∀j c,cs[j]?=some c->Cell w b (o+j) c):∀j v,cs[j]?=some v->w.cell? ((⟨b,o,none⟩:Addr).add j)=some v:=λj v u=>by
 rw[gE];exact h j v u
theorem Cw{T E kD R:Nat}{v src:Value}{F:Nat->Prop}(ht:Vi P T E (Flat.sz α) kD)(hv:(bH v xs).p w F)(uu:dA S w src ys)
  (hn:xs.length+ys.length<=17592186044416) (O:(xs.length+ys.length)*kD<=140737488355328) :
  ∃v' w' F',(Builtin.append_ #[T,T] R [v,src].toArray).run P w=.ok v' w'/\(bH v' (xs++ys)).p w' F'/\(∀b,F' b->F b\/w.heap.size<=b)/\gu F w w':=by
 obtain⟨V,u,hi,Z,wE,Y⟩:=fp ht
 obtain⟨zv,U,hzs⟩:∃zv,u.zero=some zv/\zv.cells.size=Flat.sz α:=by
  cases Tz:u.zero with
  | none=>rw[Tz]at Y;cases Y
  | some zv=>rw[Tz]at Y;exact⟨zv,rfl,by simpa using Y⟩
 have hmul:(xs.length+ys.length)*u.bytes<=140737488355328:=by rw[show u.bytes=kD by omega];exact O
 have made:∀(cap:Nat),cap<xs.length+ys.length->
   (bH (.slice (some ⟨w.heap.size,0,none⟩) (xs.length+ys.length) (grownCap w (xs.length+ys.length) cap E)) (xs++ys)).p
    (w.drew.alloc (.cells ((flat xs).toArray++(flat ys).toArray++Builtin.zeroCells zv.cells (grownCap w (xs.length+ys.length) cap E-(xs.length+ys.length))) E)) (λk=>k=w.heap.size):=by
  intro cap hc
  have Ox:=grownCap_ge w (xs.length+ys.length) cap E
  refine .inr ⟨w.heap.size,grownCap w (xs.length+ys.length) cap E,(Builtin.zeroCells zv.cells (grownCap w (xs.length+ys.length) cap E-(xs.length+ys.length))).toList,ei,⟨E,?_⟩,?_,λ_=>Iff.rfl⟩
  .have:=mj w.drew (.cells ((flat xs).toArray++(flat ys).toArray++Builtin.zeroCells zv.cells (grownCap w (xs.length+ys.length) cap E-(xs.length+ys.length))) E)
   refine Eq.trans this ?_
   congr 2
   apply aat
   simp[gF]
  .refine⟨by rw[lY];exact Ox,yQ (Eq.symm ?_)⟩
   have e:(Builtin.zeroCells zv.cells (grownCap w (xs.length+ys.length) cap E-(xs.length+ys.length))).toList.length=(grownCap w (xs.length+ys.length) cap E-(xs.length+ys.length))*Flat.sz α:=by
    rw[Lp,size_zeroCells,hzs]
   rw[lY,e,dB,lY,<- SL]
   congr 1
   omega
 have J:∀o,gu F w (w.drew.alloc o):=λo=>⟨rfl,rfl,rfl,ei,λb hb _=>xQ w.drew o b hb⟩
 have rd:=uu
 obtain⟨sa,Ge,rfl,hsc,G⟩:=rd
 rcases hv with⟨rfl,rfl,hF⟩|⟨b,cap,rest,rfl,hb,B,hF⟩
 ·
  simp only[J7,tW,s4]at *
  by_cases O:ys=[]
  .subst O
   refine⟨.slice none 0 0,w,F,?_,.inl ⟨rfl,rfl,hF⟩,λb hb=>.inl hb,gu.refl _ _⟩
   cases sa<;>simp[Builtin.append_,run_underlying V,sizeOf,typeInfo,hi,Builtin.lenOf,Builtin.firstCells,loadCells,loadCellsFrom]
  have Ag:0<ys.length:=List.length_pos_iff.2 O
  rcases G with⟨h,_⟩|⟨b,o,rfl,_,Vj⟩
  .exact absurd h O
  have I:=run_append_nil (P:=P) w T R E u zv V hi U ⟨b,o,none⟩ ys.length Ge (flat ys) (by rw[dB,Z]) (rK Vj) Ag cK cK
  refine⟨_,_,λk=>k=w.heap.size,I,?_,λk M=>.inr (by rw[M];exact o1 _),J _⟩
  have:=made 0 Ag
  simpa[kK]using this
 have Af:xs.length<=cap:=B.1
 replace B:=B.2
 by_cases W:xs.length+ys.length<=cap
 ·
  have TA:(xs.length+ys.length)*Flat.sz α<=cap*Flat.sz α:=BJ _ W
  have tS:(flat xs).length=xs.length*Flat.sz α:=dB xs
  have z8:(flat ys).length<=rest.length:=by
   rw[lY,tS]at B;rw[dB];rw[SL]at TA;omega
  obtain⟨w',h1,h2,h3⟩:=mT (P:=P) (o:=xs.length*Flat.sz α) (flat ys) 0 (flat xs++rest) w hb (by rw[lY,tS];omega) Ae
  have Gb:jh (flat xs++rest) (xs.length*Flat.sz α+0) (flat ys)=flat (xs++ys)++rest.drop (flat ys).length:=by
   have:=mn (flat xs) (rest.take (flat ys).length) (rest.drop (flat ys).length) (flat ys) (by simp;omega)
   rw[tS]at this
   rw[N0,gF]
   rw[<- this]
   simp
  rw[Gb]at h2
  refine⟨.slice (some ⟨b,0,none⟩) (xs.length+ys.length) cap,w',F,?_,.inr ⟨b,cap,_,ei,h2,?_,hF⟩,λb hb=>.inl hb,h3.mono λk M=>(hF k).2 M⟩
  .have hf:=xS (α:=α) (P:=P) (sz:=Flat.sz α) rfl uu
   have tT:(⟨b,0,none⟩:Addr).add (xs.length*Flat.sz α)=⟨b,xs.length*Flat.sz α,none⟩:=by rw[gE,tW]
   simp[Builtin.append_,run_underlying V,sizeOf,typeInfo,hi,Builtin.lenOf,W,hf,Z,tT,h1]
  refine⟨by rw[lY];exact W,wc B (yQ ?_)⟩
  rw[lY,lY,gF,lY,List.length_drop];omega
 -- a new row
 have I:=run_append_grow (P:=P) w T R E u zv V hi U ⟨b,0,none⟩ xs.length cap (flat xs) (by rw[dB,Z])
  (rK λj c hj=>by rw[tW];exact hb.cell (by rw[tx (kE.1 hj).1];exact hj))
 rcases G with⟨h,_⟩|⟨b',o,rfl,_,Vj⟩
 .subst h;simp at W;omega
 have I:=I ⟨b',o,none⟩ ys.length Ge (flat ys) (by rw[dB,Z]) (rK Vj) cK cK (growslice_fits cK hmul)
 exact⟨_,_,λk=>k=w.heap.size,I,made cap cK,λk M=>.inr (by rw[M];exact o1 _),J _⟩
theorem ahA{T E B R:Nat}{v src:Value}{F:Nat->Prop}(ht:Vi P T E (Flat.sz α) B)(O:(bH v xs).p w F)(J:dA S w src ys)
  (M:xs.length+ys.length<=1073741824) (u:B<=8192) :
  ∃G w' I,(Builtin.append_ #[T,T] R [v,src].toArray).run P w=.ok G w'/\(bH G (xs++ys)).p w' I/\(∀b,I b->F b\/w.heap.size<=b)/\gu F w w':=
 Cw ht O J cK (by have:=Py M u;omega)
theorem KK{T E O R:Nat}{v src:Value}{K:Value->hM}(G:St w0 A (bH v xs::L) w)(ht:Vi P T E (Flat.sz α) O)(Y:dA S w src ys)
  (hn:xs.length+ys.length<=17592186044416) (Z:(xs.length+ys.length)*O<=140737488355328) (k:∀B w',St w0 A (bH B (xs++ys)::L) w'->K B w'):rJ P (Builtin.append_ #[T,T] R [v,src].toArray) w K:=by
 obtain⟨U,F,M,h1,h2,h3,h4,h5⟩:=G.tQ
 obtain⟨B,w',W,g1,g2,I,V⟩:=Cw (R:=R) ht h1 Y hn Z
 refine⟨B,w',g1,k B w' ?_⟩
 refine⟨G.aG.trans V (λ_ h=>h) λb hb u=>(h2 b u).elim id λhh=>cK,λb=>W b\/M b,W,M,g2,λb hb=>?_,λb hb J=>?_,λb=>Iff.rfl,?_⟩
 .rcases I b hb with u|u
  .exact h2 b u
  exact .inr (wc G.aG.size u)
 .rcases I b hb with u|u
  .exact h3 b u J
  have:=h5.lt b J;omega
 exact h5.loc λb hb=>V.bY b (h5.lt b hb) λu=>h3 b u hb
theorem bJ{T E B R:Nat}{v src:Value}{K:Value->hM}(M:St w0 A (bH v xs::L) w)(ht:Vi P T E (Flat.sz α) B)(I:dA S w src ys)
  (J:xs.length+ys.length<=1073741824) (u:B<=8192) (k:∀G w',St w0 A (bH G (xs++ys)::L) w'->K G w'):rJ P (Builtin.append_ #[T,T] R [v,src].toArray) w K:=
 KK M ht I cK (by have:=Py J u;omega) k
end
end Go.Fw
namespace Go.Fw
section
variable {α:Type}[Flat α] {P:Program}{w w0:World}{A S:Nat->Prop}{L:List HP}{xs ys:List α}
theorem pF(x:α):(Flat.val x).cells=(Flat.enc x).toArray:=by
 cases h:Flat.agg α with
 | true=>rw[Flat.nx h];rfl
 | false=>
  have h1:=Flat.nT h x
  have h2:=Flat.one x (Flat.val x) dD
  rw[h1]
  revert h2
  cases Flat.val x<;>simp[wB,SK]
theorem Oy(cs:List Value)(o:Nat)(v:Value)(r:List Value):jh cs o (v::r)=jh (cs.set o v) (o+1) r:=rfl
theorem KL(u:Nat):∀(l:List Value) (k:Nat) (cs:Array Value),((l.zipIdx k).foldl (fun (cs:Array Value) q=>cs.setIfInBounds (u+q.2) q.1) cs).toList=jh cs.toList (u+k) l:=by
 intro l
 induction l with
 | nil=>intro k cs;rfl
 | cons v r B=>
  intro k cs
  rw[Za,List.foldl_cons,B (k+1),Oy]
  grind
theorem IF(u:Nat)(l:List Value)(cs:Array Value) :
  (l.toArray.zipIdx.foldl (fun (cs:Array Value) (q:Value×Nat)=>match q with|(c,j)=>cs.setIfInBounds (u+j) c) cs).toList=jh cs.toList u l:=by
 rw[<- U0]
 have e:l.toArray.zipIdx.toList=l.zipIdx 0:=ei
 rw[e]
 exact KL u l 0 cs
theorem TB:∀(xs:List α) (k:Nat) (pre u:List Value),pre.length=k*Flat.sz α->u.length=xs.length*Flat.sz α->
  U2 (λi=>some (i*Flat.sz α,Flat.sz α)) (pre++u).toArray ((xs.zipIdx k).map λq=>(q.2,Flat.val q.1))=some (pre++flat xs).toArray:=by
 intro xs
 induction xs with
 | nil=>intro k pre u _ B;simp at B;subst B;simp[U2,kK]
 | cons x xs G=>
  intro k pre u E B
  rw[Za,List.map_cons]
  unfold U2
  dsimp only
  have I:(Flat.val x).cells.size=Flat.sz α:=by rw[pF];simp[Flat.len]
  have J:u.length=xs.length*Flat.sz α+Flat.sz α:=dD
  rw[ej dD]
  have e:((Flat.val x).cells.zipIdx.foldl (fun (cs:Array Value) (q:Value×Nat)=>match q with|(c,j)=>cs.setIfInBounds (k*Flat.sz α+j) c) (pre++u).toArray) =
    ((pre++Flat.enc x)++u.drop (Flat.sz α)).toArray:=by
   apply aat
   rw[pF,IF]
   have h1:=mn pre (u.take (Flat.sz α)) (u.drop (Flat.sz α)) (Flat.enc x) (by simp[Flat.len];omega)
   simp_all
  rw[e]
  have:=G (k+1) (pre++Flat.enc x) (u.drop (Flat.sz α)) (by rw[lY,E,Flat.len,Jv]) dD
  rw[this,kL,n3]
theorem aZ{T E U n:Nat}{parts:List (Nat×Value)}{K:Value->hM}(xs:List α)(Z:St w0 A L w)(ht:Vi P T E (Flat.sz α) U)(hn:xs.length=n)
  (O:parts=xs.zipIdx.map λq=>(q.2,Flat.val q.1)) (hl:xs.length*Flat.sz α<=16777216) (k:∀v w',St w0 A (bH v xs::L) w'->K v w') :
  rJ P (I0 T n parts.toArray) w K:=by
 subst hn
 obtain⟨M,B,hi,W,wE,G⟩:=fp ht
 obtain⟨zv,I,V⟩:∃zv,B.zero=some zv/\zv.cells.size=Flat.sz α:=by
  cases Tz:B.zero with
  | none=>rw[Tz]at G;cases G
  | some zv=>rw[Tz]at G;exact⟨zv,rfl,by simpa using G⟩
 have es:pr P (sizeOf E)=some (Flat.sz α):=by rw[mS hi,W]
 have Y:pr P (zeroValue E)=some zv:=by unfold zeroValue;rw[cX,ml hi];simp only[mO,I];rfl
 refine⟨.slice (some ⟨w.heap.size,0,none⟩) xs.length xs.length,push w (.cells (flat xs).toArray E),?_,k _ _ ?_⟩
 .have u:∀z:Array Value,U2 (λi=>some (i*Flat.sz α,Flat.sz α)) ((abd (xs.length*Flat.sz α)).map (z[· % z.size]!)) parts=some (flat xs).toArray:=by
   intro z
   have:=TB xs 0 [] ((abd (xs.length*Flat.sz α)).map (z[· % z.size]!)).toList ei ei
   rw[O]
   rw[s4,s4,Pn]at this
   exact this
  unfold I0
  rw[eK (fY (cZ M) w)]
  dsimp only
  rw[eK (fY es w),ej cK]
  by_cases J:xs.length*Flat.sz α=0
  .simp only[ew J]
   rw[eK (run_pure _ w),u]
   rfl
  simp only[ej J]
  rw[eK (fY Y w),eK (run_pure _ w),u]
  rfl
 refine Z.new (Ext.push _ _) (F:=λk=>k=w.heap.size) (.inr ⟨w.heap.size,xs.length,[],rfl,⟨E,?_⟩,⟨o1 _,by simp[dB]⟩,λ_=>Iff.rfl⟩) λb hb=>by rw[hb];exact o1 _
 rw[o6];exact mj _ _
theorem wF(z:α)(n:Nat):(madeCells (Flat.enc z).toArray (n*Flat.sz α)).toList=flat (qW n z):=by
 apply List.ext_getElem?
 intro i
 have u:=Flat.pos (α:=α)
 by_cases hi:i<n*Flat.sz α
 .have h1:i / Flat.sz α<n:=by rw[Nat.div_lt_iff_lt_mul u];exact hi
  have h2:i % Flat.sz α<(Flat.enc z).length:=by rw[Flat.len];exact Nat.mod_lt _ u
  have:=rU (xs:=qW n z) (i:=i / Flat.sz α) (j:=i % Flat.sz α) (x:=z) (c:=(Flat.enc z)[i % Flat.sz α]) (by simp[h1]) (by simp[h2])
  rw[Nat.div_add_mod' i (Flat.sz α)]at this
  rw[this]
  unfold madeCells
  simp[hi,Flat.len]
  grind
 have E:(madeCells (Flat.enc z).toArray (n*Flat.sz α)).toList[i]?=none:=by
  rw[AT,Lp,size_madeCells];omega
 have B:(flat (qW n z))[i]?=none:=by
  rw[AT,dB,BH];omega
 rw[E,B]
theorem wG{T E I:Nat}{n:Int}{K:Value->hM}(z:α)(U:St w0 A L w)(ht:Vi P T E (Flat.sz α) I)(B:oo P E (Flat.val z))(J:0<=n)(h1:n<=1073741824)(V:I<=8192)
  (k:∀v w',St w0 A (bH v (qW n.toNat z)::L) w'->K v w'):rJ P (Mf T (hZ n) (hZ n)) w K:=by
 obtain⟨M,u,hi,O,W,_⟩:=fp ht
 unfold oo ep at B
 rw[hi]at B
 simp only[D4,oe.injEq]at B
 have hb:(u.bytes:Int)*n<=281474976710656:=by
  have h2:(u.bytes:Int)<=8192:=cK
  have h3:(u.bytes:Int)*n<=8192*n:=Int.mul_le_mul_of_nonneg_right h2 J
  omega
 have G:=run_make (P:=P) w T E u (Flat.val z) M hi B .i64 .i64 n n J (Int.le_refl _) hb cK
 rw[O,pF]at G
 refine⟨_,_,G,k _ _ ?_⟩
 refine U.new (w':=w.alloc (.cells (madeCells (Flat.enc z).toArray (n.toNat*Flat.sz α)) E)) ⟨rfl,rfl,rfl,ei,λb hb _=>xQ w _ b hb⟩ (F:=λk=>k=w.heap.size)
  (.inr ⟨w.heap.size,n.toNat,[],ei,⟨E,?_⟩,⟨ei,by rw[o6,dB,BH];exact o1 _⟩,λ_=>Iff.rfl⟩) λb hb=>by rw[hb];exact o1 _
 rw[o6,<- wF]
 have:=mj w (.cells (madeCells (Flat.enc z).toArray (n.toNat*Flat.sz α)) E)
 rw[Pn]
 exact this
def GR(α:Type)[Flat α](v:Value)(i:Nat)(p:Value):Prop:=∃b n c,v=.slice (some ⟨b,0,none⟩) n c/\p=.pointer (some ⟨b,i*Flat.sz α,none⟩)
theorem dR{T E G:Nat}{z:Option Nat}{v:Value}{i:Int}{K:Value->Prop}(O:St w0 A (bH v xs::L) w)(ht:eN P T=some (E,Flat.sz α,G,z))(I:0<=i)(h1:i<xs.length)
  (k:∀p,GR α v i.toNat p->K p):eR P (ES T v (hZ i)) K:=by
 obtain⟨F,h,_⟩:=O.head
 rcases h with⟨rfl,rfl,_⟩|⟨b,cap,rest,rfl,hb,V,_⟩
 .simp at h1;omega
 obtain⟨B,U,hi,M,_⟩:=fp ht
 refine⟨.pointer (some ⟨b,i.toNat*Flat.sz α,none⟩),?_,k _ ⟨b,_,_,rfl,rfl⟩⟩
 unfold ES
 have J:pr P (underlying T)=some (.slice E):=cZ B
 have u:pr P (sizeOf E)=some (Flat.sz α):=by rw[mS hi,M]
 simp only[asIntOf,cX,J,u,mO,fQ]
 simp only[ew (show 0<=i/\i<(xs.length:Int)from⟨I,h1⟩),cX,u,mO,fQ,gE,tW]
theorem rL{v:Value}{F:Nat->Prop}{i:Nat}(h:(bH v xs).p w F)(hi:i<xs.length):∃b cap rest,v=.slice (some ⟨b,0,none⟩) xs.length cap/\mR w b (flat xs++rest)/\(xs.length<=cap/\cap*Flat.sz α<=(flat xs++rest).length)/\∀k,F k↔k=b:=by
 rcases h with⟨rfl,rfl,_⟩|h
 .simp at hi
 exact h
theorem gL{T:Nat}{v p:Value}{i:Nat}{x:α}{K:Value->Prop}(I:St w0 A (bH v xs::L) w)(ht:dF P T=some (Flat.agg α,Flat.sz α))(E:GR α v i p)(B:xs[i]?=some x)(k:K (Flat.val x)) :
  J8 P (wZ T p) w K:=by
 obtain⟨F,h,_⟩:=I.head
 obtain⟨b,cap,rest,J,hb,M,_⟩:=rL h (kE.1 B).1
 obtain⟨O,n,c,u,rfl⟩:=E
 rw[J]at u
 simp only[x6.injEq,oe.injEq,Addr.mk.injEq]at u
 obtain⟨⟨rfl,_,_⟩,_,_⟩:=u
 refine aD (S:=λ_=>True) ht ⟨b,i*Flat.sz α,rfl,trivial,λj c G=>hb.cell ?_⟩ k
 have:=rU B G
 rw[tx (kE.1 this).1];exact this
theorem KM{i:Nat}(y:α)(h:i<xs.length):flat (xs.set i y)=flat (xs.take i)++Flat.enc y++flat (xs.drop (i+1)):=by
 rw[List.set_eq_take_append_cons_drop,ew h,gF,kL,n3]
theorem zh{i:Nat}{x:α}(h:xs[i]?=some x):flat xs=flat (xs.take i)++Flat.enc x++flat (xs.drop (i+1)):=by
 have hi:=(kE.1 h).1
 have:xs=xs.take i++x::xs.drop (i+1):=by
  rw[<- (kE.1 h).2,List.getElem_cons_drop,List.take_append_drop]
 conv=>lhs;rw[this]
 rw[gF,kL,n3]
theorem Oz{T:Nat}{v p:Value}{i:Nat}{F:Nat->Prop}(y:α)(h:(bH v xs).p w F)(ht:dF P T=some (Flat.agg α,Flat.sz α))(G:GR α v i p)(hi:i<xs.length) :
  ∃w',(IE T p (Flat.val y)).run P w=.ok () w'/\(bH v (xs.set i y)).p w' F/\gu F w w':=by
 obtain⟨b,cap,rest,V,hb,E,B⟩:=rL h hi
 obtain⟨W,n,c,u,rfl⟩:=G
 rw[V]at u
 simp only[x6.injEq,oe.injEq,Addr.mk.injEq]at u
 obtain⟨⟨rfl,_,_⟩,_,_⟩:=u
 have O:xs[i]?=some xs[i]:=by simp[hi]
 have M:=zh O
 have U:(flat (xs.take i)).length=i*Flat.sz α:=by rw[dB,List.length_take,Nat.min_eq_left cK]
 have hlen:i*Flat.sz α+Flat.sz α<=(flat xs).length:=by
  rw[dB,<- Jv];exact BJ _ hi
 obtain⟨w',h1,h2,h3⟩:=mT (P:=P) (o:=i*Flat.sz α) (Flat.enc y) 0 (flat xs++rest) w hb (by rw[Flat.len,lY];omega) (Flat.one y)
 have J:jh (flat xs++rest) (i*Flat.sz α+0) (Flat.enc y)=flat (xs.set i y)++rest:=by
  have:=mn (flat (xs.take i)) (Flat.enc xs[i]) (flat (xs.drop (i+1))++rest) (Flat.enc y) (by rw[Flat.len,Flat.len])
  rw[U]at this
  rw[N0,KM y hi,M]
  grind
 rw[J]at h2
 refine⟨w',?_,.inr ⟨b,cap,rest,dD,h2,?_,B⟩,h3.mono λk I=>(B k).2 I⟩
 .show(storeVar T ⟨b,i*Flat.sz α,none⟩ (Flat.val y)).run P w=_
  unfold storeVar
  rw[eK (fY (lC ht).2 w),pF]
  simp only[Kw,Flat.len,ne_eq,not_true_eq_false,if_false]
  exact h1
 rw[lY,dB]at E |-;grind
theorem js{T:Nat}{v p:Value}{i:Nat}{K:hM}(y:α)(E:St w0 A (bH v xs::L) w)(ht:dF P T=some (Flat.agg α,Flat.sz α))(I:GR α v i p)(hi:i<xs.length)
  (k:∀w',St w0 A (bH v (xs.set i y)::L) w'->K w'):Vf P (IE T p (Flat.val y)) w K:=by
 obtain⟨U,F,G,h1,h2,h3,h4,h5⟩:=E.tQ
 obtain⟨w',J,M,B⟩:=Oz y h1 ht I hi
 refine⟨w',J,k w' ⟨E.aG.trans B (λ_ h=>h) λb hb u=>(h2 b u).elim id λO=>cK,U,F,G,M,h2,h3,h4,h5.loc λb hb=>B.bY b (h5.lt b hb) λu=>h3 b u hb⟩⟩
end
end Go.Fw
