/-
  Part 1.
-/
import Derived.Test.YtpdlpabnlkofmaaGreatDoorProg
import Derived.Orders
import Derived.Tactics
import Derived.OrdersIn
import Derived.TacticsIn
import Derived.RangeFuncSeq
import Derived.RangeFuncLeaves
import Derived.Laws.Sem
import Derived.KernelRfl
import Derived.Below
import Derived.IntWalk
import Derived.Laws.AppendOwn
import Derived.Laws.MakeOwn
import Derived.WalkKit
import Derived.ProofKit
import Derived.OpenShut
import Derived.ChangeCalls
import Derived.Laws.Strings
import Derived.Lib.ConvBytes
import Derived.MapKept
import Derived.Maps.RangeRun
import Derived.Lib.AppendZeros
import Derived.LaidMore
import Derived.Lay
import Derived.SevenTiedAt
import Derived.Stop.Joined
set_option maxHeartbeats 8000000
set_option linter.all false
set_option maxRecDepth 100000
namespace Go
def cO{p:Prop}(h:p:=by omega):p:=h
def dI{p:Prop}(h:p:=by grind):p:=h
def ee{p:Prop}(h:p:=by decide):p:=h
def ei{p:Prop}(h:p:=by simp):p:=h
def ej:=@if_neg
def ew:=@if_pos
def ez:=@decide_eq_true
def fV:=@decide_eq_false
def ga:=@decide_eq_decide
def g6:=@congrArg
def g7:=@of_decide_eq_true
def g8:=@of_decide_eq_false
def g9:=@Classical.byContradiction
noncomputable abbrev hH:=Proofs.Tryz.prog
abbrev hM:=World->Prop
abbrev hZ(i:Int):Value:=.int .i64 i
end Go
open ByteArray renaming mk->kp
open List renaming getElem?_eq_some_iff->kB,length_append->lr,append_assoc->nK,length_cons->oi,mem_cons_self->oj,append_nil->oO,mem_cons_of_mem->qo,replicate->r6,mem_cons->sl,getElem?_append_left->u3,nil_append->vK,mem_singleton->v7,map_congr_left->BP,getElem?_eq_none_iff->Dp,length_replicate->E2,all_eq_true->Gj,length_nil->MV,size_toArray->Nr,getElem?_toArray->Qq,mem_filterMap->Rp,zipIdx_cons->aaQ
open Go.Instr renaming build->mv,sliceAt->n0,index->wg,sliceBounds->wM,loadAt->x6,box->Ae,fieldAt->Gl,indexAt->Gt,storeAt->K9,buildSlice->LU,makeSlice->OS,alloc->QP,extract->Ua,fill->YK,sliceBound->aaN
open Option renaming bind_some->mU,some->n5,map_some->F3
open Go.Value renaming int->nG,bool->xH,slice->yZ,cells->aaU,pointer->aa8
open Bool renaming and_eq_true->n4,not_eq_true'->ta,or_eq_true->xW,true_and->Av,not_false->P0
open Nat renaming le_refl->o6,zero_add->u4,le_trans->vt,le_of_eq->AH,mul_le_mul_right->Ce,beq->DN,le_of_ble_eq_true->E1,land->Ix,succ_mul->Kf,shiftLeft->Ln,lor->Po,add_zero->P1,eq_of_beq_eq_true->Qy,testBit_two_pow->Rg,mul_le_mul->RX,one_shiftLeft->TG,ble->T5,add_mul->T9,testBit_or->VE,blt->aaY
open Array renaming getD_eq_getD_getElem?->Fq,getElem?_eq_some_iff->Fu,length_toList->Od,getElem?_modify->QF,toArray_toList->QU,empty_append->Ys,foldl_toList->YD,ext'->aa0,range->ab1
open Go.World renaming cell?->T8,setCell->aa4
open Prod renaming mk->aaZ
open Go.Code renaming region->abT
open Classical renaming choose->acf
namespace Go.Fw
abbrev Env:=Nat->Value
def ev(e:Env):Operand->Value
 | .tmp t=>e t
 | .const v=>v
 | .global g=>.pointer (some ⟨g,0,none⟩)
 | .func f=>.func (.func f) #[] #[]
def AK(e:Env)(d:Nat)(v:Value):Env:=λi=>bif DN i d then v else e i
def j9(e:Env)(d:Option Nat)(v:Value):Env:=match d with|some d=>AK e d v|none=>e
theorem nO(e:Env)(d:Nat)(v:Value):AK e d v d=v:=by simp[AK]
theorem pg(e:Env){d i:Nat}(v:Value)(h:i≠d):AK e d v i=e i:=by
 have:DN i d=false:=by
  cases hh:DN i d
  .rfl
  simp_all
 simp[AK,this]
def Xl(e:Env){d u:Nat}(v B:Value)(h:d≠u):AK (AK e d v) u B=AK (AK e u B) d v:=by
 funext i
 by_cases h1:i=d
 .subst h1;rw[pg _ _ h,nO,nO]
 by_cases h2:i=u
 .subst h2;rw[nO,pg _ _ h1,nO]
 rw[pg _ _ h2,pg _ _ h1,pg _ _ h1,pg _ _ h2]
def ai8(e:Env)(d:Nat)(v:Value)(h:e d=v):AK e d v=e:=by
 funext i
 by_cases h1:i=d
 .subst h1;rw[nO,h]
 rw[pg _ _ h1]
def mark(D:Nat):Deferred:={target:=.collected D,args:=#[]}
structure jI(ds:List Nat)(n:Nat)(e:Env)(a:Act):Prop where
 defers:a.defers=ds.map mark
 size:a.tmps.size=n
 get:∀i,a.tmps.getD i undef=e i
def jI.eval{ds:List Nat}{n:Nat}{e:Env}{a:Act}(h:jI ds n e a):a.eval=ev e:=by
 funext x
 cases x<;>simp[Act.eval,ev]
 case tmp t=>simpa using h.get t
theorem jI.put{ds:List Nat}{n:Nat}{e:Env}{a:Act}(h:jI ds n e a){d:Option Nat}(hd:∀k,d=some k->k<n)(v:Value) :
  jI ds n (j9 e d v) (a.put d v):=by
 cases d with
 | none=>exact h
 | some d=>
  have hd:=hd d rfl
  refine⟨h.defers,by simp[Act.put,h.size],λi=>?_⟩
  have u:=h.get i
  simp only[Act.put,j9,Fq]at *
  by_cases hi:i=d
  .subst hi
   rw[Array.getElem?_setIfInBounds_self_of_lt (by rw[h.size];exact hd),nO]
   rfl
  .rw[Array.getElem?_setIfInBounds_ne (Ne.symm hi),pg _ _ hi]
   exact u
def pr(P:Program){α:Type}:Sem α->Option α
 | .pure a=>some a
 | .program k=>pr P (k P)
 | .mark _ k=>pr P k
 | _=>none
theorem gn{P:Program}{α:Type}{m:Sem α}{v:α}(h:pr P m=some v)(w:World):m.run P w=.ok v w:=by
 induction m with
 | pure a=>simp only[pr,n5.injEq]at h;simp_all
 | program k u=>exact u P h
 | mark x k u=>exact u h
 | _=>simp[pr]at h
theorem fY{P:Program}{α:Type}(a:α):pr P (pure a:Sem α)=some a:=rfl
theorem cZ{P:Program}{α β:Type}(m:Sem α)(f:α->Sem β):pr P (m >>= f)=(pr P m).bind λa=>pr P (f a):=by
 show pr P (m.bind f)=_
 induction m with
 | pure a=>rfl
 | program k u=>exact u P
 | mark x k u=>exact u
 | _=>rfl
theorem eT{P:Program}{α β:Type}{m:Sem α}{f:α->Sem β}{w w':World}{a:α}(h:m.run P w=.ok a w') :
  (m >>= f).run P w=(f a).run P w':=by simp_all
theorem run_pure{P:Program}{α:Type}(a:α)(w:World):(pure a:Sem α).run P w=.ok a w:=rfl
abbrev FO(r:Option Nat):Fence:={Fence.wide with round:=r}
def ES{r:Option Nat}{p:Prop}:(FO r).depth.isSome=true->p:=λh=>by cases h
def zZ{r:Option Nat}{n:Nat}{P:Program}{f:FuncId}{args:Array Value}{w:World}{R:Ending->hM}:CallsIn (FO r) n P f args w R↔Calls P f args w R:=
 callsIn_wide (n:=n)
def tQ(K:Value->hM):Ending->hM:=λe w=>∃v,e=.returned v/\K v w
def tQ.mono{K u:Value->hM}{e:Ending}{w:World}(h:tQ K e w)(k:∀v w,K v w->u v w):tQ u e w:=
 let ⟨v,E,B⟩:=h;⟨v,E,k _ _ B⟩
def Plain(P : Program)(f : FuncId) : Prop := ∃u, P.funcs[f]?=some u /\ (u.name == "runtime.NumGoroutine")=false /\ u.body.isNone=false
theorem AQ{P:Program}{f:FuncId}(h:Plain P f)(args:Array Value)(w:World) :
  (callFunc f args).run P w=.ok (.enter f args) w:=by
 obtain⟨u,h1,h2,h3⟩:=h
 show(match P.funcs[f]? with|none=>_|some u=>_:Sem Next).run P w=_
 rw[h1]
 simp[h2,h3]
structure eX(P:Program)(m:Sem Value)(K:Value->Prop):Prop where
 ex:∃v,pr P m=some v/\K v
structure Lu(P:Program)(m:Sem Value)(w:World)(K:Value->Prop):Prop where
 ex:∃v,m.run P w=.ok v w/\K v
structure ry(P:Program)(m:Sem Value)(w:World)(K:Value->hM):Prop where
 ex:∃v w',m.run P w=.ok v w'/\K v w'
structure WY(P:Program)(m:Sem Unit)(w:World)(K:hM):Prop where
 ex:∃w',m.run P w=.ok () w'/\K w'
structure Dm(P:Program)(f:FuncId)(args:List Value)(w:World)(K:Value->hM):Prop where
 ex:(Plain P f/\Calls P f args.toArray w (tQ K))\/∃v w',(callFunc f args.toArray).run P w=.ok (.value v) w'/\K v w'
structure kT(P:Program)(fv:Value)(args:List Value)(w:World)(K:Value->hM):Prop where
 ex:(∃g first cap,fv=.func (.func g) first cap/\Plain P g/\Calls P g (first++args.toArray++cap) w (tQ K))\/
  ∃l,fv=.func (.yield l) #[] #[]/\YieldAt (FO none) 0 P l args.toArray w (tQ K)
structure zA(v:Value)(A B:Prop):Prop where
 ex:∃t,v=.bool t/\(t=true->A)/\(t=false->B)
structure Sk(P:Program)(m:Sem Value)(v:Value)(w:World)(R:Prop):Prop where
 aof:m.run P w=.ok v w
 rest:R
inductive ET where
 | val (v:Value)
 | p (m:Sem Value)
 | q (m:Sem Value)
 | e (m:Sem Value)
 | u (m:Sem Unit)
 | call (f:FuncId) (args:List Value)
 | Sl (fv:Value) (args:List Value)
 | bad
def WZ:Operand->Bool|.const _=>true|_=>false
def UN:Value->Sem Value
 | .pointer none|.nilIface|.nilFunc => stuck "nil"
 | .func (.method _) _ _ => stuck "method"
 | x=>pure x
def Xm(c a b:Value):Sem Value:=do pure (if <- asBool c then a else b)
def ado(op:BinOp)(t:TypeId)(cx cy:Bool)(a b:Value):Sem Value:=
 match a,b with
 | .nilIface, .nilIface => if cx||cy then binOp op t a b else stuck "two nil interfaces"
 | .agg _, .agg _ => .program λp => if p.eqGuardType p.depth t then stuck "an interface in a part" else binOp op t a b
 | _,_=>binOp op t a b
def ke(op:BinOp)(t:TypeId)(cx cy:Bool)(a b:Value):Sem Value:=
 match op with
 | .eql=>ado .eql t cx cy a b
 | .neq=>ado .neq t cx cy a b
 | op=>binOp op t a b
def adp(P:Program)(op:BinOp)(t:TypeId)(x y:Operand):Bool:=
 match op with
 | .eql|.neq=>match P.underlying t with
  | some (.pointer _)|some .unsafePointer=>!(WZ x||WZ y)
  | _=>false
 | _=>false
def isMap(P:Program)(t:TypeId):Bool:=match P.underlying t with|some (.map _ _)|some (.chan _ _)=>true|_=>false
def aog(P:Program)(s d:TypeId):Nat:=
 match P.underlying d with
 | some (.slice _)=>2
 | some .string=>match P.underlying s with|some (.slice _)=>1|_=>0
 | _=>0
def AR(P:Program)(o:Oper)(ρ:Operand->Value):ET:=
 match o.op with
 | .move x|.assign x=>.val (ρ x)
 | .pick c a b=>.p (Xm (ρ c) (ρ a) (ρ b))
 | .alloc t=>.e (QP t true (.tuple #[]))
 | .box t x=>.e (Ae t (ρ x))
 | .build t parts=>.p (mv t (parts.toList.map λq=>(q.1,ρ q.2)).toArray)
 | .buildSlice t n parts=>.e (LU t n (parts.toList.map λq=>(q.1,ρ q.2)).toArray)
 | .load t a=>.q (x6 t (ρ a))
 | .store t a x=>.u (K9 t (ρ a) (ρ x))
 | .nilCheck x=>.p (UN (ρ x))
 | .binOp op t x y _=>if adp P op t x y then .q (ke op t (WZ x) (WZ y) (ρ x) (ρ y))else .p (ke op t (WZ x) (WZ y) (ρ x) (ρ y))
 | .unOp op _ x=>.p (Op.unary op (ρ x))
 | .convert s d x=>match aog P s d with|0=>.p (convert s d (ρ x))|1=>.q (convert s d (ρ x))|_=>.e (convert s d (ρ x))
 | .makeInterface t x=>.q (Instr.makeInterface t (ρ x))
 | .makeFunc fn first cap=>.val (.func fn (first.toList.map ρ).toArray (cap.toList.map ρ).toArray)
 | .makeMap t r=>.e (Instr.makeMap t (r.map ρ))
 | .makeSlice t l c=>.e (OS t (ρ l) (ρ c))
 | .slice t x lo hi B=>.p (n0 t (ρ x) (lo.map ρ) (hi.map ρ) (B.map ρ))
 | .fieldAddr s x f=>.p (Gl s (ρ x) f)
 | .field t x f=>.p (Instr.field t (ρ x) f)
 | .indexAddr t x i=>.p (Gt t (ρ x) (ρ i))
 | .index t x i=>.p (wg t (ρ x) (ρ i))
 | .lookup t x i ok=>.q (Instr.lookup t (ρ x) (ρ i) ok)
 | .mapUpdate t m k x|.insert t m k x=>.u (Instr.mapUpdate t (ρ m) (ρ k) (ρ x))
 | .mapEntry t m k=>.e (Instr.mapEntry t (ρ m) (ρ k))
 | .entryStore t m s x=>.u (Instr.entryStore t (ρ m) (ρ s) (ρ x))
 | .range t x=>.e (Instr.range t (ρ x))
 | .next it s=>.e (Instr.next (ρ it) s o.type)
 | .entry it=>.q (Instr.entry (ρ it))
 | .typeAssert x t u ok=>.q (Instr.typeAssert (ρ x) t u ok)
 | .extract t i=>.p (Ua (ρ t) i)
 | .call c=>
  match c.callee with
  | .value (.func f)=>.call f (c.args.toList.map ρ)
  | .value x=>.Sl (ρ x) (c.args.toList.map ρ)
  | .invoke ..=>.bad
  | .builtin b=>
   match b with
   | .len=>if isMap P (c.argTypes.getD 0 0)then .q (Builtin.len_ c.argTypes o.type (c.args.toList.map ρ).toArray)else .p (Builtin.len_ c.argTypes o.type (c.args.toList.map ρ).toArray)
   | .cap=>.p (Builtin.cap_ c.argTypes o.type (c.args.toList.map ρ).toArray)
   | .min=>.p (Builtin.min_ c.argTypes o.type (c.args.toList.map ρ).toArray)
   | .max=>.p (Builtin.max_ c.argTypes o.type (c.args.toList.map ρ).toArray)
   | .append=>.e (Builtin.append_ c.argTypes o.type (c.args.toList.map ρ).toArray)
   | .copy=>.e (Builtin.copy_ c.argTypes o.type (c.args.toList.map ρ).toArray)
   | .clear=>.e (Builtin.clear_ c.argTypes o.type (c.args.toList.map ρ).toArray)
   | .delete=>.e (Builtin.delete_ c.argTypes o.type (c.args.toList.map ρ).toArray)
   | _=>.bad
 | _=>.bad
def HM(P:Program)(k:ET)(K:Value->hM)(w:World):Prop:=
 match k with
 | .val v=>K v w
 | .p m=>eX P m (λv=>K v w)
 | .q m=>Lu P m w (λv=>K v w)
 | .e m=>ry P m w K
 | .u m=>WY P m w (λw'=>K undef w')
 | .call f args=>Dm P f args w K
 | .Sl fv args=>kT P fv args w K
 | .bad=>False
def ET.quiet:ET->Bool
 | .val _|.p _|.q _=>true
 | _=>false
def ET.reads:ET->Bool
 | .q _=>true
 | _=>false
def ET.has(P:Program)(k:ET)(w:World)(v:Value):Prop:=
 match k with
 | .val x=>x=v
 | .p m=>pr P m=some v
 | .q m=>m.run P w=.ok v w
 | _=>False
def HM.has{P:Program}{k:ET}{K:Value->hM}{w:World}(u:k.quiet=true)(h:HM P k K w):∃v,k.has P w v/\K v w:=by
 cases k<;>simp only[ET.quiet,Bool.false_eq_true]at u<;>simp only[HM]at h
 case val v=>exact⟨v,rfl,h⟩
 case p m=>exact h.ex
 case q m=>exact h.ex
def ET.UO{P:Program}{k:ET}{w w':World}{v:Value}(u:k.reads=false)(h:k.has P w v):k.has P w' v:=by
 cases k<;>simp only[ET.has,ET.reads,Bool.true_eq_false]at *
 .exact h
 exact h
def HM.Xn{P:Program}{k:ET}{K:Value->hM}{w:World}{v:Value}(h:k.has P w v)(B:K v w):HM P k K w:=by
 cases k<;>simp only[ET.has]at h<;>simp only[HM]
 case val u=>grind
 case p m=>exact⟨v,h,B⟩
 case q m=>exact⟨v,h,B⟩
def HM.mono{P:Program}{k:ET}{K E:Value->hM}{w:World}(h:HM P k K w)(B:∀v w,K v w->E v w):HM P k E w:=by
 cases k<;>simp only[HM]at *
 case val v=>grind
 case p m=>exact⟨let ⟨v,a,b⟩:=h.ex;⟨v,a,B _ _ b⟩⟩
 case q m=>exact⟨let ⟨v,a,b⟩:=h.ex;⟨v,a,B _ _ b⟩⟩
 case e m=>exact⟨let ⟨v,w',a,b⟩:=h.ex;⟨v,w',a,B _ _ b⟩⟩
 case u m=>exact⟨let ⟨w',a,b⟩:=h.ex;⟨w',a,B _ _ b⟩⟩
 case call f args=>
  rcases h.ex with⟨a,b⟩|⟨v,w',a,b⟩
  .exact⟨.inl ⟨a,b.mono λe w' r=>r.mono B⟩⟩
  .exact⟨.inr ⟨v,w',a,B _ _ b⟩⟩
 case Sl fv args=>
  rcases h.ex with⟨g,f,c,a,b,d⟩|⟨l,a,G,t,s,b,c,d⟩
  .exact⟨.inl ⟨g,f,c,a,b,d.mono λe w' r=>r.mono B⟩⟩
  .exact⟨.inr ⟨l,a,G,t,s,b,c,d.mono λe w' r=>r.mono B⟩⟩
def uV{r:Option Nat}{P:Program}{o:Oper}{a:Act}{w:World}:∀f,o.about P w a.eval=some f->(FO r).fn f:=λ_ _=>trivial
def LG{r:Option Nat}{P:Program}{o:Oper}{a:Act}{next:Act->hM}{Q:Exit->Act->hM}{f:FuncId}{args:Array Value}{w:World}
  {K:Value->hM}(h:Calls P f args w (tQ K)) (E:∀v w',K v w'->next (a.put o.dst v) w'):o.uponIn (FO r) 0 P a next Q (.ok (.enter f args) w):=by
 rw[Oper.uponIn_enter]
 refine⟨ES,zZ.2 (h.mono λe w' ⟨v,B,u⟩=>?_)⟩
 grind
def Hm{r:Option Nat}{P:Program}{o:Oper}{a:Act}{next:Act->hM}{Q:Exit->Act->hM}{l:Nat}{f:FuncId}{tmps:Array Value}{assign body:Code}{w:World}
  {K:Value->hM}(h:RoundIn (FO none) 0 P l f tmps assign body w (tQ K)) (G:∀v w',K v w'->next (a.put o.dst v) w'):o.uponIn (FO r) 0 P a next Q (.ok (.round l f tmps assign body) w):=by
 rw[Oper.uponIn_round]
 refine⟨ES,?_⟩
 have u:RoundIn (FO r) 0 P l f tmps assign body w (tQ K):=h
 refine u.mono λe w' ⟨v,E,B⟩=>?_
 grind
def kU{r:Option Nat}{P:Program}{o:Oper}{a:Act}{next:Act->hM}{Q:Exit->Act->hM}{w w':World}{v:Value}(u:∀c,o.op≠.defer c)
  (h:(execOp a.eval o).run P w=.ok (.value v) w') (B:next (a.put o.dst v) w'):o.wpIn (FO r) 0 P a w next Q:=by
 unfold Oper.wpIn;rw[Oper.semAt_eq _ _ _ u,h,Oper.uponIn_value];exact⟨uV,B⟩
def Pv{r:Option Nat}{P:Program}{o:Oper}{a:Act}{next:Act->hM}{Q:Exit->Act->hM}{w w':World}(u:∀c,o.op≠.defer c)
  (h:(execOp a.eval o).run P w=.ok .skip w') (B:next (a.put o.dst undef) w'):o.wpIn (FO r) 0 P a w next Q:=by
 unfold Oper.wpIn;rw[Oper.semAt_eq _ _ _ u,h,Oper.uponIn_skip];exact⟨uV,B⟩
def LH{P:Program}{m:Sem Value}{w w':World}{v:Value}(h:m.run P w=.ok v w') :
  (do pure (.value (<- m)):Sem Next).run P w=.ok (.value v) w':=by simp_all
def aoh{P:Program}{m:Sem Unit}{w w':World}(h:m.run P w=.ok () w') :
  (do m;pure .skip:Sem Next).run P w=.ok .skip w':=by simp_all
theorem Eg{α β:Type}(f:α->β)(l:Array α):(l.toList.map f).toArray=l.map f:=by
 grind
def eqG(t:TypeId)(x y:Operand)(a b:Value):Sem Unit:=
 match a,b with
 | .nilIface,.nilIface=>if (WZ x||WZ y)=true then pure ()else do
   if <- Op.eqGuardIn Op.maxDepth t a b then unsupported (.noEntry "binop/eql: two nil values of an interface type with methods, neither of them the literal nil")
 | .agg _,.agg _=>do
  if !(<- program).eqGuardType (<- program).depth t then return
  if <- Op.eqGuardIn Op.maxDepth t a b then unsupported (.noEntry "binop/eql: two nil values of an interface type with methods, in a part of a struct or an array")
 | _,_=>pure ()
def Dn{P:Program}{op:BinOp}(B:op=.eql\/op=.neq){t:TypeId}{x y:Operand}{a b:Value}{w w':World}{v:Value}
  (h:(ado op t (WZ x) (WZ y) a b).run P w=.ok v w'):(eqGuard op t x y a b).run P w=.ok () w/\(binOp op t a b).run P w=.ok v w':=by
 have u:eqGuard op t x y a b=eqG t x y a b:=by rcases B with rfl|rfl<;>cases x<;>cases y<;>rfl
 rw[u]
 clear u
 unfold eqG
 unfold ado at h
 split at h
 .split at h
  .simp_all
  simp_all
 .rename_i c1 c2
  have E : (if P.eqGuardType P.depth t then stuck "an interface in a part" else binOp op t (.agg c1) (.agg c2) : Sem Value).run P w=.ok v w' := h
  split at E
  .simp_all
  simp_all
 simp_all
def LI{P:Program}{op:BinOp}{t:TypeId}{x y:Operand}{a b:Value}{w w':World}{v:Value}
  (h:(ke op t (WZ x) (WZ y) a b).run P w=.ok v w'):(do eqGuard op t x y a b;binOp op t a b:Sem Value).run P w=.ok v w':=by
 unfold ke at h
 split at h
 .obtain⟨h1,h2⟩:=Dn (.inl rfl) h
  simp_all
 .obtain⟨h1,h2⟩:=Dn (.inr rfl) h
  simp_all
 rename_i n1 n2
 have h1:(eqGuard op t x y a b).run P w=.ok () w:=by
  unfold eqGuard
  simp_all
 simp_all
theorem HM.wp{r:Option Nat}{ds:List Nat}{P:Program}{n:Nat}{o:Oper}{e:Env}{a:Act}{w:World}{K:Value->hM}{Q:Exit->Act->hM}{next:Act->hM}
  (ha:jI ds n e a) (h:HM P (AR P o (ev e)) K w) (I:∀v w',K v w'->next (a.put o.dst v) w'):o.wpIn (FO r) 0 P a w next Q:=by
 have B:=ha.eval
 have G:∀c,o.op≠.defer c:=λc hc=>by unfold AR at h;rw[hc]at h;exact h
 have V:∀{m:Sem Value},eX P m (λv=>K v w)->execOp (ev e) o=(do pure (.value (<- m)):Sem Next)->o.wpIn (FO r) 0 P a w next Q:=λM J=>by
  obtain⟨v,h1,h2⟩:=M.ex
  exact kU (w':=w) G (by rw[B,J];exact LH (gn h1 w)) (I _ _ h2)
 have Y:∀{m:Sem Value},Lu P m w (λv=>K v w)->execOp (ev e) o=(do pure (.value (<- m)):Sem Next)->o.wpIn (FO r) 0 P a w next Q:=λM J=>by
  obtain⟨v,h1,h2⟩:=M.ex
  exact kU (w':=w) G (by rw[B,J];exact LH h1) (I _ _ h2)
 have E:∀{m:Sem Value},ry P m w K->execOp (ev e) o=(do pure (.value (<- m)):Sem Next)->o.wpIn (FO r) 0 P a w next Q:=λM J=>by
  obtain⟨v,w',h1,h2⟩:=M.ex
  exact kU G (by rw[B,J];exact LH h1) (I _ _ h2)
 have U:∀{m:Sem Unit},WY P m w (λw'=>K undef w')->execOp (ev e) o=(do m;pure .skip:Sem Next)->o.wpIn (FO r) 0 P a w next Q:=λM J=>by
  obtain⟨w',h1,h2⟩:=M.ex
  exact Pv G (by rw[B,J];exact aoh h1) (I _ _ h2)
 unfold AR at h
 cases kC:o.op with
 | move x=>rw[kC]at h;exact kU (w':=w) G (by rw[B];simp only[execOp,kC];rfl) (I _ _ h)
 | assign x=>rw[kC]at h;exact kU (w':=w) G (by rw[B];simp only[execOp,kC];rfl) (I _ _ h)
 | pick c x y=>
  rw[kC]at h
  obtain⟨v,h1,h2⟩:=h.ex
  refine kU (w':=w) G ?_ (I _ _ h2)
  rw[B];simp only[execOp,kC]
  have:=gn h1 w
  unfold Xm at this
  revert this
  cases ev e c<;>simp only[asBool]<;>intro this<;>first|(simp only[stuck]at this;exact absurd this (by simp[Sem.run]))|skip
  case bool t=>
   have e2:v=(if t=true then ev e x else ev e y):=by
    have:(Result.ok (if t=true then ev e x else ev e y) w:Result Value)=.ok v w:=this
    simpa using this.symm
   rw[e2];rfl
 | alloc t=>rw[kC]at h;exact E h (by simp only[execOp,kC])
 | box t x=>rw[kC]at h;exact E h (by simp only[execOp,kC])
 | build t ps=>rw[kC]at h;exact V h (by simp only[execOp,kC,Eg])
 | buildSlice t n ps=>rw[kC]at h;exact E h (by simp only[execOp,kC,Eg])
 | insert t m k x=>rw[kC]at h;exact U h (by simp only[execOp,kC])
 | load t x=>rw[kC]at h;exact Y h (by simp only[execOp,kC])
 | store t x y=>rw[kC]at h;exact U h (by simp only[execOp,kC])
 | nilCheck x=>
  rw[kC]at h
  obtain⟨v,h1,h2⟩:=h.ex
  refine kU (w':=w) G ?_ (I _ _ h2)
  rw[B];simp only[execOp,kC]
  revert h1
  cases J:ev e x with
  | pointer p=>cases p<;>simp[UN,stuck,pr,fY]<;>(try(rintro rfl;rfl))
  | func fn f c=>cases fn<;>simp[UN,stuck,pr,fY]<;>(try(rintro rfl;rfl))
  | _=>simp[UN,stuck,pr,fY]<;>(try(rintro rfl;rfl))
 | binOp op t x y u=>
  rw[kC]at h
  dsimp only at h
  split at h
  .obtain⟨v,h1,h2⟩:=h.ex
   exact kU (w':=w) G (by rw[B];simp only[execOp,kC];exact LH (LI h1)) (I _ _ h2)
  .obtain⟨v,h1,h2⟩:=h.ex
   exact kU (w':=w) G (by rw[B];simp only[execOp,kC];exact LH (LI (gn h1 w))) (I _ _ h2)
 | unOp op t x=>rw[kC]at h;exact V h (by simp only[execOp,kC])
 | convert s d x=>
  rw[kC]at h
  dsimp only at h
  split at h
  .exact V h (by simp only[execOp,kC])
  .exact Y h (by simp only[execOp,kC])
  .exact E h (by simp only[execOp,kC])
 | makeInterface t x=>rw[kC]at h;exact Y h (by simp only[execOp,kC])
 | makeFunc fn f c=>rw[kC]at h;exact kU (w':=w) G (by rw[B];simp only[execOp,kC,<- Eg];rfl) (I _ _ h)
 | makeMap t r=>rw[kC]at h;exact E h (by simp only[execOp,kC])
 | makeSlice t l c=>rw[kC]at h;exact E h (by simp only[execOp,kC])
 | slice t x lo hi mx=>rw[kC]at h;exact V h (by simp only[execOp,kC])
 | fieldAddr s x f=>rw[kC]at h;exact V h (by simp only[execOp,kC])
 | field t x f=>rw[kC]at h;exact V h (by simp only[execOp,kC])
 | indexAddr t x i=>rw[kC]at h;exact V h (by simp only[execOp,kC])
 | index t x i=>rw[kC]at h;exact V h (by simp only[execOp,kC])
 | lookup t x i ok=>rw[kC]at h;exact Y h (by simp only[execOp,kC])
 | mapUpdate t m k x=>rw[kC]at h;exact U h (by simp only[execOp,kC])
 | mapEntry t m k=>rw[kC]at h;exact E h (by simp only[execOp,kC])
 | entryStore t m s x=>rw[kC]at h;exact U h (by simp only[execOp,kC])
 | range t x=>rw[kC]at h;exact E h (by simp only[execOp,kC])
 | next it s=>rw[kC]at h;exact E h (by simp only[execOp,kC])
 | entry it=>rw[kC]at h;exact Y h (by simp only[execOp,kC])
 | typeAssert x t u ok=>rw[kC]at h;exact Y h (by simp only[execOp,kC])
 | extract t i=>rw[kC]at h;exact V h (by simp only[execOp,kC])
 | call c=>
  rw[kC]at h
  dsimp only at h
  have O:(c.args.toList.map (ev e)).toArray=c.args.map (ev e):=Eg _ _
  cases hc:c.callee with
  | value x=>
   rw[hc]at h
   have W:∀{g:FuncId}{first cap:Array Value},ev e x=.func (.func g) first cap->Plain P g->Calls P g (first++(c.args.toList.map (ev e)).toArray++cap) w (tQ K)->o.wpIn (FO r) 0 P a w next Q:=by
    intro g first cap J M ki
    unfold Oper.wpIn
    rw[Oper.semAt_eq _ _ _ G]
    have hr:(execOp a.eval o).run P w=.ok (.enter g (first++(c.args.toList.map (ev e)).toArray++cap)) w:=by
     rw[B]
     simp only[execOp,kC]
     have h1:(resolve (ev e) c o.type).run P w=.ok {target:=.fn (.func g) cap,args:=first++c.args.map (ev e)} w:=by
      simp only[resolve,hc,J];rfl
     rw[eT h1]
     show(callFunc g (first++c.args.map (ev e)++cap)).run P w=_
     rw[AQ M,O]
    rw[hr]
    exact⟨uV,LG ki λv w' hv=>I v w' hv⟩
   have hyl:∀{l:Nat},ev e x=.func (.yield l) #[] #[]->YieldAt (FO none) 0 P l (c.args.toList.map (ev e)).toArray w (tQ K)->o.wpIn (FO r) 0 P a w next Q:=by
    rintro l J ⟨fn,tmps,assign,body,hy,hr⟩
    unfold Oper.wpIn
    rw[Oper.semAt_eq _ _ _ G]
    have hr':(execOp a.eval o).run P w=.ok (.round l fn tmps assign body) w:=by
     rw[B]
     simp only[execOp,kC]
     have h1:(resolve (ev e) c o.type).run P w=.ok {target:=.fn (.yield l) #[],args:=#[]++c.args.map (ev e)} w:=by
      simp only[resolve,hc,J];rfl
     rw[eT h1]
     show(Instr.yield l (#[]++c.args.map (ev e))).run P w=_
     rw[Ys,<- O];exact hy
    rw[hr']
    exact⟨uV,Hm hr λv w' hv=>I v w' hv⟩
   have Z:kT P (ev e x) (c.args.toList.map (ev e)) w K->o.wpIn (FO r) 0 P a w next Q:=λh=>by
    rcases h.ex with⟨g,first,cap,h1,h2,h3⟩|⟨l,h1,h2⟩
    .exact W h1 h2 h3
    .exact hyl h1 h2
   cases x with
   | func f=>
    rcases h.ex with⟨h1,h2⟩|⟨v,w',h1,h2⟩
    .exact W (g:=f) (first:=#[]) (cap:=#[]) rfl h1 (by simpa using h2)
    .refine kU G ?_ (I _ _ h2)
     rw[B]
     simp only[execOp,kC]
     have h3:(resolve (ev e) c o.type).run P w=.ok {target:=.fn (.func f) #[],args:=#[]++c.args.map (ev e)} w:=by
      simp only[resolve,hc,ev];rfl
     rw[eT h3]
     show(callFunc f (#[]++c.args.map (ev e)++#[])).run P w=_
     rw[<- O,Ys,Array.append_empty]
     exact h1
   | tmp t=>exact Z h
   | const v=>exact Z h
   | global g=>exact Z h
  | invoke r nm=>rw[hc]at h;exact h.elim
  | builtin b=>
   rw[hc]at h
   dsimp only at h
   have hb:∀{m:Sem Value},builtin b c.argTypes o.type (c.args.map fun|.const _=>true|_=>false) (c.args.map (ev e))=(do pure (.value (<- m)):Sem Next)->
     execOp (ev e) o=(do pure (.value (<- m)):Sem Next):=by
    intro m hm
    simp only[execOp,kC]
    have h1:resolve (ev e) c o.type=pure {target:=.builtin b c.argTypes o.type (c.args.map fun|.const _=>true|_=>false),args:=c.args.map (ev e)}:=by
     simp only[resolve,hc];rfl
    rw[h1]
    exact hm
   rw[O]at h
   cases b<;>first|exact h.elim|skip
   case len=>
    dsimp only at h
    split at h
    .exact Y h (hb rfl)
    .exact V h (hb rfl)
   case cap=>exact V h (hb rfl)
   case min=>exact V h (hb rfl)
   case max=>exact V h (hb rfl)
   case append=>exact E h (hb rfl)
   case copy=>exact E h (hb rfl)
   case clear=>exact E h (hb rfl)
   case delete=>exact E h (hb rfl)
 | _=>rw[kC]at h;exact h.elim
def pre(o:Oper):List Nat:=(o.after.toList.filter λe=>Region.binds .any e).map (·.on)
def Cu(u:List Oper)(j:Nat):Option Nat:=(u[j]?).bind (·.dst)
def looks(u:List Oper)(o:Oper):List Nat:=
 (o.op.operands.toList.filterMap fun|.tmp t=>some t|_=>none)++(match o.guard with|some (j,_)=>(Cu u j).toList|none=>[])
def ph(u:List Oper)(o:Oper)(e:Env):Bool:=
 match o.guard with
 | none=>true
 | some (j,b)=>match Cu u j with
  | none=>false
  | some s=>match e s with
   | .bool B=>B == b
   | _=>false
theorem HN{ds:List Nat}{n:Nat}{e:Env}{a:Act}(h:jI ds n e a)(u:List Oper)(o:Oper):Region.wanted o (yielded u.toArray a.tmps)=ph u o e:=by
 unfold Region.wanted ph
 cases o.guard with
 | none=>rfl
 | some g=>
  obtain⟨j,b⟩:=g
  simp only[yielded,Cu,Qq]
  cases (u[j]?).bind (·.dst)with
  | none=>simp
  | some s=>
   have B:=h.get s
   simp only[mU]
   rw[<- B,Fq]
   cases a.tmps[s]? with
   | none=>simp[undef]
   | some v=>grind
theorem UP{P:Program}{o:Oper}{ρ ρ':Operand->Value}(h:∀x∈o.op.operands,ρ x=ρ' x):AR P o ρ=AR P o ρ':=by
 unfold AR
 cases kC:o.op<;>rw[kC]at h<;>simp only[Op.operands]at h<;>dsimp only
 case call c=>
  have G:∀x∈c.args,ρ x=ρ' x:=λx E=>h x (by simp[Call.operands,E])
  have B:c.args.toList.map ρ=c.args.toList.map ρ':=BP λx E=>G x dI
  rw[B]
  cases hc:c.callee with
  | value x=>
   have E:ρ x=ρ' x:=h x (by simp[Call.operands,hc])
   grind
  | _=>rfl
 case build t ps=>
  have B:(ps.toList.map λq=>(q.1,ρ q.2))=ps.toList.map λq=>(q.1,ρ' q.2):=
   BP λq I=>dI
  grind
 case buildSlice t n ps=>
  have B:(ps.toList.map λq=>(q.1,ρ q.2))=ps.toList.map λq=>(q.1,ρ' q.2):=
   BP λq I=>dI
  grind
 case makeFunc fn f c=>
  simp_all
 case makeMap t r=>
  have:r.map ρ=r.map ρ':=by cases r with|none=>rfl|some x=>grind
  grind
 case slice t x lo hi mx=>
  have J:ρ x=ρ' x:=h x ei
  have h1:lo.map ρ=lo.map ρ':=by cases lo with|none=>rfl|some y=>grind
  have h2:hi.map ρ=hi.map ρ':=by cases hi with|none=>rfl|some y=>grind
  have h3:mx.map ρ=mx.map ρ':=by cases mx with|none=>rfl|some y=>grind
  grind
 case load t x=>grind
 case store t x y=>grind
 case pick c x y=>grind
 case binOp op t x y u=>grind
 case insert t m k x=>grind
 case mapUpdate t m k x=>grind
 case entryStore t m k x=>grind
 case mapEntry t m k=>grind
 case lookup t m k ok=>grind
 case indexAddr t m k=>grind
 case index t m k=>grind
 case makeSlice t m k=>grind
 all_goals grind
def ai9{e:Env}{d:Nat}{v:Value}{x:Operand}(h:x≠.tmp d):ev (AK e d v) x=ev e x:=by
 cases x<;>simp only[ev]
 case tmp t=>exact pg _ _ λu=>h (by rw[u])
theorem Eh{P:Program}{B:List Oper}{o:Oper}{e:Env}{d:Option Nat}{v:Value}(h:∀k,d=some k->k ∉ looks B o) :
  AR P o (ev (j9 e d v))=AR P o (ev e):=by
 cases d with
 | none=>rfl
 | some d=>
  refine UP λx E=>ai9 λu=>h d rfl ?_
  subst u
  exact List.mem_append_left _ (Rp.2 ⟨.tmp d,dI,rfl⟩)
theorem yD{u:List Oper}{o:Oper}{e:Env}{d:Option Nat}{v:Value}(h:∀k,d=some k->k ∉ looks u o) :
  ph u o (j9 e d v)=ph u o e:=by
 cases d with
 | none=>rfl
 | some d=>
  have h:=h d rfl
  unfold ph
  unfold looks at h
  cases hg:o.guard with
  | none=>rfl
  | some g=>
   obtain⟨j,b⟩:=g
   rw[hg]at h
   dsimp only at h |-
   cases hs:Cu u j with
   | none=>rfl
   | some s=>
    rw[hs]at h
    have:s≠d:=λB=>h (by simp[B])
    simp only[j9,pg _ _ this]
def Xo(u:List Oper)(x y:Oper):Prop:=
 (∀d,x.dst=some d->d ∉ looks u y/\y.dst≠some d)/\(∀d,y.dst=some d->d ∉ looks u x)
theorem UQ{e:Env}{d u:Option Nat}{v B:Value}(h:∀k,d=some k->u≠some k):j9 (j9 e d v) u B=j9 (j9 e u B) d v:=by
 cases d with
 | none=>rfl
 | some d=>cases u with
  | none=>rfl
  | some u=>exact Xl _ _ _ λE=>h d rfl (by rw[E])
def Ei(P:Program)(u:List Oper)(o:Oper)(K:Env->hM)(e:Env)(w:World):Prop:=
 if ph u o e=true then HM P (AR P o (ev e)) (λv w'=>K (j9 e o.dst v) w') w else K (j9 e o.dst undef) w
def Ei.mono{P:Program}{u:List Oper}{o:Oper}{K B:Env->hM}{e:Env}{w:World}(h:Ei P u o K e w)
  (E:∀v w',K (j9 e o.dst v) w'->B (j9 e o.dst v) w'):Ei P u o B e w:=by
 unfold Ei at *
 split
 .rename_i hw;rw[ew hw]at h;exact h.mono λv w'=>E v w'
 grind
def Pw(u:List Oper)(L:Nat->Bool)(i:Nat):Prop:=L i=false/\∃o,u[i]?=some o/\∀p∈pre o,L p=true
def mC(L:Nat->Bool)(i:Nat):Nat->Bool:=λk=>if k=i then true else L k
def Down(u:List Oper)(L:Nat->Bool):Prop:=∀i o,L i=true->u[i]?=some o->∀p∈pre o,L p=true
def UR(L:Nat->Bool)(i:Nat):mC L i i=true:=by simp[mC]
theorem Sm(L:Nat->Bool){i k:Nat}(h:k≠i):mC L i k=L k:=by simp[mC,h]
def Jw(L:Nat->Bool)(i:Nat){k:Nat}(h:L k=true):mC L i k=true:=by unfold mC;grind
theorem US(L:Nat->Bool)(i j:Nat):mC (mC L i) j=mC (mC L j) i:=by
 grind[mC]
def Down.set{u:List Oper}{L:Nat->Bool}{i:Nat}(h:Down u L)(J:Pw u L i):Down u (mC L i):=by
 intro k o B E p I
 by_cases e:k=i
 .subst e
  obtain⟨_,O,G,M⟩:=J
  grind[mC]
 rw[Sm _ e]at B
 exact Jw _ _ (h k o B E p I)
def Pw.set{u:List Oper}{L:Nat->Bool}{i j:Nat}(h:Pw u L j)(I:j≠i):Pw u (mC L i) j:=
 ⟨by rw[Sm _ I];exact h.1,let ⟨o,E,B⟩:=h.2;⟨o,E,λp G=>Jw _ _ (B p G)⟩⟩
inductive Px(ops:List Oper):Nat->Nat->Prop
 | one {j i:Nat}{o:Oper}(h:ops[j]?=some o) (hp:i∈pre o):Px ops j i
 | more {j p i:Nat}{o:Oper}(h:ops[j]?=some o) (hp:p∈pre o) (hd:Px ops p i):Px ops j i
theorem Px.listed{u:List Oper}{L:Nat->Bool}(G:Down u L){j i:Nat}(h:Px u j i):(∀o,u[j]?=some o->∀p∈pre o,L p=true)->L i=true:=by
 induction h with
 | one h B=>grind
 | more h B hd J=>intro E;exact J λo I q M=>G _ o (E _ h _ B) I q M
def Px.Ho{u:List Oper}{L:Nat->Bool}(G:Down u L){j i:Nat}(h:Px u j i)(E:Pw u L j):L i=true:=
 h.listed G λo M p O=>by obtain⟨_,J,B,I⟩:=E;grind
def WS(P:Program)(u:List Oper)(Q:Env->hM)(S:Nat->hM):Nat->(Nat->Bool)->Env->hM
 | 0,L,e,w=>(∀i,¬ Pw u L i)/\Q e w
 | f+1,L,e,w=>((∀i,¬ Pw u L i)->Q e w)/\
   ∀i o,u[i]?=some o->Pw u L i->Ei P u o (λB w'=>(w'=w\/S i w')/\WS P u Q S f (mC L i) B w') e w
theorem WS.weaken{P:Program}{u:List Oper}{Q:Env->hM}{S E:Nat->hM}(h:∀i w,S i w->E i w) :
  ∀(f:Nat) (_L:Nat->Bool) (_e:Env) (_w:World),WS P u Q S f _L _e _w->WS P u Q E f _L _e _w
 | 0,_,_,_,B=>B
 | f+1,L,e,w,B=>⟨B.1,λi o G I=>(B.2 i o G I).mono λ_ _ ⟨h1,h2⟩=>⟨h1.imp id (h _ _),WS.weaken h f _ _ _ h2⟩⟩
theorem WS.first{P:Program}{B:List Oper}{Q:Env->hM}{S:Nat->hM}{i:Nat}{G:Oper}{X:ET}{b:Bool}{v:Value}
  (hi:B[i]?=some G) (hn:b=false->v=undef) :
  ∀(f:Nat) (L:Nat->Bool) (e:Env) (w:World),Down B L->Pw B L i->
   (∀j E,B[j]?=some E->j≠i->L j=false->i ∉ pre E->Xo B G E)->
   AR P G (ev e)=X->ph B G e=b->(b=true->X.has P w v)->
   WS P B Q (λj w'=>S j w'/\(Px B j i\/(b=true->X.has P w' v))) f (mC L i) (j9 e G.dst v) w->WS P B Q S (f+1) L e w:=by
 have done:∀(K:Env->hM) (e:Env) (w:World),AR P G (ev e)=X->ph B G e=b->(b=true->X.has P w v)->K (j9 e G.dst v) w->Ei P B G K e w:=by
  intro K e w hX hb hy J
  unfold Ei
  rw[hb]
  cases b with
  | true=>rw[ew rfl,hX];exact HM.Xn (hy rfl) J
  | false=>grind
 have sub:∀{f:Nat}{L:Nat->Bool}{e:Env}{w:World},WS P B Q (λj w'=>S j w'/\(Px B j i\/(b=true->X.has P w' v))) f L e w->WS P B Q S f L e w:=
  λh=>WS.weaken (λ_ _ h=>h.1) _ _ _ _ h
 intro f
 induction f with
 | zero=>
  intro L e w hL U Sn hX hb hy H
  refine⟨λh=>absurd U (h i),λj E So M=>?_⟩
  by_cases I:j=i
  .grind
  .exact absurd (M.set I) (H.1 j)
 | succ f ih=>
  intro L e w hL U Sn hX hb hy H
  refine⟨λh=>absurd U (h i),λj E So M=>?_⟩
  by_cases I:j=i
  .grind
  .have eO:i ∉ pre E:=λhp=>by
    obtain⟨_,V,Y,xk⟩:=M.2.elim λV h=>(⟨trivial,V,h.1,h.2⟩:True/\∃V,B[j]?=some V/\∀p∈pre V,L p=true)
    rw[So]at Y;cases Y
    have:=xk i hp
    rw[U.1]at this;cases this
   have O:=Sn j E So I M.1 eO
   have aoi:¬ Px B j i:=λhd=>by
    have:=hd.Ho hL M
    rw[U.1]at this;cases this
   have h1:=H.2 j E So (M.set I)
   have Z:∀k,G.dst=some k->k ∉ looks B E:=λk J=>(O.1 k J).1
   have W:∀k,E.dst=some k->k ∉ looks B G:=λk J=>O.2 k J
   have dd:∀k,G.dst=some k->E.dst≠some k:=λk J=>(O.1 k J).2
   have cont:∀(u:Value) (w':World),(w'=w\/(S j w'/\(Px B j i\/(b=true->X.has P w' v))))->
     WS P B Q (λj w'=>S j w'/\(Px B j i\/(b=true->X.has P w' v))) f (mC (mC L i) j) (j9 (j9 e G.dst v) E.dst u) w'->
     (w'=w\/S j w')/\WS P B Q S (f+1) (mC L j) (j9 e E.dst u) w':=by
    intro u w' hw hWS
    refine⟨hw.imp id λh=>h.1,?_⟩
    refine ih (mC L j) (j9 e E.dst u) w' (hL.set M) (U.set (Ne.symm I)) ?_ ?_ ?_ ?_ ?_
    .grind[mC,pre,Xo]
    .rw[Eh W];exact hX
    .rw[yD W];exact hb
    .grind
    .rw[US,UQ λk J=>dI]
     exact hWS
   unfold Ei at h1 |-
   rw[yD Z]at h1
   split
   .rename_i hw
    rw[ew hw,Eh Z]at h1
    exact h1.mono λu w' hh=>cont u w' hh.1 hh.2
   grind
def wr(u:List Oper):List Nat:=u.filterMap (·.dst)
def Xp{u:List Oper}{i:Nat}{o:Oper}{d:Nat}(h:u[i]?=some o)(hd:o.dst=some d):d∈wr u:=
 Rp.2 ⟨o,List.mem_of_getElem? h,hd⟩
theorem z6{e e0:Env}{u:List Oper}{i:Nat}{o:Oper}(h:∀k,k ∉ wr u->e k=e0 k)(E:u[i]?=some o)(v:Value) :
  ∀k,k ∉ wr u->j9 e o.dst v k=e0 k:=by
 intro k B
 cases hd:o.dst with
 | none=>exact h k B
 | some d=>
  have:k≠d:=λG=>B (by rw[G];exact Xp E hd)
  simp only[j9,pg _ _ this]
  grind
def Ei.wpOp{r:Option Nat}{ds:List Nat}{P:Program}{n:Nat}{u:List Oper}{i:Nat}{o:Oper}{K:Env->hM}{G:Act->hM}{M:Exit->Act->hM}{e:Env}{a:Act}{w:World}
  (O:u[i]?=some o) (hd:∀k,o.dst=some k->k<n) (B:jI ds n e a) (h:Ei P u o K e w)
  (I:∀v E w',jI ds n (j9 e o.dst v) E->K (j9 e o.dst v) w'->G E w'):wpOpIn (FO r) 0 P u.toArray M i G a w:=by
 unfold Go.wpOpIn
 simp only[Qq,O]
 rw[HN B]
 unfold Ei at h
 split
 .rename_i hw
  rw[ew hw]at h
  exact HM.wp B h λv w' J=>I v _ _ (B.put hd v) J
 rename_i hw
 rw[ej hw]at h
 exact⟨uV,I undef _ _ (B.put hd undef) h⟩
theorem WS.any{r:Option Nat}{ds:List Nat}{P:Program}{n:Nat}{u:List Oper}{Q:Env->hM}{W:Exit->Act->hM}{S:Nat->hM}{e0:Env}
  (hd:∀d∈wr u,d<n) (Y:∀e a w,jI ds n e a->(∀k,k ∉ wr u->e k=e0 k)->Q e w->W .normal a w) :
  ∀(f:Nat) (L:Nat->Bool) (listed:Array Bool) (e:Env) (a:Act) (w:World),jI ds n e a->(∀k,k ∉ wr u->e k=e0 k)->listed.size=u.length->
   (∀i,listed.getD i false=L i)->WS P u Q S f L e w->wpAnyIn (FO r) 0 P .any u.toArray W f listed a w:=by
 have B:∀(L:Nat->Bool) (listed:Array Bool) (_:listed.size=u.length) (_:∀i,listed.getD i false=L i) (i:Nat),
   i∈Region.ready .any u.toArray listed↔Pw u L i:=by
  intro L listed G E i
  rw[mem_ready]
  have V:∀o,u[i]?=some o->listed.getD i true=L i:=λo I=>by
   grind
  unfold Pw pre
  grind
 intro f
 induction f with
 | zero=>
  intro L listed e a w M J G E h
  refine⟨?_,Y e a w M J h.2⟩
  cases U:Region.ready .any u.toArray listed with
  | nil=>rfl
  | cons i r=>exact absurd ((B L listed G E i).1 dI) (h.1 i)
 | succ f ih=>
  intro L listed e a w M J G E h
  refine⟨λhn=>Y e a w M J (h.1 λi hi=>?_),λi hi=>?_⟩
  .have:=(B L listed G E i).2 hi
   grind
  .have U:=(B L listed G E i).1 hi
   obtain⟨o,I,_⟩:=U.2
   refine Ei.wpOp I (λk hk=>hd k (Xp I hk)) M (h.2 i o I U) λv Z w' Jy hh=>?_
   refine ih (mC L i) _ _ Z w' Jy (z6 J I v) dI (λk=>?_) hh.2
   have ot:i<listed.size:=dI
   have O:=E k
   simp only[Fq]at O |-
   grind[mC]
def WS.region{r:Option Nat}{ds:List Nat}{P:Program}{n:Nat}{id:Nat}{u:List Oper}{Q:Env->hM}{E:Exit->Act->hM}{S:Nat->hM}{e:Env}{a:Act}{w:World}
  (G:P.follows .mixedOrders=true) (hd:∀d∈wr u,d<n) (J:jI ds n e a)
  (I:∀B a w,jI ds n B a->(∀k,k ∉ wr u->B k=e k)->Q B w->E .normal a w)
  (h:WS P u Q S u.length (λ_=>false) e {w with drawn:=w.drawn+1}):(abT id u.toArray true).wpIn (FO r) 0 P E a w:=by
 refine wpIn_region_any G ?_
 rw[Nr]
 refine WS.any hd I u.length (λ_=>false) _ e a _ J (λ_ _=>rfl) ei (λi=>?_) h
 simp only[Fq,Array.getElem?_replicate]
 grind
def lk(s:Nat):List (Nat×Option Bool)->Option (Option Bool)
 | []=>none
 | q::r=>bif DN q.1 s then some q.2 else lk s r
def Jz(d:Nat):List (Nat×Option Bool)->List (Nat×Option Bool)
 | []=>[]
 | q::r=>bif DN q.1 d then Jz d r else q::Jz d r
def del(d:Option Nat)(u:List (Nat×Option Bool)):List (Nat×Option Bool):=match d with|none=>u|some d=>Jz d u
def Ej(u:List (Nat×Option Bool)):Operand->Option Bool
 | .const (.bool b)=>some b
 | .tmp t=>match lk t u with|some b=>b|none=>none
 | _=>none
def agZ(u:List (Nat×Option Bool)):Op->Option Operand
 | .move x=>some x
 | .assign x=>some x
 | .pick (.tmp c) a b=>match lk c u with|some (some t)=>some (bif t then a else b)|_=>none
 | _=>none
def Xq(u:List (Nat×Option Bool))(d:Option Nat)(x:Operand):List (Nat×Option Bool):=
 match d,Ej u x with
 | some d,some b=>(d,some b)::Jz d u
 | d,_=>del d u
def ofK:Option Bool->Value|some b=>.bool b|none=>undef
def kN(u:List (Nat×Option Bool))(e:Env):Prop:=∀s b,lk s u=some b->e s=ofK b
theorem EU(n:Nat):DN n n=true:=Nat.beq_refl n
theorem Cv{a b:Nat}(h:a≠b):DN a b=false:=by
 cases hh:DN a b
 .rfl
 simp_all
theorem adt(s d:Nat)(u:List (Nat×Option Bool)):lk s (Jz d u)=if s=d then none else lk s u:=by
 induction u with
 | nil=>simp[Jz,lk]
 | cons q r B=>
  simp only[Jz,lk]
  by_cases h1:q.1=d
  .rw[h1,EU,cond_true,B]
   by_cases h2:s=d
   .simp[h2]
   .rw[ej h2,ej h2,Cv (λE=>h2 E.symm),cond_false]
  .rw[Cv h1,cond_false]
   simp only[lk,B]
   by_cases h2:q.1=s
   .grind
   .rw[Cv h2,cond_false,cond_false]
def kN.nil(e:Env):kN [] e:=λs b h=>by simp[lk]at h
theorem kN.del{E:List (Nat×Option Bool)}{e:Env}(h:kN E e)(d:Option Nat)(v:Value):kN (del d E) (j9 e d v):=by
 cases d with
 | none=>exact h
 | some d=>
  intro s b B
  simp only[Fw.del,adt]at B
  by_cases u:s=d
  .simp[u]at B
  .rw[ej u]at B
   simp only[j9,pg _ _ u]
   exact h s b B
def kN.cons{B:List (Nat×Option Bool)}{e:Env}(h:kN B e){s:Nat}{b:Option Bool}(E:e s=ofK b):kN ((s,b)::B) e:=by
 intro s' G u
 simp only[lk]at u
 by_cases h1:s=s'
 .subst h1;rw[EU,cond_true]at u;cases u;exact E
 rw[Cv h1,cond_false]at u;exact h _ _ u
theorem kN.known{E:List (Nat×Option Bool)}{e:Env}(h:kN E e){x:Operand}{b:Bool}(B:Ej E x=some b):ev e x=.bool b:=by
 cases x with
 | tmp t=>
  have u:(match lk t E with|some b=>b|none=>none)=some b:=B
  split at u
  .rename_i b' hb;subst u;exact h t _ hb
  grind
 | const v=>cases v<;>simp[Ej]at B;simp[ev,B]
 | _=>simp[Ej]at B
def kN.aft{u:List (Nat×Option Bool)}{e:Env}(h:kN u e)(d:Option Nat)(x:Operand):kN (Xq u d x) (j9 e d (ev e x)):=by
 unfold Xq
 split
 .rename_i d b hb
  have h1:=h.del (some d) (ev e x)
  exact kN.cons (b:=some b) h1 (by simp only[j9,nO];exact h.known hb)
 exact h.del _ _
def uW(P:Program)(u:List Oper)(r:Oper)(e:Env)(w:World)(R:Prop):Prop:=
 bif ph u r e then(match AR P r (ev e),r.dst with|.q m,some d=>Sk P m (e d) w R|_,_=>False)else R
def AS(P:Program)(u:List Oper):List Oper->Env->World->Prop->Prop
 | [],_,_,R=>R
 | r::ks,e,w,R=>uW P u r e w (AS P u ks e w R)
theorem LJ{P:Program}{u:List Oper}{ks:List Oper}{e:Env}{w:World}{R:Prop}:AS P u ks e w R->(∀r∈ks,uW P u r e w True)/\R:=by
 induction ks with
 | nil=>intro h;exact⟨ei,h⟩
 | cons r ks B=>
  intro h
  have:uW P u r e w True/\AS P u ks e w R:=by
   simp only[AS,uW]at h |-
   cases hw:ph u r e with
   | false=>grind
   | true=>
    rw[hw]at h
    simp only[cond_true]at h |-
    cases hk:AR P r (ev e)<;>rw[hk]at h<;>cases hd:r.dst<;>rw[hd]at h<;>first|grind|skip
    exact⟨⟨h.aof,trivial⟩,h.rest⟩
  grind
def EV(n:Nat)(o:Oper):Bool:=match o.dst with|none=>true|some d=>aaY d n
def goF(P:Program)(B:List Oper)(o:Oper)(ks:List Oper)(rec:List (Nat×Option Bool)->Env->hM)(u:List (Nat×Option Bool))(e:Env)(w:World):Prop:=
 match agZ u o.op with
 | some x=>rec (Xq u o.dst x) (j9 e o.dst (ev e x)) w
 | none=>HM P (AR P o (ev e)) (λv w'=>AS P B ks (j9 e o.dst v) w' (rec (del o.dst u) (j9 e o.dst v) w')) w
def skF(o:Oper)(rec:List (Nat×Option Bool)->Env->hM)(u:List (Nat×Option Bool))(e:Env)(w:World):Prop:=
 rec (match o.dst with|some d=>(d,none)::Jz d u|none=>u) (j9 e o.dst undef) w
theorem kN.skip{u:List (Nat×Option Bool)}{e:Env}(h:kN u e)(d:Option Nat) :
  kN (match d with|some d=>(d,none)::Jz d u|none=>u) (j9 e d undef):=by
 cases d with
 | none=>exact h
 | some d=>exact kN.cons (b:=none) (h.del (some d) undef) (by simp only[j9,nO];rfl)
def DS(P:Program)(n:Nat)(u:List Oper)(q:Oper×List Oper)(rec:List (Nat×Option Bool)->Env->hM)(B:List (Nat×Option Bool))(e:Env)(w:World):Prop:=
  bif EV n q.1 then
   match q.1.guard with
   | none=>goF P u q.1 q.2 rec B e w
   | some g=>match Cu u g.1 with
    | none=>False
    | some s=>match lk s B with
     | some none=>skF q.1 rec B e w
     | some (some E)=>bif E == g.2 then goF P u q.1 q.2 rec B e w else skF q.1 rec B e w
     | none=>zA (e s)
       (bif g.2 then goF P u q.1 q.2 rec ((s,some true)::B) (AK e s (.bool true)) w else skF q.1 rec ((s,some true)::B) (AK e s (.bool true)) w)
       (bif g.2 then skF q.1 rec ((s,some false)::B) (AK e s (.bool false)) w else goF P u q.1 q.2 rec ((s,some false)::B) (AK e s (.bool false)) w)
  else False
def DR(P:Program)(n:Nat)(u:List Oper):List (Oper×List Oper)->(Env->hM)->List (Nat×Option Bool)->Env->hM
 | [],Q,_,e,w=>Q e w
 | q::rest,Q,kg,e,w=>DS P n u q (DR P n u rest Q) kg e w
def yE{P:Program}{u:List Oper}{o:Oper}{ks:List Oper}{rec:List (Nat×Option Bool)->Env->hM}{G:List (Nat×Option Bool)}{e:Env}{w:World}
  (B:kN G e) (h:goF P u o ks rec G e w) :
  HM P (AR P o (ev e)) (λv w'=>(w'=w\/∀r∈ks,uW P u r (j9 e o.dst v) w' True)/\∃E,kN E (j9 e o.dst v)/\rec E (j9 e o.dst v) w') w:=by
 unfold goF at h
 split at h
 .rename_i x hx
  have J:(AR P o (ev e)).has P w (ev e x):=by
   unfold AR
   cases kC:o.op<;>rw[kC]at hx<;>simp only[agZ]at hx<;>first|cases hx|skip
   case move y=>simp only[ET.has]
   case assign y=>simp only[ET.has]
   case pick c a b=>
    cases c<;>simp only at hx<;>first|cases hx|skip
    rename_i c
    split at hx
    .rename_i t ht
     cases hx
     have hc:e c=.bool t:=B c _ ht
     simp only[ET.has,ev,hc,Xm]
     cases t<;>rfl
    .cases hx
  exact HM.Xn J ⟨.inl rfl,_,B.aft _ _,h⟩
 refine h.mono λv w' I=>?_
 have:=LJ I
 exact⟨.inr this.1,_,B.del _ _,this.2⟩
theorem JA{P:Program}{n:Nat}{u:List Oper}{q:Oper×List Oper}{rec:List (Nat×Option Bool)->Env->hM}{G:List (Nat×Option Bool)}{e:Env}{w:World}
  (B:kN G e) (h:DS P n u q rec G e w) :
  (∀d,q.1.dst=some d->d<n)/\
  Ei P u q.1 (λV w'=>(w'=w\/∀r∈q.2,uW P u r V w' True)/\∃I,kN I V/\rec I V w') e w:=by
 unfold DS at h
 cases hd:EV n q.1 with
 | false=>grind
 | true=>
  rw[hd]at h
  refine⟨λd hdd=>by unfold EV at hd;simp_all,?_⟩
  have U:∀{G:List (Nat×Option Bool)},kN G e->skF q.1 rec G e w->
    (w=w\/∀r∈q.2,uW P u r (j9 e q.1.dst undef) w True)/\∃I,kN I (j9 e q.1.dst undef)/\rec I (j9 e q.1.dst undef) w:=
   λB h=>⟨.inl rfl,_,B.skip _,h⟩
  simp only[cond_true]at h
  unfold Ei
  cases hg:q.1.guard with
  | none=>
   rw[hg]at h
   have O:ph u q.1 e=true:=by unfold ph;rw[hg]
   rw[ew O]
   exact yE B h
  | some g=>
   obtain⟨j,b⟩:=g
   rw[hg]at h
   dsimp only at h
   cases hs:Cu u j with
   | none=>rw[hs]at h;exact h.elim
   | some s=>
    rw[hs]at h
    dsimp only at h
    have O:∀t,e s=.bool t->ph u q.1 e=(t == b):=λt ht=>by unfold ph;rw[hg];dsimp only;rw[hs];dsimp only;rw[ht]
    cases hl:lk s G with
    | some Y=>
     rw[hl]at h
     cases Y with
     | none=>
      dsimp only at h
      have Z:ph u q.1 e=false:=by
       unfold ph;rw[hg];dsimp only;rw[hs];dsimp only;rw[B s none hl];rfl
      rw[ej (by rw[Z];simp)]
      exact U B h
     | some W=>
      dsimp only at h
      rw[O W (B s _ hl)]
      cases hb:W == b with
      | true=>rw[hb]at h;rw[ew rfl];exact yE B h
      | false=>rw[hb]at h;rw[ej ei];exact U B h
    | none=>
     rw[hl]at h
     obtain⟨t,ht,M,E⟩:=h.ex
     rw[O t ht]
     have J:∀c,t=c->AK e s (.bool c)=e:=λc hc=>ai8 _ _ _ (by rw[ht,hc])
     cases t with
     | true=>
      have M:=M rfl
      rw[J true rfl]at M
      cases b with
      | true=>rw[ew (by rfl)];exact yE (B.cons (b:=some _) ht) M
      | false=>rw[ej ei];exact U (B.cons (b:=some _) ht) M
     | false=>
      have E:=E rfl
      rw[J false rfl]at E
      cases b with
      | true=>rw[ej ei];exact U (B.cons (b:=some _) ht) E
      | false=>rw[ew (by rfl)];exact yE (B.cons (b:=some _) ht) E
theorem DR.list{r:Option Nat}{ds:List Nat}{P:Program}{n:Nat}{u:List Oper}{Q:Env->hM}{W:Exit->Act->hM}{e0:Env}
  (hQ:∀e a w,jI ds n e a->(∀k,k ∉ wr u->e k=e0 k)->Q e w->W .normal a w) :
  ∀(l:List Oper) (J:List (Nat×Option Bool)) (e:Env) (a:Act) (w:World),(∀o∈l,o∈u)->jI ds n e a->(∀k,k ∉ wr u->e k=e0 k)->kN J e->
   DR P n u (l.map λo=>(o,[])) Q J e w->wpListIn (FO r) 0 P u.toArray W l a w:=by
 intro l
 induction l with
 | nil=>intro J e a w _ B I _ h;exact hQ e a w B I h
 | cons o l Y=>
  intro J e a w V B I hk h
  obtain⟨hd,G⟩:=JA hk h
  obtain⟨i,hi⟩:=List.getElem?_of_mem (V o oj)
  have E:∀x∈l,x∈u:=λx Z=>V x (qo _ Z)
  unfold wpListIn
  rw[HN B]
  unfold Ei at G
  split
  .rename_i hw
   rw[ew hw]at G
   exact HM.wp B G λv w' ⟨_,M,U,O⟩=>Y M _ _ w' E (B.put hd v) (z6 I hi v) U O
  .rename_i hw
   rw[ej hw]at G
   obtain⟨_,M,U,O⟩:=G
   exact⟨uV,Y M _ _ w E (B.put hd undef) (z6 I hi undef) U O⟩
def DR.region{r:Option Nat}{ds:List Nat}{P:Program}{n:Nat}{id:Nat}{u:List Oper}{Q:Env->hM}{E:Exit->Act->hM}{e:Env}{a:Act}{w:World}
  (G:jI ds n e a) (I:∀B a w,jI ds n B a->(∀k,k ∉ wr u->B k=e k)->Q B w->E .normal a w)
  (h:DR P n u (u.map λo=>(o,[])) Q [] e w):(abT id u.toArray false).wpIn (FO r) 0 P E a w:=
 wpIn_region_lit (DR.list I u [] e a w (λ_ h=>h) G (λ_ _=>rfl) (kN.nil e) h)
def Py(P:Program)(o:Oper):Bool:=(AR P o λ_=>undef).quiet
def JB(P:Program)(o:Oper):Bool:=(AR P o λ_=>undef).reads
theorem LK{P:Program}{o:Oper}(ρ ρ':Operand->Value):(AR P o ρ).quiet=(AR P o ρ').quiet/\(AR P o ρ).reads=(AR P o ρ').reads:=by
 unfold AR
 cases o.op<;>try exact⟨rfl,rfl⟩
 case binOp op t x y u=>dsimp only;split<;>exact⟨rfl,rfl⟩
 case convert s d x=>dsimp only;split<;>exact⟨rfl,rfl⟩
 case call c=>
  dsimp only
  cases c.callee with
  | value x=>cases x<;>exact⟨rfl,rfl⟩
  | invoke r nm=>grind
  | builtin b=>cases b<;>dsimp only<;>first|exact⟨rfl,rfl⟩|(split<;>exact⟨rfl,rfl⟩)
def iU(d:Nat):List Nat->Bool
 | []=>false
 | x::r=>DN x d||iU d r
theorem AT{d:Nat}{l:List Nat}:iU d l=true↔d∈l:=by
 induction l with
 | nil=>simp[iU]
 | cons x r u=>
  simp only[iU,xW,u,sl]
  constructor
  .rintro(h|h)
   .simp_all
   grind
  .rintro(rfl|h)
   .simp_all
   grind
def Sp{d:Nat}{l:List Nat}:iU d l=false↔d ∉ l:=by
 rw[<- AT];simp
def eqO(d:Nat):Option Nat->Bool|none=>false|some k=>DN k d
theorem adv{d:Nat}{o:Option Nat}:eqO d o=true↔o=some d:=by
 cases o with
 | none=>simp[eqO]
 | some k=>simp_all[eqO]
def JC(u:List Oper)(x y:Oper):Bool:=match y.dst with|none=>true|some d=>!iU d (looks u x)&&!eqO d x.dst
def Cw{u:List Oper}{x y:Oper}(h:JC u x y=true):∀d,y.dst=some d->d ∉ looks u x/\x.dst≠some d:=by
 intro d hd
 unfold JC at h
 rw[hd]at h
 simp only[n4,ta]at h
 exact⟨Sp.1 h.1,λB=>by rw[<- adv]at B;grind⟩
def Pz(u:List Oper)(x y:Oper):Bool:=JC u y x&&JC u x y
def LL{u:List Oper}{x y:Oper}(h:Pz u x y=true):Xo u x y:=by
 simp only[Pz,n4]at h
 exact⟨λd hd=>Cw h.1 d hd,λd hd=>(Cw h.2 d hd).1⟩
def Cx(f:Nat->Oper->Bool):Nat->List Oper->Bool
 | _,[]=>true
 | k,o::r=>f k o&&Cx f (k+1) r
theorem oS{f:Nat->Oper->Bool}{l:List Oper}:∀{k:Nat},Cx f k l=true->∀i o,l[i]?=some o->f (k+i) o=true:=by
 induction l with
 | nil=>grind
 | cons x r u=>
  grind[Cx]
def DV:List Nat->Nat->Nat
 | [],_=>0
 | x::_,0=>x
 | _::r,n+1=>DV r n
def HO(u:List Nat):List Nat->Nat
 | []=>0
 | p::r=>Po (Po (Ln 1 p) (DV u p)) (HO u r)
def HQ(B:List Oper)(u:List Nat):Bool:=
 Cx (λj o=>(pre o).all (λp=>aaY p j)&&DN (DV u j) (HO u (pre o))) 0 B
theorem UT{u l:List Nat}{i:Nat}(h:(HO u l).testBit i=true):∃p∈l,p=i\/(DV u p).testBit i=true:=by
 induction l with
 | nil=>simp[HO]at h
 | cons p r E=>
  have B:(((1 <<< p) ||| DV u p) ||| HO u r).testBit i=true:=h
  simp only[VE,xW]at B
  rcases B with(B|B)|B
  .refine⟨p,ei,.inl ?_⟩
   rw[TG,Rg]at B
   grind
  .grind
  grind
theorem HS{u:List Oper}{B:List Nat}(h:HQ u B=true):∀(n j:Nat),j<n->j<u.length->∀i,(DV B j).testBit i=true->Px u j i:=by
 intro n
 induction n with
 | zero=>omega
 | succ n M=>
  intro j O hlen i hi
  obtain⟨o,E⟩:∃o,u[j]?=some o:=⟨u[j],by simp[hlen]⟩
  have:=oS h j o E
  simp only[u4,n4,Gj]at this
  obtain⟨h1,h2⟩:=this
  have h2:=Qy h2
  rw[h2]at hi
  obtain⟨p,I,G⟩:=UT hi
  rcases G with rfl|G
  .exact .one E I
  .have J:p<j:=by simp_all
   exact .more E I (M p cO cO i G)
def bit(m i:Nat):Bool:=Nat.testBit m i
def HT(u:List Oper)(y:Oper):Bool:=match y.dst with|none=>false|some d=>!iU d (looks u y)
theorem PA{u:List Oper}{y:Oper}(h:HT u y=true):∃d,y.dst=some d/\d ∉ looks u y:=by
 unfold HT at h
 cases hd:y.dst with
 | none=>grind
 | some d=>rw[hd]at h;exact⟨d,rfl,Sp.1 dI⟩
def Xr(P:Program)(u:List Oper)(B:List Nat)(m i:Nat)(ks:List Nat):Bool:=
 match u[i]? with
 | none=>false
 | some o=>
  !bit m i&&((pre o).all (λp=>bit m p) &&
  (bif Py P o then
   Cx (λj y=>DN j i||(bit m j||(iU i (pre y)||Pz u o y))) 0 u
  else
   Cx (λj y=>DN j i||(bit m j||!(pre y).all λp=>bit m p)) 0 u &&
   (Cx (λr y=>!bit m r||(!JB P y||(bit (DV B i) r||iU r ks))) 0 u &&
   ks.all (λr=>match u[r]? with
    | none=>false
    | some y=>HT u y&&Cx (λj z=>DN j r||(bit (DV B r) j||JC u y z)) 0 u))))
inductive PT where
 | nil
 | stop
 | op (i:Nat) (ks:List Nat) (r:PT)
 | alt (i:Nat) (ks:List Nat) (r o:PT)
def PT.of:List (Nat×List Nat)->PT
 | []=>.nil
 | q::r=>.op q.1 q.2 (PT.of r)
def PT.ids:PT->List Nat
 | .alt i _ _ o=>i::o.ids
 | _=>[]
def PT.many:PT->Bool
 | .alt _ _ _ _=>true
 | .op _ _ r=>r.many
 | _=>false
def ag1(P:Program)(u:List Oper)(B:List Nat)(m i:Nat)(ks:List Nat):Bool:=
 match u[i]? with
 | none=>false
 | some o=>
  !bit m i&&((pre o).all (λp=>bit m p)&&(!Py P o&&(
   (Cx (λr y=>!bit m r||(!JB P y||(bit (DV B i) r||iU r ks))) 0 u &&
   ks.all (λr=>match u[r]? with
    | none=>false
    | some y=>HT u y&&Cx (λj z=>DN j r||(bit (DV B r) j||JC u y z)) 0 u)))))
def Sq(P:Program)(u:List Oper)(B:List Nat):Bool->Nat->Nat->PT->Bool
 | c,f,m,.nil=>!c&&(DN f 0&&Cx (λj _=>bit m j) 0 u)
 | c,_,_,.stop=>c
 | c,f,m,.op i ks r=>!c&&(match f with|0=>false|E+1=>Xr P u B m i ks&&Sq P u B false E (Po m (Ln 1 i)) r)
 | c,f,m,.alt i ks r o=>(c||Cx (λj y=>bit m j||(!(pre y).all (λp=>bit m p)||iU j (i::o.ids))) 0 u) &&
  ((match f with|0=>false|E+1=>ag1 P u B m i ks&&Sq P u B false E (Po m (Ln 1 i)) r)&&Sq P u B true f m o)
def HU(B:List Oper):List Nat:=B.foldl (λu o=>u++[HO u (pre o)]) []
def PT.run(k:Nat):Nat->PT
 | 0=>.nil
 | n+1=>.op k [] (PT.run (k+1) n)
def wX(u:List Oper)(i:Nat):Oper:=(u[i]?).getD default
def DT(P:Program)(n:Nat)(u:List Oper):PT->(Env->hM)->List (Nat×Option Bool)->Env->hM
 | .nil,Q,_,e,w=>Q e w
 | .stop,_,_,_,_=>True
 | .op i ks r,Q,B,e,w=>DS P n u (wX u i,ks.map (wX u)) (DT P n u r Q) B e w
 | .alt i ks r o,Q,B,e,w=>DS P n u (wX u i,ks.map (wX u)) (DT P n u r Q) B e w/\DT P n u o Q B e w
def DQ(P:Program)(u:List Oper):PT->(Env->hM)->Env->hM
 | .nil,Q,e,w=>Q e w
 | .stop,_,_,_=>True
 | .op i ks r,Q,e,w=>Ei P u (wX u i) (λB w'=>(w'=w\/∀r∈ks.map (wX u),uW P u r B w' True)/\DQ P u r Q B w') e w
 | .alt i ks r o,Q,e,w=>Ei P u (wX u i) (λB w'=>(w'=w\/∀r∈ks.map (wX u),uW P u r B w' True)/\DQ P u r Q B w') e w/\DQ P u o Q e w
theorem DT.plain{P:Program}{n:Nat}{B:List Oper}{Q:Env->hM}:∀(p:PT) (u:List (Nat×Option Bool)) (e:Env) (w:World),kN u e->DT P n B p Q u e w->DQ P B p Q e w:=by
 intro p
 induction p with
 | nil=>intro u e w _ h;exact h
 | stop=>intro u e w _ _;trivial
 | op i ks p J=>intro u e w E h;exact(JA E h).2.mono λv w' ⟨h1,G,h2,h3⟩=>⟨h1,J G _ _ h2 h3⟩
 | alt i ks p o J I=>intro u e w E h;exact⟨(JA E h.1).2.mono λv w' ⟨h1,G,h2,h3⟩=>⟨h1,J G _ _ h2 h3⟩,I u e w E h.2⟩
structure Tk where
 idx:Nat
 o:Oper
 b:Bool
 X:ET
 v:Value
structure EW(P:Program)(ops:List Oper)(L:Nat->Bool)(T:List Tk)(e:Env):Prop where
 op:∀x∈T,ops[x.idx]?=some x.o
 listed:∀x∈T,L x.idx=true
 kind:∀x∈T,x.X.reads=JB P x.o
 still:∀x∈T,x.X.reads=false->x.b=true->∀w,x.X.has P w x.v
 reads:∀x∈T,x.X.reads=true->(∀j z,ops[j]?=some z->j≠x.idx->Px ops x.idx j\/JC ops x.o z=true)->HT ops x.o=true->
  AR P x.o (ev e)=x.X/\ph ops x.o e=x.b/\∃d,x.o.dst=some d/\(x.b=true->e d=x.v)
def ST(P:Program)(u:List Oper)(T:List Tk):Nat->hM:=λj w=>∀x∈T,Px u j x.idx\/(x.b=true->x.X.has P w x.v)
def Sr{m i:Nat}:(λk=>bit (Po m (Ln 1 i)) k)=mC (λk=>bit m k) i:=by
 funext k
 show(m ||| 1 <<< i).testBit k=_
 rw[VE,TG,Rg]
 grind[mC,bit]
theorem EW.next{P:Program}{u:List Oper}{L:Nat->Bool}{T:List Tk}{e:Env}(h:EW P u L T e)(V:Down u L){i:Nat}{o:Oper}(ho:u[i]?=some o)(hi:L i=false)(v:Value) :
  EW P u (mC L i) T (j9 e o.dst v):=by
 refine⟨h.op,λx E=>Jw _ _ (h.listed x E),h.kind,h.still,λx E hr U I=>?_⟩
 obtain⟨h1,h2,d,hd,h3⟩:=h.reads x E hr U I
 have Hn:i≠x.idx:=λW=>by have:=h.listed x E;grind
 have G:JC u x.o o=true:=by
  rcases U i o ho Hn with aoi|G
  .have:L i=true:=aoi.listed V λY J p Z=>V x.idx Y (h.listed x E) J p Z
   grind
  omega
 have B:=Cw G
 refine⟨by rw[Eh λk M=>(B k M).1];exact h1,by rw[yD λk M=>(B k M).1];exact h2,d,hd,λhb=>?_⟩
 have:=h3 hb
 cases LM:o.dst with
 | none=>exact this
 | some k=>
  have O:d≠k:=λW=>(B k LM).2 (by rw[hd,W])
  simp only[j9,pg _ _ O]
  exact this
theorem LN{P:Program}{u:List Oper}{G:List Nat}(hc:HQ u G=true){f m i:Nat}{ks:List Nat}{o:Oper}{T:List Tk}{e:Env}{w:World}{Q:Env->hM}{rec:Env->hM}
  (ho:u[i]?=some o) (U:bit m i=false) (hL:Down u (bit m)) (B:EW P u (bit m) T e)
  (z7:∀(r:Nat) (y:Oper),u[r]?=some y->(!bit m r||(!JB P y||(bit (DV G i) r||iU r ks)))=true)
  (LO:∀r∈ks,(match u[r]? with|none=>false|some y=>HT u y&&Cx (λj z=>DN j r||(bit (DV G r) j||JC u y z)) 0 u)=true)
  (jd:Ei P u o (λM w'=>(w'=w\/∀r∈ks.map (wX u),uW P u r M w' True)/\rec M w') e w)
  (Y:∀v w',EW P u (mC (bit m) i) T (j9 e o.dst v)->rec (j9 e o.dst v) w'->WS P u Q (ST P u T) f (mC (bit m) i) (j9 e o.dst v) w') :
  Ei P u o (λM w'=>(w'=w\/ST P u T i w')/\WS P u Q (ST P u T) f (mC (bit m) i) M w') e w:=by
 refine jd.mono λv w' hh=>?_
 obtain⟨I,AU⟩:=hh
 have W:=B.next hL ho U v
 refine⟨?_,?_⟩
 .rcases I with hw|I
  .grind
  refine .inr λx E=>?_
  cases W0:x.X.reads with
  | false=>exact .inr λhb=>B.still x E W0 hb w'
  | true=>
   have h1:=z7 x.idx x.o (B.op x E)
   simp only[xW,ta]at h1
   rcases h1 with h1|h1|h1|h1
   .have:=B.listed x E;grind
   .have:=B.kind x E;grind
   .have Cm:i<u.length:=(kB.1 ho).1
    exact .inl (HS hc (i+1) i cO Cm _ h1)
   .have Z:=AT.1 h1
    have h2:=LO x.idx Z
    rw[B.op x E]at h2
    simp only[n4]at h2
    obtain⟨O,h2⟩:=h2
    have h2:=oS h2
    have V:x.idx<u.length:=(kB.1 (B.op x E)).1
    obtain⟨e1,e2,d,hd,e3⟩:=W.reads x E W0 (λk z hz Hn=>by
     have:=h2 k z hz
     simp only[u4,xW]at this
     rcases this with h3|h3|h3
     .simp_all
     .exact .inl (HS hc (x.idx+1) x.idx cO V _ h3)
     grind) O
    refine .inr λhb=>?_
    have J:=I x.o (List.mem_map.2 ⟨x.idx,Z,by simp[wX,B.op x E]⟩)
    unfold uW at J
    rw[e2,hb,e1,hd]at J
    simp only[cond_true]at J
    cases hX:x.X<;>rw[hX]at J W0<;>first|grind|cases W0|skip
    have:=J.aof
    rw[e3 hb]at this
    exact this
 grind
theorem adx{P:Program}{u:List Oper}{cls:List Nat}{Q:Env->hM}(hc:HQ u cls=true) :
  ∀(p:PT) (f m:Nat) (T:List Tk) (e:Env) (w:World),
   Down u (bit m)->EW P u (bit m) T e->DQ P u p Q e w->
   (Sq P u cls false f m p=true->WS P u Q (ST P u T) f (bit m) e w)/\
   (Sq P u cls true f m p=true->∀j∈p.ids,∃f',f=f'+1/\Pw u (bit m) j/\∀U,u[j]?=some U->Ei P u U (λZ w'=>(w'=w\/ST P u T j w')/\WS P u Q (ST P u T) f' (mC (bit m) j) Z w') e w):=by
 intro p
 induction p with
 | nil=>
  intro f m T e w W hT h
  refine⟨λB=>?_,λ_ j I=>by cases I⟩
  simp only[Sq,P0,Av,n4]at B
  have xk:=oS B.2
  rw[Qy B.1]
  refine⟨λi hr=>?_,h⟩
  obtain⟨h0,o,J,_⟩:=hr
  grind
 | stop=>
  intro f m T e w W hT h
  exact⟨λB=>by simp[Sq]at B,λ_ j I=>by cases I⟩
 | op i ks p ih=>
  intro f m T e w W hT h
  refine⟨λB=>?_,λ_ j I=>by cases I⟩
  simp only[Sq,P0,Av]at B
  cases f with
  | zero=>cases B
  | succ f=>
   simp only[n4]at B
   obtain⟨G,B⟩:=B
   unfold Xr at G
   cases J:u[i]? with
   | none=>rw[J]at G;cases G
   | some o=>
   rw[J]at G
   simp only[n4,ta,Gj]at G
   obtain⟨O,aje,G⟩:=G
   have hr:Pw u (bit m) i:=⟨O,o,J,aje⟩
   have Y:wX u i=o:=by simp[wX,J]
   have V:Ei P u (wX u i) (λZ w'=>(w'=w\/∀r∈ks.map (wX u),uW P u r Z w' True)/\DQ P u p Q Z w') e w:=h
   rw[Y]at V
   have Hp:(bit (Po m (Ln 1 i)))=mC (bit m) i:=Sr
   have hL':Down u (mC (bit m) i):=W.set hr
   cases hq:Py P o with
   | true=>
    rw[hq]at G
    simp only[cond_true]at G
    have Sn:=oS G
    have hqq:∀ρ,(AR P o ρ).quiet=true:=λρ=>by rw[(LK ρ λ_=>undef).1];exact hq
    obtain⟨b,v,hb,hn,hy,AU⟩:∃b v,ph u o e=b/\(b=false->v=undef)/\(b=true->(AR P o (ev e)).has P w v)/\
      DQ P u p Q (j9 e o.dst v) w:=by
     unfold Ei at V
     cases hb:ph u o e with
     | true=>
      rw[ew hb]at V
      obtain⟨v,hv,_,AU⟩:=V.has (hqq _)
      exact⟨true,v,rfl,ei,λ_=>hv,AU⟩
     | false=>
      rw[ej (by rw[hb];simp)]at V
      obtain⟨_,AU⟩:=V
      exact⟨false,undef,rfl,λ_=>rfl,ei,AU⟩
    refine WS.first (X:=AR P o (ev e)) J hn f (bit m) e w W hr ?_ rfl hb hy ?_
    .intro j U So hji awu Y
     have:=Sn j U So
     simp only[u4,xW]at this
     rcases this with h1|h1|h1|h1
     .exact absurd (Qy h1) hji
     .rw[awu]at h1;cases h1
     .exact absurd (AT.1 h1) Y
     .exact LL h1
    .have hT':EW P u (mC (bit m) i) (⟨i,o,b,AR P o (ev e),v⟩::T) (j9 e o.dst v):=by
      have M:=hT.next W J O v
      constructor
      .intro x E;rcases sl.1 E with rfl|E
       .exact J
       .exact M.op x E
      .intro x E;rcases sl.1 E with rfl|E
       .exact UR _ _
       .exact M.listed x E
      .intro x E;rcases sl.1 E with rfl|E
       .exact(LK _ _).2
       .exact M.kind x E
      .intro x E;rcases sl.1 E with rfl|E
       .intro h1 h2 w';exact ET.UO h1 (hy h2)
       .exact M.still x E
      .intro x E;rcases sl.1 E with rfl|E
       .intro h1 h2 h3
        obtain⟨d,hd,Lx⟩:=PA h3
        dsimp only at hd Lx |-
        have hh:∀k,o.dst=some k->k ∉ looks u o:=λk hk=>by rw[hd]at hk;cases hk;exact Lx
        refine⟨Eh hh,by rw[yD hh];exact hb,d,hd,λ_=>?_⟩
        rw[hd];exact nO _ _ _
       .exact M.reads x E
     have:=(ih f _ _ _ w (by rw[Hp];exact hL') (by rw[Hp];exact hT') AU).1 B
     rw[Hp]at this
     refine WS.weaken (λj w' I=>?_) _ _ _ _ this
     exact⟨λx E=>I x (qo _ E),I _ oj⟩
   | false=>
    rw[hq]at G
    simp only[cond_false,n4,Gj]at G
    obtain⟨Xs,z7,LO⟩:=G
    have Xs:=oS Xs
    have z7:=oS z7
    refine⟨λY=>absurd hr (Y i),λj U So I=>?_⟩
    have hji:j=i:=by
     have:=Xs j U So
     simp only[u4,xW,ta]at this
     rcases this with h1|h1|h1
     .simp_all
     .have:=I.1;grind
     .obtain⟨_,o',ho',xk⟩:=I
      grind
    subst hji
    rw[J]at So;cases So
    refine LN hc J O W hT (λr y hy=>dI) LO V λv w' M AU=>?_
    grind
 | alt i ks p o' ih ih2=>
  intro f m T e w W hT h
  obtain⟨h1,h2⟩:Ei P u (wX u i) (λZ w'=>(w'=w\/∀r∈ks.map (wX u),uW P u r Z w' True)/\DQ P u p Q Z w') e w/\DQ P u o' Q e w:=h
  have chain:∀c,Sq P u cls c f m (.alt i ks p o')=true->∀j∈i::o'.ids,∃f',f=f'+1/\Pw u (bit m) j/\∀U,u[j]?=some U->Ei P u U (λZ w'=>(w'=w\/ST P u T j w')/\WS P u Q (ST P u T) f' (mC (bit m) j) Z w') e w:=by
   intro c B
   simp only[Sq,n4]at B
   obtain⟨_,B,UW⟩:=B
   cases f with
   | zero=>cases B
   | succ f=>
    simp only[n4]at B
    obtain⟨G,B⟩:=B
    intro j I
    rcases sl.1 I with rfl|I
    .unfold ag1 at G
     cases J:u[j]? with
     | none=>rw[J]at G;cases G
     | some o=>
      rw[J]at G
      simp only[n4,ta,Gj]at G
      obtain⟨O,aje,_,z7,LO⟩:=G
      have hr:Pw u (bit m) j:=⟨O,o,J,aje⟩
      refine⟨f,rfl,hr,λU So=>?_⟩
      cases So
      have z7:=oS z7
      have Y:wX u j=o:=by simp[wX,J]
      rw[Y]at h1
      have V:=h1
      have Hp:(bit (Po m (Ln 1 j)))=mC (bit m) j:=Sr
      have hL':Down u (mC (bit m) j):=W.set hr
      refine LN hc J O W hT (λr y hy=>dI) LO V λv w' M AU=>?_
      grind
    .exact(ih2 (f+1) m T e w W hT h2).2 UW j I
  refine⟨λB=>?_,λB=>chain true B⟩
  have hch:=chain false B
  simp only[Sq,Bool.false_or,n4]at B
  have awv:=oS B.1
  obtain⟨f',rfl,hri,_⟩:=hch i oj
  refine⟨λY=>absurd hri (Y i),λj U So I=>?_⟩
  have LP:j∈i::o'.ids:=by
   have:=awv j U So
   simp only[u4,xW,ta]at this
   rcases this with h3|h3|h3
   .have:=I.1;grind
   .obtain⟨_,o2,ho2,xk⟩:=I
    grind
   .exact AT.1 h3
  obtain⟨f2,hf,_,V⟩:=hch j LP
  simp_all
structure xl(F:(hM)->Prop)(G:hM):Prop where
 ex:∃I:hM,F I/\∀w,I w->G w
structure Su(B:(hM)->hM)(F:(hM)->Prop):Prop where
 ex:∃I:Nat->hM,(∃m,F (I m))/\∀m w,I m w->B (λw'=>∃m',m'<m/\I m' w') w
structure eQ(F:(Value->hM)->Prop)(G:Value->hM):Prop where
 ex:∃I:Value->hM,F I/\∀x0 w,I x0 w->G x0 w
structure kP(B:(Value->hM)->Value->hM)(F:(Value->hM)->Prop):Prop where
 ex:∃I:Nat->Value->hM,(∃m,F (I m))/\∀m x0 w,I m x0 w->B (λy0 w'=>∃m',m'<m/\I m' y0 w') x0 w
structure EX(F:(Value->Value->hM)->Prop)(G:Value->Value->hM):Prop where
 ex:∃I:Value->Value->hM,F I/\∀x0 x1 w,I x0 x1 w->G x0 x1 w
structure nP(B:(Value->Value->hM)->Value->Value->hM)(F:(Value->Value->hM)->Prop):Prop where
 ex:∃I:Nat->Value->Value->hM,(∃m,F (I m))/\∀m x0 x1 w,I m x0 x1 w->B (λy0 y1 w'=>∃m',m'<m/\I m' y0 y1 w') x0 x1 w
structure aom(F:(Value->Value->Value->hM)->Prop)(G:Value->Value->Value->hM):Prop where
 ex:∃I:Value->Value->Value->hM,F I/\∀x0 x1 x2 w,I x0 x1 x2 w->G x0 x1 x2 w
structure Xt(B:(Value->Value->Value->hM)->Value->Value->Value->hM)(F:(Value->Value->Value->hM)->Prop):Prop where
 ex:∃I:Nat->Value->Value->Value->hM,(∃m,F (I m))/\∀m x0 x1 x2 w,I m x0 x1 x2 w->B (λy0 y1 y2 w'=>∃m',m'<m/\I m' y0 y1 y2 w') x0 x1 x2 w
structure aon(F:(Value->Value->Value->Value->hM)->Prop)(G:Value->Value->Value->Value->hM):Prop where
 ex:∃I:Value->Value->Value->Value->hM,F I/\∀x0 x1 x2 x3 w,I x0 x1 x2 x3 w->G x0 x1 x2 x3 w
structure aoo(B:(Value->Value->Value->Value->hM)->Value->Value->Value->Value->hM)(F:(Value->Value->Value->Value->hM)->Prop):Prop where
 ex:∃I:Nat->Value->Value->Value->Value->hM,(∃m,F (I m))/\∀m x0 x1 x2 x3 w,I m x0 x1 x2 x3 w->B (λy0 y1 y2 y3 w'=>∃m',m'<m/\I m' y0 y1 y2 y3 w') x0 x1 x2 x3 w
structure aop(F:(Value->Value->Value->Value->Value->hM)->Prop)(G:Value->Value->Value->Value->Value->hM):Prop where
 ex:∃I:Value->Value->Value->Value->Value->hM,F I/\∀x0 x1 x2 x3 x4 w,I x0 x1 x2 x3 x4 w->G x0 x1 x2 x3 x4 w
structure aoq(B:(Value->Value->Value->Value->Value->hM)->Value->Value->Value->Value->Value->hM)(F:(Value->Value->Value->Value->Value->hM)->Prop):Prop where
 ex:∃I:Nat->Value->Value->Value->Value->Value->hM,(∃m,F (I m))/\∀m x0 x1 x2 x3 x4 w,I m x0 x1 x2 x3 x4 w->B (λy0 y1 y2 y3 y4 w'=>∃m',m'<m/\I m' y0 y1 y2 y3 y4 w') x0 x1 x2 x3 x4 w
def lkv(i:Nat):List (Nat×Value)->Value->Value
 | [],d=>d
 | q::r,d=>bif DN q.1 i then q.2 else lkv i r d
def Hq(e:Env)(M:Nat)(bs:List (Nat×Value))(dead:Env):Env:=λi=>bif bit M i then lkv i bs (dead i)else e i
def AV(l:List Nat)(F:(Env->hM)->Prop)(G:List (Nat×Value)->hM):Prop:=
 match l with
 | []=>xl (λK=>F λe w=>K w) (λw=>G [] w)
 | [u]=>eQ (λK=>F λe w=>K (e u) w) (λE w=>G [(u,E)] w)
 | [u,B]=>EX (λK=>F λe w=>K (e u) (e B) w) (λE J w=>G [(u,E),(B,J)] w)
 | [u,B,I]=>aom (λK=>F λe w=>K (e u) (e B) (e I) w) (λE J O w=>G [(u,E),(B,J),(I,O)] w)
 | [u,B,I,M]=>aon (λK=>F λe w=>K (e u) (e B) (e I) (e M) w) (λE J O U w=>G [(u,E),(B,J),(I,O),(M,U)] w)
 | [u,B,I,M,V]=>aop (λK=>F λe w=>K (e u) (e B) (e I) (e M) (e V) w) (λE J O U W w=>G [(u,E),(B,J),(I,O),(M,U),(V,W)] w)
 | _=>False
def AW(l:List Nat)(B:(Env->hM)->List (Nat×Value)->hM)(e:Env)(w:World):Prop:=
 match l with
 | []=>Su (λK w=>B (λu w'=>K w') [] w) (λK=>K w)
 | [E]=>kP (λK J w=>B (λu w'=>K (u E) w') [(E,J)] w) (λK=>K (e E) w)
 | [E,G]=>nP (λK J O w=>B (λu w'=>K (u E) (u G) w') [(E,J),(G,O)] w) (λK=>K (e E) (e G) w)
 | [E,G,I]=>Xt (λK J O U w=>B (λu w'=>K (u E) (u G) (u I) w') [(E,J),(G,O),(I,U)] w) (λK=>K (e E) (e G) (e I) w)
 | [E,G,I,M]=>aoo (λK J O U W w=>B (λu w'=>K (u E) (u G) (u I) (u M) w') [(E,J),(G,O),(I,U),(M,W)] w) (λK=>K (e E) (e G) (e I) (e M) w)
 | [E,G,I,M,V]=>aoq (λK J O U W Y w=>B (λu w'=>K (u E) (u G) (u I) (u M) (u V) w') [(E,J),(G,O),(I,U),(M,W),(V,Y)] w) (λK=>K (e E) (e G) (e I) (e M) (e V) w)
 | _=>False
def jR(l:List Nat)(e:Env):List (Nat×Value):=l.map λa=>(a,e a)
def AV.spec{l:List Nat}{F:(Env->hM)->Prop}{G:List (Nat×Value)->hM}(h:AV l F G) :
  ∃I:List (Nat×Value)->hM,F (λe w=>I (jR l e) w)/\∀(e:Env) w,I (jR l e) w->G (jR l e) w:=by
 unfold AV at h
 split at h
 .obtain⟨I,h1,h2⟩:=h.ex
  exact⟨λ_ w=>I w,h1,λ_ w hi=>h2 w hi⟩
 .obtain⟨I,h1,h2⟩:=h.ex
  exact⟨λq w=>match q with|[u]=>I u.2 w|_=>False,h1,λe w hi=>h2 _ w hi⟩
 .obtain⟨I,h1,h2⟩:=h.ex
  exact⟨λq w=>match q with|[u,B]=>I u.2 B.2 w|_=>False,h1,λe w hi=>h2 _ _ w hi⟩
 .obtain⟨I,h1,h2⟩:=h.ex
  exact⟨λq w=>match q with|[u,B,E]=>I u.2 B.2 E.2 w|_=>False,h1,λe w hi=>h2 _ _ _ w hi⟩
 .obtain⟨I,h1,h2⟩:=h.ex
  exact⟨λq w=>match q with|[u,B,E,J]=>I u.2 B.2 E.2 J.2 w|_=>False,h1,λe w hi=>h2 _ _ _ _ w hi⟩
 .obtain⟨I,h1,h2⟩:=h.ex
  exact⟨λq w=>match q with|[u,B,E,J,M]=>I u.2 B.2 E.2 J.2 M.2 w|_=>False,h1,λe w hi=>h2 _ _ _ _ _ w hi⟩
 grind
def AW.spec{l:List Nat}{B:(Env->hM)->List (Nat×Value)->hM}{e:Env}{w:World}(h:AW l B e w) :
  ∃I:Nat->List (Nat×Value)->hM,(∃m,I m (jR l e) w)/\
   ∀m e w,I m (jR l e) w->B (λO w'=>∃M,M<m/\I M (jR l O) w') (jR l e) w:=by
 unfold AW at h
 split at h
 .obtain⟨I,⟨m,h1⟩,h2⟩:=h.ex
  exact⟨λm _ w=>I m w,⟨m,h1⟩,λm _ w hi=>h2 m w hi⟩
 .obtain⟨I,⟨m,h1⟩,h2⟩:=h.ex
  exact⟨λm q w=>match q with|[u]=>I m u.2 w|_=>False,⟨m,h1⟩,λm e w hi=>h2 m _ w hi⟩
 .obtain⟨I,⟨m,h1⟩,h2⟩:=h.ex
  exact⟨λm q w=>match q with|[u,E]=>I m u.2 E.2 w|_=>False,⟨m,h1⟩,λm e w hi=>h2 m _ _ w hi⟩
 .obtain⟨I,⟨m,h1⟩,h2⟩:=h.ex
  exact⟨λm q w=>match q with|[u,E,G]=>I m u.2 E.2 G.2 w|_=>False,⟨m,h1⟩,λm e w hi=>h2 m _ _ _ w hi⟩
 .obtain⟨I,⟨m,h1⟩,h2⟩:=h.ex
  exact⟨λm q w=>match q with|[u,E,G,J]=>I m u.2 E.2 G.2 J.2 w|_=>False,⟨m,h1⟩,λm e w hi=>h2 m _ _ _ _ w hi⟩
 .obtain⟨I,⟨m,h1⟩,h2⟩:=h.ex
  exact⟨λm q w=>match q with|[u,E,G,J,U]=>I m u.2 E.2 G.2 J.2 U.2 w|_=>False,⟨m,h1⟩,λm e w hi=>h2 m _ _ _ _ _ w hi⟩
 grind
def Xu(m d:Nat):Nat:=Po m (Ln 1 d)
def aor(m d:Nat):Nat:=bif bit m d then Nat.sub m (Ln 1 d)else m
def z8:List Nat->Nat
 | []=>0
 | d::r=>Xu (z8 r) d
def xm:List Operand->Nat->Nat
 | [],m=>m
 | .tmp t::r,m=>Xu (xm r m) t
 | _::r,m=>xm r m
def lkX(id:Nat):List (Nat×Nat)->Nat
 | []=>0
 | q::r=>bif DN q.1 id then q.2 else lkX id r
def Xv:List Oper->Nat->Nat
 | [],lo=>lo
 | o::r,lo=>xm o.op.operands.toList (match o.dst with|some d=>aor (Xv r lo) d|none=>Xv r lo)
def aos:List Nat->Nat->Nat
 | [],m=>m
 | d::r,m=>aos r (aor m d)
def li(rl:Nat):Code->List (Nat×Nat)->Nat->Nat
 | .skip,_,lo=>lo
 | .ret,_,_=>rl
 | .exit id,X,_=>lkX id X
 | .region _ ops _,_,lo=>Xv ops.toList lo
 | .seq a b,X,lo=>li rl a X (li rl b X lo)
 | .cond c a b,X,lo=>xm [c] (Po (li rl a X lo) (li rl b X lo))
 | .block id c,X,lo=>li rl c ((id,lo)::X) lo
 | .loop c,X,_=>li rl c X (li rl c X 0)
 | .rangeFunc g ps a b,X,lo=>xm [g] (Po lo (aos ps.toList (li rl a X (li rl b X lo))))
 | _,_,_=>0
def fQ:Code->Bool
 | .seq a b=>fQ a||fQ b
 | .cond _ a b=>fQ a||fQ b
 | .block _ c=>fQ c
 | .loop c=>fQ c
 | .rangeFunc _ _ _ _=>true
 | _=>false
def je:Code->Nat
 | .region _ ops _=>z8 (wr ops.toList)
 | .seq a b=>Po (je a) (je b)
 | .cond _ a b=>Po (je a) (je b)
 | .block _ c=>je c
 | .loop c=>je c
 | _=>0
def guarded:List Oper->Bool
 | []=>false
 | o::r=>o.guard.isSome||guarded r
def ady(a b:Nat):Nat:=Nat.add a b
mutual
def exC(id:Nat):Code->Nat
 | .exit k=>bif DN k id then 1 else 0
 | .seq a b=>bif DN (nxC a) 0 then exC id a else ady (exC id a) (exC id b)
 | .cond _ a b=>ady (exC id a) (exC id b)
 | .block _ c=>exC id c
 | .loop c=>exC id c
 | .rangeFunc _ _ _ b=>exC id b
 | _=>0
def nxC:Code->Nat
 | .skip=>1
 | .region _ ops _=>bif guarded ops.toList then 2 else 1
 | .seq a b=>bif DN (nxC a) 0 then 0 else nxC b
 | .cond _ a b=>ady (nxC a) (nxC b)
 | .block id c=>ady (nxC c) (exC id c)
 | .rangeFunc _ _ _ _=>1
 | _=>0
end
def gB(m:Nat):Nat->Nat->List Nat
 | 0,_=>[]
 | f+1,i=>bif bit m i then i::gB m f (i+1)else gB m f (i+1)
abbrev DW:=Exit->List Nat->Env->hM
def tZ(K:List Nat->Env->hM)(Q:DW):DW
 | .normal,ds,e,w=>K ds e w
 | x,ds,e,w=>Q x ds e w
def Xw(id:Nat)(Q:DW):DW
 | .exit k,ds,e,w=>bif DN k id then Q .normal ds e w else Q (.exit k) ds e w
 | x,ds,e,w=>Q x ds e w
def Xx(K:Option Code->hM):DW
 | .normal,_,_,w=>K none w
 | .ret,_,_,w=>K (some .ret) w
 | .exit id,_,_,w=>K (some (.exit id)) w
 | _,_,_,_=>False
def aft(N R:Nat->hM)(X:Nat->Nat->hM):Option Code->Nat->hM
 | none=>N
 | some .ret=>R
 | some (.exit id)=>X id
 | _=>λ_ _=>False
def outs:List Nat->Code->Bool
 | l,.exit id=>!(l.any λk=>DN k id)
 | l,.seq a b=>outs l a||outs l b
 | l,.cond _ a b=>outs l a||outs l b
 | l,.block id c=>outs (id::l) c
 | l,.loop c=>outs l c
 | _,_=>false
def EY:List Value->Nat->Value
 | [],_=>undef
 | v::_,0=>v
 | _::r,k+1=>EY r k
def HV(args:List Value):List Nat->Nat->Env->Env
 | [],_,e=>e
 | p::r,k,e=>HV args r (k+1) (AK e p (EY args k))
def lU(ds:List Nat):Value:=.tuple (ds.map fun (D:Nat)=>nG .u64 (D:Int)).toArray
def ajg:Value->Nat
 | .int _ n=>n.toNat
 | _=>0
def AX:Value->List Nat
 | .tuple vs=>vs.toList.map ajg
 | _=>[]
theorem Cy(ds:List Nat):AX (lU ds)=ds:=by
 show(ds.map fun (D:Nat)=>nG .u64 (D:Int)).map ajg=ds
 rw[List.map_map]
 conv=>rhs;rw[<- List.map_id ds]
 exact BP λD _=>by simp[ajg]
structure AY(P:Program)(fv:Value)(np:Nat)(w:World)(round:List Value->World->(World->(hM)->Prop)->(Option Code->hM)->Prop)(after:Option Code->Nat->hM):Prop where
 ex:∃gf cap,fv=.func (.func gf) #[] cap/\Plain P gf/\∀L0:Loop,L0.state=.ready->L0.pending=none->
  (∀(args:List Value) (W:World) (K:Value->hM),args.length=np->W.heap[w.heap.size+1]?=some (.loop L0)->
   round args W (λw1 k=>w1.heap[w.heap.size+1]?=some (.loop L0)/\k (w1.putObj (w.heap.size+1) (.loop {L0 with state:=.busy})))
    (λj W'=>W'.heap[w.heap.size+1]?=some (.loop {L0 with state:=.busy})/\K (.bool j.isNone) (W'.putObj (w.heap.size+1) (.loop {L0 with state:=if j.isNone then .ready else .done,pending:=j})))->
   YieldAt (FO none) 0 P (w.heap.size+1) args.toArray W (tQ K))->
  Calls P gf (#[.func (.yield (w.heap.size+1)) #[] #[]]++cap) ((w.alloc (.deferred (some []))).alloc (.loop L0))
   (tQ λ_ W2=>∃st j,st≠.busy/\W2.heap[w.heap.size+1]?=some (.loop {L0 with state:=st,pending:=j})/\after j w.heap.size (W2.putObj (w.heap.size+1) (.loop {L0 with state:=.exhausted,pending:=j})))
abbrev dM:=Nat->PT
def LQ(pl:dM):Code->Bool
 | .region id _ true=>(pl id).many
 | .block _ c=>LQ pl c
 | .seq a b=>LQ pl a||LQ pl b
 | .cond _ a b=>LQ pl a||LQ pl b
 | _=>false
def drew(w:World):World:={w with drawn:=w.drawn+1}
def D(P:Program)(n:Nat)(pl:dM)(rl:Nat):Code->List (Nat×Nat)->Nat->DW->List Nat->Env->hM
 | .skip,_,_,Q,ds,e,w=>Q .normal ds e w
 | .ret,_,_,Q,ds,e,w=>Q .ret ds e w
 | .exit id,_,_,Q,ds,e,w=>Q (.exit id) ds e w
 | .region _ ops false,_,_,Q,ds,e,w=>DR P n ops.toList (ops.toList.map λo=>(o,[])) (Q .normal ds) [] e w
 | .region id ops true,_,_,Q,ds,e,w=>
  bif ops.toList.all (EV n)&&(HQ ops.toList (HU ops.toList)&&Sq P ops.toList (HU ops.toList) false ops.toList.length 0 (pl id))then
   DT P n ops.toList (pl id) (Q .normal ds) [] e (drew w)
  else False
 | .seq a b,X,lo,Q,ds,e,w=>
  bif T5 (nxC a) 1&&!LQ pl a then D P n pl rl a X (li rl b X lo) (tZ (D P n pl rl b X lo Q) Q) ds e w
  else bif fQ a then AV (n::gB (Ix (je a) (li rl b X lo)) n 0)
   (λK=>D P n pl rl a X (li rl b X lo) (tZ (λds e w=>K (AK e n (lU ds)) w) Q) ds e w)
   (λbs w'=>∀dead,D P n pl rl b X lo Q (AX (lkv n bs undef)) (Hq e (je a) bs.tail dead) w')
  else AV (gB (Ix (je a) (li rl b X lo)) n 0)
   (λK=>D P n pl rl a X (li rl b X lo) (tZ (λ_ e w=>K e w) Q) ds e w)
   (λbs w'=>∀dead,D P n pl rl b X lo Q ds (Hq e (je a) bs dead) w')
 | .cond c a b,X,lo,Q,ds,e,w=>zA (ev e c) (D P n pl rl a X lo Q ds e w) (D P n pl rl b X lo Q ds e w)
 | .block id c,X,lo,Q,ds,e,w=>D P n pl rl c ((id,lo)::X) lo (Xw id Q) ds e w
 | .loop c,X,_,Q,ds,e,w=>
  bif fQ c then AW (n::gB (Ix (je c) (li rl c X (li rl c X 0))) n 0)
   (λK bs w=>∀dead,D P n pl rl c X (li rl c X (li rl c X 0)) (tZ (λds e w=>K (AK e n (lU ds)) w) Q) (AX (lkv n bs undef)) (Hq e (je c) bs.tail dead) w) (AK e n (lU ds)) w
  else AW (gB (Ix (je c) (li rl c X (li rl c X 0))) n 0)
   (λK bs w=>∀dead,D P n pl rl c X (li rl c X (li rl c X 0)) (tZ (λ_ e w=>K e w) Q) ds (Hq e (je c) bs dead) w) e w
 | .rangeFunc g ps asx u,_,_,Q,ds,e,w=>
  bif ps.toList.all (λp=>aaY p n)&&(!fQ asx&&!fQ u)then
   AY P (ev e g) ps.toList.length w
    (λargs W B K=>D P n pl 0 asx [] (li 0 u [] 0) (tZ (λE I J=>B J λG=>D P n pl 0 u [] 0 (Xx K) E I G) λ_ _ _ _=>False) [] (HV args ps.toList 0 e) W)
    (aft (λD w=>Q .normal (D::ds) e w) (λD w=>Q .ret (D::ds) e w) (bif outs [] u then(λid D w=>Q (.exit id) (D::ds) e w) elseλ_ _ _=>False))
  else False
 | _,_,_,_,_,_,_=>False
theorem Xy{m d i:Nat}:bit (Xu m d) i=(bit m i||decide (i=d)):=by
 show(m ||| 1 <<< d).testBit i=_
 rw[VE,TG,Rg]
 unfold bit
 grind
theorem PB{l:List Nat}{i:Nat}:bit (z8 l) i=true↔i∈l:=by
 induction l with
 | nil=>simp[z8,bit]
 | cons d r u=>simp only[z8,Xy,xW,u,decide_eq_true_eq,sl];grind
theorem PC{l:List Nat}{e:Env}{i:Nat}:lkv i (jR l e) (e i)=e i:=by
 induction l with
 | nil=>rfl
 | cons a r u=>
  show(bif DN a i then e a else lkv i (jR r e) (e i))=e i
  by_cases h:a=i
  .grind
  .rw[Cv h];exact u
theorem yF{e u:Env}{M:Nat}{l:List Nat}(h:∀i,bit M i=false->u i=e i):Hq e M (jR l u) u=u:=by
 funext i
 unfold Hq
 cases hb:bit M i with
 | true=>simp only[cond_true];exact PC
 | false=>grind
theorem LR{m:Nat}:∀(f i k:Nat),k∈gB m f i->k<i+f:=by
 intro f
 induction f with
 | zero=>intro i k h;cases h
 | succ f u=>
  grind[gB]
theorem PH{l:List Nat}{n:Nat}{v:Value}{e:Env}(h:∀k∈l,k<n):jR l (AK e n v)=jR l e:=
 BP λk u=>by rw[pg _ _ (Nat.ne_of_lt (h k u))]
theorem HW{l:List Nat}{n:Nat}{ds:List Nat}{e:Env}(h:∀k∈l,k<n):jR (n::l) (AK e n (lU ds))=(n,lU ds)::jR l e:=by
 show(n,AK e n (lU ds) n)::jR l (AK e n (lU ds))=_
 rw[nO,PH h]
theorem Sv{m n:Nat}:∀k∈gB m n 0,k<n:=λk u=>by have:=LR n 0 k u;omega
def uX(n:Nat)(M:Nat)(b:Bool)(ds:List Nat)(e:Env)(Q:DW):Exit->Act->hM:=
 λx E w'=>∃B u,jI B n u E/\(∀i,bit M i=false->u i=e i)/\(b=false->B=ds)/\Q x B u w'
theorem least{p:Nat->Prop}(h:∃m,p m):∃m,p m/\∀k,p k->m<=k:=by
 obtain⟨m,u⟩:=h
 induction m using Nat.strongRecOn with
 | _ m B=>
  grind
theorem JD{n:Nat}{args:List Value}:∀(ps:List Nat) (k:Nat) (e:Env) (a:Act),(∀p∈ps,p<n)->jI [] n e a->k+ps.length<=args.length->
  jI [] n (HV args ps k e) {a with tmps:=(ps.zip (args.drop k)).foldl (λt (q:Nat×Value)=>t.setIfInBounds q.1 q.2) a.tmps}:=by
 intro ps
 induction ps with
 | nil=>simp_all[Env,HV]
 | cons p ps I=>
  intro k e a E G J
  have B:k<args.length:=dI
  have hd:args.drop k=EY args k::args.drop (k+1):=by
   rw[List.drop_eq_getElem_cons B]
   congr 1
   clear I G J E
   induction args generalizing k with
   | nil=>simp at B
   | cons v r u=>cases k with
    | zero=>rfl
    | succ k=>exact u k dI
  rw[hd]
  have h1:=G.put (d:=some p) (λk J=>by simp_all) (EY args k)
  exact I (k+1) _ _ (λq M=>E q (qo _ M)) h1 dI
theorem Xz{P:Program}{n:Nat}{pl:dM}{g:Operand}{ps:Array Tmp}{asx u:Code}
  (ihA:∀(r:Option Nat) (rl:Nat) (X:List (Nat×Nat)) (lo:Nat) (Q:DW) (ds:List Nat) (e:Env) (a:Act) (w:World),
   (r=none\/fQ asx=false)->jI ds n e a->D P n pl rl asx X lo Q ds e w->asx.wpIn (FO r) 0 P (uX n (je asx) (fQ asx) ds e Q) a w)
  (ihB:∀(r:Option Nat) (rl:Nat) (X:List (Nat×Nat)) (lo:Nat) (Q:DW) (ds:List Nat) (e:Env) (a:Act) (w:World),
   (r=none\/fQ u=false)->jI ds n e a->D P n pl rl u X lo Q ds e w->u.wpIn (FO r) 0 P (uX n (je u) (fQ u) ds e Q) a w)
  (rl:Nat) (X:List (Nat×Nat)) (lo:Nat) (Q:DW) (ds:List Nat) (e:Env) (a:Act) (w:World) (M:jI ds n e a) (h:D P n pl rl (.rangeFunc g ps asx u) X lo Q ds e w) :
  (Code.rangeFunc g ps asx u).wpIn (FO none) 0 P (uX n 0 true ds e Q) a w:=by
 have h':(bif ps.toList.all (λp=>aaY p n)&&(!fQ asx&&!fQ u)then
  AY P (ev e g) ps.toList.length w
   (λargs W B K=>D P n pl 0 asx [] (li 0 u [] 0) (tZ (λJ Y w1=>B w1 λw2=>D P n pl 0 u [] 0 (Xx K) J Y w2) λ_ _ _ _=>False) [] (HV args ps.toList 0 e) W)
   (aft (λD w=>Q .normal (D::ds) e w) (λD w=>Q .ret (D::ds) e w) (bif outs [] u then(λid D w=>Q (.exit id) (D::ds) e w) elseλ_ _ _=>False))
  else False):=h
 cases hc:(ps.toList.all (λp=>aaY p n)&&(!fQ asx&&!fQ u))with
 | false=>grind
 | true=>
  rw[hc]at h'
  simp only[cond_true]at h'
  simp only[n4,ta]at hc
  obtain⟨hps,hA,hB⟩:=hc
  have awz:∀p∈ps.toList,p<n:=λp O=>Nat.blt_eq▸Gj.1 hps p O
  obtain⟨Z,cap,hfv,oD,Hr⟩:=h'.ex
  refine wpIn_rangeFunc λfn _=>?_
  let L0:Loop:={state:=.ready,pending:=none,fn,tmps:=a.tmps,params:=ps,assign:=asx,body:=u,defers:=w.heap.size}
  have hY:=Hr L0 rfl rfl (λargs W K hlen hl EZ=>?_)
  .have hC:=hY.mono (R':=rangePost (FO none) 0 P (w.heap.size+1) (uX n 0 true ds e Q) {a with defers:=[{target:=.collected w.heap.size,args:=#[]}]++a.defers}) (λx w3 hx=>?_)
   .have hC1:=(zZ (r:=none) (n:=0)).2 hC
    refine⟨w.heap.size+1,[{target:=.collected w.heap.size,args:=#[]}],(w.alloc (.deferred (some []))).alloc (.loop L0),
     {target:=.fn (.func Z) cap,args:=#[.func (.yield (w.heap.size+1)) #[] #[]]},(w.alloc (.deferred (some []))).alloc (.loop L0),Z,#[.func (.yield (w.heap.size+1)) #[] #[]]++cap,
     (w.alloc (.deferred (some []))).alloc (.loop L0),run_enterLoop_outer ..,?_,λ_ _=>trivial,?_,ES,?_⟩
    rotate_left 2
    .exact hC1
    .have hg:a.eval g=.func (.func Z) #[] cap:=by rw[M.eval];exact hfv
     simp only[resolve,hg]
     simp[go_sem]
    .show(callFunc Z (#[.func (.yield (w.heap.size+1)) #[] #[]]++cap)).run P _=_
     exact AQ oD _ _
   ·
    obtain⟨v,rfl,st,j,jd,hl3,G⟩:=hx
    refine⟨j,_,run_endLoop hl3 cO,?_⟩
    have E:jI (w.heap.size::ds) n e {a with defers:=[{target:=.collected w.heap.size,args:=#[]}]++a.defers}:=⟨by rw[M.defers];rfl,M.size,M.get⟩
    cases j with
    | none=>exact⟨_,e,E,λ_ _=>rfl,λV=>(by cases V),G⟩
    | some c=>
     cases c with
     | ret=>exact wpIn_ret ⟨_,e,E,λ_ _=>rfl,λV=>(by cases V),G⟩
     | exit id=>
       have Lw:(bif outs [] u then(λid D w=>Q (.exit id) (D::ds) e w) elseλ_ _ _=>False:Nat->Nat->hM) id w.heap.size _:=G
       cases ho:outs [] u with
       | true=>rw[ho]at Lw;exact wpIn_exit ⟨_,e,E,λ_ _=>rfl,λV=>(by cases V),Lw⟩
       | false=>grind
     | _=>exact G.elim
  ·
   have ot:w.heap.size+1<W.heap.size:=(Fu.1 hl).1
   refine⟨fn,_,asx,u,run_yield hl cO,roundIn_of_wpIn trivial ?_⟩
   have E:jI [] n (HV args ps.toList 0 e) {tmps:=(ps.zip args.toArray).foldl (λt (q:Nat×Value)=>t.setIfInBounds q.1 q.2) a.tmps,defers:=[]}:=by
    have h0:jI [] n e {tmps:=a.tmps,defers:=[]}:=⟨rfl,M.size,M.get⟩
    have:=JD ps.toList 0 e _ awz h0 (by simpa using AH hlen.symm)
    have Y:(ps.zip args.toArray).foldl (λt (q:Nat×Value)=>t.setIfInBounds q.1 q.2) a.tmps=(ps.toList.zip (args.drop 0)).foldl (λt (q:Nat×Value)=>t.setIfInBounds q.1 q.2) a.tmps:=by
     rw[<- YD,Array.toList_zip];simp
    grind
   refine wpIn_mono (ihA (some (w.heap.size+1)) 0 [] _ _ [] _ _ W (.inr hA) E EZ) λx a1 w1 O=>?_
   obtain⟨J,Y,ha1,_,XA,I⟩:=O
   cases x with
   | normal=>
    obtain⟨hl1,I⟩:=I
    refine⟨_,run_beginRound hl1 rfl,?_⟩
    refine wpIn_mono (ihB (some (w.heap.size+1)) 0 [] _ _ J Y a1 _ (.inr hB) ha1 I) λx a2 w2 O=>?_
    obtain⟨ds2,e2,ha2,_,_,I⟩:=O
    cases x with
    | normal=>obtain⟨U,G⟩:=I;exact⟨_,_,run_endRound none U,_,rfl,G⟩
    | ret=>obtain⟨U,G⟩:=I;exact⟨_,_,run_endRound (some .ret) U,_,rfl,G⟩
    | exit id=>obtain⟨U,G⟩:=I;exact⟨_,_,run_endRound (some (.exit id)) U,_,rfl,G⟩
    | _=>exact I.elim
   | _=>exact I.elim
theorem adB{P:Program}{n:Nat}{pl:dM}(hm:P.follows .mixedOrders=true) :
  ∀(c:Code) (r:Option Nat) (rl:Nat) (X:List (Nat×Nat)) (lo:Nat) (Q:DW) (ds:List Nat) (e:Env) (a:Act) (w:World),
   (r=none\/fQ c=false)->jI ds n e a->D P n pl rl c X lo Q ds e w->c.wpIn (FO r) 0 P (uX n (je c) (fQ c) ds e Q) a w:=by
 intro c
 induction c with
 | skip=>intro r rl X lo Q ds e a w _ Y h;exact wpIn_skip ⟨ds,e,Y,λ_ _=>rfl,λ_=>rfl,h⟩
 | ret=>intro r rl X lo Q ds e a w _ Y h;exact wpIn_ret ⟨ds,e,Y,λ_ _=>rfl,λ_=>rfl,h⟩
 | exit id=>intro r rl X lo Q ds e a w _ Y h;exact wpIn_exit ⟨ds,e,Y,λ_ _=>rfl,λ_=>rfl,h⟩
 | region id B draw=>
  intro r rl X lo Q ds e a w _ Y h
  have hQ:∀(u:Env) (G:Act) (w':World),jI ds n u G->(∀k,k ∉ wr B.toList->u k=e k)->Q .normal ds u w'->uX n (je (.region id B draw)) (fQ (.region id B draw)) ds e Q .normal G w':=
   λu G w' Jy W hq=>by
    refine⟨ds,u,Jy,λi hi=>W i λLP=>?_,λ_=>rfl,hq⟩
    have h1:bit (z8 (wr B.toList)) i=true:=PB.2 LP
    have h2:bit (z8 (wr B.toList)) i=false:=hi
    grind
  cases draw with
  | false=>
   have:=DR.region (r:=r) (id:=id) Y hQ (show DR P n B.toList (B.toList.map λo=>(o,[])) (Q .normal ds) [] e w from h)
   omega
  | true=>
   have Z:(bif B.toList.all (EV n)&&(HQ B.toList (HU B.toList)&&Sq P B.toList (HU B.toList) false B.toList.length 0 (pl id))then
    DT P n B.toList (pl id) (Q .normal ds) [] e (drew w)else False):=h
   cases hc:(B.toList.all (EV n)&&(HQ B.toList (HU B.toList)&&Sq P B.toList (HU B.toList) false B.toList.length 0 (pl id)))with
   | false=>grind
   | true=>
    rw[hc]at Z
    simp only[n4]at hc
    obtain⟨h2,h3,h4⟩:=hc
    have hd:∀d∈wr B.toList,d<n:=λd hd=>by
     obtain⟨o,ho,LM⟩:=Rp.1 hd
     have:=Gj.1 h2 o ho
     unfold EV at this
     simp_all
    have hz:(bit 0)=λ_=>false:=by funext i;simp[bit]
    have hws:=(adx (Q:=Q .normal ds) h3 (pl id) B.toList.length 0 [] e (drew w) (λi o hi=>dI) (by constructor<;>simp) (DT.plain _ _ _ _ (kN.nil e) Z)).1 h4
    rw[hz]at hws
    have:=WS.region (r:=r) (id:=id) hm hd Y hQ hws
    omega
 | seq M U ih1 ih2=>
  intro r rl X lo Q ds e a w hr Y h
  have AL:r=none\/fQ M=false:=hr.imp id λh=>by grind[fQ]
  have Ek:r=none\/fQ U=false:=hr.imp id λh=>by grind[fQ]
  have key:∀(K:List Nat->Env->hM),D P n pl rl M X (li rl U X lo) (tZ K Q) ds e w->
    (∀E u G w',jI E n u G->(∀i,bit (je M) i=false->u i=e i)->(fQ M=false->E=ds)->K E u w'->U.wpIn (FO r) 0 P (uX n (je U) (fQ U) E u Q) G w')->
    (Code.seq M U).wpIn (FO r) 0 P (uX n (je (.seq M U)) (fQ (.seq M U)) ds e Q) a w:=by
   intro K hK hk
   refine wpIn_seq (wpIn_mono (ih1 r rl X _ _ ds e a w AL Y hK) λx G w' hp=>?_)
   obtain⟨E,u,Jy,W,O,hq⟩:=hp
   have hor:∀i,bit (je (.seq M U)) i=false->bit (je M) i=false/\bit (je U) i=false:=λi hi=>by
    simp_all[bit,je]
   have hrf:fQ (.seq M U)=false->fQ M=false/\fQ U=false:=λhh=>by
    grind[fQ]
   cases x with
   | normal=>
    refine wpIn_mono (hk E u G w' Jy W O hq) λx2 a2 w2 UW=>?_
    grind[uX,je,fQ]
   | _=>exact⟨E,u,Jy,λi hi=>W i (hor i hi).1,λhh=>O (hrf hh).1,hq⟩
  have Z:(bif T5 (nxC M) 1&&!LQ pl M then D P n pl rl M X (li rl U X lo) (tZ (D P n pl rl U X lo Q) Q) ds e w
   else bif fQ M then AV (n::gB (Ix (je M) (li rl U X lo)) n 0)
    (λK=>D P n pl rl M X (li rl U X lo) (tZ (λds e w=>K (AK e n (lU ds)) w) Q) ds e w)
    (λbs w'=>∀dead,D P n pl rl U X lo Q (AX (lkv n bs undef)) (Hq e (je M) bs.tail dead) w')
   else AV (gB (Ix (je M) (li rl U X lo)) n 0)
    (λK=>D P n pl rl M X (li rl U X lo) (tZ (λ_ e w=>K e w) Q) ds e w)
    λbs w'=>∀dead,D P n pl rl U X lo Q ds (Hq e (je M) bs dead) w'):=h
  cases hc:(T5 (nxC M) 1&&!LQ pl M)with
  | true=>
   grind
  | false=>
   rw[hc]at Z
   simp only[cond_false]at Z
   cases hc2:fQ M with
   | false=>
    rw[hc2]at Z
    simp only[cond_false]at Z
    obtain⟨I,h1,h2⟩:=AV.spec Z
    refine key _ h1 λE u G w' Jy W O hk=>?_
    have:=h2 u w' hk u
    rw[yF W]at this
    grind
   | true=>
    rw[hc2]at Z
    simp only[cond_true]at Z
    obtain⟨I,h1,h2⟩:=AV.spec Z
    refine key _ h1 λE u G w' Jy W O hk=>?_
    have:=h2 (AK u n (lU E)) w' hk u
    rw[HW Sv]at this
    rw[show((n,lU E)::jR (gB (Ix (je M) (li rl U X lo)) n 0) u).tail=jR (gB (Ix (je M) (li rl U X lo)) n 0) u from rfl,yF W,
     show lkv n ((n,lU E)::jR (gB (Ix (je M) (li rl U X lo)) n 0) u) undef=lU E by show(bif DN n n then lU E else _)=_;simp_all,Cy]at this
    grind
 | cond c M U ih1 ih2=>
  intro r rl X lo Q ds e a w hr Y h
  obtain⟨t,ht,hA,hB⟩:=(show zA (ev e c) (D P n pl rl M X lo Q ds e w) (D P n pl rl U X lo Q ds e w)from h).ex
  have hor:∀i,bit (je (.cond c M U)) i=false->bit (je M) i=false/\bit (je U) i=false:=λi hi=>by
   simp_all[bit,je]
  have hrf:fQ (.cond c M U)=false->fQ M=false/\fQ U=false:=λhh=>by
   grind[fQ]
  refine wpIn_cond_split (t:=t) (by rw[Y.eval];exact ht) (λh1=>?_) (λh1=>?_)
  .exact wpIn_mono (ih1 r rl X lo Q ds e a w (hr.imp id λh=>(hrf h).1) Y (hA h1)) λx G w' ⟨E,u,Jy,W,O,hq⟩=>⟨E,u,Jy,λi hi=>W i (hor i hi).1,λhh=>O (hrf hh).1,hq⟩
  .exact wpIn_mono (ih2 r rl X lo Q ds e a w (hr.imp id λh=>(hrf h).2) Y (hB h1)) λx G w' ⟨E,u,Jy,W,O,hq⟩=>⟨E,u,Jy,λi hi=>W i (hor i hi).2,λhh=>O (hrf hh).2,hq⟩
 | block id c ih=>
  intro r rl X lo Q ds e a w hr Y h
  refine wpIn_block (wpIn_mono (ih r rl _ _ _ ds e a w hr Y h) λx G w' hp=>?_)
  obtain⟨E,u,Jy,W,O,hq⟩:=hp
  cases x with
  | exit k=>
   simp only[Exit.inBlock]
   simp only[Xw]at hq
   by_cases hk:k=id
   .subst hk
    rw[EU]at hq
    grind[uX,je,fQ]
   .rw[Cv hk]at hq
    grind[uX,je,fQ]
  | _=>exact⟨E,u,Jy,W,O,hq⟩
 | loop c ih=>
  intro r rl X lo Q ds e a w hr Y h
  have key:∀(V:List Nat->Env->List (Nat×Value)) (I:Nat->List (Nat×Value)->hM),(∃m,I m (V ds e) w)->
    (∀m E u w',(∀i,bit (je c) i=false->u i=e i)->(fQ c=false->E=ds)->I m (V E u) w'->D P n pl rl c X (li rl c X (li rl c X 0)) (tZ (λds2 e2 w2=>∃m',m'<m/\I m' (V ds2 e2) w2) Q) E u w')->
    (Code.loop c).wpIn (FO r) 0 P (uX n (je (.loop c)) (fQ (.loop c)) ds e Q) a w:=by
   intro V I ⟨m,h1⟩ h2
   let Inv:Nat->Act->hM:=λm G w'=>∃E u,jI E n u G/\(∀i,bit (je c) i=false->u i=e i)/\(fQ c=false->E=ds)/\I m (V E u) w'
   have body:∀m G w',Inv m G w'->c.wpIn (FO r) 0 P (Exit.then (λa2 w2=>∃m',m'<m/\Inv m' a2 w2) (uX n (je (.loop c)) (fQ (.loop c)) ds e Q)) G w':=by
    rintro m G w' ⟨E,u,Jy,W,O,hi⟩
    refine wpIn_mono (ih r rl X _ _ E u G w' hr Jy (h2 m E u w' W O hi)) λx a2 w2 hp=>?_
    obtain⟨ds2,e2,ha2,hf2,awD,hq⟩:=hp
    have hfe:∀i,bit (je c) i=false->e2 i=e i:=λi hi=>(hf2 i hi).trans (W i hi)
    have aow:fQ c=false->ds2=ds:=λhh=>(awD hh).trans (O hh)
    cases x with
    | normal=>obtain⟨m',hm',PI⟩:=hq;exact⟨m',hm',ds2,e2,ha2,hfe,aow,PI⟩
    | _=>exact⟨ds2,e2,ha2,hfe,aow,hq⟩
   classical
   let J:Act->hM:=λG w'=>∃m,Inv m G w'
   let μ:Act->World->Nat:=λG w'=>if h:∃m,Inv m G w' then acf (least h)else 0
   have hμ:∀G w',J G w'->Inv (μ G w') G w'/\∀k,Inv k G w'->μ G w'<=k:=λG w' hj=>by
    grind
   refine wpIn_loop J μ ⟨m,ds,e,Y,λ_ _=>rfl,λ_=>rfl,h1⟩ λG w' hj=>?_
   refine wpIn_mono (body _ G w' (hμ G w' hj).1) λx a2 w2 hp=>?_
   cases x with
   | normal=>
    obtain⟨m',hm',PI⟩:=hp
    exact⟨⟨m',PI⟩,Nat.lt_of_le_of_lt ((hμ a2 w2 ⟨m',PI⟩).2 m' PI) hm'⟩
   | _=>exact hp
  have Z:(bif fQ c then AW (n::gB (Ix (je c) (li rl c X (li rl c X 0))) n 0)
    (λK bs w=>∀dead,D P n pl rl c X (li rl c X (li rl c X 0)) (tZ (λds e w=>K (AK e n (lU ds)) w) Q) (AX (lkv n bs undef)) (Hq e (je c) bs.tail dead) w) (AK e n (lU ds)) w
   else AW (gB (Ix (je c) (li rl c X (li rl c X 0))) n 0)
    (λK bs w=>∀dead,D P n pl rl c X (li rl c X (li rl c X 0)) (tZ (λ_ e w=>K e w) Q) ds (Hq e (je c) bs dead) w) e w):=h
  cases hc:fQ c with
  | false=>
   rw[hc]at Z
   simp only[cond_false]at Z
   obtain⟨I,h1,h2⟩:=AW.spec Z
   rw[show fQ (.loop c)=fQ c from rfl]at key
   have:=key (λ_ e=>jR (gB (Ix (je c) (li rl c X (li rl c X 0))) n 0) e) I h1 λm E u w' W O hi=>by
    have:=h2 m u w' hi u
    rw[yF W]at this
    grind
   exact this
  | true=>
   rw[hc]at Z
   simp only[cond_true]at Z
   obtain⟨I,h1,h2⟩:=AW.spec Z
   refine key (λds e=>jR (n::gB (Ix (je c) (li rl c X (li rl c X 0))) n 0) (AK e n (lU ds))) I h1 λm E u w' W O hi=>?_
   have:=h2 m (AK u n (lU E)) w' hi u
   rw[HW Sv]at this
   rw[show((n,lU E)::jR (gB (Ix (je c) (li rl c X (li rl c X 0))) n 0) u).tail=jR (gB (Ix (je c) (li rl c X (li rl c X 0))) n 0) u from rfl,yF W,
    show lkv n ((n,lU E)::jR (gB (Ix (je c) (li rl c X (li rl c X 0))) n 0) u) undef=lU E by show(bif DN n n then lU E else _)=_;simp_all,Cy]at this
   exact this
 | rangeFunc g ps asx bd ihA ihB=>
  intro r rl X lo Q ds e a w hr Y h
  have DX:r=none:=hr.resolve_right (by simp[fQ])
  subst DX
  exact Xz ihA ihB rl X lo Q ds e a w Y h
 | _=>intro r rl X lo Q ds e a w _ Y h;exact h.elim
def PJ(P:Program):List ResultVar->Env->(List Value->Prop)->hM
 | [],_,K,_=>K []
 | .tmp t::r,e,K,w=>PJ P r e (λvs=>K (e t::vs)) w
 | .cell a t::r,e,K,w=>Lu P (x6 t (e a)) w (λv=>PJ P r e (λvs=>K (v::vs)) w)
def XB:List Value->Value
 | [v]=>v
 | vs=>.tuple vs.toArray
def ng:List Nat->World->(hM)->Prop
 | [],w,K=>K w
 | D::r,w,K=>w.heap[D]?=some (.deferred (some []))/\ng r (w.putObj D (.deferred none)) K
def PK(P:Program)(rs:List ResultVar)(K:Value->hM):DW
 | .normal,ds,e,w=>ng ds w λw=>PJ P rs e (λvs=>K (XB vs) w) w
 | .ret,ds,e,w=>ng ds w λw=>PJ P rs e (λvs=>K (XB vs) w) w
 | _,_,_,_=>False
def DY:List Value->Env
 | [],_=>undef
 | v::_,0=>v
 | _::r,n+1=>DY r n
theorem XC(l:List Value)(i:Nat):DY l i=l.getD i undef:=by
 induction l generalizing i with
 | nil=>simp[DY]
 | cons v r u=>cases i with
  | zero=>rfl
  | succ i=>simp[DY,u]
def UX(tmps:Array Value):ResultVar->Sem Value
 | .tmp t=>pure (tmps.getD t undef)
 | .cell a t=>do loadVar t (<- asAddr (tmps.getD a undef))
theorem JE{P:Program}{t:TypeId}{v u:Value}{w:World}(h:(x6 t v).run P w=.ok u w):(do loadVar t (<- asAddr v):Sem Value).run P w=.ok u w:=by
 cases v with
 | pointer a=>cases a with
  | none => exact absurd (show(Result.halt (.stuck "an address expected (no nilCheck in front?)") w : Result Value)=.ok u w from h) ei
  | some a=>exact h
 | _ => exact absurd (show(Result.halt (.stuck "an address expected (no nilCheck in front?)") w : Result Value)=.ok u w from h) ei
theorem XD{P:Program}{ds:List Nat}{n:Nat}{e:Env}{a:Act}(B:jI ds n e a):∀(rs:List ResultVar) (K:List Value->Prop) (w:World),PJ P rs e K w->
  ∃vs,(rs.mapM (UX a.tmps)).run P w=.ok vs w/\K vs:=by
 intro rs
 induction rs with
 | nil=>intro K w h;exact⟨[],rfl,h⟩
 | cons r rs G=>
  intro K w h
  have step:∀v,(UX a.tmps r).run P w=.ok v w->PJ P rs e (λvs=>K (v::vs)) w->∃vs,((r::rs).mapM (UX a.tmps)).run P w=.ok vs w/\K vs:=by
   intro v E u
   obtain⟨vs,h1,h2⟩:=G _ w u
   simp_all
  cases r with
  | tmp t=>exact step (e t) (by rw[<- B.get t];rfl) h
  | cell c t=>
   obtain⟨v,E,u⟩:=h.ex
   refine step v ?_ u
   show(do loadVar t (<- asAddr (a.tmps.getD c undef)):Sem Value).run P w=_
   rw[B.get c]
   exact JE E
theorem LS{P:Program}{u:Func}{rs:List ResultVar}(B:u.results=rs.toArray){tmps:Array Value}{w:World}{vs:List Value}
  (h:(rs.mapM (UX tmps)).run P w=.ok vs w):(results u tmps).run P w=.ok (XB vs) w:=by
 have e:results u tmps=(rs.toArray.mapM (UX tmps) >>= λvs=>pure (if h:vs.size=1 then vs[0]else .tuple vs)):=by
  unfold results;rw[B];rfl
 rw[e,List.mapM_toArray]
 have h1:(Functor.map (λa=>a.toArray) (rs.mapM (UX tmps))).run P w=.ok vs.toArray w:=by
  simp_all
 rw[eT h1]
 show Result.ok _ w=Result.ok _ w
 congr 1
 match vs with
 | []=>rfl
 | [v]=>rfl
 | a::b::r=>simp[XB]
theorem JF{P:Program}{u:Func}{tmps:Array Value}{R:Ending->hM}:∀(ds:List Nat) (w:World),ng ds w (λw'=>∃v,(results u tmps).run P w'=.ok v w'/\R (.returned v) w')->
  LeavesInM (FO none) 0 P u tmps R (ds.map mark) .returning w:=by
 intro ds
 induction ds with
 | nil=>intro w ⟨v,h1,h2⟩;exact⟨v,h1,h2⟩
 | cons D r B=>intro w h;exact⟨ei,.inl ⟨D,_,rfl,run_takeDeferred h.1,B _ h.2⟩⟩
theorem ng.mono{ds:List Nat}{K u:hM}(E:∀w,K w->u w):∀{w:World},ng ds w K->ng ds w u:=by
 induction ds with
 | nil=>intro w h;exact E w h
 | cons D r B=>intro w h;exact⟨h.1,B h.2⟩
theorem E0{P:Program}{n:Nat}{pl:dM}{rl:Nat}{f:FuncId}{u:Func}{c:Code}{rs:List ResultVar}{args:List Value}{w:World}{K:Value->hM}
  (O:P.follows .mixedOrders=true) (Y:P.funcs[f]?=some u) (hb:u.body=some c) (hn:u.ntmps=n) (Z:u.results=rs.toArray) (V:args.length<=n)
  (h:D P n pl rl c [] rl (PK P rs K) [] (DY args) w):Calls P f args.toArray w (tQ K):=by
 refine zZ.1 (callsIn_of_wp_marks (F:=FO none) (n:=0) Y hb trivial ?_)
 have ha:jI [] n (DY args) {tmps:=args.toArray++Array.replicate (u.ntmps-args.toArray.size) undef,defers:=[]}:=by
  refine⟨rfl,dI,λi=>?_⟩
  rw[XC,Fq,Array.getElem?_append]
  grind
 refine wpIn_mono (adB O c none rl [] rl _ [] _ _ w (.inl rfl) ha h) λx G w' M=>?_
 obtain⟨I,U,J,_,_,E⟩:=M
 have B:ng I w' (λw=>PJ P rs U (λvs=>K (XB vs) w) w)->LeavesInM (FO none) 0 P u G.tmps (tQ K) G.defers .returning w':=λE=>by
  rw[J.defers]
  refine JF I w' (E.mono λW h1=>?_)
  obtain⟨vs,h1,h2⟩:=XD J rs _ W h1
  exact⟨_,LS Z h1,_,rfl,h2⟩
 cases x with
 | normal=>exact B E
 | ret=>exact B E
 | _=>exact E.elim
def okD{P:Program}{n:Nat}{pl:dM}{rl:Nat}{f:FuncId}{u:Func}{c:Code}{rs:List ResultVar}{args:List Value}{w:World}{K:Value->hM}{S:Prop}
  (G:P.funcs[f]?=some u) (hb:u.body=some c) (J:u.ntmps=n) (I:u.results=rs.toArray) (E:P.follows .mixedOrders=true) (B:args.length<=n)
  (e:D P n pl rl c [] rl (PK P rs K) [] (DY args) w=S) (h:S):Calls P f args.toArray w (tQ K):=E0 E G hb J I B (e.mpr h)
def okE{P:Program}(n:Nat)(pl:dM)(rl:Nat)(rs:List ResultVar){f:FuncId}{u:Func}{args:List Value}{w:World}{K:Value->hM}{S:Prop}
  (G:P.funcs[f]?=some u) (hb:u.body=some (u.body.getD .skip)) (J:u.ntmps=n) (I:u.results=rs.toArray) (E:P.follows .mixedOrders=true) (B:args.length<=n)
  (e:D P n pl rl (u.body.getD .skip) [] rl (PK P rs K) [] (DY args) w=S) (h:S):Calls P f args.toArray w (tQ K):=okD G hb J I E B e h
theorem okZ{P:Program}(n:Nat)(pl:dM)(rl:Nat)(rs:List ResultVar){f:FuncId}{u:Func}{args:List Value}{w:World}{K:Value->hM}{S:Prop}
  (E:P.funcs[f]?=some u) (B:P.follows .mixedOrders=true) (hc:(u.body.isSome,u.ntmps,u.results,T5 args.length n)=(true,n,rs.toArray,true))
  (e:D P n pl rl (u.body.getD .skip) [] rl (PK P rs K) [] (DY args) w=S) (h:S):Calls P f args.toArray w (tQ K):=by
 have h1:u.body.isSome=true:=g6 (λx=>x.1) hc
 have h2:u.ntmps=n:=g6 (λx=>x.2.1) hc
 have h3:u.results=rs.toArray:=g6 (λx=>x.2.2.1) hc
 have h4:T5 args.length n=true:=g6 (λx=>x.2.2.2) hc
 have h5:u.body=some (u.body.getD .skip):=by
  cases hb:u.body with
  | none=>rw[hb]at h1;cases h1
  | some c=>rfl
 exact okD E h5 h2 h3 B (E1 h4) e h
def dR{P : Program}{f : FuncId}{u : Func}(B : P.funcs[f]?=some u)(h : (u.name == "runtime.NumGoroutine", u.body.isNone)=(false, false) := by kernel_rfl) : Plain P f := ⟨u, B, g6 (λx => x.1) h, g6 (λx => x.2) h⟩
def vb{a b:Bool}(h:a=b):xH a=xH b:=g6 _ h
def Ph{p:Prop}[Decidable p](h:p):xH true=xH (decide p):=vb (ez h).symm
def XE{p:Prop}[Decidable p](h:¬ p):xH false=xH (decide p):=vb (fV h).symm
def zi{p q:Prop}[Decidable p][Decidable q](h:p↔q):xH (decide p)=xH (decide q):=vb (ga.2 h)
end Go.Fw
namespace Go.Proofs.YtpdlpabnlkofmaaGreatDoor
open Go.Fw
variable (w:World) (K:Value->hM)
abbrev i(n:Int):Value:=.int .i64 n
abbrev tt:Value:=.bool true
abbrev ff:Value:=.bool false
abbrev fA(T:Nat)(v:Value)(f:Nat)(K:Value->Prop):Prop:=eX hH (Gl T v f) K
abbrev iA(T:Nat)(v j:Value)(K:Value->Prop):Prop:=eX hH (Gt T v j) K
abbrev lA(T:Nat)(p:Value)(w:World)(K:Value->Prop):Prop:=Lu hH (x6 T p) w K
abbrev sA(T:Nat)(p v:Value)(w:World)(K:hM):Prop:=WY hH (K9 T p v) w K
abbrev bA(o:BinOp)(T:Nat)(x y:Value)(K:Value->Prop):Prop:=eX hH (ke o T false false x y) K
abbrev bB(o:BinOp)(T:Nat)(x y:Value)(K:Value->Prop):Prop:=eX hH (ke o T false true x y) K
abbrev bC(o:BinOp)(T:Nat)(x y:Value)(K:Value->Prop):Prop:=eX hH (ke o T true false x y) K
abbrev cF(f:Nat)(args:List Value)(w:World)(K:Value->hM):Prop:=Dm hH f args w K
abbrev nC(v:Value)(K:Value->Prop):Prop:=eX hH (UN v) K
abbrev lN(T:Nat)(v:Value)(K:Value->Prop):Prop:=eX hH (Builtin.len_ #[T] 3 [v].toArray) K
abbrev aL(T:Nat)(w:World)(K:Value->hM):Prop:=ry hH (QP T true (.tuple #[])) w K
abbrev xT(v:Value)(k:Nat)(K:Value->Prop):Prop:=eX hH (Ua v k) K
abbrev kA(T:Nat)(p v:Value)(w:World)(R:Prop):Prop:=Sk hH (x6 T p) v w R
abbrev aP(T:Nat)(a b:Value)(w:World)(K:Value->hM):Prop:=ry hH (Builtin.append_ #[T,T] T [a,b].toArray) w K
abbrev bS(T n:Nat)(l:List (Nat×Value))(w:World)(K:Value->hM):Prop:=ry hH (LU T n l.toArray) w K
abbrev cV(v:Value)(a b:Prop):Prop:=zA v a b
noncomputable abbrev PG:Program:=hH
abbrev CR(n:Nat)(a:List Value)(w:World)(K:Value->hM):Prop:=Calls hH n a.toArray w (tQ K)
abbrev PL(n:Nat):Prop:=Plain hH n
theorem mixed:Tryz.prog.follows .mixedOrders=true:=by kernel_rfl
theorem qj(n:Nat)(pl:dM)(rl:Nat)(rs:List ResultVar){f:FuncId}{u:Func}{args:List Value}{w:World}{K:Value->hM}{S:Prop}
  (B:PG.funcs[f]?=some u) (h:S) (hc:(u.body.isSome,u.ntmps,u.results,T5 args.length n)=(true,n,rs.toArray,true):=by kernel_rfl)
  (e:D PG n pl rl (u.body.getD .skip) [] rl (PK PG rs K) [] (DY args) w=S:=by kernel_rfl):CR f args w K:=okZ n pl rl rs B mixed hc e h
def UY:List ResultVar->Nat
 | []=>0
 | .tmp t::r=>Xu (UY r) t
 | .cell a _::r=>Xu (UY r) a
theorem pj{f:FuncId}{u:Func}(B:Tryz.prog.funcs[f]?=some u){args:List Value}{w:World}{K:Value->hM}{pl:dM}
  (h:D hH u.ntmps pl (UY u.results.toList) (u.body.getD .skip) [] (UY u.results.toList) (PK hH u.results.toList K) [] (DY args) w)
  (hc:(u.body.isSome,T5 args.length u.ntmps)=(true,true):=by kernel_rfl):Calls hH f args.toArray w (tQ K):=by
 have h1:u.body.isSome=true:=g6 (λx=>x.1) hc
 have h5:u.body=some (u.body.getD .skip):=by
  cases hb:u.body with
  | none=>rw[hb]at h1;cases h1
  | some c=>rfl
 exact E0 mixed B h5 rfl ei (E1 (g6 (λx=>x.2) hc)) h
theorem fj{f:FuncId}{u:Func}(B:Tryz.prog.funcs[f]?=some u){args:List Value}{w:World}{K:Value->hM}
  (h:D hH u.ntmps (λ_=>.nil) (UY u.results.toList) (u.body.getD .skip) [] (UY u.results.toList) (PK hH u.results.toList K) [] (DY args) w)
  (hc:(u.body.isSome,T5 args.length u.ntmps)=(true,true):=by kernel_rfl):Calls hH f args.toArray w (tQ K):=pj B h hc
def P11:dM:=λi=>match i with
 | 1=>(.op 0 [] (.op 1 [] (.op 3 [] (.op 4 [] (.op 6 [] (.op 7 [] (.op 9 [] (.op 10 [] (.alt 2 [4,7,10] (.alt 5 [7,10] (.alt 8 [10] (.alt 11 [] (.of [(12,[]),(13,[1,4,7,10]),(14,[])]) (.alt 13 [1,4,7,10] (.of [(11,[]),(12,[]),(14,[])]) .stop)) (.alt 13 [1,4,7,10] (.of [(8,[10]),(11,[]),(12,[]),(14,[])]) .stop)) (.alt 13 [1,4,7,10] (.of [(5,[7,10]),(8,[10]),(11,[]),(12,[]),(14,[])]) .stop)) (.alt 13 [1,4,7,10] (.of [(2,[4,7,10]),(5,[7,10]),(8,[10]),(11,[]),(12,[]),(14,[])]) .stop))))))))))
 | 5=>(.of [(0,[]),(1,[]),(2,[]),(3,[]),(4,[]),(5,[]),(6,[]),(7,[1]),(8,[1]),(9,[]),(10,[]),(11,[])])
 | 9=>(.of [(0,[]),(1,[]),(2,[]),(3,[]),(4,[]),(5,[]),(6,[]),(7,[]),(9,[]),(10,[]),(11,[]),(12,[]),(13,[]),(14,[]),(8,[1,10,14]),(15,[]),(16,[1]),(17,[]),(18,[]),(19,[])])
 | _=>.nil
def P19:dM:=λi=>match i with
 | 6=>.run 0 51
 | _=>.nil
def P46:dM:=λi=>match i with
 | 5=>(.op 0 [] (.op 1 [] (.op 2 [] (.op 3 [] (.op 4 [] (.op 5 [] (.op 6 [] (.op 7 [] (.op 8 [] (.op 9 [] (.op 10 [] (.op 11 [] (.op 12 [] (.op 13 [] (.op 14 [] (.op 15 [] (.op 16 [] (.op 17 [] (.op 18 [] (.op 19 [] (.op 20 [] (.op 21 [] (.op 22 [] (.alt 23 [4,9,17] (.of [(24,[]),(25,[4,9,17,22]),(26,[])]) (.alt 25 [4,9,17,22] (.of [(23,[4,9,17]),(24,[]),(26,[])]) .stop)))))))))))))))))))))))))
 | 9=>(.of [(0,[]),(1,[]),(2,[]),(3,[]),(4,[]),(5,[]),(6,[]),(7,[]),(8,[]),(9,[]),(10,[]),(11,[]),(12,[]),(13,[]),(14,[]),(15,[]),(16,[]),(17,[]),(18,[]),(19,[]),(20,[]),(21,[1]),(22,[]),(23,[]),(24,[])])
 | _=>.nil
def S57(p0:Value):Prop:=
 ry hH (Ae 27 p0) w λp1 a=>lA 27 p1 a λb=>cF 118 [b] a λc d=>eX hH (Op.unary .not c) λe=>cV e (K (.tuple #[(i 8),(i 0)]) d) (lA 27 p1 d λf=>
 cF 119 [f] d λg h=>cV g (K (.tuple #[(i 2),(i 0)]) h) (lA 27 p1 h λj=>cF 120 [j] h λk l=>kP (λW i5 n=>∀_:Env,
 lN 24 k λo=>bA .lss 3 i5 o λp=>cV p (iA 24 k i5 λq=>fA 146 q 2 λr=>lA 141 r n λs=>cF 121 [s,(i 1)] n λt u=>bB .geq 3 t (i 0) λv=>cV v (K (.tuple #[(i 11),t]) u) (
 bB .add 3 i5 (i 1) λx=>W x u)) (lA 27 p1 n λy=>cF 122 [y] n λz aa=>bB .geq 3 z (i 0) λab=>cV ab (K (.tuple #[(i 10),z]) aa) (kP (λK2 J ac=>∀_:Env,
 lN 24 k λad=>bA .lss 3 J ad λae=>cV ae (kP (λK3 U M=>∀_:Env,
 iA 24 k J λag=>fA 146 ag 1 λah=>lA 91 ah M λai=>lN 91 ai λaj=>bA .lss 3 U aj λak=>cV ak (iA 24 k J λal=>fA 146 al 1 λam=>lA 91 am M λan=>iA 91 an U λao=>
 lA 9 ao M λap=>eQ (λK4=>iA 24 k J λaq=>fA 146 aq 1 λar=>lA 91 ar M λasx=>cF 123 [asx,ap] M λau av=>bA .lss 3 au U λaw=>cV aw (K4 tt av) (lA 27 p1 av λax=>
 cF 124 [ax] av λay az=>cF 123 [ay,ap] az λa0 a1=>bB .geq 3 a0 (i 0) λa2=>cV a2 (K4 tt a1) (lA 27 p1 a1 λa3=>cF 125 [a3] a1 λa4 a5=>cF 123 [a4,ap] a5 λa6 a7=>
 bB .geq 3 a6 (i 0) λa8=>K4 a8 a7))) (λa9 Z=>∀_:Env,
 cV a9 (iA 24 k J λbb=>fA 146 bb 3 λbc=>lA 3 bc (drew Z) λbd=>K (.tuple #[(i 10),bd]) (drew Z)) (bB .add 3 U (i 1) λbe=>K3 be Z))) (bB .add 3 J (i 1) λbf=>
 K2 bf M)) λK3=>K3 (i 0) ac) (kP (λY B V=>∀_:Env,
 lN 24 k λbh=>bA .lss 3 B bh λbi=>cV bi (kP (λK6 G E=>∀_:Env,
 iA 24 k B λbk=>fA 146 bk 2 λbl=>lA 141 bl E λbm=>lN 141 bm λbn=>bA .lss 3 G bn λbo=>cV bo (lA 27 p1 (drew E) λbp=>iA 24 k B λbq=>lA 146 bq (drew E) λbr=>
 iA 24 k B λbs=>fA 146 bs 2 λbt=>lA 141 bt (drew E) λbu=>iA 141 bu G λbv=>lA 193 bv (drew E) λbw=>cF 126 [bp,br,bw] (drew E) λbx bz=>bB .geq 3 bx (i 0) λb0=>
 cV b0 (K (.tuple #[(i 9),bx]) bz) (bB .add 3 G (i 1) λb1=>K6 b1 bz)) (bB .add 3 B (i 1) λb2=>Y b2 E)) λK6=>K6 (i 0) V) (lA 27 p1 (drew V) λb3=>lA 27 p1 (drew V) λb4=>
 cF 124 [b3] (drew V) λb5 b6=>kA 27 p1 b4 b6 (cF 62 [b4] b6 λb7 b8=>eX hH (n0 91 b5 none (some b7) none) λb9=>kP (λK7 I O=>∀_:Env,
 fA 27 p1 5 λcb=>lA 25 cb O λcc=>lN 25 cc λcd=>bA .lss 3 I cd λce=>cV ce (fA 27 p1 5 λcf=>lA 25 cf O λcg=>iA 25 cg I λch=>fA 85 ch 0 λci=>lA 82 ci O λcj=>
 cF 127 [cj,b9] O λck cl=>bB .geq 3 ck (i 0) λcm=>cV cm (K (.tuple #[(i 9),ck]) cl) (bB .add 3 I (i 1) λcn=>K7 cn cl)) (K (.tuple #[(i 0),(i 0)]) O)) λK7=>K7 (i 0) b8)))
 λY=>Y (i 0) ac)) λK2=>K2 (i 0) aa))) λW=>W (i 0) l))
def P57:dM:=λi=>match i with
 | 23=>.run 0 7
 | 30=>.run 0 15
 | 33=>(.of [(0,[]),(2,[]),(1,[2]),(3,[]),(4,[]),(5,[])])
 | _=>.nil
theorem ajh(p0:Value)(h:S57 w K p0):CR 57 [p0] w K:=
 qj 150 P57 12 [.tmp 2,.tmp 3] Tryz.func57 h
def S61(B I M:Value):Prop:=
 eQ (λJ=>lN 41 B λa=>lN 41 M λb=>bA .neq 3 a b λc=>cV c (J tt w) (lN 41 B λd=>bB .gtr 3 d (i 20) λe=>cV e (J tt w) (bB .lss 3 I (i 0) λf=>
 cV f (J tt w) (lN 41 B λg=>bA .gtr 3 I g λh=>J h w)))) (λj k=>∀_:Env,
 cV j (K (.tuple #[(.pointer none),(i 1)]) k) (kP (λK2 E l=>∀_:Env,
 bA .lss 3 E I λn=>cV n (eQ (λG=>bB .eql 3 E (i 0) λo=>cV o (iA 41 B (i 0) λp=>lA 3 p (drew l) λq=>bB .neq 3 q (i 0) λr=>cV r (G tt (drew l)) (
 bB .gtr 3 E (i 0) λs=>cV s (iA 41 B E λt=>lA 3 t (drew l) λu=>bB .sub 3 E (i 1) λv=>iA 41 B v λx=>lA 3 x (drew l) λy=>bA .neq 3 u y λz=>cV z (iA 41 B E λaa=>
 lA 3 aa (drew l) λW=>bB .sub 3 E (i 1) λac=>iA 41 B ac λad=>lA 3 ad (drew l) λae=>bB .add 3 ae (i 1) λaf=>bA .neq 3 W af λag=>G ag (drew l)) (G ff (drew l))) (
 G ff (drew l)))) (bB .gtr 3 E (i 0) λah=>cV ah (iA 41 B E λai=>lA 3 ai (drew l) λaj=>bB .sub 3 E (i 1) λak=>iA 41 B ak λal=>lA 3 al (drew l) λam=>bA .neq 3 aj am λan=>
 cV an (iA 41 B E λY=>lA 3 Y (drew l) λap=>bB .sub 3 E (i 1) λaq=>iA 41 B aq λar=>lA 3 ar (drew l) λasx=>bB .add 3 asx (i 1) λau=>bA .neq 3 ap au λav=>
 G av (drew l)) (G ff (drew l))) (G ff (drew l)))) (λaw U=>∀_:Env,
 cV aw (K (.tuple #[(.pointer none),(i 1)]) U) (bB .add 3 E (i 1) λay=>K2 ay U))) (bS 41 0 [] l λaz a0=>eX hH (n0 41 B none (some I) none) λa1=>
 aP 41 az a1 a0 λa2 a3=>bS 41 0 [] a3 λa4 a5=>aP 41 a4 M a5 λa6 a7=>eX hH (mv 122 [(0,a2),(1,a6)].toArray) λa8=>ry hH (Ae 122 a8) a7 λO ba=>
 bS 41 0 [] ba λbb bc=>aP 41 bb M bc λbd be=>nC O λbf=>fA 122 bf 2 λbg=>sA 41 bg bd be λbh=>bS 41 0 [] bh λbi V=>eX hH (n0 41 M none (some I) none) λbk=>
 aP 41 bi bk V λbl bm=>nC O λbn=>fA 122 bn 3 λZ=>sA 41 Z bl bm λbp=>K (.tuple #[O,(i 0)]) bp)) λK2=>K2 (i 0) k))
def P61:dM:=λi=>match i with
 | 6=>.run 0 37
 | _=>.nil
theorem aji(E B u:Value)(h:S61 w K E B u):CR 61 [E,B,u] w K:=
 qj 97 P61 192 [.tmp 6,.tmp 7] Tryz.func61 h
def P62:dM:=λi=>match i with
 | 1=>(.of [(0,[]),(3,[]),(4,[]),(5,[]),(1,[4]),(2,[]),(6,[]),(7,[])])
 | _=>.nil
def P65:dM:=λi=>match i with
 | 6=>(.of [(0,[]),(1,[]),(2,[]),(3,[1]),(4,[1]),(5,[]),(6,[]),(7,[])])
 | 8=>(.of [(0,[]),(1,[]),(2,[]),(3,[1]),(4,[]),(5,[]),(6,[])])
 | 10=>(.of [(0,[]),(1,[]),(2,[]),(3,[1]),(4,[]),(5,[]),(6,[])])
 | 13=>(.of [(0,[]),(1,[]),(2,[]),(3,[]),(4,[]),(5,[]),(6,[]),(7,[]),(8,[1]),(9,[1]),(10,[]),(11,[]),(12,[])])
 | 15=>(.of [(0,[]),(1,[]),(2,[]),(3,[]),(4,[]),(5,[]),(6,[]),(7,[]),(8,[]),(9,[]),(10,[]),(11,[]),(12,[]),(13,[1]),(14,[1]),(15,[]),(16,[]),(17,[])])
 | 17=>(.of [(0,[]),(1,[]),(2,[]),(3,[]),(4,[]),(5,[]),(6,[]),(7,[]),(8,[]),(9,[]),(10,[]),(11,[]),(12,[1]),(13,[1]),(14,[]),(15,[]),(16,[])])
 | 21=>(.of [(0,[]),(1,[]),(2,[]),(3,[]),(4,[]),(5,[]),(6,[]),(7,[]),(8,[]),(9,[4,8]),(10,[]),(11,[])])
 | _=>.nil
def P71:dM:=λi=>match i with
 | 6=>.run 0 9
 | _=>.nil
def P77:dM:=λi=>match i with
 | 3=>.run 0 14
 | _=>.nil
def S78(W:Value):Prop:=
 cF 17 [W] w λa b=>bS 41 0 [] b λc d=>cF 147 [a,c] d λe f=>bS 126 0 [] f λg h=>bS 126 0 [] h λj k=>Xt (λJ U I G l=>∀_:Env,
 lN 126 e λn=>bA .lss 3 G n λo=>cV o (EX (λK2=>iA 126 e G λp=>lA 41 p l λq=>cF 92 [W,q] l λr s=>xT r 0 λt=>xT r 1 λ_=>nP (λO E B u=>∀_:Env,
 lN 126 I λv=>bA .lss 3 B v λx=>cV x (eQ (λY=>cV E (Y tt u) (iA 126 I B λy=>lA 41 y u λz=>cF 71 [z,t] u λaa ab=>Y aa ab)) (λM ac=>∀_:Env,
 bB .add 3 B (i 1) λad=>O M ad ac)) (eX hH (Op.unary .not E) λae=>cV ae (bS 126 1 [(0,t)] u λaf ag=>aP 126 I af ag λah V=>iA 126 e G λaj=>
 lA 41 aj V λak=>bS 126 1 [(0,ak)] V λal am=>aP 126 U al am λan ao=>K2 an ah ao) (K2 U I u))) λO=>O ff (i 0) s) (λZ XF ap=>∀_:Env,
 bB .add 3 G (i 1) λaq=>J Z XF aq ap)) (K U l)) (λJ=>J g j (i 0) k)
theorem ajk(u:Value)(h:S78 w K u):CR 78 [u] w K:=
 qj 61 (λ_=>.nil) 4 [.tmp 2] Tryz.func78 h
theorem awF:PL 11:=dR Tryz.func11
theorem awG:PL 16:=dR Tryz.func16
theorem ajl:PL 17:=dR Tryz.func17
theorem UZ:PL 19:=dR Tryz.func19
theorem U1:PL 45:=dR Tryz.func45
theorem JH:PL 46:=dR Tryz.func46
theorem ajm:PL 47:=dR Tryz.func47
theorem aoz:PL 49:=dR Tryz.func49
theorem awH:PL 57:=dR Tryz.func57
theorem aoA:PL 58:=dR Tryz.func58
theorem U3:PL 59:=dR Tryz.func59
theorem awI:PL 61:=dR Tryz.func61
theorem JI:PL 62:=dR Tryz.func62
theorem awJ:PL 65:=dR Tryz.func65
theorem ajn:PL 71:=dR Tryz.func71
theorem aoB:PL 77:=dR Tryz.func77
theorem awK:PL 78:=dR Tryz.func78
variable (w:World) (K:Value->hM)
def P84:dM:=λi=>match i with
 | 1=>(.of [(0,[]),(1,[]),(2,[]),(3,[]),(4,[]),(5,[3]),(6,[]),(7,[]),(8,[])])
 | _=>.nil
def P86:dM:=λi=>match i with
 | 5=>.run 0 9
 | _=>.nil
def S92(M DZ:Value):Prop:=
 cF 17 [M] w λa b=>lN 41 DZ λc=>lN 41 a λd=>bA .neq 3 c d λe=>cV e (K (.tuple #[(.slice none 0 0),(i 1)]) b) (kP (λO J f=>∀_:Env,
 lN 41 a λg=>bA .lss 3 J g λh=>cV h (eQ (λK2=>iA 41 DZ J λj=>lA 3 j (drew f) λk=>bB .lss 3 k (i 0) λl=>cV l (K2 tt (drew f)) (iA 41 DZ J λn=>lA 3 n (drew f) λo=>
 iA 41 a J λp=>lA 3 p (drew f) λq=>bA .gtr 3 o q λr=>K2 r (drew f))) (λs t=>∀_:Env,
 cV s (K (.tuple #[(.slice none 0 0),(i 1)]) t) (bB .add 3 J (i 1) λu=>O u t))) (EX (λY=>nC M λv=>fA 122 v 3 λx=>lA 41 x (drew f) λy=>((bS 41 0 [] (drew f) λz U=>
 kA 41 x y U ((aP 41 z DZ U λab ac=>kA 41 x y ac (bS 41 0 [] ac λad ae=>kA 41 x y ae (aP 41 ad y ae λaf ag=>Y ab af ag)))
 /\((bS 41 0 [] U λah ai=>kA 41 x y ai (aP 41 z DZ ai λaj ak=>kA 41 x y ak (aP 41 ah y ak λal am=>Y aj al am)))
 /\
 True)))
 /\((bS 41 0 [] (drew f) λan B=>kA 41 x y B (bS 41 0 [] B λap aq=>kA 41 x y aq (aP 41 ap DZ aq λar asx=>kA 41 x y asx (aP 41 an y asx λau av=>Y ar au av))))
 /\
 True))) (λV JJ aw=>∀_:Env,
 kP (λW E I=>∀_:Env,
 nC M λay=>fA 122 ay 4 λaz=>lA 120 az I λa0=>lN 120 a0 λa1=>bA .lss 3 E a1 λa2=>cV a2 (xl (λK5=>nC M λa3=>fA 122 a3 4 λa4=>lA 120 a4 I λa5=>
 iA 120 a5 E λa6=>lA 125 a6 I λa7=>aL 125 I λB a8=>sA 125 B a7 a8 λG=>fA 125 B 0 λba=>lA 3 ba G λbb=>iA 41 V bb λbc=>lA 3 bc G λbd=>bB .gtr 3 bd (i 0) λbe=>
 cV be (fA 125 B 0 λbf=>lA 3 bf (drew G) λbg=>fA 125 B 0 λbh=>lA 3 bh (drew G) λbi=>iA 41 V bi λbj=>lA 3 bj (drew G) λbk=>bB .sub 3 bk (i 1) λbl=>
 iA 41 V bg λbm=>sA 3 bm bl (drew G) λZ=>fA 125 B 1 λbo=>lA 3 bo Z λbp=>fA 125 B 2 λbq=>lA 3 bq Z λbr=>iA 41 JJ bp λbs=>sA 3 bs br Z λbt=>
 K5 bt) (K5 G)) (λbu=>∀_:Env,
 bB .add 3 E (i 1) λbv=>W bv bu)) (K (.tuple #[JJ,(i 0)]) I)) λW=>W (i 0) aw))) λO=>O (i 0) b)
def P92:dM:=λi=>match i with
 | 7=>.run 0 16
 | 9=>(.op 1 [] (.op 4 [] (.op 5 [] (.op 6 [] (.op 7 [] (.alt 0 [7] (.alt 2 [7] (.of [(3,[7]),(8,[]),(9,[]),(10,[])]) (.alt 3 [7] (.of [(2,[7]),(8,[]),(9,[]),(10,[])]) .stop)) (.alt 3 [7] (.of [(0,[7]),(2,[7]),(8,[]),(9,[]),(10,[])]) .stop)))))))
 | 15=>.run 0 11
 | _=>.nil
theorem ajo(u DZ:Value)(h:S92 w K u DZ):CR 92 [u,DZ] w K:=
 qj 89 P92 48 [.tmp 4,.tmp 5] Tryz.func92 h
def P93:dM:=λi=>match i with
 | 5=>.run 0 13
 | _=>.nil
def S94(E:Value):Prop:=
 nP (λu G B a=>∀_:Env,
 lN 41 E λb=>bA .lss 3 B b λc=>cV c (bC .mul 3 (i 10000) G λd=>iA 41 E B λe=>lA 3 e a λf=>bA .add 3 d f λg=>bB .add 3 B (i 1) λh=>u g h a) (K G a))
 (λu=>u (i 0) (i 0) w)
theorem ajp(u:Value)(h:S94 w K u):CR 94 [u] w K:=
 qj 19 (λ_=>.nil) 4 [.tmp 2] Tryz.func94 h
def S122(p0:Value):Prop:=
 ry hH (Ae 27 p0) w λp1 a=>bS 23 0 [] a λb c=>lA 27 p1 c λd=>cF 59 [d] c λe f=>aP 23 b e f λg h=>fA 27 p1 2 λj=>lA 23 j h λk=>aP 23 g k h λl n=>
 nP (λI B G o=>∀_:Env,
 fA 27 p1 3 λp=>lA 24 p o λq=>lN 24 q λr=>bA .lss 3 G r λs=>cV s (fA 27 p1 3 λt=>lA 24 t (drew o) λu=>iA 24 u G λv=>fA 146 v 0 λx=>lA 9 x (drew o) λy=>
 fA 27 p1 3 λz=>lA 24 z (drew o) λaa=>iA 24 aa G λV=>fA 146 V 3 λac=>lA 3 ac (drew o) λad=>eX hH (mv 161 [(0,y),(2,ad)].toArray) λae=>
 bS 23 1 [(0,ae)] (drew o) λaf Y=>aP 23 B af Y λah O=>bB .add 3 G (i 1) λaj=>I ah aj O) (cF 202 [B] o λak al=>kP (λK2 E J=>∀_:Env,
 lN 23 B λU=>bA .lss 3 E U λW=>cV W (iA 23 B E λap=>fA 161 ap 0 λaq=>lA 9 aq J λar=>cF 123 [ak,ar] J λasx M=>bA .lss 3 asx E λav=>cV av (iA 23 B E λZ=>
 fA 161 Z 2 λax=>lA 3 ax M λay=>K ay M) (bB .add 3 E (i 1) λaz=>K2 az M)) (K (i (-1)) J)) λK2=>K2 (i 0) al)) (λI=>I l (i 0) n)
def awL:dM:=λi=>match i with
 | 6=>.run 0 17
 | _=>.nil
theorem adC(p0:Value)(h:S122 w K p0):CR 122 [p0] w K:=
 qj 60 awL 4 [.tmp 2] Tryz.func122 h
def awM:dM:=λi=>match i with
 | 3=>(.of [(0,[]),(2,[]),(3,[]),(1,[3]),(4,[]),(5,[])])
 | 16=>(.of [(0,[]),(2,[]),(3,[]),(1,[3]),(4,[]),(5,[])])
 | _=>.nil
def S130(B:Value):Prop:=
 lN 9 B λa=>bB .gtr 3 a (i 4000) λb=>cV b (K (.tuple #[(.slice none 0 0),(i 2),(i 4000)]) w) (bS 198 0 [] w λc d=>cF 205 [B,(i 0)] d λe f=>nP (λU zj E g=>∀_:Env,
 lN 9 B λh=>bA .lss 3 E h λj=>cV j (eX hH (mv 209 [(3,E)].toArray) λk=>aL 209 g λI l=>sA 209 I k l λn=>eQ (λK2=>eX hH (wg 9 B E) λo=>
 cF 206 [o] n λp q=>cV p (fA 209 I 0 λr=>sA 3 r (i 1) q λs=>kP (λZ G t=>∀_:Env,
 eQ (λY=>lN 9 B λu=>bA .lss 3 G u λv=>cV v (eX hH (wg 9 B G) λx=>cF 206 [x] t λy z=>cV y (Y tt z) (eX hH (wg 9 B G) λaa=>
 cF 207 [aa] z λab ac=>Y ab ac)) (Y ff t)) (λad V=>∀_:Env,
 cV ad (bB .add 3 G (i 1) λaf=>Z af V) (bA .sub 3 G E λag=>bB .gtr 3 ag (i 16) λah=>cV ah (K (.tuple #[(.slice none 0 0),(i 2),E]) V) (K2 G V)))) λZ=>Z E s) (
 eX hH (wg 9 B E) λai=>cF 207 [ai] q λaj ak=>cV aj (fA 209 I 0 λal=>sA 3 al (i 2) ak λam=>kP (λW M an=>∀_:Env,
 eQ (λK6=>lN 9 B λao=>bA .lss 3 M ao λap=>cV ap (eX hH (wg 9 B M) λaq=>cF 207 [aq] an λar asx=>K6 ar asx) (K6 ff an)) (λau J=>∀_:Env,
 cV au (xl (λK7=>fA 209 I 2 λaw=>lA 3 aw J λax=>bB .leq 3 ax (i 4294967296) λay=>cV ay (fA 209 I 2 λaz=>lA 3 az (drew J) λa0=>bC .mul 3 (i 10) a0 λa1=>
 eX hH (wg 9 B M) λa2=>bB .sub 5 a2 (.int .u8 48) λa3=>eX hH (convert 5 3 a3) λa4=>bA .add 3 a1 a4 λa5=>fA 209 I 2 λa6=>sA 3 a6 a5 (drew J) λa7=>
 K7 a7) (K7 J)) (λa8=>∀_:Env,
 bB .add 3 M (i 1) λa9=>W a9 a8)) (fA 209 I 2 λba=>lA 3 ba J λbb=>bB .gtr 3 bb (i 4294967296) λbc=>cV bc (K (.tuple #[(.slice none 0 0),(i 4),E]) J) (K2 M J))))
 λW=>W E am) (fA 209 I 0 λbd=>sA 3 bd (i 3) ak λbe=>cF 208 [B,E] be λbf bg=>bA .add 3 E bf λbh=>bA .eql 3 bh E λbi=>cV bi (K (.tuple #[(.slice none 0 0),(i 3),E]) bg) (
 K2 bh bg)))) (λO bj=>∀_:Env,
 eX hH (n0 9 B (some E) (some O) none) λbk=>fA 209 I 1 λbl=>sA 9 bl bk bj λbm=>lA 209 I bm λbn=>bS 198 1 [(0,bn)] bm λbo bp=>aP 198 zj bo bp λbq br=>
 cF 205 [B,O] br λbs bt=>U bq bs bt)) (K (.tuple #[zj,(i 0),(i 0)]) g)) λU=>U c e f)
def awN:dM:=λi=>match i with
 | 17=>.run 0 11
 | _=>.nil
theorem adD(u:Value)(h:S130 w K u):CR 130 [u] w K:=
 qj 107 awN 28 [.tmp 2,.tmp 3,.tmp 4] Tryz.func130 h
def awO:dM:=λi=>match i with
 | 1=>.run 0 17
 | _=>.nil
theorem awP:PL 81:=dR Tryz.func81
theorem PN:PL 83:=dR Tryz.func83
theorem awQ:PL 86:=dR Tryz.func86
theorem ajq:PL 92:=dR Tryz.func92
theorem awR:PL 93:=dR Tryz.func93
theorem awS:PL 94:=dR Tryz.func94
theorem ag7:PL 106:=dR Tryz.func106
theorem aoC:PL 118:=dR Tryz.func118
theorem aoD:PL 119:=dR Tryz.func119
theorem ag8:PL 120:=dR Tryz.func120
theorem XG:PL 121:=dR Tryz.func121
theorem aoE:PL 122:=dR Tryz.func122
theorem sD:PL 123:=dR Tryz.func123
theorem LW:PL 124:=dR Tryz.func124
theorem Sw:PL 125:=dR Tryz.func125
theorem aoF:PL 126:=dR Tryz.func126
theorem XH:PL 127:=dR Tryz.func127
theorem aoG:PL 130:=dR Tryz.func130
theorem zB:PL 131:=dR Tryz.func131
variable (w:World) (K:Value->hM)
def awT:dM:=λi=>match i with
 | 7=>.run 0 24
 | 8=>.run 0 13
 | _=>.nil
def awU:dM:=λi=>match i with
 | 1=>.run 0 45
 | 3=>.run 0 26
 | _=>.nil
def awV:dM:=λi=>match i with
 | 8=>(.of [(0,[]),(1,[]),(2,[]),(3,[]),(4,[]),(5,[]),(6,[]),(7,[1]),(8,[]),(9,[]),(10,[])])
 | 10=>.run 0 19
 | _=>.nil
def awW:dM:=λi=>match i with
 | 1=>.run 0 18
 | _=>.nil
def awX:dM:=λi=>match i with
 | 2=>.run 0 10
 | 4=>.run 0 13
 | _=>.nil
def awY:dM:=λi=>match i with
 | 3=>.run 0 14
 | _=>.nil
def P149:dM:=λi=>match i with
 | 5=>.run 0 12
 | _=>.nil
def awZ:dM:=λi=>match i with
 | 6=>.run 0 16
 | _=>.nil
def aw0:dM:=λi=>match i with
 | 6=>(.of [(0,[]),(1,[]),(2,[]),(3,[]),(4,[]),(5,[]),(6,[]),(7,[]),(8,[]),(9,[]),(10,[]),(11,[]),(12,[]),(13,[]),(14,[3,8,10]),(15,[3]),(16,[])])
 | _=>.nil
def aw1:dM:=λi=>match i with
 | 6=>.run 0 10
 | _=>.nil
def aw2:dM:=λi=>match i with
 | 5=>(.of [(0,[]),(1,[]),(2,[]),(3,[]),(4,[]),(5,[]),(6,[4]),(7,[]),(8,[]),(9,[]),(10,[])])
 | _=>.nil
def S165(B E:Value):Prop:=
 aL 231 w λa b=>eQ (λI=>bB .lss 3 E (i 0) λc=>cV c (I tt b) (nC B λd=>fA 196 d 1 λe=>lA 179 e b λf=>lN 179 f λg=>bA .geq 3 E g λh=>I h b)) (λj k=>∀_:Env,
 cV j (eX hH (mv 231 [].toArray) λl=>sA 231 a l k λn=>lA 231 a n λr=>K (.tuple #[r,(i 1)]) n) (cF 151 [B,E] k λo p=>eX hH (Op.unary .not o) λq=>
 cV q (eX hH (mv 231 [].toArray) λs=>sA 231 a s p λt=>lA 231 a t λHt=>K (.tuple #[Ht,(i 13)]) t) (nC B λu=>fA 196 u 1 λv=>lA 179 v p λx=>
 iA 179 x E λy=>lA 231 y p λz=>aL 231 p λJ Y=>sA 231 J z Y λac=>bS 179 0 [] ac λad O=>nC B λaf=>fA 196 af 1 λag=>lA 179 ag O λah=>eX hH (n0 179 ah none (some E) none) λV=>
 aP 179 ad V O λaj U=>nC B λal=>fA 196 al 1 λam=>lA 179 am U λW=>bB .add 3 E (i 1) λZ=>eX hH (n0 179 W (some Z) none none) λap=>
 aP 179 aj ap U λaq ar=>nC B λasx=>fA 196 asx 1 λau=>sA 179 au aq ar λG=>lA 231 J G λaw=>sA 231 a aw G λM=>lA 231 a M λLX=>K (.tuple #[LX,(i 0)]) M)))
theorem adE(u B:Value)(h:S165 w K u B):CR 165 [u,B] w K:=
 qj 54 (λ_=>.nil) 48 [.cell 4 231,.tmp 5] Tryz.func165 h
def aw3:dM:=λi=>match i with
 | 5=>(.of [(0,[]),(1,[]),(2,[]),(3,[]),(4,[]),(5,[]),(6,[]),(7,[]),(8,[]),(9,[]),(10,[]),(11,[]),(12,[]),(13,[]),(14,[]),(15,[4]),(16,[]),(17,[]),(18,[]),(19,[])])
 | _=>.nil
def aw4:dM:=λi=>match i with
 | 8=>.run 0 22
 | _=>.nil
theorem Sx:PL 132:=dR Tryz.func132
theorem ag9:PL 133:=dR Tryz.func133
theorem aha:PL 134:=dR Tryz.func134
theorem aoH:PL 135:=dR Tryz.func135
theorem Sy:PL 136:=dR Tryz.func136
theorem aoI:PL 139:=dR Tryz.func139
theorem aoJ:PL 144:=dR Tryz.func144
theorem aoK:PL 145:=dR Tryz.func145
theorem ahb:PL 147:=dR Tryz.func147
theorem ahc:PL 148:=dR Tryz.func148
theorem aoL:PL 150:=dR Tryz.func150
theorem ahd:PL 151:=dR Tryz.func151
theorem aoM:PL 153:=dR Tryz.func153
theorem aoN:PL 154:=dR Tryz.func154
theorem ahe:PL 155:=dR Tryz.func155
theorem ahf:PL 156:=dR Tryz.func156
theorem aoO:PL 157:=dR Tryz.func157
theorem Sz:PL 162:=dR Tryz.func162
theorem aoP:PL 165:=dR Tryz.func165
theorem ahg:PL 166:=dR Tryz.func166
theorem aoQ:PL 167:=dR Tryz.func167
theorem XI:PL 198:=dR Tryz.func198
variable (w:World) (K:Value->hM)
def aw5:dM:=λi=>match i with
 | 10=>.run 0 7
 | _=>.nil
def aw6:dM:=λi=>match i with
 | 2=>.run 0 17
 | 6=>.run 0 12
 | 8=>.run 0 9
 | 9=>.run 0 12
 | _=>.nil
def aw7:dM:=λi=>match i with
 | 5=>.run 0 8
 | 7=>.run 0 9
 | 9=>.run 0 9
 | 10=>.run 0 8
 | _=>.nil
def aw8:dM:=λi=>match i with
 | 5=>.run 0 17
 | _=>.nil
def aw9:dM:=λi=>match i with
 | 1=>.run 0 11
 | _=>.nil
def axa:dM:=λi=>match i with
 | 1=>.run 0 11
 | 4=>.run 0 10
 | _=>.nil
def S219(E J:Value):Prop:=
 lN 41 J λa=>cF 266 [E,a] w λb c=>eX hH (Op.unary .not b) λd=>cV d (K (.tuple #[(i 0),(i 8)]) c) (aL 318 c λp6 e=>lN 277 E λf=>kP (λB g h=>∀_:Env,
 bA .lss 3 g f λj=>cV j (xl (λK2=>iA 277 E g λk=>lA 320 k h λl=>aL 320 h λn o=>sA 320 n l o λp=>fA 320 n 0 λq=>lA 3 q p λr=>cF 267 [r] p λs t=>
 bB .eql 3 s (i 0) λu=>cV u (fA 320 n 1 λv=>lA 3 v t λx=>eQ (λK3=>fA 320 n 0 λy=>lA 3 y t λz=>bB .eql 3 z (i 2) λaa=>cV aa (fA 320 n 1 λab=>lA 3 ab t λac=>
 iA 41 J ac λad=>lA 3 ad t λae=>K3 ae t) (K3 x t)) (λn9 af=>∀_:Env,
 cF 268 [p6,n9] af λ_ ag=>K2 ag)) (bB .eql 3 s (i 1) λah=>cV ah (fA 320 n 0 λG=>lA 3 G (drew t) λZ=>fA 318 p6 0 λak=>cF 270 [ak] (drew t) λal W=>kA 3 G Z W (
 cF 269 [Z,al] W λI ao=>xT I 0 λap=>xT I 1 λ_=>cF 268 [p6,ap] ao λ_ aq=>K2 aq)) (fA 318 p6 0 λar=>cF 270 [ar] t λasx au=>fA 320 n 0 λO=>lA 3 O (drew au) λM=>
 fA 318 p6 0 λax=>cF 270 [ax] (drew au) λay az=>kA 3 O M az (cF 271 [M,ay,asx] az λY V=>xT Y 0 λa2=>xT Y 1 λU=>bB .neq 31 U (i 0) λa4=>cV a4 (K (.tuple #[(i 0),U]) V) (
 cF 268 [p6,a2] V λ_ a5=>K2 a5))))) (λa6=>∀_:Env,
 bB .add 3 g (i 1) λa7=>B a7 a6)) (fA 318 p6 0 λa8=>cF 270 [a8] h λa9 ba=>K (.tuple #[a9,(i 0)]) ba)) λB=>B (i 0) e)
def axb:dM:=λi=>match i with
 | 9=>(.of [(0,[]),(1,[]),(2,[]),(4,[]),(3,[1]),(5,[]),(6,[]),(7,[]),(8,[]),(9,[]),(10,[])])
 | 19=>(.of [(0,[]),(1,[]),(2,[]),(3,[1]),(4,[]),(5,[]),(6,[]),(7,[]),(8,[]),(9,[])])
 | _=>.nil
theorem adF(u B:Value)(h:S219 w K u B):CR 219 [u,B] w K:=
 qj 74 axb 48 [.tmp 4,.tmp 5] Tryz.func219 h
def S220(B I:Value):Prop:=
 cF 200 [B] w λa b=>eX hH (Op.unary .not a) λc=>cV c (K (.tuple #[(.slice none 0 0),(i 8)]) b) (kP (λG E d=>∀_:Env,
 lN 82 B λe=>bA .lss 3 E e λf=>cV f (eQ (λK2=>iA 82 B E λg=>fA 164 g 0 λh=>lA 3 h d λj=>bB .eql 3 j (i 2) λk=>cV k (iA 82 B E λl=>fA 164 l 2 λn=>
 lA 9 n d λo=>cF 123 [I,o] d λp q=>bB .lss 3 p (i 0) λr=>K2 r q) (K2 ff d)) (λs t=>∀_:Env,
 cV s (K (.tuple #[(.slice none 0 0),(i 9)]) t) (bB .add 3 E (i 1) λu=>G u t))) (cF 272 [B,(i 0),I] d λv x=>K (.tuple #[v,(i 0)]) x)) λG=>G (i 0) b)
theorem adG(B u:Value)(h:S220 w K B u):CR 220 [B,u] w K:=
 qj 35 (λ_=>.nil) 48 [.tmp 4,.tmp 5] Tryz.func220 h
def S224(u E B:Value):Prop:=
 lN 179 u λa=>eX hH (n0 179 u (some E) (some B) (some a)) λ_=>bA .eql 3 E B λb=>cV b (K u w) (lN 179 u λc=>eX hH (n0 179 u none (some E) none) λd=>
 eX hH (n0 179 u (some B) none none) λe=>aP 179 d e (drew w) λf g=>lN 179 f λh=>eX hH (n0 179 f (some h) (some c) none) λj=>
 ry hH (Builtin.clear_ #[179] 0 [j].toArray) g λ_ k=>K f k)
def axc:dM:=λi=>match i with
 | 5=>.run 0 8
 | _=>.nil
theorem adH(B E u:Value)(h:S224 w K B E u):CR 224 [B,E,u] w K:=
 qj 33 axc 64 [.tmp 6] Tryz.func224 h
def S229(E jS:Value):Prop:=
 nC E λa=>fA 196 a 1 λb=>lA 179 b w λc=>lN 179 c λd=>bB .sub 3 d (i 1) λe=>kP (λG B f=>∀_:Env,
 bB .geq 3 B (i 0) λg=>cV g (eQ (λK2=>nC E λh=>fA 196 h 1 λj=>lA 179 j f λk=>iA 179 k B λl=>fA 231 l 0 λn=>lA 3 n f λo=>bB .eql 3 o (i 3) λp=>
 cV p (nC E λq=>fA 196 q 1 λr=>lA 179 r f λs=>iA 179 s B λt=>fA 231 t 2 λu=>lA 3 u f λv=>bA .eql 3 v jS λx=>K2 x f) (K2 ff f)) (λy z=>∀_:Env,
 cV y (nC E λO=>fA 196 O 1 λI=>lA 179 I z λM=>iA 179 M B λW=>fA 231 W 3 λV=>lA 3 V z λU=>K (.tuple #[U,tt]) z) (bB .sub 3 B (i 1) λJ=>G J z))) (
 K (.tuple #[(i 0),ff]) f)) (λG=>G e w)
theorem adI(u jS:Value)(h:S229 w K u jS):CR 229 [u,jS] w K:=
 qj 46 (λ_=>.nil) 48 [.tmp 4,.tmp 5] Tryz.func229 h
def axd:dM:=λi=>match i with
 | 3=>.run 0 10
 | 5=>(.of [(0,[]),(1,[]),(2,[]),(3,[]),(4,[]),(5,[]),(6,[4]),(7,[]),(8,[]),(9,[]),(10,[])])
 | _=>.nil
def S252(B J:Value):Prop:=
 bB .add 3 J (i 1) λa=>Xt (λu I E G b=>∀_:Env,
 iA 82 B J λc=>fA 164 c 0 λd=>lA 3 d b λe=>cF 273 [e] b λf g=>bA .lss 3 G f λh=>cV h (cF 252 [B,E] g λj k=>eX hH (Builtin.max_ #[3,3] 3 [I,j].toArray) λl=>
 cF 251 [B,E] k λn o=>bB .add 3 G (i 1) λp=>u l n p o) (bB .add 3 I (i 1) λq=>K q g)) (λu=>u (i 0) a (i 0) w)
theorem adJ(u B:Value)(h:S252 w K u B):CR 252 [u,B] w K:=
 qj 30 (λ_=>.nil) 16 [.tmp 4] Tryz.func252 h
theorem SA:PL 199:=dR Tryz.func199
theorem LZ:PL 200:=dR Tryz.func200
theorem ahh:PL 201:=dR Tryz.func201
theorem XJ:PL 202:=dR Tryz.func202
theorem ahi:PL 205:=dR Tryz.func205
theorem SB:PL 206:=dR Tryz.func206
theorem SC:PL 207:=dR Tryz.func207
theorem aoR:PL 208:=dR Tryz.func208
theorem wE:PL 209:=dR Tryz.func209
theorem XK:PL 210:=dR Tryz.func210
theorem uY:PL 211:=dR Tryz.func211
theorem aoS:PL 212:=dR Tryz.func212
theorem ahj:PL 213:=dR Tryz.func213
theorem HY:PL 214:=dR Tryz.func214
theorem ahk:PL 215:=dR Tryz.func215
theorem ahl:PL 216:=dR Tryz.func216
theorem aoT:PL 219:=dR Tryz.func219
theorem aoU:PL 220:=dR Tryz.func220
theorem aoV:PL 222:=dR Tryz.func222
theorem ahm:PL 223:=dR Tryz.func223
theorem aoW:PL 224:=dR Tryz.func224
theorem aoX:PL 226:=dR Tryz.func226
theorem aoY:PL 228:=dR Tryz.func228
theorem aoZ:PL 229:=dR Tryz.func229
theorem SD:PL 230:=dR Tryz.func230
theorem L3:PL 251:=dR Tryz.func251
theorem XL:PL 252:=dR Tryz.func252
variable (w:World) (K:Value->hM)
def S256(p0 L4 U:Value):Prop:=
 nC p0 λa=>fA 305 a 0 λb=>lA 198 b (drew w) λc=>nC p0 λd=>fA 305 d 1 λe=>lA 3 e (drew w) λf=>cF 214 [c,f] (drew w) λg h=>nP (λV B O j=>∀_:Env,
 bB .leq 3 O (i 14) λk=>cV k (eQ (λK2=>nC p0 λl=>fA 305 l 0 λn=>lA 198 n (drew j) λo=>nC p0 λp=>fA 305 p 1 λq=>lA 3 q (drew j) λr=>cF 290 [O] (drew j) λs t=>
 kA 198 n o t (kA 3 q r t (cF 209 [o,r,s] t λu v=>cV u (K2 O v) (K2 B v)))) (λadK x=>∀_:Env,
 bB .add 3 O (i 1) λy=>V adK y x)) (eQ (λK3=>bB .eql 3 B (i 13) λz=>cV z (bB .eql 3 U (i 0) λaa=>K3 aa j) (K3 ff j)) (λab J=>∀_:Env,
 cV ab (cF 291 [p0,(i 5)] J λ_ ad=>K (.tuple #[]) ad) (xl (λK4=>bB .neq 3 B (i 1) λae=>cV ae (nC p0 λaf=>fA 305 af 1 λag=>lA 3 ag J λah=>bB .add 3 ah (i 1) λai=>
 nC p0 λaj=>fA 305 aj 1 λak=>sA 3 ak ai J λal=>K4 al) (K4 J)) (λam=>∀_:Env,
 cF 292 [p0,B,g] am λan ao=>aL 193 ao λG aq=>sA 193 G an aq λM=>nC p0 λasx=>fA 305 asx 4 λau=>lA 141 au M λav=>lN 141 av λaw=>nC p0 λax=>fA 305 ax 4 λay=>
 lA 141 ay (drew M) λaz=>lA 193 G (drew M) λa0=>bS 141 1 [(0,a0)] (drew M) λa1 a2=>kA 141 ay az a2 (aP 141 az a1 a2 λa3 a4=>nC p0 λa5=>fA 305 a5 4 λa6=>
 sA 141 a6 a3 a4 λa7=>eQ (λK5=>bB .neq 3 B (i 11) λa8=>cV a8 (bB .neq 3 B (i 12) λa9=>K5 a9 a7) (K5 ff a7)) (λba bb=>∀_:Env,
 cV ba (cF 257 [p0,(Go.Value.string (kp (#[59])))] bb λ_ bc=>K (.tuple #[]) bc) (eQ (λK6=>bB .eql 3 B (i 12) λbd=>cV bd (bB .add 3 U (i 1) λbe=>
 K6 be bb) (K6 U bb)) (λI bf=>∀_:Env,
 bB .add 3 L4 (i 1) λbg=>cF 293 [p0,bg,I] bf λbh bi=>fA 193 G 6 λbj=>sA 3 bj bh bi λE=>xl (λK7=>eQ (λW=>bB .eql 3 B (i 11) λbl=>cV bl (
 nC p0 λbm=>fA 305 bm 2 λbn=>lA 31 bn (drew E) λbo=>bB .eql 31 bo (i 0) λbp=>cV bp (nC p0 λbq=>fA 305 bq 0 λbr=>lA 198 br (drew E) λbs=>nC p0 λbt=>
 fA 305 bt 1 λbu=>lA 3 bu (drew E) λbv=>cF 209 [bs,bv,(Go.Value.string (kp (#[101,108,115,101])))] (drew E) λbw bx=>W bw bx) (W ff (drew E))) (W ff (drew E)))
 (λbz Y=>∀_:Env,
 cV bz (nC p0 λb1=>fA 305 b1 1 λb2=>lA 3 b2 Y λb3=>bB .add 3 b3 (i 1) λb4=>nC p0 λb5=>fA 305 b5 1 λb6=>sA 3 b6 b4 Y λb7=>bB .add 3 L4 (i 1) λb8=>
 cF 293 [p0,b8,I] b7 λb9 ca=>fA 193 G 7 λcb=>sA 3 cb b9 ca λcc=>K7 cc) (K7 Y))) (λZ=>∀_:Env,
 nC p0 λce=>fA 305 ce 4 λcf=>lA 141 cf (drew Z) λcg=>lA 193 G (drew Z) λch=>iA 141 cg aw λci=>sA 193 ci ch (drew Z) λcj=>K (.tuple #[]) cj)))))))))) (λV=>V (i 1) (i 2) h)
def axe:dM:=λi=>match i with
 | 0=>.run 0 11
 | 4=>(.of [(0,[]),(1,[]),(2,[]),(3,[]),(4,[]),(5,[]),(6,[]),(7,[]),(8,[]),(9,[3,7]),(10,[])])
 | 12=>(.of [(0,[]),(1,[]),(2,[]),(3,[]),(4,[]),(5,[]),(6,[4]),(7,[]),(8,[]),(9,[]),(10,[])])
 | 19=>.run 0 20
 | 22=>.run 0 8
 | _=>.nil
theorem adL(p0 B u:Value)(h:S256 w K p0 B u):CR 256 [p0,B,u] w K:=
 qj 134 axe 0 [] Tryz.func256 h
def axf:dM:=λi=>match i with
 | 0=>.run 0 17
 | _=>.nil
def S258(I i1 M E:Value):Prop:=
 aL 308 w λa b=>bB .eql 3 E (i 5) λc=>cV c (cF 294 [I,i1,M] b λd e=>sA 308 a d e λf=>lA 308 a f λr=>K r f) (bB .add 3 E (i 1) λg=>cF 258 [I,i1,M,g] b λh j=>
 aL 308 j λk l=>sA 308 k h l λn=>Su (λU o=>∀_:Env,
 fA 308 k 2 λp=>lA 31 p o λq=>bB .eql 31 q (i 0) λs=>cV s (nP (λK2 V B t=>∀_:Env,
 cF 295 [E] t λu v=>lN 41 u λx=>bA .lss 3 B x λy=>cV y (eQ (λK3=>fA 308 k 1 λz=>lA 3 z (drew v) λY=>cF 295 [E] (drew v) λab O=>kA 3 z Y O (iA 41 ab B λad=>
 lA 3 ad O λae=>cF 296 [ae] O λaf ag=>kA 3 z Y ag (cF 209 [I,Y,af] ag λah ai=>cV ah (cF 295 [E] ai λaj ak=>iA 41 aj B λal=>lA 3 al ak λam=>K3 am ak) (
 K3 V ai)))) (λZ an=>∀_:Env,
 bB .add 3 B (i 1) λao=>K2 Z ao an)) (bB .eql 3 V (i 0) λap=>cV ap (lA 308 k v λaq=>sA 308 a aq v λar=>lA 308 a ar λHt=>K Ht ar) (fA 308 k 1 λasx=>
 lA 3 asx v λau=>bB .add 3 au (i 1) λav=>bB .add 3 E (i 1) λaw=>cF 258 [I,av,M,aw] v λax ay=>aL 308 ay λJ az=>sA 308 J ax az λG=>fA 308 J 2 λa1=>
 lA 31 a1 G λa2=>bB .neq 31 a2 (i 0) λa3=>cV a3 (lA 308 J G λa4=>sA 308 a a4 G λa5=>lA 308 a a5 λLX=>K LX a5) (fA 308 k 1 λa6=>lA 3 a6 G λa7=>iA 198 I a7 λa8=>
 fA 209 a8 3 λa9=>lA 3 a9 G λba=>eX hH (mv 164 [(0,V),(3,ba)].toArray) λbb=>bS 82 1 [(0,bb)] G λbc bd=>fA 308 k 0 λbe=>lA 82 be bd λbf=>
 aP 82 bc bf bd λbg bh=>fA 308 J 0 λbi=>lA 82 bi bh λbj=>aP 82 bg bj bh λbk bl=>fA 308 J 1 λbm=>lA 3 bm bl λbn=>eX hH (mv 308 [(0,bk),(1,bn)].toArray) λbo=>
 sA 308 k bo bl λbp=>bB .eql 3 E (i 2) λbq=>cV bq (lA 308 k bp λbr=>sA 308 a br bp λbs=>lA 308 a bs λr_3=>K r_3 bs) (U bp))))) λK2=>K2 (i 0) (i 0) o) (
 lA 308 k o λbt=>sA 308 a bt o λbu=>lA 308 a bu λW=>K W bu)) λU=>U n)
def axg:dM:=λi=>match i with
 | 9=>(.of [(0,[]),(1,[]),(2,[]),(3,[]),(5,[]),(4,[2]),(6,[]),(7,[]),(8,[2]),(9,[])])
 | _=>.nil
theorem adN(B G u E:Value)(h:S258 w K B G u E):CR 258 [B,G,u,E] w K:=
 qj 91 axg 256 [.cell 8 308] Tryz.func258 h
def axh:dM:=λi=>match i with
 | 1=>.run 0 11
 | _=>.nil
def axi:dM:=λi=>match i with
 | 1=>.run 0 15
 | _=>.nil
def axj:dM:=λi=>match i with
 | 1=>.run 0 13
 | 2=>.run 0 15
 | _=>.nil
def S271(u E b2:Value):Prop:=
 eQ (λB=>bB .lss 3 u (i 0) λa=>cV a (B tt w) (bB .geq 3 u (i 16) λb=>B b w)) (λc d=>∀_:Env,
 cV c (K (.tuple #[(i 0),(i 1)]) d) (cF 304 [] d λe f=>eX hH (wg 348 e u) λg=>bB .eql 288 g .nilFunc λh=>cV h (K (.tuple #[(i 0),(i 1)]) f) (eQ (λK2=>
 bB .eql 3 u (i 8) λj=>cV j (bB .eql 3 b2 (i 0) λk=>K2 k f) (bB .eql 3 u (i 9) λl=>cV l (bB .eql 3 b2 (i 0) λn=>K2 n f) (K2 ff f))) (λo p=>∀_:Env,
 cV o (K (.tuple #[(i 0),(i 12)]) p) (kT hH g [E,b2] p λq r=>K (.tuple #[q,(i 0)]) r)))))
theorem adO(B u b2:Value)(h:S271 w K B u b2):CR 271 [B,u,b2] w K:=
 qj 36 (λ_=>.nil) 192 [.tmp 6,.tmp 7] Tryz.func271 h
def S275(E B b2:Value):Prop:=
 bB .eql 3 E (i 5) λa=>cV a (bA .add 3 B b2 λb=>K (.tuple #[b,(i 0)]) w) (bB .eql 3 E (i 6) λc=>cV c (bA .sub 3 B b2 λd=>K (.tuple #[d,(i 0)]) w) (bB .eql 3 E (i 7) λe=>
 cV e (bA .mul 3 B b2 λf=>K (.tuple #[f,(i 0)]) w) (bB .eql 3 E (i 8) λg=>cV g (bB .eql 3 b2 (i 0) λh=>cV h (K (.tuple #[(i 0),(i 12)]) w) (cF 306 [B,b2] w λj k=>
 K (.tuple #[j,(i 0)]) k)) (bB .eql 3 E (i 9) λl=>cV l (bB .eql 3 b2 (i 0) λn=>cV n (K (.tuple #[(i 0),(i 12)]) w) (cF 306 [B,b2] w λo p=>bA .mul 3 b2 o λq=>bA .sub 3 B q λr=>
 K (.tuple #[r,(i 0)]) p)) (bB .eql 3 E (i 10) λs=>cV s (bA .eql 3 B b2 λt=>cF 305 [t] w λu v=>K (.tuple #[u,(i 0)]) v) (bB .eql 3 E (i 11) λx=>cV x (bA .neq 3 B b2 λy=>
 cF 305 [y] w λz aa=>K (.tuple #[z,(i 0)]) aa) (bB .eql 3 E (i 12) λM=>cV M (bA .lss 3 B b2 λZ=>cF 305 [Z] w λad ae=>K (.tuple #[ad,(i 0)]) ae) (bB .eql 3 E (i 13) λaf=>
 cV af (bA .leq 3 B b2 λU=>cF 305 [U] w λah I=>K (.tuple #[ah,(i 0)]) I) (bB .eql 3 E (i 14) λaj=>cV aj (EX (λG=>bB .neq 3 B (i 0) λak=>cV ak (bB .neq 3 b2 (i 0) λal=>
 cF 305 [al] w λam J=>G am (i 0) J) (cF 305 [ff] w λO ap=>G O (i 0) ap)) (λaq ar asx=>∀_:Env,
 K (.tuple #[aq,ar]) asx)) (bB .eql 3 E (i 15) λau=>cV au (EX (λK2=>bB .neq 3 B (i 0) λW=>cV W (cF 305 [tt] w λV ax=>K2 V (i 0) ax) (bB .neq 3 b2 (i 0) λay=>
 cF 305 [ay] w λaz a0=>K2 az (i 0) a0)) (λa2 Y a4=>∀_:Env,
 K (.tuple #[a2,Y]) a4)) (K (.tuple #[(i 0),(i 1)]) w)))))))))))
theorem adP(B u b2:Value)(h:S275 w K B u b2):CR 275 [B,u,b2] w K:=
 qj 84 (λ_=>.nil) 192 [.tmp 6,.tmp 7] Tryz.func275 h
def S289(M G:Value):Prop:=
 nP (λV W I a=>∀_:Env,
 lN 141 M λb=>bA .lss 3 I b λc=>cV c (iA 141 M I λd=>lA 193 d a λe=>aL 193 a λf g=>sA 193 f e g λh=>eQ (λK2=>fA 193 f 6 λj=>lA 3 j h λk=>
 bB .lss 3 k (i 0) λl=>cV l (K2 tt h) (fA 193 f 7 λn=>lA 3 n h λo=>bB .lss 3 o (i 0) λp=>cV p (K2 tt h) (fA 193 f 6 λq=>lA 3 q h λr=>bB .gtr 3 r (i 40) λs=>
 cV s (K2 tt h) (fA 193 f 7 λt=>lA 3 t h λu=>bB .gtr 3 u (i 40) λv=>cV v (K2 tt h) (bB .add 3 I (i 1) λx=>fA 193 f 6 λy=>lA 3 y h λz=>bA .add 3 x z λaa=>
 fA 193 f 7 λab=>lA 3 ab h λac=>bA .add 3 aa ac λad=>lN 141 M λae=>bA .gtr 3 ad ae λaf=>K2 af h))))) (λag B=>∀_:Env,
 cV ag (K (i (-1)) B) (eQ (λE=>fA 193 f 6 λai=>lA 3 ai B λaj=>bB .gtr 3 aj (i 0) λak=>cV ak (fA 193 f 0 λal=>lA 3 al B λam=>bB .neq 3 am (i 11) λan=>
 cV an (fA 193 f 0 λao=>lA 3 ao B λap=>bB .neq 3 ap (i 12) λaq=>cV aq (E tt B) (fA 193 f 7 λar=>lA 3 ar B λasx=>bB .gtr 3 asx (i 0) λau=>cV au (fA 193 f 0 λav=>
 lA 3 av B λaw=>bB .neq 3 aw (i 11) λax=>cV ax (E tt B) (fA 193 f 0 λay=>lA 3 ay B λaz=>bB .eql 3 az (i 13) λa0=>cV a0 (bB .eql 3 G (i 0) λa1=>E a1 B) (
 E ff B))) (fA 193 f 0 λa2=>lA 3 a2 B λa3=>bB .eql 3 a3 (i 13) λa4=>cV a4 (bB .eql 3 G (i 0) λa5=>E a5 B) (E ff B)))) (fA 193 f 7 λa6=>lA 3 a6 B λa7=>
 bB .gtr 3 a7 (i 0) λa8=>cV a8 (fA 193 f 0 λa9=>lA 3 a9 B λba=>bB .neq 3 ba (i 11) λbb=>cV bb (E tt B) (fA 193 f 0 λbc=>lA 3 bc B λbd=>bB .eql 3 bd (i 13) λbe=>
 cV be (bB .eql 3 G (i 0) λbf=>E bf B) (E ff B))) (fA 193 f 0 λbg=>lA 3 bg B λbh=>bB .eql 3 bh (i 13) λbi=>cV bi (bB .eql 3 G (i 0) λbj=>E bj B) (
 E ff B)))) (fA 193 f 7 λbk=>lA 3 bk B λbl=>bB .gtr 3 bl (i 0) λbm=>cV bm (fA 193 f 0 λbn=>lA 3 bn B λbo=>bB .neq 3 bo (i 11) λbp=>cV bp (E tt B) (fA 193 f 0 λbq=>
 lA 3 bq B λbr=>bB .eql 3 br (i 13) λbs=>cV bs (bB .eql 3 G (i 0) λbt=>E bt B) (E ff B))) (fA 193 f 0 λbu=>lA 3 bu B λbv=>bB .eql 3 bv (i 13) λbw=>
 cV bw (bB .eql 3 G (i 0) λbx=>E bx B) (E ff B)))) (λbz O=>∀_:Env,
 cV bz (K (i (-1)) O) (bB .add 3 I (i 1) λb1=>fA 193 f 6 λb2=>lA 3 b2 (drew O) λb3=>bA .add 3 b1 b3 λb4=>eQ (λK4=>fA 193 f 0 λb5=>lA 3 b5 (drew O) λb6=>
 bB .eql 3 b6 (i 12) λb7=>cV b7 (bB .add 3 G (i 1) λb8=>K4 b8 (drew O)) (K4 G (drew O))) (λJ U=>∀_:Env,
 eQ (λK5=>eQ (λK6=>fA 193 f 0 λca=>lA 3 ca U λcb=>bB .eql 3 cb (i 11) λcc=>cV cc (K6 tt U) (fA 193 f 0 λcd=>lA 3 cd U λce=>bB .eql 3 ce (i 12) λcf=>
 K6 cf U)) (λcg ch=>∀_:Env,
 cV cg (bB .add 3 I (i 1) λci=>eX hH (n0 141 M (some ci) (some b4) none) λcj=>fA 193 f 7 λck=>lA 3 ck (drew ch) λcl=>bA .add 3 b4 cl λcm=>eX hH (n0 141 M (some b4) (some cm) none) λcn=>
 cF 289 [cj,J] (drew ch) λco Z=>kA 3 ck cl Z (cF 289 [cn,J] Z λcq cr=>eQ (λK7=>bB .lss 3 co (i 0) λcs=>cV cs (K7 tt cr) (bB .lss 3 cq (i 0) λct=>K7 ct cr))
 (λcu cv=>∀_:Env,
 cV cu (K (i (-1)) cv) (bC .add 3 (i 1) co λcw=>bC .add 3 (i 1) cq λcx=>eX hH (Builtin.max_ #[3,3,3] 3 [W,cw,cx].toArray) λcy=>K5 cy cv)))) (K5 W ch))) (λY cz=>∀_:Env,
 fA 193 f 7 λc0=>lA 3 c0 cz λc1=>bA .add 3 b4 c1 λc2=>V Y c2 cz))))))) (K W a)) (λV=>V (i 0) (i 0) w)
def axk:dM:=λi=>match i with
 | 8=>.run 0 8
 | 12=>(.of [(0,[]),(1,[]),(2,[]),(3,[]),(4,[]),(5,[]),(7,[]),(8,[]),(9,[]),(10,[]),(11,[]),(12,[]),(13,[]),(14,[]),(6,[11]),(15,[]),(16,[]),(17,[])])
 | _=>.nil
theorem adQ(B u:Value)(h:S289 w K B u):CR 289 [B,u] w K:=
 qj 135 axk 16 [.tmp 4] Tryz.func289 h
theorem ahn:PL 253:=dR Tryz.func253
theorem aho:PL 254:=dR Tryz.func254
theorem ao1:PL 255:=dR Tryz.func255
theorem ahp:PL 256:=dR Tryz.func256
theorem zC:PL 257:=dR Tryz.func257
theorem SF:PL 258:=dR Tryz.func258
theorem ao2:PL 259:=dR Tryz.func259
theorem ao3:PL 260:=dR Tryz.func260
theorem ao4:PL 261:=dR Tryz.func261
theorem ao5:PL 266:=dR Tryz.func266
theorem XO:PL 267:=dR Tryz.func267
theorem SG:PL 268:=dR Tryz.func268
theorem ao6:PL 269:=dR Tryz.func269
theorem SH:PL 270:=dR Tryz.func270
theorem ao7:PL 271:=dR Tryz.func271
theorem ahq:PL 272:=dR Tryz.func272
theorem L5:PL 273:=dR Tryz.func273
theorem ao8:PL 274:=dR Tryz.func274
theorem ao9:PL 275:=dR Tryz.func275
theorem apa:PL 276:=dR Tryz.func276
theorem apb:PL 277:=dR Tryz.func277
theorem apc:PL 288:=dR Tryz.func288
theorem XP:PL 289:=dR Tryz.func289
variable (w:World) (K:Value->hM)
def axl:dM:=λi=>match i with
 | 2=>.run 0 10
 | 4=>.run 0 13
 | _=>.nil
def axm:dM:=λi=>match i with
 | 2=>.run 0 13
 | 5=>.run 0 17
 | _=>.nil
def S294(B E U:Value):Prop:=
 aL 308 w λa b=>lN 198 B λc=>bA .geq 3 E c λd=>cV d (cF 320 [B,E,(i 6)] b λe f=>sA 308 a e f λg=>lA 308 a g λr=>K r g) (eQ (λK1=>cF 209 [B,E,(Go.Value.string (kp (#[33])))] b λh j=>
 cV h (K1 tt j) (cF 209 [B,E,(Go.Value.string (kp (#[45])))] j λk l=>K1 k l)) (λM n=>∀_:Env,
 cF 209 [B,E,(Go.Value.string (kp (#[40])))] n λo p=>eQ (λK2=>cV M (bB .eql 3 U (i 12) λq=>K2 q p) (cV o (bB .eql 3 U (i 12) λs=>K2 s p) (K2 ff p)))
 (λt u=>∀_:Env,
 cV t (cF 320 [B,E,(i 7)] u λv x=>sA 308 a v x λy=>lA 308 a y λHt=>K Ht y) (cV M (bB .add 3 E (i 1) λz=>bB .add 3 U (i 1) λaa=>cF 294 [B,z,aa] u λab ac=>
 aL 308 ac λJ ae=>sA 308 J ab ae λI=>fA 308 J 2 λag=>lA 31 ag I λah=>bB .neq 31 ah (i 0) λai=>cV ai (lA 308 J I λaj=>sA 308 a aj I λak=>lA 308 a ak λLX=>
 K LX ak) (eQ (λK3=>iA 198 B E λal=>fA 209 al 1 λam=>lA 9 am I λan=>eX hH (ke .eql 9 false true an (Go.Value.string (kp (#[45])))) λao=>
 cV ao (K3 (i 3) I) (K3 (i 4) I)) (λXM ap=>∀_:Env,
 iA 198 B E λaq=>fA 209 aq 3 λar=>lA 3 ar ap λasx=>eX hH (mv 164 [(0,XM),(3,asx)].toArray) λau=>bS 82 1 [(0,au)] ap λav aw=>fA 308 J 0 λax=>
 lA 82 ax aw λay=>aP 82 av ay aw λaz a0=>fA 308 J 0 λa1=>sA 82 a1 az a0 λa2=>lA 308 J a2 λa3=>sA 308 a a3 a2 λa4=>lA 308 a a4 λr_3=>K r_3 a4))) (cV o (
 bB .add 3 E (i 1) λa5=>bB .add 3 U (i 1) λa6=>cF 258 [B,a5,a6,(i 0)] u λa7 a8=>aL 308 a8 λG ba=>sA 308 G a7 ba λO=>fA 308 G 2 λbc=>lA 31 bc O λbd=>
 bB .neq 31 bd (i 0) λbe=>cV be (lA 308 G O λbf=>sA 308 a bf O λbg=>lA 308 a bg λZ=>K Z bg) (fA 308 G 1 λbh=>lA 3 bh O λbi=>cF 209 [B,bi,(Go.Value.string (kp (#[41])))] O λbj W=>
 eX hH (Op.unary .not bj) λbl=>cV bl (fA 308 G 1 λbm=>lA 3 bm W λbn=>cF 320 [B,bn,(i 5)] W λbo bp=>sA 308 a bo bp λbq=>lA 308 a bq λr_5=>K r_5 bq) (
 fA 308 G 1 λbr=>lA 3 br W λbs=>bB .add 3 bs (i 1) λbt=>fA 308 G 1 λbu=>sA 3 bu bt W λbv=>lA 308 G bv λbw=>sA 308 a bw bv λbx=>lA 308 a bx λr_6=>
 K r_6 bx))) (iA 198 B E λbz=>fA 209 bz 0 λb0=>lA 3 b0 u λb1=>bB .eql 3 b1 (i 2) λb2=>cV b2 (iA 198 B E λb3=>fA 209 b3 2 λb4=>lA 3 b4 (drew u) λb5=>
 iA 198 B E λb6=>fA 209 b6 3 λb7=>lA 3 b7 (drew u) λb8=>eX hH (mv 164 [(0,(i 1)),(1,b5),(3,b8)].toArray) λb9=>bB .add 3 E (i 1) λca=>bS 82 1 [(0,b9)] (drew u) λcb cc=>
 eX hH (mv 308 [(0,cb),(1,ca)].toArray) λcd=>sA 308 a cd cc λce=>lA 308 a ce λr_7=>K r_7 ce) (eQ (λK4=>iA 198 B E λcf=>fA 209 cf 0 λcg=>
 lA 3 cg u λch=>bB .eql 3 ch (i 1) λci=>cV ci (iA 198 B E λcj=>fA 209 cj 1 λck=>lA 9 ck u λcl=>cF 211 [cl] u λcm cn=>K4 cm cn) (K4 ff u)) (λco V=>∀_:Env,
 cV co (iA 198 B E λcq=>fA 209 cq 1 λcr=>lA 9 cr (drew V) λcs=>iA 198 B E λct=>fA 209 ct 3 λcu=>lA 3 cu (drew V) λcv=>eX hH (mv 164 [(0,(i 2)),(2,cs),(3,cv)].toArray) λcw=>
 bB .add 3 E (i 1) λcx=>bS 82 1 [(0,cw)] (drew V) λcy cz=>eX hH (mv 308 [(0,cy),(1,cx)].toArray) λc0=>sA 308 a c0 cz λc1=>lA 308 a c1 λY=>
 K Y c1) (cF 320 [B,E,(i 5)] V λc2 c3=>sA 308 a c2 c3 λc4=>lA 308 a c4 λr_9=>K r_9 c4)))))))))
def axs:dM:=λi=>match i with
 | 27=>(.of [(0,[]),(1,[]),(2,[]),(3,[]),(4,[]),(5,[]),(6,[]),(7,[]),(8,[]),(9,[]),(10,[]),(12,[]),(13,[]),(11,[]),(14,[]),(15,[])])
 | 29=>(.of [(0,[]),(1,[]),(2,[]),(3,[]),(4,[]),(5,[]),(6,[]),(7,[]),(8,[]),(9,[]),(10,[]),(12,[]),(13,[]),(11,[]),(14,[]),(15,[])])
 | _=>.nil
theorem adR(u E B:Value)(h:S294 w K u E B):CR 294 [u,E,B] w K:=
 qj 152 axs 64 [.cell 6 308] Tryz.func294 h
def S304:Prop:=
 aL 348 w λa b=>aL 348 b λB c=>iA 348 B (i 5) λd=>sA 288 d (.func (.func 324) #[] #[]) c λe=>iA 348 B (i 6) λf=>sA 288 f (.func (.func 325) #[] #[]) e λg=>
 iA 348 B (i 7) λh=>sA 288 h (.func (.func 326) #[] #[]) g λj=>iA 348 B (i 8) λk=>sA 288 k (.func (.func 327) #[] #[]) j λl=>iA 348 B (i 9) λn=>sA 288 n (.func (.func 328) #[] #[]) l λo=>
 kT hH (.func (.func 322) #[] #[]) [(.func (.func 329) #[] #[])] o λp q=>iA 348 B (i 10) λs=>sA 288 s p q λt=>kT hH (.func (.func 322) #[] #[]) [(.func (.func 330) #[] #[])] t λu v=>
 iA 348 B (i 11) λx=>sA 288 x u v λy=>kT hH (.func (.func 322) #[] #[]) [(.func (.func 331) #[] #[])] y λz aa=>iA 348 B (i 12) λO=>sA 288 O z aa λV=>
 kT hH (.func (.func 322) #[] #[]) [(.func (.func 332) #[] #[])] V λJ ae=>iA 348 B (i 13) λaf=>sA 288 af J ae λU=>kT hH (.func (.func 322) #[] #[]) [(.func (.func 333) #[] #[])] U λY I=>
 iA 348 B (i 14) λaj=>sA 288 aj Y I λak=>kT hH (.func (.func 322) #[] #[]) [(.func (.func 334) #[] #[])] ak λal Z=>iA 348 B (i 15) λM=>sA 288 M al Z λE=>
 lA 348 B E λW=>sA 348 a W E λG=>lA 348 a G λr=>K r G
theorem adS(h:S304 w K):CR 304 [] w K:=
 qj 27 (λ_=>.nil) 1 [.cell 0 348] Tryz.func304 h
def S307(E a:Value):Prop:=
 lA 179 a w λb=>lN 179 b λc=>bB .sub 3 c (i 1) λd=>kP (λB u e=>∀_:Env,
 bB .geq 3 u (i 0) λf=>cV f (lA 179 a e λg=>iA 179 g u λh=>lA 231 h e λj=>kT hH E [u,j] e λk l=>eX hH (Op.unary .not k) λn=>cV n (
 K (.tuple #[]) l) (bB .sub 3 u (i 1) λo=>B o l)) (K (.tuple #[]) e)) (λB=>B d w)
theorem adT(u B:Value)(h:S307 w K u B):CR 307 [u,B] w K:=
 qj 19 (λ_=>.nil) 0 [] Tryz.func307 h
def S315(u:Value):Prop:=
 eQ (λB=>bB .lss 3 u (i 1) λa=>cV a (B tt w) (bB .gtr 3 u (i 14) λb=>B b w)) (λc d=>∀_:Env,
 cV c (K (Go.Value.string (kp (#[]))) d) (bS 91 15 [(0,(Go.Value.string (kp (#[])))),(1,(Go.Value.string (kp (#[114,101])))),(2,(Go.Value.string (kp (#[114,110])))),(3,(Go.Value.string (kp (#[110,101])))),(4,(Go.Value.string (kp (#[114,110,101,102])))),(5,(Go.Value.string (kp (#[110])))),(6,(Go.Value.string (kp (#[110])))),(7,(Go.Value.string (kp (#[])))),(8,(Go.Value.string (kp (#[])))),(9,(Go.Value.string (kp (#[110])))),(10,(Go.Value.string (kp (#[110])))),(11,(Go.Value.string (kp (#[101,98])))),(12,(Go.Value.string (kp (#[107,98])))),(13,(Go.Value.string (kp (#[])))),(14,(Go.Value.string (kp (#[101]))))] d λe f=>
 iA 91 e u λg=>lA 9 g f λh=>K h f))
theorem adU(u:Value)(h:S315 w K u):CR 315 [u] w K:=
 qj 13 (λ_=>.nil) 4 [.tmp 2] Tryz.func315 h
def axt:dM:=λi=>match i with
 | 1=>.run 0 45
 | 3=>.run 0 13
 | _=>.nil
def axu:dM:=λi=>match i with
 | 3=>.run 0 18
 | _=>.nil
def axv:dM:=λi=>match i with
 | 1=>.run 0 31
 | 2=>.run 0 12
 | _=>.nil
def S320(E G I:Value):Prop:=
 aL 308 w λa b=>eQ (λB=>lN 198 E λc=>bA .geq 3 G c λd=>cV d (B (i 6) b) (B I b)) (λu e=>∀_:Env,
 cF 214 [E,G] e λf g=>eX hH (mv 308 [(2,u),(3,f)].toArray) λh=>sA 308 a h g λj=>lA 308 a j λr=>K r j)
theorem adV(B E u:Value)(h:S320 w K B E u):CR 320 [B,E,u] w K:=
 qj 16 (λ_=>.nil) 64 [.cell 6 308] Tryz.func320 h
theorem apd:PL 290:=dR Tryz.func290
theorem H0:PL 291:=dR Tryz.func291
theorem ape:PL 292:=dR Tryz.func292
theorem ahr:PL 293:=dR Tryz.func293
theorem ahs:PL 294:=dR Tryz.func294
theorem XQ:PL 295:=dR Tryz.func295
theorem apf:PL 296:=dR Tryz.func296
theorem apg:PL 297:=dR Tryz.func297
theorem aph:PL 298:=dR Tryz.func298
theorem api:PL 299:=dR Tryz.func299
theorem apj:PL 300:=dR Tryz.func300
theorem apk:PL 301:=dR Tryz.func301
theorem XR:PL 302:=dR Tryz.func302
theorem L6:PL 303:=dR Tryz.func303
theorem apl:PL 304:=dR Tryz.func304
theorem AZ:PL 305:=dR Tryz.func305
theorem aht:PL 306:=dR Tryz.func306
theorem apm:PL 307:=dR Tryz.func307
theorem apn:PL 315:=dR Tryz.func315
theorem L7:PL 316:=dR Tryz.func316
theorem E3:PL 317:=dR Tryz.func317
theorem L8:PL 318:=dR Tryz.func318
theorem apo:PL 319:=dR Tryz.func319
theorem SJ:PL 320:=dR Tryz.func320
theorem apq:PL 321:=dR Tryz.func321
theorem H6:PL 322:=dR Tryz.func322
theorem H7:PL 323:=dR Tryz.func323
theorem apr:PL 324:=dR Tryz.func324
theorem aps:PL 325:=dR Tryz.func325
theorem apt:PL 326:=dR Tryz.func326
theorem apu:PL 327:=dR Tryz.func327
theorem apv:PL 328:=dR Tryz.func328
theorem apw:PL 329:=dR Tryz.func329
theorem apx:PL 330:=dR Tryz.func330
theorem apy:PL 331:=dR Tryz.func331
theorem apz:PL 332:=dR Tryz.func332
theorem apA:PL 333:=dR Tryz.func333
theorem apB:PL 334:=dR Tryz.func334
end Go.Proofs.YtpdlpabnlkofmaaGreatDoor
namespace Go.Fw
def nh(w:World)(b:Nat)(cs:List Value):Prop:=∃u,w.heap[b]?=some (.cells cs.toArray u (0,0))
def Cell(w:World)(b o:Nat)(v:Value):Prop:=w.cell? ⟨b,o,none⟩=some v
structure gJ(A:Nat->Prop)(w w':World):Prop where
 os:w'.os=w.os
 tape:w'.tape=w.tape
 output:w'.output=w.output
 size:w.heap.size<=w'.heap.size
 bW:∀b,b<w.heap.size->¬ A b->w'.heap[b]?=w.heap[b]?
def aX:Nat->Prop:=λ_=>False
abbrev Ext(w w':World):Prop:=gJ aX w w'
def gJ.refl(A:Nat->Prop)(w:World):gJ A w w:=⟨rfl,rfl,rfl,o6 _,λ_ _ _=>rfl⟩
def gJ.trans{A B C:Nat->Prop}{w I E:World}(h:gJ A w I)(k:gJ B I E)(M:∀b,A b->C b)(J:∀b,b<w.heap.size->B b->C b):gJ C w E:=
 ⟨k.os.trans h.os,k.tape.trans h.tape,k.output.trans h.output,vt h.size k.size,λb hb G=>
  (k.bW b (Nat.lt_of_lt_of_le hb h.size) λu=>G (J b hb u)).trans (h.bW b hb λu=>G (M b u))⟩
def gJ.then{A:Nat->Prop}{w B u:World}(h:gJ A w B)(k:Ext B u):gJ A w u:=h.trans k (λ_ h=>h) λ_ _ h=>h.elim
def gJ.mono{A B:Nat->Prop}{w w':World}(h:gJ A w w')(u:∀b,A b->B b):gJ B w w':=⟨h.os,h.tape,h.output,h.size,λb hb E=>h.bW b hb λx=>E (u b x)⟩
def Ext.refl(w:World):Ext w w:=gJ.refl _ _
def Ext.trans{w B u:World}(h:Ext w B)(k:Ext B u):Ext w u:=gJ.then h k
def Ext.aG{A:Nat->Prop}{w w':World}(h:Ext w w'):gJ A w w':=h.mono λ_ h=>h.elim
theorem Ext.drew(w:World):Ext w (drew w):=⟨rfl,rfl,rfl,o6 _,λ_ _ _=>rfl⟩
def gJ.below{w w':World}(h:Ext w w'):Go.RowKit.Below w.heap.size w w':=⟨h.os,h.tape,h.output,h.size,λb hb=>h.bW b hb λx=>x⟩
def vL{w:World}{b:Nat}{o:Obj}(h:w.heap[b]?=some o):b<w.heap.size:=(Fu.1 h).1
def nh.lt{w:World}{b:Nat}{cs:List Value}(h:nh w b cs):b<w.heap.size:=vL h.choose_spec
def Cell.lt{w:World}{b o:Nat}{v:Value}(h:Cell w b o v):b<w.heap.size:=by
 unfold Cell T8 at h
 grind
def Cell.of_eq{w w':World}{b o:Nat}{v:Value}(h:Cell w b o v)(u:w'.heap[b]?=w.heap[b]?):Cell w' b o v:=by
 unfold Cell T8 at *
 grind
def nh.of_eq{w w':World}{b:Nat}{cs:List Value}(h:nh w b cs)(u:w'.heap[b]?=w.heap[b]?):nh w' b cs:=by
 grind[nh]
def Cell.aG{A:Nat->Prop}{w w':World}{b o:Nat}{v:Value}(h:Cell w b o v)(hc:gJ A w w')(u:¬ A b):Cell w' b o v:=h.of_eq (hc.bW b h.lt u)
theorem Cell.ext{w w':World}{b o:Nat}{v:Value}(h:Cell w b o v)(hc:Ext w w'):Cell w' b o v:=h.aG hc (λx=>x)
def nh.cell{w:World}{b o:Nat}{cs:List Value}{v:Value}(h:nh w b cs)(B:cs[o]?=some v):Cell w b o v:=by
 obtain⟨u,h⟩:=h
 unfold Cell T8
 grind
def nh.frozen{w:World}{b o:Nat}{cs:List Value}(h:nh w b cs):w.frozen? ⟨b,o,none⟩=false:=by
 obtain⟨u,h⟩:=h
 unfold World.frozen?
 grind
def JL(w:World)(b o:Nat)(v:Value)(k:Nat)(h:k≠b):(w.setCell ⟨b,o,none⟩ v).heap[k]?=w.heap[k]?:=by
 simp only[aa4,QF]
 grind
def nh.setCell{w:World}{b o:Nat}{cs:List Value}(h:nh w b cs)(v:Value):nh (w.setCell ⟨b,o,none⟩ v) b (cs.set o v):=by
 obtain⟨u,h⟩:=h
 refine⟨u,?_⟩
 simp only[aa4,QF,if_true,h]
 simp
def gJ.setCell(w:World)(b o:Nat)(v:Value):gJ (· = b) w (w.setCell ⟨b,o,none⟩ v):=
 ⟨rfl,rfl,rfl,by simp_all,λk _ u=>JL w b o v k u⟩
def push(w:World)(o:Obj):World:={w with heap:=w.heap.push o}
def yG(w:World)(o:Obj)(k:Nat)(h:k<w.heap.size):(push w o).heap[k]?=w.heap[k]?:=by
 grind[push]
def mF(w:World)(o:Obj):(push w o).heap[w.heap.size]?=some o:=by
 grind[push]
theorem CA(w:World)(o:Obj):(push w o).heap.size=w.heap.size+1:=by simp[push]
theorem Ext.push(w:World)(o:Obj):Ext w (push w o):=⟨rfl,rfl,rfl,by rw[CA];omega,λb hb _=>yG w o b hb⟩
theorem nh.push(w:World)(cs:List Value)(u:TypeId):nh (push w (.cells cs.toArray u)) w.heap.size cs:=⟨u,mF _ _⟩
structure HP where
 p:World->(Nat->Prop)->Prop
 loc:∀w w' F,p w F->(∀b,F b->w'.heap[b]?=w.heap[b]?)->p w' F
 lt:∀w F b,p w F->F b->b<w.heap.size
def bW(b:Nat)(cs:List Value):HP where
 p w F:=nh w b cs/\∀k,F k↔k=b
 loc w w' F h hh:=⟨h.1.of_eq (hh b ((h.2 b).2 rfl)),h.2⟩
 lt w F b' h hb:=by rw[(h.2 b').1 hb];exact h.1.lt
def sE(w0:World)(A:Nat->Prop):List HP->World->(Nat->Prop)->Prop
 | [],_,U=>∀b,¬ U b
 | H::L,w,U=>∃F u,H.p w F/\(∀b,F b->A b\/w0.heap.size<=b)/\(∀b,F b->¬ u b)/\(∀b,U b↔F b\/u b)/\sE w0 A L w u
structure St(w0:World)(A:Nat->Prop)(L:List HP)(w:World):Prop where
 aG:gJ A w0 w
 uC:∃U,sE w0 A L w U
theorem sE.lt{w0:World}{A:Nat->Prop}{L:List HP}{w:World}{U:Nat->Prop}(h:sE w0 A L w U):∀b,U b->b<w.heap.size:=by
 induction L generalizing U with
 | nil=>intro b hb;exact(h b hb).elim
 | cons H L u=>
  obtain⟨F,B,h1,h2,h3,h4,h5⟩:=h
  intro b hb
  rcases(h4 b).1 hb with hf|hu
  .exact H.lt _ _ _ h1 hf
  .exact u h5 b hu
theorem sE.loc{w0:World}{A:Nat->Prop}{L:List HP}{w w':World}{U:Nat->Prop}(h:sE w0 A L w U)(u:∀b,U b->w'.heap[b]?=w.heap[b]?):sE w0 A L w' U:=by
 induction L generalizing U with
 | nil=>exact h
 | cons H L E=>
  obtain⟨F,B,h1,h2,h3,h4,h5⟩:=h
  exact⟨F,B,H.loc _ _ _ h1 λb hb=>u b ((h4 b).2 (.inl hb)),h2,h3,h4,E h5 λb hb=>u b ((h4 b).2 (.inr hb))⟩
def St.start(w:World):St w aX [] w:=⟨gJ.refl _ _,aX,λ_ h=>h⟩
def St.begin{w:World}{F:Nat->Prop}{H:HP}(h:H.p w F):St w F [H] w:=
 ⟨gJ.refl _ _,F,F,aX,h,λ_ h=>.inl h,λ_ _ h=>h,λ_=>⟨.inl,λh=>h.elim id λh=>h.elim⟩,λ_ h=>h⟩
theorem St.ext{w0:World}{A:Nat->Prop}{L:List HP}{w w':World}(h:St w0 A L w)(e:Ext w w'):St w0 A L w':=by
 obtain⟨U,u⟩:=h.uC
 exact⟨h.aG.then e,U,u.loc λb hb=>e.bW b (u.lt b hb) λx=>x⟩
theorem St.drew{w0:World}{A:Nat->Prop}{L:List HP}{w:World}(h:St w0 A L w):St w0 A L (drew w):=h.ext (Ext.drew w)
def St.new{w0:World}{A:Nat->Prop}{L:List HP}{w w':World}{H:HP}{F:Nat->Prop}(h:St w0 A L w)(e:Ext w w')(J:H.p w' F)(G:∀b,F b->w.heap.size<=b):St w0 A (H::L) w':=by
 obtain⟨U,M⟩:=(h.ext e).uC
 obtain⟨B,u⟩:=h.uC
 have E:sE w0 A L w' B:=u.loc λb hb=>e.bW b (u.lt b hb) (λx=>x)
 refine⟨(h.ext e).aG,λb=>F b\/B b,F,B,J,λb hb=>.inr ?_,λb hb I=>?_,λb=>Iff.rfl,E⟩
 .exact vt h.aG.size (G b hb)
 have:=u.lt b I;grind
def St.rV{w0:World}{A:Nat->Prop}{L:List HP}{w w':World}{H H':HP}(h:St w0 A (H::L) w)
  (O:∀F,H.p w F->∃B,H'.p w' B/\(∀b,B b->F b\/w.heap.size<=b)/\gJ F w w'):St w0 A (H'::L) w':=by
 obtain⟨U,F,G,h1,h2,h3,h4,h5⟩:=h.uC
 obtain⟨B,J,E,I⟩:=O F h1
 refine⟨h.aG.trans I (λ_ h=>h) λb hb u=>?_,λb=>B b\/G b,B,G,J,λb hb=>?_,λb hb M=>?_,λb=>Iff.rfl,?_⟩
 .grind
 .rcases E b hb with u|u
  .grind
  exact .inr (vt h.aG.size u)
 .rcases E b hb with u|u
  .grind
  have:=h5.lt b M;omega
 exact h5.loc λb hb=>I.bW b (h5.lt b hb) λu=>h3 b u hb
def St.drop{w0:World}{A:Nat->Prop}{L:List HP}{w:World}{H:HP}(h:St w0 A (H::L) w):St w0 A L w:=by
 obtain⟨U,F,u,h1,h2,h3,h4,h5⟩:=h.uC
 exact⟨h.aG,u,h5⟩
def St.swap{w0:World}{A:Nat->Prop}{L:List HP}{w:World}{H H':HP}(h:St w0 A (H::H'::L) w):St w0 A (H'::H::L) w:=by
 obtain⟨U,F,J,h1,h2,h3,h4,E,u,G,B,V,M,I⟩:=h.uC
 refine⟨h.aG,U,E,λb=>F b\/u b,G,B,λb hb=>?_,λb=>?_,F,u,h1,h2,λb hb O=>?_,λb=>Iff.rfl,I⟩
 .grind
 .grind
 grind
def sE.swap{w0:World}{A:Nat->Prop}{L:List HP}{w:World}{H H':HP}{U:Nat->Prop}(h:sE w0 A (H::H'::L) w U):sE w0 A (H'::H::L) w U:=by
 obtain⟨F,J,h1,h2,h3,h4,E,u,G,B,V,M,I⟩:=h
 refine⟨E,λb=>F b\/u b,G,B,λb hb=>?_,λb=>?_,F,u,h1,h2,λb hb O=>?_,λb=>Iff.rfl,I⟩
 .grind
 .grind
 grind
def sE.under{w0:World}{A:Nat->Prop}{L L':List HP}{w:World}{H:HP}{U:Nat->Prop}(u:∀U,sE w0 A L w U->sE w0 A L' w U)(h:sE w0 A (H::L) w U):sE w0 A (H::L') w U:=by
 grind[sE]
theorem sE.pull{w0:World}{A:Nat->Prop}{u B:List HP}{w:World}{H:HP}{U:Nat->Prop}(h:sE w0 A (u++H::B) w U):sE w0 A (H::(u++B)) w U:=by
 induction u generalizing U with
 | nil=>exact h
 | cons X u E=>exact sE.swap (sE.under (λU h=>E h) h)
def St.pull{w0:World}{A:Nat->Prop}{w:World}(u:List HP){H:HP}{B:List HP}(h:St w0 A (u++H::B) w):St w0 A (H::(u++B)) w:=by
 obtain⟨U,E⟩:=h.uC
 exact⟨h.aG,U,E.pull⟩
def St.p1{w0:World}{A:Nat->Prop}{w:World}{u H:HP}{R:List HP}(h:St w0 A (u::H::R) w):St w0 A (H::u::R) w:=St.pull [u] h
def St.p2{w0:World}{A:Nat->Prop}{w:World}{u B H:HP}{R:List HP}(h:St w0 A (u::B::H::R) w):St w0 A (H::u::B::R) w:=St.pull [u,B] h
def St.p3{w0:World}{A:Nat->Prop}{w:World}{B E u H:HP}{R:List HP}(h:St w0 A (B::E::u::H::R) w):St w0 A (H::B::E::u::R) w:=St.pull [B,E,u] h
def St.p4{w0:World}{A:Nat->Prop}{w:World}{E G u B H:HP}{R:List HP}(h:St w0 A (E::G::u::B::H::R) w):St w0 A (H::E::G::u::B::R) w:=St.pull [E,G,u,B] h
def St.p5{w0:World}{A:Nat->Prop}{w:World}{E G u B P4 H:HP}{R:List HP}(h:St w0 A (E::G::u::B::P4::H::R) w):St w0 A (H::E::G::u::B::P4::R) w:=St.pull [E,G,u,B,P4] h
def St.p6{w0:World}{A:Nat->Prop}{w:World}{G I u B P4 E H:HP}{R:List HP}(h:St w0 A (G::I::u::B::P4::E::H::R) w):St w0 A (H::G::I::u::B::P4::E::R) w:=St.pull [G,I,u,B,P4,E] h
def St.p7{w0:World}{A:Nat->Prop}{w:World}{G I u B P4 E P6 H:HP}{R:List HP}(h:St w0 A (G::I::u::B::P4::E::P6::H::R) w):St w0 A (H::G::I::u::B::P4::E::P6::R) w:=St.pull [G,I,u,B,P4,E,P6] h
def St.p8{w0:World}{A:Nat->Prop}{w:World}{G I u B P4 E P6 P7 H:HP}{R:List HP}(h:St w0 A (G::I::u::B::P4::E::P6::P7::H::R) w):St w0 A (H::G::I::u::B::P4::E::P6::P7::R) w:=St.pull [G,I,u,B,P4,E,P6,P7] h
def St.p9{w0:World}{A:Nat->Prop}{w:World}{I J u E P4 G P6 P7 B H:HP}{R:List HP}(h:St w0 A (I::J::u::E::P4::G::P6::P7::B::H::R) w):St w0 A (H::I::J::u::E::P4::G::P6::P7::B::R) w:=St.pull [I,J,u,E,P4,G,P6,P7,B] h
def St.p10{w0:World}{A:Nat->Prop}{w:World}{I J u E P4 G P6 P7 B P9 H:HP}{R:List HP}(h:St w0 A (I::J::u::E::P4::G::P6::P7::B::P9::H::R) w):St w0 A (H::I::J::u::E::P4::G::P6::P7::B::P9::R) w:=St.pull [I,J,u,E,P4,G,P6,P7,B,P9] h
def St.p11{w0:World}{A:Nat->Prop}{w:World}{J M B G P4 I P6 P7 E P9 u H:HP}{R:List HP}(h:St w0 A (J::M::B::G::P4::I::P6::P7::E::P9::u::H::R) w):St w0 A (H::J::M::B::G::P4::I::P6::P7::E::P9::u::R) w:=St.pull [J,M,B,G,P4,I,P6,P7,E,P9,u] h
def St.p12{w0:World}{A:Nat->Prop}{w:World}{J M B I P4 G P6 P7 E P9 u P11 H:HP}{R:List HP}(h:St w0 A (J::M::B::I::P4::G::P6::P7::E::P9::u::P11::H::R) w):St w0 A (H::J::M::B::I::P4::G::P6::P7::E::P9::u::P11::R) w:=St.pull [J,M,B,I,P4,G,P6,P7,E,P9,u,P11] h
def St.p0{w0:World}{A:Nat->Prop}{w:World}{L:List HP}(h:St w0 A L w):St w0 A L w:=h
def St.head{w0:World}{A:Nat->Prop}{L:List HP}{w:World}{H:HP}(h:St w0 A (H::L) w):∃F,H.p w F/\∀b,F b->A b\/w0.heap.size<=b:=by
 obtain⟨U,F,u,h1,h2,_⟩:=h.uC;grind
theorem St.hb{w0:World}{A:Nat->Prop}{L:List HP}{w:World}{b:Nat}{cs:List Value}(h:St w0 A (bW b cs::L) w):nh w b cs:=by
 obtain⟨F,h1,_⟩:=h.head;exact h1.1
def xo:Value->Bool
 | .agg _=>false
 | .tuple _=>false
 | _=>true
def dJ(P:Program)(T:TypeId):Option (Bool×Nat):=
 match P.underlying T with
 | some d=>(P.info? T).map λi=>(match d with|.struct _|.array _ _=>true|_=>false,i.size)
 | none=>none
def aU(P:Program)(T f:Nat):Option (Nat×Option Bool):=
 match P.underlying T with
 | some (.struct B)=>(B[f]?).map λu=>(u.offset,(P.info? u.type).map λi=>i.size != 0)
 | _=>none
def eY(P:Program)(T:TypeId):Option (TypeId×Nat×Nat×Option Nat):=
 match P.underlying T with
 | some (.slice E)=>(P.info? E).map λi=>(E,i.size,i.bytes,i.zero.map λz=>z.cells.size)
 | _=>none
def eD(P:Program)(T:TypeId):Option (Option Value):=(P.info? T).map λi=>i.zero
abbrev XS(P:Program)(T:TypeId):Prop:=dJ P T=some (false,1)
abbrev adW(P:Program)(T:TypeId)(n:Nat):Prop:=dJ P T=some (true,n)
abbrev xp(P:Program)(T f u:Nat):Prop:=aU P T f=some (u,some true)
abbrev W3(P:Program)(T E n bytes:Nat):Prop:=eY P T=some (E,n,bytes,some n)
abbrev oT(P:Program)(T:TypeId)(z:Value):Prop:=eD P T=some (some z)
theorem mG{P:Program}{T:TypeId}{i:TypeInfo}(h:P.info? T=some i):pr P (typeInfo T)=some i:=by
 show pr P (match P.info? T with|some i => pure i|none => stuck "no such type")=_
 rw[h];rfl
theorem cY{P:Program}{T:TypeId}{d:TypeDesc}(h:P.underlying T=some d):pr P (underlying T)=some d:=by
 show pr P (match P.underlying T with|some d => pure d|none => stuck "no such type")=_
 rw[h];rfl
theorem ni{P:Program}{T:TypeId}{i:TypeInfo}(h:P.info? T=some i):pr P (sizeOf T)=some i.size:=by
 unfold sizeOf;rw[cZ,mG h];rfl
theorem vM{P:Program}{α β:Type}(m:Sem α)(f:α->β):pr P (do pure (f (<- m)))=(pr P m).map f:=by
 rw[cZ];cases pr P m<;>rfl
theorem lP{P:Program}{T:TypeId}{a:Bool}{n:Nat}(h:dJ P T=some (a,n)):pr P (isAgg T)=some a/\pr P (sizeOf T)=some n:=by
 unfold dJ at h
 cases hd:P.underlying T with
 | none=>grind
 | some d=>
  rw[hd]at h
  cases hi:P.info? T with
  | none=>grind
  | some i=>
   rw[hi]at h
   simp only[F3,n5.injEq,aaZ.injEq]at h
   obtain⟨h1,h2⟩:=h
   refine⟨?_,by rw[ni hi,h2]⟩
   unfold isAgg
   rw[cZ,cY hd]
   show pr P (match d with|.struct _|.array _ _=>pure true|_=>pure false)=_
   rw[<- h1]
   cases d<;>rfl
theorem fz{P:Program}{T E n u:Nat}{z:Option Nat}(h:eY P T=some (E,n,u,z)) :
  P.underlying T=some (.slice E)/\∃i,P.info? E=some i/\i.size=n/\i.bytes=u/\i.zero.map (λz=>z.cells.size)=z:=by
 unfold eY at h
 split at h
 .rename_i E' hE
  cases hi:P.info? E' with
  | none=>grind
  | some i=>
   grind
 cases h
section
variable {P:Program}{w:World}
theorem pop{m:Sem Value}{v:Value}{K:Value->Prop}(h:pr P m=some v)(k:K v):eX P m K:=⟨v,h,k⟩
theorem aE{a:Addr}{K:Value->Prop}(k:K (.pointer (some a))):eX P (UN (.pointer (some a))) K:=⟨_,rfl,k⟩
theorem bT{b:Bool}{K:Value->Prop}(k:K (.bool (!b))):eX P (Op.unary .not (.bool b)) K:=⟨_,rfl,k⟩
theorem L9{p:Prop}[Decidable p]{K:Value->Prop}(k:K (.bool (decide (¬ p)))):eX P (Op.unary .not (.bool (decide p))) K:=by
 refine bT ?_
 grind
theorem aM{vs:List Value}{i:Nat}{v:Value}{K:Value->Prop}(h:vs[i]?=some v)(k:K v):eX P (Ua (.tuple vs.toArray) i) K:=
 ⟨v,by simp only[Ua,Qq,h];rfl,k⟩
theorem aR{T:Nat}{cx cy:Bool}{a b:Int}{K:Value->Prop}(k:K (.bool (decide (a<b)))):eX P (ke .lss T cx cy (hZ a) (hZ b)) K:=⟨_,rfl,k⟩
theorem gz{T:Nat}{cx cy:Bool}{a b:Int}{K:Value->Prop}(k:K (.bool (decide (a<=b)))):eX P (ke .leq T cx cy (hZ a) (hZ b)) K:=⟨_,rfl,k⟩
theorem cQ{T:Nat}{cx cy:Bool}{a b:Int}{K:Value->Prop}(k:K (.bool (decide (b<a)))):eX P (ke .gtr T cx cy (hZ a) (hZ b)) K:=⟨_,rfl,k⟩
theorem cT{T:Nat}{cx cy:Bool}{a b:Int}{K:Value->Prop}(k:K (.bool (decide (b<=a)))):eX P (ke .geq T cx cy (hZ a) (hZ b)) K:=⟨_,rfl,k⟩
theorem aH{T:Nat}{cx cy:Bool}{a b:Int}{K:Value->Prop}(k:K (.bool (decide (a=b)))):eX P (ke .eql T cx cy (hZ a) (hZ b)) K:=⟨_,rfl,k⟩
theorem bQ{T:Nat}{cx cy:Bool}{a b:Int}{K:Value->Prop}(k:K (.bool (decide (a≠b)))):eX P (ke .neq T cx cy (hZ a) (hZ b)) K:=
 ⟨_,(show pr P (ke .neq T cx cy (hZ a) (hZ b))=some (.bool (decide (a≠b)))from by
  show some (xH (a != b))=_
  grind),k⟩
theorem aO{T:Nat}{cx cy:Bool}{a b:Int}{K:Value->Prop}(h : -9223372036854775808<=a+b/\a+b<=9223372036854775807)(k:K (hZ (a+b))) :
  eX P (ke .add T cx cy (hZ a) (hZ b)) K:=
 ⟨_,(show pr P (ke .add T cx cy (hZ a) (hZ b))=some (hZ (a+b))from by
  show some (nG .i64 (IntKind.i64.wrap (a+b)))=_
  rw[IntWalk.i64_in _ h]),k⟩
theorem ft{T:Nat}{cx cy:Bool}{a b:Int}{K:Value->Prop}(h : -9223372036854775808<=a-b/\a-b<=9223372036854775807)(k:K (hZ (a-b))) :
  eX P (ke .sub T cx cy (hZ a) (hZ b)) K:=
 ⟨_,(show pr P (ke .sub T cx cy (hZ a) (hZ b))=some (hZ (a-b))from by
  show some (nG .i64 (IntKind.i64.wrap (a-b)))=_
  rw[IntWalk.i64_in _ h]),k⟩
theorem El{T:Nat}{cx cy:Bool}{a b:Int}{K:Value->Prop}(h : -9223372036854775808<=a*b/\a*b<=9223372036854775807)(k:K (hZ (a*b))) :
  eX P (ke .mul T cx cy (hZ a) (hZ b)) K:=
 ⟨_,(show pr P (ke .mul T cx cy (hZ a) (hZ b))=some (hZ (a*b))from by
  show some (nG .i64 (IntKind.i64.wrap (a*b)))=_
  rw[IntWalk.i64_in _ h]),k⟩
theorem aC{p:Prop}[Decidable p]{A B:Prop}(h1:p->A)(h2:¬ p->B):zA (.bool (decide p)) A B:=
 ⟨_,rfl,λh=>h1 (g7 h),λh=>h2 (g8 h)⟩
theorem hG{A B:Prop}(h:A):zA (.bool true) A B:=⟨_,rfl,λ_=>h,λh=>by cases h⟩
theorem fx{A B:Prop}(h:B):zA (.bool false) A B:=⟨_,rfl,λh=>(by cases h),λ_=>h⟩
theorem bD{b:Bool}{A B:Prop}(h1:b=true->A)(h2:b=false->B):zA (.bool b) A B:=⟨_,rfl,h1,h2⟩
theorem gx{α:Type}(l:List α){i:Nat}(h:i<l.length):∃x,l[i]?=some x:=⟨_,List.getElem?_eq_getElem h⟩
theorem dQ{a b:Nat}(h:T5 a b=true):a<=b:=E1 h
theorem dO{f:FuncId}{args:List Value}{Φ K:Value->hM}(pl:Plain P f)(h:Calls P f args.toArray w (tQ Φ))(k:∀v w',Φ v w'->K v w') :
  Dm P f args w K:=⟨.inl ⟨pl,h.mono λ_ _ r=>r.mono k⟩⟩
theorem ij{g:FuncId}{args first cap:List Value}{Φ K:Value->hM}(pl:Plain P g)(h:Calls P g (first++args++cap).toArray w (tQ Φ))(k:∀v w',Φ v w'->K v w') :
  kT P (.func (.func g) first.toArray cap.toArray) args w K:=⟨.inl ⟨g,_,_,rfl,pl,by simpa using h.mono λ_ _ r=>r.mono k⟩⟩
theorem apC{f:FuncId}{args:List Value}{Φ Ψ:Value->hM}(h:Calls P f args.toArray w (tQ Φ))(k:∀v w',Φ v w'->Ψ v w'):Calls P f args.toArray w (tQ Ψ):=
 h.mono λ_ _ r=>r.mono k
variable {w0:World}{A:Nat->Prop}{L:List HP}
theorem run_load(a:Addr)(v:Value)(h:w.cell? a=some v):(load a).run P w=.ok v w:=by
 simp_all
theorem gT(b o j:Nat):(Addr.mk b o none).add j=⟨b,o+j,none⟩:=by
 unfold Addr.add;grind
theorem run_loadCellsFrom(b o:Nat):∀(n i:Nat) (u:Array Value) (cs:List Value),cs.length=n->(∀j c,cs[j]?=some c->Cell w b (o+i+j) c)->
  (loadCellsFrom ⟨b,o,none⟩ i n u).run P w=.ok (u++cs.toArray) w:=by
 intro n
 induction n with
 | zero=>intro i u cs B _;obtain rfl:=List.length_eq_zero_iff.1 B;simp[loadCellsFrom]
 | succ n E=>
  intro i u cs B h
  match cs,B with
  | c::cs,B=>
   unfold loadCellsFrom
   rw[eT (run_load _ c (by rw[gT];exact h 0 c rfl))]
   rw[E (i+1) (u.push c) cs dI λj d hd=>by have:=h (j+1) d dI;grind]
   simp
theorem run_loadCells{b o:Nat}{cs:List Value}(h:∀j c,cs[j]?=some c->Cell w b (o+j) c):(loadCells ⟨b,o,none⟩ cs.length).run P w=.ok cs.toArray w:=by
 unfold loadCells
 rw[run_loadCellsFrom b o cs.length 0 #[] cs rfl λj c hc=>dI]
 simp
theorem aF{T:TypeId}{b o:Nat}{v:Value}(ht:XS P T)(h:Cell w b o v):(x6 T (.pointer (some ⟨b,o,none⟩))).run P w=.ok v w:=by
 show(loadVar T ⟨b,o,none⟩).run P w=_
 unfold loadVar
 rw[eT (gn (lP ht).1 w)]
 exact run_load _ v h
theorem Dr{T:TypeId}{b o:Nat}{cs:List Value}(ht:adW P T cs.length)(h:∀j c,cs[j]?=some c->Cell w b (o+j) c) :
  (x6 T (.pointer (some ⟨b,o,none⟩))).run P w=.ok (.agg cs.toArray) w:=by
 show(loadVar T ⟨b,o,none⟩).run P w=_
 unfold loadVar
 rw[eT (gn (lP ht).1 w)]
 simp only[if_true]
 rw[eT (gn (lP ht).2 w),eT (run_loadCells h)]
 rfl
theorem aB{T:TypeId}{b o:Nat}{cs:List Value}{v:Value}{K:Value->Prop}(ht:XS P T)(hb:nh w b cs)(hc:cs[o]?=some v)(k:K v) :
  Lu P (x6 T (.pointer (some ⟨b,o,none⟩))) w K:=⟨v,aF ht (hb.cell hc),k⟩
theorem Ma{T:TypeId}{b n:Nat}{cs:List Value}{K:Value->Prop}(ht:adW P T n)(hb:nh w b cs)(u:cs.length=n)(k:K (.agg cs.toArray)) :
  Lu P (x6 T (.pointer (some ⟨b,0,none⟩))) w K:=by
 subst u
 exact⟨_,Dr ht λj c hc=>by rw[u4];exact hb.cell hc,k⟩
theorem PO{T f u b o:Nat}(ht:xp P T f u):pr P (Gl T (.pointer (some ⟨b,o,none⟩)) f)=some (.pointer (some ⟨b,o+u,none⟩)):=by
 unfold xp aU at ht
 split at ht
 .rename_i fs hfs
  cases hf:fs[f]? with
  | none=>grind
  | some fd=>
   rw[hf]at ht
   simp only[F3,n5.injEq,aaZ.injEq]at ht
   obtain⟨E,G⟩:=ht
   cases hi:P.info? fd.type with
   | none=>grind
   | some i=>
    rw[hi]at G
    have B:i.size≠0:=dI
    unfold Gl
    rw[cZ,cY hfs]
    simp only[mU,hf]
    show pr P (do pure (aa8 (some (<- fieldPlace ⟨b,o,none⟩ fd))))=_
    rw[vM]
    unfold fieldPlace
    rw[cZ,ni hi]
    simp only[mU,ej B,gT,E]
    rfl
 cases ht
theorem aA{T f u b o:Nat}{K:Value->Prop}(ht:xp P T f u)(k:K (.pointer (some ⟨b,o+u,none⟩))) :
  eX P (Gl T (.pointer (some ⟨b,o,none⟩)) f) K:=⟨_,PO ht,k⟩
theorem pfb{T f u b o T2:Nat}{cs:List Value}{v:Value}{K:Value->Prop}(ht:xp P T f u)(h2:XS P T2)(hb:nh w b cs)(hc:cs[o+u]?=some v)(k:K v) :
  eX P (Gl T (.pointer (some ⟨b,o,none⟩)) f) λp=>Lu P (x6 T2 p) w K:=aA ht (aB h2 hb hc k)
theorem JM(T:TypeId)(v:Value):(Ae T v).run P w=.ok (.pointer (some ⟨w.heap.size,0,none⟩)) (push w (.cells v.cells T)):=rfl
theorem St.push{T:TypeId}{cs:List Value}(u:St w0 A L w):St w0 A (bW w.heap.size cs::L) (push w (.cells cs.toArray T)):=
 u.new (Ext.push _ _) (F:=λk=>k=w.heap.size) ⟨nh.push w cs T,λ_=>Iff.rfl⟩ λb hb=>by rw[hb];exact o6 _
theorem nQ{T:TypeId}{v:Value}{K:Value->hM}(u:St w0 A L w)(B:xo v=true)
  (k:∀b w',St w0 A (bW b [v]::L) w'->K (.pointer (some ⟨b,0,none⟩)) w'):ry P (Ae T v) w K:=by
 refine⟨_,_,JM T v,k _ _ ?_⟩
 have:v.cells=[v].toArray:=by cases v<;>first|rfl|cases B
 rw[this]
 exact u.push
theorem nR{T:TypeId}{cs:List Value}{K:Value->hM}(u:St w0 A L w)
  (k:∀b w',St w0 A (bW b cs::L) w'->K (.pointer (some ⟨b,0,none⟩)) w'):ry P (Ae T (.agg cs.toArray)) w K:=
 ⟨_,_,JM T _,k _ _ u.push⟩
theorem gP{T:TypeId}{z:Value}{K:Value->hM}(B:St w0 A L w)(u:oT P T z)(E:xo z=true)
  (k:∀b w',St w0 A (bW b [z]::L) w'->K (.pointer (some ⟨b,0,none⟩)) w'):ry P (QP T true (.tuple #[])) w K:=by
 unfold oT eD at u
 cases hi:P.info? T with
 | none=>rw[hi]at u;cases u
 | some i=>
  rw[hi]at u
  simp only[F3,n5.injEq]at u
  have h1:pr P (zeroValue T)=some z:=by unfold zeroValue;rw[cZ,mG hi];simp only[mU,u];rfl
  refine⟨_,push w (.cells [z].toArray T),?_,k _ _ (B.push (T:=T))⟩
  unfold QP
  rw[eT (gn h1 w)]
  have:z.cells=[z].toArray:=by cases z<;>first|rfl|cases E
  show(do pure (aa8 (some (<- newVar T z))):Sem Value).run P w=_
  unfold newVar
  rw[this]
  rfl
theorem aN{T:TypeId}{cs:List Value}{K:Value->hM}(B:St w0 A L w)(u:oT P T (.agg cs.toArray))
  (k:∀b w',St w0 A (bW b cs::L) w'->K (.pointer (some ⟨b,0,none⟩)) w'):ry P (QP T true (.tuple #[])) w K:=by
 unfold oT eD at u
 cases hi:P.info? T with
 | none=>rw[hi]at u;cases u
 | some i=>
  rw[hi]at u
  simp only[F3,n5.injEq]at u
  have h1:pr P (zeroValue T)=some (.agg cs.toArray):=by unfold zeroValue;rw[cZ,mG hi];simp only[mU,u];rfl
  refine⟨_,push w (.cells cs.toArray T),?_,k _ _ (B.push (T:=T))⟩
  unfold QP
  rw[eT (gn h1 w)]
  rfl
theorem run_store{b o:Nat}{cs:List Value}{v:Value}(hb:nh w b cs)(u:o<cs.length)(B:xo v=true) :
  (store ⟨b,o,none⟩ v).run P w=.ok () (w.setCell ⟨b,o,none⟩ v):=by
 have h1:w.cell? ⟨b,o,none⟩=some cs[o]:=hb.cell (by simp[u])
 have h2:=hb.frozen (o:=o)
 unfold store
 cases v<;>first|cases B|skip
 all_goals
  simp only[Sem.run,h1,h2]
  rfl
theorem Mb{b o:Nat}{cs:List Value}{v:Value}(B:St w0 A (bW b cs::L) w):St w0 A (bW b (cs.set o v)::L) (w.setCell ⟨b,o,none⟩ v):=
 B.rV λF u=>⟨F,⟨u.1.setCell v,u.2⟩,λ_ h=>.inl h,(gJ.setCell w b o v).mono λk E=>(u.2 k).2 E⟩
theorem aT{T:TypeId}{b o:Nat}{cs:List Value}{v:Value}{K:hM}(u:St w0 A (bW b cs::L) w)(ht:XS P T)(E:o<cs.length)(B:xo v=true)
  (k:∀w',St w0 A (bW b (cs.set o v)::L) w'->K w'):WY P (K9 T (.pointer (some ⟨b,o,none⟩)) v) w K:=by
 refine⟨_,?_,k _ (Mb u)⟩
 show(storeVar T ⟨b,o,none⟩ v).run P w=_
 have hc:v.cells = #[v]:=by cases v<;>first|rfl|cases B
 unfold storeVar
 rw[eT (gn (lP ht).2 w),hc]
 simp only[Nr,oi,MV,u4,ne_eq,not_true_eq_false,if_false]
 show(storeCells ⟨b,o,none⟩ [v]).run P w=_
 unfold storeCells
 rw[gT,P1,eT (run_store u.hb E B)]
 rfl
def jo:List Value->Nat->List Value->List Value
 | cs,_,[]=>cs
 | cs,o,v::r=>jo (cs.set o v) (o+1) r
theorem E4{b o:Nat}:∀(vs:List Value) (i:Nat) (cs:List Value) (w:World),St w0 A (bW b cs::L) w->o+i+vs.length<=cs.length->(∀v∈vs,xo v=true)->
  ∃w',(storeCells ⟨b,o,none⟩ vs i).run P w=.ok () w'/\St w0 A (bW b (jo cs (o+i) vs)::L) w':=by
 intro vs
 induction vs with
 | nil=>intro i cs w u _ _;exact⟨w,rfl,u⟩
 | cons v r I=>
  intro i cs w u J B
  have E:o+i+(r.length+1)<=cs.length:=by simpa using J
  have h1:=run_store (P:=P) u.hb (o:=o+i) (v:=v) cO (B v ei)
  obtain⟨w',h2,h3⟩:=I (i+1) (cs.set (o+i) v) _ (Mb u) (by simp;omega) (λx G=>B x (by simp[G]))
  refine⟨w',?_,by rw[show o+(i+1)=o+i+1 from cO]at h3;exact h3⟩
  show(do store ((Addr.mk b o none).add i) v;storeCells ⟨b,o,none⟩ r (i+1):Sem Unit).run P w=_
  rw[gT,eT h1,h2]
theorem E5{T:TypeId}{b o n:Nat}{cs vs:List Value}{K:hM}(u:St w0 A (bW b cs::L) w)(ht:adW P T n)(E:vs.length=n)(G:o+n<=cs.length)(B:∀v∈vs,xo v=true)
  (k:∀w',St w0 A (bW b (jo cs o vs)::L) w'->K w'):WY P (K9 T (.pointer (some ⟨b,o,none⟩)) (.agg vs.toArray)) w K:=by
 subst E
 obtain⟨w',h1,h2⟩:=E4 (P:=P) (o:=o) vs 0 cs w u cO B
 refine⟨w',?_,k w' h2⟩
 show(storeVar T ⟨b,o,none⟩ (.agg vs.toArray)).run P w=_
 unfold storeVar
 rw[eT (gn (lP ht).2 w)]
 simp only[aaU,Nr,ne_eq,not_true_eq_false,if_false]
 exact h1
end
end Go.Fw
namespace Go.Fw
class Flat (α:Type) where
 agg:Bool
 sz:Nat
 enc:α->List Value
 val:α->Value
 pos:0<sz
 len:∀a,(enc a).length=sz
 one:∀a v,v∈enc a->xo v=true
 oE:agg=true->∀a,val a=.agg (enc a).toArray
 oF:agg=false->∀a,enc a=[val a]
instance:Flat Int where
 agg:=false
 sz:=1
 enc n:=[hZ n]
 val n:=hZ n
 pos:=ee
 len _:=rfl
 one a v h:=by rw[v7.1 h];rfl
 oE h:=by cases h
 oF _ _:=rfl
instance:Flat Bool where
 agg:=false
 sz:=1
 enc n:=[.bool n]
 val n:=.bool n
 pos:=ee
 len _:=rfl
 one a v h:=by rw[v7.1 h];rfl
 oE h:=by cases h
 oF _ _:=rfl
instance:Flat ByteArray where
 agg:=false
 sz:=1
 enc n:=[.string n]
 val n:=.string n
 pos:=ee
 len _:=rfl
 one a v h:=by rw[v7.1 h];rfl
 oE h:=by cases h
 oF _ _:=rfl
section
variable {α:Type}[Flat α]
def flat(xs:List α):List Value:=xs.flatMap Flat.enc
theorem kV:flat ([]:List α)=[]:=rfl
theorem kW(x:α)(xs:List α):flat (x::xs)=Flat.enc x++flat xs:=by simp[flat]
theorem gU(xs ys:List α):flat (xs++ys)=flat xs++flat ys:=by simp[flat]
theorem dG(xs:List α):(flat xs).length=xs.length*Flat.sz α:=by
 induction xs with
 | nil=>simp[kV]
 | cons x xs u=>rw[kW,lr,u,Flat.len,oi,Kf];omega
theorem A0{xs:List α}:∀v∈flat xs,xo v=true:=by
 intro v B
 obtain⟨x,_,u⟩:=List.mem_flatMap.1 B
 exact Flat.one x v u
theorem sF{xs:List α}{i j:Nat}{x:α}{c:Value}(u:xs[i]?=some x)(hc:(Flat.enc x)[j]?=some c):(flat xs)[i*Flat.sz α+j]?=some c:=by
 induction xs generalizing i with
 | nil=>simp at u
 | cons y ys B=>
  rw[kW]
  cases i with
  | zero=>
   grind
  | succ i=>
   have:=B (by simpa using u)
   rw[List.getElem?_append_right (by rw[Flat.len,Kf];omega),Flat.len]
   grind
theorem H8(xs:List α)(n:Nat):flat (xs.take n)=(flat xs).take (n*Flat.sz α):=by
 induction xs generalizing n with
 | nil=>simp[kV]
 | cons x xs u=>
  cases n with
  | zero=>simp[kV]
  | succ n=>
   rw[List.take_succ_cons,kW,kW,u,List.take_append,Flat.len]
   have h1:(n+1)*Flat.sz α-Flat.sz α=n*Flat.sz α:=dI
   rw[h1,List.take_of_length_le (i:=(n+1)*Flat.sz α) (l:=Flat.enc x) (by rw[Flat.len,Kf];omega)]
theorem H9(xs:List α)(n:Nat):flat (xs.drop n)=(flat xs).drop (n*Flat.sz α):=by
 induction xs generalizing n with
 | nil=>simp[kV]
 | cons x xs u=>
  cases n with
  | zero=>simp
  | succ n=>
   rw[List.drop_succ_cons,kW,u,List.drop_append,Flat.len]
   have h1:(n+1)*Flat.sz α-Flat.sz α=n*Flat.sz α:=dI
   rw[h1,List.drop_of_length_le (i:=(n+1)*Flat.sz α) (l:=Flat.enc x) (by rw[Flat.len,Kf];omega),vK]
def At(S:Nat->Prop)(w:World)(p:Value)(x:α):Prop:=
 ∃b o,p=.pointer (some ⟨b,o,none⟩)/\S b/\∀j c,(Flat.enc x)[j]?=some c->Cell w b (o+j) c
def dD(S:Nat->Prop)(w:World)(v:Value)(xs:List α):Prop:=
 ∃a cap,v=.slice a xs.length cap/\xs.length<=cap/\((xs=[]/\cap=0)\/∃b o,a=some ⟨b,o,none⟩/\(xs≠[]->S b)/\∀j c,(flat xs)[j]?=some c->Cell w b (o+j) c)
def bE(v:Value)(xs:List α):HP where
 p w F:=(v=.slice none 0 0/\xs=[]/\∀b,¬ F b)\/
  ∃b cap rest,v=.slice (some ⟨b,0,none⟩) xs.length cap/\nh w b (flat xs++rest)/\(xs.length<=cap/\cap*Flat.sz α<=(flat xs++rest).length)/\∀k,F k↔k=b
 loc w w' F h hh:=by
  rcases h with h|⟨b,cap,rest,h1,h2,h3,h4⟩
  .grind
  .exact .inr ⟨b,cap,rest,h1,h2.of_eq (hh b ((h4 b).2 rfl)),h3,h4⟩
 lt w F b h hb:=by
  rcases h with h|⟨u,cap,rest,h1,h2,h3,h4⟩
  .grind
  .rw[(h4 b).1 hb];exact h2.lt
variable {P:Program}{w w0:World}{A S:Nat->Prop}{L:List HP}{xs ys:List α}
theorem At.aG{A:Nat->Prop}{w w':World}{p:Value}{x:α}(h:At S w p x)(hc:gJ A w w')(hd:∀b,S b->¬ A b):At S w' p x:=by
 obtain⟨b,o,h1,h2,h3⟩:=h;exact⟨b,o,h1,h2,λj c u=>(h3 j c u).aG hc (hd b h2)⟩
theorem At.ext{w w':World}{p:Value}{x:α}(h:At S w p x)(hc:Ext w w'):At S w' p x:=h.aG hc λ_ _ h=>h
theorem dD.aG{A:Nat->Prop}{w w':World}{v:Value}(h:dD S w v xs)(hc:gJ A w w')(hd:∀b,S b->¬ A b):dD S w' v xs:=by
 obtain⟨a,cap,h1,h2,h3⟩:=h
 refine⟨a,cap,h1,h2,?_⟩
 rcases h3 with h3|⟨b,o,h3,h4,h5⟩
 .grind
 exact .inr ⟨b,o,h3,h4,λj c u=>(h5 j c u).aG hc (hd b (h4 λh=>by subst h;simp[kV]at u))⟩
theorem dD.ext{w w':World}{v:Value}(h:dD S w v xs)(hc:Ext w w'):dD S w' v xs:=h.aG hc λ_ _ h=>h
theorem dD.mono{u:Nat->Prop}{v:Value}(h:dD S w v xs)(hd:∀b,S b->u b):dD u w v xs:=by
 grind[dD]
theorem dD.nil(S:Nat->Prop)(w:World):dD S w (.slice none 0 0) ([]:List α):=⟨none,0,rfl,o6 _,.inl ⟨rfl,rfl⟩⟩
theorem bE.rd{v:Value}{F:Nat->Prop}(h:(bE v xs).p w F):dD F w v xs:=by
 rcases h with⟨h1,h2,h3⟩|⟨b,cap,rest,h1,h2,h3,h4⟩
 .subst h1 h2;exact dD.nil _ _
 refine⟨_,cap,h1,?_,.inr ⟨b,0,rfl,λ_=>(h4 b).2 rfl,λj c u=>?_⟩⟩
 .exact h3.1
 rw[u4]
 exact h2.cell dI
theorem St.rd{v:Value}(u:St w0 A (bE v xs::L) w):∃S,(∀b,S b->A b\/w0.heap.size<=b)/\dD S w v xs:=by
 obtain⟨F,h1,h2⟩:=u.head;exact⟨F,h2,bE.rd h1⟩
theorem St.dW{v:Value}(u:St w0 A (bE v xs::L) w):dD (λ_=>True) w v xs:=by
 obtain⟨S,_,h⟩:=u.rd;exact h.mono λ_ _=>trivial
theorem St.eK(u:St w0 A L w):St w0 A (bE (.slice none 0 0) ([]:List α)::L) w:=
 u.new (Ext.refl w) (F:=aX) (.inl ⟨rfl,rfl,λ_ h=>h⟩) λ_ h=>h.elim
theorem aD{T:TypeId}{p:Value}{x:α}{K:Value->Prop}(ht:dJ P T=some (Flat.agg α,Flat.sz α))(h:At S w p x)(k:K (Flat.val x)):Lu P (x6 T p) w K:=by
 obtain⟨b,o,rfl,_,h3⟩:=h
 cases ha:Flat.agg α with
 | true=>
  rw[ha]at ht
  refine⟨_,?_,k⟩
  rw[Flat.oE ha x]
  exact Dr (by rw[Flat.len];exact ht) h3
 | false=>
  rw[ha]at ht
  have h1:=Flat.oF ha x
  have u:Flat.sz α=1:=by rw[<- Flat.len x,h1];rfl
  rw[u]at ht
  exact⟨_,aF ht (by have:=h3 0 (Flat.val x) dI;omega),k⟩
theorem St.At{b:Nat}{x:α}(B:St w0 A (Fw.bW b (Flat.enc x)::L) w):Fw.At (λ_=>True) w (.pointer (some ⟨b,0,none⟩)) x:=
 ⟨b,0,rfl,trivial,λj c u=>by rw[u4];exact B.hb.cell u⟩
theorem bX{β:Type}[Flat β]{T f u:Nat}{p:Value}{x:α}(y:β){K:Value->Prop}(ht:xp P T f u)(h:At S w p x)(G:(Flat.enc x)[u]?=some (Flat.val y))(E:Flat.agg β=false)
  (k:∀q,At S w q y->K q):eX P (Gl T p f) K:=by
 obtain⟨b,o,rfl,h2,h3⟩:=h
 refine aA ht (k _ ⟨b,o+u,rfl,h2,λj c B=>?_⟩)
 rw[Flat.oF E]at B
 grind
theorem JN{T R E n u:Nat}{z:Option Nat}{a:Option Addr}{l c:Nat}(ht:eY P T=some (E,n,u,z)):pr P (Builtin.len_ #[T] R [yZ a l c].toArray)=some (hZ l):=by
 show pr P (do
  match <- underlying T,yZ a l c with
  | .string,.string s=>pure (goInt s.size)
  | .array n _,_=>pure (goInt n)
  | .pointer arr,_=>
   let .array n _ <- underlying arr|stuck "len: pointer to array expected"
   pure (goInt n)
  | .slice _,.slice _ n _=>pure (goInt n)
  | .map _ _,.map none|.chan _ _,.chan none=>pure (goInt 0)
  | .map _ _,.map (some r)=>
   let .map entries _ <- getObj r|stuck "len: map expected"
   pure (goInt entries.size)
  | .chan _ _,.chan (some r)=>
   let .chan _ buf _ _ _ timer <- getObj r|stuck "len: channel expected"
   pure (goInt (if timer then 0 else buf.size))
  | _, _ => stuck "len: string, array, pointer to array, slice, map or channel expected")=_
 rw[cZ,cY (fz ht).1]
 rfl
theorem aK{T R E n u:Nat}{z:Option Nat}{v:Value}{K:Value->Prop}(ht:eY P T=some (E,n,u,z))(h:dD S w v xs)(k:K (hZ (xs.length:Int))) :
  eX P (Builtin.len_ #[T] R [v].toArray) K:=by
 obtain⟨a,cap,rfl,_⟩:=h
 exact⟨_,JN ht,k⟩
theorem aQ{T E J:Nat}{z:Option Nat}{v:Value}{i:Int}{x:α}{K:Value->Prop}(ht:eY P T=some (E,Flat.sz α,J,z))(h:dD S w v xs)(V:0<=i)(u:xs[i.toNat]?=some x)
  (k:∀p,At S w p x->K p):eX P (Gt T v (hZ i)) K:=by
 obtain⟨a,cap,rfl,Z,h3⟩:=h
 have Y:i.toNat<xs.length:=(kB.1 u).1
 rcases h3 with⟨rfl,_⟩|⟨b,o,rfl,h4,h5⟩
 .simp at u
 obtain⟨U,I,hi,O,_⟩:=fz ht
 refine⟨.pointer (some ⟨b,o+i.toNat*Flat.sz α,none⟩),?_,k _ ⟨b,_,rfl,h4 dI,λj c G=>?_⟩⟩
 .unfold Gt
  rw[cZ]
  show pr P _=_
  simp only[asIntOf]
  have M:pr P (underlying T)=some (.slice E):=cY U
  have B:pr P (sizeOf E)=some (Flat.sz α):=by rw[ni hi,O]
  simp only[cZ,M,B,mU,fY]
  have W:0<=i/\i<(xs.length:Int):=⟨V,cO⟩
  simp only[ew W,cZ,B,mU,fY,gT]
 have:=h5 (i.toNat*Flat.sz α+j) c (sF u G)
 grind
end
end Go.Fw
namespace Go.Fw
section
variable {α:Type}[Flat α] {P:Program}{w w0:World}{A S:Nat->Prop}{L:List HP}{xs ys:List α}
theorem jt{y:Nat}{i:Int}{code:BoundsCode}(u:0<=i)(h1:i<=y):pr P (aaN (hZ i) y code)=some i.toNat:=by
 unfold aaN
 rw[cZ]
 simp only[asIntOf,fY,mU,ew (show 0<=i/\i<=(y:Int)from⟨u,h1⟩)]
theorem xq{T E sz I:Nat}{z:Option Nat}{a:Option Addr}{n cap l h:Nat}{lo hi:Option Value}(ht:eY P T=some (E,sz,I,z))
  (hb:pr P (wM true n cap lo hi none)=some (l,h,cap)) :
  pr P (n0 T (.slice a n cap) lo hi none)=some (.slice (if cap=l then a else a.map (·.add (l*sz))) (h-l) (cap-l)):=by
 obtain⟨u,G,B,J,_⟩:=fz ht
 unfold n0
 rw[cZ,cY u]
 simp only[mU]
 unfold Instr.slice
 rw[cZ,cY u]
 simp only[mU]
 rw[cZ,hb]
 simp only[mU]
 rw[cZ,ni B,J]
 rfl
theorem oU{n cap l h:Nat}{lo hi:Option Value}(G:lo=none/\l=0\/∃i:Int,lo=some (hZ i)/\0<=i/\l=i.toNat)(E:hi=none/\h=n\/∃i:Int,hi=some (hZ i)/\0<=i/\h=i.toNat)
  (h1:l<=h) (h2:h<=cap):pr P (wM true n cap lo hi none)=some (l,h,cap):=by
 rcases G with⟨rfl,rfl⟩|⟨i,rfl,B,rfl⟩<;>rcases E with⟨rfl,rfl⟩|⟨I,rfl,u,rfl⟩<;>simp only[wM,cZ,fY,mU]
 .rw[jt u cO];rfl
 .rw[jt B cO];rfl
 rw[jt u cO];simp only[mU];rw[jt B cO];rfl
theorem dD.cut{v:Value}{a:Option Addr}{n cap l h:Nat}(E:v=.slice a n cap)(U:dD S w v xs)(h1:l<=h)(h2:h<=xs.length) :
  dD S w (.slice (if cap=l then a else a.map (·.add (l*Flat.sz α))) (h-l) (cap-l)) ((xs.take h).drop l):=by
 obtain⟨V,G,M,W,h3⟩:=U
 rw[M]at E
 simp only[yZ.injEq]at E
 obtain⟨rfl,Z,rfl⟩:=E
 have hlen:((xs.take h).drop l).length=h-l:=by simp;omega
 rcases h3 with⟨B,Y⟩|⟨b,o,rfl,h4,h5⟩
 .subst B
  exact⟨_,G-l,by rw[hlen],ei,.inl ⟨ei,cO⟩⟩
 refine⟨_,G-l,by rw[hlen],cO,.inr ?_⟩
 have O:(xs.take h).drop l≠[]->xs≠[]:=λu I=>u dI
 by_cases u:G=l
 .rw[ew u]
  grind[flat,Cell]
 rw[ej u]
 refine⟨b,o+l*Flat.sz α,by simp[gT],λI=>h4 (O I),λj c J=>?_⟩
 rw[H9,H8,List.getElem?_drop,List.getElem?_take]at J
 grind
theorem SK{T E I:Nat}{z:Option Nat}{v:Value}{lo hi:Option Value}{l h:Nat}{K:Value->Prop}(ht:eY P T=some (E,Flat.sz α,I,z))(G:dD S w v xs)
  (M:lo=none/\l=0\/∃i:Int,lo=some (hZ i)/\0<=i/\l=i.toNat) (J:hi=none/\h=xs.length\/∃i:Int,hi=some (hZ i)/\0<=i/\h=i.toNat)
  (h1:l<=h) (h2:h<=xs.length) (k:∀B,dD S w B ((xs.take h).drop l)->K B):eX P (n0 T v lo hi none) K:=by
 have u:=G
 obtain⟨a,cap,rfl,O,h3⟩:=G
 exact⟨_,xq ht (oU M J h1 cO),k _ (u.cut rfl h1 h2)⟩
theorem ml{T E I:Nat}{z:Option Nat}{v:Value}{i:Int}{K:Value->Prop}(ht:eY P T=some (E,Flat.sz α,I,z))(G:dD S w v xs)(B:0<=i)(h2:i<=xs.length)
  (k:∀u,dD S w u (xs.take i.toNat)->K u):eX P (n0 T v none (some (hZ i)) none) K:=
 SK ht G (.inl ⟨rfl,rfl⟩) (.inr ⟨i,rfl,B,rfl⟩) cO cO λu h=>k u dI
theorem CC{T E I:Nat}{z:Option Nat}{v:Value}{i:Int}{K:Value->Prop}(ht:eY P T=some (E,Flat.sz α,I,z))(G:dD S w v xs)(B:0<=i)(h2:i<=xs.length)
  (k:∀u,dD S w u (xs.drop i.toNat)->K u):eX P (n0 T v (some (hZ i)) none none) K:=
 SK ht G (.inr ⟨i,rfl,B,rfl⟩) (.inl ⟨rfl,rfl⟩) cO cO λu h=>k u dI
theorem nj{b o:Nat}:∀(vs:List Value) (i:Nat) (cs:List Value) (w:World),nh w b cs->o+i+vs.length<=cs.length->(∀v∈vs,xo v=true)->
  ∃w',(storeCells ⟨b,o,none⟩ vs i).run P w=.ok () w'/\nh w' b (jo cs (o+i) vs)/\gJ (· = b) w w':=by
 intro vs
 induction vs with
 | nil=>intro i cs w hb _ _;exact⟨w,rfl,hb,gJ.refl _ _⟩
 | cons v r G=>
  intro i cs w hb I u
  have B:o+i+(r.length+1)<=cs.length:=cO
  have h1:=run_store (P:=P) hb (o:=o+i) (v:=v) cO (u v ei)
  obtain⟨w',h2,h3,h4⟩:=G (i+1) (cs.set (o+i) v) _ (hb.setCell v) (by simp;omega) (λx E=>u x (by simp[E]))
  refine⟨w',?_,by grind[nh,jo],(gJ.setCell w b (o+i) v).trans h4 (λ_ h=>h) λ_ _ h=>h⟩
  show(do store ((Addr.mk b o none).add i) v;storeCells ⟨b,o,none⟩ r (i+1):Sem Unit).run P w=_
  rw[gT,eT h1,h2]
theorem mH(pre u post vs:List Value)(h:u.length=vs.length):jo (pre++u++post) pre.length vs=pre++vs++post:=by
 induction vs generalizing pre u with
 | nil=>grind[jo]
 | cons v r B=>
  match u,h with
  | m::u,h=>
   have e:(pre++(m::u)++post).set pre.length v=(pre++[v])++u++post:=ei
   simp only[jo,e]
   have:=B (pre++[v]) u dI
   simp_all
theorem yH{sz:Nat}{v:Value}(u:sz=Flat.sz α)(h:dD S w v ys):(Builtin.firstCells sz ys.length v).run P w=.ok (flat ys).toArray w:=by
 subst u
 obtain⟨a,cap,rfl,_,h3⟩:=h
 rcases h3 with⟨rfl,_⟩|⟨b,o,rfl,_,h5⟩
 .cases a with
  | none=>rfl
  | some a=>simp[Builtin.firstCells,loadCells,loadCellsFrom,kV]
 have:=run_loadCells (P:=P) h5
 rw[dG]at this
 exact this
theorem sm{b o:Nat}{cs:List Value}(h:∀j c,cs[j]?=some c->Cell w b (o+j) c):∀j v,cs[j]?=some v->w.cell? ((⟨b,o,none⟩:Addr).add j)=some v:=λj v u=>by
 rw[gT];exact h j v u
theorem Dt{T E kQ R:Nat}{v src:Value}{F:Nat->Prop}(ht:W3 P T E (Flat.sz α) kQ)(hv:(bE v xs).p w F)(uZ:dD S w src ys)
  (hn:xs.length+ys.length<=17592186044416) (G:(xs.length+ys.length)*kQ<=140737488355328) :
  ∃v' w' F',(Builtin.append_ #[T,T] R [v,src].toArray).run P w=.ok v' w'/\(bE v' (xs++ys)).p w' F'/\(∀b,F' b->F b\/w.heap.size<=b)/\gJ F w w':=by
 obtain⟨hu,u,hi,Y,xr,W⟩:=fz ht
 obtain⟨zv,B,hzs⟩:∃zv,u.zero=some zv/\zv.cells.size=Flat.sz α:=by
  cases U4:u.zero with
  | none=>rw[U4]at W;cases W
  | some zv=>rw[U4]at W;exact⟨zv,rfl,by simpa using W⟩
 have hmul:(xs.length+ys.length)*u.bytes<=140737488355328:=by rw[show u.bytes=kQ by omega];exact G
 have made:∀(cap:Nat),cap<xs.length+ys.length->
   (bE (.slice (some ⟨w.heap.size,0,none⟩) (xs.length+ys.length) (grownCap w (xs.length+ys.length) cap E)) (xs++ys)).p
    (w.drew.alloc (.cells ((flat xs).toArray++(flat ys).toArray++Builtin.zeroCells zv.cells (grownCap w (xs.length+ys.length) cap E-(xs.length+ys.length))) E)) (λk=>k=w.heap.size):=by
  intro cap hc
  have PQ:=grownCap_ge w (xs.length+ys.length) cap E
  refine .inr ⟨w.heap.size,grownCap w (xs.length+ys.length) cap E,(Builtin.zeroCells zv.cells (grownCap w (xs.length+ys.length) cap E-(xs.length+ys.length))).toList,ei,⟨E,?_⟩,?_,λ_=>Iff.rfl⟩
  .have:=mF w.drew (.cells ((flat xs).toArray++(flat ys).toArray++Builtin.zeroCells zv.cells (grownCap w (xs.length+ys.length) cap E-(xs.length+ys.length))) E)
   refine Eq.trans this ?_
   congr 2
   apply aa0
   simp[gU]
  .refine⟨by rw[lr];exact PQ,AH (Eq.symm ?_)⟩
   have e:(Builtin.zeroCells zv.cells (grownCap w (xs.length+ys.length) cap E-(xs.length+ys.length))).toList.length=(grownCap w (xs.length+ys.length) cap E-(xs.length+ys.length))*Flat.sz α:=by
    rw[Od,size_zeroCells,hzs]
   rw[lr,e,dG,lr,<- T9]
   congr 1
   omega
 have J:∀o,gJ F w (w.drew.alloc o):=λo=>⟨rfl,rfl,rfl,ei,λb hb _=>yG w.drew o b hb⟩
 have rd:=uZ
 obtain⟨sa,Hu,rfl,XT,O⟩:=rd
 rcases hv with⟨rfl,rfl,Z⟩|⟨b,cap,rest,rfl,hb,U,Z⟩
 ·
  simp only[MV,u4,vK]at *
  by_cases G:ys=[]
  .subst G
   refine⟨.slice none 0 0,w,F,?_,.inl ⟨rfl,rfl,Z⟩,λb hb=>.inl hb,gJ.refl _ _⟩
   cases sa<;>simp[Builtin.append_,run_underlying hu,sizeOf,typeInfo,hi,Builtin.lenOf,Builtin.firstCells,loadCells,loadCellsFrom]
  have A3:0<ys.length:=List.length_pos_iff.2 G
  rcases O with⟨h,_⟩|⟨b,o,rfl,_,W4⟩
  .exact absurd h G
  have M:=run_append_nil (P:=P) w T R E u zv hu hi B ⟨b,o,none⟩ ys.length Hu (flat ys) (by rw[dG,Y]) (sm W4) A3 cO cO
  refine⟨_,_,λk=>k=w.heap.size,M,?_,λk I=>.inr (by rw[I];exact o6 _),J _⟩
  have:=made 0 A3
  simpa[kV]using this
 have A1:xs.length<=cap:=U.1
 replace U:=U.2
 by_cases V:xs.length+ys.length<=cap
 ·
  have U5:(xs.length+ys.length)*Flat.sz α<=cap*Flat.sz α:=Ce _ V
  have uD:(flat xs).length=xs.length*Flat.sz α:=dG xs
  have AU:(flat ys).length<=rest.length:=by
   rw[lr,uD]at U;rw[dG];rw[T9]at U5;omega
  obtain⟨w',h1,h2,h3⟩:=nj (P:=P) (o:=xs.length*Flat.sz α) (flat ys) 0 (flat xs++rest) w hb (by rw[lr,uD];omega) A0
  have Hp:jo (flat xs++rest) (xs.length*Flat.sz α+0) (flat ys)=flat (xs++ys)++rest.drop (flat ys).length:=by
   have:=mH (flat xs) (rest.take (flat ys).length) (rest.drop (flat ys).length) (flat ys) (by simp;omega)
   rw[uD]at this
   rw[P1,gU]
   rw[<- this]
   simp
  rw[Hp]at h2
  refine⟨.slice (some ⟨b,0,none⟩) (xs.length+ys.length) cap,w',F,?_,.inr ⟨b,cap,_,ei,h2,?_,Z⟩,λb hb=>.inl hb,h3.mono λk I=>(Z k).2 I⟩
  .have hf:=yH (α:=α) (P:=P) (sz:=Flat.sz α) rfl uZ
   have uE:(⟨b,0,none⟩:Addr).add (xs.length*Flat.sz α)=⟨b,xs.length*Flat.sz α,none⟩:=by rw[gT,u4]
   simp[Builtin.append_,run_underlying hu,sizeOf,typeInfo,hi,Builtin.lenOf,V,hf,Y,uE,h1]
  refine⟨by rw[lr];exact V,vt U (AH ?_)⟩
  rw[lr,lr,gU,lr,List.length_drop];omega
 -- a new row
 have M:=run_append_grow (P:=P) w T R E u zv hu hi B ⟨b,0,none⟩ xs.length cap (flat xs) (by rw[dG,Y])
  (sm λj c hj=>by rw[u4];exact hb.cell (by rw[u3 (kB.1 hj).1];exact hj))
 rcases O with⟨h,_⟩|⟨b',o,rfl,_,W4⟩
 .subst h;simp at V;omega
 have M:=M ⟨b',o,none⟩ ys.length Hu (flat ys) (by rw[dG,Y]) (sm W4) cO cO (growslice_fits cO hmul)
 exact⟨_,_,λk=>k=w.heap.size,M,made cap cO,λk I=>.inr (by rw[I];exact o6 _),J _⟩
theorem ajw{T E I R:Nat}{v src:Value}{F:Nat->Prop}(ht:W3 P T E (Flat.sz α) I)(M:(bE v xs).p w F)(J:dD S w src ys)
  (O:xs.length+ys.length<=1073741824) (u:I<=8192) :
  ∃B w' G,(Builtin.append_ #[T,T] R [v,src].toArray).run P w=.ok B w'/\(bE B (xs++ys)).p w' G/\(∀b,G b->F b\/w.heap.size<=b)/\gJ F w w':=
 Dt ht M J cO (by have:=RX O u;omega)
theorem Mc{T E I R:Nat}{v src:Value}{K:Value->hM}(G:St w0 A (bE v xs::L) w)(ht:W3 P T E (Flat.sz α) I)(Y:dD S w src ys)
  (hn:xs.length+ys.length<=17592186044416) (hm:(xs.length+ys.length)*I<=140737488355328) (k:∀B w',St w0 A (bE B (xs++ys)::L) w'->K B w'):ry P (Builtin.append_ #[T,T] R [v,src].toArray) w K:=by
 obtain⟨U,F,J,h1,h2,h3,h4,h5⟩:=G.uC
 obtain⟨B,w',V,g1,Z,W,M⟩:=Dt (R:=R) ht h1 Y hn hm
 refine⟨B,w',g1,k B w' ?_⟩
 refine⟨G.aG.trans M (λ_ h=>h) λb hb u=>(h2 b u).elim id λhh=>cO,λb=>V b\/J b,V,J,Z,λb hb=>?_,λb hb O=>?_,λb=>Iff.rfl,?_⟩
 .rcases W b hb with u|u
  .exact h2 b u
  exact .inr (vt G.aG.size u)
 .rcases W b hb with u|u
  .exact h3 b u O
  have:=h5.lt b O;omega
 exact h5.loc λb hb=>M.bW b (h5.lt b hb) λu=>h3 b u hb
theorem bI{T E B R:Nat}{v src:Value}{K:Value->hM}(J:St w0 A (bE v xs::L) w)(ht:W3 P T E (Flat.sz α) B)(I:dD S w src ys)
  (M:xs.length+ys.length<=1073741824) (u:B<=8192) (k:∀G w',St w0 A (bE G (xs++ys)::L) w'->K G w'):ry P (Builtin.append_ #[T,T] R [v,src].toArray) w K:=
 Mc J ht I cO (by have:=RX M u;omega) k
end
end Go.Fw
namespace Go.Fw
section
variable {α:Type}[Flat α] {P:Program}{w w0:World}{A S:Nat->Prop}{L:List HP}{xs ys:List α}
theorem qk(x:α):(Flat.val x).cells=(Flat.enc x).toArray:=by
 cases h:Flat.agg α with
 | true=>rw[Flat.oE h];rfl
 | false=>
  have h1:=Flat.oF h x
  have h2:=Flat.one x (Flat.val x) dI
  rw[h1]
  revert h2
  cases Flat.val x<;>simp[xo,aaU]
theorem PR(cs:List Value)(o:Nat)(v:Value)(r:List Value):jo cs o (v::r)=jo (cs.set o v) (o+1) r:=rfl
theorem Md(u:Nat):∀(l:List Value) (k:Nat) (cs:Array Value),((l.zipIdx k).foldl (fun (cs:Array Value) q=>cs.setIfInBounds (u+q.2) q.1) cs).toList=jo cs.toList (u+k) l:=by
 intro l
 induction l with
 | nil=>intro k cs;rfl
 | cons v r B=>
  intro k cs
  rw[aaQ,List.foldl_cons,B (k+1),PR]
  grind
theorem JP(u:Nat)(l:List Value)(cs:Array Value) :
  (l.toArray.zipIdx.foldl (fun (cs:Array Value) (q:Value×Nat)=>match q with|(c,j)=>cs.setIfInBounds (u+j) c) cs).toList=jo cs.toList u l:=by
 rw[<- YD]
 have e:l.toArray.zipIdx.toList=l.zipIdx 0:=ei
 rw[e]
 exact Md u l 0 cs
theorem U6:∀(xs:List α) (k:Nat) (pre u:List Value),pre.length=k*Flat.sz α->u.length=xs.length*Flat.sz α->
  YK (λi=>some (i*Flat.sz α,Flat.sz α)) (pre++u).toArray ((xs.zipIdx k).map λq=>(q.2,Flat.val q.1))=some (pre++flat xs).toArray:=by
 intro xs
 induction xs with
 | nil=>intro k pre u _ B;simp at B;subst B;simp[YK,kV]
 | cons x xs G=>
  intro k pre u E B
  rw[aaQ,List.map_cons]
  unfold YK
  dsimp only
  have I:(Flat.val x).cells.size=Flat.sz α:=by rw[qk];simp[Flat.len]
  have J:u.length=xs.length*Flat.sz α+Flat.sz α:=dI
  rw[ej dI]
  have e:((Flat.val x).cells.zipIdx.foldl (fun (cs:Array Value) (q:Value×Nat)=>match q with|(c,j)=>cs.setIfInBounds (k*Flat.sz α+j) c) (pre++u).toArray) =
    ((pre++Flat.enc x)++u.drop (Flat.sz α)).toArray:=by
   apply aa0
   rw[qk,JP]
   have h1:=mH pre (u.take (Flat.sz α)) (u.drop (Flat.sz α)) (Flat.enc x) (by simp[Flat.len];omega)
   simp_all
  rw[e]
  have:=G (k+1) (pre++Flat.enc x) (u.drop (Flat.sz α)) (by rw[lr,E,Flat.len,Kf]) dI
  rw[this,kW,nK]
theorem aV{T E O n:Nat}{parts:List (Nat×Value)}{K:Value->hM}(xs:List α)(hs:St w0 A L w)(ht:W3 P T E (Flat.sz α) O)(Y:xs.length=n)
  (U:parts=xs.zipIdx.map λq=>(q.2,Flat.val q.1)) (hl:xs.length*Flat.sz α<=16777216) (k:∀v w',St w0 A (bE v xs::L) w'->K v w') :
  ry P (LU T n parts.toArray) w K:=by
 subst Y
 obtain⟨W,u,hi,V,xr,G⟩:=fz ht
 obtain⟨zv,I,M⟩:∃zv,u.zero=some zv/\zv.cells.size=Flat.sz α:=by
  cases U4:u.zero with
  | none=>rw[U4]at G;cases G
  | some zv=>rw[U4]at G;exact⟨zv,rfl,by simpa using G⟩
 have es:pr P (sizeOf E)=some (Flat.sz α):=by rw[ni hi,V]
 have Z:pr P (zeroValue E)=some zv:=by unfold zeroValue;rw[cZ,mG hi];simp only[mU,I];rfl
 refine⟨.slice (some ⟨w.heap.size,0,none⟩) xs.length xs.length,push w (.cells (flat xs).toArray E),?_,k _ _ ?_⟩
 .have B:∀z:Array Value,YK (λi=>some (i*Flat.sz α,Flat.sz α)) ((ab1 (xs.length*Flat.sz α)).map (z[· % z.size]!)) parts=some (flat xs).toArray:=by
   intro z
   have:=U6 xs 0 [] ((ab1 (xs.length*Flat.sz α)).map (z[· % z.size]!)).toList ei ei
   rw[U]
   rw[vK,vK,QU]at this
   exact this
  unfold LU
  rw[eT (gn (cY W) w)]
  dsimp only
  rw[eT (gn es w),ej cO]
  by_cases J:xs.length*Flat.sz α=0
  .simp only[ew J]
   rw[eT (run_pure _ w),B]
   rfl
  simp only[ej J]
  rw[eT (gn Z w),eT (run_pure _ w),B]
  rfl
 refine hs.new (Ext.push _ _) (F:=λk=>k=w.heap.size) (.inr ⟨w.heap.size,xs.length,[],rfl,⟨E,?_⟩,⟨o6 _,by simp[dG]⟩,λ_=>Iff.rfl⟩) λb hb=>by rw[hb];exact o6 _
 rw[oO];exact mF _ _
theorem xt(z:α)(n:Nat):(madeCells (Flat.enc z).toArray (n*Flat.sz α)).toList=flat (r6 n z):=by
 apply List.ext_getElem?
 intro i
 have u:=Flat.pos (α:=α)
 by_cases hi:i<n*Flat.sz α
 .have h1:i / Flat.sz α<n:=by rw[Nat.div_lt_iff_lt_mul u];exact hi
  have h2:i % Flat.sz α<(Flat.enc z).length:=by rw[Flat.len];exact Nat.mod_lt _ u
  have:=sF (xs:=r6 n z) (i:=i / Flat.sz α) (j:=i % Flat.sz α) (x:=z) (c:=(Flat.enc z)[i % Flat.sz α]) (by simp[h1]) (by simp[h2])
  rw[Nat.div_add_mod' i (Flat.sz α)]at this
  rw[this]
  unfold madeCells
  simp[hi,Flat.len]
  grind
 have E:(madeCells (Flat.enc z).toArray (n*Flat.sz α)).toList[i]?=none:=by
  rw[Dp,Od,size_madeCells];omega
 have B:(flat (r6 n z))[i]?=none:=by
  rw[Dp,dG,E2];omega
 rw[E,B]
theorem xu{T E G:Nat}{n:Int}{K:Value->hM}(z:α)(V:St w0 A L w)(ht:W3 P T E (Flat.sz α) G)(B:oT P E (Flat.val z))(I:0<=n)(h1:n<=1073741824)(M:G<=8192)
  (k:∀v w',St w0 A (bE v (r6 n.toNat z)::L) w'->K v w'):ry P (OS T (hZ n) (hZ n)) w K:=by
 obtain⟨U,u,hi,O,W,_⟩:=fz ht
 unfold oT eD at B
 rw[hi]at B
 simp only[F3,n5.injEq]at B
 have hb:(u.bytes:Int)*n<=281474976710656:=by
  have h2:(u.bytes:Int)<=8192:=cO
  have h3:(u.bytes:Int)*n<=8192*n:=Int.mul_le_mul_of_nonneg_right h2 I
  omega
 have J:=run_make (P:=P) w T E u (Flat.val z) U hi B .i64 .i64 n n I (Int.le_refl _) hb cO
 rw[O,qk]at J
 refine⟨_,_,J,k _ _ ?_⟩
 refine V.new (w':=w.alloc (.cells (madeCells (Flat.enc z).toArray (n.toNat*Flat.sz α)) E)) ⟨rfl,rfl,rfl,ei,λb hb _=>yG w _ b hb⟩ (F:=λk=>k=w.heap.size)
  (.inr ⟨w.heap.size,n.toNat,[],ei,⟨E,?_⟩,⟨ei,by rw[oO,dG,E2];exact o6 _⟩,λ_=>Iff.rfl⟩) λb hb=>by rw[hb];exact o6 _
 rw[oO,<- xt]
 have:=mF w (.cells (madeCells (Flat.enc z).toArray (n.toNat*Flat.sz α)) E)
 rw[QU]
 exact this
def Ia(α:Type)[Flat α](v:Value)(i:Nat)(p:Value):Prop:=∃b n c,v=.slice (some ⟨b,0,none⟩) n c/\p=.pointer (some ⟨b,i*Flat.sz α,none⟩)
theorem dT{T E G:Nat}{z:Option Nat}{v:Value}{i:Int}{K:Value->Prop}(U:St w0 A (bE v xs::L) w)(ht:eY P T=some (E,Flat.sz α,G,z))(O:0<=i)(h1:i<xs.length)
  (k:∀p,Ia α v i.toNat p->K p):eX P (Gt T v (hZ i)) K:=by
 obtain⟨F,h,_⟩:=U.head
 rcases h with⟨rfl,rfl,_⟩|⟨b,cap,rest,rfl,hb,V,_⟩
 .simp at h1;omega
 obtain⟨M,B,hi,J,_⟩:=fz ht
 refine⟨.pointer (some ⟨b,i.toNat*Flat.sz α,none⟩),?_,k _ ⟨b,_,_,rfl,rfl⟩⟩
 unfold Gt
 have I:pr P (underlying T)=some (.slice E):=cY M
 have u:pr P (sizeOf E)=some (Flat.sz α):=by rw[ni hi,J]
 simp only[asIntOf,cZ,I,u,mU,fY]
 simp only[ew (show 0<=i/\i<(xs.length:Int)from⟨O,h1⟩),cZ,u,mU,fY,gT,u4]
theorem sn{v:Value}{F:Nat->Prop}{i:Nat}(h:(bE v xs).p w F)(hi:i<xs.length):∃b cap rest,v=.slice (some ⟨b,0,none⟩) xs.length cap/\nh w b (flat xs++rest)/\(xs.length<=cap/\cap*Flat.sz α<=(flat xs++rest).length)/\∀k,F k↔k=b:=by
 rcases h with⟨rfl,rfl,_⟩|h
 .simp at hi
 exact h
theorem gq{T:Nat}{v p:Value}{i:Nat}{x:α}{K:Value->Prop}(J:St w0 A (bE v xs::L) w)(ht:dJ P T=some (Flat.agg α,Flat.sz α))(I:Ia α v i p)(B:xs[i]?=some x)(k:K (Flat.val x)) :
  Lu P (x6 T p) w K:=by
 obtain⟨F,h,_⟩:=J.head
 obtain⟨b,cap,rest,G,hb,O,_⟩:=sn h (kB.1 B).1
 obtain⟨M,n,c,u,rfl⟩:=I
 rw[G]at u
 simp only[yZ.injEq,n5.injEq,Addr.mk.injEq]at u
 obtain⟨⟨rfl,_,_⟩,_,_⟩:=u
 refine aD (S:=λ_=>True) ht ⟨b,i*Flat.sz α,rfl,trivial,λj c E=>hb.cell ?_⟩ k
 have:=sF B E
 rw[u3 (kB.1 this).1];exact this
theorem Me{i:Nat}(y:α)(h:i<xs.length):flat (xs.set i y)=flat (xs.take i)++Flat.enc y++flat (xs.drop (i+1)):=by
 rw[List.set_eq_take_append_cons_drop,ew h,gU,kW,nK]
theorem z9{i:Nat}{x:α}(h:xs[i]?=some x):flat xs=flat (xs.take i)++Flat.enc x++flat (xs.drop (i+1)):=by
 have hi:=(kB.1 h).1
 have:xs=xs.take i++x::xs.drop (i+1):=by
  rw[<- (kB.1 h).2,List.getElem_cons_drop,List.take_append_drop]
 conv=>lhs;rw[this]
 rw[gU,kW,nK]
theorem PU{T:Nat}{v p:Value}{i:Nat}{F:Nat->Prop}(y:α)(h:(bE v xs).p w F)(ht:dJ P T=some (Flat.agg α,Flat.sz α))(G:Ia α v i p)(hi:i<xs.length) :
  ∃w',(K9 T p (Flat.val y)).run P w=.ok () w'/\(bE v (xs.set i y)).p w' F/\gJ F w w':=by
 obtain⟨b,cap,rest,E,hb,V,B⟩:=sn h hi
 obtain⟨W,n,c,u,rfl⟩:=G
 rw[E]at u
 simp only[yZ.injEq,n5.injEq,Addr.mk.injEq]at u
 obtain⟨⟨rfl,_,_⟩,_,_⟩:=u
 have O:xs[i]?=some xs[i]:=by simp[hi]
 have I:=z9 O
 have M:(flat (xs.take i)).length=i*Flat.sz α:=by rw[dG,List.length_take,Nat.min_eq_left cO]
 have hlen:i*Flat.sz α+Flat.sz α<=(flat xs).length:=by
  rw[dG,<- Kf];exact Ce _ hi
 obtain⟨w',h1,h2,h3⟩:=nj (P:=P) (o:=i*Flat.sz α) (Flat.enc y) 0 (flat xs++rest) w hb (by rw[Flat.len,lr];omega) (Flat.one y)
 have J:jo (flat xs++rest) (i*Flat.sz α+0) (Flat.enc y)=flat (xs.set i y)++rest:=by
  have:=mH (flat (xs.take i)) (Flat.enc xs[i]) (flat (xs.drop (i+1))++rest) (Flat.enc y) (by rw[Flat.len,Flat.len])
  rw[M]at this
  rw[P1,Me y hi,I]
  grind
 rw[J]at h2
 refine⟨w',?_,.inr ⟨b,cap,rest,dI,h2,?_,B⟩,h3.mono λk U=>(B k).2 U⟩
 .show(storeVar T ⟨b,i*Flat.sz α,none⟩ (Flat.val y)).run P w=_
  unfold storeVar
  rw[eT (gn (lP ht).2 w),qk]
  simp only[Nr,Flat.len,ne_eq,not_true_eq_false,if_false]
  exact h1
 rw[lr,dG]at V |-;grind
theorem jA{T:Nat}{v p:Value}{i:Nat}{K:hM}(y:α)(E:St w0 A (bE v xs::L) w)(ht:dJ P T=some (Flat.agg α,Flat.sz α))(J:Ia α v i p)(hi:i<xs.length)
  (k:∀w',St w0 A (bE v (xs.set i y)::L) w'->K w'):WY P (K9 T p (Flat.val y)) w K:=by
 obtain⟨U,F,I,h1,h2,h3,h4,h5⟩:=E.uC
 obtain⟨w',M,G,B⟩:=PU y h1 ht J hi
 refine⟨w',M,k w' ⟨E.aG.trans B (λ_ h=>h) λb hb u=>(h2 b u).elim id λO=>cO,U,F,I,G,h2,h3,h4,h5.loc λb hb=>B.bW b (h5.lt b hb) λu=>h3 b u hb⟩⟩
end
end Go.Fw
