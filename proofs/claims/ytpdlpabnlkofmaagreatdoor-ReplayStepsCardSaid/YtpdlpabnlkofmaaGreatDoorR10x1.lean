/-
  Part 1.
-/
import Derived.Test.YtpdlpabnlkofmaaGreatDoorProg
import Derived.Orders
import Derived.Tactics
import Derived.OrdersIn
import Derived.TacticsIn
import Derived.RangeFuncSeq
import Derived.RangeFuncLeaves
import Derived.Laws.Sem
import Derived.KernelRfl
import Derived.Below
import Derived.IntWalk
import Derived.Laws.AppendOwn
import Derived.Laws.MakeOwn
import Derived.WalkKit
import Derived.ProofKit
import Derived.OpenShut
import Derived.ChangeCalls
import Derived.Laws.Strings
import Derived.Lib.ConvBytes
import Derived.MapKept
import Derived.Maps.RangeRun
import Derived.Lib.AppendZeros
import Derived.LaidMore
import Derived.Lay
import Derived.SevenTiedAt
import Derived.Stop.Joined
set_option maxHeartbeats 8000000
set_option linter.all false
set_option maxRecDepth 100000
namespace Go
def bL{p:Prop}(h:p:=by omega):p:=h
def cH{p:Prop}(h:p:=by grind):p:=h
def cZ{p:Prop}(h:p:=by decide):p:=h
def ea{p:Prop}(h:p:=by simp):p:=h
def eb:=@if_neg
def ee:=@if_pos
def ei:=@decide_eq_true
def ej:=@decide_eq_false
def ew:=@decide_eq_decide
def ez:=@congrArg
def fK:=@of_decide_eq_true
def gL:=@of_decide_eq_false
def gM:=@Classical.byContradiction
noncomputable abbrev g6:=Proofs.Tryz.prog
abbrev g7:=World->Prop
abbrev hH(i:Int):Value:=.int .i64 i
end Go
open ByteArray renaming mk->hZ
open List renaming getElem?_eq_some_iff->ir,length_append->kH,append_assoc->mX,length_cons->n5,mem_cons_self->ob,append_nil->oj,mem_cons_of_mem->o4,replicate->po,mem_cons->sk,mem_singleton->sM,getElem?_append_left->s4,nil_append->x6,map_congr_left->yX,getElem?_eq_none_iff->A4,length_replicate->Ce,length_nil->Ei,all_eq_true->EL,size_toArray->Lr,getElem?_toArray->Pp,mem_filterMap->Rb,zipIdx_cons->aaW
open Go.Instr renaming build->l0,sliceAt->nn,index->tU,sliceBounds->vd,loadAt->wO,box->yg,fieldAt->E3,indexAt->E4,storeAt->JX,buildSlice->Ku,makeSlice->MX,alloc->P0,extract->S5,fill->ZK,sliceBound->aaV
open Option renaming bind_some->l2,some->n3,map_some->DY
open Go.Value renaming int->mn,bool->vX,slice->ye,cells->abb,pointer->abD
open Bool renaming and_eq_true->nS,not_eq_true'->qm,or_eq_true->wH,true_and->Av,not_false->N9
open Nat renaming le_refl->o5,zero_add->ta,le_trans->tx,le_of_eq->zq,mul_le_mul_right->zC,beq->A8,le_of_ble_eq_true->Bz,land->H3,succ_mul->I2,shiftLeft->J3,add_zero->Lm,lor->NW,eq_of_beq_eq_true->Pq,testBit_two_pow->Qm,one_shiftLeft->S2,ble->S3,testBit_or->Xb,add_mul->Xc,mul_le_mul->Xu,blt->abz
open Array renaming getD_eq_getD_getElem?->Ck,getElem?_eq_some_iff->Cq,getElem?_modify->Pu,toArray_toList->P2,length_toList->Q2,empty_append->ZD,foldl_toList->ZJ,range->abM,ext'->abO
open Go.World renaming cell?->S4,setCell->abC
open Prod renaming mk->abA
open Go.Code renaming region->abL
open Classical renaming choose->abQ
namespace Go.Fw
abbrev Env:=Nat->Value
def ev(e:Env):Operand->Value
 | .tmp t=>e t
 | .const v=>v
 | .global g=>.pointer (some ⟨g,0,none⟩)
 | .func f=>.func (.func f) #[] #[]
def zL(e:Env)(d:Nat)(v:Value):Env:=λi=>bif A8 i d then v else e i
def jI(e:Env)(d:Option Nat)(v:Value):Env:=match d with|some d=>zL e d v|none=>e
theorem m9(e:Env)(d:Nat)(v:Value):zL e d v d=v:=by simp[zL]
theorem ou(e:Env){d i:Nat}(v:Value)(h:i≠d):zL e d v i=e i:=by
 have:A8 i d=false:=by
  cases hh:A8 i d
  .rfl
  simp_all
 simp[zL,this]
def VW(e:Env){d u:Nat}(v B:Value)(h:d≠u):zL (zL e d v) u B=zL (zL e u B) d v:=by
 funext i
 by_cases h1:i=d
 .subst h1;rw[ou _ _ h,m9,m9]
 by_cases h2:i=u
 .subst h2;rw[m9,ou _ _ h1,m9]
 rw[ou _ _ h2,ou _ _ h1,ou _ _ h1,ou _ _ h2]
def ahH(e:Env)(d:Nat)(v:Value)(h:e d=v):zL e d v=e:=by
 funext i
 by_cases h1:i=d
 .subst h1;rw[m9,h]
 rw[ou _ _ h1]
def mark(D:Nat):Deferred:={target:=.collected D,args:=#[]}
structure jn(ds:List Nat)(n:Nat)(e:Env)(a:Act):Prop where
 defers:a.defers=ds.map mark
 size:a.tmps.size=n
 get:∀i,a.tmps.getD i undef=e i
def jn.eval{ds:List Nat}{n:Nat}{e:Env}{a:Act}(h:jn ds n e a):a.eval=ev e:=by
 funext x
 cases x<;>simp[Act.eval,ev]
 case tmp t=>simpa using h.get t
theorem jn.put{ds:List Nat}{n:Nat}{e:Env}{a:Act}(h:jn ds n e a){d:Option Nat}(hd:∀k,d=some k->k<n)(v:Value) :
  jn ds n (jI e d v) (a.put d v):=by
 cases d with
 | none=>exact h
 | some d=>
  have hd:=hd d rfl
  refine⟨h.defers,by simp[Act.put,h.size],λi=>?_⟩
  have u:=h.get i
  simp only[Act.put,jI,Ck]at *
  by_cases hi:i=d
  .subst hi
   rw[Array.getElem?_setIfInBounds_self_of_lt (by rw[h.size];exact hd),m9]
   rfl
  .rw[Array.getElem?_setIfInBounds_ne (Ne.symm hi),ou _ _ hi]
   exact u
def pr(P:Program){α:Type}:Sem α->Option α
 | .pure a=>some a
 | .program k=>pr P (k P)
 | .mark _ k=>pr P k
 | _=>none
theorem fU{P:Program}{α:Type}{m:Sem α}{v:α}(h:pr P m=some v)(w:World):m.run P w=.ok v w:=by
 induction m with
 | pure a=>simp only[pr,n3.injEq]at h;simp_all
 | program k u=>exact u P h
 | mark x k u=>exact u h
 | _=>simp[pr]at h
theorem fO{P:Program}{α:Type}(a:α):pr P (pure a:Sem α)=some a:=rfl
theorem cT{P:Program}{α β:Type}(m:Sem α)(f:α->Sem β):pr P (m >>= f)=(pr P m).bind λa=>pr P (f a):=by
 show pr P (m.bind f)=_
 induction m with
 | pure a=>rfl
 | program k u=>exact u P
 | mark x k u=>exact u
 | _=>rfl
theorem eF{P:Program}{α β:Type}{m:Sem α}{f:α->Sem β}{w w':World}{a:α}(h:m.run P w=.ok a w') :
  (m >>= f).run P w=(f a).run P w':=by simp_all
theorem run_pure{P:Program}{α:Type}(a:α)(w:World):(pure a:Sem α).run P w=.ok a w:=rfl
abbrev FO(r:Option Nat):Fence:={Fence.wide with round:=r}
def DK{r:Option Nat}{p:Prop}:(FO r).depth.isSome=true->p:=λh=>by cases h
def yN{r:Option Nat}{n:Nat}{P:Program}{f:FuncId}{args:Array Value}{w:World}{R:Ending->g7}:CallsIn (FO r) n P f args w R↔Calls P f args w R:=
 callsIn_wide (n:=n)
def sK(K:Value->g7):Ending->g7:=λe w=>∃v,e=.returned v/\K v w
def sK.mono{K u:Value->g7}{e:Ending}{w:World}(h:sK K e w)(k:∀v w,K v w->u v w):sK u e w:=
 let ⟨v,E,B⟩:=h;⟨v,E,k _ _ B⟩
def Plain(P : Program)(f : FuncId) : Prop := ∃u, P.funcs[f]?=some u /\ (u.name == "runtime.NumGoroutine")=false /\ u.body.isNone=false
theorem zP{P:Program}{f:FuncId}(h:Plain P f)(args:Array Value)(w:World) :
  (callFunc f args).run P w=.ok (.enter f args) w:=by
 obtain⟨u,h1,h2,h3⟩:=h
 show(match P.funcs[f]? with|none=>_|some u=>_:Sem Next).run P w=_
 rw[h1]
 simp[h2,h3]
structure eM(P:Program)(m:Sem Value)(K:Value->Prop):Prop where
 ex:∃v,pr P m=some v/\K v
structure J2(P:Program)(m:Sem Value)(w:World)(K:Value->Prop):Prop where
 ex:∃v,m.run P w=.ok v w/\K v
structure rA(P:Program)(m:Sem Value)(w:World)(K:Value->g7):Prop where
 ex:∃v w',m.run P w=.ok v w'/\K v w'
structure VG(P:Program)(m:Sem Unit)(w:World)(K:g7):Prop where
 ex:∃w',m.run P w=.ok () w'/\K w'
structure Cm(P:Program)(f:FuncId)(args:List Value)(w:World)(K:Value->g7):Prop where
 ex:(Plain P f/\Calls P f args.toArray w (sK K))\/∃v w',(callFunc f args.toArray).run P w=.ok (.value v) w'/\K v w'
structure ko(P:Program)(fv:Value)(args:List Value)(w:World)(K:Value->g7):Prop where
 ex:(∃g first cap,fv=.func (.func g) first cap/\Plain P g/\Calls P g (first++args.toArray++cap) w (sK K))\/
  ∃l,fv=.func (.yield l) #[] #[]/\YieldAt (FO none) 0 P l args.toArray w (sK K)
structure ym(v:Value)(A B:Prop):Prop where
 ex:∃t,v=.bool t/\(t=true->A)/\(t=false->B)
structure Rc(P:Program)(m:Sem Value)(v:Value)(w:World)(R:Prop):Prop where
 amB:m.run P w=.ok v w
 rest:R
inductive DM where
 | val (v:Value)
 | p (m:Sem Value)
 | q (m:Sem Value)
 | e (m:Sem Value)
 | u (m:Sem Unit)
 | call (f:FuncId) (args:List Value)
 | Rd (fv:Value) (args:List Value)
 | bad
def VH:Operand->Bool|.const _=>true|_=>false
def TH:Value->Sem Value
 | .pointer none|.nilIface|.nilFunc => stuck "nil"
 | .func (.method _) _ _ => stuck "method"
 | x=>pure x
def VX(c a b:Value):Sem Value:=do pure (if <- asBool c then a else b)
def abS(op:BinOp)(t:TypeId)(cx cy:Bool)(a b:Value):Sem Value:=
 match a,b with
 | .nilIface, .nilIface => if cx||cy then binOp op t a b else stuck "two nil interfaces"
 | .agg _, .agg _ => .program λp => if p.eqGuardType p.depth t then stuck "an interface in a part" else binOp op t a b
 | _,_=>binOp op t a b
def ji(op:BinOp)(t:TypeId)(cx cy:Bool)(a b:Value):Sem Value:=
 match op with
 | .eql=>abS .eql t cx cy a b
 | .neq=>abS .neq t cx cy a b
 | op=>binOp op t a b
def abT(P:Program)(op:BinOp)(t:TypeId)(x y:Operand):Bool:=
 match op with
 | .eql|.neq=>match P.underlying t with
  | some (.pointer _)|some .unsafePointer=>!(VH x||VH y)
  | _=>false
 | _=>false
def isMap(P:Program)(t:TypeId):Bool:=match P.underlying t with|some (.map _ _)|some (.chan _ _)=>true|_=>false
def amC(P:Program)(s d:TypeId):Nat:=
 match P.underlying d with
 | some (.slice _)=>2
 | some .string=>match P.underlying s with|some (.slice _)=>1|_=>0
 | _=>0
def zQ(P:Program)(o:Oper)(ρ:Operand->Value):DM:=
 match o.op with
 | .move x|.assign x=>.val (ρ x)
 | .pick c a b=>.p (VX (ρ c) (ρ a) (ρ b))
 | .alloc t=>.e (P0 t true (.tuple #[]))
 | .box t x=>.e (yg t (ρ x))
 | .build t parts=>.p (l0 t (parts.toList.map λq=>(q.1,ρ q.2)).toArray)
 | .buildSlice t n parts=>.e (Ku t n (parts.toList.map λq=>(q.1,ρ q.2)).toArray)
 | .load t a=>.q (wO t (ρ a))
 | .store t a x=>.u (JX t (ρ a) (ρ x))
 | .nilCheck x=>.p (TH (ρ x))
 | .binOp op t x y _=>if abT P op t x y then .q (ji op t (VH x) (VH y) (ρ x) (ρ y))else .p (ji op t (VH x) (VH y) (ρ x) (ρ y))
 | .unOp op _ x=>.p (Op.unary op (ρ x))
 | .convert s d x=>match amC P s d with|0=>.p (convert s d (ρ x))|1=>.q (convert s d (ρ x))|_=>.e (convert s d (ρ x))
 | .makeInterface t x=>.q (Instr.makeInterface t (ρ x))
 | .makeFunc fn first cap=>.val (.func fn (first.toList.map ρ).toArray (cap.toList.map ρ).toArray)
 | .makeMap t r=>.e (Instr.makeMap t (r.map ρ))
 | .makeSlice t l c=>.e (MX t (ρ l) (ρ c))
 | .slice t x lo hi B=>.p (nn t (ρ x) (lo.map ρ) (hi.map ρ) (B.map ρ))
 | .fieldAddr s x f=>.p (E3 s (ρ x) f)
 | .field t x f=>.p (Instr.field t (ρ x) f)
 | .indexAddr t x i=>.p (E4 t (ρ x) (ρ i))
 | .index t x i=>.p (tU t (ρ x) (ρ i))
 | .lookup t x i ok=>.q (Instr.lookup t (ρ x) (ρ i) ok)
 | .mapUpdate t m k x|.insert t m k x=>.u (Instr.mapUpdate t (ρ m) (ρ k) (ρ x))
 | .mapEntry t m k=>.e (Instr.mapEntry t (ρ m) (ρ k))
 | .entryStore t m s x=>.u (Instr.entryStore t (ρ m) (ρ s) (ρ x))
 | .range t x=>.e (Instr.range t (ρ x))
 | .next it s=>.e (Instr.next (ρ it) s o.type)
 | .entry it=>.q (Instr.entry (ρ it))
 | .typeAssert x t u ok=>.q (Instr.typeAssert (ρ x) t u ok)
 | .extract t i=>.p (S5 (ρ t) i)
 | .call c=>
  match c.callee with
  | .value (.func f)=>.call f (c.args.toList.map ρ)
  | .value x=>.Rd (ρ x) (c.args.toList.map ρ)
  | .invoke ..=>.bad
  | .builtin b=>
   match b with
   | .len=>if isMap P (c.argTypes.getD 0 0)then .q (Builtin.len_ c.argTypes o.type (c.args.toList.map ρ).toArray)else .p (Builtin.len_ c.argTypes o.type (c.args.toList.map ρ).toArray)
   | .cap=>.p (Builtin.cap_ c.argTypes o.type (c.args.toList.map ρ).toArray)
   | .min=>.p (Builtin.min_ c.argTypes o.type (c.args.toList.map ρ).toArray)
   | .max=>.p (Builtin.max_ c.argTypes o.type (c.args.toList.map ρ).toArray)
   | .append=>.e (Builtin.append_ c.argTypes o.type (c.args.toList.map ρ).toArray)
   | .copy=>.e (Builtin.copy_ c.argTypes o.type (c.args.toList.map ρ).toArray)
   | .clear=>.e (Builtin.clear_ c.argTypes o.type (c.args.toList.map ρ).toArray)
   | .delete=>.e (Builtin.delete_ c.argTypes o.type (c.args.toList.map ρ).toArray)
   | _=>.bad
 | _=>.bad
def Gt(P:Program)(k:DM)(K:Value->g7)(w:World):Prop:=
 match k with
 | .val v=>K v w
 | .p m=>eM P m (λv=>K v w)
 | .q m=>J2 P m w (λv=>K v w)
 | .e m=>rA P m w K
 | .u m=>VG P m w (λw'=>K undef w')
 | .call f args=>Cm P f args w K
 | .Rd fv args=>ko P fv args w K
 | .bad=>False
def DM.quiet:DM->Bool
 | .val _|.p _|.q _=>true
 | _=>false
def DM.reads:DM->Bool
 | .q _=>true
 | _=>false
def DM.has(P:Program)(k:DM)(w:World)(v:Value):Prop:=
 match k with
 | .val x=>x=v
 | .p m=>pr P m=some v
 | .q m=>m.run P w=.ok v w
 | _=>False
def Gt.has{P:Program}{k:DM}{K:Value->g7}{w:World}(u:k.quiet=true)(h:Gt P k K w):∃v,k.has P w v/\K v w:=by
 cases k<;>simp only[DM.quiet,Bool.false_eq_true]at u<;>simp only[Gt]at h
 case val v=>exact⟨v,rfl,h⟩
 case p m=>exact h.ex
 case q m=>exact h.ex
def DM.TI{P:Program}{k:DM}{w w':World}{v:Value}(u:k.reads=false)(h:k.has P w v):k.has P w' v:=by
 cases k<;>simp only[DM.has,DM.reads,Bool.true_eq_false]at *
 .exact h
 exact h
def Gt.VY{P:Program}{k:DM}{K:Value->g7}{w:World}{v:Value}(h:k.has P w v)(B:K v w):Gt P k K w:=by
 cases k<;>simp only[DM.has]at h<;>simp only[Gt]
 case val u=>grind
 case p m=>exact⟨v,h,B⟩
 case q m=>exact⟨v,h,B⟩
def Gt.mono{P:Program}{k:DM}{K E:Value->g7}{w:World}(h:Gt P k K w)(B:∀v w,K v w->E v w):Gt P k E w:=by
 cases k<;>simp only[Gt]at *
 case val v=>grind
 case p m=>exact⟨let ⟨v,a,b⟩:=h.ex;⟨v,a,B _ _ b⟩⟩
 case q m=>exact⟨let ⟨v,a,b⟩:=h.ex;⟨v,a,B _ _ b⟩⟩
 case e m=>exact⟨let ⟨v,w',a,b⟩:=h.ex;⟨v,w',a,B _ _ b⟩⟩
 case u m=>exact⟨let ⟨w',a,b⟩:=h.ex;⟨w',a,B _ _ b⟩⟩
 case call f args=>
  rcases h.ex with⟨a,b⟩|⟨v,w',a,b⟩
  .exact⟨.inl ⟨a,b.mono λe w' r=>r.mono B⟩⟩
  .exact⟨.inr ⟨v,w',a,B _ _ b⟩⟩
 case Rd fv args=>
  rcases h.ex with⟨g,f,c,a,b,d⟩|⟨l,a,G,t,s,b,c,d⟩
  .exact⟨.inl ⟨g,f,c,a,b,d.mono λe w' r=>r.mono B⟩⟩
  .exact⟨.inr ⟨l,a,G,t,s,b,c,d.mono λe w' r=>r.mono B⟩⟩
def tY{r:Option Nat}{P:Program}{o:Oper}{a:Act}{w:World}:∀f,o.about P w a.eval=some f->(FO r).fn f:=λ_ _=>trivial
def Ka{r:Option Nat}{P:Program}{o:Oper}{a:Act}{next:Act->g7}{Q:Exit->Act->g7}{f:FuncId}{args:Array Value}{w:World}
  {K:Value->g7}(h:Calls P f args w (sK K)) (u:∀v w',K v w'->next (a.put o.dst v) w'):o.uponIn (FO r) 0 P a next Q (.ok (.enter f args) w):=by
 rw[Oper.uponIn_enter]
 refine⟨DK,yN.2 (h.mono λe w' ⟨v,B,E⟩=>?_)⟩
 grind
def F6{r:Option Nat}{P:Program}{o:Oper}{a:Act}{next:Act->g7}{Q:Exit->Act->g7}{l:Nat}{f:FuncId}{tmps:Array Value}{assign body:Code}{w:World}
  {K:Value->g7}(h:RoundIn (FO none) 0 P l f tmps assign body w (sK K)) (B:∀v w',K v w'->next (a.put o.dst v) w'):o.uponIn (FO r) 0 P a next Q (.ok (.round l f tmps assign body) w):=by
 rw[Oper.uponIn_round]
 refine⟨DK,?_⟩
 have u:RoundIn (FO r) 0 P l f tmps assign body w (sK K):=h
 refine u.mono λe w' ⟨v,E,G⟩=>?_
 grind
def kq{r:Option Nat}{P:Program}{o:Oper}{a:Act}{next:Act->g7}{Q:Exit->Act->g7}{w w':World}{v:Value}(B:∀c,o.op≠.defer c)
  (h:(execOp a.eval o).run P w=.ok (.value v) w') (u:next (a.put o.dst v) w'):o.wpIn (FO r) 0 P a w next Q:=by
 unfold Oper.wpIn;rw[Oper.semAt_eq _ _ _ B,h,Oper.uponIn_value];exact⟨tY,u⟩
def Oj{r:Option Nat}{P:Program}{o:Oper}{a:Act}{next:Act->g7}{Q:Exit->Act->g7}{w w':World}(B:∀c,o.op≠.defer c)
  (h:(execOp a.eval o).run P w=.ok .skip w') (u:next (a.put o.dst undef) w'):o.wpIn (FO r) 0 P a w next Q:=by
 unfold Oper.wpIn;rw[Oper.semAt_eq _ _ _ B,h,Oper.uponIn_skip];exact⟨tY,u⟩
def Kb{P:Program}{m:Sem Value}{w w':World}{v:Value}(h:m.run P w=.ok v w') :
  (do pure (.value (<- m)):Sem Next).run P w=.ok (.value v) w':=by simp_all
def amD{P:Program}{m:Sem Unit}{w w':World}(h:m.run P w=.ok () w') :
  (do m;pure .skip:Sem Next).run P w=.ok .skip w':=by simp_all
theorem C6{α β:Type}(f:α->β)(l:Array α):(l.toList.map f).toArray=l.map f:=by
 grind
def eqG(t:TypeId)(x y:Operand)(a b:Value):Sem Unit:=
 match a,b with
 | .nilIface,.nilIface=>if (VH x||VH y)=true then pure ()else do
   if <- Op.eqGuardIn Op.maxDepth t a b then unsupported (.noEntry "binop/eql: two nil values of an interface type with methods, neither of them the literal nil")
 | .agg _,.agg _=>do
  if !(<- program).eqGuardType (<- program).depth t then return
  if <- Op.eqGuardIn Op.maxDepth t a b then unsupported (.noEntry "binop/eql: two nil values of an interface type with methods, in a part of a struct or an array")
 | _,_=>pure ()
def Cn{P:Program}{op:BinOp}(E:op=.eql\/op=.neq){t:TypeId}{x y:Operand}{a b:Value}{w w':World}{v:Value}
  (h:(abS op t (VH x) (VH y) a b).run P w=.ok v w'):(eqGuard op t x y a b).run P w=.ok () w/\(binOp op t a b).run P w=.ok v w':=by
 have u:eqGuard op t x y a b=eqG t x y a b:=by rcases E with rfl|rfl<;>cases x<;>cases y<;>rfl
 rw[u]
 clear u
 unfold eqG
 unfold abS at h
 split at h
 .split at h
  .simp_all
  simp_all
 .rename_i c1 c2
  have B : (if P.eqGuardType P.depth t then stuck "an interface in a part" else binOp op t (.agg c1) (.agg c2) : Sem Value).run P w=.ok v w' := h
  split at B
  .simp_all
  simp_all
 simp_all
def Kc{P:Program}{op:BinOp}{t:TypeId}{x y:Operand}{a b:Value}{w w':World}{v:Value}
  (h:(ji op t (VH x) (VH y) a b).run P w=.ok v w'):(do eqGuard op t x y a b;binOp op t a b:Sem Value).run P w=.ok v w':=by
 unfold ji at h
 split at h
 .obtain⟨h1,h2⟩:=Cn (.inl rfl) h
  simp_all
 .obtain⟨h1,h2⟩:=Cn (.inr rfl) h
  simp_all
 rename_i n1 n2
 have h1:(eqGuard op t x y a b).run P w=.ok () w:=by
  unfold eqGuard
  simp_all
 simp_all
theorem Gt.wp{r:Option Nat}{ds:List Nat}{P:Program}{n:Nat}{o:Oper}{e:Env}{a:Act}{w:World}{K:Value->g7}{Q:Exit->Act->g7}{next:Act->g7}
  (ha:jn ds n e a) (h:Gt P (zQ P o (ev e)) K w) (B:∀v w',K v w'->next (a.put o.dst v) w'):o.wpIn (FO r) 0 P a w next Q:=by
 have I:=ha.eval
 have G:∀c,o.op≠.defer c:=λc hc=>by unfold zQ at h;rw[hc]at h;exact h
 have V:∀{m:Sem Value},eM P m (λv=>K v w)->execOp (ev e) o=(do pure (.value (<- m)):Sem Next)->o.wpIn (FO r) 0 P a w next Q:=λM J=>by
  obtain⟨v,h1,h2⟩:=M.ex
  exact kq (w':=w) G (by rw[I,J];exact Kb (fU h1 w)) (B _ _ h2)
 have Y:∀{m:Sem Value},J2 P m w (λv=>K v w)->execOp (ev e) o=(do pure (.value (<- m)):Sem Next)->o.wpIn (FO r) 0 P a w next Q:=λM J=>by
  obtain⟨v,h1,h2⟩:=M.ex
  exact kq (w':=w) G (by rw[I,J];exact Kb h1) (B _ _ h2)
 have E:∀{m:Sem Value},rA P m w K->execOp (ev e) o=(do pure (.value (<- m)):Sem Next)->o.wpIn (FO r) 0 P a w next Q:=λM J=>by
  obtain⟨v,w',h1,h2⟩:=M.ex
  exact kq G (by rw[I,J];exact Kb h1) (B _ _ h2)
 have U:∀{m:Sem Unit},VG P m w (λw'=>K undef w')->execOp (ev e) o=(do m;pure .skip:Sem Next)->o.wpIn (FO r) 0 P a w next Q:=λM J=>by
  obtain⟨w',h1,h2⟩:=M.ex
  exact Oj G (by rw[I,J];exact amD h1) (B _ _ h2)
 unfold zQ at h
 cases jZ:o.op with
 | move x=>rw[jZ]at h;exact kq (w':=w) G (by rw[I];simp only[execOp,jZ];rfl) (B _ _ h)
 | assign x=>rw[jZ]at h;exact kq (w':=w) G (by rw[I];simp only[execOp,jZ];rfl) (B _ _ h)
 | pick c x y=>
  rw[jZ]at h
  obtain⟨v,h1,h2⟩:=h.ex
  refine kq (w':=w) G ?_ (B _ _ h2)
  rw[I];simp only[execOp,jZ]
  have:=fU h1 w
  unfold VX at this
  revert this
  cases ev e c<;>simp only[asBool]<;>intro this<;>first|(simp only[stuck]at this;exact absurd this (by simp[Sem.run]))|skip
  case bool t=>
   have e2:v=(if t=true then ev e x else ev e y):=by
    have:(Result.ok (if t=true then ev e x else ev e y) w:Result Value)=.ok v w:=this
    simpa using this.symm
   rw[e2];rfl
 | alloc t=>rw[jZ]at h;exact E h (by simp only[execOp,jZ])
 | box t x=>rw[jZ]at h;exact E h (by simp only[execOp,jZ])
 | build t ps=>rw[jZ]at h;exact V h (by simp only[execOp,jZ,C6])
 | buildSlice t n ps=>rw[jZ]at h;exact E h (by simp only[execOp,jZ,C6])
 | insert t m k x=>rw[jZ]at h;exact U h (by simp only[execOp,jZ])
 | load t x=>rw[jZ]at h;exact Y h (by simp only[execOp,jZ])
 | store t x y=>rw[jZ]at h;exact U h (by simp only[execOp,jZ])
 | nilCheck x=>
  rw[jZ]at h
  obtain⟨v,h1,h2⟩:=h.ex
  refine kq (w':=w) G ?_ (B _ _ h2)
  rw[I];simp only[execOp,jZ]
  revert h1
  cases J:ev e x with
  | pointer p=>cases p<;>simp[TH,stuck,pr,fO]<;>(try(rintro rfl;rfl))
  | func fn f c=>cases fn<;>simp[TH,stuck,pr,fO]<;>(try(rintro rfl;rfl))
  | _=>simp[TH,stuck,pr,fO]<;>(try(rintro rfl;rfl))
 | binOp op t x y u=>
  rw[jZ]at h
  dsimp only at h
  split at h
  .obtain⟨v,h1,h2⟩:=h.ex
   exact kq (w':=w) G (by rw[I];simp only[execOp,jZ];exact Kb (Kc h1)) (B _ _ h2)
  .obtain⟨v,h1,h2⟩:=h.ex
   exact kq (w':=w) G (by rw[I];simp only[execOp,jZ];exact Kb (Kc (fU h1 w))) (B _ _ h2)
 | unOp op t x=>rw[jZ]at h;exact V h (by simp only[execOp,jZ])
 | convert s d x=>
  rw[jZ]at h
  dsimp only at h
  split at h
  .exact V h (by simp only[execOp,jZ])
  .exact Y h (by simp only[execOp,jZ])
  .exact E h (by simp only[execOp,jZ])
 | makeInterface t x=>rw[jZ]at h;exact Y h (by simp only[execOp,jZ])
 | makeFunc fn f c=>rw[jZ]at h;exact kq (w':=w) G (by rw[I];simp only[execOp,jZ,<- C6];rfl) (B _ _ h)
 | makeMap t r=>rw[jZ]at h;exact E h (by simp only[execOp,jZ])
 | makeSlice t l c=>rw[jZ]at h;exact E h (by simp only[execOp,jZ])
 | slice t x lo hi mx=>rw[jZ]at h;exact V h (by simp only[execOp,jZ])
 | fieldAddr s x f=>rw[jZ]at h;exact V h (by simp only[execOp,jZ])
 | field t x f=>rw[jZ]at h;exact V h (by simp only[execOp,jZ])
 | indexAddr t x i=>rw[jZ]at h;exact V h (by simp only[execOp,jZ])
 | index t x i=>rw[jZ]at h;exact V h (by simp only[execOp,jZ])
 | lookup t x i ok=>rw[jZ]at h;exact Y h (by simp only[execOp,jZ])
 | mapUpdate t m k x=>rw[jZ]at h;exact U h (by simp only[execOp,jZ])
 | mapEntry t m k=>rw[jZ]at h;exact E h (by simp only[execOp,jZ])
 | entryStore t m s x=>rw[jZ]at h;exact U h (by simp only[execOp,jZ])
 | range t x=>rw[jZ]at h;exact E h (by simp only[execOp,jZ])
 | next it s=>rw[jZ]at h;exact E h (by simp only[execOp,jZ])
 | entry it=>rw[jZ]at h;exact Y h (by simp only[execOp,jZ])
 | typeAssert x t u ok=>rw[jZ]at h;exact Y h (by simp only[execOp,jZ])
 | extract t i=>rw[jZ]at h;exact V h (by simp only[execOp,jZ])
 | call c=>
  rw[jZ]at h
  dsimp only at h
  have O:(c.args.toList.map (ev e)).toArray=c.args.map (ev e):=C6 _ _
  cases hc:c.callee with
  | value x=>
   rw[hc]at h
   have W:∀{g:FuncId}{first cap:Array Value},ev e x=.func (.func g) first cap->Plain P g->Calls P g (first++(c.args.toList.map (ev e)).toArray++cap) w (sK K)->o.wpIn (FO r) 0 P a w next Q:=by
    intro g first cap J M jP
    unfold Oper.wpIn
    rw[Oper.semAt_eq _ _ _ G]
    have Z:(execOp a.eval o).run P w=.ok (.enter g (first++(c.args.toList.map (ev e)).toArray++cap)) w:=by
     rw[I]
     simp only[execOp,jZ]
     have h1:(resolve (ev e) c o.type).run P w=.ok {target:=.fn (.func g) cap,args:=first++c.args.map (ev e)} w:=by
      simp only[resolve,hc,J];rfl
     rw[eF h1]
     show(callFunc g (first++c.args.map (ev e)++cap)).run P w=_
     rw[zP M,O]
    rw[Z]
    exact⟨tY,Ka jP λv w' hv=>B v w' hv⟩
   have hyl:∀{l:Nat},ev e x=.func (.yield l) #[] #[]->YieldAt (FO none) 0 P l (c.args.toList.map (ev e)).toArray w (sK K)->o.wpIn (FO r) 0 P a w next Q:=by
    rintro l J ⟨fn,tmps,assign,body,hy,Z⟩
    unfold Oper.wpIn
    rw[Oper.semAt_eq _ _ _ G]
    have hr':(execOp a.eval o).run P w=.ok (.round l fn tmps assign body) w:=by
     rw[I]
     simp only[execOp,jZ]
     have h1:(resolve (ev e) c o.type).run P w=.ok {target:=.fn (.yield l) #[],args:=#[]++c.args.map (ev e)} w:=by
      simp only[resolve,hc,J];rfl
     rw[eF h1]
     show(Instr.yield l (#[]++c.args.map (ev e))).run P w=_
     rw[ZD,<- O];exact hy
    rw[hr']
    exact⟨tY,F6 Z λv w' hv=>B v w' hv⟩
   have vU:ko P (ev e x) (c.args.toList.map (ev e)) w K->o.wpIn (FO r) 0 P a w next Q:=λh=>by
    rcases h.ex with⟨g,first,cap,h1,h2,h3⟩|⟨l,h1,h2⟩
    .exact W h1 h2 h3
    .exact hyl h1 h2
   cases x with
   | func f=>
    rcases h.ex with⟨h1,h2⟩|⟨v,w',h1,h2⟩
    .exact W (g:=f) (first:=#[]) (cap:=#[]) rfl h1 (by simpa using h2)
    .refine kq G ?_ (B _ _ h2)
     rw[I]
     simp only[execOp,jZ]
     have h3:(resolve (ev e) c o.type).run P w=.ok {target:=.fn (.func f) #[],args:=#[]++c.args.map (ev e)} w:=by
      simp only[resolve,hc,ev];rfl
     rw[eF h3]
     show(callFunc f (#[]++c.args.map (ev e)++#[])).run P w=_
     rw[<- O,ZD,Array.append_empty]
     exact h1
   | tmp t=>exact vU h
   | const v=>exact vU h
   | global g=>exact vU h
  | invoke r nm=>rw[hc]at h;exact h.elim
  | builtin b=>
   rw[hc]at h
   dsimp only at h
   have hb:∀{m:Sem Value},builtin b c.argTypes o.type (c.args.map fun|.const _=>true|_=>false) (c.args.map (ev e))=(do pure (.value (<- m)):Sem Next)->
     execOp (ev e) o=(do pure (.value (<- m)):Sem Next):=by
    intro m hm
    simp only[execOp,jZ]
    have h1:resolve (ev e) c o.type=pure {target:=.builtin b c.argTypes o.type (c.args.map fun|.const _=>true|_=>false),args:=c.args.map (ev e)}:=by
     simp only[resolve,hc];rfl
    rw[h1]
    exact hm
   rw[O]at h
   cases b<;>first|exact h.elim|skip
   case len=>
    dsimp only at h
    split at h
    .exact Y h (hb rfl)
    .exact V h (hb rfl)
   case cap=>exact V h (hb rfl)
   case min=>exact V h (hb rfl)
   case max=>exact V h (hb rfl)
   case append=>exact E h (hb rfl)
   case copy=>exact E h (hb rfl)
   case clear=>exact E h (hb rfl)
   case delete=>exact E h (hb rfl)
 | _=>rw[jZ]at h;exact h.elim
def pre(o:Oper):List Nat:=(o.after.toList.filter λe=>Region.binds .any e).map (·.on)
def Bq(u:List Oper)(j:Nat):Option Nat:=(u[j]?).bind (·.dst)
def looks(u:List Oper)(o:Oper):List Nat:=
 (o.op.operands.toList.filterMap fun|.tmp t=>some t|_=>none)++(match o.guard with|some (j,_)=>(Bq u j).toList|none=>[])
def ox(u:List Oper)(o:Oper)(e:Env):Bool:=
 match o.guard with
 | none=>true
 | some (j,b)=>match Bq u j with
  | none=>false
  | some s=>match e s with
   | .bool B=>B == b
   | _=>false
theorem Gu{ds:List Nat}{n:Nat}{e:Env}{a:Act}(h:jn ds n e a)(u:List Oper)(o:Oper):Region.wanted o (yielded u.toArray a.tmps)=ox u o e:=by
 unfold Region.wanted ox
 cases o.guard with
 | none=>rfl
 | some g=>
  obtain⟨j,b⟩:=g
  simp only[yielded,Bq,Pp]
  cases (u[j]?).bind (·.dst)with
  | none=>simp
  | some s=>
   have B:=h.get s
   simp only[l2]
   rw[<- B,Ck]
   cases a.tmps[s]? with
   | none=>simp[undef]
   | some v=>grind
theorem TJ{P:Program}{o:Oper}{ρ ρ':Operand->Value}(h:∀x∈o.op.operands,ρ x=ρ' x):zQ P o ρ=zQ P o ρ':=by
 unfold zQ
 cases jZ:o.op<;>rw[jZ]at h<;>simp only[Op.operands]at h<;>dsimp only
 case call c=>
  have G:∀x∈c.args,ρ x=ρ' x:=λx B=>h x (by simp[Call.operands,B])
  have E:c.args.toList.map ρ=c.args.toList.map ρ':=yX λx B=>G x cH
  rw[E]
  cases hc:c.callee with
  | value x=>
   have B:ρ x=ρ' x:=h x (by simp[Call.operands,hc])
   grind
  | _=>rfl
 case build t ps=>
  have E:(ps.toList.map λq=>(q.1,ρ q.2))=ps.toList.map λq=>(q.1,ρ' q.2):=
   yX λq I=>cH
  grind
 case buildSlice t n ps=>
  have E:(ps.toList.map λq=>(q.1,ρ q.2))=ps.toList.map λq=>(q.1,ρ' q.2):=
   yX λq I=>cH
  grind
 case makeFunc fn f c=>
  simp_all
 case makeMap t r=>
  have:r.map ρ=r.map ρ':=by cases r with|none=>rfl|some x=>grind
  grind
 case slice t x lo hi mx=>
  have J:ρ x=ρ' x:=h x ea
  have h1:lo.map ρ=lo.map ρ':=by cases lo with|none=>rfl|some y=>grind
  have h2:hi.map ρ=hi.map ρ':=by cases hi with|none=>rfl|some y=>grind
  have h3:mx.map ρ=mx.map ρ':=by cases mx with|none=>rfl|some y=>grind
  grind
 case load t x=>grind
 case store t x y=>grind
 case pick c x y=>grind
 case binOp op t x y u=>grind
 case insert t m k x=>grind
 case mapUpdate t m k x=>grind
 case entryStore t m k x=>grind
 case mapEntry t m k=>grind
 case lookup t m k ok=>grind
 case indexAddr t m k=>grind
 case index t m k=>grind
 case makeSlice t m k=>grind
 all_goals grind
def ahI{e:Env}{d:Nat}{v:Value}{x:Operand}(h:x≠.tmp d):ev (zL e d v) x=ev e x:=by
 cases x<;>simp only[ev]
 case tmp t=>exact ou _ _ λu=>h (by rw[u])
theorem C7{P:Program}{u:List Oper}{o:Oper}{e:Env}{d:Option Nat}{v:Value}(h:∀k,d=some k->k ∉ looks u o) :
  zQ P o (ev (jI e d v))=zQ P o (ev e):=by
 cases d with
 | none=>rfl
 | some d=>
  refine TJ λx E=>ahI λB=>h d rfl ?_
  subst B
  exact List.mem_append_left _ (Rb.2 ⟨.tmp d,cH,rfl⟩)
theorem xy{u:List Oper}{o:Oper}{e:Env}{d:Option Nat}{v:Value}(h:∀k,d=some k->k ∉ looks u o) :
  ox u o (jI e d v)=ox u o e:=by
 cases d with
 | none=>rfl
 | some d=>
  have h:=h d rfl
  unfold ox
  unfold looks at h
  cases hg:o.guard with
  | none=>rfl
  | some g=>
   obtain⟨j,b⟩:=g
   rw[hg]at h
   dsimp only at h |-
   cases hs:Bq u j with
   | none=>rfl
   | some s=>
    rw[hs]at h
    have:s≠d:=λB=>h (by simp[B])
    simp only[jI,ou _ _ this]
def VZ(u:List Oper)(x y:Oper):Prop:=
 (∀d,x.dst=some d->d ∉ looks u y/\y.dst≠some d)/\(∀d,y.dst=some d->d ∉ looks u x)
theorem TK{e:Env}{d u:Option Nat}{v B:Value}(h:∀k,d=some k->u≠some k):jI (jI e d v) u B=jI (jI e u B) d v:=by
 cases d with
 | none=>rfl
 | some d=>cases u with
  | none=>rfl
  | some u=>exact VW _ _ _ λE=>h d rfl (by rw[E])
def C8(P:Program)(u:List Oper)(o:Oper)(K:Env->g7)(e:Env)(w:World):Prop:=
 if ox u o e=true then Gt P (zQ P o (ev e)) (λv w'=>K (jI e o.dst v) w') w else K (jI e o.dst undef) w
def C8.mono{P:Program}{u:List Oper}{o:Oper}{K B:Env->g7}{e:Env}{w:World}(h:C8 P u o K e w)
  (E:∀v w',K (jI e o.dst v) w'->B (jI e o.dst v) w'):C8 P u o B e w:=by
 unfold C8 at *
 split
 .rename_i hw;rw[ee hw]at h;exact h.mono λv w'=>E v w'
 grind
def Ok(u:List Oper)(L:Nat->Bool)(i:Nat):Prop:=L i=false/\∃o,u[i]?=some o/\∀p∈pre o,L p=true
def lT(L:Nat->Bool)(i:Nat):Nat->Bool:=λk=>if k=i then true else L k
def Down(u:List Oper)(L:Nat->Bool):Prop:=∀i o,L i=true->u[i]?=some o->∀p∈pre o,L p=true
def TL(L:Nat->Bool)(i:Nat):lT L i i=true:=by simp[lT]
theorem Re(L:Nat->Bool){i k:Nat}(h:k≠i):lT L i k=L k:=by simp[lT,h]
def Ie(L:Nat->Bool)(i:Nat){k:Nat}(h:L k=true):lT L i k=true:=by unfold lT;grind
theorem TM(L:Nat->Bool)(i j:Nat):lT (lT L i) j=lT (lT L j) i:=by
 grind[lT]
def Down.set{u:List Oper}{L:Nat->Bool}{i:Nat}(h:Down u L)(G:Ok u L i):Down u (lT L i):=by
 intro k o B J p I
 by_cases e:k=i
 .subst e
  obtain⟨_,M,E,O⟩:=G
  grind[lT]
 rw[Re _ e]at B
 exact Ie _ _ (h k o B J p I)
def Ok.set{u:List Oper}{L:Nat->Bool}{i j:Nat}(h:Ok u L j)(G:j≠i):Ok u (lT L i) j:=
 ⟨by rw[Re _ G];exact h.1,let ⟨o,I,E⟩:=h.2;⟨o,I,λp B=>Ie _ _ (E p B)⟩⟩
inductive Ol(ops:List Oper):Nat->Nat->Prop
 | one {j i:Nat}{o:Oper}(h:ops[j]?=some o) (hp:i∈pre o):Ol ops j i
 | more {j p i:Nat}{o:Oper}(h:ops[j]?=some o) (hp:p∈pre o) (hd:Ol ops p i):Ol ops j i
theorem Ol.listed{u:List Oper}{L:Nat->Bool}(J:Down u L){j i:Nat}(h:Ol u j i):(∀o,u[j]?=some o->∀p∈pre o,L p=true)->L i=true:=by
 induction h with
 | one h B=>grind
 | more h B hd E=>intro I;exact E λo M q G=>J _ o (I _ h _ B) M q G
def Ol.F7{u:List Oper}{L:Nat->Bool}(G:Down u L){j i:Nat}(h:Ol u j i)(E:Ok u L j):L i=true:=
 h.listed G λo O p J=>by obtain⟨_,I,B,M⟩:=E;grind
def WS(P:Program)(u:List Oper)(Q:Env->g7)(S:Nat->g7):Nat->(Nat->Bool)->Env->g7
 | 0,L,e,w=>(∀i,¬ Ok u L i)/\Q e w
 | f+1,L,e,w=>((∀i,¬ Ok u L i)->Q e w)/\
   ∀i o,u[i]?=some o->Ok u L i->C8 P u o (λB w'=>(w'=w\/S i w')/\WS P u Q S f (lT L i) B w') e w
theorem WS.weaken{P:Program}{u:List Oper}{Q:Env->g7}{S E:Nat->g7}(h:∀i w,S i w->E i w) :
  ∀(f:Nat) (_L:Nat->Bool) (_e:Env) (_w:World),WS P u Q S f _L _e _w->WS P u Q E f _L _e _w
 | 0,_,_,_,B=>B
 | f+1,L,e,w,B=>⟨B.1,λi o I G=>(B.2 i o I G).mono λ_ _ ⟨h1,h2⟩=>⟨h1.imp id (h _ _),WS.weaken h f _ _ _ h2⟩⟩
theorem WS.first{P:Program}{B:List Oper}{Q:Env->g7}{S:Nat->g7}{i:Nat}{G:Oper}{X:DM}{b:Bool}{v:Value}
  (hi:B[i]?=some G) (hn:b=false->v=undef) :
  ∀(f:Nat) (L:Nat->Bool) (e:Env) (w:World),Down B L->Ok B L i->
   (∀j E,B[j]?=some E->j≠i->L j=false->i ∉ pre E->VZ B G E)->
   zQ P G (ev e)=X->ox B G e=b->(b=true->X.has P w v)->
   WS P B Q (λj w'=>S j w'/\(Ol B j i\/(b=true->X.has P w' v))) f (lT L i) (jI e G.dst v) w->WS P B Q S (f+1) L e w:=by
 have done:∀(K:Env->g7) (e:Env) (w:World),zQ P G (ev e)=X->ox B G e=b->(b=true->X.has P w v)->K (jI e G.dst v) w->C8 P B G K e w:=by
  intro K e w hX hb hy J
  unfold C8
  rw[hb]
  cases b with
  | true=>rw[ee rfl,hX];exact Gt.VY (hy rfl) J
  | false=>grind
 have sub:∀{f:Nat}{L:Nat->Bool}{e:Env}{w:World},WS P B Q (λj w'=>S j w'/\(Ol B j i\/(b=true->X.has P w' v))) f L e w->WS P B Q S f L e w:=
  λh=>WS.weaken (λ_ _ h=>h.1) _ _ _ _ h
 intro f
 induction f with
 | zero=>
  intro L e w hL U Rf hX hb hy H
  refine⟨λh=>absurd U (h i),λj E Rg O=>?_⟩
  by_cases I:j=i
  .grind
  .exact absurd (O.set I) (H.1 j)
 | succ f ih=>
  intro L e w hL U Rf hX hb hy H
  refine⟨λh=>absurd U (h i),λj E Rg O=>?_⟩
  by_cases I:j=i
  .grind
  .have ey:i ∉ pre E:=λhp=>by
    obtain⟨_,V,Y,vV⟩:=O.2.elim λV h=>(⟨trivial,V,h.1,h.2⟩:True/\∃V,B[j]?=some V/\∀p∈pre V,L p=true)
    rw[Rg]at Y;cases Y
    have:=vV i hp
    rw[U.1]at this;cases this
   have M:=Rf j E Rg I O.1 ey
   have amE:¬ Ol B j i:=λhd=>by
    have:=hd.F7 hL O
    rw[U.1]at this;cases this
   have h1:=H.2 j E Rg (O.set I)
   have W:∀k,G.dst=some k->k ∉ looks B E:=λk J=>(M.1 k J).1
   have Z:∀k,E.dst=some k->k ∉ looks B G:=λk J=>M.2 k J
   have dd:∀k,G.dst=some k->E.dst≠some k:=λk J=>(M.1 k J).2
   have cont:∀(u:Value) (w':World),(w'=w\/(S j w'/\(Ol B j i\/(b=true->X.has P w' v))))->
     WS P B Q (λj w'=>S j w'/\(Ol B j i\/(b=true->X.has P w' v))) f (lT (lT L i) j) (jI (jI e G.dst v) E.dst u) w'->
     (w'=w\/S j w')/\WS P B Q S (f+1) (lT L j) (jI e E.dst u) w':=by
    intro u w' hw hWS
    refine⟨hw.imp id λh=>h.1,?_⟩
    refine ih (lT L j) (jI e E.dst u) w' (hL.set O) (U.set (Ne.symm I)) ?_ ?_ ?_ ?_ ?_
    .grind[lT,pre,VZ]
    .rw[C7 Z];exact hX
    .rw[xy Z];exact hb
    .grind
    .rw[TM,TK λk J=>cH]
     exact hWS
   unfold C8 at h1 |-
   rw[xy W]at h1
   split
   .rename_i hw
    rw[ee hw,C7 W]at h1
    exact h1.mono λu w' hh=>cont u w' hh.1 hh.2
   grind
def wr(u:List Oper):List Nat:=u.filterMap (·.dst)
def V0{u:List Oper}{i:Nat}{o:Oper}{d:Nat}(h:u[i]?=some o)(hd:o.dst=some d):d∈wr u:=
 Rb.2 ⟨o,List.mem_of_getElem? h,hd⟩
theorem yO{e e0:Env}{u:List Oper}{i:Nat}{o:Oper}(h:∀k,k ∉ wr u->e k=e0 k)(G:u[i]?=some o)(v:Value) :
  ∀k,k ∉ wr u->jI e o.dst v k=e0 k:=by
 intro k B
 cases hd:o.dst with
 | none=>exact h k B
 | some d=>
  have:k≠d:=λE=>B (by rw[E];exact V0 G hd)
  simp only[jI,ou _ _ this]
  grind
def C8.wpOp{r:Option Nat}{ds:List Nat}{P:Program}{n:Nat}{u:List Oper}{i:Nat}{o:Oper}{K:Env->g7}{I:Act->g7}{J:Exit->Act->g7}{e:Env}{a:Act}{w:World}
  (M:u[i]?=some o) (hd:∀k,o.dst=some k->k<n) (B:jn ds n e a) (h:C8 P u o K e w)
  (E:∀v G w',jn ds n (jI e o.dst v) G->K (jI e o.dst v) w'->I G w'):wpOpIn (FO r) 0 P u.toArray J i I a w:=by
 unfold Go.wpOpIn
 simp only[Pp,M]
 rw[Gu B]
 unfold C8 at h
 split
 .rename_i hw
  rw[ee hw]at h
  exact Gt.wp B h λv w' O=>E v _ _ (B.put hd v) O
 rename_i hw
 rw[eb hw]at h
 exact⟨tY,E undef _ _ (B.put hd undef) h⟩
theorem WS.any{r:Option Nat}{ds:List Nat}{P:Program}{n:Nat}{u:List Oper}{Q:Env->g7}{W:Exit->Act->g7}{S:Nat->g7}{e0:Env}
  (hd:∀d∈wr u,d<n) (V:∀e a w,jn ds n e a->(∀k,k ∉ wr u->e k=e0 k)->Q e w->W .normal a w) :
  ∀(f:Nat) (L:Nat->Bool) (listed:Array Bool) (e:Env) (a:Act) (w:World),jn ds n e a->(∀k,k ∉ wr u->e k=e0 k)->listed.size=u.length->
   (∀i,listed.getD i false=L i)->WS P u Q S f L e w->wpAnyIn (FO r) 0 P .any u.toArray W f listed a w:=by
 have B:∀(L:Nat->Bool) (listed:Array Bool) (_:listed.size=u.length) (_:∀i,listed.getD i false=L i) (i:Nat),
   i∈Region.ready .any u.toArray listed↔Ok u L i:=by
  intro L listed G E i
  rw[mem_ready]
  have Y:∀o,u[i]?=some o->listed.getD i true=L i:=λo I=>by
   grind
  unfold Ok pre
  grind
 intro f
 induction f with
 | zero=>
  intro L listed e a w J M G E h
  refine⟨?_,V e a w J M h.2⟩
  cases U:Region.ready .any u.toArray listed with
  | nil=>rfl
  | cons i r=>exact absurd ((B L listed G E i).1 cH) (h.1 i)
 | succ f ih=>
  intro L listed e a w J M G E h
  refine⟨λhn=>V e a w J M (h.1 λi hi=>?_),λi hi=>?_⟩
  .have:=(B L listed G E i).2 hi
   grind
  .have U:=(B L listed G E i).1 hi
   obtain⟨o,I,_⟩:=U.2
   refine C8.wpOp I (λk hk=>hd k (V0 I hk)) J (h.2 i o I U) λv a' w' Ig Z=>?_
   refine ih (lT L i) _ _ a' w' Ig (yO M I v) cH (λk=>?_) Z.2
   have nB:i<listed.size:=cH
   have O:=E k
   simp only[Ck]at O |-
   grind[lT]
def WS.region{r:Option Nat}{ds:List Nat}{P:Program}{n:Nat}{id:Nat}{u:List Oper}{Q:Env->g7}{E:Exit->Act->g7}{S:Nat->g7}{e:Env}{a:Act}{w:World}
  (J:P.follows .mixedOrders=true) (hd:∀d∈wr u,d<n) (G:jn ds n e a)
  (I:∀B a w,jn ds n B a->(∀k,k ∉ wr u->B k=e k)->Q B w->E .normal a w)
  (h:WS P u Q S u.length (λ_=>false) e {w with drawn:=w.drawn+1}):(abL id u.toArray true).wpIn (FO r) 0 P E a w:=by
 refine wpIn_region_any J ?_
 rw[Lr]
 refine WS.any hd I u.length (λ_=>false) _ e a _ G (λ_ _=>rfl) ea (λi=>?_) h
 simp only[Ck,Array.getElem?_replicate]
 grind
def lk(s:Nat):List (Nat×Option Bool)->Option (Option Bool)
 | []=>none
 | q::r=>bif A8 q.1 s then some q.2 else lk s r
def Ih(d:Nat):List (Nat×Option Bool)->List (Nat×Option Bool)
 | []=>[]
 | q::r=>bif A8 q.1 d then Ih d r else q::Ih d r
def del(d:Option Nat)(u:List (Nat×Option Bool)):List (Nat×Option Bool):=match d with|none=>u|some d=>Ih d u
def C9(u:List (Nat×Option Bool)):Operand->Option Bool
 | .const (.bool b)=>some b
 | .tmp t=>match lk t u with|some b=>b|none=>none
 | _=>none
def afF(u:List (Nat×Option Bool)):Op->Option Operand
 | .move x=>some x
 | .assign x=>some x
 | .pick (.tmp c) a b=>match lk c u with|some (some t)=>some (bif t then a else b)|_=>none
 | _=>none
def V1(u:List (Nat×Option Bool))(d:Option Nat)(x:Operand):List (Nat×Option Bool):=
 match d,C9 u x with
 | some d,some b=>(d,some b)::Ih d u
 | d,_=>del d u
def ofK:Option Bool->Value|some b=>.bool b|none=>undef
def kh(u:List (Nat×Option Bool))(e:Env):Prop:=∀s b,lk s u=some b->e s=ofK b
theorem DN(n:Nat):A8 n n=true:=Nat.beq_refl n
theorem Br{a b:Nat}(h:a≠b):A8 a b=false:=by
 cases hh:A8 a b
 .rfl
 simp_all
theorem abX(s d:Nat)(u:List (Nat×Option Bool)):lk s (Ih d u)=if s=d then none else lk s u:=by
 induction u with
 | nil=>simp[Ih,lk]
 | cons q r B=>
  simp only[Ih,lk]
  by_cases h1:q.1=d
  .rw[h1,DN,cond_true,B]
   by_cases h2:s=d
   .simp[h2]
   .rw[eb h2,eb h2,Br (λE=>h2 E.symm),cond_false]
  .rw[Br h1,cond_false]
   simp only[lk,B]
   by_cases h2:q.1=s
   .grind
   .rw[Br h2,cond_false,cond_false]
def kh.nil(e:Env):kh [] e:=λs b h=>by simp[lk]at h
theorem kh.del{E:List (Nat×Option Bool)}{e:Env}(h:kh E e)(d:Option Nat)(v:Value):kh (del d E) (jI e d v):=by
 cases d with
 | none=>exact h
 | some d=>
  intro s b B
  simp only[Fw.del,abX]at B
  by_cases u:s=d
  .simp[u]at B
  .rw[eb u]at B
   simp only[jI,ou _ _ u]
   exact h s b B
def kh.cons{B:List (Nat×Option Bool)}{e:Env}(h:kh B e){s:Nat}{b:Option Bool}(E:e s=ofK b):kh ((s,b)::B) e:=by
 intro s' G u
 simp only[lk]at u
 by_cases h1:s=s'
 .subst h1;rw[DN,cond_true]at u;cases u;exact E
 rw[Br h1,cond_false]at u;exact h _ _ u
theorem kh.known{E:List (Nat×Option Bool)}{e:Env}(h:kh E e){x:Operand}{b:Bool}(B:C9 E x=some b):ev e x=.bool b:=by
 cases x with
 | tmp t=>
  have u:(match lk t E with|some b=>b|none=>none)=some b:=B
  split at u
  .rename_i b' hb;subst u;exact h t _ hb
  grind
 | const v=>cases v<;>simp[C9]at B;simp[ev,B]
 | _=>simp[C9]at B
def kh.aft{u:List (Nat×Option Bool)}{e:Env}(h:kh u e)(d:Option Nat)(x:Operand):kh (V1 u d x) (jI e d (ev e x)):=by
 unfold V1
 split
 .rename_i d b hb
  have h1:=h.del (some d) (ev e x)
  exact kh.cons (b:=some b) h1 (by simp only[jI,m9];exact h.known hb)
 exact h.del _ _
def tZ(P:Program)(u:List Oper)(r:Oper)(e:Env)(w:World)(R:Prop):Prop:=
 bif ox u r e then(match zQ P r (ev e),r.dst with|.q m,some d=>Rc P m (e d) w R|_,_=>False)else R
def zR(P:Program)(u:List Oper):List Oper->Env->World->Prop->Prop
 | [],_,_,R=>R
 | r::ks,e,w,R=>tZ P u r e w (zR P u ks e w R)
theorem Kd{P:Program}{u:List Oper}{ks:List Oper}{e:Env}{w:World}{R:Prop}:zR P u ks e w R->(∀r∈ks,tZ P u r e w True)/\R:=by
 induction ks with
 | nil=>intro h;exact⟨ea,h⟩
 | cons r ks B=>
  intro h
  have:tZ P u r e w True/\zR P u ks e w R:=by
   simp only[zR,tZ]at h |-
   cases hw:ox u r e with
   | false=>grind
   | true=>
    rw[hw]at h
    simp only[cond_true]at h |-
    cases hk:zQ P r (ev e)<;>rw[hk]at h<;>cases hd:r.dst<;>rw[hd]at h<;>first|grind|skip
    exact⟨⟨h.amB,trivial⟩,h.rest⟩
  grind
def DO(n:Nat)(o:Oper):Bool:=match o.dst with|none=>true|some d=>abz d n
def goF(P:Program)(u:List Oper)(o:Oper)(ks:List Oper)(rec:List (Nat×Option Bool)->Env->g7)(B:List (Nat×Option Bool))(e:Env)(w:World):Prop:=
 match afF B o.op with
 | some x=>rec (V1 B o.dst x) (jI e o.dst (ev e x)) w
 | none=>Gt P (zQ P o (ev e)) (λv w'=>zR P u ks (jI e o.dst v) w' (rec (del o.dst B) (jI e o.dst v) w')) w
def skF(o:Oper)(rec:List (Nat×Option Bool)->Env->g7)(u:List (Nat×Option Bool))(e:Env)(w:World):Prop:=
 rec (match o.dst with|some d=>(d,none)::Ih d u|none=>u) (jI e o.dst undef) w
theorem kh.skip{u:List (Nat×Option Bool)}{e:Env}(h:kh u e)(d:Option Nat) :
  kh (match d with|some d=>(d,none)::Ih d u|none=>u) (jI e d undef):=by
 cases d with
 | none=>exact h
 | some d=>exact kh.cons (b:=none) (h.del (some d) undef) (by simp only[jI,m9];rfl)
def DS(P:Program)(n:Nat)(u:List Oper)(q:Oper×List Oper)(rec:List (Nat×Option Bool)->Env->g7)(B:List (Nat×Option Bool))(e:Env)(w:World):Prop:=
  bif DO n q.1 then
   match q.1.guard with
   | none=>goF P u q.1 q.2 rec B e w
   | some g=>match Bq u g.1 with
    | none=>False
    | some s=>match lk s B with
     | some none=>skF q.1 rec B e w
     | some (some E)=>bif E == g.2 then goF P u q.1 q.2 rec B e w else skF q.1 rec B e w
     | none=>ym (e s)
       (bif g.2 then goF P u q.1 q.2 rec ((s,some true)::B) (zL e s (.bool true)) w else skF q.1 rec ((s,some true)::B) (zL e s (.bool true)) w)
       (bif g.2 then skF q.1 rec ((s,some false)::B) (zL e s (.bool false)) w else goF P u q.1 q.2 rec ((s,some false)::B) (zL e s (.bool false)) w)
  else False
def DR(P:Program)(n:Nat)(u:List Oper):List (Oper×List Oper)->(Env->g7)->List (Nat×Option Bool)->Env->g7
 | [],Q,_,e,w=>Q e w
 | q::rest,Q,kg,e,w=>DS P n u q (DR P n u rest Q) kg e w
def xz{P:Program}{u:List Oper}{o:Oper}{ks:List Oper}{rec:List (Nat×Option Bool)->Env->g7}{G:List (Nat×Option Bool)}{e:Env}{w:World}
  (B:kh G e) (h:goF P u o ks rec G e w) :
  Gt P (zQ P o (ev e)) (λv w'=>(w'=w\/∀r∈ks,tZ P u r (jI e o.dst v) w' True)/\∃E,kh E (jI e o.dst v)/\rec E (jI e o.dst v) w') w:=by
 unfold goF at h
 split at h
 .rename_i x hx
  have J:(zQ P o (ev e)).has P w (ev e x):=by
   unfold zQ
   cases jZ:o.op<;>rw[jZ]at hx<;>simp only[afF]at hx<;>first|cases hx|skip
   case move y=>simp only[DM.has]
   case assign y=>simp only[DM.has]
   case pick c a b=>
    cases c<;>simp only at hx<;>first|cases hx|skip
    rename_i c
    split at hx
    .rename_i t ht
     cases hx
     have hc:e c=.bool t:=B c _ ht
     simp only[DM.has,ev,hc,VX]
     cases t<;>rfl
    .cases hx
  exact Gt.VY J ⟨.inl rfl,_,B.aft _ _,h⟩
 refine h.mono λv w' I=>?_
 have:=Kd I
 exact⟨.inr this.1,_,B.del _ _,this.2⟩
theorem Ii{P:Program}{n:Nat}{u:List Oper}{q:Oper×List Oper}{rec:List (Nat×Option Bool)->Env->g7}{G:List (Nat×Option Bool)}{e:Env}{w:World}
  (B:kh G e) (h:DS P n u q rec G e w) :
  (∀d,q.1.dst=some d->d<n)/\
  C8 P u q.1 (λV w'=>(w'=w\/∀r∈q.2,tZ P u r V w' True)/\∃J,kh J V/\rec J V w') e w:=by
 unfold DS at h
 cases hd:DO n q.1 with
 | false=>grind
 | true=>
  rw[hd]at h
  refine⟨λd hdd=>by unfold DO at hd;simp_all,?_⟩
  have U:∀{G:List (Nat×Option Bool)},kh G e->skF q.1 rec G e w->
    (w=w\/∀r∈q.2,tZ P u r (jI e q.1.dst undef) w True)/\∃J,kh J (jI e q.1.dst undef)/\rec J (jI e q.1.dst undef) w:=
   λB h=>⟨.inl rfl,_,B.skip _,h⟩
  simp only[cond_true]at h
  unfold C8
  cases hg:q.1.guard with
  | none=>
   rw[hg]at h
   have O:ox u q.1 e=true:=by unfold ox;rw[hg]
   rw[ee O]
   exact xz B h
  | some g=>
   obtain⟨j,b⟩:=g
   rw[hg]at h
   dsimp only at h
   cases hs:Bq u j with
   | none=>rw[hs]at h;exact h.elim
   | some s=>
    rw[hs]at h
    dsimp only at h
    have O:∀t,e s=.bool t->ox u q.1 e=(t == b):=λt ht=>by unfold ox;rw[hg];dsimp only;rw[hs];dsimp only;rw[ht]
    cases hl:lk s G with
    | some Z=>
     rw[hl]at h
     cases Z with
     | none=>
      dsimp only at h
      have Y:ox u q.1 e=false:=by
       unfold ox;rw[hg];dsimp only;rw[hs];dsimp only;rw[B s none hl];rfl
      rw[eb (by rw[Y];simp)]
      exact U B h
     | some W=>
      dsimp only at h
      rw[O W (B s _ hl)]
      cases hb:W == b with
      | true=>rw[hb]at h;rw[ee rfl];exact xz B h
      | false=>rw[hb]at h;rw[eb ea];exact U B h
    | none=>
     rw[hl]at h
     obtain⟨t,ht,I,E⟩:=h.ex
     rw[O t ht]
     have M:∀c,t=c->zL e s (.bool c)=e:=λc hc=>ahH _ _ _ (by rw[ht,hc])
     cases t with
     | true=>
      have I:=I rfl
      rw[M true rfl]at I
      cases b with
      | true=>rw[ee (by rfl)];exact xz (B.cons (b:=some _) ht) I
      | false=>rw[eb ea];exact U (B.cons (b:=some _) ht) I
     | false=>
      have E:=E rfl
      rw[M false rfl]at E
      cases b with
      | true=>rw[eb ea];exact U (B.cons (b:=some _) ht) E
      | false=>rw[ee (by rfl)];exact xz (B.cons (b:=some _) ht) E
theorem DR.list{r:Option Nat}{ds:List Nat}{P:Program}{n:Nat}{u:List Oper}{Q:Env->g7}{V:Exit->Act->g7}{e0:Env}
  (Z:∀e a w,jn ds n e a->(∀k,k ∉ wr u->e k=e0 k)->Q e w->V .normal a w) :
  ∀(l:List Oper) (I:List (Nat×Option Bool)) (e:Env) (a:Act) (w:World),(∀o∈l,o∈u)->jn ds n e a->(∀k,k ∉ wr u->e k=e0 k)->kh I e->
   DR P n u (l.map λo=>(o,[])) Q I e w->wpListIn (FO r) 0 P u.toArray V l a w:=by
 intro l
 induction l with
 | nil=>intro I e a w _ B J _ h;exact Z e a w B J h
 | cons o l W=>
  intro I e a w Y B J hk h
  obtain⟨hd,E⟩:=Ii hk h
  obtain⟨i,hi⟩:=List.getElem?_of_mem (Y o ob)
  have G:∀x∈l,x∈u:=λx hx=>Y x (o4 _ hx)
  unfold wpListIn
  rw[Gu B]
  unfold C8 at E
  split
  .rename_i hw
   rw[ee hw]at E
   exact Gt.wp B E λv w' ⟨_,M,O,U⟩=>W M _ _ w' G (B.put hd v) (yO J hi v) O U
  .rename_i hw
   rw[eb hw]at E
   obtain⟨_,M,O,U⟩:=E
   exact⟨tY,W M _ _ w G (B.put hd undef) (yO J hi undef) O U⟩
def DR.region{r:Option Nat}{ds:List Nat}{P:Program}{n:Nat}{id:Nat}{u:List Oper}{Q:Env->g7}{E:Exit->Act->g7}{e:Env}{a:Act}{w:World}
  (G:jn ds n e a) (I:∀B a w,jn ds n B a->(∀k,k ∉ wr u->B k=e k)->Q B w->E .normal a w)
  (h:DR P n u (u.map λo=>(o,[])) Q [] e w):(abL id u.toArray false).wpIn (FO r) 0 P E a w:=
 wpIn_region_lit (DR.list I u [] e a w (λ_ h=>h) G (λ_ _=>rfl) (kh.nil e) h)
def Om(P:Program)(o:Oper):Bool:=(zQ P o λ_=>undef).quiet
def Ij(P:Program)(o:Oper):Bool:=(zQ P o λ_=>undef).reads
theorem Ke{P:Program}{o:Oper}(ρ ρ':Operand->Value):(zQ P o ρ).quiet=(zQ P o ρ').quiet/\(zQ P o ρ).reads=(zQ P o ρ').reads:=by
 unfold zQ
 cases o.op<;>try exact⟨rfl,rfl⟩
 case binOp op t x y u=>dsimp only;split<;>exact⟨rfl,rfl⟩
 case convert s d x=>dsimp only;split<;>exact⟨rfl,rfl⟩
 case call c=>
  dsimp only
  cases c.callee with
  | value x=>cases x<;>exact⟨rfl,rfl⟩
  | invoke r nm=>grind
  | builtin b=>cases b<;>dsimp only<;>first|exact⟨rfl,rfl⟩|(split<;>exact⟨rfl,rfl⟩)
def iE(d:Nat):List Nat->Bool
 | []=>false
 | x::r=>A8 x d||iE d r
theorem zS{d:Nat}{l:List Nat}:iE d l=true↔d∈l:=by
 induction l with
 | nil=>simp[iE]
 | cons x r u=>
  simp only[iE,wH,u,sk]
  constructor
  .rintro(h|h)
   .simp_all
   grind
  .rintro(rfl|h)
   .simp_all
   grind
def Rh{d:Nat}{l:List Nat}:iE d l=false↔d ∉ l:=by
 rw[<- zS];simp
def eqO(d:Nat):Option Nat->Bool|none=>false|some k=>A8 k d
theorem abZ{d:Nat}{o:Option Nat}:eqO d o=true↔o=some d:=by
 cases o with
 | none=>simp[eqO]
 | some k=>simp_all[eqO]
def Ik(u:List Oper)(x y:Oper):Bool:=match y.dst with|none=>true|some d=>!iE d (looks u x)&&!eqO d x.dst
def Bs{u:List Oper}{x y:Oper}(h:Ik u x y=true):∀d,y.dst=some d->d ∉ looks u x/\x.dst≠some d:=by
 intro d hd
 unfold Ik at h
 rw[hd]at h
 simp only[nS,qm]at h
 exact⟨Rh.1 h.1,λB=>by rw[<- abZ]at B;grind⟩
def On(u:List Oper)(x y:Oper):Bool:=Ik u y x&&Ik u x y
def Kf{u:List Oper}{x y:Oper}(h:On u x y=true):VZ u x y:=by
 simp only[On,nS]at h
 exact⟨λd hd=>Bs h.1 d hd,λd hd=>(Bs h.2 d hd).1⟩
def Bt(f:Nat->Oper->Bool):Nat->List Oper->Bool
 | _,[]=>true
 | k,o::r=>f k o&&Bt f (k+1) r
theorem nT{f:Nat->Oper->Bool}{l:List Oper}:∀{k:Nat},Bt f k l=true->∀i o,l[i]?=some o->f (k+i) o=true:=by
 induction l with
 | nil=>grind
 | cons x r u=>
  grind[Bt]
def CM:List Nat->Nat->Nat
 | [],_=>0
 | x::_,0=>x
 | _::r,n+1=>CM r n
def Gw(u:List Nat):List Nat->Nat
 | []=>0
 | p::r=>NW (NW (J3 1 p) (CM u p)) (Gw u r)
def Gx(B:List Oper)(u:List Nat):Bool:=
 Bt (λj o=>(pre o).all (λp=>abz p j)&&A8 (CM u j) (Gw u (pre o))) 0 B
theorem TN{u l:List Nat}{i:Nat}(h:(Gw u l).testBit i=true):∃p∈l,p=i\/(CM u p).testBit i=true:=by
 induction l with
 | nil=>simp[Gw]at h
 | cons p r E=>
  have B:(((1 <<< p) ||| CM u p) ||| Gw u r).testBit i=true:=h
  simp only[Xb,wH]at B
  rcases B with(B|B)|B
  .refine⟨p,ea,.inl ?_⟩
   rw[S2,Qm]at B
   grind
  .grind
  grind
theorem Gy{u:List Oper}{B:List Nat}(h:Gx u B=true):∀(n j:Nat),j<n->j<u.length->∀i,(CM B j).testBit i=true->Ol u j i:=by
 intro n
 induction n with
 | zero=>omega
 | succ n J=>
  intro j O hlen i hi
  obtain⟨o,G⟩:∃o,u[j]?=some o:=⟨u[j],by simp[hlen]⟩
  have:=nT h j o G
  simp only[ta,nS,EL]at this
  obtain⟨h1,h2⟩:=this
  have h2:=Pq h2
  rw[h2]at hi
  obtain⟨p,I,E⟩:=TN hi
  rcases E with rfl|E
  .exact .one G I
  .have M:p<j:=by simp_all
   exact .more G I (J p bL bL i E)
def bit(m i:Nat):Bool:=Nat.testBit m i
def Gz(u:List Oper)(y:Oper):Bool:=match y.dst with|none=>false|some d=>!iE d (looks u y)
theorem Oo{u:List Oper}{y:Oper}(h:Gz u y=true):∃d,y.dst=some d/\d ∉ looks u y:=by
 unfold Gz at h
 cases hd:y.dst with
 | none=>grind
 | some d=>rw[hd]at h;exact⟨d,rfl,Rh.1 cH⟩
def V2(P:Program)(u:List Oper)(B:List Nat)(m i:Nat)(ks:List Nat):Bool:=
 match u[i]? with
 | none=>false
 | some o=>
  !bit m i&&((pre o).all (λp=>bit m p) &&
  (bif Om P o then
   Bt (λj y=>A8 j i||(bit m j||(iE i (pre y)||On u o y))) 0 u
  else
   Bt (λj y=>A8 j i||(bit m j||!(pre y).all λp=>bit m p)) 0 u &&
   (Bt (λr y=>!bit m r||(!Ij P y||(bit (CM B i) r||iE r ks))) 0 u &&
   ks.all (λr=>match u[r]? with
    | none=>false
    | some y=>Gz u y&&Bt (λj z=>A8 j r||(bit (CM B r) j||Ik u y z)) 0 u))))
inductive PT where
 | nil
 | stop
 | op (i:Nat) (ks:List Nat) (r:PT)
 | alt (i:Nat) (ks:List Nat) (r o:PT)
def PT.of:List (Nat×List Nat)->PT
 | []=>.nil
 | q::r=>.op q.1 q.2 (PT.of r)
def PT.ids:PT->List Nat
 | .alt i _ _ o=>i::o.ids
 | _=>[]
def PT.many:PT->Bool
 | .alt _ _ _ _=>true
 | .op _ _ r=>r.many
 | _=>false
def afH(P:Program)(u:List Oper)(B:List Nat)(m i:Nat)(ks:List Nat):Bool:=
 match u[i]? with
 | none=>false
 | some o=>
  !bit m i&&((pre o).all (λp=>bit m p)&&(!Om P o&&(
   (Bt (λr y=>!bit m r||(!Ij P y||(bit (CM B i) r||iE r ks))) 0 u &&
   ks.all (λr=>match u[r]? with
    | none=>false
    | some y=>Gz u y&&Bt (λj z=>A8 j r||(bit (CM B r) j||Ik u y z)) 0 u)))))
def Ri(P:Program)(u:List Oper)(B:List Nat):Bool->Nat->Nat->PT->Bool
 | c,f,m,.nil=>!c&&(A8 f 0&&Bt (λj _=>bit m j) 0 u)
 | c,_,_,.stop=>c
 | c,f,m,.op i ks r=>!c&&(match f with|0=>false|E+1=>V2 P u B m i ks&&Ri P u B false E (NW m (J3 1 i)) r)
 | c,f,m,.alt i ks r o=>(c||Bt (λj y=>bit m j||(!(pre y).all (λp=>bit m p)||iE j (i::o.ids))) 0 u) &&
  ((match f with|0=>false|E+1=>afH P u B m i ks&&Ri P u B false E (NW m (J3 1 i)) r)&&Ri P u B true f m o)
def GA(B:List Oper):List Nat:=B.foldl (λu o=>u++[Gw u (pre o)]) []
def PT.run(k:Nat):Nat->PT
 | 0=>.nil
 | n+1=>.op k [] (PT.run (k+1) n)
def vJ(u:List Oper)(i:Nat):Oper:=(u[i]?).getD default
def DT(P:Program)(n:Nat)(u:List Oper):PT->(Env->g7)->List (Nat×Option Bool)->Env->g7
 | .nil,Q,_,e,w=>Q e w
 | .stop,_,_,_,_=>True
 | .op i ks r,Q,B,e,w=>DS P n u (vJ u i,ks.map (vJ u)) (DT P n u r Q) B e w
 | .alt i ks r o,Q,B,e,w=>DS P n u (vJ u i,ks.map (vJ u)) (DT P n u r Q) B e w/\DT P n u o Q B e w
def DQ(P:Program)(u:List Oper):PT->(Env->g7)->Env->g7
 | .nil,Q,e,w=>Q e w
 | .stop,_,_,_=>True
 | .op i ks r,Q,e,w=>C8 P u (vJ u i) (λB w'=>(w'=w\/∀r∈ks.map (vJ u),tZ P u r B w' True)/\DQ P u r Q B w') e w
 | .alt i ks r o,Q,e,w=>C8 P u (vJ u i) (λB w'=>(w'=w\/∀r∈ks.map (vJ u),tZ P u r B w' True)/\DQ P u r Q B w') e w/\DQ P u o Q e w
theorem DT.plain{P:Program}{n:Nat}{B:List Oper}{Q:Env->g7}:∀(p:PT) (u:List (Nat×Option Bool)) (e:Env) (w:World),kh u e->DT P n B p Q u e w->DQ P B p Q e w:=by
 intro p
 induction p with
 | nil=>intro u e w _ h;exact h
 | stop=>intro u e w _ _;trivial
 | op i ks p G=>intro u e w E h;exact(Ii E h).2.mono λv w' ⟨h1,I,h2,h3⟩=>⟨h1,G I _ _ h2 h3⟩
 | alt i ks p o G J=>intro u e w E h;exact⟨(Ii E h.1).2.mono λv w' ⟨h1,I,h2,h3⟩=>⟨h1,G I _ _ h2 h3⟩,J u e w E h.2⟩
structure Tk where
 idx:Nat
 o:Oper
 b:Bool
 X:DM
 v:Value
structure DP(P:Program)(ops:List Oper)(L:Nat->Bool)(T:List Tk)(e:Env):Prop where
 op:∀x∈T,ops[x.idx]?=some x.o
 listed:∀x∈T,L x.idx=true
 kind:∀x∈T,x.X.reads=Ij P x.o
 still:∀x∈T,x.X.reads=false->x.b=true->∀w,x.X.has P w x.v
 reads:∀x∈T,x.X.reads=true->(∀j z,ops[j]?=some z->j≠x.idx->Ol ops x.idx j\/Ik ops x.o z=true)->Gz ops x.o=true->
  zQ P x.o (ev e)=x.X/\ox ops x.o e=x.b/\∃d,x.o.dst=some d/\(x.b=true->e d=x.v)
def ST(P:Program)(u:List Oper)(T:List Tk):Nat->g7:=λj w=>∀x∈T,Ol u j x.idx\/(x.b=true->x.X.has P w x.v)
def Rj{m i:Nat}:(λk=>bit (NW m (J3 1 i)) k)=lT (λk=>bit m k) i:=by
 funext k
 show(m ||| 1 <<< i).testBit k=_
 rw[Xb,S2,Qm]
 grind[lT,bit]
theorem DP.next{P:Program}{u:List Oper}{L:Nat->Bool}{T:List Tk}{e:Env}(h:DP P u L T e)(W:Down u L){i:Nat}{o:Oper}(ho:u[i]?=some o)(hi:L i=false)(v:Value) :
  DP P u (lT L i) T (jI e o.dst v):=by
 refine⟨h.op,λx G=>Ie _ _ (h.listed x G),h.kind,h.still,λx G hr V I=>?_⟩
 obtain⟨h1,h2,d,hd,h3⟩:=h.reads x G hr V I
 have Z:i≠x.idx:=λU=>by have:=h.listed x G;grind
 have E:Ik u x.o o=true:=by
  rcases V i o ho Z with amE|E
  .have:L i=true:=amE.listed W λY O p hp=>W x.idx Y (h.listed x G) O p hp
   grind
  omega
 have B:=Bs E
 refine⟨by rw[C7 λk J=>(B k J).1];exact h1,by rw[xy λk J=>(B k J).1];exact h2,d,hd,λhb=>?_⟩
 have:=h3 hb
 cases Kg:o.dst with
 | none=>exact this
 | some k=>
  have M:d≠k:=λU=>(B k Kg).2 (by rw[hd,U])
  simp only[jI,ou _ _ M]
  exact this
theorem Kh{P:Program}{u:List Oper}{G:List Nat}(hc:Gx u G=true){f m i:Nat}{ks:List Nat}{o:Oper}{T:List Tk}{e:Env}{w:World}{Q:Env->g7}{rec:Env->g7}
  (ho:u[i]?=some o) (W:bit m i=false) (hL:Down u (bit m)) (B:DP P u (bit m) T e)
  (yP:∀(r:Nat) (y:Oper),u[r]?=some y->(!bit m r||(!Ij P y||(bit (CM G i) r||iE r ks)))=true)
  (Ki:∀r∈ks,(match u[r]? with|none=>false|some y=>Gz u y&&Bt (λj z=>A8 j r||(bit (CM G r) j||Ik u y z)) 0 u)=true)
  (iS:C8 P u o (λM w'=>(w'=w\/∀r∈ks.map (vJ u),tZ P u r M w' True)/\rec M w') e w)
  (Y:∀v w',DP P u (lT (bit m) i) T (jI e o.dst v)->rec (jI e o.dst v) w'->WS P u Q (ST P u T) f (lT (bit m) i) (jI e o.dst v) w') :
  C8 P u o (λM w'=>(w'=w\/ST P u T i w')/\WS P u Q (ST P u T) f (lT (bit m) i) M w') e w:=by
 refine iS.mono λv w' hh=>?_
 obtain⟨I,zT⟩:=hh
 have U:=B.next hL ho W v
 refine⟨?_,?_⟩
 .rcases I with hw|I
  .grind
  refine .inr λx E=>?_
  cases VI:x.X.reads with
  | false=>exact .inr λhb=>B.still x E VI hb w'
  | true=>
   have h1:=yP x.idx x.o (B.op x E)
   simp only[wH,qm]at h1
   rcases h1 with h1|h1|h1|h1
   .have:=B.listed x E;grind
   .have:=B.kind x E;grind
   .have Co:i<u.length:=(ir.1 ho).1
    exact .inl (Gy hc (i+1) i bL Co _ h1)
   .have Z:=zS.1 h1
    have h2:=Ki x.idx Z
    rw[B.op x E]at h2
    simp only[nS]at h2
    obtain⟨O,h2⟩:=h2
    have h2:=nT h2
    have V:x.idx<u.length:=(ir.1 (B.op x E)).1
    obtain⟨e1,e2,d,hd,e3⟩:=U.reads x E VI (λk z hz Gv=>by
     have:=h2 k z hz
     simp only[ta,wH]at this
     rcases this with h3|h3|h3
     .simp_all
     .exact .inl (Gy hc (x.idx+1) x.idx bL V _ h3)
     grind) O
    refine .inr λhb=>?_
    have J:=I x.o (List.mem_map.2 ⟨x.idx,Z,by simp[vJ,B.op x E]⟩)
    unfold tZ at J
    rw[e2,hb,e1,hd]at J
    simp only[cond_true]at J
    cases hX:x.X<;>rw[hX]at J VI<;>first|grind|cases VI|skip
    have:=J.amB
    rw[e3 hb]at this
    exact this
 grind
theorem ab1{P:Program}{u:List Oper}{Y:List Nat}{Q:Env->g7}(hc:Gx u Y=true) :
  ∀(p:PT) (f m:Nat) (T:List Tk) (e:Env) (w:World),
   Down u (bit m)->DP P u (bit m) T e->DQ P u p Q e w->
   (Ri P u Y false f m p=true->WS P u Q (ST P u T) f (bit m) e w)/\
   (Ri P u Y true f m p=true->∀j∈p.ids,∃f',f=f'+1/\Ok u (bit m) j/\∀U,u[j]?=some U->C8 P u U (λe' w'=>(w'=w\/ST P u T j w')/\WS P u Q (ST P u T) f' (lT (bit m) j) e' w') e w):=by
 intro p
 induction p with
 | nil=>
  intro f m T e w V hT h
  refine⟨λB=>?_,λ_ j I=>by cases I⟩
  simp only[Ri,N9,Av,nS]at B
  have vV:=nT B.2
  rw[Pq B.1]
  refine⟨λi hr=>?_,h⟩
  obtain⟨h0,o,J,_⟩:=hr
  grind
 | stop=>
  intro f m T e w V hT h
  exact⟨λB=>by simp[Ri]at B,λ_ j I=>by cases I⟩
 | op i ks p ih=>
  intro f m T e w V hT h
  refine⟨λB=>?_,λ_ j I=>by cases I⟩
  simp only[Ri,N9,Av]at B
  cases f with
  | zero=>cases B
  | succ f=>
   simp only[nS]at B
   obtain⟨G,B⟩:=B
   unfold V2 at G
   cases J:u[i]? with
   | none=>rw[J]at G;cases G
   | some o=>
   rw[J]at G
   simp only[nS,qm,EL]at G
   obtain⟨O,ahM,G⟩:=G
   have hr:Ok u (bit m) i:=⟨O,o,J,ahM⟩
   have ey:vJ u i=o:=by simp[vJ,J]
   have W:C8 P u (vJ u i) (λe' w'=>(w'=w\/∀r∈ks.map (vJ u),tZ P u r e' w' True)/\DQ P u p Q e' w') e w:=h
   rw[ey]at W
   have F8:(bit (NW m (J3 1 i)))=lT (bit m) i:=Rj
   have hL':Down u (lT (bit m) i):=V.set hr
   cases hq:Om P o with
   | true=>
    rw[hq]at G
    simp only[cond_true]at G
    have Rf:=nT G
    have hqq:∀ρ,(zQ P o ρ).quiet=true:=λρ=>by rw[(Ke ρ λ_=>undef).1];exact hq
    obtain⟨b,v,hb,hn,hy,zT⟩:∃b v,ox u o e=b/\(b=false->v=undef)/\(b=true->(zQ P o (ev e)).has P w v)/\
      DQ P u p Q (jI e o.dst v) w:=by
     unfold C8 at W
     cases hb:ox u o e with
     | true=>
      rw[ee hb]at W
      obtain⟨v,hv,_,zT⟩:=W.has (hqq _)
      exact⟨true,v,rfl,ea,λ_=>hv,zT⟩
     | false=>
      rw[eb (by rw[hb];simp)]at W
      obtain⟨_,zT⟩:=W
      exact⟨false,undef,rfl,λ_=>rfl,ea,zT⟩
    refine WS.first (X:=zQ P o (ev e)) J hn f (bit m) e w V hr ?_ rfl hb hy ?_
    .intro j U Z hji auD ey
     have:=Rf j U Z
     simp only[ta,wH]at this
     rcases this with h1|h1|h1|h1
     .exact absurd (Pq h1) hji
     .rw[auD]at h1;cases h1
     .exact absurd (zS.1 h1) ey
     .exact Kf h1
    .have hT':DP P u (lT (bit m) i) (⟨i,o,b,zQ P o (ev e),v⟩::T) (jI e o.dst v):=by
      have M:=hT.next V J O v
      constructor
      .intro x E;rcases sk.1 E with rfl|E
       .exact J
       .exact M.op x E
      .intro x E;rcases sk.1 E with rfl|E
       .exact TL _ _
       .exact M.listed x E
      .intro x E;rcases sk.1 E with rfl|E
       .exact(Ke _ _).2
       .exact M.kind x E
      .intro x E;rcases sk.1 E with rfl|E
       .intro h1 h2 w';exact DM.TI h1 (hy h2)
       .exact M.still x E
      .intro x E;rcases sk.1 E with rfl|E
       .intro h1 h2 h3
        obtain⟨d,hd,TO⟩:=Oo h3
        dsimp only at hd TO |-
        have hh:∀k,o.dst=some k->k ∉ looks u o:=λk hk=>by rw[hd]at hk;cases hk;exact TO
        refine⟨C7 hh,by rw[xy hh];exact hb,d,hd,λ_=>?_⟩
        rw[hd];exact m9 _ _ _
       .exact M.reads x E
     have:=(ih f _ _ _ w (by rw[F8];exact hL') (by rw[F8];exact hT') zT).1 B
     rw[F8]at this
     refine WS.weaken (λj w' I=>?_) _ _ _ _ this
     exact⟨λx E=>I x (o4 _ E),I _ ob⟩
   | false=>
    rw[hq]at G
    simp only[cond_false,nS,EL]at G
    obtain⟨V3,yP,Ki⟩:=G
    have V3:=nT V3
    have yP:=nT yP
    refine⟨λey=>absurd hr (ey i),λj U Z I=>?_⟩
    have hji:j=i:=by
     have:=V3 j U Z
     simp only[ta,wH,qm]at this
     rcases this with h1|h1|h1
     .simp_all
     .have:=I.1;grind
     .obtain⟨_,o',ho',vV⟩:=I
      grind
    subst hji
    rw[J]at Z;cases Z
    refine Kh hc J O V hT (λr y hy=>cH) Ki W λv w' M zT=>?_
    grind
 | alt i ks p o' ih ih2=>
  intro f m T e w V hT h
  obtain⟨h1,h2⟩:C8 P u (vJ u i) (λe' w'=>(w'=w\/∀r∈ks.map (vJ u),tZ P u r e' w' True)/\DQ P u p Q e' w') e w/\DQ P u o' Q e w:=h
  have chain:∀c,Ri P u Y c f m (.alt i ks p o')=true->∀j∈i::o'.ids,∃f',f=f'+1/\Ok u (bit m) j/\∀U,u[j]?=some U->C8 P u U (λe' w'=>(w'=w\/ST P u T j w')/\WS P u Q (ST P u T) f' (lT (bit m) j) e' w') e w:=by
   intro c B
   simp only[Ri,nS]at B
   obtain⟨_,B,Rk⟩:=B
   cases f with
   | zero=>cases B
   | succ f=>
    simp only[nS]at B
    obtain⟨G,B⟩:=B
    intro j I
    rcases sk.1 I with rfl|I
    .unfold afH at G
     cases J:u[j]? with
     | none=>rw[J]at G;cases G
     | some o=>
      rw[J]at G
      simp only[nS,qm,EL]at G
      obtain⟨O,ahM,_,yP,Ki⟩:=G
      have hr:Ok u (bit m) j:=⟨O,o,J,ahM⟩
      refine⟨f,rfl,hr,λU Z=>?_⟩
      cases Z
      have yP:=nT yP
      have ey:vJ u j=o:=by simp[vJ,J]
      rw[ey]at h1
      have W:=h1
      have F8:(bit (NW m (J3 1 j)))=lT (bit m) j:=Rj
      have hL':Down u (lT (bit m) j):=V.set hr
      refine Kh hc J O V hT (λr y hy=>cH) Ki W λv w' M zT=>?_
      grind
    .exact(ih2 (f+1) m T e w V hT h2).2 Rk j I
  refine⟨λB=>?_,λB=>chain true B⟩
  have hch:=chain false B
  simp only[Ri,Bool.false_or,nS]at B
  have auE:=nT B.1
  obtain⟨f',rfl,hri,_⟩:=hch i ob
  refine⟨λey=>absurd hri (ey i),λj U Z I=>?_⟩
  have Kj:j∈i::o'.ids:=by
   have:=auE j U Z
   simp only[ta,wH,qm]at this
   rcases this with h3|h3|h3
   .have:=I.1;grind
   .obtain⟨_,o2,ho2,vV⟩:=I
    grind
   .exact zS.1 h3
  obtain⟨f2,hf,_,W⟩:=hch j Kj
  simp_all
structure yn(F:(g7)->Prop)(G:g7):Prop where
 ex:∃I:g7,F I/\∀w,I w->G w
structure Rl(B:(g7)->g7)(F:(g7)->Prop):Prop where
 ex:∃I:Nat->g7,(∃m,F (I m))/\∀m w,I m w->B (λw'=>∃m',m'<m/\I m' w') w
structure eR(F:(Value->g7)->Prop)(G:Value->g7):Prop where
 ex:∃I:Value->g7,F I/\∀x0 w,I x0 w->G x0 w
structure jQ(B:(Value->g7)->Value->g7)(F:(Value->g7)->Prop):Prop where
 ex:∃I:Nat->Value->g7,(∃m,F (I m))/\∀m x0 w,I m x0 w->B (λy0 w'=>∃m',m'<m/\I m' y0 w') x0 w
structure Cp(F:(Value->Value->g7)->Prop)(G:Value->Value->g7):Prop where
 ex:∃I:Value->Value->g7,F I/\∀x0 x1 w,I x0 x1 w->G x0 x1 w
structure o0(B:(Value->Value->g7)->Value->Value->g7)(F:(Value->Value->g7)->Prop):Prop where
 ex:∃I:Nat->Value->Value->g7,(∃m,F (I m))/\∀m x0 x1 w,I m x0 x1 w->B (λy0 y1 w'=>∃m',m'<m/\I m' y0 y1 w') x0 x1 w
structure amI(F:(Value->Value->Value->g7)->Prop)(G:Value->Value->Value->g7):Prop where
 ex:∃I:Value->Value->Value->g7,F I/\∀x0 x1 x2 w,I x0 x1 x2 w->G x0 x1 x2 w
structure V4(B:(Value->Value->Value->g7)->Value->Value->Value->g7)(F:(Value->Value->Value->g7)->Prop):Prop where
 ex:∃I:Nat->Value->Value->Value->g7,(∃m,F (I m))/\∀m x0 x1 x2 w,I m x0 x1 x2 w->B (λy0 y1 y2 w'=>∃m',m'<m/\I m' y0 y1 y2 w') x0 x1 x2 w
structure amJ(F:(Value->Value->Value->Value->g7)->Prop)(G:Value->Value->Value->Value->g7):Prop where
 ex:∃I:Value->Value->Value->Value->g7,F I/\∀x0 x1 x2 x3 w,I x0 x1 x2 x3 w->G x0 x1 x2 x3 w
structure amK(B:(Value->Value->Value->Value->g7)->Value->Value->Value->Value->g7)(F:(Value->Value->Value->Value->g7)->Prop):Prop where
 ex:∃I:Nat->Value->Value->Value->Value->g7,(∃m,F (I m))/\∀m x0 x1 x2 x3 w,I m x0 x1 x2 x3 w->B (λy0 y1 y2 y3 w'=>∃m',m'<m/\I m' y0 y1 y2 y3 w') x0 x1 x2 x3 w
structure amL(F:(Value->Value->Value->Value->Value->g7)->Prop)(G:Value->Value->Value->Value->Value->g7):Prop where
 ex:∃I:Value->Value->Value->Value->Value->g7,F I/\∀x0 x1 x2 x3 x4 w,I x0 x1 x2 x3 x4 w->G x0 x1 x2 x3 x4 w
structure amM(B:(Value->Value->Value->Value->Value->g7)->Value->Value->Value->Value->Value->g7)(F:(Value->Value->Value->Value->Value->g7)->Prop):Prop where
 ex:∃I:Nat->Value->Value->Value->Value->Value->g7,(∃m,F (I m))/\∀m x0 x1 x2 x3 x4 w,I m x0 x1 x2 x3 x4 w->B (λy0 y1 y2 y3 y4 w'=>∃m',m'<m/\I m' y0 y1 y2 y3 y4 w') x0 x1 x2 x3 x4 w
def lkv(i:Nat):List (Nat×Value)->Value->Value
 | [],d=>d
 | q::r,d=>bif A8 q.1 i then q.2 else lkv i r d
def F9(e:Env)(M:Nat)(u:List (Nat×Value))(dead:Env):Env:=λi=>bif bit M i then lkv i u (dead i)else e i
def zU(l:List Nat)(F:(Env->g7)->Prop)(G:List (Nat×Value)->g7):Prop:=
 match l with
 | []=>yn (λK=>F λe w=>K w) (λw=>G [] w)
 | [u]=>eR (λK=>F λe w=>K (e u) w) (λE w=>G [(u,E)] w)
 | [u,B]=>Cp (λK=>F λe w=>K (e u) (e B) w) (λE J w=>G [(u,E),(B,J)] w)
 | [u,B,I]=>amI (λK=>F λe w=>K (e u) (e B) (e I) w) (λE J M w=>G [(u,E),(B,J),(I,M)] w)
 | [u,B,I,O]=>amJ (λK=>F λe w=>K (e u) (e B) (e I) (e O) w) (λE J M U w=>G [(u,E),(B,J),(I,M),(O,U)] w)
 | [u,B,I,O,V]=>amL (λK=>F λe w=>K (e u) (e B) (e I) (e O) (e V) w) (λE J M U W w=>G [(u,E),(B,J),(I,M),(O,U),(V,W)] w)
 | _=>False
def zV(l:List Nat)(B:(Env->g7)->List (Nat×Value)->g7)(e:Env)(w:World):Prop:=
 match l with
 | []=>Rl (λK w=>B (λu w'=>K w') [] w) (λK=>K w)
 | [E]=>jQ (λK J w=>B (λu w'=>K (u E) w') [(E,J)] w) (λK=>K (e E) w)
 | [E,G]=>o0 (λK J O w=>B (λu w'=>K (u E) (u G) w') [(E,J),(G,O)] w) (λK=>K (e E) (e G) w)
 | [E,G,I]=>V4 (λK J O U w=>B (λu w'=>K (u E) (u G) (u I) w') [(E,J),(G,O),(I,U)] w) (λK=>K (e E) (e G) (e I) w)
 | [E,G,I,M]=>amK (λK J O U W w=>B (λu w'=>K (u E) (u G) (u I) (u M) w') [(E,J),(G,O),(I,U),(M,W)] w) (λK=>K (e E) (e G) (e I) (e M) w)
 | [E,G,I,M,V]=>amM (λK J O U W Y w=>B (λu w'=>K (u E) (u G) (u I) (u M) (u V) w') [(E,J),(G,O),(I,U),(M,W),(V,Y)] w) (λK=>K (e E) (e G) (e I) (e M) (e V) w)
 | _=>False
def jt(l:List Nat)(e:Env):List (Nat×Value):=l.map λa=>(a,e a)
def zU.spec{l:List Nat}{F:(Env->g7)->Prop}{G:List (Nat×Value)->g7}(h:zU l F G) :
  ∃I:List (Nat×Value)->g7,F (λe w=>I (jt l e) w)/\∀(e:Env) w,I (jt l e) w->G (jt l e) w:=by
 unfold zU at h
 split at h
 .obtain⟨I,h1,h2⟩:=h.ex
  exact⟨λ_ w=>I w,h1,λ_ w hi=>h2 w hi⟩
 .obtain⟨I,h1,h2⟩:=h.ex
  exact⟨λq w=>match q with|[u]=>I u.2 w|_=>False,h1,λe w hi=>h2 _ w hi⟩
 .obtain⟨I,h1,h2⟩:=h.ex
  exact⟨λq w=>match q with|[u,B]=>I u.2 B.2 w|_=>False,h1,λe w hi=>h2 _ _ w hi⟩
 .obtain⟨I,h1,h2⟩:=h.ex
  exact⟨λq w=>match q with|[u,B,E]=>I u.2 B.2 E.2 w|_=>False,h1,λe w hi=>h2 _ _ _ w hi⟩
 .obtain⟨I,h1,h2⟩:=h.ex
  exact⟨λq w=>match q with|[u,B,E,J]=>I u.2 B.2 E.2 J.2 w|_=>False,h1,λe w hi=>h2 _ _ _ _ w hi⟩
 .obtain⟨I,h1,h2⟩:=h.ex
  exact⟨λq w=>match q with|[u,B,E,J,M]=>I u.2 B.2 E.2 J.2 M.2 w|_=>False,h1,λe w hi=>h2 _ _ _ _ _ w hi⟩
 grind
def zV.spec{l:List Nat}{B:(Env->g7)->List (Nat×Value)->g7}{e:Env}{w:World}(h:zV l B e w) :
  ∃I:Nat->List (Nat×Value)->g7,(∃m,I m (jt l e) w)/\
   ∀m e w,I m (jt l e) w->B (λU w'=>∃M,M<m/\I M (jt l U) w') (jt l e) w:=by
 unfold zV at h
 split at h
 .obtain⟨I,⟨m,h1⟩,h2⟩:=h.ex
  exact⟨λm _ w=>I m w,⟨m,h1⟩,λm _ w hi=>h2 m w hi⟩
 .obtain⟨I,⟨m,h1⟩,h2⟩:=h.ex
  exact⟨λm q w=>match q with|[u]=>I m u.2 w|_=>False,⟨m,h1⟩,λm e w hi=>h2 m _ w hi⟩
 .obtain⟨I,⟨m,h1⟩,h2⟩:=h.ex
  exact⟨λm q w=>match q with|[u,E]=>I m u.2 E.2 w|_=>False,⟨m,h1⟩,λm e w hi=>h2 m _ _ w hi⟩
 .obtain⟨I,⟨m,h1⟩,h2⟩:=h.ex
  exact⟨λm q w=>match q with|[u,E,G]=>I m u.2 E.2 G.2 w|_=>False,⟨m,h1⟩,λm e w hi=>h2 m _ _ _ w hi⟩
 .obtain⟨I,⟨m,h1⟩,h2⟩:=h.ex
  exact⟨λm q w=>match q with|[u,E,G,J]=>I m u.2 E.2 G.2 J.2 w|_=>False,⟨m,h1⟩,λm e w hi=>h2 m _ _ _ _ w hi⟩
 .obtain⟨I,⟨m,h1⟩,h2⟩:=h.ex
  exact⟨λm q w=>match q with|[u,E,G,J,O]=>I m u.2 E.2 G.2 J.2 O.2 w|_=>False,⟨m,h1⟩,λm e w hi=>h2 m _ _ _ _ _ w hi⟩
 grind
def V5(m d:Nat):Nat:=NW m (J3 1 d)
def amN(m d:Nat):Nat:=bif bit m d then Nat.sub m (J3 1 d)else m
def yQ:List Nat->Nat
 | []=>0
 | d::r=>V5 (yQ r) d
def vW:List Operand->Nat->Nat
 | [],m=>m
 | .tmp t::r,m=>V5 (vW r m) t
 | _::r,m=>vW r m
def lkX(id:Nat):List (Nat×Nat)->Nat
 | []=>0
 | q::r=>bif A8 q.1 id then q.2 else lkX id r
def V6:List Oper->Nat->Nat
 | [],lo=>lo
 | o::r,lo=>vW o.op.operands.toList (match o.dst with|some d=>amN (V6 r lo) d|none=>V6 r lo)
def amO:List Nat->Nat->Nat
 | [],m=>m
 | d::r,m=>amO r (amN m d)
def li(rl:Nat):Code->List (Nat×Nat)->Nat->Nat
 | .skip,_,lo=>lo
 | .ret,_,_=>rl
 | .exit id,X,_=>lkX id X
 | .region _ ops _,_,lo=>V6 ops.toList lo
 | .seq a b,X,lo=>li rl a X (li rl b X lo)
 | .cond c a b,X,lo=>vW [c] (NW (li rl a X lo) (li rl b X lo))
 | .block id c,X,lo=>li rl c ((id,lo)::X) lo
 | .loop c,X,_=>li rl c X (li rl c X 0)
 | .rangeFunc g ps a b,X,lo=>vW [g] (NW lo (amO ps.toList (li rl a X (li rl b X lo))))
 | _,_,_=>0
def fD:Code->Bool
 | .seq a b=>fD a||fD b
 | .cond _ a b=>fD a||fD b
 | .block _ c=>fD c
 | .loop c=>fD c
 | .rangeFunc _ _ _ _=>true
 | _=>false
def iL:Code->Nat
 | .region _ ops _=>yQ (wr ops.toList)
 | .seq a b=>NW (iL a) (iL b)
 | .cond _ a b=>NW (iL a) (iL b)
 | .block _ c=>iL c
 | .loop c=>iL c
 | _=>0
def guarded:List Oper->Bool
 | []=>false
 | o::r=>o.guard.isSome||guarded r
def ab2(a b:Nat):Nat:=Nat.add a b
mutual
def exC(id:Nat):Code->Nat
 | .exit k=>bif A8 k id then 1 else 0
 | .seq a b=>bif A8 (nxC a) 0 then exC id a else ab2 (exC id a) (exC id b)
 | .cond _ a b=>ab2 (exC id a) (exC id b)
 | .block _ c=>exC id c
 | .loop c=>exC id c
 | .rangeFunc _ _ _ b=>exC id b
 | _=>0
def nxC:Code->Nat
 | .skip=>1
 | .region _ ops _=>bif guarded ops.toList then 2 else 1
 | .seq a b=>bif A8 (nxC a) 0 then 0 else nxC b
 | .cond _ a b=>ab2 (nxC a) (nxC b)
 | .block id c=>ab2 (nxC c) (exC id c)
 | .rangeFunc _ _ _ _=>1
 | _=>0
end
def gg(m:Nat):Nat->Nat->List Nat
 | 0,_=>[]
 | f+1,i=>bif bit m i then i::gg m f (i+1)else gg m f (i+1)
abbrev CN:=Exit->List Nat->Env->g7
def sR(K:List Nat->Env->g7)(Q:CN):CN
 | .normal,ds,e,w=>K ds e w
 | x,ds,e,w=>Q x ds e w
def V7(id:Nat)(Q:CN):CN
 | .exit k,ds,e,w=>bif A8 k id then Q .normal ds e w else Q (.exit k) ds e w
 | x,ds,e,w=>Q x ds e w
def V8(K:Option Code->g7):CN
 | .normal,_,_,w=>K none w
 | .ret,_,_,w=>K (some .ret) w
 | .exit id,_,_,w=>K (some (.exit id)) w
 | _,_,_,_=>False
def aft(N R:Nat->g7)(X:Nat->Nat->g7):Option Code->Nat->g7
 | none=>N
 | some .ret=>R
 | some (.exit id)=>X id
 | _=>λ_ _=>False
def outs:List Nat->Code->Bool
 | l,.exit id=>!(l.any λk=>A8 k id)
 | l,.seq a b=>outs l a||outs l b
 | l,.cond _ a b=>outs l a||outs l b
 | l,.block id c=>outs (id::l) c
 | l,.loop c=>outs l c
 | _,_=>false
def DU:List Value->Nat->Value
 | [],_=>undef
 | v::_,0=>v
 | _::r,k+1=>DU r k
def GB(args:List Value):List Nat->Nat->Env->Env
 | [],_,e=>e
 | p::r,k,e=>GB args r (k+1) (zL e p (DU args k))
def lf(ds:List Nat):Value:=.tuple (ds.map fun (D:Nat)=>mn .u64 (D:Int)).toArray
def ahO:Value->Nat
 | .int _ n=>n.toNat
 | _=>0
def zW:Value->List Nat
 | .tuple vs=>vs.toList.map ahO
 | _=>[]
theorem Bu(ds:List Nat):zW (lf ds)=ds:=by
 show(ds.map fun (D:Nat)=>mn .u64 (D:Int)).map ahO=ds
 rw[List.map_map]
 conv=>rhs;rw[<- List.map_id ds]
 exact yX λD _=>by simp[ahO]
structure zX(P:Program)(fv:Value)(np:Nat)(w:World)(round:List Value->World->(World->(g7)->Prop)->(Option Code->g7)->Prop)(after:Option Code->Nat->g7):Prop where
 ex:∃gf cap,fv=.func (.func gf) #[] cap/\Plain P gf/\∀L0:Loop,L0.state=.ready->L0.pending=none->
  (∀(args:List Value) (W:World) (K:Value->g7),args.length=np->W.heap[w.heap.size+1]?=some (.loop L0)->
   round args W (λw1 k=>w1.heap[w.heap.size+1]?=some (.loop L0)/\k (w1.putObj (w.heap.size+1) (.loop {L0 with state:=.busy})))
    (λj W'=>W'.heap[w.heap.size+1]?=some (.loop {L0 with state:=.busy})/\K (.bool j.isNone) (W'.putObj (w.heap.size+1) (.loop {L0 with state:=if j.isNone then .ready else .done,pending:=j})))->
   YieldAt (FO none) 0 P (w.heap.size+1) args.toArray W (sK K))->
  Calls P gf (#[.func (.yield (w.heap.size+1)) #[] #[]]++cap) ((w.alloc (.deferred (some []))).alloc (.loop L0))
   (sK λ_ W2=>∃st j,st≠.busy/\W2.heap[w.heap.size+1]?=some (.loop {L0 with state:=st,pending:=j})/\after j w.heap.size (W2.putObj (w.heap.size+1) (.loop {L0 with state:=.exhausted,pending:=j})))
abbrev dH:=Nat->PT
def Kk(pl:dH):Code->Bool
 | .region id _ true=>(pl id).many
 | .block _ c=>Kk pl c
 | .seq a b=>Kk pl a||Kk pl b
 | .cond _ a b=>Kk pl a||Kk pl b
 | _=>false
def drew(w:World):World:={w with drawn:=w.drawn+1}
def D(P:Program)(n:Nat)(pl:dH)(rl:Nat):Code->List (Nat×Nat)->Nat->CN->List Nat->Env->g7
 | .skip,_,_,Q,ds,e,w=>Q .normal ds e w
 | .ret,_,_,Q,ds,e,w=>Q .ret ds e w
 | .exit id,_,_,Q,ds,e,w=>Q (.exit id) ds e w
 | .region _ ops false,_,_,Q,ds,e,w=>DR P n ops.toList (ops.toList.map λo=>(o,[])) (Q .normal ds) [] e w
 | .region id ops true,_,_,Q,ds,e,w=>
  bif ops.toList.all (DO n)&&(Gx ops.toList (GA ops.toList)&&Ri P ops.toList (GA ops.toList) false ops.toList.length 0 (pl id))then
   DT P n ops.toList (pl id) (Q .normal ds) [] e (drew w)
  else False
 | .seq a b,X,lo,Q,ds,e,w=>
  bif S3 (nxC a) 1&&!Kk pl a then D P n pl rl a X (li rl b X lo) (sR (D P n pl rl b X lo Q) Q) ds e w
  else bif fD a then zU (n::gg (H3 (iL a) (li rl b X lo)) n 0)
   (λK=>D P n pl rl a X (li rl b X lo) (sR (λds e w=>K (zL e n (lf ds)) w) Q) ds e w)
   (λu w'=>∀dead,D P n pl rl b X lo Q (zW (lkv n u undef)) (F9 e (iL a) u.tail dead) w')
  else zU (gg (H3 (iL a) (li rl b X lo)) n 0)
   (λK=>D P n pl rl a X (li rl b X lo) (sR (λ_ e w=>K e w) Q) ds e w)
   (λu w'=>∀dead,D P n pl rl b X lo Q ds (F9 e (iL a) u dead) w')
 | .cond c a b,X,lo,Q,ds,e,w=>ym (ev e c) (D P n pl rl a X lo Q ds e w) (D P n pl rl b X lo Q ds e w)
 | .block id c,X,lo,Q,ds,e,w=>D P n pl rl c ((id,lo)::X) lo (V7 id Q) ds e w
 | .loop c,X,_,Q,ds,e,w=>
  bif fD c then zV (n::gg (H3 (iL c) (li rl c X (li rl c X 0))) n 0)
   (λK u w=>∀dead,D P n pl rl c X (li rl c X (li rl c X 0)) (sR (λds e w=>K (zL e n (lf ds)) w) Q) (zW (lkv n u undef)) (F9 e (iL c) u.tail dead) w) (zL e n (lf ds)) w
  else zV (gg (H3 (iL c) (li rl c X (li rl c X 0))) n 0)
   (λK u w=>∀dead,D P n pl rl c X (li rl c X (li rl c X 0)) (sR (λ_ e w=>K e w) Q) ds (F9 e (iL c) u dead) w) e w
 | .rangeFunc g ps E G,_,_,Q,ds,e,w=>
  bif ps.toList.all (λp=>abz p n)&&(!fD E&&!fD G)then
   zX P (ev e g) ps.toList.length w
    (λargs W B K=>D P n pl 0 E [] (li 0 G [] 0) (sR (λI M J=>B J λO=>D P n pl 0 G [] 0 (V8 K) I M O) λ_ _ _ _=>False) [] (GB args ps.toList 0 e) W)
    (aft (λD w=>Q .normal (D::ds) e w) (λD w=>Q .ret (D::ds) e w) (bif outs [] G then(λid D w=>Q (.exit id) (D::ds) e w) elseλ_ _ _=>False))
  else False
 | _,_,_,_,_,_,_=>False
theorem V9{m d i:Nat}:bit (V5 m d) i=(bit m i||decide (i=d)):=by
 show(m ||| 1 <<< d).testBit i=_
 rw[Xb,S2,Qm]
 unfold bit
 grind
theorem Ot{l:List Nat}{i:Nat}:bit (yQ l) i=true↔i∈l:=by
 induction l with
 | nil=>simp[yQ,bit]
 | cons d r u=>simp only[yQ,V9,wH,u,decide_eq_true_eq,sk];grind
theorem Ou{l:List Nat}{e:Env}{i:Nat}:lkv i (jt l e) (e i)=e i:=by
 induction l with
 | nil=>rfl
 | cons a r u=>
  show(bif A8 a i then e a else lkv i (jt r e) (e i))=e i
  by_cases h:a=i
  .grind
  .rw[Br h];exact u
theorem xA{e u:Env}{M:Nat}{l:List Nat}(h:∀i,bit M i=false->u i=e i):F9 e M (jt l u) u=u:=by
 funext i
 unfold F9
 cases hb:bit M i with
 | true=>simp only[cond_true];exact Ou
 | false=>grind
theorem Kl{m:Nat}:∀(f i k:Nat),k∈gg m f i->k<i+f:=by
 intro f
 induction f with
 | zero=>intro i k h;cases h
 | succ f u=>
  grind[gg]
theorem Ov{l:List Nat}{n:Nat}{v:Value}{e:Env}(h:∀k∈l,k<n):jt l (zL e n v)=jt l e:=
 yX λk u=>by rw[ou _ _ (Nat.ne_of_lt (h k u))]
theorem GC{l:List Nat}{n:Nat}{ds:List Nat}{e:Env}(h:∀k∈l,k<n):jt (n::l) (zL e n (lf ds))=(n,lf ds)::jt l e:=by
 show(n,zL e n (lf ds) n)::jt l (zL e n (lf ds))=_
 rw[m9,Ov h]
theorem Rm{m n:Nat}:∀k∈gg m n 0,k<n:=λk u=>by have:=Kl n 0 k u;omega
def ua(n:Nat)(M:Nat)(b:Bool)(ds:List Nat)(e:Env)(Q:CN):Exit->Act->g7:=
 λx E w'=>∃u B,jn u n B E/\(∀i,bit M i=false->B i=e i)/\(b=false->u=ds)/\Q x u B w'
theorem least{p:Nat->Prop}(h:∃m,p m):∃m,p m/\∀k,p k->m<=k:=by
 obtain⟨m,B⟩:=h
 induction m using Nat.strongRecOn with
 | _ m u=>
  grind
theorem Il{n:Nat}{args:List Value}:∀(ps:List Nat) (k:Nat) (e:Env) (a:Act),(∀p∈ps,p<n)->jn [] n e a->k+ps.length<=args.length->
  jn [] n (GB args ps k e) {a with tmps:=(ps.zip (args.drop k)).foldl (λt (q:Nat×Value)=>t.setIfInBounds q.1 q.2) a.tmps}:=by
 intro ps
 induction ps with
 | nil=>simp_all[Env,GB]
 | cons p ps G=>
  intro k e a I E B
  have J:k<args.length:=cH
  have hd:args.drop k=DU args k::args.drop (k+1):=by
   rw[List.drop_eq_getElem_cons J]
   congr 1
   clear G E B I
   induction args generalizing k with
   | nil=>simp at J
   | cons v r u=>cases k with
    | zero=>rfl
    | succ k=>exact u k cH
  rw[hd]
  have h1:=E.put (d:=some p) (λk B=>by simp_all) (DU args k)
  exact G (k+1) _ _ (λq M=>I q (o4 _ M)) h1 cH
theorem Wa{P:Program}{n:Nat}{pl:dH}{g:Operand}{ps:Array Tmp}{u E:Code}
  (ihA:∀(r:Option Nat) (rl:Nat) (X:List (Nat×Nat)) (lo:Nat) (Q:CN) (ds:List Nat) (e:Env) (a:Act) (w:World),
   (r=none\/fD u=false)->jn ds n e a->D P n pl rl u X lo Q ds e w->u.wpIn (FO r) 0 P (ua n (iL u) (fD u) ds e Q) a w)
  (ihB:∀(r:Option Nat) (rl:Nat) (X:List (Nat×Nat)) (lo:Nat) (Q:CN) (ds:List Nat) (e:Env) (a:Act) (w:World),
   (r=none\/fD E=false)->jn ds n e a->D P n pl rl E X lo Q ds e w->E.wpIn (FO r) 0 P (ua n (iL E) (fD E) ds e Q) a w)
  (rl:Nat) (X:List (Nat×Nat)) (lo:Nat) (Q:CN) (ds:List Nat) (e:Env) (a:Act) (w:World) (O:jn ds n e a) (h:D P n pl rl (.rangeFunc g ps u E) X lo Q ds e w) :
  (Code.rangeFunc g ps u E).wpIn (FO none) 0 P (ua n 0 true ds e Q) a w:=by
 have h':(bif ps.toList.all (λp=>abz p n)&&(!fD u&&!fD E)then
  zX P (ev e g) ps.toList.length w
   (λargs W B K=>D P n pl 0 u [] (li 0 E [] 0) (sR (λM Z w1=>B w1 λw2=>D P n pl 0 E [] 0 (V8 K) M Z w2) λ_ _ _ _=>False) [] (GB args ps.toList 0 e) W)
   (aft (λD w=>Q .normal (D::ds) e w) (λD w=>Q .ret (D::ds) e w) (bif outs [] E then(λid D w=>Q (.exit id) (D::ds) e w) elseλ_ _ _=>False))
  else False):=h
 cases hc:(ps.toList.all (λp=>abz p n)&&(!fD u&&!fD E))with
 | false=>grind
 | true=>
  rw[hc]at h'
  simp only[cond_true]at h'
  simp only[nS,qm]at hc
  obtain⟨hps,hA,hB⟩:=hc
  have auI:∀p∈ps.toList,p<n:=λp V=>Nat.blt_eq▸EL.1 hps p V
  obtain⟨gf,cap,hfv,oy,Km⟩:=h'.ex
  refine wpIn_rangeFunc λfn _=>?_
  let L0:Loop:={state:=.ready,pending:=none,fn,tmps:=a.tmps,params:=ps,assign:=u,body:=E,defers:=w.heap.size}
  have hY:=Km L0 rfl rfl (λargs W K hlen hl DV=>?_)
  .have hC:=hY.mono (R':=rangePost (FO none) 0 P (w.heap.size+1) (ua n 0 true ds e Q) {a with defers:=[{target:=.collected w.heap.size,args:=#[]}]++a.defers}) (λx w3 hx=>?_)
   .have hC1:=(yN (r:=none) (n:=0)).2 hC
    refine⟨w.heap.size+1,[{target:=.collected w.heap.size,args:=#[]}],(w.alloc (.deferred (some []))).alloc (.loop L0),
     {target:=.fn (.func gf) cap,args:=#[.func (.yield (w.heap.size+1)) #[] #[]]},(w.alloc (.deferred (some []))).alloc (.loop L0),gf,#[.func (.yield (w.heap.size+1)) #[] #[]]++cap,
     (w.alloc (.deferred (some []))).alloc (.loop L0),run_enterLoop_outer ..,?_,λ_ _=>trivial,?_,DK,?_⟩
    rotate_left 2
    .exact hC1
    .have hg:a.eval g=.func (.func gf) #[] cap:=by rw[O.eval];exact hfv
     simp only[resolve,hg]
     simp[go_sem]
    .show(callFunc gf (#[.func (.yield (w.heap.size+1)) #[] #[]]++cap)).run P _=_
     exact zP oy _ _
   ·
    obtain⟨v,rfl,st,j,iS,hl3,I⟩:=hx
    refine⟨j,_,run_endLoop hl3 bL,?_⟩
    have G:jn (w.heap.size::ds) n e {a with defers:=[{target:=.collected w.heap.size,args:=#[]}]++a.defers}:=⟨by rw[O.defers];rfl,O.size,O.get⟩
    cases j with
    | none=>exact⟨_,e,G,λ_ _=>rfl,λU=>(by cases U),I⟩
    | some c=>
     cases c with
     | ret=>exact wpIn_ret ⟨_,e,G,λ_ _=>rfl,λU=>(by cases U),I⟩
     | exit id=>
       have J4:(bif outs [] E then(λid D w=>Q (.exit id) (D::ds) e w) elseλ_ _ _=>False:Nat->Nat->g7) id w.heap.size _:=I
       cases ho:outs [] E with
       | true=>rw[ho]at J4;exact wpIn_exit ⟨_,e,G,λ_ _=>rfl,λU=>(by cases U),J4⟩
       | false=>grind
     | _=>exact I.elim
  ·
   have nB:w.heap.size+1<W.heap.size:=(Cq.1 hl).1
   refine⟨fn,_,u,E,run_yield hl bL,roundIn_of_wpIn trivial ?_⟩
   have G:jn [] n (GB args ps.toList 0 e) {tmps:=(ps.zip args.toArray).foldl (λt (q:Nat×Value)=>t.setIfInBounds q.1 q.2) a.tmps,defers:=[]}:=by
    have h0:jn [] n e {tmps:=a.tmps,defers:=[]}:=⟨rfl,O.size,O.get⟩
    have:=Il ps.toList 0 e _ auI h0 (by simpa using zq hlen.symm)
    have Z:(ps.zip args.toArray).foldl (λt (q:Nat×Value)=>t.setIfInBounds q.1 q.2) a.tmps=(ps.toList.zip (args.drop 0)).foldl (λt (q:Nat×Value)=>t.setIfInBounds q.1 q.2) a.tmps:=by
     rw[<- ZJ,Array.toList_zip];simp
    grind
   refine wpIn_mono (ihA (some (w.heap.size+1)) 0 [] _ _ [] _ _ W (.inr hA) G DV) λx a1 w1 V=>?_
   obtain⟨M,Z,ha1,_,hd1,J⟩:=V
   cases x with
   | normal=>
    obtain⟨hl1,J⟩:=J
    refine⟨_,run_beginRound hl1 rfl,?_⟩
    refine wpIn_mono (ihB (some (w.heap.size+1)) 0 [] _ _ M Z a1 _ (.inr hB) ha1 J) λx a2 w2 V=>?_
    obtain⟨ds2,e2,ha2,_,_,J⟩:=V
    cases x with
    | normal=>obtain⟨Y,I⟩:=J;exact⟨_,_,run_endRound none Y,_,rfl,I⟩
    | ret=>obtain⟨Y,I⟩:=J;exact⟨_,_,run_endRound (some .ret) Y,_,rfl,I⟩
    | exit id=>obtain⟨Y,I⟩:=J;exact⟨_,_,run_endRound (some (.exit id)) Y,_,rfl,I⟩
    | _=>exact J.elim
   | _=>exact J.elim
theorem ab5{P:Program}{n:Nat}{pl:dH}(hm:P.follows .mixedOrders=true) :
  ∀(c:Code) (r:Option Nat) (rl:Nat) (X:List (Nat×Nat)) (lo:Nat) (Q:CN) (ds:List Nat) (e:Env) (a:Act) (w:World),
   (r=none\/fD c=false)->jn ds n e a->D P n pl rl c X lo Q ds e w->c.wpIn (FO r) 0 P (ua n (iL c) (fD c) ds e Q) a w:=by
 intro c
 induction c with
 | skip=>intro r rl X lo Q ds e a w _ Y h;exact wpIn_skip ⟨ds,e,Y,λ_ _=>rfl,λ_=>rfl,h⟩
 | ret=>intro r rl X lo Q ds e a w _ Y h;exact wpIn_ret ⟨ds,e,Y,λ_ _=>rfl,λ_=>rfl,h⟩
 | exit id=>intro r rl X lo Q ds e a w _ Y h;exact wpIn_exit ⟨ds,e,Y,λ_ _=>rfl,λ_=>rfl,h⟩
 | region id B draw=>
  intro r rl X lo Q ds e a w _ Y h
  have hQ:∀(u:Env) (G:Act) (w':World),jn ds n u G->(∀k,k ∉ wr B.toList->u k=e k)->Q .normal ds u w'->ua n (iL (.region id B draw)) (fD (.region id B draw)) ds e Q .normal G w':=
   λu G w' Ig W hq=>by
    refine⟨ds,u,Ig,λi hi=>W i λKj=>?_,λ_=>rfl,hq⟩
    have h1:bit (yQ (wr B.toList)) i=true:=Ot.2 Kj
    have h2:bit (yQ (wr B.toList)) i=false:=hi
    grind
  cases draw with
  | false=>
   have:=DR.region (r:=r) (id:=id) Y hQ (show DR P n B.toList (B.toList.map λo=>(o,[])) (Q .normal ds) [] e w from h)
   omega
  | true=>
   have Z:(bif B.toList.all (DO n)&&(Gx B.toList (GA B.toList)&&Ri P B.toList (GA B.toList) false B.toList.length 0 (pl id))then
    DT P n B.toList (pl id) (Q .normal ds) [] e (drew w)else False):=h
   cases hc:(B.toList.all (DO n)&&(Gx B.toList (GA B.toList)&&Ri P B.toList (GA B.toList) false B.toList.length 0 (pl id)))with
   | false=>grind
   | true=>
    rw[hc]at Z
    simp only[nS]at hc
    obtain⟨h2,h3,h4⟩:=hc
    have hd:∀d∈wr B.toList,d<n:=λd hd=>by
     obtain⟨o,ho,Kg⟩:=Rb.1 hd
     have:=EL.1 h2 o ho
     unfold DO at this
     simp_all
    have hz:(bit 0)=λ_=>false:=by funext i;simp[bit]
    have hws:=(ab1 (Q:=Q .normal ds) h3 (pl id) B.toList.length 0 [] e (drew w) (λi o hi=>cH) (by constructor<;>simp) (DT.plain _ _ _ _ (kh.nil e) Z)).1 h4
    rw[hz]at hws
    have:=WS.region (r:=r) (id:=id) hm hd Y hQ hws
    omega
 | seq M U ih1 ih2=>
  intro r rl X lo Q ds e a w hr Y h
  have Gb:r=none\/fD M=false:=hr.imp id λh=>by grind[fD]
  have FY:r=none\/fD U=false:=hr.imp id λh=>by grind[fD]
  have key:∀(K:List Nat->Env->g7),D P n pl rl M X (li rl U X lo) (sR K Q) ds e w->
    (∀E u G w',jn E n u G->(∀i,bit (iL M) i=false->u i=e i)->(fD M=false->E=ds)->K E u w'->U.wpIn (FO r) 0 P (ua n (iL U) (fD U) E u Q) G w')->
    (Code.seq M U).wpIn (FO r) 0 P (ua n (iL (.seq M U)) (fD (.seq M U)) ds e Q) a w:=by
   intro K hK hk
   refine wpIn_seq (wpIn_mono (ih1 r rl X _ _ ds e a w Gb Y hK) λx G w' hp=>?_)
   obtain⟨E,u,Ig,W,O,hq⟩:=hp
   have hor:∀i,bit (iL (.seq M U)) i=false->bit (iL M) i=false/\bit (iL U) i=false:=λi hi=>by
    simp_all[bit,iL]
   have hrf:fD (.seq M U)=false->fD M=false/\fD U=false:=λhh=>by
    grind[fD]
   cases x with
   | normal=>
    refine wpIn_mono (hk E u G w' Ig W O hq) λx2 a2 w2 Rk=>?_
    grind[ua,iL,fD]
   | _=>exact⟨E,u,Ig,λi hi=>W i (hor i hi).1,λhh=>O (hrf hh).1,hq⟩
  have Z:(bif S3 (nxC M) 1&&!Kk pl M then D P n pl rl M X (li rl U X lo) (sR (D P n pl rl U X lo Q) Q) ds e w
   else bif fD M then zU (n::gg (H3 (iL M) (li rl U X lo)) n 0)
    (λK=>D P n pl rl M X (li rl U X lo) (sR (λds e w=>K (zL e n (lf ds)) w) Q) ds e w)
    (λbs w'=>∀dead,D P n pl rl U X lo Q (zW (lkv n bs undef)) (F9 e (iL M) bs.tail dead) w')
   else zU (gg (H3 (iL M) (li rl U X lo)) n 0)
    (λK=>D P n pl rl M X (li rl U X lo) (sR (λ_ e w=>K e w) Q) ds e w)
    λbs w'=>∀dead,D P n pl rl U X lo Q ds (F9 e (iL M) bs dead) w'):=h
  cases hc:(S3 (nxC M) 1&&!Kk pl M)with
  | true=>
   grind
  | false=>
   rw[hc]at Z
   simp only[cond_false]at Z
   cases hc2:fD M with
   | false=>
    rw[hc2]at Z
    simp only[cond_false]at Z
    obtain⟨I,h1,h2⟩:=zU.spec Z
    refine key _ h1 λE u G w' Ig W O hk=>?_
    have:=h2 u w' hk u
    rw[xA W]at this
    grind
   | true=>
    rw[hc2]at Z
    simp only[cond_true]at Z
    obtain⟨I,h1,h2⟩:=zU.spec Z
    refine key _ h1 λE u G w' Ig W O hk=>?_
    have:=h2 (zL u n (lf E)) w' hk u
    rw[GC Rm]at this
    rw[show((n,lf E)::jt (gg (H3 (iL M) (li rl U X lo)) n 0) u).tail=jt (gg (H3 (iL M) (li rl U X lo)) n 0) u from rfl,xA W,
     show lkv n ((n,lf E)::jt (gg (H3 (iL M) (li rl U X lo)) n 0) u) undef=lf E by show(bif A8 n n then lf E else _)=_;simp_all,Bu]at this
    grind
 | cond c M U ih1 ih2=>
  intro r rl X lo Q ds e a w hr Y h
  obtain⟨t,ht,hA,hB⟩:=(show ym (ev e c) (D P n pl rl M X lo Q ds e w) (D P n pl rl U X lo Q ds e w)from h).ex
  have hor:∀i,bit (iL (.cond c M U)) i=false->bit (iL M) i=false/\bit (iL U) i=false:=λi hi=>by
   simp_all[bit,iL]
  have hrf:fD (.cond c M U)=false->fD M=false/\fD U=false:=λhh=>by
   grind[fD]
  refine wpIn_cond_split (t:=t) (by rw[Y.eval];exact ht) (λh1=>?_) (λh1=>?_)
  .exact wpIn_mono (ih1 r rl X lo Q ds e a w (hr.imp id λh=>(hrf h).1) Y (hA h1)) λx G w' ⟨E,u,Ig,W,O,hq⟩=>⟨E,u,Ig,λi hi=>W i (hor i hi).1,λhh=>O (hrf hh).1,hq⟩
  .exact wpIn_mono (ih2 r rl X lo Q ds e a w (hr.imp id λh=>(hrf h).2) Y (hB h1)) λx G w' ⟨E,u,Ig,W,O,hq⟩=>⟨E,u,Ig,λi hi=>W i (hor i hi).2,λhh=>O (hrf hh).2,hq⟩
 | block id c ih=>
  intro r rl X lo Q ds e a w hr Y h
  refine wpIn_block (wpIn_mono (ih r rl _ _ _ ds e a w hr Y h) λx G w' hp=>?_)
  obtain⟨E,u,Ig,W,O,hq⟩:=hp
  cases x with
  | exit k=>
   simp only[Exit.inBlock]
   simp only[V7]at hq
   by_cases hk:k=id
   .subst hk
    rw[DN]at hq
    grind[ua,iL,fD]
   .rw[Br hk]at hq
    grind[ua,iL,fD]
  | _=>exact⟨E,u,Ig,W,O,hq⟩
 | loop c ih=>
  intro r rl X lo Q ds e a w hr Y h
  have key:∀(V:List Nat->Env->List (Nat×Value)) (I:Nat->List (Nat×Value)->g7),(∃m,I m (V ds e) w)->
    (∀m E u w',(∀i,bit (iL c) i=false->u i=e i)->(fD c=false->E=ds)->I m (V E u) w'->D P n pl rl c X (li rl c X (li rl c X 0)) (sR (λds2 e2 w2=>∃m',m'<m/\I m' (V ds2 e2) w2) Q) E u w')->
    (Code.loop c).wpIn (FO r) 0 P (ua n (iL (.loop c)) (fD (.loop c)) ds e Q) a w:=by
   intro V I ⟨m,h1⟩ h2
   let Inv:Nat->Act->g7:=λm G w'=>∃E u,jn E n u G/\(∀i,bit (iL c) i=false->u i=e i)/\(fD c=false->E=ds)/\I m (V E u) w'
   have body:∀m G w',Inv m G w'->c.wpIn (FO r) 0 P (Exit.then (λa2 w2=>∃m',m'<m/\Inv m' a2 w2) (ua n (iL (.loop c)) (fD (.loop c)) ds e Q)) G w':=by
    rintro m G w' ⟨E,u,Ig,W,O,hi⟩
    refine wpIn_mono (ih r rl X _ _ E u G w' hr Ig (h2 m E u w' W O hi)) λx a2 w2 hp=>?_
    obtain⟨ds2,e2,ha2,hf2,auL,hq⟩:=hp
    have hfe:∀i,bit (iL c) i=false->e2 i=e i:=λi hi=>(hf2 i hi).trans (W i hi)
    have amT:fD c=false->ds2=ds:=λhh=>(auL hh).trans (O hh)
    cases x with
    | normal=>obtain⟨m',hm',Ow⟩:=hq;exact⟨m',hm',ds2,e2,ha2,hfe,amT,Ow⟩
    | _=>exact⟨ds2,e2,ha2,hfe,amT,hq⟩
   classical
   let J:Act->g7:=λG w'=>∃m,Inv m G w'
   let μ:Act->World->Nat:=λG w'=>if h:∃m,Inv m G w' then abQ (least h)else 0
   have hμ:∀G w',J G w'->Inv (μ G w') G w'/\∀k,Inv k G w'->μ G w'<=k:=λG w' hj=>by
    grind
   refine wpIn_loop J μ ⟨m,ds,e,Y,λ_ _=>rfl,λ_=>rfl,h1⟩ λG w' hj=>?_
   refine wpIn_mono (body _ G w' (hμ G w' hj).1) λx a2 w2 hp=>?_
   cases x with
   | normal=>
    obtain⟨m',hm',Ow⟩:=hp
    exact⟨⟨m',Ow⟩,Nat.lt_of_le_of_lt ((hμ a2 w2 ⟨m',Ow⟩).2 m' Ow) hm'⟩
   | _=>exact hp
  have Z:(bif fD c then zV (n::gg (H3 (iL c) (li rl c X (li rl c X 0))) n 0)
    (λK bs w=>∀dead,D P n pl rl c X (li rl c X (li rl c X 0)) (sR (λds e w=>K (zL e n (lf ds)) w) Q) (zW (lkv n bs undef)) (F9 e (iL c) bs.tail dead) w) (zL e n (lf ds)) w
   else zV (gg (H3 (iL c) (li rl c X (li rl c X 0))) n 0)
    (λK bs w=>∀dead,D P n pl rl c X (li rl c X (li rl c X 0)) (sR (λ_ e w=>K e w) Q) ds (F9 e (iL c) bs dead) w) e w):=h
  cases hc:fD c with
  | false=>
   rw[hc]at Z
   simp only[cond_false]at Z
   obtain⟨I,h1,h2⟩:=zV.spec Z
   rw[show fD (.loop c)=fD c from rfl]at key
   have:=key (λ_ e=>jt (gg (H3 (iL c) (li rl c X (li rl c X 0))) n 0) e) I h1 λm E u w' W O hi=>by
    have:=h2 m u w' hi u
    rw[xA W]at this
    grind
   exact this
  | true=>
   rw[hc]at Z
   simp only[cond_true]at Z
   obtain⟨I,h1,h2⟩:=zV.spec Z
   refine key (λds e=>jt (n::gg (H3 (iL c) (li rl c X (li rl c X 0))) n 0) (zL e n (lf ds))) I h1 λm E u w' W O hi=>?_
   have:=h2 m (zL u n (lf E)) w' hi u
   rw[GC Rm]at this
   rw[show((n,lf E)::jt (gg (H3 (iL c) (li rl c X (li rl c X 0))) n 0) u).tail=jt (gg (H3 (iL c) (li rl c X (li rl c X 0))) n 0) u from rfl,xA W,
    show lkv n ((n,lf E)::jt (gg (H3 (iL c) (li rl c X (li rl c X 0))) n 0) u) undef=lf E by show(bif A8 n n then lf E else _)=_;simp_all,Bu]at this
   exact this
 | rangeFunc g ps asx bd ihA ihB=>
  intro r rl X lo Q ds e a w hr Y h
  have FZ:r=none:=hr.resolve_right (by simp[fD])
  subst FZ
  exact Wa ihA ihB rl X lo Q ds e a w Y h
 | _=>intro r rl X lo Q ds e a w _ Y h;exact h.elim
def Ox(P:Program):List ResultVar->Env->(List Value->Prop)->g7
 | [],_,K,_=>K []
 | .tmp t::r,e,K,w=>Ox P r e (λvs=>K (e t::vs)) w
 | .cell a t::r,e,K,w=>J2 P (wO t (e a)) w (λv=>Ox P r e (λvs=>K (v::vs)) w)
def Wb:List Value->Value
 | [v]=>v
 | vs=>.tuple vs.toArray
def mD:List Nat->World->(g7)->Prop
 | [],w,K=>K w
 | D::r,w,K=>w.heap[D]?=some (.deferred (some []))/\mD r (w.putObj D (.deferred none)) K
def Oy(P:Program)(rs:List ResultVar)(K:Value->g7):CN
 | .normal,ds,e,w=>mD ds w λw=>Ox P rs e (λvs=>K (Wb vs) w) w
 | .ret,ds,e,w=>mD ds w λw=>Ox P rs e (λvs=>K (Wb vs) w) w
 | _,_,_,_=>False
def CO:List Value->Env
 | [],_=>undef
 | v::_,0=>v
 | _::r,n+1=>CO r n
theorem Wc(l:List Value)(i:Nat):CO l i=l.getD i undef:=by
 induction l generalizing i with
 | nil=>simp[CO]
 | cons v r u=>cases i with
  | zero=>rfl
  | succ i=>simp[CO,u]
def TP(tmps:Array Value):ResultVar->Sem Value
 | .tmp t=>pure (tmps.getD t undef)
 | .cell a t=>do loadVar t (<- asAddr (tmps.getD a undef))
theorem Im{P:Program}{t:TypeId}{v u:Value}{w:World}(h:(wO t v).run P w=.ok u w):(do loadVar t (<- asAddr v):Sem Value).run P w=.ok u w:=by
 cases v with
 | pointer a=>cases a with
  | none => exact absurd (show(Result.halt (.stuck "an address expected (no nilCheck in front?)") w : Result Value)=.ok u w from h) ea
  | some a=>exact h
 | _ => exact absurd (show(Result.halt (.stuck "an address expected (no nilCheck in front?)") w : Result Value)=.ok u w from h) ea
theorem We{P:Program}{ds:List Nat}{n:Nat}{e:Env}{a:Act}(B:jn ds n e a):∀(rs:List ResultVar) (K:List Value->Prop) (w:World),Ox P rs e K w->
  ∃vs,(rs.mapM (TP a.tmps)).run P w=.ok vs w/\K vs:=by
 intro rs
 induction rs with
 | nil=>intro K w h;exact⟨[],rfl,h⟩
 | cons r rs G=>
  intro K w h
  have step:∀v,(TP a.tmps r).run P w=.ok v w->Ox P rs e (λvs=>K (v::vs)) w->∃vs,((r::rs).mapM (TP a.tmps)).run P w=.ok vs w/\K vs:=by
   intro v E u
   obtain⟨vs,h1,h2⟩:=G _ w u
   simp_all
  cases r with
  | tmp t=>exact step (e t) (by rw[<- B.get t];rfl) h
  | cell c t=>
   obtain⟨v,E,u⟩:=h.ex
   refine step v ?_ u
   show(do loadVar t (<- asAddr (a.tmps.getD c undef)):Sem Value).run P w=_
   rw[B.get c]
   exact Im E
theorem Kn{P:Program}{u:Func}{rs:List ResultVar}(B:u.results=rs.toArray){tmps:Array Value}{w:World}{vs:List Value}
  (h:(rs.mapM (TP tmps)).run P w=.ok vs w):(results u tmps).run P w=.ok (Wb vs) w:=by
 have e:results u tmps=(rs.toArray.mapM (TP tmps) >>= λvs=>pure (if h:vs.size=1 then vs[0]else .tuple vs)):=by
  unfold results;rw[B];rfl
 rw[e,List.mapM_toArray]
 have h1:(Functor.map (λa=>a.toArray) (rs.mapM (TP tmps))).run P w=.ok vs.toArray w:=by
  simp_all
 rw[eF h1]
 show Result.ok _ w=Result.ok _ w
 congr 1
 match vs with
 | []=>rfl
 | [v]=>rfl
 | a::b::r=>simp[Wb]
theorem Io{P:Program}{u:Func}{tmps:Array Value}{R:Ending->g7}:∀(ds:List Nat) (w:World),mD ds w (λw'=>∃v,(results u tmps).run P w'=.ok v w'/\R (.returned v) w')->
  LeavesInM (FO none) 0 P u tmps R (ds.map mark) .returning w:=by
 intro ds
 induction ds with
 | nil=>intro w ⟨v,h1,h2⟩;exact⟨v,h1,h2⟩
 | cons D r B=>intro w h;exact⟨ea,.inl ⟨D,_,rfl,run_takeDeferred h.1,B _ h.2⟩⟩
theorem mD.mono{ds:List Nat}{K u:g7}(B:∀w,K w->u w):∀{w:World},mD ds w K->mD ds w u:=by
 induction ds with
 | nil=>intro w h;exact B w h
 | cons D r E=>intro w h;exact⟨h.1,E h.2⟩
theorem DW{P:Program}{n:Nat}{pl:dH}{rl:Nat}{f:FuncId}{u:Func}{c:Code}{rs:List ResultVar}{args:List Value}{w:World}{K:Value->g7}
  (U:P.follows .mixedOrders=true) (Y:P.funcs[f]?=some u) (hb:u.body=some c) (hn:u.ntmps=n) (Z:u.results=rs.toArray) (V:args.length<=n)
  (h:D P n pl rl c [] rl (Oy P rs K) [] (CO args) w):Calls P f args.toArray w (sK K):=by
 refine yN.1 (callsIn_of_wp_marks (F:=FO none) (n:=0) Y hb trivial ?_)
 have M:jn [] n (CO args) {tmps:=args.toArray++Array.replicate (u.ntmps-args.toArray.size) undef,defers:=[]}:=by
  refine⟨rfl,cH,λi=>?_⟩
  rw[Wc,Ck,Array.getElem?_append]
  grind
 refine wpIn_mono (ab5 U c none rl [] rl _ [] _ _ w (.inl rfl) M h) λx I w' hp=>?_
 obtain⟨J,W,G,_,_,E⟩:=hp
 have B:mD J w' (λw=>Ox P rs W (λvs=>K (Wb vs) w) w)->LeavesInM (FO none) 0 P u I.tmps (sK K) I.defers .returning w':=λE=>by
  rw[G.defers]
  refine Io J w' (E.mono λO h1=>?_)
  obtain⟨vs,h1,h2⟩:=We G rs _ O h1
  exact⟨_,Kn Z h1,_,rfl,h2⟩
 cases x with
 | normal=>exact B E
 | ret=>exact B E
 | _=>exact E.elim
def okD{P:Program}{n:Nat}{pl:dH}{rl:Nat}{f:FuncId}{u:Func}{c:Code}{rs:List ResultVar}{args:List Value}{w:World}{K:Value->g7}{S:Prop}
  (I:P.funcs[f]?=some u) (hb:u.body=some c) (G:u.ntmps=n) (J:u.results=rs.toArray) (E:P.follows .mixedOrders=true) (B:args.length<=n)
  (e:D P n pl rl c [] rl (Oy P rs K) [] (CO args) w=S) (h:S):Calls P f args.toArray w (sK K):=DW E I hb G J B (e.mpr h)
def okE{P:Program}(n:Nat)(pl:dH)(rl:Nat)(rs:List ResultVar){f:FuncId}{u:Func}{args:List Value}{w:World}{K:Value->g7}{S:Prop}
  (I:P.funcs[f]?=some u) (hb:u.body=some (u.body.getD .skip)) (G:u.ntmps=n) (J:u.results=rs.toArray) (E:P.follows .mixedOrders=true) (B:args.length<=n)
  (e:D P n pl rl (u.body.getD .skip) [] rl (Oy P rs K) [] (CO args) w=S) (h:S):Calls P f args.toArray w (sK K):=okD I hb G J E B e h
theorem okZ{P:Program}(n:Nat)(pl:dH)(rl:Nat)(rs:List ResultVar){f:FuncId}{u:Func}{args:List Value}{w:World}{K:Value->g7}{S:Prop}
  (E:P.funcs[f]?=some u) (B:P.follows .mixedOrders=true) (hc:(u.body.isSome,u.ntmps,u.results,S3 args.length n)=(true,n,rs.toArray,true))
  (e:D P n pl rl (u.body.getD .skip) [] rl (Oy P rs K) [] (CO args) w=S) (h:S):Calls P f args.toArray w (sK K):=by
 have h1:u.body.isSome=true:=ez (λx=>x.1) hc
 have h2:u.ntmps=n:=ez (λx=>x.2.1) hc
 have h3:u.results=rs.toArray:=ez (λx=>x.2.2.1) hc
 have h4:S3 args.length n=true:=ez (λx=>x.2.2.2) hc
 have h5:u.body=some (u.body.getD .skip):=by
  cases hb:u.body with
  | none=>rw[hb]at h1;cases h1
  | some c=>rfl
 exact okD E h5 h2 h3 B (Bz h4) e h
def dG{P : Program}{f : FuncId}{u : Func}(B : P.funcs[f]?=some u)(h : (u.name == "runtime.NumGoroutine", u.body.isNone)=(false, false) := by kernel_rfl) : Plain P f := ⟨u, B, ez (λx => x.1) h, ez (λx => x.2) h⟩
def vb{a b:Bool}(h:a=b):vX a=vX b:=ez _ h
def Ko{p:Prop}[Decidable p](h:p):vX true=vX (decide p):=vb (ei h).symm
def Wf{p:Prop}[Decidable p](h:¬ p):vX false=vX (decide p):=vb (ej h).symm
def xB{p q:Prop}[Decidable p][Decidable q](h:p↔q):vX (decide p)=vX (decide q):=vb (ew.2 h)
end Go.Fw
namespace Go.Proofs.YtpdlpabnlkofmaaGreatDoor
open Go.Fw
variable (w:World) (K:Value->g7)
abbrev i(n:Int):Value:=.int .i64 n
abbrev tt:Value:=.bool true
abbrev ff:Value:=.bool false
abbrev fA(T:Nat)(v:Value)(f:Nat)(K:Value->Prop):Prop:=eM g6 (E3 T v f) K
abbrev iA(T:Nat)(v j:Value)(K:Value->Prop):Prop:=eM g6 (E4 T v j) K
abbrev lA(T:Nat)(p:Value)(w:World)(K:Value->Prop):Prop:=J2 g6 (wO T p) w K
abbrev sA(T:Nat)(p v:Value)(w:World)(K:g7):Prop:=VG g6 (JX T p v) w K
abbrev bA(o:BinOp)(T:Nat)(x y:Value)(K:Value->Prop):Prop:=eM g6 (ji o T false false x y) K
abbrev bB(o:BinOp)(T:Nat)(x y:Value)(K:Value->Prop):Prop:=eM g6 (ji o T false true x y) K
abbrev bC(o:BinOp)(T:Nat)(x y:Value)(K:Value->Prop):Prop:=eM g6 (ji o T true false x y) K
abbrev cF(f:Nat)(args:List Value)(w:World)(K:Value->g7):Prop:=Cm g6 f args w K
abbrev nC(v:Value)(K:Value->Prop):Prop:=eM g6 (TH v) K
abbrev lN(T:Nat)(v:Value)(K:Value->Prop):Prop:=eM g6 (Builtin.len_ #[T] 3 [v].toArray) K
abbrev aL(T:Nat)(w:World)(K:Value->g7):Prop:=rA g6 (P0 T true (.tuple #[])) w K
abbrev xT(v:Value)(k:Nat)(K:Value->Prop):Prop:=eM g6 (S5 v k) K
abbrev kA(T:Nat)(p v:Value)(w:World)(R:Prop):Prop:=Rc g6 (wO T p) v w R
abbrev aP(T:Nat)(a b:Value)(w:World)(K:Value->g7):Prop:=rA g6 (Builtin.append_ #[T,T] T [a,b].toArray) w K
abbrev bS(T n:Nat)(l:List (Nat×Value))(w:World)(K:Value->g7):Prop:=rA g6 (Ku T n l.toArray) w K
abbrev cV(v:Value)(a b:Prop):Prop:=ym v a b
noncomputable abbrev PG:Program:=g6
abbrev CR(n:Nat)(a:List Value)(w:World)(K:Value->g7):Prop:=Calls g6 n a.toArray w (sK K)
abbrev PL(n:Nat):Prop:=Plain g6 n
theorem mixed:Tryz.prog.follows .mixedOrders=true:=by kernel_rfl
theorem qu(n:Nat)(pl:dH)(rl:Nat)(rs:List ResultVar){f:FuncId}{u:Func}{args:List Value}{w:World}{K:Value->g7}{S:Prop}
  (B:PG.funcs[f]?=some u) (h:S) (hc:(u.body.isSome,u.ntmps,u.results,S3 args.length n)=(true,n,rs.toArray,true):=by kernel_rfl)
  (e:D PG n pl rl (u.body.getD .skip) [] rl (Oy PG rs K) [] (CO args) w=S:=by kernel_rfl):CR f args w K:=okZ n pl rl rs B mixed hc e h
def TQ:List ResultVar->Nat
 | []=>0
 | .tmp t::r=>V5 (TQ r) t
 | .cell a _::r=>V5 (TQ r) a
theorem pJ{f:FuncId}{u:Func}(B:Tryz.prog.funcs[f]?=some u){args:List Value}{w:World}{K:Value->g7}{pl:dH}
  (h:D g6 u.ntmps pl (TQ u.results.toList) (u.body.getD .skip) [] (TQ u.results.toList) (Oy g6 u.results.toList K) [] (CO args) w)
  (hc:(u.body.isSome,S3 args.length u.ntmps)=(true,true):=by kernel_rfl):Calls g6 f args.toArray w (sK K):=by
 have h1:u.body.isSome=true:=ez (λx=>x.1) hc
 have h5:u.body=some (u.body.getD .skip):=by
  cases hb:u.body with
  | none=>rw[hb]at h1;cases h1
  | some c=>rfl
 exact DW mixed B h5 rfl ea (Bz (ez (λx=>x.2) hc)) h
theorem eU{f:FuncId}{u:Func}(B:Tryz.prog.funcs[f]?=some u){args:List Value}{w:World}{K:Value->g7}
  (h:D g6 u.ntmps (λ_=>.nil) (TQ u.results.toList) (u.body.getD .skip) [] (TQ u.results.toList) (Oy g6 u.results.toList K) [] (CO args) w)
  (hc:(u.body.isSome,S3 args.length u.ntmps)=(true,true):=by kernel_rfl):Calls g6 f args.toArray w (sK K):=pJ B h hc
def P11:dH:=λi=>match i with
 | 1=>(.op 0 [] (.op 1 [] (.op 3 [] (.op 4 [] (.op 6 [] (.op 7 [] (.op 9 [] (.op 10 [] (.alt 2 [4,7,10] (.alt 5 [7,10] (.alt 8 [10] (.alt 11 [] (.of [(12,[]),(13,[1,4,7,10]),(14,[])]) (.alt 13 [1,4,7,10] (.of [(11,[]),(12,[]),(14,[])]) .stop)) (.alt 13 [1,4,7,10] (.of [(8,[10]),(11,[]),(12,[]),(14,[])]) .stop)) (.alt 13 [1,4,7,10] (.of [(5,[7,10]),(8,[10]),(11,[]),(12,[]),(14,[])]) .stop)) (.alt 13 [1,4,7,10] (.of [(2,[4,7,10]),(5,[7,10]),(8,[10]),(11,[]),(12,[]),(14,[])]) .stop))))))))))
 | 5=>(.of [(0,[]),(1,[]),(2,[]),(3,[]),(4,[]),(5,[]),(6,[]),(7,[1]),(8,[1]),(9,[]),(10,[]),(11,[])])
 | 9=>(.of [(0,[]),(1,[]),(2,[]),(3,[]),(4,[]),(5,[]),(6,[]),(7,[]),(9,[]),(10,[]),(11,[]),(12,[]),(13,[]),(14,[]),(8,[1,10,14]),(15,[]),(16,[1]),(17,[]),(18,[]),(19,[])])
 | _=>.nil
def P19:dH:=λi=>match i with
 | 6=>.run 0 51
 | _=>.nil
def P46:dH:=λi=>match i with
 | 5=>(.op 0 [] (.op 1 [] (.op 2 [] (.op 3 [] (.op 4 [] (.op 5 [] (.op 6 [] (.op 7 [] (.op 8 [] (.op 9 [] (.op 10 [] (.op 11 [] (.op 12 [] (.op 13 [] (.op 14 [] (.op 15 [] (.op 16 [] (.op 17 [] (.op 18 [] (.op 19 [] (.op 20 [] (.op 21 [] (.op 22 [] (.alt 23 [4,9,17] (.of [(24,[]),(25,[4,9,17,22]),(26,[])]) (.alt 25 [4,9,17,22] (.of [(23,[4,9,17]),(24,[]),(26,[])]) .stop)))))))))))))))))))))))))
 | 9=>(.of [(0,[]),(1,[]),(2,[]),(3,[]),(4,[]),(5,[]),(6,[]),(7,[]),(8,[]),(9,[]),(10,[]),(11,[]),(12,[]),(13,[]),(14,[]),(15,[]),(16,[]),(17,[]),(18,[]),(19,[]),(20,[]),(21,[1]),(22,[]),(23,[]),(24,[])])
 | _=>.nil
def S57(p0:Value):Prop:=
 rA g6 (yg 27 p0) w λp1 a=>lA 27 p1 a λb=>cF 118 [b] a λc d=>eM g6 (Op.unary .not c) λe=>cV e (K (.tuple #[(i 8),(i 0)]) d) (lA 27 p1 d λf=>
 cF 119 [f] d λg h=>cV g (K (.tuple #[(i 2),(i 0)]) h) (lA 27 p1 h λj=>cF 120 [j] h λk l=>jQ (λW i5 n=>∀_:Env,
 lN 24 k λo=>bA .lss 3 i5 o λp=>cV p (iA 24 k i5 λq=>fA 146 q 2 λr=>lA 141 r n λs=>cF 121 [s,(i 1)] n λt u=>bB .geq 3 t (i 0) λv=>cV v (K (.tuple #[(i 11),t]) u) (
 bB .add 3 i5 (i 1) λx=>W x u)) (lA 27 p1 n λy=>cF 122 [y] n λz aa=>bB .geq 3 z (i 0) λab=>cV ab (K (.tuple #[(i 10),z]) aa) (jQ (λK2 J ac=>∀_:Env,
 lN 24 k λad=>bA .lss 3 J ad λae=>cV ae (jQ (λK3 U M=>∀_:Env,
 iA 24 k J λag=>fA 146 ag 1 λah=>lA 91 ah M λai=>lN 91 ai λaj=>bA .lss 3 U aj λak=>cV ak (iA 24 k J λal=>fA 146 al 1 λam=>lA 91 am M λan=>iA 91 an U λao=>
 lA 9 ao M λap=>eR (λK4=>iA 24 k J λaq=>fA 146 aq 1 λar=>lA 91 ar M λasx=>cF 123 [asx,ap] M λau av=>bA .lss 3 au U λaw=>cV aw (K4 tt av) (lA 27 p1 av λax=>
 cF 124 [ax] av λay az=>cF 123 [ay,ap] az λa0 Z=>bB .geq 3 a0 (i 0) λa2=>cV a2 (K4 tt Z) (lA 27 p1 Z λa3=>cF 125 [a3] Z λa4 a5=>cF 123 [a4,ap] a5 λa6 a7=>
 bB .geq 3 a6 (i 0) λa8=>K4 a8 a7))) (λa9 Y=>∀_:Env,
 cV a9 (iA 24 k J λbb=>fA 146 bb 3 λbc=>lA 3 bc (drew Y) λbd=>K (.tuple #[(i 10),bd]) (drew Y)) (bB .add 3 U (i 1) λbe=>K3 be Y))) (bB .add 3 J (i 1) λbf=>
 K2 bf M)) λK3=>K3 (i 0) ac) (jQ (λK5 B V=>∀_:Env,
 lN 24 k λbh=>bA .lss 3 B bh λbi=>cV bi (jQ (λK6 I E=>∀_:Env,
 iA 24 k B λbk=>fA 146 bk 2 λbl=>lA 141 bl E λbm=>lN 141 bm λbn=>bA .lss 3 I bn λbo=>cV bo (lA 27 p1 (drew E) λbp=>iA 24 k B λbq=>lA 146 bq (drew E) λbr=>
 iA 24 k B λbs=>fA 146 bs 2 λbt=>lA 141 bt (drew E) λbu=>iA 141 bu I λbv=>lA 193 bv (drew E) λbw=>cF 126 [bp,br,bw] (drew E) λbx bz=>bB .geq 3 bx (i 0) λb0=>
 cV b0 (K (.tuple #[(i 9),bx]) bz) (bB .add 3 I (i 1) λb1=>K6 b1 bz)) (bB .add 3 B (i 1) λb2=>K5 b2 E)) λK6=>K6 (i 0) V) (lA 27 p1 (drew V) λb3=>lA 27 p1 (drew V) λb4=>
 cF 124 [b3] (drew V) λb5 b6=>kA 27 p1 b4 b6 (cF 62 [b4] b6 λb7 b8=>eM g6 (nn 91 b5 none (some b7) none) λb9=>jQ (λK7 G O=>∀_:Env,
 fA 27 p1 5 λcb=>lA 25 cb O λcc=>lN 25 cc λcd=>bA .lss 3 G cd λce=>cV ce (fA 27 p1 5 λcf=>lA 25 cf O λcg=>iA 25 cg G λch=>fA 85 ch 0 λci=>lA 82 ci O λcj=>
 cF 127 [cj,b9] O λck cl=>bB .geq 3 ck (i 0) λcm=>cV cm (K (.tuple #[(i 9),ck]) cl) (bB .add 3 G (i 1) λcn=>K7 cn cl)) (K (.tuple #[(i 0),(i 0)]) O)) λK7=>K7 (i 0) b8)))
 λK5=>K5 (i 0) ac)) λK2=>K2 (i 0) aa))) λW=>W (i 0) l))
def P57:dH:=λi=>match i with
 | 23=>.run 0 7
 | 30=>.run 0 15
 | 33=>(.of [(0,[]),(2,[]),(1,[2]),(3,[]),(4,[]),(5,[])])
 | _=>.nil
theorem ahP(p0:Value)(h:S57 w K p0):CR 57 [p0] w K:=
 qu 150 P57 12 [.tmp 2,.tmp 3] Tryz.func57 h
def S61(B I J:Value):Prop:=
 eR (λM=>lN 41 B λa=>lN 41 J λb=>bA .neq 3 a b λc=>cV c (M tt w) (lN 41 B λd=>bB .gtr 3 d (i 20) λe=>cV e (M tt w) (bB .lss 3 I (i 0) λf=>
 cV f (M tt w) (lN 41 B λg=>bA .gtr 3 I g λh=>M h w)))) (λj k=>∀_:Env,
 cV j (K (.tuple #[(.pointer none),(i 1)]) k) (jQ (λK2 E l=>∀_:Env,
 bA .lss 3 E I λn=>cV n (eR (λG=>bB .eql 3 E (i 0) λo=>cV o (iA 41 B (i 0) λp=>lA 3 p (drew l) λq=>bB .neq 3 q (i 0) λr=>cV r (G tt (drew l)) (
 bB .gtr 3 E (i 0) λs=>cV s (iA 41 B E λt=>lA 3 t (drew l) λu=>bB .sub 3 E (i 1) λv=>iA 41 B v λx=>lA 3 x (drew l) λy=>bA .neq 3 u y λz=>cV z (iA 41 B E λaa=>
 lA 3 aa (drew l) λab=>bB .sub 3 E (i 1) λac=>iA 41 B ac λad=>lA 3 ad (drew l) λae=>bB .add 3 ae (i 1) λaf=>bA .neq 3 ab af λag=>G ag (drew l)) (G ff (drew l))) (
 G ff (drew l)))) (bB .gtr 3 E (i 0) λah=>cV ah (iA 41 B E λai=>lA 3 ai (drew l) λaj=>bB .sub 3 E (i 1) λak=>iA 41 B ak λal=>lA 3 al (drew l) λam=>bA .neq 3 aj am λan=>
 cV an (iA 41 B E λZ=>lA 3 Z (drew l) λap=>bB .sub 3 E (i 1) λaq=>iA 41 B aq λar=>lA 3 ar (drew l) λU=>bB .add 3 U (i 1) λW=>bA .neq 3 ap W λav=>
 G av (drew l)) (G ff (drew l))) (G ff (drew l)))) (λaw V=>∀_:Env,
 cV aw (K (.tuple #[(.pointer none),(i 1)]) V) (bB .add 3 E (i 1) λay=>K2 ay V))) (bS 41 0 [] l λaz a0=>eM g6 (nn 41 B none (some I) none) λa1=>
 aP 41 az a1 a0 λa2 a3=>bS 41 0 [] a3 λa4 a5=>aP 41 a4 J a5 λa6 a7=>eM g6 (l0 122 [(0,a2),(1,a6)].toArray) λa8=>rA g6 (yg 122 a8) a7 λO ba=>
 bS 41 0 [] ba λbb bc=>aP 41 bb J bc λbd be=>nC O λbf=>fA 122 bf 2 λbg=>sA 41 bg bd be λY=>bS 41 0 [] Y λbi bj=>eM g6 (nn 41 J none (some I) none) λbk=>
 aP 41 bi bk bj λbl bm=>nC O λbn=>fA 122 bn 3 λbo=>sA 41 bo bl bm λbp=>K (.tuple #[O,(i 0)]) bp)) λK2=>K2 (i 0) k))
def P61:dH:=λi=>match i with
 | 6=>.run 0 37
 | _=>.nil
theorem ahQ(u E B:Value)(h:S61 w K u E B):CR 61 [u,E,B] w K:=
 qu 97 P61 192 [.tmp 6,.tmp 7] Tryz.func61 h
def P62:dH:=λi=>match i with
 | 1=>(.of [(0,[]),(3,[]),(4,[]),(5,[]),(1,[4]),(2,[]),(6,[]),(7,[])])
 | _=>.nil
def P65:dH:=λi=>match i with
 | 6=>(.of [(0,[]),(1,[]),(2,[]),(3,[1]),(4,[1]),(5,[]),(6,[]),(7,[])])
 | 8=>(.of [(0,[]),(1,[]),(2,[]),(3,[1]),(4,[]),(5,[]),(6,[])])
 | 10=>(.of [(0,[]),(1,[]),(2,[]),(3,[1]),(4,[]),(5,[]),(6,[])])
 | 13=>(.of [(0,[]),(1,[]),(2,[]),(3,[]),(4,[]),(5,[]),(6,[]),(7,[]),(8,[1]),(9,[1]),(10,[]),(11,[]),(12,[])])
 | 15=>(.of [(0,[]),(1,[]),(2,[]),(3,[]),(4,[]),(5,[]),(6,[]),(7,[]),(8,[]),(9,[]),(10,[]),(11,[]),(12,[]),(13,[1]),(14,[1]),(15,[]),(16,[]),(17,[])])
 | 17=>(.of [(0,[]),(1,[]),(2,[]),(3,[]),(4,[]),(5,[]),(6,[]),(7,[]),(8,[]),(9,[]),(10,[]),(11,[]),(12,[1]),(13,[1]),(14,[]),(15,[]),(16,[])])
 | 21=>(.of [(0,[]),(1,[]),(2,[]),(3,[]),(4,[]),(5,[]),(6,[]),(7,[]),(8,[]),(9,[4,8]),(10,[]),(11,[])])
 | _=>.nil
def P71:dH:=λi=>match i with
 | 6=>.run 0 9
 | _=>.nil
def P77:dH:=λi=>match i with
 | 3=>.run 0 14
 | _=>.nil
def S78(W:Value):Prop:=
 cF 17 [W] w λa b=>bS 41 0 [] b λc d=>cF 147 [a,c] d λe f=>bS 126 0 [] f λg h=>bS 126 0 [] h λj k=>V4 (λO J I G l=>∀_:Env,
 lN 126 e λn=>bA .lss 3 G n λo=>cV o (Cp (λK2=>iA 126 e G λp=>lA 41 p l λq=>cF 92 [W,q] l λr s=>xT r 0 λt=>xT r 1 λ_=>o0 (λM E B u=>∀_:Env,
 lN 126 I λv=>bA .lss 3 B v λx=>cV x (eR (λY=>cV E (Y tt u) (iA 126 I B λy=>lA 41 y u λz=>cF 71 [z,t] u λaa ab=>Y aa ab)) (λU ac=>∀_:Env,
 bB .add 3 B (i 1) λad=>M U ad ac)) (eM g6 (Op.unary .not E) λae=>cV ae (bS 126 1 [(0,t)] u λaf ag=>aP 126 I af ag λah V=>iA 126 e G λaj=>
 lA 41 aj V λak=>bS 126 1 [(0,ak)] V λal am=>aP 126 J al am λan ao=>K2 an ah ao) (K2 J I u))) λM=>M ff (i 0) s) (λIp Z ap=>∀_:Env,
 bB .add 3 G (i 1) λaq=>O Ip Z aq ap)) (K J l)) (λO=>O g j (i 0) k)
theorem ahS(u:Value)(h:S78 w K u):CR 78 [u] w K:=
 qu 61 (λ_=>.nil) 4 [.tmp 2] Tryz.func78 h
theorem auN:PL 11:=dG Tryz.func11
theorem auO:PL 16:=dG Tryz.func16
theorem ahT:PL 17:=dG Tryz.func17
theorem TR:PL 45:=dG Tryz.func45
theorem Iq:PL 46:=dG Tryz.func46
theorem ahU:PL 47:=dG Tryz.func47
theorem amW:PL 49:=dG Tryz.func49
theorem auP:PL 57:=dG Tryz.func57
theorem amX:PL 58:=dG Tryz.func58
theorem TS:PL 59:=dG Tryz.func59
theorem auQ:PL 61:=dG Tryz.func61
theorem ahV:PL 62:=dG Tryz.func62
theorem auR:PL 65:=dG Tryz.func65
theorem auS:PL 71:=dG Tryz.func71
theorem amY:PL 77:=dG Tryz.func77
theorem auT:PL 78:=dG Tryz.func78
variable (w:World) (K:Value->g7)
def P84:dH:=λi=>match i with
 | 1=>(.of [(0,[]),(1,[]),(2,[]),(3,[]),(4,[]),(5,[3]),(6,[]),(7,[]),(8,[])])
 | _=>.nil
def P86:dH:=λi=>match i with
 | 5=>.run 0 9
 | _=>.nil
def S92(O CP:Value):Prop:=
 cF 17 [O] w λa b=>lN 41 CP λc=>lN 41 a λd=>bA .neq 3 c d λe=>cV e (K (.tuple #[(.slice none 0 0),(i 1)]) b) (jQ (λU J f=>∀_:Env,
 lN 41 a λg=>bA .lss 3 J g λh=>cV h (eR (λK2=>iA 41 CP J λj=>lA 3 j (drew f) λk=>bB .lss 3 k (i 0) λl=>cV l (K2 tt (drew f)) (iA 41 CP J λn=>lA 3 n (drew f) λo=>
 iA 41 a J λp=>lA 3 p (drew f) λq=>bA .gtr 3 o q λr=>K2 r (drew f))) (λs t=>∀_:Env,
 cV s (K (.tuple #[(.slice none 0 0),(i 1)]) t) (bB .add 3 J (i 1) λu=>U u t))) (Cp (λZ=>nC O λv=>fA 122 v 3 λx=>lA 41 x (drew f) λy=>((bS 41 0 [] (drew f) λz W=>
 kA 41 x y W ((aP 41 z CP W λab ac=>kA 41 x y ac (bS 41 0 [] ac λad ae=>kA 41 x y ae (aP 41 ad y ae λaf ag=>Z ab af ag)))
 /\((bS 41 0 [] W λah ai=>kA 41 x y ai (aP 41 z CP ai λaj ak=>kA 41 x y ak (aP 41 ah y ak λal am=>Z aj al am)))
 /\
 True)))
 /\((bS 41 0 [] (drew f) λan B=>kA 41 x y B (bS 41 0 [] B λap aq=>kA 41 x y aq (aP 41 ap CP aq λar M=>kA 41 x y M (aP 41 an y M λau av=>Z ar au av))))
 /\
 True))) (λV Ir aw=>∀_:Env,
 jQ (λK4 E I=>∀_:Env,
 nC O λay=>fA 122 ay 4 λaz=>lA 120 az I λa0=>lN 120 a0 λa1=>bA .lss 3 E a1 λa2=>cV a2 (yn (λK5=>nC O λa3=>fA 122 a3 4 λa4=>lA 120 a4 I λa5=>
 iA 120 a5 E λa6=>lA 125 a6 I λa7=>aL 125 I λB a8=>sA 125 B a7 a8 λG=>fA 125 B 0 λba=>lA 3 ba G λbb=>iA 41 V bb λbc=>lA 3 bc G λbd=>bB .gtr 3 bd (i 0) λbe=>
 cV be (fA 125 B 0 λbf=>lA 3 bf (drew G) λbg=>fA 125 B 0 λbh=>lA 3 bh (drew G) λbi=>iA 41 V bi λbj=>lA 3 bj (drew G) λbk=>bB .sub 3 bk (i 1) λbl=>
 iA 41 V bg λbm=>sA 3 bm bl (drew G) λY=>fA 125 B 1 λbo=>lA 3 bo Y λbp=>fA 125 B 2 λbq=>lA 3 bq Y λbr=>iA 41 Ir bp λbs=>sA 3 bs br Y λbt=>
 K5 bt) (K5 G)) (λbu=>∀_:Env,
 bB .add 3 E (i 1) λbv=>K4 bv bu)) (K (.tuple #[Ir,(i 0)]) I)) λK4=>K4 (i 0) aw))) λU=>U (i 0) b)
def P92:dH:=λi=>match i with
 | 7=>.run 0 16
 | 9=>(.op 1 [] (.op 4 [] (.op 5 [] (.op 6 [] (.op 7 [] (.alt 0 [7] (.alt 2 [7] (.of [(3,[7]),(8,[]),(9,[]),(10,[])]) (.alt 3 [7] (.of [(2,[7]),(8,[]),(9,[]),(10,[])]) .stop)) (.alt 3 [7] (.of [(0,[7]),(2,[7]),(8,[]),(9,[]),(10,[])]) .stop)))))))
 | 15=>.run 0 11
 | _=>.nil
theorem ahW(u CP:Value)(h:S92 w K u CP):CR 92 [u,CP] w K:=
 qu 89 P92 48 [.tmp 4,.tmp 5] Tryz.func92 h
def P93:dH:=λi=>match i with
 | 5=>.run 0 13
 | _=>.nil
def S94(G:Value):Prop:=
 o0 (λu E B a=>∀_:Env,
 lN 41 G λb=>bA .lss 3 B b λc=>cV c (bC .mul 3 (i 10000) E λd=>iA 41 G B λe=>lA 3 e a λf=>bA .add 3 d f λg=>bB .add 3 B (i 1) λh=>u g h a) (K E a))
 (λu=>u (i 0) (i 0) w)
theorem ahX(u:Value)(h:S94 w K u):CR 94 [u] w K:=
 qu 19 (λ_=>.nil) 4 [.tmp 2] Tryz.func94 h
def S122(p0:Value):Prop:=
 rA g6 (yg 27 p0) w λp1 a=>bS 23 0 [] a λb c=>lA 27 p1 c λd=>cF 59 [d] c λe f=>aP 23 b e f λg h=>fA 27 p1 2 λj=>lA 23 j h λk=>aP 23 g k h λl n=>
 o0 (λO E G o=>∀_:Env,
 fA 27 p1 3 λp=>lA 24 p o λq=>lN 24 q λr=>bA .lss 3 G r λs=>cV s (fA 27 p1 3 λt=>lA 24 t (drew o) λu=>iA 24 u G λv=>fA 146 v 0 λx=>lA 9 x (drew o) λy=>
 fA 27 p1 3 λz=>lA 24 z (drew o) λaa=>iA 24 aa G λab=>fA 146 ab 3 λac=>lA 3 ac (drew o) λad=>eM g6 (l0 161 [(0,y),(2,ad)].toArray) λW=>
 bS 23 1 [(0,W)] (drew o) λaf Z=>aP 23 E af Z λah U=>bB .add 3 G (i 1) λaj=>O ah aj U) (cF 202 [E] o λak al=>jQ (λK2 B J=>∀_:Env,
 lN 23 E λan=>bA .lss 3 B an λY=>cV Y (iA 23 E B λap=>fA 161 ap 0 λV=>lA 9 V J λar=>cF 123 [ak,ar] J λM I=>bA .lss 3 M B λav=>cV av (iA 23 E B λaw=>
 fA 161 aw 2 λax=>lA 3 ax I λay=>K ay I) (bB .add 3 B (i 1) λaz=>K2 az I)) (K (i (-1)) J)) λK2=>K2 (i 0) al)) (λO=>O l (i 0) n)
def auU:dH:=λi=>match i with
 | 6=>.run 0 17
 | _=>.nil
theorem ab6(p0:Value)(h:S122 w K p0):CR 122 [p0] w K:=
 qu 60 auU 4 [.tmp 2] Tryz.func122 h
def auV:dH:=λi=>match i with
 | 3=>(.of [(0,[]),(2,[]),(3,[]),(1,[3]),(4,[]),(5,[])])
 | 16=>(.of [(0,[]),(2,[]),(3,[]),(1,[3]),(4,[]),(5,[])])
 | _=>.nil
def S130(B:Value):Prop:=
 lN 9 B λa=>bB .gtr 3 a (i 4000) λb=>cV b (K (.tuple #[(.slice none 0 0),(i 2),(i 4000)]) w) (bS 198 0 [] w λc d=>cF 205 [B,(i 0)] d λe f=>o0 (λU ub E g=>∀_:Env,
 lN 9 B λh=>bA .lss 3 E h λj=>cV j (eM g6 (l0 209 [(3,E)].toArray) λk=>aL 209 g λI l=>sA 209 I k l λn=>eR (λK2=>eM g6 (tU 9 B E) λo=>
 cF 206 [o] n λp q=>cV p (fA 209 I 0 λr=>sA 3 r (i 1) q λs=>jQ (λW G t=>∀_:Env,
 eR (λY=>lN 9 B λu=>bA .lss 3 G u λv=>cV v (eM g6 (tU 9 B G) λx=>cF 206 [x] t λy z=>cV y (Y tt z) (eM g6 (tU 9 B G) λaa=>
 cF 207 [aa] z λab ac=>Y ab ac)) (Y ff t)) (λad V=>∀_:Env,
 cV ad (bB .add 3 G (i 1) λaf=>W af V) (bA .sub 3 G E λag=>bB .gtr 3 ag (i 16) λah=>cV ah (K (.tuple #[(.slice none 0 0),(i 2),E]) V) (K2 G V)))) λW=>W E s) (
 eM g6 (tU 9 B E) λai=>cF 207 [ai] q λaj ak=>cV aj (fA 209 I 0 λal=>sA 3 al (i 2) ak λam=>jQ (λZ M an=>∀_:Env,
 eR (λK6=>lN 9 B λao=>bA .lss 3 M ao λap=>cV ap (eM g6 (tU 9 B M) λaq=>cF 207 [aq] an λar asx=>K6 ar asx) (K6 ff an)) (λau J=>∀_:Env,
 cV au (yn (λK7=>fA 209 I 2 λaw=>lA 3 aw J λax=>bB .leq 3 ax (i 4294967296) λay=>cV ay (fA 209 I 2 λaz=>lA 3 az (drew J) λa0=>bC .mul 3 (i 10) a0 λa1=>
 eM g6 (tU 9 B M) λa2=>bB .sub 5 a2 (.int .u8 48) λa3=>eM g6 (convert 5 3 a3) λa4=>bA .add 3 a1 a4 λa5=>fA 209 I 2 λa6=>sA 3 a6 a5 (drew J) λa7=>
 K7 a7) (K7 J)) (λa8=>∀_:Env,
 bB .add 3 M (i 1) λa9=>Z a9 a8)) (fA 209 I 2 λba=>lA 3 ba J λbb=>bB .gtr 3 bb (i 4294967296) λbc=>cV bc (K (.tuple #[(.slice none 0 0),(i 4),E]) J) (K2 M J))))
 λZ=>Z E am) (fA 209 I 0 λbd=>sA 3 bd (i 3) ak λbe=>cF 208 [B,E] be λbf bg=>bA .add 3 E bf λbh=>bA .eql 3 bh E λbi=>cV bi (K (.tuple #[(.slice none 0 0),(i 3),E]) bg) (
 K2 bh bg)))) (λO bj=>∀_:Env,
 eM g6 (nn 9 B (some E) (some O) none) λbk=>fA 209 I 1 λbl=>sA 9 bl bk bj λbm=>lA 209 I bm λbn=>bS 198 1 [(0,bn)] bm λbo bp=>aP 198 ub bo bp λbq br=>
 cF 205 [B,O] br λbs bt=>U bq bs bt)) (K (.tuple #[ub,(i 0),(i 0)]) g)) λU=>U c e f)
def auW:dH:=λi=>match i with
 | 17=>.run 0 11
 | _=>.nil
theorem ab7(u:Value)(h:S130 w K u):CR 130 [u] w K:=
 qu 107 auW 28 [.tmp 2,.tmp 3,.tmp 4] Tryz.func130 h
def auX:dH:=λi=>match i with
 | 1=>.run 0 17
 | _=>.nil
theorem auY:PL 81:=dG Tryz.func81
theorem TT:PL 83:=dG Tryz.func83
theorem auZ:PL 86:=dG Tryz.func86
theorem ahY:PL 92:=dG Tryz.func92
theorem au0:PL 93:=dG Tryz.func93
theorem au1:PL 94:=dG Tryz.func94
theorem afN:PL 106:=dG Tryz.func106
theorem amZ:PL 118:=dG Tryz.func118
theorem am0:PL 119:=dG Tryz.func119
theorem afO:PL 120:=dG Tryz.func120
theorem Wh:PL 121:=dG Tryz.func121
theorem am1:PL 122:=dG Tryz.func122
theorem rB:PL 123:=dG Tryz.func123
theorem Rn:PL 124:=dG Tryz.func124
theorem Ro:PL 125:=dG Tryz.func125
theorem am2:PL 126:=dG Tryz.func126
theorem Wi:PL 127:=dG Tryz.func127
theorem am3:PL 130:=dG Tryz.func130
theorem yo:PL 131:=dG Tryz.func131
variable (w:World) (K:Value->g7)
def au2:dH:=λi=>match i with
 | 7=>.run 0 24
 | 8=>.run 0 13
 | _=>.nil
def au3:dH:=λi=>match i with
 | 1=>.run 0 45
 | 3=>.run 0 26
 | _=>.nil
def au4:dH:=λi=>match i with
 | 8=>(.of [(0,[]),(1,[]),(2,[]),(3,[]),(4,[]),(5,[]),(6,[]),(7,[1]),(8,[]),(9,[]),(10,[])])
 | 10=>.run 0 19
 | _=>.nil
def au5:dH:=λi=>match i with
 | 1=>.run 0 18
 | _=>.nil
def au6:dH:=λi=>match i with
 | 2=>.run 0 10
 | 4=>.run 0 13
 | _=>.nil
def au7:dH:=λi=>match i with
 | 3=>.run 0 14
 | _=>.nil
def P149:dH:=λi=>match i with
 | 5=>.run 0 12
 | _=>.nil
def au8:dH:=λi=>match i with
 | 6=>.run 0 16
 | _=>.nil
def au9:dH:=λi=>match i with
 | 6=>(.of [(0,[]),(1,[]),(2,[]),(3,[]),(4,[]),(5,[]),(6,[]),(7,[]),(8,[]),(9,[]),(10,[]),(11,[]),(12,[]),(13,[]),(14,[3,8,10]),(15,[3]),(16,[])])
 | _=>.nil
def ava:dH:=λi=>match i with
 | 6=>.run 0 10
 | _=>.nil
def avb:dH:=λi=>match i with
 | 5=>(.of [(0,[]),(1,[]),(2,[]),(3,[]),(4,[]),(5,[]),(6,[4]),(7,[]),(8,[]),(9,[]),(10,[])])
 | _=>.nil
def S165(E B:Value):Prop:=
 aL 231 w λa b=>eR (λU=>bB .lss 3 B (i 0) λc=>cV c (U tt b) (nC E λd=>fA 196 d 1 λe=>lA 179 e b λf=>lN 179 f λg=>bA .geq 3 B g λh=>U h b)) (λj k=>∀_:Env,
 cV j (eM g6 (l0 231 [].toArray) λl=>sA 231 a l k λn=>lA 231 a n λr=>K (.tuple #[r,(i 1)]) n) (cF 151 [E,B] k λo p=>eM g6 (Op.unary .not o) λq=>
 cV q (eM g6 (l0 231 [].toArray) λs=>sA 231 a s p λt=>lA 231 a t λKs=>K (.tuple #[Ks,(i 13)]) t) (nC E λu=>fA 196 u 1 λv=>lA 179 v p λx=>
 iA 179 x B λy=>lA 231 y p λz=>aL 231 p λJ ab=>sA 231 J z ab λac=>bS 179 0 [] ac λad I=>nC E λaf=>fA 196 af 1 λag=>lA 179 ag I λah=>eM g6 (nn 179 ah none (some B) none) λY=>
 aP 179 ad Y I λaj M=>nC E λal=>fA 196 al 1 λam=>lA 179 am M λan=>bB .add 3 B (i 1) λao=>eM g6 (nn 179 an (some ao) none none) λap=>
 aP 179 aj ap M λZ ar=>nC E λG=>fA 196 G 1 λW=>sA 179 W Z ar λO=>lA 231 J O λaw=>sA 231 a aw O λV=>lA 231 a V λTU=>K (.tuple #[TU,(i 0)]) V)))
theorem ab8(B u:Value)(h:S165 w K B u):CR 165 [B,u] w K:=
 qu 54 (λ_=>.nil) 48 [.cell 4 231,.tmp 5] Tryz.func165 h
def avc:dH:=λi=>match i with
 | 5=>(.of [(0,[]),(1,[]),(2,[]),(3,[]),(4,[]),(5,[]),(6,[]),(7,[]),(8,[]),(9,[]),(10,[]),(11,[]),(12,[]),(13,[]),(14,[]),(15,[4]),(16,[]),(17,[]),(18,[]),(19,[])])
 | _=>.nil
def avd:dH:=λi=>match i with
 | 8=>.run 0 22
 | _=>.nil
theorem Rp:PL 132:=dG Tryz.func132
theorem afP:PL 133:=dG Tryz.func133
theorem afQ:PL 134:=dG Tryz.func134
theorem am4:PL 135:=dG Tryz.func135
theorem Rq:PL 136:=dG Tryz.func136
theorem am5:PL 139:=dG Tryz.func139
theorem am6:PL 144:=dG Tryz.func144
theorem am7:PL 145:=dG Tryz.func145
theorem afR:PL 147:=dG Tryz.func147
theorem afS:PL 148:=dG Tryz.func148
theorem am8:PL 150:=dG Tryz.func150
theorem afT:PL 151:=dG Tryz.func151
theorem am9:PL 153:=dG Tryz.func153
theorem ana:PL 154:=dG Tryz.func154
theorem afU:PL 155:=dG Tryz.func155
theorem afV:PL 156:=dG Tryz.func156
theorem anb:PL 157:=dG Tryz.func157
theorem Rr:PL 162:=dG Tryz.func162
theorem anc:PL 165:=dG Tryz.func165
theorem afW:PL 166:=dG Tryz.func166
theorem ane:PL 167:=dG Tryz.func167
theorem Wj:PL 198:=dG Tryz.func198
variable (w:World) (K:Value->g7)
def ave:dH:=λi=>match i with
 | 10=>.run 0 7
 | _=>.nil
def avf:dH:=λi=>match i with
 | 2=>.run 0 17
 | 6=>.run 0 12
 | 8=>.run 0 9
 | 9=>.run 0 12
 | _=>.nil
def avg:dH:=λi=>match i with
 | 5=>.run 0 8
 | 7=>.run 0 9
 | 9=>.run 0 9
 | 10=>.run 0 8
 | _=>.nil
def avh:dH:=λi=>match i with
 | 5=>.run 0 17
 | _=>.nil
def avi:dH:=λi=>match i with
 | 1=>.run 0 11
 | _=>.nil
def avj:dH:=λi=>match i with
 | 1=>.run 0 11
 | 4=>.run 0 10
 | _=>.nil
def S219(B Z:Value):Prop:=
 lN 41 Z λa=>cF 266 [B,a] w λb c=>eM g6 (Op.unary .not b) λd=>cV d (K (.tuple #[(i 0),(i 8)]) c) (aL 318 c λp6 e=>lN 277 B λf=>jQ (λG g h=>∀_:Env,
 bA .lss 3 g f λj=>cV j (yn (λK2=>iA 277 B g λk=>lA 320 k h λl=>aL 320 h λn o=>sA 320 n l o λp=>fA 320 n 0 λq=>lA 3 q p λr=>cF 267 [r] p λs t=>
 bB .eql 3 s (i 0) λu=>cV u (fA 320 n 1 λv=>lA 3 v t λx=>eR (λK3=>fA 320 n 0 λy=>lA 3 y t λz=>bB .eql 3 z (i 2) λaa=>cV aa (fA 320 n 1 λab=>lA 3 ab t λac=>
 iA 41 Z ac λad=>lA 3 ad t λae=>K3 ae t) (K3 x t)) (λn9 af=>∀_:Env,
 cF 268 [p6,n9] af λ_ ag=>K2 ag)) (bB .eql 3 s (i 1) λah=>cV ah (fA 320 n 0 λJ=>lA 3 J (drew t) λW=>fA 318 p6 0 λak=>cF 270 [ak] (drew t) λal O=>kA 3 J W O (
 cF 269 [W,al] O λan ao=>xT an 0 λap=>xT an 1 λ_=>cF 268 [p6,ap] ao λ_ aq=>K2 aq)) (fA 318 p6 0 λar=>cF 270 [ar] t λE I=>fA 320 n 0 λav=>lA 3 av (drew I) λY=>
 fA 318 p6 0 λax=>cF 270 [ax] (drew I) λay az=>kA 3 av Y az (cF 271 [Y,ay,E] az λU V=>xT U 0 λa2=>xT U 1 λM=>bB .neq 31 M (i 0) λa4=>cV a4 (K (.tuple #[(i 0),M]) V) (
 cF 268 [p6,a2] V λ_ a5=>K2 a5))))) (λa6=>∀_:Env,
 bB .add 3 g (i 1) λa7=>G a7 a6)) (fA 318 p6 0 λa8=>cF 270 [a8] h λa9 ba=>K (.tuple #[a9,(i 0)]) ba)) λG=>G (i 0) e)
def avk:dH:=λi=>match i with
 | 9=>(.of [(0,[]),(1,[]),(2,[]),(4,[]),(3,[1]),(5,[]),(6,[]),(7,[]),(8,[]),(9,[]),(10,[])])
 | 19=>(.of [(0,[]),(1,[]),(2,[]),(3,[1]),(4,[]),(5,[]),(6,[]),(7,[]),(8,[]),(9,[])])
 | _=>.nil
theorem ab9(B u:Value)(h:S219 w K B u):CR 219 [B,u] w K:=
 qu 74 avk 48 [.tmp 4,.tmp 5] Tryz.func219 h
def S220(B I:Value):Prop:=
 cF 200 [B] w λa b=>eM g6 (Op.unary .not a) λc=>cV c (K (.tuple #[(.slice none 0 0),(i 8)]) b) (jQ (λG E d=>∀_:Env,
 lN 82 B λe=>bA .lss 3 E e λf=>cV f (eR (λK2=>iA 82 B E λg=>fA 164 g 0 λh=>lA 3 h d λj=>bB .eql 3 j (i 2) λk=>cV k (iA 82 B E λl=>fA 164 l 2 λn=>
 lA 9 n d λo=>cF 123 [I,o] d λp q=>bB .lss 3 p (i 0) λr=>K2 r q) (K2 ff d)) (λs t=>∀_:Env,
 cV s (K (.tuple #[(.slice none 0 0),(i 9)]) t) (bB .add 3 E (i 1) λu=>G u t))) (cF 272 [B,(i 0),I] d λv x=>K (.tuple #[v,(i 0)]) x)) λG=>G (i 0) b)
theorem aca(B u:Value)(h:S220 w K B u):CR 220 [B,u] w K:=
 qu 35 (λ_=>.nil) 48 [.tmp 4,.tmp 5] Tryz.func220 h
def S224(u B E:Value):Prop:=
 lN 179 u λa=>eM g6 (nn 179 u (some B) (some E) (some a)) λ_=>bA .eql 3 B E λb=>cV b (K u w) (lN 179 u λc=>eM g6 (nn 179 u none (some B) none) λd=>
 eM g6 (nn 179 u (some E) none none) λe=>aP 179 d e (drew w) λf g=>lN 179 f λh=>eM g6 (nn 179 f (some h) (some c) none) λj=>
 rA g6 (Builtin.clear_ #[179] 0 [j].toArray) g λ_ k=>K f k)
def avl:dH:=λi=>match i with
 | 5=>.run 0 8
 | _=>.nil
theorem acb(E u B:Value)(h:S224 w K E u B):CR 224 [E,u,B] w K:=
 qu 33 avl 64 [.tmp 6] Tryz.func224 h
def S229(E ju:Value):Prop:=
 nC E λa=>fA 196 a 1 λb=>lA 179 b w λc=>lN 179 c λd=>bB .sub 3 d (i 1) λe=>jQ (λG B f=>∀_:Env,
 bB .geq 3 B (i 0) λg=>cV g (eR (λK2=>nC E λh=>fA 196 h 1 λj=>lA 179 j f λk=>iA 179 k B λl=>fA 231 l 0 λn=>lA 3 n f λo=>bB .eql 3 o (i 3) λp=>
 cV p (nC E λq=>fA 196 q 1 λr=>lA 179 r f λs=>iA 179 s B λt=>fA 231 t 2 λu=>lA 3 u f λv=>bA .eql 3 v ju λx=>K2 x f) (K2 ff f)) (λy z=>∀_:Env,
 cV y (nC E λU=>fA 196 U 1 λV=>lA 179 V z λO=>iA 179 O B λM=>fA 231 M 3 λI=>lA 3 I z λW=>K (.tuple #[W,tt]) z) (bB .sub 3 B (i 1) λJ=>G J z))) (
 K (.tuple #[(i 0),ff]) f)) (λG=>G e w)
theorem acd(u ju:Value)(h:S229 w K u ju):CR 229 [u,ju] w K:=
 qu 46 (λ_=>.nil) 48 [.tmp 4,.tmp 5] Tryz.func229 h
def avm:dH:=λi=>match i with
 | 3=>.run 0 10
 | 5=>(.of [(0,[]),(1,[]),(2,[]),(3,[]),(4,[]),(5,[]),(6,[4]),(7,[]),(8,[]),(9,[]),(10,[])])
 | _=>.nil
def S252(u E:Value):Prop:=
 bB .add 3 E (i 1) λa=>V4 (λB I J G b=>∀_:Env,
 iA 82 u E λc=>fA 164 c 0 λd=>lA 3 d b λe=>cF 273 [e] b λf g=>bA .lss 3 G f λh=>cV h (cF 252 [u,J] g λj k=>eM g6 (Builtin.max_ #[3,3] 3 [I,j].toArray) λl=>
 cF 251 [u,J] k λn o=>bB .add 3 G (i 1) λp=>B l n p o) (bB .add 3 I (i 1) λq=>K q g)) (λB=>B (i 0) a (i 0) w)
theorem ace(B u:Value)(h:S252 w K B u):CR 252 [B,u] w K:=
 qu 30 (λ_=>.nil) 16 [.tmp 4] Tryz.func252 h
theorem Rs:PL 199:=dG Tryz.func199
theorem Kv:PL 200:=dG Tryz.func200
theorem afX:PL 201:=dG Tryz.func201
theorem Wk:PL 202:=dG Tryz.func202
theorem afY:PL 205:=dG Tryz.func205
theorem Rt:PL 206:=dG Tryz.func206
theorem Ru:PL 207:=dG Tryz.func207
theorem anf:PL 208:=dG Tryz.func208
theorem vu:PL 209:=dG Tryz.func209
theorem Wl:PL 210:=dG Tryz.func210
theorem uc:PL 211:=dG Tryz.func211
theorem ang:PL 212:=dG Tryz.func212
theorem afZ:PL 213:=dG Tryz.func213
theorem GF:PL 214:=dG Tryz.func214
theorem af0:PL 215:=dG Tryz.func215
theorem af1:PL 216:=dG Tryz.func216
theorem anh:PL 219:=dG Tryz.func219
theorem ani:PL 220:=dG Tryz.func220
theorem anj:PL 222:=dG Tryz.func222
theorem af2:PL 223:=dG Tryz.func223
theorem ank:PL 224:=dG Tryz.func224
theorem anl:PL 226:=dG Tryz.func226
theorem anm:PL 228:=dG Tryz.func228
theorem ann:PL 229:=dG Tryz.func229
theorem Rv:PL 230:=dG Tryz.func230
theorem Kw:PL 251:=dG Tryz.func251
theorem Wm:PL 252:=dG Tryz.func252
variable (w:World) (K:Value->g7)
def S256(p0 Kx Bv:Value):Prop:=
 nC p0 λa=>fA 305 a 0 λb=>lA 198 b (drew w) λc=>nC p0 λd=>fA 305 d 1 λe=>lA 3 e (drew w) λf=>cF 214 [c,f] (drew w) λg h=>o0 (λW B O j=>∀_:Env,
 bB .leq 3 O (i 14) λk=>cV k (eR (λK2=>nC p0 λl=>fA 305 l 0 λn=>lA 198 n (drew j) λo=>nC p0 λp=>fA 305 p 1 λq=>lA 3 q (drew j) λr=>cF 290 [O] (drew j) λs t=>
 kA 198 n o t (kA 3 q r t (cF 209 [o,r,s] t λu v=>cV u (K2 O v) (K2 B v)))) (λV x=>∀_:Env,
 bB .add 3 O (i 1) λy=>W V y x)) (eR (λK3=>bB .eql 3 B (i 13) λz=>cV z (bB .eql 3 Bv (i 0) λaa=>K3 aa j) (K3 ff j)) (λab M=>∀_:Env,
 cV ab (cF 291 [p0,(i 5)] M λ_ ad=>K (.tuple #[]) ad) (yn (λK4=>bB .neq 3 B (i 1) λae=>cV ae (nC p0 λaf=>fA 305 af 1 λag=>lA 3 ag M λah=>bB .add 3 ah (i 1) λai=>
 nC p0 λaj=>fA 305 aj 1 λak=>sA 3 ak ai M λal=>K4 al) (K4 M)) (λam=>∀_:Env,
 cF 292 [p0,B,g] am λan ao=>aL 193 ao λI aq=>sA 193 I an aq λJ=>nC p0 λasx=>fA 305 asx 4 λau=>lA 141 au J λav=>lN 141 av λaw=>nC p0 λax=>fA 305 ax 4 λay=>
 lA 141 ay (drew J) λaz=>lA 193 I (drew J) λa0=>bS 141 1 [(0,a0)] (drew J) λa1 a2=>kA 141 ay az a2 (aP 141 az a1 a2 λa3 a4=>nC p0 λa5=>fA 305 a5 4 λa6=>
 sA 141 a6 a3 a4 λa7=>eR (λK5=>bB .neq 3 B (i 11) λa8=>cV a8 (bB .neq 3 B (i 12) λa9=>K5 a9 a7) (K5 ff a7)) (λba Y=>∀_:Env,
 cV ba (cF 257 [p0,(Go.Value.string (hZ (#[59])))] Y λ_ bc=>K (.tuple #[]) bc) (eR (λK6=>bB .eql 3 B (i 12) λbd=>cV bd (bB .add 3 Bv (i 1) λbe=>
 K6 be Y) (K6 Bv Y)) (λG bf=>∀_:Env,
 bB .add 3 Kx (i 1) λbg=>cF 293 [p0,bg,G] bf λbh bi=>fA 193 I 6 λbj=>sA 3 bj bh bi λE=>yn (λK7=>eR (λU=>bB .eql 3 B (i 11) λbl=>cV bl (
 nC p0 λbm=>fA 305 bm 2 λbn=>lA 31 bn (drew E) λbo=>bB .eql 31 bo (i 0) λbp=>cV bp (nC p0 λbq=>fA 305 bq 0 λbr=>lA 198 br (drew E) λbs=>nC p0 λbt=>
 fA 305 bt 1 λbu=>lA 3 bu (drew E) λbv=>cF 209 [bs,bv,(Go.Value.string (hZ (#[101,108,115,101])))] (drew E) λbw bx=>U bw bx) (U ff (drew E))) (U ff (drew E)))
 (λbz b0=>∀_:Env,
 cV bz (nC p0 λb1=>fA 305 b1 1 λb2=>lA 3 b2 b0 λb3=>bB .add 3 b3 (i 1) λb4=>nC p0 λb5=>fA 305 b5 1 λb6=>sA 3 b6 b4 b0 λb7=>bB .add 3 Kx (i 1) λb8=>
 cF 293 [p0,b8,G] b7 λb9 ca=>fA 193 I 7 λcb=>sA 3 cb b9 ca λcc=>K7 cc) (K7 b0))) (λZ=>∀_:Env,
 nC p0 λce=>fA 305 ce 4 λcf=>lA 141 cf (drew Z) λcg=>lA 193 I (drew Z) λch=>iA 141 cg aw λci=>sA 193 ci ch (drew Z) λcj=>K (.tuple #[]) cj)))))))))) (λW=>W (i 1) (i 2) h)
def avn:dH:=λi=>match i with
 | 0=>.run 0 11
 | 4=>(.of [(0,[]),(1,[]),(2,[]),(3,[]),(4,[]),(5,[]),(6,[]),(7,[]),(8,[]),(9,[3,7]),(10,[])])
 | 12=>(.of [(0,[]),(1,[]),(2,[]),(3,[]),(4,[]),(5,[]),(6,[4]),(7,[]),(8,[]),(9,[]),(10,[])])
 | 19=>.run 0 20
 | 22=>.run 0 8
 | _=>.nil
theorem acg(p0 u B:Value)(h:S256 w K p0 u B):CR 256 [p0,u,B] w K:=
 qu 134 avn 0 [] Tryz.func256 h
def avo:dH:=λi=>match i with
 | 0=>.run 0 17
 | _=>.nil
def S258(J i1 Rw G:Value):Prop:=
 aL 308 w λa b=>bB .eql 3 G (i 5) λc=>cV c (cF 294 [J,i1,Rw] b λd e=>sA 308 a d e λf=>lA 308 a f λr=>K r f) (bB .add 3 G (i 1) λg=>cF 258 [J,i1,Rw,g] b λh j=>
 aL 308 j λk l=>sA 308 k h l λn=>Rl (λV o=>∀_:Env,
 fA 308 k 2 λp=>lA 31 p o λq=>bB .eql 31 q (i 0) λs=>cV s (o0 (λK2 U E t=>∀_:Env,
 cF 295 [G] t λu v=>lN 41 u λx=>bA .lss 3 E x λy=>cV y (eR (λK3=>fA 308 k 1 λz=>lA 3 z (drew v) λY=>cF 295 [G] (drew v) λab W=>kA 3 z Y W (iA 41 ab E λad=>
 lA 3 ad W λae=>cF 296 [ae] W λaf ag=>kA 3 z Y ag (cF 209 [J,Y,af] ag λah ai=>cV ah (cF 295 [G] ai λaj ak=>iA 41 aj E λal=>lA 3 al ak λam=>K3 am ak) (
 K3 U ai)))) (λM an=>∀_:Env,
 bB .add 3 E (i 1) λao=>K2 M ao an)) (bB .eql 3 U (i 0) λap=>cV ap (lA 308 k v λaq=>sA 308 a aq v λar=>lA 308 a ar λKs=>K Ks ar) (fA 308 k 1 λasx=>
 lA 3 asx v λau=>bB .add 3 au (i 1) λav=>bB .add 3 G (i 1) λaw=>cF 258 [J,av,Rw,aw] v λax ay=>aL 308 ay λB az=>sA 308 B ax az λI=>fA 308 B 2 λa1=>
 lA 31 a1 I λa2=>bB .neq 31 a2 (i 0) λa3=>cV a3 (lA 308 B I λa4=>sA 308 a a4 I λa5=>lA 308 a a5 λTU=>K TU a5) (fA 308 k 1 λa6=>lA 3 a6 I λa7=>iA 198 J a7 λa8=>
 fA 209 a8 3 λa9=>lA 3 a9 I λba=>eM g6 (l0 164 [(0,U),(3,ba)].toArray) λbb=>bS 82 1 [(0,bb)] I λbc bd=>fA 308 k 0 λbe=>lA 82 be bd λbf=>
 aP 82 bc bf bd λbg bh=>fA 308 B 0 λbi=>lA 82 bi bh λbj=>aP 82 bg bj bh λbk bl=>fA 308 B 1 λbm=>lA 3 bm bl λbn=>eM g6 (l0 308 [(0,bk),(1,bn)].toArray) λbo=>
 sA 308 k bo bl λO=>bB .eql 3 G (i 2) λbq=>cV bq (lA 308 k O λbr=>sA 308 a br O λbs=>lA 308 a bs λZ=>K Z bs) (V O))))) λK2=>K2 (i 0) (i 0) o) (
 lA 308 k o λbt=>sA 308 a bt o λbu=>lA 308 a bu λr_4=>K r_4 bu)) λV=>V n)
def avp:dH:=λi=>match i with
 | 9=>(.of [(0,[]),(1,[]),(2,[]),(3,[]),(5,[]),(4,[2]),(6,[]),(7,[]),(8,[2]),(9,[])])
 | _=>.nil
theorem ach(B u G E:Value)(h:S258 w K B u G E):CR 258 [B,u,G,E] w K:=
 qu 91 avp 256 [.cell 8 308] Tryz.func258 h
def avq:dH:=λi=>match i with
 | 1=>.run 0 11
 | _=>.nil
def avr:dH:=λi=>match i with
 | 1=>.run 0 15
 | _=>.nil
def avs:dH:=λi=>match i with
 | 1=>.run 0 13
 | 2=>.run 0 15
 | _=>.nil
def S271(u E b2:Value):Prop:=
 eR (λB=>bB .lss 3 u (i 0) λa=>cV a (B tt w) (bB .geq 3 u (i 16) λb=>B b w)) (λc d=>∀_:Env,
 cV c (K (.tuple #[(i 0),(i 1)]) d) (cF 304 [] d λe f=>eM g6 (tU 348 e u) λg=>bB .eql 288 g .nilFunc λh=>cV h (K (.tuple #[(i 0),(i 1)]) f) (eR (λK2=>
 bB .eql 3 u (i 8) λj=>cV j (bB .eql 3 b2 (i 0) λk=>K2 k f) (bB .eql 3 u (i 9) λl=>cV l (bB .eql 3 b2 (i 0) λn=>K2 n f) (K2 ff f))) (λo p=>∀_:Env,
 cV o (K (.tuple #[(i 0),(i 12)]) p) (ko g6 g [E,b2] p λq r=>K (.tuple #[q,(i 0)]) r)))))
theorem aci(u B b2:Value)(h:S271 w K u B b2):CR 271 [u,B,b2] w K:=
 qu 36 (λ_=>.nil) 192 [.tmp 6,.tmp 7] Tryz.func271 h
def S275(E B b2:Value):Prop:=
 bB .eql 3 E (i 5) λa=>cV a (bA .add 3 B b2 λb=>K (.tuple #[b,(i 0)]) w) (bB .eql 3 E (i 6) λc=>cV c (bA .sub 3 B b2 λd=>K (.tuple #[d,(i 0)]) w) (bB .eql 3 E (i 7) λe=>
 cV e (bA .mul 3 B b2 λf=>K (.tuple #[f,(i 0)]) w) (bB .eql 3 E (i 8) λg=>cV g (bB .eql 3 b2 (i 0) λh=>cV h (K (.tuple #[(i 0),(i 12)]) w) (cF 306 [B,b2] w λj k=>
 K (.tuple #[j,(i 0)]) k)) (bB .eql 3 E (i 9) λl=>cV l (bB .eql 3 b2 (i 0) λn=>cV n (K (.tuple #[(i 0),(i 12)]) w) (cF 306 [B,b2] w λo p=>bA .mul 3 b2 o λq=>bA .sub 3 B q λr=>
 K (.tuple #[r,(i 0)]) p)) (bB .eql 3 E (i 10) λs=>cV s (bA .eql 3 B b2 λt=>cF 305 [t] w λu v=>K (.tuple #[u,(i 0)]) v) (bB .eql 3 E (i 11) λx=>cV x (bA .neq 3 B b2 λy=>
 cF 305 [y] w λz aa=>K (.tuple #[z,(i 0)]) aa) (bB .eql 3 E (i 12) λab=>cV ab (bA .lss 3 B b2 λac=>cF 305 [ac] w λad W=>K (.tuple #[ad,(i 0)]) W) (bB .eql 3 E (i 13) λaf=>
 cV af (bA .leq 3 B b2 λZ=>cF 305 [Z] w λah O=>K (.tuple #[ah,(i 0)]) O) (bB .eql 3 E (i 14) λaj=>cV aj (Cp (λI=>bB .neq 3 B (i 0) λak=>cV ak (bB .neq 3 b2 (i 0) λal=>
 cF 305 [al] w λam an=>I am (i 0) an) (cF 305 [ff] w λY ap=>I Y (i 0) ap)) (λV ar G=>∀_:Env,
 K (.tuple #[V,ar]) G)) (bB .eql 3 E (i 15) λJ=>cV J (Cp (λK2=>bB .neq 3 B (i 0) λav=>cV av (cF 305 [tt] w λaw ax=>K2 aw (i 0) ax) (bB .neq 3 b2 (i 0) λay=>
 cF 305 [ay] w λaz a0=>K2 az (i 0) a0)) (λU a3 M=>∀_:Env,
 K (.tuple #[U,a3]) M)) (K (.tuple #[(i 0),(i 1)]) w)))))))))))
theorem acj(u B b2:Value)(h:S275 w K u B b2):CR 275 [u,B,b2] w K:=
 qu 84 (λ_=>.nil) 192 [.tmp 6,.tmp 7] Tryz.func275 h
def S289(I G:Value):Prop:=
 o0 (λV Z M a=>∀_:Env,
 lN 141 I λb=>bA .lss 3 M b λc=>cV c (iA 141 I M λd=>lA 193 d a λe=>aL 193 a λf g=>sA 193 f e g λh=>eR (λK2=>fA 193 f 6 λj=>lA 3 j h λk=>
 bB .lss 3 k (i 0) λl=>cV l (K2 tt h) (fA 193 f 7 λn=>lA 3 n h λo=>bB .lss 3 o (i 0) λp=>cV p (K2 tt h) (fA 193 f 6 λq=>lA 3 q h λr=>bB .gtr 3 r (i 40) λs=>
 cV s (K2 tt h) (fA 193 f 7 λt=>lA 3 t h λu=>bB .gtr 3 u (i 40) λv=>cV v (K2 tt h) (bB .add 3 M (i 1) λx=>fA 193 f 6 λy=>lA 3 y h λz=>bA .add 3 x z λaa=>
 fA 193 f 7 λab=>lA 3 ab h λac=>bA .add 3 aa ac λad=>lN 141 I λae=>bA .gtr 3 ad ae λaf=>K2 af h))))) (λag B=>∀_:Env,
 cV ag (K (i (-1)) B) (eR (λE=>fA 193 f 6 λai=>lA 3 ai B λaj=>bB .gtr 3 aj (i 0) λak=>cV ak (fA 193 f 0 λal=>lA 3 al B λam=>bB .neq 3 am (i 11) λan=>
 cV an (fA 193 f 0 λao=>lA 3 ao B λap=>bB .neq 3 ap (i 12) λaq=>cV aq (E tt B) (fA 193 f 7 λar=>lA 3 ar B λasx=>bB .gtr 3 asx (i 0) λau=>cV au (fA 193 f 0 λav=>
 lA 3 av B λaw=>bB .neq 3 aw (i 11) λax=>cV ax (E tt B) (fA 193 f 0 λay=>lA 3 ay B λaz=>bB .eql 3 az (i 13) λa0=>cV a0 (bB .eql 3 G (i 0) λa1=>E a1 B) (
 E ff B))) (fA 193 f 0 λa2=>lA 3 a2 B λa3=>bB .eql 3 a3 (i 13) λa4=>cV a4 (bB .eql 3 G (i 0) λa5=>E a5 B) (E ff B)))) (fA 193 f 7 λa6=>lA 3 a6 B λa7=>
 bB .gtr 3 a7 (i 0) λa8=>cV a8 (fA 193 f 0 λa9=>lA 3 a9 B λba=>bB .neq 3 ba (i 11) λbb=>cV bb (E tt B) (fA 193 f 0 λbc=>lA 3 bc B λbd=>bB .eql 3 bd (i 13) λbe=>
 cV be (bB .eql 3 G (i 0) λbf=>E bf B) (E ff B))) (fA 193 f 0 λbg=>lA 3 bg B λbh=>bB .eql 3 bh (i 13) λbi=>cV bi (bB .eql 3 G (i 0) λbj=>E bj B) (
 E ff B)))) (fA 193 f 7 λbk=>lA 3 bk B λbl=>bB .gtr 3 bl (i 0) λbm=>cV bm (fA 193 f 0 λbn=>lA 3 bn B λbo=>bB .neq 3 bo (i 11) λbp=>cV bp (E tt B) (fA 193 f 0 λbq=>
 lA 3 bq B λbr=>bB .eql 3 br (i 13) λbs=>cV bs (bB .eql 3 G (i 0) λbt=>E bt B) (E ff B))) (fA 193 f 0 λbu=>lA 3 bu B λbv=>bB .eql 3 bv (i 13) λbw=>
 cV bw (bB .eql 3 G (i 0) λbx=>E bx B) (E ff B)))) (λbz O=>∀_:Env,
 cV bz (K (i (-1)) O) (bB .add 3 M (i 1) λb1=>fA 193 f 6 λb2=>lA 3 b2 (drew O) λb3=>bA .add 3 b1 b3 λb4=>eR (λK4=>fA 193 f 0 λb5=>lA 3 b5 (drew O) λb6=>
 bB .eql 3 b6 (i 12) λb7=>cV b7 (bB .add 3 G (i 1) λb8=>K4 b8 (drew O)) (K4 G (drew O))) (λJ U=>∀_:Env,
 eR (λK5=>eR (λK6=>fA 193 f 0 λca=>lA 3 ca U λcb=>bB .eql 3 cb (i 11) λcc=>cV cc (K6 tt U) (fA 193 f 0 λcd=>lA 3 cd U λce=>bB .eql 3 ce (i 12) λcf=>
 K6 cf U)) (λcg Y=>∀_:Env,
 cV cg (bB .add 3 M (i 1) λci=>eM g6 (nn 141 I (some ci) (some b4) none) λcj=>fA 193 f 7 λck=>lA 3 ck (drew Y) λcl=>bA .add 3 b4 cl λcm=>eM g6 (nn 141 I (some b4) (some cm) none) λcn=>
 cF 289 [cj,J] (drew Y) λco cp=>kA 3 ck cl cp (cF 289 [cn,J] cp λcq cr=>eR (λK7=>bB .lss 3 co (i 0) λcs=>cV cs (K7 tt cr) (bB .lss 3 cq (i 0) λct=>K7 ct cr))
 (λcu cv=>∀_:Env,
 cV cu (K (i (-1)) cv) (bC .add 3 (i 1) co λcw=>bC .add 3 (i 1) cq λcx=>eM g6 (Builtin.max_ #[3,3,3] 3 [Z,cw,cx].toArray) λcy=>K5 cy cv)))) (K5 Z Y))) (λW cz=>∀_:Env,
 fA 193 f 7 λc0=>lA 3 c0 cz λc1=>bA .add 3 b4 c1 λc2=>V W c2 cz))))))) (K Z a)) (λV=>V (i 0) (i 0) w)
def avt:dH:=λi=>match i with
 | 8=>.run 0 8
 | 12=>(.of [(0,[]),(1,[]),(2,[]),(3,[]),(4,[]),(5,[]),(7,[]),(8,[]),(9,[]),(10,[]),(11,[]),(12,[]),(13,[]),(14,[]),(6,[11]),(15,[]),(16,[]),(17,[])])
 | _=>.nil
theorem ack(B u:Value)(h:S289 w K B u):CR 289 [B,u] w K:=
 qu 135 avt 16 [.tmp 4] Tryz.func289 h
theorem af3:PL 253:=dG Tryz.func253
theorem af4:PL 254:=dG Tryz.func254
theorem anr:PL 255:=dG Tryz.func255
theorem af5:PL 256:=dG Tryz.func256
theorem yp:PL 257:=dG Tryz.func257
theorem Rx:PL 258:=dG Tryz.func258
theorem ans:PL 259:=dG Tryz.func259
theorem ant:PL 260:=dG Tryz.func260
theorem anu:PL 261:=dG Tryz.func261
theorem anv:PL 266:=dG Tryz.func266
theorem Wo:PL 267:=dG Tryz.func267
theorem Ry:PL 268:=dG Tryz.func268
theorem anw:PL 269:=dG Tryz.func269
theorem Rz:PL 270:=dG Tryz.func270
theorem anx:PL 271:=dG Tryz.func271
theorem af6:PL 272:=dG Tryz.func272
theorem Ky:PL 273:=dG Tryz.func273
theorem anz:PL 274:=dG Tryz.func274
theorem anA:PL 275:=dG Tryz.func275
theorem anB:PL 276:=dG Tryz.func276
theorem anC:PL 277:=dG Tryz.func277
theorem anD:PL 288:=dG Tryz.func288
theorem Wp:PL 289:=dG Tryz.func289
variable (w:World) (K:Value->g7)
def avu:dH:=λi=>match i with
 | 2=>.run 0 10
 | 4=>.run 0 13
 | _=>.nil
def avv:dH:=λi=>match i with
 | 2=>.run 0 13
 | 5=>.run 0 17
 | _=>.nil
def S294(B E W:Value):Prop:=
 aL 308 w λa b=>lN 198 B λc=>bA .geq 3 E c λd=>cV d (cF 320 [B,E,(i 6)] b λe f=>sA 308 a e f λg=>lA 308 a g λr=>K r g) (eR (λK1=>cF 209 [B,E,(Go.Value.string (hZ (#[33])))] b λh j=>
 cV h (K1 tt j) (cF 209 [B,E,(Go.Value.string (hZ (#[45])))] j λk l=>K1 k l)) (λO n=>∀_:Env,
 cF 209 [B,E,(Go.Value.string (hZ (#[40])))] n λo p=>eR (λK2=>cV O (bB .eql 3 W (i 12) λq=>K2 q p) (cV o (bB .eql 3 W (i 12) λs=>K2 s p) (K2 ff p)))
 (λt u=>∀_:Env,
 cV t (cF 320 [B,E,(i 7)] u λv x=>sA 308 a v x λy=>lA 308 a y λKs=>K Ks y) (cV O (bB .add 3 E (i 1) λz=>bB .add 3 W (i 1) λaa=>cF 294 [B,z,aa] u λab ac=>
 aL 308 ac λI ae=>sA 308 I ab ae λJ=>fA 308 I 2 λag=>lA 31 ag J λah=>bB .neq 31 ah (i 0) λai=>cV ai (lA 308 I J λaj=>sA 308 a aj J λak=>lA 308 a ak λTU=>
 K TU ak) (eR (λK3=>iA 198 B E λal=>fA 209 al 1 λam=>lA 9 am J λan=>eM g6 (ji .eql 9 false true an (Go.Value.string (hZ (#[45])))) λao=>
 cV ao (K3 (i 3) J) (K3 (i 4) J)) (λWn ap=>∀_:Env,
 iA 198 B E λaq=>fA 209 aq 3 λar=>lA 3 ar ap λasx=>eM g6 (l0 164 [(0,Wn),(3,asx)].toArray) λau=>bS 82 1 [(0,au)] ap λav aw=>fA 308 I 0 λax=>
 lA 82 ax aw λay=>aP 82 av ay aw λaz a0=>fA 308 I 0 λa1=>sA 82 a1 az a0 λa2=>lA 308 I a2 λa3=>sA 308 a a3 a2 λa4=>lA 308 a a4 λr_3=>K r_3 a4))) (cV o (
 bB .add 3 E (i 1) λa5=>bB .add 3 W (i 1) λa6=>cF 258 [B,a5,a6,(i 0)] u λa7 a8=>aL 308 a8 λG ba=>sA 308 G a7 ba λM=>fA 308 G 2 λbc=>lA 31 bc M λbd=>
 bB .neq 31 bd (i 0) λbe=>cV be (lA 308 G M λbf=>sA 308 a bf M λbg=>lA 308 a bg λr_4=>K r_4 bg) (fA 308 G 1 λbh=>lA 3 bh M λbi=>cF 209 [B,bi,(Go.Value.string (hZ (#[41])))] M λbj V=>
 eM g6 (Op.unary .not bj) λbl=>cV bl (fA 308 G 1 λbm=>lA 3 bm V λbn=>cF 320 [B,bn,(i 5)] V λbo bp=>sA 308 a bo bp λbq=>lA 308 a bq λZ=>K Z bq) (
 fA 308 G 1 λbr=>lA 3 br V λbs=>bB .add 3 bs (i 1) λbt=>fA 308 G 1 λbu=>sA 3 bu bt V λbv=>lA 308 G bv λbw=>sA 308 a bw bv λbx=>lA 308 a bx λr_6=>
 K r_6 bx))) (iA 198 B E λbz=>fA 209 bz 0 λb0=>lA 3 b0 u λb1=>bB .eql 3 b1 (i 2) λb2=>cV b2 (iA 198 B E λb3=>fA 209 b3 2 λb4=>lA 3 b4 (drew u) λb5=>
 iA 198 B E λb6=>fA 209 b6 3 λb7=>lA 3 b7 (drew u) λb8=>eM g6 (l0 164 [(0,(i 1)),(1,b5),(3,b8)].toArray) λb9=>bB .add 3 E (i 1) λca=>bS 82 1 [(0,b9)] (drew u) λcb cc=>
 eM g6 (l0 308 [(0,cb),(1,ca)].toArray) λcd=>sA 308 a cd cc λce=>lA 308 a ce λY=>K Y ce) (eR (λK4=>iA 198 B E λcf=>fA 209 cf 0 λcg=>
 lA 3 cg u λch=>bB .eql 3 ch (i 1) λci=>cV ci (iA 198 B E λcj=>fA 209 cj 1 λck=>lA 9 ck u λcl=>cF 211 [cl] u λcm cn=>K4 cm cn) (K4 ff u)) (λco U=>∀_:Env,
 cV co (iA 198 B E λcq=>fA 209 cq 1 λcr=>lA 9 cr (drew U) λcs=>iA 198 B E λct=>fA 209 ct 3 λcu=>lA 3 cu (drew U) λcv=>eM g6 (l0 164 [(0,(i 2)),(2,cs),(3,cv)].toArray) λcw=>
 bB .add 3 E (i 1) λcx=>bS 82 1 [(0,cw)] (drew U) λcy cz=>eM g6 (l0 308 [(0,cy),(1,cx)].toArray) λc0=>sA 308 a c0 cz λc1=>lA 308 a c1 λr_8=>
 K r_8 c1) (cF 320 [B,E,(i 5)] U λc2 c3=>sA 308 a c2 c3 λc4=>lA 308 a c4 λr_9=>K r_9 c4)))))))))
def avB:dH:=λi=>match i with
 | 27=>(.of [(0,[]),(1,[]),(2,[]),(3,[]),(4,[]),(5,[]),(6,[]),(7,[]),(8,[]),(9,[]),(10,[]),(12,[]),(13,[]),(11,[]),(14,[]),(15,[])])
 | 29=>(.of [(0,[]),(1,[]),(2,[]),(3,[]),(4,[]),(5,[]),(6,[]),(7,[]),(8,[]),(9,[]),(10,[]),(12,[]),(13,[]),(11,[]),(14,[]),(15,[])])
 | _=>.nil
theorem acm(E u B:Value)(h:S294 w K E u B):CR 294 [E,u,B] w K:=
 qu 152 avB 64 [.cell 6 308] Tryz.func294 h
def S304:Prop:=
 aL 348 w λa b=>aL 348 b λB c=>iA 348 B (i 5) λd=>sA 288 d (.func (.func 324) #[] #[]) c λe=>iA 348 B (i 6) λf=>sA 288 f (.func (.func 325) #[] #[]) e λg=>
 iA 348 B (i 7) λh=>sA 288 h (.func (.func 326) #[] #[]) g λj=>iA 348 B (i 8) λk=>sA 288 k (.func (.func 327) #[] #[]) j λl=>iA 348 B (i 9) λn=>sA 288 n (.func (.func 328) #[] #[]) l λo=>
 ko g6 (.func (.func 322) #[] #[]) [(.func (.func 329) #[] #[])] o λp q=>iA 348 B (i 10) λs=>sA 288 s p q λt=>ko g6 (.func (.func 322) #[] #[]) [(.func (.func 330) #[] #[])] t λu v=>
 iA 348 B (i 11) λx=>sA 288 x u v λy=>ko g6 (.func (.func 322) #[] #[]) [(.func (.func 331) #[] #[])] y λz aa=>iA 348 B (i 12) λab=>sA 288 ab z aa λZ=>
 ko g6 (.func (.func 322) #[] #[]) [(.func (.func 332) #[] #[])] Z λU M=>iA 348 B (i 13) λaf=>sA 288 af U M λO=>ko g6 (.func (.func 322) #[] #[]) [(.func (.func 333) #[] #[])] O λY I=>
 iA 348 B (i 14) λW=>sA 288 W Y I λak=>ko g6 (.func (.func 322) #[] #[]) [(.func (.func 334) #[] #[])] ak λal V=>iA 348 B (i 15) λJ=>sA 288 J al V λG=>
 lA 348 B G λap=>sA 348 a ap G λE=>lA 348 a E λr=>K r E
theorem acn(h:S304 w K):CR 304 [] w K:=
 qu 27 (λ_=>.nil) 1 [.cell 0 348] Tryz.func304 h
def S307(E a:Value):Prop:=
 lA 179 a w λb=>lN 179 b λc=>bB .sub 3 c (i 1) λd=>jQ (λB u e=>∀_:Env,
 bB .geq 3 u (i 0) λf=>cV f (lA 179 a e λg=>iA 179 g u λh=>lA 231 h e λj=>ko g6 E [u,j] e λk l=>eM g6 (Op.unary .not k) λn=>cV n (
 K (.tuple #[]) l) (bB .sub 3 u (i 1) λo=>B o l)) (K (.tuple #[]) e)) (λB=>B d w)
theorem aco(u B:Value)(h:S307 w K u B):CR 307 [u,B] w K:=
 qu 19 (λ_=>.nil) 0 [] Tryz.func307 h
def S315(u:Value):Prop:=
 eR (λB=>bB .lss 3 u (i 1) λa=>cV a (B tt w) (bB .gtr 3 u (i 14) λb=>B b w)) (λc d=>∀_:Env,
 cV c (K (Go.Value.string (hZ (#[]))) d) (bS 91 15 [(0,(Go.Value.string (hZ (#[])))),(1,(Go.Value.string (hZ (#[114,101])))),(2,(Go.Value.string (hZ (#[114,110])))),(3,(Go.Value.string (hZ (#[110,101])))),(4,(Go.Value.string (hZ (#[114,110,101,102])))),(5,(Go.Value.string (hZ (#[110])))),(6,(Go.Value.string (hZ (#[110])))),(7,(Go.Value.string (hZ (#[])))),(8,(Go.Value.string (hZ (#[])))),(9,(Go.Value.string (hZ (#[110])))),(10,(Go.Value.string (hZ (#[110])))),(11,(Go.Value.string (hZ (#[101,98])))),(12,(Go.Value.string (hZ (#[107,98])))),(13,(Go.Value.string (hZ (#[])))),(14,(Go.Value.string (hZ (#[101]))))] d λe f=>
 iA 91 e u λg=>lA 9 g f λh=>K h f))
theorem acp(u:Value)(h:S315 w K u):CR 315 [u] w K:=
 qu 13 (λ_=>.nil) 4 [.tmp 2] Tryz.func315 h
def avC:dH:=λi=>match i with
 | 1=>.run 0 45
 | 3=>.run 0 13
 | _=>.nil
def avD:dH:=λi=>match i with
 | 3=>.run 0 18
 | _=>.nil
def avE:dH:=λi=>match i with
 | 1=>.run 0 31
 | 2=>.run 0 12
 | _=>.nil
def S320(E B I:Value):Prop:=
 aL 308 w λa b=>eR (λG=>lN 198 E λc=>bA .geq 3 B c λd=>cV d (G (i 6) b) (G I b)) (λu e=>∀_:Env,
 cF 214 [E,B] e λf g=>eM g6 (l0 308 [(2,u),(3,f)].toArray) λh=>sA 308 a h g λj=>lA 308 a j λr=>K r j)
theorem acq(B u E:Value)(h:S320 w K B u E):CR 320 [B,u,E] w K:=
 qu 16 (λ_=>.nil) 64 [.cell 6 308] Tryz.func320 h
theorem anE:PL 290:=dG Tryz.func290
theorem GH:PL 291:=dG Tryz.func291
theorem anF:PL 292:=dG Tryz.func292
theorem af7:PL 293:=dG Tryz.func293
theorem af8:PL 294:=dG Tryz.func294
theorem Wq:PL 295:=dG Tryz.func295
theorem anG:PL 296:=dG Tryz.func296
theorem anH:PL 297:=dG Tryz.func297
theorem anI:PL 298:=dG Tryz.func298
theorem anJ:PL 299:=dG Tryz.func299
theorem anK:PL 300:=dG Tryz.func300
theorem anL:PL 301:=dG Tryz.func301
theorem Wr:PL 302:=dG Tryz.func302
theorem Kz:PL 303:=dG Tryz.func303
theorem anM:PL 304:=dG Tryz.func304
theorem zY:PL 305:=dG Tryz.func305
theorem af9:PL 306:=dG Tryz.func306
theorem anN:PL 307:=dG Tryz.func307
theorem anO:PL 315:=dG Tryz.func315
theorem KA:PL 316:=dG Tryz.func316
theorem DZ:PL 317:=dG Tryz.func317
theorem KB:PL 318:=dG Tryz.func318
theorem anP:PL 319:=dG Tryz.func319
theorem RB:PL 320:=dG Tryz.func320
theorem anQ:PL 321:=dG Tryz.func321
theorem GI:PL 322:=dG Tryz.func322
theorem GJ:PL 323:=dG Tryz.func323
theorem anR:PL 324:=dG Tryz.func324
theorem anS:PL 325:=dG Tryz.func325
theorem anT:PL 326:=dG Tryz.func326
theorem anU:PL 327:=dG Tryz.func327
theorem anV:PL 328:=dG Tryz.func328
theorem anW:PL 329:=dG Tryz.func329
theorem anX:PL 330:=dG Tryz.func330
theorem anY:PL 331:=dG Tryz.func331
theorem anZ:PL 332:=dG Tryz.func332
theorem an0:PL 333:=dG Tryz.func333
theorem an1:PL 334:=dG Tryz.func334
end Go.Proofs.YtpdlpabnlkofmaaGreatDoor
namespace Go.Fw
def qx(w:World)(b:Nat)(cs:List Value):Prop:=∃u,w.heap[b]?=some (.cells cs.toArray u (0,0))
def Cell(w:World)(b o:Nat)(v:Value):Prop:=w.cell? ⟨b,o,none⟩=some v
structure gC(A:Nat->Prop)(w w':World):Prop where
 os:w'.os=w.os
 tape:w'.tape=w.tape
 output:w'.output=w.output
 size:w.heap.size<=w'.heap.size
 bZ:∀b,b<w.heap.size->¬ A b->w'.heap[b]?=w.heap[b]?
def aY:Nat->Prop:=λ_=>False
abbrev Ext(w w':World):Prop:=gC aY w w'
def gC.refl(A:Nat->Prop)(w:World):gC A w w:=⟨rfl,rfl,rfl,o5 _,λ_ _ _=>rfl⟩
def gC.trans{A B C:Nat->Prop}{w E G:World}(h:gC A w E)(k:gC B E G)(J:∀b,A b->C b)(M:∀b,b<w.heap.size->B b->C b):gC C w G:=
 ⟨k.os.trans h.os,k.tape.trans h.tape,k.output.trans h.output,tx h.size k.size,λb hb I=>
  (k.bZ b (Nat.lt_of_lt_of_le hb h.size) λu=>I (M b hb u)).trans (h.bZ b hb λu=>I (J b u))⟩
def gC.then{A:Nat->Prop}{w u B:World}(h:gC A w u)(k:Ext u B):gC A w B:=h.trans k (λ_ h=>h) λ_ _ h=>h.elim
def gC.mono{A B:Nat->Prop}{w w':World}(h:gC A w w')(u:∀b,A b->B b):gC B w w':=⟨h.os,h.tape,h.output,h.size,λb hb E=>h.bZ b hb λx=>E (u b x)⟩
def Ext.refl(w:World):Ext w w:=gC.refl _ _
def Ext.trans{w u B:World}(h:Ext w u)(k:Ext u B):Ext w B:=gC.then h k
def Ext.aF{A:Nat->Prop}{w w':World}(h:Ext w w'):gC A w w':=h.mono λ_ h=>h.elim
theorem Ext.drew(w:World):Ext w (drew w):=⟨rfl,rfl,rfl,o5 _,λ_ _ _=>rfl⟩
def uT{w:World}{b:Nat}{o:Obj}(h:w.heap[b]?=some o):b<w.heap.size:=(Cq.1 h).1
def qx.lt{w:World}{b:Nat}{cs:List Value}(h:qx w b cs):b<w.heap.size:=uT h.choose_spec
def Cell.lt{w:World}{b o:Nat}{v:Value}(h:Cell w b o v):b<w.heap.size:=by
 unfold Cell S4 at h
 grind
def Cell.of_eq{w w':World}{b o:Nat}{v:Value}(h:Cell w b o v)(u:w'.heap[b]?=w.heap[b]?):Cell w' b o v:=by
 unfold Cell S4 at *
 grind
def qx.of_eq{w w':World}{b:Nat}{cs:List Value}(h:qx w b cs)(u:w'.heap[b]?=w.heap[b]?):qx w' b cs:=by
 grind[qx]
def Cell.aF{A:Nat->Prop}{w w':World}{b o:Nat}{v:Value}(h:Cell w b o v)(hc:gC A w w')(u:¬ A b):Cell w' b o v:=h.of_eq (hc.bZ b h.lt u)
theorem Cell.ext{w w':World}{b o:Nat}{v:Value}(h:Cell w b o v)(hc:Ext w w'):Cell w' b o v:=h.aF hc (λx=>x)
def qx.cell{w:World}{b o:Nat}{cs:List Value}{v:Value}(h:qx w b cs)(u:cs[o]?=some v):Cell w b o v:=by
 obtain⟨B,h⟩:=h
 unfold Cell S4
 grind
def qx.frozen{w:World}{b o:Nat}{cs:List Value}(h:qx w b cs):w.frozen? ⟨b,o,none⟩=false:=by
 obtain⟨u,h⟩:=h
 unfold World.frozen?
 grind
def It(w:World)(b o:Nat)(v:Value)(k:Nat)(h:k≠b):(w.setCell ⟨b,o,none⟩ v).heap[k]?=w.heap[k]?:=by
 simp only[abC,Pu]
 grind
def qx.setCell{w:World}{b o:Nat}{cs:List Value}(h:qx w b cs)(v:Value):qx (w.setCell ⟨b,o,none⟩ v) b (cs.set o v):=by
 obtain⟨u,h⟩:=h
 refine⟨u,?_⟩
 simp only[abC,Pu,if_true,h]
 simp
def gC.setCell(w:World)(b o:Nat)(v:Value):gC (· = b) w (w.setCell ⟨b,o,none⟩ v):=
 ⟨rfl,rfl,rfl,by simp_all,λk _ u=>It w b o v k u⟩
def push(w:World)(o:Obj):World:={w with heap:=w.heap.push o}
def Bw(w:World)(o:Obj)(k:Nat)(h:k<w.heap.size):(push w o).heap[k]?=w.heap[k]?:=by
 grind[push]
def nc(w:World)(o:Obj):(push w o).heap[w.heap.size]?=some o:=by
 grind[push]
theorem Bx(w:World)(o:Obj):(push w o).heap.size=w.heap.size+1:=by simp[push]
theorem Ext.push(w:World)(o:Obj):Ext w (push w o):=⟨rfl,rfl,rfl,by rw[Bx];omega,λb hb _=>Bw w o b hb⟩
theorem qx.push(w:World)(cs:List Value)(u:TypeId):qx (push w (.cells cs.toArray u)) w.heap.size cs:=⟨u,nc _ _⟩
structure HP where
 p:World->(Nat->Prop)->Prop
 loc:∀w w' F,p w F->(∀b,F b->w'.heap[b]?=w.heap[b]?)->p w' F
 lt:∀w F b,p w F->F b->b<w.heap.size
def bZ(b:Nat)(cs:List Value):HP where
 p w F:=qx w b cs/\∀k,F k↔k=b
 loc w w' F h hh:=⟨h.1.of_eq (hh b ((h.2 b).2 rfl)),h.2⟩
 lt w F b' h hb:=by rw[(h.2 b').1 hb];exact h.1.lt
def rC(w0:World)(A:Nat->Prop):List HP->World->(Nat->Prop)->Prop
 | [],_,U=>∀b,¬ U b
 | H::L,w,U=>∃F u,H.p w F/\(∀b,F b->A b\/w0.heap.size<=b)/\(∀b,F b->¬ u b)/\(∀b,U b↔F b\/u b)/\rC w0 A L w u
structure St(w0:World)(A:Nat->Prop)(L:List HP)(w:World):Prop where
 aF:gC A w0 w
 tF:∃U,rC w0 A L w U
theorem rC.lt{w0:World}{A:Nat->Prop}{L:List HP}{w:World}{U:Nat->Prop}(h:rC w0 A L w U):∀b,U b->b<w.heap.size:=by
 induction L generalizing U with
 | nil=>intro b hb;exact(h b hb).elim
 | cons H L u=>
  obtain⟨F,B,h1,h2,h3,h4,h5⟩:=h
  intro b hb
  rcases(h4 b).1 hb with hf|hu
  .exact H.lt _ _ _ h1 hf
  .exact u h5 b hu
theorem rC.loc{w0:World}{A:Nat->Prop}{L:List HP}{w w':World}{U:Nat->Prop}(h:rC w0 A L w U)(u:∀b,U b->w'.heap[b]?=w.heap[b]?):rC w0 A L w' U:=by
 induction L generalizing U with
 | nil=>exact h
 | cons H L B=>
  obtain⟨F,E,h1,h2,h3,h4,h5⟩:=h
  exact⟨F,E,H.loc _ _ _ h1 λb hb=>u b ((h4 b).2 (.inl hb)),h2,h3,h4,B h5 λb hb=>u b ((h4 b).2 (.inr hb))⟩
def St.start(w:World):St w aY [] w:=⟨gC.refl _ _,aY,λ_ h=>h⟩
def St.begin{w:World}{F:Nat->Prop}{H:HP}(h:H.p w F):St w F [H] w:=
 ⟨gC.refl _ _,F,F,aY,h,λ_ h=>.inl h,λ_ _ h=>h,λ_=>⟨.inl,λh=>h.elim id λh=>h.elim⟩,λ_ h=>h⟩
theorem St.ext{w0:World}{A:Nat->Prop}{L:List HP}{w w':World}(h:St w0 A L w)(e:Ext w w'):St w0 A L w':=by
 obtain⟨U,u⟩:=h.tF
 exact⟨h.aF.then e,U,u.loc λb hb=>e.bZ b (u.lt b hb) λx=>x⟩
theorem St.drew{w0:World}{A:Nat->Prop}{L:List HP}{w:World}(h:St w0 A L w):St w0 A L (drew w):=h.ext (Ext.drew w)
def St.new{w0:World}{A:Nat->Prop}{L:List HP}{w w':World}{H:HP}{F:Nat->Prop}(h:St w0 A L w)(e:Ext w w')(J:H.p w' F)(I:∀b,F b->w.heap.size<=b):St w0 A (H::L) w':=by
 obtain⟨U,M⟩:=(h.ext e).tF
 obtain⟨E,u⟩:=h.tF
 have B:rC w0 A L w' E:=u.loc λb hb=>e.bZ b (u.lt b hb) (λx=>x)
 refine⟨(h.ext e).aF,λb=>F b\/E b,F,E,J,λb hb=>.inr ?_,λb hb G=>?_,λb=>Iff.rfl,B⟩
 .exact tx h.aF.size (I b hb)
 have:=u.lt b G;grind
def St.qW{w0:World}{A:Nat->Prop}{L:List HP}{w w':World}{H H':HP}(h:St w0 A (H::L) w)
  (O:∀F,H.p w F->∃B,H'.p w' B/\(∀b,B b->F b\/w.heap.size<=b)/\gC F w w'):St w0 A (H'::L) w':=by
 obtain⟨U,F,E,h1,h2,h3,h4,h5⟩:=h.tF
 obtain⟨B,M,G,I⟩:=O F h1
 refine⟨h.aF.trans I (λ_ h=>h) λb hb u=>?_,λb=>B b\/E b,B,E,M,λb hb=>?_,λb hb J=>?_,λb=>Iff.rfl,?_⟩
 .grind
 .rcases G b hb with u|u
  .grind
  exact .inr (tx h.aF.size u)
 .rcases G b hb with u|u
  .grind
  have:=h5.lt b J;omega
 exact h5.loc λb hb=>I.bZ b (h5.lt b hb) λu=>h3 b u hb
def St.drop{w0:World}{A:Nat->Prop}{L:List HP}{w:World}{H:HP}(h:St w0 A (H::L) w):St w0 A L w:=by
 obtain⟨U,F,u,h1,h2,h3,h4,h5⟩:=h.tF
 exact⟨h.aF,u,h5⟩
def St.swap{w0:World}{A:Nat->Prop}{L:List HP}{w:World}{H H':HP}(h:St w0 A (H::H'::L) w):St w0 A (H'::H::L) w:=by
 obtain⟨U,F,M,h1,h2,h3,h4,B,u,E,G,V,O,I⟩:=h.tF
 refine⟨h.aF,U,B,λb=>F b\/u b,E,G,λb hb=>?_,λb=>?_,F,u,h1,h2,λb hb J=>?_,λb=>Iff.rfl,I⟩
 .grind
 .grind
 grind
def rC.swap{w0:World}{A:Nat->Prop}{L:List HP}{w:World}{H H':HP}{U:Nat->Prop}(h:rC w0 A (H::H'::L) w U):rC w0 A (H'::H::L) w U:=by
 obtain⟨F,M,h1,h2,h3,h4,B,u,E,G,V,O,I⟩:=h
 refine⟨B,λb=>F b\/u b,E,G,λb hb=>?_,λb=>?_,F,u,h1,h2,λb hb J=>?_,λb=>Iff.rfl,I⟩
 .grind
 .grind
 grind
def rC.under{w0:World}{A:Nat->Prop}{L L':List HP}{w:World}{H:HP}{U:Nat->Prop}(u:∀U,rC w0 A L w U->rC w0 A L' w U)(h:rC w0 A (H::L) w U):rC w0 A (H::L') w U:=by
 grind[rC]
theorem rC.pull{w0:World}{A:Nat->Prop}{u B:List HP}{w:World}{H:HP}{U:Nat->Prop}(h:rC w0 A (u++H::B) w U):rC w0 A (H::(u++B)) w U:=by
 induction u generalizing U with
 | nil=>exact h
 | cons X u E=>exact rC.swap (rC.under (λU h=>E h) h)
def St.pull{w0:World}{A:Nat->Prop}{w:World}(B:List HP){H:HP}{u:List HP}(h:St w0 A (B++H::u) w):St w0 A (H::(B++u)) w:=by
 obtain⟨U,E⟩:=h.tF
 exact⟨h.aF,U,E.pull⟩
def St.p1{w0:World}{A:Nat->Prop}{w:World}{u H:HP}{R:List HP}(h:St w0 A (u::H::R) w):St w0 A (H::u::R) w:=St.pull [u] h
def St.p2{w0:World}{A:Nat->Prop}{w:World}{B u H:HP}{R:List HP}(h:St w0 A (B::u::H::R) w):St w0 A (H::B::u::R) w:=St.pull [B,u] h
def St.p3{w0:World}{A:Nat->Prop}{w:World}{E B u H:HP}{R:List HP}(h:St w0 A (E::B::u::H::R) w):St w0 A (H::E::B::u::R) w:=St.pull [E,B,u] h
def St.p4{w0:World}{A:Nat->Prop}{w:World}{G B u E H:HP}{R:List HP}(h:St w0 A (G::B::u::E::H::R) w):St w0 A (H::G::B::u::E::R) w:=St.pull [G,B,u,E] h
def St.p5{w0:World}{A:Nat->Prop}{w:World}{G B u E P4 H:HP}{R:List HP}(h:St w0 A (G::B::u::E::P4::H::R) w):St w0 A (H::G::B::u::E::P4::R) w:=St.pull [G,B,u,E,P4] h
def St.p6{w0:World}{A:Nat->Prop}{w:World}{I E u G P4 B H:HP}{R:List HP}(h:St w0 A (I::E::u::G::P4::B::H::R) w):St w0 A (H::I::E::u::G::P4::B::R) w:=St.pull [I,E,u,G,P4,B] h
def St.p7{w0:World}{A:Nat->Prop}{w:World}{I E u G P4 B P6 H:HP}{R:List HP}(h:St w0 A (I::E::u::G::P4::B::P6::H::R) w):St w0 A (H::I::E::u::G::P4::B::P6::R) w:=St.pull [I,E,u,G,P4,B,P6] h
def St.p8{w0:World}{A:Nat->Prop}{w:World}{I E u G P4 B P6 P7 H:HP}{R:List HP}(h:St w0 A (I::E::u::G::P4::B::P6::P7::H::R) w):St w0 A (H::I::E::u::G::P4::B::P6::P7::R) w:=St.pull [I,E,u,G,P4,B,P6,P7] h
def St.p9{w0:World}{A:Nat->Prop}{w:World}{J E u I P4 B P6 P7 G H:HP}{R:List HP}(h:St w0 A (J::E::u::I::P4::B::P6::P7::G::H::R) w):St w0 A (H::J::E::u::I::P4::B::P6::P7::G::R) w:=St.pull [J,E,u,I,P4,B,P6,P7,G] h
def St.p10{w0:World}{A:Nat->Prop}{w:World}{J E u I P4 B P6 P7 G P9 H:HP}{R:List HP}(h:St w0 A (J::E::u::I::P4::B::P6::P7::G::P9::H::R) w):St w0 A (H::J::E::u::I::P4::B::P6::P7::G::P9::R) w:=St.pull [J,E,u,I,P4,B,P6,P7,G,P9] h
def St.p11{w0:World}{A:Nat->Prop}{w:World}{J E u I P4 B P6 P7 G P9 P10 H:HP}{R:List HP}(h:St w0 A (J::E::u::I::P4::B::P6::P7::G::P9::P10::H::R) w):St w0 A (H::J::E::u::I::P4::B::P6::P7::G::P9::P10::R) w:=St.pull [J,E,u,I,P4,B,P6,P7,G,P9,P10] h
def St.p12{w0:World}{A:Nat->Prop}{w:World}{J E u I P4 B P6 P7 G P9 P10 P11 H:HP}{R:List HP}(h:St w0 A (J::E::u::I::P4::B::P6::P7::G::P9::P10::P11::H::R) w):St w0 A (H::J::E::u::I::P4::B::P6::P7::G::P9::P10::P11::R) w:=St.pull [J,E,u,I,P4,B,P6,P7,G,P9,P10,P11] h
def St.p0{w0:World}{A:Nat->Prop}{w:World}{L:List HP}(h:St w0 A L w):St w0 A L w:=h
def St.head{w0:World}{A:Nat->Prop}{L:List HP}{w:World}{H:HP}(h:St w0 A (H::L) w):∃F,H.p w F/\∀b,F b->A b\/w0.heap.size<=b:=by
 obtain⟨U,F,u,h1,h2,_⟩:=h.tF;grind
theorem St.hb{w0:World}{A:Nat->Prop}{L:List HP}{w:World}{b:Nat}{cs:List Value}(h:St w0 A (bZ b cs::L) w):qx w b cs:=by
 obtain⟨F,h1,_⟩:=h.head;exact h1.1
def vK:Value->Bool
 | .agg _=>false
 | .tuple _=>false
 | _=>true
def dy(P:Program)(T:TypeId):Option (Bool×Nat):=
 match P.underlying T with
 | some d=>(P.info? T).map λi=>(match d with|.struct _|.array _ _=>true|_=>false,i.size)
 | none=>none
def aR(P:Program)(T f:Nat):Option (Nat×Option Bool):=
 match P.underlying T with
 | some (.struct B)=>(B[f]?).map λu=>(u.offset,(P.info? u.type).map λi=>i.size != 0)
 | _=>none
def eI(P:Program)(T:TypeId):Option (TypeId×Nat×Nat×Option Nat):=
 match P.underlying T with
 | some (.slice E)=>(P.info? E).map λi=>(E,i.size,i.bytes,i.zero.map λz=>z.cells.size)
 | _=>none
def eh(P:Program)(T:TypeId):Option (Option Value):=(P.info? T).map λi=>i.zero
abbrev Ws(P:Program)(T:TypeId):Prop:=dy P T=some (false,1)
abbrev acs(P:Program)(T:TypeId)(n:Nat):Prop:=dy P T=some (true,n)
abbrev vY(P:Program)(T f u:Nat):Prop:=aR P T f=some (u,some true)
abbrev Wt(P:Program)(T E n bytes:Nat):Prop:=eI P T=some (E,n,bytes,some n)
abbrev nU(P:Program)(T:TypeId)(z:Value):Prop:=eh P T=some (some z)
theorem lV{P:Program}{T:TypeId}{i:TypeInfo}(h:P.info? T=some i):pr P (typeInfo T)=some i:=by
 show pr P (match P.info? T with|some i => pure i|none => stuck "no such type")=_
 rw[h];rfl
theorem cS{P:Program}{T:TypeId}{d:TypeDesc}(h:P.underlying T=some d):pr P (underlying T)=some d:=by
 show pr P (match P.underlying T with|some d => pure d|none => stuck "no such type")=_
 rw[h];rfl
theorem mE{P:Program}{T:TypeId}{i:TypeInfo}(h:P.info? T=some i):pr P (sizeOf T)=some i.size:=by
 unfold sizeOf;rw[cT,lV h];rfl
theorem sS{P:Program}{α β:Type}(m:Sem α)(f:α->β):pr P (do pure (f (<- m)))=(pr P m).map f:=by
 rw[cT];cases pr P m<;>rfl
theorem kX{P:Program}{T:TypeId}{a:Bool}{n:Nat}(h:dy P T=some (a,n)):pr P (isAgg T)=some a/\pr P (sizeOf T)=some n:=by
 unfold dy at h
 cases hd:P.underlying T with
 | none=>grind
 | some d=>
  rw[hd]at h
  cases hi:P.info? T with
  | none=>grind
  | some i=>
   rw[hi]at h
   simp only[DY,n3.injEq,abA.injEq]at h
   obtain⟨h1,h2⟩:=h
   refine⟨?_,by rw[mE hi,h2]⟩
   unfold isAgg
   rw[cT,cS hd]
   show pr P (match d with|.struct _|.array _ _=>pure true|_=>pure false)=_
   rw[<- h1]
   cases d<;>rfl
theorem fq{P:Program}{T E n u:Nat}{z:Option Nat}(h:eI P T=some (E,n,u,z)) :
  P.underlying T=some (.slice E)/\∃i,P.info? E=some i/\i.size=n/\i.bytes=u/\i.zero.map (λz=>z.cells.size)=z:=by
 unfold eI at h
 split at h
 .rename_i E' hE
  cases hi:P.info? E' with
  | none=>grind
  | some i=>
   grind
 cases h
section
variable {P:Program}{w:World}
theorem pop{m:Sem Value}{v:Value}{K:Value->Prop}(h:pr P m=some v)(k:K v):eM P m K:=⟨v,h,k⟩
theorem aD{a:Addr}{K:Value->Prop}(k:K (.pointer (some a))):eM P (TH (.pointer (some a))) K:=⟨_,rfl,k⟩
theorem bP{b:Bool}{K:Value->Prop}(k:K (.bool (!b))):eM P (Op.unary .not (.bool b)) K:=⟨_,rfl,k⟩
theorem KC{p:Prop}[Decidable p]{K:Value->Prop}(k:K (.bool (decide (¬ p)))):eM P (Op.unary .not (.bool (decide p))) K:=by
 refine bP ?_
 grind
theorem aN{vs:List Value}{i:Nat}{v:Value}{K:Value->Prop}(h:vs[i]?=some v)(k:K v):eM P (S5 (.tuple vs.toArray) i) K:=
 ⟨v,by simp only[S5,Pp,h];rfl,k⟩
theorem aO{T:Nat}{cx cy:Bool}{a b:Int}{K:Value->Prop}(k:K (.bool (decide (a<b)))):eM P (ji .lss T cx cy (hH a) (hH b)) K:=⟨_,rfl,k⟩
theorem ga{T:Nat}{cx cy:Bool}{a b:Int}{K:Value->Prop}(k:K (.bool (decide (a<=b)))):eM P (ji .leq T cx cy (hH a) (hH b)) K:=⟨_,rfl,k⟩
theorem cP{T:Nat}{cx cy:Bool}{a b:Int}{K:Value->Prop}(k:K (.bool (decide (b<a)))):eM P (ji .gtr T cx cy (hH a) (hH b)) K:=⟨_,rfl,k⟩
theorem cR{T:Nat}{cx cy:Bool}{a b:Int}{K:Value->Prop}(k:K (.bool (decide (b<=a)))):eM P (ji .geq T cx cy (hH a) (hH b)) K:=⟨_,rfl,k⟩
theorem aG{T:Nat}{cx cy:Bool}{a b:Int}{K:Value->Prop}(k:K (.bool (decide (a=b)))):eM P (ji .eql T cx cy (hH a) (hH b)) K:=⟨_,rfl,k⟩
theorem bT{T:Nat}{cx cy:Bool}{a b:Int}{K:Value->Prop}(k:K (.bool (decide (a≠b)))):eM P (ji .neq T cx cy (hH a) (hH b)) K:=
 ⟨_,(show pr P (ji .neq T cx cy (hH a) (hH b))=some (.bool (decide (a≠b)))from by
  show some (vX (a != b))=_
  grind),k⟩
theorem aJ{T:Nat}{cx cy:Bool}{a b:Int}{K:Value->Prop}(h : -9223372036854775808<=a+b/\a+b<=9223372036854775807)(k:K (hH (a+b))) :
  eM P (ji .add T cx cy (hH a) (hH b)) K:=
 ⟨_,(show pr P (ji .add T cx cy (hH a) (hH b))=some (hH (a+b))from by
  show some (mn .i64 (IntKind.i64.wrap (a+b)))=_
  rw[IntWalk.i64_in _ h]),k⟩
theorem fk{T:Nat}{cx cy:Bool}{a b:Int}{K:Value->Prop}(h : -9223372036854775808<=a-b/\a-b<=9223372036854775807)(k:K (hH (a-b))) :
  eM P (ji .sub T cx cy (hH a) (hH b)) K:=
 ⟨_,(show pr P (ji .sub T cx cy (hH a) (hH b))=some (hH (a-b))from by
  show some (mn .i64 (IntKind.i64.wrap (a-b)))=_
  rw[IntWalk.i64_in _ h]),k⟩
theorem Da{T:Nat}{cx cy:Bool}{a b:Int}{K:Value->Prop}(h : -9223372036854775808<=a*b/\a*b<=9223372036854775807)(k:K (hH (a*b))) :
  eM P (ji .mul T cx cy (hH a) (hH b)) K:=
 ⟨_,(show pr P (ji .mul T cx cy (hH a) (hH b))=some (hH (a*b))from by
  show some (mn .i64 (IntKind.i64.wrap (a*b)))=_
  rw[IntWalk.i64_in _ h]),k⟩
theorem aC{p:Prop}[Decidable p]{A B:Prop}(h1:p->A)(h2:¬ p->B):ym (.bool (decide p)) A B:=
 ⟨_,rfl,λh=>h1 (fK h),λh=>h2 (gL h)⟩
theorem gN{A B:Prop}(h:A):ym (.bool true) A B:=⟨_,rfl,λ_=>h,λh=>by cases h⟩
theorem fa{A B:Prop}(h:B):ym (.bool false) A B:=⟨_,rfl,λh=>(by cases h),λ_=>h⟩
theorem aX{b:Bool}{A B:Prop}(h1:b=true->A)(h2:b=false->B):ym (.bool b) A B:=⟨_,rfl,h1,h2⟩
theorem gx{α:Type}(l:List α){i:Nat}(h:i<l.length):∃x,l[i]?=some x:=⟨_,List.getElem?_eq_getElem h⟩
theorem dM{a b:Nat}(h:S3 a b=true):a<=b:=Bz h
theorem dO{f:FuncId}{args:List Value}{Φ K:Value->g7}(pl:Plain P f)(h:Calls P f args.toArray w (sK Φ))(k:∀v w',Φ v w'->K v w') :
  Cm P f args w K:=⟨.inl ⟨pl,h.mono λ_ _ r=>r.mono k⟩⟩
theorem gS{g:FuncId}{args first cap:List Value}{Φ K:Value->g7}(pl:Plain P g)(h:Calls P g (first++args++cap).toArray w (sK Φ))(k:∀v w',Φ v w'->K v w') :
  ko P (.func (.func g) first.toArray cap.toArray) args w K:=⟨.inl ⟨g,_,_,rfl,pl,by simpa using h.mono λ_ _ r=>r.mono k⟩⟩
theorem an3{f:FuncId}{args:List Value}{Φ Ψ:Value->g7}(h:Calls P f args.toArray w (sK Φ))(k:∀v w',Φ v w'->Ψ v w'):Calls P f args.toArray w (sK Ψ):=
 h.mono λ_ _ r=>r.mono k
variable {w0:World}{A:Nat->Prop}{L:List HP}
theorem run_load(a:Addr)(v:Value)(h:w.cell? a=some v):(load a).run P w=.ok v w:=by
 simp_all
theorem gD(b o j:Nat):(Addr.mk b o none).add j=⟨b,o+j,none⟩:=by
 unfold Addr.add;grind
theorem run_loadCellsFrom(b o:Nat):∀(n i:Nat) (u:Array Value) (cs:List Value),cs.length=n->(∀j c,cs[j]?=some c->Cell w b (o+i+j) c)->
  (loadCellsFrom ⟨b,o,none⟩ i n u).run P w=.ok (u++cs.toArray) w:=by
 intro n
 induction n with
 | zero=>intro i u cs B _;obtain rfl:=List.length_eq_zero_iff.1 B;simp[loadCellsFrom]
 | succ n E=>
  intro i u cs B h
  match cs,B with
  | c::cs,B=>
   unfold loadCellsFrom
   rw[eF (run_load _ c (by rw[gD];exact h 0 c rfl))]
   rw[E (i+1) (u.push c) cs cH λj d hd=>by have:=h (j+1) d cH;grind]
   simp
theorem run_loadCells{b o:Nat}{cs:List Value}(h:∀j c,cs[j]?=some c->Cell w b (o+j) c):(loadCells ⟨b,o,none⟩ cs.length).run P w=.ok cs.toArray w:=by
 unfold loadCells
 rw[run_loadCellsFrom b o cs.length 0 #[] cs rfl λj c hc=>cH]
 simp
theorem aI{T:TypeId}{b o:Nat}{v:Value}(ht:Ws P T)(h:Cell w b o v):(wO T (.pointer (some ⟨b,o,none⟩))).run P w=.ok v w:=by
 show(loadVar T ⟨b,o,none⟩).run P w=_
 unfold loadVar
 rw[eF (fU (kX ht).1 w)]
 exact run_load _ v h
theorem Cr{T:TypeId}{b o:Nat}{cs:List Value}(ht:acs P T cs.length)(h:∀j c,cs[j]?=some c->Cell w b (o+j) c) :
  (wO T (.pointer (some ⟨b,o,none⟩))).run P w=.ok (.agg cs.toArray) w:=by
 show(loadVar T ⟨b,o,none⟩).run P w=_
 unfold loadVar
 rw[eF (fU (kX ht).1 w)]
 simp only[if_true]
 rw[eF (fU (kX ht).2 w),eF (run_loadCells h)]
 rfl
theorem aB{T:TypeId}{b o:Nat}{cs:List Value}{v:Value}{K:Value->Prop}(ht:Ws P T)(hb:qx w b cs)(hc:cs[o]?=some v)(k:K v) :
  J2 P (wO T (.pointer (some ⟨b,o,none⟩))) w K:=⟨v,aI ht (hb.cell hc),k⟩
theorem KD{T:TypeId}{b n:Nat}{cs:List Value}{K:Value->Prop}(ht:acs P T n)(hb:qx w b cs)(u:cs.length=n)(k:K (.agg cs.toArray)) :
  J2 P (wO T (.pointer (some ⟨b,0,none⟩))) w K:=by
 subst u
 exact⟨_,Cr ht λj c hc=>by rw[ta];exact hb.cell hc,k⟩
theorem OA{T f u b o:Nat}(ht:vY P T f u):pr P (E3 T (.pointer (some ⟨b,o,none⟩)) f)=some (.pointer (some ⟨b,o+u,none⟩)):=by
 unfold vY aR at ht
 split at ht
 .rename_i fs hfs
  cases hf:fs[f]? with
  | none=>grind
  | some fd=>
   rw[hf]at ht
   simp only[DY,n3.injEq,abA.injEq]at ht
   obtain⟨G,E⟩:=ht
   cases hi:P.info? fd.type with
   | none=>grind
   | some i=>
    rw[hi]at E
    have B:i.size≠0:=cH
    unfold E3
    rw[cT,cS hfs]
    simp only[l2,hf]
    show pr P (do pure (abD (some (<- fieldPlace ⟨b,o,none⟩ fd))))=_
    rw[sS]
    unfold fieldPlace
    rw[cT,mE hi]
    simp only[l2,eb B,gD,G]
    rfl
 cases ht
theorem aA{T f u b o:Nat}{K:Value->Prop}(ht:vY P T f u)(k:K (.pointer (some ⟨b,o+u,none⟩))) :
  eM P (E3 T (.pointer (some ⟨b,o,none⟩)) f) K:=⟨_,OA ht,k⟩
theorem pfb{T f u b o T2:Nat}{cs:List Value}{v:Value}{K:Value->Prop}(ht:vY P T f u)(h2:Ws P T2)(hb:qx w b cs)(hc:cs[o+u]?=some v)(k:K v) :
  eM P (E3 T (.pointer (some ⟨b,o,none⟩)) f) λp=>J2 P (wO T2 p) w K:=aA ht (aB h2 hb hc k)
theorem Iu(T:TypeId)(v:Value):(yg T v).run P w=.ok (.pointer (some ⟨w.heap.size,0,none⟩)) (push w (.cells v.cells T)):=rfl
theorem St.push{T:TypeId}{cs:List Value}(u:St w0 A L w):St w0 A (bZ w.heap.size cs::L) (push w (.cells cs.toArray T)):=
 u.new (Ext.push _ _) (F:=λk=>k=w.heap.size) ⟨qx.push w cs T,λ_=>Iff.rfl⟩ λb hb=>by rw[hb];exact o5 _
theorem nd{T:TypeId}{v:Value}{K:Value->g7}(u:St w0 A L w)(B:vK v=true)
  (k:∀b w',St w0 A (bZ b [v]::L) w'->K (.pointer (some ⟨b,0,none⟩)) w'):rA P (yg T v) w K:=by
 refine⟨_,_,Iu T v,k _ _ ?_⟩
 have:v.cells=[v].toArray:=by cases v<;>first|rfl|cases B
 rw[this]
 exact u.push
theorem nf{T:TypeId}{cs:List Value}{K:Value->g7}(u:St w0 A L w)
  (k:∀b w',St w0 A (bZ b cs::L) w'->K (.pointer (some ⟨b,0,none⟩)) w'):rA P (yg T (.agg cs.toArray)) w K:=
 ⟨_,_,Iu T _,k _ _ u.push⟩
theorem gW{T:TypeId}{z:Value}{K:Value->g7}(B:St w0 A L w)(u:nU P T z)(E:vK z=true)
  (k:∀b w',St w0 A (bZ b [z]::L) w'->K (.pointer (some ⟨b,0,none⟩)) w'):rA P (P0 T true (.tuple #[])) w K:=by
 unfold nU eh at u
 cases hi:P.info? T with
 | none=>rw[hi]at u;cases u
 | some i=>
  rw[hi]at u
  simp only[DY,n3.injEq]at u
  have h1:pr P (zeroValue T)=some z:=by unfold zeroValue;rw[cT,lV hi];simp only[l2,u];rfl
  refine⟨_,push w (.cells [z].toArray T),?_,k _ _ (B.push (T:=T))⟩
  unfold P0
  rw[eF (fU h1 w)]
  have:z.cells=[z].toArray:=by cases z<;>first|rfl|cases E
  show(do pure (abD (some (<- newVar T z))):Sem Value).run P w=_
  unfold newVar
  rw[this]
  rfl
theorem aQ{T:TypeId}{cs:List Value}{K:Value->g7}(B:St w0 A L w)(u:nU P T (.agg cs.toArray))
  (k:∀b w',St w0 A (bZ b cs::L) w'->K (.pointer (some ⟨b,0,none⟩)) w'):rA P (P0 T true (.tuple #[])) w K:=by
 unfold nU eh at u
 cases hi:P.info? T with
 | none=>rw[hi]at u;cases u
 | some i=>
  rw[hi]at u
  simp only[DY,n3.injEq]at u
  have h1:pr P (zeroValue T)=some (.agg cs.toArray):=by unfold zeroValue;rw[cT,lV hi];simp only[l2,u];rfl
  refine⟨_,push w (.cells cs.toArray T),?_,k _ _ (B.push (T:=T))⟩
  unfold P0
  rw[eF (fU h1 w)]
  rfl
theorem run_store{b o:Nat}{cs:List Value}{v:Value}(hb:qx w b cs)(B:o<cs.length)(u:vK v=true) :
  (store ⟨b,o,none⟩ v).run P w=.ok () (w.setCell ⟨b,o,none⟩ v):=by
 have h1:w.cell? ⟨b,o,none⟩=some cs[o]:=hb.cell (by simp[B])
 have h2:=hb.frozen (o:=o)
 unfold store
 cases v<;>first|cases u|skip
 all_goals
  simp only[Sem.run,h1,h2]
  rfl
theorem KE{b o:Nat}{cs:List Value}{v:Value}(E:St w0 A (bZ b cs::L) w):St w0 A (bZ b (cs.set o v)::L) (w.setCell ⟨b,o,none⟩ v):=
 E.qW λF u=>⟨F,⟨u.1.setCell v,u.2⟩,λ_ h=>.inl h,(gC.setCell w b o v).mono λk B=>(u.2 k).2 B⟩
theorem aV{T:TypeId}{b o:Nat}{cs:List Value}{v:Value}{K:g7}(u:St w0 A (bZ b cs::L) w)(ht:Ws P T)(E:o<cs.length)(B:vK v=true)
  (k:∀w',St w0 A (bZ b (cs.set o v)::L) w'->K w'):VG P (JX T (.pointer (some ⟨b,o,none⟩)) v) w K:=by
 refine⟨_,?_,k _ (KE u)⟩
 show(storeVar T ⟨b,o,none⟩ v).run P w=_
 have hc:v.cells = #[v]:=by cases v<;>first|rfl|cases B
 unfold storeVar
 rw[eF (fU (kX ht).2 w),hc]
 simp only[Lr,n5,Ei,ta,ne_eq,not_true_eq_false,if_false]
 show(storeCells ⟨b,o,none⟩ [v]).run P w=_
 unfold storeCells
 rw[gD,Lm,eF (run_store u.hb E B)]
 rfl
def iV:List Value->Nat->List Value->List Value
 | cs,_,[]=>cs
 | cs,o,v::r=>iV (cs.set o v) (o+1) r
theorem D0{b o:Nat}:∀(vs:List Value) (i:Nat) (cs:List Value) (w:World),St w0 A (bZ b cs::L) w->o+i+vs.length<=cs.length->(∀v∈vs,vK v=true)->
  ∃w',(storeCells ⟨b,o,none⟩ vs i).run P w=.ok () w'/\St w0 A (bZ b (iV cs (o+i) vs)::L) w':=by
 intro vs
 induction vs with
 | nil=>intro i cs w u _ _;exact⟨w,rfl,u⟩
 | cons v r G=>
  intro i cs w u I B
  have J:o+i+(r.length+1)<=cs.length:=by simpa using I
  have h1:=run_store (P:=P) u.hb (o:=o+i) (v:=v) bL (B v ea)
  obtain⟨w',h2,h3⟩:=G (i+1) (cs.set (o+i) v) _ (KE u) (by simp;omega) (λx E=>B x (by simp[E]))
  refine⟨w',?_,by rw[show o+(i+1)=o+i+1 from bL]at h3;exact h3⟩
  show(do store ((Addr.mk b o none).add i) v;storeCells ⟨b,o,none⟩ r (i+1):Sem Unit).run P w=_
  rw[gD,eF h1,h2]
theorem D1{T:TypeId}{b o n:Nat}{cs vs:List Value}{K:g7}(u:St w0 A (bZ b cs::L) w)(ht:acs P T n)(E:vs.length=n)(G:o+n<=cs.length)(B:∀v∈vs,vK v=true)
  (k:∀w',St w0 A (bZ b (iV cs o vs)::L) w'->K w'):VG P (JX T (.pointer (some ⟨b,o,none⟩)) (.agg vs.toArray)) w K:=by
 subst E
 obtain⟨w',h1,h2⟩:=D0 (P:=P) (o:=o) vs 0 cs w u bL B
 refine⟨w',?_,k w' h2⟩
 show(storeVar T ⟨b,o,none⟩ (.agg vs.toArray)).run P w=_
 unfold storeVar
 rw[eF (fU (kX ht).2 w)]
 simp only[abb,Lr,ne_eq,not_true_eq_false,if_false]
 exact h1
end
end Go.Fw
namespace Go.Fw
class Flat (α:Type) where
 agg:Bool
 sz:Nat
 enc:α->List Value
 val:α->Value
 pos:0<sz
 len:∀a,(enc a).length=sz
 one:∀a v,v∈enc a->vK v=true
 ng:agg=true->∀a,val a=.agg (enc a).toArray
 nh:agg=false->∀a,enc a=[val a]
instance:Flat Int where
 agg:=false
 sz:=1
 enc n:=[hH n]
 val n:=hH n
 pos:=cZ
 len _:=rfl
 one a v h:=by rw[sM.1 h];rfl
 ng h:=by cases h
 nh _ _:=rfl
instance:Flat Bool where
 agg:=false
 sz:=1
 enc n:=[.bool n]
 val n:=.bool n
 pos:=cZ
 len _:=rfl
 one a v h:=by rw[sM.1 h];rfl
 ng h:=by cases h
 nh _ _:=rfl
instance:Flat ByteArray where
 agg:=false
 sz:=1
 enc n:=[.string n]
 val n:=.string n
 pos:=cZ
 len _:=rfl
 one a v h:=by rw[sM.1 h];rfl
 ng h:=by cases h
 nh _ _:=rfl
section
variable {α:Type}[Flat α]
def flat(xs:List α):List Value:=xs.flatMap Flat.enc
theorem lW:flat ([]:List α)=[]:=rfl
theorem kr(x:α)(xs:List α):flat (x::xs)=Flat.enc x++flat xs:=by simp[flat]
theorem ig(xs ys:List α):flat (xs++ys)=flat xs++flat ys:=by simp[flat]
theorem dF(xs:List α):(flat xs).length=xs.length*Flat.sz α:=by
 induction xs with
 | nil=>simp[lW]
 | cons x xs u=>rw[kr,kH,u,Flat.len,n5,I2];omega
theorem zZ{xs:List α}:∀v∈flat xs,vK v=true:=by
 intro v B
 obtain⟨x,_,u⟩:=List.mem_flatMap.1 B
 exact Flat.one x v u
theorem rD{xs:List α}{i j:Nat}{x:α}{c:Value}(u:xs[i]?=some x)(hc:(Flat.enc x)[j]?=some c):(flat xs)[i*Flat.sz α+j]?=some c:=by
 induction xs generalizing i with
 | nil=>simp at u
 | cons y ys B=>
  rw[kr]
  cases i with
  | zero=>
   grind
  | succ i=>
   have:=B (by simpa using u)
   rw[List.getElem?_append_right (by rw[Flat.len,I2];omega),Flat.len]
   grind
theorem GK(xs:List α)(n:Nat):flat (xs.take n)=(flat xs).take (n*Flat.sz α):=by
 induction xs generalizing n with
 | nil=>simp[lW]
 | cons x xs u=>
  cases n with
  | zero=>simp[lW]
  | succ n=>
   rw[List.take_succ_cons,kr,kr,u,List.take_append,Flat.len]
   have h1:(n+1)*Flat.sz α-Flat.sz α=n*Flat.sz α:=cH
   rw[h1,List.take_of_length_le (i:=(n+1)*Flat.sz α) (l:=Flat.enc x) (by rw[Flat.len,I2];omega)]
theorem GL(xs:List α)(n:Nat):flat (xs.drop n)=(flat xs).drop (n*Flat.sz α):=by
 induction xs generalizing n with
 | nil=>simp[lW]
 | cons x xs u=>
  cases n with
  | zero=>simp
  | succ n=>
   rw[List.drop_succ_cons,kr,u,List.drop_append,Flat.len]
   have h1:(n+1)*Flat.sz α-Flat.sz α=n*Flat.sz α:=cH
   rw[h1,List.drop_of_length_le (i:=(n+1)*Flat.sz α) (l:=Flat.enc x) (by rw[Flat.len,I2];omega),x6]
def At(S:Nat->Prop)(w:World)(p:Value)(x:α):Prop:=
 ∃b o,p=.pointer (some ⟨b,o,none⟩)/\S b/\∀j c,(Flat.enc x)[j]?=some c->Cell w b (o+j) c
def dz(S:Nat->Prop)(w:World)(v:Value)(xs:List α):Prop:=
 ∃a cap,v=.slice a xs.length cap/\xs.length<=cap/\((xs=[]/\cap=0)\/∃b o,a=some ⟨b,o,none⟩/\(xs≠[]->S b)/\∀j c,(flat xs)[j]?=some c->Cell w b (o+j) c)
def bF(v:Value)(xs:List α):HP where
 p w F:=(v=.slice none 0 0/\xs=[]/\∀b,¬ F b)\/
  ∃b cap rest,v=.slice (some ⟨b,0,none⟩) xs.length cap/\qx w b (flat xs++rest)/\(xs.length<=cap/\cap*Flat.sz α<=(flat xs++rest).length)/\∀k,F k↔k=b
 loc w w' F h hh:=by
  rcases h with h|⟨b,cap,rest,h1,h2,h3,h4⟩
  .grind
  .exact .inr ⟨b,cap,rest,h1,h2.of_eq (hh b ((h4 b).2 rfl)),h3,h4⟩
 lt w F b h hb:=by
  rcases h with h|⟨u,cap,rest,h1,h2,h3,h4⟩
  .grind
  .rw[(h4 b).1 hb];exact h2.lt
variable {P:Program}{w w0:World}{A S:Nat->Prop}{L:List HP}{xs ys:List α}
theorem At.aF{A:Nat->Prop}{w w':World}{p:Value}{x:α}(h:At S w p x)(hc:gC A w w')(hd:∀b,S b->¬ A b):At S w' p x:=by
 obtain⟨b,o,h1,h2,h3⟩:=h;exact⟨b,o,h1,h2,λj c u=>(h3 j c u).aF hc (hd b h2)⟩
theorem At.ext{w w':World}{p:Value}{x:α}(h:At S w p x)(hc:Ext w w'):At S w' p x:=h.aF hc λ_ _ h=>h
theorem dz.aF{A:Nat->Prop}{w w':World}{v:Value}(h:dz S w v xs)(hc:gC A w w')(hd:∀b,S b->¬ A b):dz S w' v xs:=by
 obtain⟨a,cap,h1,h2,h3⟩:=h
 refine⟨a,cap,h1,h2,?_⟩
 rcases h3 with h3|⟨b,o,h3,h4,h5⟩
 .grind
 exact .inr ⟨b,o,h3,h4,λj c u=>(h5 j c u).aF hc (hd b (h4 λh=>by subst h;simp[lW]at u))⟩
theorem dz.ext{w w':World}{v:Value}(h:dz S w v xs)(hc:Ext w w'):dz S w' v xs:=h.aF hc λ_ _ h=>h
theorem dz.mono{u:Nat->Prop}{v:Value}(h:dz S w v xs)(hd:∀b,S b->u b):dz u w v xs:=by
 grind[dz]
theorem dz.nil(S:Nat->Prop)(w:World):dz S w (.slice none 0 0) ([]:List α):=⟨none,0,rfl,o5 _,.inl ⟨rfl,rfl⟩⟩
theorem bF.rd{v:Value}{F:Nat->Prop}(h:(bF v xs).p w F):dz F w v xs:=by
 rcases h with⟨h1,h2,h3⟩|⟨b,cap,rest,h1,h2,h3,h4⟩
 .subst h1 h2;exact dz.nil _ _
 refine⟨_,cap,h1,?_,.inr ⟨b,0,rfl,λ_=>(h4 b).2 rfl,λj c u=>?_⟩⟩
 .exact h3.1
 rw[ta]
 exact h2.cell cH
theorem St.rd{v:Value}(u:St w0 A (bF v xs::L) w):∃S,(∀b,S b->A b\/w0.heap.size<=b)/\dz S w v xs:=by
 obtain⟨F,h1,h2⟩:=u.head;exact⟨F,h2,bF.rd h1⟩
theorem St.dQ{v:Value}(u:St w0 A (bF v xs::L) w):dz (λ_=>True) w v xs:=by
 obtain⟨S,_,h⟩:=u.rd;exact h.mono λ_ _=>trivial
theorem St.eW(u:St w0 A L w):St w0 A (bF (.slice none 0 0) ([]:List α)::L) w:=
 u.new (Ext.refl w) (F:=aY) (.inl ⟨rfl,rfl,λ_ h=>h⟩) λ_ h=>h.elim
theorem aE{T:TypeId}{p:Value}{x:α}{K:Value->Prop}(ht:dy P T=some (Flat.agg α,Flat.sz α))(h:At S w p x)(k:K (Flat.val x)):J2 P (wO T p) w K:=by
 obtain⟨b,o,rfl,_,h3⟩:=h
 cases ha:Flat.agg α with
 | true=>
  rw[ha]at ht
  refine⟨_,?_,k⟩
  rw[Flat.ng ha x]
  exact Cr (by rw[Flat.len];exact ht) h3
 | false=>
  rw[ha]at ht
  have h1:=Flat.nh ha x
  have u:Flat.sz α=1:=by rw[<- Flat.len x,h1];rfl
  rw[u]at ht
  exact⟨_,aI ht (by have:=h3 0 (Flat.val x) cH;omega),k⟩
theorem St.At{b:Nat}{x:α}(B:St w0 A (Fw.bZ b (Flat.enc x)::L) w):Fw.At (λ_=>True) w (.pointer (some ⟨b,0,none⟩)) x:=
 ⟨b,0,rfl,trivial,λj c u=>by rw[ta];exact B.hb.cell u⟩
theorem bW{β:Type}[Flat β]{T f u:Nat}{p:Value}{x:α}(y:β){K:Value->Prop}(ht:vY P T f u)(h:At S w p x)(G:(Flat.enc x)[u]?=some (Flat.val y))(B:Flat.agg β=false)
  (k:∀q,At S w q y->K q):eM P (E3 T p f) K:=by
 obtain⟨b,o,rfl,h2,h3⟩:=h
 refine aA ht (k _ ⟨b,o+u,rfl,h2,λj c E=>?_⟩)
 rw[Flat.nh B]at E
 grind
theorem Iv{T R E n u:Nat}{z:Option Nat}{a:Option Addr}{l c:Nat}(ht:eI P T=some (E,n,u,z)):pr P (Builtin.len_ #[T] R [ye a l c].toArray)=some (hH l):=by
 show pr P (do
  match <- underlying T,ye a l c with
  | .string,.string s=>pure (goInt s.size)
  | .array n _,_=>pure (goInt n)
  | .pointer arr,_=>
   let .array n _ <- underlying arr|stuck "len: pointer to array expected"
   pure (goInt n)
  | .slice _,.slice _ n _=>pure (goInt n)
  | .map _ _,.map none|.chan _ _,.chan none=>pure (goInt 0)
  | .map _ _,.map (some r)=>
   let .map entries _ <- getObj r|stuck "len: map expected"
   pure (goInt entries.size)
  | .chan _ _,.chan (some r)=>
   let .chan _ buf _ _ _ timer <- getObj r|stuck "len: channel expected"
   pure (goInt (if timer then 0 else buf.size))
  | _, _ => stuck "len: string, array, pointer to array, slice, map or channel expected")=_
 rw[cT,cS (fq ht).1]
 rfl
theorem aH{T R E n u:Nat}{z:Option Nat}{v:Value}{K:Value->Prop}(ht:eI P T=some (E,n,u,z))(h:dz S w v xs)(k:K (hH (xs.length:Int))) :
  eM P (Builtin.len_ #[T] R [v].toArray) K:=by
 obtain⟨a,cap,rfl,_⟩:=h
 exact⟨_,Iv ht,k⟩
theorem aM{T E I:Nat}{z:Option Nat}{v:Value}{i:Int}{x:α}{K:Value->Prop}(ht:eI P T=some (E,Flat.sz α,I,z))(h:dz S w v xs)(V:0<=i)(u:xs[i.toNat]?=some x)
  (k:∀p,At S w p x->K p):eM P (E4 T v (hH i)) K:=by
 obtain⟨a,cap,rfl,Y,h3⟩:=h
 have Z:i.toNat<xs.length:=(ir.1 u).1
 rcases h3 with⟨rfl,_⟩|⟨b,o,rfl,h4,h5⟩
 .simp at u
 obtain⟨G,U,hi,O,_⟩:=fq ht
 refine⟨.pointer (some ⟨b,o+i.toNat*Flat.sz α,none⟩),?_,k _ ⟨b,_,rfl,h4 cH,λj c W=>?_⟩⟩
 .unfold E4
  rw[cT]
  show pr P _=_
  simp only[asIntOf]
  have M:pr P (underlying T)=some (.slice E):=cS G
  have B:pr P (sizeOf E)=some (Flat.sz α):=by rw[mE hi,O]
  simp only[cT,M,B,l2,fO]
  have J:0<=i/\i<(xs.length:Int):=⟨V,bL⟩
  simp only[ee J,cT,B,l2,fO,gD]
 have:=h5 (i.toNat*Flat.sz α+j) c (rD u W)
 grind
end
end Go.Fw
namespace Go.Fw
section
variable {α:Type}[Flat α] {P:Program}{w w0:World}{A S:Nat->Prop}{L:List HP}{xs ys:List α}
theorem iZ{y:Nat}{i:Int}{code:BoundsCode}(u:0<=i)(h1:i<=y):pr P (aaV (hH i) y code)=some i.toNat:=by
 unfold aaV
 rw[cT]
 simp only[asIntOf,fO,l2,ee (show 0<=i/\i<=(y:Int)from⟨u,h1⟩)]
theorem vZ{T E sz I:Nat}{z:Option Nat}{a:Option Addr}{n cap l h:Nat}{lo hi:Option Value}(ht:eI P T=some (E,sz,I,z))
  (hb:pr P (vd true n cap lo hi none)=some (l,h,cap)) :
  pr P (nn T (.slice a n cap) lo hi none)=some (.slice (if cap=l then a else a.map (·.add (l*sz))) (h-l) (cap-l)):=by
 obtain⟨u,J,B,G,_⟩:=fq ht
 unfold nn
 rw[cT,cS u]
 simp only[l2]
 unfold Instr.slice
 rw[cT,cS u]
 simp only[l2]
 rw[cT,hb]
 simp only[l2]
 rw[cT,mE B,G]
 rfl
theorem nV{n cap l h:Nat}{lo hi:Option Value}(G:lo=none/\l=0\/∃i:Int,lo=some (hH i)/\0<=i/\l=i.toNat)(E:hi=none/\h=n\/∃i:Int,hi=some (hH i)/\0<=i/\h=i.toNat)
  (h1:l<=h) (h2:h<=cap):pr P (vd true n cap lo hi none)=some (l,h,cap):=by
 rcases G with⟨rfl,rfl⟩|⟨i,rfl,B,rfl⟩<;>rcases E with⟨rfl,rfl⟩|⟨I,rfl,u,rfl⟩<;>simp only[vd,cT,fO,l2]
 .rw[iZ u bL];rfl
 .rw[iZ B bL];rfl
 rw[iZ u bL];simp only[l2];rw[iZ B bL];rfl
theorem dz.cut{v:Value}{a:Option Addr}{n cap l h:Nat}(E:v=.slice a n cap)(O:dz S w v xs)(h1:l<=h)(h2:h<=xs.length) :
  dz S w (.slice (if cap=l then a else a.map (·.add (l*Flat.sz α))) (h-l) (cap-l)) ((xs.take h).drop l):=by
 obtain⟨W,G,M,V,h3⟩:=O
 rw[M]at E
 simp only[ye.injEq]at E
 obtain⟨rfl,Y,rfl⟩:=E
 have hlen:((xs.take h).drop l).length=h-l:=by simp;omega
 rcases h3 with⟨B,Z⟩|⟨b,o,rfl,h4,h5⟩
 .subst B
  exact⟨_,G-l,by rw[hlen],ea,.inl ⟨ea,bL⟩⟩
 refine⟨_,G-l,by rw[hlen],bL,.inr ?_⟩
 have J:(xs.take h).drop l≠[]->xs≠[]:=λu I=>u cH
 by_cases u:G=l
 .rw[ee u]
  grind[flat,Cell]
 rw[eb u]
 refine⟨b,o+l*Flat.sz α,by simp[gD],λI=>h4 (J I),λj c U=>?_⟩
 rw[GL,GK,List.getElem?_drop,List.getElem?_take]at U
 grind
theorem RC{T E J:Nat}{z:Option Nat}{v:Value}{lo hi:Option Value}{l h:Nat}{K:Value->Prop}(ht:eI P T=some (E,Flat.sz α,J,z))(G:dz S w v xs)
  (M:lo=none/\l=0\/∃i:Int,lo=some (hH i)/\0<=i/\l=i.toNat) (I:hi=none/\h=xs.length\/∃i:Int,hi=some (hH i)/\0<=i/\h=i.toNat)
  (h1:l<=h) (h2:h<=xs.length) (k:∀B,dz S w B ((xs.take h).drop l)->K B):eM P (nn T v lo hi none) K:=by
 have u:=G
 obtain⟨a,cap,rfl,O,h3⟩:=G
 exact⟨_,vZ ht (nV M I h1 bL),k _ (u.cut rfl h1 h2)⟩
theorem xC{T E I:Nat}{z:Option Nat}{v:Value}{i:Int}{K:Value->Prop}(ht:eI P T=some (E,Flat.sz α,I,z))(B:dz S w v xs)(G:0<=i)(h2:i<=xs.length)
  (k:∀u,dz S w u (xs.take i.toNat)->K u):eM P (nn T v none (some (hH i)) none) K:=
 RC ht B (.inl ⟨rfl,rfl⟩) (.inr ⟨i,rfl,G,rfl⟩) bL bL λu h=>k u cH
theorem BA{T E I:Nat}{z:Option Nat}{v:Value}{i:Int}{K:Value->Prop}(ht:eI P T=some (E,Flat.sz α,I,z))(B:dz S w v xs)(G:0<=i)(h2:i<=xs.length)
  (k:∀u,dz S w u (xs.drop i.toNat)->K u):eM P (nn T v (some (hH i)) none none) K:=
 RC ht B (.inr ⟨i,rfl,G,rfl⟩) (.inl ⟨rfl,rfl⟩) bL bL λu h=>k u cH
theorem mF{b o:Nat}:∀(vs:List Value) (i:Nat) (cs:List Value) (w:World),qx w b cs->o+i+vs.length<=cs.length->(∀v∈vs,vK v=true)->
  ∃w',(storeCells ⟨b,o,none⟩ vs i).run P w=.ok () w'/\qx w' b (iV cs (o+i) vs)/\gC (· = b) w w':=by
 intro vs
 induction vs with
 | nil=>intro i cs w hb _ _;exact⟨w,rfl,hb,gC.refl _ _⟩
 | cons v r B=>
  intro i cs w hb I u
  have G:o+i+(r.length+1)<=cs.length:=bL
  have h1:=run_store (P:=P) hb (o:=o+i) (v:=v) bL (u v ea)
  obtain⟨w',h2,h3,h4⟩:=B (i+1) (cs.set (o+i) v) _ (hb.setCell v) (by simp;omega) (λx E=>u x (by simp[E]))
  refine⟨w',?_,by grind[qx,iV],(gC.setCell w b (o+i) v).trans h4 (λ_ h=>h) λ_ _ h=>h⟩
  show(do store ((Addr.mk b o none).add i) v;storeCells ⟨b,o,none⟩ r (i+1):Sem Unit).run P w=_
  rw[gD,eF h1,h2]
theorem lX(pre u post vs:List Value)(h:u.length=vs.length):iV (pre++u++post) pre.length vs=pre++vs++post:=by
 induction vs generalizing pre u with
 | nil=>grind[iV]
 | cons v r B=>
  match u,h with
  | m::u,h=>
   have e:(pre++(m::u)++post).set pre.length v=(pre++[v])++u++post:=ea
   simp only[iV,e]
   have:=B (pre++[v]) u cH
   simp_all
theorem xD{sz:Nat}{v:Value}(u:sz=Flat.sz α)(h:dz S w v ys):(Builtin.firstCells sz ys.length v).run P w=.ok (flat ys).toArray w:=by
 subst u
 obtain⟨a,cap,rfl,_,h3⟩:=h
 rcases h3 with⟨rfl,_⟩|⟨b,o,rfl,_,h5⟩
 .cases a with
  | none=>rfl
  | some a=>simp[Builtin.firstCells,loadCells,loadCellsFrom,lW]
 have:=run_loadCells (P:=P) h5
 rw[dF]at this
 exact this
theorem BB{b o:Nat}{cs:List Value}(h:∀j c,cs[j]?=some c->Cell w b (o+j) c):∀j v,cs[j]?=some v->w.cell? ((⟨b,o,none⟩:Addr).add j)=some v:=λj v u=>by
 rw[gD];exact h j v u
theorem Cs{T E kR R:Nat}{v src:Value}{F:Nat->Prop}(ht:Wt P T E (Flat.sz α) kR)(hv:(bF v xs).p w F)(vL:dz S w src ys)
  (hn:xs.length+ys.length<=17592186044416) (O:(xs.length+ys.length)*kR<=140737488355328) :
  ∃v' w' F',(Builtin.append_ #[T,T] R [v,src].toArray).run P w=.ok v' w'/\(bF v' (xs++ys)).p w' F'/\(∀b,F' b->F b\/w.heap.size<=b)/\gC F w w':=by
 obtain⟨W,u,hi,Y,yR,hz⟩:=fq ht
 obtain⟨zv,G,hzs⟩:∃zv,u.zero=some zv/\zv.cells.size=Flat.sz α:=by
  cases hzz:u.zero with
  | none=>rw[hzz]at hz;cases hz
  | some zv=>rw[hzz]at hz;exact⟨zv,rfl,by simpa using hz⟩
 have hmul:(xs.length+ys.length)*u.bytes<=140737488355328:=by rw[show u.bytes=kR by omega];exact O
 have made:∀(cap:Nat),cap<xs.length+ys.length->
   (bF (.slice (some ⟨w.heap.size,0,none⟩) (xs.length+ys.length) (grownCap w (xs.length+ys.length) cap E)) (xs++ys)).p
    (w.drew.alloc (.cells ((flat xs).toArray++(flat ys).toArray++Builtin.zeroCells zv.cells (grownCap w (xs.length+ys.length) cap E-(xs.length+ys.length))) E)) (λk=>k=w.heap.size):=by
  intro cap hc
  have Wu:=grownCap_ge w (xs.length+ys.length) cap E
  refine .inr ⟨w.heap.size,grownCap w (xs.length+ys.length) cap E,(Builtin.zeroCells zv.cells (grownCap w (xs.length+ys.length) cap E-(xs.length+ys.length))).toList,ea,⟨E,?_⟩,?_,λ_=>Iff.rfl⟩
  .have:=nc w.drew (.cells ((flat xs).toArray++(flat ys).toArray++Builtin.zeroCells zv.cells (grownCap w (xs.length+ys.length) cap E-(xs.length+ys.length))) E)
   refine Eq.trans this ?_
   congr 2
   apply abO
   simp[ig]
  .refine⟨by rw[kH];exact Wu,zq (Eq.symm ?_)⟩
   have e:(Builtin.zeroCells zv.cells (grownCap w (xs.length+ys.length) cap E-(xs.length+ys.length))).toList.length=(grownCap w (xs.length+ys.length) cap E-(xs.length+ys.length))*Flat.sz α:=by
    rw[Q2,size_zeroCells,hzs]
   rw[kH,e,dF,kH,<- Xc]
   congr 1
   omega
 have J:∀o,gC F w (w.drew.alloc o):=λo=>⟨rfl,rfl,rfl,ea,λb hb _=>Bw w.drew o b hb⟩
 have rd:=vL
 obtain⟨sa,Wv,rfl,hsc,I⟩:=rd
 rcases hv with⟨rfl,rfl,Z⟩|⟨b,cap,rest,rfl,hb,V,Z⟩
 ·
  simp only[Ei,ta,x6]at *
  by_cases O:ys=[]
  .subst O
   refine⟨.slice none 0 0,w,F,?_,.inl ⟨rfl,rfl,Z⟩,λb hb=>.inl hb,gC.refl _ _⟩
   cases sa<;>simp[Builtin.append_,run_underlying W,sizeOf,typeInfo,hi,Builtin.lenOf,Builtin.firstCells,loadCells,loadCellsFrom]
  have CS:0<ys.length:=List.length_pos_iff.2 O
  rcases I with⟨h,_⟩|⟨b,o,rfl,_,B⟩
  .exact absurd h O
  have U:=run_append_nil (P:=P) w T R E u zv W hi G ⟨b,o,none⟩ ys.length Wv (flat ys) (by rw[dF,Y]) (BB B) CS bL bL
  refine⟨_,_,λk=>k=w.heap.size,U,?_,λk M=>.inr (by rw[M];exact o5 _),J _⟩
  have:=made 0 CS
  simpa[lW]using this
 have By:xs.length<=cap:=V.1
 replace V:=V.2
 by_cases yq:xs.length+ys.length<=cap
 ·
  have TV:(xs.length+ys.length)*Flat.sz α<=cap*Flat.sz α:=zC _ yq
  have tG:(flat xs).length=xs.length*Flat.sz α:=dF xs
  have zT:(flat ys).length<=rest.length:=by
   rw[kH,tG]at V;rw[dF];rw[Xc]at TV;omega
  obtain⟨w',h1,h2,h3⟩:=mF (P:=P) (o:=xs.length*Flat.sz α) (flat ys) 0 (flat xs++rest) w hb (by rw[kH,tG];omega) zZ
  have F8:iV (flat xs++rest) (xs.length*Flat.sz α+0) (flat ys)=flat (xs++ys)++rest.drop (flat ys).length:=by
   have:=lX (flat xs) (rest.take (flat ys).length) (rest.drop (flat ys).length) (flat ys) (by simp;omega)
   rw[tG]at this
   rw[Lm,ig]
   rw[<- this]
   simp
  rw[F8]at h2
  refine⟨.slice (some ⟨b,0,none⟩) (xs.length+ys.length) cap,w',F,?_,.inr ⟨b,cap,_,ea,h2,?_,Z⟩,λb hb=>.inl hb,h3.mono λk M=>(Z k).2 M⟩
  .have hf:=xD (α:=α) (P:=P) (sz:=Flat.sz α) rfl vL
   have tH:(⟨b,0,none⟩:Addr).add (xs.length*Flat.sz α)=⟨b,xs.length*Flat.sz α,none⟩:=by rw[gD,ta]
   simp[Builtin.append_,run_underlying W,sizeOf,typeInfo,hi,Builtin.lenOf,yq,hf,Y,tH,h1]
  refine⟨by rw[kH];exact yq,tx V (zq ?_)⟩
  rw[kH,kH,ig,kH,List.length_drop];omega
 -- a new row
 have U:=run_append_grow (P:=P) w T R E u zv W hi G ⟨b,0,none⟩ xs.length cap (flat xs) (by rw[dF,Y])
  (BB λj c hj=>by rw[ta];exact hb.cell (by rw[s4 (ir.1 hj).1];exact hj))
 rcases I with⟨h,_⟩|⟨b',o,rfl,_,B⟩
 .subst h;simp at yq;omega
 have U:=U ⟨b',o,none⟩ ys.length Wv (flat ys) (by rw[dF,Y]) (BB B) bL bL (growslice_fits bL hmul)
 exact⟨_,_,λk=>k=w.heap.size,U,made cap bL,λk M=>.inr (by rw[M];exact o5 _),J _⟩
theorem ah4{T E B R:Nat}{v src:Value}{F:Nat->Prop}(ht:Wt P T E (Flat.sz α) B)(M:(bF v xs).p w F)(J:dz S w src ys)
  (O:xs.length+ys.length<=1073741824) (u:B<=8192) :
  ∃I w' G,(Builtin.append_ #[T,T] R [v,src].toArray).run P w=.ok I w'/\(bF I (xs++ys)).p w' G/\(∀b,G b->F b\/w.heap.size<=b)/\gC F w w':=
 Cs ht M J bL (by have:=Xu O u;omega)
theorem KF{T E J R:Nat}{v src:Value}{K:Value->g7}(G:St w0 A (bF v xs::L) w)(ht:Wt P T E (Flat.sz α) J)(Y:dz S w src ys)
  (hn:xs.length+ys.length<=17592186044416) (hm:(xs.length+ys.length)*J<=140737488355328) (k:∀B w',St w0 A (bF B (xs++ys)::L) w'->K B w'):rA P (Builtin.append_ #[T,T] R [v,src].toArray) w K:=by
 obtain⟨U,F,M,h1,h2,h3,h4,h5⟩:=G.tF
 obtain⟨B,w',W,Z,g2,V,O⟩:=Cs (R:=R) ht h1 Y hn hm
 refine⟨B,w',Z,k B w' ?_⟩
 refine⟨G.aF.trans O (λ_ h=>h) λb hb u=>(h2 b u).elim id λhh=>bL,λb=>W b\/M b,W,M,g2,λb hb=>?_,λb hb I=>?_,λb=>Iff.rfl,?_⟩
 .rcases V b hb with u|u
  .exact h2 b u
  exact .inr (tx G.aF.size u)
 .rcases V b hb with u|u
  .exact h3 b u I
  have:=h5.lt b I;omega
 exact h5.loc λb hb=>O.bZ b (h5.lt b hb) λu=>h3 b u hb
theorem bJ{T E G R:Nat}{v src:Value}{K:Value->g7}(J:St w0 A (bF v xs::L) w)(ht:Wt P T E (Flat.sz α) G)(I:dz S w src ys)
  (M:xs.length+ys.length<=1073741824) (u:G<=8192) (k:∀B w',St w0 A (bF B (xs++ys)::L) w'->K B w'):rA P (Builtin.append_ #[T,T] R [v,src].toArray) w K:=
 KF J ht I bL (by have:=Xu M u;omega) k
end
end Go.Fw
namespace Go.Fw
section
variable {α:Type}[Flat α] {P:Program}{w w0:World}{A S:Nat->Prop}{L:List HP}{xs ys:List α}
theorem ph(x:α):(Flat.val x).cells=(Flat.enc x).toArray:=by
 cases h:Flat.agg α with
 | true=>rw[Flat.ng h];rfl
 | false=>
  have h1:=Flat.nh h x
  have h2:=Flat.one x (Flat.val x) cH
  rw[h1]
  revert h2
  cases Flat.val x<;>simp[vK,abb]
theorem OB(cs:List Value)(o:Nat)(v:Value)(r:List Value):iV cs o (v::r)=iV (cs.set o v) (o+1) r:=rfl
theorem KG(u:Nat):∀(l:List Value) (k:Nat) (cs:Array Value),((l.zipIdx k).foldl (fun (cs:Array Value) q=>cs.setIfInBounds (u+q.2) q.1) cs).toList=iV cs.toList (u+k) l:=by
 intro l
 induction l with
 | nil=>intro k cs;rfl
 | cons v r B=>
  intro k cs
  rw[aaW,List.foldl_cons,B (k+1),OB]
  grind
theorem Iy(u:Nat)(l:List Value)(cs:Array Value) :
  (l.toArray.zipIdx.foldl (fun (cs:Array Value) (q:Value×Nat)=>match q with|(c,j)=>cs.setIfInBounds (u+j) c) cs).toList=iV cs.toList u l:=by
 rw[<- ZJ]
 have e:l.toArray.zipIdx.toList=l.zipIdx 0:=ea
 rw[e]
 exact KG u l 0 cs
theorem TW:∀(xs:List α) (k:Nat) (pre u:List Value),pre.length=k*Flat.sz α->u.length=xs.length*Flat.sz α->
  ZK (λi=>some (i*Flat.sz α,Flat.sz α)) (pre++u).toArray ((xs.zipIdx k).map λq=>(q.2,Flat.val q.1))=some (pre++flat xs).toArray:=by
 intro xs
 induction xs with
 | nil=>intro k pre u _ B;simp at B;subst B;simp[ZK,lW]
 | cons x xs E=>
  intro k pre u G B
  rw[aaW,List.map_cons]
  unfold ZK
  dsimp only
  have J:(Flat.val x).cells.size=Flat.sz α:=by rw[ph];simp[Flat.len]
  have I:u.length=xs.length*Flat.sz α+Flat.sz α:=cH
  rw[eb cH]
  have e:((Flat.val x).cells.zipIdx.foldl (fun (cs:Array Value) (q:Value×Nat)=>match q with|(c,j)=>cs.setIfInBounds (k*Flat.sz α+j) c) (pre++u).toArray) =
    ((pre++Flat.enc x)++u.drop (Flat.sz α)).toArray:=by
   apply abO
   rw[ph,Iy]
   have h1:=lX pre (u.take (Flat.sz α)) (u.drop (Flat.sz α)) (Flat.enc x) (by simp[Flat.len];omega)
   simp_all
  rw[e]
  have:=E (k+1) (pre++Flat.enc x) (u.drop (Flat.sz α)) (by rw[kH,G,Flat.len,I2]) cH
  rw[this,kr,mX]
theorem aW{T E U n:Nat}{parts:List (Nat×Value)}{K:Value->g7}(xs:List α)(O:St w0 A L w)(ht:Wt P T E (Flat.sz α) U)(Y:xs.length=n)
  (hp:parts=xs.zipIdx.map λq=>(q.2,Flat.val q.1)) (hl:xs.length*Flat.sz α<=16777216) (k:∀v w',St w0 A (bF v xs::L) w'->K v w') :
  rA P (Ku T n parts.toArray) w K:=by
 subst Y
 obtain⟨M,B,hi,W,yR,G⟩:=fq ht
 obtain⟨zv,I,Z⟩:∃zv,B.zero=some zv/\zv.cells.size=Flat.sz α:=by
  cases hzz:B.zero with
  | none=>rw[hzz]at G;cases G
  | some zv=>rw[hzz]at G;exact⟨zv,rfl,by simpa using G⟩
 have es:pr P (sizeOf E)=some (Flat.sz α):=by rw[mE hi,W]
 have V:pr P (zeroValue E)=some zv:=by unfold zeroValue;rw[cT,lV hi];simp only[l2,I];rfl
 refine⟨.slice (some ⟨w.heap.size,0,none⟩) xs.length xs.length,push w (.cells (flat xs).toArray E),?_,k _ _ ?_⟩
 .have u:∀z:Array Value,ZK (λi=>some (i*Flat.sz α,Flat.sz α)) ((abM (xs.length*Flat.sz α)).map (z[· % z.size]!)) parts=some (flat xs).toArray:=by
   intro z
   have:=TW xs 0 [] ((abM (xs.length*Flat.sz α)).map (z[· % z.size]!)).toList ea ea
   rw[hp]
   rw[x6,x6,P2]at this
   exact this
  unfold Ku
  rw[eF (fU (cS M) w)]
  dsimp only
  rw[eF (fU es w),eb bL]
  by_cases J:xs.length*Flat.sz α=0
  .simp only[ee J]
   rw[eF (run_pure _ w),u]
   rfl
  simp only[eb J]
  rw[eF (fU V w),eF (run_pure _ w),u]
  rfl
 refine O.new (Ext.push _ _) (F:=λk=>k=w.heap.size) (.inr ⟨w.heap.size,xs.length,[],rfl,⟨E,?_⟩,⟨o5 _,by simp[dF]⟩,λ_=>Iff.rfl⟩) λb hb=>by rw[hb];exact o5 _
 rw[oj];exact nc _ _
theorem v8(z:α)(n:Nat):(madeCells (Flat.enc z).toArray (n*Flat.sz α)).toList=flat (po n z):=by
 apply List.ext_getElem?
 intro i
 have u:=Flat.pos (α:=α)
 by_cases hi:i<n*Flat.sz α
 .have h1:i / Flat.sz α<n:=by rw[Nat.div_lt_iff_lt_mul u];exact hi
  have h2:i % Flat.sz α<(Flat.enc z).length:=by rw[Flat.len];exact Nat.mod_lt _ u
  have:=rD (xs:=po n z) (i:=i / Flat.sz α) (j:=i % Flat.sz α) (x:=z) (c:=(Flat.enc z)[i % Flat.sz α]) (by simp[h1]) (by simp[h2])
  rw[Nat.div_add_mod' i (Flat.sz α)]at this
  rw[this]
  unfold madeCells
  simp[hi,Flat.len]
  grind
 have E:(madeCells (Flat.enc z).toArray (n*Flat.sz α)).toList[i]?=none:=by
  rw[A4,Q2,size_madeCells];omega
 have B:(flat (po n z))[i]?=none:=by
  rw[A4,dF,Ce];omega
 rw[E,B]
theorem v9{T E G:Nat}{n:Int}{K:Value->g7}(z:α)(O:St w0 A L w)(ht:Wt P T E (Flat.sz α) G)(B:nU P E (Flat.val z))(J:0<=n)(h1:n<=1073741824)(V:G<=8192)
  (k:∀v w',St w0 A (bF v (po n.toNat z)::L) w'->K v w'):rA P (MX T (hH n) (hH n)) w K:=by
 obtain⟨M,u,hi,U,W,_⟩:=fq ht
 unfold nU eh at B
 rw[hi]at B
 simp only[DY,n3.injEq]at B
 have hb:(u.bytes:Int)*n<=281474976710656:=by
  have h2:(u.bytes:Int)<=8192:=bL
  have h3:(u.bytes:Int)*n<=8192*n:=Int.mul_le_mul_of_nonneg_right h2 J
  omega
 have I:=run_make (P:=P) w T E u (Flat.val z) M hi B .i64 .i64 n n J (Int.le_refl _) hb bL
 rw[U,ph]at I
 refine⟨_,_,I,k _ _ ?_⟩
 refine O.new (w':=w.alloc (.cells (madeCells (Flat.enc z).toArray (n.toNat*Flat.sz α)) E)) ⟨rfl,rfl,rfl,ea,λb hb _=>Bw w _ b hb⟩ (F:=λk=>k=w.heap.size)
  (.inr ⟨w.heap.size,n.toNat,[],ea,⟨E,?_⟩,⟨ea,by rw[oj,dF,Ce];exact o5 _⟩,λ_=>Iff.rfl⟩) λb hb=>by rw[hb];exact o5 _
 rw[oj,<- v8]
 have:=nc w (.cells (madeCells (Flat.enc z).toArray (n.toNat*Flat.sz α)) E)
 rw[P2]
 exact this
def GM(α:Type)[Flat α](v:Value)(i:Nat)(p:Value):Prop:=∃b n c,v=.slice (some ⟨b,0,none⟩) n c/\p=.pointer (some ⟨b,i*Flat.sz α,none⟩)
theorem dJ{T E I:Nat}{z:Option Nat}{v:Value}{i:Int}{K:Value->Prop}(G:St w0 A (bF v xs::L) w)(ht:eI P T=some (E,Flat.sz α,I,z))(U:0<=i)(h1:i<xs.length)
  (k:∀p,GM α v i.toNat p->K p):eM P (E4 T v (hH i)) K:=by
 obtain⟨F,h,_⟩:=G.head
 rcases h with⟨rfl,rfl,_⟩|⟨b,cap,rest,rfl,hb,V,_⟩
 .simp at h1;omega
 obtain⟨B,O,hi,M,_⟩:=fq ht
 refine⟨.pointer (some ⟨b,i.toNat*Flat.sz α,none⟩),?_,k _ ⟨b,_,_,rfl,rfl⟩⟩
 unfold E4
 have J:pr P (underlying T)=some (.slice E):=cS B
 have u:pr P (sizeOf E)=some (Flat.sz α):=by rw[mE hi,M]
 simp only[asIntOf,cT,J,u,l2,fO]
 simp only[ee (show 0<=i/\i<(xs.length:Int)from⟨U,h1⟩),cT,u,l2,fO,gD,ta]
theorem rn{v:Value}{F:Nat->Prop}{i:Nat}(h:(bF v xs).p w F)(hi:i<xs.length):∃b cap rest,v=.slice (some ⟨b,0,none⟩) xs.length cap/\qx w b (flat xs++rest)/\(xs.length<=cap/\cap*Flat.sz α<=(flat xs++rest).length)/\∀k,F k↔k=b:=by
 rcases h with⟨rfl,rfl,_⟩|h
 .simp at hi
 exact h
theorem fV{T:Nat}{v p:Value}{i:Nat}{x:α}{K:Value->Prop}(E:St w0 A (bF v xs::L) w)(ht:dy P T=some (Flat.agg α,Flat.sz α))(I:GM α v i p)(B:xs[i]?=some x)(k:K (Flat.val x)) :
  J2 P (wO T p) w K:=by
 obtain⟨F,h,_⟩:=E.head
 obtain⟨b,cap,rest,J,hb,O,_⟩:=rn h (ir.1 B).1
 obtain⟨M,n,c,u,rfl⟩:=I
 rw[J]at u
 simp only[ye.injEq,n3.injEq,Addr.mk.injEq]at u
 obtain⟨⟨rfl,_,_⟩,_,_⟩:=u
 refine aE (S:=λ_=>True) ht ⟨b,i*Flat.sz α,rfl,trivial,λj c G=>hb.cell ?_⟩ k
 have:=rD B G
 rw[s4 (ir.1 this).1];exact this
theorem KI{i:Nat}(y:α)(h:i<xs.length):flat (xs.set i y)=flat (xs.take i)++Flat.enc y++flat (xs.drop (i+1)):=by
 rw[List.set_eq_take_append_cons_drop,ee h,ig,kr,mX]
theorem yS{i:Nat}{x:α}(h:xs[i]?=some x):flat xs=flat (xs.take i)++Flat.enc x++flat (xs.drop (i+1)):=by
 have hi:=(ir.1 h).1
 have:xs=xs.take i++x::xs.drop (i+1):=by
  rw[<- (ir.1 h).2,List.getElem_cons_drop,List.take_append_drop]
 conv=>lhs;rw[this]
 rw[ig,kr,mX]
theorem OC{T:Nat}{v p:Value}{i:Nat}{F:Nat->Prop}(y:α)(h:(bF v xs).p w F)(ht:dy P T=some (Flat.agg α,Flat.sz α))(O:GM α v i p)(hi:i<xs.length) :
  ∃w',(JX T p (Flat.val y)).run P w=.ok () w'/\(bF v (xs.set i y)).p w' F/\gC F w w':=by
 obtain⟨b,cap,rest,U,hb,M,B⟩:=rn h hi
 obtain⟨W,n,c,u,rfl⟩:=O
 rw[U]at u
 simp only[ye.injEq,n3.injEq,Addr.mk.injEq]at u
 obtain⟨⟨rfl,_,_⟩,_,_⟩:=u
 have J:xs[i]?=some xs[i]:=by simp[hi]
 have I:=yS J
 have E:(flat (xs.take i)).length=i*Flat.sz α:=by rw[dF,List.length_take,Nat.min_eq_left bL]
 have hlen:i*Flat.sz α+Flat.sz α<=(flat xs).length:=by
  rw[dF,<- I2];exact zC _ hi
 obtain⟨w',h1,h2,h3⟩:=mF (P:=P) (o:=i*Flat.sz α) (Flat.enc y) 0 (flat xs++rest) w hb (by rw[Flat.len,kH];omega) (Flat.one y)
 have V:iV (flat xs++rest) (i*Flat.sz α+0) (Flat.enc y)=flat (xs.set i y)++rest:=by
  have:=lX (flat (xs.take i)) (Flat.enc xs[i]) (flat (xs.drop (i+1))++rest) (Flat.enc y) (by rw[Flat.len,Flat.len])
  rw[E]at this
  rw[Lm,KI y hi,I]
  grind
 rw[V]at h2
 refine⟨w',?_,.inr ⟨b,cap,rest,cH,h2,?_,B⟩,h3.mono λk G=>(B k).2 G⟩
 .show(storeVar T ⟨b,i*Flat.sz α,none⟩ (Flat.val y)).run P w=_
  unfold storeVar
  rw[eF (fU (kX ht).2 w),ph]
  simp only[Lr,Flat.len,ne_eq,not_true_eq_false,if_false]
  exact h1
 rw[kH,dF]at M |-;grind
theorem jj{T:Nat}{v p:Value}{i:Nat}{K:g7}(y:α)(B:St w0 A (bF v xs::L) w)(ht:dy P T=some (Flat.agg α,Flat.sz α))(M:GM α v i p)(hi:i<xs.length)
  (k:∀w',St w0 A (bF v (xs.set i y)::L) w'->K w'):VG P (JX T p (Flat.val y)) w K:=by
 obtain⟨U,F,G,h1,h2,h3,h4,h5⟩:=B.tF
 obtain⟨w',I,J,E⟩:=OC y h1 ht M hi
 refine⟨w',I,k w' ⟨B.aF.trans E (λ_ h=>h) λb hb u=>(h2 b u).elim id λO=>bL,U,F,G,J,h2,h3,h4,h5.loc λb hb=>E.bZ b (h5.lt b hb) λu=>h3 b u hb⟩⟩
end
end Go.Fw
