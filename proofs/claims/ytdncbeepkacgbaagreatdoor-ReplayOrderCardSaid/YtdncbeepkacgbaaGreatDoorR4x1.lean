/-
  Part 1.
-/
import Derived.Test.YtdncbeepkacgbaaGreatDoorProg
import Derived.Orders
import Derived.Tactics
import Derived.OrdersIn
import Derived.TacticsIn
import Derived.RangeFuncSeq
import Derived.RangeFuncLeaves
import Derived.Laws.Sem
import Derived.KernelRfl
import Derived.Below
import Derived.IntWalk
import Derived.Laws.AppendOwn
import Derived.Laws.MakeOwn
import Derived.WalkKit
import Derived.ProofKit
import Derived.OpenShut
import Derived.ChangeCalls
import Derived.Laws.Strings
import Derived.Lib.ConvBytes
import Derived.MapKept
import Derived.Maps.RangeRun
import Derived.Lib.AppendZeros
import Derived.LaidMore
import Derived.Lay
import Derived.SevenTiedAt
import Derived.Stop.Joined
set_option maxHeartbeats 8000000
set_option linter.all false
set_option maxRecDepth 100000
namespace Go
def bP{p:Prop}(h:p:=by omega):p:=h
def cR{p:Prop}(h:p:=by grind):p:=h
def ea{p:Prop}(h:p:=by decide):p:=h
def ew{p:Prop}(h:p:=by simp):p:=h
def ez:=@if_neg
def fi:=@if_pos
def fj:=@decide_eq_true
def ga:=@decide_eq_false
def gh:=@decide_eq_decide
def gj:=@congrArg
def gv:=@of_decide_eq_true
def g6:=@of_decide_eq_false
def g7:=@Classical.byContradiction
noncomputable abbrev hH:=Proofs.Tryz.prog
abbrev hM:=World->Prop
abbrev hU(i:Int):Value:=.int .i64 i
end Go
open ByteArray renaming mk->hZ
open List renaming getElem?_eq_some_iff->jq,length_append->kC,append_assoc->mv,length_cons->oi,mem_cons_self->oj,append_nil->oo,replicate->oJ,mem_cons->oS,mem_cons_of_mem->o5,getElem?_append_left->qi,mem_singleton->ru,nil_append->sk,getElem?_eq_none_iff->uK,map_congr_left->vI,length_replicate->wG,all_eq_true->wH,getElem_cons_drop->Dc,length_nil->Dd,size_toArray->Eb,getElem?_toArray->H5,mem_filterMap->JH,take_succ_cons->Pb,zipIdx_cons->Rn
open Option renaming bind_some->kO,some->nN,map_some->wm
open Go.Instr renaming build->l1,sliceAt->mA,index->oK,box->pQ,sliceBounds->qh,lookup->qn,loadAt->rB,storeAt->zQ,fieldAt->z6,indexAt->z7,buildSlice->EL,alloc->Is,extract->K0,makeSlice->NQ,fill->PJ,sliceBound->QF
open Go.Value renaming int->mj,bool->sy,slice->sB,cells->TE,pointer->U3
open Bool renaming and_eq_true->nw,not_eq_true'->px,or_eq_true->rH,true_and->tx,false_eq_true->FQ,not_false->Hk
open Nat renaming le_refl->oq,zero_add->o6,beq->u1,le_of_ble_eq_true->u4,le_trans->xE,land->x8,mul_le_mul_right->yS,shiftLeft->z8,le_of_eq->CJ,succ_mul->CN,lor->G7,add_zero->Hp,eq_of_beq_eq_true->Ia,testBit_two_pow->Jz,one_shiftLeft->JL,ble->Kh,testBit_or->Ot,mul_le_mul->Ou,add_mul->TF,blt->TM
open Array renaming getD_eq_getD_getElem?->vr,getElem?_eq_some_iff->vE,getElem?_modify->Ie,toArray_toList->Iz,length_toList->JE,empty_append->PH,foldl_toList->PI,range->Vb,ext'->Vu
open Go.World renaming cell?->KO,setCell->U2
open Prod renaming mk->Ug
open Go.Code renaming region->Va
open Classical renaming choose->VD
namespace Go.Fw
abbrev Env:=Nat->Value
def ev(e:Env):Operand->Value
 | .tmp t=>e t
 | .const v=>v
 | .global g=>.pointer (some ⟨g,0,none⟩)
 | .func f=>.func (.func f) #[] #[]
def tQ(e:Env)(d:Nat)(v:Value):Env:=λi=>bif u1 i d then v else e i
def gF(e:Env)(d:Option Nat)(v:Value):Env:=match d with|some d=>tQ e d v|none=>e
theorem jP(e:Env)(d:Nat)(v:Value):tQ e d v d=v:=by simp[tQ]
theorem kG(e:Env){d i:Nat}(v:Value)(h:i≠d):tQ e d v i=e i:=by
 have:u1 i d=false:=by
  cases hh:u1 i d
  .rfl
  simp_all
 simp[tQ,this]
def Mt(e:Env){d u:Nat}(v B:Value)(h:d≠u):tQ (tQ e d v) u B=tQ (tQ e u B) d v:=by
 funext i
 by_cases h1:i=d
 .subst h1;rw[kG _ _ h,jP,jP]
 by_cases h2:i=u
 .subst h2;rw[jP,kG _ _ h1,jP]
 rw[kG _ _ h2,kG _ _ h1,kG _ _ h1,kG _ _ h2]
def V9(e:Env)(d:Nat)(v:Value)(h:e d=v):tQ e d v=e:=by
 funext i
 by_cases h1:i=d
 .subst h1;rw[jP,h]
 rw[kG _ _ h1]
def mark(D:Nat):Deferred:={target:=.collected D,args:=#[]}
structure gm(ds:List Nat)(n:Nat)(e:Env)(a:Act):Prop where
 defers:a.defers=ds.map mark
 size:a.tmps.size=n
 get:∀i,a.tmps.getD i undef=e i
def gm.eval{u:List Nat}{n:Nat}{e:Env}{a:Act}(h:gm u n e a):a.eval=ev e:=by
 funext x
 cases x<;>simp[Act.eval,ev]
 case tmp t=>simpa using h.get t
theorem gm.put{B:List Nat}{n:Nat}{e:Env}{a:Act}(h:gm B n e a){d:Option Nat}(u:∀k,d=some k->k<n)(v:Value) :
  gm B n (gF e d v) (a.put d v):=by
 cases d with
 | none=>exact h
 | some d=>
  have u:=u d rfl
  refine⟨h.defers,by simp[Act.put,h.size],λi=>?_⟩
  have E:=h.get i
  simp only[Act.put,gF,vr]at *
  by_cases hi:i=d
  .subst hi
   rw[Array.getElem?_setIfInBounds_self_of_lt (by rw[h.size];exact u),jP]
   rfl
  .rw[Array.getElem?_setIfInBounds_ne (Ne.symm hi),kG _ _ hi]
   exact E
def pr(P:Program){α:Type}:Sem α->Option α
 | .pure a=>some a
 | .program k=>pr P (k P)
 | .mark _ k=>pr P k
 | _=>none
theorem eM{P:Program}{α:Type}{m:Sem α}{v:α}(h:pr P m=some v)(w:World):m.run P w=.ok v w:=by
 induction m with
 | pure a=>simp only[pr,nN.injEq]at h;simp_all
 | program k u=>exact u P h
 | mark x k u=>exact u h
 | _=>simp[pr]at h
theorem eW{P:Program}{α:Type}(a:α):pr P (pure a:Sem α)=some a:=rfl
theorem bT{P:Program}{α β:Type}(m:Sem α)(f:α->Sem β):pr P (m >>= f)=(pr P m).bind λa=>pr P (f a):=by
 show pr P (m.bind f)=_
 induction m with
 | pure a=>rfl
 | program k u=>exact u P
 | mark x k u=>exact u
 | _=>rfl
theorem dD{P:Program}{α β:Type}{m:Sem α}{f:α->Sem β}{w w':World}{a:α}(h:m.run P w=.ok a w') :
  (m >>= f).run P w=(f a).run P w':=by simp_all
theorem run_pure{P:Program}{α:Type}(a:α)(w:World):(pure a:Sem α).run P w=.ok a w:=rfl
abbrev FO(r:Option Nat):Fence:={Fence.wide with round:=r}
def yk{r:Option Nat}{p:Prop}:(FO r).depth.isSome=true->p:=λh=>by cases h
def s4{r:Option Nat}{n:Nat}{P:Program}{f:FuncId}{args:Array Value}{w:World}{R:Ending->hM}:CallsIn (FO r) n P f args w R↔Calls P f args w R:=
 callsIn_wide (n:=n)
def oV(K:Value->hM):Ending->hM:=λe w=>∃v,e=.returned v/\K v w
def oV.mono{K u:Value->hM}{e:Ending}{w:World}(h:oV K e w)(k:∀v w,K v w->u v w):oV u e w:=
 let ⟨v,B,E⟩:=h;⟨v,B,k _ _ E⟩
def Plain(P : Program)(f : FuncId) : Prop := ∃u, P.funcs[f]?=some u /\ (u.name == "runtime.NumGoroutine")=false /\ u.body.isNone=false
theorem tV{P:Program}{f:FuncId}(h:Plain P f)(args:Array Value)(w:World) :
  (callFunc f args).run P w=.ok (.enter f args) w:=by
 obtain⟨u,h1,h2,h3⟩:=h
 show(match P.funcs[f]? with|none=>_|some u=>_:Sem Next).run P w=_
 rw[h1]
 simp[h2,h3]
structure dW(P:Program)(m:Sem Value)(K:Value->Prop):Prop where
 ex:∃v,pr P m=some v/\K v
structure Aw(P:Program)(m:Sem Value)(w:World)(K:Value->Prop):Prop where
 ex:∃v,m.run P w=.ok v w/\K v
structure lW(P:Program)(m:Sem Value)(w:World)(K:Value->hM):Prop where
 ex:∃v w',m.run P w=.ok v w'/\K v w'
structure Md(P:Program)(m:Sem Unit)(w:World)(K:hM):Prop where
 ex:∃w',m.run P w=.ok () w'/\K w'
structure wJ(P:Program)(f:FuncId)(args:List Value)(w:World)(K:Value->hM):Prop where
 ex:(Plain P f/\Calls P f args.toArray w (oV K))\/∃v w',(callFunc f args.toArray).run P w=.ok (.value v) w'/\K v w'
structure gM(P:Program)(fv:Value)(args:List Value)(w:World)(K:Value->hM):Prop where
 ex:(∃g first cap,fv=.func (.func g) first cap/\Plain P g/\Calls P g (first++args.toArray++cap) w (oV K))\/
  ∃l,fv=.func (.yield l) #[] #[]/\YieldAt (FO none) 0 P l args.toArray w (oV K)
structure sN(v:Value)(A B:Prop):Prop where
 ex:∃t,v=.bool t/\(t=true->A)/\(t=false->B)
structure Ig(P:Program)(m:Sem Value)(v:Value)(w:World)(R:Prop):Prop where
 Z4:m.run P w=.ok v w
 rest:R
inductive yl where
 | val (v:Value)
 | p (m:Sem Value)
 | q (m:Sem Value)
 | e (m:Sem Value)
 | u (m:Sem Unit)
 | call (f:FuncId) (args:List Value)
 | Ih (fv:Value) (args:List Value)
 | bad
def Me:Operand->Bool|.const _=>true|_=>false
def Kk:Value->Sem Value
 | .pointer none|.nilIface|.nilFunc => stuck "nil"
 | .func (.method _) _ _ => stuck "method"
 | x=>pure x
def Mu(c a b:Value):Sem Value:=do pure (if <- asBool c then a else b)
def Rs(op:BinOp)(t:TypeId)(cx cy:Bool)(a b:Value):Sem Value:=
 match a,b with
 | .nilIface, .nilIface => if cx||cy then binOp op t a b else stuck "two nil interfaces"
 | .agg _, .agg _ => .program λp => if p.eqGuardType p.depth t then stuck "an interface in a part" else binOp op t a b
 | _,_=>binOp op t a b
def g9(op:BinOp)(t:TypeId)(cx cy:Bool)(a b:Value):Sem Value:=
 match op with
 | .eql=>Rs .eql t cx cy a b
 | .neq=>Rs .neq t cx cy a b
 | op=>binOp op t a b
def Rt(P:Program)(op:BinOp)(t:TypeId)(x y:Operand):Bool:=
 match op with
 | .eql|.neq=>match P.underlying t with
  | some (.pointer _)|some .unsafePointer=>!(Me x||Me y)
  | _=>false
 | _=>false
def isMap(P:Program)(t:TypeId):Bool:=match P.underlying t with|some (.map _ _)|some (.chan _ _)=>true|_=>false
def Z5(P:Program)(s d:TypeId):Nat:=
 match P.underlying d with
 | some (.slice _)=>2
 | some .string=>match P.underlying s with|some (.slice _)=>1|_=>0
 | _=>0
def tW(P:Program)(o:Oper)(ρ:Operand->Value):yl:=
 match o.op with
 | .move x|.assign x=>.val (ρ x)
 | .pick c a b=>.p (Mu (ρ c) (ρ a) (ρ b))
 | .alloc t=>.e (Is t true (.tuple #[]))
 | .box t x=>.e (pQ t (ρ x))
 | .build t parts=>.p (l1 t (parts.toList.map λq=>(q.1,ρ q.2)).toArray)
 | .buildSlice t n parts=>.e (EL t n (parts.toList.map λq=>(q.1,ρ q.2)).toArray)
 | .load t a=>.q (rB t (ρ a))
 | .store t a x=>.u (zQ t (ρ a) (ρ x))
 | .nilCheck x=>.p (Kk (ρ x))
 | .binOp op t x y _=>if Rt P op t x y then .q (g9 op t (Me x) (Me y) (ρ x) (ρ y))else .p (g9 op t (Me x) (Me y) (ρ x) (ρ y))
 | .unOp op _ x=>.p (Op.unary op (ρ x))
 | .convert s d x=>match Z5 P s d with|0=>.p (convert s d (ρ x))|1=>.q (convert s d (ρ x))|_=>.e (convert s d (ρ x))
 | .makeInterface t x=>.q (Instr.makeInterface t (ρ x))
 | .makeFunc fn first cap=>.val (.func fn (first.toList.map ρ).toArray (cap.toList.map ρ).toArray)
 | .makeMap t r=>.e (Instr.makeMap t (r.map ρ))
 | .makeSlice t l c=>.e (NQ t (ρ l) (ρ c))
 | .slice t x lo hi B=>.p (mA t (ρ x) (lo.map ρ) (hi.map ρ) (B.map ρ))
 | .fieldAddr s x f=>.p (z6 s (ρ x) f)
 | .field t x f=>.p (Instr.field t (ρ x) f)
 | .indexAddr t x i=>.p (z7 t (ρ x) (ρ i))
 | .index t x i=>.p (oK t (ρ x) (ρ i))
 | .lookup t x i ok=>.q (qn t (ρ x) (ρ i) ok)
 | .mapUpdate t m k x|.insert t m k x=>.u (Instr.mapUpdate t (ρ m) (ρ k) (ρ x))
 | .mapEntry t m k=>.e (Instr.mapEntry t (ρ m) (ρ k))
 | .entryStore t m s x=>.u (Instr.entryStore t (ρ m) (ρ s) (ρ x))
 | .range t x=>.e (Instr.range t (ρ x))
 | .next it s=>.e (Instr.next (ρ it) s o.type)
 | .entry it=>.q (Instr.entry (ρ it))
 | .typeAssert x t u ok=>.q (Instr.typeAssert (ρ x) t u ok)
 | .extract t i=>.p (K0 (ρ t) i)
 | .call c=>
  match c.callee with
  | .value (.func f)=>.call f (c.args.toList.map ρ)
  | .value x=>.Ih (ρ x) (c.args.toList.map ρ)
  | .invoke ..=>.bad
  | .builtin b=>
   match b with
   | .len=>if isMap P (c.argTypes.getD 0 0)then .q (Builtin.len_ c.argTypes o.type (c.args.toList.map ρ).toArray)else .p (Builtin.len_ c.argTypes o.type (c.args.toList.map ρ).toArray)
   | .cap=>.p (Builtin.cap_ c.argTypes o.type (c.args.toList.map ρ).toArray)
   | .min=>.p (Builtin.min_ c.argTypes o.type (c.args.toList.map ρ).toArray)
   | .max=>.p (Builtin.max_ c.argTypes o.type (c.args.toList.map ρ).toArray)
   | .append=>.e (Builtin.append_ c.argTypes o.type (c.args.toList.map ρ).toArray)
   | .copy=>.e (Builtin.copy_ c.argTypes o.type (c.args.toList.map ρ).toArray)
   | .clear=>.e (Builtin.clear_ c.argTypes o.type (c.args.toList.map ρ).toArray)
   | .delete=>.e (Builtin.delete_ c.argTypes o.type (c.args.toList.map ρ).toArray)
   | _=>.bad
 | _=>.bad
def Ax(P:Program)(k:yl)(K:Value->hM)(w:World):Prop:=
 match k with
 | .val v=>K v w
 | .p m=>dW P m (λv=>K v w)
 | .q m=>Aw P m w (λv=>K v w)
 | .e m=>lW P m w K
 | .u m=>Md P m w (λw'=>K undef w')
 | .call f args=>wJ P f args w K
 | .Ih fv args=>gM P fv args w K
 | .bad=>False
def yl.quiet:yl->Bool
 | .val _|.p _|.q _=>true
 | _=>false
def yl.reads:yl->Bool
 | .q _=>true
 | _=>false
def yl.has(P:Program)(k:yl)(w:World)(v:Value):Prop:=
 match k with
 | .val x=>x=v
 | .p m=>pr P m=some v
 | .q m=>m.run P w=.ok v w
 | _=>False
def Ax.has{P:Program}{k:yl}{K:Value->hM}{w:World}(u:k.quiet=true)(h:Ax P k K w):∃v,k.has P w v/\K v w:=by
 cases k<;>simp only[yl.quiet,FQ]at u<;>simp only[Ax]at h
 case val v=>exact⟨v,rfl,h⟩
 case p m=>exact h.ex
 case q m=>exact h.ex
def yl.Kl{P:Program}{k:yl}{w w':World}{v:Value}(u:k.reads=false)(h:k.has P w v):k.has P w' v:=by
 cases k<;>simp only[yl.has,yl.reads,Bool.true_eq_false]at *
 .exact h
 exact h
def Ax.Mv{P:Program}{k:yl}{K:Value->hM}{w:World}{v:Value}(h:k.has P w v)(B:K v w):Ax P k K w:=by
 cases k<;>simp only[yl.has]at h<;>simp only[Ax]
 case val u=>grind
 case p m=>exact⟨v,h,B⟩
 case q m=>exact⟨v,h,B⟩
def Ax.mono{P:Program}{k:yl}{K E:Value->hM}{w:World}(h:Ax P k K w)(B:∀v w,K v w->E v w):Ax P k E w:=by
 cases k<;>simp only[Ax]at *
 case val v=>grind
 case p m=>exact⟨let ⟨v,a,b⟩:=h.ex;⟨v,a,B _ _ b⟩⟩
 case q m=>exact⟨let ⟨v,a,b⟩:=h.ex;⟨v,a,B _ _ b⟩⟩
 case e m=>exact⟨let ⟨v,w',a,b⟩:=h.ex;⟨v,w',a,B _ _ b⟩⟩
 case u m=>exact⟨let ⟨w',a,b⟩:=h.ex;⟨w',a,B _ _ b⟩⟩
 case call f args=>
  rcases h.ex with⟨a,b⟩|⟨v,w',a,b⟩
  .exact⟨.inl ⟨a,b.mono λe w' r=>r.mono B⟩⟩
  .exact⟨.inr ⟨v,w',a,B _ _ b⟩⟩
 case Ih fv args=>
  rcases h.ex with⟨g,f,c,a,b,d⟩|⟨l,a,G,t,s,b,c,d⟩
  .exact⟨.inl ⟨g,f,c,a,b,d.mono λe w' r=>r.mono B⟩⟩
  .exact⟨.inr ⟨l,a,G,t,s,b,c,d.mono λe w' r=>r.mono B⟩⟩
def oX{r:Option Nat}{P:Program}{o:Oper}{a:Act}{w:World}:∀f,o.about P w a.eval=some f->(FO r).fn f:=λ_ _=>trivial
def Di{r:Option Nat}{P:Program}{o:Oper}{a:Act}{next:Act->hM}{Q:Exit->Act->hM}{f:FuncId}{args:Array Value}{w:World}
  {K:Value->hM}(h:Calls P f args w (oV K)) (E:∀v w',K v w'->next (a.put o.dst v) w'):o.uponIn (FO r) 0 P a next Q (.ok (.enter f args) w):=by
 rw[Oper.uponIn_enter]
 refine⟨yk,s4.2 (h.mono λe w' ⟨v,B,u⟩=>?_)⟩
 grind
def Aa{r:Option Nat}{P:Program}{o:Oper}{a:Act}{next:Act->hM}{Q:Exit->Act->hM}{l:Nat}{f:FuncId}{tmps:Array Value}{assign body:Code}{w:World}
  {K:Value->hM}(h:RoundIn (FO none) 0 P l f tmps assign body w (oV K)) (G:∀v w',K v w'->next (a.put o.dst v) w'):o.uponIn (FO r) 0 P a next Q (.ok (.round l f tmps assign body) w):=by
 rw[Oper.uponIn_round]
 refine⟨yk,?_⟩
 have u:RoundIn (FO r) 0 P l f tmps assign body w (oV K):=h
 refine u.mono λe w' ⟨v,B,E⟩=>?_
 grind
def iv{r:Option Nat}{P:Program}{o:Oper}{a:Act}{next:Act->hM}{Q:Exit->Act->hM}{w w':World}{v:Value}(u:∀c,o.op≠.defer c)
  (h:(execOp a.eval o).run P w=.ok (.value v) w') (B:next (a.put o.dst v) w'):o.wpIn (FO r) 0 P a w next Q:=by
 unfold Oper.wpIn;rw[Oper.semAt_eq _ _ _ u,h,Oper.uponIn_value];exact⟨oX,B⟩
def F8{r:Option Nat}{P:Program}{o:Oper}{a:Act}{next:Act->hM}{Q:Exit->Act->hM}{w w':World}(u:∀c,o.op≠.defer c)
  (h:(execOp a.eval o).run P w=.ok .skip w') (B:next (a.put o.dst undef) w'):o.wpIn (FO r) 0 P a w next Q:=by
 unfold Oper.wpIn;rw[Oper.semAt_eq _ _ _ u,h,Oper.uponIn_skip];exact⟨oX,B⟩
def Dj{P:Program}{m:Sem Value}{w w':World}{v:Value}(h:m.run P w=.ok v w') :
  (do pure (.value (<- m)):Sem Next).run P w=.ok (.value v) w':=by simp_all
def Z6{P:Program}{m:Sem Unit}{w w':World}(h:m.run P w=.ok () w') :
  (do m;pure .skip:Sem Next).run P w=.ok .skip w':=by simp_all
theorem xR{α β:Type}(f:α->β)(l:Array α):(l.toList.map f).toArray=l.map f:=by
 grind
def eqG(t:TypeId)(x y:Operand)(a b:Value):Sem Unit:=
 match a,b with
 | .nilIface,.nilIface=>if (Me x||Me y)=true then pure ()else do
   if <- Op.eqGuardIn Op.maxDepth t a b then unsupported (.noEntry "binop/eql: two nil values of an interface type with methods, neither of them the literal nil")
 | .agg _,.agg _=>do
  if !(<- program).eqGuardType (<- program).depth t then return
  if <- Op.eqGuardIn Op.maxDepth t a b then unsupported (.noEntry "binop/eql: two nil values of an interface type with methods, in a part of a struct or an array")
 | _,_=>pure ()
def wK{P:Program}{op:BinOp}(E:op=.eql\/op=.neq){t:TypeId}{x y:Operand}{a b:Value}{w w':World}{v:Value}
  (h:(Rs op t (Me x) (Me y) a b).run P w=.ok v w'):(eqGuard op t x y a b).run P w=.ok () w/\(binOp op t a b).run P w=.ok v w':=by
 have u:eqGuard op t x y a b=eqG t x y a b:=by rcases E with rfl|rfl<;>cases x<;>cases y<;>rfl
 rw[u]
 clear u
 unfold eqG
 unfold Rs at h
 split at h
 .split at h
  .simp_all
  simp_all
 .rename_i c1 c2
  have B : (if P.eqGuardType P.depth t then stuck "an interface in a part" else binOp op t (.agg c1) (.agg c2) : Sem Value).run P w=.ok v w' := h
  split at B
  .simp_all
  simp_all
 simp_all
def Dk{P:Program}{op:BinOp}{t:TypeId}{x y:Operand}{a b:Value}{w w':World}{v:Value}
  (h:(g9 op t (Me x) (Me y) a b).run P w=.ok v w'):(do eqGuard op t x y a b;binOp op t a b:Sem Value).run P w=.ok v w':=by
 unfold g9 at h
 split at h
 .obtain⟨h1,h2⟩:=wK (.inl rfl) h
  simp_all
 .obtain⟨h1,h2⟩:=wK (.inr rfl) h
  simp_all
 rename_i n1 n2
 have h1:(eqGuard op t x y a b).run P w=.ok () w:=by
  unfold eqGuard
  simp_all
 simp_all
theorem Ax.wp{r:Option Nat}{ds:List Nat}{P:Program}{n:Nat}{o:Oper}{e:Env}{a:Act}{w:World}{K:Value->hM}{Q:Exit->Act->hM}{next:Act->hM}
  (ha:gm ds n e a) (h:Ax P (tW P o (ev e)) K w) (I:∀v w',K v w'->next (a.put o.dst v) w'):o.wpIn (FO r) 0 P a w next Q:=by
 have G:=ha.eval
 have B:∀c,o.op≠.defer c:=λc hc=>by unfold tW at h;rw[hc]at h;exact h
 have V:∀{m:Sem Value},dW P m (λv=>K v w)->execOp (ev e) o=(do pure (.value (<- m)):Sem Next)->o.wpIn (FO r) 0 P a w next Q:=λM J=>by
  obtain⟨v,h1,h2⟩:=M.ex
  exact iv (w':=w) B (by rw[G,J];exact Dj (eM h1 w)) (I _ _ h2)
 have W:∀{m:Sem Value},Aw P m w (λv=>K v w)->execOp (ev e) o=(do pure (.value (<- m)):Sem Next)->o.wpIn (FO r) 0 P a w next Q:=λM J=>by
  obtain⟨v,h1,h2⟩:=M.ex
  exact iv (w':=w) B (by rw[G,J];exact Dj h1) (I _ _ h2)
 have E:∀{m:Sem Value},lW P m w K->execOp (ev e) o=(do pure (.value (<- m)):Sem Next)->o.wpIn (FO r) 0 P a w next Q:=λM J=>by
  obtain⟨v,w',h1,h2⟩:=M.ex
  exact iv B (by rw[G,J];exact Dj h1) (I _ _ h2)
 have U:∀{m:Sem Unit},Md P m w (λw'=>K undef w')->execOp (ev e) o=(do m;pure .skip:Sem Next)->o.wpIn (FO r) 0 P a w next Q:=λM J=>by
  obtain⟨w',h1,h2⟩:=M.ex
  exact F8 B (by rw[G,J];exact Z6 h1) (I _ _ h2)
 unfold tW at h
 cases g8:o.op with
 | move x=>rw[g8]at h;exact iv (w':=w) B (by rw[G];simp only[execOp,g8];rfl) (I _ _ h)
 | assign x=>rw[g8]at h;exact iv (w':=w) B (by rw[G];simp only[execOp,g8];rfl) (I _ _ h)
 | pick c x y=>
  rw[g8]at h
  obtain⟨v,h1,h2⟩:=h.ex
  refine iv (w':=w) B ?_ (I _ _ h2)
  rw[G];simp only[execOp,g8]
  have:=eM h1 w
  unfold Mu at this
  revert this
  cases ev e c<;>simp only[asBool]<;>intro this<;>first|(simp only[stuck]at this;exact absurd this (by simp[Sem.run]))|skip
  case bool t=>
   have e2:v=(if t=true then ev e x else ev e y):=by
    have:(Result.ok (if t=true then ev e x else ev e y) w:Result Value)=.ok v w:=this
    simpa using this.symm
   rw[e2];rfl
 | alloc t=>rw[g8]at h;exact E h (by simp only[execOp,g8])
 | box t x=>rw[g8]at h;exact E h (by simp only[execOp,g8])
 | build t ps=>rw[g8]at h;exact V h (by simp only[execOp,g8,xR])
 | buildSlice t n ps=>rw[g8]at h;exact E h (by simp only[execOp,g8,xR])
 | insert t m k x=>rw[g8]at h;exact U h (by simp only[execOp,g8])
 | load t x=>rw[g8]at h;exact W h (by simp only[execOp,g8])
 | store t x y=>rw[g8]at h;exact U h (by simp only[execOp,g8])
 | nilCheck x=>
  rw[g8]at h
  obtain⟨v,h1,h2⟩:=h.ex
  refine iv (w':=w) B ?_ (I _ _ h2)
  rw[G];simp only[execOp,g8]
  revert h1
  cases J:ev e x with
  | pointer p=>cases p<;>simp[Kk,stuck,pr,eW]<;>(try(rintro rfl;rfl))
  | func fn f c=>cases fn<;>simp[Kk,stuck,pr,eW]<;>(try(rintro rfl;rfl))
  | _=>simp[Kk,stuck,pr,eW]<;>(try(rintro rfl;rfl))
 | binOp op t x y u=>
  rw[g8]at h
  dsimp only at h
  split at h
  .obtain⟨v,h1,h2⟩:=h.ex
   exact iv (w':=w) B (by rw[G];simp only[execOp,g8];exact Dj (Dk h1)) (I _ _ h2)
  .obtain⟨v,h1,h2⟩:=h.ex
   exact iv (w':=w) B (by rw[G];simp only[execOp,g8];exact Dj (Dk (eM h1 w))) (I _ _ h2)
 | unOp op t x=>rw[g8]at h;exact V h (by simp only[execOp,g8])
 | convert s d x=>
  rw[g8]at h
  dsimp only at h
  split at h
  .exact V h (by simp only[execOp,g8])
  .exact W h (by simp only[execOp,g8])
  .exact E h (by simp only[execOp,g8])
 | makeInterface t x=>rw[g8]at h;exact W h (by simp only[execOp,g8])
 | makeFunc fn f c=>rw[g8]at h;exact iv (w':=w) B (by rw[G];simp only[execOp,g8,<- xR];rfl) (I _ _ h)
 | makeMap t r=>rw[g8]at h;exact E h (by simp only[execOp,g8])
 | makeSlice t l c=>rw[g8]at h;exact E h (by simp only[execOp,g8])
 | slice t x lo hi mx=>rw[g8]at h;exact V h (by simp only[execOp,g8])
 | fieldAddr s x f=>rw[g8]at h;exact V h (by simp only[execOp,g8])
 | field t x f=>rw[g8]at h;exact V h (by simp only[execOp,g8])
 | indexAddr t x i=>rw[g8]at h;exact V h (by simp only[execOp,g8])
 | index t x i=>rw[g8]at h;exact V h (by simp only[execOp,g8])
 | lookup t x i ok=>rw[g8]at h;exact W h (by simp only[execOp,g8])
 | mapUpdate t m k x=>rw[g8]at h;exact U h (by simp only[execOp,g8])
 | mapEntry t m k=>rw[g8]at h;exact E h (by simp only[execOp,g8])
 | entryStore t m s x=>rw[g8]at h;exact U h (by simp only[execOp,g8])
 | range t x=>rw[g8]at h;exact E h (by simp only[execOp,g8])
 | next it s=>rw[g8]at h;exact E h (by simp only[execOp,g8])
 | entry it=>rw[g8]at h;exact W h (by simp only[execOp,g8])
 | typeAssert x t u ok=>rw[g8]at h;exact W h (by simp only[execOp,g8])
 | extract t i=>rw[g8]at h;exact V h (by simp only[execOp,g8])
 | call c=>
  rw[g8]at h
  dsimp only at h
  have Y:(c.args.toList.map (ev e)).toArray=c.args.map (ev e):=xR _ _
  cases hc:c.callee with
  | value x=>
   rw[hc]at h
   have O:∀{g:FuncId}{first cap:Array Value},ev e x=.func (.func g) first cap->Plain P g->Calls P g (first++(c.args.toList.map (ev e)).toArray++cap) w (oV K)->o.wpIn (FO r) 0 P a w next Q:=by
    intro g first cap J M gN
    unfold Oper.wpIn
    rw[Oper.semAt_eq _ _ _ B]
    have hr:(execOp a.eval o).run P w=.ok (.enter g (first++(c.args.toList.map (ev e)).toArray++cap)) w:=by
     rw[G]
     simp only[execOp,g8]
     have h1:(resolve (ev e) c o.type).run P w=.ok {target:=.fn (.func g) cap,args:=first++c.args.map (ev e)} w:=by
      simp only[resolve,hc,J];rfl
     rw[dD h1]
     show(callFunc g (first++c.args.map (ev e)++cap)).run P w=_
     rw[tV M,Y]
    rw[hr]
    exact⟨oX,Di gN λv w' hv=>I v w' hv⟩
   have hyl:∀{l:Nat},ev e x=.func (.yield l) #[] #[]->YieldAt (FO none) 0 P l (c.args.toList.map (ev e)).toArray w (oV K)->o.wpIn (FO r) 0 P a w next Q:=by
    rintro l J ⟨fn,tmps,assign,body,hy,hr⟩
    unfold Oper.wpIn
    rw[Oper.semAt_eq _ _ _ B]
    have Rv:(execOp a.eval o).run P w=.ok (.round l fn tmps assign body) w:=by
     rw[G]
     simp only[execOp,g8]
     have h1:(resolve (ev e) c o.type).run P w=.ok {target:=.fn (.yield l) #[],args:=#[]++c.args.map (ev e)} w:=by
      simp only[resolve,hc,J];rfl
     rw[dD h1]
     show(Instr.yield l (#[]++c.args.map (ev e))).run P w=_
     rw[PH,<- Y];exact hy
    rw[Rv]
    exact⟨oX,Aa hr λv w' hv=>I v w' hv⟩
   have Z:gM P (ev e x) (c.args.toList.map (ev e)) w K->o.wpIn (FO r) 0 P a w next Q:=λh=>by
    rcases h.ex with⟨g,first,cap,h1,h2,h3⟩|⟨l,h1,h2⟩
    .exact O h1 h2 h3
    .exact hyl h1 h2
   cases x with
   | func f=>
    rcases h.ex with⟨h1,h2⟩|⟨v,w',h1,h2⟩
    .exact O (g:=f) (first:=#[]) (cap:=#[]) rfl h1 (by simpa using h2)
    .refine iv B ?_ (I _ _ h2)
     rw[G]
     simp only[execOp,g8]
     have h3:(resolve (ev e) c o.type).run P w=.ok {target:=.fn (.func f) #[],args:=#[]++c.args.map (ev e)} w:=by
      simp only[resolve,hc,ev];rfl
     rw[dD h3]
     show(callFunc f (#[]++c.args.map (ev e)++#[])).run P w=_
     rw[<- Y,PH,Array.append_empty]
     exact h1
   | tmp t=>exact Z h
   | const v=>exact Z h
   | global g=>exact Z h
  | invoke r nm=>rw[hc]at h;exact h.elim
  | builtin b=>
   rw[hc]at h
   dsimp only at h
   have hb:∀{m:Sem Value},builtin b c.argTypes o.type (c.args.map fun|.const _=>true|_=>false) (c.args.map (ev e))=(do pure (.value (<- m)):Sem Next)->
     execOp (ev e) o=(do pure (.value (<- m)):Sem Next):=by
    intro m hm
    simp only[execOp,g8]
    have h1:resolve (ev e) c o.type=pure {target:=.builtin b c.argTypes o.type (c.args.map fun|.const _=>true|_=>false),args:=c.args.map (ev e)}:=by
     simp only[resolve,hc];rfl
    rw[h1]
    exact hm
   rw[Y]at h
   cases b<;>first|exact h.elim|skip
   case len=>
    dsimp only at h
    split at h
    .exact W h (hb rfl)
    .exact V h (hb rfl)
   case cap=>exact V h (hb rfl)
   case min=>exact V h (hb rfl)
   case max=>exact V h (hb rfl)
   case append=>exact E h (hb rfl)
   case copy=>exact E h (hb rfl)
   case clear=>exact E h (hb rfl)
   case delete=>exact E h (hb rfl)
 | _=>rw[g8]at h;exact h.elim
def pre(o:Oper):List Nat:=(o.after.toList.filter λe=>Region.binds .any e).map (·.on)
def vz(u:List Oper)(j:Nat):Option Nat:=(u[j]?).bind (·.dst)
def looks(u:List Oper)(o:Oper):List Nat:=
 (o.op.operands.toList.filterMap fun|.tmp t=>some t|_=>none)++(match o.guard with|some (j,_)=>(vz u j).toList|none=>[])
def kH(u:List Oper)(o:Oper)(e:Env):Bool:=
 match o.guard with
 | none=>true
 | some (j,b)=>match vz u j with
  | none=>false
  | some s=>match e s with
   | .bool B=>B == b
   | _=>false
theorem Ay{E:List Nat}{n:Nat}{e:Env}{a:Act}(h:gm E n e a)(u:List Oper)(o:Oper):Region.wanted o (yielded u.toArray a.tmps)=kH u o e:=by
 unfold Region.wanted kH
 cases o.guard with
 | none=>rfl
 | some g=>
  obtain⟨j,b⟩:=g
  simp only[yielded,vz,H5]
  cases (u[j]?).bind (·.dst)with
  | none=>simp
  | some s=>
   have B:=h.get s
   simp only[kO]
   rw[<- B,vr]
   cases a.tmps[s]? with
   | none=>simp[undef]
   | some v=>grind
theorem Km{P:Program}{o:Oper}{ρ ρ':Operand->Value}(h:∀x∈o.op.operands,ρ x=ρ' x):tW P o ρ=tW P o ρ':=by
 unfold tW
 cases g8:o.op<;>rw[g8]at h<;>simp only[Op.operands]at h<;>dsimp only
 case call c=>
  have G:∀x∈c.args,ρ x=ρ' x:=λx E=>h x (by simp[Call.operands,E])
  have B:c.args.toList.map ρ=c.args.toList.map ρ':=vI λx E=>G x cR
  rw[B]
  cases hc:c.callee with
  | value x=>
   have E:ρ x=ρ' x:=h x (by simp[Call.operands,hc])
   grind
  | _=>rfl
 case build t ps=>
  have B:(ps.toList.map λq=>(q.1,ρ q.2))=ps.toList.map λq=>(q.1,ρ' q.2):=
   vI λq I=>cR
  grind
 case buildSlice t n ps=>
  have B:(ps.toList.map λq=>(q.1,ρ q.2))=ps.toList.map λq=>(q.1,ρ' q.2):=
   vI λq I=>cR
  grind
 case makeFunc fn f c=>
  simp_all
 case makeMap t r=>
  have:r.map ρ=r.map ρ':=by cases r with|none=>rfl|some x=>grind
  grind
 case slice t x lo hi mx=>
  have J:ρ x=ρ' x:=h x ew
  have h1:lo.map ρ=lo.map ρ':=by cases lo with|none=>rfl|some y=>grind
  have h2:hi.map ρ=hi.map ρ':=by cases hi with|none=>rfl|some y=>grind
  have h3:mx.map ρ=mx.map ρ':=by cases mx with|none=>rfl|some y=>grind
  grind
 case load t x=>grind
 case store t x y=>grind
 case pick c x y=>grind
 case binOp op t x y u=>grind
 case insert t m k x=>grind
 case mapUpdate t m k x=>grind
 case entryStore t m k x=>grind
 case mapEntry t m k=>grind
 case lookup t m k ok=>grind
 case indexAddr t m k=>grind
 case index t m k=>grind
 case makeSlice t m k=>grind
 all_goals grind
def Wa{e:Env}{d:Nat}{v:Value}{x:Operand}(h:x≠.tmp d):ev (tQ e d v) x=ev e x:=by
 cases x<;>simp only[ev]
 case tmp t=>exact kG _ _ λu=>h (by rw[u])
theorem xS{P:Program}{u:List Oper}{o:Oper}{e:Env}{d:Option Nat}{v:Value}(h:∀k,d=some k->k ∉ looks u o) :
  tW P o (ev (gF e d v))=tW P o (ev e):=by
 cases d with
 | none=>rfl
 | some d=>
  refine Km λx E=>Wa λB=>h d rfl ?_
  subst B
  exact List.mem_append_left _ (JH.2 ⟨.tmp d,cR,rfl⟩)
theorem rW{u:List Oper}{o:Oper}{e:Env}{d:Option Nat}{v:Value}(h:∀k,d=some k->k ∉ looks u o) :
  kH u o (gF e d v)=kH u o e:=by
 cases d with
 | none=>rfl
 | some d=>
  have h:=h d rfl
  unfold kH
  unfold looks at h
  cases hg:o.guard with
  | none=>rfl
  | some g=>
   obtain⟨j,b⟩:=g
   rw[hg]at h
   dsimp only at h |-
   cases hs:vz u j with
   | none=>rfl
   | some s=>
    rw[hs]at h
    have:s≠d:=λB=>h (by simp[B])
    simp only[gF,kG _ _ this]
def Mw(u:List Oper)(x y:Oper):Prop:=
 (∀d,x.dst=some d->d ∉ looks u y/\y.dst≠some d)/\(∀d,y.dst=some d->d ∉ looks u x)
theorem Kn{e:Env}{d u:Option Nat}{v B:Value}(h:∀k,d=some k->u≠some k):gF (gF e d v) u B=gF (gF e u B) d v:=by
 cases d with
 | none=>rfl
 | some d=>cases u with
  | none=>rfl
  | some u=>exact Mt _ _ _ λE=>h d rfl (by rw[E])
def xU(P:Program)(u:List Oper)(o:Oper)(K:Env->hM)(e:Env)(w:World):Prop:=
 if kH u o e=true then Ax P (tW P o (ev e)) (λv w'=>K (gF e o.dst v) w') w else K (gF e o.dst undef) w
def xU.mono{P:Program}{u:List Oper}{o:Oper}{K B:Env->hM}{e:Env}{w:World}(h:xU P u o K e w)
  (E:∀v w',K (gF e o.dst v) w'->B (gF e o.dst v) w'):xU P u o B e w:=by
 unfold xU at *
 split
 .rename_i hw;rw[fi hw]at h;exact h.mono λv w'=>E v w'
 grind
def F9(u:List Oper)(L:Nat->Bool)(i:Nat):Prop:=L i=false/\∃o,u[i]?=some o/\∀p∈pre o,L p=true
def jc(L:Nat->Bool)(i:Nat):Nat->Bool:=λk=>if k=i then true else L k
def Down(u:List Oper)(L:Nat->Bool):Prop:=∀i o,L i=true->u[i]?=some o->∀p∈pre o,L p=true
def Ko(L:Nat->Bool)(i:Nat):jc L i i=true:=by simp[jc]
theorem Ii(L:Nat->Bool){i k:Nat}(h:k≠i):jc L i k=L k:=by simp[jc,h]
def BM(L:Nat->Bool)(i:Nat){k:Nat}(h:L k=true):jc L i k=true:=by unfold jc;grind
theorem Kp(L:Nat->Bool)(i j:Nat):jc (jc L i) j=jc (jc L j) i:=by
 grind[jc]
def Down.set{u:List Oper}{L:Nat->Bool}{i:Nat}(h:Down u L)(E:F9 u L i):Down u (jc L i):=by
 intro k o B G p I
 by_cases e:k=i
 .subst e
  obtain⟨_,J,O,M⟩:=E
  grind[jc]
 rw[Ii _ e]at B
 exact BM _ _ (h k o B G p I)
def F9.set{u:List Oper}{L:Nat->Bool}{i j:Nat}(h:F9 u L j)(B:j≠i):F9 u (jc L i) j:=
 ⟨by rw[Ii _ B];exact h.1,let ⟨o,E,G⟩:=h.2;⟨o,E,λp I=>BM _ _ (G p I)⟩⟩
inductive Ga(ops:List Oper):Nat->Nat->Prop
 | one {j i:Nat}{o:Oper}(h:ops[j]?=some o) (hp:i∈pre o):Ga ops j i
 | more {j p i:Nat}{o:Oper}(h:ops[j]?=some o) (hp:p∈pre o) (hd:Ga ops p i):Ga ops j i
theorem Ga.listed{u:List Oper}{L:Nat->Bool}(G:Down u L){j i:Nat}(h:Ga u j i):(∀o,u[j]?=some o->∀p∈pre o,L p=true)->L i=true:=by
 induction h with
 | one h B=>grind
 | more h B O E=>intro J;exact E λo I q M=>G _ o (J _ h _ B) I q M
def Ga.Ab{u:List Oper}{L:Nat->Bool}(E:Down u L){j i:Nat}(h:Ga u j i)(B:F9 u L j):L i=true:=
 h.listed E λo G p M=>by obtain⟨_,I,O,J⟩:=B;grind
def WS(P:Program)(u:List Oper)(Q:Env->hM)(S:Nat->hM):Nat->(Nat->Bool)->Env->hM
 | 0,L,e,w=>(∀i,¬ F9 u L i)/\Q e w
 | f+1,L,e,w=>((∀i,¬ F9 u L i)->Q e w)/\
   ∀i o,u[i]?=some o->F9 u L i->xU P u o (λB w'=>(w'=w\/S i w')/\WS P u Q S f (jc L i) B w') e w
theorem WS.weaken{P:Program}{u:List Oper}{Q:Env->hM}{S E:Nat->hM}(h:∀i w,S i w->E i w) :
  ∀(f:Nat) (_L:Nat->Bool) (_e:Env) (_w:World),WS P u Q S f _L _e _w->WS P u Q E f _L _e _w
 | 0,_,_,_,B=>B
 | f+1,L,e,w,B=>⟨B.1,λi o I G=>(B.2 i o I G).mono λ_ _ ⟨h1,h2⟩=>⟨h1.imp id (h _ _),WS.weaken h f _ _ _ h2⟩⟩
theorem WS.first{P:Program}{B:List Oper}{Q:Env->hM}{S:Nat->hM}{i:Nat}{G:Oper}{X:yl}{b:Bool}{v:Value}
  (hi:B[i]?=some G) (hn:b=false->v=undef) :
  ∀(f:Nat) (L:Nat->Bool) (e:Env) (w:World),Down B L->F9 B L i->
   (∀j E,B[j]?=some E->j≠i->L j=false->i ∉ pre E->Mw B G E)->
   tW P G (ev e)=X->kH B G e=b->(b=true->X.has P w v)->
   WS P B Q (λj w'=>S j w'/\(Ga B j i\/(b=true->X.has P w' v))) f (jc L i) (gF e G.dst v) w->WS P B Q S (f+1) L e w:=by
 have done:∀(K:Env->hM) (e:Env) (w:World),tW P G (ev e)=X->kH B G e=b->(b=true->X.has P w v)->K (gF e G.dst v) w->xU P B G K e w:=by
  intro K e w hX hb hy I
  unfold xU
  rw[hb]
  cases b with
  | true=>rw[fi rfl,hX];exact Ax.Mv (hy rfl) I
  | false=>grind
 have sub:∀{f:Nat}{L:Nat->Bool}{e:Env}{w:World},WS P B Q (λj w'=>S j w'/\(Ga B j i\/(b=true->X.has P w' v))) f L e w->WS P B Q S f L e w:=
  λh=>WS.weaken (λ_ _ h=>h.1) _ _ _ _ h
 intro f
 induction f with
 | zero=>
  intro L e w hL O Ij hX hb hy H
  refine⟨λh=>absurd O (h i),λj E Z J=>?_⟩
  by_cases Y:j=i
  .grind
  .exact absurd (J.set Y) (H.1 j)
 | succ f ih=>
  intro L e w hL O Ij hX hb hy H
  refine⟨λh=>absurd O (h i),λj E Z J=>?_⟩
  by_cases Y:j=i
  .grind
  .have ej:i ∉ pre E:=λhp=>by
    obtain⟨_,W,Wb,qO⟩:=J.2.elim λW h=>(⟨trivial,W,h.1,h.2⟩:True/\∃W,B[j]?=some W/\∀p∈pre W,L p=true)
    rw[Z]at Wb;cases Wb
    have:=qO i hp
    rw[O.1]at this;cases this
   have M:=Ij j E Z Y J.1 ej
   have Z8:¬ Ga B j i:=λhd=>by
    have:=hd.Ab hL J
    rw[O.1]at this;cases this
   have h1:=H.2 j E Z (J.set Y)
   have V:∀k,G.dst=some k->k ∉ looks B E:=λk I=>(M.1 k I).1
   have U:∀k,E.dst=some k->k ∉ looks B G:=λk I=>M.2 k I
   have dd:∀k,G.dst=some k->E.dst≠some k:=λk I=>(M.1 k I).2
   have cont:∀(u:Value) (w':World),(w'=w\/(S j w'/\(Ga B j i\/(b=true->X.has P w' v))))->
     WS P B Q (λj w'=>S j w'/\(Ga B j i\/(b=true->X.has P w' v))) f (jc (jc L i) j) (gF (gF e G.dst v) E.dst u) w'->
     (w'=w\/S j w')/\WS P B Q S (f+1) (jc L j) (gF e E.dst u) w':=by
    intro u w' hw hWS
    refine⟨hw.imp id λh=>h.1,?_⟩
    refine ih (jc L j) (gF e E.dst u) w' (hL.set J) (O.set (Ne.symm Y)) ?_ ?_ ?_ ?_ ?_
    .grind[jc,pre,Mw]
    .rw[xS U];exact hX
    .rw[rW U];exact hb
    .grind
    .rw[Kp,Kn λk I=>cR]
     exact hWS
   unfold xU at h1 |-
   rw[rW V]at h1
   split
   .rename_i hw
    rw[fi hw,xS V]at h1
    exact h1.mono λu w' hh=>cont u w' hh.1 hh.2
   grind
def wr(u:List Oper):List Nat:=u.filterMap (·.dst)
def Mx{u:List Oper}{i:Nat}{o:Oper}{d:Nat}(h:u[i]?=some o)(B:o.dst=some d):d∈wr u:=
 JH.2 ⟨o,List.mem_of_getElem? h,B⟩
theorem s6{e e0:Env}{u:List Oper}{i:Nat}{o:Oper}(h:∀k,k ∉ wr u->e k=e0 k)(E:u[i]?=some o)(v:Value) :
  ∀k,k ∉ wr u->gF e o.dst v k=e0 k:=by
 intro k B
 cases hd:o.dst with
 | none=>exact h k B
 | some d=>
  have:k≠d:=λG=>B (by rw[G];exact Mx E hd)
  simp only[gF,kG _ _ this]
  grind
def xU.wpOp{r:Option Nat}{J:List Nat}{P:Program}{n:Nat}{u:List Oper}{i:Nat}{o:Oper}{K:Env->hM}{G:Act->hM}{O:Exit->Act->hM}{e:Env}{a:Act}{w:World}
  (U:u[i]?=some o) (I:∀k,o.dst=some k->k<n) (B:gm J n e a) (h:xU P u o K e w)
  (M:∀v E w',gm J n (gF e o.dst v) E->K (gF e o.dst v) w'->G E w'):wpOpIn (FO r) 0 P u.toArray O i G a w:=by
 unfold Go.wpOpIn
 simp only[H5,U]
 rw[Ay B]
 unfold xU at h
 split
 .rename_i hw
  rw[fi hw]at h
  exact Ax.wp B h λv w' V=>M v _ _ (B.put I v) V
 rename_i hw
 rw[ez hw]at h
 exact⟨oX,M undef _ _ (B.put I undef) h⟩
theorem WS.any{r:Option Nat}{Y:List Nat}{P:Program}{n:Nat}{u:List Oper}{Q:Env->hM}{V:Exit->Act->hM}{S:Nat->hM}{e0:Env}
  (hd:∀d∈wr u,d<n) (W:∀e a w,gm Y n e a->(∀k,k ∉ wr u->e k=e0 k)->Q e w->V .normal a w) :
  ∀(f:Nat) (L:Nat->Bool) (listed:Array Bool) (e:Env) (a:Act) (w:World),gm Y n e a->(∀k,k ∉ wr u->e k=e0 k)->listed.size=u.length->
   (∀i,listed.getD i false=L i)->WS P u Q S f L e w->wpAnyIn (FO r) 0 P .any u.toArray V f listed a w:=by
 have B:∀(L:Nat->Bool) (listed:Array Bool) (_:listed.size=u.length) (_:∀i,listed.getD i false=L i) (i:Nat),
   i∈Region.ready .any u.toArray listed↔F9 u L i:=by
  intro L listed I E i
  rw[mem_ready]
  have Z:∀o,u[i]?=some o->listed.getD i true=L i:=λo G=>by
   grind
  unfold F9 pre
  grind
 intro f
 induction f with
 | zero=>
  intro L listed e a w M J I E h
  refine⟨?_,W e a w M J h.2⟩
  cases O:Region.ready .any u.toArray listed with
  | nil=>rfl
  | cons i r=>exact absurd ((B L listed I E i).1 cR) (h.1 i)
 | succ f ih=>
  intro L listed e a w M J I E h
  refine⟨λhn=>W e a w M J (h.1 λi hi=>?_),λi hi=>?_⟩
  .have:=(B L listed I E i).2 hi
   grind
  .have O:=(B L listed I E i).1 hi
   obtain⟨o,G,_⟩:=O.2
   refine xU.wpOp G (λk hk=>hd k (Mx G hk)) M (h.2 i o G O) λv a' w' BN hh=>?_
   refine ih (jc L i) _ _ a' w' BN (s6 J G v) cR (λk=>?_) hh.2
   have kI:i<listed.size:=cR
   have U:=E k
   simp only[vr]at U |-
   grind[jc]
def WS.region{r:Option Nat}{G:List Nat}{P:Program}{n:Nat}{id:Nat}{u:List Oper}{Q:Env->hM}{E:Exit->Act->hM}{S:Nat->hM}{e:Env}{a:Act}{w:World}
  (J:P.follows .mixedOrders=true) (M:∀d∈wr u,d<n) (O:gm G n e a)
  (I:∀B a w,gm G n B a->(∀k,k ∉ wr u->B k=e k)->Q B w->E .normal a w)
  (h:WS P u Q S u.length (λ_=>false) e {w with drawn:=w.drawn+1}):(Va id u.toArray true).wpIn (FO r) 0 P E a w:=by
 refine wpIn_region_any J ?_
 rw[Eb]
 refine WS.any M I u.length (λ_=>false) _ e a _ O (λ_ _=>rfl) ew (λi=>?_) h
 simp only[vr,Array.getElem?_replicate]
 grind
def lk(s:Nat):List (Nat×Option Bool)->Option (Option Bool)
 | []=>none
 | q::r=>bif u1 q.1 s then some q.2 else lk s r
def BO(d:Nat):List (Nat×Option Bool)->List (Nat×Option Bool)
 | []=>[]
 | q::r=>bif u1 q.1 d then BO d r else q::BO d r
def del(d:Option Nat)(u:List (Nat×Option Bool)):List (Nat×Option Bool):=match d with|none=>u|some d=>BO d u
def xV(u:List (Nat×Option Bool)):Operand->Option Bool
 | .const (.bool b)=>some b
 | .tmp t=>match lk t u with|some b=>b|none=>none
 | _=>none
def Uu(u:List (Nat×Option Bool)):Op->Option Operand
 | .move x=>some x
 | .assign x=>some x
 | .pick (.tmp c) a b=>match lk c u with|some (some t)=>some (bif t then a else b)|_=>none
 | _=>none
def My(u:List (Nat×Option Bool))(d:Option Nat)(x:Operand):List (Nat×Option Bool):=
 match d,xV u x with
 | some d,some b=>(d,some b)::BO d u
 | d,_=>del d u
def ofK:Option Bool->Value|some b=>.bool b|none=>undef
def im(u:List (Nat×Option Bool))(e:Env):Prop:=∀s b,lk s u=some b->e s=ofK b
theorem ym(n:Nat):u1 n n=true:=Nat.beq_refl n
theorem vA{a b:Nat}(h:a≠b):u1 a b=false:=by
 cases hh:u1 a b
 .rfl
 simp_all
theorem Rx(s d:Nat)(u:List (Nat×Option Bool)):lk s (BO d u)=if s=d then none else lk s u:=by
 induction u with
 | nil=>simp[BO,lk]
 | cons q r B=>
  simp only[BO,lk]
  by_cases h1:q.1=d
  .rw[h1,ym,cond_true,B]
   by_cases h2:s=d
   .simp[h2]
   .rw[ez h2,ez h2,vA (λE=>h2 E.symm),cond_false]
  .rw[vA h1,cond_false]
   simp only[lk,B]
   by_cases h2:q.1=s
   .grind
   .rw[vA h2,cond_false,cond_false]
def im.nil(e:Env):im [] e:=λs b h=>by simp[lk]at h
theorem im.del{E:List (Nat×Option Bool)}{e:Env}(h:im E e)(d:Option Nat)(v:Value):im (del d E) (gF e d v):=by
 cases d with
 | none=>exact h
 | some d=>
  intro s b B
  simp only[Fw.del,Rx]at B
  by_cases u:s=d
  .simp[u]at B
  .rw[ez u]at B
   simp only[gF,kG _ _ u]
   exact h s b B
def im.cons{B:List (Nat×Option Bool)}{e:Env}(h:im B e){s:Nat}{b:Option Bool}(E:e s=ofK b):im ((s,b)::B) e:=by
 intro s' G u
 simp only[lk]at u
 by_cases h1:s=s'
 .subst h1;rw[ym,cond_true]at u;cases u;exact E
 rw[vA h1,cond_false]at u;exact h _ _ u
theorem im.known{E:List (Nat×Option Bool)}{e:Env}(h:im E e){x:Operand}{b:Bool}(B:xV E x=some b):ev e x=.bool b:=by
 cases x with
 | tmp t=>
  have u:(match lk t E with|some b=>b|none=>none)=some b:=B
  split at u
  .rename_i b' hb;subst u;exact h t _ hb
  grind
 | const v=>cases v<;>simp[xV]at B;simp[ev,B]
 | _=>simp[xV]at B
def im.Wc{u:List (Nat×Option Bool)}{e:Env}(h:im u e)(d:Option Nat)(x:Operand):im (My u d x) (gF e d (ev e x)):=by
 unfold My
 split
 .rename_i d b hb
  have h1:=h.del (some d) (ev e x)
  exact im.cons (b:=some b) h1 (by simp only[gF,jP];exact h.known hb)
 exact h.del _ _
def oY(P:Program)(u:List Oper)(r:Oper)(e:Env)(w:World)(R:Prop):Prop:=
 bif kH u r e then(match tW P r (ev e),r.dst with|.q m,some d=>Ig P m (e d) w R|_,_=>False)else R
def tX(P:Program)(u:List Oper):List Oper->Env->World->Prop->Prop
 | [],_,_,R=>R
 | r::ks,e,w,R=>oY P u r e w (tX P u ks e w R)
theorem Dl{P:Program}{u:List Oper}{ks:List Oper}{e:Env}{w:World}{R:Prop}:tX P u ks e w R->(∀r∈ks,oY P u r e w True)/\R:=by
 induction ks with
 | nil=>intro h;exact⟨ew,h⟩
 | cons r ks B=>
  intro h
  have:oY P u r e w True/\tX P u ks e w R:=by
   simp only[tX,oY]at h |-
   cases hw:kH u r e with
   | false=>grind
   | true=>
    rw[hw]at h
    simp only[cond_true]at h |-
    cases hk:tW P r (ev e)<;>rw[hk]at h<;>cases hd:r.dst<;>rw[hd]at h<;>first|grind|skip
    exact⟨⟨h.Z4,trivial⟩,h.rest⟩
  grind
def yn(n:Nat)(o:Oper):Bool:=match o.dst with|none=>true|some d=>TM d n
def Uv(P:Program)(u:List Oper)(o:Oper)(ks:List Oper)(rec:List (Nat×Option Bool)->Env->hM)(B:List (Nat×Option Bool))(e:Env)(w:World):Prop:=
 match Uu B o.op with
 | some x=>rec (My B o.dst x) (gF e o.dst (ev e x)) w
 | none=>Ax P (tW P o (ev e)) (λv w'=>tX P u ks (gF e o.dst v) w' (rec (del o.dst B) (gF e o.dst v) w')) w
def Z9(o:Oper)(rec:List (Nat×Option Bool)->Env->hM)(u:List (Nat×Option Bool))(e:Env)(w:World):Prop:=
 rec (match o.dst with|some d=>(d,none)::BO d u|none=>u) (gF e o.dst undef) w
theorem im.skip{u:List (Nat×Option Bool)}{e:Env}(h:im u e)(d:Option Nat) :
  im (match d with|some d=>(d,none)::BO d u|none=>u) (gF e d undef):=by
 cases d with
 | none=>exact h
 | some d=>exact im.cons (b:=none) (h.del (some d) undef) (by simp only[gF,jP];rfl)
def DS(P:Program)(n:Nat)(u:List Oper)(q:Oper×List Oper)(rec:List (Nat×Option Bool)->Env->hM)(B:List (Nat×Option Bool))(e:Env)(w:World):Prop:=
  bif yn n q.1 then
   match q.1.guard with
   | none=>Uv P u q.1 q.2 rec B e w
   | some g=>match vz u g.1 with
    | none=>False
    | some s=>match lk s B with
     | some none=>Z9 q.1 rec B e w
     | some (some E)=>bif E == g.2 then Uv P u q.1 q.2 rec B e w else Z9 q.1 rec B e w
     | none=>sN (e s)
       (bif g.2 then Uv P u q.1 q.2 rec ((s,some true)::B) (tQ e s (.bool true)) w else Z9 q.1 rec ((s,some true)::B) (tQ e s (.bool true)) w)
       (bif g.2 then Z9 q.1 rec ((s,some false)::B) (tQ e s (.bool false)) w else Uv P u q.1 q.2 rec ((s,some false)::B) (tQ e s (.bool false)) w)
  else False
def DR(P:Program)(n:Nat)(u:List Oper):List (Oper×List Oper)->(Env->hM)->List (Nat×Option Bool)->Env->hM
 | [],Q,_,e,w=>Q e w
 | q::rest,Q,kg,e,w=>DS P n u q (DR P n u rest Q) kg e w
def rX{P:Program}{u:List Oper}{o:Oper}{ks:List Oper}{rec:List (Nat×Option Bool)->Env->hM}{E:List (Nat×Option Bool)}{e:Env}{w:World}
  (B:im E e) (h:Uv P u o ks rec E e w) :
  Ax P (tW P o (ev e)) (λv w'=>(w'=w\/∀r∈ks,oY P u r (gF e o.dst v) w' True)/\∃G,im G (gF e o.dst v)/\rec G (gF e o.dst v) w') w:=by
 unfold Uv at h
 split at h
 .rename_i x hx
  have I:(tW P o (ev e)).has P w (ev e x):=by
   unfold tW
   cases g8:o.op<;>rw[g8]at hx<;>simp only[Uu]at hx<;>first|cases hx|skip
   case move y=>simp only[yl.has]
   case assign y=>simp only[yl.has]
   case pick c a b=>
    cases c<;>simp only at hx<;>first|cases hx|skip
    rename_i c
    split at hx
    .rename_i t ht
     cases hx
     have hc:e c=.bool t:=B c _ ht
     simp only[yl.has,ev,hc,Mu]
     cases t<;>rfl
    .cases hx
  exact Ax.Mv I ⟨.inl rfl,_,B.Wc _ _,h⟩
 refine h.mono λv w' J=>?_
 have:=Dl J
 exact⟨.inr this.1,_,B.del _ _,this.2⟩
theorem BP{P:Program}{n:Nat}{u:List Oper}{q:Oper×List Oper}{rec:List (Nat×Option Bool)->Env->hM}{G:List (Nat×Option Bool)}{e:Env}{w:World}
  (B:im G e) (h:DS P n u q rec G e w) :
  (∀d,q.1.dst=some d->d<n)/\
  xU P u q.1 (λV w'=>(w'=w\/∀r∈q.2,oY P u r V w' True)/\∃M,im M V/\rec M V w') e w:=by
 unfold DS at h
 cases hd:yn n q.1 with
 | false=>grind
 | true=>
  rw[hd]at h
  refine⟨λd Z=>by unfold yn at hd;simp_all,?_⟩
  have O:∀{G:List (Nat×Option Bool)},im G e->Z9 q.1 rec G e w->
    (w=w\/∀r∈q.2,oY P u r (gF e q.1.dst undef) w True)/\∃M,im M (gF e q.1.dst undef)/\rec M (gF e q.1.dst undef) w:=
   λB h=>⟨.inl rfl,_,B.skip _,h⟩
  simp only[cond_true]at h
  unfold xU
  cases hg:q.1.guard with
  | none=>
   rw[hg]at h
   have U:kH u q.1 e=true:=by unfold kH;rw[hg]
   rw[fi U]
   exact rX B h
  | some g=>
   obtain⟨j,b⟩:=g
   rw[hg]at h
   dsimp only at h
   cases hs:vz u j with
   | none=>rw[hs]at h;exact h.elim
   | some s=>
    rw[hs]at h
    dsimp only at h
    have U:∀t,e s=.bool t->kH u q.1 e=(t == b):=λt ht=>by unfold kH;rw[hg];dsimp only;rw[hs];dsimp only;rw[ht]
    cases hl:lk s G with
    | some Y=>
     rw[hl]at h
     cases Y with
     | none=>
      dsimp only at h
      have hu:kH u q.1 e=false:=by
       unfold kH;rw[hg];dsimp only;rw[hs];dsimp only;rw[B s none hl];rfl
      rw[ez (by rw[hu];simp)]
      exact O B h
     | some W=>
      dsimp only at h
      rw[U W (B s _ hl)]
      cases hb:W == b with
      | true=>rw[hb]at h;rw[fi rfl];exact rX B h
      | false=>rw[hb]at h;rw[ez ew];exact O B h
    | none=>
     rw[hl]at h
     obtain⟨t,ht,J,E⟩:=h.ex
     rw[U t ht]
     have I:∀c,t=c->tQ e s (.bool c)=e:=λc hc=>V9 _ _ _ (by rw[ht,hc])
     cases t with
     | true=>
      have J:=J rfl
      rw[I true rfl]at J
      cases b with
      | true=>rw[fi (by rfl)];exact rX (B.cons (b:=some _) ht) J
      | false=>rw[ez ew];exact O (B.cons (b:=some _) ht) J
     | false=>
      have E:=E rfl
      rw[I false rfl]at E
      cases b with
      | true=>rw[ez ew];exact O (B.cons (b:=some _) ht) E
      | false=>rw[fi (by rfl)];exact rX (B.cons (b:=some _) ht) E
theorem DR.list{r:Option Nat}{Y:List Nat}{P:Program}{n:Nat}{u:List Oper}{Q:Env->hM}{U:Exit->Act->hM}{e0:Env}
  (hQ:∀e a w,gm Y n e a->(∀k,k ∉ wr u->e k=e0 k)->Q e w->U .normal a w) :
  ∀(l:List Oper) (I:List (Nat×Option Bool)) (e:Env) (a:Act) (w:World),(∀o∈l,o∈u)->gm Y n e a->(∀k,k ∉ wr u->e k=e0 k)->im I e->
   DR P n u (l.map λo=>(o,[])) Q I e w->wpListIn (FO r) 0 P u.toArray U l a w:=by
 intro l
 induction l with
 | nil=>intro I e a w _ B G _ h;exact hQ e a w B G h
 | cons o l ih=>
  intro I e a w V B G hk h
  obtain⟨W,E⟩:=BP hk h
  obtain⟨i,hi⟩:=List.getElem?_of_mem (V o oj)
  have Z:∀x∈l,x∈u:=λx hx=>V x (o5 _ hx)
  unfold wpListIn
  rw[Ay B]
  unfold xU at E
  split
  .rename_i hw
   rw[fi hw]at E
   exact Ax.wp B E λv w' ⟨_,O,J,M⟩=>ih O _ _ w' Z (B.put W v) (s6 G hi v) J M
  .rename_i hw
   rw[ez hw]at E
   obtain⟨_,O,J,M⟩:=E
   exact⟨oX,ih O _ _ w Z (B.put W undef) (s6 G hi undef) J M⟩
def DR.region{r:Option Nat}{G:List Nat}{P:Program}{n:Nat}{id:Nat}{u:List Oper}{Q:Env->hM}{E:Exit->Act->hM}{e:Env}{a:Act}{w:World}
  (I:gm G n e a) (J:∀B a w,gm G n B a->(∀k,k ∉ wr u->B k=e k)->Q B w->E .normal a w)
  (h:DR P n u (u.map λo=>(o,[])) Q [] e w):(Va id u.toArray false).wpIn (FO r) 0 P E a w:=
 wpIn_region_lit (DR.list J u [] e a w (λ_ h=>h) I (λ_ _=>rfl) (im.nil e) h)
def Gb(P:Program)(o:Oper):Bool:=(tW P o λ_=>undef).quiet
def BQ(P:Program)(o:Oper):Bool:=(tW P o λ_=>undef).reads
theorem Dm{P:Program}{o:Oper}(ρ ρ':Operand->Value):(tW P o ρ).quiet=(tW P o ρ').quiet/\(tW P o ρ).reads=(tW P o ρ').reads:=by
 unfold tW
 cases o.op<;>try exact⟨rfl,rfl⟩
 case binOp op t x y u=>dsimp only;split<;>exact⟨rfl,rfl⟩
 case convert s d x=>dsimp only;split<;>exact⟨rfl,rfl⟩
 case call c=>
  dsimp only
  cases c.callee with
  | value x=>cases x<;>exact⟨rfl,rfl⟩
  | invoke r nm=>grind
  | builtin b=>cases b<;>dsimp only<;>first|exact⟨rfl,rfl⟩|(split<;>exact⟨rfl,rfl⟩)
def fD(d:Nat):List Nat->Bool
 | []=>false
 | x::r=>u1 x d||fD d r
theorem tY{d:Nat}{l:List Nat}:fD d l=true↔d∈l:=by
 induction l with
 | nil=>simp[fD]
 | cons x r u=>
  simp only[fD,rH,u,oS]
  constructor
  .rintro(h|h)
   .simp_all
   grind
  .rintro(rfl|h)
   .simp_all
   grind
def Il{d:Nat}{l:List Nat}:fD d l=false↔d ∉ l:=by
 rw[<- tY];simp
def eqO(d:Nat):Option Nat->Bool|none=>false|some k=>u1 k d
theorem Ry{d:Nat}{o:Option Nat}:eqO d o=true↔o=some d:=by
 cases o with
 | none=>simp[eqO]
 | some k=>simp_all[eqO]
def BR(u:List Oper)(x y:Oper):Bool:=match y.dst with|none=>true|some d=>!fD d (looks u x)&&!eqO d x.dst
def vB{u:List Oper}{x y:Oper}(h:BR u x y=true):∀d,y.dst=some d->d ∉ looks u x/\x.dst≠some d:=by
 intro d B
 unfold BR at h
 rw[B]at h
 simp only[nw,px]at h
 exact⟨Il.1 h.1,λE=>by rw[<- Ry]at E;grind⟩
def Gc(u:List Oper)(x y:Oper):Bool:=BR u y x&&BR u x y
def Dn{u:List Oper}{x y:Oper}(h:Gc u x y=true):Mw u x y:=by
 simp only[Gc,nw]at h
 exact⟨λd B=>vB h.1 d B,λd B=>(vB h.2 d B).1⟩
def vC(f:Nat->Oper->Bool):Nat->List Oper->Bool
 | _,[]=>true
 | k,o::r=>f k o&&vC f (k+1) r
theorem ki{f:Nat->Oper->Bool}{l:List Oper}:∀{k:Nat},vC f k l=true->∀i o,l[i]?=some o->f (k+i) o=true:=by
 induction l with
 | nil=>grind
 | cons x r u=>
  grind[vC]
def xo:List Nat->Nat->Nat
 | [],_=>0
 | x::_,0=>x
 | _::r,n+1=>xo r n
def AA(u:List Nat):List Nat->Nat
 | []=>0
 | p::r=>G7 (G7 (z8 1 p) (xo u p)) (AA u r)
def AB(B:List Oper)(u:List Nat):Bool:=
 vC (λj o=>(pre o).all (λp=>TM p j)&&u1 (xo u j) (AA u (pre o))) 0 B
theorem Kq{u l:List Nat}{i:Nat}(h:(AA u l).testBit i=true):∃p∈l,p=i\/(xo u p).testBit i=true:=by
 induction l with
 | nil=>simp[AA]at h
 | cons p r E=>
  have B:(((1 <<< p) ||| xo u p) ||| AA u r).testBit i=true:=h
  simp only[Ot,rH]at B
  rcases B with(B|B)|B
  .refine⟨p,ew,.inl ?_⟩
   rw[JL,Jz]at B
   grind
  .grind
  grind
theorem AD{u:List Oper}{B:List Nat}(h:AB u B=true):∀(n j:Nat),j<n->j<u.length->∀i,(xo B j).testBit i=true->Ga u j i:=by
 intro n
 induction n with
 | zero=>omega
 | succ n J=>
  intro j O hlen i hi
  obtain⟨o,E⟩:∃o,u[j]?=some o:=⟨u[j],by simp[hlen]⟩
  have:=ki h j o E
  simp only[o6,nw,wH]at this
  obtain⟨h1,h2⟩:=this
  have h2:=Ia h2
  rw[h2]at hi
  obtain⟨p,I,G⟩:=Kq hi
  rcases G with rfl|G
  .exact .one E I
  .have M:p<j:=by simp_all
   exact .more E I (J p bP bP i G)
def bit(m i:Nat):Bool:=Nat.testBit m i
def AE(u:List Oper)(y:Oper):Bool:=match y.dst with|none=>false|some d=>!fD d (looks u y)
theorem Gd{u:List Oper}{y:Oper}(h:AE u y=true):∃d,y.dst=some d/\d ∉ looks u y:=by
 unfold AE at h
 cases hd:y.dst with
 | none=>grind
 | some d=>rw[hd]at h;exact⟨d,rfl,Il.1 cR⟩
def Mz(P:Program)(u:List Oper)(B:List Nat)(m i:Nat)(ks:List Nat):Bool:=
 match u[i]? with
 | none=>false
 | some o=>
  !bit m i&&((pre o).all (λp=>bit m p) &&
  (bif Gb P o then
   vC (λj y=>u1 j i||(bit m j||(fD i (pre y)||Gc u o y))) 0 u
  else
   vC (λj y=>u1 j i||(bit m j||!(pre y).all λp=>bit m p)) 0 u &&
   (vC (λr y=>!bit m r||(!BQ P y||(bit (xo B i) r||fD r ks))) 0 u &&
   ks.all (λr=>match u[r]? with
    | none=>false
    | some y=>AE u y&&vC (λj z=>u1 j r||(bit (xo B r) j||BR u y z)) 0 u))))
inductive PT where
 | nil
 | stop
 | op (i:Nat) (ks:List Nat) (r:PT)
 | alt (i:Nat) (ks:List Nat) (r o:PT)
def PT.of:List (Nat×List Nat)->PT
 | []=>.nil
 | q::r=>.op q.1 q.2 (PT.of r)
def PT.ids:PT->List Nat
 | .alt i _ _ o=>i::o.ids
 | _=>[]
def PT.many:PT->Bool
 | .alt _ _ _ _=>true
 | .op _ _ r=>r.many
 | _=>false
def Uw(P:Program)(u:List Oper)(B:List Nat)(m i:Nat)(ks:List Nat):Bool:=
 match u[i]? with
 | none=>false
 | some o=>
  !bit m i&&((pre o).all (λp=>bit m p)&&(!Gb P o&&(
   (vC (λr y=>!bit m r||(!BQ P y||(bit (xo B i) r||fD r ks))) 0 u &&
   ks.all (λr=>match u[r]? with
    | none=>false
    | some y=>AE u y&&vC (λj z=>u1 j r||(bit (xo B r) j||BR u y z)) 0 u)))))
def Im(P:Program)(u:List Oper)(B:List Nat):Bool->Nat->Nat->PT->Bool
 | c,f,m,.nil=>!c&&(u1 f 0&&vC (λj _=>bit m j) 0 u)
 | c,_,_,.stop=>c
 | c,f,m,.op i ks r=>!c&&(match f with|0=>false|E+1=>Mz P u B m i ks&&Im P u B false E (G7 m (z8 1 i)) r)
 | c,f,m,.alt i ks r o=>(c||vC (λj y=>bit m j||(!(pre y).all (λp=>bit m p)||fD j (i::o.ids))) 0 u) &&
  ((match f with|0=>false|E+1=>Uw P u B m i ks&&Im P u B false E (G7 m (z8 1 i)) r)&&Im P u B true f m o)
def AF(B:List Oper):List Nat:=B.foldl (λu o=>u++[AA u (pre o)]) []
def PT.run(k:Nat):Nat->PT
 | 0=>.nil
 | n+1=>.op k [] (PT.run (k+1) n)
def qF(u:List Oper)(i:Nat):Oper:=(u[i]?).getD default
def DT(P:Program)(n:Nat)(u:List Oper):PT->(Env->hM)->List (Nat×Option Bool)->Env->hM
 | .nil,Q,_,e,w=>Q e w
 | .stop,_,_,_,_=>True
 | .op i ks r,Q,B,e,w=>DS P n u (qF u i,ks.map (qF u)) (DT P n u r Q) B e w
 | .alt i ks r o,Q,B,e,w=>DS P n u (qF u i,ks.map (qF u)) (DT P n u r Q) B e w/\DT P n u o Q B e w
def DQ(P:Program)(u:List Oper):PT->(Env->hM)->Env->hM
 | .nil,Q,e,w=>Q e w
 | .stop,_,_,_=>True
 | .op i ks r,Q,e,w=>xU P u (qF u i) (λB w'=>(w'=w\/∀r∈ks.map (qF u),oY P u r B w' True)/\DQ P u r Q B w') e w
 | .alt i ks r o,Q,e,w=>xU P u (qF u i) (λB w'=>(w'=w\/∀r∈ks.map (qF u),oY P u r B w' True)/\DQ P u r Q B w') e w/\DQ P u o Q e w
theorem DT.plain{P:Program}{n:Nat}{B:List Oper}{Q:Env->hM}:∀(p:PT) (u:List (Nat×Option Bool)) (e:Env) (w:World),im u e->DT P n B p Q u e w->DQ P B p Q e w:=by
 intro p
 induction p with
 | nil=>intro u e w _ h;exact h
 | stop=>intro u e w _ _;trivial
 | op i ks p G=>intro u e w E h;exact(BP E h).2.mono λv w' ⟨h1,I,h2,h3⟩=>⟨h1,G I _ _ h2 h3⟩
 | alt i ks p o G J=>intro u e w E h;exact⟨(BP E h.1).2.mono λv w' ⟨h1,I,h2,h3⟩=>⟨h1,G I _ _ h2 h3⟩,J u e w E h.2⟩
structure Tk where
 idx:Nat
 o:Oper
 b:Bool
 X:yl
 v:Value
structure yo(P:Program)(ops:List Oper)(L:Nat->Bool)(T:List Tk)(e:Env):Prop where
 op:∀x∈T,ops[x.idx]?=some x.o
 listed:∀x∈T,L x.idx=true
 kind:∀x∈T,x.X.reads=BQ P x.o
 still:∀x∈T,x.X.reads=false->x.b=true->∀w,x.X.has P w x.v
 reads:∀x∈T,x.X.reads=true->(∀j z,ops[j]?=some z->j≠x.idx->Ga ops x.idx j\/BR ops x.o z=true)->AE ops x.o=true->
  tW P x.o (ev e)=x.X/\kH ops x.o e=x.b/\∃d,x.o.dst=some d/\(x.b=true->e d=x.v)
def ST(P:Program)(u:List Oper)(T:List Tk):Nat->hM:=λj w=>∀x∈T,Ga u j x.idx\/(x.b=true->x.X.has P w x.v)
def Io{m i:Nat}:(λk=>bit (G7 m (z8 1 i)) k)=jc (λk=>bit m k) i:=by
 funext k
 show(m ||| 1 <<< i).testBit k=_
 rw[Ot,JL,Jz]
 grind[jc,bit]
theorem yo.next{P:Program}{u:List Oper}{L:Nat->Bool}{T:List Tk}{e:Env}(h:yo P u L T e)(O:Down u L){i:Nat}{o:Oper}(ho:u[i]?=some o)(hi:L i=false)(v:Value) :
  yo P u (jc L i) T (gF e o.dst v):=by
 refine⟨h.op,λx E=>BM _ _ (h.listed x E),h.kind,h.still,λx E hr W I=>?_⟩
 obtain⟨h1,h2,d,U,h3⟩:=h.reads x E hr W I
 have Y:i≠x.idx:=λV=>by have:=h.listed x E;grind
 have G:BR u x.o o=true:=by
  rcases W i o ho Y with Z8|G
  .have:L i=true:=Z8.listed O λo' Wb p Z=>O x.idx o' (h.listed x E) Wb p Z
   grind
  omega
 have B:=vB G
 refine⟨by rw[xS λk M=>(B k M).1];exact h1,by rw[rW λk M=>(B k M).1];exact h2,d,U,λhb=>?_⟩
 have:=h3 hb
 cases MA:o.dst with
 | none=>exact this
 | some k=>
  have J:d≠k:=λV=>(B k MA).2 (by rw[U,V])
  simp only[gF,kG _ _ J]
  exact this
theorem Dp{P:Program}{u:List Oper}{G:List Nat}(hc:AB u G=true){f m i:Nat}{ks:List Nat}{o:Oper}{T:List Tk}{e:Env}{w:World}{Q:Env->hM}{rec:Env->hM}
  (V:u[i]?=some o) (Uy:bit m i=false) (Z:Down u (bit m)) (E:yo P u (bit m) T e)
  (s7:∀(r:Nat) (y:Oper),u[r]?=some y->(!bit m r||(!BQ P y||(bit (xo G i) r||fD r ks)))=true)
  (Dq:∀r∈ks,(match u[r]? with|none=>false|some y=>AE u y&&vC (λj z=>u1 j r||(bit (xo G r) j||BR u y z)) 0 u)=true)
  (gn:xU P u o (λM w'=>(w'=w\/∀r∈ks.map (qF u),oY P u r M w' True)/\rec M w') e w)
  (U:∀v w',yo P u (jc (bit m) i) T (gF e o.dst v)->rec (gF e o.dst v) w'->WS P u Q (ST P u T) f (jc (bit m) i) (gF e o.dst v) w') :
  xU P u o (λM w'=>(w'=w\/ST P u T i w')/\WS P u Q (ST P u T) f (jc (bit m) i) M w') e w:=by
 refine gn.mono λv w' hh=>?_
 obtain⟨I,tZ⟩:=hh
 have Rz:=E.next Z V Uy v
 refine⟨?_,?_⟩
 .rcases I with hw|I
  .grind
  refine .inr λx B=>?_
  cases Mf:x.X.reads with
  | false=>exact .inr λhb=>E.still x B Mf hb w'
  | true=>
   have h1:=s7 x.idx x.o (E.op x B)
   simp only[rH,px]at h1
   rcases h1 with h1|h1|h1|h1
   .have:=E.listed x B;grind
   .have:=E.kind x B;grind
   .have Mg:i<u.length:=(jq.1 V).1
    exact .inl (AD hc (i+1) i bP Mg _ h1)
   .have W:=tY.1 h1
    have h2:=Dq x.idx W
    rw[E.op x B]at h2
    simp only[nw]at h2
    obtain⟨O,h2⟩:=h2
    have h2:=ki h2
    have ZI:x.idx<u.length:=(jq.1 (E.op x B)).1
    obtain⟨e1,Y,d,hd,e3⟩:=Rz.reads x B Mf (λk z hz Az=>by
     have:=h2 k z hz
     simp only[o6,rH]at this
     rcases this with h3|h3|h3
     .simp_all
     .exact .inl (AD hc (x.idx+1) x.idx bP ZI _ h3)
     grind) O
    refine .inr λhb=>?_
    have J:=I x.o (List.mem_map.2 ⟨x.idx,W,by simp[qF,E.op x B]⟩)
    unfold oY at J
    rw[Y,hb,e1,hd]at J
    simp only[cond_true]at J
    cases hX:x.X<;>rw[hX]at J Mf<;>first|grind|cases Mf|skip
    have:=J.Z4
    rw[e3 hb]at this
    exact this
 grind
theorem RB{P:Program}{u:List Oper}{Y:List Nat}{Q:Env->hM}(hc:AB u Y=true) :
  ∀(p:PT) (f m:Nat) (T:List Tk) (e:Env) (w:World),
   Down u (bit m)->yo P u (bit m) T e->DQ P u p Q e w->
   (Im P u Y false f m p=true->WS P u Q (ST P u T) f (bit m) e w)/\
   (Im P u Y true f m p=true->∀j∈p.ids,∃f',f=f'+1/\F9 u (bit m) j/\∀M,u[j]?=some M->xU P u M (λW w'=>(w'=w\/ST P u T j w')/\WS P u Q (ST P u T) f' (jc (bit m) j) W w') e w):=by
 intro p
 induction p with
 | nil=>
  intro f m T e w O hT h
  refine⟨λB=>?_,λ_ j I=>by cases I⟩
  simp only[Im,Hk,tx,nw]at B
  have qO:=ki B.2
  rw[Ia B.1]
  refine⟨λi hr=>?_,h⟩
  obtain⟨h0,o,J,_⟩:=hr
  grind
 | stop=>
  intro f m T e w O hT h
  exact⟨λB=>by simp[Im]at B,λ_ j I=>by cases I⟩
 | op i ks p ih=>
  intro f m T e w O hT h
  refine⟨λB=>?_,λ_ j I=>by cases I⟩
  simp only[Im,Hk,tx]at B
  cases f with
  | zero=>cases B
  | succ f=>
   simp only[nw]at B
   obtain⟨G,B⟩:=B
   unfold Mz at G
   cases J:u[i]? with
   | none=>rw[J]at G;cases G
   | some o=>
   rw[J]at G
   simp only[nw,px,wH]at G
   obtain⟨Uy,Wd,G⟩:=G
   have hr:F9 u (bit m) i:=⟨Uy,o,J,Wd⟩
   have Z:qF u i=o:=by simp[qF,J]
   have U:xU P u (qF u i) (λW w'=>(w'=w\/∀r∈ks.map (qF u),oY P u r W w' True)/\DQ P u p Q W w') e w:=h
   rw[Z]at U
   have Ac:(bit (G7 m (z8 1 i)))=jc (bit m) i:=Io
   have hL':Down u (jc (bit m) i):=O.set hr
   cases hq:Gb P o with
   | true=>
    rw[hq]at G
    simp only[cond_true]at G
    have Ij:=ki G
    have hqq:∀ρ,(tW P o ρ).quiet=true:=λρ=>by rw[(Dm ρ λ_=>undef).1];exact hq
    obtain⟨b,v,hb,hn,hy,tZ⟩:∃b v,kH u o e=b/\(b=false->v=undef)/\(b=true->(tW P o (ev e)).has P w v)/\
      DQ P u p Q (gF e o.dst v) w:=by
     unfold xU at U
     cases hb:kH u o e with
     | true=>
      rw[fi hb]at U
      obtain⟨v,hv,_,tZ⟩:=U.has (hqq _)
      exact⟨true,v,rfl,ew,λ_=>hv,tZ⟩
     | false=>
      rw[ez (by rw[hb];simp)]at U
      obtain⟨_,tZ⟩:=U
      exact⟨false,undef,rfl,λ_=>rfl,ew,tZ⟩
    refine WS.first (X:=tW P o (ev e)) J hn f (bit m) e w O hr ?_ rfl hb hy ?_
    .intro j M V Rw agl Z
     have:=Ij j M V
     simp only[o6,rH]at this
     rcases this with h1|h1|h1|h1
     .exact absurd (Ia h1) Rw
     .rw[agl]at h1;cases h1
     .exact absurd (tY.1 h1) Z
     .exact Dn h1
    .have hT':yo P u (jc (bit m) i) (⟨i,o,b,tW P o (ev e),v⟩::T) (gF e o.dst v):=by
      have Rz:=hT.next O J Uy v
      constructor
      .intro x E;rcases oS.1 E with rfl|E
       .exact J
       .exact Rz.op x E
      .intro x E;rcases oS.1 E with rfl|E
       .exact Ko _ _
       .exact Rz.listed x E
      .intro x E;rcases oS.1 E with rfl|E
       .exact(Dm _ _).2
       .exact Rz.kind x E
      .intro x E;rcases oS.1 E with rfl|E
       .intro h1 h2 w';exact yl.Kl h1 (hy h2)
       .exact Rz.still x E
      .intro x E;rcases oS.1 E with rfl|E
       .intro h1 h2 h3
        obtain⟨d,hd,Ra⟩:=Gd h3
        dsimp only at hd Ra |-
        have hh:∀k,o.dst=some k->k ∉ looks u o:=λk hk=>by rw[hd]at hk;cases hk;exact Ra
        refine⟨xS hh,by rw[rW hh];exact hb,d,hd,λ_=>?_⟩
        rw[hd];exact jP _ _ _
       .exact Rz.reads x E
     have:=(ih f _ _ _ w (by rw[Ac];exact hL') (by rw[Ac];exact hT') tZ).1 B
     rw[Ac]at this
     refine WS.weaken (λj w' I=>?_) _ _ _ _ this
     exact⟨λx E=>I x (o5 _ E),I _ oj⟩
   | false=>
    rw[hq]at G
    simp only[cond_false,nw,wH]at G
    obtain⟨MC,s7,Dq⟩:=G
    have MC:=ki MC
    have s7:=ki s7
    refine⟨λZ=>absurd hr (Z i),λj M V I=>?_⟩
    have Rw:j=i:=by
     have:=MC j M V
     simp only[o6,rH,px]at this
     rcases this with h1|h1|h1
     .simp_all
     .have:=I.1;grind
     .obtain⟨_,o',Wb,qO⟩:=I
      grind
    subst Rw
    rw[J]at V;cases V
    refine Dp hc J Uy O hT (λr y hy=>cR) Dq U λv w' Rz tZ=>?_
    grind
 | alt i ks p o' ih Ux=>
  intro f m T e w O hT h
  obtain⟨h1,h2⟩:xU P u (qF u i) (λW w'=>(w'=w\/∀r∈ks.map (qF u),oY P u r W w' True)/\DQ P u p Q W w') e w/\DQ P u o' Q e w:=h
  have chain:∀c,Im P u Y c f m (.alt i ks p o')=true->∀j∈i::o'.ids,∃f',f=f'+1/\F9 u (bit m) j/\∀M,u[j]?=some M->xU P u M (λW w'=>(w'=w\/ST P u T j w')/\WS P u Q (ST P u T) f' (jc (bit m) j) W w') e w:=by
   intro c B
   simp only[Im,nw]at B
   obtain⟨_,B,We⟩:=B
   cases f with
   | zero=>cases B
   | succ f=>
    simp only[nw]at B
    obtain⟨G,B⟩:=B
    intro j I
    rcases oS.1 I with rfl|I
    .unfold Uw at G
     cases J:u[j]? with
     | none=>rw[J]at G;cases G
     | some o=>
      rw[J]at G
      simp only[nw,px,wH]at G
      obtain⟨Uy,Wd,_,s7,Dq⟩:=G
      have hr:F9 u (bit m) j:=⟨Uy,o,J,Wd⟩
      refine⟨f,rfl,hr,λM V=>?_⟩
      cases V
      have s7:=ki s7
      have Z:qF u j=o:=by simp[qF,J]
      rw[Z]at h1
      have U:=h1
      have Ac:(bit (G7 m (z8 1 j)))=jc (bit m) j:=Io
      have hL':Down u (jc (bit m) j):=O.set hr
      refine Dp hc J Uy O hT (λr y hy=>cR) Dq U λv w' Rz tZ=>?_
      grind
    .exact(Ux (f+1) m T e w O hT h2).2 We j I
  refine⟨λB=>?_,λB=>chain true B⟩
  have hch:=chain false B
  simp only[Im,Bool.false_or,nw]at B
  have agm:=ki B.1
  obtain⟨f',rfl,hri,_⟩:=hch i oj
  refine⟨λZ=>absurd hri (Z i),λj M V I=>?_⟩
  have Dr:j∈i::o'.ids:=by
   have:=agm j M V
   simp only[o6,rH,px]at this
   rcases this with h3|h3|h3
   .have:=I.1;grind
   .obtain⟨_,o2,ho2,qO⟩:=I
    grind
   .exact tY.1 h3
  obtain⟨f2,hf,_,U⟩:=hch j Dr
  simp_all
structure wL(F:(hM)->Prop)(G:hM):Prop where
 ex:∃I:hM,F I/\∀w,I w->G w
structure MD(B:(hM)->hM)(F:(hM)->Prop):Prop where
 ex:∃I:Nat->hM,(∃m,F (I m))/\∀m w,I m w->B (λw'=>∃m',m'<m/\I m' w') w
structure eo(F:(Value->hM)->Prop)(G:Value->hM):Prop where
 ex:∃I:Value->hM,F I/\∀x0 w,I x0 w->G x0 w
structure jC(B:(Value->hM)->Value->hM)(F:(Value->hM)->Prop):Prop where
 ex:∃I:Nat->Value->hM,(∃m,F (I m))/\∀m x0 w,I m x0 w->B (λy0 w'=>∃m',m'<m/\I m' y0 w') x0 w
structure ME(F:(Value->Value->hM)->Prop)(G:Value->Value->hM):Prop where
 ex:∃I:Value->Value->hM,F I/\∀x0 x1 w,I x0 x1 w->G x0 x1 w
structure nX(B:(Value->Value->hM)->Value->Value->hM)(F:(Value->Value->hM)->Prop):Prop where
 ex:∃I:Nat->Value->Value->hM,(∃m,F (I m))/\∀m x0 x1 w,I m x0 x1 w->B (λy0 y1 w'=>∃m',m'<m/\I m' y0 y1 w') x0 x1 w
structure aad(F:(Value->Value->Value->hM)->Prop)(G:Value->Value->Value->hM):Prop where
 ex:∃I:Value->Value->Value->hM,F I/\∀x0 x1 x2 w,I x0 x1 x2 w->G x0 x1 x2 w
structure Uz(B:(Value->Value->Value->hM)->Value->Value->Value->hM)(F:(Value->Value->Value->hM)->Prop):Prop where
 ex:∃I:Nat->Value->Value->Value->hM,(∃m,F (I m))/\∀m x0 x1 x2 w,I m x0 x1 x2 w->B (λy0 y1 y2 w'=>∃m',m'<m/\I m' y0 y1 y2 w') x0 x1 x2 w
structure aae(F:(Value->Value->Value->Value->hM)->Prop)(G:Value->Value->Value->Value->hM):Prop where
 ex:∃I:Value->Value->Value->Value->hM,F I/\∀x0 x1 x2 x3 w,I x0 x1 x2 x3 w->G x0 x1 x2 x3 w
structure aaf(B:(Value->Value->Value->Value->hM)->Value->Value->Value->Value->hM)(F:(Value->Value->Value->Value->hM)->Prop):Prop where
 ex:∃I:Nat->Value->Value->Value->Value->hM,(∃m,F (I m))/\∀m x0 x1 x2 x3 w,I m x0 x1 x2 x3 w->B (λy0 y1 y2 y3 w'=>∃m',m'<m/\I m' y0 y1 y2 y3 w') x0 x1 x2 x3 w
structure aag(F:(Value->Value->Value->Value->Value->hM)->Prop)(G:Value->Value->Value->Value->Value->hM):Prop where
 ex:∃I:Value->Value->Value->Value->Value->hM,F I/\∀x0 x1 x2 x3 x4 w,I x0 x1 x2 x3 x4 w->G x0 x1 x2 x3 x4 w
structure aah(B:(Value->Value->Value->Value->Value->hM)->Value->Value->Value->Value->Value->hM)(F:(Value->Value->Value->Value->Value->hM)->Prop):Prop where
 ex:∃I:Nat->Value->Value->Value->Value->Value->hM,(∃m,F (I m))/\∀m x0 x1 x2 x3 x4 w,I m x0 x1 x2 x3 x4 w->B (λy0 y1 y2 y3 y4 w'=>∃m',m'<m/\I m' y0 y1 y2 y3 y4 w') x0 x1 x2 x3 x4 w
def Rb(i:Nat):List (Nat×Value)->Value->Value
 | [],d=>d
 | q::r,d=>bif u1 q.1 i then q.2 else Rb i r d
def Ad(e:Env)(M:Nat)(u:List (Nat×Value))(dead:Env):Env:=λi=>bif bit M i then Rb i u (dead i)else e i
def ua(l:List Nat)(F:(Env->hM)->Prop)(G:List (Nat×Value)->hM):Prop:=
 match l with
 | []=>wL (λK=>F λe w=>K w) (λw=>G [] w)
 | [u]=>eo (λK=>F λe w=>K (e u) w) (λE w=>G [(u,E)] w)
 | [u,B]=>ME (λK=>F λe w=>K (e u) (e B) w) (λE J w=>G [(u,E),(B,J)] w)
 | [u,B,I]=>aad (λK=>F λe w=>K (e u) (e B) (e I) w) (λE J O w=>G [(u,E),(B,J),(I,O)] w)
 | [u,B,I,M]=>aae (λK=>F λe w=>K (e u) (e B) (e I) (e M) w) (λE J O U w=>G [(u,E),(B,J),(I,O),(M,U)] w)
 | [u,B,I,M,V]=>aag (λK=>F λe w=>K (e u) (e B) (e I) (e M) (e V) w) (λE J O U W w=>G [(u,E),(B,J),(I,O),(M,U),(V,W)] w)
 | _=>False
def ub(l:List Nat)(B:(Env->hM)->List (Nat×Value)->hM)(e:Env)(w:World):Prop:=
 match l with
 | []=>MD (λK w=>B (λu w'=>K w') [] w) (λK=>K w)
 | [E]=>jC (λK J w=>B (λu w'=>K (u E) w') [(E,J)] w) (λK=>K (e E) w)
 | [E,G]=>nX (λK J M w=>B (λu w'=>K (u E) (u G) w') [(E,J),(G,M)] w) (λK=>K (e E) (e G) w)
 | [E,G,I]=>Uz (λK J M U w=>B (λu w'=>K (u E) (u G) (u I) w') [(E,J),(G,M),(I,U)] w) (λK=>K (e E) (e G) (e I) w)
 | [E,G,I,O]=>aaf (λK J M U V w=>B (λu w'=>K (u E) (u G) (u I) (u O) w') [(E,J),(G,M),(I,U),(O,V)] w) (λK=>K (e E) (e G) (e I) (e O) w)
 | [E,G,I,O,W]=>aah (λK J M U V Y w=>B (λu w'=>K (u E) (u G) (u I) (u O) (u W) w') [(E,J),(G,M),(I,U),(O,V),(W,Y)] w) (λK=>K (e E) (e G) (e I) (e O) (e W) w)
 | _=>False
def gz(l:List Nat)(e:Env):List (Nat×Value):=l.map λa=>(a,e a)
def ua.spec{l:List Nat}{F:(Env->hM)->Prop}{G:List (Nat×Value)->hM}(h:ua l F G) :
  ∃I:List (Nat×Value)->hM,F (λe w=>I (gz l e) w)/\∀(e:Env) w,I (gz l e) w->G (gz l e) w:=by
 unfold ua at h
 split at h
 .obtain⟨I,h1,h2⟩:=h.ex
  exact⟨λ_ w=>I w,h1,λ_ w hi=>h2 w hi⟩
 .obtain⟨I,h1,h2⟩:=h.ex
  exact⟨λq w=>match q with|[u]=>I u.2 w|_=>False,h1,λe w hi=>h2 _ w hi⟩
 .obtain⟨I,h1,h2⟩:=h.ex
  exact⟨λq w=>match q with|[u,B]=>I u.2 B.2 w|_=>False,h1,λe w hi=>h2 _ _ w hi⟩
 .obtain⟨I,h1,h2⟩:=h.ex
  exact⟨λq w=>match q with|[u,B,E]=>I u.2 B.2 E.2 w|_=>False,h1,λe w hi=>h2 _ _ _ w hi⟩
 .obtain⟨I,h1,h2⟩:=h.ex
  exact⟨λq w=>match q with|[u,B,E,J]=>I u.2 B.2 E.2 J.2 w|_=>False,h1,λe w hi=>h2 _ _ _ _ w hi⟩
 .obtain⟨I,h1,h2⟩:=h.ex
  exact⟨λq w=>match q with|[u,B,E,J,M]=>I u.2 B.2 E.2 J.2 M.2 w|_=>False,h1,λe w hi=>h2 _ _ _ _ _ w hi⟩
 grind
def ub.spec{l:List Nat}{B:(Env->hM)->List (Nat×Value)->hM}{e:Env}{w:World}(h:ub l B e w) :
  ∃I:Nat->List (Nat×Value)->hM,(∃m,I m (gz l e) w)/\
   ∀m e w,I m (gz l e) w->B (λU w'=>∃M,M<m/\I M (gz l U) w') (gz l e) w:=by
 unfold ub at h
 split at h
 .obtain⟨I,⟨m,h1⟩,h2⟩:=h.ex
  exact⟨λm _ w=>I m w,⟨m,h1⟩,λm _ w hi=>h2 m w hi⟩
 .obtain⟨I,⟨m,h1⟩,h2⟩:=h.ex
  exact⟨λm q w=>match q with|[u]=>I m u.2 w|_=>False,⟨m,h1⟩,λm e w hi=>h2 m _ w hi⟩
 .obtain⟨I,⟨m,h1⟩,h2⟩:=h.ex
  exact⟨λm q w=>match q with|[u,E]=>I m u.2 E.2 w|_=>False,⟨m,h1⟩,λm e w hi=>h2 m _ _ w hi⟩
 .obtain⟨I,⟨m,h1⟩,h2⟩:=h.ex
  exact⟨λm q w=>match q with|[u,E,G]=>I m u.2 E.2 G.2 w|_=>False,⟨m,h1⟩,λm e w hi=>h2 m _ _ _ w hi⟩
 .obtain⟨I,⟨m,h1⟩,h2⟩:=h.ex
  exact⟨λm q w=>match q with|[u,E,G,J]=>I m u.2 E.2 G.2 J.2 w|_=>False,⟨m,h1⟩,λm e w hi=>h2 m _ _ _ _ w hi⟩
 .obtain⟨I,⟨m,h1⟩,h2⟩:=h.ex
  exact⟨λm q w=>match q with|[u,E,G,J,O]=>I m u.2 E.2 G.2 J.2 O.2 w|_=>False,⟨m,h1⟩,λm e w hi=>h2 m _ _ _ _ _ w hi⟩
 grind
def MF(m d:Nat):Nat:=G7 m (z8 1 d)
def aai(m d:Nat):Nat:=bif bit m d then Nat.sub m (z8 1 d)else m
def tc:List Nat->Nat
 | []=>0
 | d::r=>MF (tc r) d
def qP:List Operand->Nat->Nat
 | [],m=>m
 | .tmp t::r,m=>MF (qP r m) t
 | _::r,m=>qP r m
def lkX(id:Nat):List (Nat×Nat)->Nat
 | []=>0
 | q::r=>bif u1 q.1 id then q.2 else lkX id r
def MG:List Oper->Nat->Nat
 | [],lo=>lo
 | o::r,lo=>qP o.op.operands.toList (match o.dst with|some d=>aai (MG r lo) d|none=>MG r lo)
def aaj:List Nat->Nat->Nat
 | [],m=>m
 | d::r,m=>aaj r (aai m d)
def li(rl:Nat):Code->List (Nat×Nat)->Nat->Nat
 | .skip,_,lo=>lo
 | .ret,_,_=>rl
 | .exit id,X,_=>lkX id X
 | .region _ ops _,_,lo=>MG ops.toList lo
 | .seq a b,X,lo=>li rl a X (li rl b X lo)
 | .cond c a b,X,lo=>qP [c] (G7 (li rl a X lo) (li rl b X lo))
 | .block id c,X,lo=>li rl c ((id,lo)::X) lo
 | .loop c,X,_=>li rl c X (li rl c X 0)
 | .rangeFunc g ps a b,X,lo=>qP [g] (G7 lo (aaj ps.toList (li rl a X (li rl b X lo))))
 | _,_,_=>0
def er:Code->Bool
 | .seq a b=>er a||er b
 | .cond _ a b=>er a||er b
 | .block _ c=>er c
 | .loop c=>er c
 | .rangeFunc _ _ _ _=>true
 | _=>false
def fJ:Code->Nat
 | .region _ ops _=>tc (wr ops.toList)
 | .seq a b=>G7 (fJ a) (fJ b)
 | .cond _ a b=>G7 (fJ a) (fJ b)
 | .block _ c=>fJ c
 | .loop c=>fJ c
 | _=>0
def guarded:List Oper->Bool
 | []=>false
 | o::r=>o.guard.isSome||guarded r
def RC(a b:Nat):Nat:=Nat.add a b
mutual
def RD(id:Nat):Code->Nat
 | .exit k=>bif u1 k id then 1 else 0
 | .seq a b=>bif u1 (RE a) 0 then RD id a else RC (RD id a) (RD id b)
 | .cond _ a b=>RC (RD id a) (RD id b)
 | .block _ c=>RD id c
 | .loop c=>RD id c
 | .rangeFunc _ _ _ b=>RD id b
 | _=>0
def RE:Code->Nat
 | .skip=>1
 | .region _ ops _=>bif guarded ops.toList then 2 else 1
 | .seq a b=>bif u1 (RE a) 0 then 0 else RE b
 | .cond _ a b=>RC (RE a) (RE b)
 | .block id c=>RC (RE c) (RD id c)
 | .rangeFunc _ _ _ _=>1
 | _=>0
end
def eZ(m:Nat):Nat->Nat->List Nat
 | 0,_=>[]
 | f+1,i=>bif bit m i then i::eZ m f (i+1)else eZ m f (i+1)
abbrev xp:=Exit->List Nat->Env->hM
def nY(K:List Nat->Env->hM)(Q:xp):xp
 | .normal,u,e,w=>K u e w
 | x,u,e,w=>Q x u e w
def MH(id:Nat)(Q:xp):xp
 | .exit k,u,e,w=>bif u1 k id then Q .normal u e w else Q (.exit k) u e w
 | x,u,e,w=>Q x u e w
def MI(K:Option Code->hM):xp
 | .normal,_,_,w=>K none w
 | .ret,_,_,w=>K (some .ret) w
 | .exit id,_,_,w=>K (some (.exit id)) w
 | _,_,_,_=>False
def Wc(N R:Nat->hM)(X:Nat->Nat->hM):Option Code->Nat->hM
 | none=>N
 | some .ret=>R
 | some (.exit id)=>X id
 | _=>λ_ _=>False
def outs:List Nat->Code->Bool
 | l,.exit id=>!(l.any λk=>u1 k id)
 | l,.seq a b=>outs l a||outs l b
 | l,.cond _ a b=>outs l a||outs l b
 | l,.block id c=>outs (id::l) c
 | l,.loop c=>outs l c
 | _,_=>false
def yp:List Value->Nat->Value
 | [],_=>undef
 | v::_,0=>v
 | _::r,k+1=>yp r k
def AG(args:List Value):List Nat->Nat->Env->Env
 | [],_,e=>e
 | p::r,k,e=>AG args r (k+1) (tQ e p (yp args k))
def iQ(u:List Nat):Value:=.tuple (u.map fun (D:Nat)=>mj .u64 (D:Int)).toArray
def Wf:Value->Nat
 | .int _ n=>n.toNat
 | _=>0
def uc:Value->List Nat
 | .tuple vs=>vs.toList.map Wf
 | _=>[]
theorem vD(u:List Nat):uc (iQ u)=u:=by
 show(u.map fun (D:Nat)=>mj .u64 (D:Int)).map Wf=u
 rw[List.map_map]
 conv=>rhs;rw[<- List.map_id u]
 exact vI λD _=>by simp[Wf]
structure ud(P:Program)(fv:Value)(np:Nat)(w:World)(round:List Value->World->(World->(hM)->Prop)->(Option Code->hM)->Prop)(after:Option Code->Nat->hM):Prop where
 ex:∃gf cap,fv=.func (.func gf) #[] cap/\Plain P gf/\∀L0:Loop,L0.state=.ready->L0.pending=none->
  (∀(args:List Value) (W:World) (K:Value->hM),args.length=np->W.heap[w.heap.size+1]?=some (.loop L0)->
   round args W (λw1 k=>w1.heap[w.heap.size+1]?=some (.loop L0)/\k (w1.putObj (w.heap.size+1) (.loop {L0 with state:=.busy})))
    (λj W'=>W'.heap[w.heap.size+1]?=some (.loop {L0 with state:=.busy})/\K (.bool j.isNone) (W'.putObj (w.heap.size+1) (.loop {L0 with state:=if j.isNone then .ready else .done,pending:=j})))->
   YieldAt (FO none) 0 P (w.heap.size+1) args.toArray W (oV K))->
  Calls P gf (#[.func (.yield (w.heap.size+1)) #[] #[]]++cap) ((w.alloc (.deferred (some []))).alloc (.loop L0))
   (oV λ_ W2=>∃st j,st≠.busy/\W2.heap[w.heap.size+1]?=some (.loop {L0 with state:=st,pending:=j})/\after j w.heap.size (W2.putObj (w.heap.size+1) (.loop {L0 with state:=.exhausted,pending:=j})))
abbrev dI:=Nat->PT
def Ds(pl:dI):Code->Bool
 | .region id _ true=>(pl id).many
 | .block _ c=>Ds pl c
 | .seq a b=>Ds pl a||Ds pl b
 | .cond _ a b=>Ds pl a||Ds pl b
 | _=>false
def drew(w:World):World:={w with drawn:=w.drawn+1}
def D(P:Program)(n:Nat)(pl:dI)(rl:Nat):Code->List (Nat×Nat)->Nat->xp->List Nat->Env->hM
 | .skip,_,_,Q,u,e,w=>Q .normal u e w
 | .ret,_,_,Q,u,e,w=>Q .ret u e w
 | .exit id,_,_,Q,u,e,w=>Q (.exit id) u e w
 | .region _ ops false,_,_,Q,u,e,w=>DR P n ops.toList (ops.toList.map λo=>(o,[])) (Q .normal u) [] e w
 | .region id ops true,_,_,Q,u,e,w=>
  bif ops.toList.all (yn n)&&(AB ops.toList (AF ops.toList)&&Im P ops.toList (AF ops.toList) false ops.toList.length 0 (pl id))then
   DT P n ops.toList (pl id) (Q .normal u) [] e (drew w)
  else False
 | .seq a b,X,lo,Q,u,e,w=>
  bif Kh (RE a) 1&&!Ds pl a then D P n pl rl a X (li rl b X lo) (nY (D P n pl rl b X lo Q) Q) u e w
  else bif er a then ua (n::eZ (x8 (fJ a) (li rl b X lo)) n 0)
   (λK=>D P n pl rl a X (li rl b X lo) (nY (λu e w=>K (tQ e n (iQ u)) w) Q) u e w)
   (λE w'=>∀dead,D P n pl rl b X lo Q (uc (Rb n E undef)) (Ad e (fJ a) E.tail dead) w')
  else ua (eZ (x8 (fJ a) (li rl b X lo)) n 0)
   (λK=>D P n pl rl a X (li rl b X lo) (nY (λ_ e w=>K e w) Q) u e w)
   (λE w'=>∀dead,D P n pl rl b X lo Q u (Ad e (fJ a) E dead) w')
 | .cond c a b,X,lo,Q,u,e,w=>sN (ev e c) (D P n pl rl a X lo Q u e w) (D P n pl rl b X lo Q u e w)
 | .block id c,X,lo,Q,u,e,w=>D P n pl rl c ((id,lo)::X) lo (MH id Q) u e w
 | .loop c,X,_,Q,u,e,w=>
  bif er c then ub (n::eZ (x8 (fJ c) (li rl c X (li rl c X 0))) n 0)
   (λK E w=>∀dead,D P n pl rl c X (li rl c X (li rl c X 0)) (nY (λu e w=>K (tQ e n (iQ u)) w) Q) (uc (Rb n E undef)) (Ad e (fJ c) E.tail dead) w) (tQ e n (iQ u)) w
  else ub (eZ (x8 (fJ c) (li rl c X (li rl c X 0))) n 0)
   (λK E w=>∀dead,D P n pl rl c X (li rl c X (li rl c X 0)) (nY (λ_ e w=>K e w) Q) u (Ad e (fJ c) E dead) w) e w
 | .rangeFunc g ps G I,_,_,Q,u,e,w=>
  bif ps.toList.all (λp=>TM p n)&&(!er G&&!er I)then
   ud P (ev e g) ps.toList.length w
    (λargs W B K=>D P n pl 0 G [] (li 0 I [] 0) (nY (λJ M U=>B U λO=>D P n pl 0 I [] 0 (MI K) J M O) λ_ _ _ _=>False) [] (AG args ps.toList 0 e) W)
    (Wc (λD w=>Q .normal (D::u) e w) (λD w=>Q .ret (D::u) e w) (bif outs [] I then(λid D w=>Q (.exit id) (D::u) e w) elseλ_ _ _=>False))
  else False
 | _,_,_,_,_,_,_=>False
theorem MJ{m d i:Nat}:bit (MF m d) i=(bit m i||decide (i=d)):=by
 show(m ||| 1 <<< d).testBit i=_
 rw[Ot,JL,Jz]
 unfold bit
 grind
theorem Ge{l:List Nat}{i:Nat}:bit (tc l) i=true↔i∈l:=by
 induction l with
 | nil=>simp[tc,bit]
 | cons d r u=>simp only[tc,MJ,rH,u,decide_eq_true_eq,oS];grind
theorem Gf{l:List Nat}{e:Env}{i:Nat}:Rb i (gz l e) (e i)=e i:=by
 induction l with
 | nil=>rfl
 | cons a r u=>
  show(bif u1 a i then e a else Rb i (gz r e) (e i))=e i
  by_cases h:a=i
  .grind
  .rw[vA h];exact u
theorem rY{e u:Env}{M:Nat}{l:List Nat}(h:∀i,bit M i=false->u i=e i):Ad e M (gz l u) u=u:=by
 funext i
 unfold Ad
 cases hb:bit M i with
 | true=>simp only[cond_true];exact Gf
 | false=>grind
theorem Dt{m:Nat}:∀(f i k:Nat),k∈eZ m f i->k<i+f:=by
 intro f
 induction f with
 | zero=>intro i k h;cases h
 | succ f u=>
  grind[eZ]
theorem Gg{l:List Nat}{n:Nat}{v:Value}{e:Env}(h:∀k∈l,k<n):gz l (tQ e n v)=gz l e:=
 vI λk u=>by rw[kG _ _ (Nat.ne_of_lt (h k u))]
theorem AH{l:List Nat}{n:Nat}{u:List Nat}{e:Env}(h:∀k∈l,k<n):gz (n::l) (tQ e n (iQ u))=(n,iQ u)::gz l e:=by
 show(n,tQ e n (iQ u) n)::gz l (tQ e n (iQ u))=_
 rw[jP,Gg h]
theorem Ip{m n:Nat}:∀k∈eZ m n 0,k<n:=λk u=>by have:=Dt n 0 k u;omega
def oZ(n:Nat)(M:Nat)(b:Bool)(G:List Nat)(e:Env)(Q:xp):Exit->Act->hM:=
 λx E w'=>∃u B,gm u n B E/\(∀i,bit M i=false->B i=e i)/\(b=false->u=G)/\Q x u B w'
theorem least{p:Nat->Prop}(h:∃m,p m):∃m,p m/\∀k,p k->m<=k:=by
 obtain⟨m,u⟩:=h
 induction m using Nat.strongRecOn with
 | _ m B=>
  grind
theorem BS{n:Nat}{args:List Value}:∀(ps:List Nat) (k:Nat) (e:Env) (a:Act),(∀p∈ps,p<n)->gm [] n e a->k+ps.length<=args.length->
  gm [] n (AG args ps k e) {a with tmps:=(ps.zip (args.drop k)).foldl (λt (q:Nat×Value)=>t.setIfInBounds q.1 q.2) a.tmps}:=by
 intro ps
 induction ps with
 | nil=>simp_all[Env,AG]
 | cons p ps E=>
  intro k e a u B I
  have G:k<args.length:=cR
  have J:args.drop k=yp args k::args.drop (k+1):=by
   rw[List.drop_eq_getElem_cons G]
   congr 1
   clear E B I u
   induction args generalizing k with
   | nil=>simp at G
   | cons v r M=>cases k with
    | zero=>rfl
    | succ k=>exact M k cR
  rw[J]
  have h1:=B.put (d:=some p) (λk I=>by simp_all) (yp args k)
  exact E (k+1) _ _ (λq O=>u q (o5 _ O)) h1 cR
theorem MK{P:Program}{n:Nat}{pl:dI}{g:Operand}{ps:Array Tmp}{u G:Code}
  (ihA:∀(r:Option Nat) (rl:Nat) (X:List (Nat×Nat)) (lo:Nat) (Q:xp) (E:List Nat) (e:Env) (a:Act) (w:World),
   (r=none\/er u=false)->gm E n e a->D P n pl rl u X lo Q E e w->u.wpIn (FO r) 0 P (oZ n (fJ u) (er u) E e Q) a w)
  (ihB:∀(r:Option Nat) (rl:Nat) (X:List (Nat×Nat)) (lo:Nat) (Q:xp) (E:List Nat) (e:Env) (a:Act) (w:World),
   (r=none\/er G=false)->gm E n e a->D P n pl rl G X lo Q E e w->G.wpIn (FO r) 0 P (oZ n (fJ G) (er G) E e Q) a w)
  (rl:Nat) (X:List (Nat×Nat)) (lo:Nat) (Q:xp) (E:List Nat) (e:Env) (a:Act) (w:World) (U:gm E n e a) (h:D P n pl rl (.rangeFunc g ps u G) X lo Q E e w) :
  (Code.rangeFunc g ps u G).wpIn (FO none) 0 P (oZ n 0 true E e Q) a w:=by
 have h':(bif ps.toList.all (λp=>TM p n)&&(!er u&&!er G)then
  ud P (ev e g) ps.toList.length w
   (λargs W B K=>D P n pl 0 u [] (li 0 G [] 0) (nY (λO e1 w1=>B w1 λw2=>D P n pl 0 G [] 0 (MI K) O e1 w2) λ_ _ _ _=>False) [] (AG args ps.toList 0 e) W)
   (Wc (λD w=>Q .normal (D::E) e w) (λD w=>Q .ret (D::E) e w) (bif outs [] G then(λid D w=>Q (.exit id) (D::E) e w) elseλ_ _ _=>False))
  else False):=h
 cases hc:(ps.toList.all (λp=>TM p n)&&(!er u&&!er G))with
 | false=>grind
 | true=>
  rw[hc]at h'
  simp only[cond_true]at h'
  simp only[nw,px]at hc
  obtain⟨hps,hA,hB⟩:=hc
  have agp:∀p∈ps.toList,p<n:=λp Y=>Nat.blt_eq▸wH.1 hps p Y
  obtain⟨gf,cap,hfv,mL,Du⟩:=h'.ex
  refine wpIn_rangeFunc λfn _=>?_
  let L0:Loop:={state:=.ready,pending:=none,fn,tmps:=a.tmps,params:=ps,assign:=u,body:=G,defers:=w.heap.size}
  have hY:=Du L0 rfl rfl (λargs W K hlen hl yq=>?_)
  .have hC:=hY.mono (R':=rangePost (FO none) 0 P (w.heap.size+1) (oZ n 0 true E e Q) {a with defers:=[{target:=.collected w.heap.size,args:=#[]}]++a.defers}) (λx w3 hx=>?_)
   .have hC1:=(s4 (r:=none) (n:=0)).2 hC
    refine⟨w.heap.size+1,[{target:=.collected w.heap.size,args:=#[]}],(w.alloc (.deferred (some []))).alloc (.loop L0),
     {target:=.fn (.func gf) cap,args:=#[.func (.yield (w.heap.size+1)) #[] #[]]},(w.alloc (.deferred (some []))).alloc (.loop L0),gf,#[.func (.yield (w.heap.size+1)) #[] #[]]++cap,
     (w.alloc (.deferred (some []))).alloc (.loop L0),run_enterLoop_outer ..,?_,λ_ _=>trivial,?_,yk,?_⟩
    rotate_left 2
    .exact hC1
    .have hg:a.eval g=.func (.func gf) #[] cap:=by rw[U.eval];exact hfv
     simp only[resolve,hg]
     simp[go_sem]
    .show(callFunc gf (#[.func (.yield (w.heap.size+1)) #[] #[]]++cap)).run P _=_
     exact tV mL _ _
   ·
    obtain⟨v,rfl,st,j,gn,hl3,J⟩:=hx
    refine⟨j,_,run_endLoop hl3 bP,?_⟩
    have I:gm (w.heap.size::E) n e {a with defers:=[{target:=.collected w.heap.size,args:=#[]}]++a.defers}:=⟨by rw[U.defers];rfl,U.size,U.get⟩
    cases j with
    | none=>exact⟨_,e,I,λ_ _=>rfl,λV=>(by cases V),J⟩
    | some c=>
     cases c with
     | ret=>exact wpIn_ret ⟨_,e,I,λ_ _=>rfl,λV=>(by cases V),J⟩
     | exit id=>
       have De:(bif outs [] G then(λid D w=>Q (.exit id) (D::E) e w) elseλ_ _ _=>False:Nat->Nat->hM) id w.heap.size _:=J
       cases ho:outs [] G with
       | true=>rw[ho]at De;exact wpIn_exit ⟨_,e,I,λ_ _=>rfl,λV=>(by cases V),De⟩
       | false=>grind
     | _=>exact J.elim
  ·
   have kI:w.heap.size+1<W.heap.size:=(vE.1 hl).1
   refine⟨fn,_,u,G,run_yield hl bP,roundIn_of_wpIn trivial ?_⟩
   have I:gm [] n (AG args ps.toList 0 e) {tmps:=(ps.zip args.toArray).foldl (λt (q:Nat×Value)=>t.setIfInBounds q.1 q.2) a.tmps,defers:=[]}:=by
    have h0:gm [] n e {tmps:=a.tmps,defers:=[]}:=⟨rfl,U.size,U.get⟩
    have:=BS ps.toList 0 e _ agp h0 (by simpa using CJ hlen.symm)
    have e1:(ps.zip args.toArray).foldl (λt (q:Nat×Value)=>t.setIfInBounds q.1 q.2) a.tmps=(ps.toList.zip (args.drop 0)).foldl (λt (q:Nat×Value)=>t.setIfInBounds q.1 q.2) a.tmps:=by
     rw[<- PI,Array.toList_zip];simp
    grind
   refine wpIn_mono (ihA (some (w.heap.size+1)) 0 [] _ _ [] _ _ W (.inr hA) I yq) λx a1 w1 Y=>?_
   obtain⟨O,e1,ha1,_,hd1,M⟩:=Y
   cases x with
   | normal=>
    obtain⟨Wg,M⟩:=M
    refine⟨_,run_beginRound Wg rfl,?_⟩
    refine wpIn_mono (ihB (some (w.heap.size+1)) 0 [] _ _ O e1 a1 _ (.inr hB) ha1 M) λx a2 w2 Y=>?_
    obtain⟨ds2,e2,ZJ,_,_,M⟩:=Y
    cases x with
    | normal=>obtain⟨Z,J⟩:=M;exact⟨_,_,run_endRound none Z,_,rfl,J⟩
    | ret=>obtain⟨Z,J⟩:=M;exact⟨_,_,run_endRound (some .ret) Z,_,rfl,J⟩
    | exit id=>obtain⟨Z,J⟩:=M;exact⟨_,_,run_endRound (some (.exit id)) Z,_,rfl,J⟩
    | _=>exact M.elim
   | _=>exact M.elim
theorem RF{P:Program}{n:Nat}{pl:dI}(hm:P.follows .mixedOrders=true) :
  ∀(c:Code) (r:Option Nat) (rl:Nat) (X:List (Nat×Nat)) (lo:Nat) (Q:xp) (u:List Nat) (e:Env) (a:Act) (w:World),
   (r=none\/er c=false)->gm u n e a->D P n pl rl c X lo Q u e w->c.wpIn (FO r) 0 P (oZ n (fJ c) (er c) u e Q) a w:=by
 intro c
 induction c with
 | skip=>intro r rl X lo Q u e a w _ Z h;exact wpIn_skip ⟨u,e,Z,λ_ _=>rfl,λ_=>rfl,h⟩
 | ret=>intro r rl X lo Q u e a w _ Z h;exact wpIn_ret ⟨u,e,Z,λ_ _=>rfl,λ_=>rfl,h⟩
 | exit id=>intro r rl X lo Q u e a w _ Z h;exact wpIn_exit ⟨u,e,Z,λ_ _=>rfl,λ_=>rfl,h⟩
 | region id E draw=>
  intro r rl X lo Q u e a w _ Z h
  have hQ:∀(B:Env) (M:Act) (w':World),gm u n B M->(∀k,k ∉ wr E.toList->B k=e k)->Q .normal u B w'->oZ n (fJ (.region id E draw)) (er (.region id E draw)) u e Q .normal M w':=
   λB M w' BN Y hq=>by
    refine⟨u,B,BN,λi hi=>Y i λDr=>?_,λ_=>rfl,hq⟩
    have h1:bit (tc (wr E.toList)) i=true:=Ge.2 Dr
    have h2:bit (tc (wr E.toList)) i=false:=hi
    grind
  cases draw with
  | false=>
   have:=DR.region (r:=r) (id:=id) Z hQ (show DR P n E.toList (E.toList.map λo=>(o,[])) (Q .normal u) [] e w from h)
   omega
  | true=>
   have h':(bif E.toList.all (yn n)&&(AB E.toList (AF E.toList)&&Im P E.toList (AF E.toList) false E.toList.length 0 (pl id))then
    DT P n E.toList (pl id) (Q .normal u) [] e (drew w)else False):=h
   cases hc:(E.toList.all (yn n)&&(AB E.toList (AF E.toList)&&Im P E.toList (AF E.toList) false E.toList.length 0 (pl id)))with
   | false=>grind
   | true=>
    rw[hc]at h'
    simp only[nw]at hc
    obtain⟨h2,h3,h4⟩:=hc
    have hd:∀d∈wr E.toList,d<n:=λd hd=>by
     obtain⟨o,ho,MA⟩:=JH.1 hd
     have:=wH.1 h2 o ho
     unfold yn at this
     simp_all
    have hz:(bit 0)=λ_=>false:=by funext i;simp[bit]
    have hws:=(RB (Q:=Q .normal u) h3 (pl id) E.toList.length 0 [] e (drew w) (λi o hi=>cR) (by constructor<;>simp) (DT.plain _ _ _ _ (im.nil e) h')).1 h4
    rw[hz]at hws
    have:=WS.region (r:=r) (id:=id) hm hd Z hQ hws
    omega
 | seq O W ih1 Ux=>
  intro r rl X lo Q u e a w hr Z h
  have Dv:r=none\/er O=false:=hr.imp id λh=>by grind[er]
  have BT:r=none\/er W=false:=hr.imp id λh=>by grind[er]
  have key:∀(K:List Nat->Env->hM),D P n pl rl O X (li rl W X lo) (nY K Q) u e w->
    (∀G B M w',gm G n B M->(∀i,bit (fJ O) i=false->B i=e i)->(er O=false->G=u)->K G B w'->W.wpIn (FO r) 0 P (oZ n (fJ W) (er W) G B Q) M w')->
    (Code.seq O W).wpIn (FO r) 0 P (oZ n (fJ (.seq O W)) (er (.seq O W)) u e Q) a w:=by
   intro K hK hk
   refine wpIn_seq (wpIn_mono (ih1 r rl X _ _ u e a w Dv Z hK) λx M w' hp=>?_)
   obtain⟨G,B,BN,Y,U,hq⟩:=hp
   have hor:∀i,bit (fJ (.seq O W)) i=false->bit (fJ O) i=false/\bit (fJ W) i=false:=λi hi=>by
    simp_all[bit,fJ]
   have ZK:er (.seq O W)=false->er O=false/\er W=false:=λhh=>by
    grind[er]
   cases x with
   | normal=>
    refine wpIn_mono (hk G B M w' BN Y U hq) λx2 a2 w2 We=>?_
    grind[oZ,fJ,er]
   | _=>exact⟨G,B,BN,λi hi=>Y i (hor i hi).1,λhh=>U (ZK hh).1,hq⟩
  have h':(bif Kh (RE O) 1&&!Ds pl O then D P n pl rl O X (li rl W X lo) (nY (D P n pl rl W X lo Q) Q) u e w
   else bif er O then ua (n::eZ (x8 (fJ O) (li rl W X lo)) n 0)
    (λK=>D P n pl rl O X (li rl W X lo) (nY (λu e w=>K (tQ e n (iQ u)) w) Q) u e w)
    (λbs w'=>∀dead,D P n pl rl W X lo Q (uc (Rb n bs undef)) (Ad e (fJ O) bs.tail dead) w')
   else ua (eZ (x8 (fJ O) (li rl W X lo)) n 0)
    (λK=>D P n pl rl O X (li rl W X lo) (nY (λ_ e w=>K e w) Q) u e w)
    λbs w'=>∀dead,D P n pl rl W X lo Q u (Ad e (fJ O) bs dead) w'):=h
  cases hc:(Kh (RE O) 1&&!Ds pl O)with
  | true=>
   grind
  | false=>
   rw[hc]at h'
   simp only[cond_false]at h'
   cases hc2:er O with
   | false=>
    rw[hc2]at h'
    simp only[cond_false]at h'
    obtain⟨I,h1,h2⟩:=ua.spec h'
    refine key _ h1 λG B M w' BN Y U hk=>?_
    have:=h2 B w' hk B
    rw[rY Y]at this
    grind
   | true=>
    rw[hc2]at h'
    simp only[cond_true]at h'
    obtain⟨I,h1,h2⟩:=ua.spec h'
    refine key _ h1 λG B M w' BN Y U hk=>?_
    have:=h2 (tQ B n (iQ G)) w' hk B
    rw[AH Ip]at this
    rw[show((n,iQ G)::gz (eZ (x8 (fJ O) (li rl W X lo)) n 0) B).tail=gz (eZ (x8 (fJ O) (li rl W X lo)) n 0) B from rfl,rY Y,
     show Rb n ((n,iQ G)::gz (eZ (x8 (fJ O) (li rl W X lo)) n 0) B) undef=iQ G by show(bif u1 n n then iQ G else _)=_;simp_all,vD]at this
    grind
 | cond c O W ih1 Ux=>
  intro r rl X lo Q u e a w hr Z h
  obtain⟨t,ht,hA,hB⟩:=(show sN (ev e c) (D P n pl rl O X lo Q u e w) (D P n pl rl W X lo Q u e w)from h).ex
  have hor:∀i,bit (fJ (.cond c O W)) i=false->bit (fJ O) i=false/\bit (fJ W) i=false:=λi hi=>by
   simp_all[bit,fJ]
  have ZK:er (.cond c O W)=false->er O=false/\er W=false:=λhh=>by
   grind[er]
  refine wpIn_cond_split (t:=t) (by rw[Z.eval];exact ht) (λh1=>?_) (λh1=>?_)
  .exact wpIn_mono (ih1 r rl X lo Q u e a w (hr.imp id λh=>(ZK h).1) Z (hA h1)) λx M w' ⟨G,B,BN,Y,U,hq⟩=>⟨G,B,BN,λi hi=>Y i (hor i hi).1,λhh=>U (ZK hh).1,hq⟩
  .exact wpIn_mono (Ux r rl X lo Q u e a w (hr.imp id λh=>(ZK h).2) Z (hB h1)) λx M w' ⟨G,B,BN,Y,U,hq⟩=>⟨G,B,BN,λi hi=>Y i (hor i hi).2,λhh=>U (ZK hh).2,hq⟩
 | block id c ih=>
  intro r rl X lo Q u e a w hr Z h
  refine wpIn_block (wpIn_mono (ih r rl _ _ _ u e a w hr Z h) λx M w' hp=>?_)
  obtain⟨G,B,BN,Y,U,hq⟩:=hp
  cases x with
  | exit k=>
   simp only[Exit.inBlock]
   simp only[MH]at hq
   by_cases hk:k=id
   .subst hk
    rw[ym]at hq
    grind[oZ,fJ,er]
   .rw[vA hk]at hq
    grind[oZ,fJ,er]
  | _=>exact⟨G,B,BN,Y,U,hq⟩
 | loop c ih=>
  intro r rl X lo Q u e a w hr Z h
  have key:∀(V:List Nat->Env->List (Nat×Value)) (I:Nat->List (Nat×Value)->hM),(∃m,I m (V u e) w)->
    (∀m G B w',(∀i,bit (fJ c) i=false->B i=e i)->(er c=false->G=u)->I m (V G B) w'->D P n pl rl c X (li rl c X (li rl c X 0)) (nY (λds2 e2 w2=>∃m',m'<m/\I m' (V ds2 e2) w2) Q) G B w')->
    (Code.loop c).wpIn (FO r) 0 P (oZ n (fJ (.loop c)) (er (.loop c)) u e Q) a w:=by
   intro V I ⟨m,h1⟩ h2
   let Inv:Nat->Act->hM:=λm M w'=>∃G B,gm G n B M/\(∀i,bit (fJ c) i=false->B i=e i)/\(er c=false->G=u)/\I m (V G B) w'
   have body:∀m M w',Inv m M w'->c.wpIn (FO r) 0 P (Exit.then (λa2 w2=>∃m',m'<m/\Inv m' a2 w2) (oZ n (fJ (.loop c)) (er (.loop c)) u e Q)) M w':=by
    rintro m M w' ⟨G,B,BN,Y,U,hi⟩
    refine wpIn_mono (ih r rl X _ _ G B M w' hr BN (h2 m G B w' Y U hi)) λx a2 w2 hp=>?_
    obtain⟨ds2,e2,ZJ,hf2,agt,hq⟩:=hp
    have hfe:∀i,bit (fJ c) i=false->e2 i=e i:=λi hi=>(hf2 i hi).trans (Y i hi)
    have aam:er c=false->ds2=u:=λhh=>(agt hh).trans (U hh)
    cases x with
    | normal=>obtain⟨m',ZH,Gh⟩:=hq;exact⟨m',ZH,ds2,e2,ZJ,hfe,aam,Gh⟩
    | _=>exact⟨ds2,e2,ZJ,hfe,aam,hq⟩
   classical
   let J:Act->hM:=λM w'=>∃m,Inv m M w'
   let μ:Act->World->Nat:=λM w'=>if h:∃m,Inv m M w' then VD (least h)else 0
   have hμ:∀M w',J M w'->Inv (μ M w') M w'/\∀k,Inv k M w'->μ M w'<=k:=λM w' hj=>by
    grind
   refine wpIn_loop J μ ⟨m,u,e,Z,λ_ _=>rfl,λ_=>rfl,h1⟩ λM w' hj=>?_
   refine wpIn_mono (body _ M w' (hμ M w' hj).1) λx a2 w2 hp=>?_
   cases x with
   | normal=>
    obtain⟨m',ZH,Gh⟩:=hp
    exact⟨⟨m',Gh⟩,Nat.lt_of_le_of_lt ((hμ a2 w2 ⟨m',Gh⟩).2 m' Gh) ZH⟩
   | _=>exact hp
  have h':(bif er c then ub (n::eZ (x8 (fJ c) (li rl c X (li rl c X 0))) n 0)
    (λK bs w=>∀dead,D P n pl rl c X (li rl c X (li rl c X 0)) (nY (λu e w=>K (tQ e n (iQ u)) w) Q) (uc (Rb n bs undef)) (Ad e (fJ c) bs.tail dead) w) (tQ e n (iQ u)) w
   else ub (eZ (x8 (fJ c) (li rl c X (li rl c X 0))) n 0)
    (λK bs w=>∀dead,D P n pl rl c X (li rl c X (li rl c X 0)) (nY (λ_ e w=>K e w) Q) u (Ad e (fJ c) bs dead) w) e w):=h
  cases hc:er c with
  | false=>
   rw[hc]at h'
   simp only[cond_false]at h'
   obtain⟨I,h1,h2⟩:=ub.spec h'
   rw[show er (.loop c)=er c from rfl]at key
   have:=key (λ_ e=>gz (eZ (x8 (fJ c) (li rl c X (li rl c X 0))) n 0) e) I h1 λm G B w' Y U hi=>by
    have:=h2 m B w' hi B
    rw[rY Y]at this
    grind
   exact this
  | true=>
   rw[hc]at h'
   simp only[cond_true]at h'
   obtain⟨I,h1,h2⟩:=ub.spec h'
   refine key (λu e=>gz (n::eZ (x8 (fJ c) (li rl c X (li rl c X 0))) n 0) (tQ e n (iQ u))) I h1 λm G B w' Y U hi=>?_
   have:=h2 m (tQ B n (iQ G)) w' hi B
   rw[AH Ip]at this
   rw[show((n,iQ G)::gz (eZ (x8 (fJ c) (li rl c X (li rl c X 0))) n 0) B).tail=gz (eZ (x8 (fJ c) (li rl c X (li rl c X 0))) n 0) B from rfl,rY Y,
    show Rb n ((n,iQ G)::gz (eZ (x8 (fJ c) (li rl c X (li rl c X 0))) n 0) B) undef=iQ G by show(bif u1 n n then iQ G else _)=_;simp_all,vD]at this
   exact this
 | rangeFunc g ps asx bd ihA ihB=>
  intro r rl X lo Q u e a w hr Z h
  have Mh:r=none:=hr.resolve_right (by simp[er])
  subst Mh
  exact MK ihA ihB rl X lo Q u e a w Z h
 | _=>intro r rl X lo Q u e a w _ Z h;exact h.elim
def Gi(P:Program):List ResultVar->Env->(List Value->Prop)->hM
 | [],_,K,_=>K []
 | .tmp t::r,e,K,w=>Gi P r e (λvs=>K (e t::vs)) w
 | .cell a t::r,e,K,w=>Aw P (rB t (e a)) w (λv=>Gi P r e (λvs=>K (v::vs)) w)
def ML:List Value->Value
 | [v]=>v
 | vs=>.tuple vs.toArray
def ju:List Nat->World->(hM)->Prop
 | [],w,K=>K w
 | D::r,w,K=>w.heap[D]?=some (.deferred (some []))/\ju r (w.putObj D (.deferred none)) K
def Gj(P:Program)(B:List ResultVar)(K:Value->hM):xp
 | .normal,u,e,w=>ju u w λw=>Gi P B e (λvs=>K (ML vs) w) w
 | .ret,u,e,w=>ju u w λw=>Gi P B e (λvs=>K (ML vs) w) w
 | _,_,_,_=>False
def xq:List Value->Env
 | [],_=>undef
 | v::_,0=>v
 | _::r,n+1=>xq r n
theorem MM(l:List Value)(i:Nat):xq l i=l.getD i undef:=by
 induction l generalizing i with
 | nil=>simp[xq]
 | cons v r u=>cases i with
  | zero=>rfl
  | succ i=>simp[xq,u]
def Ks(tmps:Array Value):ResultVar->Sem Value
 | .tmp t=>pure (tmps.getD t undef)
 | .cell a t=>do loadVar t (<- asAddr (tmps.getD a undef))
theorem BU{P:Program}{t:TypeId}{v u:Value}{w:World}(h:(rB t v).run P w=.ok u w):(do loadVar t (<- asAddr v):Sem Value).run P w=.ok u w:=by
 cases v with
 | pointer a=>cases a with
  | none => exact absurd (show(Result.halt (.stuck "an address expected (no nilCheck in front?)") w : Result Value)=.ok u w from h) ew
  | some a=>exact h
 | _ => exact absurd (show(Result.halt (.stuck "an address expected (no nilCheck in front?)") w : Result Value)=.ok u w from h) ew
theorem MN{P:Program}{J:List Nat}{n:Nat}{e:Env}{a:Act}(G:gm J n e a):∀(u:List ResultVar) (K:List Value->Prop) (w:World),Gi P u e K w->
  ∃vs,(u.mapM (Ks a.tmps)).run P w=.ok vs w/\K vs:=by
 intro u
 induction u with
 | nil=>intro K w h;exact⟨[],rfl,h⟩
 | cons r u I=>
  intro K w h
  have step:∀v,(Ks a.tmps r).run P w=.ok v w->Gi P u e (λvs=>K (v::vs)) w->∃vs,((r::u).mapM (Ks a.tmps)).run P w=.ok vs w/\K vs:=by
   intro v E B
   obtain⟨vs,h1,h2⟩:=I _ w B
   simp_all
  cases r with
  | tmp t=>exact step (e t) (by rw[<- G.get t];rfl) h
  | cell c t=>
   obtain⟨v,E,B⟩:=h.ex
   refine step v ?_ B
   show(do loadVar t (<- asAddr (a.tmps.getD c undef)):Sem Value).run P w=_
   rw[G.get c]
   exact BU E
theorem Dw{P:Program}{B:Func}{u:List ResultVar}(E:B.results=u.toArray){tmps:Array Value}{w:World}{vs:List Value}
  (h:(u.mapM (Ks tmps)).run P w=.ok vs w):(results B tmps).run P w=.ok (ML vs) w:=by
 have e:results B tmps=(u.toArray.mapM (Ks tmps) >>= λvs=>pure (if h:vs.size=1 then vs[0]else .tuple vs)):=by
  unfold results;rw[E];rfl
 rw[e,List.mapM_toArray]
 have h1:(Functor.map (λa=>a.toArray) (u.mapM (Ks tmps))).run P w=.ok vs.toArray w:=by
  rw[<- bind_pure_comp,dD h];rfl
 rw[dD h1]
 show Result.ok _ w=Result.ok _ w
 congr 1
 match vs with
 | []=>rfl
 | [v]=>rfl
 | a::b::r=>simp[ML]
theorem BV{P:Program}{B:Func}{tmps:Array Value}{R:Ending->hM}:∀(u:List Nat) (w:World),ju u w (λw'=>∃v,(results B tmps).run P w'=.ok v w'/\R (.returned v) w')->
  LeavesInM (FO none) 0 P B tmps R (u.map mark) .returning w:=by
 intro u
 induction u with
 | nil=>intro w ⟨v,h1,h2⟩;exact⟨v,h1,h2⟩
 | cons D r E=>intro w h;exact⟨ew,.inl ⟨D,_,rfl,run_takeDeferred h.1,E _ h.2⟩⟩
theorem ju.mono{u:List Nat}{K B:hM}(G:∀w,K w->B w):∀{w:World},ju u w K->ju u w B:=by
 induction u with
 | nil=>intro w h;exact G w h
 | cons D r E=>intro w h;exact⟨h.1,E h.2⟩
theorem yr{P:Program}{n:Nat}{pl:dI}{rl:Nat}{f:FuncId}{u:Func}{c:Code}{G:List ResultVar}{args:List Value}{w:World}{K:Value->hM}
  (O:P.follows .mixedOrders=true) (Z:P.funcs[f]?=some u) (hb:u.body=some c) (hn:u.ntmps=n) (Y:u.results=G.toArray) (V:args.length<=n)
  (h:D P n pl rl c [] rl (Gj P G K) [] (xq args) w):Calls P f args.toArray w (oV K):=by
 refine s4.1 (callsIn_of_wp_marks (F:=FO none) (n:=0) Z hb trivial ?_)
 have ha:gm [] n (xq args) {tmps:=args.toArray++Array.replicate (u.ntmps-args.toArray.size) undef,defers:=[]}:=by
  refine⟨rfl,cR,λi=>?_⟩
  rw[MM,vr,Array.getElem?_append]
  grind
 refine wpIn_mono (RF O c none rl [] rl _ [] _ _ w (.inl rfl) ha h) λx I w' U=>?_
 obtain⟨M,e',J,_,_,E⟩:=U
 have B:ju M w' (λw=>Gi P G e' (λvs=>K (ML vs) w) w)->LeavesInM (FO none) 0 P u I.tmps (oV K) I.defers .returning w':=λE=>by
  rw[J.defers]
  refine BV M w' (E.mono λW h1=>?_)
  obtain⟨vs,h1,h2⟩:=MN J G _ W h1
  exact⟨_,Dw Y h1,_,rfl,h2⟩
 cases x with
 | normal=>exact B E
 | ret=>exact B E
 | _=>exact E.elim
def okD{P:Program}{n:Nat}{pl:dI}{rl:Nat}{f:FuncId}{u:Func}{c:Code}{E:List ResultVar}{args:List Value}{w:World}{K:Value->hM}{S:Prop}
  (M:P.funcs[f]?=some u) (hb:u.body=some c) (I:u.ntmps=n) (J:u.results=E.toArray) (G:P.follows .mixedOrders=true) (B:args.length<=n)
  (e:D P n pl rl c [] rl (Gj P E K) [] (xq args) w=S) (h:S):Calls P f args.toArray w (oV K):=yr G M hb I J B (e.mpr h)
def okE{P:Program}(n:Nat)(pl:dI)(rl:Nat)(E:List ResultVar){f:FuncId}{u:Func}{args:List Value}{w:World}{K:Value->hM}{S:Prop}
  (M:P.funcs[f]?=some u) (hb:u.body=some (u.body.getD .skip)) (I:u.ntmps=n) (J:u.results=E.toArray) (G:P.follows .mixedOrders=true) (B:args.length<=n)
  (e:D P n pl rl (u.body.getD .skip) [] rl (Gj P E K) [] (xq args) w=S) (h:S):Calls P f args.toArray w (oV K):=okD M hb I J G B e h
theorem okZ{P:Program}(n:Nat)(pl:dI)(rl:Nat)(B:List ResultVar){f:FuncId}{u:Func}{args:List Value}{w:World}{K:Value->hM}{S:Prop}
  (G:P.funcs[f]?=some u) (E:P.follows .mixedOrders=true) (hc:(u.body.isSome,u.ntmps,u.results,Kh args.length n)=(true,n,B.toArray,true))
  (e:D P n pl rl (u.body.getD .skip) [] rl (Gj P B K) [] (xq args) w=S) (h:S):Calls P f args.toArray w (oV K):=by
 have h1:u.body.isSome=true:=gj (λx=>x.1) hc
 have h2:u.ntmps=n:=gj (λx=>x.2.1) hc
 have h3:u.results=B.toArray:=gj (λx=>x.2.2.1) hc
 have h4:Kh args.length n=true:=gj (λx=>x.2.2.2) hc
 have h5:u.body=some (u.body.getD .skip):=by
  cases hb:u.body with
  | none=>rw[hb]at h1;cases h1
  | some c=>rfl
 exact okD G h5 h2 h3 E (u4 h4) e h
def dF{P : Program}{f : FuncId}{u : Func}(B : P.funcs[f]?=some u)(h : (u.name == "runtime.NumGoroutine", u.body.isNone)=(false, false) := by kernel_rfl) : Plain P f := ⟨u, B, gj (λx => x.1) h, gj (λx => x.2) h⟩
def vb{a b:Bool}(h:a=b):sy a=sy b:=gj _ h
def FT{p:Prop}[Decidable p](h:p):sy true=sy (decide p):=vb (fj h).symm
def Rc{p:Prop}[Decidable p](h:¬ p):sy false=sy (decide p):=vb (ga h).symm
def xr{p q:Prop}[Decidable p][Decidable q](h:p↔q):sy (decide p)=sy (decide q):=vb (gh.2 h)
end Go.Fw
namespace Go.Proofs.YtdncbeepkacgbaaGreatDoor
open Go.Fw
variable (w:World) (K:Value->hM)
abbrev i(n:Int):Value:=.int .i64 n
abbrev tt:Value:=.bool true
abbrev ff:Value:=.bool false
abbrev fA(T:Nat)(v:Value)(f:Nat)(K:Value->Prop):Prop:=dW hH (z6 T v f) K
abbrev iA(T:Nat)(v j:Value)(K:Value->Prop):Prop:=dW hH (z7 T v j) K
abbrev lA(T:Nat)(p:Value)(w:World)(K:Value->Prop):Prop:=Aw hH (rB T p) w K
abbrev sA(T:Nat)(p v:Value)(w:World)(K:hM):Prop:=Md hH (zQ T p v) w K
abbrev bA(o:BinOp)(T:Nat)(x y:Value)(K:Value->Prop):Prop:=dW hH (g9 o T false false x y) K
abbrev bB(o:BinOp)(T:Nat)(x y:Value)(K:Value->Prop):Prop:=dW hH (g9 o T false true x y) K
abbrev bC(o:BinOp)(T:Nat)(x y:Value)(K:Value->Prop):Prop:=dW hH (g9 o T true false x y) K
abbrev cF(f:Nat)(args:List Value)(w:World)(K:Value->hM):Prop:=wJ hH f args w K
abbrev nC(v:Value)(K:Value->Prop):Prop:=dW hH (Kk v) K
abbrev lN(T:Nat)(v:Value)(K:Value->Prop):Prop:=dW hH (Builtin.len_ #[T] 3 [v].toArray) K
abbrev aL(T:Nat)(w:World)(K:Value->hM):Prop:=lW hH (Is T true (.tuple #[])) w K
abbrev xT(v:Value)(k:Nat)(K:Value->Prop):Prop:=dW hH (K0 v k) K
abbrev kA(T:Nat)(p v:Value)(w:World)(R:Prop):Prop:=Ig hH (rB T p) v w R
abbrev aP(T:Nat)(a b:Value)(w:World)(K:Value->hM):Prop:=lW hH (Builtin.append_ #[T,T] T [a,b].toArray) w K
abbrev bS(T n:Nat)(l:List (Nat×Value))(w:World)(K:Value->hM):Prop:=lW hH (EL T n l.toArray) w K
abbrev cV(v:Value)(a b:Prop):Prop:=sN v a b
noncomputable abbrev PG:Program:=hH
abbrev CR(n:Nat)(a:List Value)(w:World)(K:Value->hM):Prop:=Calls hH n a.toArray w (oV K)
abbrev PL(n:Nat):Prop:=Plain hH n
theorem mixed:Tryz.prog.follows .mixedOrders=true:=by kernel_rfl
theorem lE(n:Nat)(pl:dI)(rl:Nat)(B:List ResultVar){f:FuncId}{u:Func}{args:List Value}{w:World}{K:Value->hM}{S:Prop}
  (E:PG.funcs[f]?=some u) (h:S) (hc:(u.body.isSome,u.ntmps,u.results,Kh args.length n)=(true,n,B.toArray,true):=by kernel_rfl)
  (e:D PG n pl rl (u.body.getD .skip) [] rl (Gj PG B K) [] (xq args) w=S:=by kernel_rfl):CR f args w K:=okZ n pl rl B E mixed hc e h
def Ku:List ResultVar->Nat
 | []=>0
 | .tmp t::r=>MF (Ku r) t
 | .cell a _::r=>MF (Ku r) a
theorem qj{f:FuncId}{u:Func}(B:Tryz.prog.funcs[f]?=some u){args:List Value}{w:World}{K:Value->hM}{pl:dI}
  (h:D hH u.ntmps pl (Ku u.results.toList) (u.body.getD .skip) [] (Ku u.results.toList) (Gj hH u.results.toList K) [] (xq args) w)
  (hc:(u.body.isSome,Kh args.length u.ntmps)=(true,true):=by kernel_rfl):Calls hH f args.toArray w (oV K):=by
 have h1:u.body.isSome=true:=gj (λx=>x.1) hc
 have h5:u.body=some (u.body.getD .skip):=by
  cases hb:u.body with
  | none=>rw[hb]at h1;cases h1
  | some c=>rfl
 exact yr mixed B h5 rfl ew (u4 (gj (λx=>x.2) hc)) h
theorem eT{f:FuncId}{u:Func}(B:Tryz.prog.funcs[f]?=some u){args:List Value}{w:World}{K:Value->hM}
  (h:D hH u.ntmps (λ_=>.nil) (Ku u.results.toList) (u.body.getD .skip) [] (Ku u.results.toList) (Gj hH u.results.toList K) [] (xq args) w)
  (hc:(u.body.isSome,Kh args.length u.ntmps)=(true,true):=by kernel_rfl):Calls hH f args.toArray w (oV K):=qj B h hc
def P26:dI:=λi=>match i with
 | 6=>.run 0 9
 | _=>.nil
def P44:dI:=λi=>match i with
 | 6=>(.of [(0,[]),(1,[]),(2,[]),(3,[1]),(4,[1]),(5,[]),(6,[]),(7,[])])
 | 8=>(.of [(0,[]),(1,[]),(2,[]),(3,[1]),(4,[]),(5,[]),(6,[])])
 | 10=>(.of [(0,[]),(1,[]),(2,[]),(3,[1]),(4,[]),(5,[]),(6,[])])
 | 13=>(.of [(0,[]),(1,[]),(2,[]),(3,[]),(4,[]),(5,[]),(6,[]),(7,[]),(8,[1]),(9,[1]),(10,[]),(11,[]),(12,[])])
 | 15=>(.of [(0,[]),(1,[]),(2,[]),(3,[]),(4,[]),(5,[]),(6,[]),(7,[]),(8,[]),(9,[]),(10,[]),(11,[]),(12,[]),(13,[1]),(14,[1]),(15,[]),(16,[]),(17,[])])
 | 17=>(.of [(0,[]),(1,[]),(2,[]),(3,[]),(4,[]),(5,[]),(6,[]),(7,[]),(8,[]),(9,[]),(10,[]),(11,[]),(12,[1]),(13,[1]),(14,[]),(15,[]),(16,[])])
 | 21=>(.of [(0,[]),(1,[]),(2,[]),(3,[]),(4,[]),(5,[]),(6,[]),(7,[]),(8,[]),(9,[4,8]),(10,[]),(11,[])])
 | _=>.nil
def S79(E V:Value):Prop:=
 lN 22 V λa=>cF 136 [E,a] w λb c=>dW hH (Op.unary .not b) λd=>cV d (K (.tuple #[(i 0),(i 8)]) c) (aL 248 c λp6 e=>lN 116 E λf=>jC (λG g h=>∀_:Env,
 bA .lss 3 g f λj=>cV j (wL (λI=>iA 116 E g λk=>lA 240 k h λl=>aL 240 h λn o=>sA 240 n l o λp=>fA 240 n 0 λq=>lA 3 q p λr=>cF 149 [r] p λs t=>
 bB .eql 3 s (i 0) λu=>cV u (fA 240 n 1 λv=>lA 3 v t λx=>eo (λM=>fA 240 n 0 λy=>lA 3 y t λz=>bB .eql 3 z (i 2) λaa=>cV aa (fA 240 n 1 λab=>lA 3 ab t λac=>
 iA 22 V ac λad=>lA 3 ad t λae=>M ae t) (M x t)) (λn9 af=>∀_:Env,
 cF 150 [p6,n9] af λ_ ag=>I ag)) (bB .eql 3 s (i 1) λah=>cV ah (fA 240 n 0 λai=>lA 3 ai (drew t) λaj=>fA 248 p6 0 λak=>cF 152 [ak] (drew t) λal am=>kA 3 ai aj am (
 cF 151 [aj,al] am λO ao=>xT O 0 λap=>xT O 1 λ_=>cF 150 [p6,ap] ao λ_ aq=>I aq)) (fA 248 p6 0 λar=>cF 152 [ar] t λB W=>fA 240 n 0 λY=>lA 3 Y (drew W) λU=>
 fA 248 p6 0 λax=>cF 152 [ax] (drew W) λay az=>kA 3 Y U az (cF 153 [U,ay,B] az λJ Z=>xT J 0 λa2=>xT J 1 λa3=>bB .neq 40 a3 (i 0) λa4=>cV a4 (K (.tuple #[(i 0),a3]) Z) (
 cF 150 [p6,a2] Z λ_ a5=>I a5))))) (λa6=>∀_:Env,
 bB .add 3 g (i 1) λa7=>G a7 a6)) (fA 248 p6 0 λa8=>cF 152 [a8] h λa9 ba=>K (.tuple #[a9,(i 0)]) ba)) λG=>G (i 0) e)
def P79:dI:=λi=>match i with
 | 9=>(.of [(0,[]),(1,[]),(2,[]),(4,[]),(3,[1]),(5,[]),(6,[]),(7,[]),(8,[]),(9,[]),(10,[])])
 | 19=>(.of [(0,[]),(1,[]),(2,[]),(3,[1]),(4,[]),(5,[]),(6,[]),(7,[]),(8,[]),(9,[])])
 | _=>.nil
theorem Wh(B u:Value)(h:S79 w K B u):CR 79 [B,u] w K:=
 lE 74 P79 48 [.tmp 4,.tmp 5] Tryz.func79 h
theorem agu:PL 26:=dF Tryz.func26
theorem agv:PL 44:=dF Tryz.func44
theorem aan:PL 50:=dF Tryz.func50
theorem agw:PL 54:=dF Tryz.func54
theorem agx:PL 69:=dF Tryz.func69
theorem agy:PL 76:=dF Tryz.func76
theorem agz:PL 77:=dF Tryz.func77
theorem agA:PL 79:=dF Tryz.func79
variable (w:World) (K:Value->hM)
def P81:dI:=λi=>match i with
 | 5=>.run 0 9
 | _=>.nil
def S100(E:Value):Prop:=
 lN 9 E λa=>bB .gtr 3 a (i 4000) λb=>cV b (K (.tuple #[(.slice none 0 0),(i 2),(i 4000)]) w) (bS 166 0 [] w λc d=>cF 192 [E,(i 0)] d λe f=>nX (λV pM B g=>∀_:Env,
 lN 9 E λh=>bA .lss 3 B h λj=>cV j (dW hH (l1 179 [(3,B)].toArray) λk=>aL 179 g λG l=>sA 179 G k l λn=>eo (λK2=>dW hH (oK 9 E B) λo=>
 cF 193 [o] n λp q=>cV p (fA 179 G 0 λr=>sA 3 r (i 1) q λs=>jC (λY J t=>∀_:Env,
 eo (λU=>lN 9 E λu=>bA .lss 3 J u λv=>cV v (dW hH (oK 9 E J) λx=>cF 193 [x] t λy z=>cV y (U tt z) (dW hH (oK 9 E J) λaa=>
 cF 194 [aa] z λab ac=>U ab ac)) (U ff t)) (λad W=>∀_:Env,
 cV ad (bB .add 3 J (i 1) λaf=>Y af W) (bA .sub 3 J B λag=>bB .gtr 3 ag (i 16) λah=>cV ah (K (.tuple #[(.slice none 0 0),(i 2),B]) W) (K2 J W)))) λY=>Y B s) (
 dW hH (oK 9 E B) λai=>cF 194 [ai] q λaj ak=>cV aj (fA 179 G 0 λal=>sA 3 al (i 2) ak λam=>jC (λZ M an=>∀_:Env,
 eo (λK6=>lN 9 E λao=>bA .lss 3 M ao λap=>cV ap (dW hH (oK 9 E M) λaq=>cF 194 [aq] an λar O=>K6 ar O) (K6 ff an)) (λau I=>∀_:Env,
 cV au (wL (λK7=>fA 179 G 2 λaw=>lA 3 aw I λax=>bB .leq 3 ax (i 4294967296) λay=>cV ay (fA 179 G 2 λaz=>lA 3 az (drew I) λa0=>bC .mul 3 (i 10) a0 λa1=>
 dW hH (oK 9 E M) λa2=>bB .sub 5 a2 (.int .u8 48) λa3=>dW hH (convert 5 3 a3) λa4=>bA .add 3 a1 a4 λa5=>fA 179 G 2 λa6=>sA 3 a6 a5 (drew I) λa7=>
 K7 a7) (K7 I)) (λa8=>∀_:Env,
 bB .add 3 M (i 1) λa9=>Z a9 a8)) (fA 179 G 2 λba=>lA 3 ba I λbb=>bB .gtr 3 bb (i 4294967296) λbc=>cV bc (K (.tuple #[(.slice none 0 0),(i 4),B]) I) (K2 M I))))
 λZ=>Z B am) (fA 179 G 0 λbd=>sA 3 bd (i 3) ak λbe=>cF 195 [E,B] be λbf bg=>bA .add 3 B bf λbh=>bA .eql 3 bh B λbi=>cV bi (K (.tuple #[(.slice none 0 0),(i 3),B]) bg) (
 K2 bh bg)))) (λUA bj=>∀_:Env,
 dW hH (mA 9 E (some B) (some UA) none) λbk=>fA 179 G 1 λbl=>sA 9 bl bk bj λbm=>lA 179 G bm λbn=>bS 166 1 [(0,bn)] bm λbo bp=>aP 166 pM bo bp λbq br=>
 cF 192 [E,UA] br λbs bt=>V bq bs bt)) (K (.tuple #[pM,(i 0),(i 0)]) g)) λV=>V c e f)
def agB:dI:=λi=>match i with
 | 17=>.run 0 11
 | _=>.nil
theorem RG(u:Value)(h:S100 w K u):CR 100 [u] w K:=
 lE 107 agB 28 [.tmp 2,.tmp 3,.tmp 4] Tryz.func100 h
def agC:dI:=λi=>match i with
 | 1=>.run 0 17
 | _=>.nil
def agD:dI:=λi=>match i with
 | 7=>.run 0 24
 | 8=>.run 0 13
 | _=>.nil
def agE:dI:=λi=>match i with
 | 1=>.run 0 45
 | 3=>.run 0 26
 | _=>.nil
def agF:dI:=λi=>match i with
 | 8=>(.of [(0,[]),(1,[]),(2,[]),(3,[]),(4,[]),(5,[]),(6,[]),(7,[1]),(8,[]),(9,[]),(10,[])])
 | 10=>.run 0 19
 | _=>.nil
def agG:dI:=λi=>match i with
 | 1=>.run 0 18
 | _=>.nil
def agH:dI:=λi=>match i with
 | 2=>.run 0 10
 | 4=>.run 0 13
 | _=>.nil
theorem agI:PL 81:=dF Tryz.func81
theorem agJ:PL 84:=dF Tryz.func84
theorem aao:PL 100:=dF Tryz.func100
theorem sO:PL 101:=dF Tryz.func101
theorem Iq:PL 102:=dF Tryz.func102
theorem UB:PL 103:=dF Tryz.func103
theorem UC:PL 104:=dF Tryz.func104
theorem aap:PL 105:=dF Tryz.func105
theorem Ir:PL 106:=dF Tryz.func106
theorem AJ:PL 117:=dF Tryz.func117
theorem aaq:PL 136:=dF Tryz.func136
variable (w:World) (K:Value->hM)
def agK:dI:=λi=>match i with
 | 1=>.run 0 11
 | _=>.nil
def agL:dI:=λi=>match i with
 | 1=>.run 0 11
 | 4=>.run 0 10
 | _=>.nil
def agM:dI:=λi=>match i with
 | 1=>.run 0 15
 | _=>.nil
def agN:dI:=λi=>match i with
 | 1=>.run 0 13
 | 2=>.run 0 15
 | _=>.nil
def S153(u G b2:Value):Prop:=
 eo (λE=>bB .lss 3 u (i 0) λa=>cV a (E tt w) (bB .geq 3 u (i 16) λb=>E b w)) (λc d=>∀_:Env,
 cV c (K (.tuple #[(i 0),(i 1)]) d) (cF 257 [] d λe f=>dW hH (oK 348 e u) λg=>bB .eql 165 g .nilFunc λh=>cV h (K (.tuple #[(i 0),(i 1)]) f) (eo (λB=>
 bB .eql 3 u (i 8) λj=>cV j (bB .eql 3 b2 (i 0) λk=>B k f) (bB .eql 3 u (i 9) λl=>cV l (bB .eql 3 b2 (i 0) λn=>B n f) (B ff f))) (λo p=>∀_:Env,
 cV o (K (.tuple #[(i 0),(i 12)]) p) (gM hH g [G,b2] p λq r=>K (.tuple #[q,(i 0)]) r)))))
theorem RH(u B b2:Value)(h:S153 w K u B b2):CR 153 [u,B,b2] w K:=
 lE 36 (λ_=>.nil) 192 [.tmp 6,.tmp 7] Tryz.func153 h
def agO:dI:=λi=>match i with
 | 3=>.run 0 14
 | _=>.nil
def P155:dI:=λi=>match i with
 | 5=>.run 0 12
 | _=>.nil
def S156(B DB:Value):Prop:=
 lN 22 DB λa=>cF 154 [B] w λb c=>bA .neq 3 a b λd=>cV d (K (.tuple #[(.slice none 0 0),(i 1)]) c) (cF 77 [B] c λe f=>lN 22 DB λg=>jC (λJ h j=>∀_:Env,
 bA .lss 3 h g λk=>cV k (iA 22 DB h λl=>lA 3 l j λn=>eo (λV=>bB .lss 3 n (i 0) λo=>cV o (V tt j) (nC B λp=>fA 207 p 4 λq=>lA 205 q j λr=>Aw hH (qn 205 r h false) j λs=>
 lN 321 s λt=>bA .gtr 3 n t λu=>V u j)) (λv x=>∀_:Env,
 cV v (K (.tuple #[(.slice none 0 0),(i 1)]) x) (nC B λy=>fA 207 y 4 λz=>lA 205 z x λZ=>Aw hH (qn 205 Z h false) x λY=>dW hH (mA 321 Y none (some n) none) λU=>
 lN 321 U λad=>jC (λG M I=>∀_:Env,
 bA .lss 3 M ad λag=>cV ag (iA 321 U M λW=>lA 324 W I λai=>aL 324 I λO ak=>sA 324 O ai ak λal=>fA 324 O 0 λam=>lA 3 am al λan=>fA 324 O 1 λao=>
 lA 3 ao al λap=>iA 22 e an λaq=>sA 3 aq ap al λar=>bB .add 3 M (i 1) λE=>G E ar) (bB .add 3 h (i 1) λau=>J au I)) λG=>G (i 0) x))) (K (.tuple #[e,(i 0)]) j))
 λJ=>J (i 0) f)
theorem RI(u DB:Value)(h:S156 w K u DB):CR 156 [u,DB] w K:=
 lE 60 (λ_=>.nil) 48 [.tmp 4,.tmp 5] Tryz.func156 h
def agP:dI:=λi=>match i with
 | 6=>(.of [(0,[]),(1,[]),(2,[]),(3,[]),(4,[]),(5,[]),(6,[]),(7,[]),(8,[]),(9,[]),(10,[]),(11,[]),(12,[]),(13,[]),(14,[3,8,10]),(15,[3]),(16,[])])
 | _=>.nil
def agQ:dI:=λi=>match i with
 | 6=>.run 0 10
 | _=>.nil
def agR:dI:=λi=>match i with
 | 5=>(.of [(0,[]),(1,[]),(2,[]),(3,[]),(4,[]),(5,[]),(6,[4]),(7,[]),(8,[]),(9,[]),(10,[])])
 | _=>.nil
theorem aar:PL 143:=dF Tryz.func143
theorem UD:PL 145:=dF Tryz.func145
theorem UE:PL 147:=dF Tryz.func147
theorem MO:PL 149:=dF Tryz.func149
theorem It:PL 150:=dF Tryz.func150
theorem aas:PL 151:=dF Tryz.func151
theorem Iu:PL 152:=dF Tryz.func152
theorem aat:PL 153:=dF Tryz.func153
theorem UF:PL 154:=dF Tryz.func154
theorem aau:PL 156:=dF Tryz.func156
theorem aav:PL 157:=dF Tryz.func157
theorem UG:PL 158:=dF Tryz.func158
theorem UH:PL 159:=dF Tryz.func159
theorem aaw:PL 160:=dF Tryz.func160
theorem Iv:PL 164:=dF Tryz.func164
variable (w:World) (K:Value->hM)
def P186:dI:=λi=>match i with
 | 5=>.run 0 13
 | _=>.nil
def agS:dI:=λi=>match i with
 | 10=>.run 0 7
 | _=>.nil
def agT:dI:=λi=>match i with
 | 2=>.run 0 17
 | 6=>.run 0 12
 | 8=>.run 0 9
 | 9=>.run 0 12
 | _=>.nil
def agU:dI:=λi=>match i with
 | 5=>.run 0 8
 | 7=>.run 0 9
 | 9=>.run 0 9
 | 10=>.run 0 8
 | _=>.nil
def agV:dI:=λi=>match i with
 | 5=>.run 0 17
 | _=>.nil
def P236:dI:=λi=>match i with
 | 1=>(.of [(1,[]),(2,[]),(5,[]),(0,[2]),(3,[]),(4,[]),(6,[]),(7,[])])
 | _=>.nil
def agW:dI:=λi=>match i with
 | 1=>.run 0 11
 | _=>.nil
def S257:Prop:=
 aL 348 w λa b=>aL 348 b λB c=>iA 348 B (i 5) λd=>sA 165 d (.func (.func 313) #[] #[]) c λe=>iA 348 B (i 6) λf=>sA 165 f (.func (.func 314) #[] #[]) e λg=>
 iA 348 B (i 7) λh=>sA 165 h (.func (.func 315) #[] #[]) g λj=>iA 348 B (i 8) λk=>sA 165 k (.func (.func 316) #[] #[]) j λl=>iA 348 B (i 9) λn=>sA 165 n (.func (.func 317) #[] #[]) l λo=>
 gM hH (.func (.func 311) #[] #[]) [(.func (.func 318) #[] #[])] o λp q=>iA 348 B (i 10) λs=>sA 165 s p q λt=>gM hH (.func (.func 311) #[] #[]) [(.func (.func 319) #[] #[])] t λu v=>
 iA 348 B (i 11) λx=>sA 165 x u v λy=>gM hH (.func (.func 311) #[] #[]) [(.func (.func 320) #[] #[])] y λz M=>iA 348 B (i 12) λJ=>sA 165 J z M λY=>
 gM hH (.func (.func 311) #[] #[]) [(.func (.func 321) #[] #[])] Y λad Z=>iA 348 B (i 13) λV=>sA 165 V ad Z λU=>gM hH (.func (.func 311) #[] #[]) [(.func (.func 322) #[] #[])] U λI ai=>
 iA 348 B (i 14) λaj=>sA 165 aj I ai λW=>gM hH (.func (.func 311) #[] #[]) [(.func (.func 323) #[] #[])] W λal am=>iA 348 B (i 15) λO=>sA 165 O al am λG=>
 lA 348 B G λap=>sA 348 a ap G λE=>lA 348 a E λr=>K r E
theorem RJ(h:S257 w K):CR 257 [] w K:=
 lE 27 (λ_=>.nil) 1 [.cell 0 348] Tryz.func257 h
def S258(u B E:Value):Prop:=
 lN 198 u λa=>dW hH (mA 198 u (some B) (some E) (some a)) λ_=>bA .eql 3 B E λb=>cV b (K u w) (lN 198 u λc=>dW hH (mA 198 u none (some B) none) λd=>
 dW hH (mA 198 u (some E) none none) λe=>aP 198 d e (drew w) λf g=>lN 198 f λh=>dW hH (mA 198 f (some h) (some c) none) λj=>
 lW hH (Builtin.clear_ #[198] 0 [j].toArray) g λ_ k=>K f k)
def agX:dI:=λi=>match i with
 | 5=>.run 0 8
 | _=>.nil
theorem RK(B E u:Value)(h:S258 w K B E u):CR 258 [B,E,u] w K:=
 lE 33 agX 64 [.tmp 6] Tryz.func258 h
theorem UI:PL 192:=dF Tryz.func192
theorem Iw:PL 193:=dF Tryz.func193
theorem Iy:PL 194:=dF Tryz.func194
theorem aax:PL 195:=dF Tryz.func195
theorem qk:PL 196:=dF Tryz.func196
theorem MP:PL 197:=dF Tryz.func197
theorem MQ:PL 198:=dF Tryz.func198
theorem aay:PL 199:=dF Tryz.func199
theorem UJ:PL 200:=dF Tryz.func200
theorem AK:PL 201:=dF Tryz.func201
theorem aaz:PL 242:=dF Tryz.func242
theorem aaA:PL 243:=dF Tryz.func243
theorem aaB:PL 244:=dF Tryz.func244
theorem UK:PL 250:=dF Tryz.func250
theorem aaC:PL 251:=dF Tryz.func251
theorem aaD:PL 252:=dF Tryz.func252
theorem aaE:PL 253:=dF Tryz.func253
theorem aaF:PL 254:=dF Tryz.func254
theorem MR:PL 255:=dF Tryz.func255
theorem DC:PL 256:=dF Tryz.func256
theorem aaG:PL 257:=dF Tryz.func257
theorem aaH:PL 258:=dF Tryz.func258
theorem aaI:PL 259:=dF Tryz.func259
theorem UL:PL 260:=dF Tryz.func260
theorem aaJ:PL 261:=dF Tryz.func261
variable (w:World) (K:Value->hM)
def S285(p0 DD Z:Value):Prop:=
 nC p0 λa=>fA 368 a 0 λb=>lA 166 b (drew w) λc=>nC p0 λd=>fA 368 d 1 λe=>lA 3 e (drew w) λf=>cF 201 [c,f] (drew w) λg h=>nX (λY B M j=>∀_:Env,
 bB .leq 3 M (i 14) λk=>cV k (eo (λK2=>nC p0 λl=>fA 368 l 0 λn=>lA 166 n (drew j) λo=>nC p0 λp=>fA 368 p 1 λq=>lA 3 q (drew j) λr=>cF 335 [M] (drew j) λs t=>
 kA 166 n o t (kA 3 q r t (cF 196 [o,r,s] t λu v=>cV u (K2 M v) (K2 B v)))) (λRL x=>∀_:Env,
 bB .add 3 M (i 1) λy=>Y RL y x)) (eo (λK3=>bB .eql 3 B (i 13) λz=>cV z (bB .eql 3 Z (i 0) λaa=>K3 aa j) (K3 ff j)) (λab J=>∀_:Env,
 cV ab (cF 336 [p0,(i 5)] J λ_ ad=>K (.tuple #[]) ad) (wL (λK4=>bB .neq 3 B (i 1) λae=>cV ae (nC p0 λaf=>fA 368 af 1 λag=>lA 3 ag J λah=>bB .add 3 ah (i 1) λai=>
 nC p0 λaj=>fA 368 aj 1 λak=>sA 3 ak ai J λal=>K4 al) (K4 J)) (λam=>∀_:Env,
 cF 337 [p0,B,g] am λan ao=>aL 220 ao λI aq=>sA 220 I an aq λO=>nC p0 λU=>fA 368 U 4 λau=>lA 112 au O λav=>lN 112 av λaw=>nC p0 λax=>fA 368 ax 4 λay=>
 lA 112 ay (drew O) λaz=>lA 220 I (drew O) λa0=>bS 112 1 [(0,a0)] (drew O) λa1 a2=>kA 112 ay az a2 (aP 112 az a1 a2 λa3 a4=>nC p0 λa5=>fA 368 a5 4 λa6=>
 sA 112 a6 a3 a4 λa7=>eo (λK5=>bB .neq 3 B (i 11) λa8=>cV a8 (bB .neq 3 B (i 12) λa9=>K5 a9 a7) (K5 ff a7)) (λba bb=>∀_:Env,
 cV ba (cF 286 [p0,(Go.Value.string (hZ (#[59])))] bb λ_ bc=>K (.tuple #[]) bc) (eo (λK6=>bB .eql 3 B (i 12) λbd=>cV bd (bB .add 3 Z (i 1) λbe=>
 K6 be bb) (K6 Z bb)) (λG bf=>∀_:Env,
 bB .add 3 DD (i 1) λbg=>cF 338 [p0,bg,G] bf λbh bi=>fA 220 I 6 λbj=>sA 3 bj bh bi λE=>wL (λK7=>eo (λW=>bB .eql 3 B (i 11) λbl=>cV bl (
 nC p0 λbm=>fA 368 bm 2 λbn=>lA 40 bn (drew E) λbo=>bB .eql 40 bo (i 0) λbp=>cV bp (nC p0 λbq=>fA 368 bq 0 λbr=>lA 166 br (drew E) λbs=>nC p0 λbt=>
 fA 368 bt 1 λbu=>lA 3 bu (drew E) λbv=>cF 196 [bs,bv,(Go.Value.string (hZ (#[101,108,115,101])))] (drew E) λbw bx=>W bw bx) (W ff (drew E))) (W ff (drew E)))
 (λbz V=>∀_:Env,
 cV bz (nC p0 λb1=>fA 368 b1 1 λb2=>lA 3 b2 V λb3=>bB .add 3 b3 (i 1) λb4=>nC p0 λb5=>fA 368 b5 1 λb6=>sA 3 b6 b4 V λb7=>bB .add 3 DD (i 1) λb8=>
 cF 338 [p0,b8,G] b7 λb9 ca=>fA 220 I 7 λcb=>sA 3 cb b9 ca λcc=>K7 cc) (K7 V))) (λcd=>∀_:Env,
 nC p0 λce=>fA 368 ce 4 λcf=>lA 112 cf (drew cd) λcg=>lA 220 I (drew cd) λch=>iA 112 cg aw λci=>sA 220 ci ch (drew cd) λcj=>K (.tuple #[]) cj)))))))))) (λY=>Y (i 1) (i 2) h)
def agY:dI:=λi=>match i with
 | 0=>.run 0 11
 | 4=>(.of [(0,[]),(1,[]),(2,[]),(3,[]),(4,[]),(5,[]),(6,[]),(7,[]),(8,[]),(9,[3,7]),(10,[])])
 | 12=>(.of [(0,[]),(1,[]),(2,[]),(3,[]),(4,[]),(5,[]),(6,[4]),(7,[]),(8,[]),(9,[]),(10,[])])
 | 19=>.run 0 20
 | 22=>.run 0 8
 | _=>.nil
theorem RM(p0 u B:Value)(h:S285 w K p0 u B):CR 285 [p0,u,B] w K:=
 lE 134 agY 0 [] Tryz.func285 h
def agZ:dI:=λi=>match i with
 | 0=>.run 0 17
 | _=>.nil
def S287(I i1 W E:Value):Prop:=
 aL 371 w λa b=>bB .eql 3 E (i 5) λc=>cV c (cF 339 [I,i1,W] b λd e=>sA 371 a d e λf=>lA 371 a f λr=>K r f) (bB .add 3 E (i 1) λg=>cF 287 [I,i1,W,g] b λh j=>
 aL 371 j λk l=>sA 371 k h l λn=>MD (λV o=>∀_:Env,
 fA 371 k 2 λp=>lA 40 p o λq=>bB .eql 40 q (i 0) λs=>cV s (nX (λK2 Z J t=>∀_:Env,
 cF 340 [E] t λu v=>lN 22 u λx=>bA .lss 3 J x λy=>cV y (eo (λK3=>fA 371 k 1 λz=>lA 3 z (drew v) λU=>cF 340 [E] (drew v) λab O=>kA 3 z U O (iA 22 ab J λad=>
 lA 3 ad O λae=>cF 341 [ae] O λaf ag=>kA 3 z U ag (cF 196 [I,U,af] ag λah ai=>cV ah (cF 340 [E] ai λaj ak=>iA 22 aj J λal=>lA 3 al ak λam=>K3 am ak) (
 K3 Z ai)))) (λWi an=>∀_:Env,
 bB .add 3 J (i 1) λao=>K2 Wi ao an)) (bB .eql 3 Z (i 0) λap=>cV ap (lA 371 k v λaq=>sA 371 a aq v λar=>lA 371 a ar λKv=>K Kv ar) (fA 371 k 1 λM=>
 lA 3 M v λau=>bB .add 3 au (i 1) λav=>bB .add 3 E (i 1) λaw=>cF 287 [I,av,W,aw] v λax ay=>aL 371 ay λB az=>sA 371 B ax az λG=>fA 371 B 2 λa1=>
 lA 40 a1 G λa2=>bB .neq 40 a2 (i 0) λa3=>cV a3 (lA 371 B G λa4=>sA 371 a a4 G λa5=>lA 371 a a5 λWj=>K Wj a5) (fA 371 k 1 λa6=>lA 3 a6 G λa7=>iA 166 I a7 λa8=>
 fA 179 a8 3 λa9=>lA 3 a9 G λba=>dW hH (l1 183 [(0,Z),(3,ba)].toArray) λbb=>bS 92 1 [(0,bb)] G λbc bd=>fA 371 k 0 λbe=>lA 92 be bd λbf=>
 aP 92 bc bf bd λbg bh=>fA 371 B 0 λbi=>lA 92 bi bh λbj=>aP 92 bg bj bh λbk bl=>fA 371 B 1 λbm=>lA 3 bm bl λbn=>dW hH (l1 371 [(0,bk),(1,bn)].toArray) λbo=>
 sA 371 k bo bl λY=>bB .eql 3 E (i 2) λbq=>cV bq (lA 371 k Y λbr=>sA 371 a br Y λbs=>lA 371 a bs λr_3=>K r_3 bs) (V Y))))) λK2=>K2 (i 0) (i 0) o) (
 lA 371 k o λbt=>sA 371 a bt o λbu=>lA 371 a bu λr_4=>K r_4 bu)) λV=>V n)
def ag0:dI:=λi=>match i with
 | 9=>(.of [(0,[]),(1,[]),(2,[]),(3,[]),(5,[]),(4,[2]),(6,[]),(7,[]),(8,[2]),(9,[])])
 | _=>.nil
theorem RN(G B u E:Value)(h:S287 w K G B u E):CR 287 [G,B,u,E] w K:=
 lE 91 ag0 256 [.cell 8 371] Tryz.func287 h
def S288(u E:Value):Prop:=
 bB .add 3 E (i 1) λa=>Uz (λB G J I b=>∀_:Env,
 iA 92 u E λc=>fA 183 c 0 λd=>lA 3 d b λe=>cF 342 [e] b λf g=>bA .lss 3 I f λh=>cV h (cF 288 [u,J] g λj k=>dW hH (Builtin.max_ #[3,3] 3 [G,j].toArray) λl=>
 cF 343 [u,J] k λn o=>bB .add 3 I (i 1) λp=>B l n p o) (bB .add 3 G (i 1) λq=>K q g)) (λB=>B (i 0) a (i 0) w)
theorem RO(B u:Value)(h:S288 w K B u):CR 288 [B,u] w K:=
 lE 30 (λ_=>.nil) 16 [.tmp 4] Tryz.func288 h
theorem UM:PL 283:=dF Tryz.func283
theorem aaO:PL 284:=dF Tryz.func284
theorem UN:PL 285:=dF Tryz.func285
theorem sP:PL 286:=dF Tryz.func286
theorem IA:PL 287:=dF Tryz.func287
theorem UO:PL 288:=dF Tryz.func288
theorem aaP:PL 309:=dF Tryz.func309
theorem aaQ:PL 310:=dF Tryz.func310
theorem AL:PL 311:=dF Tryz.func311
theorem AM:PL 312:=dF Tryz.func312
theorem aaR:PL 313:=dF Tryz.func313
theorem aaS:PL 314:=dF Tryz.func314
theorem aaT:PL 315:=dF Tryz.func315
theorem aaU:PL 316:=dF Tryz.func316
theorem aaV:PL 317:=dF Tryz.func317
theorem aaW:PL 318:=dF Tryz.func318
theorem aaX:PL 319:=dF Tryz.func319
theorem aaY:PL 320:=dF Tryz.func320
theorem aaZ:PL 321:=dF Tryz.func321
theorem aa0:PL 322:=dF Tryz.func322
theorem aa1:PL 323:=dF Tryz.func323
theorem aa2:PL 324:=dF Tryz.func324
variable (w:World) (K:Value->hM)
def ag1:dI:=λi=>match i with
 | 2=>.run 0 10
 | 4=>.run 0 13
 | _=>.nil
def ag2:dI:=λi=>match i with
 | 2=>.run 0 13
 | 5=>.run 0 17
 | _=>.nil
def S339(B E V:Value):Prop:=
 aL 371 w λa b=>lN 166 B λc=>bA .geq 3 E c λd=>cV d (cF 357 [B,E,(i 6)] b λe f=>sA 371 a e f λg=>lA 371 a g λr=>K r g) (eo (λK1=>cF 196 [B,E,(Go.Value.string (hZ (#[33])))] b λh j=>
 cV h (K1 tt j) (cF 196 [B,E,(Go.Value.string (hZ (#[45])))] j λk l=>K1 k l)) (λM n=>∀_:Env,
 cF 196 [B,E,(Go.Value.string (hZ (#[40])))] n λo p=>eo (λK2=>cV M (bB .eql 3 V (i 12) λq=>K2 q p) (cV o (bB .eql 3 V (i 12) λs=>K2 s p) (K2 ff p)))
 (λt u=>∀_:Env,
 cV t (cF 357 [B,E,(i 7)] u λv x=>sA 371 a v x λy=>lA 371 a y λKv=>K Kv y) (cV M (bB .add 3 E (i 1) λz=>bB .add 3 V (i 1) λaa=>cF 339 [B,z,aa] u λab ac=>
 aL 371 ac λI ae=>sA 371 I ab ae λJ=>fA 371 I 2 λag=>lA 40 ag J λah=>bB .neq 40 ah (i 0) λai=>cV ai (lA 371 I J λaj=>sA 371 a aj J λak=>lA 371 a ak λWj=>
 K Wj ak) (eo (λK3=>iA 166 B E λal=>fA 179 al 1 λam=>lA 9 am J λan=>dW hH (g9 .eql 9 false true an (Go.Value.string (hZ (#[45])))) λao=>
 cV ao (K3 (i 3) J) (K3 (i 4) J)) (λMS ap=>∀_:Env,
 iA 166 B E λaq=>fA 179 aq 3 λar=>lA 3 ar ap λY=>dW hH (l1 183 [(0,MS),(3,Y)].toArray) λau=>bS 92 1 [(0,au)] ap λav aw=>fA 371 I 0 λax=>
 lA 92 ax aw λay=>aP 92 av ay aw λaz a0=>fA 371 I 0 λa1=>sA 92 a1 az a0 λa2=>lA 371 I a2 λa3=>sA 371 a a3 a2 λa4=>lA 371 a a4 λr_3=>K r_3 a4))) (cV o (
 bB .add 3 E (i 1) λa5=>bB .add 3 V (i 1) λa6=>cF 287 [B,a5,a6,(i 0)] u λa7 a8=>aL 371 a8 λG ba=>sA 371 G a7 ba λO=>fA 371 G 2 λbc=>lA 40 bc O λbd=>
 bB .neq 40 bd (i 0) λbe=>cV be (lA 371 G O λbf=>sA 371 a bf O λbg=>lA 371 a bg λr_4=>K r_4 bg) (fA 371 G 1 λbh=>lA 3 bh O λbi=>cF 196 [B,bi,(Go.Value.string (hZ (#[41])))] O λbj W=>
 dW hH (Op.unary .not bj) λbl=>cV bl (fA 371 G 1 λbm=>lA 3 bm W λbn=>cF 357 [B,bn,(i 5)] W λbo bp=>sA 371 a bo bp λbq=>lA 371 a bq λr_5=>K r_5 bq) (
 fA 371 G 1 λbr=>lA 3 br W λbs=>bB .add 3 bs (i 1) λbt=>fA 371 G 1 λbu=>sA 3 bu bt W λbv=>lA 371 G bv λbw=>sA 371 a bw bv λbx=>lA 371 a bx λZ=>
 K Z bx))) (iA 166 B E λbz=>fA 179 bz 0 λb0=>lA 3 b0 u λb1=>bB .eql 3 b1 (i 2) λb2=>cV b2 (iA 166 B E λb3=>fA 179 b3 2 λb4=>lA 3 b4 (drew u) λb5=>
 iA 166 B E λb6=>fA 179 b6 3 λb7=>lA 3 b7 (drew u) λb8=>dW hH (l1 183 [(0,(i 1)),(1,b5),(3,b8)].toArray) λb9=>bB .add 3 E (i 1) λca=>bS 92 1 [(0,b9)] (drew u) λcb cc=>
 dW hH (l1 371 [(0,cb),(1,ca)].toArray) λcd=>sA 371 a cd cc λce=>lA 371 a ce λr_7=>K r_7 ce) (eo (λK4=>iA 166 B E λcf=>fA 179 cf 0 λcg=>
 lA 3 cg u λch=>bB .eql 3 ch (i 1) λci=>cV ci (iA 166 B E λcj=>fA 179 cj 1 λck=>lA 9 ck u λcl=>cF 198 [cl] u λcm cn=>K4 cm cn) (K4 ff u)) (λco U=>∀_:Env,
 cV co (iA 166 B E λcq=>fA 179 cq 1 λcr=>lA 9 cr (drew U) λcs=>iA 166 B E λct=>fA 179 ct 3 λcu=>lA 3 cu (drew U) λcv=>dW hH (l1 183 [(0,(i 2)),(2,cs),(3,cv)].toArray) λcw=>
 bB .add 3 E (i 1) λcx=>bS 92 1 [(0,cw)] (drew U) λcy cz=>dW hH (l1 371 [(0,cy),(1,cx)].toArray) λc0=>sA 371 a c0 cz λc1=>lA 371 a c1 λr_8=>
 K r_8 c1) (cF 357 [B,E,(i 5)] U λc2 c3=>sA 371 a c2 c3 λc4=>lA 371 a c4 λr_9=>K r_9 c4)))))))))
def ag8:dI:=λi=>match i with
 | 27=>(.of [(0,[]),(1,[]),(2,[]),(3,[]),(4,[]),(5,[]),(6,[]),(7,[]),(8,[]),(9,[]),(10,[]),(12,[]),(13,[]),(11,[]),(14,[]),(15,[])])
 | 29=>(.of [(0,[]),(1,[]),(2,[]),(3,[]),(4,[]),(5,[]),(6,[]),(7,[]),(8,[]),(9,[]),(10,[]),(12,[]),(13,[]),(11,[]),(14,[]),(15,[])])
 | _=>.nil
theorem RP(B E u:Value)(h:S339 w K B E u):CR 339 [B,E,u] w K:=
 lE 152 ag8 64 [.cell 6 371] Tryz.func339 h
def S350(E a:Value):Prop:=
 lA 198 a w λb=>lN 198 b λc=>bB .sub 3 c (i 1) λd=>jC (λB u e=>∀_:Env,
 bB .geq 3 u (i 0) λf=>cV f (lA 198 a e λg=>iA 198 g u λh=>lA 262 h e λj=>gM hH E [u,j] e λk l=>dW hH (Op.unary .not k) λn=>cV n (
 K (.tuple #[]) l) (bB .sub 3 u (i 1) λo=>B o l)) (K (.tuple #[]) e)) (λB=>B d w)
theorem RQ(B u:Value)(h:S350 w K B u):CR 350 [B,u] w K:=
 lE 19 (λ_=>.nil) 0 [] Tryz.func350 h
def ag9:dI:=λi=>match i with
 | 1=>.run 0 45
 | 3=>.run 0 13
 | _=>.nil
def aha:dI:=λi=>match i with
 | 3=>.run 0 18
 | _=>.nil
def ahb:dI:=λi=>match i with
 | 1=>.run 0 31
 | 2=>.run 0 12
 | _=>.nil
def S357(G B I:Value):Prop:=
 aL 371 w λa b=>eo (λE=>lN 166 G λc=>bA .geq 3 B c λd=>cV d (E (i 6) b) (E I b)) (λu e=>∀_:Env,
 cF 201 [G,B] e λf g=>dW hH (l1 371 [(2,u),(3,f)].toArray) λh=>sA 371 a h g λj=>lA 371 a j λr=>K r j)
theorem RR(E B u:Value)(h:S357 w K E B u):CR 357 [E,B,u] w K:=
 lE 16 (λ_=>.nil) 64 [.cell 6 371] Tryz.func357 h
def S375(u B:Value):Prop:=
 bB .eql 3 u (i 3) λa=>cV a (bC .sub 3 (i 0) B λb=>K (.tuple #[b,(i 0)]) w) (bB .eql 3 u (i 4) λc=>cV c (bB .eql 3 B (i 0) λd=>cF 380 [d] w λe f=>K (.tuple #[e,(i 0)]) f) (
 K (.tuple #[(i 0),(i 1)]) w))
theorem RS(u B:Value)(h:S375 w K u B):CR 375 [u,B] w K:=
 lE 15 (λ_=>.nil) 48 [.tmp 4,.tmp 5] Tryz.func375 h
theorem aa3:PL 335:=dF Tryz.func335
theorem AN:PL 336:=dF Tryz.func336
theorem aa4:PL 337:=dF Tryz.func337
theorem UP:PL 338:=dF Tryz.func338
theorem UQ:PL 339:=dF Tryz.func339
theorem MT:PL 340:=dF Tryz.func340
theorem aa5:PL 341:=dF Tryz.func341
theorem MU:PL 342:=dF Tryz.func342
theorem UR:PL 343:=dF Tryz.func343
theorem aa6:PL 350:=dF Tryz.func350
theorem yt:PL 354:=dF Tryz.func354
theorem DE:PL 355:=dF Tryz.func355
theorem aa7:PL 356:=dF Tryz.func356
theorem IB:PL 357:=dF Tryz.func357
theorem aa8:PL 380:=dF Tryz.func380
end Go.Proofs.YtdncbeepkacgbaaGreatDoor
namespace Go.Fw
def nZ(w:World)(b:Nat)(cs:List Value):Prop:=∃u,w.heap[b]?=some (.cells cs.toArray u (0,0))
def Cell(w:World)(b o:Nat)(v:Value):Prop:=w.cell? ⟨b,o,none⟩=some v
structure fH(A:Nat->Prop)(w w':World):Prop where
 os:w'.os=w.os
 tape:w'.tape=w.tape
 output:w'.output=w.output
 size:w.heap.size<=w'.heap.size
 bM:∀b,b<w.heap.size->¬ A b->w'.heap[b]?=w.heap[b]?
def bF:Nat->Prop:=λ_=>False
abbrev Ext(w w':World):Prop:=fH bF w w'
def fH.refl(A:Nat->Prop)(w:World):fH A w w:=⟨rfl,rfl,rfl,oq _,λ_ _ _=>rfl⟩
def fH.trans{A B C:Nat->Prop}{w E G:World}(h:fH A w E)(k:fH B E G)(M:∀b,A b->C b)(J:∀b,b<w.heap.size->B b->C b):fH C w G:=
 ⟨k.os.trans h.os,k.tape.trans h.tape,k.output.trans h.output,xE h.size k.size,λb hb I=>
  (k.bM b (Nat.lt_of_lt_of_le hb h.size) λu=>I (J b hb u)).trans (h.bM b hb λu=>I (M b u))⟩
def fH.then{A:Nat->Prop}{w u B:World}(h:fH A w u)(k:Ext u B):fH A w B:=h.trans k (λ_ h=>h) λ_ _ h=>h.elim
def fH.mono{A B:Nat->Prop}{w w':World}(h:fH A w w')(u:∀b,A b->B b):fH B w w':=⟨h.os,h.tape,h.output,h.size,λb hb E=>h.bM b hb λx=>E (u b x)⟩
def Ext.refl(w:World):Ext w w:=fH.refl _ _
def Ext.trans{w u B:World}(h:Ext w u)(k:Ext u B):Ext w B:=fH.then h k
def Ext.aF{A:Nat->Prop}{w w':World}(h:Ext w w'):fH A w w':=h.mono λ_ h=>h.elim
theorem Ext.drew(w:World):Ext w (drew w):=⟨rfl,rfl,rfl,oq _,λ_ _ _=>rfl⟩
def fH.below{w w':World}(h:Ext w w'):Go.RowKit.Below w.heap.size w w':=⟨h.os,h.tape,h.output,h.size,λb hb=>h.bM b hb λx=>x⟩
def pN{w:World}{b:Nat}{o:Obj}(h:w.heap[b]?=some o):b<w.heap.size:=(vE.1 h).1
def nZ.lt{w:World}{b:Nat}{cs:List Value}(h:nZ w b cs):b<w.heap.size:=pN h.choose_spec
def Cell.lt{w:World}{b o:Nat}{v:Value}(h:Cell w b o v):b<w.heap.size:=by
 unfold Cell KO at h
 grind
def Cell.of_eq{w w':World}{b o:Nat}{v:Value}(h:Cell w b o v)(u:w'.heap[b]?=w.heap[b]?):Cell w' b o v:=by
 unfold Cell KO at *
 grind
def nZ.of_eq{w w':World}{b:Nat}{cs:List Value}(h:nZ w b cs)(u:w'.heap[b]?=w.heap[b]?):nZ w' b cs:=by
 grind[nZ]
def Cell.aF{A:Nat->Prop}{w w':World}{b o:Nat}{v:Value}(h:Cell w b o v)(hc:fH A w w')(u:¬ A b):Cell w' b o v:=h.of_eq (hc.bM b h.lt u)
theorem Cell.ext{w w':World}{b o:Nat}{v:Value}(h:Cell w b o v)(hc:Ext w w'):Cell w' b o v:=h.aF hc (λx=>x)
def nZ.cell{w:World}{b o:Nat}{cs:List Value}{v:Value}(h:nZ w b cs)(u:cs[o]?=some v):Cell w b o v:=by
 obtain⟨B,h⟩:=h
 unfold Cell KO
 grind
def nZ.frozen{w:World}{b o:Nat}{cs:List Value}(h:nZ w b cs):w.frozen? ⟨b,o,none⟩=false:=by
 obtain⟨u,h⟩:=h
 unfold World.frozen?
 grind
def BW(w:World)(b o:Nat)(v:Value)(k:Nat)(h:k≠b):(w.setCell ⟨b,o,none⟩ v).heap[k]?=w.heap[k]?:=by
 simp only[U2,Ie]
 grind
def nZ.setCell{w:World}{b o:Nat}{cs:List Value}(h:nZ w b cs)(v:Value):nZ (w.setCell ⟨b,o,none⟩ v) b (cs.set o v):=by
 obtain⟨u,h⟩:=h
 refine⟨u,?_⟩
 simp only[U2,Ie,if_true,h]
 simp
def fH.setCell(w:World)(b o:Nat)(v:Value):fH (· = b) w (w.setCell ⟨b,o,none⟩ v):=
 ⟨rfl,rfl,rfl,by simp_all,λk _ u=>BW w b o v k u⟩
def push(w:World)(o:Obj):World:={w with heap:=w.heap.push o}
def vF(w:World)(o:Obj)(k:Nat)(h:k<w.heap.size):(push w o).heap[k]?=w.heap[k]?:=by
 grind[push]
def jQ(w:World)(o:Obj):(push w o).heap[w.heap.size]?=some o:=by
 grind[push]
theorem vG(w:World)(o:Obj):(push w o).heap.size=w.heap.size+1:=by simp[push]
theorem Ext.push(w:World)(o:Obj):Ext w (push w o):=⟨rfl,rfl,rfl,by rw[vG];omega,λb hb _=>vF w o b hb⟩
theorem nZ.push(w:World)(cs:List Value)(u:TypeId):nZ (push w (.cells cs.toArray u)) w.heap.size cs:=⟨u,jQ _ _⟩
structure HP where
 p:World->(Nat->Prop)->Prop
 loc:∀w w' F,p w F->(∀b,F b->w'.heap[b]?=w.heap[b]?)->p w' F
 lt:∀w F b,p w F->F b->b<w.heap.size
def bM(b:Nat)(cs:List Value):HP where
 p w F:=nZ w b cs/\∀k,F k↔k=b
 loc w w' F h hh:=⟨h.1.of_eq (hh b ((h.2 b).2 rfl)),h.2⟩
 lt w F b' h hb:=by rw[(h.2 b').1 hb];exact h.1.lt
def mY(w0:World)(A:Nat->Prop):List HP->World->(Nat->Prop)->Prop
 | [],_,U=>∀b,¬ U b
 | H::L,w,U=>∃F u,H.p w F/\(∀b,F b->A b\/w0.heap.size<=b)/\(∀b,F b->¬ u b)/\(∀b,U b↔F b\/u b)/\mY w0 A L w u
structure St(w0:World)(A:Nat->Prop)(L:List HP)(w:World):Prop where
 aF:fH A w0 w
 oE:∃U,mY w0 A L w U
theorem mY.lt{w0:World}{A:Nat->Prop}{L:List HP}{w:World}{U:Nat->Prop}(h:mY w0 A L w U):∀b,U b->b<w.heap.size:=by
 induction L generalizing U with
 | nil=>intro b hb;exact(h b hb).elim
 | cons H L u=>
  obtain⟨F,B,h1,h2,h3,h4,h5⟩:=h
  intro b hb
  rcases(h4 b).1 hb with hf|hu
  .exact H.lt _ _ _ h1 hf
  .exact u h5 b hu
theorem mY.loc{w0:World}{A:Nat->Prop}{L:List HP}{w w':World}{U:Nat->Prop}(h:mY w0 A L w U)(u:∀b,U b->w'.heap[b]?=w.heap[b]?):mY w0 A L w' U:=by
 induction L generalizing U with
 | nil=>exact h
 | cons H L B=>
  obtain⟨F,E,h1,h2,h3,h4,h5⟩:=h
  exact⟨F,E,H.loc _ _ _ h1 λb hb=>u b ((h4 b).2 (.inl hb)),h2,h3,h4,B h5 λb hb=>u b ((h4 b).2 (.inr hb))⟩
def St.start(w:World):St w bF [] w:=⟨fH.refl _ _,bF,λ_ h=>h⟩
def St.begin{w:World}{F:Nat->Prop}{H:HP}(h:H.p w F):St w F [H] w:=
 ⟨fH.refl _ _,F,F,bF,h,λ_ h=>.inl h,λ_ _ h=>h,λ_=>⟨.inl,λh=>h.elim id λh=>h.elim⟩,λ_ h=>h⟩
theorem St.ext{w0:World}{A:Nat->Prop}{L:List HP}{w w':World}(h:St w0 A L w)(e:Ext w w'):St w0 A L w':=by
 obtain⟨U,u⟩:=h.oE
 exact⟨h.aF.then e,U,u.loc λb hb=>e.bM b (u.lt b hb) λx=>x⟩
theorem St.drew{w0:World}{A:Nat->Prop}{L:List HP}{w:World}(h:St w0 A L w):St w0 A L (drew w):=h.ext (Ext.drew w)
def St.new{w0:World}{A:Nat->Prop}{L:List HP}{w w':World}{H:HP}{F:Nat->Prop}(h:St w0 A L w)(e:Ext w w')(G:H.p w' F)(I:∀b,F b->w.heap.size<=b):St w0 A (H::L) w':=by
 obtain⟨U,M⟩:=(h.ext e).oE
 obtain⟨E,u⟩:=h.oE
 have B:mY w0 A L w' E:=u.loc λb hb=>e.bM b (u.lt b hb) (λx=>x)
 refine⟨(h.ext e).aF,λb=>F b\/E b,F,E,G,λb hb=>.inr ?_,λb hb J=>?_,λb=>Iff.rfl,B⟩
 .exact xE h.aF.size (I b hb)
 have:=u.lt b J;grind
def St.mM{w0:World}{A:Nat->Prop}{L:List HP}{w w':World}{H H':HP}(h:St w0 A (H::L) w)
  (O:∀F,H.p w F->∃B,H'.p w' B/\(∀b,B b->F b\/w.heap.size<=b)/\fH F w w'):St w0 A (H'::L) w':=by
 obtain⟨U,F,I,h1,h2,h3,h4,h5⟩:=h.oE
 obtain⟨B,J,E,G⟩:=O F h1
 refine⟨h.aF.trans G (λ_ h=>h) λb hb u=>?_,λb=>B b\/I b,B,I,J,λb hb=>?_,λb hb M=>?_,λb=>Iff.rfl,?_⟩
 .grind
 .rcases E b hb with u|u
  .grind
  exact .inr (xE h.aF.size u)
 .rcases E b hb with u|u
  .grind
  have:=h5.lt b M;omega
 exact h5.loc λb hb=>G.bM b (h5.lt b hb) λu=>h3 b u hb
def St.drop{w0:World}{A:Nat->Prop}{L:List HP}{w:World}{H:HP}(h:St w0 A (H::L) w):St w0 A L w:=by
 obtain⟨U,F,u,h1,h2,h3,h4,h5⟩:=h.oE
 exact⟨h.aF,u,h5⟩
def St.swap{w0:World}{A:Nat->Prop}{L:List HP}{w:World}{H H':HP}(h:St w0 A (H::H'::L) w):St w0 A (H'::H::L) w:=by
 obtain⟨U,F,O,h1,h2,h3,h4,I,u,G,B,J,M,E⟩:=h.oE
 refine⟨h.aF,U,I,λb=>F b\/u b,G,B,λb hb=>?_,λb=>?_,F,u,h1,h2,λb hb V=>?_,λb=>Iff.rfl,E⟩
 .grind
 .grind
 grind
def mY.swap{w0:World}{A:Nat->Prop}{L:List HP}{w:World}{H H':HP}{U:Nat->Prop}(h:mY w0 A (H::H'::L) w U):mY w0 A (H'::H::L) w U:=by
 obtain⟨F,O,h1,h2,h3,h4,I,u,G,B,J,M,E⟩:=h
 refine⟨I,λb=>F b\/u b,G,B,λb hb=>?_,λb=>?_,F,u,h1,h2,λb hb V=>?_,λb=>Iff.rfl,E⟩
 .grind
 .grind
 grind
def mY.under{w0:World}{A:Nat->Prop}{L L':List HP}{w:World}{H:HP}{U:Nat->Prop}(u:∀U,mY w0 A L w U->mY w0 A L' w U)(h:mY w0 A (H::L) w U):mY w0 A (H::L') w U:=by
 grind[mY]
theorem mY.pull{w0:World}{A:Nat->Prop}{u B:List HP}{w:World}{H:HP}{U:Nat->Prop}(h:mY w0 A (u++H::B) w U):mY w0 A (H::(u++B)) w U:=by
 induction u generalizing U with
 | nil=>exact h
 | cons X u E=>exact mY.swap (mY.under (λU h=>E h) h)
def St.pull{w0:World}{A:Nat->Prop}{w:World}(B:List HP){H:HP}{u:List HP}(h:St w0 A (B++H::u) w):St w0 A (H::(B++u)) w:=by
 obtain⟨U,E⟩:=h.oE
 exact⟨h.aF,U,E.pull⟩
def St.p1{w0:World}{A:Nat->Prop}{w:World}{u H:HP}{R:List HP}(h:St w0 A (u::H::R) w):St w0 A (H::u::R) w:=St.pull [u] h
def St.p2{w0:World}{A:Nat->Prop}{w:World}{u B H:HP}{R:List HP}(h:St w0 A (u::B::H::R) w):St w0 A (H::u::B::R) w:=St.pull [u,B] h
def St.p3{w0:World}{A:Nat->Prop}{w:World}{u B E H:HP}{R:List HP}(h:St w0 A (u::B::E::H::R) w):St w0 A (H::u::B::E::R) w:=St.pull [u,B,E] h
def St.p4{w0:World}{A:Nat->Prop}{w:World}{u B E P3 H:HP}{R:List HP}(h:St w0 A (u::B::E::P3::H::R) w):St w0 A (H::u::B::E::P3::R) w:=St.pull [u,B,E,P3] h
def St.p5{w0:World}{A:Nat->Prop}{w:World}{u B G P3 E H:HP}{R:List HP}(h:St w0 A (u::B::G::P3::E::H::R) w):St w0 A (H::u::B::G::P3::E::R) w:=St.pull [u,B,G,P3,E] h
def St.p6{w0:World}{A:Nat->Prop}{w:World}{u B I P3 G E H:HP}{R:List HP}(h:St w0 A (u::B::I::P3::G::E::H::R) w):St w0 A (H::u::B::I::P3::G::E::R) w:=St.pull [u,B,I,P3,G,E] h
def St.p7{w0:World}{A:Nat->Prop}{w:World}{u B J P3 I E G H:HP}{R:List HP}(h:St w0 A (u::B::J::P3::I::E::G::H::R) w):St w0 A (H::u::B::J::P3::I::E::G::R) w:=St.pull [u,B,J,P3,I,E,G] h
def St.p8{w0:World}{A:Nat->Prop}{w:World}{u B M P3 I E J G H:HP}{R:List HP}(h:St w0 A (u::B::M::P3::I::E::J::G::H::R) w):St w0 A (H::u::B::M::P3::I::E::J::G::R) w:=St.pull [u,B,M,P3,I,E,J,G] h
def St.p9{w0:World}{A:Nat->Prop}{w:World}{u B O P3 I E J G M H:HP}{R:List HP}(h:St w0 A (u::B::O::P3::I::E::J::G::M::H::R) w):St w0 A (H::u::B::O::P3::I::E::J::G::M::R) w:=St.pull [u,B,O,P3,I,E,J,G,M] h
def St.p10{w0:World}{A:Nat->Prop}{w:World}{u B U P3 I E J G M O H:HP}{R:List HP}(h:St w0 A (u::B::U::P3::I::E::J::G::M::O::H::R) w):St w0 A (H::u::B::U::P3::I::E::J::G::M::O::R) w:=St.pull [u,B,U,P3,I,E,J,G,M,O] h
def St.p11{w0:World}{A:Nat->Prop}{w:World}{u B U P3 I E J G M O RT H:HP}{R:List HP}(h:St w0 A (u::B::U::P3::I::E::J::G::M::O::RT::H::R) w):St w0 A (H::u::B::U::P3::I::E::J::G::M::O::RT::R) w:=St.pull [u,B,U,P3,I,E,J,G,M,O,RT] h
def St.p12{w0:World}{A:Nat->Prop}{w:World}{B E V P3 J I M G O U RT u H:HP}{R:List HP}(h:St w0 A (B::E::V::P3::J::I::M::G::O::U::RT::u::H::R) w):St w0 A (H::B::E::V::P3::J::I::M::G::O::U::RT::u::R) w:=St.pull [B,E,V,P3,J,I,M,G,O,U,RT,u] h
def St.p0{w0:World}{A:Nat->Prop}{w:World}{L:List HP}(h:St w0 A L w):St w0 A L w:=h
def St.head{w0:World}{A:Nat->Prop}{L:List HP}{w:World}{H:HP}(h:St w0 A (H::L) w):∃F,H.p w F/\∀b,F b->A b\/w0.heap.size<=b:=by
 obtain⟨U,F,u,h1,h2,_⟩:=h.oE;grind
theorem St.hb{w0:World}{A:Nat->Prop}{L:List HP}{w:World}{b:Nat}{cs:List Value}(h:St w0 A (bM b cs::L) w):nZ w b cs:=by
 obtain⟨F,h1,_⟩:=h.head;exact h1.1
def qG:Value->Bool
 | .agg _=>false
 | .tuple _=>false
 | _=>true
def cH(P:Program)(T:TypeId):Option (Bool×Nat):=
 match P.underlying T with
 | some d=>(P.info? T).map λi=>(match d with|.struct _|.array _ _=>true|_=>false,i.size)
 | none=>none
def aN(P:Program)(T f:Nat):Option (Nat×Option Bool):=
 match P.underlying T with
 | some (.struct B)=>(B[f]?).map λu=>(u.offset,(P.info? u.type).map λi=>i.size != 0)
 | _=>none
def dV(P:Program)(T:TypeId):Option (TypeId×Nat×Nat×Option Nat):=
 match P.underlying T with
 | some (.slice E)=>(P.info? E).map λi=>(E,i.size,i.bytes,i.zero.map λz=>z.cells.size)
 | _=>none
def dB(P:Program)(T:TypeId):Option (Option Value):=(P.info? T).map λi=>i.zero
abbrev MV(P:Program)(T:TypeId):Prop:=cH P T=some (false,1)
abbrev RU(P:Program)(T:TypeId)(n:Nat):Prop:=cH P T=some (true,n)
abbrev vH(P:Program)(T f u:Nat):Prop:=aN P T f=some (u,some true)
abbrev Rd(P:Program)(T E n bytes:Nat):Prop:=dV P T=some (E,n,bytes,some n)
abbrev kj(P:Program)(T:TypeId)(z:Value):Prop:=dB P T=some (some z)
theorem jg{P:Program}{T:TypeId}{i:TypeInfo}(h:P.info? T=some i):pr P (typeInfo T)=some i:=by
 show pr P (match P.info? T with|some i => pure i|none => stuck "no such type")=_
 rw[h];rfl
theorem bR{P:Program}{T:TypeId}{d:TypeDesc}(h:P.underlying T=some d):pr P (underlying T)=some d:=by
 show pr P (match P.underlying T with|some d => pure d|none => stuck "no such type")=_
 rw[h];rfl
theorem km{P:Program}{T:TypeId}{i:TypeInfo}(h:P.info? T=some i):pr P (sizeOf T)=some i.size:=by
 unfold sizeOf;rw[bT,jg h];rfl
theorem ue{P:Program}{α β:Type}(m:Sem α)(f:α->β):pr P (do pure (f (<- m)))=(pr P m).map f:=by
 rw[bT];cases pr P m<;>rfl
theorem iM{P:Program}{T:TypeId}{a:Bool}{n:Nat}(h:cH P T=some (a,n)):pr P (isAgg T)=some a/\pr P (sizeOf T)=some n:=by
 unfold cH at h
 cases hd:P.underlying T with
 | none=>grind
 | some d=>
  rw[hd]at h
  cases hi:P.info? T with
  | none=>grind
  | some i=>
   rw[hi]at h
   simp only[wm,nN.injEq,Ug.injEq]at h
   obtain⟨h1,h2⟩:=h
   refine⟨?_,by rw[km hi,h2]⟩
   unfold isAgg
   rw[bT,bR hd]
   show pr P (match d with|.struct _|.array _ _=>pure true|_=>pure false)=_
   rw[<- h1]
   cases d<;>rfl
theorem eA{P:Program}{T E n u:Nat}{z:Option Nat}(h:dV P T=some (E,n,u,z)) :
  P.underlying T=some (.slice E)/\∃i,P.info? E=some i/\i.size=n/\i.bytes=u/\i.zero.map (λz=>z.cells.size)=z:=by
 unfold dV at h
 split at h
 .rename_i E' hE
  cases hi:P.info? E' with
  | none=>grind
  | some i=>
   grind
 cases h
section
variable {P:Program}{w:World}
theorem pop{m:Sem Value}{v:Value}{K:Value->Prop}(h:pr P m=some v)(k:K v):dW P m K:=⟨v,h,k⟩
theorem aD{a:Addr}{K:Value->Prop}(k:K (.pointer (some a))):dW P (Kk (.pointer (some a))) K:=⟨_,rfl,k⟩
theorem bJ{b:Bool}{K:Value->Prop}(k:K (.bool (!b))):dW P (Op.unary .not (.bool b)) K:=⟨_,rfl,k⟩
theorem DF{p:Prop}[Decidable p]{K:Value->Prop}(k:K (.bool (decide (¬ p)))):dW P (Op.unary .not (.bool (decide p))) K:=by
 refine bJ ?_
 grind
theorem aJ{vs:List Value}{i:Nat}{v:Value}{K:Value->Prop}(h:vs[i]?=some v)(k:K v):dW P (K0 (.tuple vs.toArray) i) K:=
 ⟨v,by simp only[K0,H5,h];rfl,k⟩
theorem aS{T:Nat}{cx cy:Bool}{a b:Int}{K:Value->Prop}(k:K (.bool (decide (a<b)))):dW P (g9 .lss T cx cy (hU a) (hU b)) K:=⟨_,rfl,k⟩
theorem gO{T:Nat}{cx cy:Bool}{a b:Int}{K:Value->Prop}(k:K (.bool (decide (a<=b)))):dW P (g9 .leq T cx cy (hU a) (hU b)) K:=⟨_,rfl,k⟩
theorem dL{T:Nat}{cx cy:Bool}{a b:Int}{K:Value->Prop}(k:K (.bool (decide (b<a)))):dW P (g9 .gtr T cx cy (hU a) (hU b)) K:=⟨_,rfl,k⟩
theorem cJ{T:Nat}{cx cy:Bool}{a b:Int}{K:Value->Prop}(k:K (.bool (decide (b<=a)))):dW P (g9 .geq T cx cy (hU a) (hU b)) K:=⟨_,rfl,k⟩
theorem aG{T:Nat}{cx cy:Bool}{a b:Int}{K:Value->Prop}(k:K (.bool (decide (a=b)))):dW P (g9 .eql T cx cy (hU a) (hU b)) K:=⟨_,rfl,k⟩
theorem cC{T:Nat}{cx cy:Bool}{a b:Int}{K:Value->Prop}(k:K (.bool (decide (a≠b)))):dW P (g9 .neq T cx cy (hU a) (hU b)) K:=
 ⟨_,(show pr P (g9 .neq T cx cy (hU a) (hU b))=some (.bool (decide (a≠b)))from by
  show some (sy (a != b))=_
  grind),k⟩
theorem aK{T:Nat}{cx cy:Bool}{a b:Int}{K:Value->Prop}(h : -9223372036854775808<=a+b/\a+b<=9223372036854775807)(k:K (hU (a+b))) :
  dW P (g9 .add T cx cy (hU a) (hU b)) K:=
 ⟨_,(show pr P (g9 .add T cx cy (hU a) (hU b))=some (hU (a+b))from by
  show some (mj .i64 (IntKind.i64.wrap (a+b)))=_
  rw[IntWalk.i64_in _ h]),k⟩
theorem fo{T:Nat}{cx cy:Bool}{a b:Int}{K:Value->Prop}(h : -9223372036854775808<=a-b/\a-b<=9223372036854775807)(k:K (hU (a-b))) :
  dW P (g9 .sub T cx cy (hU a) (hU b)) K:=
 ⟨_,(show pr P (g9 .sub T cx cy (hU a) (hU b))=some (hU (a-b))from by
  show some (mj .i64 (IntKind.i64.wrap (a-b)))=_
  rw[IntWalk.i64_in _ h]),k⟩
theorem IC{T:Nat}{cx cy:Bool}{a b:Int}{K:Value->Prop}(h : -9223372036854775808<=a*b/\a*b<=9223372036854775807)(k:K (hU (a*b))) :
  dW P (g9 .mul T cx cy (hU a) (hU b)) K:=
 ⟨_,(show pr P (g9 .mul T cx cy (hU a) (hU b))=some (hU (a*b))from by
  show some (mj .i64 (IntKind.i64.wrap (a*b)))=_
  rw[IntWalk.i64_in _ h]),k⟩
theorem aC{p:Prop}[Decidable p]{A B:Prop}(h1:p->A)(h2:¬ p->B):sN (.bool (decide p)) A B:=
 ⟨_,rfl,λh=>h1 (gv h),λh=>h2 (g6 h)⟩
theorem gH{A B:Prop}(h:A):sN (.bool true) A B:=⟨_,rfl,λ_=>h,λh=>by cases h⟩
theorem et{A B:Prop}(h:B):sN (.bool false) A B:=⟨_,rfl,λh=>(by cases h),λ_=>h⟩
theorem bD{b:Bool}{A B:Prop}(h1:b=true->A)(h2:b=false->B):sN (.bool b) A B:=⟨_,rfl,h1,h2⟩
theorem gx{α:Type}(l:List α){i:Nat}(h:i<l.length):∃x,l[i]?=some x:=⟨_,List.getElem?_eq_getElem h⟩
theorem dP{a b:Nat}(h:Kh a b=true):a<=b:=u4 h
theorem dX{f:FuncId}{args:List Value}{Φ K:Value->hM}(pl:Plain P f)(h:Calls P f args.toArray w (oV Φ))(k:∀v w',Φ v w'->K v w') :
  wJ P f args w K:=⟨.inl ⟨pl,h.mono λ_ _ r=>r.mono k⟩⟩
theorem fm{g:FuncId}{args first cap:List Value}{Φ K:Value->hM}(pl:Plain P g)(h:Calls P g (first++args++cap).toArray w (oV Φ))(k:∀v w',Φ v w'->K v w') :
  gM P (.func (.func g) first.toArray cap.toArray) args w K:=⟨.inl ⟨g,_,_,rfl,pl,by simpa using h.mono λ_ _ r=>r.mono k⟩⟩
variable {w0:World}{A:Nat->Prop}{L:List HP}
theorem run_load(a:Addr)(v:Value)(h:w.cell? a=some v):(load a).run P w=.ok v w:=by
 simp_all
theorem fp(b o j:Nat):(Addr.mk b o none).add j=⟨b,o+j,none⟩:=by
 unfold Addr.add;grind
theorem run_loadCellsFrom(b o:Nat):∀(n i:Nat) (u:Array Value) (cs:List Value),cs.length=n->(∀j c,cs[j]?=some c->Cell w b (o+i+j) c)->
  (loadCellsFrom ⟨b,o,none⟩ i n u).run P w=.ok (u++cs.toArray) w:=by
 intro n
 induction n with
 | zero=>intro i u cs B _;obtain rfl:=List.length_eq_zero_iff.1 B;simp[loadCellsFrom]
 | succ n E=>
  intro i u cs B h
  match cs,B with
  | c::cs,B=>
   unfold loadCellsFrom
   rw[dD (run_load _ c (by rw[fp];exact h 0 c rfl))]
   rw[E (i+1) (u.push c) cs cR λj d G=>by have:=h (j+1) d cR;grind]
   simp
theorem run_loadCells{b o:Nat}{cs:List Value}(h:∀j c,cs[j]?=some c->Cell w b (o+j) c):(loadCells ⟨b,o,none⟩ cs.length).run P w=.ok cs.toArray w:=by
 unfold loadCells
 rw[run_loadCellsFrom b o cs.length 0 #[] cs rfl λj c hc=>cR]
 simp
theorem aY{T:TypeId}{b o:Nat}{v:Value}(ht:MV P T)(h:Cell w b o v):(rB T (.pointer (some ⟨b,o,none⟩))).run P w=.ok v w:=by
 show(loadVar T ⟨b,o,none⟩).run P w=_
 unfold loadVar
 rw[dD (eM (iM ht).1 w)]
 exact run_load _ v h
theorem wN{T:TypeId}{b o:Nat}{cs:List Value}(ht:RU P T cs.length)(h:∀j c,cs[j]?=some c->Cell w b (o+j) c) :
  (rB T (.pointer (some ⟨b,o,none⟩))).run P w=.ok (.agg cs.toArray) w:=by
 show(loadVar T ⟨b,o,none⟩).run P w=_
 unfold loadVar
 rw[dD (eM (iM ht).1 w)]
 simp only[if_true]
 rw[dD (eM (iM ht).2 w),dD (run_loadCells h)]
 rfl
theorem aB{T:TypeId}{b o:Nat}{cs:List Value}{v:Value}{K:Value->Prop}(ht:MV P T)(hb:nZ w b cs)(hc:cs[o]?=some v)(k:K v) :
  Aw P (rB T (.pointer (some ⟨b,o,none⟩))) w K:=⟨v,aY ht (hb.cell hc),k⟩
theorem DG{T:TypeId}{b n:Nat}{cs:List Value}{K:Value->Prop}(ht:RU P T n)(hb:nZ w b cs)(u:cs.length=n)(k:K (.agg cs.toArray)) :
  Aw P (rB T (.pointer (some ⟨b,0,none⟩))) w K:=by
 subst u
 exact⟨_,wN ht λj c hc=>by rw[o6];exact hb.cell hc,k⟩
theorem Gk{T f u b o:Nat}(ht:vH P T f u):pr P (z6 T (.pointer (some ⟨b,o,none⟩)) f)=some (.pointer (some ⟨b,o+u,none⟩)):=by
 unfold vH aN at ht
 split at ht
 .rename_i fs hfs
  cases hf:fs[f]? with
  | none=>grind
  | some fd=>
   rw[hf]at ht
   simp only[wm,nN.injEq,Ug.injEq]at ht
   obtain⟨B,E⟩:=ht
   cases hi:P.info? fd.type with
   | none=>grind
   | some i=>
    rw[hi]at E
    have G:i.size≠0:=cR
    unfold z6
    rw[bT,bR hfs]
    simp only[kO,hf]
    show pr P (do pure (U3 (some (<- fieldPlace ⟨b,o,none⟩ fd))))=_
    rw[ue]
    unfold fieldPlace
    rw[bT,km hi]
    simp only[kO,ez G,fp,B]
    rfl
 cases ht
theorem aA{T f u b o:Nat}{K:Value->Prop}(ht:vH P T f u)(k:K (.pointer (some ⟨b,o+u,none⟩))) :
  dW P (z6 T (.pointer (some ⟨b,o,none⟩)) f) K:=⟨_,Gk ht,k⟩
theorem pfb{T f u b o T2:Nat}{cs:List Value}{v:Value}{K:Value->Prop}(ht:vH P T f u)(h2:MV P T2)(hb:nZ w b cs)(hc:cs[o+u]?=some v)(k:K v) :
  dW P (z6 T (.pointer (some ⟨b,o,none⟩)) f) λp=>Aw P (rB T2 p) w K:=aA ht (aB h2 hb hc k)
theorem BX(T:TypeId)(v:Value):(pQ T v).run P w=.ok (.pointer (some ⟨w.heap.size,0,none⟩)) (push w (.cells v.cells T)):=rfl
theorem St.push{T:TypeId}{cs:List Value}(u:St w0 A L w):St w0 A (bM w.heap.size cs::L) (push w (.cells cs.toArray T)):=
 u.new (Ext.push _ _) (F:=λk=>k=w.heap.size) ⟨nZ.push w cs T,λ_=>Iff.rfl⟩ λb hb=>by rw[hb];exact oq _
theorem jR{T:TypeId}{v:Value}{K:Value->hM}(B:St w0 A L w)(u:qG v=true)
  (k:∀b w',St w0 A (bM b [v]::L) w'->K (.pointer (some ⟨b,0,none⟩)) w'):lW P (pQ T v) w K:=by
 refine⟨_,_,BX T v,k _ _ ?_⟩
 have:v.cells=[v].toArray:=by cases v<;>first|rfl|cases u
 rw[this]
 exact B.push
theorem o0{T:TypeId}{cs:List Value}{K:Value->hM}(u:St w0 A L w)
  (k:∀b w',St w0 A (bM b cs::L) w'->K (.pointer (some ⟨b,0,none⟩)) w'):lW P (pQ T (.agg cs.toArray)) w K:=
 ⟨_,_,BX T _,k _ _ u.push⟩
theorem fq{T:TypeId}{z:Value}{K:Value->hM}(E:St w0 A L w)(u:kj P T z)(B:qG z=true)
  (k:∀b w',St w0 A (bM b [z]::L) w'->K (.pointer (some ⟨b,0,none⟩)) w'):lW P (Is T true (.tuple #[])) w K:=by
 unfold kj dB at u
 cases hi:P.info? T with
 | none=>rw[hi]at u;cases u
 | some i=>
  rw[hi]at u
  simp only[wm,nN.injEq]at u
  have h1:pr P (zeroValue T)=some z:=by unfold zeroValue;rw[bT,jg hi];simp only[kO,u];rfl
  refine⟨_,push w (.cells [z].toArray T),?_,k _ _ (E.push (T:=T))⟩
  unfold Is
  rw[dD (eM h1 w)]
  have:z.cells=[z].toArray:=by cases z<;>first|rfl|cases B
  show(do pure (U3 (some (<- newVar T z))):Sem Value).run P w=_
  unfold newVar
  rw[this]
  rfl
theorem aM{T:TypeId}{cs:List Value}{K:Value->hM}(B:St w0 A L w)(u:kj P T (.agg cs.toArray))
  (k:∀b w',St w0 A (bM b cs::L) w'->K (.pointer (some ⟨b,0,none⟩)) w'):lW P (Is T true (.tuple #[])) w K:=by
 unfold kj dB at u
 cases hi:P.info? T with
 | none=>rw[hi]at u;cases u
 | some i=>
  rw[hi]at u
  simp only[wm,nN.injEq]at u
  have h1:pr P (zeroValue T)=some (.agg cs.toArray):=by unfold zeroValue;rw[bT,jg hi];simp only[kO,u];rfl
  refine⟨_,push w (.cells cs.toArray T),?_,k _ _ (B.push (T:=T))⟩
  unfold Is
  rw[dD (eM h1 w)]
  rfl
theorem run_store{b o:Nat}{cs:List Value}{v:Value}(hb:nZ w b cs)(B:o<cs.length)(u:qG v=true) :
  (store ⟨b,o,none⟩ v).run P w=.ok () (w.setCell ⟨b,o,none⟩ v):=by
 have h1:w.cell? ⟨b,o,none⟩=some cs[o]:=hb.cell (by simp[B])
 have h2:=hb.frozen (o:=o)
 unfold store
 cases v<;>first|cases u|skip
 all_goals
  simp only[Sem.run,h1,h2]
  rfl
theorem DH{b o:Nat}{cs:List Value}{v:Value}(B:St w0 A (bM b cs::L) w):St w0 A (bM b (cs.set o v)::L) (w.setCell ⟨b,o,none⟩ v):=
 B.mM λF u=>⟨F,⟨u.1.setCell v,u.2⟩,λ_ h=>.inl h,(fH.setCell w b o v).mono λk E=>(u.2 k).2 E⟩
theorem aO{T:TypeId}{b o:Nat}{cs:List Value}{v:Value}{K:hM}(B:St w0 A (bM b cs::L) w)(ht:MV P T)(E:o<cs.length)(u:qG v=true)
  (k:∀w',St w0 A (bM b (cs.set o v)::L) w'->K w'):Md P (zQ T (.pointer (some ⟨b,o,none⟩)) v) w K:=by
 refine⟨_,?_,k _ (DH B)⟩
 show(storeVar T ⟨b,o,none⟩ v).run P w=_
 have hc:v.cells = #[v]:=by cases v<;>first|rfl|cases u
 unfold storeVar
 rw[dD (eM (iM ht).2 w),hc]
 simp only[Eb,oi,Dd,o6,ne_eq,not_true_eq_false,if_false]
 show(storeCells ⟨b,o,none⟩ [v]).run P w=_
 unfold storeCells
 rw[fp,Hp,dD (run_store B.hb E u)]
 rfl
def fS:List Value->Nat->List Value->List Value
 | cs,_,[]=>cs
 | cs,o,v::r=>fS (cs.set o v) (o+1) r
theorem yu{b o:Nat}:∀(vs:List Value) (i:Nat) (cs:List Value) (w:World),St w0 A (bM b cs::L) w->o+i+vs.length<=cs.length->(∀v∈vs,qG v=true)->
  ∃w',(storeCells ⟨b,o,none⟩ vs i).run P w=.ok () w'/\St w0 A (bM b (fS cs (o+i) vs)::L) w':=by
 intro vs
 induction vs with
 | nil=>intro i cs w u _ _;exact⟨w,rfl,u⟩
 | cons v r E=>
  intro i cs w u J B
  have I:o+i+(r.length+1)<=cs.length:=by simpa using J
  have h1:=run_store (P:=P) u.hb (o:=o+i) (v:=v) bP (B v ew)
  obtain⟨w',h2,h3⟩:=E (i+1) (cs.set (o+i) v) _ (DH u) (by simp;omega) (λx G=>B x (by simp[G]))
  refine⟨w',?_,by rw[show o+(i+1)=o+i+1 from bP]at h3;exact h3⟩
  show(do store ((Addr.mk b o none).add i) v;storeCells ⟨b,o,none⟩ r (i+1):Sem Unit).run P w=_
  rw[fp,dD h1,h2]
theorem yv{T:TypeId}{b o n:Nat}{cs vs:List Value}{K:hM}(E:St w0 A (bM b cs::L) w)(ht:RU P T n)(B:vs.length=n)(G:o+n<=cs.length)(u:∀v∈vs,qG v=true)
  (k:∀w',St w0 A (bM b (fS cs o vs)::L) w'->K w'):Md P (zQ T (.pointer (some ⟨b,o,none⟩)) (.agg vs.toArray)) w K:=by
 subst B
 obtain⟨w',h1,h2⟩:=yu (P:=P) (o:=o) vs 0 cs w E bP u
 refine⟨w',?_,k w' h2⟩
 show(storeVar T ⟨b,o,none⟩ (.agg vs.toArray)).run P w=_
 unfold storeVar
 rw[dD (eM (iM ht).2 w)]
 simp only[TE,Eb,ne_eq,not_true_eq_false,if_false]
 exact h1
end
end Go.Fw
namespace Go.Fw
class Flat (α:Type) where
 agg:Bool
 sz:Nat
 enc:α->List Value
 val:α->Value
 pos:0<sz
 len:∀a,(enc a).length=sz
 one:∀a v,v∈enc a->qG v=true
 lj:agg=true->∀a,val a=.agg (enc a).toArray
 lF:agg=false->∀a,enc a=[val a]
instance:Flat Int where
 agg:=false
 sz:=1
 enc n:=[hU n]
 val n:=hU n
 pos:=ea
 len _:=rfl
 one a v h:=by rw[ru.1 h];rfl
 lj h:=by cases h
 lF _ _:=rfl
instance:Flat Bool where
 agg:=false
 sz:=1
 enc n:=[.bool n]
 val n:=.bool n
 pos:=ea
 len _:=rfl
 one a v h:=by rw[ru.1 h];rfl
 lj h:=by cases h
 lF _ _:=rfl
instance:Flat ByteArray where
 agg:=false
 sz:=1
 enc n:=[.string n]
 val n:=.string n
 pos:=ea
 len _:=rfl
 one a v h:=by rw[ru.1 h];rfl
 lj h:=by cases h
 lF _ _:=rfl
section
variable {α:Type}[Flat α]
def flat(xs:List α):List Value:=xs.flatMap Flat.enc
theorem jh:flat ([]:List α)=[]:=rfl
theorem iw(x:α)(xs:List α):flat (x::xs)=Flat.enc x++flat xs:=by simp[flat]
theorem ft(xs ys:List α):flat (xs++ys)=flat xs++flat ys:=by simp[flat]
theorem cG(xs:List α):(flat xs).length=xs.length*Flat.sz α:=by
 induction xs with
 | nil=>simp[jh]
 | cons x xs u=>rw[iw,kC,u,Flat.len,oi,CN];omega
theorem uf{xs:List α}:∀v∈flat xs,qG v=true:=by
 intro v u
 obtain⟨x,_,B⟩:=List.mem_flatMap.1 u
 exact Flat.one x v B
theorem o7{xs:List α}{i j:Nat}{x:α}{c:Value}(u:xs[i]?=some x)(hc:(Flat.enc x)[j]?=some c):(flat xs)[i*Flat.sz α+j]?=some c:=by
 induction xs generalizing i with
 | nil=>simp at u
 | cons y ys B=>
  rw[iw]
  cases i with
  | zero=>
   grind
  | succ i=>
   have:=B (by simpa using u)
   rw[List.getElem?_append_right (by rw[Flat.len,CN];omega),Flat.len]
   grind
theorem AO(xs:List α)(n:Nat):flat (xs.take n)=(flat xs).take (n*Flat.sz α):=by
 induction xs generalizing n with
 | nil=>simp[jh]
 | cons x xs u=>
  cases n with
  | zero=>simp[jh]
  | succ n=>
   rw[Pb,iw,iw,u,List.take_append,Flat.len]
   have h1:(n+1)*Flat.sz α-Flat.sz α=n*Flat.sz α:=cR
   rw[h1,List.take_of_length_le (i:=(n+1)*Flat.sz α) (l:=Flat.enc x) (by rw[Flat.len,CN];omega)]
theorem AP(xs:List α)(n:Nat):flat (xs.drop n)=(flat xs).drop (n*Flat.sz α):=by
 induction xs generalizing n with
 | nil=>simp[jh]
 | cons x xs u=>
  cases n with
  | zero=>simp
  | succ n=>
   rw[List.drop_succ_cons,iw,u,List.drop_append,Flat.len]
   have h1:(n+1)*Flat.sz α-Flat.sz α=n*Flat.sz α:=cR
   rw[h1,List.drop_of_length_le (i:=(n+1)*Flat.sz α) (l:=Flat.enc x) (by rw[Flat.len,CN];omega),sk]
def At(S:Nat->Prop)(w:World)(p:Value)(x:α):Prop:=
 ∃b o,p=.pointer (some ⟨b,o,none⟩)/\S b/\∀j c,(Flat.enc x)[j]?=some c->Cell w b (o+j) c
def dy(S:Nat->Prop)(w:World)(v:Value)(xs:List α):Prop:=
 ∃a cap,v=.slice a xs.length cap/\xs.length<=cap/\((xs=[]/\cap=0)\/∃b o,a=some ⟨b,o,none⟩/\(xs≠[]->S b)/\∀j c,(flat xs)[j]?=some c->Cell w b (o+j) c)
def bH(v:Value)(xs:List α):HP where
 p w F:=(v=.slice none 0 0/\xs=[]/\∀b,¬ F b)\/
  ∃b cap rest,v=.slice (some ⟨b,0,none⟩) xs.length cap/\nZ w b (flat xs++rest)/\(xs.length<=cap/\cap*Flat.sz α<=(flat xs++rest).length)/\∀k,F k↔k=b
 loc w w' F h hh:=by
  rcases h with h|⟨b,cap,rest,h1,h2,h3,h4⟩
  .grind
  .exact .inr ⟨b,cap,rest,h1,h2.of_eq (hh b ((h4 b).2 rfl)),h3,h4⟩
 lt w F b h hb:=by
  rcases h with h|⟨u,cap,rest,h1,h2,h3,h4⟩
  .grind
  .rw[(h4 b).1 hb];exact h2.lt
variable {P:Program}{w w0:World}{A S:Nat->Prop}{L:List HP}{xs ys:List α}
theorem At.aF{A:Nat->Prop}{w w':World}{p:Value}{x:α}(h:At S w p x)(hc:fH A w w')(B:∀b,S b->¬ A b):At S w' p x:=by
 obtain⟨b,o,h1,h2,h3⟩:=h;exact⟨b,o,h1,h2,λj c u=>(h3 j c u).aF hc (B b h2)⟩
theorem At.ext{w w':World}{p:Value}{x:α}(h:At S w p x)(hc:Ext w w'):At S w' p x:=h.aF hc λ_ _ h=>h
theorem dy.aF{A:Nat->Prop}{w w':World}{v:Value}(h:dy S w v xs)(hc:fH A w w')(B:∀b,S b->¬ A b):dy S w' v xs:=by
 obtain⟨a,cap,h1,h2,h3⟩:=h
 refine⟨a,cap,h1,h2,?_⟩
 rcases h3 with h3|⟨b,o,h3,h4,h5⟩
 .grind
 exact .inr ⟨b,o,h3,h4,λj c u=>(h5 j c u).aF hc (B b (h4 λh=>by subst h;simp[jh]at u))⟩
theorem dy.ext{w w':World}{v:Value}(h:dy S w v xs)(hc:Ext w w'):dy S w' v xs:=h.aF hc λ_ _ h=>h
theorem dy.mono{u:Nat->Prop}{v:Value}(h:dy S w v xs)(B:∀b,S b->u b):dy u w v xs:=by
 grind[dy]
theorem dy.nil(S:Nat->Prop)(w:World):dy S w (.slice none 0 0) ([]:List α):=⟨none,0,rfl,oq _,.inl ⟨rfl,rfl⟩⟩
theorem bH.rd{v:Value}{F:Nat->Prop}(h:(bH v xs).p w F):dy F w v xs:=by
 rcases h with⟨h1,h2,h3⟩|⟨b,cap,rest,h1,h2,h3,h4⟩
 .subst h1 h2;exact dy.nil _ _
 refine⟨_,cap,h1,?_,.inr ⟨b,0,rfl,λ_=>(h4 b).2 rfl,λj c u=>?_⟩⟩
 .exact h3.1
 rw[o6]
 exact h2.cell cR
theorem St.rd{v:Value}(u:St w0 A (bH v xs::L) w):∃S,(∀b,S b->A b\/w0.heap.size<=b)/\dy S w v xs:=by
 obtain⟨F,h1,h2⟩:=u.head;exact⟨F,h2,bH.rd h1⟩
theorem St.eU{v:Value}(u:St w0 A (bH v xs::L) w):dy (λ_=>True) w v xs:=by
 obtain⟨S,_,h⟩:=u.rd;exact h.mono λ_ _=>trivial
theorem St.eF(u:St w0 A L w):St w0 A (bH (.slice none 0 0) ([]:List α)::L) w:=
 u.new (Ext.refl w) (F:=bF) (.inl ⟨rfl,rfl,λ_ h=>h⟩) λ_ h=>h.elim
theorem aE{T:TypeId}{p:Value}{x:α}{K:Value->Prop}(ht:cH P T=some (Flat.agg α,Flat.sz α))(h:At S w p x)(k:K (Flat.val x)):Aw P (rB T p) w K:=by
 obtain⟨b,o,rfl,_,h3⟩:=h
 cases ha:Flat.agg α with
 | true=>
  rw[ha]at ht
  refine⟨_,?_,k⟩
  rw[Flat.lj ha x]
  exact wN (by rw[Flat.len];exact ht) h3
 | false=>
  rw[ha]at ht
  have h1:=Flat.lF ha x
  have u:Flat.sz α=1:=by rw[<- Flat.len x,h1];rfl
  rw[u]at ht
  exact⟨_,aY ht (by have:=h3 0 (Flat.val x) cR;omega),k⟩
theorem St.At{b:Nat}{x:α}(B:St w0 A (Fw.bM b (Flat.enc x)::L) w):Fw.At (λ_=>True) w (.pointer (some ⟨b,0,none⟩)) x:=
 ⟨b,0,rfl,trivial,λj c u=>by rw[o6];exact B.hb.cell u⟩
theorem cU{β:Type}[Flat β]{T f u:Nat}{p:Value}{x:α}(y:β){K:Value->Prop}(ht:vH P T f u)(h:At S w p x)(G:(Flat.enc x)[u]?=some (Flat.val y))(E:Flat.agg β=false)
  (k:∀q,At S w q y->K q):dW P (z6 T p f) K:=by
 obtain⟨b,o,rfl,h2,h3⟩:=h
 refine aA ht (k _ ⟨b,o+u,rfl,h2,λj c B=>?_⟩)
 rw[Flat.lF E]at B
 grind
theorem BY{T R E n u:Nat}{z:Option Nat}{a:Option Addr}{l c:Nat}(ht:dV P T=some (E,n,u,z)):pr P (Builtin.len_ #[T] R [sB a l c].toArray)=some (hU l):=by
 show pr P (do
  match <- underlying T,sB a l c with
  | .string,.string s=>pure (goInt s.size)
  | .array n _,_=>pure (goInt n)
  | .pointer arr,_=>
   let .array n _ <- underlying arr|stuck "len: pointer to array expected"
   pure (goInt n)
  | .slice _,.slice _ n _=>pure (goInt n)
  | .map _ _,.map none|.chan _ _,.chan none=>pure (goInt 0)
  | .map _ _,.map (some r)=>
   let .map entries _ <- getObj r|stuck "len: map expected"
   pure (goInt entries.size)
  | .chan _ _,.chan (some r)=>
   let .chan _ buf _ _ _ timer <- getObj r|stuck "len: channel expected"
   pure (goInt (if timer then 0 else buf.size))
  | _, _ => stuck "len: string, array, pointer to array, slice, map or channel expected")=_
 rw[bT,bR (eA ht).1]
 rfl
theorem aI{T R E n u:Nat}{z:Option Nat}{v:Value}{K:Value->Prop}(ht:dV P T=some (E,n,u,z))(h:dy S w v xs)(k:K (hU (xs.length:Int))) :
  dW P (Builtin.len_ #[T] R [v].toArray) K:=by
 obtain⟨a,cap,rfl,_⟩:=h
 exact⟨_,BY ht,k⟩
theorem aZ{T E J:Nat}{z:Option Nat}{v:Value}{i:Int}{x:α}{K:Value->Prop}(ht:dV P T=some (E,Flat.sz α,J,z))(h:dy S w v xs)(O:0<=i)(u:xs[i.toNat]?=some x)
  (k:∀p,At S w p x->K p):dW P (z7 T v (hU i)) K:=by
 obtain⟨a,cap,rfl,Z,h3⟩:=h
 have Y:i.toNat<xs.length:=(jq.1 u).1
 rcases h3 with⟨rfl,_⟩|⟨b,o,rfl,h4,h5⟩
 .simp at u
 obtain⟨V,I,hi,W,_⟩:=eA ht
 refine⟨.pointer (some ⟨b,o+i.toNat*Flat.sz α,none⟩),?_,k _ ⟨b,_,rfl,h4 cR,λj c M=>?_⟩⟩
 .unfold z7
  rw[bT]
  show pr P _=_
  simp only[asIntOf]
  have G:pr P (underlying T)=some (.slice E):=bR V
  have B:pr P (sizeOf E)=some (Flat.sz α):=by rw[km hi,W]
  simp only[bT,G,B,kO,eW]
  have U:0<=i/\i<(xs.length:Int):=⟨O,bP⟩
  simp only[fi U,bT,B,kO,eW,fp]
 have:=h5 (i.toNat*Flat.sz α+j) c (o7 u M)
 grind
end
end Go.Fw
namespace Go.Fw
section
variable {α:Type}[Flat α] {P:Program}{w w0:World}{A S:Nat->Prop}{L:List HP}{xs ys:List α}
theorem fV{y:Nat}{i:Int}{code:BoundsCode}(u:0<=i)(h1:i<=y):pr P (QF (hU i) y code)=some i.toNat:=by
 unfold QF
 rw[bT]
 simp only[asIntOf,eW,kO,fi (show 0<=i/\i<=(y:Int)from⟨u,h1⟩)]
theorem qQ{T E sz B:Nat}{z:Option Nat}{a:Option Addr}{n cap l h:Nat}{lo hi:Option Value}(ht:dV P T=some (E,sz,B,z))
  (hb:pr P (qh true n cap lo hi none)=some (l,h,cap)) :
  pr P (mA T (.slice a n cap) lo hi none)=some (.slice (if cap=l then a else a.map (·.add (l*sz))) (h-l) (cap-l)):=by
 obtain⟨u,J,G,I,_⟩:=eA ht
 unfold mA
 rw[bT,bR u]
 simp only[kO]
 unfold Instr.slice
 rw[bT,bR u]
 simp only[kO]
 rw[bT,hb]
 simp only[kO]
 rw[bT,km G,I]
 rfl
theorem ko{n cap l h:Nat}{lo hi:Option Value}(E:lo=none/\l=0\/∃i:Int,lo=some (hU i)/\0<=i/\l=i.toNat)(G:hi=none/\h=n\/∃i:Int,hi=some (hU i)/\0<=i/\h=i.toNat)
  (h1:l<=h) (h2:h<=cap):pr P (qh true n cap lo hi none)=some (l,h,cap):=by
 rcases E with⟨rfl,rfl⟩|⟨i,rfl,B,rfl⟩<;>rcases G with⟨rfl,rfl⟩|⟨I,rfl,u,rfl⟩<;>simp only[qh,bT,eW,kO]
 .rw[fV u bP];rfl
 .rw[fV B bP];rfl
 rw[fV u bP];simp only[kO];rw[fV B bP];rfl
theorem dy.cut{v:Value}{a:Option Addr}{n cap l h:Nat}(G:v=.slice a n cap)(U:dy S w v xs)(h1:l<=h)(h2:h<=xs.length) :
  dy S w (.slice (if cap=l then a else a.map (·.add (l*Flat.sz α))) (h-l) (cap-l)) ((xs.take h).drop l):=by
 obtain⟨V,B,M,Z,h3⟩:=U
 rw[M]at G
 simp only[sB.injEq]at G
 obtain⟨rfl,W,rfl⟩:=G
 have hlen:((xs.take h).drop l).length=h-l:=by simp;omega
 rcases h3 with⟨E,Y⟩|⟨b,o,rfl,h4,h5⟩
 .subst E
  exact⟨_,B-l,by rw[hlen],ew,.inl ⟨ew,bP⟩⟩
 refine⟨_,B-l,by rw[hlen],bP,.inr ?_⟩
 have J:(xs.take h).drop l≠[]->xs≠[]:=λu I=>u cR
 by_cases u:B=l
 .rw[fi u]
  grind[flat,Cell]
 rw[ez u]
 refine⟨b,o+l*Flat.sz α,by simp[fp],λI=>h4 (J I),λj c O=>?_⟩
 rw[AP,AO,List.getElem?_drop,List.getElem?_take]at O
 grind
theorem ID{T E I:Nat}{z:Option Nat}{v:Value}{lo hi:Option Value}{l h:Nat}{K:Value->Prop}(ht:dV P T=some (E,Flat.sz α,I,z))(u:dy S w v xs)
  (G:lo=none/\l=0\/∃i:Int,lo=some (hU i)/\0<=i/\l=i.toNat) (J:hi=none/\h=xs.length\/∃i:Int,hi=some (hU i)/\0<=i/\h=i.toNat)
  (h1:l<=h) (h2:h<=xs.length) (k:∀B,dy S w B ((xs.take h).drop l)->K B):dW P (mA T v lo hi none) K:=by
 have M:=u
 obtain⟨a,cap,rfl,O,h3⟩:=u
 exact⟨_,qQ ht (ko G J h1 bP),k _ (M.cut rfl h1 h2)⟩
theorem AQ{T E I:Nat}{z:Option Nat}{v:Value}{i:Int}{K:Value->Prop}(ht:dV P T=some (E,Flat.sz α,I,z))(B:dy S w v xs)(G:0<=i)(h2:i<=xs.length)
  (k:∀u,dy S w u (xs.take i.toNat)->K u):dW P (mA T v none (some (hU i)) none) K:=
 ID ht B (.inl ⟨rfl,rfl⟩) (.inr ⟨i,rfl,G,rfl⟩) bP bP λu h=>k u cR
theorem Kw{T E I:Nat}{z:Option Nat}{v:Value}{i:Int}{K:Value->Prop}(ht:dV P T=some (E,Flat.sz α,I,z))(B:dy S w v xs)(G:0<=i)(h2:i<=xs.length)
  (k:∀u,dy S w u (xs.drop i.toNat)->K u):dW P (mA T v (some (hU i)) none none) K:=
 ID ht B (.inr ⟨i,rfl,G,rfl⟩) (.inl ⟨rfl,rfl⟩) bP bP λu h=>k u cR
theorem jw{b o:Nat}:∀(vs:List Value) (i:Nat) (cs:List Value) (w:World),nZ w b cs->o+i+vs.length<=cs.length->(∀v∈vs,qG v=true)->
  ∃w',(storeCells ⟨b,o,none⟩ vs i).run P w=.ok () w'/\nZ w' b (fS cs (o+i) vs)/\fH (· = b) w w':=by
 intro vs
 induction vs with
 | nil=>intro i cs w hb _ _;exact⟨w,rfl,hb,fH.refl _ _⟩
 | cons v r G=>
  intro i cs w hb I u
  have E:o+i+(r.length+1)<=cs.length:=bP
  have h1:=run_store (P:=P) hb (o:=o+i) (v:=v) bP (u v ew)
  obtain⟨w',h2,h3,h4⟩:=G (i+1) (cs.set (o+i) v) _ (hb.setCell v) (by simp;omega) (λx B=>u x (by simp[B]))
  refine⟨w',?_,by grind[nZ,fS],(fH.setCell w b (o+i) v).trans h4 (λ_ h=>h) λ_ _ h=>h⟩
  show(do store ((Addr.mk b o none).add i) v;storeCells ⟨b,o,none⟩ r (i+1):Sem Unit).run P w=_
  rw[fp,dD h1,h2]
theorem ji(pre u post vs:List Value)(h:u.length=vs.length):fS (pre++u++post) pre.length vs=pre++vs++post:=by
 induction vs generalizing pre u with
 | nil=>grind[fS]
 | cons v r B=>
  match u,h with
  | m::u,h=>
   have e:(pre++(m::u)++post).set pre.length v=(pre++[v])++u++post:=ew
   simp only[fS,e]
   have:=B (pre++[v]) u cR
   simp_all
theorem rZ{sz:Nat}{v:Value}(u:sz=Flat.sz α)(h:dy S w v ys):(Builtin.firstCells sz ys.length v).run P w=.ok (flat ys).toArray w:=by
 subst u
 obtain⟨a,cap,rfl,_,h3⟩:=h
 rcases h3 with⟨rfl,_⟩|⟨b,o,rfl,_,h5⟩
 .cases a with
  | none=>rfl
  | some a=>simp[Builtin.firstCells,loadCells,loadCellsFrom,jh]
 have:=run_loadCells (P:=P) h5
 rw[cG]at this
 exact this
theorem vJ{b o:Nat}{cs:List Value}(h:∀j c,cs[j]?=some c->Cell w b (o+j) c):∀j v,cs[j]?=some v->w.cell? ((⟨b,o,none⟩:Addr).add j)=some v:=λj v u=>by
 rw[fp];exact h j v u
theorem wO{T E iY R:Nat}{v src:Value}{F:Nat->Prop}(ht:Rd P T E (Flat.sz α) iY)(hv:(bH v xs).p w F)(qH:dy S w src ys)
  (hn:xs.length+ys.length<=17592186044416) (G:(xs.length+ys.length)*iY<=140737488355328) :
  ∃v' w' F',(Builtin.append_ #[T,T] R [v,src].toArray).run P w=.ok v' w'/\(bH v' (xs++ys)).p w' F'/\(∀b,F' b->F b\/w.heap.size<=b)/\fH F w w':=by
 obtain⟨Y,u,hi,Z,td,W⟩:=eA ht
 obtain⟨zv,J,hzs⟩:∃zv,u.zero=some zv/\zv.cells.size=Flat.sz α:=by
  cases Re:u.zero with
  | none=>rw[Re]at W;cases W
  | some zv=>rw[Re]at W;exact⟨zv,rfl,by simpa using W⟩
 have hmul:(xs.length+ys.length)*u.bytes<=140737488355328:=by rw[show u.bytes=iY by omega];exact G
 have made:∀(cap:Nat),cap<xs.length+ys.length->
   (bH (.slice (some ⟨w.heap.size,0,none⟩) (xs.length+ys.length) (grownCap w (xs.length+ys.length) cap E)) (xs++ys)).p
    (w.drew.alloc (.cells ((flat xs).toArray++(flat ys).toArray++Builtin.zeroCells zv.cells (grownCap w (xs.length+ys.length) cap E-(xs.length+ys.length))) E)) (λk=>k=w.heap.size):=by
  intro cap hc
  have RV:=grownCap_ge w (xs.length+ys.length) cap E
  refine .inr ⟨w.heap.size,grownCap w (xs.length+ys.length) cap E,(Builtin.zeroCells zv.cells (grownCap w (xs.length+ys.length) cap E-(xs.length+ys.length))).toList,ew,⟨E,?_⟩,?_,λ_=>Iff.rfl⟩
  .have:=jQ w.drew (.cells ((flat xs).toArray++(flat ys).toArray++Builtin.zeroCells zv.cells (grownCap w (xs.length+ys.length) cap E-(xs.length+ys.length))) E)
   refine Eq.trans this ?_
   congr 2
   apply Vu
   simp[ft]
  .refine⟨by rw[kC];exact RV,CJ (Eq.symm ?_)⟩
   have e:(Builtin.zeroCells zv.cells (grownCap w (xs.length+ys.length) cap E-(xs.length+ys.length))).toList.length=(grownCap w (xs.length+ys.length) cap E-(xs.length+ys.length))*Flat.sz α:=by
    rw[JE,size_zeroCells,hzs]
   rw[kC,e,cG,kC,<- TF]
   congr 1
   omega
 have M:∀o,fH F w (w.drew.alloc o):=λo=>⟨rfl,rfl,rfl,ew,λb hb _=>vF w.drew o b hb⟩
 have rd:=qH
 obtain⟨sa,MW,rfl,US,Wl⟩:=rd
 rcases hv with⟨rfl,rfl,V⟩|⟨b,cap,rest,rfl,hb,B,V⟩
 ·
  simp only[Dd,o6,sk]at *
  by_cases G:ys=[]
  .subst G
   refine⟨.slice none 0 0,w,F,?_,.inl ⟨rfl,rfl,V⟩,λb hb=>.inl hb,fH.refl _ _⟩
   cases sa<;>simp[Builtin.append_,run_underlying Y,sizeOf,typeInfo,hi,Builtin.lenOf,Builtin.firstCells,loadCells,loadCellsFrom]
  have xu:0<ys.length:=List.length_pos_iff.2 G
  rcases Wl with⟨h,_⟩|⟨b,o,rfl,_,RW⟩
  .exact absurd h G
  have I:=run_append_nil (P:=P) w T R E u zv Y hi J ⟨b,o,none⟩ ys.length MW (flat ys) (by rw[cG,Z]) (vJ RW) xu bP bP
  refine⟨_,_,λk=>k=w.heap.size,I,?_,λk O=>.inr (by rw[O];exact oq _),M _⟩
  have:=made 0 xu
  simpa[jh]using this
 have xt:xs.length<=cap:=B.1
 replace B:=B.2
 by_cases U:xs.length+ys.length<=cap
 ·
  have RX:(xs.length+ys.length)*Flat.sz α<=cap*Flat.sz α:=yS _ U
  have Gl:(flat xs).length=xs.length*Flat.sz α:=cG xs
  have tZ:(flat ys).length<=rest.length:=by
   rw[kC,Gl]at B;rw[cG];rw[TF]at RX;omega
  obtain⟨w',h1,h2,h3⟩:=jw (P:=P) (o:=xs.length*Flat.sz α) (flat ys) 0 (flat xs++rest) w hb (by rw[kC,Gl];omega) uf
  have Ac:fS (flat xs++rest) (xs.length*Flat.sz α+0) (flat ys)=flat (xs++ys)++rest.drop (flat ys).length:=by
   have:=ji (flat xs) (rest.take (flat ys).length) (rest.drop (flat ys).length) (flat ys) (by simp;omega)
   rw[Gl]at this
   rw[Hp,ft]
   rw[<- this]
   simp
  rw[Ac]at h2
  refine⟨.slice (some ⟨b,0,none⟩) (xs.length+ys.length) cap,w',F,?_,.inr ⟨b,cap,_,ew,h2,?_,V⟩,λb hb=>.inl hb,h3.mono λk O=>(V k).2 O⟩
  .have hf:=rZ (α:=α) (P:=P) (sz:=Flat.sz α) rfl qH
   have oF:(⟨b,0,none⟩:Addr).add (xs.length*Flat.sz α)=⟨b,xs.length*Flat.sz α,none⟩:=by rw[fp,o6]
   simp[Builtin.append_,run_underlying Y,sizeOf,typeInfo,hi,Builtin.lenOf,U,hf,Z,oF,h1]
  refine⟨by rw[kC];exact U,xE B (CJ ?_)⟩
  rw[kC,kC,ft,kC,List.length_drop];omega
 have I:=run_append_grow (P:=P) w T R E u zv Y hi J ⟨b,0,none⟩ xs.length cap (flat xs) (by rw[cG,Z])
  (vJ λj c hj=>by rw[o6];exact hb.cell (by rw[qi (jq.1 hj).1];exact hj))
 rcases Wl with⟨h,_⟩|⟨b',o,rfl,_,RW⟩
 .subst h;simp at U;omega
 have I:=I ⟨b',o,none⟩ ys.length MW (flat ys) (by rw[cG,Z]) (vJ RW) bP bP (growslice_fits bP hmul)
 exact⟨_,_,λk=>k=w.heap.size,I,made cap bP,λk O=>.inr (by rw[O];exact oq _),M _⟩
theorem Wm{T E B R:Nat}{v src:Value}{F:Nat->Prop}(ht:Rd P T E (Flat.sz α) B)(I:(bH v xs).p w F)(J:dy S w src ys)
  (O:xs.length+ys.length<=1073741824) (M:B<=8192) :
  ∃G w' u,(Builtin.append_ #[T,T] R [v,src].toArray).run P w=.ok G w'/\(bH G (xs++ys)).p w' u/\(∀b,u b->F b\/w.heap.size<=b)/\fH F w w':=
 wO ht I J bP (by have:=Ou O M;omega)
theorem DI{T E M R:Nat}{v src:Value}{K:Value->hM}(G:St w0 A (bH v xs::L) w)(ht:Rd P T E (Flat.sz α) M)(qH:dy S w src ys)
  (hn:xs.length+ys.length<=17592186044416) (Z:(xs.length+ys.length)*M<=140737488355328) (k:∀B w',St w0 A (bH B (xs++ys)::L) w'->K B w'):lW P (Builtin.append_ #[T,T] R [v,src].toArray) w K:=by
 obtain⟨U,F,V,h1,h2,h3,h4,h5⟩:=G.oE
 obtain⟨B,w',I,g1,Y,J,O⟩:=wO (R:=R) ht h1 qH hn Z
 refine⟨B,w',g1,k B w' ?_⟩
 refine⟨G.aF.trans O (λ_ h=>h) λb hb u=>(h2 b u).elim id λhh=>bP,λb=>I b\/V b,I,V,Y,λb hb=>?_,λb hb W=>?_,λb=>Iff.rfl,?_⟩
 .rcases J b hb with u|u
  .exact h2 b u
  exact .inr (xE G.aF.size u)
 .rcases J b hb with u|u
  .exact h3 b u W
  have:=h5.lt b W;omega
 exact h5.loc λb hb=>O.bM b (h5.lt b hb) λu=>h3 b u hb
theorem cO{T E u R:Nat}{v src:Value}{K:Value->hM}(I:St w0 A (bH v xs::L) w)(ht:Rd P T E (Flat.sz α) u)(G:dy S w src ys)
  (M:xs.length+ys.length<=1073741824) (J:u<=8192) (k:∀B w',St w0 A (bH B (xs++ys)::L) w'->K B w'):lW P (Builtin.append_ #[T,T] R [v,src].toArray) w K:=
 DI I ht G bP (by have:=Ou M J;omega) k
end
end Go.Fw
namespace Go.Fw
section
variable {α:Type}[Flat α] {P:Program}{w w0:World}{A S:Nat->Prop}{L:List HP}{xs ys:List α}
theorem lG(x:α):(Flat.val x).cells=(Flat.enc x).toArray:=by
 cases h:Flat.agg α with
 | true=>rw[Flat.lj h];rfl
 | false=>
  have h1:=Flat.lF h x
  have h2:=Flat.one x (Flat.val x) cR
  rw[h1]
  revert h2
  cases Flat.val x<;>simp[qG,TE]
theorem Gm(cs:List Value)(o:Nat)(v:Value)(r:List Value):fS cs o (v::r)=fS (cs.set o v) (o+1) r:=rfl
theorem DJ(u:Nat):∀(l:List Value) (k:Nat) (cs:Array Value),((l.zipIdx k).foldl (fun (cs:Array Value) q=>cs.setIfInBounds (u+q.2) q.1) cs).toList=fS cs.toList (u+k) l:=by
 intro l
 induction l with
 | nil=>intro k cs;rfl
 | cons v r B=>
  intro k cs
  rw[Rn,List.foldl_cons,B (k+1),Gm]
  grind
theorem B0(u:Nat)(l:List Value)(cs:Array Value) :
  (l.toArray.zipIdx.foldl (fun (cs:Array Value) (q:Value×Nat)=>match q with|(c,j)=>cs.setIfInBounds (u+j) c) cs).toList=fS cs.toList u l:=by
 rw[<- PI]
 have e:l.toArray.zipIdx.toList=l.zipIdx 0:=ew
 rw[e]
 exact DJ u l 0 cs
theorem Kx:∀(xs:List α) (k:Nat) (pre u:List Value),pre.length=k*Flat.sz α->u.length=xs.length*Flat.sz α->
  PJ (λi=>some (i*Flat.sz α,Flat.sz α)) (pre++u).toArray ((xs.zipIdx k).map λq=>(q.2,Flat.val q.1))=some (pre++flat xs).toArray:=by
 intro xs
 induction xs with
 | nil=>intro k pre u _ B;simp at B;subst B;simp[PJ,jh]
 | cons x xs E=>
  intro k pre u G B
  rw[Rn,List.map_cons]
  unfold PJ
  dsimp only
  have I:(Flat.val x).cells.size=Flat.sz α:=by rw[lG];simp[Flat.len]
  have J:u.length=xs.length*Flat.sz α+Flat.sz α:=cR
  rw[ez cR]
  have e:((Flat.val x).cells.zipIdx.foldl (fun (cs:Array Value) (q:Value×Nat)=>match q with|(c,j)=>cs.setIfInBounds (k*Flat.sz α+j) c) (pre++u).toArray) =
    ((pre++Flat.enc x)++u.drop (Flat.sz α)).toArray:=by
   apply Vu
   rw[lG,B0]
   have h1:=ji pre (u.take (Flat.sz α)) (u.drop (Flat.sz α)) (Flat.enc x) (by simp[Flat.len];omega)
   simp_all
  rw[e]
  have:=E (k+1) (pre++Flat.enc x) (u.drop (Flat.sz α)) (by rw[kC,G,Flat.len,CN]) cR
  rw[this,iw,mv]
theorem bK{T E U n:Nat}{parts:List (Nat×Value)}{K:Value->hM}(xs:List α)(hs:St w0 A L w)(ht:Rd P T E (Flat.sz α) U)(W:xs.length=n)
  (V:parts=xs.zipIdx.map λq=>(q.2,Flat.val q.1)) (hl:xs.length*Flat.sz α<=16777216) (k:∀v w',St w0 A (bH v xs::L) w'->K v w') :
  lW P (EL T n parts.toArray) w K:=by
 subst W
 obtain⟨Y,u,hi,Z,td,G⟩:=eA ht
 obtain⟨zv,I,O⟩:∃zv,u.zero=some zv/\zv.cells.size=Flat.sz α:=by
  cases Re:u.zero with
  | none=>rw[Re]at G;cases G
  | some zv=>rw[Re]at G;exact⟨zv,rfl,by simpa using G⟩
 have es:pr P (sizeOf E)=some (Flat.sz α):=by rw[km hi,Z]
 have M:pr P (zeroValue E)=some zv:=by unfold zeroValue;rw[bT,jg hi];simp only[kO,I];rfl
 refine⟨.slice (some ⟨w.heap.size,0,none⟩) xs.length xs.length,push w (.cells (flat xs).toArray E),?_,k _ _ ?_⟩
 .have B:∀z:Array Value,PJ (λi=>some (i*Flat.sz α,Flat.sz α)) ((Vb (xs.length*Flat.sz α)).map (z[· % z.size]!)) parts=some (flat xs).toArray:=by
   intro z
   have:=Kx xs 0 [] ((Vb (xs.length*Flat.sz α)).map (z[· % z.size]!)).toList ew ew
   rw[V]
   rw[sk,sk,Iz]at this
   exact this
  unfold EL
  rw[dD (eM (bR Y) w)]
  dsimp only
  rw[dD (eM es w),ez bP]
  by_cases J:xs.length*Flat.sz α=0
  .simp only[fi J]
   rw[dD (run_pure _ w),B]
   rfl
  simp only[ez J]
  rw[dD (eM M w),dD (run_pure _ w),B]
  rfl
 refine hs.new (Ext.push _ _) (F:=λk=>k=w.heap.size) (.inr ⟨w.heap.size,xs.length,[],rfl,⟨E,?_⟩,⟨oq _,by simp[cG]⟩,λ_=>Iff.rfl⟩) λb hb=>by rw[hb];exact oq _
 rw[oo];exact jQ _ _
theorem qR(z:α)(n:Nat):(madeCells (Flat.enc z).toArray (n*Flat.sz α)).toList=flat (oJ n z):=by
 apply List.ext_getElem?
 intro i
 have u:=Flat.pos (α:=α)
 by_cases hi:i<n*Flat.sz α
 .have h1:i / Flat.sz α<n:=by rw[Nat.div_lt_iff_lt_mul u];exact hi
  have h2:i % Flat.sz α<(Flat.enc z).length:=by rw[Flat.len];exact Nat.mod_lt _ u
  have:=o7 (xs:=oJ n z) (i:=i / Flat.sz α) (j:=i % Flat.sz α) (x:=z) (c:=(Flat.enc z)[i % Flat.sz α]) (by simp[h1]) (by simp[h2])
  rw[Nat.div_add_mod' i (Flat.sz α)]at this
  rw[this]
  unfold madeCells
  simp[hi,Flat.len]
  grind
 have E:(madeCells (Flat.enc z).toArray (n*Flat.sz α)).toList[i]?=none:=by
  rw[uK,JE,size_madeCells];omega
 have B:(flat (oJ n z))[i]?=none:=by
  rw[uK,cG,wG];omega
 rw[E,B]
theorem DK{T E G:Nat}{n:Int}{K:Value->hM}(z:α)(U:St w0 A L w)(ht:Rd P T E (Flat.sz α) G)(B:kj P E (Flat.val z))(J:0<=n)(h1:n<=1073741824)(W:G<=8192)
  (k:∀v w',St w0 A (bH v (oJ n.toNat z)::L) w'->K v w'):lW P (NQ T (hU n) (hU n)) w K:=by
 obtain⟨M,u,hi,O,V,_⟩:=eA ht
 unfold kj dB at B
 rw[hi]at B
 simp only[wm,nN.injEq]at B
 have hb:(u.bytes:Int)*n<=281474976710656:=by
  have h2:(u.bytes:Int)<=8192:=bP
  have h3:(u.bytes:Int)*n<=8192*n:=Int.mul_le_mul_of_nonneg_right h2 J
  omega
 have I:=run_make (P:=P) w T E u (Flat.val z) M hi B .i64 .i64 n n J (Int.le_refl _) hb bP
 rw[O,lG]at I
 refine⟨_,_,I,k _ _ ?_⟩
 refine U.new (w':=w.alloc (.cells (madeCells (Flat.enc z).toArray (n.toNat*Flat.sz α)) E)) ⟨rfl,rfl,rfl,ew,λb hb _=>vF w _ b hb⟩ (F:=λk=>k=w.heap.size)
  (.inr ⟨w.heap.size,n.toNat,[],ew,⟨E,?_⟩,⟨ew,by rw[oo,cG,wG];exact oq _⟩,λ_=>Iff.rfl⟩) λb hb=>by rw[hb];exact oq _
 rw[oo,<- qR]
 have:=jQ w (.cells (madeCells (Flat.enc z).toArray (n.toNat*Flat.sz α)) E)
 rw[Iz]
 exact this
def AR(α:Type)[Flat α](v:Value)(i:Nat)(p:Value):Prop:=∃b n c,v=.slice (some ⟨b,0,none⟩) n c/\p=.pointer (some ⟨b,i*Flat.sz α,none⟩)
theorem ed{T E I:Nat}{z:Option Nat}{v:Value}{i:Int}{K:Value->Prop}(U:St w0 A (bH v xs::L) w)(ht:dV P T=some (E,Flat.sz α,I,z))(J:0<=i)(h1:i<xs.length)
  (k:∀p,AR α v i.toNat p->K p):dW P (z7 T v (hU i)) K:=by
 obtain⟨F,h,_⟩:=U.head
 rcases h with⟨rfl,rfl,_⟩|⟨b,cap,rest,rfl,hb,V,_⟩
 .simp at h1;omega
 obtain⟨M,G,hi,O,_⟩:=eA ht
 refine⟨.pointer (some ⟨b,i.toNat*Flat.sz α,none⟩),?_,k _ ⟨b,_,_,rfl,rfl⟩⟩
 unfold z7
 have B:pr P (underlying T)=some (.slice E):=bR M
 have u:pr P (sizeOf E)=some (Flat.sz α):=by rw[km hi,O]
 simp only[asIntOf,bT,B,u,kO,eW]
 simp only[fi (show 0<=i/\i<(xs.length:Int)from⟨J,h1⟩),bT,u,kO,eW,fp,o6]
theorem mV{v:Value}{F:Nat->Prop}{i:Nat}(h:(bH v xs).p w F)(hi:i<xs.length):∃b cap rest,v=.slice (some ⟨b,0,none⟩) xs.length cap/\nZ w b (flat xs++rest)/\(xs.length<=cap/\cap*Flat.sz α<=(flat xs++rest).length)/\∀k,F k↔k=b:=by
 rcases h with⟨rfl,rfl,_⟩|h
 .simp at hi
 exact h
theorem gP{T:Nat}{v p:Value}{i:Nat}{x:α}{K:Value->Prop}(J:St w0 A (bH v xs::L) w)(ht:cH P T=some (Flat.agg α,Flat.sz α))(E:AR α v i p)(B:xs[i]?=some x)(k:K (Flat.val x)) :
  Aw P (rB T p) w K:=by
 obtain⟨F,h,_⟩:=J.head
 obtain⟨b,cap,rest,I,hb,O,_⟩:=mV h (jq.1 B).1
 obtain⟨M,n,c,u,rfl⟩:=E
 rw[I]at u
 simp only[sB.injEq,nN.injEq,Addr.mk.injEq]at u
 obtain⟨⟨rfl,_,_⟩,_,_⟩:=u
 refine aE (S:=λ_=>True) ht ⟨b,i*Flat.sz α,rfl,trivial,λj c G=>hb.cell ?_⟩ k
 have:=o7 B G
 rw[qi (jq.1 this).1];exact this
theorem DM{i:Nat}(y:α)(h:i<xs.length):flat (xs.set i y)=flat (xs.take i)++Flat.enc y++flat (xs.drop (i+1)):=by
 rw[List.set_eq_take_append_cons_drop,fi h,ft,iw,mv]
theorem te{i:Nat}{x:α}(h:xs[i]?=some x):flat xs=flat (xs.take i)++Flat.enc x++flat (xs.drop (i+1)):=by
 have hi:=(jq.1 h).1
 have:xs=xs.take i++x::xs.drop (i+1):=by
  rw[<- (jq.1 h).2,Dc,List.take_append_drop]
 conv=>lhs;rw[this]
 rw[ft,iw,mv]
theorem Gn{T:Nat}{v p:Value}{i:Nat}{F:Nat->Prop}(y:α)(h:(bH v xs).p w F)(ht:cH P T=some (Flat.agg α,Flat.sz α))(I:AR α v i p)(hi:i<xs.length) :
  ∃w',(zQ T p (Flat.val y)).run P w=.ok () w'/\(bH v (xs.set i y)).p w' F/\fH F w w':=by
 obtain⟨b,cap,rest,O,hb,G,B⟩:=mV h hi
 obtain⟨W,n,c,u,rfl⟩:=I
 rw[O]at u
 simp only[sB.injEq,nN.injEq,Addr.mk.injEq]at u
 obtain⟨⟨rfl,_,_⟩,_,_⟩:=u
 have E:xs[i]?=some xs[i]:=by simp[hi]
 have M:=te E
 have J:(flat (xs.take i)).length=i*Flat.sz α:=by rw[cG,List.length_take,Nat.min_eq_left bP]
 have hlen:i*Flat.sz α+Flat.sz α<=(flat xs).length:=by
  rw[cG,<- CN];exact yS _ hi
 obtain⟨w',h1,h2,h3⟩:=jw (P:=P) (o:=i*Flat.sz α) (Flat.enc y) 0 (flat xs++rest) w hb (by rw[Flat.len,kC];omega) (Flat.one y)
 have U:fS (flat xs++rest) (i*Flat.sz α+0) (Flat.enc y)=flat (xs.set i y)++rest:=by
  have:=ji (flat (xs.take i)) (Flat.enc xs[i]) (flat (xs.drop (i+1))++rest) (Flat.enc y) (by rw[Flat.len,Flat.len])
  rw[J]at this
  rw[Hp,DM y hi,M]
  grind
 rw[U]at h2
 refine⟨w',?_,.inr ⟨b,cap,rest,cR,h2,?_,B⟩,h3.mono λk V=>(B k).2 V⟩
 .show(storeVar T ⟨b,i*Flat.sz α,none⟩ (Flat.val y)).run P w=_
  unfold storeVar
  rw[dD (eM (iM ht).2 w),lG]
  simp only[Eb,Flat.len,ne_eq,not_true_eq_false,if_false]
  exact h1
 rw[kC,cG]at G |-;grind
theorem kJ{T:Nat}{v p:Value}{i:Nat}{K:hM}(y:α)(E:St w0 A (bH v xs::L) w)(ht:cH P T=some (Flat.agg α,Flat.sz α))(I:AR α v i p)(hi:i<xs.length)
  (k:∀w',St w0 A (bH v (xs.set i y)::L) w'->K w'):Md P (zQ T p (Flat.val y)) w K:=by
 obtain⟨U,F,M,h1,h2,h3,h4,h5⟩:=E.oE
 obtain⟨w',J,G,B⟩:=Gn y h1 ht I hi
 refine⟨w',J,k w' ⟨E.aF.trans B (λ_ h=>h) λb hb u=>(h2 b u).elim id λO=>bP,U,F,M,G,h2,h3,h4,h5.loc λb hb=>B.bM b (h5.lt b hb) λu=>h3 b u hb⟩⟩
end
end Go.Fw
namespace Go.Fw
section
variable {P:Program}{w w0:World}{A S:Nat->Prop}{L:List HP}
theorem cE{T:TypeId}{b o:Nat}{v:Value}{K:Value->Prop}(ht:MV P T)(hb:Cell w b o v)(k:K v) :
  Aw P (rB T (.pointer (some ⟨b,o,none⟩))) w K:=⟨v,aY ht hb,k⟩
theorem bY{α:Type}[Flat α]{T:TypeId}{x:α}{K:Value->hM}(u:St w0 A L w)
  (k:∀b w',St w0 A (bM b (Flat.enc x)::L) w'->K (.pointer (some ⟨b,0,none⟩)) w'):lW P (pQ T (Flat.val x)) w K:=by
 refine⟨_,_,BX T _,k _ _ ?_⟩
 rw[lG]
 exact u.push
theorem Ag{T:Nat}{a b:Bool}(h:P.underlying T=some .bool):pr P (Op.equal T (.bool a) (.bool b))=some (a == b):=by
 show pr P (Op.equalIn 10000 T (.bool a) (.bool b))=_
 unfold Op.equalIn
 rw[bT,bR h]
 rfl
theorem ug{T:Nat}{cx cy:Bool}{a b:Bool}{K:Value->Prop}(h:P.underlying T=some .bool)(k:K (.bool (a == b))):dW P (g9 .eql T cx cy (.bool a) (.bool b)) K:=by
 refine⟨_,?_,k⟩
 show pr P (do pure (sy (<- Op.equal T (.bool a) (.bool b))))=_
 rw[ue,Ag h];rfl
theorem Ah{T e:Nat}{a:Option Addr}{n c:Nat}(h:P.underlying T=some (.slice e))(u:a=none->n=0/\c=0):pr P (Op.equal T (.slice a n c) (.slice none 0 0))=some a.isNone:=by
 show pr P (Op.equalIn 10000 T (.slice a n c) (.slice none 0 0))=_
 unfold Op.equalIn
 rw[bT,bR h]
 cases a<;>rfl
theorem MX{T e:Nat}{cx cy:Bool}{a:Option Addr}{n c:Nat}{K:Value->Prop}(h:P.underlying T=some (.slice e))(u:a=none->n=0/\c=0)(k:K (.bool a.isNone)):dW P (g9 .eql T cx cy (.slice a n c) (.slice none 0 0)) K:=by
 refine⟨_,?_,k⟩
 show pr P (do pure (sy (<- Op.equal T (.slice a n c) (.slice none 0 0))))=_
 rw[ue,Ah h u];rfl
def j6:TypeDesc->Option Nat
 | .int .i64=>some 0
 | .bool=>some 1
 | .string=>some 2
 | _=>none
def mC:Value->Option Nat
 | .int .i64 _=>some 0
 | .bool _=>some 1
 | .string _=>some 2
 | _=>none
def eqV:Value->Value->Bool
 | .int _ a,.int _ b=>decide (a=b)
 | .bool a,.bool b=>a == b
 | .string a,.string b=>a == b
 | _,_=>false
def uh:List Value->List Value->Bool
 | a::x,b::y=>eqV a b&&uh x y
 | _,_=>true
def kp(P:Program):Nat->List Field->Option (List Nat)
 | _,[]=>some []
 | k,f::fs=>
  if f.name ≠ "_" /\ f.offset=k then
   match P.underlying f.type with
   | some d=>match j6 d,kp P (k+1) fs with
    | some n,some r=>some (n::r)
    | _,_=>none
   | none=>none
  else none
def yw(P:Program)(T:TypeId):Option (List Nat):=
 match P.underlying T with
 | some (.struct u)=>if P.stoodInHeld T=false/\P.eqGuardType P.depth T=false then kp P 0 u.toList else none
 | _=>none
def Gp(d:Nat)(xs ys:Array Value):List Field->Sem Bool
 | []=>pure true
 | f::r => if f.name ≠ "_" then do
   let same <- Op.equalIn d f.type (<- part f.type xs f.offset) (<- part f.type ys f.offset)
   if (!same)=true then pure false else Gp d xs ys r
  else Gp d xs ys r
theorem xw{T:TypeId}{d:TypeDesc}{n:Nat}(h:P.underlying T=some d)(u:j6 d=some n):pr P (isAgg T)=some false:=by
 unfold isAgg
 rw[bT,bR h]
 cases d<;>simp[j6]at u<;>rfl
theorem IE{T:TypeId}{d:TypeDesc}{n o:Nat}{cs:Array Value}{v:Value}(h:P.underlying T=some d)(B:j6 d=some n)(u:cs[o]?=some v):pr P (part T cs o)=some v:=by
 unfold part
 rw[bT,xw h B]
 simp only[kO,FQ,if_false,u]
 rfl
theorem DN{k:Nat}{T:TypeId}{d:TypeDesc}{n:Nat}{a b:Value}(h:P.underlying T=some d)(B:j6 d=some n)(u:mC a=some n)(hb:mC b=some n) :
  pr P (Op.equalIn (k+1) T a b)=some (eqV a b):=by
 unfold Op.equalIn
 rw[bT,bR h]
 simp only[kO]
 cases d<;>simp only[j6]at B<;>try(cases B;done)
 case int kd=>
  cases kd<;>simp at B
  subst B
  cases a<;>simp only[mC]at u<;>try(cases u;done)
  rename_i ka na
  cases b<;>simp only[mC]at hb<;>try(cases hb;done)
  rename_i kb nb
  cases ka<;>simp at u
  cases kb<;>simp at hb
  rfl
 case bool=>
  cases B
  cases a<;>simp only[mC]at u<;>first|(rename_i ka na;cases ka<;>simp at u)|skip
  all_goals try(simp at u;done)
  cases b<;>simp only[mC]at hb<;>first|(rename_i kb nb;cases kb<;>simp at hb)|skip
  all_goals try(simp at hb;done)
  rfl
 case string=>
  cases B
  cases a<;>simp only[mC]at u<;>first|(rename_i ka na;cases ka<;>simp at u)|skip
  all_goals try(simp at u;done)
  cases b<;>simp only[mC]at hb<;>first|(rename_i kb nb;cases kb<;>simp at hb)|skip
  all_goals try(simp at hb;done)
  rfl
theorem DO{k:Nat}{xs ys:List Value}:∀(u:List Field) (i:Nat) (ks:List Nat),kp P i u=some ks->(∀j n,ks[j]?=some n->∃a b,xs[i+j]?=some a/\ys[i+j]?=some b/\mC a=some n/\mC b=some n)->
  pr P (Gp (k+1) xs.toArray ys.toArray u)=some (uh ((xs.drop i).take ks.length) ((ys.drop i).take ks.length)):=by
 intro u
 induction u with
 | nil=>intro i ks h _;simp only[kp,nN.injEq]at h;subst h;simp[Gp,uh];rfl
 | cons f u U=>
  intro i ks h G
  unfold kp at h
  split at h
  .rename_i hf
   cases hu:P.underlying f.type with
   | none=>grind
   | some d=>
    rw[hu]at h
    dsimp only at h
    cases hd:j6 d with
    | none=>grind
    | some n=>
     rw[hd]at h
     cases hr:kp P (i+1) u with
     | none=>grind
     | some r=>
      rw[hr]at h
      simp only[nN.injEq]at h
      subst h
      obtain⟨a,b,B,hb,O,I⟩:=G 0 n rfl
      rw[Hp]at B hb
      have J:xs.drop i=a::xs.drop (i+1):=by
       rw[<- Dc (jq.1 B).1,(jq.1 B).2]
      have E:ys.drop i=b::ys.drop (i+1):=by
       rw[<- Dc (jq.1 hb).1,(jq.1 hb).2]
      have M:=U (i+1) r hr λj m Y=>by
       obtain⟨W,V,h1,h2,h3,h4⟩:=G (j+1) m cR
       grind
      unfold Gp
      rw[fi hf.1,bT,IE hu hd (v:=a) cR]
      simp only[kO]
      rw[bT,IE hu hd (v:=b) cR]
      simp only[kO]
      rw[bT,DN hu hd O I]
      simp only[kO,oi,J,E,Pb,uh]
      cases he:eqV a b with
      | false=>rfl
      | true=>grind
  .cases h
theorem ui{d:Nat}{t:TypeId}{B:Array Field}{xs ys:Array Value}(ht:P.underlying t=some (.struct B))(E:P.stoodInHeld t=false) :
  pr P (Op.equalIn (d+1) t (.agg xs) (.agg ys))=pr P (Gp d xs ys B.toList):=by
 unfold Op.equalIn
 rw[bT,bR ht]
 simp only[kO,bT]
 rw[show pr P program=some P from rfl]
 simp only[kO,E,FQ,if_false]
 rw[<- Array.forIn_toList]
 generalize B.toList=l
 clear ht
 induction l with
 | nil=>rfl
 | cons f l u=>
  rw[bT]at u
  simp only[List.forIn_cons,Gp,bT]
  split
  .simp only[bT]
   cases pr P (part f.type xs f.offset)with
   | none=>rfl
   | some a=>
    simp only[kO]
    cases pr P (part f.type ys f.offset)with
    | none=>rfl
    | some b=>
     simp only[kO]
     cases pr P (Op.equalIn d f.type a b)with
     | none=>rfl
     | some r=>
      cases r
      .rfl
      .simp only[kO,Bool.not_true,FQ,if_false,eW]
       exact u
  .simp only[eW,kO]
   exact u
theorem B2{T:TypeId}{ks:List Nat}{xs ys:List Value}(h:yw P T=some ks)(u:xs.map mC=ks.map some)(B:ys.map mC=ks.map some) :
  pr P (Op.equal T (.agg xs.toArray) (.agg ys.toArray))=some (uh xs ys)/\P.eqGuardType P.depth T=false:=by
 unfold yw at h
 split at h
 .rename_i fs hfs
  split at h
  .rename_i hc
   refine⟨?_,hc.2⟩
   show pr P (Op.equalIn 10000 T _ _)=_
   rw[ui hfs hc.1]
   have I:xs.length=ks.length:=by have:=gj List.length u;grind
   have G:ys.length=ks.length:=by have:=gj List.length B;grind
   rw[DO (xs:=xs) (ys:=ys) fs.toList 0 ks h λj n E=>?_]
   .grind
   have J:j<ks.length:=(jq.1 E).1
   refine⟨xs[j]'(bP),ys[j]'(bP),ew,ew,?_,?_⟩
   .have:=gj (λl=>l[j]?) u
    grind
   have:=gj (λl=>l[j]?) B
   grind
  cases h
 cases h
theorem KA{T:Nat}{cx cy:Bool}{ks:List Nat}{xs ys:List Value}{K:Value->Prop}(h:yw P T=some ks)(u:xs.map mC=ks.map some)(B:ys.map mC=ks.map some)(k:K (.bool (uh xs ys))) :
  dW P (g9 .eql T cx cy (.agg xs.toArray) (.agg ys.toArray)) K:=by
 obtain⟨h1,h2⟩:=B2 h u B
 refine⟨_,?_,k⟩
 show pr P (if P.eqGuardType P.depth T=true then stuck "an interface in a part" else(do pure (sy (<- Op.equal T (.agg xs.toArray) (.agg ys.toArray))) : Sem Value))=_
 rw[h2,ez ew,ue,h1];rfl
theorem AS{T:Nat}{cx cy:Bool}{ks:List Nat}{xs ys:List Value}{K:Value->Prop}{p:Prop}[Decidable p](h:yw P T=some ks)(u:xs.map mC=ks.map some)(B:ys.map mC=ks.map some)
  (E:uh xs ys=decide p) (k:K (.bool (decide p))):dW P (g9 .eql T cx cy (.agg xs.toArray) (.agg ys.toArray)) K:=KA h u B (E▸k)
end
end Go.Fw
