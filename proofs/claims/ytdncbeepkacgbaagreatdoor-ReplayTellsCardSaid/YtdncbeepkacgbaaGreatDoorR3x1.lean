/-
  Part 1.
-/
import Derived.Test.YtdncbeepkacgbaaGreatDoorProg
import Derived.Orders
import Derived.Tactics
import Derived.OrdersIn
import Derived.TacticsIn
import Derived.RangeFuncSeq
import Derived.RangeFuncLeaves
import Derived.Laws.Sem
import Derived.KernelRfl
import Derived.Below
import Derived.IntWalk
import Derived.Laws.AppendOwn
import Derived.Laws.MakeOwn
import Derived.WalkKit
import Derived.ProofKit
import Derived.OpenShut
import Derived.ChangeCalls
import Derived.Laws.Strings
import Derived.Lib.ConvBytes
import Derived.MapKept
import Derived.Maps.RangeRun
import Derived.Lib.AppendZeros
import Derived.LaidMore
import Derived.Lay
import Derived.SevenTiedAt
import Derived.Stop.Joined
set_option maxHeartbeats 8000000
set_option linter.all false
set_option maxRecDepth 100000
namespace Go
def bP{p:Prop}(h:p:=by omega):p:=h
def cR{p:Prop}(h:p:=by grind):p:=h
def ea{p:Prop}(h:p:=by decide):p:=h
def ew{p:Prop}(h:p:=by simp):p:=h
def fg:=@if_neg
def fh:=@if_pos
def fY:=@decide_eq_true
def fZ:=@decide_eq_false
def ga:=@decide_eq_decide
def gl:=@congrArg
def g6:=@of_decide_eq_true
def g7:=@of_decide_eq_false
def hH:=@Classical.byContradiction
noncomputable abbrev hM:=Proofs.Tryz.prog
abbrev hU:=World->Prop
abbrev hZ(i:Int):Value:=.int .i64 i
end Go
open ByteArray renaming mk->ia
open List renaming getElem?_eq_some_iff->j0,length_append->kE,append_assoc->mu,length_cons->oh,mem_cons_self->oi,append_nil->oj,replicate->oI,mem_cons->oR,mem_cons_of_mem->o5,getElem?_append_left->qk,mem_singleton->rC,nil_append->sk,getElem?_eq_none_iff->u1,map_congr_left->wi,length_replicate->xr,all_eq_true->xX,getElem_cons_drop->DY,length_nil->D1,size_toArray->E0,getElem?_toArray->IT,mem_filterMap->KQ,take_succ_cons->Pz,zipIdx_cons->Tn
open Option renaming bind_some->la,some->nM,map_some->wG
open Go.Instr renaming build->l1,sliceAt->mv,index->oJ,sliceBounds->qa,lookup->qs,box->qv,loadAt->rE,storeAt->B9,fieldAt->Ca,indexAt->Cw,buildSlice->FF,alloc->Jo,extract->NB,makeSlice->Pl,fill->P6,sliceBound->Tm
open Go.Value renaming int->mf,bool->sq,slice->ta,cells->UG,pointer->UN
open Bool renaming and_eq_true->nu,not_eq_true'->pw,or_eq_true->rL,true_and->tM,false_eq_true->Hc,not_false->Ia
open Nat renaming le_refl->om,zero_add->o6,beq->u3,le_of_ble_eq_true->vo,le_trans->x9,land->zC,mul_le_mul_right->zP,shiftLeft->CA,le_of_eq->CV,succ_mul->Dj,lor->H5,add_zero->Ii,eq_of_beq_eq_true->I1,testBit_two_pow->KB,one_shiftLeft->L2,ble->Nl,testBit_or->Pr,mul_le_mul->Ps,add_mul->UH,blt->UI
open Array renaming getD_eq_getD_getElem?->vF,getElem?_eq_some_iff->vO,getElem?_modify->Jh,toArray_toList->Js,length_toList->KC,empty_append->P4,foldl_toList->P5,range->Vs,ext'->V0
open Go.World renaming cell?->Nm,setCell->UM
open Prod renaming mk->UJ
open Go.Code renaming region->Vq
open Classical renaming choose->Wc
namespace Go.Fw
abbrev Env:=Nat->Value
def ev(e:Env):Operand->Value
 | .tmp t=>e t
 | .const v=>v
 | .global g=>.pointer (some ⟨g,0,none⟩)
 | .func f=>.func (.func f) #[] #[]
def tN(e:Env)(d:Nat)(v:Value):Env:=λi=>bif u3 i d then v else e i
def gB(e:Env)(d:Option Nat)(v:Value):Env:=match d with|some d=>tN e d v|none=>e
theorem jN(e:Env)(d:Nat)(v:Value):tN e d v d=v:=by simp[tN]
theorem kF(e:Env){d i:Nat}(v:Value)(h:i≠d):tN e d v i=e i:=by
 have:u3 i d=false:=by
  cases hh:u3 i d
  .rfl
  simp_all
 simp[tN,this]
def Mf(e:Env){d u:Nat}(v B:Value)(h:d≠u):tN (tN e d v) u B=tN (tN e u B) d v:=by
 funext i
 by_cases h1:i=d
 .subst h1;rw[kF _ _ h,jN,jN]
 by_cases h2:i=u
 .subst h2;rw[jN,kF _ _ h1,jN]
 rw[kF _ _ h2,kF _ _ h1,kF _ _ h1,kF _ _ h2]
def VP(e:Env)(d:Nat)(v:Value)(h:e d=v):tN e d v=e:=by
 funext i
 by_cases h1:i=d
 .subst h1;rw[jN,h]
 rw[kF _ _ h1]
def mark(D:Nat):Deferred:={target:=.collected D,args:=#[]}
structure gh(ds:List Nat)(n:Nat)(e:Env)(a:Act):Prop where
 defers:a.defers=ds.map mark
 size:a.tmps.size=n
 get:∀i,a.tmps.getD i undef=e i
def gh.eval{u:List Nat}{n:Nat}{e:Env}{a:Act}(h:gh u n e a):a.eval=ev e:=by
 funext x
 cases x<;>simp[Act.eval,ev]
 case tmp t=>simpa using h.get t
theorem gh.put{B:List Nat}{n:Nat}{e:Env}{a:Act}(h:gh B n e a){d:Option Nat}(u:∀k,d=some k->k<n)(v:Value) :
  gh B n (gB e d v) (a.put d v):=by
 cases d with
 | none=>exact h
 | some d=>
  have u:=u d rfl
  refine⟨h.defers,by simp[Act.put,h.size],λi=>?_⟩
  have E:=h.get i
  simp only[Act.put,gB,vF]at *
  by_cases hi:i=d
  .subst hi
   rw[Array.getElem?_setIfInBounds_self_of_lt (by rw[h.size];exact u),jN]
   rfl
  .rw[Array.getElem?_setIfInBounds_ne (Ne.symm hi),kF _ _ hi]
   exact E
def pr(P:Program){α:Type}:Sem α->Option α
 | .pure a=>some a
 | .program k=>pr P (k P)
 | .mark _ k=>pr P k
 | _=>none
theorem eM{P:Program}{α:Type}{m:Sem α}{v:α}(h:pr P m=some v)(w:World):m.run P w=.ok v w:=by
 induction m with
 | pure a=>simp only[pr,nM.injEq]at h;simp_all
 | program k u=>exact u P h
 | mark x k u=>exact u h
 | _=>simp[pr]at h
theorem eU{P:Program}{α:Type}(a:α):pr P (pure a:Sem α)=some a:=rfl
theorem bT{P:Program}{α β:Type}(m:Sem α)(f:α->Sem β):pr P (m >>= f)=(pr P m).bind λa=>pr P (f a):=by
 show pr P (m.bind f)=_
 induction m with
 | pure a=>rfl
 | program k u=>exact u P
 | mark x k u=>exact u
 | _=>rfl
theorem dC{P:Program}{α β:Type}{m:Sem α}{f:α->Sem β}{w w':World}{a:α}(h:m.run P w=.ok a w') :
  (m >>= f).run P w=(f a).run P w':=by simp_all
theorem run_pure{P:Program}{α:Type}(a:α)(w:World):(pure a:Sem α).run P w=.ok a w:=rfl
abbrev FO(r:Option Nat):Fence:={Fence.wide with round:=r}
def ya{r:Option Nat}{p:Prop}:(FO r).depth.isSome=true->p:=λh=>by cases h
def sX{r:Option Nat}{n:Nat}{P:Program}{f:FuncId}{args:Array Value}{w:World}{R:Ending->hU}:CallsIn (FO r) n P f args w R↔Calls P f args w R:=
 callsIn_wide (n:=n)
def oU(K:Value->hU):Ending->hU:=λe w=>∃v,e=.returned v/\K v w
def oU.mono{K u:Value->hU}{e:Ending}{w:World}(h:oU K e w)(k:∀v w,K v w->u v w):oU u e w:=
 let ⟨v,E,B⟩:=h;⟨v,E,k _ _ B⟩
def Plain(P : Program)(f : FuncId) : Prop := ∃u, P.funcs[f]?=some u /\ (u.name == "runtime.NumGoroutine")=false /\ u.body.isNone=false
theorem tS{P:Program}{f:FuncId}(h:Plain P f)(args:Array Value)(w:World) :
  (callFunc f args).run P w=.ok (.enter f args) w:=by
 obtain⟨u,h1,h2,h3⟩:=h
 show(match P.funcs[f]? with|none=>_|some u=>_:Sem Next).run P w=_
 rw[h1]
 simp[h2,h3]
structure dX(P:Program)(m:Sem Value)(K:Value->Prop):Prop where
 ex:∃v,pr P m=some v/\K v
structure Ah(P:Program)(m:Sem Value)(w:World)(K:Value->Prop):Prop where
 ex:∃v,m.run P w=.ok v w/\K v
structure mw(P:Program)(m:Sem Value)(w:World)(K:Value->hU):Prop where
 ex:∃v w',m.run P w=.ok v w'/\K v w'
structure LW(P:Program)(m:Sem Unit)(w:World)(K:hU):Prop where
 ex:∃w',m.run P w=.ok () w'/\K w'
structure wD(P:Program)(f:FuncId)(args:List Value)(w:World)(K:Value->hU):Prop where
 ex:(Plain P f/\Calls P f args.toArray w (oU K))\/∃v w',(callFunc f args.toArray).run P w=.ok (.value v) w'/\K v w'
structure gJ(P:Program)(fv:Value)(args:List Value)(w:World)(K:Value->hU):Prop where
 ex:(∃g first cap,fv=.func (.func g) first cap/\Plain P g/\Calls P g (first++args.toArray++cap) w (oU K))\/
  ∃l,fv=.func (.yield l) #[] #[]/\YieldAt (FO none) 0 P l args.toArray w (oU K)
structure sJ(v:Value)(A B:Prop):Prop where
 ex:∃t,v=.bool t/\(t=true->A)/\(t=false->B)
structure HU(P:Program)(m:Sem Value)(v:Value)(w:World)(R:Prop):Prop where
 ZD:m.run P w=.ok v w
 rest:R
inductive yb where
 | val (v:Value)
 | p (m:Sem Value)
 | q (m:Sem Value)
 | e (m:Sem Value)
 | u (m:Sem Unit)
 | call (f:FuncId) (args:List Value)
 | HV (fv:Value) (args:List Value)
 | bad
def LX:Operand->Bool|.const _=>true|_=>false
def J7:Value->Sem Value
 | .pointer none|.nilIface|.nilFunc => stuck "nil"
 | .func (.method _) _ _ => stuck "method"
 | x=>pure x
def Mg(c a b:Value):Sem Value:=do pure (if <- asBool c then a else b)
def Rc(op:BinOp)(t:TypeId)(cx cy:Bool)(a b:Value):Sem Value:=
 match a,b with
 | .nilIface, .nilIface => if cx||cy then binOp op t a b else stuck "two nil interfaces"
 | .agg _, .agg _ => .program λp => if p.eqGuardType p.depth t then stuck "an interface in a part" else binOp op t a b
 | _,_=>binOp op t a b
def gX(op:BinOp)(t:TypeId)(cx cy:Bool)(a b:Value):Sem Value:=
 match op with
 | .eql=>Rc .eql t cx cy a b
 | .neq=>Rc .neq t cx cy a b
 | op=>binOp op t a b
def Rd(P:Program)(op:BinOp)(t:TypeId)(x y:Operand):Bool:=
 match op with
 | .eql|.neq=>match P.underlying t with
  | some (.pointer _)|some .unsafePointer=>!(LX x||LX y)
  | _=>false
 | _=>false
def isMap(P:Program)(t:TypeId):Bool:=match P.underlying t with|some (.map _ _)|some (.chan _ _)=>true|_=>false
def ZE(P:Program)(s d:TypeId):Nat:=
 match P.underlying d with
 | some (.slice _)=>2
 | some .string=>match P.underlying s with|some (.slice _)=>1|_=>0
 | _=>0
def tT(P:Program)(o:Oper)(ρ:Operand->Value):yb:=
 match o.op with
 | .move x|.assign x=>.val (ρ x)
 | .pick c a b=>.p (Mg (ρ c) (ρ a) (ρ b))
 | .alloc t=>.e (Jo t true (.tuple #[]))
 | .box t x=>.e (qv t (ρ x))
 | .build t parts=>.p (l1 t (parts.toList.map λq=>(q.1,ρ q.2)).toArray)
 | .buildSlice t n parts=>.e (FF t n (parts.toList.map λq=>(q.1,ρ q.2)).toArray)
 | .load t a=>.q (rE t (ρ a))
 | .store t a x=>.u (B9 t (ρ a) (ρ x))
 | .nilCheck x=>.p (J7 (ρ x))
 | .binOp op t x y _=>if Rd P op t x y then .q (gX op t (LX x) (LX y) (ρ x) (ρ y))else .p (gX op t (LX x) (LX y) (ρ x) (ρ y))
 | .unOp op _ x=>.p (Op.unary op (ρ x))
 | .convert s d x=>match ZE P s d with|0=>.p (convert s d (ρ x))|1=>.q (convert s d (ρ x))|_=>.e (convert s d (ρ x))
 | .makeInterface t x=>.q (Instr.makeInterface t (ρ x))
 | .makeFunc fn first cap=>.val (.func fn (first.toList.map ρ).toArray (cap.toList.map ρ).toArray)
 | .makeMap t r=>.e (Instr.makeMap t (r.map ρ))
 | .makeSlice t l c=>.e (Pl t (ρ l) (ρ c))
 | .slice t x lo hi B=>.p (mv t (ρ x) (lo.map ρ) (hi.map ρ) (B.map ρ))
 | .fieldAddr s x f=>.p (Ca s (ρ x) f)
 | .field t x f=>.p (Instr.field t (ρ x) f)
 | .indexAddr t x i=>.p (Cw t (ρ x) (ρ i))
 | .index t x i=>.p (oJ t (ρ x) (ρ i))
 | .lookup t x i ok=>.q (qs t (ρ x) (ρ i) ok)
 | .mapUpdate t m k x|.insert t m k x=>.u (Instr.mapUpdate t (ρ m) (ρ k) (ρ x))
 | .mapEntry t m k=>.e (Instr.mapEntry t (ρ m) (ρ k))
 | .entryStore t m s x=>.u (Instr.entryStore t (ρ m) (ρ s) (ρ x))
 | .range t x=>.e (Instr.range t (ρ x))
 | .next it s=>.e (Instr.next (ρ it) s o.type)
 | .entry it=>.q (Instr.entry (ρ it))
 | .typeAssert x t u ok=>.q (Instr.typeAssert (ρ x) t u ok)
 | .extract t i=>.p (NB (ρ t) i)
 | .call c=>
  match c.callee with
  | .value (.func f)=>.call f (c.args.toList.map ρ)
  | .value x=>.HV (ρ x) (c.args.toList.map ρ)
  | .invoke ..=>.bad
  | .builtin b=>
   match b with
   | .len=>if isMap P (c.argTypes.getD 0 0)then .q (Builtin.len_ c.argTypes o.type (c.args.toList.map ρ).toArray)else .p (Builtin.len_ c.argTypes o.type (c.args.toList.map ρ).toArray)
   | .cap=>.p (Builtin.cap_ c.argTypes o.type (c.args.toList.map ρ).toArray)
   | .min=>.p (Builtin.min_ c.argTypes o.type (c.args.toList.map ρ).toArray)
   | .max=>.p (Builtin.max_ c.argTypes o.type (c.args.toList.map ρ).toArray)
   | .append=>.e (Builtin.append_ c.argTypes o.type (c.args.toList.map ρ).toArray)
   | .copy=>.e (Builtin.copy_ c.argTypes o.type (c.args.toList.map ρ).toArray)
   | .clear=>.e (Builtin.clear_ c.argTypes o.type (c.args.toList.map ρ).toArray)
   | .delete=>.e (Builtin.delete_ c.argTypes o.type (c.args.toList.map ρ).toArray)
   | _=>.bad
 | _=>.bad
def Ai(P:Program)(k:yb)(K:Value->hU)(w:World):Prop:=
 match k with
 | .val v=>K v w
 | .p m=>dX P m (λv=>K v w)
 | .q m=>Ah P m w (λv=>K v w)
 | .e m=>mw P m w K
 | .u m=>LW P m w (λw'=>K undef w')
 | .call f args=>wD P f args w K
 | .HV fv args=>gJ P fv args w K
 | .bad=>False
def yb.quiet:yb->Bool
 | .val _|.p _|.q _=>true
 | _=>false
def yb.reads:yb->Bool
 | .q _=>true
 | _=>false
def yb.has(P:Program)(k:yb)(w:World)(v:Value):Prop:=
 match k with
 | .val x=>x=v
 | .p m=>pr P m=some v
 | .q m=>m.run P w=.ok v w
 | _=>False
def Ai.has{P:Program}{k:yb}{K:Value->hU}{w:World}(u:k.quiet=true)(h:Ai P k K w):∃v,k.has P w v/\K v w:=by
 cases k<;>simp only[yb.quiet,Hc]at u<;>simp only[Ai]at h
 case val v=>exact⟨v,rfl,h⟩
 case p m=>exact h.ex
 case q m=>exact h.ex
def yb.J8{P:Program}{k:yb}{w w':World}{v:Value}(u:k.reads=false)(h:k.has P w v):k.has P w' v:=by
 cases k<;>simp only[yb.has,yb.reads,Bool.true_eq_false]at *
 .exact h
 exact h
def Ai.Mh{P:Program}{k:yb}{K:Value->hU}{w:World}{v:Value}(h:k.has P w v)(B:K v w):Ai P k K w:=by
 cases k<;>simp only[yb.has]at h<;>simp only[Ai]
 case val u=>grind
 case p m=>exact⟨v,h,B⟩
 case q m=>exact⟨v,h,B⟩
def Ai.mono{P:Program}{k:yb}{K E:Value->hU}{w:World}(h:Ai P k K w)(B:∀v w,K v w->E v w):Ai P k E w:=by
 cases k<;>simp only[Ai]at *
 case val v=>grind
 case p m=>exact⟨let ⟨v,a,b⟩:=h.ex;⟨v,a,B _ _ b⟩⟩
 case q m=>exact⟨let ⟨v,a,b⟩:=h.ex;⟨v,a,B _ _ b⟩⟩
 case e m=>exact⟨let ⟨v,w',a,b⟩:=h.ex;⟨v,w',a,B _ _ b⟩⟩
 case u m=>exact⟨let ⟨w',a,b⟩:=h.ex;⟨w',a,B _ _ b⟩⟩
 case call f args=>
  rcases h.ex with⟨a,b⟩|⟨v,w',a,b⟩
  .exact⟨.inl ⟨a,b.mono λe w' r=>r.mono B⟩⟩
  .exact⟨.inr ⟨v,w',a,B _ _ b⟩⟩
 case HV fv args=>
  rcases h.ex with⟨g,f,c,a,b,d⟩|⟨l,a,G,t,s,b,c,d⟩
  .exact⟨.inl ⟨g,f,c,a,b,d.mono λe w' r=>r.mono B⟩⟩
  .exact⟨.inr ⟨l,a,G,t,s,b,c,d.mono λe w' r=>r.mono B⟩⟩
def oW{r:Option Nat}{P:Program}{o:Oper}{a:Act}{w:World}:∀f,o.about P w a.eval=some f->(FO r).fn f:=λ_ _=>trivial
def C0{r:Option Nat}{P:Program}{o:Oper}{a:Act}{next:Act->hU}{Q:Exit->Act->hU}{f:FuncId}{args:Array Value}{w:World}
  {K:Value->hU}(h:Calls P f args w (oU K)) (B:∀v w',K v w'->next (a.put o.dst v) w'):o.uponIn (FO r) 0 P a next Q (.ok (.enter f args) w):=by
 rw[Oper.uponIn_enter]
 refine⟨ya,sX.2 (h.mono λe w' ⟨v,E,u⟩=>?_)⟩
 grind
def zR{r:Option Nat}{P:Program}{o:Oper}{a:Act}{next:Act->hU}{Q:Exit->Act->hU}{l:Nat}{f:FuncId}{tmps:Array Value}{assign body:Code}{w:World}
  {K:Value->hU}(h:RoundIn (FO none) 0 P l f tmps assign body w (oU K)) (B:∀v w',K v w'->next (a.put o.dst v) w'):o.uponIn (FO r) 0 P a next Q (.ok (.round l f tmps assign body) w):=by
 rw[Oper.uponIn_round]
 refine⟨ya,?_⟩
 have u:RoundIn (FO r) 0 P l f tmps assign body w (oU K):=h
 refine u.mono λe w' ⟨v,E,G⟩=>?_
 grind
def ik{r:Option Nat}{P:Program}{o:Oper}{a:Act}{next:Act->hU}{Q:Exit->Act->hU}{w w':World}{v:Value}(B:∀c,o.op≠.defer c)
  (h:(execOp a.eval o).run P w=.ok (.value v) w') (u:next (a.put o.dst v) w'):o.wpIn (FO r) 0 P a w next Q:=by
 unfold Oper.wpIn;rw[Oper.semAt_eq _ _ _ B,h,Oper.uponIn_value];exact⟨oW,u⟩
def FT{r:Option Nat}{P:Program}{o:Oper}{a:Act}{next:Act->hU}{Q:Exit->Act->hU}{w w':World}(B:∀c,o.op≠.defer c)
  (h:(execOp a.eval o).run P w=.ok .skip w') (u:next (a.put o.dst undef) w'):o.wpIn (FO r) 0 P a w next Q:=by
 unfold Oper.wpIn;rw[Oper.semAt_eq _ _ _ B,h,Oper.uponIn_skip];exact⟨oW,u⟩
def C1{P:Program}{m:Sem Value}{w w':World}{v:Value}(h:m.run P w=.ok v w') :
  (do pure (.value (<- m)):Sem Next).run P w=.ok (.value v) w':=by simp_all
def ZF{P:Program}{m:Sem Unit}{w w':World}(h:m.run P w=.ok () w') :
  (do m;pure .skip:Sem Next).run P w=.ok .skip w':=by simp_all
theorem xH{α β:Type}(f:α->β)(l:Array α):(l.toList.map f).toArray=l.map f:=by
 grind
def eqG(t:TypeId)(x y:Operand)(a b:Value):Sem Unit:=
 match a,b with
 | .nilIface,.nilIface=>if (LX x||LX y)=true then pure ()else do
   if <- Op.eqGuardIn Op.maxDepth t a b then unsupported (.noEntry "binop/eql: two nil values of an interface type with methods, neither of them the literal nil")
 | .agg _,.agg _=>do
  if !(<- program).eqGuardType (<- program).depth t then return
  if <- Op.eqGuardIn Op.maxDepth t a b then unsupported (.noEntry "binop/eql: two nil values of an interface type with methods, in a part of a struct or an array")
 | _,_=>pure ()
def wE{P:Program}{op:BinOp}(E:op=.eql\/op=.neq){t:TypeId}{x y:Operand}{a b:Value}{w w':World}{v:Value}
  (h:(Rc op t (LX x) (LX y) a b).run P w=.ok v w'):(eqGuard op t x y a b).run P w=.ok () w/\(binOp op t a b).run P w=.ok v w':=by
 have u:eqGuard op t x y a b=eqG t x y a b:=by rcases E with rfl|rfl<;>cases x<;>cases y<;>rfl
 rw[u]
 clear u
 unfold eqG
 unfold Rc at h
 split at h
 .split at h
  .simp_all
  simp_all
 .rename_i c1 c2
  have B : (if P.eqGuardType P.depth t then stuck "an interface in a part" else binOp op t (.agg c1) (.agg c2) : Sem Value).run P w=.ok v w' := h
  split at B
  .simp_all
  simp_all
 simp_all
def C2{P:Program}{op:BinOp}{t:TypeId}{x y:Operand}{a b:Value}{w w':World}{v:Value}
  (h:(gX op t (LX x) (LX y) a b).run P w=.ok v w'):(do eqGuard op t x y a b;binOp op t a b:Sem Value).run P w=.ok v w':=by
 unfold gX at h
 split at h
 .obtain⟨h1,h2⟩:=wE (.inl rfl) h
  simp_all
 .obtain⟨h1,h2⟩:=wE (.inr rfl) h
  simp_all
 rename_i n1 n2
 have h1:(eqGuard op t x y a b).run P w=.ok () w:=by
  unfold eqGuard
  simp_all
 simp_all
theorem Ai.wp{r:Option Nat}{ds:List Nat}{P:Program}{n:Nat}{o:Oper}{e:Env}{a:Act}{w:World}{K:Value->hU}{Q:Exit->Act->hU}{next:Act->hU}
  (ha:gh ds n e a) (h:Ai P (tT P o (ev e)) K w) (B:∀v w',K v w'->next (a.put o.dst v) w'):o.wpIn (FO r) 0 P a w next Q:=by
 have G:=ha.eval
 have I:∀c,o.op≠.defer c:=λc hc=>by unfold tT at h;rw[hc]at h;exact h
 have V:∀{m:Sem Value},dX P m (λv=>K v w)->execOp (ev e) o=(do pure (.value (<- m)):Sem Next)->o.wpIn (FO r) 0 P a w next Q:=λM J=>by
  obtain⟨v,h1,h2⟩:=M.ex
  exact ik (w':=w) I (by rw[G,J];exact C1 (eM h1 w)) (B _ _ h2)
 have W:∀{m:Sem Value},Ah P m w (λv=>K v w)->execOp (ev e) o=(do pure (.value (<- m)):Sem Next)->o.wpIn (FO r) 0 P a w next Q:=λM J=>by
  obtain⟨v,h1,h2⟩:=M.ex
  exact ik (w':=w) I (by rw[G,J];exact C1 h1) (B _ _ h2)
 have E:∀{m:Sem Value},mw P m w K->execOp (ev e) o=(do pure (.value (<- m)):Sem Next)->o.wpIn (FO r) 0 P a w next Q:=λM J=>by
  obtain⟨v,w',h1,h2⟩:=M.ex
  exact ik I (by rw[G,J];exact C1 h1) (B _ _ h2)
 have U:∀{m:Sem Unit},LW P m w (λw'=>K undef w')->execOp (ev e) o=(do m;pure .skip:Sem Next)->o.wpIn (FO r) 0 P a w next Q:=λM J=>by
  obtain⟨w',h1,h2⟩:=M.ex
  exact FT I (by rw[G,J];exact ZF h1) (B _ _ h2)
 unfold tT at h
 cases gW:o.op with
 | move x=>rw[gW]at h;exact ik (w':=w) I (by rw[G];simp only[execOp,gW];rfl) (B _ _ h)
 | assign x=>rw[gW]at h;exact ik (w':=w) I (by rw[G];simp only[execOp,gW];rfl) (B _ _ h)
 | pick c x y=>
  rw[gW]at h
  obtain⟨v,h1,h2⟩:=h.ex
  refine ik (w':=w) I ?_ (B _ _ h2)
  rw[G];simp only[execOp,gW]
  have:=eM h1 w
  unfold Mg at this
  revert this
  cases ev e c<;>simp only[asBool]<;>intro this<;>first|(simp only[stuck]at this;exact absurd this (by simp[Sem.run]))|skip
  case bool t=>
   have e2:v=(if t=true then ev e x else ev e y):=by
    have:(Result.ok (if t=true then ev e x else ev e y) w:Result Value)=.ok v w:=this
    simpa using this.symm
   rw[e2];rfl
 | alloc t=>rw[gW]at h;exact E h (by simp only[execOp,gW])
 | box t x=>rw[gW]at h;exact E h (by simp only[execOp,gW])
 | build t ps=>rw[gW]at h;exact V h (by simp only[execOp,gW,xH])
 | buildSlice t n ps=>rw[gW]at h;exact E h (by simp only[execOp,gW,xH])
 | insert t m k x=>rw[gW]at h;exact U h (by simp only[execOp,gW])
 | load t x=>rw[gW]at h;exact W h (by simp only[execOp,gW])
 | store t x y=>rw[gW]at h;exact U h (by simp only[execOp,gW])
 | nilCheck x=>
  rw[gW]at h
  obtain⟨v,h1,h2⟩:=h.ex
  refine ik (w':=w) I ?_ (B _ _ h2)
  rw[G];simp only[execOp,gW]
  revert h1
  cases J:ev e x with
  | pointer p=>cases p<;>simp[J7,stuck,pr,eU]<;>(try(rintro rfl;rfl))
  | func fn f c=>cases fn<;>simp[J7,stuck,pr,eU]<;>(try(rintro rfl;rfl))
  | _=>simp[J7,stuck,pr,eU]<;>(try(rintro rfl;rfl))
 | binOp op t x y u=>
  rw[gW]at h
  dsimp only at h
  split at h
  .obtain⟨v,h1,h2⟩:=h.ex
   exact ik (w':=w) I (by rw[G];simp only[execOp,gW];exact C1 (C2 h1)) (B _ _ h2)
  .obtain⟨v,h1,h2⟩:=h.ex
   exact ik (w':=w) I (by rw[G];simp only[execOp,gW];exact C1 (C2 (eM h1 w))) (B _ _ h2)
 | unOp op t x=>rw[gW]at h;exact V h (by simp only[execOp,gW])
 | convert s d x=>
  rw[gW]at h
  dsimp only at h
  split at h
  .exact V h (by simp only[execOp,gW])
  .exact W h (by simp only[execOp,gW])
  .exact E h (by simp only[execOp,gW])
 | makeInterface t x=>rw[gW]at h;exact W h (by simp only[execOp,gW])
 | makeFunc fn f c=>rw[gW]at h;exact ik (w':=w) I (by rw[G];simp only[execOp,gW,<- xH];rfl) (B _ _ h)
 | makeMap t r=>rw[gW]at h;exact E h (by simp only[execOp,gW])
 | makeSlice t l c=>rw[gW]at h;exact E h (by simp only[execOp,gW])
 | slice t x lo hi mx=>rw[gW]at h;exact V h (by simp only[execOp,gW])
 | fieldAddr s x f=>rw[gW]at h;exact V h (by simp only[execOp,gW])
 | field t x f=>rw[gW]at h;exact V h (by simp only[execOp,gW])
 | indexAddr t x i=>rw[gW]at h;exact V h (by simp only[execOp,gW])
 | index t x i=>rw[gW]at h;exact V h (by simp only[execOp,gW])
 | lookup t x i ok=>rw[gW]at h;exact W h (by simp only[execOp,gW])
 | mapUpdate t m k x=>rw[gW]at h;exact U h (by simp only[execOp,gW])
 | mapEntry t m k=>rw[gW]at h;exact E h (by simp only[execOp,gW])
 | entryStore t m s x=>rw[gW]at h;exact U h (by simp only[execOp,gW])
 | range t x=>rw[gW]at h;exact E h (by simp only[execOp,gW])
 | next it s=>rw[gW]at h;exact E h (by simp only[execOp,gW])
 | entry it=>rw[gW]at h;exact W h (by simp only[execOp,gW])
 | typeAssert x t u ok=>rw[gW]at h;exact W h (by simp only[execOp,gW])
 | extract t i=>rw[gW]at h;exact V h (by simp only[execOp,gW])
 | call c=>
  rw[gW]at h
  dsimp only at h
  have Y:(c.args.toList.map (ev e)).toArray=c.args.map (ev e):=xH _ _
  cases hc:c.callee with
  | value x=>
   rw[hc]at h
   have O:∀{g:FuncId}{first cap:Array Value},ev e x=.func (.func g) first cap->Plain P g->Calls P g (first++(c.args.toList.map (ev e)).toArray++cap) w (oU K)->o.wpIn (FO r) 0 P a w next Q:=by
    intro g first cap J M gK
    unfold Oper.wpIn
    rw[Oper.semAt_eq _ _ _ I]
    have hr:(execOp a.eval o).run P w=.ok (.enter g (first++(c.args.toList.map (ev e)).toArray++cap)) w:=by
     rw[G]
     simp only[execOp,gW]
     have h1:(resolve (ev e) c o.type).run P w=.ok {target:=.fn (.func g) cap,args:=first++c.args.map (ev e)} w:=by
      simp only[resolve,hc,J];rfl
     rw[dC h1]
     show(callFunc g (first++c.args.map (ev e)++cap)).run P w=_
     rw[tS M,Y]
    rw[hr]
    exact⟨oW,C0 gK λv w' hv=>B v w' hv⟩
   have Z:∀{l:Nat},ev e x=.func (.yield l) #[] #[]->YieldAt (FO none) 0 P l (c.args.toList.map (ev e)).toArray w (oU K)->o.wpIn (FO r) 0 P a w next Q:=by
    rintro l J ⟨fn,tmps,assign,body,hy,hr⟩
    unfold Oper.wpIn
    rw[Oper.semAt_eq _ _ _ I]
    have Rf:(execOp a.eval o).run P w=.ok (.round l fn tmps assign body) w:=by
     rw[G]
     simp only[execOp,gW]
     have h1:(resolve (ev e) c o.type).run P w=.ok {target:=.fn (.yield l) #[],args:=#[]++c.args.map (ev e)} w:=by
      simp only[resolve,hc,J];rfl
     rw[dC h1]
     show(Instr.yield l (#[]++c.args.map (ev e))).run P w=_
     rw[P4,<- Y];exact hy
    rw[Rf]
    exact⟨oW,zR hr λv w' hv=>B v w' hv⟩
   have Bx:gJ P (ev e x) (c.args.toList.map (ev e)) w K->o.wpIn (FO r) 0 P a w next Q:=λh=>by
    rcases h.ex with⟨g,first,cap,h1,h2,h3⟩|⟨l,h1,h2⟩
    .exact O h1 h2 h3
    .exact Z h1 h2
   cases x with
   | func f=>
    rcases h.ex with⟨h1,h2⟩|⟨v,w',h1,h2⟩
    .exact O (g:=f) (first:=#[]) (cap:=#[]) rfl h1 (by simpa using h2)
    .refine ik I ?_ (B _ _ h2)
     rw[G]
     simp only[execOp,gW]
     have h3:(resolve (ev e) c o.type).run P w=.ok {target:=.fn (.func f) #[],args:=#[]++c.args.map (ev e)} w:=by
      simp only[resolve,hc,ev];rfl
     rw[dC h3]
     show(callFunc f (#[]++c.args.map (ev e)++#[])).run P w=_
     rw[<- Y,P4,Array.append_empty]
     exact h1
   | tmp t=>exact Bx h
   | const v=>exact Bx h
   | global g=>exact Bx h
  | invoke r nm=>rw[hc]at h;exact h.elim
  | builtin b=>
   rw[hc]at h
   dsimp only at h
   have hb:∀{m:Sem Value},builtin b c.argTypes o.type (c.args.map fun|.const _=>true|_=>false) (c.args.map (ev e))=(do pure (.value (<- m)):Sem Next)->
     execOp (ev e) o=(do pure (.value (<- m)):Sem Next):=by
    intro m hm
    simp only[execOp,gW]
    have h1:resolve (ev e) c o.type=pure {target:=.builtin b c.argTypes o.type (c.args.map fun|.const _=>true|_=>false),args:=c.args.map (ev e)}:=by
     simp only[resolve,hc];rfl
    rw[h1]
    exact hm
   rw[Y]at h
   cases b<;>first|exact h.elim|skip
   case len=>
    dsimp only at h
    split at h
    .exact W h (hb rfl)
    .exact V h (hb rfl)
   case cap=>exact V h (hb rfl)
   case min=>exact V h (hb rfl)
   case max=>exact V h (hb rfl)
   case append=>exact E h (hb rfl)
   case copy=>exact E h (hb rfl)
   case clear=>exact E h (hb rfl)
   case delete=>exact E h (hb rfl)
 | _=>rw[gW]at h;exact h.elim
def pre(o:Oper):List Nat:=(o.after.toList.filter λe=>Region.binds .any e).map (·.on)
def vw(u:List Oper)(j:Nat):Option Nat:=(u[j]?).bind (·.dst)
def looks(u:List Oper)(o:Oper):List Nat:=
 (o.op.operands.toList.filterMap fun|.tmp t=>some t|_=>none)++(match o.guard with|some (j,_)=>(vw u j).toList|none=>[])
def kG(u:List Oper)(o:Oper)(e:Env):Bool:=
 match o.guard with
 | none=>true
 | some (j,b)=>match vw u j with
  | none=>false
  | some s=>match e s with
   | .bool B=>B == b
   | _=>false
theorem Aj{E:List Nat}{n:Nat}{e:Env}{a:Act}(h:gh E n e a)(u:List Oper)(o:Oper):Region.wanted o (yielded u.toArray a.tmps)=kG u o e:=by
 unfold Region.wanted kG
 cases o.guard with
 | none=>rfl
 | some g=>
  obtain⟨j,b⟩:=g
  simp only[yielded,vw,IT]
  cases (u[j]?).bind (·.dst)with
  | none=>simp
  | some s=>
   have B:=h.get s
   simp only[la]
   rw[<- B,vF]
   cases a.tmps[s]? with
   | none=>simp[undef]
   | some v=>grind
theorem J9{P:Program}{o:Oper}{ρ ρ':Operand->Value}(h:∀x∈o.op.operands,ρ x=ρ' x):tT P o ρ=tT P o ρ':=by
 unfold tT
 cases gW:o.op<;>rw[gW]at h<;>simp only[Op.operands]at h<;>dsimp only
 case call c=>
  have I:∀x∈c.args,ρ x=ρ' x:=λx E=>h x (by simp[Call.operands,E])
  have B:c.args.toList.map ρ=c.args.toList.map ρ':=wi λx E=>I x cR
  rw[B]
  cases hc:c.callee with
  | value x=>
   have E:ρ x=ρ' x:=h x (by simp[Call.operands,hc])
   grind
  | _=>rfl
 case build t ps=>
  have B:(ps.toList.map λq=>(q.1,ρ q.2))=ps.toList.map λq=>(q.1,ρ' q.2):=
   wi λq G=>cR
  grind
 case buildSlice t n ps=>
  have B:(ps.toList.map λq=>(q.1,ρ q.2))=ps.toList.map λq=>(q.1,ρ' q.2):=
   wi λq G=>cR
  grind
 case makeFunc fn f c=>
  simp_all
 case makeMap t r=>
  have:r.map ρ=r.map ρ':=by cases r with|none=>rfl|some x=>grind
  grind
 case slice t x lo hi mx=>
  have J:ρ x=ρ' x:=h x ew
  have h1:lo.map ρ=lo.map ρ':=by cases lo with|none=>rfl|some y=>grind
  have h2:hi.map ρ=hi.map ρ':=by cases hi with|none=>rfl|some y=>grind
  have h3:mx.map ρ=mx.map ρ':=by cases mx with|none=>rfl|some y=>grind
  grind
 case load t x=>grind
 case store t x y=>grind
 case pick c x y=>grind
 case binOp op t x y u=>grind
 case insert t m k x=>grind
 case mapUpdate t m k x=>grind
 case entryStore t m k x=>grind
 case mapEntry t m k=>grind
 case lookup t m k ok=>grind
 case indexAddr t m k=>grind
 case index t m k=>grind
 case makeSlice t m k=>grind
 all_goals grind
def VQ{e:Env}{d:Nat}{v:Value}{x:Operand}(h:x≠.tmp d):ev (tN e d v) x=ev e x:=by
 cases x<;>simp only[ev]
 case tmp t=>exact kF _ _ λu=>h (by rw[u])
theorem xI{P:Program}{u:List Oper}{o:Oper}{e:Env}{d:Option Nat}{v:Value}(h:∀k,d=some k->k ∉ looks u o) :
  tT P o (ev (gB e d v))=tT P o (ev e):=by
 cases d with
 | none=>rfl
 | some d=>
  refine J9 λx E=>VQ λB=>h d rfl ?_
  subst B
  exact List.mem_append_left _ (KQ.2 ⟨.tmp d,cR,rfl⟩)
theorem rT{u:List Oper}{o:Oper}{e:Env}{d:Option Nat}{v:Value}(h:∀k,d=some k->k ∉ looks u o) :
  kG u o (gB e d v)=kG u o e:=by
 cases d with
 | none=>rfl
 | some d=>
  have h:=h d rfl
  unfold kG
  unfold looks at h
  cases hg:o.guard with
  | none=>rfl
  | some g=>
   obtain⟨j,b⟩:=g
   rw[hg]at h
   dsimp only at h |-
   cases hs:vw u j with
   | none=>rfl
   | some s=>
    rw[hs]at h
    have:s≠d:=λB=>h (by simp[B])
    simp only[gB,kF _ _ this]
def Mi(u:List Oper)(x y:Oper):Prop:=
 (∀d,x.dst=some d->d ∉ looks u y/\y.dst≠some d)/\(∀d,y.dst=some d->d ∉ looks u x)
theorem Ka{e:Env}{d u:Option Nat}{v B:Value}(h:∀k,d=some k->u≠some k):gB (gB e d v) u B=gB (gB e u B) d v:=by
 cases d with
 | none=>rfl
 | some d=>cases u with
  | none=>rfl
  | some u=>exact Mf _ _ _ λE=>h d rfl (by rw[E])
def xJ(P:Program)(u:List Oper)(o:Oper)(K:Env->hU)(e:Env)(w:World):Prop:=
 if kG u o e=true then Ai P (tT P o (ev e)) (λv w'=>K (gB e o.dst v) w') w else K (gB e o.dst undef) w
def xJ.mono{P:Program}{u:List Oper}{o:Oper}{K B:Env->hU}{e:Env}{w:World}(h:xJ P u o K e w)
  (E:∀v w',K (gB e o.dst v) w'->B (gB e o.dst v) w'):xJ P u o B e w:=by
 unfold xJ at *
 split
 .rename_i hw;rw[fh hw]at h;exact h.mono λv w'=>E v w'
 grind
def FU(u:List Oper)(L:Nat->Bool)(i:Nat):Prop:=L i=false/\∃o,u[i]?=some o/\∀p∈pre o,L p=true
def ja(L:Nat->Bool)(i:Nat):Nat->Bool:=λk=>if k=i then true else L k
def Down(u:List Oper)(L:Nat->Bool):Prop:=∀i o,L i=true->u[i]?=some o->∀p∈pre o,L p=true
def Kb(L:Nat->Bool)(i:Nat):ja L i i=true:=by simp[ja]
theorem HW(L:Nat->Bool){i k:Nat}(h:k≠i):ja L i k=L k:=by simp[ja,h]
def By(L:Nat->Bool)(i:Nat){k:Nat}(h:L k=true):ja L i k=true:=by unfold ja;grind
theorem Kc(L:Nat->Bool)(i j:Nat):ja (ja L i) j=ja (ja L j) i:=by
 grind[ja]
def Down.set{u:List Oper}{L:Nat->Bool}{i:Nat}(h:Down u L)(G:FU u L i):Down u (ja L i):=by
 intro k o B I p E
 by_cases e:k=i
 .subst e
  obtain⟨_,O,M,J⟩:=G
  grind[ja]
 rw[HW _ e]at B
 exact By _ _ (h k o B I p E)
def FU.set{u:List Oper}{L:Nat->Bool}{i j:Nat}(h:FU u L j)(G:j≠i):FU u (ja L i) j:=
 ⟨by rw[HW _ G];exact h.1,let ⟨o,I,B⟩:=h.2;⟨o,I,λp E=>By _ _ (B p E)⟩⟩
inductive FV(ops:List Oper):Nat->Nat->Prop
 | one {j i:Nat}{o:Oper}(h:ops[j]?=some o) (hp:i∈pre o):FV ops j i
 | more {j p i:Nat}{o:Oper}(h:ops[j]?=some o) (hp:p∈pre o) (hd:FV ops p i):FV ops j i
theorem FV.listed{u:List Oper}{L:Nat->Bool}(J:Down u L){j i:Nat}(h:FV u j i):(∀o,u[j]?=some o->∀p∈pre o,L p=true)->L i=true:=by
 induction h with
 | one h B=>grind
 | more h B O M=>intro E;exact M λo G q I=>J _ o (E _ h _ B) G q I
def FV.zS{u:List Oper}{L:Nat->Bool}(B:Down u L){j i:Nat}(h:FV u j i)(E:FU u L j):L i=true:=
 h.listed B λo O p J=>by obtain⟨_,M,I,G⟩:=E;grind
def WS(P:Program)(u:List Oper)(Q:Env->hU)(S:Nat->hU):Nat->(Nat->Bool)->Env->hU
 | 0,L,e,w=>(∀i,¬ FU u L i)/\Q e w
 | f+1,L,e,w=>((∀i,¬ FU u L i)->Q e w)/\
   ∀i o,u[i]?=some o->FU u L i->xJ P u o (λB w'=>(w'=w\/S i w')/\WS P u Q S f (ja L i) B w') e w
theorem WS.weaken{P:Program}{u:List Oper}{Q:Env->hU}{S E:Nat->hU}(h:∀i w,S i w->E i w) :
  ∀(f:Nat) (_L:Nat->Bool) (_e:Env) (_w:World),WS P u Q S f _L _e _w->WS P u Q E f _L _e _w
 | 0,_,_,_,B=>B
 | f+1,L,e,w,B=>⟨B.1,λi o I G=>(B.2 i o I G).mono λ_ _ ⟨h1,h2⟩=>⟨h1.imp id (h _ _),WS.weaken h f _ _ _ h2⟩⟩
theorem WS.first{P:Program}{B:List Oper}{Q:Env->hU}{S:Nat->hU}{i:Nat}{G:Oper}{X:yb}{b:Bool}{v:Value}
  (hi:B[i]?=some G) (hn:b=false->v=undef) :
  ∀(f:Nat) (L:Nat->Bool) (e:Env) (w:World),Down B L->FU B L i->
   (∀j E,B[j]?=some E->j≠i->L j=false->i ∉ pre E->Mi B G E)->
   tT P G (ev e)=X->kG B G e=b->(b=true->X.has P w v)->
   WS P B Q (λj w'=>S j w'/\(FV B j i\/(b=true->X.has P w' v))) f (ja L i) (gB e G.dst v) w->WS P B Q S (f+1) L e w:=by
 have done:∀(K:Env->hU) (e:Env) (w:World),tT P G (ev e)=X->kG B G e=b->(b=true->X.has P w v)->K (gB e G.dst v) w->xJ P B G K e w:=by
  intro K e w hX hb hy I
  unfold xJ
  rw[hb]
  cases b with
  | true=>rw[fh rfl,hX];exact Ai.Mh (hy rfl) I
  | false=>grind
 have sub:∀{f:Nat}{L:Nat->Bool}{e:Env}{w:World},WS P B Q (λj w'=>S j w'/\(FV B j i\/(b=true->X.has P w' v))) f L e w->WS P B Q S f L e w:=
  λh=>WS.weaken (λ_ _ h=>h.1) _ _ _ _ h
 intro f
 induction f with
 | zero=>
  intro L e w hL O HX hX hb hy H
  refine⟨λh=>absurd O (h i),λj E Z M=>?_⟩
  by_cases W:j=i
  .grind
  .exact absurd (M.set W) (H.1 j)
 | succ f ih=>
  intro L e w hL O HX hX hb hy H
  refine⟨λh=>absurd O (h i),λj E Z M=>?_⟩
  by_cases W:j=i
  .grind
  .have ej:i ∉ pre E:=λhp=>by
    obtain⟨_,Y,VR,qL⟩:=M.2.elim λY h=>(⟨trivial,Y,h.1,h.2⟩:True/\∃Y,B[j]?=some Y/\∀p∈pre Y,L p=true)
    rw[Z]at VR;cases VR
    have:=qL i hp
    rw[O.1]at this;cases this
   have J:=HX j E Z W M.1 ej
   have ZH:¬ FV B j i:=λhd=>by
    have:=hd.zS hL M
    rw[O.1]at this;cases this
   have h1:=H.2 j E Z (M.set W)
   have V:∀k,G.dst=some k->k ∉ looks B E:=λk I=>(J.1 k I).1
   have U:∀k,E.dst=some k->k ∉ looks B G:=λk I=>J.2 k I
   have dd:∀k,G.dst=some k->E.dst≠some k:=λk I=>(J.1 k I).2
   have cont:∀(u:Value) (w':World),(w'=w\/(S j w'/\(FV B j i\/(b=true->X.has P w' v))))->
     WS P B Q (λj w'=>S j w'/\(FV B j i\/(b=true->X.has P w' v))) f (ja (ja L i) j) (gB (gB e G.dst v) E.dst u) w'->
     (w'=w\/S j w')/\WS P B Q S (f+1) (ja L j) (gB e E.dst u) w':=by
    intro u w' hw hWS
    refine⟨hw.imp id λh=>h.1,?_⟩
    refine ih (ja L j) (gB e E.dst u) w' (hL.set M) (O.set (Ne.symm W)) ?_ ?_ ?_ ?_ ?_
    .grind[ja,pre,Mi]
    .rw[xI U];exact hX
    .rw[rT U];exact hb
    .grind
    .rw[Kc,Ka λk I=>cR]
     exact hWS
   unfold xJ at h1 |-
   rw[rT V]at h1
   split
   .rename_i hw
    rw[fh hw,xI V]at h1
    exact h1.mono λu w' hh=>cont u w' hh.1 hh.2
   grind
def wr(u:List Oper):List Nat:=u.filterMap (·.dst)
def Mj{u:List Oper}{i:Nat}{o:Oper}{d:Nat}(h:u[i]?=some o)(B:o.dst=some d):d∈wr u:=
 KQ.2 ⟨o,List.mem_of_getElem? h,B⟩
theorem sY{e e0:Env}{u:List Oper}{i:Nat}{o:Oper}(h:∀k,k ∉ wr u->e k=e0 k)(E:u[i]?=some o)(v:Value) :
  ∀k,k ∉ wr u->gB e o.dst v k=e0 k:=by
 intro k B
 cases hd:o.dst with
 | none=>exact h k B
 | some d=>
  have:k≠d:=λG=>B (by rw[G];exact Mj E hd)
  simp only[gB,kF _ _ this]
  grind
def xJ.wpOp{r:Option Nat}{M:List Nat}{P:Program}{n:Nat}{u:List Oper}{i:Nat}{o:Oper}{K:Env->hU}{E:Act->hU}{O:Exit->Act->hU}{e:Env}{a:Act}{w:World}
  (U:u[i]?=some o) (I:∀k,o.dst=some k->k<n) (B:gh M n e a) (h:xJ P u o K e w)
  (G:∀v J w',gh M n (gB e o.dst v) J->K (gB e o.dst v) w'->E J w'):wpOpIn (FO r) 0 P u.toArray O i E a w:=by
 unfold Go.wpOpIn
 simp only[IT,U]
 rw[Aj B]
 unfold xJ at h
 split
 .rename_i hw
  rw[fh hw]at h
  exact Ai.wp B h λv w' V=>G v _ _ (B.put I v) V
 rename_i hw
 rw[fg hw]at h
 exact⟨oW,G undef _ _ (B.put I undef) h⟩
theorem WS.any{r:Option Nat}{Y:List Nat}{P:Program}{n:Nat}{u:List Oper}{Q:Env->hU}{V:Exit->Act->hU}{S:Nat->hU}{e0:Env}
  (hd:∀d∈wr u,d<n) (W:∀e a w,gh Y n e a->(∀k,k ∉ wr u->e k=e0 k)->Q e w->V .normal a w) :
  ∀(f:Nat) (L:Nat->Bool) (listed:Array Bool) (e:Env) (a:Act) (w:World),gh Y n e a->(∀k,k ∉ wr u->e k=e0 k)->listed.size=u.length->
   (∀i,listed.getD i false=L i)->WS P u Q S f L e w->wpAnyIn (FO r) 0 P .any u.toArray V f listed a w:=by
 have B:∀(L:Nat->Bool) (listed:Array Bool) (_:listed.size=u.length) (_:∀i,listed.getD i false=L i) (i:Nat),
   i∈Region.ready .any u.toArray listed↔FU u L i:=by
  intro L listed I E i
  rw[mem_ready]
  have Z:∀o,u[i]?=some o->listed.getD i true=L i:=λo G=>by
   grind
  unfold FU pre
  grind
 intro f
 induction f with
 | zero=>
  intro L listed e a w J M I E h
  refine⟨?_,W e a w J M h.2⟩
  cases U:Region.ready .any u.toArray listed with
  | nil=>rfl
  | cons i r=>exact absurd ((B L listed I E i).1 cR) (h.1 i)
 | succ f ih=>
  intro L listed e a w J M I E h
  refine⟨λhn=>W e a w J M (h.1 λi hi=>?_),λi hi=>?_⟩
  .have:=(B L listed I E i).2 hi
   grind
  .have U:=(B L listed I E i).1 hi
   obtain⟨o,G,_⟩:=U.2
   refine xJ.wpOp G (λk hk=>hd k (Mj G hk)) J (h.2 i o G U) λv a' w' Bz hh=>?_
   refine ih (ja L i) _ _ a' w' Bz (sY M G v) cR (λk=>?_) hh.2
   have kH:i<listed.size:=cR
   have O:=E k
   simp only[vF]at O |-
   grind[ja]
def WS.region{r:Option Nat}{G:List Nat}{P:Program}{n:Nat}{id:Nat}{u:List Oper}{Q:Env->hU}{E:Exit->Act->hU}{S:Nat->hU}{e:Env}{a:Act}{w:World}
  (O:P.follows .mixedOrders=true) (J:∀d∈wr u,d<n) (I:gh G n e a)
  (M:∀B a w,gh G n B a->(∀k,k ∉ wr u->B k=e k)->Q B w->E .normal a w)
  (h:WS P u Q S u.length (λ_=>false) e {w with drawn:=w.drawn+1}):(Vq id u.toArray true).wpIn (FO r) 0 P E a w:=by
 refine wpIn_region_any O ?_
 rw[E0]
 refine WS.any J M u.length (λ_=>false) _ e a _ I (λ_ _=>rfl) ew (λi=>?_) h
 simp only[vF,Array.getElem?_replicate]
 grind
def lk(s:Nat):List (Nat×Option Bool)->Option (Option Bool)
 | []=>none
 | q::r=>bif u3 q.1 s then some q.2 else lk s r
def BA(d:Nat):List (Nat×Option Bool)->List (Nat×Option Bool)
 | []=>[]
 | q::r=>bif u3 q.1 d then BA d r else q::BA d r
def del(d:Option Nat)(u:List (Nat×Option Bool)):List (Nat×Option Bool):=match d with|none=>u|some d=>BA d u
def xK(u:List (Nat×Option Bool)):Operand->Option Bool
 | .const (.bool b)=>some b
 | .tmp t=>match lk t u with|some b=>b|none=>none
 | _=>none
def Ua(u:List (Nat×Option Bool)):Op->Option Operand
 | .move x=>some x
 | .assign x=>some x
 | .pick (.tmp c) a b=>match lk c u with|some (some t)=>some (bif t then a else b)|_=>none
 | _=>none
def Mk(u:List (Nat×Option Bool))(d:Option Nat)(x:Operand):List (Nat×Option Bool):=
 match d,xK u x with
 | some d,some b=>(d,some b)::BA d u
 | d,_=>del d u
def ofK:Option Bool->Value|some b=>.bool b|none=>undef
def ie(u:List (Nat×Option Bool))(e:Env):Prop:=∀s b,lk s u=some b->e s=ofK b
theorem yc(n:Nat):u3 n n=true:=Nat.beq_refl n
theorem vx{a b:Nat}(h:a≠b):u3 a b=false:=by
 cases hh:u3 a b
 .rfl
 simp_all
theorem Rh(s d:Nat)(u:List (Nat×Option Bool)):lk s (BA d u)=if s=d then none else lk s u:=by
 induction u with
 | nil=>simp[BA,lk]
 | cons q r B=>
  simp only[BA,lk]
  by_cases h1:q.1=d
  .rw[h1,yc,cond_true,B]
   by_cases h2:s=d
   .simp[h2]
   .rw[fg h2,fg h2,vx (λE=>h2 E.symm),cond_false]
  .rw[vx h1,cond_false]
   simp only[lk,B]
   by_cases h2:q.1=s
   .grind
   .rw[vx h2,cond_false,cond_false]
def ie.nil(e:Env):ie [] e:=λs b h=>by simp[lk]at h
theorem ie.del{E:List (Nat×Option Bool)}{e:Env}(h:ie E e)(d:Option Nat)(v:Value):ie (del d E) (gB e d v):=by
 cases d with
 | none=>exact h
 | some d=>
  intro s b B
  simp only[Fw.del,Rh]at B
  by_cases u:s=d
  .simp[u]at B
  .rw[fg u]at B
   simp only[gB,kF _ _ u]
   exact h s b B
def ie.cons{B:List (Nat×Option Bool)}{e:Env}(h:ie B e){s:Nat}{b:Option Bool}(E:e s=ofK b):ie ((s,b)::B) e:=by
 intro s' G u
 simp only[lk]at u
 by_cases h1:s=s'
 .subst h1;rw[yc,cond_true]at u;cases u;exact E
 rw[vx h1,cond_false]at u;exact h _ _ u
theorem ie.known{E:List (Nat×Option Bool)}{e:Env}(h:ie E e){x:Operand}{b:Bool}(B:xK E x=some b):ev e x=.bool b:=by
 cases x with
 | tmp t=>
  have u:(match lk t E with|some b=>b|none=>none)=some b:=B
  split at u
  .rename_i b' hb;subst u;exact h t _ hb
  grind
 | const v=>cases v<;>simp[xK]at B;simp[ev,B]
 | _=>simp[xK]at B
def ie.VS{u:List (Nat×Option Bool)}{e:Env}(h:ie u e)(d:Option Nat)(x:Operand):ie (Mk u d x) (gB e d (ev e x)):=by
 unfold Mk
 split
 .rename_i d b hb
  have h1:=h.del (some d) (ev e x)
  exact ie.cons (b:=some b) h1 (by simp only[gB,jN];exact h.known hb)
 exact h.del _ _
def oX(P:Program)(u:List Oper)(r:Oper)(e:Env)(w:World)(R:Prop):Prop:=
 bif kG u r e then(match tT P r (ev e),r.dst with|.q m,some d=>HU P m (e d) w R|_,_=>False)else R
def tU(P:Program)(u:List Oper):List Oper->Env->World->Prop->Prop
 | [],_,_,R=>R
 | r::ks,e,w,R=>oX P u r e w (tU P u ks e w R)
theorem C4{P:Program}{u:List Oper}{ks:List Oper}{e:Env}{w:World}{R:Prop}:tU P u ks e w R->(∀r∈ks,oX P u r e w True)/\R:=by
 induction ks with
 | nil=>intro h;exact⟨ew,h⟩
 | cons r ks B=>
  intro h
  have:oX P u r e w True/\tU P u ks e w R:=by
   simp only[tU,oX]at h |-
   cases hw:kG u r e with
   | false=>grind
   | true=>
    rw[hw]at h
    simp only[cond_true]at h |-
    cases hk:tT P r (ev e)<;>rw[hk]at h<;>cases hd:r.dst<;>rw[hd]at h<;>first|grind|skip
    exact⟨⟨h.ZD,trivial⟩,h.rest⟩
  grind
def yd(n:Nat)(o:Oper):Bool:=match o.dst with|none=>true|some d=>UI d n
def Ub(P:Program)(B:List Oper)(o:Oper)(ks:List Oper)(rec:List (Nat×Option Bool)->Env->hU)(u:List (Nat×Option Bool))(e:Env)(w:World):Prop:=
 match Ua u o.op with
 | some x=>rec (Mk u o.dst x) (gB e o.dst (ev e x)) w
 | none=>Ai P (tT P o (ev e)) (λv w'=>tU P B ks (gB e o.dst v) w' (rec (del o.dst u) (gB e o.dst v) w')) w
def ZI(o:Oper)(rec:List (Nat×Option Bool)->Env->hU)(u:List (Nat×Option Bool))(e:Env)(w:World):Prop:=
 rec (match o.dst with|some d=>(d,none)::BA d u|none=>u) (gB e o.dst undef) w
theorem ie.skip{u:List (Nat×Option Bool)}{e:Env}(h:ie u e)(d:Option Nat) :
  ie (match d with|some d=>(d,none)::BA d u|none=>u) (gB e d undef):=by
 cases d with
 | none=>exact h
 | some d=>exact ie.cons (b:=none) (h.del (some d) undef) (by simp only[gB,jN];rfl)
def DS(P:Program)(n:Nat)(u:List Oper)(q:Oper×List Oper)(rec:List (Nat×Option Bool)->Env->hU)(B:List (Nat×Option Bool))(e:Env)(w:World):Prop:=
  bif yd n q.1 then
   match q.1.guard with
   | none=>Ub P u q.1 q.2 rec B e w
   | some g=>match vw u g.1 with
    | none=>False
    | some s=>match lk s B with
     | some none=>ZI q.1 rec B e w
     | some (some E)=>bif E == g.2 then Ub P u q.1 q.2 rec B e w else ZI q.1 rec B e w
     | none=>sJ (e s)
       (bif g.2 then Ub P u q.1 q.2 rec ((s,some true)::B) (tN e s (.bool true)) w else ZI q.1 rec ((s,some true)::B) (tN e s (.bool true)) w)
       (bif g.2 then ZI q.1 rec ((s,some false)::B) (tN e s (.bool false)) w else Ub P u q.1 q.2 rec ((s,some false)::B) (tN e s (.bool false)) w)
  else False
def DR(P:Program)(n:Nat)(u:List Oper):List (Oper×List Oper)->(Env->hU)->List (Nat×Option Bool)->Env->hU
 | [],Q,_,e,w=>Q e w
 | q::rest,Q,kg,e,w=>DS P n u q (DR P n u rest Q) kg e w
def rU{P:Program}{u:List Oper}{o:Oper}{ks:List Oper}{rec:List (Nat×Option Bool)->Env->hU}{E:List (Nat×Option Bool)}{e:Env}{w:World}
  (B:ie E e) (h:Ub P u o ks rec E e w) :
  Ai P (tT P o (ev e)) (λv w'=>(w'=w\/∀r∈ks,oX P u r (gB e o.dst v) w' True)/\∃G,ie G (gB e o.dst v)/\rec G (gB e o.dst v) w') w:=by
 unfold Ub at h
 split at h
 .rename_i x hx
  have I:(tT P o (ev e)).has P w (ev e x):=by
   unfold tT
   cases gW:o.op<;>rw[gW]at hx<;>simp only[Ua]at hx<;>first|cases hx|skip
   case move y=>simp only[yb.has]
   case assign y=>simp only[yb.has]
   case pick c a b=>
    cases c<;>simp only at hx<;>first|cases hx|skip
    rename_i c
    split at hx
    .rename_i t ht
     cases hx
     have hc:e c=.bool t:=B c _ ht
     simp only[yb.has,ev,hc,Mg]
     cases t<;>rfl
    .cases hx
  exact Ai.Mh I ⟨.inl rfl,_,B.VS _ _,h⟩
 refine h.mono λv w' J=>?_
 have:=C4 J
 exact⟨.inr this.1,_,B.del _ _,this.2⟩
theorem BB{P:Program}{n:Nat}{u:List Oper}{q:Oper×List Oper}{rec:List (Nat×Option Bool)->Env->hU}{E:List (Nat×Option Bool)}{e:Env}{w:World}
  (B:ie E e) (h:DS P n u q rec E e w) :
  (∀d,q.1.dst=some d->d<n)/\
  xJ P u q.1 (λV w'=>(w'=w\/∀r∈q.2,oX P u r V w' True)/\∃J,ie J V/\rec J V w') e w:=by
 unfold DS at h
 cases hd:yd n q.1 with
 | false=>grind
 | true=>
  rw[hd]at h
  refine⟨λd Y=>by unfold yd at hd;simp_all,?_⟩
  have U:∀{E:List (Nat×Option Bool)},ie E e->ZI q.1 rec E e w->
    (w=w\/∀r∈q.2,oX P u r (gB e q.1.dst undef) w True)/\∃J,ie J (gB e q.1.dst undef)/\rec J (gB e q.1.dst undef) w:=
   λB h=>⟨.inl rfl,_,B.skip _,h⟩
  simp only[cond_true]at h
  unfold xJ
  cases hg:q.1.guard with
  | none=>
   rw[hg]at h
   have O:kG u q.1 e=true:=by unfold kG;rw[hg]
   rw[fh O]
   exact rU B h
  | some g=>
   obtain⟨j,b⟩:=g
   rw[hg]at h
   dsimp only at h
   cases hs:vw u j with
   | none=>rw[hs]at h;exact h.elim
   | some s=>
    rw[hs]at h
    dsimp only at h
    have O:∀t,e s=.bool t->kG u q.1 e=(t == b):=λt ht=>by unfold kG;rw[hg];dsimp only;rw[hs];dsimp only;rw[ht]
    cases hl:lk s E with
    | some Z=>
     rw[hl]at h
     cases Z with
     | none=>
      dsimp only at h
      have hu:kG u q.1 e=false:=by
       unfold kG;rw[hg];dsimp only;rw[hs];dsimp only;rw[B s none hl];rfl
      rw[fg (by rw[hu];simp)]
      exact U B h
     | some W=>
      dsimp only at h
      rw[O W (B s _ hl)]
      cases hb:W == b with
      | true=>rw[hb]at h;rw[fh rfl];exact rU B h
      | false=>rw[hb]at h;rw[fg ew];exact U B h
    | none=>
     rw[hl]at h
     obtain⟨t,ht,G,M⟩:=h.ex
     rw[O t ht]
     have I:∀c,t=c->tN e s (.bool c)=e:=λc hc=>VP _ _ _ (by rw[ht,hc])
     cases t with
     | true=>
      have G:=G rfl
      rw[I true rfl]at G
      cases b with
      | true=>rw[fh (by rfl)];exact rU (B.cons (b:=some _) ht) G
      | false=>rw[fg ew];exact U (B.cons (b:=some _) ht) G
     | false=>
      have M:=M rfl
      rw[I false rfl]at M
      cases b with
      | true=>rw[fg ew];exact U (B.cons (b:=some _) ht) M
      | false=>rw[fh (by rfl)];exact rU (B.cons (b:=some _) ht) M
theorem DR.list{r:Option Nat}{Y:List Nat}{P:Program}{n:Nat}{u:List Oper}{Q:Env->hU}{U:Exit->Act->hU}{e0:Env}
  (hQ:∀e a w,gh Y n e a->(∀k,k ∉ wr u->e k=e0 k)->Q e w->U .normal a w) :
  ∀(l:List Oper) (G:List (Nat×Option Bool)) (e:Env) (a:Act) (w:World),(∀o∈l,o∈u)->gh Y n e a->(∀k,k ∉ wr u->e k=e0 k)->ie G e->
   DR P n u (l.map λo=>(o,[])) Q G e w->wpListIn (FO r) 0 P u.toArray U l a w:=by
 intro l
 induction l with
 | nil=>intro G e a w _ B I _ h;exact hQ e a w B I h
 | cons o l Z=>
  intro G e a w hm B I hk h
  obtain⟨V,E⟩:=BB hk h
  obtain⟨i,hi⟩:=List.getElem?_of_mem (hm o oi)
  have W:∀x∈l,x∈u:=λx hx=>hm x (o5 _ hx)
  unfold wpListIn
  rw[Aj B]
  unfold xJ at E
  split
  .rename_i hw
   rw[fh hw]at E
   exact Ai.wp B E λv w' ⟨_,M,J,O⟩=>Z M _ _ w' W (B.put V v) (sY I hi v) J O
  .rename_i hw
   rw[fg hw]at E
   obtain⟨_,M,J,O⟩:=E
   exact⟨oW,Z M _ _ w W (B.put V undef) (sY I hi undef) J O⟩
def DR.region{r:Option Nat}{E:List Nat}{P:Program}{n:Nat}{id:Nat}{u:List Oper}{Q:Env->hU}{G:Exit->Act->hU}{e:Env}{a:Act}{w:World}
  (J:gh E n e a) (I:∀B a w,gh E n B a->(∀k,k ∉ wr u->B k=e k)->Q B w->G .normal a w)
  (h:DR P n u (u.map λo=>(o,[])) Q [] e w):(Vq id u.toArray false).wpIn (FO r) 0 P G a w:=
 wpIn_region_lit (DR.list I u [] e a w (λ_ h=>h) J (λ_ _=>rfl) (ie.nil e) h)
def FW(P:Program)(o:Oper):Bool:=(tT P o λ_=>undef).quiet
def BC(P:Program)(o:Oper):Bool:=(tT P o λ_=>undef).reads
theorem C5{P:Program}{o:Oper}(ρ ρ':Operand->Value):(tT P o ρ).quiet=(tT P o ρ').quiet/\(tT P o ρ).reads=(tT P o ρ').reads:=by
 unfold tT
 cases o.op<;>try exact⟨rfl,rfl⟩
 case binOp op t x y u=>dsimp only;split<;>exact⟨rfl,rfl⟩
 case convert s d x=>dsimp only;split<;>exact⟨rfl,rfl⟩
 case call c=>
  dsimp only
  cases c.callee with
  | value x=>cases x<;>exact⟨rfl,rfl⟩
  | invoke r nm=>grind
  | builtin b=>cases b<;>dsimp only<;>first|exact⟨rfl,rfl⟩|(split<;>exact⟨rfl,rfl⟩)
def fy(d:Nat):List Nat->Bool
 | []=>false
 | x::r=>u3 x d||fy d r
theorem tV{d:Nat}{l:List Nat}:fy d l=true↔d∈l:=by
 induction l with
 | nil=>simp[fy]
 | cons x r u=>
  simp only[fy,rL,u,oR]
  constructor
  .rintro(h|h)
   .simp_all
   grind
  .rintro(rfl|h)
   .simp_all
   grind
def HZ{d:Nat}{l:List Nat}:fy d l=false↔d ∉ l:=by
 rw[<- tV];simp
def eqO(d:Nat):Option Nat->Bool|none=>false|some k=>u3 k d
theorem Ri{d:Nat}{o:Option Nat}:eqO d o=true↔o=some d:=by
 cases o with
 | none=>simp[eqO]
 | some k=>simp_all[eqO]
def BD(u:List Oper)(x y:Oper):Bool:=match y.dst with|none=>true|some d=>!fy d (looks u x)&&!eqO d x.dst
def vy{u:List Oper}{x y:Oper}(h:BD u x y=true):∀d,y.dst=some d->d ∉ looks u x/\x.dst≠some d:=by
 intro d B
 unfold BD at h
 rw[B]at h
 simp only[nu,pw]at h
 exact⟨HZ.1 h.1,λE=>by rw[<- Ri]at E;grind⟩
def FX(u:List Oper)(x y:Oper):Bool:=BD u y x&&BD u x y
def C6{u:List Oper}{x y:Oper}(h:FX u x y=true):Mi u x y:=by
 simp only[FX,nu]at h
 exact⟨λd B=>vy h.1 d B,λd B=>(vy h.2 d B).1⟩
def vz(f:Nat->Oper->Bool):Nat->List Oper->Bool
 | _,[]=>true
 | k,o::r=>f k o&&vz f (k+1) r
theorem kh{f:Nat->Oper->Bool}{l:List Oper}:∀{k:Nat},vz f k l=true->∀i o,l[i]?=some o->f (k+i) o=true:=by
 induction l with
 | nil=>grind
 | cons x r u=>
  grind[vz]
def xe:List Nat->Nat->Nat
 | [],_=>0
 | x::_,0=>x
 | _::r,n+1=>xe r n
def Al(u:List Nat):List Nat->Nat
 | []=>0
 | p::r=>H5 (H5 (CA 1 p) (xe u p)) (Al u r)
def Am(B:List Oper)(u:List Nat):Bool:=
 vz (λj o=>(pre o).all (λp=>UI p j)&&u3 (xe u j) (Al u (pre o))) 0 B
theorem Kd{u l:List Nat}{i:Nat}(h:(Al u l).testBit i=true):∃p∈l,p=i\/(xe u p).testBit i=true:=by
 induction l with
 | nil=>simp[Al]at h
 | cons p r E=>
  have B:(((1 <<< p) ||| xe u p) ||| Al u r).testBit i=true:=h
  simp only[Pr,rL]at B
  rcases B with(B|B)|B
  .refine⟨p,ew,.inl ?_⟩
   rw[L2,KB]at B
   grind
  .grind
  grind
theorem An{u:List Oper}{B:List Nat}(h:Am u B=true):∀(n j:Nat),j<n->j<u.length->∀i,(xe B j).testBit i=true->FV u j i:=by
 intro n
 induction n with
 | zero=>omega
 | succ n J=>
  intro j O hlen i hi
  obtain⟨o,E⟩:∃o,u[j]?=some o:=⟨u[j],by simp[hlen]⟩
  have:=kh h j o E
  simp only[o6,nu,xX]at this
  obtain⟨h1,h2⟩:=this
  have h2:=I1 h2
  rw[h2]at hi
  obtain⟨p,I,G⟩:=Kd hi
  rcases G with rfl|G
  .exact .one E I
  .have M:p<j:=by simp_all
   exact .more E I (J p bP bP i G)
def bit(m i:Nat):Bool:=Nat.testBit m i
def Ao(u:List Oper)(y:Oper):Bool:=match y.dst with|none=>false|some d=>!fy d (looks u y)
theorem FY{u:List Oper}{y:Oper}(h:Ao u y=true):∃d,y.dst=some d/\d ∉ looks u y:=by
 unfold Ao at h
 cases hd:y.dst with
 | none=>grind
 | some d=>rw[hd]at h;exact⟨d,rfl,HZ.1 cR⟩
def Ml(P:Program)(u:List Oper)(B:List Nat)(m i:Nat)(ks:List Nat):Bool:=
 match u[i]? with
 | none=>false
 | some o=>
  !bit m i&&((pre o).all (λp=>bit m p) &&
  (bif FW P o then
   vz (λj y=>u3 j i||(bit m j||(fy i (pre y)||FX u o y))) 0 u
  else
   vz (λj y=>u3 j i||(bit m j||!(pre y).all λp=>bit m p)) 0 u &&
   (vz (λr y=>!bit m r||(!BC P y||(bit (xe B i) r||fy r ks))) 0 u &&
   ks.all (λr=>match u[r]? with
    | none=>false
    | some y=>Ao u y&&vz (λj z=>u3 j r||(bit (xe B r) j||BD u y z)) 0 u))))
inductive PT where
 | nil
 | stop
 | op (i:Nat) (ks:List Nat) (r:PT)
 | alt (i:Nat) (ks:List Nat) (r o:PT)
def PT.of:List (Nat×List Nat)->PT
 | []=>.nil
 | q::r=>.op q.1 q.2 (PT.of r)
def PT.ids:PT->List Nat
 | .alt i _ _ o=>i::o.ids
 | _=>[]
def PT.many:PT->Bool
 | .alt _ _ _ _=>true
 | .op _ _ r=>r.many
 | _=>false
def Uc(P:Program)(u:List Oper)(B:List Nat)(m i:Nat)(ks:List Nat):Bool:=
 match u[i]? with
 | none=>false
 | some o=>
  !bit m i&&((pre o).all (λp=>bit m p)&&(!FW P o&&(
   (vz (λr y=>!bit m r||(!BC P y||(bit (xe B i) r||fy r ks))) 0 u &&
   ks.all (λr=>match u[r]? with
    | none=>false
    | some y=>Ao u y&&vz (λj z=>u3 j r||(bit (xe B r) j||BD u y z)) 0 u)))))
def H0(P:Program)(u:List Oper)(B:List Nat):Bool->Nat->Nat->PT->Bool
 | c,f,m,.nil=>!c&&(u3 f 0&&vz (λj _=>bit m j) 0 u)
 | c,_,_,.stop=>c
 | c,f,m,.op i ks r=>!c&&(match f with|0=>false|E+1=>Ml P u B m i ks&&H0 P u B false E (H5 m (CA 1 i)) r)
 | c,f,m,.alt i ks r o=>(c||vz (λj y=>bit m j||(!(pre y).all (λp=>bit m p)||fy j (i::o.ids))) 0 u) &&
  ((match f with|0=>false|E+1=>Uc P u B m i ks&&H0 P u B false E (H5 m (CA 1 i)) r)&&H0 P u B true f m o)
def Ap(B:List Oper):List Nat:=B.foldl (λu o=>u++[Al u (pre o)]) []
def PT.run(k:Nat):Nat->PT
 | 0=>.nil
 | n+1=>.op k [] (PT.run (k+1) n)
def qC(u:List Oper)(i:Nat):Oper:=(u[i]?).getD default
def DT(P:Program)(n:Nat)(u:List Oper):PT->(Env->hU)->List (Nat×Option Bool)->Env->hU
 | .nil,Q,_,e,w=>Q e w
 | .stop,_,_,_,_=>True
 | .op i ks r,Q,B,e,w=>DS P n u (qC u i,ks.map (qC u)) (DT P n u r Q) B e w
 | .alt i ks r o,Q,B,e,w=>DS P n u (qC u i,ks.map (qC u)) (DT P n u r Q) B e w/\DT P n u o Q B e w
def DQ(P:Program)(u:List Oper):PT->(Env->hU)->Env->hU
 | .nil,Q,e,w=>Q e w
 | .stop,_,_,_=>True
 | .op i ks r,Q,e,w=>xJ P u (qC u i) (λB w'=>(w'=w\/∀r∈ks.map (qC u),oX P u r B w' True)/\DQ P u r Q B w') e w
 | .alt i ks r o,Q,e,w=>xJ P u (qC u i) (λB w'=>(w'=w\/∀r∈ks.map (qC u),oX P u r B w' True)/\DQ P u r Q B w') e w/\DQ P u o Q e w
theorem DT.plain{P:Program}{n:Nat}{B:List Oper}{Q:Env->hU}:∀(p:PT) (u:List (Nat×Option Bool)) (e:Env) (w:World),ie u e->DT P n B p Q u e w->DQ P B p Q e w:=by
 intro p
 induction p with
 | nil=>intro u e w _ h;exact h
 | stop=>intro u e w _ _;trivial
 | op i ks p I=>intro u e w E h;exact(BB E h).2.mono λv w' ⟨h1,G,h2,h3⟩=>⟨h1,I G _ _ h2 h3⟩
 | alt i ks p o I J=>intro u e w E h;exact⟨(BB E h.1).2.mono λv w' ⟨h1,G,h2,h3⟩=>⟨h1,I G _ _ h2 h3⟩,J u e w E h.2⟩
structure Tk where
 idx:Nat
 o:Oper
 b:Bool
 X:yb
 v:Value
structure ye(P:Program)(ops:List Oper)(L:Nat->Bool)(T:List Tk)(e:Env):Prop where
 op:∀x∈T,ops[x.idx]?=some x.o
 listed:∀x∈T,L x.idx=true
 kind:∀x∈T,x.X.reads=BC P x.o
 still:∀x∈T,x.X.reads=false->x.b=true->∀w,x.X.has P w x.v
 reads:∀x∈T,x.X.reads=true->(∀j z,ops[j]?=some z->j≠x.idx->FV ops x.idx j\/BD ops x.o z=true)->Ao ops x.o=true->
  tT P x.o (ev e)=x.X/\kG ops x.o e=x.b/\∃d,x.o.dst=some d/\(x.b=true->e d=x.v)
def ST(P:Program)(u:List Oper)(T:List Tk):Nat->hU:=λj w=>∀x∈T,FV u j x.idx\/(x.b=true->x.X.has P w x.v)
def H6{m i:Nat}:(λk=>bit (H5 m (CA 1 i)) k)=ja (λk=>bit m k) i:=by
 funext k
 show(m ||| 1 <<< i).testBit k=_
 rw[Pr,L2,KB]
 grind[ja,bit]
theorem ye.next{P:Program}{u:List Oper}{L:Nat->Bool}{T:List Tk}{e:Env}(h:ye P u L T e)(W:Down u L){i:Nat}{o:Oper}(ho:u[i]?=some o)(hi:L i=false)(v:Value) :
  ye P u (ja L i) T (gB e o.dst v):=by
 refine⟨h.op,λx E=>By _ _ (h.listed x E),h.kind,h.still,λx E hr V J=>?_⟩
 obtain⟨h1,h2,d,M,h3⟩:=h.reads x E hr V J
 have Z:i≠x.idx:=λO=>by have:=h.listed x E;grind
 have U:BD u x.o o=true:=by
  rcases V i o ho Z with ZH|U
  .have:L i=true:=ZH.listed W λo' VR p Y=>W x.idx o' (h.listed x E) VR p Y
   grind
  omega
 have B:=vy U
 refine⟨by rw[xI λk G=>(B k G).1];exact h1,by rw[rT λk G=>(B k G).1];exact h2,d,M,λhb=>?_⟩
 have:=h3 hb
 cases Mm:o.dst with
 | none=>exact this
 | some k=>
  have I:d≠k:=λO=>(B k Mm).2 (by rw[M,O])
  simp only[gB,kF _ _ I]
  exact this
theorem Da{P:Program}{u:List Oper}{G:List Nat}(hc:Am u G=true){f m i:Nat}{ks:List Nat}{o:Oper}{T:List Tk}{e:Env}{w:World}{Q:Env->hU}{rec:Env->hU}
  (V:u[i]?=some o) (Ue:bit m i=false) (hL:Down u (bit m)) (E:ye P u (bit m) T e)
  (sZ:∀(r:Nat) (y:Oper),u[r]?=some y->(!bit m r||(!BC P y||(bit (xe G i) r||fy r ks)))=true)
  (Db:∀r∈ks,(match u[r]? with|none=>false|some y=>Ao u y&&vz (λj z=>u3 j r||(bit (xe G r) j||BD u y z)) 0 u)=true)
  (gi:xJ P u o (λM w'=>(w'=w\/∀r∈ks.map (qC u),oX P u r M w' True)/\rec M w') e w)
  (W:∀v w',ye P u (ja (bit m) i) T (gB e o.dst v)->rec (gB e o.dst v) w'->WS P u Q (ST P u T) f (ja (bit m) i) (gB e o.dst v) w') :
  xJ P u o (λM w'=>(w'=w\/ST P u T i w')/\WS P u Q (ST P u T) f (ja (bit m) i) M w') e w:=by
 refine gi.mono λv w' hh=>?_
 obtain⟨I,tW⟩:=hh
 have Z:=E.next hL V Ue v
 refine⟨?_,?_⟩
 .rcases I with hw|I
  .grind
  refine .inr λx B=>?_
  cases LY:x.X.reads with
  | false=>exact .inr λhb=>E.still x B LY hb w'
  | true=>
   have h1:=sZ x.idx x.o (E.op x B)
   simp only[rL,pw]at h1
   rcases h1 with h1|h1|h1|h1
   .have:=E.listed x B;grind
   .have:=E.kind x B;grind
   .have LZ:i<u.length:=(j0.1 V).1
    exact .inl (An hc (i+1) i bP LZ _ h1)
   .have U:=tV.1 h1
    have h2:=Db x.idx U
    rw[E.op x B]at h2
    simp only[nu]at h2
    obtain⟨O,h2⟩:=h2
    have h2:=kh h2
    have Zi:x.idx<u.length:=(j0.1 (E.op x B)).1
    obtain⟨e1,Y,d,hd,e3⟩:=Z.reads x B LY (λk z hz Ak=>by
     have:=h2 k z hz
     simp only[o6,rL]at this
     rcases this with h3|h3|h3
     .simp_all
     .exact .inl (An hc (x.idx+1) x.idx bP Zi _ h3)
     grind) O
    refine .inr λhb=>?_
    have J:=I x.o (List.mem_map.2 ⟨x.idx,U,by simp[qC,E.op x B]⟩)
    unfold oX at J
    rw[Y,hb,e1,hd]at J
    simp only[cond_true]at J
    cases hX:x.X<;>rw[hX]at J LY<;>first|grind|cases LY|skip
    have:=J.ZD
    rw[e3 hb]at this
    exact this
 grind
theorem Rl{P:Program}{u:List Oper}{V:List Nat}{Q:Env->hU}(hc:Am u V=true) :
  ∀(p:PT) (f m:Nat) (T:List Tk) (e:Env) (w:World),
   Down u (bit m)->ye P u (bit m) T e->DQ P u p Q e w->
   (H0 P u V false f m p=true->WS P u Q (ST P u T) f (bit m) e w)/\
   (H0 P u V true f m p=true->∀j∈p.ids,∃f',f=f'+1/\FU u (bit m) j/\∀M,u[j]?=some M->xJ P u M (λY w'=>(w'=w\/ST P u T j w')/\WS P u Q (ST P u T) f' (ja (bit m) j) Y w') e w):=by
 intro p
 induction p with
 | nil=>
  intro f m T e w O hT h
  refine⟨λB=>?_,λ_ j I=>by cases I⟩
  simp only[H0,Ia,tM,nu]at B
  have qL:=kh B.2
  rw[I1 B.1]
  refine⟨λi hr=>?_,h⟩
  obtain⟨h0,o,J,_⟩:=hr
  grind
 | stop=>
  intro f m T e w O hT h
  exact⟨λB=>by simp[H0]at B,λ_ j I=>by cases I⟩
 | op i ks p ih=>
  intro f m T e w O hT h
  refine⟨λB=>?_,λ_ j I=>by cases I⟩
  simp only[H0,Ia,tM]at B
  cases f with
  | zero=>cases B
  | succ f=>
   simp only[nu]at B
   obtain⟨G,B⟩:=B
   unfold Ml at G
   cases J:u[i]? with
   | none=>rw[J]at G;cases G
   | some o=>
   rw[J]at G
   simp only[nu,pw,xX]at G
   obtain⟨Ue,VT,G⟩:=G
   have hr:FU u (bit m) i:=⟨Ue,o,J,VT⟩
   have W:qC u i=o:=by simp[qC,J]
   have U:xJ P u (qC u i) (λY w'=>(w'=w\/∀r∈ks.map (qC u),oX P u r Y w' True)/\DQ P u p Q Y w') e w:=h
   rw[W]at U
   have zT:(bit (H5 m (CA 1 i)))=ja (bit m) i:=H6
   have hL':Down u (ja (bit m) i):=O.set hr
   cases hq:FW P o with
   | true=>
    rw[hq]at G
    simp only[cond_true]at G
    have HX:=kh G
    have hqq:∀ρ,(tT P o ρ).quiet=true:=λρ=>by rw[(C5 ρ λ_=>undef).1];exact hq
    obtain⟨b,v,hb,hn,hy,tW⟩:∃b v,kG u o e=b/\(b=false->v=undef)/\(b=true->(tT P o (ev e)).has P w v)/\
      DQ P u p Q (gB e o.dst v) w:=by
     unfold xJ at U
     cases hb:kG u o e with
     | true=>
      rw[fh hb]at U
      obtain⟨v,hv,_,tW⟩:=U.has (hqq _)
      exact⟨true,v,rfl,ew,λ_=>hv,tW⟩
     | false=>
      rw[fg (by rw[hb];simp)]at U
      obtain⟨_,tW⟩:=U
      exact⟨false,undef,rfl,λ_=>rfl,ew,tW⟩
    refine WS.first (X:=tT P o (ev e)) J hn f (bit m) e w O hr ?_ rfl hb hy ?_
    .intro j M Z Rg afS W
     have:=HX j M Z
     simp only[o6,rL]at this
     rcases this with h1|h1|h1|h1
     .exact absurd (I1 h1) Rg
     .rw[afS]at h1;cases h1
     .exact absurd (tV.1 h1) W
     .exact C6 h1
    .have hT':ye P u (ja (bit m) i) (⟨i,o,b,tT P o (ev e),v⟩::T) (gB e o.dst v):=by
      have Rj:=hT.next O J Ue v
      constructor
      .intro x E;rcases oR.1 E with rfl|E
       .exact J
       .exact Rj.op x E
      .intro x E;rcases oR.1 E with rfl|E
       .exact Kb _ _
       .exact Rj.listed x E
      .intro x E;rcases oR.1 E with rfl|E
       .exact(C5 _ _).2
       .exact Rj.kind x E
      .intro x E;rcases oR.1 E with rfl|E
       .intro h1 h2 w';exact yb.J8 h1 (hy h2)
       .exact Rj.still x E
      .intro x E;rcases oR.1 E with rfl|E
       .intro h1 h2 h3
        obtain⟨d,hd,QW⟩:=FY h3
        dsimp only at hd QW |-
        have hh:∀k,o.dst=some k->k ∉ looks u o:=λk hk=>by rw[hd]at hk;cases hk;exact QW
        refine⟨xI hh,by rw[rT hh];exact hb,d,hd,λ_=>?_⟩
        rw[hd];exact jN _ _ _
       .exact Rj.reads x E
     have:=(ih f _ _ _ w (by rw[zT];exact hL') (by rw[zT];exact hT') tW).1 B
     rw[zT]at this
     refine WS.weaken (λj w' I=>?_) _ _ _ _ this
     exact⟨λx E=>I x (o5 _ E),I _ oi⟩
   | false=>
    rw[hq]at G
    simp only[cond_false,nu,xX]at G
    obtain⟨Mn,sZ,Db⟩:=G
    have Mn:=kh Mn
    have sZ:=kh sZ
    refine⟨λW=>absurd hr (W i),λj M Z I=>?_⟩
    have Rg:j=i:=by
     have:=Mn j M Z
     simp only[o6,rL,pw]at this
     rcases this with h1|h1|h1
     .simp_all
     .have:=I.1;grind
     .obtain⟨_,o',VR,qL⟩:=I
      grind
    subst Rg
    rw[J]at Z;cases Z
    refine Da hc J Ue O hT (λr y hy=>cR) Db U λv w' Rj tW=>?_
    grind
 | alt i ks p o' ih Ud=>
  intro f m T e w O hT h
  obtain⟨h1,h2⟩:xJ P u (qC u i) (λY w'=>(w'=w\/∀r∈ks.map (qC u),oX P u r Y w' True)/\DQ P u p Q Y w') e w/\DQ P u o' Q e w:=h
  have chain:∀c,H0 P u V c f m (.alt i ks p o')=true->∀j∈i::o'.ids,∃f',f=f'+1/\FU u (bit m) j/\∀M,u[j]?=some M->xJ P u M (λY w'=>(w'=w\/ST P u T j w')/\WS P u Q (ST P u T) f' (ja (bit m) j) Y w') e w:=by
   intro c B
   simp only[H0,nu]at B
   obtain⟨_,B,VU⟩:=B
   cases f with
   | zero=>cases B
   | succ f=>
    simp only[nu]at B
    obtain⟨G,B⟩:=B
    intro j I
    rcases oR.1 I with rfl|I
    .unfold Uc at G
     cases J:u[j]? with
     | none=>rw[J]at G;cases G
     | some o=>
      rw[J]at G
      simp only[nu,pw,xX]at G
      obtain⟨Ue,VT,_,sZ,Db⟩:=G
      have hr:FU u (bit m) j:=⟨Ue,o,J,VT⟩
      refine⟨f,rfl,hr,λM Z=>?_⟩
      cases Z
      have sZ:=kh sZ
      have W:qC u j=o:=by simp[qC,J]
      rw[W]at h1
      have U:=h1
      have zT:(bit (H5 m (CA 1 j)))=ja (bit m) j:=H6
      have hL':Down u (ja (bit m) j):=O.set hr
      refine Da hc J Ue O hT (λr y hy=>cR) Db U λv w' Rj tW=>?_
      grind
    .exact(Ud (f+1) m T e w O hT h2).2 VU j I
  refine⟨λB=>?_,λB=>chain true B⟩
  have hch:=chain false B
  simp only[H0,Bool.false_or,nu]at B
  have afT:=kh B.1
  obtain⟨f',rfl,ZL,_⟩:=hch i oi
  refine⟨λW=>absurd ZL (W i),λj M Z I=>?_⟩
  have Dc:j∈i::o'.ids:=by
   have:=afT j M Z
   simp only[o6,rL,pw]at this
   rcases this with h3|h3|h3
   .have:=I.1;grind
   .obtain⟨_,o2,ho2,qL⟩:=I
    grind
   .exact tV.1 h3
  obtain⟨f2,hf,_,U⟩:=hch j Dc
  simp_all
structure wF(F:(hU)->Prop)(G:hU):Prop where
 ex:∃I:hU,F I/\∀w,I w->G w
structure Mo(B:(hU)->hU)(F:(hU)->Prop):Prop where
 ex:∃I:Nat->hU,(∃m,F (I m))/\∀m w,I m w->B (λw'=>∃m',m'<m/\I m' w') w
structure eF(F:(Value->hU)->Prop)(G:Value->hU):Prop where
 ex:∃I:Value->hU,F I/\∀x0 w,I x0 w->G x0 w
structure jA(B:(Value->hU)->Value->hU)(F:(Value->hU)->Prop):Prop where
 ex:∃I:Nat->Value->hU,(∃m,F (I m))/\∀m x0 w,I m x0 w->B (λy0 w'=>∃m',m'<m/\I m' y0 w') x0 w
structure Mp(F:(Value->Value->hU)->Prop)(G:Value->Value->hU):Prop where
 ex:∃I:Value->Value->hU,F I/\∀x0 x1 w,I x0 x1 w->G x0 x1 w
structure nW(B:(Value->Value->hU)->Value->Value->hU)(F:(Value->Value->hU)->Prop):Prop where
 ex:∃I:Nat->Value->Value->hU,(∃m,F (I m))/\∀m x0 x1 w,I m x0 x1 w->B (λy0 y1 w'=>∃m',m'<m/\I m' y0 y1 w') x0 x1 w
structure ZM(F:(Value->Value->Value->hU)->Prop)(G:Value->Value->Value->hU):Prop where
 ex:∃I:Value->Value->Value->hU,F I/\∀x0 x1 x2 w,I x0 x1 x2 w->G x0 x1 x2 w
structure Uf(B:(Value->Value->Value->hU)->Value->Value->Value->hU)(F:(Value->Value->Value->hU)->Prop):Prop where
 ex:∃I:Nat->Value->Value->Value->hU,(∃m,F (I m))/\∀m x0 x1 x2 w,I m x0 x1 x2 w->B (λy0 y1 y2 w'=>∃m',m'<m/\I m' y0 y1 y2 w') x0 x1 x2 w
structure ZN(F:(Value->Value->Value->Value->hU)->Prop)(G:Value->Value->Value->Value->hU):Prop where
 ex:∃I:Value->Value->Value->Value->hU,F I/\∀x0 x1 x2 x3 w,I x0 x1 x2 x3 w->G x0 x1 x2 x3 w
structure ZO(B:(Value->Value->Value->Value->hU)->Value->Value->Value->Value->hU)(F:(Value->Value->Value->Value->hU)->Prop):Prop where
 ex:∃I:Nat->Value->Value->Value->Value->hU,(∃m,F (I m))/\∀m x0 x1 x2 x3 w,I m x0 x1 x2 x3 w->B (λy0 y1 y2 y3 w'=>∃m',m'<m/\I m' y0 y1 y2 y3 w') x0 x1 x2 x3 w
structure ZP(F:(Value->Value->Value->Value->Value->hU)->Prop)(G:Value->Value->Value->Value->Value->hU):Prop where
 ex:∃I:Value->Value->Value->Value->Value->hU,F I/\∀x0 x1 x2 x3 x4 w,I x0 x1 x2 x3 x4 w->G x0 x1 x2 x3 x4 w
structure ZQ(B:(Value->Value->Value->Value->Value->hU)->Value->Value->Value->Value->Value->hU)(F:(Value->Value->Value->Value->Value->hU)->Prop):Prop where
 ex:∃I:Nat->Value->Value->Value->Value->Value->hU,(∃m,F (I m))/\∀m x0 x1 x2 x3 x4 w,I m x0 x1 x2 x3 x4 w->B (λy0 y1 y2 y3 y4 w'=>∃m',m'<m/\I m' y0 y1 y2 y3 y4 w') x0 x1 x2 x3 x4 w
def QX(i:Nat):List (Nat×Value)->Value->Value
 | [],d=>d
 | q::r,d=>bif u3 q.1 i then q.2 else QX i r d
def zU(e:Env)(M:Nat)(u:List (Nat×Value))(dead:Env):Env:=λi=>bif bit M i then QX i u (dead i)else e i
def tX(l:List Nat)(F:(Env->hU)->Prop)(G:List (Nat×Value)->hU):Prop:=
 match l with
 | []=>wF (λK=>F λe w=>K w) (λw=>G [] w)
 | [u]=>eF (λK=>F λe w=>K (e u) w) (λE w=>G [(u,E)] w)
 | [u,B]=>Mp (λK=>F λe w=>K (e u) (e B) w) (λE J w=>G [(u,E),(B,J)] w)
 | [u,B,I]=>ZM (λK=>F λe w=>K (e u) (e B) (e I) w) (λE J M w=>G [(u,E),(B,J),(I,M)] w)
 | [u,B,I,O]=>ZN (λK=>F λe w=>K (e u) (e B) (e I) (e O) w) (λE J M U w=>G [(u,E),(B,J),(I,M),(O,U)] w)
 | [u,B,I,O,V]=>ZP (λK=>F λe w=>K (e u) (e B) (e I) (e O) (e V) w) (λE J M U W w=>G [(u,E),(B,J),(I,M),(O,U),(V,W)] w)
 | _=>False
def tY(l:List Nat)(B:(Env->hU)->List (Nat×Value)->hU)(e:Env)(w:World):Prop:=
 match l with
 | []=>Mo (λK w=>B (λu w'=>K w') [] w) (λK=>K w)
 | [E]=>jA (λK J w=>B (λu w'=>K (u E) w') [(E,J)] w) (λK=>K (e E) w)
 | [E,G]=>nW (λK J M w=>B (λu w'=>K (u E) (u G) w') [(E,J),(G,M)] w) (λK=>K (e E) (e G) w)
 | [E,G,I]=>Uf (λK J M U w=>B (λu w'=>K (u E) (u G) (u I) w') [(E,J),(G,M),(I,U)] w) (λK=>K (e E) (e G) (e I) w)
 | [E,G,I,O]=>ZO (λK J M U V w=>B (λu w'=>K (u E) (u G) (u I) (u O) w') [(E,J),(G,M),(I,U),(O,V)] w) (λK=>K (e E) (e G) (e I) (e O) w)
 | [E,G,I,O,W]=>ZQ (λK J M U V Y w=>B (λu w'=>K (u E) (u G) (u I) (u O) (u W) w') [(E,J),(G,M),(I,U),(O,V),(W,Y)] w) (λK=>K (e E) (e G) (e I) (e O) (e W) w)
 | _=>False
def gp(l:List Nat)(e:Env):List (Nat×Value):=l.map λa=>(a,e a)
def tX.spec{l:List Nat}{F:(Env->hU)->Prop}{G:List (Nat×Value)->hU}(h:tX l F G) :
  ∃I:List (Nat×Value)->hU,F (λe w=>I (gp l e) w)/\∀(e:Env) w,I (gp l e) w->G (gp l e) w:=by
 unfold tX at h
 split at h
 .obtain⟨I,h1,h2⟩:=h.ex
  exact⟨λ_ w=>I w,h1,λ_ w hi=>h2 w hi⟩
 .obtain⟨I,h1,h2⟩:=h.ex
  exact⟨λq w=>match q with|[u]=>I u.2 w|_=>False,h1,λe w hi=>h2 _ w hi⟩
 .obtain⟨I,h1,h2⟩:=h.ex
  exact⟨λq w=>match q with|[u,B]=>I u.2 B.2 w|_=>False,h1,λe w hi=>h2 _ _ w hi⟩
 .obtain⟨I,h1,h2⟩:=h.ex
  exact⟨λq w=>match q with|[u,B,E]=>I u.2 B.2 E.2 w|_=>False,h1,λe w hi=>h2 _ _ _ w hi⟩
 .obtain⟨I,h1,h2⟩:=h.ex
  exact⟨λq w=>match q with|[u,B,E,J]=>I u.2 B.2 E.2 J.2 w|_=>False,h1,λe w hi=>h2 _ _ _ _ w hi⟩
 .obtain⟨I,h1,h2⟩:=h.ex
  exact⟨λq w=>match q with|[u,B,E,J,M]=>I u.2 B.2 E.2 J.2 M.2 w|_=>False,h1,λe w hi=>h2 _ _ _ _ _ w hi⟩
 grind
def tY.spec{l:List Nat}{B:(Env->hU)->List (Nat×Value)->hU}{e:Env}{w:World}(h:tY l B e w) :
  ∃I:Nat->List (Nat×Value)->hU,(∃m,I m (gp l e) w)/\
   ∀m e w,I m (gp l e) w->B (λO w'=>∃M,M<m/\I M (gp l O) w') (gp l e) w:=by
 unfold tY at h
 split at h
 .obtain⟨I,⟨m,h1⟩,h2⟩:=h.ex
  exact⟨λm _ w=>I m w,⟨m,h1⟩,λm _ w hi=>h2 m w hi⟩
 .obtain⟨I,⟨m,h1⟩,h2⟩:=h.ex
  exact⟨λm q w=>match q with|[u]=>I m u.2 w|_=>False,⟨m,h1⟩,λm e w hi=>h2 m _ w hi⟩
 .obtain⟨I,⟨m,h1⟩,h2⟩:=h.ex
  exact⟨λm q w=>match q with|[u,E]=>I m u.2 E.2 w|_=>False,⟨m,h1⟩,λm e w hi=>h2 m _ _ w hi⟩
 .obtain⟨I,⟨m,h1⟩,h2⟩:=h.ex
  exact⟨λm q w=>match q with|[u,E,G]=>I m u.2 E.2 G.2 w|_=>False,⟨m,h1⟩,λm e w hi=>h2 m _ _ _ w hi⟩
 .obtain⟨I,⟨m,h1⟩,h2⟩:=h.ex
  exact⟨λm q w=>match q with|[u,E,G,J]=>I m u.2 E.2 G.2 J.2 w|_=>False,⟨m,h1⟩,λm e w hi=>h2 m _ _ _ _ w hi⟩
 .obtain⟨I,⟨m,h1⟩,h2⟩:=h.ex
  exact⟨λm q w=>match q with|[u,E,G,J,U]=>I m u.2 E.2 G.2 J.2 U.2 w|_=>False,⟨m,h1⟩,λm e w hi=>h2 m _ _ _ _ _ w hi⟩
 grind
def Mq(m d:Nat):Nat:=H5 m (CA 1 d)
def ZR(m d:Nat):Nat:=bif bit m d then Nat.sub m (CA 1 d)else m
def s4:List Nat->Nat
 | []=>0
 | d::r=>Mq (s4 r) d
def qM:List Operand->Nat->Nat
 | [],m=>m
 | .tmp t::r,m=>Mq (qM r m) t
 | _::r,m=>qM r m
def lkX(id:Nat):List (Nat×Nat)->Nat
 | []=>0
 | q::r=>bif u3 q.1 id then q.2 else lkX id r
def Mr:List Oper->Nat->Nat
 | [],lo=>lo
 | o::r,lo=>qM o.op.operands.toList (match o.dst with|some d=>ZR (Mr r lo) d|none=>Mr r lo)
def ZS:List Nat->Nat->Nat
 | [],m=>m
 | d::r,m=>ZS r (ZR m d)
def li(rl:Nat):Code->List (Nat×Nat)->Nat->Nat
 | .skip,_,lo=>lo
 | .ret,_,_=>rl
 | .exit id,X,_=>lkX id X
 | .region _ ops _,_,lo=>Mr ops.toList lo
 | .seq a b,X,lo=>li rl a X (li rl b X lo)
 | .cond c a b,X,lo=>qM [c] (H5 (li rl a X lo) (li rl b X lo))
 | .block id c,X,lo=>li rl c ((id,lo)::X) lo
 | .loop c,X,_=>li rl c X (li rl c X 0)
 | .rangeFunc g ps a b,X,lo=>qM [g] (H5 lo (ZS ps.toList (li rl a X (li rl b X lo))))
 | _,_,_=>0
def eo:Code->Bool
 | .seq a b=>eo a||eo b
 | .cond _ a b=>eo a||eo b
 | .block _ c=>eo c
 | .loop c=>eo c
 | .rangeFunc _ _ _ _=>true
 | _=>false
def fF:Code->Nat
 | .region _ ops _=>s4 (wr ops.toList)
 | .seq a b=>H5 (fF a) (fF b)
 | .cond _ a b=>H5 (fF a) (fF b)
 | .block _ c=>fF c
 | .loop c=>fF c
 | _=>0
def guarded:List Oper->Bool
 | []=>false
 | o::r=>o.guard.isSome||guarded r
def Rm(a b:Nat):Nat:=Nat.add a b
mutual
def Rn(id:Nat):Code->Nat
 | .exit k=>bif u3 k id then 1 else 0
 | .seq a b=>bif u3 (Ro a) 0 then Rn id a else Rm (Rn id a) (Rn id b)
 | .cond _ a b=>Rm (Rn id a) (Rn id b)
 | .block _ c=>Rn id c
 | .loop c=>Rn id c
 | .rangeFunc _ _ _ b=>Rn id b
 | _=>0
def Ro:Code->Nat
 | .skip=>1
 | .region _ ops _=>bif guarded ops.toList then 2 else 1
 | .seq a b=>bif u3 (Ro a) 0 then 0 else Ro b
 | .cond _ a b=>Rm (Ro a) (Ro b)
 | .block id c=>Rm (Ro c) (Rn id c)
 | .rangeFunc _ _ _ _=>1
 | _=>0
end
def eX(m:Nat):Nat->Nat->List Nat
 | 0,_=>[]
 | f+1,i=>bif bit m i then i::eX m f (i+1)else eX m f (i+1)
abbrev xf:=Exit->List Nat->Env->hU
def nX(K:List Nat->Env->hU)(Q:xf):xf
 | .normal,u,e,w=>K u e w
 | x,u,e,w=>Q x u e w
def Ms(id:Nat)(Q:xf):xf
 | .exit k,u,e,w=>bif u3 k id then Q .normal u e w else Q (.exit k) u e w
 | x,u,e,w=>Q x u e w
def Mt(K:Option Code->hU):xf
 | .normal,_,_,w=>K none w
 | .ret,_,_,w=>K (some .ret) w
 | .exit id,_,_,w=>K (some (.exit id)) w
 | _,_,_,_=>False
def VS(N R:Nat->hU)(X:Nat->Nat->hU):Option Code->Nat->hU
 | none=>N
 | some .ret=>R
 | some (.exit id)=>X id
 | _=>λ_ _=>False
def outs:List Nat->Code->Bool
 | l,.exit id=>!(l.any λk=>u3 k id)
 | l,.seq a b=>outs l a||outs l b
 | l,.cond _ a b=>outs l a||outs l b
 | l,.block id c=>outs (id::l) c
 | l,.loop c=>outs l c
 | _,_=>false
def yf:List Value->Nat->Value
 | [],_=>undef
 | v::_,0=>v
 | _::r,k+1=>yf r k
def Aq(args:List Value):List Nat->Nat->Env->Env
 | [],_,e=>e
 | p::r,k,e=>Aq args r (k+1) (tN e p (yf args k))
def iM(u:List Nat):Value:=.tuple (u.map fun (D:Nat)=>mf .u64 (D:Int)).toArray
def VV:Value->Nat
 | .int _ n=>n.toNat
 | _=>0
def tZ:Value->List Nat
 | .tuple vs=>vs.toList.map VV
 | _=>[]
theorem vA(u:List Nat):tZ (iM u)=u:=by
 show(u.map fun (D:Nat)=>mf .u64 (D:Int)).map VV=u
 rw[List.map_map]
 conv=>rhs;rw[<- List.map_id u]
 exact wi λD _=>by simp[VV]
structure ua(P:Program)(fv:Value)(np:Nat)(w:World)(round:List Value->World->(World->(hU)->Prop)->(Option Code->hU)->Prop)(after:Option Code->Nat->hU):Prop where
 ex:∃gf cap,fv=.func (.func gf) #[] cap/\Plain P gf/\∀L0:Loop,L0.state=.ready->L0.pending=none->
  (∀(args:List Value) (W:World) (K:Value->hU),args.length=np->W.heap[w.heap.size+1]?=some (.loop L0)->
   round args W (λw1 k=>w1.heap[w.heap.size+1]?=some (.loop L0)/\k (w1.putObj (w.heap.size+1) (.loop {L0 with state:=.busy})))
    (λj W'=>W'.heap[w.heap.size+1]?=some (.loop {L0 with state:=.busy})/\K (.bool j.isNone) (W'.putObj (w.heap.size+1) (.loop {L0 with state:=if j.isNone then .ready else .done,pending:=j})))->
   YieldAt (FO none) 0 P (w.heap.size+1) args.toArray W (oU K))->
  Calls P gf (#[.func (.yield (w.heap.size+1)) #[] #[]]++cap) ((w.alloc (.deferred (some []))).alloc (.loop L0))
   (oU λ_ W2=>∃st j,st≠.busy/\W2.heap[w.heap.size+1]?=some (.loop {L0 with state:=st,pending:=j})/\after j w.heap.size (W2.putObj (w.heap.size+1) (.loop {L0 with state:=.exhausted,pending:=j})))
abbrev dI:=Nat->PT
def Dd(pl:dI):Code->Bool
 | .region id _ true=>(pl id).many
 | .block _ c=>Dd pl c
 | .seq a b=>Dd pl a||Dd pl b
 | .cond _ a b=>Dd pl a||Dd pl b
 | _=>false
def drew(w:World):World:={w with drawn:=w.drawn+1}
def D(P:Program)(n:Nat)(pl:dI)(rl:Nat):Code->List (Nat×Nat)->Nat->xf->List Nat->Env->hU
 | .skip,_,_,Q,u,e,w=>Q .normal u e w
 | .ret,_,_,Q,u,e,w=>Q .ret u e w
 | .exit id,_,_,Q,u,e,w=>Q (.exit id) u e w
 | .region _ ops false,_,_,Q,u,e,w=>DR P n ops.toList (ops.toList.map λo=>(o,[])) (Q .normal u) [] e w
 | .region id ops true,_,_,Q,u,e,w=>
  bif ops.toList.all (yd n)&&(Am ops.toList (Ap ops.toList)&&H0 P ops.toList (Ap ops.toList) false ops.toList.length 0 (pl id))then
   DT P n ops.toList (pl id) (Q .normal u) [] e (drew w)
  else False
 | .seq a b,X,lo,Q,u,e,w=>
  bif Nl (Ro a) 1&&!Dd pl a then D P n pl rl a X (li rl b X lo) (nX (D P n pl rl b X lo Q) Q) u e w
  else bif eo a then tX (n::eX (zC (fF a) (li rl b X lo)) n 0)
   (λK=>D P n pl rl a X (li rl b X lo) (nX (λu e w=>K (tN e n (iM u)) w) Q) u e w)
   (λE w'=>∀dead,D P n pl rl b X lo Q (tZ (QX n E undef)) (zU e (fF a) E.tail dead) w')
  else tX (eX (zC (fF a) (li rl b X lo)) n 0)
   (λK=>D P n pl rl a X (li rl b X lo) (nX (λ_ e w=>K e w) Q) u e w)
   (λE w'=>∀dead,D P n pl rl b X lo Q u (zU e (fF a) E dead) w')
 | .cond c a b,X,lo,Q,u,e,w=>sJ (ev e c) (D P n pl rl a X lo Q u e w) (D P n pl rl b X lo Q u e w)
 | .block id c,X,lo,Q,u,e,w=>D P n pl rl c ((id,lo)::X) lo (Ms id Q) u e w
 | .loop c,X,_,Q,u,e,w=>
  bif eo c then tY (n::eX (zC (fF c) (li rl c X (li rl c X 0))) n 0)
   (λK E w=>∀dead,D P n pl rl c X (li rl c X (li rl c X 0)) (nX (λu e w=>K (tN e n (iM u)) w) Q) (tZ (QX n E undef)) (zU e (fF c) E.tail dead) w) (tN e n (iM u)) w
  else tY (eX (zC (fF c) (li rl c X (li rl c X 0))) n 0)
   (λK E w=>∀dead,D P n pl rl c X (li rl c X (li rl c X 0)) (nX (λ_ e w=>K e w) Q) u (zU e (fF c) E dead) w) e w
 | .rangeFunc g ps G I,_,_,Q,u,e,w=>
  bif ps.toList.all (λp=>UI p n)&&(!eo G&&!eo I)then
   ua P (ev e g) ps.toList.length w
    (λargs W B K=>D P n pl 0 G [] (li 0 I [] 0) (nX (λJ U O=>B O λM=>D P n pl 0 I [] 0 (Mt K) J U M) λ_ _ _ _=>False) [] (Aq args ps.toList 0 e) W)
    (VS (λD w=>Q .normal (D::u) e w) (λD w=>Q .ret (D::u) e w) (bif outs [] I then(λid D w=>Q (.exit id) (D::u) e w) elseλ_ _ _=>False))
  else False
 | _,_,_,_,_,_,_=>False
theorem Mu{m d i:Nat}:bit (Mq m d) i=(bit m i||decide (i=d)):=by
 show(m ||| 1 <<< d).testBit i=_
 rw[Pr,L2,KB]
 unfold bit
 grind
theorem FZ{l:List Nat}{i:Nat}:bit (s4 l) i=true↔i∈l:=by
 induction l with
 | nil=>simp[s4,bit]
 | cons d r u=>simp only[s4,Mu,rL,u,decide_eq_true_eq,oR];grind
theorem F0{l:List Nat}{e:Env}{i:Nat}:QX i (gp l e) (e i)=e i:=by
 induction l with
 | nil=>rfl
 | cons a r u=>
  show(bif u3 a i then e a else QX i (gp r e) (e i))=e i
  by_cases h:a=i
  .grind
  .rw[vx h];exact u
theorem rV{e u:Env}{M:Nat}{l:List Nat}(h:∀i,bit M i=false->u i=e i):zU e M (gp l u) u=u:=by
 funext i
 unfold zU
 cases hb:bit M i with
 | true=>simp only[cond_true];exact F0
 | false=>grind
theorem De{m:Nat}:∀(f i k:Nat),k∈eX m f i->k<i+f:=by
 intro f
 induction f with
 | zero=>intro i k h;cases h
 | succ f u=>
  grind[eX]
theorem F3{l:List Nat}{n:Nat}{v:Value}{e:Env}(h:∀k∈l,k<n):gp l (tN e n v)=gp l e:=
 wi λk u=>by rw[kF _ _ (Nat.ne_of_lt (h k u))]
theorem As{l:List Nat}{n:Nat}{u:List Nat}{e:Env}(h:∀k∈l,k<n):gp (n::l) (tN e n (iM u))=(n,iM u)::gp l e:=by
 show(n,tN e n (iM u) n)::gp l (tN e n (iM u))=_
 rw[jN,F3 h]
theorem H7{m n:Nat}:∀k∈eX m n 0,k<n:=λk u=>by have:=De n 0 k u;omega
def oY(n:Nat)(M:Nat)(b:Bool)(G:List Nat)(e:Env)(Q:xf):Exit->Act->hU:=
 λx E w'=>∃B u,gh B n u E/\(∀i,bit M i=false->u i=e i)/\(b=false->B=G)/\Q x B u w'
theorem least{p:Nat->Prop}(h:∃m,p m):∃m,p m/\∀k,p k->m<=k:=by
 obtain⟨m,B⟩:=h
 induction m using Nat.strongRecOn with
 | _ m u=>
  grind
theorem BE{n:Nat}{args:List Value}:∀(ps:List Nat) (k:Nat) (e:Env) (a:Act),(∀p∈ps,p<n)->gh [] n e a->k+ps.length<=args.length->
  gh [] n (Aq args ps k e) {a with tmps:=(ps.zip (args.drop k)).foldl (λt (q:Nat×Value)=>t.setIfInBounds q.1 q.2) a.tmps}:=by
 intro ps
 induction ps with
 | nil=>simp_all[Env,Aq]
 | cons p ps G=>
  intro k e a u I B
  have E:k<args.length:=cR
  have M:args.drop k=yf args k::args.drop (k+1):=by
   rw[List.drop_eq_getElem_cons E]
   congr 1
   clear G I B u
   induction args generalizing k with
   | nil=>simp at E
   | cons v r O=>cases k with
    | zero=>rfl
    | succ k=>exact O k cR
  rw[M]
  have h1:=I.put (d:=some p) (λk B=>by simp_all) (yf args k)
  exact G (k+1) _ _ (λq J=>u q (o5 _ J)) h1 cR
theorem Mv{P:Program}{n:Nat}{pl:dI}{g:Operand}{ps:Array Tmp}{u G:Code}
  (ihA:∀(r:Option Nat) (rl:Nat) (X:List (Nat×Nat)) (lo:Nat) (Q:xf) (E:List Nat) (e:Env) (a:Act) (w:World),
   (r=none\/eo u=false)->gh E n e a->D P n pl rl u X lo Q E e w->u.wpIn (FO r) 0 P (oY n (fF u) (eo u) E e Q) a w)
  (ihB:∀(r:Option Nat) (rl:Nat) (X:List (Nat×Nat)) (lo:Nat) (Q:xf) (E:List Nat) (e:Env) (a:Act) (w:World),
   (r=none\/eo G=false)->gh E n e a->D P n pl rl G X lo Q E e w->G.wpIn (FO r) 0 P (oY n (fF G) (eo G) E e Q) a w)
  (rl:Nat) (X:List (Nat×Nat)) (lo:Nat) (Q:xf) (E:List Nat) (e:Env) (a:Act) (w:World) (O:gh E n e a) (h:D P n pl rl (.rangeFunc g ps u G) X lo Q E e w) :
  (Code.rangeFunc g ps u G).wpIn (FO none) 0 P (oY n 0 true E e Q) a w:=by
 have h':(bif ps.toList.all (λp=>UI p n)&&(!eo u&&!eo G)then
  ua P (ev e g) ps.toList.length w
   (λargs W B K=>D P n pl 0 u [] (li 0 G [] 0) (nX (λM e1 w1=>B w1 λw2=>D P n pl 0 G [] 0 (Mt K) M e1 w2) λ_ _ _ _=>False) [] (Aq args ps.toList 0 e) W)
   (VS (λD w=>Q .normal (D::E) e w) (λD w=>Q .ret (D::E) e w) (bif outs [] G then(λid D w=>Q (.exit id) (D::E) e w) elseλ_ _ _=>False))
  else False):=h
 cases hc:(ps.toList.all (λp=>UI p n)&&(!eo u&&!eo G))with
 | false=>grind
 | true=>
  rw[hc]at h'
  simp only[cond_true]at h'
  simp only[nu,pw]at hc
  obtain⟨hps,hA,hB⟩:=hc
  have afW:∀p∈ps.toList,p<n:=λp U=>Nat.blt_eq▸xX.1 hps p U
  obtain⟨gf,cap,hfv,mI,Df⟩:=h'.ex
  refine wpIn_rangeFunc λfn _=>?_
  let L0:Loop:={state:=.ready,pending:=none,fn,tmps:=a.tmps,params:=ps,assign:=u,body:=G,defers:=w.heap.size}
  have hY:=Df L0 rfl rfl (λargs W K hlen hl yg=>?_)
  .have hC:=hY.mono (R':=rangePost (FO none) 0 P (w.heap.size+1) (oY n 0 true E e Q) {a with defers:=[{target:=.collected w.heap.size,args:=#[]}]++a.defers}) (λx w3 hx=>?_)
   .have hC1:=(sX (r:=none) (n:=0)).2 hC
    refine⟨w.heap.size+1,[{target:=.collected w.heap.size,args:=#[]}],(w.alloc (.deferred (some []))).alloc (.loop L0),
     {target:=.fn (.func gf) cap,args:=#[.func (.yield (w.heap.size+1)) #[] #[]]},(w.alloc (.deferred (some []))).alloc (.loop L0),gf,#[.func (.yield (w.heap.size+1)) #[] #[]]++cap,
     (w.alloc (.deferred (some []))).alloc (.loop L0),run_enterLoop_outer ..,?_,λ_ _=>trivial,?_,ya,?_⟩
    rotate_left 2
    .exact hC1
    .have hg:a.eval g=.func (.func gf) #[] cap:=by rw[O.eval];exact hfv
     simp only[resolve,hg]
     simp[go_sem]
    .show(callFunc gf (#[.func (.yield (w.heap.size+1)) #[] #[]]++cap)).run P _=_
     exact tS mI _ _
   ·
    obtain⟨v,rfl,st,j,gi,hl3,I⟩:=hx
    refine⟨j,_,run_endLoop hl3 bP,?_⟩
    have Z:gh (w.heap.size::E) n e {a with defers:=[{target:=.collected w.heap.size,args:=#[]}]++a.defers}:=⟨by rw[O.defers];rfl,O.size,O.get⟩
    cases j with
    | none=>exact⟨_,e,Z,λ_ _=>rfl,λY=>(by cases Y),I⟩
    | some c=>
     cases c with
     | ret=>exact wpIn_ret ⟨_,e,Z,λ_ _=>rfl,λY=>(by cases Y),I⟩
     | exit id=>
       have CW:(bif outs [] G then(λid D w=>Q (.exit id) (D::E) e w) elseλ_ _ _=>False:Nat->Nat->hU) id w.heap.size _:=I
       cases ho:outs [] G with
       | true=>rw[ho]at CW;exact wpIn_exit ⟨_,e,Z,λ_ _=>rfl,λY=>(by cases Y),CW⟩
       | false=>grind
     | _=>exact I.elim
  ·
   have kH:w.heap.size+1<W.heap.size:=(vO.1 hl).1
   refine⟨fn,_,u,G,run_yield hl bP,roundIn_of_wpIn trivial ?_⟩
   have Z:gh [] n (Aq args ps.toList 0 e) {tmps:=(ps.zip args.toArray).foldl (λt (q:Nat×Value)=>t.setIfInBounds q.1 q.2) a.tmps,defers:=[]}:=by
    have h0:gh [] n e {tmps:=a.tmps,defers:=[]}:=⟨rfl,O.size,O.get⟩
    have:=BE ps.toList 0 e _ afW h0 (by simpa using CV hlen.symm)
    have e1:(ps.zip args.toArray).foldl (λt (q:Nat×Value)=>t.setIfInBounds q.1 q.2) a.tmps=(ps.toList.zip (args.drop 0)).foldl (λt (q:Nat×Value)=>t.setIfInBounds q.1 q.2) a.tmps:=by
     rw[<- P5,Array.toList_zip];simp
    grind
   refine wpIn_mono (ihA (some (w.heap.size+1)) 0 [] _ _ [] _ _ W (.inr hA) Z yg) λx a1 w1 U=>?_
   obtain⟨M,e1,ha1,_,ZU,J⟩:=U
   cases x with
   | normal=>
    obtain⟨VW,J⟩:=J
    refine⟨_,run_beginRound VW rfl,?_⟩
    refine wpIn_mono (ihB (some (w.heap.size+1)) 0 [] _ _ M e1 a1 _ (.inr hB) ha1 J) λx a2 w2 U=>?_
    obtain⟨ds2,e2,Zj,_,_,J⟩:=U
    cases x with
    | normal=>obtain⟨V,I⟩:=J;exact⟨_,_,run_endRound none V,_,rfl,I⟩
    | ret=>obtain⟨V,I⟩:=J;exact⟨_,_,run_endRound (some .ret) V,_,rfl,I⟩
    | exit id=>obtain⟨V,I⟩:=J;exact⟨_,_,run_endRound (some (.exit id)) V,_,rfl,I⟩
    | _=>exact J.elim
   | _=>exact J.elim
theorem Rp{P:Program}{n:Nat}{pl:dI}(hm:P.follows .mixedOrders=true) :
  ∀(c:Code) (r:Option Nat) (rl:Nat) (X:List (Nat×Nat)) (lo:Nat) (Q:xf) (u:List Nat) (e:Env) (a:Act) (w:World),
   (r=none\/eo c=false)->gh u n e a->D P n pl rl c X lo Q u e w->c.wpIn (FO r) 0 P (oY n (fF c) (eo c) u e Q) a w:=by
 intro c
 induction c with
 | skip=>intro r rl X lo Q u e a w _ Y h;exact wpIn_skip ⟨u,e,Y,λ_ _=>rfl,λ_=>rfl,h⟩
 | ret=>intro r rl X lo Q u e a w _ Y h;exact wpIn_ret ⟨u,e,Y,λ_ _=>rfl,λ_=>rfl,h⟩
 | exit id=>intro r rl X lo Q u e a w _ Y h;exact wpIn_exit ⟨u,e,Y,λ_ _=>rfl,λ_=>rfl,h⟩
 | region id E draw=>
  intro r rl X lo Q u e a w _ Y h
  have hQ:∀(B:Env) (M:Act) (w':World),gh u n B M->(∀k,k ∉ wr E.toList->B k=e k)->Q .normal u B w'->oY n (fF (.region id E draw)) (eo (.region id E draw)) u e Q .normal M w':=
   λB M w' Bz Z hq=>by
    refine⟨u,B,Bz,λi hi=>Z i λDc=>?_,λ_=>rfl,hq⟩
    have h1:bit (s4 (wr E.toList)) i=true:=FZ.2 Dc
    have h2:bit (s4 (wr E.toList)) i=false:=hi
    grind
  cases draw with
  | false=>
   have:=DR.region (r:=r) (id:=id) Y hQ (show DR P n E.toList (E.toList.map λo=>(o,[])) (Q .normal u) [] e w from h)
   omega
  | true=>
   have h':(bif E.toList.all (yd n)&&(Am E.toList (Ap E.toList)&&H0 P E.toList (Ap E.toList) false E.toList.length 0 (pl id))then
    DT P n E.toList (pl id) (Q .normal u) [] e (drew w)else False):=h
   cases hc:(E.toList.all (yd n)&&(Am E.toList (Ap E.toList)&&H0 P E.toList (Ap E.toList) false E.toList.length 0 (pl id)))with
   | false=>grind
   | true=>
    rw[hc]at h'
    simp only[nu]at hc
    obtain⟨h2,h3,h4⟩:=hc
    have hd:∀d∈wr E.toList,d<n:=λd hd=>by
     obtain⟨o,ho,Mm⟩:=KQ.1 hd
     have:=xX.1 h2 o ho
     unfold yd at this
     simp_all
    have hz:(bit 0)=λ_=>false:=by funext i;simp[bit]
    have hws:=(Rl (Q:=Q .normal u) h3 (pl id) E.toList.length 0 [] e (drew w) (λi o hi=>cR) (by constructor<;>simp) (DT.plain _ _ _ _ (ie.nil e) h')).1 h4
    rw[hz]at hws
    have:=WS.region (r:=r) (id:=id) hm hd Y hQ hws
    omega
 | seq O W ih1 Ud=>
  intro r rl X lo Q u e a w hr Y h
  have Dg:r=none\/eo O=false:=hr.imp id λh=>by grind[eo]
  have BF:r=none\/eo W=false:=hr.imp id λh=>by grind[eo]
  have key:∀(K:List Nat->Env->hU),D P n pl rl O X (li rl W X lo) (nX K Q) u e w->
    (∀G B M w',gh G n B M->(∀i,bit (fF O) i=false->B i=e i)->(eo O=false->G=u)->K G B w'->W.wpIn (FO r) 0 P (oY n (fF W) (eo W) G B Q) M w')->
    (Code.seq O W).wpIn (FO r) 0 P (oY n (fF (.seq O W)) (eo (.seq O W)) u e Q) a w:=by
   intro K hK hk
   refine wpIn_seq (wpIn_mono (ih1 r rl X _ _ u e a w Dg Y hK) λx M w' hp=>?_)
   obtain⟨G,B,Bz,Z,U,hq⟩:=hp
   have hor:∀i,bit (fF (.seq O W)) i=false->bit (fF O) i=false/\bit (fF W) i=false:=λi hi=>by
    simp_all[bit,fF]
   have Zk:eo (.seq O W)=false->eo O=false/\eo W=false:=λhh=>by
    grind[eo]
   cases x with
   | normal=>
    refine wpIn_mono (hk G B M w' Bz Z U hq) λx2 a2 w2 VU=>?_
    grind[oY,fF,eo]
   | _=>exact⟨G,B,Bz,λi hi=>Z i (hor i hi).1,λhh=>U (Zk hh).1,hq⟩
  have h':(bif Nl (Ro O) 1&&!Dd pl O then D P n pl rl O X (li rl W X lo) (nX (D P n pl rl W X lo Q) Q) u e w
   else bif eo O then tX (n::eX (zC (fF O) (li rl W X lo)) n 0)
    (λK=>D P n pl rl O X (li rl W X lo) (nX (λu e w=>K (tN e n (iM u)) w) Q) u e w)
    (λbs w'=>∀dead,D P n pl rl W X lo Q (tZ (QX n bs undef)) (zU e (fF O) bs.tail dead) w')
   else tX (eX (zC (fF O) (li rl W X lo)) n 0)
    (λK=>D P n pl rl O X (li rl W X lo) (nX (λ_ e w=>K e w) Q) u e w)
    λbs w'=>∀dead,D P n pl rl W X lo Q u (zU e (fF O) bs dead) w'):=h
  cases hc:(Nl (Ro O) 1&&!Dd pl O)with
  | true=>
   grind
  | false=>
   rw[hc]at h'
   simp only[cond_false]at h'
   cases hc2:eo O with
   | false=>
    rw[hc2]at h'
    simp only[cond_false]at h'
    obtain⟨I,h1,h2⟩:=tX.spec h'
    refine key _ h1 λG B M w' Bz Z U hk=>?_
    have:=h2 B w' hk B
    rw[rV Z]at this
    grind
   | true=>
    rw[hc2]at h'
    simp only[cond_true]at h'
    obtain⟨I,h1,h2⟩:=tX.spec h'
    refine key _ h1 λG B M w' Bz Z U hk=>?_
    have:=h2 (tN B n (iM G)) w' hk B
    rw[As H7]at this
    rw[show((n,iM G)::gp (eX (zC (fF O) (li rl W X lo)) n 0) B).tail=gp (eX (zC (fF O) (li rl W X lo)) n 0) B from rfl,rV Z,
     show QX n ((n,iM G)::gp (eX (zC (fF O) (li rl W X lo)) n 0) B) undef=iM G by show(bif u3 n n then iM G else _)=_;simp_all,vA]at this
    grind
 | cond c O W ih1 Ud=>
  intro r rl X lo Q u e a w hr Y h
  obtain⟨t,ht,hA,hB⟩:=(show sJ (ev e c) (D P n pl rl O X lo Q u e w) (D P n pl rl W X lo Q u e w)from h).ex
  have hor:∀i,bit (fF (.cond c O W)) i=false->bit (fF O) i=false/\bit (fF W) i=false:=λi hi=>by
   simp_all[bit,fF]
  have Zk:eo (.cond c O W)=false->eo O=false/\eo W=false:=λhh=>by
   grind[eo]
  refine wpIn_cond_split (t:=t) (by rw[Y.eval];exact ht) (λh1=>?_) (λh1=>?_)
  .exact wpIn_mono (ih1 r rl X lo Q u e a w (hr.imp id λh=>(Zk h).1) Y (hA h1)) λx M w' ⟨G,B,Bz,Z,U,hq⟩=>⟨G,B,Bz,λi hi=>Z i (hor i hi).1,λhh=>U (Zk hh).1,hq⟩
  .exact wpIn_mono (Ud r rl X lo Q u e a w (hr.imp id λh=>(Zk h).2) Y (hB h1)) λx M w' ⟨G,B,Bz,Z,U,hq⟩=>⟨G,B,Bz,λi hi=>Z i (hor i hi).2,λhh=>U (Zk hh).2,hq⟩
 | block id c ih=>
  intro r rl X lo Q u e a w hr Y h
  refine wpIn_block (wpIn_mono (ih r rl _ _ _ u e a w hr Y h) λx M w' hp=>?_)
  obtain⟨G,B,Bz,Z,U,hq⟩:=hp
  cases x with
  | exit k=>
   simp only[Exit.inBlock]
   simp only[Ms]at hq
   by_cases hk:k=id
   .subst hk
    rw[yc]at hq
    grind[oY,fF,eo]
   .rw[vx hk]at hq
    grind[oY,fF,eo]
  | _=>exact⟨G,B,Bz,Z,U,hq⟩
 | loop c ih=>
  intro r rl X lo Q u e a w hr Y h
  have key:∀(V:List Nat->Env->List (Nat×Value)) (I:Nat->List (Nat×Value)->hU),(∃m,I m (V u e) w)->
    (∀m G B w',(∀i,bit (fF c) i=false->B i=e i)->(eo c=false->G=u)->I m (V G B) w'->D P n pl rl c X (li rl c X (li rl c X 0)) (nX (λds2 e2 w2=>∃m',m'<m/\I m' (V ds2 e2) w2) Q) G B w')->
    (Code.loop c).wpIn (FO r) 0 P (oY n (fF (.loop c)) (eo (.loop c)) u e Q) a w:=by
   intro V I ⟨m,h1⟩ h2
   let Inv:Nat->Act->hU:=λm M w'=>∃G B,gh G n B M/\(∀i,bit (fF c) i=false->B i=e i)/\(eo c=false->G=u)/\I m (V G B) w'
   have body:∀m M w',Inv m M w'->c.wpIn (FO r) 0 P (Exit.then (λa2 w2=>∃m',m'<m/\Inv m' a2 w2) (oY n (fF (.loop c)) (eo (.loop c)) u e Q)) M w':=by
    rintro m M w' ⟨G,B,Bz,Z,U,hi⟩
    refine wpIn_mono (ih r rl X _ _ G B M w' hr Bz (h2 m G B w' Z U hi)) λx a2 w2 hp=>?_
    obtain⟨ds2,e2,Zj,hf2,af0,hq⟩:=hp
    have hfe:∀i,bit (fF c) i=false->e2 i=e i:=λi hi=>(hf2 i hi).trans (Z i hi)
    have ZV:eo c=false->ds2=u:=λhh=>(af0 hh).trans (U hh)
    cases x with
    | normal=>obtain⟨m',Zh,F4⟩:=hq;exact⟨m',Zh,ds2,e2,Zj,hfe,ZV,F4⟩
    | _=>exact⟨ds2,e2,Zj,hfe,ZV,hq⟩
   classical
   let J:Act->hU:=λM w'=>∃m,Inv m M w'
   let μ:Act->World->Nat:=λM w'=>if h:∃m,Inv m M w' then Wc (least h)else 0
   have hμ:∀M w',J M w'->Inv (μ M w') M w'/\∀k,Inv k M w'->μ M w'<=k:=λM w' hj=>by
    grind
   refine wpIn_loop J μ ⟨m,u,e,Y,λ_ _=>rfl,λ_=>rfl,h1⟩ λM w' hj=>?_
   refine wpIn_mono (body _ M w' (hμ M w' hj).1) λx a2 w2 hp=>?_
   cases x with
   | normal=>
    obtain⟨m',Zh,F4⟩:=hp
    exact⟨⟨m',F4⟩,Nat.lt_of_le_of_lt ((hμ a2 w2 ⟨m',F4⟩).2 m' F4) Zh⟩
   | _=>exact hp
  have h':(bif eo c then tY (n::eX (zC (fF c) (li rl c X (li rl c X 0))) n 0)
    (λK bs w=>∀dead,D P n pl rl c X (li rl c X (li rl c X 0)) (nX (λu e w=>K (tN e n (iM u)) w) Q) (tZ (QX n bs undef)) (zU e (fF c) bs.tail dead) w) (tN e n (iM u)) w
   else tY (eX (zC (fF c) (li rl c X (li rl c X 0))) n 0)
    (λK bs w=>∀dead,D P n pl rl c X (li rl c X (li rl c X 0)) (nX (λ_ e w=>K e w) Q) u (zU e (fF c) bs dead) w) e w):=h
  cases hc:eo c with
  | false=>
   rw[hc]at h'
   simp only[cond_false]at h'
   obtain⟨I,h1,h2⟩:=tY.spec h'
   rw[show eo (.loop c)=eo c from rfl]at key
   have:=key (λ_ e=>gp (eX (zC (fF c) (li rl c X (li rl c X 0))) n 0) e) I h1 λm G B w' Z U hi=>by
    have:=h2 m B w' hi B
    rw[rV Z]at this
    grind
   exact this
  | true=>
   rw[hc]at h'
   simp only[cond_true]at h'
   obtain⟨I,h1,h2⟩:=tY.spec h'
   refine key (λu e=>gp (n::eX (zC (fF c) (li rl c X (li rl c X 0))) n 0) (tN e n (iM u))) I h1 λm G B w' Z U hi=>?_
   have:=h2 m (tN B n (iM G)) w' hi B
   rw[As H7]at this
   rw[show((n,iM G)::gp (eX (zC (fF c) (li rl c X (li rl c X 0))) n 0) B).tail=gp (eX (zC (fF c) (li rl c X (li rl c X 0))) n 0) B from rfl,rV Z,
    show QX n ((n,iM G)::gp (eX (zC (fF c) (li rl c X (li rl c X 0))) n 0) B) undef=iM G by show(bif u3 n n then iM G else _)=_;simp_all,vA]at this
   exact this
 | rangeFunc g ps asx bd ihA ihB=>
  intro r rl X lo Q u e a w hr Y h
  have L3:r=none:=hr.resolve_right (by simp[eo])
  subst L3
  exact Mv ihA ihB rl X lo Q u e a w Y h
 | _=>intro r rl X lo Q u e a w _ Y h;exact h.elim
def F5(P:Program):List ResultVar->Env->(List Value->Prop)->hU
 | [],_,K,_=>K []
 | .tmp t::r,e,K,w=>F5 P r e (λvs=>K (e t::vs)) w
 | .cell a t::r,e,K,w=>Ah P (rE t (e a)) w (λv=>F5 P r e (λvs=>K (v::vs)) w)
def Mw:List Value->Value
 | [v]=>v
 | vs=>.tuple vs.toArray
def js:List Nat->World->(hU)->Prop
 | [],w,K=>K w
 | D::r,w,K=>w.heap[D]?=some (.deferred (some []))/\js r (w.putObj D (.deferred none)) K
def F6(P:Program)(B:List ResultVar)(K:Value->hU):xf
 | .normal,u,e,w=>js u w λw=>F5 P B e (λvs=>K (Mw vs) w) w
 | .ret,u,e,w=>js u w λw=>F5 P B e (λvs=>K (Mw vs) w) w
 | _,_,_,_=>False
def xg:List Value->Env
 | [],_=>undef
 | v::_,0=>v
 | _::r,n+1=>xg r n
theorem Mx(l:List Value)(i:Nat):xg l i=l.getD i undef:=by
 induction l generalizing i with
 | nil=>simp[xg]
 | cons v r u=>cases i with
  | zero=>rfl
  | succ i=>simp[xg,u]
def Ke(tmps:Array Value):ResultVar->Sem Value
 | .tmp t=>pure (tmps.getD t undef)
 | .cell a t=>do loadVar t (<- asAddr (tmps.getD a undef))
theorem BG{P:Program}{t:TypeId}{v u:Value}{w:World}(h:(rE t v).run P w=.ok u w):(do loadVar t (<- asAddr v):Sem Value).run P w=.ok u w:=by
 cases v with
 | pointer a=>cases a with
  | none => exact absurd (show(Result.halt (.stuck "an address expected (no nilCheck in front?)") w : Result Value)=.ok u w from h) ew
  | some a=>exact h
 | _ => exact absurd (show(Result.halt (.stuck "an address expected (no nilCheck in front?)") w : Result Value)=.ok u w from h) ew
theorem My{P:Program}{I:List Nat}{n:Nat}{e:Env}{a:Act}(G:gh I n e a):∀(u:List ResultVar) (K:List Value->Prop) (w:World),F5 P u e K w->
  ∃vs,(u.mapM (Ke a.tmps)).run P w=.ok vs w/\K vs:=by
 intro u
 induction u with
 | nil=>intro K w h;exact⟨[],rfl,h⟩
 | cons r u J=>
  intro K w h
  have step:∀v,(Ke a.tmps r).run P w=.ok v w->F5 P u e (λvs=>K (v::vs)) w->∃vs,((r::u).mapM (Ke a.tmps)).run P w=.ok vs w/\K vs:=by
   intro v E B
   obtain⟨vs,h1,h2⟩:=J _ w B
   simp_all
  cases r with
  | tmp t=>exact step (e t) (by rw[<- G.get t];rfl) h
  | cell c t=>
   obtain⟨v,E,B⟩:=h.ex
   refine step v ?_ B
   show(do loadVar t (<- asAddr (a.tmps.getD c undef)):Sem Value).run P w=_
   rw[G.get c]
   exact BG E
theorem Dh{P:Program}{B:Func}{u:List ResultVar}(E:B.results=u.toArray){tmps:Array Value}{w:World}{vs:List Value}
  (h:(u.mapM (Ke tmps)).run P w=.ok vs w):(results B tmps).run P w=.ok (Mw vs) w:=by
 have e:results B tmps=(u.toArray.mapM (Ke tmps) >>= λvs=>pure (if h:vs.size=1 then vs[0]else .tuple vs)):=by
  unfold results;rw[E];rfl
 rw[e,List.mapM_toArray]
 have h1:(Functor.map (λa=>a.toArray) (u.mapM (Ke tmps))).run P w=.ok vs.toArray w:=by
  rw[<- bind_pure_comp,dC h];rfl
 rw[dC h1]
 show Result.ok _ w=Result.ok _ w
 congr 1
 match vs with
 | []=>rfl
 | [v]=>rfl
 | a::b::r=>simp[Mw]
theorem BH{P:Program}{B:Func}{tmps:Array Value}{R:Ending->hU}:∀(u:List Nat) (w:World),js u w (λw'=>∃v,(results B tmps).run P w'=.ok v w'/\R (.returned v) w')->
  LeavesInM (FO none) 0 P B tmps R (u.map mark) .returning w:=by
 intro u
 induction u with
 | nil=>intro w ⟨v,h1,h2⟩;exact⟨v,h1,h2⟩
 | cons D r E=>intro w h;exact⟨ew,.inl ⟨D,_,rfl,run_takeDeferred h.1,E _ h.2⟩⟩
theorem js.mono{u:List Nat}{K B:hU}(E:∀w,K w->B w):∀{w:World},js u w K->js u w B:=by
 induction u with
 | nil=>intro w h;exact E w h
 | cons D r G=>intro w h;exact⟨h.1,G h.2⟩
theorem yh{P:Program}{n:Nat}{pl:dI}{rl:Nat}{f:FuncId}{u:Func}{c:Code}{G:List ResultVar}{args:List Value}{w:World}{K:Value->hU}
  (Z:P.follows .mixedOrders=true) (W:P.funcs[f]?=some u) (hb:u.body=some c) (hn:u.ntmps=n) (hr:u.results=G.toArray) (hle:args.length<=n)
  (h:D P n pl rl c [] rl (F6 P G K) [] (xg args) w):Calls P f args.toArray w (oU K):=by
 refine sX.1 (callsIn_of_wp_marks (F:=FO none) (n:=0) W hb trivial ?_)
 have V:gh [] n (xg args) {tmps:=args.toArray++Array.replicate (u.ntmps-args.toArray.size) undef,defers:=[]}:=by
  refine⟨rfl,cR,λi=>?_⟩
  rw[Mx,vF,Array.getElem?_append]
  grind
 refine wpIn_mono (Rp Z c none rl [] rl _ [] _ _ w (.inl rfl) V h) λx J w' U=>?_
 obtain⟨M,O,I,_,_,E⟩:=U
 have B:js M w' (λw=>F5 P G O (λvs=>K (Mw vs) w) w)->LeavesInM (FO none) 0 P u J.tmps (oU K) J.defers .returning w':=λE=>by
  rw[I.defers]
  refine BH M w' (E.mono λY h1=>?_)
  obtain⟨vs,h1,h2⟩:=My I G _ Y h1
  exact⟨_,Dh hr h1,_,rfl,h2⟩
 cases x with
 | normal=>exact B E
 | ret=>exact B E
 | _=>exact E.elim
def okD{P:Program}{n:Nat}{pl:dI}{rl:Nat}{f:FuncId}{u:Func}{c:Code}{E:List ResultVar}{args:List Value}{w:World}{K:Value->hU}{S:Prop}
  (I:P.funcs[f]?=some u) (hb:u.body=some c) (G:u.ntmps=n) (M:u.results=E.toArray) (J:P.follows .mixedOrders=true) (B:args.length<=n)
  (e:D P n pl rl c [] rl (F6 P E K) [] (xg args) w=S) (h:S):Calls P f args.toArray w (oU K):=yh J I hb G M B (e.mpr h)
def okE{P:Program}(n:Nat)(pl:dI)(rl:Nat)(E:List ResultVar){f:FuncId}{u:Func}{args:List Value}{w:World}{K:Value->hU}{S:Prop}
  (I:P.funcs[f]?=some u) (hb:u.body=some (u.body.getD .skip)) (G:u.ntmps=n) (M:u.results=E.toArray) (J:P.follows .mixedOrders=true) (B:args.length<=n)
  (e:D P n pl rl (u.body.getD .skip) [] rl (F6 P E K) [] (xg args) w=S) (h:S):Calls P f args.toArray w (oU K):=okD I hb G M J B e h
theorem okZ{P:Program}(n:Nat)(pl:dI)(rl:Nat)(B:List ResultVar){f:FuncId}{u:Func}{args:List Value}{w:World}{K:Value->hU}{S:Prop}
  (E:P.funcs[f]?=some u) (G:P.follows .mixedOrders=true) (hc:(u.body.isSome,u.ntmps,u.results,Nl args.length n)=(true,n,B.toArray,true))
  (e:D P n pl rl (u.body.getD .skip) [] rl (F6 P B K) [] (xg args) w=S) (h:S):Calls P f args.toArray w (oU K):=by
 have h1:u.body.isSome=true:=gl (λx=>x.1) hc
 have h2:u.ntmps=n:=gl (λx=>x.2.1) hc
 have h3:u.results=B.toArray:=gl (λx=>x.2.2.1) hc
 have h4:Nl args.length n=true:=gl (λx=>x.2.2.2) hc
 have h5:u.body=some (u.body.getD .skip):=by
  cases hb:u.body with
  | none=>rw[hb]at h1;cases h1
  | some c=>rfl
 exact okD E h5 h2 h3 G (vo h4) e h
def dD{P : Program}{f : FuncId}{u : Func}(B : P.funcs[f]?=some u)(h : (u.name == "runtime.NumGoroutine", u.body.isNone)=(false, false) := by kernel_rfl) : Plain P f := ⟨u, B, gl (λx => x.1) h, gl (λx => x.2) h⟩
def vb{a b:Bool}(h:a=b):sq a=sq b:=gl _ h
def FD{p:Prop}[Decidable p](h:p):sq true=sq (decide p):=vb (fY h).symm
def QY{p:Prop}[Decidable p](h:¬ p):sq false=sq (decide p):=vb (fZ h).symm
def xh{p q:Prop}[Decidable p][Decidable q](h:p↔q):sq (decide p)=sq (decide q):=vb (ga.2 h)
end Go.Fw
namespace Go.Proofs.YtdncbeepkacgbaaGreatDoor
open Go.Fw
variable (w:World) (K:Value->hU)
abbrev i(n:Int):Value:=.int .i64 n
abbrev tt:Value:=.bool true
abbrev ff:Value:=.bool false
abbrev fA(T:Nat)(v:Value)(f:Nat)(K:Value->Prop):Prop:=dX hM (Ca T v f) K
abbrev iA(T:Nat)(v j:Value)(K:Value->Prop):Prop:=dX hM (Cw T v j) K
abbrev lA(T:Nat)(p:Value)(w:World)(K:Value->Prop):Prop:=Ah hM (rE T p) w K
abbrev sA(T:Nat)(p v:Value)(w:World)(K:hU):Prop:=LW hM (B9 T p v) w K
abbrev bA(o:BinOp)(T:Nat)(x y:Value)(K:Value->Prop):Prop:=dX hM (gX o T false false x y) K
abbrev bB(o:BinOp)(T:Nat)(x y:Value)(K:Value->Prop):Prop:=dX hM (gX o T false true x y) K
abbrev bC(o:BinOp)(T:Nat)(x y:Value)(K:Value->Prop):Prop:=dX hM (gX o T true false x y) K
abbrev cF(f:Nat)(args:List Value)(w:World)(K:Value->hU):Prop:=wD hM f args w K
abbrev nC(v:Value)(K:Value->Prop):Prop:=dX hM (J7 v) K
abbrev lN(T:Nat)(v:Value)(K:Value->Prop):Prop:=dX hM (Builtin.len_ #[T] 3 [v].toArray) K
abbrev aL(T:Nat)(w:World)(K:Value->hU):Prop:=mw hM (Jo T true (.tuple #[])) w K
abbrev xT(v:Value)(k:Nat)(K:Value->Prop):Prop:=dX hM (NB v k) K
abbrev kA(T:Nat)(p v:Value)(w:World)(R:Prop):Prop:=HU hM (rE T p) v w R
abbrev aP(T:Nat)(a b:Value)(w:World)(K:Value->hU):Prop:=mw hM (Builtin.append_ #[T,T] T [a,b].toArray) w K
abbrev bS(T n:Nat)(l:List (Nat×Value))(w:World)(K:Value->hU):Prop:=mw hM (FF T n l.toArray) w K
abbrev cV(v:Value)(a b:Prop):Prop:=sJ v a b
noncomputable abbrev PG:Program:=hM
abbrev CR(n:Nat)(a:List Value)(w:World)(K:Value->hU):Prop:=Calls hM n a.toArray w (oU K)
abbrev PL(n:Nat):Prop:=Plain hM n
theorem mixed:Tryz.prog.follows .mixedOrders=true:=by kernel_rfl
theorem lL(n:Nat)(pl:dI)(rl:Nat)(B:List ResultVar){f:FuncId}{u:Func}{args:List Value}{w:World}{K:Value->hU}{S:Prop}
  (E:PG.funcs[f]?=some u) (h:S) (hc:(u.body.isSome,u.ntmps,u.results,Nl args.length n)=(true,n,B.toArray,true):=by kernel_rfl)
  (e:D PG n pl rl (u.body.getD .skip) [] rl (F6 PG B K) [] (xg args) w=S:=by kernel_rfl):CR f args w K:=okZ n pl rl B E mixed hc e h
def Kf:List ResultVar->Nat
 | []=>0
 | .tmp t::r=>Mq (Kf r) t
 | .cell a _::r=>Mq (Kf r) a
theorem qg{f:FuncId}{u:Func}(B:Tryz.prog.funcs[f]?=some u){args:List Value}{w:World}{K:Value->hU}{pl:dI}
  (h:D hM u.ntmps pl (Kf u.results.toList) (u.body.getD .skip) [] (Kf u.results.toList) (F6 hM u.results.toList K) [] (xg args) w)
  (hc:(u.body.isSome,Nl args.length u.ntmps)=(true,true):=by kernel_rfl):Calls hM f args.toArray w (oU K):=by
 have h1:u.body.isSome=true:=gl (λx=>x.1) hc
 have h5:u.body=some (u.body.getD .skip):=by
  cases hb:u.body with
  | none=>rw[hb]at h1;cases h1
  | some c=>rfl
 exact yh mixed B h5 rfl ew (vo (gl (λx=>x.2) hc)) h
theorem eR{f:FuncId}{u:Func}(B:Tryz.prog.funcs[f]?=some u){args:List Value}{w:World}{K:Value->hU}
  (h:D hM u.ntmps (λ_=>.nil) (Kf u.results.toList) (u.body.getD .skip) [] (Kf u.results.toList) (F6 hM u.results.toList K) [] (xg args) w)
  (hc:(u.body.isSome,Nl args.length u.ntmps)=(true,true):=by kernel_rfl):Calls hM f args.toArray w (oU K):=qg B h hc
def P23:dI:=λi=>match i with
 | 6=>.run 0 51
 | _=>.nil
def P26:dI:=λi=>match i with
 | 6=>.run 0 9
 | _=>.nil
def P44:dI:=λi=>match i with
 | 6=>(.of [(0,[]),(1,[]),(2,[]),(3,[1]),(4,[1]),(5,[]),(6,[]),(7,[])])
 | 8=>(.of [(0,[]),(1,[]),(2,[]),(3,[1]),(4,[]),(5,[]),(6,[])])
 | 10=>(.of [(0,[]),(1,[]),(2,[]),(3,[1]),(4,[]),(5,[]),(6,[])])
 | 13=>(.of [(0,[]),(1,[]),(2,[]),(3,[]),(4,[]),(5,[]),(6,[]),(7,[]),(8,[1]),(9,[1]),(10,[]),(11,[]),(12,[])])
 | 15=>(.of [(0,[]),(1,[]),(2,[]),(3,[]),(4,[]),(5,[]),(6,[]),(7,[]),(8,[]),(9,[]),(10,[]),(11,[]),(12,[]),(13,[1]),(14,[1]),(15,[]),(16,[]),(17,[])])
 | 17=>(.of [(0,[]),(1,[]),(2,[]),(3,[]),(4,[]),(5,[]),(6,[]),(7,[]),(8,[]),(9,[]),(10,[]),(11,[]),(12,[1]),(13,[1]),(14,[]),(15,[]),(16,[])])
 | 21=>(.of [(0,[]),(1,[]),(2,[]),(3,[]),(4,[]),(5,[]),(6,[]),(7,[]),(8,[]),(9,[4,8]),(10,[]),(11,[])])
 | _=>.nil
def S79(B Di:Value):Prop:=
 lN 22 Di λa=>cF 136 [B,a] w λb c=>dX hM (Op.unary .not b) λd=>cV d (K (.tuple #[(i 0),(i 8)]) c) (aL 248 c λp6 e=>lN 116 B λf=>jA (λI g h=>∀_:Env,
 bA .lss 3 g f λj=>cV j (wF (λE=>iA 116 B g λk=>lA 240 k h λl=>aL 240 h λn o=>sA 240 n l o λp=>fA 240 n 0 λq=>lA 3 q p λr=>cF 149 [r] p λs t=>
 bB .eql 3 s (i 0) λu=>cV u (fA 240 n 1 λv=>lA 3 v t λx=>eF (λO=>fA 240 n 0 λy=>lA 3 y t λz=>bB .eql 3 z (i 2) λaa=>cV aa (fA 240 n 1 λab=>lA 3 ab t λac=>
 iA 22 Di ac λad=>lA 3 ad t λae=>O ae t) (O x t)) (λn9 af=>∀_:Env,
 cF 150 [p6,n9] af λ_ ag=>E ag)) (bB .eql 3 s (i 1) λah=>cV ah (fA 240 n 0 λV=>lA 3 V (drew t) λaj=>fA 248 p6 0 λak=>cF 152 [ak] (drew t) λal am=>kA 3 V aj am (
 cF 151 [aj,al] am λM ao=>xT M 0 λap=>xT M 1 λ_=>cF 150 [p6,ap] ao λ_ aq=>E aq)) (fA 248 p6 0 λar=>cF 152 [ar] t λG W=>fA 240 n 0 λav=>lA 3 av (drew W) λaw=>
 fA 248 p6 0 λax=>cF 152 [ax] (drew W) λay J=>kA 3 av aw J (cF 153 [aw,ay,G] J λZ Y=>xT Z 0 λa2=>xT Z 1 λU=>bB .neq 40 U (i 0) λa4=>cV a4 (K (.tuple #[(i 0),U]) Y) (
 cF 150 [p6,a2] Y λ_ a5=>E a5))))) (λa6=>∀_:Env,
 bB .add 3 g (i 1) λa7=>I a7 a6)) (fA 248 p6 0 λa8=>cF 152 [a8] h λa9 ba=>K (.tuple #[a9,(i 0)]) ba)) λI=>I (i 0) e)
def P79:dI:=λi=>match i with
 | 9=>(.of [(0,[]),(1,[]),(2,[]),(4,[]),(3,[1]),(5,[]),(6,[]),(7,[]),(8,[]),(9,[]),(10,[])])
 | 19=>(.of [(0,[]),(1,[]),(2,[]),(3,[1]),(4,[]),(5,[]),(6,[]),(7,[]),(8,[]),(9,[])])
 | _=>.nil
theorem VX(B u:Value)(h:S79 w K B u):CR 79 [B,u] w K:=
 lL 74 P79 48 [.tmp 4,.tmp 5] Tryz.func79 h
theorem af1:PL 26:=dD Tryz.func26
theorem af2:PL 44:=dD Tryz.func44
theorem ZW:PL 50:=dD Tryz.func50
theorem af3:PL 54:=dD Tryz.func54
theorem af4:PL 69:=dD Tryz.func69
theorem af5:PL 76:=dD Tryz.func76
theorem af6:PL 77:=dD Tryz.func77
theorem af7:PL 79:=dD Tryz.func79
variable (w:World) (K:Value->hU)
def P81:dI:=λi=>match i with
 | 5=>.run 0 9
 | _=>.nil
def S100(E:Value):Prop:=
 lN 9 E λa=>bB .gtr 3 a (i 4000) λb=>cV b (K (.tuple #[(.slice none 0 0),(i 2),(i 4000)]) w) (bS 166 0 [] w λc d=>cF 192 [E,(i 0)] d λe f=>nW (λY pL B g=>∀_:Env,
 lN 9 E λh=>bA .lss 3 B h λj=>cV j (dX hM (l1 179 [(3,B)].toArray) λk=>aL 179 g λG l=>sA 179 G k l λn=>eF (λO=>dX hM (oJ 9 E B) λo=>
 cF 193 [o] n λp q=>cV p (fA 179 G 0 λr=>sA 3 r (i 1) q λs=>jA (λW J t=>∀_:Env,
 eF (λV=>lN 9 E λu=>bA .lss 3 J u λv=>cV v (dX hM (oJ 9 E J) λx=>cF 193 [x] t λy z=>cV y (V tt z) (dX hM (oJ 9 E J) λaa=>
 cF 194 [aa] z λab ac=>V ab ac)) (V ff t)) (λad Z=>∀_:Env,
 cV ad (bB .add 3 J (i 1) λaf=>W af Z) (bA .sub 3 J B λag=>bB .gtr 3 ag (i 16) λah=>cV ah (K (.tuple #[(.slice none 0 0),(i 2),B]) Z) (O J Z)))) λW=>W B s) (
 dX hM (oJ 9 E B) λai=>cF 194 [ai] q λaj ak=>cV aj (fA 179 G 0 λal=>sA 3 al (i 2) ak λam=>jA (λU M an=>∀_:Env,
 eF (λK6=>lN 9 E λao=>bA .lss 3 M ao λap=>cV ap (dX hM (oJ 9 E M) λaq=>cF 194 [aq] an λar asx=>K6 ar asx) (K6 ff an)) (λau I=>∀_:Env,
 cV au (wF (λK7=>fA 179 G 2 λaw=>lA 3 aw I λax=>bB .leq 3 ax (i 4294967296) λay=>cV ay (fA 179 G 2 λaz=>lA 3 az (drew I) λa0=>bC .mul 3 (i 10) a0 λa1=>
 dX hM (oJ 9 E M) λa2=>bB .sub 5 a2 (.int .u8 48) λa3=>dX hM (convert 5 3 a3) λa4=>bA .add 3 a1 a4 λa5=>fA 179 G 2 λa6=>sA 3 a6 a5 (drew I) λa7=>
 K7 a7) (K7 I)) (λa8=>∀_:Env,
 bB .add 3 M (i 1) λa9=>U a9 a8)) (fA 179 G 2 λba=>lA 3 ba I λbb=>bB .gtr 3 bb (i 4294967296) λbc=>cV bc (K (.tuple #[(.slice none 0 0),(i 4),B]) I) (O M I))))
 λU=>U B am) (fA 179 G 0 λbd=>sA 3 bd (i 3) ak λbe=>cF 195 [E,B] be λbf bg=>bA .add 3 B bf λbh=>bA .eql 3 bh B λbi=>cV bi (K (.tuple #[(.slice none 0 0),(i 3),B]) bg) (
 O bh bg)))) (λUg bj=>∀_:Env,
 dX hM (mv 9 E (some B) (some Ug) none) λbk=>fA 179 G 1 λbl=>sA 9 bl bk bj λbm=>lA 179 G bm λbn=>bS 166 1 [(0,bn)] bm λbo bp=>aP 166 pL bo bp λbq br=>
 cF 192 [E,Ug] br λbs bt=>Y bq bs bt)) (K (.tuple #[pL,(i 0),(i 0)]) g)) λY=>Y c e f)
def af8:dI:=λi=>match i with
 | 17=>.run 0 11
 | _=>.nil
theorem Rq(u:Value)(h:S100 w K u):CR 100 [u] w K:=
 lL 107 af8 28 [.tmp 2,.tmp 3,.tmp 4] Tryz.func100 h
def af9:dI:=λi=>match i with
 | 1=>.run 0 17
 | _=>.nil
def aga:dI:=λi=>match i with
 | 7=>.run 0 24
 | 8=>.run 0 13
 | _=>.nil
def agb:dI:=λi=>match i with
 | 1=>.run 0 45
 | 3=>.run 0 26
 | _=>.nil
def agc:dI:=λi=>match i with
 | 8=>(.of [(0,[]),(1,[]),(2,[]),(3,[]),(4,[]),(5,[]),(6,[]),(7,[1]),(8,[]),(9,[]),(10,[])])
 | 10=>.run 0 19
 | _=>.nil
def agd:dI:=λi=>match i with
 | 1=>.run 0 18
 | _=>.nil
def age:dI:=λi=>match i with
 | 2=>.run 0 10
 | 4=>.run 0 13
 | _=>.nil
theorem agf:PL 81:=dD Tryz.func81
theorem agh:PL 84:=dD Tryz.func84
theorem ZX:PL 100:=dD Tryz.func100
theorem sK:PL 101:=dD Tryz.func101
theorem H8:PL 102:=dD Tryz.func102
theorem Uh:PL 103:=dD Tryz.func103
theorem Ui:PL 104:=dD Tryz.func104
theorem ZY:PL 105:=dD Tryz.func105
theorem H9:PL 106:=dD Tryz.func106
theorem Av:PL 117:=dD Tryz.func117
theorem ZZ:PL 136:=dD Tryz.func136
variable (w:World) (K:Value->hU)
def agi:dI:=λi=>match i with
 | 1=>.run 0 11
 | _=>.nil
def agj:dI:=λi=>match i with
 | 1=>.run 0 11
 | 4=>.run 0 10
 | _=>.nil
def agk:dI:=λi=>match i with
 | 1=>.run 0 15
 | _=>.nil
def agl:dI:=λi=>match i with
 | 1=>.run 0 13
 | 2=>.run 0 15
 | _=>.nil
def S153(u G b2:Value):Prop:=
 eF (λE=>bB .lss 3 u (i 0) λa=>cV a (E tt w) (bB .geq 3 u (i 16) λb=>E b w)) (λc d=>∀_:Env,
 cV c (K (.tuple #[(i 0),(i 1)]) d) (cF 257 [] d λe f=>dX hM (oJ 348 e u) λg=>bB .eql 165 g .nilFunc λh=>cV h (K (.tuple #[(i 0),(i 1)]) f) (eF (λB=>
 bB .eql 3 u (i 8) λj=>cV j (bB .eql 3 b2 (i 0) λk=>B k f) (bB .eql 3 u (i 9) λl=>cV l (bB .eql 3 b2 (i 0) λn=>B n f) (B ff f))) (λo p=>∀_:Env,
 cV o (K (.tuple #[(i 0),(i 12)]) p) (gJ hM g [G,b2] p λq r=>K (.tuple #[q,(i 0)]) r)))))
theorem Rr(B u b2:Value)(h:S153 w K B u b2):CR 153 [B,u,b2] w K:=
 lL 36 (λ_=>.nil) 192 [.tmp 6,.tmp 7] Tryz.func153 h
def agm:dI:=λi=>match i with
 | 3=>.run 0 14
 | _=>.nil
def P155:dI:=λi=>match i with
 | 5=>.run 0 12
 | _=>.nil
def S156(B Dl:Value):Prop:=
 lN 22 Dl λa=>cF 154 [B] w λb c=>bA .neq 3 a b λd=>cV d (K (.tuple #[(.slice none 0 0),(i 1)]) c) (cF 77 [B] c λe f=>lN 22 Dl λg=>jA (λJ h j=>∀_:Env,
 bA .lss 3 h g λk=>cV k (iA 22 Dl h λl=>lA 3 l j λn=>eF (λU=>bB .lss 3 n (i 0) λo=>cV o (U tt j) (nC B λp=>fA 207 p 4 λq=>lA 205 q j λr=>Ah hM (qs 205 r h false) j λs=>
 lN 321 s λt=>bA .gtr 3 n t λu=>U u j)) (λv x=>∀_:Env,
 cV v (K (.tuple #[(.slice none 0 0),(i 1)]) x) (nC B λy=>fA 207 y 4 λz=>lA 205 z x λaa=>Ah hM (qs 205 aa h false) x λab=>dX hM (mv 321 ab none (some n) none) λV=>
 lN 321 V λY=>jA (λE G O=>∀_:Env,
 bA .lss 3 G Y λag=>cV ag (iA 321 V G λah=>lA 324 ah O λai=>aL 324 O λM ak=>sA 324 M ai ak λal=>fA 324 M 0 λam=>lA 3 am al λZ=>fA 324 M 1 λao=>
 lA 3 ao al λap=>iA 22 e Z λW=>sA 3 W ap al λar=>bB .add 3 G (i 1) λI=>E I ar) (bB .add 3 h (i 1) λau=>J au O)) λE=>E (i 0) x))) (K (.tuple #[e,(i 0)]) j))
 λJ=>J (i 0) f)
theorem Rs(u Dl:Value)(h:S156 w K u Dl):CR 156 [u,Dl] w K:=
 lL 60 (λ_=>.nil) 48 [.tmp 4,.tmp 5] Tryz.func156 h
def agn:dI:=λi=>match i with
 | 6=>(.of [(0,[]),(1,[]),(2,[]),(3,[]),(4,[]),(5,[]),(6,[]),(7,[]),(8,[]),(9,[]),(10,[]),(11,[]),(12,[]),(13,[]),(14,[3,8,10]),(15,[3]),(16,[])])
 | _=>.nil
def ago:dI:=λi=>match i with
 | 6=>.run 0 10
 | _=>.nil
def agp:dI:=λi=>match i with
 | 5=>(.of [(0,[]),(1,[]),(2,[]),(3,[]),(4,[]),(5,[]),(6,[4]),(7,[]),(8,[]),(9,[]),(10,[])])
 | _=>.nil
theorem Z0:PL 143:=dD Tryz.func143
theorem Uj:PL 145:=dD Tryz.func145
theorem Uk:PL 147:=dD Tryz.func147
theorem Mz:PL 149:=dD Tryz.func149
theorem Ib:PL 150:=dD Tryz.func150
theorem Z1:PL 151:=dD Tryz.func151
theorem Ic:PL 152:=dD Tryz.func152
theorem Z2:PL 153:=dD Tryz.func153
theorem Ul:PL 154:=dD Tryz.func154
theorem Z3:PL 156:=dD Tryz.func156
theorem Z4:PL 157:=dD Tryz.func157
theorem Um:PL 158:=dD Tryz.func158
theorem Un:PL 159:=dD Tryz.func159
theorem Z5:PL 160:=dD Tryz.func160
theorem Ie:PL 164:=dD Tryz.func164
variable (w:World) (K:Value->hU)
def P186:dI:=λi=>match i with
 | 5=>.run 0 13
 | _=>.nil
def agq:dI:=λi=>match i with
 | 10=>.run 0 7
 | _=>.nil
def agr:dI:=λi=>match i with
 | 2=>.run 0 17
 | 6=>.run 0 12
 | 8=>.run 0 9
 | 9=>.run 0 12
 | _=>.nil
def ags:dI:=λi=>match i with
 | 5=>.run 0 8
 | 7=>.run 0 9
 | 9=>.run 0 9
 | 10=>.run 0 8
 | _=>.nil
def agt:dI:=λi=>match i with
 | 5=>.run 0 17
 | _=>.nil
def P236:dI:=λi=>match i with
 | 1=>(.of [(1,[]),(2,[]),(5,[]),(0,[2]),(3,[]),(4,[]),(6,[]),(7,[])])
 | _=>.nil
def agu:dI:=λi=>match i with
 | 1=>.run 0 11
 | _=>.nil
def S257:Prop:=
 aL 348 w λa b=>aL 348 b λB c=>iA 348 B (i 5) λd=>sA 165 d (.func (.func 313) #[] #[]) c λe=>iA 348 B (i 6) λf=>sA 165 f (.func (.func 314) #[] #[]) e λg=>
 iA 348 B (i 7) λh=>sA 165 h (.func (.func 315) #[] #[]) g λj=>iA 348 B (i 8) λk=>sA 165 k (.func (.func 316) #[] #[]) j λl=>iA 348 B (i 9) λn=>sA 165 n (.func (.func 317) #[] #[]) l λo=>
 gJ hM (.func (.func 311) #[] #[]) [(.func (.func 318) #[] #[])] o λp q=>iA 348 B (i 10) λs=>sA 165 s p q λt=>gJ hM (.func (.func 311) #[] #[]) [(.func (.func 319) #[] #[])] t λu v=>
 iA 348 B (i 11) λx=>sA 165 x u v λy=>gJ hM (.func (.func 311) #[] #[]) [(.func (.func 320) #[] #[])] y λz V=>iA 348 B (i 12) λab=>sA 165 ab z V λU=>
 gJ hM (.func (.func 311) #[] #[]) [(.func (.func 321) #[] #[])] U λI M=>iA 348 B (i 13) λaf=>sA 165 af I M λag=>gJ hM (.func (.func 311) #[] #[]) [(.func (.func 322) #[] #[])] ag λah O=>
 iA 348 B (i 14) λaj=>sA 165 aj ah O λZ=>gJ hM (.func (.func 311) #[] #[]) [(.func (.func 323) #[] #[])] Z λal W=>iA 348 B (i 15) λJ=>sA 165 J al W λG=>
 lA 348 B G λY=>sA 348 a Y G λE=>lA 348 a E λr=>K r E
theorem Rt(h:S257 w K):CR 257 [] w K:=
 lL 27 (λ_=>.nil) 1 [.cell 0 348] Tryz.func257 h
def S258(u E B:Value):Prop:=
 lN 198 u λa=>dX hM (mv 198 u (some E) (some B) (some a)) λ_=>bA .eql 3 E B λb=>cV b (K u w) (lN 198 u λc=>dX hM (mv 198 u none (some E) none) λd=>
 dX hM (mv 198 u (some B) none none) λe=>aP 198 d e (drew w) λf g=>lN 198 f λh=>dX hM (mv 198 f (some h) (some c) none) λj=>
 mw hM (Builtin.clear_ #[198] 0 [j].toArray) g λ_ k=>K f k)
def agv:dI:=λi=>match i with
 | 5=>.run 0 8
 | _=>.nil
theorem Ru(u E B:Value)(h:S258 w K u E B):CR 258 [u,E,B] w K:=
 lL 33 agv 64 [.tmp 6] Tryz.func258 h
theorem Uo:PL 192:=dD Tryz.func192
theorem Ig:PL 193:=dD Tryz.func193
theorem Ih:PL 194:=dD Tryz.func194
theorem Z6:PL 195:=dD Tryz.func195
theorem qh:PL 196:=dD Tryz.func196
theorem MA:PL 197:=dD Tryz.func197
theorem MC:PL 198:=dD Tryz.func198
theorem Z7:PL 199:=dD Tryz.func199
theorem Up:PL 200:=dD Tryz.func200
theorem Aw:PL 201:=dD Tryz.func201
theorem Z8:PL 242:=dD Tryz.func242
theorem Z9:PL 243:=dD Tryz.func243
theorem aaa:PL 244:=dD Tryz.func244
theorem Uq:PL 250:=dD Tryz.func250
theorem aab:PL 251:=dD Tryz.func251
theorem aac:PL 252:=dD Tryz.func252
theorem aad:PL 253:=dD Tryz.func253
theorem aae:PL 254:=dD Tryz.func254
theorem MD:PL 255:=dD Tryz.func255
theorem Dm:PL 256:=dD Tryz.func256
theorem aaf:PL 257:=dD Tryz.func257
theorem aag:PL 258:=dD Tryz.func258
theorem aah:PL 259:=dD Tryz.func259
theorem Ur:PL 260:=dD Tryz.func260
theorem aai:PL 261:=dD Tryz.func261
variable (w:World) (K:Value->hU)
def S285(p0 Dn U:Value):Prop:=
 nC p0 λa=>fA 368 a 0 λb=>lA 166 b (drew w) λc=>nC p0 λd=>fA 368 d 1 λe=>lA 3 e (drew w) λf=>cF 201 [c,f] (drew w) λg h=>nW (λV B J j=>∀_:Env,
 bB .leq 3 J (i 14) λk=>cV k (eF (λK2=>nC p0 λl=>fA 368 l 0 λn=>lA 166 n (drew j) λo=>nC p0 λp=>fA 368 p 1 λq=>lA 3 q (drew j) λr=>cF 335 [J] (drew j) λs t=>
 kA 166 n o t (kA 3 q r t (cF 196 [o,r,s] t λu v=>cV u (K2 J v) (K2 B v)))) (λRv x=>∀_:Env,
 bB .add 3 J (i 1) λy=>V Rv y x)) (eF (λK3=>bB .eql 3 B (i 13) λz=>cV z (bB .eql 3 U (i 0) λaa=>K3 aa j) (K3 ff j)) (λab O=>∀_:Env,
 cV ab (cF 336 [p0,(i 5)] O λ_ ad=>K (.tuple #[]) ad) (wF (λK4=>bB .neq 3 B (i 1) λae=>cV ae (nC p0 λaf=>fA 368 af 1 λag=>lA 3 ag O λah=>bB .add 3 ah (i 1) λai=>
 nC p0 λaj=>fA 368 aj 1 λak=>sA 3 ak ai O λal=>K4 al) (K4 O)) (λam=>∀_:Env,
 cF 337 [p0,B,g] am λan ao=>aL 220 ao λI aq=>sA 220 I an aq λM=>nC p0 λW=>fA 368 W 4 λau=>lA 112 au M λav=>lN 112 av λaw=>nC p0 λax=>fA 368 ax 4 λay=>
 lA 112 ay (drew M) λaz=>lA 220 I (drew M) λa0=>bS 112 1 [(0,a0)] (drew M) λa1 a2=>kA 112 ay az a2 (aP 112 az a1 a2 λa3 a4=>nC p0 λa5=>fA 368 a5 4 λa6=>
 sA 112 a6 a3 a4 λa7=>eF (λK5=>bB .neq 3 B (i 11) λa8=>cV a8 (bB .neq 3 B (i 12) λa9=>K5 a9 a7) (K5 ff a7)) (λba bb=>∀_:Env,
 cV ba (cF 286 [p0,(Go.Value.string (ia (#[59])))] bb λ_ bc=>K (.tuple #[]) bc) (eF (λK6=>bB .eql 3 B (i 12) λbd=>cV bd (bB .add 3 U (i 1) λbe=>
 K6 be bb) (K6 U bb)) (λG bf=>∀_:Env,
 bB .add 3 Dn (i 1) λbg=>cF 338 [p0,bg,G] bf λbh bi=>fA 220 I 6 λbj=>sA 3 bj bh bi λE=>wF (λK7=>eF (λY=>bB .eql 3 B (i 11) λbl=>cV bl (
 nC p0 λbm=>fA 368 bm 2 λbn=>lA 40 bn (drew E) λbo=>bB .eql 40 bo (i 0) λbp=>cV bp (nC p0 λbq=>fA 368 bq 0 λbr=>lA 166 br (drew E) λbs=>nC p0 λbt=>
 fA 368 bt 1 λbu=>lA 3 bu (drew E) λbv=>cF 196 [bs,bv,(Go.Value.string (ia (#[101,108,115,101])))] (drew E) λbw bx=>Y bw bx) (Y ff (drew E))) (Y ff (drew E)))
 (λbz Z=>∀_:Env,
 cV bz (nC p0 λb1=>fA 368 b1 1 λb2=>lA 3 b2 Z λb3=>bB .add 3 b3 (i 1) λb4=>nC p0 λb5=>fA 368 b5 1 λb6=>sA 3 b6 b4 Z λb7=>bB .add 3 Dn (i 1) λb8=>
 cF 338 [p0,b8,G] b7 λb9 ca=>fA 220 I 7 λcb=>sA 3 cb b9 ca λcc=>K7 cc) (K7 Z))) (λcd=>∀_:Env,
 nC p0 λce=>fA 368 ce 4 λcf=>lA 112 cf (drew cd) λcg=>lA 220 I (drew cd) λch=>iA 112 cg aw λci=>sA 220 ci ch (drew cd) λcj=>K (.tuple #[]) cj)))))))))) (λV=>V (i 1) (i 2) h)
def agw:dI:=λi=>match i with
 | 0=>.run 0 11
 | 4=>(.of [(0,[]),(1,[]),(2,[]),(3,[]),(4,[]),(5,[]),(6,[]),(7,[]),(8,[]),(9,[3,7]),(10,[])])
 | 12=>(.of [(0,[]),(1,[]),(2,[]),(3,[]),(4,[]),(5,[]),(6,[4]),(7,[]),(8,[]),(9,[]),(10,[])])
 | 19=>.run 0 20
 | 22=>.run 0 8
 | _=>.nil
theorem Rw(p0 u B:Value)(h:S285 w K p0 u B):CR 285 [p0,u,B] w K:=
 lL 134 agw 0 [] Tryz.func285 h
def agx:dI:=λi=>match i with
 | 0=>.run 0 17
 | _=>.nil
def S287(I i1 O E:Value):Prop:=
 aL 371 w λa b=>bB .eql 3 E (i 5) λc=>cV c (cF 339 [I,i1,O] b λd e=>sA 371 a d e λf=>lA 371 a f λr=>K r f) (bB .add 3 E (i 1) λg=>cF 287 [I,i1,O,g] b λh j=>
 aL 371 j λk l=>sA 371 k h l λn=>Mo (λK1 o=>∀_:Env,
 fA 371 k 2 λp=>lA 40 p o λq=>bB .eql 40 q (i 0) λs=>cV s (nW (λM V J t=>∀_:Env,
 cF 340 [E] t λu v=>lN 22 u λx=>bA .lss 3 J x λy=>cV y (eF (λK3=>fA 371 k 1 λz=>lA 3 z (drew v) λZ=>cF 340 [E] (drew v) λab ac=>kA 3 z Z ac (iA 22 ab J λad=>
 lA 3 ad ac λae=>cF 341 [ae] ac λaf ag=>kA 3 z Z ag (cF 196 [I,Z,af] ag λah ai=>cV ah (cF 340 [E] ai λaj ak=>iA 22 aj J λal=>lA 3 al ak λam=>K3 am ak) (
 K3 V ai)))) (λVY an=>∀_:Env,
 bB .add 3 J (i 1) λao=>M VY ao an)) (bB .eql 3 V (i 0) λap=>cV ap (lA 371 k v λaq=>sA 371 a aq v λar=>lA 371 a ar λKg=>K Kg ar) (fA 371 k 1 λasx=>
 lA 3 asx v λau=>bB .add 3 au (i 1) λav=>bB .add 3 E (i 1) λaw=>cF 287 [I,av,O,aw] v λax ay=>aL 371 ay λB az=>sA 371 B ax az λG=>fA 371 B 2 λa1=>
 lA 40 a1 G λa2=>bB .neq 40 a2 (i 0) λa3=>cV a3 (lA 371 B G λa4=>sA 371 a a4 G λa5=>lA 371 a a5 λVZ=>K VZ a5) (fA 371 k 1 λa6=>lA 3 a6 G λa7=>iA 166 I a7 λa8=>
 fA 179 a8 3 λa9=>lA 3 a9 G λba=>dX hM (l1 183 [(0,V),(3,ba)].toArray) λbb=>bS 92 1 [(0,bb)] G λbc bd=>fA 371 k 0 λbe=>lA 92 be bd λbf=>
 aP 92 bc bf bd λbg bh=>fA 371 B 0 λbi=>lA 92 bi bh λbj=>aP 92 bg bj bh λbk bl=>fA 371 B 1 λbm=>lA 3 bm bl λbn=>dX hM (l1 371 [(0,bk),(1,bn)].toArray) λbo=>
 sA 371 k bo bl λU=>bB .eql 3 E (i 2) λbq=>cV bq (lA 371 k U λbr=>sA 371 a br U λbs=>lA 371 a bs λW=>K W bs) (K1 U))))) λM=>M (i 0) (i 0) o) (
 lA 371 k o λbt=>sA 371 a bt o λbu=>lA 371 a bu λY=>K Y bu)) λK1=>K1 n)
def agy:dI:=λi=>match i with
 | 9=>(.of [(0,[]),(1,[]),(2,[]),(3,[]),(5,[]),(4,[2]),(6,[]),(7,[]),(8,[2]),(9,[])])
 | _=>.nil
theorem Rx(G B u E:Value)(h:S287 w K G B u E):CR 287 [G,B,u,E] w K:=
 lL 91 agy 256 [.cell 8 371] Tryz.func287 h
def S288(u J:Value):Prop:=
 bB .add 3 J (i 1) λa=>Uf (λB I E G b=>∀_:Env,
 iA 92 u J λc=>fA 183 c 0 λd=>lA 3 d b λe=>cF 342 [e] b λf g=>bA .lss 3 G f λh=>cV h (cF 288 [u,E] g λj k=>dX hM (Builtin.max_ #[3,3] 3 [I,j].toArray) λl=>
 cF 343 [u,E] k λn o=>bB .add 3 G (i 1) λp=>B l n p o) (bB .add 3 I (i 1) λq=>K q g)) (λB=>B (i 0) a (i 0) w)
theorem Ry(B u:Value)(h:S288 w K B u):CR 288 [B,u] w K:=
 lL 30 (λ_=>.nil) 16 [.tmp 4] Tryz.func288 h
theorem Us:PL 283:=dD Tryz.func283
theorem aan:PL 284:=dD Tryz.func284
theorem Ut:PL 285:=dD Tryz.func285
theorem sL:PL 286:=dD Tryz.func286
theorem Ij:PL 287:=dD Tryz.func287
theorem Uu:PL 288:=dD Tryz.func288
theorem aao:PL 309:=dD Tryz.func309
theorem aap:PL 310:=dD Tryz.func310
theorem Ax:PL 311:=dD Tryz.func311
theorem Ay:PL 312:=dD Tryz.func312
theorem aaq:PL 313:=dD Tryz.func313
theorem aar:PL 314:=dD Tryz.func314
theorem aas:PL 315:=dD Tryz.func315
theorem aat:PL 316:=dD Tryz.func316
theorem aau:PL 317:=dD Tryz.func317
theorem aav:PL 318:=dD Tryz.func318
theorem aaw:PL 319:=dD Tryz.func319
theorem aax:PL 320:=dD Tryz.func320
theorem aay:PL 321:=dD Tryz.func321
theorem aaz:PL 322:=dD Tryz.func322
theorem aaA:PL 323:=dD Tryz.func323
theorem aaB:PL 324:=dD Tryz.func324
variable (w:World) (K:Value->hU)
def agz:dI:=λi=>match i with
 | 2=>.run 0 10
 | 4=>.run 0 13
 | _=>.nil
def agA:dI:=λi=>match i with
 | 2=>.run 0 13
 | 5=>.run 0 17
 | _=>.nil
def S339(B E U:Value):Prop:=
 aL 371 w λa b=>lN 166 B λc=>bA .geq 3 E c λd=>cV d (cF 357 [B,E,(i 6)] b λe f=>sA 371 a e f λg=>lA 371 a g λr=>K r g) (eF (λK1=>cF 196 [B,E,(Go.Value.string (ia (#[33])))] b λh j=>
 cV h (K1 tt j) (cF 196 [B,E,(Go.Value.string (ia (#[45])))] j λk l=>K1 k l)) (λO n=>∀_:Env,
 cF 196 [B,E,(Go.Value.string (ia (#[40])))] n λo p=>eF (λY=>cV O (bB .eql 3 U (i 12) λq=>Y q p) (cV o (bB .eql 3 U (i 12) λs=>Y s p) (Y ff p)))
 (λt u=>∀_:Env,
 cV t (cF 357 [B,E,(i 7)] u λv x=>sA 371 a v x λy=>lA 371 a y λKg=>K Kg y) (cV O (bB .add 3 E (i 1) λz=>bB .add 3 U (i 1) λaa=>cF 339 [B,z,aa] u λab ac=>
 aL 371 ac λI ae=>sA 371 I ab ae λJ=>fA 371 I 2 λag=>lA 40 ag J λah=>bB .neq 40 ah (i 0) λai=>cV ai (lA 371 I J λaj=>sA 371 a aj J λak=>lA 371 a ak λVZ=>
 K VZ ak) (eF (λK3=>iA 166 B E λal=>fA 179 al 1 λam=>lA 9 am J λan=>dX hM (gX .eql 9 false true an (Go.Value.string (ia (#[45])))) λao=>
 cV ao (K3 (i 3) J) (K3 (i 4) J)) (λME ap=>∀_:Env,
 iA 166 B E λaq=>fA 179 aq 3 λar=>lA 3 ar ap λasx=>dX hM (l1 183 [(0,ME),(3,asx)].toArray) λau=>bS 92 1 [(0,au)] ap λav aw=>fA 371 I 0 λax=>
 lA 92 ax aw λay=>aP 92 av ay aw λaz a0=>fA 371 I 0 λa1=>sA 92 a1 az a0 λa2=>lA 371 I a2 λa3=>sA 371 a a3 a2 λa4=>lA 371 a a4 λr_3=>K r_3 a4))) (cV o (
 bB .add 3 E (i 1) λa5=>bB .add 3 U (i 1) λa6=>cF 287 [B,a5,a6,(i 0)] u λa7 a8=>aL 371 a8 λG ba=>sA 371 G a7 ba λM=>fA 371 G 2 λbc=>lA 40 bc M λbd=>
 bB .neq 40 bd (i 0) λbe=>cV be (lA 371 G M λbf=>sA 371 a bf M λbg=>lA 371 a bg λr_4=>K r_4 bg) (fA 371 G 1 λbh=>lA 3 bh M λbi=>cF 196 [B,bi,(Go.Value.string (ia (#[41])))] M λbj W=>
 dX hM (Op.unary .not bj) λbl=>cV bl (fA 371 G 1 λbm=>lA 3 bm W λbn=>cF 357 [B,bn,(i 5)] W λbo bp=>sA 371 a bo bp λbq=>lA 371 a bq λr_5=>K r_5 bq) (
 fA 371 G 1 λbr=>lA 3 br W λbs=>bB .add 3 bs (i 1) λbt=>fA 371 G 1 λbu=>sA 3 bu bt W λbv=>lA 371 G bv λbw=>sA 371 a bw bv λbx=>lA 371 a bx λr_6=>
 K r_6 bx))) (iA 166 B E λbz=>fA 179 bz 0 λb0=>lA 3 b0 u λb1=>bB .eql 3 b1 (i 2) λb2=>cV b2 (iA 166 B E λb3=>fA 179 b3 2 λb4=>lA 3 b4 (drew u) λb5=>
 iA 166 B E λb6=>fA 179 b6 3 λb7=>lA 3 b7 (drew u) λb8=>dX hM (l1 183 [(0,(i 1)),(1,b5),(3,b8)].toArray) λb9=>bB .add 3 E (i 1) λca=>bS 92 1 [(0,b9)] (drew u) λcb cc=>
 dX hM (l1 371 [(0,cb),(1,ca)].toArray) λcd=>sA 371 a cd cc λce=>lA 371 a ce λZ=>K Z ce) (eF (λK4=>iA 166 B E λcf=>fA 179 cf 0 λcg=>
 lA 3 cg u λch=>bB .eql 3 ch (i 1) λci=>cV ci (iA 166 B E λcj=>fA 179 cj 1 λck=>lA 9 ck u λcl=>cF 198 [cl] u λcm cn=>K4 cm cn) (K4 ff u)) (λco V=>∀_:Env,
 cV co (iA 166 B E λcq=>fA 179 cq 1 λcr=>lA 9 cr (drew V) λcs=>iA 166 B E λct=>fA 179 ct 3 λcu=>lA 3 cu (drew V) λcv=>dX hM (l1 183 [(0,(i 2)),(2,cs),(3,cv)].toArray) λcw=>
 bB .add 3 E (i 1) λcx=>bS 92 1 [(0,cw)] (drew V) λcy cz=>dX hM (l1 371 [(0,cy),(1,cx)].toArray) λc0=>sA 371 a c0 cz λc1=>lA 371 a c1 λr_8=>
 K r_8 c1) (cF 357 [B,E,(i 5)] V λc2 c3=>sA 371 a c2 c3 λc4=>lA 371 a c4 λr_9=>K r_9 c4)))))))))
def agG:dI:=λi=>match i with
 | 27=>(.of [(0,[]),(1,[]),(2,[]),(3,[]),(4,[]),(5,[]),(6,[]),(7,[]),(8,[]),(9,[]),(10,[]),(12,[]),(13,[]),(11,[]),(14,[]),(15,[])])
 | 29=>(.of [(0,[]),(1,[]),(2,[]),(3,[]),(4,[]),(5,[]),(6,[]),(7,[]),(8,[]),(9,[]),(10,[]),(12,[]),(13,[]),(11,[]),(14,[]),(15,[])])
 | _=>.nil
theorem Rz(E B u:Value)(h:S339 w K E B u):CR 339 [E,B,u] w K:=
 lL 152 agG 64 [.cell 6 371] Tryz.func339 h
def S350(E a:Value):Prop:=
 lA 198 a w λb=>lN 198 b λc=>bB .sub 3 c (i 1) λd=>jA (λB u e=>∀_:Env,
 bB .geq 3 u (i 0) λf=>cV f (lA 198 a e λg=>iA 198 g u λh=>lA 262 h e λj=>gJ hM E [u,j] e λk l=>dX hM (Op.unary .not k) λn=>cV n (
 K (.tuple #[]) l) (bB .sub 3 u (i 1) λo=>B o l)) (K (.tuple #[]) e)) (λB=>B d w)
theorem RA(B u:Value)(h:S350 w K B u):CR 350 [B,u] w K:=
 lL 19 (λ_=>.nil) 0 [] Tryz.func350 h
def agH:dI:=λi=>match i with
 | 1=>.run 0 45
 | 3=>.run 0 13
 | _=>.nil
def agI:dI:=λi=>match i with
 | 3=>.run 0 18
 | _=>.nil
def agJ:dI:=λi=>match i with
 | 1=>.run 0 31
 | 2=>.run 0 12
 | _=>.nil
def S357(G E I:Value):Prop:=
 aL 371 w λa b=>eF (λB=>lN 166 G λc=>bA .geq 3 E c λd=>cV d (B (i 6) b) (B I b)) (λu e=>∀_:Env,
 cF 201 [G,E] e λf g=>dX hM (l1 371 [(2,u),(3,f)].toArray) λh=>sA 371 a h g λj=>lA 371 a j λr=>K r j)
theorem RB(E B u:Value)(h:S357 w K E B u):CR 357 [E,B,u] w K:=
 lL 16 (λ_=>.nil) 64 [.cell 6 371] Tryz.func357 h
def S375(B u:Value):Prop:=
 bB .eql 3 B (i 3) λa=>cV a (bC .sub 3 (i 0) u λb=>K (.tuple #[b,(i 0)]) w) (bB .eql 3 B (i 4) λc=>cV c (bB .eql 3 u (i 0) λd=>cF 380 [d] w λe f=>K (.tuple #[e,(i 0)]) f) (
 K (.tuple #[(i 0),(i 1)]) w))
theorem RC(B u:Value)(h:S375 w K B u):CR 375 [B,u] w K:=
 lL 15 (λ_=>.nil) 48 [.tmp 4,.tmp 5] Tryz.func375 h
theorem aaC:PL 335:=dD Tryz.func335
theorem Az:PL 336:=dD Tryz.func336
theorem aaD:PL 337:=dD Tryz.func337
theorem Uv:PL 338:=dD Tryz.func338
theorem Uw:PL 339:=dD Tryz.func339
theorem MF:PL 340:=dD Tryz.func340
theorem aaE:PL 341:=dD Tryz.func341
theorem MG:PL 342:=dD Tryz.func342
theorem Ux:PL 343:=dD Tryz.func343
theorem aaF:PL 350:=dD Tryz.func350
theorem yi:PL 354:=dD Tryz.func354
theorem Dp:PL 355:=dD Tryz.func355
theorem aaG:PL 356:=dD Tryz.func356
theorem Ik:PL 357:=dD Tryz.func357
theorem aaH:PL 380:=dD Tryz.func380
end Go.Proofs.YtdncbeepkacgbaaGreatDoor
namespace Go.Fw
def nY(w:World)(b:Nat)(cs:List Value):Prop:=∃u,w.heap[b]?=some (.cells cs.toArray u (0,0))
def Cell(w:World)(b o:Nat)(v:Value):Prop:=w.cell? ⟨b,o,none⟩=some v
structure fD(A:Nat->Prop)(w w':World):Prop where
 os:w'.os=w.os
 tape:w'.tape=w.tape
 output:w'.output=w.output
 size:w.heap.size<=w'.heap.size
 bM:∀b,b<w.heap.size->¬ A b->w'.heap[b]?=w.heap[b]?
def bF:Nat->Prop:=λ_=>False
abbrev Ext(w w':World):Prop:=fD bF w w'
def fD.refl(A:Nat->Prop)(w:World):fD A w w:=⟨rfl,rfl,rfl,om _,λ_ _ _=>rfl⟩
def fD.trans{A B C:Nat->Prop}{w I E:World}(h:fD A w I)(k:fD B I E)(M:∀b,A b->C b)(J:∀b,b<w.heap.size->B b->C b):fD C w E:=
 ⟨k.os.trans h.os,k.tape.trans h.tape,k.output.trans h.output,x9 h.size k.size,λb hb G=>
  (k.bM b (Nat.lt_of_lt_of_le hb h.size) λu=>G (J b hb u)).trans (h.bM b hb λu=>G (M b u))⟩
def fD.then{A:Nat->Prop}{w B u:World}(h:fD A w B)(k:Ext B u):fD A w u:=h.trans k (λ_ h=>h) λ_ _ h=>h.elim
def fD.mono{A B:Nat->Prop}{w w':World}(h:fD A w w')(E:∀b,A b->B b):fD B w w':=⟨h.os,h.tape,h.output,h.size,λb hb u=>h.bM b hb λx=>u (E b x)⟩
def Ext.refl(w:World):Ext w w:=fD.refl _ _
def Ext.trans{w B u:World}(h:Ext w B)(k:Ext B u):Ext w u:=fD.then h k
def Ext.aF{A:Nat->Prop}{w w':World}(h:Ext w w'):fD A w w':=h.mono λ_ h=>h.elim
theorem Ext.drew(w:World):Ext w (drew w):=⟨rfl,rfl,rfl,om _,λ_ _ _=>rfl⟩
def fD.below{w w':World}(h:Ext w w'):Go.RowKit.Below w.heap.size w w':=⟨h.os,h.tape,h.output,h.size,λb hb=>h.bM b hb λx=>x⟩
def pM{w:World}{b:Nat}{o:Obj}(h:w.heap[b]?=some o):b<w.heap.size:=(vO.1 h).1
def nY.lt{w:World}{b:Nat}{cs:List Value}(h:nY w b cs):b<w.heap.size:=pM h.choose_spec
def Cell.lt{w:World}{b o:Nat}{v:Value}(h:Cell w b o v):b<w.heap.size:=by
 unfold Cell Nm at h
 grind
def Cell.of_eq{w w':World}{b o:Nat}{v:Value}(h:Cell w b o v)(u:w'.heap[b]?=w.heap[b]?):Cell w' b o v:=by
 unfold Cell Nm at *
 grind
def nY.of_eq{w w':World}{b:Nat}{cs:List Value}(h:nY w b cs)(u:w'.heap[b]?=w.heap[b]?):nY w' b cs:=by
 grind[nY]
def Cell.aF{A:Nat->Prop}{w w':World}{b o:Nat}{v:Value}(h:Cell w b o v)(hc:fD A w w')(u:¬ A b):Cell w' b o v:=h.of_eq (hc.bM b h.lt u)
theorem Cell.ext{w w':World}{b o:Nat}{v:Value}(h:Cell w b o v)(hc:Ext w w'):Cell w' b o v:=h.aF hc (λx=>x)
def nY.cell{w:World}{b o:Nat}{cs:List Value}{v:Value}(h:nY w b cs)(B:cs[o]?=some v):Cell w b o v:=by
 obtain⟨u,h⟩:=h
 unfold Cell Nm
 grind
def nY.frozen{w:World}{b o:Nat}{cs:List Value}(h:nY w b cs):w.frozen? ⟨b,o,none⟩=false:=by
 obtain⟨u,h⟩:=h
 unfold World.frozen?
 grind
def BI(w:World)(b o:Nat)(v:Value)(k:Nat)(h:k≠b):(w.setCell ⟨b,o,none⟩ v).heap[k]?=w.heap[k]?:=by
 simp only[UM,Jh]
 grind
def nY.setCell{w:World}{b o:Nat}{cs:List Value}(h:nY w b cs)(v:Value):nY (w.setCell ⟨b,o,none⟩ v) b (cs.set o v):=by
 obtain⟨u,h⟩:=h
 refine⟨u,?_⟩
 simp only[UM,Jh,if_true,h]
 simp
def fD.setCell(w:World)(b o:Nat)(v:Value):fD (· = b) w (w.setCell ⟨b,o,none⟩ v):=
 ⟨rfl,rfl,rfl,by simp_all,λk _ u=>BI w b o v k u⟩
def push(w:World)(o:Obj):World:={w with heap:=w.heap.push o}
def vC(w:World)(o:Obj)(k:Nat)(h:k<w.heap.size):(push w o).heap[k]?=w.heap[k]?:=by
 grind[push]
def jO(w:World)(o:Obj):(push w o).heap[w.heap.size]?=some o:=by
 grind[push]
theorem vD(w:World)(o:Obj):(push w o).heap.size=w.heap.size+1:=by simp[push]
theorem Ext.push(w:World)(o:Obj):Ext w (push w o):=⟨rfl,rfl,rfl,by rw[vD];omega,λb hb _=>vC w o b hb⟩
theorem nY.push(w:World)(cs:List Value)(u:TypeId):nY (push w (.cells cs.toArray u)) w.heap.size cs:=⟨u,jO _ _⟩
structure HP where
 p:World->(Nat->Prop)->Prop
 loc:∀w w' F,p w F->(∀b,F b->w'.heap[b]?=w.heap[b]?)->p w' F
 lt:∀w F b,p w F->F b->b<w.heap.size
def bM(b:Nat)(cs:List Value):HP where
 p w F:=nY w b cs/\∀k,F k↔k=b
 loc w w' F h hh:=⟨h.1.of_eq (hh b ((h.2 b).2 rfl)),h.2⟩
 lt w F b' h hb:=by rw[(h.2 b').1 hb];exact h.1.lt
def mX(w0:World)(A:Nat->Prop):List HP->World->(Nat->Prop)->Prop
 | [],_,U=>∀b,¬ U b
 | H::L,w,U=>∃F u,H.p w F/\(∀b,F b->A b\/w0.heap.size<=b)/\(∀b,F b->¬ u b)/\(∀b,U b↔F b\/u b)/\mX w0 A L w u
structure St(w0:World)(A:Nat->Prop)(L:List HP)(w:World):Prop where
 aF:fD A w0 w
 oD:∃U,mX w0 A L w U
theorem mX.lt{w0:World}{A:Nat->Prop}{L:List HP}{w:World}{U:Nat->Prop}(h:mX w0 A L w U):∀b,U b->b<w.heap.size:=by
 induction L generalizing U with
 | nil=>intro b hb;exact(h b hb).elim
 | cons H L u=>
  obtain⟨F,B,h1,h2,h3,h4,h5⟩:=h
  intro b hb
  rcases(h4 b).1 hb with hf|hu
  .exact H.lt _ _ _ h1 hf
  .exact u h5 b hu
theorem mX.loc{w0:World}{A:Nat->Prop}{L:List HP}{w w':World}{U:Nat->Prop}(h:mX w0 A L w U)(u:∀b,U b->w'.heap[b]?=w.heap[b]?):mX w0 A L w' U:=by
 induction L generalizing U with
 | nil=>exact h
 | cons H L E=>
  obtain⟨F,B,h1,h2,h3,h4,h5⟩:=h
  exact⟨F,B,H.loc _ _ _ h1 λb hb=>u b ((h4 b).2 (.inl hb)),h2,h3,h4,E h5 λb hb=>u b ((h4 b).2 (.inr hb))⟩
def St.start(w:World):St w bF [] w:=⟨fD.refl _ _,bF,λ_ h=>h⟩
def St.begin{w:World}{F:Nat->Prop}{H:HP}(h:H.p w F):St w F [H] w:=
 ⟨fD.refl _ _,F,F,bF,h,λ_ h=>.inl h,λ_ _ h=>h,λ_=>⟨.inl,λh=>h.elim id λh=>h.elim⟩,λ_ h=>h⟩
theorem St.ext{w0:World}{A:Nat->Prop}{L:List HP}{w w':World}(h:St w0 A L w)(e:Ext w w'):St w0 A L w':=by
 obtain⟨U,u⟩:=h.oD
 exact⟨h.aF.then e,U,u.loc λb hb=>e.bM b (u.lt b hb) λx=>x⟩
theorem St.drew{w0:World}{A:Nat->Prop}{L:List HP}{w:World}(h:St w0 A L w):St w0 A L (drew w):=h.ext (Ext.drew w)
def St.new{w0:World}{A:Nat->Prop}{L:List HP}{w w':World}{H:HP}{F:Nat->Prop}(h:St w0 A L w)(e:Ext w w')(I:H.p w' F)(G:∀b,F b->w.heap.size<=b):St w0 A (H::L) w':=by
 obtain⟨U,M⟩:=(h.ext e).oD
 obtain⟨B,u⟩:=h.oD
 have E:mX w0 A L w' B:=u.loc λb hb=>e.bM b (u.lt b hb) (λx=>x)
 refine⟨(h.ext e).aF,λb=>F b\/B b,F,B,I,λb hb=>.inr ?_,λb hb J=>?_,λb=>Iff.rfl,E⟩
 .exact x9 h.aF.size (G b hb)
 have:=u.lt b J;grind
def St.mJ{w0:World}{A:Nat->Prop}{L:List HP}{w w':World}{H H':HP}(h:St w0 A (H::L) w)
  (J:∀F,H.p w F->∃B,H'.p w' B/\(∀b,B b->F b\/w.heap.size<=b)/\fD F w w'):St w0 A (H'::L) w':=by
 obtain⟨U,F,I,h1,h2,h3,h4,h5⟩:=h.oD
 obtain⟨B,M,E,G⟩:=J F h1
 refine⟨h.aF.trans G (λ_ h=>h) λb hb u=>?_,λb=>B b\/I b,B,I,M,λb hb=>?_,λb hb O=>?_,λb=>Iff.rfl,?_⟩
 .grind
 .rcases E b hb with u|u
  .grind
  exact .inr (x9 h.aF.size u)
 .rcases E b hb with u|u
  .grind
  have:=h5.lt b O;omega
 exact h5.loc λb hb=>G.bM b (h5.lt b hb) λu=>h3 b u hb
def St.drop{w0:World}{A:Nat->Prop}{L:List HP}{w:World}{H:HP}(h:St w0 A (H::L) w):St w0 A L w:=by
 obtain⟨U,F,u,h1,h2,h3,h4,h5⟩:=h.oD
 exact⟨h.aF,u,h5⟩
def St.swap{w0:World}{A:Nat->Prop}{L:List HP}{w:World}{H H':HP}(h:St w0 A (H::H'::L) w):St w0 A (H'::H::L) w:=by
 obtain⟨U,F,M,h1,h2,h3,h4,B,u,I,E,J,O,G⟩:=h.oD
 refine⟨h.aF,U,B,λb=>F b\/u b,I,E,λb hb=>?_,λb=>?_,F,u,h1,h2,λb hb V=>?_,λb=>Iff.rfl,G⟩
 .grind
 .grind
 grind
def mX.swap{w0:World}{A:Nat->Prop}{L:List HP}{w:World}{H H':HP}{U:Nat->Prop}(h:mX w0 A (H::H'::L) w U):mX w0 A (H'::H::L) w U:=by
 obtain⟨F,M,h1,h2,h3,h4,B,u,I,E,J,O,G⟩:=h
 refine⟨B,λb=>F b\/u b,I,E,λb hb=>?_,λb=>?_,F,u,h1,h2,λb hb V=>?_,λb=>Iff.rfl,G⟩
 .grind
 .grind
 grind
def mX.under{w0:World}{A:Nat->Prop}{L L':List HP}{w:World}{H:HP}{U:Nat->Prop}(u:∀U,mX w0 A L w U->mX w0 A L' w U)(h:mX w0 A (H::L) w U):mX w0 A (H::L') w U:=by
 grind[mX]
theorem mX.pull{w0:World}{A:Nat->Prop}{u B:List HP}{w:World}{H:HP}{U:Nat->Prop}(h:mX w0 A (u++H::B) w U):mX w0 A (H::(u++B)) w U:=by
 induction u generalizing U with
 | nil=>exact h
 | cons X u E=>exact mX.swap (mX.under (λU h=>E h) h)
def St.pull{w0:World}{A:Nat->Prop}{w:World}(u:List HP){H:HP}{B:List HP}(h:St w0 A (u++H::B) w):St w0 A (H::(u++B)) w:=by
 obtain⟨U,E⟩:=h.oD
 exact⟨h.aF,U,E.pull⟩
def St.p1{w0:World}{A:Nat->Prop}{w:World}{u H:HP}{R:List HP}(h:St w0 A (u::H::R) w):St w0 A (H::u::R) w:=St.pull [u] h
def St.p2{w0:World}{A:Nat->Prop}{w:World}{B u H:HP}{R:List HP}(h:St w0 A (B::u::H::R) w):St w0 A (H::B::u::R) w:=St.pull [B,u] h
def St.p3{w0:World}{A:Nat->Prop}{w:World}{u E B H:HP}{R:List HP}(h:St w0 A (u::E::B::H::R) w):St w0 A (H::u::E::B::R) w:=St.pull [u,E,B] h
def St.p4{w0:World}{A:Nat->Prop}{w:World}{B u E P3 H:HP}{R:List HP}(h:St w0 A (B::u::E::P3::H::R) w):St w0 A (H::B::u::E::P3::R) w:=St.pull [B,u,E,P3] h
def St.p5{w0:World}{A:Nat->Prop}{w:World}{E u G P3 B H:HP}{R:List HP}(h:St w0 A (E::u::G::P3::B::H::R) w):St w0 A (H::E::u::G::P3::B::R) w:=St.pull [E,u,G,P3,B] h
def St.p6{w0:World}{A:Nat->Prop}{w:World}{E u G P3 B I H:HP}{R:List HP}(h:St w0 A (E::u::G::P3::B::I::H::R) w):St w0 A (H::E::u::G::P3::B::I::R) w:=St.pull [E,u,G,P3,B,I] h
def St.p7{w0:World}{A:Nat->Prop}{w:World}{G u I P3 E J B H:HP}{R:List HP}(h:St w0 A (G::u::I::P3::E::J::B::H::R) w):St w0 A (H::G::u::I::P3::E::J::B::R) w:=St.pull [G,u,I,P3,E,J,B] h
def St.p8{w0:World}{A:Nat->Prop}{w:World}{I u J P3 G M E B H:HP}{R:List HP}(h:St w0 A (I::u::J::P3::G::M::E::B::H::R) w):St w0 A (H::I::u::J::P3::G::M::E::B::R) w:=St.pull [I,u,J,P3,G,M,E,B] h
def St.p9{w0:World}{A:Nat->Prop}{w:World}{I u M P3 G O E B J H:HP}{R:List HP}(h:St w0 A (I::u::M::P3::G::O::E::B::J::H::R) w):St w0 A (H::I::u::M::P3::G::O::E::B::J::R) w:=St.pull [I,u,M,P3,G,O,E,B,J] h
def St.p10{w0:World}{A:Nat->Prop}{w:World}{I u M P3 G O E B J U H:HP}{R:List HP}(h:St w0 A (I::u::M::P3::G::O::E::B::J::U::H::R) w):St w0 A (H::I::u::M::P3::G::O::E::B::J::U::R) w:=St.pull [I,u,M,P3,G,O,E,B,J,U] h
def St.p11{w0:World}{A:Nat->Prop}{w:World}{I u M P3 G O E B J U RD H:HP}{R:List HP}(h:St w0 A (I::u::M::P3::G::O::E::B::J::U::RD::H::R) w):St w0 A (H::I::u::M::P3::G::O::E::B::J::U::RD::R) w:=St.pull [I,u,M,P3,G,O,E,B,J,U,RD] h
def St.p12{w0:World}{A:Nat->Prop}{w:World}{I V M P3 G O E B J U RD u H:HP}{R:List HP}(h:St w0 A (I::V::M::P3::G::O::E::B::J::U::RD::u::H::R) w):St w0 A (H::I::V::M::P3::G::O::E::B::J::U::RD::u::R) w:=St.pull [I,V,M,P3,G,O,E,B,J,U,RD,u] h
def St.p0{w0:World}{A:Nat->Prop}{w:World}{L:List HP}(h:St w0 A L w):St w0 A L w:=h
def St.head{w0:World}{A:Nat->Prop}{L:List HP}{w:World}{H:HP}(h:St w0 A (H::L) w):∃F,H.p w F/\∀b,F b->A b\/w0.heap.size<=b:=by
 obtain⟨U,F,u,h1,h2,_⟩:=h.oD;grind
theorem St.hb{w0:World}{A:Nat->Prop}{L:List HP}{w:World}{b:Nat}{cs:List Value}(h:St w0 A (bM b cs::L) w):nY w b cs:=by
 obtain⟨F,h1,_⟩:=h.head;exact h1.1
def qD:Value->Bool
 | .agg _=>false
 | .tuple _=>false
 | _=>true
def cH(P:Program)(T:TypeId):Option (Bool×Nat):=
 match P.underlying T with
 | some d=>(P.info? T).map λi=>(match d with|.struct _|.array _ _=>true|_=>false,i.size)
 | none=>none
def aN(P:Program)(T f:Nat):Option (Nat×Option Bool):=
 match P.underlying T with
 | some (.struct B)=>(B[f]?).map λu=>(u.offset,(P.info? u.type).map λi=>i.size != 0)
 | _=>none
def dV(P:Program)(T:TypeId):Option (TypeId×Nat×Nat×Option Nat):=
 match P.underlying T with
 | some (.slice E)=>(P.info? E).map λi=>(E,i.size,i.bytes,i.zero.map λz=>z.cells.size)
 | _=>none
def dA(P:Program)(T:TypeId):Option (Option Value):=(P.info? T).map λi=>i.zero
abbrev MH(P:Program)(T:TypeId):Prop:=cH P T=some (false,1)
abbrev RE(P:Program)(T:TypeId)(n:Nat):Prop:=cH P T=some (true,n)
abbrev vE(P:Program)(T f u:Nat):Prop:=aN P T f=some (u,some true)
abbrev QZ(P:Program)(T E n bytes:Nat):Prop:=dV P T=some (E,n,bytes,some n)
abbrev ki(P:Program)(T:TypeId)(z:Value):Prop:=dA P T=some (some z)
theorem jd{P:Program}{T:TypeId}{i:TypeInfo}(h:P.info? T=some i):pr P (typeInfo T)=some i:=by
 show pr P (match P.info? T with|some i => pure i|none => stuck "no such type")=_
 rw[h];rfl
theorem bR{P:Program}{T:TypeId}{d:TypeDesc}(h:P.underlying T=some d):pr P (underlying T)=some d:=by
 show pr P (match P.underlying T with|some d => pure d|none => stuck "no such type")=_
 rw[h];rfl
theorem kj{P:Program}{T:TypeId}{i:TypeInfo}(h:P.info? T=some i):pr P (sizeOf T)=some i.size:=by
 unfold sizeOf;rw[bT,jd h];rfl
theorem ub{P:Program}{α β:Type}(m:Sem α)(f:α->β):pr P (do pure (f (<- m)))=(pr P m).map f:=by
 rw[bT];cases pr P m<;>rfl
theorem iH{P:Program}{T:TypeId}{a:Bool}{n:Nat}(h:cH P T=some (a,n)):pr P (isAgg T)=some a/\pr P (sizeOf T)=some n:=by
 unfold cH at h
 cases hd:P.underlying T with
 | none=>grind
 | some d=>
  rw[hd]at h
  cases hi:P.info? T with
  | none=>grind
  | some i=>
   rw[hi]at h
   simp only[wG,nM.injEq,UJ.injEq]at h
   obtain⟨h1,h2⟩:=h
   refine⟨?_,by rw[kj hi,h2]⟩
   unfold isAgg
   rw[bT,bR hd]
   show pr P (match d with|.struct _|.array _ _=>pure true|_=>pure false)=_
   rw[<- h1]
   cases d<;>rfl
theorem eu{P:Program}{T E n u:Nat}{z:Option Nat}(h:dV P T=some (E,n,u,z)) :
  P.underlying T=some (.slice E)/\∃i,P.info? E=some i/\i.size=n/\i.bytes=u/\i.zero.map (λz=>z.cells.size)=z:=by
 unfold dV at h
 split at h
 .rename_i E' hE
  cases hi:P.info? E' with
  | none=>grind
  | some i=>
   grind
 cases h
section
variable {P:Program}{w:World}
theorem pop{m:Sem Value}{v:Value}{K:Value->Prop}(h:pr P m=some v)(k:K v):dX P m K:=⟨v,h,k⟩
theorem aD{a:Addr}{K:Value->Prop}(k:K (.pointer (some a))):dX P (J7 (.pointer (some a))) K:=⟨_,rfl,k⟩
theorem bJ{b:Bool}{K:Value->Prop}(k:K (.bool (!b))):dX P (Op.unary .not (.bool b)) K:=⟨_,rfl,k⟩
theorem Dq{p:Prop}[Decidable p]{K:Value->Prop}(k:K (.bool (decide (¬ p)))):dX P (Op.unary .not (.bool (decide p))) K:=by
 refine bJ ?_
 grind
theorem aJ{vs:List Value}{i:Nat}{v:Value}{K:Value->Prop}(h:vs[i]?=some v)(k:K v):dX P (NB (.tuple vs.toArray) i) K:=
 ⟨v,by simp only[NB,IT,h];rfl,k⟩
theorem aQ{T:Nat}{cx cy:Bool}{a b:Int}{K:Value->Prop}(k:K (.bool (decide (a<b)))):dX P (gX .lss T cx cy (hZ a) (hZ b)) K:=⟨_,rfl,k⟩
theorem gL{T:Nat}{cx cy:Bool}{a b:Int}{K:Value->Prop}(k:K (.bool (decide (a<=b)))):dX P (gX .leq T cx cy (hZ a) (hZ b)) K:=⟨_,rfl,k⟩
theorem dL{T:Nat}{cx cy:Bool}{a b:Int}{K:Value->Prop}(k:K (.bool (decide (b<a)))):dX P (gX .gtr T cx cy (hZ a) (hZ b)) K:=⟨_,rfl,k⟩
theorem cJ{T:Nat}{cx cy:Bool}{a b:Int}{K:Value->Prop}(k:K (.bool (decide (b<=a)))):dX P (gX .geq T cx cy (hZ a) (hZ b)) K:=⟨_,rfl,k⟩
theorem aG{T:Nat}{cx cy:Bool}{a b:Int}{K:Value->Prop}(k:K (.bool (decide (a=b)))):dX P (gX .eql T cx cy (hZ a) (hZ b)) K:=⟨_,rfl,k⟩
theorem cB{T:Nat}{cx cy:Bool}{a b:Int}{K:Value->Prop}(k:K (.bool (decide (a≠b)))):dX P (gX .neq T cx cy (hZ a) (hZ b)) K:=
 ⟨_,(show pr P (gX .neq T cx cy (hZ a) (hZ b))=some (.bool (decide (a≠b)))from by
  show some (sq (a != b))=_
  grind),k⟩
theorem aM{T:Nat}{cx cy:Bool}{a b:Int}{K:Value->Prop}(h : -9223372036854775808<=a+b/\a+b<=9223372036854775807)(k:K (hZ (a+b))) :
  dX P (gX .add T cx cy (hZ a) (hZ b)) K:=
 ⟨_,(show pr P (gX .add T cx cy (hZ a) (hZ b))=some (hZ (a+b))from by
  show some (mf .i64 (IntKind.i64.wrap (a+b)))=_
  rw[IntWalk.i64_in _ h]),k⟩
theorem fk{T:Nat}{cx cy:Bool}{a b:Int}{K:Value->Prop}(h : -9223372036854775808<=a-b/\a-b<=9223372036854775807)(k:K (hZ (a-b))) :
  dX P (gX .sub T cx cy (hZ a) (hZ b)) K:=
 ⟨_,(show pr P (gX .sub T cx cy (hZ a) (hZ b))=some (hZ (a-b))from by
  show some (mf .i64 (IntKind.i64.wrap (a-b)))=_
  rw[IntWalk.i64_in _ h]),k⟩
theorem Il{T:Nat}{cx cy:Bool}{a b:Int}{K:Value->Prop}(h : -9223372036854775808<=a*b/\a*b<=9223372036854775807)(k:K (hZ (a*b))) :
  dX P (gX .mul T cx cy (hZ a) (hZ b)) K:=
 ⟨_,(show pr P (gX .mul T cx cy (hZ a) (hZ b))=some (hZ (a*b))from by
  show some (mf .i64 (IntKind.i64.wrap (a*b)))=_
  rw[IntWalk.i64_in _ h]),k⟩
theorem aC{p:Prop}[Decidable p]{A B:Prop}(h1:p->A)(h2:¬ p->B):sJ (.bool (decide p)) A B:=
 ⟨_,rfl,λh=>h1 (g6 h),λh=>h2 (g7 h)⟩
theorem gE{A B:Prop}(h:A):sJ (.bool true) A B:=⟨_,rfl,λ_=>h,λh=>by cases h⟩
theorem ep{A B:Prop}(h:B):sJ (.bool false) A B:=⟨_,rfl,λh=>(by cases h),λ_=>h⟩
theorem bD{b:Bool}{A B:Prop}(h1:b=true->A)(h2:b=false->B):sJ (.bool b) A B:=⟨_,rfl,h1,h2⟩
theorem gx{α:Type}(l:List α){i:Nat}(h:i<l.length):∃x,l[i]?=some x:=⟨_,List.getElem?_eq_getElem h⟩
theorem dQ{a b:Nat}(h:Nl a b=true):a<=b:=vo h
theorem dW{f:FuncId}{args:List Value}{Φ K:Value->hU}(pl:Plain P f)(h:Calls P f args.toArray w (oU Φ))(k:∀v w',Φ v w'->K v w') :
  wD P f args w K:=⟨.inl ⟨pl,h.mono λ_ _ r=>r.mono k⟩⟩
theorem fj{g:FuncId}{args first cap:List Value}{Φ K:Value->hU}(pl:Plain P g)(h:Calls P g (first++args++cap).toArray w (oU Φ))(k:∀v w',Φ v w'->K v w') :
  gJ P (.func (.func g) first.toArray cap.toArray) args w K:=⟨.inl ⟨g,_,_,rfl,pl,by simpa using h.mono λ_ _ r=>r.mono k⟩⟩
variable {w0:World}{A:Nat->Prop}{L:List HP}
theorem run_load(a:Addr)(v:Value)(h:w.cell? a=some v):(load a).run P w=.ok v w:=by
 simp_all
theorem fm(b o j:Nat):(Addr.mk b o none).add j=⟨b,o+j,none⟩:=by
 unfold Addr.add;grind
theorem run_loadCellsFrom(b o:Nat):∀(n i:Nat) (u:Array Value) (cs:List Value),cs.length=n->(∀j c,cs[j]?=some c->Cell w b (o+i+j) c)->
  (loadCellsFrom ⟨b,o,none⟩ i n u).run P w=.ok (u++cs.toArray) w:=by
 intro n
 induction n with
 | zero=>intro i u cs B _;obtain rfl:=List.length_eq_zero_iff.1 B;simp[loadCellsFrom]
 | succ n E=>
  intro i u cs B h
  match cs,B with
  | c::cs,B=>
   unfold loadCellsFrom
   rw[dC (run_load _ c (by rw[fm];exact h 0 c rfl))]
   rw[E (i+1) (u.push c) cs cR λj d G=>by have:=h (j+1) d cR;grind]
   simp
theorem run_loadCells{b o:Nat}{cs:List Value}(h:∀j c,cs[j]?=some c->Cell w b (o+j) c):(loadCells ⟨b,o,none⟩ cs.length).run P w=.ok cs.toArray w:=by
 unfold loadCells
 rw[run_loadCellsFrom b o cs.length 0 #[] cs rfl λj c hc=>cR]
 simp
theorem aX{T:TypeId}{b o:Nat}{v:Value}(ht:MH P T)(h:Cell w b o v):(rE T (.pointer (some ⟨b,o,none⟩))).run P w=.ok v w:=by
 show(loadVar T ⟨b,o,none⟩).run P w=_
 unfold loadVar
 rw[dC (eM (iH ht).1 w)]
 exact run_load _ v h
theorem wH{T:TypeId}{b o:Nat}{cs:List Value}(ht:RE P T cs.length)(h:∀j c,cs[j]?=some c->Cell w b (o+j) c) :
  (rE T (.pointer (some ⟨b,o,none⟩))).run P w=.ok (.agg cs.toArray) w:=by
 show(loadVar T ⟨b,o,none⟩).run P w=_
 unfold loadVar
 rw[dC (eM (iH ht).1 w)]
 simp only[if_true]
 rw[dC (eM (iH ht).2 w),dC (run_loadCells h)]
 rfl
theorem aB{T:TypeId}{b o:Nat}{cs:List Value}{v:Value}{K:Value->Prop}(ht:MH P T)(hb:nY w b cs)(hc:cs[o]?=some v)(k:K v) :
  Ah P (rE T (.pointer (some ⟨b,o,none⟩))) w K:=⟨v,aX ht (hb.cell hc),k⟩
theorem Dr{T:TypeId}{b n:Nat}{cs:List Value}{K:Value->Prop}(ht:RE P T n)(hb:nY w b cs)(u:cs.length=n)(k:K (.agg cs.toArray)) :
  Ah P (rE T (.pointer (some ⟨b,0,none⟩))) w K:=by
 subst u
 exact⟨_,wH ht λj c hc=>by rw[o6];exact hb.cell hc,k⟩
theorem F7{T f u b o:Nat}(ht:vE P T f u):pr P (Ca T (.pointer (some ⟨b,o,none⟩)) f)=some (.pointer (some ⟨b,o+u,none⟩)):=by
 unfold vE aN at ht
 split at ht
 .rename_i fs hfs
  cases hf:fs[f]? with
  | none=>grind
  | some fd=>
   rw[hf]at ht
   simp only[wG,nM.injEq,UJ.injEq]at ht
   obtain⟨G,B⟩:=ht
   cases hi:P.info? fd.type with
   | none=>grind
   | some i=>
    rw[hi]at B
    have E:i.size≠0:=cR
    unfold Ca
    rw[bT,bR hfs]
    simp only[la,hf]
    show pr P (do pure (UN (some (<- fieldPlace ⟨b,o,none⟩ fd))))=_
    rw[ub]
    unfold fieldPlace
    rw[bT,kj hi]
    simp only[la,fg E,fm,G]
    rfl
 cases ht
theorem aA{T f u b o:Nat}{K:Value->Prop}(ht:vE P T f u)(k:K (.pointer (some ⟨b,o+u,none⟩))) :
  dX P (Ca T (.pointer (some ⟨b,o,none⟩)) f) K:=⟨_,F7 ht,k⟩
theorem pfb{T f u b o T2:Nat}{cs:List Value}{v:Value}{K:Value->Prop}(ht:vE P T f u)(h2:MH P T2)(hb:nY w b cs)(hc:cs[o+u]?=some v)(k:K v) :
  dX P (Ca T (.pointer (some ⟨b,o,none⟩)) f) λp=>Ah P (rE T2 p) w K:=aA ht (aB h2 hb hc k)
theorem BJ(T:TypeId)(v:Value):(qv T v).run P w=.ok (.pointer (some ⟨w.heap.size,0,none⟩)) (push w (.cells v.cells T)):=rfl
theorem St.push{T:TypeId}{cs:List Value}(u:St w0 A L w):St w0 A (bM w.heap.size cs::L) (push w (.cells cs.toArray T)):=
 u.new (Ext.push _ _) (F:=λk=>k=w.heap.size) ⟨nY.push w cs T,λ_=>Iff.rfl⟩ λb hb=>by rw[hb];exact om _
theorem jP{T:TypeId}{v:Value}{K:Value->hU}(u:St w0 A L w)(B:qD v=true)
  (k:∀b w',St w0 A (bM b [v]::L) w'->K (.pointer (some ⟨b,0,none⟩)) w'):mw P (qv T v) w K:=by
 refine⟨_,_,BJ T v,k _ _ ?_⟩
 have:v.cells=[v].toArray:=by cases v<;>first|rfl|cases B
 rw[this]
 exact u.push
theorem oZ{T:TypeId}{cs:List Value}{K:Value->hU}(u:St w0 A L w)
  (k:∀b w',St w0 A (bM b cs::L) w'->K (.pointer (some ⟨b,0,none⟩)) w'):mw P (qv T (.agg cs.toArray)) w K:=
 ⟨_,_,BJ T _,k _ _ u.push⟩
theorem fo{T:TypeId}{z:Value}{K:Value->hU}(B:St w0 A L w)(u:ki P T z)(E:qD z=true)
  (k:∀b w',St w0 A (bM b [z]::L) w'->K (.pointer (some ⟨b,0,none⟩)) w'):mw P (Jo T true (.tuple #[])) w K:=by
 unfold ki dA at u
 cases hi:P.info? T with
 | none=>rw[hi]at u;cases u
 | some i=>
  rw[hi]at u
  simp only[wG,nM.injEq]at u
  have h1:pr P (zeroValue T)=some z:=by unfold zeroValue;rw[bT,jd hi];simp only[la,u];rfl
  refine⟨_,push w (.cells [z].toArray T),?_,k _ _ (B.push (T:=T))⟩
  unfold Jo
  rw[dC (eM h1 w)]
  have:z.cells=[z].toArray:=by cases z<;>first|rfl|cases E
  show(do pure (UN (some (<- newVar T z))):Sem Value).run P w=_
  unfold newVar
  rw[this]
  rfl
theorem aK{T:TypeId}{cs:List Value}{K:Value->hU}(B:St w0 A L w)(u:ki P T (.agg cs.toArray))
  (k:∀b w',St w0 A (bM b cs::L) w'->K (.pointer (some ⟨b,0,none⟩)) w'):mw P (Jo T true (.tuple #[])) w K:=by
 unfold ki dA at u
 cases hi:P.info? T with
 | none=>rw[hi]at u;cases u
 | some i=>
  rw[hi]at u
  simp only[wG,nM.injEq]at u
  have h1:pr P (zeroValue T)=some (.agg cs.toArray):=by unfold zeroValue;rw[bT,jd hi];simp only[la,u];rfl
  refine⟨_,push w (.cells cs.toArray T),?_,k _ _ (B.push (T:=T))⟩
  unfold Jo
  rw[dC (eM h1 w)]
  rfl
theorem run_store{b o:Nat}{cs:List Value}{v:Value}(hb:nY w b cs)(B:o<cs.length)(u:qD v=true) :
  (store ⟨b,o,none⟩ v).run P w=.ok () (w.setCell ⟨b,o,none⟩ v):=by
 have h1:w.cell? ⟨b,o,none⟩=some cs[o]:=hb.cell (by simp[B])
 have h2:=hb.frozen (o:=o)
 unfold store
 cases v<;>first|cases u|skip
 all_goals
  simp only[Sem.run,h1,h2]
  rfl
theorem Ds{b o:Nat}{cs:List Value}{v:Value}(B:St w0 A (bM b cs::L) w):St w0 A (bM b (cs.set o v)::L) (w.setCell ⟨b,o,none⟩ v):=
 B.mJ λF u=>⟨F,⟨u.1.setCell v,u.2⟩,λ_ h=>.inl h,(fD.setCell w b o v).mono λk E=>(u.2 k).2 E⟩
theorem aO{T:TypeId}{b o:Nat}{cs:List Value}{v:Value}{K:hU}(u:St w0 A (bM b cs::L) w)(ht:MH P T)(E:o<cs.length)(B:qD v=true)
  (k:∀w',St w0 A (bM b (cs.set o v)::L) w'->K w'):LW P (B9 T (.pointer (some ⟨b,o,none⟩)) v) w K:=by
 refine⟨_,?_,k _ (Ds u)⟩
 show(storeVar T ⟨b,o,none⟩ v).run P w=_
 have hc:v.cells = #[v]:=by cases v<;>first|rfl|cases B
 unfold storeVar
 rw[dC (eM (iH ht).2 w),hc]
 simp only[E0,oh,D1,o6,ne_eq,not_true_eq_false,if_false]
 show(storeCells ⟨b,o,none⟩ [v]).run P w=_
 unfold storeCells
 rw[fm,Ii,dC (run_store u.hb E B)]
 rfl
def fO:List Value->Nat->List Value->List Value
 | cs,_,[]=>cs
 | cs,o,v::r=>fO (cs.set o v) (o+1) r
theorem yj{b o:Nat}:∀(vs:List Value) (i:Nat) (cs:List Value) (w:World),St w0 A (bM b cs::L) w->o+i+vs.length<=cs.length->(∀v∈vs,qD v=true)->
  ∃w',(storeCells ⟨b,o,none⟩ vs i).run P w=.ok () w'/\St w0 A (bM b (fO cs (o+i) vs)::L) w':=by
 intro vs
 induction vs with
 | nil=>intro i cs w u _ _;exact⟨w,rfl,u⟩
 | cons v r G=>
  intro i cs w u I B
  have E:o+i+(r.length+1)<=cs.length:=by simpa using I
  have h1:=run_store (P:=P) u.hb (o:=o+i) (v:=v) bP (B v ew)
  obtain⟨w',h2,h3⟩:=G (i+1) (cs.set (o+i) v) _ (Ds u) (by simp;omega) (λx J=>B x (by simp[J]))
  refine⟨w',?_,by rw[show o+(i+1)=o+i+1 from bP]at h3;exact h3⟩
  show(do store ((Addr.mk b o none).add i) v;storeCells ⟨b,o,none⟩ r (i+1):Sem Unit).run P w=_
  rw[fm,dC h1,h2]
theorem yk{T:TypeId}{b o n:Nat}{cs vs:List Value}{K:hU}(B:St w0 A (bM b cs::L) w)(ht:RE P T n)(u:vs.length=n)(G:o+n<=cs.length)(E:∀v∈vs,qD v=true)
  (k:∀w',St w0 A (bM b (fO cs o vs)::L) w'->K w'):LW P (B9 T (.pointer (some ⟨b,o,none⟩)) (.agg vs.toArray)) w K:=by
 subst u
 obtain⟨w',h1,h2⟩:=yj (P:=P) (o:=o) vs 0 cs w B bP E
 refine⟨w',?_,k w' h2⟩
 show(storeVar T ⟨b,o,none⟩ (.agg vs.toArray)).run P w=_
 unfold storeVar
 rw[dC (eM (iH ht).2 w)]
 simp only[UG,E0,ne_eq,not_true_eq_false,if_false]
 exact h1
end
end Go.Fw
namespace Go.Fw
class Flat (α:Type) where
 agg:Bool
 sz:Nat
 enc:α->List Value
 val:α->Value
 pos:0<sz
 len:∀a,(enc a).length=sz
 one:∀a v,v∈enc a->qD v=true
 lj:agg=true->∀a,val a=.agg (enc a).toArray
 lD:agg=false->∀a,enc a=[val a]
instance:Flat Int where
 agg:=false
 sz:=1
 enc n:=[hZ n]
 val n:=hZ n
 pos:=ea
 len _:=rfl
 one a v h:=by rw[rC.1 h];rfl
 lj h:=by cases h
 lD _ _:=rfl
instance:Flat Bool where
 agg:=false
 sz:=1
 enc n:=[.bool n]
 val n:=.bool n
 pos:=ea
 len _:=rfl
 one a v h:=by rw[rC.1 h];rfl
 lj h:=by cases h
 lD _ _:=rfl
instance:Flat ByteArray where
 agg:=false
 sz:=1
 enc n:=[.string n]
 val n:=.string n
 pos:=ea
 len _:=rfl
 one a v h:=by rw[rC.1 h];rfl
 lj h:=by cases h
 lD _ _:=rfl
section
variable {α:Type}[Flat α]
def flat(xs:List α):List Value:=xs.flatMap Flat.enc
theorem je:flat ([]:List α)=[]:=rfl
theorem il(x:α)(xs:List α):flat (x::xs)=Flat.enc x++flat xs:=by simp[flat]
theorem fp(xs ys:List α):flat (xs++ys)=flat xs++flat ys:=by simp[flat]
theorem cG(xs:List α):(flat xs).length=xs.length*Flat.sz α:=by
 induction xs with
 | nil=>simp[je]
 | cons x xs u=>rw[il,kE,u,Flat.len,oh,Dj];omega
theorem uc{xs:List α}:∀v∈flat xs,qD v=true:=by
 intro v u
 obtain⟨x,_,B⟩:=List.mem_flatMap.1 u
 exact Flat.one x v B
theorem o0{xs:List α}{i j:Nat}{x:α}{c:Value}(u:xs[i]?=some x)(hc:(Flat.enc x)[j]?=some c):(flat xs)[i*Flat.sz α+j]?=some c:=by
 induction xs generalizing i with
 | nil=>simp at u
 | cons y ys B=>
  rw[il]
  cases i with
  | zero=>
   grind
  | succ i=>
   have:=B (by simpa using u)
   rw[List.getElem?_append_right (by rw[Flat.len,Dj];omega),Flat.len]
   grind
theorem AA(xs:List α)(n:Nat):flat (xs.take n)=(flat xs).take (n*Flat.sz α):=by
 induction xs generalizing n with
 | nil=>simp[je]
 | cons x xs u=>
  cases n with
  | zero=>simp[je]
  | succ n=>
   rw[Pz,il,il,u,List.take_append,Flat.len]
   have h1:(n+1)*Flat.sz α-Flat.sz α=n*Flat.sz α:=cR
   rw[h1,List.take_of_length_le (i:=(n+1)*Flat.sz α) (l:=Flat.enc x) (by rw[Flat.len,Dj];omega)]
theorem AB(xs:List α)(n:Nat):flat (xs.drop n)=(flat xs).drop (n*Flat.sz α):=by
 induction xs generalizing n with
 | nil=>simp[je]
 | cons x xs u=>
  cases n with
  | zero=>simp
  | succ n=>
   rw[List.drop_succ_cons,il,u,List.drop_append,Flat.len]
   have h1:(n+1)*Flat.sz α-Flat.sz α=n*Flat.sz α:=cR
   rw[h1,List.drop_of_length_le (i:=(n+1)*Flat.sz α) (l:=Flat.enc x) (by rw[Flat.len,Dj];omega),sk]
def At(S:Nat->Prop)(w:World)(p:Value)(x:α):Prop:=
 ∃b o,p=.pointer (some ⟨b,o,none⟩)/\S b/\∀j c,(Flat.enc x)[j]?=some c->Cell w b (o+j) c
def dy(S:Nat->Prop)(w:World)(v:Value)(xs:List α):Prop:=
 ∃a cap,v=.slice a xs.length cap/\xs.length<=cap/\((xs=[]/\cap=0)\/∃b o,a=some ⟨b,o,none⟩/\(xs≠[]->S b)/\∀j c,(flat xs)[j]?=some c->Cell w b (o+j) c)
def bH(v:Value)(xs:List α):HP where
 p w F:=(v=.slice none 0 0/\xs=[]/\∀b,¬ F b)\/
  ∃b cap rest,v=.slice (some ⟨b,0,none⟩) xs.length cap/\nY w b (flat xs++rest)/\(xs.length<=cap/\cap*Flat.sz α<=(flat xs++rest).length)/\∀k,F k↔k=b
 loc w w' F h hh:=by
  rcases h with h|⟨b,cap,rest,h1,h2,h3,h4⟩
  .grind
  .exact .inr ⟨b,cap,rest,h1,h2.of_eq (hh b ((h4 b).2 rfl)),h3,h4⟩
 lt w F b h hb:=by
  rcases h with h|⟨u,cap,rest,h1,h2,h3,h4⟩
  .grind
  .rw[(h4 b).1 hb];exact h2.lt
variable {P:Program}{w w0:World}{A S:Nat->Prop}{L:List HP}{xs ys:List α}
theorem At.aF{A:Nat->Prop}{w w':World}{p:Value}{x:α}(h:At S w p x)(hc:fD A w w')(u:∀b,S b->¬ A b):At S w' p x:=by
 obtain⟨b,o,h1,h2,h3⟩:=h;exact⟨b,o,h1,h2,λj c B=>(h3 j c B).aF hc (u b h2)⟩
theorem At.ext{w w':World}{p:Value}{x:α}(h:At S w p x)(hc:Ext w w'):At S w' p x:=h.aF hc λ_ _ h=>h
theorem dy.aF{A:Nat->Prop}{w w':World}{v:Value}(h:dy S w v xs)(hc:fD A w w')(B:∀b,S b->¬ A b):dy S w' v xs:=by
 obtain⟨a,cap,h1,h2,h3⟩:=h
 refine⟨a,cap,h1,h2,?_⟩
 rcases h3 with h3|⟨b,o,h3,h4,h5⟩
 .grind
 exact .inr ⟨b,o,h3,h4,λj c u=>(h5 j c u).aF hc (B b (h4 λh=>by subst h;simp[je]at u))⟩
theorem dy.ext{w w':World}{v:Value}(h:dy S w v xs)(hc:Ext w w'):dy S w' v xs:=h.aF hc λ_ _ h=>h
theorem dy.mono{u:Nat->Prop}{v:Value}(h:dy S w v xs)(B:∀b,S b->u b):dy u w v xs:=by
 grind[dy]
theorem dy.nil(S:Nat->Prop)(w:World):dy S w (.slice none 0 0) ([]:List α):=⟨none,0,rfl,om _,.inl ⟨rfl,rfl⟩⟩
theorem bH.rd{v:Value}{F:Nat->Prop}(h:(bH v xs).p w F):dy F w v xs:=by
 rcases h with⟨h1,h2,h3⟩|⟨b,cap,rest,h1,h2,h3,h4⟩
 .subst h1 h2;exact dy.nil _ _
 refine⟨_,cap,h1,?_,.inr ⟨b,0,rfl,λ_=>(h4 b).2 rfl,λj c u=>?_⟩⟩
 .exact h3.1
 rw[o6]
 exact h2.cell cR
theorem St.rd{v:Value}(u:St w0 A (bH v xs::L) w):∃S,(∀b,S b->A b\/w0.heap.size<=b)/\dy S w v xs:=by
 obtain⟨F,h1,h2⟩:=u.head;exact⟨F,h2,bH.rd h1⟩
theorem St.eS{v:Value}(u:St w0 A (bH v xs::L) w):dy (λ_=>True) w v xs:=by
 obtain⟨S,_,h⟩:=u.rd;exact h.mono λ_ _=>trivial
theorem St.eD(u:St w0 A L w):St w0 A (bH (.slice none 0 0) ([]:List α)::L) w:=
 u.new (Ext.refl w) (F:=bF) (.inl ⟨rfl,rfl,λ_ h=>h⟩) λ_ h=>h.elim
theorem aE{T:TypeId}{p:Value}{x:α}{K:Value->Prop}(ht:cH P T=some (Flat.agg α,Flat.sz α))(h:At S w p x)(k:K (Flat.val x)):Ah P (rE T p) w K:=by
 obtain⟨b,o,rfl,_,h3⟩:=h
 cases ha:Flat.agg α with
 | true=>
  rw[ha]at ht
  refine⟨_,?_,k⟩
  rw[Flat.lj ha x]
  exact wH (by rw[Flat.len];exact ht) h3
 | false=>
  rw[ha]at ht
  have h1:=Flat.lD ha x
  have u:Flat.sz α=1:=by rw[<- Flat.len x,h1];rfl
  rw[u]at ht
  exact⟨_,aX ht (by have:=h3 0 (Flat.val x) cR;omega),k⟩
theorem St.At{b:Nat}{x:α}(u:St w0 A (Fw.bM b (Flat.enc x)::L) w):Fw.At (λ_=>True) w (.pointer (some ⟨b,0,none⟩)) x:=
 ⟨b,0,rfl,trivial,λj c B=>by rw[o6];exact u.hb.cell B⟩
theorem cU{β:Type}[Flat β]{T f u:Nat}{p:Value}{x:α}(y:β){K:Value->Prop}(ht:vE P T f u)(h:At S w p x)(G:(Flat.enc x)[u]?=some (Flat.val y))(B:Flat.agg β=false)
  (k:∀q,At S w q y->K q):dX P (Ca T p f) K:=by
 obtain⟨b,o,rfl,h2,h3⟩:=h
 refine aA ht (k _ ⟨b,o+u,rfl,h2,λj c E=>?_⟩)
 rw[Flat.lD B]at E
 grind
theorem BK{T R E n u:Nat}{z:Option Nat}{a:Option Addr}{l c:Nat}(ht:dV P T=some (E,n,u,z)):pr P (Builtin.len_ #[T] R [ta a l c].toArray)=some (hZ l):=by
 show pr P (do
  match <- underlying T,ta a l c with
  | .string,.string s=>pure (goInt s.size)
  | .array n _,_=>pure (goInt n)
  | .pointer arr,_=>
   let .array n _ <- underlying arr|stuck "len: pointer to array expected"
   pure (goInt n)
  | .slice _,.slice _ n _=>pure (goInt n)
  | .map _ _,.map none|.chan _ _,.chan none=>pure (goInt 0)
  | .map _ _,.map (some r)=>
   let .map entries _ <- getObj r|stuck "len: map expected"
   pure (goInt entries.size)
  | .chan _ _,.chan (some r)=>
   let .chan _ buf _ _ _ timer <- getObj r|stuck "len: channel expected"
   pure (goInt (if timer then 0 else buf.size))
  | _, _ => stuck "len: string, array, pointer to array, slice, map or channel expected")=_
 rw[bT,bR (eu ht).1]
 rfl
theorem aI{T R E n u:Nat}{z:Option Nat}{v:Value}{K:Value->Prop}(ht:dV P T=some (E,n,u,z))(h:dy S w v xs)(k:K (hZ (xs.length:Int))) :
  dX P (Builtin.len_ #[T] R [v].toArray) K:=by
 obtain⟨a,cap,rfl,_⟩:=h
 exact⟨_,BK ht,k⟩
theorem aY{T E J:Nat}{z:Option Nat}{v:Value}{i:Int}{x:α}{K:Value->Prop}(ht:dV P T=some (E,Flat.sz α,J,z))(h:dy S w v xs)(G:0<=i)(u:xs[i.toNat]?=some x)
  (k:∀p,At S w p x->K p):dX P (Cw T v (hZ i)) K:=by
 obtain⟨a,cap,rfl,Y,h3⟩:=h
 have Z:i.toNat<xs.length:=(j0.1 u).1
 rcases h3 with⟨rfl,_⟩|⟨b,o,rfl,h4,h5⟩
 .simp at u
 obtain⟨U,O,hi,I,_⟩:=eu ht
 refine⟨.pointer (some ⟨b,o+i.toNat*Flat.sz α,none⟩),?_,k _ ⟨b,_,rfl,h4 cR,λj c W=>?_⟩⟩
 .unfold Cw
  rw[bT]
  show pr P _=_
  simp only[asIntOf]
  have V:pr P (underlying T)=some (.slice E):=bR U
  have B:pr P (sizeOf E)=some (Flat.sz α):=by rw[kj hi,I]
  simp only[bT,V,B,la,eU]
  have M:0<=i/\i<(xs.length:Int):=⟨G,bP⟩
  simp only[fh M,bT,B,la,eU,fm]
 have:=h5 (i.toNat*Flat.sz α+j) c (o0 u W)
 grind
end
end Go.Fw
namespace Go.Fw
section
variable {α:Type}[Flat α] {P:Program}{w w0:World}{A S:Nat->Prop}{L:List HP}{xs ys:List α}
theorem fR{y:Nat}{i:Int}{code:BoundsCode}(u:0<=i)(h1:i<=y):pr P (Tm (hZ i) y code)=some i.toNat:=by
 unfold Tm
 rw[bT]
 simp only[asIntOf,eU,la,fh (show 0<=i/\i<=(y:Int)from⟨u,h1⟩)]
theorem qN{T E sz J:Nat}{z:Option Nat}{a:Option Addr}{n cap l h:Nat}{lo hi:Option Value}(ht:dV P T=some (E,sz,J,z))
  (hb:pr P (qa true n cap lo hi none)=some (l,h,cap)) :
  pr P (mv T (.slice a n cap) lo hi none)=some (.slice (if cap=l then a else a.map (·.add (l*sz))) (h-l) (cap-l)):=by
 obtain⟨u,B,G,I,_⟩:=eu ht
 unfold mv
 rw[bT,bR u]
 simp only[la]
 unfold Instr.slice
 rw[bT,bR u]
 simp only[la]
 rw[bT,hb]
 simp only[la]
 rw[bT,kj G,I]
 rfl
theorem km{n cap l h:Nat}{lo hi:Option Value}(E:lo=none/\l=0\/∃i:Int,lo=some (hZ i)/\0<=i/\l=i.toNat)(G:hi=none/\h=n\/∃i:Int,hi=some (hZ i)/\0<=i/\h=i.toNat)
  (h1:l<=h) (h2:h<=cap):pr P (qa true n cap lo hi none)=some (l,h,cap):=by
 rcases E with⟨rfl,rfl⟩|⟨i,rfl,B,rfl⟩<;>rcases G with⟨rfl,rfl⟩|⟨I,rfl,u,rfl⟩<;>simp only[qa,bT,eU,la]
 .rw[fR u bP];rfl
 .rw[fR B bP];rfl
 rw[fR u bP];simp only[la];rw[fR B bP];rfl
theorem dy.cut{v:Value}{a:Option Addr}{n cap l h:Nat}(G:v=.slice a n cap)(O:dy S w v xs)(h1:l<=h)(h2:h<=xs.length) :
  dy S w (.slice (if cap=l then a else a.map (·.add (l*Flat.sz α))) (h-l) (cap-l)) ((xs.take h).drop l):=by
 obtain⟨Z,E,M,Y,h3⟩:=O
 rw[M]at G
 simp only[ta.injEq]at G
 obtain⟨rfl,V,rfl⟩:=G
 have hlen:((xs.take h).drop l).length=h-l:=by simp;omega
 rcases h3 with⟨B,W⟩|⟨b,o,rfl,h4,h5⟩
 .subst B
  exact⟨_,E-l,by rw[hlen],ew,.inl ⟨ew,bP⟩⟩
 refine⟨_,E-l,by rw[hlen],bP,.inr ?_⟩
 have J:(xs.take h).drop l≠[]->xs≠[]:=λu I=>u cR
 by_cases u:E=l
 .rw[fh u]
  grind[flat,Cell]
 rw[fg u]
 refine⟨b,o+l*Flat.sz α,by simp[fm],λI=>h4 (J I),λj c U=>?_⟩
 rw[AB,AA,List.getElem?_drop,List.getElem?_take]at U
 grind
theorem Im{T E I:Nat}{z:Option Nat}{v:Value}{lo hi:Option Value}{l h:Nat}{K:Value->Prop}(ht:dV P T=some (E,Flat.sz α,I,z))(B:dy S w v xs)
  (G:lo=none/\l=0\/∃i:Int,lo=some (hZ i)/\0<=i/\l=i.toNat) (M:hi=none/\h=xs.length\/∃i:Int,hi=some (hZ i)/\0<=i/\h=i.toNat)
  (h1:l<=h) (h2:h<=xs.length) (k:∀u,dy S w u ((xs.take h).drop l)->K u):dX P (mv T v lo hi none) K:=by
 have J:=B
 obtain⟨a,cap,rfl,O,h3⟩:=B
 exact⟨_,qN ht (km G M h1 bP),k _ (J.cut rfl h1 h2)⟩
theorem AD{T E G:Nat}{z:Option Nat}{v:Value}{i:Int}{K:Value->Prop}(ht:dV P T=some (E,Flat.sz α,G,z))(B:dy S w v xs)(I:0<=i)(h2:i<=xs.length)
  (k:∀u,dy S w u (xs.take i.toNat)->K u):dX P (mv T v none (some (hZ i)) none) K:=
 Im ht B (.inl ⟨rfl,rfl⟩) (.inr ⟨i,rfl,I,rfl⟩) bP bP λu h=>k u cR
theorem Kh{T E G:Nat}{z:Option Nat}{v:Value}{i:Int}{K:Value->Prop}(ht:dV P T=some (E,Flat.sz α,G,z))(B:dy S w v xs)(I:0<=i)(h2:i<=xs.length)
  (k:∀u,dy S w u (xs.drop i.toNat)->K u):dX P (mv T v (some (hZ i)) none none) K:=
 Im ht B (.inr ⟨i,rfl,I,rfl⟩) (.inl ⟨rfl,rfl⟩) bP bP λu h=>k u cR
theorem jt{b o:Nat}:∀(vs:List Value) (i:Nat) (cs:List Value) (w:World),nY w b cs->o+i+vs.length<=cs.length->(∀v∈vs,qD v=true)->
  ∃w',(storeCells ⟨b,o,none⟩ vs i).run P w=.ok () w'/\nY w' b (fO cs (o+i) vs)/\fD (· = b) w w':=by
 intro vs
 induction vs with
 | nil=>intro i cs w hb _ _;exact⟨w,rfl,hb,fD.refl _ _⟩
 | cons v r B=>
  intro i cs w hb I u
  have E:o+i+(r.length+1)<=cs.length:=bP
  have h1:=run_store (P:=P) hb (o:=o+i) (v:=v) bP (u v ew)
  obtain⟨w',h2,h3,h4⟩:=B (i+1) (cs.set (o+i) v) _ (hb.setCell v) (by simp;omega) (λx G=>u x (by simp[G]))
  refine⟨w',?_,by grind[nY,fO],(fD.setCell w b (o+i) v).trans h4 (λ_ h=>h) λ_ _ h=>h⟩
  show(do store ((Addr.mk b o none).add i) v;storeCells ⟨b,o,none⟩ r (i+1):Sem Unit).run P w=_
  rw[fm,dC h1,h2]
theorem jg(pre u post vs:List Value)(h:u.length=vs.length):fO (pre++u++post) pre.length vs=pre++vs++post:=by
 induction vs generalizing pre u with
 | nil=>grind[fO]
 | cons v r B=>
  match u,h with
  | m::u,h=>
   have e:(pre++(m::u)++post).set pre.length v=(pre++[v])++u++post:=ew
   simp only[fO,e]
   have:=B (pre++[v]) u cR
   simp_all
theorem rW{sz:Nat}{v:Value}(u:sz=Flat.sz α)(h:dy S w v ys):(Builtin.firstCells sz ys.length v).run P w=.ok (flat ys).toArray w:=by
 subst u
 obtain⟨a,cap,rfl,_,h3⟩:=h
 rcases h3 with⟨rfl,_⟩|⟨b,o,rfl,_,h5⟩
 .cases a with
  | none=>rfl
  | some a=>simp[Builtin.firstCells,loadCells,loadCellsFrom,je]
 have:=run_loadCells (P:=P) h5
 rw[cG]at this
 exact this
theorem vG{b o:Nat}{cs:List Value}(h:∀j c,cs[j]?=some c->Cell w b (o+j) c):∀j v,cs[j]?=some v->w.cell? ((⟨b,o,none⟩:Addr).add j)=some v:=λj v u=>by
 rw[fm];exact h j v u
theorem wI{T E iW R:Nat}{v src:Value}{F:Nat->Prop}(ht:QZ P T E (Flat.sz α) iW)(hv:(bH v xs).p w F)(qE:dy S w src ys)
  (hn:xs.length+ys.length<=17592186044416) (M:(xs.length+ys.length)*iW<=140737488355328) :
  ∃v' w' F',(Builtin.append_ #[T,T] R [v,src].toArray).run P w=.ok v' w'/\(bH v' (xs++ys)).p w' F'/\(∀b,F' b->F b\/w.heap.size<=b)/\fD F w w':=by
 obtain⟨Z,u,hi,W,s6,U⟩:=eu ht
 obtain⟨zv,J,hzs⟩:∃zv,u.zero=some zv/\zv.cells.size=Flat.sz α:=by
  cases Q0:u.zero with
  | none=>rw[Q0]at U;cases U
  | some zv=>rw[Q0]at U;exact⟨zv,rfl,by simpa using U⟩
 have hmul:(xs.length+ys.length)*u.bytes<=140737488355328:=by rw[show u.bytes=iW by omega];exact M
 have made:∀(cap:Nat),cap<xs.length+ys.length->
   (bH (.slice (some ⟨w.heap.size,0,none⟩) (xs.length+ys.length) (grownCap w (xs.length+ys.length) cap E)) (xs++ys)).p
    (w.drew.alloc (.cells ((flat xs).toArray++(flat ys).toArray++Builtin.zeroCells zv.cells (grownCap w (xs.length+ys.length) cap E-(xs.length+ys.length))) E)) (λk=>k=w.heap.size):=by
  intro cap hc
  have RF:=grownCap_ge w (xs.length+ys.length) cap E
  refine .inr ⟨w.heap.size,grownCap w (xs.length+ys.length) cap E,(Builtin.zeroCells zv.cells (grownCap w (xs.length+ys.length) cap E-(xs.length+ys.length))).toList,ew,⟨E,?_⟩,?_,λ_=>Iff.rfl⟩
  .have:=jO w.drew (.cells ((flat xs).toArray++(flat ys).toArray++Builtin.zeroCells zv.cells (grownCap w (xs.length+ys.length) cap E-(xs.length+ys.length))) E)
   refine Eq.trans this ?_
   congr 2
   apply V0
   simp[fp]
  .refine⟨by rw[kE];exact RF,CV (Eq.symm ?_)⟩
   have e:(Builtin.zeroCells zv.cells (grownCap w (xs.length+ys.length) cap E-(xs.length+ys.length))).toList.length=(grownCap w (xs.length+ys.length) cap E-(xs.length+ys.length))*Flat.sz α:=by
    rw[KC,size_zeroCells,hzs]
   rw[kE,e,cG,kE,<- UH]
   congr 1
   omega
 have I:∀o,fD F w (w.drew.alloc o):=λo=>⟨rfl,rfl,rfl,ew,λb hb _=>vC w.drew o b hb⟩
 have rd:=qE
 obtain⟨sa,MI,rfl,Uy,V1⟩:=rd
 rcases hv with⟨rfl,rfl,V⟩|⟨b,cap,rest,rfl,hb,G,V⟩
 ·
  simp only[D1,o6,sk]at *
  by_cases M:ys=[]
  .subst M
   refine⟨.slice none 0 0,w,F,?_,.inl ⟨rfl,rfl,V⟩,λb hb=>.inl hb,fD.refl _ _⟩
   cases sa<;>simp[Builtin.append_,run_underlying Z,sizeOf,typeInfo,hi,Builtin.lenOf,Builtin.firstCells,loadCells,loadCellsFrom]
  have xj:0<ys.length:=List.length_pos_iff.2 M
  rcases V1 with⟨h,_⟩|⟨b,o,rfl,_,RG⟩
  .exact absurd h M
  have O:=run_append_nil (P:=P) w T R E u zv Z hi J ⟨b,o,none⟩ ys.length MI (flat ys) (by rw[cG,W]) (vG RG) xj bP bP
  refine⟨_,_,λk=>k=w.heap.size,O,?_,λk B=>.inr (by rw[B];exact om _),I _⟩
  have:=made 0 xj
  simpa[je]using this
 have xi:xs.length<=cap:=G.1
 replace G:=G.2
 by_cases Y:xs.length+ys.length<=cap
 ·
  have RH:(xs.length+ys.length)*Flat.sz α<=cap*Flat.sz α:=zP _ Y
  have F8:(flat xs).length=xs.length*Flat.sz α:=cG xs
  have tW:(flat ys).length<=rest.length:=by
   rw[kE,F8]at G;rw[cG];rw[UH]at RH;omega
  obtain⟨w',h1,h2,h3⟩:=jt (P:=P) (o:=xs.length*Flat.sz α) (flat ys) 0 (flat xs++rest) w hb (by rw[kE,F8];omega) uc
  have zT:fO (flat xs++rest) (xs.length*Flat.sz α+0) (flat ys)=flat (xs++ys)++rest.drop (flat ys).length:=by
   have:=jg (flat xs) (rest.take (flat ys).length) (rest.drop (flat ys).length) (flat ys) (by simp;omega)
   rw[F8]at this
   rw[Ii,fp]
   rw[<- this]
   simp
  rw[zT]at h2
  refine⟨.slice (some ⟨b,0,none⟩) (xs.length+ys.length) cap,w',F,?_,.inr ⟨b,cap,_,ew,h2,?_,V⟩,λb hb=>.inl hb,h3.mono λk B=>(V k).2 B⟩
  .have hf:=rW (α:=α) (P:=P) (sz:=Flat.sz α) rfl qE
   have oE:(⟨b,0,none⟩:Addr).add (xs.length*Flat.sz α)=⟨b,xs.length*Flat.sz α,none⟩:=by rw[fm,o6]
   simp[Builtin.append_,run_underlying Z,sizeOf,typeInfo,hi,Builtin.lenOf,Y,hf,W,oE,h1]
  refine⟨by rw[kE];exact Y,x9 G (CV ?_)⟩
  rw[kE,kE,fp,kE,List.length_drop];omega
 have O:=run_append_grow (P:=P) w T R E u zv Z hi J ⟨b,0,none⟩ xs.length cap (flat xs) (by rw[cG,W])
  (vG λj c hj=>by rw[o6];exact hb.cell (by rw[qk (j0.1 hj).1];exact hj))
 rcases V1 with⟨h,_⟩|⟨b',o,rfl,_,RG⟩
 .subst h;simp at Y;omega
 have O:=O ⟨b',o,none⟩ ys.length MI (flat ys) (by rw[cG,W]) (vG RG) bP bP (growslice_fits bP hmul)
 exact⟨_,_,λk=>k=w.heap.size,O,made cap bP,λk B=>.inr (by rw[B];exact om _),I _⟩
theorem V2{T E G R:Nat}{v src:Value}{F:Nat->Prop}(ht:QZ P T E (Flat.sz α) G)(M:(bH v xs).p w F)(O:dy S w src ys)
  (J:xs.length+ys.length<=1073741824) (I:G<=8192) :
  ∃u w' B,(Builtin.append_ #[T,T] R [v,src].toArray).run P w=.ok u w'/\(bH u (xs++ys)).p w' B/\(∀b,B b->F b\/w.heap.size<=b)/\fD F w w':=
 wI ht M O bP (by have:=Ps J I;omega)
theorem Dt{T E M R:Nat}{v src:Value}{K:Value->hU}(G:St w0 A (bH v xs::L) w)(ht:QZ P T E (Flat.sz α) M)(qE:dy S w src ys)
  (Y:xs.length+ys.length<=17592186044416) (hm:(xs.length+ys.length)*M<=140737488355328) (k:∀B w',St w0 A (bH B (xs++ys)::L) w'->K B w'):mw P (Builtin.append_ #[T,T] R [v,src].toArray) w K:=by
 obtain⟨U,F,O,h1,h2,h3,h4,h5⟩:=G.oD
 obtain⟨B,w',I,g1,Z,J,V⟩:=wI (R:=R) ht h1 qE Y hm
 refine⟨B,w',g1,k B w' ?_⟩
 refine⟨G.aF.trans V (λ_ h=>h) λb hb u=>(h2 b u).elim id λhh=>bP,λb=>I b\/O b,I,O,Z,λb hb=>?_,λb hb W=>?_,λb=>Iff.rfl,?_⟩
 .rcases J b hb with u|u
  .exact h2 b u
  exact .inr (x9 G.aF.size u)
 .rcases J b hb with u|u
  .exact h3 b u W
  have:=h5.lt b W;omega
 exact h5.loc λb hb=>V.bM b (h5.lt b hb) λu=>h3 b u hb
theorem cO{T E B R:Nat}{v src:Value}{K:Value->hU}(J:St w0 A (bH v xs::L) w)(ht:QZ P T E (Flat.sz α) B)(M:dy S w src ys)
  (I:xs.length+ys.length<=1073741824) (G:B<=8192) (k:∀u w',St w0 A (bH u (xs++ys)::L) w'->K u w'):mw P (Builtin.append_ #[T,T] R [v,src].toArray) w K:=
 Dt J ht M bP (by have:=Ps I G;omega) k
end
end Go.Fw
namespace Go.Fw
section
variable {α:Type}[Flat α] {P:Program}{w w0:World}{A S:Nat->Prop}{L:List HP}{xs ys:List α}
theorem lE(x:α):(Flat.val x).cells=(Flat.enc x).toArray:=by
 cases h:Flat.agg α with
 | true=>rw[Flat.lj h];rfl
 | false=>
  have h1:=Flat.lD h x
  have h2:=Flat.one x (Flat.val x) cR
  rw[h1]
  revert h2
  cases Flat.val x<;>simp[qD,UG]
theorem F9(cs:List Value)(o:Nat)(v:Value)(r:List Value):fO cs o (v::r)=fO (cs.set o v) (o+1) r:=rfl
theorem Du(u:Nat):∀(l:List Value) (k:Nat) (cs:Array Value),((l.zipIdx k).foldl (fun (cs:Array Value) q=>cs.setIfInBounds (u+q.2) q.1) cs).toList=fO cs.toList (u+k) l:=by
 intro l
 induction l with
 | nil=>intro k cs;rfl
 | cons v r B=>
  intro k cs
  rw[Tn,List.foldl_cons,B (k+1),F9]
  grind
theorem BM(u:Nat)(l:List Value)(cs:Array Value) :
  (l.toArray.zipIdx.foldl (fun (cs:Array Value) (q:Value×Nat)=>match q with|(c,j)=>cs.setIfInBounds (u+j) c) cs).toList=fO cs.toList u l:=by
 rw[<- P5]
 have e:l.toArray.zipIdx.toList=l.zipIdx 0:=ew
 rw[e]
 exact Du u l 0 cs
theorem Ki:∀(xs:List α) (k:Nat) (pre u:List Value),pre.length=k*Flat.sz α->u.length=xs.length*Flat.sz α->
  P6 (λi=>some (i*Flat.sz α,Flat.sz α)) (pre++u).toArray ((xs.zipIdx k).map λq=>(q.2,Flat.val q.1))=some (pre++flat xs).toArray:=by
 intro xs
 induction xs with
 | nil=>intro k pre u _ B;simp at B;subst B;simp[P6,je]
 | cons x xs G=>
  intro k pre u E B
  rw[Tn,List.map_cons]
  unfold P6
  dsimp only
  have J:(Flat.val x).cells.size=Flat.sz α:=by rw[lE];simp[Flat.len]
  have I:u.length=xs.length*Flat.sz α+Flat.sz α:=cR
  rw[fg cR]
  have e:((Flat.val x).cells.zipIdx.foldl (fun (cs:Array Value) (q:Value×Nat)=>match q with|(c,j)=>cs.setIfInBounds (k*Flat.sz α+j) c) (pre++u).toArray) =
    ((pre++Flat.enc x)++u.drop (Flat.sz α)).toArray:=by
   apply V0
   rw[lE,BM]
   have h1:=jg pre (u.take (Flat.sz α)) (u.drop (Flat.sz α)) (Flat.enc x) (by simp[Flat.len];omega)
   simp_all
  rw[e]
  have:=G (k+1) (pre++Flat.enc x) (u.drop (Flat.sz α)) (by rw[kE,E,Flat.len,Dj]) cR
  rw[this,il,mu]
theorem bK{T E V n:Nat}{parts:List (Nat×Value)}{K:Value->hU}(xs:List α)(W:St w0 A L w)(ht:QZ P T E (Flat.sz α) V)(M:xs.length=n)
  (O:parts=xs.zipIdx.map λq=>(q.2,Flat.val q.1)) (hl:xs.length*Flat.sz α<=16777216) (k:∀v w',St w0 A (bH v xs::L) w'->K v w') :
  mw P (FF T n parts.toArray) w K:=by
 subst M
 obtain⟨Z,B,hi,U,s6,G⟩:=eu ht
 obtain⟨zv,I,Y⟩:∃zv,B.zero=some zv/\zv.cells.size=Flat.sz α:=by
  cases Q0:B.zero with
  | none=>rw[Q0]at G;cases G
  | some zv=>rw[Q0]at G;exact⟨zv,rfl,by simpa using G⟩
 have es:pr P (sizeOf E)=some (Flat.sz α):=by rw[kj hi,U]
 have ez:pr P (zeroValue E)=some zv:=by unfold zeroValue;rw[bT,jd hi];simp only[la,I];rfl
 refine⟨.slice (some ⟨w.heap.size,0,none⟩) xs.length xs.length,push w (.cells (flat xs).toArray E),?_,k _ _ ?_⟩
 .have u:∀z:Array Value,P6 (λi=>some (i*Flat.sz α,Flat.sz α)) ((Vs (xs.length*Flat.sz α)).map (z[· % z.size]!)) parts=some (flat xs).toArray:=by
   intro z
   have:=Ki xs 0 [] ((Vs (xs.length*Flat.sz α)).map (z[· % z.size]!)).toList ew ew
   rw[O]
   rw[sk,sk,Js]at this
   exact this
  unfold FF
  rw[dC (eM (bR Z) w)]
  dsimp only
  rw[dC (eM es w),fg bP]
  by_cases J:xs.length*Flat.sz α=0
  .simp only[fh J]
   rw[dC (run_pure _ w),u]
   rfl
  simp only[fg J]
  rw[dC (eM ez w),dC (run_pure _ w),u]
  rfl
 refine W.new (Ext.push _ _) (F:=λk=>k=w.heap.size) (.inr ⟨w.heap.size,xs.length,[],rfl,⟨E,?_⟩,⟨om _,by simp[cG]⟩,λ_=>Iff.rfl⟩) λb hb=>by rw[hb];exact om _
 rw[oj];exact jO _ _
theorem qO(z:α)(n:Nat):(madeCells (Flat.enc z).toArray (n*Flat.sz α)).toList=flat (oI n z):=by
 apply List.ext_getElem?
 intro i
 have u:=Flat.pos (α:=α)
 by_cases hi:i<n*Flat.sz α
 .have h1:i / Flat.sz α<n:=by rw[Nat.div_lt_iff_lt_mul u];exact hi
  have h2:i % Flat.sz α<(Flat.enc z).length:=by rw[Flat.len];exact Nat.mod_lt _ u
  have:=o0 (xs:=oI n z) (i:=i / Flat.sz α) (j:=i % Flat.sz α) (x:=z) (c:=(Flat.enc z)[i % Flat.sz α]) (by simp[h1]) (by simp[h2])
  rw[Nat.div_add_mod' i (Flat.sz α)]at this
  rw[this]
  unfold madeCells
  simp[hi,Flat.len]
  grind
 have E:(madeCells (Flat.enc z).toArray (n*Flat.sz α)).toList[i]?=none:=by
  rw[u1,KC,size_madeCells];omega
 have B:(flat (oI n z))[i]?=none:=by
  rw[u1,cG,xr];omega
 rw[E,B]
theorem Dv{T E I:Nat}{n:Int}{K:Value->hU}(z:α)(O:St w0 A L w)(ht:QZ P T E (Flat.sz α) I)(B:ki P E (Flat.val z))(G:0<=n)(h1:n<=1073741824)(W:I<=8192)
  (k:∀v w',St w0 A (bH v (oI n.toNat z)::L) w'->K v w'):mw P (Pl T (hZ n) (hZ n)) w K:=by
 obtain⟨U,u,hi,M,V,_⟩:=eu ht
 unfold ki dA at B
 rw[hi]at B
 simp only[wG,nM.injEq]at B
 have hb:(u.bytes:Int)*n<=281474976710656:=by
  have h2:(u.bytes:Int)<=8192:=bP
  have h3:(u.bytes:Int)*n<=8192*n:=Int.mul_le_mul_of_nonneg_right h2 G
  omega
 have J:=run_make (P:=P) w T E u (Flat.val z) U hi B .i64 .i64 n n G (Int.le_refl _) hb bP
 rw[M,lE]at J
 refine⟨_,_,J,k _ _ ?_⟩
 refine O.new (w':=w.alloc (.cells (madeCells (Flat.enc z).toArray (n.toNat*Flat.sz α)) E)) ⟨rfl,rfl,rfl,ew,λb hb _=>vC w _ b hb⟩ (F:=λk=>k=w.heap.size)
  (.inr ⟨w.heap.size,n.toNat,[],ew,⟨E,?_⟩,⟨ew,by rw[oj,cG,xr];exact om _⟩,λ_=>Iff.rfl⟩) λb hb=>by rw[hb];exact om _
 rw[oj,<- qO]
 have:=jO w (.cells (madeCells (Flat.enc z).toArray (n.toNat*Flat.sz α)) E)
 rw[Js]
 exact this
def AE(α:Type)[Flat α](v:Value)(i:Nat)(p:Value):Prop:=∃b n c,v=.slice (some ⟨b,0,none⟩) n c/\p=.pointer (some ⟨b,i*Flat.sz α,none⟩)
theorem ed{T E I:Nat}{z:Option Nat}{v:Value}{i:Int}{K:Value->Prop}(M:St w0 A (bH v xs::L) w)(ht:dV P T=some (E,Flat.sz α,I,z))(B:0<=i)(h1:i<xs.length)
  (k:∀p,AE α v i.toNat p->K p):dX P (Cw T v (hZ i)) K:=by
 obtain⟨F,h,_⟩:=M.head
 rcases h with⟨rfl,rfl,_⟩|⟨b,cap,rest,rfl,hb,V,_⟩
 .simp at h1;omega
 obtain⟨O,J,hi,G,_⟩:=eu ht
 refine⟨.pointer (some ⟨b,i.toNat*Flat.sz α,none⟩),?_,k _ ⟨b,_,_,rfl,rfl⟩⟩
 unfold Cw
 have U:pr P (underlying T)=some (.slice E):=bR O
 have u:pr P (sizeOf E)=some (Flat.sz α):=by rw[kj hi,G]
 simp only[asIntOf,bT,U,u,la,eU]
 simp only[fh (show 0<=i/\i<(xs.length:Int)from⟨B,h1⟩),bT,u,la,eU,fm,o6]
theorem mS{v:Value}{F:Nat->Prop}{i:Nat}(h:(bH v xs).p w F)(hi:i<xs.length):∃b cap rest,v=.slice (some ⟨b,0,none⟩) xs.length cap/\nY w b (flat xs++rest)/\(xs.length<=cap/\cap*Flat.sz α<=(flat xs++rest).length)/\∀k,F k↔k=b:=by
 rcases h with⟨rfl,rfl,_⟩|h
 .simp at hi
 exact h
theorem gM{T:Nat}{v p:Value}{i:Nat}{x:α}{K:Value->Prop}(G:St w0 A (bH v xs::L) w)(ht:cH P T=some (Flat.agg α,Flat.sz α))(E:AE α v i p)(B:xs[i]?=some x)(k:K (Flat.val x)) :
  Ah P (rE T p) w K:=by
 obtain⟨F,h,_⟩:=G.head
 obtain⟨b,cap,rest,I,hb,M,_⟩:=mS h (j0.1 B).1
 obtain⟨O,n,c,u,rfl⟩:=E
 rw[I]at u
 simp only[ta.injEq,nM.injEq,Addr.mk.injEq]at u
 obtain⟨⟨rfl,_,_⟩,_,_⟩:=u
 refine aE (S:=λ_=>True) ht ⟨b,i*Flat.sz α,rfl,trivial,λj c J=>hb.cell ?_⟩ k
 have:=o0 B J
 rw[qk (j0.1 this).1];exact this
theorem Dw{i:Nat}(y:α)(h:i<xs.length):flat (xs.set i y)=flat (xs.take i)++Flat.enc y++flat (xs.drop (i+1)):=by
 rw[List.set_eq_take_append_cons_drop,fh h,fp,il,mu]
theorem s7{i:Nat}{x:α}(h:xs[i]?=some x):flat xs=flat (xs.take i)++Flat.enc x++flat (xs.drop (i+1)):=by
 have hi:=(j0.1 h).1
 have:xs=xs.take i++x::xs.drop (i+1):=by
  rw[<- (j0.1 h).2,DY,List.take_append_drop]
 conv=>lhs;rw[this]
 rw[fp,il,mu]
theorem Ga{T:Nat}{v p:Value}{i:Nat}{F:Nat->Prop}(y:α)(h:(bH v xs).p w F)(ht:cH P T=some (Flat.agg α,Flat.sz α))(G:AE α v i p)(hi:i<xs.length) :
  ∃w',(B9 T p (Flat.val y)).run P w=.ok () w'/\(bH v (xs.set i y)).p w' F/\fD F w w':=by
 obtain⟨b,cap,rest,U,hb,J,B⟩:=mS h hi
 obtain⟨W,n,c,u,rfl⟩:=G
 rw[U]at u
 simp only[ta.injEq,nM.injEq,Addr.mk.injEq]at u
 obtain⟨⟨rfl,_,_⟩,_,_⟩:=u
 have V:xs[i]?=some xs[i]:=by simp[hi]
 have M:=s7 V
 have O:(flat (xs.take i)).length=i*Flat.sz α:=by rw[cG,List.length_take,Nat.min_eq_left bP]
 have hlen:i*Flat.sz α+Flat.sz α<=(flat xs).length:=by
  rw[cG,<- Dj];exact zP _ hi
 obtain⟨w',h1,h2,h3⟩:=jt (P:=P) (o:=i*Flat.sz α) (Flat.enc y) 0 (flat xs++rest) w hb (by rw[Flat.len,kE];omega) (Flat.one y)
 have E:fO (flat xs++rest) (i*Flat.sz α+0) (Flat.enc y)=flat (xs.set i y)++rest:=by
  have:=jg (flat (xs.take i)) (Flat.enc xs[i]) (flat (xs.drop (i+1))++rest) (Flat.enc y) (by rw[Flat.len,Flat.len])
  rw[O]at this
  rw[Ii,Dw y hi,M]
  grind
 rw[E]at h2
 refine⟨w',?_,.inr ⟨b,cap,rest,cR,h2,?_,B⟩,h3.mono λk I=>(B k).2 I⟩
 .show(storeVar T ⟨b,i*Flat.sz α,none⟩ (Flat.val y)).run P w=_
  unfold storeVar
  rw[dC (eM (iH ht).2 w),lE]
  simp only[E0,Flat.len,ne_eq,not_true_eq_false,if_false]
  exact h1
 rw[kE,cG]at J |-;grind
theorem kI{T:Nat}{v p:Value}{i:Nat}{K:hU}(y:α)(E:St w0 A (bH v xs::L) w)(ht:cH P T=some (Flat.agg α,Flat.sz α))(G:AE α v i p)(hi:i<xs.length)
  (k:∀w',St w0 A (bH v (xs.set i y)::L) w'->K w'):LW P (B9 T p (Flat.val y)) w K:=by
 obtain⟨U,F,J,h1,h2,h3,h4,h5⟩:=E.oD
 obtain⟨w',M,I,B⟩:=Ga y h1 ht G hi
 refine⟨w',M,k w' ⟨E.aF.trans B (λ_ h=>h) λb hb u=>(h2 b u).elim id λO=>bP,U,F,J,I,h2,h3,h4,h5.loc λb hb=>B.bM b (h5.lt b hb) λu=>h3 b u hb⟩⟩
end
end Go.Fw
namespace Go.Fw
section
variable {P:Program}{w w0:World}{A S:Nat->Prop}{L:List HP}
theorem cD{T:TypeId}{b o:Nat}{v:Value}{K:Value->Prop}(ht:MH P T)(hb:Cell w b o v)(k:K v) :
  Ah P (rE T (.pointer (some ⟨b,o,none⟩))) w K:=⟨v,aX ht hb,k⟩
theorem cE{α:Type}[Flat α]{T:TypeId}{x:α}{K:Value->hU}(u:St w0 A L w)
  (k:∀b w',St w0 A (bM b (Flat.enc x)::L) w'->K (.pointer (some ⟨b,0,none⟩)) w'):mw P (qv T (Flat.val x)) w K:=by
 refine⟨_,_,BJ T _,k _ _ ?_⟩
 rw[lE]
 exact u.push
theorem zX{T:Nat}{a b:Bool}(h:P.underlying T=some .bool):pr P (Op.equal T (.bool a) (.bool b))=some (a == b):=by
 show pr P (Op.equalIn 10000 T (.bool a) (.bool b))=_
 unfold Op.equalIn
 rw[bT,bR h]
 rfl
theorem ud{T:Nat}{cx cy:Bool}{a b:Bool}{K:Value->Prop}(h:P.underlying T=some .bool)(k:K (.bool (a == b))):dX P (gX .eql T cx cy (.bool a) (.bool b)) K:=by
 refine⟨_,?_,k⟩
 show pr P (do pure (sq (<- Op.equal T (.bool a) (.bool b))))=_
 rw[ub,zX h];rfl
theorem zY{T e:Nat}{a:Option Addr}{n c:Nat}(h:P.underlying T=some (.slice e))(u:a=none->n=0/\c=0):pr P (Op.equal T (.slice a n c) (.slice none 0 0))=some a.isNone:=by
 show pr P (Op.equalIn 10000 T (.slice a n c) (.slice none 0 0))=_
 unfold Op.equalIn
 rw[bT,bR h]
 cases a<;>rfl
theorem MJ{T e:Nat}{cx cy:Bool}{a:Option Addr}{n c:Nat}{K:Value->Prop}(h:P.underlying T=some (.slice e))(u:a=none->n=0/\c=0)(k:K (.bool a.isNone)):dX P (gX .eql T cx cy (.slice a n c) (.slice none 0 0)) K:=by
 refine⟨_,?_,k⟩
 show pr P (do pure (sq (<- Op.equal T (.slice a n c) (.slice none 0 0))))=_
 rw[ub,zY h u];rfl
def j4:TypeDesc->Option Nat
 | .int .i64=>some 0
 | .bool=>some 1
 | .string=>some 2
 | _=>none
def mz:Value->Option Nat
 | .int .i64 _=>some 0
 | .bool _=>some 1
 | .string _=>some 2
 | _=>none
def eqV:Value->Value->Bool
 | .int _ a,.int _ b=>decide (a=b)
 | .bool a,.bool b=>a == b
 | .string a,.string b=>a == b
 | _,_=>false
def ue:List Value->List Value->Bool
 | a::x,b::y=>eqV a b&&ue x y
 | _,_=>true
def ko(P:Program):Nat->List Field->Option (List Nat)
 | _,[]=>some []
 | k,f::fs=>
  if f.name ≠ "_" /\ f.offset=k then
   match P.underlying f.type with
   | some d=>match j4 d,ko P (k+1) fs with
    | some n,some r=>some (n::r)
    | _,_=>none
   | none=>none
  else none
def yl(P:Program)(T:TypeId):Option (List Nat):=
 match P.underlying T with
 | some (.struct u)=>if P.stoodInHeld T=false/\P.eqGuardType P.depth T=false then ko P 0 u.toList else none
 | _=>none
def Gb(d:Nat)(xs ys:Array Value):List Field->Sem Bool
 | []=>pure true
 | f::r => if f.name ≠ "_" then do
   let same <- Op.equalIn d f.type (<- part f.type xs f.offset) (<- part f.type ys f.offset)
   if (!same)=true then pure false else Gb d xs ys r
  else Gb d xs ys r
theorem xk{T:TypeId}{d:TypeDesc}{n:Nat}(h:P.underlying T=some d)(u:j4 d=some n):pr P (isAgg T)=some false:=by
 unfold isAgg
 rw[bT,bR h]
 cases d<;>simp[j4]at u<;>rfl
theorem Io{T:TypeId}{d:TypeDesc}{n o:Nat}{cs:Array Value}{v:Value}(h:P.underlying T=some d)(u:j4 d=some n)(B:cs[o]?=some v):pr P (part T cs o)=some v:=by
 unfold part
 rw[bT,xk h u]
 simp only[la,Hc,if_false,B]
 rfl
theorem Dx{k:Nat}{T:TypeId}{d:TypeDesc}{n:Nat}{a b:Value}(h:P.underlying T=some d)(B:j4 d=some n)(u:mz a=some n)(hb:mz b=some n) :
  pr P (Op.equalIn (k+1) T a b)=some (eqV a b):=by
 unfold Op.equalIn
 rw[bT,bR h]
 simp only[la]
 cases d<;>simp only[j4]at B<;>try(cases B;done)
 case int kd=>
  cases kd<;>simp at B
  subst B
  cases a<;>simp only[mz]at u<;>try(cases u;done)
  rename_i ka na
  cases b<;>simp only[mz]at hb<;>try(cases hb;done)
  rename_i kb nb
  cases ka<;>simp at u
  cases kb<;>simp at hb
  rfl
 case bool=>
  cases B
  cases a<;>simp only[mz]at u<;>first|(rename_i ka na;cases ka<;>simp at u)|skip
  all_goals try(simp at u;done)
  cases b<;>simp only[mz]at hb<;>first|(rename_i kb nb;cases kb<;>simp at hb)|skip
  all_goals try(simp at hb;done)
  rfl
 case string=>
  cases B
  cases a<;>simp only[mz]at u<;>first|(rename_i ka na;cases ka<;>simp at u)|skip
  all_goals try(simp at u;done)
  cases b<;>simp only[mz]at hb<;>first|(rename_i kb nb;cases kb<;>simp at hb)|skip
  all_goals try(simp at hb;done)
  rfl
theorem Dy{k:Nat}{xs ys:List Value}:∀(u:List Field) (i:Nat) (ks:List Nat),ko P i u=some ks->(∀j n,ks[j]?=some n->∃a b,xs[i+j]?=some a/\ys[i+j]?=some b/\mz a=some n/\mz b=some n)->
  pr P (Gb (k+1) xs.toArray ys.toArray u)=some (ue ((xs.drop i).take ks.length) ((ys.drop i).take ks.length)):=by
 intro u
 induction u with
 | nil=>intro i ks h _;simp only[ko,nM.injEq]at h;subst h;simp[Gb,ue];rfl
 | cons f u M=>
  intro i ks h G
  unfold ko at h
  split at h
  .rename_i hf
   cases hu:P.underlying f.type with
   | none=>grind
   | some d=>
    rw[hu]at h
    dsimp only at h
    cases hd:j4 d with
    | none=>grind
    | some n=>
     rw[hd]at h
     cases hr:ko P (i+1) u with
     | none=>grind
     | some r=>
      rw[hr]at h
      simp only[nM.injEq]at h
      subst h
      obtain⟨a,b,B,hb,J,O⟩:=G 0 n rfl
      rw[Ii]at B hb
      have I:xs.drop i=a::xs.drop (i+1):=by
       rw[<- DY (j0.1 B).1,(j0.1 B).2]
      have E:ys.drop i=b::ys.drop (i+1):=by
       rw[<- DY (j0.1 hb).1,(j0.1 hb).2]
      have U:=M (i+1) r hr λj m Y=>by
       obtain⟨V,W,h1,h2,h3,h4⟩:=G (j+1) m cR
       grind
      unfold Gb
      rw[fh hf.1,bT,Io hu hd (v:=a) cR]
      simp only[la]
      rw[bT,Io hu hd (v:=b) cR]
      simp only[la]
      rw[bT,Dx hu hd J O]
      simp only[la,oh,I,E,Pz,ue]
      cases he:eqV a b with
      | false=>rfl
      | true=>grind
  .cases h
theorem uf{d:Nat}{t:TypeId}{B:Array Field}{xs ys:Array Value}(ht:P.underlying t=some (.struct B))(E:P.stoodInHeld t=false) :
  pr P (Op.equalIn (d+1) t (.agg xs) (.agg ys))=pr P (Gb d xs ys B.toList):=by
 unfold Op.equalIn
 rw[bT,bR ht]
 simp only[la,bT]
 rw[show pr P program=some P from rfl]
 simp only[la,E,Hc,if_false]
 rw[<- Array.forIn_toList]
 generalize B.toList=l
 clear ht
 induction l with
 | nil=>rfl
 | cons f l u=>
  rw[bT]at u
  simp only[List.forIn_cons,Gb,bT]
  split
  .simp only[bT]
   cases pr P (part f.type xs f.offset)with
   | none=>rfl
   | some a=>
    simp only[la]
    cases pr P (part f.type ys f.offset)with
    | none=>rfl
    | some b=>
     simp only[la]
     cases pr P (Op.equalIn d f.type a b)with
     | none=>rfl
     | some r=>
      cases r
      .rfl
      .simp only[la,Bool.not_true,Hc,if_false,eU]
       exact u
  .simp only[eU,la]
   exact u
theorem BN{T:TypeId}{ks:List Nat}{xs ys:List Value}(h:yl P T=some ks)(B:xs.map mz=ks.map some)(u:ys.map mz=ks.map some) :
  pr P (Op.equal T (.agg xs.toArray) (.agg ys.toArray))=some (ue xs ys)/\P.eqGuardType P.depth T=false:=by
 unfold yl at h
 split at h
 .rename_i fs hfs
  split at h
  .rename_i hc
   refine⟨?_,hc.2⟩
   show pr P (Op.equalIn 10000 T _ _)=_
   rw[uf hfs hc.1]
   have E:xs.length=ks.length:=by have:=gl List.length B;grind
   have G:ys.length=ks.length:=by have:=gl List.length u;grind
   rw[Dy (xs:=xs) (ys:=ys) fs.toList 0 ks h λj n I=>?_]
   .grind
   have J:j<ks.length:=(j0.1 I).1
   refine⟨xs[j]'(bP),ys[j]'(bP),ew,ew,?_,?_⟩
   .have:=gl (λl=>l[j]?) B
    grind
   have:=gl (λl=>l[j]?) u
   grind
  cases h
 cases h
theorem Kl{T:Nat}{cx cy:Bool}{ks:List Nat}{xs ys:List Value}{K:Value->Prop}(h:yl P T=some ks)(B:xs.map mz=ks.map some)(u:ys.map mz=ks.map some)(k:K (.bool (ue xs ys))) :
  dX P (gX .eql T cx cy (.agg xs.toArray) (.agg ys.toArray)) K:=by
 obtain⟨h1,h2⟩:=BN h B u
 refine⟨_,?_,k⟩
 show pr P (if P.eqGuardType P.depth T=true then stuck "an interface in a part" else(do pure (sq (<- Op.equal T (.agg xs.toArray) (.agg ys.toArray))) : Sem Value))=_
 rw[h2,fg ew,ub,h1];rfl
theorem AF{T:Nat}{cx cy:Bool}{ks:List Nat}{xs ys:List Value}{K:Value->Prop}{p:Prop}[Decidable p](h:yl P T=some ks)(E:xs.map mz=ks.map some)(u:ys.map mz=ks.map some)
  (B:ue xs ys=decide p) (k:K (.bool (decide p))):dX P (gX .eql T cx cy (.agg xs.toArray) (.agg ys.toArray)) K:=Kl h E u (B▸k)
end
end Go.Fw
