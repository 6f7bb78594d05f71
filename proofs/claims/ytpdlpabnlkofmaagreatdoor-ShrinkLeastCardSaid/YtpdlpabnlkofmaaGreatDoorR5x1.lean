/-
  Part 1.
-/
import Derived.Test.YtpdlpabnlkofmaaGreatDoorProg
import Derived.Orders
import Derived.Tactics
import Derived.OrdersIn
import Derived.TacticsIn
import Derived.RangeFuncSeq
import Derived.RangeFuncLeaves
import Derived.Laws.Sem
import Derived.KernelRfl
import Derived.Below
import Derived.IntWalk
import Derived.Laws.AppendOwn
import Derived.Laws.MakeOwn
import Derived.WalkKit
import Derived.ProofKit
import Derived.OpenShut
import Derived.ChangeCalls
import Derived.Laws.Strings
import Derived.Lib.ConvBytes
import Derived.MapKept
import Derived.Maps.RangeRun
import Derived.Lib.AppendZeros
import Derived.LaidMore
import Derived.Lay
import Derived.SevenTiedAt
import Derived.Stop.Joined
set_option maxHeartbeats 8000000
set_option linter.all false
set_option maxRecDepth 100000
namespace Go
def bO{p:Prop}(h:p:=by omega):p:=h
def cL{p:Prop}(h:p:=by grind):p:=h
def dD{p:Prop}(h:p:=by decide):p:=h
def ee{p:Prop}(h:p:=by simp):p:=h
def ei:=@if_neg
def ej:=@if_pos
def ew:=@decide_eq_true
def fP:=@decide_eq_false
def ga:=@decide_eq_decide
def gQ:=@congrArg
def gR:=@of_decide_eq_true
def g6:=@of_decide_eq_false
def g7:=@Classical.byContradiction
noncomputable abbrev hH:=Proofs.Tryz.prog
abbrev hM:=World->Prop
abbrev hZ(i:Int):Value:=.int .i64 i
end Go
open ByteArray renaming mk->kE
open List renaming getElem?_eq_some_iff->kO,length_append->l1,append_assoc->n5,length_cons->o1,mem_cons_self->o6,append_nil->pd,mem_cons_of_mem->r6,replicate->sk,mem_cons->s4,nil_append->tx,getElem?_append_left->u3,mem_singleton->wy,getElem?_eq_none_iff->CB,map_congr_left->CI,length_replicate->EI,all_eq_true->GG,length_nil->L2,size_toArray->Mu,getElem?_toArray->PV,mem_filterMap->Qm,zipIdx_cons->aaE
open Go.Instr renaming build->mL,sliceAt->ob,index->vp,sliceBounds->v7,loadAt->yx,box->By,fieldAt->G8,indexAt->H3,storeAt->KK,buildSlice->KN,makeSlice->N6,alloc->P2,extract->S3,fill->Y9,sliceBound->aav
open Option renaming bind_some->nj,some->oq,map_some->F1
open Go.Value renaming int->n3,bool->xl,slice->zH,cells->VR,pointer->abx
open Bool renaming and_eq_true->oi,not_eq_true'->sQ,or_eq_true->x6,true_and->Ac,not_false->PC
open Nat renaming le_refl->pb,zero_add->u4,le_trans->xe,le_of_eq->AU,beq->D0,le_of_ble_eq_true->Ek,mul_le_mul_right->EL,land->Jj,shiftLeft->KL,succ_mul->LC,lor->PB,add_zero->PK,eq_of_beq_eq_true->PY,testBit_two_pow->Ql,mul_le_mul->Qt,one_shiftLeft->Sl,ble->Sx,testBit_or->U2,add_mul->Wk,blt->aa6
open Array renaming getD_eq_getD_getElem?->E9,getElem?_eq_some_iff->Fy,length_toList->Nj,getElem?_modify->P0,toArray_toList->P5,empty_append->Xt,foldl_toList->XH,ext'->abj,range->abE
open Go.World renaming cell?->SZ,setCell->abw
open Prod renaming mk->aa7
open Go.Code renaming region->abD
open Classical renaming choose->abH
namespace Go.Fw
abbrev Env:=Nat->Value
def ev(e:Env):Operand->Value
 | .tmp t=>e t
 | .const v=>v
 | .global g=>.pointer (some ⟨g,0,none⟩)
 | .func f=>.func (.func f) #[] #[]
def Af(e:Env)(d:Nat)(v:Value):Env:=λi=>bif D0 i d then v else e i
def jZ(e:Env)(d:Option Nat)(v:Value):Env:=match d with|some d=>Af e d v|none=>e
theorem ny(e:Env)(d:Nat)(v:Value):Af e d v d=v:=by simp[Af]
theorem oQ(e:Env){d i:Nat}(v:Value)(h:i≠d):Af e d v i=e i:=by
 have:D0 i d=false:=by
  cases hh:D0 i d
  .rfl
  simp_all
 simp[Af,this]
def VT(e:Env){d u:Nat}(v B:Value)(h:d≠u):Af (Af e d v) u B=Af (Af e u B) d v:=by
 funext i
 by_cases h1:i=d
 .subst h1;rw[oQ _ _ h,ny,ny]
 by_cases h2:i=u
 .subst h2;rw[ny,oQ _ _ h1,ny]
 rw[oQ _ _ h2,oQ _ _ h1,oQ _ _ h1,oQ _ _ h2]
def ahv(e:Env)(d:Nat)(v:Value)(h:e d=v):Af e d v=e:=by
 funext i
 by_cases h1:i=d
 .subst h1;rw[ny,h]
 rw[oQ _ _ h1]
def mark(D:Nat):Deferred:={target:=.collected D,args:=#[]}
structure jE(ds:List Nat)(n:Nat)(e:Env)(a:Act):Prop where
 defers:a.defers=ds.map mark
 size:a.tmps.size=n
 get:∀i,a.tmps.getD i undef=e i
def jE.eval{ds:List Nat}{n:Nat}{e:Env}{a:Act}(h:jE ds n e a):a.eval=ev e:=by
 funext x
 cases x<;>simp[Act.eval,ev]
 case tmp t=>simpa using h.get t
theorem jE.put{ds:List Nat}{n:Nat}{e:Env}{a:Act}(h:jE ds n e a){d:Option Nat}(u:∀k,d=some k->k<n)(v:Value) :
  jE ds n (jZ e d v) (a.put d v):=by
 cases d with
 | none=>exact h
 | some d=>
  have u:=u d rfl
  refine⟨h.defers,by simp[Act.put,h.size],λi=>?_⟩
  have B:=h.get i
  simp only[Act.put,jZ,E9]at *
  by_cases hi:i=d
  .subst hi
   rw[Array.getElem?_setIfInBounds_self_of_lt (by rw[h.size];exact u),ny]
   rfl
  .rw[Array.getElem?_setIfInBounds_ne (Ne.symm hi),oQ _ _ hi]
   exact B
def pr(P:Program){α:Type}:Sem α->Option α
 | .pure a=>some a
 | .program k=>pr P (k P)
 | .mark _ k=>pr P k
 | _=>none
theorem fZ{P:Program}{α:Type}{m:Sem α}{v:α}(h:pr P m=some v)(w:World):m.run P w=.ok v w:=by
 induction m with
 | pure a=>simp only[pr,oq.injEq]at h;simp_all
 | program k u=>exact u P h
 | mark x k u=>exact u h
 | _=>simp[pr]at h
theorem fS{P:Program}{α:Type}(a:α):pr P (pure a:Sem α)=some a:=rfl
theorem cX{P:Program}{α β:Type}(m:Sem α)(f:α->Sem β):pr P (m >>= f)=(pr P m).bind λa=>pr P (f a):=by
 show pr P (m.bind f)=_
 induction m with
 | pure a=>rfl
 | program k u=>exact u P
 | mark x k u=>exact u
 | _=>rfl
theorem eL{P:Program}{α β:Type}{m:Sem α}{f:α->Sem β}{w w':World}{a:α}(h:m.run P w=.ok a w') :
  (m >>= f).run P w=(f a).run P w':=by simp_all
theorem run_pure{P:Program}{α:Type}(a:α)(w:World):(pure a:Sem α).run P w=.ok a w:=rfl
abbrev FO(r:Option Nat):Fence:={Fence.wide with round:=r}
def Ea{r:Option Nat}{p:Prop}:(FO r).depth.isSome=true->p:=λh=>by cases h
def zu{r:Option Nat}{n:Nat}{P:Program}{f:FuncId}{args:Array Value}{w:World}{R:Ending->hM}:CallsIn (FO r) n P f args w R↔Calls P f args w R:=
 callsIn_wide (n:=n)
def ub(K:Value->hM):Ending->hM:=λe w=>∃v,e=.returned v/\K v w
def ub.mono{K u:Value->hM}{e:Ending}{w:World}(h:ub K e w)(k:∀v w,K v w->u v w):ub u e w:=
 let ⟨v,B,E⟩:=h;⟨v,B,k _ _ E⟩
def Plain(P : Program)(f : FuncId) : Prop := ∃u, P.funcs[f]?=some u /\ (u.name == "runtime.NumGoroutine")=false /\ u.body.isNone=false
theorem Ak{P:Program}{f:FuncId}(h:Plain P f)(args:Array Value)(w:World) :
  (callFunc f args).run P w=.ok (.enter f args) w:=by
 obtain⟨u,h1,h2,h3⟩:=h
 show(match P.funcs[f]? with|none=>_|some u=>_:Sem Next).run P w=_
 rw[h1]
 simp[h2,h3]
structure eU(P:Program)(m:Sem Value)(K:Value->Prop):Prop where
 ex:∃v,pr P m=some v/\K v
structure Kn(P:Program)(m:Sem Value)(w:World)(K:Value->Prop):Prop where
 ex:∃v,m.run P w=.ok v w/\K v
structure rR(P:Program)(m:Sem Value)(w:World)(K:Value->hM):Prop where
 ex:∃v w',m.run P w=.ok v w'/\K v w'
structure Vx(P:Program)(m:Sem Unit)(w:World)(K:hM):Prop where
 ex:∃w',m.run P w=.ok () w'/\K w'
structure CG(P:Program)(f:FuncId)(args:List Value)(w:World)(K:Value->hM):Prop where
 ex:(Plain P f/\Calls P f args.toArray w (ub K))\/∃v w',(callFunc f args.toArray).run P w=.ok (.value v) w'/\K v w'
structure kK(P:Program)(fv:Value)(args:List Value)(w:World)(K:Value->hM):Prop where
 ex:(∃g first cap,fv=.func (.func g) first cap/\Plain P g/\Calls P g (first++args.toArray++cap) w (ub K))\/
  ∃l,fv=.func (.yield l) #[] #[]/\YieldAt (FO none) 0 P l args.toArray w (ub K)
structure yL(v:Value)(A B:Prop):Prop where
 ex:∃t,v=.bool t/\(t=true->A)/\(t=false->B)
structure Rh(P:Program)(m:Sem Value)(v:Value)(w:World)(R:Prop):Prop where
 amn:m.run P w=.ok v w
 rest:R
inductive Eb where
 | val (v:Value)
 | p (m:Sem Value)
 | q (m:Sem Value)
 | e (m:Sem Value)
 | u (m:Sem Unit)
 | call (f:FuncId) (args:List Value)
 | Ri (fv:Value) (args:List Value)
 | bad
def Vy:Operand->Bool|.const _=>true|_=>false
def TE:Value->Sem Value
 | .pointer none|.nilIface|.nilFunc => stuck "nil"
 | .func (.method _) _ _ => stuck "method"
 | x=>pure x
def VU(c a b:Value):Sem Value:=do pure (if <- asBool c then a else b)
def abP(op:BinOp)(t:TypeId)(cx cy:Bool)(a b:Value):Sem Value:=
 match a,b with
 | .nilIface, .nilIface => if cx||cy then binOp op t a b else stuck "two nil interfaces"
 | .agg _, .agg _ => .program λp => if p.eqGuardType p.depth t then stuck "an interface in a part" else binOp op t a b
 | _,_=>binOp op t a b
def kq(op:BinOp)(t:TypeId)(cx cy:Bool)(a b:Value):Sem Value:=
 match op with
 | .eql=>abP .eql t cx cy a b
 | .neq=>abP .neq t cx cy a b
 | op=>binOp op t a b
def abQ(P:Program)(op:BinOp)(t:TypeId)(x y:Operand):Bool:=
 match op with
 | .eql|.neq=>match P.underlying t with
  | some (.pointer _)|some .unsafePointer=>!(Vy x||Vy y)
  | _=>false
 | _=>false
def isMap(P:Program)(t:TypeId):Bool:=match P.underlying t with|some (.map _ _)|some (.chan _ _)=>true|_=>false
def amo(P:Program)(s d:TypeId):Nat:=
 match P.underlying d with
 | some (.slice _)=>2
 | some .string=>match P.underlying s with|some (.slice _)=>1|_=>0
 | _=>0
def Al(P:Program)(o:Oper)(ρ:Operand->Value):Eb:=
 match o.op with
 | .move x|.assign x=>.val (ρ x)
 | .pick c a b=>.p (VU (ρ c) (ρ a) (ρ b))
 | .alloc t=>.e (P2 t true (.tuple #[]))
 | .box t x=>.e (By t (ρ x))
 | .build t parts=>.p (mL t (parts.toList.map λq=>(q.1,ρ q.2)).toArray)
 | .buildSlice t n parts=>.e (KN t n (parts.toList.map λq=>(q.1,ρ q.2)).toArray)
 | .load t a=>.q (yx t (ρ a))
 | .store t a x=>.u (KK t (ρ a) (ρ x))
 | .nilCheck x=>.p (TE (ρ x))
 | .binOp op t x y _=>if abQ P op t x y then .q (kq op t (Vy x) (Vy y) (ρ x) (ρ y))else .p (kq op t (Vy x) (Vy y) (ρ x) (ρ y))
 | .unOp op _ x=>.p (Op.unary op (ρ x))
 | .convert s d x=>match amo P s d with|0=>.p (convert s d (ρ x))|1=>.q (convert s d (ρ x))|_=>.e (convert s d (ρ x))
 | .makeInterface t x=>.q (Instr.makeInterface t (ρ x))
 | .makeFunc fn first cap=>.val (.func fn (first.toList.map ρ).toArray (cap.toList.map ρ).toArray)
 | .makeMap t r=>.e (Instr.makeMap t (r.map ρ))
 | .makeSlice t l c=>.e (N6 t (ρ l) (ρ c))
 | .slice t x lo hi B=>.p (ob t (ρ x) (lo.map ρ) (hi.map ρ) (B.map ρ))
 | .fieldAddr s x f=>.p (G8 s (ρ x) f)
 | .field t x f=>.p (Instr.field t (ρ x) f)
 | .indexAddr t x i=>.p (H3 t (ρ x) (ρ i))
 | .index t x i=>.p (vp t (ρ x) (ρ i))
 | .lookup t x i ok=>.q (Instr.lookup t (ρ x) (ρ i) ok)
 | .mapUpdate t m k x|.insert t m k x=>.u (Instr.mapUpdate t (ρ m) (ρ k) (ρ x))
 | .mapEntry t m k=>.e (Instr.mapEntry t (ρ m) (ρ k))
 | .entryStore t m s x=>.u (Instr.entryStore t (ρ m) (ρ s) (ρ x))
 | .range t x=>.e (Instr.range t (ρ x))
 | .next it s=>.e (Instr.next (ρ it) s o.type)
 | .entry it=>.q (Instr.entry (ρ it))
 | .typeAssert x t u ok=>.q (Instr.typeAssert (ρ x) t u ok)
 | .extract t i=>.p (S3 (ρ t) i)
 | .call c=>
  match c.callee with
  | .value (.func f)=>.call f (c.args.toList.map ρ)
  | .value x=>.Ri (ρ x) (c.args.toList.map ρ)
  | .invoke ..=>.bad
  | .builtin b=>
   match b with
   | .len=>if isMap P (c.argTypes.getD 0 0)then .q (Builtin.len_ c.argTypes o.type (c.args.toList.map ρ).toArray)else .p (Builtin.len_ c.argTypes o.type (c.args.toList.map ρ).toArray)
   | .cap=>.p (Builtin.cap_ c.argTypes o.type (c.args.toList.map ρ).toArray)
   | .min=>.p (Builtin.min_ c.argTypes o.type (c.args.toList.map ρ).toArray)
   | .max=>.p (Builtin.max_ c.argTypes o.type (c.args.toList.map ρ).toArray)
   | .append=>.e (Builtin.append_ c.argTypes o.type (c.args.toList.map ρ).toArray)
   | .copy=>.e (Builtin.copy_ c.argTypes o.type (c.args.toList.map ρ).toArray)
   | .clear=>.e (Builtin.clear_ c.argTypes o.type (c.args.toList.map ρ).toArray)
   | .delete=>.e (Builtin.delete_ c.argTypes o.type (c.args.toList.map ρ).toArray)
   | _=>.bad
 | _=>.bad
def GU(P:Program)(k:Eb)(K:Value->hM)(w:World):Prop:=
 match k with
 | .val v=>K v w
 | .p m=>eU P m (λv=>K v w)
 | .q m=>Kn P m w (λv=>K v w)
 | .e m=>rR P m w K
 | .u m=>Vx P m w (λw'=>K undef w')
 | .call f args=>CG P f args w K
 | .Ri fv args=>kK P fv args w K
 | .bad=>False
def Eb.quiet:Eb->Bool
 | .val _|.p _|.q _=>true
 | _=>false
def Eb.reads:Eb->Bool
 | .q _=>true
 | _=>false
def Eb.has(P:Program)(k:Eb)(w:World)(v:Value):Prop:=
 match k with
 | .val x=>x=v
 | .p m=>pr P m=some v
 | .q m=>m.run P w=.ok v w
 | _=>False
def GU.has{P:Program}{k:Eb}{K:Value->hM}{w:World}(u:k.quiet=true)(h:GU P k K w):∃v,k.has P w v/\K v w:=by
 cases k<;>simp only[Eb.quiet,Bool.false_eq_true]at u<;>simp only[GU]at h
 case val v=>exact⟨v,rfl,h⟩
 case p m=>exact h.ex
 case q m=>exact h.ex
def Eb.TF{P:Program}{k:Eb}{w w':World}{v:Value}(u:k.reads=false)(h:k.has P w v):k.has P w' v:=by
 cases k<;>simp only[Eb.has,Eb.reads,Bool.true_eq_false]at *
 .exact h
 exact h
def GU.VV{P:Program}{k:Eb}{K:Value->hM}{w:World}{v:Value}(h:k.has P w v)(B:K v w):GU P k K w:=by
 cases k<;>simp only[Eb.has]at h<;>simp only[GU]
 case val u=>grind
 case p m=>exact⟨v,h,B⟩
 case q m=>exact⟨v,h,B⟩
def GU.mono{P:Program}{k:Eb}{K E:Value->hM}{w:World}(h:GU P k K w)(B:∀v w,K v w->E v w):GU P k E w:=by
 cases k<;>simp only[GU]at *
 case val v=>grind
 case p m=>exact⟨let ⟨v,a,b⟩:=h.ex;⟨v,a,B _ _ b⟩⟩
 case q m=>exact⟨let ⟨v,a,b⟩:=h.ex;⟨v,a,B _ _ b⟩⟩
 case e m=>exact⟨let ⟨v,w',a,b⟩:=h.ex;⟨v,w',a,B _ _ b⟩⟩
 case u m=>exact⟨let ⟨w',a,b⟩:=h.ex;⟨w',a,B _ _ b⟩⟩
 case call f args=>
  rcases h.ex with⟨a,b⟩|⟨v,w',a,b⟩
  .exact⟨.inl ⟨a,b.mono λe w' r=>r.mono B⟩⟩
  .exact⟨.inr ⟨v,w',a,B _ _ b⟩⟩
 case Ri fv args=>
  rcases h.ex with⟨g,f,c,a,b,d⟩|⟨l,a,G,t,s,b,c,d⟩
  .exact⟨.inl ⟨g,f,c,a,b,d.mono λe w' r=>r.mono B⟩⟩
  .exact⟨.inr ⟨l,a,G,t,s,b,c,d.mono λe w' r=>r.mono B⟩⟩
def uB{r:Option Nat}{P:Program}{o:Oper}{a:Act}{w:World}:∀f,o.about P w a.eval=some f->(FO r).fn f:=λ_ _=>trivial
def Kx{r:Option Nat}{P:Program}{o:Oper}{a:Act}{next:Act->hM}{Q:Exit->Act->hM}{f:FuncId}{args:Array Value}{w:World}
  {K:Value->hM}(h:Calls P f args w (ub K)) (E:∀v w',K v w'->next (a.put o.dst v) w'):o.uponIn (FO r) 0 P a next Q (.ok (.enter f args) w):=by
 rw[Oper.uponIn_enter]
 refine⟨Ea,zu.2 (h.mono λe w' ⟨v,u,B⟩=>?_)⟩
 grind
def Gr{r:Option Nat}{P:Program}{o:Oper}{a:Act}{next:Act->hM}{Q:Exit->Act->hM}{l:Nat}{f:FuncId}{tmps:Array Value}{assign body:Code}{w:World}
  {K:Value->hM}(h:RoundIn (FO none) 0 P l f tmps assign body w (ub K)) (G:∀v w',K v w'->next (a.put o.dst v) w'):o.uponIn (FO r) 0 P a next Q (.ok (.round l f tmps assign body) w):=by
 rw[Oper.uponIn_round]
 refine⟨Ea,?_⟩
 have u:RoundIn (FO r) 0 P l f tmps assign body w (ub K):=h
 refine u.mono λe w' ⟨v,B,E⟩=>?_
 grind
def kL{r:Option Nat}{P:Program}{o:Oper}{a:Act}{next:Act->hM}{Q:Exit->Act->hM}{w w':World}{v:Value}(u:∀c,o.op≠.defer c)
  (h:(execOp a.eval o).run P w=.ok (.value v) w') (B:next (a.put o.dst v) w'):o.wpIn (FO r) 0 P a w next Q:=by
 unfold Oper.wpIn;rw[Oper.semAt_eq _ _ _ u,h,Oper.uponIn_value];exact⟨uB,B⟩
def OA{r:Option Nat}{P:Program}{o:Oper}{a:Act}{next:Act->hM}{Q:Exit->Act->hM}{w w':World}(u:∀c,o.op≠.defer c)
  (h:(execOp a.eval o).run P w=.ok .skip w') (B:next (a.put o.dst undef) w'):o.wpIn (FO r) 0 P a w next Q:=by
 unfold Oper.wpIn;rw[Oper.semAt_eq _ _ _ u,h,Oper.uponIn_skip];exact⟨uB,B⟩
def Ky{P:Program}{m:Sem Value}{w w':World}{v:Value}(h:m.run P w=.ok v w') :
  (do pure (.value (<- m)):Sem Next).run P w=.ok (.value v) w':=by simp_all
def amp{P:Program}{m:Sem Unit}{w w':World}(h:m.run P w=.ok () w') :
  (do m;pure .skip:Sem Next).run P w=.ok .skip w':=by simp_all
theorem Du{α β:Type}(f:α->β)(l:Array α):(l.toList.map f).toArray=l.map f:=by
 grind
def eqG(t:TypeId)(x y:Operand)(a b:Value):Sem Unit:=
 match a,b with
 | .nilIface,.nilIface=>if (Vy x||Vy y)=true then pure ()else do
   if <- Op.eqGuardIn Op.maxDepth t a b then unsupported (.noEntry "binop/eql: two nil values of an interface type with methods, neither of them the literal nil")
 | .agg _,.agg _=>do
  if !(<- program).eqGuardType (<- program).depth t then return
  if <- Op.eqGuardIn Op.maxDepth t a b then unsupported (.noEntry "binop/eql: two nil values of an interface type with methods, in a part of a struct or an array")
 | _,_=>pure ()
def CH{P:Program}{op:BinOp}(B:op=.eql\/op=.neq){t:TypeId}{x y:Operand}{a b:Value}{w w':World}{v:Value}
  (h:(abP op t (Vy x) (Vy y) a b).run P w=.ok v w'):(eqGuard op t x y a b).run P w=.ok () w/\(binOp op t a b).run P w=.ok v w':=by
 have u:eqGuard op t x y a b=eqG t x y a b:=by rcases B with rfl|rfl<;>cases x<;>cases y<;>rfl
 rw[u]
 clear u
 unfold eqG
 unfold abP at h
 split at h
 .split at h
  .simp_all
  simp_all
 .rename_i c1 c2
  have E : (if P.eqGuardType P.depth t then stuck "an interface in a part" else binOp op t (.agg c1) (.agg c2) : Sem Value).run P w=.ok v w' := h
  split at E
  .simp_all
  simp_all
 simp_all
def Kz{P:Program}{op:BinOp}{t:TypeId}{x y:Operand}{a b:Value}{w w':World}{v:Value}
  (h:(kq op t (Vy x) (Vy y) a b).run P w=.ok v w'):(do eqGuard op t x y a b;binOp op t a b:Sem Value).run P w=.ok v w':=by
 unfold kq at h
 split at h
 .obtain⟨h1,h2⟩:=CH (.inl rfl) h
  simp_all
 .obtain⟨h1,h2⟩:=CH (.inr rfl) h
  simp_all
 rename_i n1 n2
 have h1:(eqGuard op t x y a b).run P w=.ok () w:=by
  unfold eqGuard
  simp_all
 simp_all
theorem GU.wp{r:Option Nat}{ds:List Nat}{P:Program}{n:Nat}{o:Oper}{e:Env}{a:Act}{w:World}{K:Value->hM}{Q:Exit->Act->hM}{next:Act->hM}
  (ha:jE ds n e a) (h:GU P (Al P o (ev e)) K w) (I:∀v w',K v w'->next (a.put o.dst v) w'):o.wpIn (FO r) 0 P a w next Q:=by
 have B:=ha.eval
 have G:∀c,o.op≠.defer c:=λc hc=>by unfold Al at h;rw[hc]at h;exact h
 have V:∀{m:Sem Value},eU P m (λv=>K v w)->execOp (ev e) o=(do pure (.value (<- m)):Sem Next)->o.wpIn (FO r) 0 P a w next Q:=λO J=>by
  obtain⟨v,h1,h2⟩:=O.ex
  exact kL (w':=w) G (by rw[B,J];exact Ky (fZ h1 w)) (I _ _ h2)
 have Y:∀{m:Sem Value},Kn P m w (λv=>K v w)->execOp (ev e) o=(do pure (.value (<- m)):Sem Next)->o.wpIn (FO r) 0 P a w next Q:=λO J=>by
  obtain⟨v,h1,h2⟩:=O.ex
  exact kL (w':=w) G (by rw[B,J];exact Ky h1) (I _ _ h2)
 have E:∀{m:Sem Value},rR P m w K->execOp (ev e) o=(do pure (.value (<- m)):Sem Next)->o.wpIn (FO r) 0 P a w next Q:=λO J=>by
  obtain⟨v,w',h1,h2⟩:=O.ex
  exact kL G (by rw[B,J];exact Ky h1) (I _ _ h2)
 have U:∀{m:Sem Unit},Vx P m w (λw'=>K undef w')->execOp (ev e) o=(do m;pure .skip:Sem Next)->o.wpIn (FO r) 0 P a w next Q:=λO J=>by
  obtain⟨w',h1,h2⟩:=O.ex
  exact OA G (by rw[B,J];exact amp h1) (I _ _ h2)
 unfold Al at h
 cases ko:o.op with
 | move x=>rw[ko]at h;exact kL (w':=w) G (by rw[B];simp only[execOp,ko];rfl) (I _ _ h)
 | assign x=>rw[ko]at h;exact kL (w':=w) G (by rw[B];simp only[execOp,ko];rfl) (I _ _ h)
 | pick c x y=>
  rw[ko]at h
  obtain⟨v,h1,h2⟩:=h.ex
  refine kL (w':=w) G ?_ (I _ _ h2)
  rw[B];simp only[execOp,ko]
  have:=fZ h1 w
  unfold VU at this
  revert this
  cases ev e c<;>simp only[asBool]<;>intro this<;>first|(simp only[stuck]at this;exact absurd this (by simp[Sem.run]))|skip
  case bool t=>
   have e2:v=(if t=true then ev e x else ev e y):=by
    have:(Result.ok (if t=true then ev e x else ev e y) w:Result Value)=.ok v w:=this
    simpa using this.symm
   rw[e2];rfl
 | alloc t=>rw[ko]at h;exact E h (by simp only[execOp,ko])
 | box t x=>rw[ko]at h;exact E h (by simp only[execOp,ko])
 | build t ps=>rw[ko]at h;exact V h (by simp only[execOp,ko,Du])
 | buildSlice t n ps=>rw[ko]at h;exact E h (by simp only[execOp,ko,Du])
 | insert t m k x=>rw[ko]at h;exact U h (by simp only[execOp,ko])
 | load t x=>rw[ko]at h;exact Y h (by simp only[execOp,ko])
 | store t x y=>rw[ko]at h;exact U h (by simp only[execOp,ko])
 | nilCheck x=>
  rw[ko]at h
  obtain⟨v,h1,h2⟩:=h.ex
  refine kL (w':=w) G ?_ (I _ _ h2)
  rw[B];simp only[execOp,ko]
  revert h1
  cases J:ev e x with
  | pointer p=>cases p<;>simp[TE,stuck,pr,fS]<;>(try(rintro rfl;rfl))
  | func fn f c=>cases fn<;>simp[TE,stuck,pr,fS]<;>(try(rintro rfl;rfl))
  | _=>simp[TE,stuck,pr,fS]<;>(try(rintro rfl;rfl))
 | binOp op t x y u=>
  rw[ko]at h
  dsimp only at h
  split at h
  .obtain⟨v,h1,h2⟩:=h.ex
   exact kL (w':=w) G (by rw[B];simp only[execOp,ko];exact Ky (Kz h1)) (I _ _ h2)
  .obtain⟨v,h1,h2⟩:=h.ex
   exact kL (w':=w) G (by rw[B];simp only[execOp,ko];exact Ky (Kz (fZ h1 w))) (I _ _ h2)
 | unOp op t x=>rw[ko]at h;exact V h (by simp only[execOp,ko])
 | convert s d x=>
  rw[ko]at h
  dsimp only at h
  split at h
  .exact V h (by simp only[execOp,ko])
  .exact Y h (by simp only[execOp,ko])
  .exact E h (by simp only[execOp,ko])
 | makeInterface t x=>rw[ko]at h;exact Y h (by simp only[execOp,ko])
 | makeFunc fn f c=>rw[ko]at h;exact kL (w':=w) G (by rw[B];simp only[execOp,ko,<- Du];rfl) (I _ _ h)
 | makeMap t r=>rw[ko]at h;exact E h (by simp only[execOp,ko])
 | makeSlice t l c=>rw[ko]at h;exact E h (by simp only[execOp,ko])
 | slice t x lo hi mx=>rw[ko]at h;exact V h (by simp only[execOp,ko])
 | fieldAddr s x f=>rw[ko]at h;exact V h (by simp only[execOp,ko])
 | field t x f=>rw[ko]at h;exact V h (by simp only[execOp,ko])
 | indexAddr t x i=>rw[ko]at h;exact V h (by simp only[execOp,ko])
 | index t x i=>rw[ko]at h;exact V h (by simp only[execOp,ko])
 | lookup t x i ok=>rw[ko]at h;exact Y h (by simp only[execOp,ko])
 | mapUpdate t m k x=>rw[ko]at h;exact U h (by simp only[execOp,ko])
 | mapEntry t m k=>rw[ko]at h;exact E h (by simp only[execOp,ko])
 | entryStore t m s x=>rw[ko]at h;exact U h (by simp only[execOp,ko])
 | range t x=>rw[ko]at h;exact E h (by simp only[execOp,ko])
 | next it s=>rw[ko]at h;exact E h (by simp only[execOp,ko])
 | entry it=>rw[ko]at h;exact Y h (by simp only[execOp,ko])
 | typeAssert x t u ok=>rw[ko]at h;exact Y h (by simp only[execOp,ko])
 | extract t i=>rw[ko]at h;exact V h (by simp only[execOp,ko])
 | call c=>
  rw[ko]at h
  dsimp only at h
  have M:(c.args.toList.map (ev e)).toArray=c.args.map (ev e):=Du _ _
  cases hc:c.callee with
  | value x=>
   rw[hc]at h
   have W:∀{g:FuncId}{first cap:Array Value},ev e x=.func (.func g) first cap->Plain P g->Calls P g (first++(c.args.toList.map (ev e)).toArray++cap) w (ub K)->o.wpIn (FO r) 0 P a w next Q:=by
    intro g first cap J O j7
    unfold Oper.wpIn
    rw[Oper.semAt_eq _ _ _ G]
    have hr:(execOp a.eval o).run P w=.ok (.enter g (first++(c.args.toList.map (ev e)).toArray++cap)) w:=by
     rw[B]
     simp only[execOp,ko]
     have h1:(resolve (ev e) c o.type).run P w=.ok {target:=.fn (.func g) cap,args:=first++c.args.map (ev e)} w:=by
      simp only[resolve,hc,J];rfl
     rw[eL h1]
     show(callFunc g (first++c.args.map (ev e)++cap)).run P w=_
     rw[Ak O,M]
    rw[hr]
    exact⟨uB,Kx j7 λv w' hv=>I v w' hv⟩
   have hyl:∀{l:Nat},ev e x=.func (.yield l) #[] #[]->YieldAt (FO none) 0 P l (c.args.toList.map (ev e)).toArray w (ub K)->o.wpIn (FO r) 0 P a w next Q:=by
    rintro l J ⟨fn,tmps,assign,body,hy,hr⟩
    unfold Oper.wpIn
    rw[Oper.semAt_eq _ _ _ G]
    have Z:(execOp a.eval o).run P w=.ok (.round l fn tmps assign body) w:=by
     rw[B]
     simp only[execOp,ko]
     have h1:(resolve (ev e) c o.type).run P w=.ok {target:=.fn (.yield l) #[],args:=#[]++c.args.map (ev e)} w:=by
      simp only[resolve,hc,J];rfl
     rw[eL h1]
     show(Instr.yield l (#[]++c.args.map (ev e))).run P w=_
     rw[Xt,<- M];exact hy
    rw[Z]
    exact⟨uB,Gr hr λv w' hv=>I v w' hv⟩
   have wJ:kK P (ev e x) (c.args.toList.map (ev e)) w K->o.wpIn (FO r) 0 P a w next Q:=λh=>by
    rcases h.ex with⟨g,first,cap,h1,h2,h3⟩|⟨l,h1,h2⟩
    .exact W h1 h2 h3
    .exact hyl h1 h2
   cases x with
   | func f=>
    rcases h.ex with⟨h1,h2⟩|⟨v,w',h1,h2⟩
    .exact W (g:=f) (first:=#[]) (cap:=#[]) rfl h1 (by simpa using h2)
    .refine kL G ?_ (I _ _ h2)
     rw[B]
     simp only[execOp,ko]
     have h3:(resolve (ev e) c o.type).run P w=.ok {target:=.fn (.func f) #[],args:=#[]++c.args.map (ev e)} w:=by
      simp only[resolve,hc,ev];rfl
     rw[eL h3]
     show(callFunc f (#[]++c.args.map (ev e)++#[])).run P w=_
     rw[<- M,Xt,Array.append_empty]
     exact h1
   | tmp t=>exact wJ h
   | const v=>exact wJ h
   | global g=>exact wJ h
  | invoke r nm=>rw[hc]at h;exact h.elim
  | builtin b=>
   rw[hc]at h
   dsimp only at h
   have hb:∀{m:Sem Value},builtin b c.argTypes o.type (c.args.map fun|.const _=>true|_=>false) (c.args.map (ev e))=(do pure (.value (<- m)):Sem Next)->
     execOp (ev e) o=(do pure (.value (<- m)):Sem Next):=by
    intro m hm
    simp only[execOp,ko]
    have h1:resolve (ev e) c o.type=pure {target:=.builtin b c.argTypes o.type (c.args.map fun|.const _=>true|_=>false),args:=c.args.map (ev e)}:=by
     simp only[resolve,hc];rfl
    rw[h1]
    exact hm
   rw[M]at h
   cases b<;>first|exact h.elim|skip
   case len=>
    dsimp only at h
    split at h
    .exact Y h (hb rfl)
    .exact V h (hb rfl)
   case cap=>exact V h (hb rfl)
   case min=>exact V h (hb rfl)
   case max=>exact V h (hb rfl)
   case append=>exact E h (hb rfl)
   case copy=>exact E h (hb rfl)
   case clear=>exact E h (hb rfl)
   case delete=>exact E h (hb rfl)
 | _=>rw[ko]at h;exact h.elim
def pre(o:Oper):List Nat:=(o.after.toList.filter λe=>Region.binds .any e).map (·.on)
def BR(u:List Oper)(j:Nat):Option Nat:=(u[j]?).bind (·.dst)
def looks(u:List Oper)(o:Oper):List Nat:=
 (o.op.operands.toList.filterMap fun|.tmp t=>some t|_=>none)++(match o.guard with|some (j,_)=>(BR u j).toList|none=>[])
def oR(u:List Oper)(o:Oper)(e:Env):Bool:=
 match o.guard with
 | none=>true
 | some (j,b)=>match BR u j with
  | none=>false
  | some s=>match e s with
   | .bool B=>B == b
   | _=>false
theorem GV{ds:List Nat}{n:Nat}{e:Env}{a:Act}(h:jE ds n e a)(u:List Oper)(o:Oper):Region.wanted o (yielded u.toArray a.tmps)=oR u o e:=by
 unfold Region.wanted oR
 cases o.guard with
 | none=>rfl
 | some g=>
  obtain⟨j,b⟩:=g
  simp only[yielded,BR,PV]
  cases (u[j]?).bind (·.dst)with
  | none=>simp
  | some s=>
   have B:=h.get s
   simp only[nj]
   rw[<- B,E9]
   cases a.tmps[s]? with
   | none=>simp[undef]
   | some v=>grind
theorem TG{P:Program}{o:Oper}{ρ ρ':Operand->Value}(h:∀x∈o.op.operands,ρ x=ρ' x):Al P o ρ=Al P o ρ':=by
 unfold Al
 cases ko:o.op<;>rw[ko]at h<;>simp only[Op.operands]at h<;>dsimp only
 case call c=>
  have G:∀x∈c.args,ρ x=ρ' x:=λx E=>h x (by simp[Call.operands,E])
  have B:c.args.toList.map ρ=c.args.toList.map ρ':=CI λx E=>G x cL
  rw[B]
  cases hc:c.callee with
  | value x=>
   have E:ρ x=ρ' x:=h x (by simp[Call.operands,hc])
   grind
  | _=>rfl
 case build t ps=>
  have B:(ps.toList.map λq=>(q.1,ρ q.2))=ps.toList.map λq=>(q.1,ρ' q.2):=
   CI λq I=>cL
  grind
 case buildSlice t n ps=>
  have B:(ps.toList.map λq=>(q.1,ρ q.2))=ps.toList.map λq=>(q.1,ρ' q.2):=
   CI λq I=>cL
  grind
 case makeFunc fn f c=>
  simp_all
 case makeMap t r=>
  have:r.map ρ=r.map ρ':=by cases r with|none=>rfl|some x=>grind
  grind
 case slice t x lo hi mx=>
  have J:ρ x=ρ' x:=h x ee
  have h1:lo.map ρ=lo.map ρ':=by cases lo with|none=>rfl|some y=>grind
  have h2:hi.map ρ=hi.map ρ':=by cases hi with|none=>rfl|some y=>grind
  have h3:mx.map ρ=mx.map ρ':=by cases mx with|none=>rfl|some y=>grind
  grind
 case load t x=>grind
 case store t x y=>grind
 case pick c x y=>grind
 case binOp op t x y u=>grind
 case insert t m k x=>grind
 case mapUpdate t m k x=>grind
 case entryStore t m k x=>grind
 case mapEntry t m k=>grind
 case lookup t m k ok=>grind
 case indexAddr t m k=>grind
 case index t m k=>grind
 case makeSlice t m k=>grind
 all_goals grind
def ahw{e:Env}{d:Nat}{v:Value}{x:Operand}(h:x≠.tmp d):ev (Af e d v) x=ev e x:=by
 cases x<;>simp only[ev]
 case tmp t=>exact oQ _ _ λu=>h (by rw[u])
theorem Dv{P:Program}{B:List Oper}{o:Oper}{e:Env}{d:Option Nat}{v:Value}(h:∀k,d=some k->k ∉ looks B o) :
  Al P o (ev (jZ e d v))=Al P o (ev e):=by
 cases d with
 | none=>rfl
 | some d=>
  refine TG λx E=>ahw λu=>h d rfl ?_
  subst u
  exact List.mem_append_left _ (Qm.2 ⟨.tmp d,cL,rfl⟩)
theorem yb{u:List Oper}{o:Oper}{e:Env}{d:Option Nat}{v:Value}(h:∀k,d=some k->k ∉ looks u o) :
  oR u o (jZ e d v)=oR u o e:=by
 cases d with
 | none=>rfl
 | some d=>
  have h:=h d rfl
  unfold oR
  unfold looks at h
  cases hg:o.guard with
  | none=>rfl
  | some g=>
   obtain⟨j,b⟩:=g
   rw[hg]at h
   dsimp only at h |-
   cases hs:BR u j with
   | none=>rfl
   | some s=>
    rw[hs]at h
    have:s≠d:=λB=>h (by simp[B])
    simp only[jZ,oQ _ _ this]
def VW(u:List Oper)(x y:Oper):Prop:=
 (∀d,x.dst=some d->d ∉ looks u y/\y.dst≠some d)/\(∀d,y.dst=some d->d ∉ looks u x)
theorem TH{e:Env}{d u:Option Nat}{v B:Value}(h:∀k,d=some k->u≠some k):jZ (jZ e d v) u B=jZ (jZ e u B) d v:=by
 cases d with
 | none=>rfl
 | some d=>cases u with
  | none=>rfl
  | some u=>exact VT _ _ _ λE=>h d rfl (by rw[E])
def Dw(P:Program)(u:List Oper)(o:Oper)(K:Env->hM)(e:Env)(w:World):Prop:=
 if oR u o e=true then GU P (Al P o (ev e)) (λv w'=>K (jZ e o.dst v) w') w else K (jZ e o.dst undef) w
def Dw.mono{P:Program}{u:List Oper}{o:Oper}{K B:Env->hM}{e:Env}{w:World}(h:Dw P u o K e w)
  (E:∀v w',K (jZ e o.dst v) w'->B (jZ e o.dst v) w'):Dw P u o B e w:=by
 unfold Dw at *
 split
 .rename_i hw;rw[ej hw]at h;exact h.mono λv w'=>E v w'
 grind
def OB(u:List Oper)(L:Nat->Bool)(i:Nat):Prop:=L i=false/\∃o,u[i]?=some o/\∀p∈pre o,L p=true
def mn(L:Nat->Bool)(i:Nat):Nat->Bool:=λk=>if k=i then true else L k
def Down(u:List Oper)(L:Nat->Bool):Prop:=∀i o,L i=true->u[i]?=some o->∀p∈pre o,L p=true
def TI(L:Nat->Bool)(i:Nat):mn L i i=true:=by simp[mn]
theorem Rj(L:Nat->Bool){i k:Nat}(h:k≠i):mn L i k=L k:=by simp[mn,h]
def IF(L:Nat->Bool)(i:Nat){k:Nat}(h:L k=true):mn L i k=true:=by unfold mn;grind
theorem TJ(L:Nat->Bool)(i j:Nat):mn (mn L i) j=mn (mn L j) i:=by
 grind[mn]
def Down.set{u:List Oper}{L:Nat->Bool}{i:Nat}(h:Down u L)(J:OB u L i):Down u (mn L i):=by
 intro k o B I p E
 by_cases e:k=i
 .subst e
  obtain⟨_,O,G,M⟩:=J
  grind[mn]
 rw[Rj _ e]at B
 exact IF _ _ (h k o B I p E)
def OB.set{u:List Oper}{L:Nat->Bool}{i j:Nat}(h:OB u L j)(I:j≠i):OB u (mn L i) j:=
 ⟨by rw[Rj _ I];exact h.1,let ⟨o,G,B⟩:=h.2;⟨o,G,λp E=>IF _ _ (B p E)⟩⟩
inductive OC(ops:List Oper):Nat->Nat->Prop
 | one {j i:Nat}{o:Oper}(h:ops[j]?=some o) (hp:i∈pre o):OC ops j i
 | more {j p i:Nat}{o:Oper}(h:ops[j]?=some o) (hp:p∈pre o) (hd:OC ops p i):OC ops j i
theorem OC.listed{u:List Oper}{L:Nat->Bool}(E:Down u L){j i:Nat}(h:OC u j i):(∀o,u[j]?=some o->∀p∈pre o,L p=true)->L i=true:=by
 induction h with
 | one h B=>grind
 | more h B O J=>intro I;exact J λo M q G=>E _ o (I _ h _ B) M q G
def OC.Gt{u:List Oper}{L:Nat->Bool}(B:Down u L){j i:Nat}(h:OC u j i)(G:OB u L j):L i=true:=
 h.listed B λo M p J=>by obtain⟨_,O,E,I⟩:=G;grind
def WS(P:Program)(u:List Oper)(Q:Env->hM)(S:Nat->hM):Nat->(Nat->Bool)->Env->hM
 | 0,L,e,w=>(∀i,¬ OB u L i)/\Q e w
 | f+1,L,e,w=>((∀i,¬ OB u L i)->Q e w)/\
   ∀i o,u[i]?=some o->OB u L i->Dw P u o (λB w'=>(w'=w\/S i w')/\WS P u Q S f (mn L i) B w') e w
theorem WS.weaken{P:Program}{u:List Oper}{Q:Env->hM}{S E:Nat->hM}(h:∀i w,S i w->E i w) :
  ∀(f:Nat) (_L:Nat->Bool) (_e:Env) (_w:World),WS P u Q S f _L _e _w->WS P u Q E f _L _e _w
 | 0,_,_,_,B=>B
 | f+1,L,e,w,B=>⟨B.1,λi o I G=>(B.2 i o I G).mono λ_ _ ⟨h1,h2⟩=>⟨h1.imp id (h _ _),WS.weaken h f _ _ _ h2⟩⟩
theorem WS.first{P:Program}{B:List Oper}{Q:Env->hM}{S:Nat->hM}{i:Nat}{G:Oper}{X:Eb}{b:Bool}{v:Value}
  (hi:B[i]?=some G) (hn:b=false->v=undef) :
  ∀(f:Nat) (L:Nat->Bool) (e:Env) (w:World),Down B L->OB B L i->
   (∀j E,B[j]?=some E->j≠i->L j=false->i ∉ pre E->VW B G E)->
   Al P G (ev e)=X->oR B G e=b->(b=true->X.has P w v)->
   WS P B Q (λj w'=>S j w'/\(OC B j i\/(b=true->X.has P w' v))) f (mn L i) (jZ e G.dst v) w->WS P B Q S (f+1) L e w:=by
 have done:∀(K:Env->hM) (e:Env) (w:World),Al P G (ev e)=X->oR B G e=b->(b=true->X.has P w v)->K (jZ e G.dst v) w->Dw P B G K e w:=by
  intro K e w hX hb hy J
  unfold Dw
  rw[hb]
  cases b with
  | true=>rw[ej rfl,hX];exact GU.VV (hy rfl) J
  | false=>grind
 have sub:∀{f:Nat}{L:Nat->Bool}{e:Env}{w:World},WS P B Q (λj w'=>S j w'/\(OC B j i\/(b=true->X.has P w' v))) f L e w->WS P B Q S f L e w:=
  λh=>WS.weaken (λ_ _ h=>h.1) _ _ _ _ h
 intro f
 induction f with
 | zero=>
  intro L e w hL U Rk hX hb hy H
  refine⟨λh=>absurd U (h i),λj E Rl M=>?_⟩
  by_cases I:j=i
  .grind
  .exact absurd (M.set I) (H.1 j)
 | succ f ih=>
  intro L e w hL U Rk hX hb hy H
  refine⟨λh=>absurd U (h i),λj E Rl M=>?_⟩
  by_cases I:j=i
  .grind
  .have eH:i ∉ pre E:=λhp=>by
    obtain⟨_,Y,W,wK⟩:=M.2.elim λY h=>(⟨trivial,Y,h.1,h.2⟩:True/\∃Y,B[j]?=some Y/\∀p∈pre Y,L p=true)
    rw[Rl]at W;cases W
    have:=wK i hp
    rw[U.1]at this;cases this
   have O:=Rk j E Rl I M.1 eH
   have amq:¬ OC B j i:=λhd=>by
    have:=hd.Gt hL M
    rw[U.1]at this;cases this
   have h1:=H.2 j E Rl (M.set I)
   have V:∀k,G.dst=some k->k ∉ looks B E:=λk J=>(O.1 k J).1
   have Z:∀k,E.dst=some k->k ∉ looks B G:=λk J=>O.2 k J
   have dd:∀k,G.dst=some k->E.dst≠some k:=λk J=>(O.1 k J).2
   have cont:∀(u:Value) (w':World),(w'=w\/(S j w'/\(OC B j i\/(b=true->X.has P w' v))))->
     WS P B Q (λj w'=>S j w'/\(OC B j i\/(b=true->X.has P w' v))) f (mn (mn L i) j) (jZ (jZ e G.dst v) E.dst u) w'->
     (w'=w\/S j w')/\WS P B Q S (f+1) (mn L j) (jZ e E.dst u) w':=by
    intro u w' hw hWS
    refine⟨hw.imp id λh=>h.1,?_⟩
    refine ih (mn L j) (jZ e E.dst u) w' (hL.set M) (U.set (Ne.symm I)) ?_ ?_ ?_ ?_ ?_
    .grind[mn,pre,VW]
    .rw[Dv Z];exact hX
    .rw[yb Z];exact hb
    .grind
    .rw[TJ,TH λk J=>cL]
     exact hWS
   unfold Dw at h1 |-
   rw[yb V]at h1
   split
   .rename_i hw
    rw[ej hw,Dv V]at h1
    exact h1.mono λu w' hh=>cont u w' hh.1 hh.2
   grind
def wr(u:List Oper):List Nat:=u.filterMap (·.dst)
def VX{u:List Oper}{i:Nat}{o:Oper}{d:Nat}(h:u[i]?=some o)(B:o.dst=some d):d∈wr u:=
 Qm.2 ⟨o,List.mem_of_getElem? h,B⟩
theorem zx{e e0:Env}{u:List Oper}{i:Nat}{o:Oper}(h:∀k,k ∉ wr u->e k=e0 k)(E:u[i]?=some o)(v:Value) :
  ∀k,k ∉ wr u->jZ e o.dst v k=e0 k:=by
 intro k B
 cases hd:o.dst with
 | none=>exact h k B
 | some d=>
  have:k≠d:=λG=>B (by rw[G];exact VX E hd)
  simp only[jZ,oQ _ _ this]
  grind
def Dw.wpOp{r:Option Nat}{ds:List Nat}{P:Program}{n:Nat}{u:List Oper}{i:Nat}{o:Oper}{K:Env->hM}{E:Act->hM}{M:Exit->Act->hM}{e:Env}{a:Act}{w:World}
  (U:u[i]?=some o) (I:∀k,o.dst=some k->k<n) (B:jE ds n e a) (h:Dw P u o K e w)
  (J:∀v G w',jE ds n (jZ e o.dst v) G->K (jZ e o.dst v) w'->E G w'):wpOpIn (FO r) 0 P u.toArray M i E a w:=by
 unfold Go.wpOpIn
 simp only[PV,U]
 rw[GV B]
 unfold Dw at h
 split
 .rename_i hw
  rw[ej hw]at h
  exact GU.wp B h λv w' O=>J v _ _ (B.put I v) O
 rename_i hw
 rw[ei hw]at h
 exact⟨uB,J undef _ _ (B.put I undef) h⟩
theorem WS.any{r:Option Nat}{ds:List Nat}{P:Program}{n:Nat}{u:List Oper}{Q:Env->hM}{V:Exit->Act->hM}{S:Nat->hM}{e0:Env}
  (hd:∀d∈wr u,d<n) (Y:∀e a w,jE ds n e a->(∀k,k ∉ wr u->e k=e0 k)->Q e w->V .normal a w) :
  ∀(f:Nat) (L:Nat->Bool) (listed:Array Bool) (e:Env) (a:Act) (w:World),jE ds n e a->(∀k,k ∉ wr u->e k=e0 k)->listed.size=u.length->
   (∀i,listed.getD i false=L i)->WS P u Q S f L e w->wpAnyIn (FO r) 0 P .any u.toArray V f listed a w:=by
 have B:∀(L:Nat->Bool) (listed:Array Bool) (_:listed.size=u.length) (_:∀i,listed.getD i false=L i) (i:Nat),
   i∈Region.ready .any u.toArray listed↔OB u L i:=by
  intro L listed G E i
  rw[mem_ready]
  have W:∀o,u[i]?=some o->listed.getD i true=L i:=λo I=>by
   grind
  unfold OB pre
  grind
 intro f
 induction f with
 | zero=>
  intro L listed e a w M J G E h
  refine⟨?_,Y e a w M J h.2⟩
  cases U:Region.ready .any u.toArray listed with
  | nil=>rfl
  | cons i r=>exact absurd ((B L listed G E i).1 cL) (h.1 i)
 | succ f ih=>
  intro L listed e a w M J G E h
  refine⟨λhn=>Y e a w M J (h.1 λi hi=>?_),λi hi=>?_⟩
  .have:=(B L listed G E i).2 hi
   grind
  .have U:=(B L listed G E i).1 hi
   obtain⟨o,I,_⟩:=U.2
   refine Dw.wpOp I (λk hk=>hd k (VX I hk)) M (h.2 i o I U) λv Z w' IG hh=>?_
   refine ih (mn L i) _ _ Z w' IG (zx J I v) cL (λk=>?_) hh.2
   have nS:i<listed.size:=cL
   have O:=E k
   simp only[E9]at O |-
   grind[mn]
def WS.region{r:Option Nat}{ds:List Nat}{P:Program}{n:Nat}{id:Nat}{u:List Oper}{Q:Env->hM}{E:Exit->Act->hM}{S:Nat->hM}{e:Env}{a:Act}{w:World}
  (G:P.follows .mixedOrders=true) (J:∀d∈wr u,d<n) (I:jE ds n e a)
  (M:∀B a w,jE ds n B a->(∀k,k ∉ wr u->B k=e k)->Q B w->E .normal a w)
  (h:WS P u Q S u.length (λ_=>false) e {w with drawn:=w.drawn+1}):(abD id u.toArray true).wpIn (FO r) 0 P E a w:=by
 refine wpIn_region_any G ?_
 rw[Mu]
 refine WS.any J M u.length (λ_=>false) _ e a _ I (λ_ _=>rfl) ee (λi=>?_) h
 simp only[E9,Array.getElem?_replicate]
 grind
def lk(s:Nat):List (Nat×Option Bool)->Option (Option Bool)
 | []=>none
 | q::r=>bif D0 q.1 s then some q.2 else lk s r
def IH(d:Nat):List (Nat×Option Bool)->List (Nat×Option Bool)
 | []=>[]
 | q::r=>bif D0 q.1 d then IH d r else q::IH d r
def del(d:Option Nat)(u:List (Nat×Option Bool)):List (Nat×Option Bool):=match d with|none=>u|some d=>IH d u
def Dx(u:List (Nat×Option Bool)):Operand->Option Bool
 | .const (.bool b)=>some b
 | .tmp t=>match lk t u with|some b=>b|none=>none
 | _=>none
def afo(u:List (Nat×Option Bool)):Op->Option Operand
 | .move x=>some x
 | .assign x=>some x
 | .pick (.tmp c) a b=>match lk c u with|some (some t)=>some (bif t then a else b)|_=>none
 | _=>none
def VY(u:List (Nat×Option Bool))(d:Option Nat)(x:Operand):List (Nat×Option Bool):=
 match d,Dx u x with
 | some d,some b=>(d,some b)::IH d u
 | d,_=>del d u
def ofK:Option Bool->Value|some b=>.bool b|none=>undef
def kF(u:List (Nat×Option Bool))(e:Env):Prop:=∀s b,lk s u=some b->e s=ofK b
theorem Ec(n:Nat):D0 n n=true:=Nat.beq_refl n
theorem BS{a b:Nat}(h:a≠b):D0 a b=false:=by
 cases hh:D0 a b
 .rfl
 simp_all
theorem abU(s d:Nat)(u:List (Nat×Option Bool)):lk s (IH d u)=if s=d then none else lk s u:=by
 induction u with
 | nil=>simp[IH,lk]
 | cons q r B=>
  simp only[IH,lk]
  by_cases h1:q.1=d
  .rw[h1,Ec,cond_true,B]
   by_cases h2:s=d
   .simp[h2]
   .rw[ei h2,ei h2,BS (λE=>h2 E.symm),cond_false]
  .rw[BS h1,cond_false]
   simp only[lk,B]
   by_cases h2:q.1=s
   .grind
   .rw[BS h2,cond_false,cond_false]
def kF.nil(e:Env):kF [] e:=λs b h=>by simp[lk]at h
theorem kF.del{E:List (Nat×Option Bool)}{e:Env}(h:kF E e)(d:Option Nat)(v:Value):kF (del d E) (jZ e d v):=by
 cases d with
 | none=>exact h
 | some d=>
  intro s b B
  simp only[Fw.del,abU]at B
  by_cases u:s=d
  .simp[u]at B
  .rw[ei u]at B
   simp only[jZ,oQ _ _ u]
   exact h s b B
def kF.cons{B:List (Nat×Option Bool)}{e:Env}(h:kF B e){s:Nat}{b:Option Bool}(E:e s=ofK b):kF ((s,b)::B) e:=by
 intro s' G u
 simp only[lk]at u
 by_cases h1:s=s'
 .subst h1;rw[Ec,cond_true]at u;cases u;exact E
 rw[BS h1,cond_false]at u;exact h _ _ u
theorem kF.known{E:List (Nat×Option Bool)}{e:Env}(h:kF E e){x:Operand}{b:Bool}(B:Dx E x=some b):ev e x=.bool b:=by
 cases x with
 | tmp t=>
  have u:(match lk t E with|some b=>b|none=>none)=some b:=B
  split at u
  .rename_i b' hb;subst u;exact h t _ hb
  grind
 | const v=>cases v<;>simp[Dx]at B;simp[ev,B]
 | _=>simp[Dx]at B
def kF.aft{u:List (Nat×Option Bool)}{e:Env}(h:kF u e)(d:Option Nat)(x:Operand):kF (VY u d x) (jZ e d (ev e x)):=by
 unfold VY
 split
 .rename_i d b hb
  have h1:=h.del (some d) (ev e x)
  exact kF.cons (b:=some b) h1 (by simp only[jZ,ny];exact h.known hb)
 exact h.del _ _
def uC(P:Program)(u:List Oper)(r:Oper)(e:Env)(w:World)(R:Prop):Prop:=
 bif oR u r e then(match Al P r (ev e),r.dst with|.q m,some d=>Rh P m (e d) w R|_,_=>False)else R
def Am(P:Program)(u:List Oper):List Oper->Env->World->Prop->Prop
 | [],_,_,R=>R
 | r::ks,e,w,R=>uC P u r e w (Am P u ks e w R)
theorem KA{P:Program}{u:List Oper}{ks:List Oper}{e:Env}{w:World}{R:Prop}:Am P u ks e w R->(∀r∈ks,uC P u r e w True)/\R:=by
 induction ks with
 | nil=>intro h;exact⟨ee,h⟩
 | cons r ks B=>
  intro h
  have:uC P u r e w True/\Am P u ks e w R:=by
   simp only[Am,uC]at h |-
   cases hw:oR u r e with
   | false=>grind
   | true=>
    rw[hw]at h
    simp only[cond_true]at h |-
    cases hk:Al P r (ev e)<;>rw[hk]at h<;>cases hd:r.dst<;>rw[hd]at h<;>first|grind|skip
    exact⟨⟨h.amn,trivial⟩,h.rest⟩
  grind
def Ed(n:Nat)(o:Oper):Bool:=match o.dst with|none=>true|some d=>aa6 d n
def goF(P:Program)(u:List Oper)(o:Oper)(ks:List Oper)(rec:List (Nat×Option Bool)->Env->hM)(B:List (Nat×Option Bool))(e:Env)(w:World):Prop:=
 match afo B o.op with
 | some x=>rec (VY B o.dst x) (jZ e o.dst (ev e x)) w
 | none=>GU P (Al P o (ev e)) (λv w'=>Am P u ks (jZ e o.dst v) w' (rec (del o.dst B) (jZ e o.dst v) w')) w
def skF(o:Oper)(rec:List (Nat×Option Bool)->Env->hM)(u:List (Nat×Option Bool))(e:Env)(w:World):Prop:=
 rec (match o.dst with|some d=>(d,none)::IH d u|none=>u) (jZ e o.dst undef) w
theorem kF.skip{u:List (Nat×Option Bool)}{e:Env}(h:kF u e)(d:Option Nat) :
  kF (match d with|some d=>(d,none)::IH d u|none=>u) (jZ e d undef):=by
 cases d with
 | none=>exact h
 | some d=>exact kF.cons (b:=none) (h.del (some d) undef) (by simp only[jZ,ny];rfl)
def DS(P:Program)(n:Nat)(u:List Oper)(q:Oper×List Oper)(rec:List (Nat×Option Bool)->Env->hM)(B:List (Nat×Option Bool))(e:Env)(w:World):Prop:=
  bif Ed n q.1 then
   match q.1.guard with
   | none=>goF P u q.1 q.2 rec B e w
   | some g=>match BR u g.1 with
    | none=>False
    | some s=>match lk s B with
     | some none=>skF q.1 rec B e w
     | some (some E)=>bif E == g.2 then goF P u q.1 q.2 rec B e w else skF q.1 rec B e w
     | none=>yL (e s)
       (bif g.2 then goF P u q.1 q.2 rec ((s,some true)::B) (Af e s (.bool true)) w else skF q.1 rec ((s,some true)::B) (Af e s (.bool true)) w)
       (bif g.2 then skF q.1 rec ((s,some false)::B) (Af e s (.bool false)) w else goF P u q.1 q.2 rec ((s,some false)::B) (Af e s (.bool false)) w)
  else False
def DR(P:Program)(n:Nat)(u:List Oper):List (Oper×List Oper)->(Env->hM)->List (Nat×Option Bool)->Env->hM
 | [],Q,_,e,w=>Q e w
 | q::rest,Q,kg,e,w=>DS P n u q (DR P n u rest Q) kg e w
def yc{P:Program}{u:List Oper}{o:Oper}{ks:List Oper}{rec:List (Nat×Option Bool)->Env->hM}{G:List (Nat×Option Bool)}{e:Env}{w:World}
  (B:kF G e) (h:goF P u o ks rec G e w) :
  GU P (Al P o (ev e)) (λv w'=>(w'=w\/∀r∈ks,uC P u r (jZ e o.dst v) w' True)/\∃E,kF E (jZ e o.dst v)/\rec E (jZ e o.dst v) w') w:=by
 unfold goF at h
 split at h
 .rename_i x hx
  have I:(Al P o (ev e)).has P w (ev e x):=by
   unfold Al
   cases ko:o.op<;>rw[ko]at hx<;>simp only[afo]at hx<;>first|cases hx|skip
   case move y=>simp only[Eb.has]
   case assign y=>simp only[Eb.has]
   case pick c a b=>
    cases c<;>simp only at hx<;>first|cases hx|skip
    rename_i c
    split at hx
    .rename_i t ht
     cases hx
     have hc:e c=.bool t:=B c _ ht
     simp only[Eb.has,ev,hc,VU]
     cases t<;>rfl
    .cases hx
  exact GU.VV I ⟨.inl rfl,_,B.aft _ _,h⟩
 refine h.mono λv w' J=>?_
 have:=KA J
 exact⟨.inr this.1,_,B.del _ _,this.2⟩
theorem II{P:Program}{n:Nat}{u:List Oper}{q:Oper×List Oper}{rec:List (Nat×Option Bool)->Env->hM}{G:List (Nat×Option Bool)}{e:Env}{w:World}
  (B:kF G e) (h:DS P n u q rec G e w) :
  (∀d,q.1.dst=some d->d<n)/\
  Dw P u q.1 (λV w'=>(w'=w\/∀r∈q.2,uC P u r V w' True)/\∃I,kF I V/\rec I V w') e w:=by
 unfold DS at h
 cases hd:Ed n q.1 with
 | false=>grind
 | true=>
  rw[hd]at h
  refine⟨λd hdd=>by unfold Ed at hd;simp_all,?_⟩
  have U:∀{G:List (Nat×Option Bool)},kF G e->skF q.1 rec G e w->
    (w=w\/∀r∈q.2,uC P u r (jZ e q.1.dst undef) w True)/\∃I,kF I (jZ e q.1.dst undef)/\rec I (jZ e q.1.dst undef) w:=
   λB h=>⟨.inl rfl,_,B.skip _,h⟩
  simp only[cond_true]at h
  unfold Dw
  cases hg:q.1.guard with
  | none=>
   rw[hg]at h
   have O:oR u q.1 e=true:=by unfold oR;rw[hg]
   rw[ej O]
   exact yc B h
  | some g=>
   obtain⟨j,b⟩:=g
   rw[hg]at h
   dsimp only at h
   cases hs:BR u j with
   | none=>rw[hs]at h;exact h.elim
   | some s=>
    rw[hs]at h
    dsimp only at h
    have O:∀t,e s=.bool t->oR u q.1 e=(t == b):=λt ht=>by unfold oR;rw[hg];dsimp only;rw[hs];dsimp only;rw[ht]
    cases hl:lk s G with
    | some Y=>
     rw[hl]at h
     cases Y with
     | none=>
      dsimp only at h
      have Z:oR u q.1 e=false:=by
       unfold oR;rw[hg];dsimp only;rw[hs];dsimp only;rw[B s none hl];rfl
      rw[ei (by rw[Z];simp)]
      exact U B h
     | some W=>
      dsimp only at h
      rw[O W (B s _ hl)]
      cases hb:W == b with
      | true=>rw[hb]at h;rw[ej rfl];exact yc B h
      | false=>rw[hb]at h;rw[ei ee];exact U B h
    | none=>
     rw[hl]at h
     obtain⟨t,ht,J,E⟩:=h.ex
     rw[O t ht]
     have M:∀c,t=c->Af e s (.bool c)=e:=λc hc=>ahv _ _ _ (by rw[ht,hc])
     cases t with
     | true=>
      have J:=J rfl
      rw[M true rfl]at J
      cases b with
      | true=>rw[ej (by rfl)];exact yc (B.cons (b:=some _) ht) J
      | false=>rw[ei ee];exact U (B.cons (b:=some _) ht) J
     | false=>
      have E:=E rfl
      rw[M false rfl]at E
      cases b with
      | true=>rw[ei ee];exact U (B.cons (b:=some _) ht) E
      | false=>rw[ej (by rfl)];exact yc (B.cons (b:=some _) ht) E
theorem DR.list{r:Option Nat}{ds:List Nat}{P:Program}{n:Nat}{u:List Oper}{Q:Env->hM}{V:Exit->Act->hM}{e0:Env}
  (hQ:∀e a w,jE ds n e a->(∀k,k ∉ wr u->e k=e0 k)->Q e w->V .normal a w) :
  ∀(l:List Oper) (J:List (Nat×Option Bool)) (e:Env) (a:Act) (w:World),(∀o∈l,o∈u)->jE ds n e a->(∀k,k ∉ wr u->e k=e0 k)->kF J e->
   DR P n u (l.map λo=>(o,[])) Q J e w->wpListIn (FO r) 0 P u.toArray V l a w:=by
 intro l
 induction l with
 | nil=>intro J e a w _ B I _ h;exact hQ e a w B I h
 | cons o l Z=>
  intro J e a w W B I hk h
  obtain⟨Y,E⟩:=II hk h
  obtain⟨i,hi⟩:=List.getElem?_of_mem (W o o6)
  have G:∀x∈l,x∈u:=λx hx=>W x (r6 _ hx)
  unfold wpListIn
  rw[GV B]
  unfold Dw at E
  split
  .rename_i hw
   rw[ej hw]at E
   exact GU.wp B E λv w' ⟨_,M,U,O⟩=>Z M _ _ w' G (B.put Y v) (zx I hi v) U O
  .rename_i hw
   rw[ei hw]at E
   obtain⟨_,M,U,O⟩:=E
   exact⟨uB,Z M _ _ w G (B.put Y undef) (zx I hi undef) U O⟩
def DR.region{r:Option Nat}{ds:List Nat}{P:Program}{n:Nat}{id:Nat}{u:List Oper}{Q:Env->hM}{E:Exit->Act->hM}{e:Env}{a:Act}{w:World}
  (G:jE ds n e a) (I:∀B a w,jE ds n B a->(∀k,k ∉ wr u->B k=e k)->Q B w->E .normal a w)
  (h:DR P n u (u.map λo=>(o,[])) Q [] e w):(abD id u.toArray false).wpIn (FO r) 0 P E a w:=
 wpIn_region_lit (DR.list I u [] e a w (λ_ h=>h) G (λ_ _=>rfl) (kF.nil e) h)
def OD(P:Program)(o:Oper):Bool:=(Al P o λ_=>undef).quiet
def IJ(P:Program)(o:Oper):Bool:=(Al P o λ_=>undef).reads
theorem KB{P:Program}{o:Oper}(ρ ρ':Operand->Value):(Al P o ρ).quiet=(Al P o ρ').quiet/\(Al P o ρ).reads=(Al P o ρ').reads:=by
 unfold Al
 cases o.op<;>try exact⟨rfl,rfl⟩
 case binOp op t x y u=>dsimp only;split<;>exact⟨rfl,rfl⟩
 case convert s d x=>dsimp only;split<;>exact⟨rfl,rfl⟩
 case call c=>
  dsimp only
  cases c.callee with
  | value x=>cases x<;>exact⟨rfl,rfl⟩
  | invoke r nm=>grind
  | builtin b=>cases b<;>dsimp only<;>first|exact⟨rfl,rfl⟩|(split<;>exact⟨rfl,rfl⟩)
def iN(d:Nat):List Nat->Bool
 | []=>false
 | x::r=>D0 x d||iN d r
theorem An{d:Nat}{l:List Nat}:iN d l=true↔d∈l:=by
 induction l with
 | nil=>simp[iN]
 | cons x r u=>
  simp only[iN,x6,u,s4]
  constructor
  .rintro(h|h)
   .simp_all
   grind
  .rintro(rfl|h)
   .simp_all
   grind
def Rm{d:Nat}{l:List Nat}:iN d l=false↔d ∉ l:=by
 rw[<- An];simp
def eqO(d:Nat):Option Nat->Bool|none=>false|some k=>D0 k d
theorem abW{d:Nat}{o:Option Nat}:eqO d o=true↔o=some d:=by
 cases o with
 | none=>simp[eqO]
 | some k=>simp_all[eqO]
def IK(u:List Oper)(x y:Oper):Bool:=match y.dst with|none=>true|some d=>!iN d (looks u x)&&!eqO d x.dst
def BT{u:List Oper}{x y:Oper}(h:IK u x y=true):∀d,y.dst=some d->d ∉ looks u x/\x.dst≠some d:=by
 intro d B
 unfold IK at h
 rw[B]at h
 simp only[oi,sQ]at h
 exact⟨Rm.1 h.1,λE=>by rw[<- abW]at E;grind⟩
def OE(u:List Oper)(x y:Oper):Bool:=IK u y x&&IK u x y
def KC{u:List Oper}{x y:Oper}(h:OE u x y=true):VW u x y:=by
 simp only[OE,oi]at h
 exact⟨λd B=>BT h.1 d B,λd B=>(BT h.2 d B).1⟩
def BU(f:Nat->Oper->Bool):Nat->List Oper->Bool
 | _,[]=>true
 | k,o::r=>f k o&&BU f (k+1) r
theorem ou{f:Nat->Oper->Bool}{l:List Oper}:∀{k:Nat},BU f k l=true->∀i o,l[i]?=some o->f (k+i) o=true:=by
 induction l with
 | nil=>grind
 | cons x r u=>
  grind[BU]
def C6:List Nat->Nat->Nat
 | [],_=>0
 | x::_,0=>x
 | _::r,n+1=>C6 r n
def GW(u:List Nat):List Nat->Nat
 | []=>0
 | p::r=>PB (PB (KL 1 p) (C6 u p)) (GW u r)
def GX(B:List Oper)(u:List Nat):Bool:=
 BU (λj o=>(pre o).all (λp=>aa6 p j)&&D0 (C6 u j) (GW u (pre o))) 0 B
theorem TK{u l:List Nat}{i:Nat}(h:(GW u l).testBit i=true):∃p∈l,p=i\/(C6 u p).testBit i=true:=by
 induction l with
 | nil=>simp[GW]at h
 | cons p r E=>
  have B:(((1 <<< p) ||| C6 u p) ||| GW u r).testBit i=true:=h
  simp only[U2,x6]at B
  rcases B with(B|B)|B
  .refine⟨p,ee,.inl ?_⟩
   rw[Sl,Ql]at B
   grind
  .grind
  grind
theorem GY{u:List Oper}{B:List Nat}(h:GX u B=true):∀(n j:Nat),j<n->j<u.length->∀i,(C6 B j).testBit i=true->OC u j i:=by
 intro n
 induction n with
 | zero=>omega
 | succ n M=>
  intro j O hlen i hi
  obtain⟨o,E⟩:∃o,u[j]?=some o:=⟨u[j],by simp[hlen]⟩
  have:=ou h j o E
  simp only[u4,oi,GG]at this
  obtain⟨h1,h2⟩:=this
  have h2:=PY h2
  rw[h2]at hi
  obtain⟨p,I,G⟩:=TK hi
  rcases G with rfl|G
  .exact .one E I
  .have J:p<j:=by simp_all
   exact .more E I (M p bO bO i G)
def bit(m i:Nat):Bool:=Nat.testBit m i
def GZ(u:List Oper)(y:Oper):Bool:=match y.dst with|none=>false|some d=>!iN d (looks u y)
theorem OF{u:List Oper}{y:Oper}(h:GZ u y=true):∃d,y.dst=some d/\d ∉ looks u y:=by
 unfold GZ at h
 cases hd:y.dst with
 | none=>grind
 | some d=>rw[hd]at h;exact⟨d,rfl,Rm.1 cL⟩
def VZ(P:Program)(u:List Oper)(B:List Nat)(m i:Nat)(ks:List Nat):Bool:=
 match u[i]? with
 | none=>false
 | some o=>
  !bit m i&&((pre o).all (λp=>bit m p) &&
  (bif OD P o then
   BU (λj y=>D0 j i||(bit m j||(iN i (pre y)||OE u o y))) 0 u
  else
   BU (λj y=>D0 j i||(bit m j||!(pre y).all λp=>bit m p)) 0 u &&
   (BU (λr y=>!bit m r||(!IJ P y||(bit (C6 B i) r||iN r ks))) 0 u &&
   ks.all (λr=>match u[r]? with
    | none=>false
    | some y=>GZ u y&&BU (λj z=>D0 j r||(bit (C6 B r) j||IK u y z)) 0 u))))
inductive PT where
 | nil
 | stop
 | op (i:Nat) (ks:List Nat) (r:PT)
 | alt (i:Nat) (ks:List Nat) (r o:PT)
def PT.of:List (Nat×List Nat)->PT
 | []=>.nil
 | q::r=>.op q.1 q.2 (PT.of r)
def PT.ids:PT->List Nat
 | .alt i _ _ o=>i::o.ids
 | _=>[]
def PT.many:PT->Bool
 | .alt _ _ _ _=>true
 | .op _ _ r=>r.many
 | _=>false
def afq(P:Program)(u:List Oper)(B:List Nat)(m i:Nat)(ks:List Nat):Bool:=
 match u[i]? with
 | none=>false
 | some o=>
  !bit m i&&((pre o).all (λp=>bit m p)&&(!OD P o&&(
   (BU (λr y=>!bit m r||(!IJ P y||(bit (C6 B i) r||iN r ks))) 0 u &&
   ks.all (λr=>match u[r]? with
    | none=>false
    | some y=>GZ u y&&BU (λj z=>D0 j r||(bit (C6 B r) j||IK u y z)) 0 u)))))
def Rn(P:Program)(u:List Oper)(B:List Nat):Bool->Nat->Nat->PT->Bool
 | c,f,m,.nil=>!c&&(D0 f 0&&BU (λj _=>bit m j) 0 u)
 | c,_,_,.stop=>c
 | c,f,m,.op i ks r=>!c&&(match f with|0=>false|E+1=>VZ P u B m i ks&&Rn P u B false E (PB m (KL 1 i)) r)
 | c,f,m,.alt i ks r o=>(c||BU (λj y=>bit m j||(!(pre y).all (λp=>bit m p)||iN j (i::o.ids))) 0 u) &&
  ((match f with|0=>false|E+1=>afq P u B m i ks&&Rn P u B false E (PB m (KL 1 i)) r)&&Rn P u B true f m o)
def G0(B:List Oper):List Nat:=B.foldl (λu o=>u++[GW u (pre o)]) []
def PT.run(k:Nat):Nat->PT
 | 0=>.nil
 | n+1=>.op k [] (PT.run (k+1) n)
def wz(u:List Oper)(i:Nat):Oper:=(u[i]?).getD default
def DT(P:Program)(n:Nat)(u:List Oper):PT->(Env->hM)->List (Nat×Option Bool)->Env->hM
 | .nil,Q,_,e,w=>Q e w
 | .stop,_,_,_,_=>True
 | .op i ks r,Q,B,e,w=>DS P n u (wz u i,ks.map (wz u)) (DT P n u r Q) B e w
 | .alt i ks r o,Q,B,e,w=>DS P n u (wz u i,ks.map (wz u)) (DT P n u r Q) B e w/\DT P n u o Q B e w
def DQ(P:Program)(u:List Oper):PT->(Env->hM)->Env->hM
 | .nil,Q,e,w=>Q e w
 | .stop,_,_,_=>True
 | .op i ks r,Q,e,w=>Dw P u (wz u i) (λB w'=>(w'=w\/∀r∈ks.map (wz u),uC P u r B w' True)/\DQ P u r Q B w') e w
 | .alt i ks r o,Q,e,w=>Dw P u (wz u i) (λB w'=>(w'=w\/∀r∈ks.map (wz u),uC P u r B w' True)/\DQ P u r Q B w') e w/\DQ P u o Q e w
theorem DT.plain{P:Program}{n:Nat}{B:List Oper}{Q:Env->hM}:∀(p:PT) (u:List (Nat×Option Bool)) (e:Env) (w:World),kF u e->DT P n B p Q u e w->DQ P B p Q e w:=by
 intro p
 induction p with
 | nil=>intro u e w _ h;exact h
 | stop=>intro u e w _ _;trivial
 | op i ks p I=>intro u e w E h;exact(II E h).2.mono λv w' ⟨h1,G,h2,h3⟩=>⟨h1,I G _ _ h2 h3⟩
 | alt i ks p o I J=>intro u e w E h;exact⟨(II E h.1).2.mono λv w' ⟨h1,G,h2,h3⟩=>⟨h1,I G _ _ h2 h3⟩,J u e w E h.2⟩
structure Tk where
 idx:Nat
 o:Oper
 b:Bool
 X:Eb
 v:Value
structure Ee(P:Program)(ops:List Oper)(L:Nat->Bool)(T:List Tk)(e:Env):Prop where
 op:∀x∈T,ops[x.idx]?=some x.o
 listed:∀x∈T,L x.idx=true
 kind:∀x∈T,x.X.reads=IJ P x.o
 still:∀x∈T,x.X.reads=false->x.b=true->∀w,x.X.has P w x.v
 reads:∀x∈T,x.X.reads=true->(∀j z,ops[j]?=some z->j≠x.idx->OC ops x.idx j\/IK ops x.o z=true)->GZ ops x.o=true->
  Al P x.o (ev e)=x.X/\oR ops x.o e=x.b/\∃d,x.o.dst=some d/\(x.b=true->e d=x.v)
def ST(P:Program)(u:List Oper)(T:List Tk):Nat->hM:=λj w=>∀x∈T,OC u j x.idx\/(x.b=true->x.X.has P w x.v)
def Ro{m i:Nat}:(λk=>bit (PB m (KL 1 i)) k)=mn (λk=>bit m k) i:=by
 funext k
 show(m ||| 1 <<< i).testBit k=_
 rw[U2,Sl,Ql]
 grind[mn,bit]
theorem Ee.next{P:Program}{u:List Oper}{L:Nat->Bool}{T:List Tk}{e:Env}(h:Ee P u L T e)(U:Down u L){i:Nat}{o:Oper}(ho:u[i]?=some o)(hi:L i=false)(v:Value) :
  Ee P u (mn L i) T (jZ e o.dst v):=by
 refine⟨h.op,λx G=>IF _ _ (h.listed x G),h.kind,h.still,λx G hr W I=>?_⟩
 obtain⟨h1,h2,d,V,h3⟩:=h.reads x G hr W I
 have Gs:i≠x.idx:=λY=>by have:=h.listed x G;grind
 have E:IK u x.o o=true:=by
  rcases W i o ho Gs with amq|E
  .have:L i=true:=amq.listed U λo' O p Z=>U x.idx o' (h.listed x G) O p Z
   grind
  omega
 have B:=BT E
 refine⟨by rw[Dv λk J=>(B k J).1];exact h1,by rw[yb λk J=>(B k J).1];exact h2,d,V,λhb=>?_⟩
 have:=h3 hb
 cases KD:o.dst with
 | none=>exact this
 | some k=>
  have M:d≠k:=λY=>(B k KD).2 (by rw[V,Y])
  simp only[jZ,oQ _ _ M]
  exact this
theorem KE{P:Program}{u:List Oper}{I:List Nat}(hc:GX u I=true){f m i:Nat}{ks:List Nat}{o:Oper}{T:List Tk}{e:Env}{w:World}{Q:Env->hM}{rec:Env->hM}
  (Y:u[i]?=some o) (O:bit m i=false) (hL:Down u (bit m)) (E:Ee P u (bit m) T e)
  (zy:∀(r:Nat) (y:Oper),u[r]?=some y->(!bit m r||(!IJ P y||(bit (C6 I i) r||iN r ks)))=true)
  (KF:∀r∈ks,(match u[r]? with|none=>false|some y=>GZ u y&&BU (λj z=>D0 j r||(bit (C6 I r) j||IK u y z)) 0 u)=true)
  (iV:Dw P u o (λM w'=>(w'=w\/∀r∈ks.map (wz u),uC P u r M w' True)/\rec M w') e w)
  (Z:∀v w',Ee P u (mn (bit m) i) T (jZ e o.dst v)->rec (jZ e o.dst v) w'->WS P u Q (ST P u T) f (mn (bit m) i) (jZ e o.dst v) w') :
  Dw P u o (λM w'=>(w'=w\/ST P u T i w')/\WS P u Q (ST P u T) f (mn (bit m) i) M w') e w:=by
 refine iV.mono λv w' hh=>?_
 obtain⟨G,Ao⟩:=hh
 have W:=E.next hL Y O v
 refine⟨?_,?_⟩
 .rcases G with hw|G
  .grind
  refine .inr λx B=>?_
  cases Vz:x.X.reads with
  | false=>exact .inr λhb=>E.still x B Vz hb w'
  | true=>
   have h1:=zy x.idx x.o (E.op x B)
   simp only[x6,sQ]at h1
   rcases h1 with h1|h1|h1|h1
   .have:=E.listed x B;grind
   .have:=E.kind x B;grind
   .have Ef:i<u.length:=(kO.1 Y).1
    exact .inl (GY hc (i+1) i bO Ef _ h1)
   .have KG:=An.1 h1
    have h2:=KF x.idx KG
    rw[E.op x B]at h2
    simp only[oi]at h2
    obtain⟨U,h2⟩:=h2
    have h2:=ou h2
    have V:x.idx<u.length:=(kO.1 (E.op x B)).1
    obtain⟨e1,e2,d,hd,e3⟩:=W.reads x B Vz (λk z hz Gs=>by
     have:=h2 k z hz
     simp only[u4,x6]at this
     rcases this with h3|h3|h3
     .simp_all
     .exact .inl (GY hc (x.idx+1) x.idx bO V _ h3)
     grind) U
    refine .inr λhb=>?_
    have J:=G x.o (List.mem_map.2 ⟨x.idx,KG,by simp[wz,E.op x B]⟩)
    unfold uC at J
    rw[e2,hb,e1,hd]at J
    simp only[cond_true]at J
    cases hX:x.X<;>rw[hX]at J Vz<;>first|grind|cases Vz|skip
    have:=J.amn
    rw[e3 hb]at this
    exact this
 grind
theorem abY{P:Program}{u:List Oper}{cls:List Nat}{Q:Env->hM}(hc:GX u cls=true) :
  ∀(p:PT) (f m:Nat) (T:List Tk) (e:Env) (w:World),
   Down u (bit m)->Ee P u (bit m) T e->DQ P u p Q e w->
   (Rn P u cls false f m p=true->WS P u Q (ST P u T) f (bit m) e w)/\
   (Rn P u cls true f m p=true->∀j∈p.ids,∃f',f=f'+1/\OB u (bit m) j/\∀U,u[j]?=some U->Dw P u U (λZ w'=>(w'=w\/ST P u T j w')/\WS P u Q (ST P u T) f' (mn (bit m) j) Z w') e w):=by
 intro p
 induction p with
 | nil=>
  intro f m T e w W hT h
  refine⟨λB=>?_,λ_ j I=>by cases I⟩
  simp only[Rn,PC,Ac,oi]at B
  have wK:=ou B.2
  rw[PY B.1]
  refine⟨λi hr=>?_,h⟩
  obtain⟨h0,o,J,_⟩:=hr
  grind
 | stop=>
  intro f m T e w W hT h
  exact⟨λB=>by simp[Rn]at B,λ_ j I=>by cases I⟩
 | op i ks p ih=>
  intro f m T e w W hT h
  refine⟨λB=>?_,λ_ j I=>by cases I⟩
  simp only[Rn,PC,Ac]at B
  cases f with
  | zero=>cases B
  | succ f=>
   simp only[oi]at B
   obtain⟨G,B⟩:=B
   unfold VZ at G
   cases J:u[i]? with
   | none=>rw[J]at G;cases G
   | some o=>
   rw[J]at G
   simp only[oi,sQ,GG]at G
   obtain⟨O,ahB,G⟩:=G
   have hr:OB u (bit m) i:=⟨O,o,J,ahB⟩
   have Y:wz u i=o:=by simp[wz,J]
   have V:Dw P u (wz u i) (λZ w'=>(w'=w\/∀r∈ks.map (wz u),uC P u r Z w' True)/\DQ P u p Q Z w') e w:=h
   rw[Y]at V
   have Gu:(bit (PB m (KL 1 i)))=mn (bit m) i:=Ro
   have hL':Down u (mn (bit m) i):=W.set hr
   cases hq:OD P o with
   | true=>
    rw[hq]at G
    simp only[cond_true]at G
    have Rk:=ou G
    have hqq:∀ρ,(Al P o ρ).quiet=true:=λρ=>by rw[(KB ρ λ_=>undef).1];exact hq
    obtain⟨b,v,hb,hn,hy,Ao⟩:∃b v,oR u o e=b/\(b=false->v=undef)/\(b=true->(Al P o (ev e)).has P w v)/\
      DQ P u p Q (jZ e o.dst v) w:=by
     unfold Dw at V
     cases hb:oR u o e with
     | true=>
      rw[ej hb]at V
      obtain⟨v,hv,_,Ao⟩:=V.has (hqq _)
      exact⟨true,v,rfl,ee,λ_=>hv,Ao⟩
     | false=>
      rw[ei (by rw[hb];simp)]at V
      obtain⟨_,Ao⟩:=V
      exact⟨false,undef,rfl,λ_=>rfl,ee,Ao⟩
    refine WS.first (X:=Al P o (ev e)) J hn f (bit m) e w W hr ?_ rfl hb hy ?_
    .intro j U Rl hji aug Y
     have:=Rk j U Rl
     simp only[u4,x6]at this
     rcases this with h1|h1|h1|h1
     .exact absurd (PY h1) hji
     .rw[aug]at h1;cases h1
     .exact absurd (An.1 h1) Y
     .exact KC h1
    .have hT':Ee P u (mn (bit m) i) (⟨i,o,b,Al P o (ev e),v⟩::T) (jZ e o.dst v):=by
      have M:=hT.next W J O v
      constructor
      .intro x E;rcases s4.1 E with rfl|E
       .exact J
       .exact M.op x E
      .intro x E;rcases s4.1 E with rfl|E
       .exact TI _ _
       .exact M.listed x E
      .intro x E;rcases s4.1 E with rfl|E
       .exact(KB _ _).2
       .exact M.kind x E
      .intro x E;rcases s4.1 E with rfl|E
       .intro h1 h2 w';exact Eb.TF h1 (hy h2)
       .exact M.still x E
      .intro x E;rcases s4.1 E with rfl|E
       .intro h1 h2 h3
        obtain⟨d,hd,Kq⟩:=OF h3
        dsimp only at hd Kq |-
        have hh:∀k,o.dst=some k->k ∉ looks u o:=λk hk=>by rw[hd]at hk;cases hk;exact Kq
        refine⟨Dv hh,by rw[yb hh];exact hb,d,hd,λ_=>?_⟩
        rw[hd];exact ny _ _ _
       .exact M.reads x E
     have:=(ih f _ _ _ w (by rw[Gu];exact hL') (by rw[Gu];exact hT') Ao).1 B
     rw[Gu]at this
     refine WS.weaken (λj w' I=>?_) _ _ _ _ this
     exact⟨λx E=>I x (r6 _ E),I _ o6⟩
   | false=>
    rw[hq]at G
    simp only[cond_false,oi,GG]at G
    obtain⟨V0,zy,KF⟩:=G
    have V0:=ou V0
    have zy:=ou zy
    refine⟨λY=>absurd hr (Y i),λj U Rl I=>?_⟩
    have hji:j=i:=by
     have:=V0 j U Rl
     simp only[u4,x6,sQ]at this
     rcases this with h1|h1|h1
     .simp_all
     .have:=I.1;grind
     .obtain⟨_,o',ho',wK⟩:=I
      grind
    subst hji
    rw[J]at Rl;cases Rl
    refine KE hc J O W hT (λr y hy=>cL) KF V λv w' M Ao=>?_
    grind
 | alt i ks p o' ih ih2=>
  intro f m T e w W hT h
  obtain⟨h1,h2⟩:Dw P u (wz u i) (λZ w'=>(w'=w\/∀r∈ks.map (wz u),uC P u r Z w' True)/\DQ P u p Q Z w') e w/\DQ P u o' Q e w:=h
  have chain:∀c,Rn P u cls c f m (.alt i ks p o')=true->∀j∈i::o'.ids,∃f',f=f'+1/\OB u (bit m) j/\∀U,u[j]?=some U->Dw P u U (λZ w'=>(w'=w\/ST P u T j w')/\WS P u Q (ST P u T) f' (mn (bit m) j) Z w') e w:=by
   intro c B
   simp only[Rn,oi]at B
   obtain⟨_,B,hp2⟩:=B
   cases f with
   | zero=>cases B
   | succ f=>
    simp only[oi]at B
    obtain⟨G,B⟩:=B
    intro j I
    rcases s4.1 I with rfl|I
    .unfold afq at G
     cases J:u[j]? with
     | none=>rw[J]at G;cases G
     | some o=>
      rw[J]at G
      simp only[oi,sQ,GG]at G
      obtain⟨O,ahB,_,zy,KF⟩:=G
      have hr:OB u (bit m) j:=⟨O,o,J,ahB⟩
      refine⟨f,rfl,hr,λU Rl=>?_⟩
      cases Rl
      have zy:=ou zy
      have Y:wz u j=o:=by simp[wz,J]
      rw[Y]at h1
      have V:=h1
      have Gu:(bit (PB m (KL 1 j)))=mn (bit m) j:=Ro
      have hL':Down u (mn (bit m) j):=W.set hr
      refine KE hc J O W hT (λr y hy=>cL) KF V λv w' M Ao=>?_
      grind
    .exact(ih2 (f+1) m T e w W hT h2).2 hp2 j I
  refine⟨λB=>?_,λB=>chain true B⟩
  have hch:=chain false B
  simp only[Rn,Bool.false_or,oi]at B
  have auh:=ou B.1
  obtain⟨f',rfl,hri,_⟩:=hch i o6
  refine⟨λY=>absurd hri (Y i),λj U Rl I=>?_⟩
  have KG:j∈i::o'.ids:=by
   have:=auh j U Rl
   simp only[u4,x6,sQ]at this
   rcases this with h3|h3|h3
   .have:=I.1;grind
   .obtain⟨_,o2,ho2,wK⟩:=I
    grind
   .exact An.1 h3
  obtain⟨f2,hf,_,V⟩:=hch j KG
  simp_all
structure yM(F:(hM)->Prop)(G:hM):Prop where
 ex:∃I:hM,F I/\∀w,I w->G w
structure Rq(B:(hM)->hM)(F:(hM)->Prop):Prop where
 ex:∃I:Nat->hM,(∃m,F (I m))/\∀m w,I m w->B (λw'=>∃m',m'<m/\I m' w') w
structure fg(F:(Value->hM)->Prop)(G:Value->hM):Prop where
 ex:∃I:Value->hM,F I/\∀x0 w,I x0 w->G x0 w
structure kM(B:(Value->hM)->Value->hM)(F:(Value->hM)->Prop):Prop where
 ex:∃I:Nat->Value->hM,(∃m,F (I m))/\∀m x0 w,I m x0 w->B (λy0 w'=>∃m',m'<m/\I m' y0 w') x0 w
structure G3(F:(Value->Value->hM)->Prop)(G:Value->Value->hM):Prop where
 ex:∃I:Value->Value->hM,F I/\∀x0 x1 w,I x0 x1 w->G x0 x1 w
structure pD(B:(Value->Value->hM)->Value->Value->hM)(F:(Value->Value->hM)->Prop):Prop where
 ex:∃I:Nat->Value->Value->hM,(∃m,F (I m))/\∀m x0 x1 w,I m x0 x1 w->B (λy0 y1 w'=>∃m',m'<m/\I m' y0 y1 w') x0 x1 w
structure amu(F:(Value->Value->Value->hM)->Prop)(G:Value->Value->Value->hM):Prop where
 ex:∃I:Value->Value->Value->hM,F I/\∀x0 x1 x2 w,I x0 x1 x2 w->G x0 x1 x2 w
structure afu(B:(Value->Value->Value->hM)->Value->Value->Value->hM)(F:(Value->Value->Value->hM)->Prop):Prop where
 ex:∃I:Nat->Value->Value->Value->hM,(∃m,F (I m))/\∀m x0 x1 x2 w,I m x0 x1 x2 w->B (λy0 y1 y2 w'=>∃m',m'<m/\I m' y0 y1 y2 w') x0 x1 x2 w
structure amv(F:(Value->Value->Value->Value->hM)->Prop)(G:Value->Value->Value->Value->hM):Prop where
 ex:∃I:Value->Value->Value->Value->hM,F I/\∀x0 x1 x2 x3 w,I x0 x1 x2 x3 w->G x0 x1 x2 x3 w
structure amw(B:(Value->Value->Value->Value->hM)->Value->Value->Value->Value->hM)(F:(Value->Value->Value->Value->hM)->Prop):Prop where
 ex:∃I:Nat->Value->Value->Value->Value->hM,(∃m,F (I m))/\∀m x0 x1 x2 x3 w,I m x0 x1 x2 x3 w->B (λy0 y1 y2 y3 w'=>∃m',m'<m/\I m' y0 y1 y2 y3 w') x0 x1 x2 x3 w
structure amx(F:(Value->Value->Value->Value->Value->hM)->Prop)(G:Value->Value->Value->Value->Value->hM):Prop where
 ex:∃I:Value->Value->Value->Value->Value->hM,F I/\∀x0 x1 x2 x3 x4 w,I x0 x1 x2 x3 x4 w->G x0 x1 x2 x3 x4 w
structure amy(B:(Value->Value->Value->Value->Value->hM)->Value->Value->Value->Value->Value->hM)(F:(Value->Value->Value->Value->Value->hM)->Prop):Prop where
 ex:∃I:Nat->Value->Value->Value->Value->Value->hM,(∃m,F (I m))/\∀m x0 x1 x2 x3 x4 w,I m x0 x1 x2 x3 x4 w->B (λy0 y1 y2 y3 y4 w'=>∃m',m'<m/\I m' y0 y1 y2 y3 y4 w') x0 x1 x2 x3 x4 w
def lkv(i:Nat):List (Nat×Value)->Value->Value
 | [],d=>d
 | q::r,d=>bif D0 q.1 i then q.2 else lkv i r d
def Gv(e:Env)(M:Nat)(bs:List (Nat×Value))(dead:Env):Env:=λi=>bif bit M i then lkv i bs (dead i)else e i
def Ap(l:List Nat)(F:(Env->hM)->Prop)(G:List (Nat×Value)->hM):Prop:=
 match l with
 | []=>yM (λK=>F λe w=>K w) (λw=>G [] w)
 | [u]=>fg (λK=>F λe w=>K (e u) w) (λE w=>G [(u,E)] w)
 | [u,B]=>G3 (λK=>F λe w=>K (e u) (e B) w) (λE J w=>G [(u,E),(B,J)] w)
 | [u,B,I]=>amu (λK=>F λe w=>K (e u) (e B) (e I) w) (λE J M w=>G [(u,E),(B,J),(I,M)] w)
 | [u,B,I,O]=>amv (λK=>F λe w=>K (e u) (e B) (e I) (e O) w) (λE J M U w=>G [(u,E),(B,J),(I,M),(O,U)] w)
 | [u,B,I,O,V]=>amx (λK=>F λe w=>K (e u) (e B) (e I) (e O) (e V) w) (λE J M U W w=>G [(u,E),(B,J),(I,M),(O,U),(V,W)] w)
 | _=>False
def Aq(l:List Nat)(B:(Env->hM)->List (Nat×Value)->hM)(e:Env)(w:World):Prop:=
 match l with
 | []=>Rq (λK w=>B (λu w'=>K w') [] w) (λK=>K w)
 | [E]=>kM (λK J w=>B (λu w'=>K (u E) w') [(E,J)] w) (λK=>K (e E) w)
 | [E,G]=>pD (λK J O w=>B (λu w'=>K (u E) (u G) w') [(E,J),(G,O)] w) (λK=>K (e E) (e G) w)
 | [E,G,I]=>afu (λK J O U w=>B (λu w'=>K (u E) (u G) (u I) w') [(E,J),(G,O),(I,U)] w) (λK=>K (e E) (e G) (e I) w)
 | [E,G,I,M]=>amw (λK J O U V w=>B (λu w'=>K (u E) (u G) (u I) (u M) w') [(E,J),(G,O),(I,U),(M,V)] w) (λK=>K (e E) (e G) (e I) (e M) w)
 | [E,G,I,M,W]=>amy (λK J O U V Y w=>B (λu w'=>K (u E) (u G) (u I) (u M) (u W) w') [(E,J),(G,O),(I,U),(M,V),(W,Y)] w) (λK=>K (e E) (e G) (e I) (e M) (e W) w)
 | _=>False
def jM(l:List Nat)(e:Env):List (Nat×Value):=l.map λa=>(a,e a)
def Ap.spec{l:List Nat}{F:(Env->hM)->Prop}{G:List (Nat×Value)->hM}(h:Ap l F G) :
  ∃I:List (Nat×Value)->hM,F (λe w=>I (jM l e) w)/\∀(e:Env) w,I (jM l e) w->G (jM l e) w:=by
 unfold Ap at h
 split at h
 .obtain⟨I,h1,h2⟩:=h.ex
  exact⟨λ_ w=>I w,h1,λ_ w hi=>h2 w hi⟩
 .obtain⟨I,h1,h2⟩:=h.ex
  exact⟨λq w=>match q with|[u]=>I u.2 w|_=>False,h1,λe w hi=>h2 _ w hi⟩
 .obtain⟨I,h1,h2⟩:=h.ex
  exact⟨λq w=>match q with|[u,B]=>I u.2 B.2 w|_=>False,h1,λe w hi=>h2 _ _ w hi⟩
 .obtain⟨I,h1,h2⟩:=h.ex
  exact⟨λq w=>match q with|[u,B,E]=>I u.2 B.2 E.2 w|_=>False,h1,λe w hi=>h2 _ _ _ w hi⟩
 .obtain⟨I,h1,h2⟩:=h.ex
  exact⟨λq w=>match q with|[u,B,E,J]=>I u.2 B.2 E.2 J.2 w|_=>False,h1,λe w hi=>h2 _ _ _ _ w hi⟩
 .obtain⟨I,h1,h2⟩:=h.ex
  exact⟨λq w=>match q with|[u,B,E,J,M]=>I u.2 B.2 E.2 J.2 M.2 w|_=>False,h1,λe w hi=>h2 _ _ _ _ _ w hi⟩
 grind
def Aq.spec{l:List Nat}{B:(Env->hM)->List (Nat×Value)->hM}{e:Env}{w:World}(h:Aq l B e w) :
  ∃I:Nat->List (Nat×Value)->hM,(∃m,I m (jM l e) w)/\
   ∀m e w,I m (jM l e) w->B (λO w'=>∃M,M<m/\I M (jM l O) w') (jM l e) w:=by
 unfold Aq at h
 split at h
 .obtain⟨I,⟨m,h1⟩,h2⟩:=h.ex
  exact⟨λm _ w=>I m w,⟨m,h1⟩,λm _ w hi=>h2 m w hi⟩
 .obtain⟨I,⟨m,h1⟩,h2⟩:=h.ex
  exact⟨λm q w=>match q with|[u]=>I m u.2 w|_=>False,⟨m,h1⟩,λm e w hi=>h2 m _ w hi⟩
 .obtain⟨I,⟨m,h1⟩,h2⟩:=h.ex
  exact⟨λm q w=>match q with|[u,E]=>I m u.2 E.2 w|_=>False,⟨m,h1⟩,λm e w hi=>h2 m _ _ w hi⟩
 .obtain⟨I,⟨m,h1⟩,h2⟩:=h.ex
  exact⟨λm q w=>match q with|[u,E,G]=>I m u.2 E.2 G.2 w|_=>False,⟨m,h1⟩,λm e w hi=>h2 m _ _ _ w hi⟩
 .obtain⟨I,⟨m,h1⟩,h2⟩:=h.ex
  exact⟨λm q w=>match q with|[u,E,G,J]=>I m u.2 E.2 G.2 J.2 w|_=>False,⟨m,h1⟩,λm e w hi=>h2 m _ _ _ _ w hi⟩
 .obtain⟨I,⟨m,h1⟩,h2⟩:=h.ex
  exact⟨λm q w=>match q with|[u,E,G,J,U]=>I m u.2 E.2 G.2 J.2 U.2 w|_=>False,⟨m,h1⟩,λm e w hi=>h2 m _ _ _ _ _ w hi⟩
 grind
def V1(m d:Nat):Nat:=PB m (KL 1 d)
def amz(m d:Nat):Nat:=bif bit m d then Nat.sub m (KL 1 d)else m
def zz:List Nat->Nat
 | []=>0
 | d::r=>V1 (zz r) d
def wL:List Operand->Nat->Nat
 | [],m=>m
 | .tmp t::r,m=>V1 (wL r m) t
 | _::r,m=>wL r m
def lkX(id:Nat):List (Nat×Nat)->Nat
 | []=>0
 | q::r=>bif D0 q.1 id then q.2 else lkX id r
def V2:List Oper->Nat->Nat
 | [],lo=>lo
 | o::r,lo=>wL o.op.operands.toList (match o.dst with|some d=>amz (V2 r lo) d|none=>V2 r lo)
def amA:List Nat->Nat->Nat
 | [],m=>m
 | d::r,m=>amA r (amz m d)
def li(rl:Nat):Code->List (Nat×Nat)->Nat->Nat
 | .skip,_,lo=>lo
 | .ret,_,_=>rl
 | .exit id,X,_=>lkX id X
 | .region _ ops _,_,lo=>V2 ops.toList lo
 | .seq a b,X,lo=>li rl a X (li rl b X lo)
 | .cond c a b,X,lo=>wL [c] (PB (li rl a X lo) (li rl b X lo))
 | .block id c,X,lo=>li rl c ((id,lo)::X) lo
 | .loop c,X,_=>li rl c X (li rl c X 0)
 | .rangeFunc g ps a b,X,lo=>wL [g] (PB lo (amA ps.toList (li rl a X (li rl b X lo))))
 | _,_,_=>0
def fH:Code->Bool
 | .seq a b=>fH a||fH b
 | .cond _ a b=>fH a||fH b
 | .block _ c=>fH c
 | .loop c=>fH c
 | .rangeFunc _ _ _ _=>true
 | _=>false
def iW:Code->Nat
 | .region _ ops _=>zz (wr ops.toList)
 | .seq a b=>PB (iW a) (iW b)
 | .cond _ a b=>PB (iW a) (iW b)
 | .block _ c=>iW c
 | .loop c=>iW c
 | _=>0
def guarded:List Oper->Bool
 | []=>false
 | o::r=>o.guard.isSome||guarded r
def ab0(a b:Nat):Nat:=Nat.add a b
mutual
def exC(id:Nat):Code->Nat
 | .exit k=>bif D0 k id then 1 else 0
 | .seq a b=>bif D0 (nxC a) 0 then exC id a else ab0 (exC id a) (exC id b)
 | .cond _ a b=>ab0 (exC id a) (exC id b)
 | .block _ c=>exC id c
 | .loop c=>exC id c
 | .rangeFunc _ _ _ b=>exC id b
 | _=>0
def nxC:Code->Nat
 | .skip=>1
 | .region _ ops _=>bif guarded ops.toList then 2 else 1
 | .seq a b=>bif D0 (nxC a) 0 then 0 else nxC b
 | .cond _ a b=>ab0 (nxC a) (nxC b)
 | .block id c=>ab0 (nxC c) (exC id c)
 | .rangeFunc _ _ _ _=>1
 | _=>0
end
def gl(m:Nat):Nat->Nat->List Nat
 | 0,_=>[]
 | f+1,i=>bif bit m i then i::gl m f (i+1)else gl m f (i+1)
abbrev C7:=Exit->List Nat->Env->hM
def tE(K:List Nat->Env->hM)(Q:C7):C7
 | .normal,ds,e,w=>K ds e w
 | x,ds,e,w=>Q x ds e w
def V3(id:Nat)(Q:C7):C7
 | .exit k,ds,e,w=>bif D0 k id then Q .normal ds e w else Q (.exit k) ds e w
 | x,ds,e,w=>Q x ds e w
def V4(K:Option Code->hM):C7
 | .normal,_,_,w=>K none w
 | .ret,_,_,w=>K (some .ret) w
 | .exit id,_,_,w=>K (some (.exit id)) w
 | _,_,_,_=>False
def aft(N R:Nat->hM)(X:Nat->Nat->hM):Option Code->Nat->hM
 | none=>N
 | some .ret=>R
 | some (.exit id)=>X id
 | _=>λ_ _=>False
def outs:List Nat->Code->Bool
 | l,.exit id=>!(l.any λk=>D0 k id)
 | l,.seq a b=>outs l a||outs l b
 | l,.cond _ a b=>outs l a||outs l b
 | l,.block id c=>outs (id::l) c
 | l,.loop c=>outs l c
 | _,_=>false
def Eg:List Value->Nat->Value
 | [],_=>undef
 | v::_,0=>v
 | _::r,k+1=>Eg r k
def G4(args:List Value):List Nat->Nat->Env->Env
 | [],_,e=>e
 | p::r,k,e=>G4 args r (k+1) (Af e p (Eg args k))
def lK(ds:List Nat):Value:=.tuple (ds.map fun (D:Nat)=>n3 .u64 (D:Int)).toArray
def ahD:Value->Nat
 | .int _ n=>n.toNat
 | _=>0
def As:Value->List Nat
 | .tuple vs=>vs.toList.map ahD
 | _=>[]
theorem BV(ds:List Nat):As (lK ds)=ds:=by
 show(ds.map fun (D:Nat)=>n3 .u64 (D:Int)).map ahD=ds
 rw[List.map_map]
 conv=>rhs;rw[<- List.map_id ds]
 exact CI λD _=>by simp[ahD]
structure Au(P:Program)(fv:Value)(np:Nat)(w:World)(round:List Value->World->(World->(hM)->Prop)->(Option Code->hM)->Prop)(after:Option Code->Nat->hM):Prop where
 ex:∃gf cap,fv=.func (.func gf) #[] cap/\Plain P gf/\∀L0:Loop,L0.state=.ready->L0.pending=none->
  (∀(args:List Value) (W:World) (K:Value->hM),args.length=np->W.heap[w.heap.size+1]?=some (.loop L0)->
   round args W (λw1 k=>w1.heap[w.heap.size+1]?=some (.loop L0)/\k (w1.putObj (w.heap.size+1) (.loop {L0 with state:=.busy})))
    (λj W'=>W'.heap[w.heap.size+1]?=some (.loop {L0 with state:=.busy})/\K (.bool j.isNone) (W'.putObj (w.heap.size+1) (.loop {L0 with state:=if j.isNone then .ready else .done,pending:=j})))->
   YieldAt (FO none) 0 P (w.heap.size+1) args.toArray W (ub K))->
  Calls P gf (#[.func (.yield (w.heap.size+1)) #[] #[]]++cap) ((w.alloc (.deferred (some []))).alloc (.loop L0))
   (ub λ_ W2=>∃st j,st≠.busy/\W2.heap[w.heap.size+1]?=some (.loop {L0 with state:=st,pending:=j})/\after j w.heap.size (W2.putObj (w.heap.size+1) (.loop {L0 with state:=.exhausted,pending:=j})))
abbrev dI:=Nat->PT
def KH(pl:dI):Code->Bool
 | .region id _ true=>(pl id).many
 | .block _ c=>KH pl c
 | .seq a b=>KH pl a||KH pl b
 | .cond _ a b=>KH pl a||KH pl b
 | _=>false
def drew(w:World):World:={w with drawn:=w.drawn+1}
def D(P:Program)(n:Nat)(pl:dI)(rl:Nat):Code->List (Nat×Nat)->Nat->C7->List Nat->Env->hM
 | .skip,_,_,Q,ds,e,w=>Q .normal ds e w
 | .ret,_,_,Q,ds,e,w=>Q .ret ds e w
 | .exit id,_,_,Q,ds,e,w=>Q (.exit id) ds e w
 | .region _ ops false,_,_,Q,ds,e,w=>DR P n ops.toList (ops.toList.map λo=>(o,[])) (Q .normal ds) [] e w
 | .region id ops true,_,_,Q,ds,e,w=>
  bif ops.toList.all (Ed n)&&(GX ops.toList (G0 ops.toList)&&Rn P ops.toList (G0 ops.toList) false ops.toList.length 0 (pl id))then
   DT P n ops.toList (pl id) (Q .normal ds) [] e (drew w)
  else False
 | .seq a b,X,lo,Q,ds,e,w=>
  bif Sx (nxC a) 1&&!KH pl a then D P n pl rl a X (li rl b X lo) (tE (D P n pl rl b X lo Q) Q) ds e w
  else bif fH a then Ap (n::gl (Jj (iW a) (li rl b X lo)) n 0)
   (λK=>D P n pl rl a X (li rl b X lo) (tE (λds e w=>K (Af e n (lK ds)) w) Q) ds e w)
   (λbs w'=>∀dead,D P n pl rl b X lo Q (As (lkv n bs undef)) (Gv e (iW a) bs.tail dead) w')
  else Ap (gl (Jj (iW a) (li rl b X lo)) n 0)
   (λK=>D P n pl rl a X (li rl b X lo) (tE (λ_ e w=>K e w) Q) ds e w)
   (λbs w'=>∀dead,D P n pl rl b X lo Q ds (Gv e (iW a) bs dead) w')
 | .cond c a b,X,lo,Q,ds,e,w=>yL (ev e c) (D P n pl rl a X lo Q ds e w) (D P n pl rl b X lo Q ds e w)
 | .block id c,X,lo,Q,ds,e,w=>D P n pl rl c ((id,lo)::X) lo (V3 id Q) ds e w
 | .loop c,X,_,Q,ds,e,w=>
  bif fH c then Aq (n::gl (Jj (iW c) (li rl c X (li rl c X 0))) n 0)
   (λK bs w=>∀dead,D P n pl rl c X (li rl c X (li rl c X 0)) (tE (λds e w=>K (Af e n (lK ds)) w) Q) (As (lkv n bs undef)) (Gv e (iW c) bs.tail dead) w) (Af e n (lK ds)) w
  else Aq (gl (Jj (iW c) (li rl c X (li rl c X 0))) n 0)
   (λK bs w=>∀dead,D P n pl rl c X (li rl c X (li rl c X 0)) (tE (λ_ e w=>K e w) Q) ds (Gv e (iW c) bs dead) w) e w
 | .rangeFunc g ps asx u,_,_,Q,ds,e,w=>
  bif ps.toList.all (λp=>aa6 p n)&&(!fH asx&&!fH u)then
   Au P (ev e g) ps.toList.length w
    (λargs W B K=>D P n pl 0 asx [] (li 0 u [] 0) (tE (λE G J=>B J λI=>D P n pl 0 u [] 0 (V4 K) E G I) λ_ _ _ _=>False) [] (G4 args ps.toList 0 e) W)
    (aft (λD w=>Q .normal (D::ds) e w) (λD w=>Q .ret (D::ds) e w) (bif outs [] u then(λid D w=>Q (.exit id) (D::ds) e w) elseλ_ _ _=>False))
  else False
 | _,_,_,_,_,_,_=>False
theorem V5{m d i:Nat}:bit (V1 m d) i=(bit m i||decide (i=d)):=by
 show(m ||| 1 <<< d).testBit i=_
 rw[U2,Sl,Ql]
 unfold bit
 grind
theorem OG{l:List Nat}{i:Nat}:bit (zz l) i=true↔i∈l:=by
 induction l with
 | nil=>simp[zz,bit]
 | cons d r u=>simp only[zz,V5,x6,u,decide_eq_true_eq,s4];grind
theorem OH{l:List Nat}{e:Env}{i:Nat}:lkv i (jM l e) (e i)=e i:=by
 induction l with
 | nil=>rfl
 | cons a r u=>
  show(bif D0 a i then e a else lkv i (jM r e) (e i))=e i
  by_cases h:a=i
  .grind
  .rw[BS h];exact u
theorem yd{e u:Env}{M:Nat}{l:List Nat}(h:∀i,bit M i=false->u i=e i):Gv e M (jM l u) u=u:=by
 funext i
 unfold Gv
 cases hb:bit M i with
 | true=>simp only[cond_true];exact OH
 | false=>grind
theorem KI{m:Nat}:∀(f i k:Nat),k∈gl m f i->k<i+f:=by
 intro f
 induction f with
 | zero=>intro i k h;cases h
 | succ f u=>
  grind[gl]
theorem OI{l:List Nat}{n:Nat}{v:Value}{e:Env}(h:∀k∈l,k<n):jM l (Af e n v)=jM l e:=
 CI λk u=>by rw[oQ _ _ (Nat.ne_of_lt (h k u))]
theorem G5{l:List Nat}{n:Nat}{ds:List Nat}{e:Env}(h:∀k∈l,k<n):jM (n::l) (Af e n (lK ds))=(n,lK ds)::jM l e:=by
 show(n,Af e n (lK ds) n)::jM l (Af e n (lK ds))=_
 rw[ny,OI h]
theorem Rr{m n:Nat}:∀k∈gl m n 0,k<n:=λk u=>by have:=KI n 0 k u;omega
def uD(n:Nat)(M:Nat)(b:Bool)(ds:List Nat)(e:Env)(Q:C7):Exit->Act->hM:=
 λx E w'=>∃B u,jE B n u E/\(∀i,bit M i=false->u i=e i)/\(b=false->B=ds)/\Q x B u w'
theorem least{p:Nat->Prop}(h:∃m,p m):∃m,p m/\∀k,p k->m<=k:=by
 obtain⟨m,u⟩:=h
 induction m using Nat.strongRecOn with
 | _ m B=>
  grind
theorem IL{n:Nat}{args:List Value}:∀(ps:List Nat) (k:Nat) (e:Env) (a:Act),(∀p∈ps,p<n)->jE [] n e a->k+ps.length<=args.length->
  jE [] n (G4 args ps k e) {a with tmps:=(ps.zip (args.drop k)).foldl (λt (q:Nat×Value)=>t.setIfInBounds q.1 q.2) a.tmps}:=by
 intro ps
 induction ps with
 | nil=>simp_all[Env,G4]
 | cons p ps J=>
  intro k e a I E G
  have B:k<args.length:=cL
  have O:args.drop k=Eg args k::args.drop (k+1):=by
   rw[List.drop_eq_getElem_cons B]
   congr 1
   clear J E G I
   induction args generalizing k with
   | nil=>simp at B
   | cons v r u=>cases k with
    | zero=>rfl
    | succ k=>exact u k cL
  rw[O]
  have h1:=E.put (d:=some p) (λk G=>by simp_all) (Eg args k)
  exact J (k+1) _ _ (λq M=>I q (r6 _ M)) h1 cL
theorem V6{P:Program}{n:Nat}{pl:dI}{g:Operand}{ps:Array Tmp}{asx u:Code}
  (ihA:∀(r:Option Nat) (rl:Nat) (X:List (Nat×Nat)) (lo:Nat) (Q:C7) (ds:List Nat) (e:Env) (a:Act) (w:World),
   (r=none\/fH asx=false)->jE ds n e a->D P n pl rl asx X lo Q ds e w->asx.wpIn (FO r) 0 P (uD n (iW asx) (fH asx) ds e Q) a w)
  (ihB:∀(r:Option Nat) (rl:Nat) (X:List (Nat×Nat)) (lo:Nat) (Q:C7) (ds:List Nat) (e:Env) (a:Act) (w:World),
   (r=none\/fH u=false)->jE ds n e a->D P n pl rl u X lo Q ds e w->u.wpIn (FO r) 0 P (uD n (iW u) (fH u) ds e Q) a w)
  (rl:Nat) (X:List (Nat×Nat)) (lo:Nat) (Q:C7) (ds:List Nat) (e:Env) (a:Act) (w:World) (M:jE ds n e a) (h:D P n pl rl (.rangeFunc g ps asx u) X lo Q ds e w) :
  (Code.rangeFunc g ps asx u).wpIn (FO none) 0 P (uD n 0 true ds e Q) a w:=by
 have h':(bif ps.toList.all (λp=>aa6 p n)&&(!fH asx&&!fH u)then
  Au P (ev e g) ps.toList.length w
   (λargs W B K=>D P n pl 0 asx [] (li 0 u [] 0) (tE (λJ Y w1=>B w1 λw2=>D P n pl 0 u [] 0 (V4 K) J Y w2) λ_ _ _ _=>False) [] (G4 args ps.toList 0 e) W)
   (aft (λD w=>Q .normal (D::ds) e w) (λD w=>Q .ret (D::ds) e w) (bif outs [] u then(λid D w=>Q (.exit id) (D::ds) e w) elseλ_ _ _=>False))
  else False):=h
 cases hc:(ps.toList.all (λp=>aa6 p n)&&(!fH asx&&!fH u))with
 | false=>grind
 | true=>
  rw[hc]at h'
  simp only[cond_true]at h'
  simp only[oi,sQ]at hc
  obtain⟨hps,hA,hB⟩:=hc
  have auk:∀p∈ps.toList,p<n:=λp V=>Nat.blt_eq▸GG.1 hps p V
  obtain⟨Z,cap,hfv,nz,Gw⟩:=h'.ex
  refine wpIn_rangeFunc λfn _=>?_
  let L0:Loop:={state:=.ready,pending:=none,fn,tmps:=a.tmps,params:=ps,assign:=asx,body:=u,defers:=w.heap.size}
  have hY:=Gw L0 rfl rfl (λargs W K hlen hl Eh=>?_)
  .have hC:=hY.mono (R':=rangePost (FO none) 0 P (w.heap.size+1) (uD n 0 true ds e Q) {a with defers:=[{target:=.collected w.heap.size,args:=#[]}]++a.defers}) (λx w3 hx=>?_)
   .have hC1:=(zu (r:=none) (n:=0)).2 hC
    refine⟨w.heap.size+1,[{target:=.collected w.heap.size,args:=#[]}],(w.alloc (.deferred (some []))).alloc (.loop L0),
     {target:=.fn (.func Z) cap,args:=#[.func (.yield (w.heap.size+1)) #[] #[]]},(w.alloc (.deferred (some []))).alloc (.loop L0),Z,#[.func (.yield (w.heap.size+1)) #[] #[]]++cap,
     (w.alloc (.deferred (some []))).alloc (.loop L0),run_enterLoop_outer ..,?_,λ_ _=>trivial,?_,Ea,?_⟩
    rotate_left 2
    .exact hC1
    .have hg:a.eval g=.func (.func Z) #[] cap:=by rw[M.eval];exact hfv
     simp only[resolve,hg]
     simp[go_sem]
    .show(callFunc Z (#[.func (.yield (w.heap.size+1)) #[] #[]]++cap)).run P _=_
     exact Ak nz _ _
   ·
    obtain⟨v,rfl,st,j,iV,hl3,G⟩:=hx
    refine⟨j,_,run_endLoop hl3 bO,?_⟩
    have E:jE (w.heap.size::ds) n e {a with defers:=[{target:=.collected w.heap.size,args:=#[]}]++a.defers}:=⟨by rw[M.defers];rfl,M.size,M.get⟩
    cases j with
    | none=>exact⟨_,e,E,λ_ _=>rfl,λU=>(by cases U),G⟩
    | some c=>
     cases c with
     | ret=>exact wpIn_ret ⟨_,e,E,λ_ _=>rfl,λU=>(by cases U),G⟩
     | exit id=>
       have Kp:(bif outs [] u then(λid D w=>Q (.exit id) (D::ds) e w) elseλ_ _ _=>False:Nat->Nat->hM) id w.heap.size _:=G
       cases ho:outs [] u with
       | true=>rw[ho]at Kp;exact wpIn_exit ⟨_,e,E,λ_ _=>rfl,λU=>(by cases U),Kp⟩
       | false=>grind
     | _=>exact G.elim
  ·
   have nS:w.heap.size+1<W.heap.size:=(Fy.1 hl).1
   refine⟨fn,_,asx,u,run_yield hl bO,roundIn_of_wpIn trivial ?_⟩
   have E:jE [] n (G4 args ps.toList 0 e) {tmps:=(ps.zip args.toArray).foldl (λt (q:Nat×Value)=>t.setIfInBounds q.1 q.2) a.tmps,defers:=[]}:=by
    have h0:jE [] n e {tmps:=a.tmps,defers:=[]}:=⟨rfl,M.size,M.get⟩
    have:=IL ps.toList 0 e _ auk h0 (by simpa using AU hlen.symm)
    have Y:(ps.zip args.toArray).foldl (λt (q:Nat×Value)=>t.setIfInBounds q.1 q.2) a.tmps=(ps.toList.zip (args.drop 0)).foldl (λt (q:Nat×Value)=>t.setIfInBounds q.1 q.2) a.tmps:=by
     rw[<- XH,Array.toList_zip];simp
    grind
   refine wpIn_mono (ihA (some (w.heap.size+1)) 0 [] _ _ [] _ _ W (.inr hA) E Eh) λx a1 w1 V=>?_
   obtain⟨J,Y,ha1,_,V7,I⟩:=V
   cases x with
   | normal=>
    obtain⟨hl1,I⟩:=I
    refine⟨_,run_beginRound hl1 rfl,?_⟩
    refine wpIn_mono (ihB (some (w.heap.size+1)) 0 [] _ _ J Y a1 _ (.inr hB) ha1 I) λx a2 w2 V=>?_
    obtain⟨ds2,e2,ha2,_,_,I⟩:=V
    cases x with
    | normal=>obtain⟨O,G⟩:=I;exact⟨_,_,run_endRound none O,_,rfl,G⟩
    | ret=>obtain⟨O,G⟩:=I;exact⟨_,_,run_endRound (some .ret) O,_,rfl,G⟩
    | exit id=>obtain⟨O,G⟩:=I;exact⟨_,_,run_endRound (some (.exit id)) O,_,rfl,G⟩
    | _=>exact I.elim
   | _=>exact I.elim
theorem ab3{P:Program}{n:Nat}{pl:dI}(hm:P.follows .mixedOrders=true) :
  ∀(c:Code) (r:Option Nat) (rl:Nat) (X:List (Nat×Nat)) (lo:Nat) (Q:C7) (ds:List Nat) (e:Env) (a:Act) (w:World),
   (r=none\/fH c=false)->jE ds n e a->D P n pl rl c X lo Q ds e w->c.wpIn (FO r) 0 P (uD n (iW c) (fH c) ds e Q) a w:=by
 intro c
 induction c with
 | skip=>intro r rl X lo Q ds e a w _ W h;exact wpIn_skip ⟨ds,e,W,λ_ _=>rfl,λ_=>rfl,h⟩
 | ret=>intro r rl X lo Q ds e a w _ W h;exact wpIn_ret ⟨ds,e,W,λ_ _=>rfl,λ_=>rfl,h⟩
 | exit id=>intro r rl X lo Q ds e a w _ W h;exact wpIn_exit ⟨ds,e,W,λ_ _=>rfl,λ_=>rfl,h⟩
 | region id B draw=>
  intro r rl X lo Q ds e a w _ W h
  have hQ:∀(u:Env) (G:Act) (w':World),jE ds n u G->(∀k,k ∉ wr B.toList->u k=e k)->Q .normal ds u w'->uD n (iW (.region id B draw)) (fH (.region id B draw)) ds e Q .normal G w':=
   λu G w' IG Y hq=>by
    refine⟨ds,u,IG,λi hi=>Y i λKG=>?_,λ_=>rfl,hq⟩
    have h1:bit (zz (wr B.toList)) i=true:=OG.2 KG
    have h2:bit (zz (wr B.toList)) i=false:=hi
    grind
  cases draw with
  | false=>
   have:=DR.region (r:=r) (id:=id) W hQ (show DR P n B.toList (B.toList.map λo=>(o,[])) (Q .normal ds) [] e w from h)
   omega
  | true=>
   have Z:(bif B.toList.all (Ed n)&&(GX B.toList (G0 B.toList)&&Rn P B.toList (G0 B.toList) false B.toList.length 0 (pl id))then
    DT P n B.toList (pl id) (Q .normal ds) [] e (drew w)else False):=h
   cases hc:(B.toList.all (Ed n)&&(GX B.toList (G0 B.toList)&&Rn P B.toList (G0 B.toList) false B.toList.length 0 (pl id)))with
   | false=>grind
   | true=>
    rw[hc]at Z
    simp only[oi]at hc
    obtain⟨h2,h3,h4⟩:=hc
    have hd:∀d∈wr B.toList,d<n:=λd hd=>by
     obtain⟨o,ho,KD⟩:=Qm.1 hd
     have:=GG.1 h2 o ho
     unfold Ed at this
     simp_all
    have hz:(bit 0)=λ_=>false:=by funext i;simp[bit]
    have hws:=(abY (Q:=Q .normal ds) h3 (pl id) B.toList.length 0 [] e (drew w) (λi o hi=>cL) (by constructor<;>simp) (DT.plain _ _ _ _ (kF.nil e) Z)).1 h4
    rw[hz]at hws
    have:=WS.region (r:=r) (id:=id) hm hd W hQ hws
    omega
 | seq M U ih1 ih2=>
  intro r rl X lo Q ds e a w hr W h
  have BW:r=none\/fH M=false:=hr.imp id λh=>by grind[fH]
  have Dz:r=none\/fH U=false:=hr.imp id λh=>by grind[fH]
  have key:∀(K:List Nat->Env->hM),D P n pl rl M X (li rl U X lo) (tE K Q) ds e w->
    (∀E u G w',jE E n u G->(∀i,bit (iW M) i=false->u i=e i)->(fH M=false->E=ds)->K E u w'->U.wpIn (FO r) 0 P (uD n (iW U) (fH U) E u Q) G w')->
    (Code.seq M U).wpIn (FO r) 0 P (uD n (iW (.seq M U)) (fH (.seq M U)) ds e Q) a w:=by
   intro K hK hk
   refine wpIn_seq (wpIn_mono (ih1 r rl X _ _ ds e a w BW W hK) λx G w' hp=>?_)
   obtain⟨E,u,IG,Y,O,hq⟩:=hp
   have hor:∀i,bit (iW (.seq M U)) i=false->bit (iW M) i=false/\bit (iW U) i=false:=λi hi=>by
    simp_all[bit,iW]
   have hrf:fH (.seq M U)=false->fH M=false/\fH U=false:=λhh=>by
    grind[fH]
   cases x with
   | normal=>
    refine wpIn_mono (hk E u G w' IG Y O hq) λx2 a2 w2 hp2=>?_
    grind[uD,iW,fH]
   | _=>exact⟨E,u,IG,λi hi=>Y i (hor i hi).1,λhh=>O (hrf hh).1,hq⟩
  have Z:(bif Sx (nxC M) 1&&!KH pl M then D P n pl rl M X (li rl U X lo) (tE (D P n pl rl U X lo Q) Q) ds e w
   else bif fH M then Ap (n::gl (Jj (iW M) (li rl U X lo)) n 0)
    (λK=>D P n pl rl M X (li rl U X lo) (tE (λds e w=>K (Af e n (lK ds)) w) Q) ds e w)
    (λbs w'=>∀dead,D P n pl rl U X lo Q (As (lkv n bs undef)) (Gv e (iW M) bs.tail dead) w')
   else Ap (gl (Jj (iW M) (li rl U X lo)) n 0)
    (λK=>D P n pl rl M X (li rl U X lo) (tE (λ_ e w=>K e w) Q) ds e w)
    λbs w'=>∀dead,D P n pl rl U X lo Q ds (Gv e (iW M) bs dead) w'):=h
  cases hc:(Sx (nxC M) 1&&!KH pl M)with
  | true=>
   grind
  | false=>
   rw[hc]at Z
   simp only[cond_false]at Z
   cases hc2:fH M with
   | false=>
    rw[hc2]at Z
    simp only[cond_false]at Z
    obtain⟨I,h1,h2⟩:=Ap.spec Z
    refine key _ h1 λE u G w' IG Y O hk=>?_
    have:=h2 u w' hk u
    rw[yd Y]at this
    grind
   | true=>
    rw[hc2]at Z
    simp only[cond_true]at Z
    obtain⟨I,h1,h2⟩:=Ap.spec Z
    refine key _ h1 λE u G w' IG Y O hk=>?_
    have:=h2 (Af u n (lK E)) w' hk u
    rw[G5 Rr]at this
    rw[show((n,lK E)::jM (gl (Jj (iW M) (li rl U X lo)) n 0) u).tail=jM (gl (Jj (iW M) (li rl U X lo)) n 0) u from rfl,yd Y,
     show lkv n ((n,lK E)::jM (gl (Jj (iW M) (li rl U X lo)) n 0) u) undef=lK E by show(bif D0 n n then lK E else _)=_;simp_all,BV]at this
    grind
 | cond c M U ih1 ih2=>
  intro r rl X lo Q ds e a w hr W h
  obtain⟨t,ht,hA,hB⟩:=(show yL (ev e c) (D P n pl rl M X lo Q ds e w) (D P n pl rl U X lo Q ds e w)from h).ex
  have hor:∀i,bit (iW (.cond c M U)) i=false->bit (iW M) i=false/\bit (iW U) i=false:=λi hi=>by
   simp_all[bit,iW]
  have hrf:fH (.cond c M U)=false->fH M=false/\fH U=false:=λhh=>by
   grind[fH]
  refine wpIn_cond_split (t:=t) (by rw[W.eval];exact ht) (λh1=>?_) (λh1=>?_)
  .exact wpIn_mono (ih1 r rl X lo Q ds e a w (hr.imp id λh=>(hrf h).1) W (hA h1)) λx G w' ⟨E,u,IG,Y,O,hq⟩=>⟨E,u,IG,λi hi=>Y i (hor i hi).1,λhh=>O (hrf hh).1,hq⟩
  .exact wpIn_mono (ih2 r rl X lo Q ds e a w (hr.imp id λh=>(hrf h).2) W (hB h1)) λx G w' ⟨E,u,IG,Y,O,hq⟩=>⟨E,u,IG,λi hi=>Y i (hor i hi).2,λhh=>O (hrf hh).2,hq⟩
 | block id c ih=>
  intro r rl X lo Q ds e a w hr W h
  refine wpIn_block (wpIn_mono (ih r rl _ _ _ ds e a w hr W h) λx G w' hp=>?_)
  obtain⟨E,u,IG,Y,O,hq⟩:=hp
  cases x with
  | exit k=>
   simp only[Exit.inBlock]
   simp only[V3]at hq
   by_cases hk:k=id
   .subst hk
    rw[Ec]at hq
    grind[uD,iW,fH]
   .rw[BS hk]at hq
    grind[uD,iW,fH]
  | _=>exact⟨E,u,IG,Y,O,hq⟩
 | loop c ih=>
  intro r rl X lo Q ds e a w hr W h
  have key:∀(V:List Nat->Env->List (Nat×Value)) (I:Nat->List (Nat×Value)->hM),(∃m,I m (V ds e) w)->
    (∀m E u w',(∀i,bit (iW c) i=false->u i=e i)->(fH c=false->E=ds)->I m (V E u) w'->D P n pl rl c X (li rl c X (li rl c X 0)) (tE (λds2 e2 w2=>∃m',m'<m/\I m' (V ds2 e2) w2) Q) E u w')->
    (Code.loop c).wpIn (FO r) 0 P (uD n (iW (.loop c)) (fH (.loop c)) ds e Q) a w:=by
   intro V I ⟨m,h1⟩ h2
   let Inv:Nat->Act->hM:=λm G w'=>∃E u,jE E n u G/\(∀i,bit (iW c) i=false->u i=e i)/\(fH c=false->E=ds)/\I m (V E u) w'
   have body:∀m G w',Inv m G w'->c.wpIn (FO r) 0 P (Exit.then (λa2 w2=>∃m',m'<m/\Inv m' a2 w2) (uD n (iW (.loop c)) (fH (.loop c)) ds e Q)) G w':=by
    rintro m G w' ⟨E,u,IG,Y,O,hi⟩
    refine wpIn_mono (ih r rl X _ _ E u G w' hr IG (h2 m E u w' Y O hi)) λx a2 w2 hp=>?_
    obtain⟨ds2,e2,ha2,hf2,aun,hq⟩:=hp
    have hfe:∀i,bit (iW c) i=false->e2 i=e i:=λi hi=>(hf2 i hi).trans (Y i hi)
    have amE:fH c=false->ds2=ds:=λhh=>(aun hh).trans (O hh)
    cases x with
    | normal=>obtain⟨m',hm',OJ⟩:=hq;exact⟨m',hm',ds2,e2,ha2,hfe,amE,OJ⟩
    | _=>exact⟨ds2,e2,ha2,hfe,amE,hq⟩
   classical
   let J:Act->hM:=λG w'=>∃m,Inv m G w'
   let μ:Act->World->Nat:=λG w'=>if h:∃m,Inv m G w' then abH (least h)else 0
   have hμ:∀G w',J G w'->Inv (μ G w') G w'/\∀k,Inv k G w'->μ G w'<=k:=λG w' hj=>by
    grind
   refine wpIn_loop J μ ⟨m,ds,e,W,λ_ _=>rfl,λ_=>rfl,h1⟩ λG w' hj=>?_
   refine wpIn_mono (body _ G w' (hμ G w' hj).1) λx a2 w2 hp=>?_
   cases x with
   | normal=>
    obtain⟨m',hm',OJ⟩:=hp
    exact⟨⟨m',OJ⟩,Nat.lt_of_le_of_lt ((hμ a2 w2 ⟨m',OJ⟩).2 m' OJ) hm'⟩
   | _=>exact hp
  have Z:(bif fH c then Aq (n::gl (Jj (iW c) (li rl c X (li rl c X 0))) n 0)
    (λK bs w=>∀dead,D P n pl rl c X (li rl c X (li rl c X 0)) (tE (λds e w=>K (Af e n (lK ds)) w) Q) (As (lkv n bs undef)) (Gv e (iW c) bs.tail dead) w) (Af e n (lK ds)) w
   else Aq (gl (Jj (iW c) (li rl c X (li rl c X 0))) n 0)
    (λK bs w=>∀dead,D P n pl rl c X (li rl c X (li rl c X 0)) (tE (λ_ e w=>K e w) Q) ds (Gv e (iW c) bs dead) w) e w):=h
  cases hc:fH c with
  | false=>
   rw[hc]at Z
   simp only[cond_false]at Z
   obtain⟨I,h1,h2⟩:=Aq.spec Z
   rw[show fH (.loop c)=fH c from rfl]at key
   have:=key (λ_ e=>jM (gl (Jj (iW c) (li rl c X (li rl c X 0))) n 0) e) I h1 λm E u w' Y O hi=>by
    have:=h2 m u w' hi u
    rw[yd Y]at this
    grind
   exact this
  | true=>
   rw[hc]at Z
   simp only[cond_true]at Z
   obtain⟨I,h1,h2⟩:=Aq.spec Z
   refine key (λds e=>jM (n::gl (Jj (iW c) (li rl c X (li rl c X 0))) n 0) (Af e n (lK ds))) I h1 λm E u w' Y O hi=>?_
   have:=h2 m (Af u n (lK E)) w' hi u
   rw[G5 Rr]at this
   rw[show((n,lK E)::jM (gl (Jj (iW c) (li rl c X (li rl c X 0))) n 0) u).tail=jM (gl (Jj (iW c) (li rl c X (li rl c X 0))) n 0) u from rfl,yd Y,
    show lkv n ((n,lK E)::jM (gl (Jj (iW c) (li rl c X (li rl c X 0))) n 0) u) undef=lK E by show(bif D0 n n then lK E else _)=_;simp_all,BV]at this
   exact this
 | rangeFunc g ps asx bd ihA ihB=>
  intro r rl X lo Q ds e a w hr W h
  have C8:r=none:=hr.resolve_right (by simp[fH])
  subst C8
  exact V6 ihA ihB rl X lo Q ds e a w W h
 | _=>intro r rl X lo Q ds e a w _ W h;exact h.elim
def OK(P:Program):List ResultVar->Env->(List Value->Prop)->hM
 | [],_,K,_=>K []
 | .tmp t::r,e,K,w=>OK P r e (λvs=>K (e t::vs)) w
 | .cell a t::r,e,K,w=>Kn P (yx t (e a)) w (λv=>OK P r e (λvs=>K (v::vs)) w)
def V8:List Value->Value
 | [v]=>v
 | vs=>.tuple vs.toArray
def mV:List Nat->World->(hM)->Prop
 | [],w,K=>K w
 | D::r,w,K=>w.heap[D]?=some (.deferred (some []))/\mV r (w.putObj D (.deferred none)) K
def OL(P:Program)(rs:List ResultVar)(K:Value->hM):C7
 | .normal,ds,e,w=>mV ds w λw=>OK P rs e (λvs=>K (V8 vs) w) w
 | .ret,ds,e,w=>mV ds w λw=>OK P rs e (λvs=>K (V8 vs) w) w
 | _,_,_,_=>False
def C9:List Value->Env
 | [],_=>undef
 | v::_,0=>v
 | _::r,n+1=>C9 r n
theorem V9(l:List Value)(i:Nat):C9 l i=l.getD i undef:=by
 induction l generalizing i with
 | nil=>simp[C9]
 | cons v r u=>cases i with
  | zero=>rfl
  | succ i=>simp[C9,u]
def TL(tmps:Array Value):ResultVar->Sem Value
 | .tmp t=>pure (tmps.getD t undef)
 | .cell a t=>do loadVar t (<- asAddr (tmps.getD a undef))
theorem IM{P:Program}{t:TypeId}{v u:Value}{w:World}(h:(yx t v).run P w=.ok u w):(do loadVar t (<- asAddr v):Sem Value).run P w=.ok u w:=by
 cases v with
 | pointer a=>cases a with
  | none => exact absurd (show(Result.halt (.stuck "an address expected (no nilCheck in front?)") w : Result Value)=.ok u w from h) ee
  | some a=>exact h
 | _ => exact absurd (show(Result.halt (.stuck "an address expected (no nilCheck in front?)") w : Result Value)=.ok u w from h) ee
theorem Wa{P:Program}{ds:List Nat}{n:Nat}{e:Env}{a:Act}(B:jE ds n e a):∀(rs:List ResultVar) (K:List Value->Prop) (w:World),OK P rs e K w->
  ∃vs,(rs.mapM (TL a.tmps)).run P w=.ok vs w/\K vs:=by
 intro rs
 induction rs with
 | nil=>intro K w h;exact⟨[],rfl,h⟩
 | cons r rs G=>
  intro K w h
  have step:∀v,(TL a.tmps r).run P w=.ok v w->OK P rs e (λvs=>K (v::vs)) w->∃vs,((r::rs).mapM (TL a.tmps)).run P w=.ok vs w/\K vs:=by
   intro v E u
   obtain⟨vs,h1,h2⟩:=G _ w u
   simp_all
  cases r with
  | tmp t=>exact step (e t) (by rw[<- B.get t];rfl) h
  | cell c t=>
   obtain⟨v,E,u⟩:=h.ex
   refine step v ?_ u
   show(do loadVar t (<- asAddr (a.tmps.getD c undef)):Sem Value).run P w=_
   rw[B.get c]
   exact IM E
theorem KJ{P:Program}{u:Func}{rs:List ResultVar}(B:u.results=rs.toArray){tmps:Array Value}{w:World}{vs:List Value}
  (h:(rs.mapM (TL tmps)).run P w=.ok vs w):(results u tmps).run P w=.ok (V8 vs) w:=by
 have e:results u tmps=(rs.toArray.mapM (TL tmps) >>= λvs=>pure (if h:vs.size=1 then vs[0]else .tuple vs)):=by
  unfold results;rw[B];rfl
 rw[e,List.mapM_toArray]
 have h1:(Functor.map (λa=>a.toArray) (rs.mapM (TL tmps))).run P w=.ok vs.toArray w:=by
  simp_all
 rw[eL h1]
 show Result.ok _ w=Result.ok _ w
 congr 1
 match vs with
 | []=>rfl
 | [v]=>rfl
 | a::b::r=>simp[V8]
theorem IN{P:Program}{u:Func}{tmps:Array Value}{R:Ending->hM}:∀(ds:List Nat) (w:World),mV ds w (λw'=>∃v,(results u tmps).run P w'=.ok v w'/\R (.returned v) w')->
  LeavesInM (FO none) 0 P u tmps R (ds.map mark) .returning w:=by
 intro ds
 induction ds with
 | nil=>intro w ⟨v,h1,h2⟩;exact⟨v,h1,h2⟩
 | cons D r B=>intro w h;exact⟨ee,.inl ⟨D,_,rfl,run_takeDeferred h.1,B _ h.2⟩⟩
theorem mV.mono{ds:List Nat}{K u:hM}(B:∀w,K w->u w):∀{w:World},mV ds w K->mV ds w u:=by
 induction ds with
 | nil=>intro w h;exact B w h
 | cons D r E=>intro w h;exact⟨h.1,E h.2⟩
theorem Ei{P:Program}{n:Nat}{pl:dI}{rl:Nat}{f:FuncId}{u:Func}{c:Code}{rs:List ResultVar}{args:List Value}{w:World}{K:Value->hM}
  (M:P.follows .mixedOrders=true) (V:P.funcs[f]?=some u) (hb:u.body=some c) (hn:u.ntmps=n) (Y:u.results=rs.toArray) (U:args.length<=n)
  (h:D P n pl rl c [] rl (OL P rs K) [] (C9 args) w):Calls P f args.toArray w (ub K):=by
 refine zu.1 (callsIn_of_wp_marks (F:=FO none) (n:=0) V hb trivial ?_)
 have O:jE [] n (C9 args) {tmps:=args.toArray++Array.replicate (u.ntmps-args.toArray.size) undef,defers:=[]}:=by
  refine⟨rfl,cL,λi=>?_⟩
  rw[V9,E9,Array.getElem?_append]
  grind
 refine wpIn_mono (ab3 M c none rl [] rl _ [] _ _ w (.inl rfl) O h) λx G w' W=>?_
 obtain⟨I,Z,J,_,_,B⟩:=W
 have E:mV I w' (λw=>OK P rs Z (λvs=>K (V8 vs) w) w)->LeavesInM (FO none) 0 P u G.tmps (ub K) G.defers .returning w':=λB=>by
  rw[J.defers]
  refine IN I w' (B.mono λw1 h1=>?_)
  obtain⟨vs,h1,h2⟩:=Wa J rs _ w1 h1
  exact⟨_,KJ Y h1,_,rfl,h2⟩
 cases x with
 | normal=>exact E B
 | ret=>exact E B
 | _=>exact B.elim
def okD{P:Program}{n:Nat}{pl:dI}{rl:Nat}{f:FuncId}{u:Func}{c:Code}{rs:List ResultVar}{args:List Value}{w:World}{K:Value->hM}{S:Prop}
  (I:P.funcs[f]?=some u) (hb:u.body=some c) (G:u.ntmps=n) (J:u.results=rs.toArray) (E:P.follows .mixedOrders=true) (B:args.length<=n)
  (e:D P n pl rl c [] rl (OL P rs K) [] (C9 args) w=S) (h:S):Calls P f args.toArray w (ub K):=Ei E I hb G J B (e.mpr h)
def okE{P:Program}(n:Nat)(pl:dI)(rl:Nat)(rs:List ResultVar){f:FuncId}{u:Func}{args:List Value}{w:World}{K:Value->hM}{S:Prop}
  (I:P.funcs[f]?=some u) (hb:u.body=some (u.body.getD .skip)) (G:u.ntmps=n) (J:u.results=rs.toArray) (E:P.follows .mixedOrders=true) (B:args.length<=n)
  (e:D P n pl rl (u.body.getD .skip) [] rl (OL P rs K) [] (C9 args) w=S) (h:S):Calls P f args.toArray w (ub K):=okD I hb G J E B e h
theorem okZ{P:Program}(n:Nat)(pl:dI)(rl:Nat)(rs:List ResultVar){f:FuncId}{u:Func}{args:List Value}{w:World}{K:Value->hM}{S:Prop}
  (E:P.funcs[f]?=some u) (B:P.follows .mixedOrders=true) (hc:(u.body.isSome,u.ntmps,u.results,Sx args.length n)=(true,n,rs.toArray,true))
  (e:D P n pl rl (u.body.getD .skip) [] rl (OL P rs K) [] (C9 args) w=S) (h:S):Calls P f args.toArray w (ub K):=by
 have h1:u.body.isSome=true:=gQ (λx=>x.1) hc
 have h2:u.ntmps=n:=gQ (λx=>x.2.1) hc
 have h3:u.results=rs.toArray:=gQ (λx=>x.2.2.1) hc
 have h4:Sx args.length n=true:=gQ (λx=>x.2.2.2) hc
 have h5:u.body=some (u.body.getD .skip):=by
  cases hb:u.body with
  | none=>rw[hb]at h1;cases h1
  | some c=>rfl
 exact okD E h5 h2 h3 B (Ek h4) e h
def dJ{P : Program}{f : FuncId}{u : Func}(B : P.funcs[f]?=some u)(h : (u.name == "runtime.NumGoroutine", u.body.isNone)=(false, false) := by kernel_rfl) : Plain P f := ⟨u, B, gQ (λx => x.1) h, gQ (λx => x.2) h⟩
def vb{a b:Bool}(h:a=b):xl a=xl b:=gQ _ h
def Oi{p:Prop}[Decidable p](h:p):xl true=xl (decide p):=vb (ew h).symm
def jvF{p:Prop}[Decidable p](h:¬ p):xl false=xl (decide p):=vb (fP h).symm
def yN{p q:Prop}[Decidable p][Decidable q](h:p↔q):xl (decide p)=xl (decide q):=vb (ga.2 h)
end Go.Fw
namespace Go.Proofs.YtpdlpabnlkofmaaGreatDoor
open Go.Fw
variable (w:World) (K:Value->hM)
abbrev i(n:Int):Value:=.int .i64 n
abbrev tt:Value:=.bool true
abbrev ff:Value:=.bool false
abbrev fA(T:Nat)(v:Value)(f:Nat)(K:Value->Prop):Prop:=eU hH (G8 T v f) K
abbrev iA(T:Nat)(v j:Value)(K:Value->Prop):Prop:=eU hH (H3 T v j) K
abbrev lA(T:Nat)(p:Value)(w:World)(K:Value->Prop):Prop:=Kn hH (yx T p) w K
abbrev sA(T:Nat)(p v:Value)(w:World)(K:hM):Prop:=Vx hH (KK T p v) w K
abbrev bA(o:BinOp)(T:Nat)(x y:Value)(K:Value->Prop):Prop:=eU hH (kq o T false false x y) K
abbrev bB(o:BinOp)(T:Nat)(x y:Value)(K:Value->Prop):Prop:=eU hH (kq o T false true x y) K
abbrev bC(o:BinOp)(T:Nat)(x y:Value)(K:Value->Prop):Prop:=eU hH (kq o T true false x y) K
abbrev cF(f:Nat)(args:List Value)(w:World)(K:Value->hM):Prop:=CG hH f args w K
abbrev nC(v:Value)(K:Value->Prop):Prop:=eU hH (TE v) K
abbrev lN(T:Nat)(v:Value)(K:Value->Prop):Prop:=eU hH (Builtin.len_ #[T] 3 [v].toArray) K
abbrev aL(T:Nat)(w:World)(K:Value->hM):Prop:=rR hH (P2 T true (.tuple #[])) w K
abbrev xT(v:Value)(k:Nat)(K:Value->Prop):Prop:=eU hH (S3 v k) K
abbrev kA(T:Nat)(p v:Value)(w:World)(R:Prop):Prop:=Rh hH (yx T p) v w R
abbrev aP(T:Nat)(a b:Value)(w:World)(K:Value->hM):Prop:=rR hH (Builtin.append_ #[T,T] T [a,b].toArray) w K
abbrev bS(T n:Nat)(l:List (Nat×Value))(w:World)(K:Value->hM):Prop:=rR hH (KN T n l.toArray) w K
abbrev cV(v:Value)(a b:Prop):Prop:=yL v a b
noncomputable abbrev PG:Program:=hH
abbrev CR(n:Nat)(a:List Value)(w:World)(K:Value->hM):Prop:=Calls hH n a.toArray w (ub K)
abbrev PL(n:Nat):Prop:=Plain hH n
theorem mixed:Tryz.prog.follows .mixedOrders=true:=by kernel_rfl
theorem qW(n:Nat)(pl:dI)(rl:Nat)(rs:List ResultVar){f:FuncId}{u:Func}{args:List Value}{w:World}{K:Value->hM}{S:Prop}
  (B:PG.funcs[f]?=some u) (h:S) (hc:(u.body.isSome,u.ntmps,u.results,Sx args.length n)=(true,n,rs.toArray,true):=by kernel_rfl)
  (e:D PG n pl rl (u.body.getD .skip) [] rl (OL PG rs K) [] (C9 args) w=S:=by kernel_rfl):CR f args w K:=okZ n pl rl rs B mixed hc e h
def TM:List ResultVar->Nat
 | []=>0
 | .tmp t::r=>V1 (TM r) t
 | .cell a _::r=>V1 (TM r) a
theorem oL{f:FuncId}{u:Func}(B:Tryz.prog.funcs[f]?=some u){args:List Value}{w:World}{K:Value->hM}{pl:dI}
  (h:D hH u.ntmps pl (TM u.results.toList) (u.body.getD .skip) [] (TM u.results.toList) (OL hH u.results.toList K) [] (C9 args) w)
  (hc:(u.body.isSome,Sx args.length u.ntmps)=(true,true):=by kernel_rfl):Calls hH f args.toArray w (ub K):=by
 have h1:u.body.isSome=true:=gQ (λx=>x.1) hc
 have h5:u.body=some (u.body.getD .skip):=by
  cases hb:u.body with
  | none=>rw[hb]at h1;cases h1
  | some c=>rfl
 exact Ei mixed B h5 rfl ee (Ek (gQ (λx=>x.2) hc)) h
theorem eZ{f:FuncId}{u:Func}(B:Tryz.prog.funcs[f]?=some u){args:List Value}{w:World}{K:Value->hM}
  (h:D hH u.ntmps (λ_=>.nil) (TM u.results.toList) (u.body.getD .skip) [] (TM u.results.toList) (OL hH u.results.toList K) [] (C9 args) w)
  (hc:(u.body.isSome,Sx args.length u.ntmps)=(true,true):=by kernel_rfl):Calls hH f args.toArray w (ub K):=oL B h hc
def P11:dI:=λi=>match i with
 | 1=>(.op 0 [] (.op 1 [] (.op 3 [] (.op 4 [] (.op 6 [] (.op 7 [] (.op 9 [] (.op 10 [] (.alt 2 [4,7,10] (.alt 5 [7,10] (.alt 8 [10] (.alt 11 [] (.of [(12,[]),(13,[1,4,7,10]),(14,[])]) (.alt 13 [1,4,7,10] (.of [(11,[]),(12,[]),(14,[])]) .stop)) (.alt 13 [1,4,7,10] (.of [(8,[10]),(11,[]),(12,[]),(14,[])]) .stop)) (.alt 13 [1,4,7,10] (.of [(5,[7,10]),(8,[10]),(11,[]),(12,[]),(14,[])]) .stop)) (.alt 13 [1,4,7,10] (.of [(2,[4,7,10]),(5,[7,10]),(8,[10]),(11,[]),(12,[]),(14,[])]) .stop))))))))))
 | 5=>(.of [(0,[]),(1,[]),(2,[]),(3,[]),(4,[]),(5,[]),(6,[]),(7,[1]),(8,[1]),(9,[]),(10,[]),(11,[])])
 | 9=>(.of [(0,[]),(1,[]),(2,[]),(3,[]),(4,[]),(5,[]),(6,[]),(7,[]),(9,[]),(10,[]),(11,[]),(12,[]),(13,[]),(14,[]),(8,[1,10,14]),(15,[]),(16,[1]),(17,[]),(18,[]),(19,[])])
 | _=>.nil
def P19:dI:=λi=>match i with
 | 6=>.run 0 51
 | _=>.nil
def P46:dI:=λi=>match i with
 | 5=>(.op 0 [] (.op 1 [] (.op 2 [] (.op 3 [] (.op 4 [] (.op 5 [] (.op 6 [] (.op 7 [] (.op 8 [] (.op 9 [] (.op 10 [] (.op 11 [] (.op 12 [] (.op 13 [] (.op 14 [] (.op 15 [] (.op 16 [] (.op 17 [] (.op 18 [] (.op 19 [] (.op 20 [] (.op 21 [] (.op 22 [] (.alt 23 [4,9,17] (.of [(24,[]),(25,[4,9,17,22]),(26,[])]) (.alt 25 [4,9,17,22] (.of [(23,[4,9,17]),(24,[]),(26,[])]) .stop)))))))))))))))))))))))))
 | 9=>(.of [(0,[]),(1,[]),(2,[]),(3,[]),(4,[]),(5,[]),(6,[]),(7,[]),(8,[]),(9,[]),(10,[]),(11,[]),(12,[]),(13,[]),(14,[]),(15,[]),(16,[]),(17,[]),(18,[]),(19,[]),(20,[]),(21,[1]),(22,[]),(23,[]),(24,[])])
 | _=>.nil
def S57(p0:Value):Prop:=
 rR hH (By 27 p0) w λp1 a=>lA 27 p1 a λb=>cF 118 [b] a λc d=>eU hH (Op.unary .not c) λe=>cV e (K (.tuple #[(i 8),(i 0)]) d) (lA 27 p1 d λf=>
 cF 119 [f] d λg h=>cV g (K (.tuple #[(i 2),(i 0)]) h) (lA 27 p1 h λj=>cF 120 [j] h λk l=>kM (λK1 W n=>∀_:Env,
 lN 24 k λo=>bA .lss 3 W o λp=>cV p (iA 24 k W λq=>fA 146 q 2 λr=>lA 141 r n λs=>cF 121 [s,(i 1)] n λt u=>bB .geq 3 t (i 0) λv=>cV v (K (.tuple #[(i 11),t]) u) (
 bB .add 3 W (i 1) λx=>K1 x u)) (lA 27 p1 n λy=>cF 122 [y] n λz aa=>bB .geq 3 z (i 0) λab=>cV ab (K (.tuple #[(i 10),z]) aa) (kM (λK2 J ac=>∀_:Env,
 lN 24 k λad=>bA .lss 3 J ad λae=>cV ae (kM (λK3 V M=>∀_:Env,
 iA 24 k J λag=>fA 146 ag 1 λah=>lA 91 ah M λai=>lN 91 ai λaj=>bA .lss 3 V aj λak=>cV ak (iA 24 k J λal=>fA 146 al 1 λam=>lA 91 am M λan=>iA 91 an V λao=>
 lA 9 ao M λap=>fg (λZ=>iA 24 k J λaq=>fA 146 aq 1 λar=>lA 91 ar M λasx=>cF 123 [asx,ap] M λau Y=>bA .lss 3 au V λaw=>cV aw (Z tt Y) (lA 27 p1 Y λax=>
 cF 124 [ax] Y λay az=>cF 123 [ay,ap] az λa0 a1=>bB .geq 3 a0 (i 0) λa2=>cV a2 (Z tt a1) (lA 27 p1 a1 λa3=>cF 125 [a3] a1 λa4 a5=>cF 123 [a4,ap] a5 λa6 a7=>
 bB .geq 3 a6 (i 0) λa8=>Z a8 a7))) (λa9 ba=>∀_:Env,
 cV a9 (iA 24 k J λbb=>fA 146 bb 3 λbc=>lA 3 bc (drew ba) λbd=>K (.tuple #[(i 10),bd]) (drew ba)) (bB .add 3 V (i 1) λbe=>K3 be ba))) (bB .add 3 J (i 1) λbf=>
 K2 bf M)) λK3=>K3 (i 0) ac) (kM (λK5 B U=>∀_:Env,
 lN 24 k λbh=>bA .lss 3 B bh λbi=>cV bi (kM (λK6 E I=>∀_:Env,
 iA 24 k B λbk=>fA 146 bk 2 λbl=>lA 141 bl I λbm=>lN 141 bm λbn=>bA .lss 3 E bn λbo=>cV bo (lA 27 p1 (drew I) λbp=>iA 24 k B λbq=>lA 146 bq (drew I) λbr=>
 iA 24 k B λbs=>fA 146 bs 2 λbt=>lA 141 bt (drew I) λbu=>iA 141 bu E λbv=>lA 193 bv (drew I) λbw=>cF 126 [bp,br,bw] (drew I) λbx bz=>bB .geq 3 bx (i 0) λb0=>
 cV b0 (K (.tuple #[(i 9),bx]) bz) (bB .add 3 E (i 1) λb1=>K6 b1 bz)) (bB .add 3 B (i 1) λb2=>K5 b2 I)) λK6=>K6 (i 0) U) (lA 27 p1 (drew U) λb3=>lA 27 p1 (drew U) λb4=>
 cF 124 [b3] (drew U) λb5 b6=>kA 27 p1 b4 b6 (cF 62 [b4] b6 λb7 b8=>eU hH (ob 91 b5 none (some b7) none) λb9=>kM (λK7 G O=>∀_:Env,
 fA 27 p1 5 λcb=>lA 25 cb O λcc=>lN 25 cc λcd=>bA .lss 3 G cd λce=>cV ce (fA 27 p1 5 λcf=>lA 25 cf O λcg=>iA 25 cg G λch=>fA 85 ch 0 λci=>lA 82 ci O λcj=>
 cF 127 [cj,b9] O λck cl=>bB .geq 3 ck (i 0) λcm=>cV cm (K (.tuple #[(i 9),ck]) cl) (bB .add 3 G (i 1) λcn=>K7 cn cl)) (K (.tuple #[(i 0),(i 0)]) O)) λK7=>K7 (i 0) b8)))
 λK5=>K5 (i 0) ac)) λK2=>K2 (i 0) aa))) λK1=>K1 (i 0) l))
def P57:dI:=λi=>match i with
 | 23=>.run 0 7
 | 30=>.run 0 15
 | 33=>(.of [(0,[]),(2,[]),(1,[2]),(3,[]),(4,[]),(5,[])])
 | _=>.nil
theorem ahF(p0:Value)(h:S57 w K p0):CR 57 [p0] w K:=
 qW 150 P57 12 [.tmp 2,.tmp 3] Tryz.func57 h
def S61(E I J:Value):Prop:=
 fg (λM=>lN 41 E λa=>lN 41 J λb=>bA .neq 3 a b λc=>cV c (M tt w) (lN 41 E λd=>bB .gtr 3 d (i 20) λe=>cV e (M tt w) (bB .lss 3 I (i 0) λf=>
 cV f (M tt w) (lN 41 E λg=>bA .gtr 3 I g λh=>M h w)))) (λj k=>∀_:Env,
 cV j (K (.tuple #[(.pointer none),(i 1)]) k) (kM (λK2 B l=>∀_:Env,
 bA .lss 3 B I λn=>cV n (fg (λG=>bB .eql 3 B (i 0) λo=>cV o (iA 41 E (i 0) λp=>lA 3 p (drew l) λq=>bB .neq 3 q (i 0) λr=>cV r (G tt (drew l)) (
 bB .gtr 3 B (i 0) λs=>cV s (iA 41 E B λt=>lA 3 t (drew l) λu=>bB .sub 3 B (i 1) λv=>iA 41 E v λx=>lA 3 x (drew l) λy=>bA .neq 3 u y λz=>cV z (iA 41 E B λaa=>
 lA 3 aa (drew l) λab=>bB .sub 3 B (i 1) λac=>iA 41 E ac λad=>lA 3 ad (drew l) λae=>bB .add 3 ae (i 1) λaf=>bA .neq 3 ab af λag=>G ag (drew l)) (G ff (drew l))) (
 G ff (drew l)))) (bB .gtr 3 B (i 0) λah=>cV ah (iA 41 E B λai=>lA 3 ai (drew l) λaj=>bB .sub 3 B (i 1) λak=>iA 41 E ak λal=>lA 3 al (drew l) λam=>bA .neq 3 aj am λan=>
 cV an (iA 41 E B λao=>lA 3 ao (drew l) λap=>bB .sub 3 B (i 1) λaq=>iA 41 E aq λar=>lA 3 ar (drew l) λasx=>bB .add 3 asx (i 1) λau=>bA .neq 3 ap au λZ=>
 G Z (drew l)) (G ff (drew l))) (G ff (drew l)))) (λV U=>∀_:Env,
 cV V (K (.tuple #[(.pointer none),(i 1)]) U) (bB .add 3 B (i 1) λay=>K2 ay U))) (bS 41 0 [] l λaz a0=>eU hH (ob 41 E none (some I) none) λa1=>
 aP 41 az a1 a0 λa2 a3=>bS 41 0 [] a3 λa4 a5=>aP 41 a4 J a5 λY a7=>eU hH (mL 122 [(0,a2),(1,Y)].toArray) λa8=>rR hH (By 122 a8) a7 λO ba=>
 bS 41 0 [] ba λbb W=>aP 41 bb J W λbd be=>nC O λbf=>fA 122 bf 2 λbg=>sA 41 bg bd be λbh=>bS 41 0 [] bh λbi bj=>eU hH (ob 41 J none (some I) none) λbk=>
 aP 41 bi bk bj λbl bm=>nC O λbn=>fA 122 bn 3 λbo=>sA 41 bo bl bm λbp=>K (.tuple #[O,(i 0)]) bp)) λK2=>K2 (i 0) k))
def P61:dI:=λi=>match i with
 | 6=>.run 0 37
 | _=>.nil
theorem ahG(u B E:Value)(h:S61 w K u B E):CR 61 [u,B,E] w K:=
 qW 97 P61 192 [.tmp 6,.tmp 7] Tryz.func61 h
def P62:dI:=λi=>match i with
 | 1=>(.of [(0,[]),(3,[]),(4,[]),(5,[]),(1,[4]),(2,[]),(6,[]),(7,[])])
 | _=>.nil
def P65:dI:=λi=>match i with
 | 6=>(.of [(0,[]),(1,[]),(2,[]),(3,[1]),(4,[1]),(5,[]),(6,[]),(7,[])])
 | 8=>(.of [(0,[]),(1,[]),(2,[]),(3,[1]),(4,[]),(5,[]),(6,[])])
 | 10=>(.of [(0,[]),(1,[]),(2,[]),(3,[1]),(4,[]),(5,[]),(6,[])])
 | 13=>(.of [(0,[]),(1,[]),(2,[]),(3,[]),(4,[]),(5,[]),(6,[]),(7,[]),(8,[1]),(9,[1]),(10,[]),(11,[]),(12,[])])
 | 15=>(.of [(0,[]),(1,[]),(2,[]),(3,[]),(4,[]),(5,[]),(6,[]),(7,[]),(8,[]),(9,[]),(10,[]),(11,[]),(12,[]),(13,[1]),(14,[1]),(15,[]),(16,[]),(17,[])])
 | 17=>(.of [(0,[]),(1,[]),(2,[]),(3,[]),(4,[]),(5,[]),(6,[]),(7,[]),(8,[]),(9,[]),(10,[]),(11,[]),(12,[1]),(13,[1]),(14,[]),(15,[]),(16,[])])
 | 21=>(.of [(0,[]),(1,[]),(2,[]),(3,[]),(4,[]),(5,[]),(6,[]),(7,[]),(8,[]),(9,[4,8]),(10,[]),(11,[])])
 | _=>.nil
def P71:dI:=λi=>match i with
 | 6=>.run 0 9
 | _=>.nil
def P77:dI:=λi=>match i with
 | 3=>.run 0 14
 | _=>.nil
theorem aup:PL 11:=dJ Tryz.func11
theorem auq:PL 17:=dJ Tryz.func17
theorem OM:PL 19:=dJ Tryz.func19
theorem TN:PL 45:=dJ Tryz.func45
theorem IP:PL 46:=dJ Tryz.func46
theorem ahH:PL 47:=dJ Tryz.func47
theorem amG:PL 49:=dJ Tryz.func49
theorem aur:PL 57:=dJ Tryz.func57
theorem amH:PL 58:=dJ Tryz.func58
theorem TO:PL 59:=dJ Tryz.func59
theorem aus:PL 61:=dJ Tryz.func61
theorem IQ:PL 62:=dJ Tryz.func62
theorem aut:PL 65:=dJ Tryz.func65
theorem amI:PL 71:=dJ Tryz.func71
theorem amJ:PL 77:=dJ Tryz.func77
variable (w:World) (K:Value->hM)
def P84:dI:=λi=>match i with
 | 1=>(.of [(0,[]),(1,[]),(2,[]),(3,[]),(4,[]),(5,[3]),(6,[]),(7,[]),(8,[])])
 | _=>.nil
def P86:dI:=λi=>match i with
 | 5=>.run 0 9
 | _=>.nil
def S92(M Da:Value):Prop:=
 cF 17 [M] w λa b=>lN 41 Da λc=>lN 41 a λd=>bA .neq 3 c d λe=>cV e (K (.tuple #[(.slice none 0 0),(i 1)]) b) (kM (λY J f=>∀_:Env,
 lN 41 a λg=>bA .lss 3 J g λh=>cV h (fg (λK2=>iA 41 Da J λj=>lA 3 j (drew f) λk=>bB .lss 3 k (i 0) λl=>cV l (K2 tt (drew f)) (iA 41 Da J λn=>lA 3 n (drew f) λo=>
 iA 41 a J λp=>lA 3 p (drew f) λq=>bA .gtr 3 o q λr=>K2 r (drew f))) (λs t=>∀_:Env,
 cV s (K (.tuple #[(.slice none 0 0),(i 1)]) t) (bB .add 3 J (i 1) λu=>Y u t))) (G3 (λU=>nC M λv=>fA 122 v 3 λx=>lA 41 x (drew f) λy=>((bS 41 0 [] (drew f) λz W=>
 kA 41 x y W ((aP 41 z Da W λab ac=>kA 41 x y ac (bS 41 0 [] ac λad ae=>kA 41 x y ae (aP 41 ad y ae λaf ag=>U ab af ag)))
 /\((bS 41 0 [] W λah ai=>kA 41 x y ai (aP 41 z Da ai λaj ak=>kA 41 x y ak (aP 41 ah y ak λal am=>U aj al am)))
 /\
 True)))
 /\((bS 41 0 [] (drew f) λan B=>kA 41 x y B (bS 41 0 [] B λap aq=>kA 41 x y aq (aP 41 ap Da aq λar asx=>kA 41 x y asx (aP 41 an y asx λau av=>U ar au av))))
 /\
 True))) (λZ Wb aw=>∀_:Env,
 kM (λO G I=>∀_:Env,
 nC M λay=>fA 122 ay 4 λaz=>lA 120 az I λa0=>lN 120 a0 λa1=>bA .lss 3 G a1 λa2=>cV a2 (yM (λK5=>nC M λa3=>fA 122 a3 4 λa4=>lA 120 a4 I λa5=>
 iA 120 a5 G λa6=>lA 125 a6 I λa7=>aL 125 I λB a8=>sA 125 B a7 a8 λE=>fA 125 B 0 λba=>lA 3 ba E λbb=>iA 41 Z bb λbc=>lA 3 bc E λbd=>bB .gtr 3 bd (i 0) λbe=>
 cV be (fA 125 B 0 λbf=>lA 3 bf (drew E) λbg=>fA 125 B 0 λbh=>lA 3 bh (drew E) λbi=>iA 41 Z bi λbj=>lA 3 bj (drew E) λbk=>bB .sub 3 bk (i 1) λbl=>
 iA 41 Z bg λbm=>sA 3 bm bl (drew E) λV=>fA 125 B 1 λbo=>lA 3 bo V λbp=>fA 125 B 2 λbq=>lA 3 bq V λbr=>iA 41 Wb bp λbs=>sA 3 bs br V λbt=>
 K5 bt) (K5 E)) (λbu=>∀_:Env,
 bB .add 3 G (i 1) λbv=>O bv bu)) (K (.tuple #[Wb,(i 0)]) I)) λO=>O (i 0) aw))) λY=>Y (i 0) b)
def P92:dI:=λi=>match i with
 | 7=>.run 0 16
 | 9=>(.op 1 [] (.op 4 [] (.op 5 [] (.op 6 [] (.op 7 [] (.alt 0 [7] (.alt 2 [7] (.of [(3,[7]),(8,[]),(9,[]),(10,[])]) (.alt 3 [7] (.of [(2,[7]),(8,[]),(9,[]),(10,[])]) .stop)) (.alt 3 [7] (.of [(0,[7]),(2,[7]),(8,[]),(9,[]),(10,[])]) .stop)))))))
 | 15=>.run 0 11
 | _=>.nil
theorem ahI(u Da:Value)(h:S92 w K u Da):CR 92 [u,Da] w K:=
 qW 89 P92 48 [.tmp 4,.tmp 5] Tryz.func92 h
def P93:dI:=λi=>match i with
 | 5=>.run 0 13
 | _=>.nil
def S94(E:Value):Prop:=
 pD (λB G u a=>∀_:Env,
 lN 41 E λb=>bA .lss 3 u b λc=>cV c (bC .mul 3 (i 10000) G λd=>iA 41 E u λe=>lA 3 e a λf=>bA .add 3 d f λg=>bB .add 3 u (i 1) λh=>B g h a) (K G a))
 (λB=>B (i 0) (i 0) w)
theorem ahJ(u:Value)(h:S94 w K u):CR 94 [u] w K:=
 qW 19 (λ_=>.nil) 4 [.tmp 2] Tryz.func94 h
def S122(p0:Value):Prop:=
 rR hH (By 27 p0) w λp1 a=>bS 23 0 [] a λb c=>lA 27 p1 c λd=>cF 59 [d] c λe f=>aP 23 b e f λg h=>fA 27 p1 2 λj=>lA 23 j h λk=>aP 23 g k h λl n=>
 pD (λJ E G o=>∀_:Env,
 fA 27 p1 3 λp=>lA 24 p o λq=>lN 24 q λr=>bA .lss 3 G r λs=>cV s (fA 27 p1 3 λt=>lA 24 t (drew o) λu=>iA 24 u G λv=>fA 146 v 0 λx=>lA 9 x (drew o) λy=>
 fA 27 p1 3 λz=>lA 24 z (drew o) λY=>iA 24 Y G λV=>fA 146 V 3 λac=>lA 3 ac (drew o) λad=>eU hH (mL 161 [(0,y),(2,ad)].toArray) λZ=>
 bS 23 1 [(0,Z)] (drew o) λaf ag=>aP 23 E af ag λah ai=>bB .add 3 G (i 1) λaj=>J ah aj ai) (cF 202 [E] o λak al=>kM (λK2 B M=>∀_:Env,
 lN 23 E λan=>bA .lss 3 B an λao=>cV ao (iA 23 E B λW=>fA 161 W 0 λaq=>lA 9 aq M λar=>cF 123 [ak,ar] M λasx I=>bA .lss 3 asx B λav=>cV av (iA 23 E B λU=>
 fA 161 U 2 λO=>lA 3 O I λay=>K ay I) (bB .add 3 B (i 1) λaz=>K2 az I)) (K (i (-1)) M)) λK2=>K2 (i 0) al)) (λJ=>J l (i 0) n)
def auu:dI:=λi=>match i with
 | 6=>.run 0 17
 | _=>.nil
theorem ab4(p0:Value)(h:S122 w K p0):CR 122 [p0] w K:=
 qW 60 auu 4 [.tmp 2] Tryz.func122 h
def auv:dI:=λi=>match i with
 | 3=>(.of [(0,[]),(2,[]),(3,[]),(1,[3]),(4,[]),(5,[])])
 | 16=>(.of [(0,[]),(2,[]),(3,[]),(1,[3]),(4,[]),(5,[])])
 | _=>.nil
def S130(B:Value):Prop:=
 lN 9 B λa=>bB .gtr 3 a (i 4000) λb=>cV b (K (.tuple #[(.slice none 0 0),(i 2),(i 4000)]) w) (bS 198 0 [] w λc d=>cF 205 [B,(i 0)] d λe f=>pD (λZ zA E g=>∀_:Env,
 lN 9 B λh=>bA .lss 3 E h λj=>cV j (eU hH (mL 209 [(3,E)].toArray) λk=>aL 209 g λI l=>sA 209 I k l λn=>fg (λK2=>eU hH (vp 9 B E) λo=>
 cF 206 [o] n λp q=>cV p (fA 209 I 0 λr=>sA 3 r (i 1) q λs=>kM (λV G t=>∀_:Env,
 fg (λU=>lN 9 B λu=>bA .lss 3 G u λv=>cV v (eU hH (vp 9 B G) λx=>cF 206 [x] t λy z=>cV y (U tt z) (eU hH (vp 9 B G) λaa=>
 cF 207 [aa] z λab ac=>U ab ac)) (U ff t)) (λad Y=>∀_:Env,
 cV ad (bB .add 3 G (i 1) λaf=>V af Y) (bA .sub 3 G E λag=>bB .gtr 3 ag (i 16) λah=>cV ah (K (.tuple #[(.slice none 0 0),(i 2),E]) Y) (K2 G Y)))) λV=>V E s) (
 eU hH (vp 9 B E) λai=>cF 207 [ai] q λaj ak=>cV aj (fA 209 I 0 λal=>sA 3 al (i 2) ak λam=>kM (λW M an=>∀_:Env,
 fg (λK6=>lN 9 B λao=>bA .lss 3 M ao λap=>cV ap (eU hH (vp 9 B M) λaq=>cF 207 [aq] an λar asx=>K6 ar asx) (K6 ff an)) (λau J=>∀_:Env,
 cV au (yM (λK7=>fA 209 I 2 λaw=>lA 3 aw J λax=>bB .leq 3 ax (i 4294967296) λay=>cV ay (fA 209 I 2 λaz=>lA 3 az (drew J) λa0=>bC .mul 3 (i 10) a0 λa1=>
 eU hH (vp 9 B M) λa2=>bB .sub 5 a2 (.int .u8 48) λa3=>eU hH (convert 5 3 a3) λa4=>bA .add 3 a1 a4 λa5=>fA 209 I 2 λa6=>sA 3 a6 a5 (drew J) λa7=>
 K7 a7) (K7 J)) (λa8=>∀_:Env,
 bB .add 3 M (i 1) λa9=>W a9 a8)) (fA 209 I 2 λba=>lA 3 ba J λbb=>bB .gtr 3 bb (i 4294967296) λbc=>cV bc (K (.tuple #[(.slice none 0 0),(i 4),E]) J) (K2 M J))))
 λW=>W E am) (fA 209 I 0 λbd=>sA 3 bd (i 3) ak λbe=>cF 208 [B,E] be λbf bg=>bA .add 3 E bf λbh=>bA .eql 3 bh E λbi=>cV bi (K (.tuple #[(.slice none 0 0),(i 3),E]) bg) (
 K2 bh bg)))) (λO bj=>∀_:Env,
 eU hH (ob 9 B (some E) (some O) none) λbk=>fA 209 I 1 λbl=>sA 9 bl bk bj λbm=>lA 209 I bm λbn=>bS 198 1 [(0,bn)] bm λbo bp=>aP 198 zA bo bp λbq br=>
 cF 205 [B,O] br λbs bt=>Z bq bs bt)) (K (.tuple #[zA,(i 0),(i 0)]) g)) λZ=>Z c e f)
def auw:dI:=λi=>match i with
 | 17=>.run 0 11
 | _=>.nil
theorem ab5(u:Value)(h:S130 w K u):CR 130 [u] w K:=
 qW 107 auw 28 [.tmp 2,.tmp 3,.tmp 4] Tryz.func130 h
def auy:dI:=λi=>match i with
 | 1=>.run 0 17
 | _=>.nil
theorem auz:PL 81:=dJ Tryz.func81
theorem ON:PL 83:=dJ Tryz.func83
theorem auA:PL 86:=dJ Tryz.func86
theorem amK:PL 92:=dJ Tryz.func92
theorem auB:PL 93:=dJ Tryz.func93
theorem auC:PL 94:=dJ Tryz.func94
theorem afz:PL 106:=dJ Tryz.func106
theorem amL:PL 118:=dJ Tryz.func118
theorem amM:PL 119:=dJ Tryz.func119
theorem afA:PL 120:=dJ Tryz.func120
theorem Wc:PL 121:=dJ Tryz.func121
theorem amN:PL 122:=dJ Tryz.func122
theorem r7:PL 123:=dJ Tryz.func123
theorem KM:PL 124:=dJ Tryz.func124
theorem Rs:PL 125:=dJ Tryz.func125
theorem amO:PL 126:=dJ Tryz.func126
theorem We:PL 127:=dJ Tryz.func127
theorem amP:PL 130:=dJ Tryz.func130
theorem yO:PL 131:=dJ Tryz.func131
variable (w:World) (K:Value->hM)
def auD:dI:=λi=>match i with
 | 7=>.run 0 24
 | 8=>.run 0 13
 | _=>.nil
def auE:dI:=λi=>match i with
 | 1=>.run 0 45
 | 3=>.run 0 26
 | _=>.nil
def auF:dI:=λi=>match i with
 | 8=>(.of [(0,[]),(1,[]),(2,[]),(3,[]),(4,[]),(5,[]),(6,[]),(7,[1]),(8,[]),(9,[]),(10,[])])
 | 10=>.run 0 19
 | _=>.nil
def auG:dI:=λi=>match i with
 | 1=>.run 0 18
 | _=>.nil
def auH:dI:=λi=>match i with
 | 2=>.run 0 10
 | 4=>.run 0 13
 | _=>.nil
def auI:dI:=λi=>match i with
 | 3=>.run 0 14
 | _=>.nil
def P149:dI:=λi=>match i with
 | 5=>.run 0 12
 | _=>.nil
def auJ:dI:=λi=>match i with
 | 6=>.run 0 16
 | _=>.nil
def auK:dI:=λi=>match i with
 | 6=>(.of [(0,[]),(1,[]),(2,[]),(3,[]),(4,[]),(5,[]),(6,[]),(7,[]),(8,[]),(9,[]),(10,[]),(11,[]),(12,[]),(13,[]),(14,[3,8,10]),(15,[3]),(16,[])])
 | _=>.nil
def auL:dI:=λi=>match i with
 | 6=>.run 0 10
 | _=>.nil
def auM:dI:=λi=>match i with
 | 5=>(.of [(0,[]),(1,[]),(2,[]),(3,[]),(4,[]),(5,[]),(6,[4]),(7,[]),(8,[]),(9,[]),(10,[])])
 | _=>.nil
def S165(B E:Value):Prop:=
 aL 231 w λa b=>fg (λU=>bB .lss 3 E (i 0) λc=>cV c (U tt b) (nC B λd=>fA 196 d 1 λe=>lA 179 e b λf=>lN 179 f λg=>bA .geq 3 E g λh=>U h b)) (λj k=>∀_:Env,
 cV j (eU hH (mL 231 [].toArray) λl=>sA 231 a l k λn=>lA 231 a n λr=>K (.tuple #[r,(i 1)]) n) (cF 151 [B,E] k λo p=>eU hH (Op.unary .not o) λq=>
 cV q (eU hH (mL 231 [].toArray) λs=>sA 231 a s p λt=>lA 231 a t λIS=>K (.tuple #[IS,(i 13)]) t) (nC B λu=>fA 196 u 1 λv=>lA 179 v p λx=>
 iA 179 x E λy=>lA 231 y p λz=>aL 231 p λI Y=>sA 231 I z Y λac=>bS 179 0 [] ac λad J=>nC B λaf=>fA 196 af 1 λag=>lA 179 ag J λah=>eU hH (ob 179 ah none (some E) none) λai=>
 aP 179 ad ai J λaj O=>nC B λal=>fA 196 al 1 λam=>lA 179 am O λan=>bB .add 3 E (i 1) λao=>eU hH (ob 179 an (some ao) none none) λZ=>
 aP 179 aj Z O λaq ar=>nC B λasx=>fA 196 asx 1 λW=>sA 179 W aq ar λM=>lA 231 I M λV=>sA 231 a V M λG=>lA 231 a G λOO=>K (.tuple #[OO,(i 0)]) G)))
theorem ab6(B u:Value)(h:S165 w K B u):CR 165 [B,u] w K:=
 qW 54 (λ_=>.nil) 48 [.cell 4 231,.tmp 5] Tryz.func165 h
def auN:dI:=λi=>match i with
 | 5=>(.of [(0,[]),(1,[]),(2,[]),(3,[]),(4,[]),(5,[]),(6,[]),(7,[]),(8,[]),(9,[]),(10,[]),(11,[]),(12,[]),(13,[]),(14,[]),(15,[4]),(16,[]),(17,[]),(18,[]),(19,[])])
 | _=>.nil
def auO:dI:=λi=>match i with
 | 8=>.run 0 22
 | _=>.nil
theorem Rt:PL 132:=dJ Tryz.func132
theorem afB:PL 133:=dJ Tryz.func133
theorem afC:PL 134:=dJ Tryz.func134
theorem amQ:PL 135:=dJ Tryz.func135
theorem Ru:PL 136:=dJ Tryz.func136
theorem amR:PL 139:=dJ Tryz.func139
theorem amS:PL 144:=dJ Tryz.func144
theorem amT:PL 145:=dJ Tryz.func145
theorem afD:PL 148:=dJ Tryz.func148
theorem amU:PL 150:=dJ Tryz.func150
theorem afE:PL 151:=dJ Tryz.func151
theorem amV:PL 153:=dJ Tryz.func153
theorem amW:PL 154:=dJ Tryz.func154
theorem afF:PL 155:=dJ Tryz.func155
theorem afG:PL 156:=dJ Tryz.func156
theorem amX:PL 157:=dJ Tryz.func157
theorem Rv:PL 162:=dJ Tryz.func162
theorem amY:PL 165:=dJ Tryz.func165
theorem afH:PL 166:=dJ Tryz.func166
theorem amZ:PL 167:=dJ Tryz.func167
theorem Wf:PL 198:=dJ Tryz.func198
variable (w:World) (K:Value->hM)
def auP:dI:=λi=>match i with
 | 10=>.run 0 7
 | _=>.nil
def auQ:dI:=λi=>match i with
 | 2=>.run 0 17
 | 6=>.run 0 12
 | 8=>.run 0 9
 | 9=>.run 0 12
 | _=>.nil
def auR:dI:=λi=>match i with
 | 5=>.run 0 8
 | 7=>.run 0 9
 | 9=>.run 0 9
 | 10=>.run 0 8
 | _=>.nil
def auS:dI:=λi=>match i with
 | 5=>.run 0 17
 | _=>.nil
def auT:dI:=λi=>match i with
 | 1=>.run 0 11
 | _=>.nil
def auU:dI:=λi=>match i with
 | 1=>.run 0 11
 | 4=>.run 0 10
 | _=>.nil
def S219(E V:Value):Prop:=
 lN 41 V λa=>cF 266 [E,a] w λb c=>eU hH (Op.unary .not b) λd=>cV d (K (.tuple #[(i 0),(i 8)]) c) (aL 318 c λp6 e=>lN 277 E λf=>kM (λB g h=>∀_:Env,
 bA .lss 3 g f λj=>cV j (yM (λK2=>iA 277 E g λk=>lA 320 k h λl=>aL 320 h λn o=>sA 320 n l o λp=>fA 320 n 0 λq=>lA 3 q p λr=>cF 267 [r] p λs t=>
 bB .eql 3 s (i 0) λu=>cV u (fA 320 n 1 λv=>lA 3 v t λx=>fg (λZ=>fA 320 n 0 λy=>lA 3 y t λz=>bB .eql 3 z (i 2) λaa=>cV aa (fA 320 n 1 λab=>lA 3 ab t λac=>
 iA 41 V ac λad=>lA 3 ad t λae=>Z ae t) (Z x t)) (λn9 af=>∀_:Env,
 cF 268 [p6,n9] af λ_ ag=>K2 ag)) (bB .eql 3 s (i 1) λah=>cV ah (fA 320 n 0 λai=>lA 3 ai (drew t) λW=>fA 318 p6 0 λak=>cF 270 [ak] (drew t) λal am=>kA 3 ai W am (
 cF 269 [W,al] am λM ao=>xT M 0 λap=>xT M 1 λ_=>cF 268 [p6,ap] ao λ_ aq=>K2 aq)) (fA 318 p6 0 λar=>cF 270 [ar] t λasx J=>fA 320 n 0 λO=>lA 3 O (drew J) λI=>
 fA 318 p6 0 λax=>cF 270 [ax] (drew J) λay az=>kA 3 O I az (cF 271 [I,ay,asx] az λG U=>xT G 0 λa2=>xT G 1 λY=>bB .neq 31 Y (i 0) λa4=>cV a4 (K (.tuple #[(i 0),Y]) U) (
 cF 268 [p6,a2] U λ_ a5=>K2 a5))))) (λa6=>∀_:Env,
 bB .add 3 g (i 1) λa7=>B a7 a6)) (fA 318 p6 0 λa8=>cF 270 [a8] h λa9 ba=>K (.tuple #[a9,(i 0)]) ba)) λB=>B (i 0) e)
def auV:dI:=λi=>match i with
 | 9=>(.of [(0,[]),(1,[]),(2,[]),(4,[]),(3,[1]),(5,[]),(6,[]),(7,[]),(8,[]),(9,[]),(10,[])])
 | 19=>(.of [(0,[]),(1,[]),(2,[]),(3,[1]),(4,[]),(5,[]),(6,[]),(7,[]),(8,[]),(9,[])])
 | _=>.nil
theorem ab7(u B:Value)(h:S219 w K u B):CR 219 [u,B] w K:=
 qW 74 auV 48 [.tmp 4,.tmp 5] Tryz.func219 h
def S220(B I:Value):Prop:=
 cF 200 [B] w λa b=>eU hH (Op.unary .not a) λc=>cV c (K (.tuple #[(.slice none 0 0),(i 8)]) b) (kM (λG E d=>∀_:Env,
 lN 82 B λe=>bA .lss 3 E e λf=>cV f (fg (λK2=>iA 82 B E λg=>fA 164 g 0 λh=>lA 3 h d λj=>bB .eql 3 j (i 2) λk=>cV k (iA 82 B E λl=>fA 164 l 2 λn=>
 lA 9 n d λo=>cF 123 [I,o] d λp q=>bB .lss 3 p (i 0) λr=>K2 r q) (K2 ff d)) (λs t=>∀_:Env,
 cV s (K (.tuple #[(.slice none 0 0),(i 9)]) t) (bB .add 3 E (i 1) λu=>G u t))) (cF 272 [B,(i 0),I] d λv x=>K (.tuple #[v,(i 0)]) x)) λG=>G (i 0) b)
theorem ab8(u B:Value)(h:S220 w K u B):CR 220 [u,B] w K:=
 qW 35 (λ_=>.nil) 48 [.tmp 4,.tmp 5] Tryz.func220 h
def S224(u E B:Value):Prop:=
 lN 179 u λa=>eU hH (ob 179 u (some E) (some B) (some a)) λ_=>bA .eql 3 E B λb=>cV b (K u w) (lN 179 u λc=>eU hH (ob 179 u none (some E) none) λd=>
 eU hH (ob 179 u (some B) none none) λe=>aP 179 d e (drew w) λf g=>lN 179 f λh=>eU hH (ob 179 f (some h) (some c) none) λj=>
 rR hH (Builtin.clear_ #[179] 0 [j].toArray) g λ_ k=>K f k)
def auW:dI:=λi=>match i with
 | 5=>.run 0 8
 | _=>.nil
theorem ab9(B u E:Value)(h:S224 w K B u E):CR 224 [B,u,E] w K:=
 qW 33 auW 64 [.tmp 6] Tryz.func224 h
def S229(E jN:Value):Prop:=
 nC E λa=>fA 196 a 1 λb=>lA 179 b w λc=>lN 179 c λd=>bB .sub 3 d (i 1) λe=>kM (λG B f=>∀_:Env,
 bB .geq 3 B (i 0) λg=>cV g (fg (λK2=>nC E λh=>fA 196 h 1 λj=>lA 179 j f λk=>iA 179 k B λl=>fA 231 l 0 λn=>lA 3 n f λo=>bB .eql 3 o (i 3) λp=>
 cV p (nC E λq=>fA 196 q 1 λr=>lA 179 r f λs=>iA 179 s B λt=>fA 231 t 2 λu=>lA 3 u f λv=>bA .eql 3 v jN λx=>K2 x f) (K2 ff f)) (λy z=>∀_:Env,
 cV y (nC E λJ=>fA 196 J 1 λI=>lA 179 I z λU=>iA 179 U B λO=>fA 231 O 3 λM=>lA 3 M z λW=>K (.tuple #[W,tt]) z) (bB .sub 3 B (i 1) λV=>G V z))) (
 K (.tuple #[(i 0),ff]) f)) (λG=>G e w)
theorem aca(u jN:Value)(h:S229 w K u jN):CR 229 [u,jN] w K:=
 qW 46 (λ_=>.nil) 48 [.tmp 4,.tmp 5] Tryz.func229 h
def auX:dI:=λi=>match i with
 | 3=>.run 0 10
 | 5=>(.of [(0,[]),(1,[]),(2,[]),(3,[]),(4,[]),(5,[]),(6,[4]),(7,[]),(8,[]),(9,[]),(10,[])])
 | _=>.nil
def S252(B G:Value):Prop:=
 bB .add 3 G (i 1) λa=>afu (λu I J E b=>∀_:Env,
 iA 82 B G λc=>fA 164 c 0 λd=>lA 3 d b λe=>cF 273 [e] b λf g=>bA .lss 3 E f λh=>cV h (cF 252 [B,J] g λj k=>eU hH (Builtin.max_ #[3,3] 3 [I,j].toArray) λl=>
 cF 251 [B,J] k λn o=>bB .add 3 E (i 1) λp=>u l n p o) (bB .add 3 I (i 1) λq=>K q g)) (λu=>u (i 0) a (i 0) w)
theorem acb(B u:Value)(h:S252 w K B u):CR 252 [B,u] w K:=
 qW 30 (λ_=>.nil) 16 [.tmp 4] Tryz.func252 h
theorem Rw:PL 199:=dJ Tryz.func199
theorem KO:PL 200:=dJ Tryz.func200
theorem afI:PL 201:=dJ Tryz.func201
theorem Wg:PL 202:=dJ Tryz.func202
theorem afJ:PL 205:=dJ Tryz.func205
theorem Rx:PL 206:=dJ Tryz.func206
theorem Ry:PL 207:=dJ Tryz.func207
theorem am0:PL 208:=dJ Tryz.func208
theorem vX:PL 209:=dJ Tryz.func209
theorem Wh:PL 210:=dJ Tryz.func210
theorem uE:PL 211:=dJ Tryz.func211
theorem am1:PL 212:=dJ Tryz.func212
theorem afK:PL 213:=dJ Tryz.func213
theorem G7:PL 214:=dJ Tryz.func214
theorem afL:PL 215:=dJ Tryz.func215
theorem afM:PL 216:=dJ Tryz.func216
theorem am2:PL 219:=dJ Tryz.func219
theorem am3:PL 220:=dJ Tryz.func220
theorem am4:PL 222:=dJ Tryz.func222
theorem afN:PL 223:=dJ Tryz.func223
theorem am5:PL 224:=dJ Tryz.func224
theorem am6:PL 226:=dJ Tryz.func226
theorem am7:PL 228:=dJ Tryz.func228
theorem am8:PL 229:=dJ Tryz.func229
theorem Rz:PL 230:=dJ Tryz.func230
theorem KP:PL 251:=dJ Tryz.func251
theorem Wi:PL 252:=dJ Tryz.func252
variable (w:World) (K:Value->hM)
def S256(p0 KQ U:Value):Prop:=
 nC p0 λa=>fA 305 a 0 λb=>lA 198 b (drew w) λc=>nC p0 λd=>fA 305 d 1 λe=>lA 3 e (drew w) λf=>cF 214 [c,f] (drew w) λg h=>pD (λK1 B J j=>∀_:Env,
 bB .leq 3 J (i 14) λk=>cV k (fg (λK2=>nC p0 λl=>fA 305 l 0 λn=>lA 198 n (drew j) λo=>nC p0 λp=>fA 305 p 1 λq=>lA 3 q (drew j) λr=>cF 290 [J] (drew j) λs t=>
 kA 198 n o t (kA 3 q r t (cF 209 [o,r,s] t λu v=>cV u (K2 J v) (K2 B v)))) (λZ x=>∀_:Env,
 bB .add 3 J (i 1) λy=>K1 Z y x)) (fg (λK3=>bB .eql 3 B (i 13) λz=>cV z (bB .eql 3 U (i 0) λaa=>K3 aa j) (K3 ff j)) (λab M=>∀_:Env,
 cV ab (cF 291 [p0,(i 5)] M λ_ ad=>K (.tuple #[]) ad) (yM (λK4=>bB .neq 3 B (i 1) λae=>cV ae (nC p0 λaf=>fA 305 af 1 λag=>lA 3 ag M λah=>bB .add 3 ah (i 1) λai=>
 nC p0 λaj=>fA 305 aj 1 λak=>sA 3 ak ai M λal=>K4 al) (K4 M)) (λam=>∀_:Env,
 cF 292 [p0,B,g] am λan ao=>aL 193 ao λI aq=>sA 193 I an aq λO=>nC p0 λasx=>fA 305 asx 4 λau=>lA 141 au O λav=>lN 141 av λaw=>nC p0 λax=>fA 305 ax 4 λay=>
 lA 141 ay (drew O) λaz=>lA 193 I (drew O) λa0=>bS 141 1 [(0,a0)] (drew O) λa1 a2=>kA 141 ay az a2 (aP 141 az a1 a2 λa3 a4=>nC p0 λa5=>fA 305 a5 4 λa6=>
 sA 141 a6 a3 a4 λa7=>fg (λK5=>bB .neq 3 B (i 11) λa8=>cV a8 (bB .neq 3 B (i 12) λa9=>K5 a9 a7) (K5 ff a7)) (λba bb=>∀_:Env,
 cV ba (cF 257 [p0,(Go.Value.string (kE (#[59])))] bb λ_ bc=>K (.tuple #[]) bc) (fg (λK6=>bB .eql 3 B (i 12) λbd=>cV bd (bB .add 3 U (i 1) λbe=>
 K6 be bb) (K6 U bb)) (λG bf=>∀_:Env,
 bB .add 3 KQ (i 1) λbg=>cF 293 [p0,bg,G] bf λbh bi=>fA 193 I 6 λbj=>sA 3 bj bh bi λE=>yM (λK7=>fg (λV=>bB .eql 3 B (i 11) λbl=>cV bl (
 nC p0 λbm=>fA 305 bm 2 λbn=>lA 31 bn (drew E) λbo=>bB .eql 31 bo (i 0) λbp=>cV bp (nC p0 λbq=>fA 305 bq 0 λbr=>lA 198 br (drew E) λbs=>nC p0 λbt=>
 fA 305 bt 1 λbu=>lA 3 bu (drew E) λbv=>cF 209 [bs,bv,(Go.Value.string (kE (#[101,108,115,101])))] (drew E) λbw bx=>V bw bx) (V ff (drew E))) (V ff (drew E)))
 (λbz Y=>∀_:Env,
 cV bz (nC p0 λb1=>fA 305 b1 1 λb2=>lA 3 b2 Y λb3=>bB .add 3 b3 (i 1) λb4=>nC p0 λb5=>fA 305 b5 1 λb6=>sA 3 b6 b4 Y λb7=>bB .add 3 KQ (i 1) λb8=>
 cF 293 [p0,b8,G] b7 λb9 ca=>fA 193 I 7 λcb=>sA 3 cb b9 ca λcc=>K7 cc) (K7 Y))) (λW=>∀_:Env,
 nC p0 λce=>fA 305 ce 4 λcf=>lA 141 cf (drew W) λcg=>lA 193 I (drew W) λch=>iA 141 cg aw λci=>sA 193 ci ch (drew W) λcj=>K (.tuple #[]) cj)))))))))) (λK1=>K1 (i 1) (i 2) h)
def auY:dI:=λi=>match i with
 | 0=>.run 0 11
 | 4=>(.of [(0,[]),(1,[]),(2,[]),(3,[]),(4,[]),(5,[]),(6,[]),(7,[]),(8,[]),(9,[3,7]),(10,[])])
 | 12=>(.of [(0,[]),(1,[]),(2,[]),(3,[]),(4,[]),(5,[]),(6,[4]),(7,[]),(8,[]),(9,[]),(10,[])])
 | 19=>.run 0 20
 | 22=>.run 0 8
 | _=>.nil
theorem ace(p0 u B:Value)(h:S256 w K p0 u B):CR 256 [p0,u,B] w K:=
 qW 134 auY 0 [] Tryz.func256 h
def auZ:dI:=λi=>match i with
 | 0=>.run 0 17
 | _=>.nil
def S258(J i1 Y E:Value):Prop:=
 aL 308 w λa b=>bB .eql 3 E (i 5) λc=>cV c (cF 294 [J,i1,Y] b λd e=>sA 308 a d e λf=>lA 308 a f λr=>K r f) (bB .add 3 E (i 1) λg=>cF 258 [J,i1,Y,g] b λh j=>
 aL 308 j λk l=>sA 308 k h l λn=>Rq (λK1 o=>∀_:Env,
 fA 308 k 2 λp=>lA 31 p o λq=>bB .eql 31 q (i 0) λs=>cV s (pD (λK2 Wj B t=>∀_:Env,
 cF 295 [E] t λu v=>lN 41 u λx=>bA .lss 3 B x λy=>cV y (fg (λK3=>fA 308 k 1 λz=>lA 3 z (drew v) λZ=>cF 295 [E] (drew v) λab V=>kA 3 z Z V (iA 41 ab B λad=>
 lA 3 ad V λae=>cF 296 [ae] V λaf ag=>kA 3 z Z ag (cF 209 [J,Z,af] ag λah ai=>cV ah (cF 295 [E] ai λaj ak=>iA 41 aj B λal=>lA 3 al ak λam=>K3 am ak) (
 K3 Wj ai)))) (λM an=>∀_:Env,
 bB .add 3 B (i 1) λao=>K2 M ao an)) (bB .eql 3 Wj (i 0) λap=>cV ap (lA 308 k v λaq=>sA 308 a aq v λar=>lA 308 a ar λIS=>K IS ar) (fA 308 k 1 λasx=>
 lA 3 asx v λau=>bB .add 3 au (i 1) λav=>bB .add 3 E (i 1) λaw=>cF 258 [J,av,Y,aw] v λax ay=>aL 308 ay λI az=>sA 308 I ax az λG=>fA 308 I 2 λa1=>
 lA 31 a1 G λa2=>bB .neq 31 a2 (i 0) λa3=>cV a3 (lA 308 I G λa4=>sA 308 a a4 G λa5=>lA 308 a a5 λOO=>K OO a5) (fA 308 k 1 λa6=>lA 3 a6 G λa7=>iA 198 J a7 λa8=>
 fA 209 a8 3 λa9=>lA 3 a9 G λba=>eU hH (mL 164 [(0,Wj),(3,ba)].toArray) λbb=>bS 82 1 [(0,bb)] G λbc bd=>fA 308 k 0 λbe=>lA 82 be bd λbf=>
 aP 82 bc bf bd λbg bh=>fA 308 I 0 λbi=>lA 82 bi bh λbj=>aP 82 bg bj bh λbk bl=>fA 308 I 1 λbm=>lA 3 bm bl λbn=>eU hH (mL 308 [(0,bk),(1,bn)].toArray) λbo=>
 sA 308 k bo bl λW=>bB .eql 3 E (i 2) λbq=>cV bq (lA 308 k W λbr=>sA 308 a br W λbs=>lA 308 a bs λO=>K O bs) (K1 W))))) λK2=>K2 (i 0) (i 0) o) (
 lA 308 k o λbt=>sA 308 a bt o λbu=>lA 308 a bu λU=>K U bu)) λK1=>K1 n)
def au0:dI:=λi=>match i with
 | 9=>(.of [(0,[]),(1,[]),(2,[]),(3,[]),(5,[]),(4,[2]),(6,[]),(7,[]),(8,[2]),(9,[])])
 | _=>.nil
theorem acf(u G B E:Value)(h:S258 w K u G B E):CR 258 [u,G,B,E] w K:=
 qW 91 au0 256 [.cell 8 308] Tryz.func258 h
def au1:dI:=λi=>match i with
 | 1=>.run 0 11
 | _=>.nil
def au2:dI:=λi=>match i with
 | 1=>.run 0 15
 | _=>.nil
def au3:dI:=λi=>match i with
 | 1=>.run 0 13
 | 2=>.run 0 15
 | _=>.nil
def S271(u E b2:Value):Prop:=
 fg (λB=>bB .lss 3 u (i 0) λa=>cV a (B tt w) (bB .geq 3 u (i 16) λb=>B b w)) (λc d=>∀_:Env,
 cV c (K (.tuple #[(i 0),(i 1)]) d) (cF 304 [] d λe f=>eU hH (vp 348 e u) λg=>bB .eql 288 g .nilFunc λh=>cV h (K (.tuple #[(i 0),(i 1)]) f) (fg (λK2=>
 bB .eql 3 u (i 8) λj=>cV j (bB .eql 3 b2 (i 0) λk=>K2 k f) (bB .eql 3 u (i 9) λl=>cV l (bB .eql 3 b2 (i 0) λn=>K2 n f) (K2 ff f))) (λo p=>∀_:Env,
 cV o (K (.tuple #[(i 0),(i 12)]) p) (kK hH g [E,b2] p λq r=>K (.tuple #[q,(i 0)]) r)))))
theorem acg(B u b2:Value)(h:S271 w K B u b2):CR 271 [B,u,b2] w K:=
 qW 36 (λ_=>.nil) 192 [.tmp 6,.tmp 7] Tryz.func271 h
def S275(E B b2:Value):Prop:=
 bB .eql 3 E (i 5) λa=>cV a (bA .add 3 B b2 λb=>K (.tuple #[b,(i 0)]) w) (bB .eql 3 E (i 6) λc=>cV c (bA .sub 3 B b2 λd=>K (.tuple #[d,(i 0)]) w) (bB .eql 3 E (i 7) λe=>
 cV e (bA .mul 3 B b2 λf=>K (.tuple #[f,(i 0)]) w) (bB .eql 3 E (i 8) λg=>cV g (bB .eql 3 b2 (i 0) λh=>cV h (K (.tuple #[(i 0),(i 12)]) w) (cF 306 [B,b2] w λj k=>
 K (.tuple #[j,(i 0)]) k)) (bB .eql 3 E (i 9) λl=>cV l (bB .eql 3 b2 (i 0) λn=>cV n (K (.tuple #[(i 0),(i 12)]) w) (cF 306 [B,b2] w λo p=>bA .mul 3 b2 o λq=>bA .sub 3 B q λr=>
 K (.tuple #[r,(i 0)]) p)) (bB .eql 3 E (i 10) λs=>cV s (bA .eql 3 B b2 λt=>cF 305 [t] w λu v=>K (.tuple #[u,(i 0)]) v) (bB .eql 3 E (i 11) λx=>cV x (bA .neq 3 B b2 λy=>
 cF 305 [y] w λz Y=>K (.tuple #[z,(i 0)]) Y) (bB .eql 3 E (i 12) λV=>cV V (bA .lss 3 B b2 λac=>cF 305 [ac] w λad Z=>K (.tuple #[ad,(i 0)]) Z) (bB .eql 3 E (i 13) λaf=>
 cV af (bA .leq 3 B b2 λag=>cF 305 [ag] w λah ai=>K (.tuple #[ah,(i 0)]) ai) (bB .eql 3 E (i 14) λaj=>cV aj (G3 (λG=>bB .neq 3 B (i 0) λak=>cV ak (bB .neq 3 b2 (i 0) λal=>
 cF 305 [al] w λam an=>G am (i 0) an) (cF 305 [ff] w λao W=>G ao (i 0) W)) (λaq ar asx=>∀_:Env,
 K (.tuple #[aq,ar]) asx)) (bB .eql 3 E (i 15) λU=>cV U (G3 (λK2=>bB .neq 3 B (i 0) λav=>cV av (cF 305 [tt] w λM I=>K2 M (i 0) I) (bB .neq 3 b2 (i 0) λay=>
 cF 305 [ay] w λaz J=>K2 az (i 0) J)) (λa2 a3 O=>∀_:Env,
 K (.tuple #[a2,a3]) O)) (K (.tuple #[(i 0),(i 1)]) w)))))))))))
theorem ach(B u b2:Value)(h:S275 w K B u b2):CR 275 [B,u,b2] w K:=
 qW 84 (λ_=>.nil) 192 [.tmp 6,.tmp 7] Tryz.func275 h
def S289(O G:Value):Prop:=
 pD (λY W I a=>∀_:Env,
 lN 141 O λb=>bA .lss 3 I b λc=>cV c (iA 141 O I λd=>lA 193 d a λe=>aL 193 a λf g=>sA 193 f e g λh=>fg (λK2=>fA 193 f 6 λj=>lA 3 j h λk=>
 bB .lss 3 k (i 0) λl=>cV l (K2 tt h) (fA 193 f 7 λn=>lA 3 n h λo=>bB .lss 3 o (i 0) λp=>cV p (K2 tt h) (fA 193 f 6 λq=>lA 3 q h λr=>bB .gtr 3 r (i 40) λs=>
 cV s (K2 tt h) (fA 193 f 7 λt=>lA 3 t h λu=>bB .gtr 3 u (i 40) λv=>cV v (K2 tt h) (bB .add 3 I (i 1) λx=>fA 193 f 6 λy=>lA 3 y h λz=>bA .add 3 x z λaa=>
 fA 193 f 7 λab=>lA 3 ab h λac=>bA .add 3 aa ac λad=>lN 141 O λae=>bA .gtr 3 ad ae λaf=>K2 af h))))) (λag B=>∀_:Env,
 cV ag (K (i (-1)) B) (fg (λE=>fA 193 f 6 λai=>lA 3 ai B λaj=>bB .gtr 3 aj (i 0) λak=>cV ak (fA 193 f 0 λal=>lA 3 al B λam=>bB .neq 3 am (i 11) λan=>
 cV an (fA 193 f 0 λao=>lA 3 ao B λap=>bB .neq 3 ap (i 12) λaq=>cV aq (E tt B) (fA 193 f 7 λar=>lA 3 ar B λasx=>bB .gtr 3 asx (i 0) λau=>cV au (fA 193 f 0 λav=>
 lA 3 av B λaw=>bB .neq 3 aw (i 11) λax=>cV ax (E tt B) (fA 193 f 0 λay=>lA 3 ay B λaz=>bB .eql 3 az (i 13) λa0=>cV a0 (bB .eql 3 G (i 0) λa1=>E a1 B) (
 E ff B))) (fA 193 f 0 λa2=>lA 3 a2 B λa3=>bB .eql 3 a3 (i 13) λa4=>cV a4 (bB .eql 3 G (i 0) λa5=>E a5 B) (E ff B)))) (fA 193 f 7 λa6=>lA 3 a6 B λa7=>
 bB .gtr 3 a7 (i 0) λa8=>cV a8 (fA 193 f 0 λa9=>lA 3 a9 B λba=>bB .neq 3 ba (i 11) λbb=>cV bb (E tt B) (fA 193 f 0 λbc=>lA 3 bc B λbd=>bB .eql 3 bd (i 13) λbe=>
 cV be (bB .eql 3 G (i 0) λbf=>E bf B) (E ff B))) (fA 193 f 0 λbg=>lA 3 bg B λbh=>bB .eql 3 bh (i 13) λbi=>cV bi (bB .eql 3 G (i 0) λbj=>E bj B) (
 E ff B)))) (fA 193 f 7 λbk=>lA 3 bk B λbl=>bB .gtr 3 bl (i 0) λbm=>cV bm (fA 193 f 0 λbn=>lA 3 bn B λbo=>bB .neq 3 bo (i 11) λbp=>cV bp (E tt B) (fA 193 f 0 λbq=>
 lA 3 bq B λbr=>bB .eql 3 br (i 13) λbs=>cV bs (bB .eql 3 G (i 0) λbt=>E bt B) (E ff B))) (fA 193 f 0 λbu=>lA 3 bu B λbv=>bB .eql 3 bv (i 13) λbw=>
 cV bw (bB .eql 3 G (i 0) λbx=>E bx B) (E ff B)))) (λbz M=>∀_:Env,
 cV bz (K (i (-1)) M) (bB .add 3 I (i 1) λb1=>fA 193 f 6 λb2=>lA 3 b2 (drew M) λb3=>bA .add 3 b1 b3 λb4=>fg (λZ=>fA 193 f 0 λb5=>lA 3 b5 (drew M) λb6=>
 bB .eql 3 b6 (i 12) λb7=>cV b7 (bB .add 3 G (i 1) λb8=>Z b8 (drew M)) (Z G (drew M))) (λJ U=>∀_:Env,
 fg (λK5=>fg (λK6=>fA 193 f 0 λca=>lA 3 ca U λcb=>bB .eql 3 cb (i 11) λcc=>cV cc (K6 tt U) (fA 193 f 0 λcd=>lA 3 cd U λce=>bB .eql 3 ce (i 12) λcf=>
 K6 cf U)) (λcg ch=>∀_:Env,
 cV cg (bB .add 3 I (i 1) λci=>eU hH (ob 141 O (some ci) (some b4) none) λcj=>fA 193 f 7 λck=>lA 3 ck (drew ch) λcl=>bA .add 3 b4 cl λcm=>eU hH (ob 141 O (some b4) (some cm) none) λcn=>
 cF 289 [cj,J] (drew ch) λco cp=>kA 3 ck cl cp (cF 289 [cn,J] cp λcq cr=>fg (λK7=>bB .lss 3 co (i 0) λcs=>cV cs (K7 tt cr) (bB .lss 3 cq (i 0) λct=>K7 ct cr))
 (λcu cv=>∀_:Env,
 cV cu (K (i (-1)) cv) (bC .add 3 (i 1) co λcw=>bC .add 3 (i 1) cq λcx=>eU hH (Builtin.max_ #[3,3,3] 3 [W,cw,cx].toArray) λcy=>K5 cy cv)))) (K5 W ch))) (λV cz=>∀_:Env,
 fA 193 f 7 λc0=>lA 3 c0 cz λc1=>bA .add 3 b4 c1 λc2=>Y V c2 cz))))))) (K W a)) (λY=>Y (i 0) (i 0) w)
def au4:dI:=λi=>match i with
 | 8=>.run 0 8
 | 12=>(.of [(0,[]),(1,[]),(2,[]),(3,[]),(4,[]),(5,[]),(7,[]),(8,[]),(9,[]),(10,[]),(11,[]),(12,[]),(13,[]),(14,[]),(6,[11]),(15,[]),(16,[]),(17,[])])
 | _=>.nil
theorem aci(B u:Value)(h:S289 w K B u):CR 289 [B,u] w K:=
 qW 135 au4 16 [.tmp 4] Tryz.func289 h
theorem afO:PL 253:=dJ Tryz.func253
theorem afP:PL 254:=dJ Tryz.func254
theorem anb:PL 255:=dJ Tryz.func255
theorem afQ:PL 256:=dJ Tryz.func256
theorem yP:PL 257:=dJ Tryz.func257
theorem RC:PL 258:=dJ Tryz.func258
theorem anc:PL 259:=dJ Tryz.func259
theorem ane:PL 260:=dJ Tryz.func260
theorem anf:PL 261:=dJ Tryz.func261
theorem ang:PL 266:=dJ Tryz.func266
theorem Wl:PL 267:=dJ Tryz.func267
theorem RD:PL 268:=dJ Tryz.func268
theorem anh:PL 269:=dJ Tryz.func269
theorem RE:PL 270:=dJ Tryz.func270
theorem ani:PL 271:=dJ Tryz.func271
theorem afR:PL 272:=dJ Tryz.func272
theorem KR:PL 273:=dJ Tryz.func273
theorem anj:PL 274:=dJ Tryz.func274
theorem ank:PL 275:=dJ Tryz.func275
theorem anl:PL 276:=dJ Tryz.func276
theorem anm:PL 277:=dJ Tryz.func277
theorem ann:PL 288:=dJ Tryz.func288
theorem Wm:PL 289:=dJ Tryz.func289
variable (w:World) (K:Value->hM)
def au5:dI:=λi=>match i with
 | 2=>.run 0 10
 | 4=>.run 0 13
 | _=>.nil
def au6:dI:=λi=>match i with
 | 2=>.run 0 13
 | 5=>.run 0 17
 | _=>.nil
def S294(E B V:Value):Prop:=
 aL 308 w λa b=>lN 198 E λc=>bA .geq 3 B c λd=>cV d (cF 320 [E,B,(i 6)] b λe f=>sA 308 a e f λg=>lA 308 a g λr=>K r g) (fg (λK1=>cF 209 [E,B,(Go.Value.string (kE (#[33])))] b λh j=>
 cV h (K1 tt j) (cF 209 [E,B,(Go.Value.string (kE (#[45])))] j λk l=>K1 k l)) (λM n=>∀_:Env,
 cF 209 [E,B,(Go.Value.string (kE (#[40])))] n λo p=>fg (λK2=>cV M (bB .eql 3 V (i 12) λq=>K2 q p) (cV o (bB .eql 3 V (i 12) λs=>K2 s p) (K2 ff p)))
 (λt u=>∀_:Env,
 cV t (cF 320 [E,B,(i 7)] u λv x=>sA 308 a v x λy=>lA 308 a y λIS=>K IS y) (cV M (bB .add 3 B (i 1) λz=>bB .add 3 V (i 1) λaa=>cF 294 [E,z,aa] u λab ac=>
 aL 308 ac λI ae=>sA 308 I ab ae λJ=>fA 308 I 2 λag=>lA 31 ag J λah=>bB .neq 31 ah (i 0) λai=>cV ai (lA 308 I J λaj=>sA 308 a aj J λak=>lA 308 a ak λOO=>
 K OO ak) (fg (λK3=>iA 198 E B λal=>fA 209 al 1 λam=>lA 9 am J λan=>eU hH (kq .eql 9 false true an (Go.Value.string (kE (#[45])))) λao=>
 cV ao (K3 (i 3) J) (K3 (i 4) J)) (λWj ap=>∀_:Env,
 iA 198 E B λaq=>fA 209 aq 3 λar=>lA 3 ar ap λasx=>eU hH (mL 164 [(0,Wj),(3,asx)].toArray) λau=>bS 82 1 [(0,au)] ap λav aw=>fA 308 I 0 λax=>
 lA 82 ax aw λay=>aP 82 av ay aw λaz a0=>fA 308 I 0 λa1=>sA 82 a1 az a0 λa2=>lA 308 I a2 λa3=>sA 308 a a3 a2 λa4=>lA 308 a a4 λr_3=>K r_3 a4))) (cV o (
 bB .add 3 B (i 1) λa5=>bB .add 3 V (i 1) λa6=>cF 258 [E,a5,a6,(i 0)] u λa7 a8=>aL 308 a8 λG ba=>sA 308 G a7 ba λO=>fA 308 G 2 λbc=>lA 31 bc O λbd=>
 bB .neq 31 bd (i 0) λbe=>cV be (lA 308 G O λbf=>sA 308 a bf O λbg=>lA 308 a bg λr_4=>K r_4 bg) (fA 308 G 1 λbh=>lA 3 bh O λbi=>cF 209 [E,bi,(Go.Value.string (kE (#[41])))] O λbj W=>
 eU hH (Op.unary .not bj) λbl=>cV bl (fA 308 G 1 λbm=>lA 3 bm W λbn=>cF 320 [E,bn,(i 5)] W λbo bp=>sA 308 a bo bp λbq=>lA 308 a bq λr_5=>K r_5 bq) (
 fA 308 G 1 λbr=>lA 3 br W λbs=>bB .add 3 bs (i 1) λbt=>fA 308 G 1 λbu=>sA 3 bu bt W λbv=>lA 308 G bv λbw=>sA 308 a bw bv λbx=>lA 308 a bx λY=>
 K Y bx))) (iA 198 E B λbz=>fA 209 bz 0 λb0=>lA 3 b0 u λb1=>bB .eql 3 b1 (i 2) λb2=>cV b2 (iA 198 E B λb3=>fA 209 b3 2 λb4=>lA 3 b4 (drew u) λb5=>
 iA 198 E B λb6=>fA 209 b6 3 λb7=>lA 3 b7 (drew u) λb8=>eU hH (mL 164 [(0,(i 1)),(1,b5),(3,b8)].toArray) λb9=>bB .add 3 B (i 1) λca=>bS 82 1 [(0,b9)] (drew u) λcb cc=>
 eU hH (mL 308 [(0,cb),(1,ca)].toArray) λcd=>sA 308 a cd cc λce=>lA 308 a ce λr_7=>K r_7 ce) (fg (λK4=>iA 198 E B λcf=>fA 209 cf 0 λcg=>
 lA 3 cg u λch=>bB .eql 3 ch (i 1) λci=>cV ci (iA 198 E B λcj=>fA 209 cj 1 λck=>lA 9 ck u λcl=>cF 211 [cl] u λcm cn=>K4 cm cn) (K4 ff u)) (λco U=>∀_:Env,
 cV co (iA 198 E B λcq=>fA 209 cq 1 λcr=>lA 9 cr (drew U) λcs=>iA 198 E B λct=>fA 209 ct 3 λcu=>lA 3 cu (drew U) λcv=>eU hH (mL 164 [(0,(i 2)),(2,cs),(3,cv)].toArray) λcw=>
 bB .add 3 B (i 1) λcx=>bS 82 1 [(0,cw)] (drew U) λcy cz=>eU hH (mL 308 [(0,cy),(1,cx)].toArray) λc0=>sA 308 a c0 cz λc1=>lA 308 a c1 λZ=>
 K Z c1) (cF 320 [E,B,(i 5)] U λc2 c3=>sA 308 a c2 c3 λc4=>lA 308 a c4 λr_9=>K r_9 c4)))))))))
def avc:dI:=λi=>match i with
 | 27=>(.of [(0,[]),(1,[]),(2,[]),(3,[]),(4,[]),(5,[]),(6,[]),(7,[]),(8,[]),(9,[]),(10,[]),(12,[]),(13,[]),(11,[]),(14,[]),(15,[])])
 | 29=>(.of [(0,[]),(1,[]),(2,[]),(3,[]),(4,[]),(5,[]),(6,[]),(7,[]),(8,[]),(9,[]),(10,[]),(12,[]),(13,[]),(11,[]),(14,[]),(15,[])])
 | _=>.nil
theorem acj(E u B:Value)(h:S294 w K E u B):CR 294 [E,u,B] w K:=
 qW 152 avc 64 [.cell 6 308] Tryz.func294 h
def S304:Prop:=
 aL 348 w λa b=>aL 348 b λB c=>iA 348 B (i 5) λd=>sA 288 d (.func (.func 324) #[] #[]) c λe=>iA 348 B (i 6) λf=>sA 288 f (.func (.func 325) #[] #[]) e λg=>
 iA 348 B (i 7) λh=>sA 288 h (.func (.func 326) #[] #[]) g λj=>iA 348 B (i 8) λk=>sA 288 k (.func (.func 327) #[] #[]) j λl=>iA 348 B (i 9) λn=>sA 288 n (.func (.func 328) #[] #[]) l λo=>
 kK hH (.func (.func 322) #[] #[]) [(.func (.func 329) #[] #[])] o λp q=>iA 348 B (i 10) λs=>sA 288 s p q λt=>kK hH (.func (.func 322) #[] #[]) [(.func (.func 330) #[] #[])] t λu v=>
 iA 348 B (i 11) λx=>sA 288 x u v λy=>kK hH (.func (.func 322) #[] #[]) [(.func (.func 331) #[] #[])] y λz M=>iA 348 B (i 12) λI=>sA 288 I z M λZ=>
 kK hH (.func (.func 322) #[] #[]) [(.func (.func 332) #[] #[])] Z λV O=>iA 348 B (i 13) λaf=>sA 288 af V O λag=>kK hH (.func (.func 322) #[] #[]) [(.func (.func 333) #[] #[])] ag λah ai=>
 iA 348 B (i 14) λW=>sA 288 W ah ai λY=>kK hH (.func (.func 322) #[] #[]) [(.func (.func 334) #[] #[])] Y λal am=>iA 348 B (i 15) λU=>sA 288 U al am λG=>
 lA 348 B G λJ=>sA 348 a J G λE=>lA 348 a E λr=>K r E
theorem ack(h:S304 w K):CR 304 [] w K:=
 qW 27 (λ_=>.nil) 1 [.cell 0 348] Tryz.func304 h
def S307(E a:Value):Prop:=
 lA 179 a w λb=>lN 179 b λc=>bB .sub 3 c (i 1) λd=>kM (λB u e=>∀_:Env,
 bB .geq 3 u (i 0) λf=>cV f (lA 179 a e λg=>iA 179 g u λh=>lA 231 h e λj=>kK hH E [u,j] e λk l=>eU hH (Op.unary .not k) λn=>cV n (
 K (.tuple #[]) l) (bB .sub 3 u (i 1) λo=>B o l)) (K (.tuple #[]) e)) (λB=>B d w)
theorem acm(u B:Value)(h:S307 w K u B):CR 307 [u,B] w K:=
 qW 19 (λ_=>.nil) 0 [] Tryz.func307 h
def S315(u:Value):Prop:=
 fg (λB=>bB .lss 3 u (i 1) λa=>cV a (B tt w) (bB .gtr 3 u (i 14) λb=>B b w)) (λc d=>∀_:Env,
 cV c (K (Go.Value.string (kE (#[]))) d) (bS 91 15 [(0,(Go.Value.string (kE (#[])))),(1,(Go.Value.string (kE (#[114,101])))),(2,(Go.Value.string (kE (#[114,110])))),(3,(Go.Value.string (kE (#[110,101])))),(4,(Go.Value.string (kE (#[114,110,101,102])))),(5,(Go.Value.string (kE (#[110])))),(6,(Go.Value.string (kE (#[110])))),(7,(Go.Value.string (kE (#[])))),(8,(Go.Value.string (kE (#[])))),(9,(Go.Value.string (kE (#[110])))),(10,(Go.Value.string (kE (#[110])))),(11,(Go.Value.string (kE (#[101,98])))),(12,(Go.Value.string (kE (#[107,98])))),(13,(Go.Value.string (kE (#[])))),(14,(Go.Value.string (kE (#[101]))))] d λe f=>
 iA 91 e u λg=>lA 9 g f λh=>K h f))
theorem acn(u:Value)(h:S315 w K u):CR 315 [u] w K:=
 qW 13 (λ_=>.nil) 4 [.tmp 2] Tryz.func315 h
def avd:dI:=λi=>match i with
 | 1=>.run 0 45
 | 3=>.run 0 13
 | _=>.nil
def ave:dI:=λi=>match i with
 | 3=>.run 0 18
 | _=>.nil
def avf:dI:=λi=>match i with
 | 1=>.run 0 31
 | 2=>.run 0 12
 | _=>.nil
def S320(B G I:Value):Prop:=
 aL 308 w λa b=>fg (λE=>lN 198 B λc=>bA .geq 3 G c λd=>cV d (E (i 6) b) (E I b)) (λu e=>∀_:Env,
 cF 214 [B,G] e λf g=>eU hH (mL 308 [(2,u),(3,f)].toArray) λh=>sA 308 a h g λj=>lA 308 a j λr=>K r j)
theorem aco(u E B:Value)(h:S320 w K u E B):CR 320 [u,E,B] w K:=
 qW 16 (λ_=>.nil) 64 [.cell 6 308] Tryz.func320 h
theorem ano:PL 290:=dJ Tryz.func290
theorem G9:PL 291:=dJ Tryz.func291
theorem anp:PL 292:=dJ Tryz.func292
theorem afS:PL 293:=dJ Tryz.func293
theorem afT:PL 294:=dJ Tryz.func294
theorem Wn:PL 295:=dJ Tryz.func295
theorem anq:PL 296:=dJ Tryz.func296
theorem anr:PL 297:=dJ Tryz.func297
theorem ans:PL 298:=dJ Tryz.func298
theorem ant:PL 299:=dJ Tryz.func299
theorem anu:PL 300:=dJ Tryz.func300
theorem anv:PL 301:=dJ Tryz.func301
theorem Wo:PL 302:=dJ Tryz.func302
theorem KS:PL 303:=dJ Tryz.func303
theorem anw:PL 304:=dJ Tryz.func304
theorem Av:PL 305:=dJ Tryz.func305
theorem afU:PL 306:=dJ Tryz.func306
theorem anx:PL 307:=dJ Tryz.func307
theorem anz:PL 315:=dJ Tryz.func315
theorem KT:PL 316:=dJ Tryz.func316
theorem El:PL 317:=dJ Tryz.func317
theorem KU:PL 318:=dJ Tryz.func318
theorem anA:PL 319:=dJ Tryz.func319
theorem RF:PL 320:=dJ Tryz.func320
theorem anB:PL 321:=dJ Tryz.func321
theorem Ha:PL 322:=dJ Tryz.func322
theorem Hb:PL 323:=dJ Tryz.func323
theorem anC:PL 324:=dJ Tryz.func324
theorem anD:PL 325:=dJ Tryz.func325
theorem anE:PL 326:=dJ Tryz.func326
theorem anF:PL 327:=dJ Tryz.func327
theorem anG:PL 328:=dJ Tryz.func328
theorem anH:PL 329:=dJ Tryz.func329
theorem anI:PL 330:=dJ Tryz.func330
theorem anJ:PL 331:=dJ Tryz.func331
theorem anK:PL 332:=dJ Tryz.func332
theorem anL:PL 333:=dJ Tryz.func333
theorem anM:PL 334:=dJ Tryz.func334
end Go.Proofs.YtpdlpabnlkofmaaGreatDoor
namespace Go.Fw
def mW(w:World)(b:Nat)(cs:List Value):Prop:=∃u,w.heap[b]?=some (.cells cs.toArray u (0,0))
def Cell(w:World)(b o:Nat)(v:Value):Prop:=w.cell? ⟨b,o,none⟩=some v
structure gz(A:Nat->Prop)(w w':World):Prop where
 os:w'.os=w.os
 tape:w'.tape=w.tape
 output:w'.output=w.output
 size:w.heap.size<=w'.heap.size
 bY:∀b,b<w.heap.size->¬ A b->w'.heap[b]?=w.heap[b]?
def aZ:Nat->Prop:=λ_=>False
abbrev Ext(w w':World):Prop:=gz aZ w w'
def gz.refl(A:Nat->Prop)(w:World):gz A w w:=⟨rfl,rfl,rfl,pb _,λ_ _ _=>rfl⟩
def gz.trans{A B C:Nat->Prop}{w G I:World}(h:gz A w G)(k:gz B G I)(M:∀b,A b->C b)(J:∀b,b<w.heap.size->B b->C b):gz C w I:=
 ⟨k.os.trans h.os,k.tape.trans h.tape,k.output.trans h.output,xe h.size k.size,λb hb E=>
  (k.bY b (Nat.lt_of_lt_of_le hb h.size) λu=>E (J b hb u)).trans (h.bY b hb λu=>E (M b u))⟩
def gz.then{A:Nat->Prop}{w u B:World}(h:gz A w u)(k:Ext u B):gz A w B:=h.trans k (λ_ h=>h) λ_ _ h=>h.elim
def gz.mono{A B:Nat->Prop}{w w':World}(h:gz A w w')(E:∀b,A b->B b):gz B w w':=⟨h.os,h.tape,h.output,h.size,λb hb u=>h.bY b hb λx=>u (E b x)⟩
def Ext.refl(w:World):Ext w w:=gz.refl _ _
def Ext.trans{w u B:World}(h:Ext w u)(k:Ext u B):Ext w B:=gz.then h k
def Ext.aG{A:Nat->Prop}{w w':World}(h:Ext w w'):gz A w w':=h.mono λ_ h=>h.elim
theorem Ext.drew(w:World):Ext w (drew w):=⟨rfl,rfl,rfl,pb _,λ_ _ _=>rfl⟩
def vq{w:World}{b:Nat}{o:Obj}(h:w.heap[b]?=some o):b<w.heap.size:=(Fy.1 h).1
def mW.lt{w:World}{b:Nat}{cs:List Value}(h:mW w b cs):b<w.heap.size:=vq h.choose_spec
def Cell.lt{w:World}{b o:Nat}{v:Value}(h:Cell w b o v):b<w.heap.size:=by
 unfold Cell SZ at h
 grind
def Cell.of_eq{w w':World}{b o:Nat}{v:Value}(h:Cell w b o v)(u:w'.heap[b]?=w.heap[b]?):Cell w' b o v:=by
 unfold Cell SZ at *
 grind
def mW.of_eq{w w':World}{b:Nat}{cs:List Value}(h:mW w b cs)(u:w'.heap[b]?=w.heap[b]?):mW w' b cs:=by
 grind[mW]
def Cell.aG{A:Nat->Prop}{w w':World}{b o:Nat}{v:Value}(h:Cell w b o v)(hc:gz A w w')(u:¬ A b):Cell w' b o v:=h.of_eq (hc.bY b h.lt u)
theorem Cell.ext{w w':World}{b o:Nat}{v:Value}(h:Cell w b o v)(hc:Ext w w'):Cell w' b o v:=h.aG hc (λx=>x)
def mW.cell{w:World}{b o:Nat}{cs:List Value}{v:Value}(h:mW w b cs)(B:cs[o]?=some v):Cell w b o v:=by
 obtain⟨u,h⟩:=h
 unfold Cell SZ
 grind
def mW.frozen{w:World}{b o:Nat}{cs:List Value}(h:mW w b cs):w.frozen? ⟨b,o,none⟩=false:=by
 obtain⟨u,h⟩:=h
 unfold World.frozen?
 grind
def IU(w:World)(b o:Nat)(v:Value)(k:Nat)(h:k≠b):(w.setCell ⟨b,o,none⟩ v).heap[k]?=w.heap[k]?:=by
 simp only[abw,P0]
 grind
def mW.setCell{w:World}{b o:Nat}{cs:List Value}(h:mW w b cs)(v:Value):mW (w.setCell ⟨b,o,none⟩ v) b (cs.set o v):=by
 obtain⟨u,h⟩:=h
 refine⟨u,?_⟩
 simp only[abw,P0,if_true,h]
 simp
def gz.setCell(w:World)(b o:Nat)(v:Value):gz (· = b) w (w.setCell ⟨b,o,none⟩ v):=
 ⟨rfl,rfl,rfl,by simp_all,λk _ u=>IU w b o v k u⟩
def push(w:World)(o:Obj):World:={w with heap:=w.heap.push o}
def ye(w:World)(o:Obj)(k:Nat)(h:k<w.heap.size):(push w o).heap[k]?=w.heap[k]?:=by
 grind[push]
def mu(w:World)(o:Obj):(push w o).heap[w.heap.size]?=some o:=by
 grind[push]
theorem BY(w:World)(o:Obj):(push w o).heap.size=w.heap.size+1:=by simp[push]
theorem Ext.push(w:World)(o:Obj):Ext w (push w o):=⟨rfl,rfl,rfl,by rw[BY];omega,λb hb _=>ye w o b hb⟩
theorem mW.push(w:World)(cs:List Value)(u:TypeId):mW (push w (.cells cs.toArray u)) w.heap.size cs:=⟨u,mu _ _⟩
structure HP where
 p:World->(Nat->Prop)->Prop
 loc:∀w w' F,p w F->(∀b,F b->w'.heap[b]?=w.heap[b]?)->p w' F
 lt:∀w F b,p w F->F b->b<w.heap.size
def bY(b:Nat)(cs:List Value):HP where
 p w F:=mW w b cs/\∀k,F k↔k=b
 loc w w' F h hh:=⟨h.1.of_eq (hh b ((h.2 b).2 rfl)),h.2⟩
 lt w F b' h hb:=by rw[(h.2 b').1 hb];exact h.1.lt
def r8(w0:World)(A:Nat->Prop):List HP->World->(Nat->Prop)->Prop
 | [],_,U=>∀b,¬ U b
 | H::L,w,U=>∃F u,H.p w F/\(∀b,F b->A b\/w0.heap.size<=b)/\(∀b,F b->¬ u b)/\(∀b,U b↔F b\/u b)/\r8 w0 A L w u
structure St(w0:World)(A:Nat->Prop)(L:List HP)(w:World):Prop where
 aG:gz A w0 w
 uc:∃U,r8 w0 A L w U
theorem r8.lt{w0:World}{A:Nat->Prop}{L:List HP}{w:World}{U:Nat->Prop}(h:r8 w0 A L w U):∀b,U b->b<w.heap.size:=by
 induction L generalizing U with
 | nil=>intro b hb;exact(h b hb).elim
 | cons H L u=>
  obtain⟨F,B,h1,h2,h3,h4,h5⟩:=h
  intro b hb
  rcases(h4 b).1 hb with hf|hu
  .exact H.lt _ _ _ h1 hf
  .exact u h5 b hu
theorem r8.loc{w0:World}{A:Nat->Prop}{L:List HP}{w w':World}{U:Nat->Prop}(h:r8 w0 A L w U)(u:∀b,U b->w'.heap[b]?=w.heap[b]?):r8 w0 A L w' U:=by
 induction L generalizing U with
 | nil=>exact h
 | cons H L E=>
  obtain⟨F,B,h1,h2,h3,h4,h5⟩:=h
  exact⟨F,B,H.loc _ _ _ h1 λb hb=>u b ((h4 b).2 (.inl hb)),h2,h3,h4,E h5 λb hb=>u b ((h4 b).2 (.inr hb))⟩
def St.start(w:World):St w aZ [] w:=⟨gz.refl _ _,aZ,λ_ h=>h⟩
def St.begin{w:World}{F:Nat->Prop}{H:HP}(h:H.p w F):St w F [H] w:=
 ⟨gz.refl _ _,F,F,aZ,h,λ_ h=>.inl h,λ_ _ h=>h,λ_=>⟨.inl,λh=>h.elim id λh=>h.elim⟩,λ_ h=>h⟩
theorem St.ext{w0:World}{A:Nat->Prop}{L:List HP}{w w':World}(h:St w0 A L w)(e:Ext w w'):St w0 A L w':=by
 obtain⟨U,u⟩:=h.uc
 exact⟨h.aG.then e,U,u.loc λb hb=>e.bY b (u.lt b hb) λx=>x⟩
theorem St.drew{w0:World}{A:Nat->Prop}{L:List HP}{w:World}(h:St w0 A L w):St w0 A L (drew w):=h.ext (Ext.drew w)
def St.new{w0:World}{A:Nat->Prop}{L:List HP}{w w':World}{H:HP}{F:Nat->Prop}(h:St w0 A L w)(e:Ext w w')(J:H.p w' F)(I:∀b,F b->w.heap.size<=b):St w0 A (H::L) w':=by
 obtain⟨U,M⟩:=(h.ext e).uc
 obtain⟨B,u⟩:=h.uc
 have E:r8 w0 A L w' B:=u.loc λb hb=>e.bY b (u.lt b hb) (λx=>x)
 refine⟨(h.ext e).aG,λb=>F b\/B b,F,B,J,λb hb=>.inr ?_,λb hb G=>?_,λb=>Iff.rfl,E⟩
 .exact xe h.aG.size (I b hb)
 have:=u.lt b G;grind
def St.rF{w0:World}{A:Nat->Prop}{L:List HP}{w w':World}{H H':HP}(h:St w0 A (H::L) w)
  (O:∀F,H.p w F->∃B,H'.p w' B/\(∀b,B b->F b\/w.heap.size<=b)/\gz F w w'):St w0 A (H'::L) w':=by
 obtain⟨U,F,E,h1,h2,h3,h4,h5⟩:=h.uc
 obtain⟨B,J,G,I⟩:=O F h1
 refine⟨h.aG.trans I (λ_ h=>h) λb hb u=>?_,λb=>B b\/E b,B,E,J,λb hb=>?_,λb hb M=>?_,λb=>Iff.rfl,?_⟩
 .grind
 .rcases G b hb with u|u
  .grind
  exact .inr (xe h.aG.size u)
 .rcases G b hb with u|u
  .grind
  have:=h5.lt b M;omega
 exact h5.loc λb hb=>I.bY b (h5.lt b hb) λu=>h3 b u hb
def St.drop{w0:World}{A:Nat->Prop}{L:List HP}{w:World}{H:HP}(h:St w0 A (H::L) w):St w0 A L w:=by
 obtain⟨U,F,u,h1,h2,h3,h4,h5⟩:=h.uc
 exact⟨h.aG,u,h5⟩
def St.swap{w0:World}{A:Nat->Prop}{L:List HP}{w:World}{H H':HP}(h:St w0 A (H::H'::L) w):St w0 A (H'::H::L) w:=by
 obtain⟨U,F,J,h1,h2,h3,h4,B,u,G,I,V,M,E⟩:=h.uc
 refine⟨h.aG,U,B,λb=>F b\/u b,G,I,λb hb=>?_,λb=>?_,F,u,h1,h2,λb hb O=>?_,λb=>Iff.rfl,E⟩
 .grind
 .grind
 grind
def r8.swap{w0:World}{A:Nat->Prop}{L:List HP}{w:World}{H H':HP}{U:Nat->Prop}(h:r8 w0 A (H::H'::L) w U):r8 w0 A (H'::H::L) w U:=by
 obtain⟨F,J,h1,h2,h3,h4,B,u,G,I,V,M,E⟩:=h
 refine⟨B,λb=>F b\/u b,G,I,λb hb=>?_,λb=>?_,F,u,h1,h2,λb hb O=>?_,λb=>Iff.rfl,E⟩
 .grind
 .grind
 grind
def r8.under{w0:World}{A:Nat->Prop}{L L':List HP}{w:World}{H:HP}{U:Nat->Prop}(u:∀U,r8 w0 A L w U->r8 w0 A L' w U)(h:r8 w0 A (H::L) w U):r8 w0 A (H::L') w U:=by
 grind[r8]
theorem r8.pull{w0:World}{A:Nat->Prop}{u B:List HP}{w:World}{H:HP}{U:Nat->Prop}(h:r8 w0 A (u++H::B) w U):r8 w0 A (H::(u++B)) w U:=by
 induction u generalizing U with
 | nil=>exact h
 | cons X u E=>exact r8.swap (r8.under (λU h=>E h) h)
def St.pull{w0:World}{A:Nat->Prop}{w:World}(u:List HP){H:HP}{B:List HP}(h:St w0 A (u++H::B) w):St w0 A (H::(u++B)) w:=by
 obtain⟨U,E⟩:=h.uc
 exact⟨h.aG,U,E.pull⟩
def St.p1{w0:World}{A:Nat->Prop}{w:World}{u H:HP}{R:List HP}(h:St w0 A (u::H::R) w):St w0 A (H::u::R) w:=St.pull [u] h
def St.p2{w0:World}{A:Nat->Prop}{w:World}{u B H:HP}{R:List HP}(h:St w0 A (u::B::H::R) w):St w0 A (H::u::B::R) w:=St.pull [u,B] h
def St.p3{w0:World}{A:Nat->Prop}{w:World}{u B E H:HP}{R:List HP}(h:St w0 A (u::B::E::H::R) w):St w0 A (H::u::B::E::R) w:=St.pull [u,B,E] h
def St.p4{w0:World}{A:Nat->Prop}{w:World}{u B E G H:HP}{R:List HP}(h:St w0 A (u::B::E::G::H::R) w):St w0 A (H::u::B::E::G::R) w:=St.pull [u,B,E,G] h
def St.p5{w0:World}{A:Nat->Prop}{w:World}{u B E G P4 H:HP}{R:List HP}(h:St w0 A (u::B::E::G::P4::H::R) w):St w0 A (H::u::B::E::G::P4::R) w:=St.pull [u,B,E,G,P4] h
def St.p6{w0:World}{A:Nat->Prop}{w:World}{u B E G P4 I H:HP}{R:List HP}(h:St w0 A (u::B::E::G::P4::I::H::R) w):St w0 A (H::u::B::E::G::P4::I::R) w:=St.pull [u,B,E,G,P4,I] h
def St.p7{w0:World}{A:Nat->Prop}{w:World}{u E G I P4 J B H:HP}{R:List HP}(h:St w0 A (u::E::G::I::P4::J::B::H::R) w):St w0 A (H::u::E::G::I::P4::J::B::R) w:=St.pull [u,E,G,I,P4,J,B] h
def St.p8{w0:World}{A:Nat->Prop}{w:World}{u G I J P4 M E B H:HP}{R:List HP}(h:St w0 A (u::G::I::J::P4::M::E::B::H::R) w):St w0 A (H::u::G::I::J::P4::M::E::B::R) w:=St.pull [u,G,I,J,P4,M,E,B] h
def St.p9{w0:World}{A:Nat->Prop}{w:World}{u I J M P4 O E B G H:HP}{R:List HP}(h:St w0 A (u::I::J::M::P4::O::E::B::G::H::R) w):St w0 A (H::u::I::J::M::P4::O::E::B::G::R) w:=St.pull [u,I,J,M,P4,O,E,B,G] h
def St.p10{w0:World}{A:Nat->Prop}{w:World}{u I J M P4 O E B G P9 H:HP}{R:List HP}(h:St w0 A (u::I::J::M::P4::O::E::B::G::P9::H::R) w):St w0 A (H::u::I::J::M::P4::O::E::B::G::P9::R) w:=St.pull [u,I,J,M,P4,O,E,B,G,P9] h
def St.p11{w0:World}{A:Nat->Prop}{w:World}{B J M O P4 U G E I P9 u H:HP}{R:List HP}(h:St w0 A (B::J::M::O::P4::U::G::E::I::P9::u::H::R) w):St w0 A (H::B::J::M::O::P4::U::G::E::I::P9::u::R) w:=St.pull [B,J,M,O,P4,U,G,E,I,P9,u] h
def St.p12{w0:World}{A:Nat->Prop}{w:World}{B J M O P4 U G E I P9 u P11 H:HP}{R:List HP}(h:St w0 A (B::J::M::O::P4::U::G::E::I::P9::u::P11::H::R) w):St w0 A (H::B::J::M::O::P4::U::G::E::I::P9::u::P11::R) w:=St.pull [B,J,M,O,P4,U,G,E,I,P9,u,P11] h
def St.p0{w0:World}{A:Nat->Prop}{w:World}{L:List HP}(h:St w0 A L w):St w0 A L w:=h
def St.head{w0:World}{A:Nat->Prop}{L:List HP}{w:World}{H:HP}(h:St w0 A (H::L) w):∃F,H.p w F/\∀b,F b->A b\/w0.heap.size<=b:=by
 obtain⟨U,F,u,h1,h2,_⟩:=h.uc;grind
theorem St.hb{w0:World}{A:Nat->Prop}{L:List HP}{w:World}{b:Nat}{cs:List Value}(h:St w0 A (bY b cs::L) w):mW w b cs:=by
 obtain⟨F,h1,_⟩:=h.head;exact h1.1
def wA:Value->Bool
 | .agg _=>false
 | .tuple _=>false
 | _=>true
def dF(P:Program)(T:TypeId):Option (Bool×Nat):=
 match P.underlying T with
 | some d=>(P.info? T).map λi=>(match d with|.struct _|.array _ _=>true|_=>false,i.size)
 | none=>none
def aU(P:Program)(T f:Nat):Option (Nat×Option Bool):=
 match P.underlying T with
 | some (.struct B)=>(B[f]?).map λu=>(u.offset,(P.info? u.type).map λi=>i.size != 0)
 | _=>none
def eQ(P:Program)(T:TypeId):Option (TypeId×Nat×Nat×Option Nat):=
 match P.underlying T with
 | some (.slice E)=>(P.info? E).map λi=>(E,i.size,i.bytes,i.zero.map λz=>z.cells.size)
 | _=>none
def et(P:Program)(T:TypeId):Option (Option Value):=(P.info? T).map λi=>i.zero
abbrev Wp(P:Program)(T:TypeId):Prop:=dF P T=some (false,1)
abbrev acp(P:Program)(T:TypeId)(n:Nat):Prop:=dF P T=some (true,n)
abbrev wN(P:Program)(T f u:Nat):Prop:=aU P T f=some (u,some true)
abbrev VA(P:Program)(T E n bytes:Nat):Prop:=eQ P T=some (E,n,bytes,some n)
abbrev ox(P:Program)(T:TypeId)(z:Value):Prop:=et P T=some (some z)
theorem mw{P:Program}{T:TypeId}{i:TypeInfo}(h:P.info? T=some i):pr P (typeInfo T)=some i:=by
 show pr P (match P.info? T with|some i => pure i|none => stuck "no such type")=_
 rw[h];rfl
theorem cZ{P:Program}{T:TypeId}{d:TypeDesc}(h:P.underlying T=some d):pr P (underlying T)=some d:=by
 show pr P (match P.underlying T with|some d => pure d|none => stuck "no such type")=_
 rw[h];rfl
theorem mX{P:Program}{T:TypeId}{i:TypeInfo}(h:P.info? T=some i):pr P (sizeOf T)=some i.size:=by
 unfold sizeOf;rw[cX,mw h];rfl
theorem yf{P:Program}{α β:Type}(m:Sem α)(f:α->β):pr P (do pure (f (<- m)))=(pr P m).map f:=by
 rw[cX];cases pr P m<;>rfl
theorem lF{P:Program}{T:TypeId}{a:Bool}{n:Nat}(h:dF P T=some (a,n)):pr P (isAgg T)=some a/\pr P (sizeOf T)=some n:=by
 unfold dF at h
 cases hd:P.underlying T with
 | none=>grind
 | some d=>
  rw[hd]at h
  cases hi:P.info? T with
  | none=>grind
  | some i=>
   rw[hi]at h
   simp only[F1,oq.injEq,aa7.injEq]at h
   obtain⟨h1,h2⟩:=h
   refine⟨?_,by rw[mX hi,h2]⟩
   unfold isAgg
   rw[cX,cZ hd]
   show pr P (match d with|.struct _|.array _ _=>pure true|_=>pure false)=_
   rw[<- h1]
   cases d<;>rfl
theorem fp{P:Program}{T E n u:Nat}{z:Option Nat}(h:eQ P T=some (E,n,u,z)) :
  P.underlying T=some (.slice E)/\∃i,P.info? E=some i/\i.size=n/\i.bytes=u/\i.zero.map (λz=>z.cells.size)=z:=by
 unfold eQ at h
 split at h
 .rename_i E' hE
  cases hi:P.info? E' with
  | none=>grind
  | some i=>
   grind
 cases h
section
variable {P:Program}{w:World}
theorem pop{m:Sem Value}{v:Value}{K:Value->Prop}(h:pr P m=some v)(k:K v):eU P m K:=⟨v,h,k⟩
theorem aE{a:Addr}{K:Value->Prop}(k:K (.pointer (some a))):eU P (TE (.pointer (some a))) K:=⟨_,rfl,k⟩
theorem bR{b:Bool}{K:Value->Prop}(k:K (.bool (!b))):eU P (Op.unary .not (.bool b)) K:=⟨_,rfl,k⟩
theorem KV{p:Prop}[Decidable p]{K:Value->Prop}(k:K (.bool (decide (¬ p)))):eU P (Op.unary .not (.bool (decide p))) K:=by
 refine bR ?_
 grind
theorem aN{vs:List Value}{i:Nat}{v:Value}{K:Value->Prop}(h:vs[i]?=some v)(k:K v):eU P (S3 (.tuple vs.toArray) i) K:=
 ⟨v,by simp only[S3,PV,h];rfl,k⟩
theorem aR{T:Nat}{cx cy:Bool}{a b:Int}{K:Value->Prop}(k:K (.bool (decide (a<b)))):eU P (kq .lss T cx cy (hZ a) (hZ b)) K:=⟨_,rfl,k⟩
theorem gZ{T:Nat}{cx cy:Bool}{a b:Int}{K:Value->Prop}(k:K (.bool (decide (a<=b)))):eU P (kq .leq T cx cy (hZ a) (hZ b)) K:=⟨_,rfl,k⟩
theorem cN{T:Nat}{cx cy:Bool}{a b:Int}{K:Value->Prop}(k:K (.bool (decide (b<a)))):eU P (kq .gtr T cx cy (hZ a) (hZ b)) K:=⟨_,rfl,k⟩
theorem cR{T:Nat}{cx cy:Bool}{a b:Int}{K:Value->Prop}(k:K (.bool (decide (b<=a)))):eU P (kq .geq T cx cy (hZ a) (hZ b)) K:=⟨_,rfl,k⟩
theorem aH{T:Nat}{cx cy:Bool}{a b:Int}{K:Value->Prop}(k:K (.bool (decide (a=b)))):eU P (kq .eql T cx cy (hZ a) (hZ b)) K:=⟨_,rfl,k⟩
theorem bX{T:Nat}{cx cy:Bool}{a b:Int}{K:Value->Prop}(k:K (.bool (decide (a≠b)))):eU P (kq .neq T cx cy (hZ a) (hZ b)) K:=
 ⟨_,(show pr P (kq .neq T cx cy (hZ a) (hZ b))=some (.bool (decide (a≠b)))from by
  show some (xl (a != b))=_
  grind),k⟩
theorem aO{T:Nat}{cx cy:Bool}{a b:Int}{K:Value->Prop}(h : -9223372036854775808<=a+b/\a+b<=9223372036854775807)(k:K (hZ (a+b))) :
  eU P (kq .add T cx cy (hZ a) (hZ b)) K:=
 ⟨_,(show pr P (kq .add T cx cy (hZ a) (hZ b))=some (hZ (a+b))from by
  show some (n3 .i64 (IntKind.i64.wrap (a+b)))=_
  rw[IntWalk.i64_in _ h]),k⟩
theorem fh{T:Nat}{cx cy:Bool}{a b:Int}{K:Value->Prop}(h : -9223372036854775808<=a-b/\a-b<=9223372036854775807)(k:K (hZ (a-b))) :
  eU P (kq .sub T cx cy (hZ a) (hZ b)) K:=
 ⟨_,(show pr P (kq .sub T cx cy (hZ a) (hZ b))=some (hZ (a-b))from by
  show some (n3 .i64 (IntKind.i64.wrap (a-b)))=_
  rw[IntWalk.i64_in _ h]),k⟩
theorem IV{T:Nat}{cx cy:Bool}{a b:Int}{K:Value->Prop}(h : -9223372036854775808<=a*b/\a*b<=9223372036854775807)(k:K (hZ (a*b))) :
  eU P (kq .mul T cx cy (hZ a) (hZ b)) K:=
 ⟨_,(show pr P (kq .mul T cx cy (hZ a) (hZ b))=some (hZ (a*b))from by
  show some (n3 .i64 (IntKind.i64.wrap (a*b)))=_
  rw[IntWalk.i64_in _ h]),k⟩
theorem aC{p:Prop}[Decidable p]{A B:Prop}(h1:p->A)(h2:¬ p->B):yL (.bool (decide p)) A B:=
 ⟨_,rfl,λh=>h1 (gR h),λh=>h2 (g6 h)⟩
theorem iB{A B:Prop}(h:A):yL (.bool true) A B:=⟨_,rfl,λ_=>h,λh=>by cases h⟩
theorem fw{A B:Prop}(h:B):yL (.bool false) A B:=⟨_,rfl,λh=>(by cases h),λ_=>h⟩
theorem aY{b:Bool}{A B:Prop}(h1:b=true->A)(h2:b=false->B):yL (.bool b) A B:=⟨_,rfl,h1,h2⟩
theorem gx{α:Type}(l:List α){i:Nat}(h:i<l.length):∃x,l[i]?=some x:=⟨_,List.getElem?_eq_getElem h⟩
theorem dL{a b:Nat}(h:Sx a b=true):a<=b:=Ek h
theorem dM{f:FuncId}{args:List Value}{Φ K:Value->hM}(pl:Plain P f)(h:Calls P f args.toArray w (ub Φ))(k:∀v w',Φ v w'->K v w') :
  CG P f args w K:=⟨.inl ⟨pl,h.mono λ_ _ r=>r.mono k⟩⟩
theorem gW{g:FuncId}{args first cap:List Value}{Φ K:Value->hM}(pl:Plain P g)(h:Calls P g (first++args++cap).toArray w (ub Φ))(k:∀v w',Φ v w'->K v w') :
  kK P (.func (.func g) first.toArray cap.toArray) args w K:=⟨.inl ⟨g,_,_,rfl,pl,by simpa using h.mono λ_ _ r=>r.mono k⟩⟩
variable {w0:World}{A:Nat->Prop}{L:List HP}
theorem run_load(a:Addr)(v:Value)(h:w.cell? a=some v):(load a).run P w=.ok v w:=by
 simp_all
theorem gI(b o j:Nat):(Addr.mk b o none).add j=⟨b,o+j,none⟩:=by
 unfold Addr.add;grind
theorem run_loadCellsFrom(b o:Nat):∀(n i:Nat) (u:Array Value) (cs:List Value),cs.length=n->(∀j c,cs[j]?=some c->Cell w b (o+i+j) c)->
  (loadCellsFrom ⟨b,o,none⟩ i n u).run P w=.ok (u++cs.toArray) w:=by
 intro n
 induction n with
 | zero=>intro i u cs B _;obtain rfl:=List.length_eq_zero_iff.1 B;simp[loadCellsFrom]
 | succ n E=>
  intro i u cs B h
  match cs,B with
  | c::cs,B=>
   unfold loadCellsFrom
   rw[eL (run_load _ c (by rw[gI];exact h 0 c rfl))]
   rw[E (i+1) (u.push c) cs cL λj d G=>by have:=h (j+1) d cL;grind]
   simp
theorem run_loadCells{b o:Nat}{cs:List Value}(h:∀j c,cs[j]?=some c->Cell w b (o+j) c):(loadCells ⟨b,o,none⟩ cs.length).run P w=.ok cs.toArray w:=by
 unfold loadCells
 rw[run_loadCellsFrom b o cs.length 0 #[] cs rfl λj c hc=>cL]
 simp
theorem aF{T:TypeId}{b o:Nat}{v:Value}(ht:Wp P T)(h:Cell w b o v):(yx T (.pointer (some ⟨b,o,none⟩))).run P w=.ok v w:=by
 show(loadVar T ⟨b,o,none⟩).run P w=_
 unfold loadVar
 rw[eL (fZ (lF ht).1 w)]
 exact run_load _ v h
theorem CJ{T:TypeId}{b o:Nat}{cs:List Value}(ht:acp P T cs.length)(h:∀j c,cs[j]?=some c->Cell w b (o+j) c) :
  (yx T (.pointer (some ⟨b,o,none⟩))).run P w=.ok (.agg cs.toArray) w:=by
 show(loadVar T ⟨b,o,none⟩).run P w=_
 unfold loadVar
 rw[eL (fZ (lF ht).1 w)]
 simp only[if_true]
 rw[eL (fZ (lF ht).2 w),eL (run_loadCells h)]
 rfl
theorem aB{T:TypeId}{b o:Nat}{cs:List Value}{v:Value}{K:Value->Prop}(ht:Wp P T)(hb:mW w b cs)(hc:cs[o]?=some v)(k:K v) :
  Kn P (yx T (.pointer (some ⟨b,o,none⟩))) w K:=⟨v,aF ht (hb.cell hc),k⟩
theorem KW{T:TypeId}{b n:Nat}{cs:List Value}{K:Value->Prop}(ht:acp P T n)(hb:mW w b cs)(u:cs.length=n)(k:K (.agg cs.toArray)) :
  Kn P (yx T (.pointer (some ⟨b,0,none⟩))) w K:=by
 subst u
 exact⟨_,CJ ht λj c hc=>by rw[u4];exact hb.cell hc,k⟩
theorem OP{T f u b o:Nat}(ht:wN P T f u):pr P (G8 T (.pointer (some ⟨b,o,none⟩)) f)=some (.pointer (some ⟨b,o+u,none⟩)):=by
 unfold wN aU at ht
 split at ht
 .rename_i fs hfs
  cases hf:fs[f]? with
  | none=>grind
  | some fd=>
   rw[hf]at ht
   simp only[F1,oq.injEq,aa7.injEq]at ht
   obtain⟨G,E⟩:=ht
   cases hi:P.info? fd.type with
   | none=>grind
   | some i=>
    rw[hi]at E
    have B:i.size≠0:=cL
    unfold G8
    rw[cX,cZ hfs]
    simp only[nj,hf]
    show pr P (do pure (abx (some (<- fieldPlace ⟨b,o,none⟩ fd))))=_
    rw[yf]
    unfold fieldPlace
    rw[cX,mX hi]
    simp only[nj,ei B,gI,G]
    rfl
 cases ht
theorem aA{T f u b o:Nat}{K:Value->Prop}(ht:wN P T f u)(k:K (.pointer (some ⟨b,o+u,none⟩))) :
  eU P (G8 T (.pointer (some ⟨b,o,none⟩)) f) K:=⟨_,OP ht,k⟩
theorem pfb{T f u b o T2:Nat}{cs:List Value}{v:Value}{K:Value->Prop}(ht:wN P T f u)(h2:Wp P T2)(hb:mW w b cs)(hc:cs[o+u]?=some v)(k:K v) :
  eU P (G8 T (.pointer (some ⟨b,o,none⟩)) f) λp=>Kn P (yx T2 p) w K:=aA ht (aB h2 hb hc k)
theorem IW(T:TypeId)(v:Value):(By T v).run P w=.ok (.pointer (some ⟨w.heap.size,0,none⟩)) (push w (.cells v.cells T)):=rfl
theorem St.push{T:TypeId}{cs:List Value}(u:St w0 A L w):St w0 A (bY w.heap.size cs::L) (push w (.cells cs.toArray T)):=
 u.new (Ext.push _ _) (F:=λk=>k=w.heap.size) ⟨mW.push w cs T,λ_=>Iff.rfl⟩ λb hb=>by rw[hb];exact pb _
theorem nA{T:TypeId}{v:Value}{K:Value->hM}(B:St w0 A L w)(u:wA v=true)
  (k:∀b w',St w0 A (bY b [v]::L) w'->K (.pointer (some ⟨b,0,none⟩)) w'):rR P (By T v) w K:=by
 refine⟨_,_,IW T v,k _ _ ?_⟩
 have:v.cells=[v].toArray:=by cases v<;>first|rfl|cases u
 rw[this]
 exact B.push
theorem nB{T:TypeId}{cs:List Value}{K:Value->hM}(u:St w0 A L w)
  (k:∀b w',St w0 A (bY b cs::L) w'->K (.pointer (some ⟨b,0,none⟩)) w'):rR P (By T (.agg cs.toArray)) w K:=
 ⟨_,_,IW T _,k _ _ u.push⟩
theorem gF{T:TypeId}{z:Value}{K:Value->hM}(E:St w0 A L w)(u:ox P T z)(B:wA z=true)
  (k:∀b w',St w0 A (bY b [z]::L) w'->K (.pointer (some ⟨b,0,none⟩)) w'):rR P (P2 T true (.tuple #[])) w K:=by
 unfold ox et at u
 cases hi:P.info? T with
 | none=>rw[hi]at u;cases u
 | some i=>
  rw[hi]at u
  simp only[F1,oq.injEq]at u
  have h1:pr P (zeroValue T)=some z:=by unfold zeroValue;rw[cX,mw hi];simp only[nj,u];rfl
  refine⟨_,push w (.cells [z].toArray T),?_,k _ _ (E.push (T:=T))⟩
  unfold P2
  rw[eL (fZ h1 w)]
  have:z.cells=[z].toArray:=by cases z<;>first|rfl|cases B
  show(do pure (abx (some (<- newVar T z))):Sem Value).run P w=_
  unfold newVar
  rw[this]
  rfl
theorem aM{T:TypeId}{cs:List Value}{K:Value->hM}(B:St w0 A L w)(u:ox P T (.agg cs.toArray))
  (k:∀b w',St w0 A (bY b cs::L) w'->K (.pointer (some ⟨b,0,none⟩)) w'):rR P (P2 T true (.tuple #[])) w K:=by
 unfold ox et at u
 cases hi:P.info? T with
 | none=>rw[hi]at u;cases u
 | some i=>
  rw[hi]at u
  simp only[F1,oq.injEq]at u
  have h1:pr P (zeroValue T)=some (.agg cs.toArray):=by unfold zeroValue;rw[cX,mw hi];simp only[nj,u];rfl
  refine⟨_,push w (.cells cs.toArray T),?_,k _ _ (B.push (T:=T))⟩
  unfold P2
  rw[eL (fZ h1 w)]
  rfl
theorem run_store{b o:Nat}{cs:List Value}{v:Value}(hb:mW w b cs)(B:o<cs.length)(u:wA v=true) :
  (store ⟨b,o,none⟩ v).run P w=.ok () (w.setCell ⟨b,o,none⟩ v):=by
 have h1:w.cell? ⟨b,o,none⟩=some cs[o]:=hb.cell (by simp[B])
 have h2:=hb.frozen (o:=o)
 unfold store
 cases v<;>first|cases u|skip
 all_goals
  simp only[Sem.run,h1,h2]
  rfl
theorem KX{b o:Nat}{cs:List Value}{v:Value}(E:St w0 A (bY b cs::L) w):St w0 A (bY b (cs.set o v)::L) (w.setCell ⟨b,o,none⟩ v):=
 E.rF λF u=>⟨F,⟨u.1.setCell v,u.2⟩,λ_ h=>.inl h,(gz.setCell w b o v).mono λk B=>(u.2 k).2 B⟩
theorem aT{T:TypeId}{b o:Nat}{cs:List Value}{v:Value}{K:hM}(B:St w0 A (bY b cs::L) w)(ht:Wp P T)(E:o<cs.length)(u:wA v=true)
  (k:∀w',St w0 A (bY b (cs.set o v)::L) w'->K w'):Vx P (KK T (.pointer (some ⟨b,o,none⟩)) v) w K:=by
 refine⟨_,?_,k _ (KX B)⟩
 show(storeVar T ⟨b,o,none⟩ v).run P w=_
 have hc:v.cells = #[v]:=by cases v<;>first|rfl|cases u
 unfold storeVar
 rw[eL (fZ (lF ht).2 w),hc]
 simp only[Mu,o1,L2,u4,ne_eq,not_true_eq_false,if_false]
 show(storeCells ⟨b,o,none⟩ [v]).run P w=_
 unfold storeCells
 rw[gI,PK,eL (run_store B.hb E u)]
 rfl
def ji:List Value->Nat->List Value->List Value
 | cs,_,[]=>cs
 | cs,o,v::r=>ji (cs.set o v) (o+1) r
theorem Em{b o:Nat}:∀(vs:List Value) (i:Nat) (cs:List Value) (w:World),St w0 A (bY b cs::L) w->o+i+vs.length<=cs.length->(∀v∈vs,wA v=true)->
  ∃w',(storeCells ⟨b,o,none⟩ vs i).run P w=.ok () w'/\St w0 A (bY b (ji cs (o+i) vs)::L) w':=by
 intro vs
 induction vs with
 | nil=>intro i cs w u _ _;exact⟨w,rfl,u⟩
 | cons v r G=>
  intro i cs w u E B
  have J:o+i+(r.length+1)<=cs.length:=by simpa using E
  have h1:=run_store (P:=P) u.hb (o:=o+i) (v:=v) bO (B v ee)
  obtain⟨w',h2,h3⟩:=G (i+1) (cs.set (o+i) v) _ (KX u) (by simp;omega) (λx I=>B x (by simp[I]))
  refine⟨w',?_,by rw[show o+(i+1)=o+i+1 from bO]at h3;exact h3⟩
  show(do store ((Addr.mk b o none).add i) v;storeCells ⟨b,o,none⟩ r (i+1):Sem Unit).run P w=_
  rw[gI,eL h1,h2]
theorem En{T:TypeId}{b o n:Nat}{cs vs:List Value}{K:hM}(E:St w0 A (bY b cs::L) w)(ht:acp P T n)(B:vs.length=n)(G:o+n<=cs.length)(u:∀v∈vs,wA v=true)
  (k:∀w',St w0 A (bY b (ji cs o vs)::L) w'->K w'):Vx P (KK T (.pointer (some ⟨b,o,none⟩)) (.agg vs.toArray)) w K:=by
 subst B
 obtain⟨w',h1,h2⟩:=Em (P:=P) (o:=o) vs 0 cs w E bO u
 refine⟨w',?_,k w' h2⟩
 show(storeVar T ⟨b,o,none⟩ (.agg vs.toArray)).run P w=_
 unfold storeVar
 rw[eL (fZ (lF ht).2 w)]
 simp only[VR,Mu,ne_eq,not_true_eq_false,if_false]
 exact h1
end
end Go.Fw
namespace Go.Fw
class Flat (α:Type) where
 agg:Bool
 sz:Nat
 enc:α->List Value
 val:α->Value
 pos:0<sz
 len:∀a,(enc a).length=sz
 one:∀a v,v∈enc a->wA v=true
 nD:agg=true->∀a,val a=.agg (enc a).toArray
 nX:agg=false->∀a,enc a=[val a]
instance:Flat Int where
 agg:=false
 sz:=1
 enc n:=[hZ n]
 val n:=hZ n
 pos:=dD
 len _:=rfl
 one a v h:=by rw[wy.1 h];rfl
 nD h:=by cases h
 nX _ _:=rfl
instance:Flat Bool where
 agg:=false
 sz:=1
 enc n:=[.bool n]
 val n:=.bool n
 pos:=dD
 len _:=rfl
 one a v h:=by rw[wy.1 h];rfl
 nD h:=by cases h
 nX _ _:=rfl
instance:Flat ByteArray where
 agg:=false
 sz:=1
 enc n:=[.string n]
 val n:=.string n
 pos:=dD
 len _:=rfl
 one a v h:=by rw[wy.1 h];rfl
 nD h:=by cases h
 nX _ _:=rfl
section
variable {α:Type}[Flat α]
def flat(xs:List α):List Value:=xs.flatMap Flat.enc
theorem kN:flat ([]:List α)=[]:=rfl
theorem kP(x:α)(xs:List α):flat (x::xs)=Flat.enc x++flat xs:=by simp[flat]
theorem gJ(xs ys:List α):flat (xs++ys)=flat xs++flat ys:=by simp[flat]
theorem dB(xs:List α):(flat xs).length=xs.length*Flat.sz α:=by
 induction xs with
 | nil=>simp[kN]
 | cons x xs u=>rw[kP,l1,u,Flat.len,o1,LC];omega
theorem Aw{xs:List α}:∀v∈flat xs,wA v=true:=by
 intro v u
 obtain⟨x,_,B⟩:=List.mem_flatMap.1 u
 exact Flat.one x v B
theorem r9{xs:List α}{i j:Nat}{x:α}{c:Value}(u:xs[i]?=some x)(hc:(Flat.enc x)[j]?=some c):(flat xs)[i*Flat.sz α+j]?=some c:=by
 induction xs generalizing i with
 | nil=>simp at u
 | cons y ys B=>
  rw[kP]
  cases i with
  | zero=>
   grind
  | succ i=>
   have:=B (by simpa using u)
   rw[List.getElem?_append_right (by rw[Flat.len,LC];omega),Flat.len]
   grind
theorem Hc(xs:List α)(n:Nat):flat (xs.take n)=(flat xs).take (n*Flat.sz α):=by
 induction xs generalizing n with
 | nil=>simp[kN]
 | cons x xs u=>
  cases n with
  | zero=>simp[kN]
  | succ n=>
   rw[List.take_succ_cons,kP,kP,u,List.take_append,Flat.len]
   have h1:(n+1)*Flat.sz α-Flat.sz α=n*Flat.sz α:=cL
   rw[h1,List.take_of_length_le (i:=(n+1)*Flat.sz α) (l:=Flat.enc x) (by rw[Flat.len,LC];omega)]
theorem Hd(xs:List α)(n:Nat):flat (xs.drop n)=(flat xs).drop (n*Flat.sz α):=by
 induction xs generalizing n with
 | nil=>simp[kN]
 | cons x xs u=>
  cases n with
  | zero=>simp
  | succ n=>
   rw[List.drop_succ_cons,kP,u,List.drop_append,Flat.len]
   have h1:(n+1)*Flat.sz α-Flat.sz α=n*Flat.sz α:=cL
   rw[h1,List.drop_of_length_le (i:=(n+1)*Flat.sz α) (l:=Flat.enc x) (by rw[Flat.len,LC];omega),tx]
def At(S:Nat->Prop)(w:World)(p:Value)(x:α):Prop:=
 ∃b o,p=.pointer (some ⟨b,o,none⟩)/\S b/\∀j c,(Flat.enc x)[j]?=some c->Cell w b (o+j) c
def dA(S:Nat->Prop)(w:World)(v:Value)(xs:List α):Prop:=
 ∃a cap,v=.slice a xs.length cap/\xs.length<=cap/\((xs=[]/\cap=0)\/∃b o,a=some ⟨b,o,none⟩/\(xs≠[]->S b)/\∀j c,(flat xs)[j]?=some c->Cell w b (o+j) c)
def bH(v:Value)(xs:List α):HP where
 p w F:=(v=.slice none 0 0/\xs=[]/\∀b,¬ F b)\/
  ∃b cap rest,v=.slice (some ⟨b,0,none⟩) xs.length cap/\mW w b (flat xs++rest)/\(xs.length<=cap/\cap*Flat.sz α<=(flat xs++rest).length)/\∀k,F k↔k=b
 loc w w' F h hh:=by
  rcases h with h|⟨b,cap,rest,h1,h2,h3,h4⟩
  .grind
  .exact .inr ⟨b,cap,rest,h1,h2.of_eq (hh b ((h4 b).2 rfl)),h3,h4⟩
 lt w F b h hb:=by
  rcases h with h|⟨u,cap,rest,h1,h2,h3,h4⟩
  .grind
  .rw[(h4 b).1 hb];exact h2.lt
variable {P:Program}{w w0:World}{A S:Nat->Prop}{L:List HP}{xs ys:List α}
theorem At.aG{A:Nat->Prop}{w w':World}{p:Value}{x:α}(h:At S w p x)(hc:gz A w w')(u:∀b,S b->¬ A b):At S w' p x:=by
 obtain⟨b,o,h1,h2,h3⟩:=h;exact⟨b,o,h1,h2,λj c B=>(h3 j c B).aG hc (u b h2)⟩
theorem At.ext{w w':World}{p:Value}{x:α}(h:At S w p x)(hc:Ext w w'):At S w' p x:=h.aG hc λ_ _ h=>h
theorem dA.aG{A:Nat->Prop}{w w':World}{v:Value}(h:dA S w v xs)(hc:gz A w w')(B:∀b,S b->¬ A b):dA S w' v xs:=by
 obtain⟨a,cap,h1,h2,h3⟩:=h
 refine⟨a,cap,h1,h2,?_⟩
 rcases h3 with h3|⟨b,o,h3,h4,h5⟩
 .grind
 exact .inr ⟨b,o,h3,h4,λj c u=>(h5 j c u).aG hc (B b (h4 λh=>by subst h;simp[kN]at u))⟩
theorem dA.ext{w w':World}{v:Value}(h:dA S w v xs)(hc:Ext w w'):dA S w' v xs:=h.aG hc λ_ _ h=>h
theorem dA.mono{u:Nat->Prop}{v:Value}(h:dA S w v xs)(B:∀b,S b->u b):dA u w v xs:=by
 grind[dA]
theorem dA.nil(S:Nat->Prop)(w:World):dA S w (.slice none 0 0) ([]:List α):=⟨none,0,rfl,pb _,.inl ⟨rfl,rfl⟩⟩
theorem bH.rd{v:Value}{F:Nat->Prop}(h:(bH v xs).p w F):dA F w v xs:=by
 rcases h with⟨h1,h2,h3⟩|⟨b,cap,rest,h1,h2,h3,h4⟩
 .subst h1 h2;exact dA.nil _ _
 refine⟨_,cap,h1,?_,.inr ⟨b,0,rfl,λ_=>(h4 b).2 rfl,λj c u=>?_⟩⟩
 .exact h3.1
 rw[u4]
 exact h2.cell cL
theorem St.rd{v:Value}(u:St w0 A (bH v xs::L) w):∃S,(∀b,S b->A b\/w0.heap.size<=b)/\dA S w v xs:=by
 obtain⟨F,h1,h2⟩:=u.head;exact⟨F,h2,bH.rd h1⟩
theorem St.dS{v:Value}(u:St w0 A (bH v xs::L) w):dA (λ_=>True) w v xs:=by
 obtain⟨S,_,h⟩:=u.rd;exact h.mono λ_ _=>trivial
theorem St.eM(u:St w0 A L w):St w0 A (bH (.slice none 0 0) ([]:List α)::L) w:=
 u.new (Ext.refl w) (F:=aZ) (.inl ⟨rfl,rfl,λ_ h=>h⟩) λ_ h=>h.elim
theorem aD{T:TypeId}{p:Value}{x:α}{K:Value->Prop}(ht:dF P T=some (Flat.agg α,Flat.sz α))(h:At S w p x)(k:K (Flat.val x)):Kn P (yx T p) w K:=by
 obtain⟨b,o,rfl,_,h3⟩:=h
 cases ha:Flat.agg α with
 | true=>
  rw[ha]at ht
  refine⟨_,?_,k⟩
  rw[Flat.nD ha x]
  exact CJ (by rw[Flat.len];exact ht) h3
 | false=>
  rw[ha]at ht
  have h1:=Flat.nX ha x
  have u:Flat.sz α=1:=by rw[<- Flat.len x,h1];rfl
  rw[u]at ht
  exact⟨_,aF ht (by have:=h3 0 (Flat.val x) cL;omega),k⟩
theorem St.At{b:Nat}{x:α}(B:St w0 A (Fw.bY b (Flat.enc x)::L) w):Fw.At (λ_=>True) w (.pointer (some ⟨b,0,none⟩)) x:=
 ⟨b,0,rfl,trivial,λj c u=>by rw[u4];exact B.hb.cell u⟩
theorem bV{β:Type}[Flat β]{T f u:Nat}{p:Value}{x:α}(y:β){K:Value->Prop}(ht:wN P T f u)(h:At S w p x)(G:(Flat.enc x)[u]?=some (Flat.val y))(B:Flat.agg β=false)
  (k:∀q,At S w q y->K q):eU P (G8 T p f) K:=by
 obtain⟨b,o,rfl,h2,h3⟩:=h
 refine aA ht (k _ ⟨b,o+u,rfl,h2,λj c E=>?_⟩)
 rw[Flat.nX B]at E
 grind
theorem IX{T R E n u:Nat}{z:Option Nat}{a:Option Addr}{l c:Nat}(ht:eQ P T=some (E,n,u,z)):pr P (Builtin.len_ #[T] R [zH a l c].toArray)=some (hZ l):=by
 show pr P (do
  match <- underlying T,zH a l c with
  | .string,.string s=>pure (goInt s.size)
  | .array n _,_=>pure (goInt n)
  | .pointer arr,_=>
   let .array n _ <- underlying arr|stuck "len: pointer to array expected"
   pure (goInt n)
  | .slice _,.slice _ n _=>pure (goInt n)
  | .map _ _,.map none|.chan _ _,.chan none=>pure (goInt 0)
  | .map _ _,.map (some r)=>
   let .map entries _ <- getObj r|stuck "len: map expected"
   pure (goInt entries.size)
  | .chan _ _,.chan (some r)=>
   let .chan _ buf _ _ _ timer <- getObj r|stuck "len: channel expected"
   pure (goInt (if timer then 0 else buf.size))
  | _, _ => stuck "len: string, array, pointer to array, slice, map or channel expected")=_
 rw[cX,cZ (fp ht).1]
 rfl
theorem aK{T R E n u:Nat}{z:Option Nat}{v:Value}{K:Value->Prop}(ht:eQ P T=some (E,n,u,z))(h:dA S w v xs)(k:K (hZ (xs.length:Int))) :
  eU P (Builtin.len_ #[T] R [v].toArray) K:=by
 obtain⟨a,cap,rfl,_⟩:=h
 exact⟨_,IX ht,k⟩
theorem aQ{T E I:Nat}{z:Option Nat}{v:Value}{i:Int}{x:α}{K:Value->Prop}(ht:eQ P T=some (E,Flat.sz α,I,z))(h:dA S w v xs)(M:0<=i)(u:xs[i.toNat]?=some x)
  (k:∀p,At S w p x->K p):eU P (H3 T v (hZ i)) K:=by
 obtain⟨a,cap,rfl,Y,h3⟩:=h
 have Z:i.toNat<xs.length:=(kO.1 u).1
 rcases h3 with⟨rfl,_⟩|⟨b,o,rfl,h4,h5⟩
 .simp at u
 obtain⟨O,U,hi,J,_⟩:=fp ht
 refine⟨.pointer (some ⟨b,o+i.toNat*Flat.sz α,none⟩),?_,k _ ⟨b,_,rfl,h4 cL,λj c V=>?_⟩⟩
 .unfold H3
  rw[cX]
  show pr P _=_
  simp only[asIntOf]
  have G:pr P (underlying T)=some (.slice E):=cZ O
  have B:pr P (sizeOf E)=some (Flat.sz α):=by rw[mX hi,J]
  simp only[cX,G,B,nj,fS]
  have W:0<=i/\i<(xs.length:Int):=⟨M,bO⟩
  simp only[ej W,cX,B,nj,fS,gI]
 have:=h5 (i.toNat*Flat.sz α+j) c (r9 u V)
 grind
end
end Go.Fw
namespace Go.Fw
section
variable {α:Type}[Flat α] {P:Program}{w w0:World}{A S:Nat->Prop}{L:List HP}{xs ys:List α}
theorem jo{y:Nat}{i:Int}{code:BoundsCode}(u:0<=i)(h1:i<=y):pr P (aav (hZ i) y code)=some i.toNat:=by
 unfold aav
 rw[cX]
 simp only[asIntOf,fS,nj,ej (show 0<=i/\i<=(y:Int)from⟨u,h1⟩)]
theorem wO{T E sz I:Nat}{z:Option Nat}{a:Option Addr}{n cap l h:Nat}{lo hi:Option Value}(ht:eQ P T=some (E,sz,I,z))
  (hb:pr P (v7 true n cap lo hi none)=some (l,h,cap)) :
  pr P (ob T (.slice a n cap) lo hi none)=some (.slice (if cap=l then a else a.map (·.add (l*sz))) (h-l) (cap-l)):=by
 obtain⟨u,G,B,J,_⟩:=fp ht
 unfold ob
 rw[cX,cZ u]
 simp only[nj]
 unfold Instr.slice
 rw[cX,cZ u]
 simp only[nj]
 rw[cX,hb]
 simp only[nj]
 rw[cX,mX B,J]
 rfl
theorem oy{n cap l h:Nat}{lo hi:Option Value}(E:lo=none/\l=0\/∃i:Int,lo=some (hZ i)/\0<=i/\l=i.toNat)(G:hi=none/\h=n\/∃i:Int,hi=some (hZ i)/\0<=i/\h=i.toNat)
  (h1:l<=h) (h2:h<=cap):pr P (v7 true n cap lo hi none)=some (l,h,cap):=by
 rcases E with⟨rfl,rfl⟩|⟨i,rfl,B,rfl⟩<;>rcases G with⟨rfl,rfl⟩|⟨I,rfl,u,rfl⟩<;>simp only[v7,cX,fS,nj]
 .rw[jo u bO];rfl
 .rw[jo B bO];rfl
 rw[jo u bO];simp only[nj];rw[jo B bO];rfl
theorem dA.cut{v:Value}{a:Option Addr}{n cap l h:Nat}(B:v=.slice a n cap)(M:dA S w v xs)(h1:l<=h)(h2:h<=xs.length) :
  dA S w (.slice (if cap=l then a else a.map (·.add (l*Flat.sz α))) (h-l) (cap-l)) ((xs.take h).drop l):=by
 obtain⟨Z,E,J,W,h3⟩:=M
 rw[J]at B
 simp only[zH.injEq]at B
 obtain⟨rfl,V,rfl⟩:=B
 have hlen:((xs.take h).drop l).length=h-l:=by simp;omega
 rcases h3 with⟨G,Y⟩|⟨b,o,rfl,h4,h5⟩
 .subst G
  exact⟨_,E-l,by rw[hlen],ee,.inl ⟨ee,bO⟩⟩
 refine⟨_,E-l,by rw[hlen],bO,.inr ?_⟩
 have U:(xs.take h).drop l≠[]->xs≠[]:=λu I=>u cL
 by_cases u:E=l
 .rw[ej u]
  grind[flat,Cell]
 rw[ei u]
 refine⟨b,o+l*Flat.sz α,by simp[gI],λI=>h4 (U I),λj c O=>?_⟩
 rw[Hd,Hc,List.getElem?_drop,List.getElem?_take]at O
 grind
theorem RG{T E I:Nat}{z:Option Nat}{v:Value}{lo hi:Option Value}{l h:Nat}{K:Value->Prop}(ht:eQ P T=some (E,Flat.sz α,I,z))(G:dA S w v xs)
  (M:lo=none/\l=0\/∃i:Int,lo=some (hZ i)/\0<=i/\l=i.toNat) (J:hi=none/\h=xs.length\/∃i:Int,hi=some (hZ i)/\0<=i/\h=i.toNat)
  (h1:l<=h) (h2:h<=xs.length) (k:∀B,dA S w B ((xs.take h).drop l)->K B):eU P (ob T v lo hi none) K:=by
 have u:=G
 obtain⟨a,cap,rfl,O,h3⟩:=G
 exact⟨_,wO ht (oy M J h1 bO),k _ (u.cut rfl h1 h2)⟩
theorem l9{T E I:Nat}{z:Option Nat}{v:Value}{i:Int}{K:Value->Prop}(ht:eQ P T=some (E,Flat.sz α,I,z))(G:dA S w v xs)(B:0<=i)(h2:i<=xs.length)
  (k:∀u,dA S w u (xs.take i.toNat)->K u):eU P (ob T v none (some (hZ i)) none) K:=
 RG ht G (.inl ⟨rfl,rfl⟩) (.inr ⟨i,rfl,B,rfl⟩) bO bO λu h=>k u cL
theorem B0{T E I:Nat}{z:Option Nat}{v:Value}{i:Int}{K:Value->Prop}(ht:eQ P T=some (E,Flat.sz α,I,z))(G:dA S w v xs)(B:0<=i)(h2:i<=xs.length)
  (k:∀u,dA S w u (xs.drop i.toNat)->K u):eU P (ob T v (some (hZ i)) none none) K:=
 RG ht G (.inr ⟨i,rfl,B,rfl⟩) (.inl ⟨rfl,rfl⟩) bO bO λu h=>k u cL
theorem mY{b o:Nat}:∀(vs:List Value) (i:Nat) (cs:List Value) (w:World),mW w b cs->o+i+vs.length<=cs.length->(∀v∈vs,wA v=true)->
  ∃w',(storeCells ⟨b,o,none⟩ vs i).run P w=.ok () w'/\mW w' b (ji cs (o+i) vs)/\gz (· = b) w w':=by
 intro vs
 induction vs with
 | nil=>intro i cs w hb _ _;exact⟨w,rfl,hb,gz.refl _ _⟩
 | cons v r E=>
  intro i cs w hb I u
  have G:o+i+(r.length+1)<=cs.length:=bO
  have h1:=run_store (P:=P) hb (o:=o+i) (v:=v) bO (u v ee)
  obtain⟨w',h2,h3,h4⟩:=E (i+1) (cs.set (o+i) v) _ (hb.setCell v) (by simp;omega) (λx B=>u x (by simp[B]))
  refine⟨w',?_,by grind[mW,ji],(gz.setCell w b (o+i) v).trans h4 (λ_ h=>h) λ_ _ h=>h⟩
  show(do store ((Addr.mk b o none).add i) v;storeCells ⟨b,o,none⟩ r (i+1):Sem Unit).run P w=_
  rw[gI,eL h1,h2]
theorem my(pre u post vs:List Value)(h:u.length=vs.length):ji (pre++u++post) pre.length vs=pre++vs++post:=by
 induction vs generalizing pre u with
 | nil=>grind[ji]
 | cons v r B=>
  match u,h with
  | m::u,h=>
   have e:(pre++(m::u)++post).set pre.length v=(pre++[v])++u++post:=ee
   simp only[ji,e]
   have:=B (pre++[v]) u cL
   simp_all
theorem yg{sz:Nat}{v:Value}(u:sz=Flat.sz α)(h:dA S w v ys):(Builtin.firstCells sz ys.length v).run P w=.ok (flat ys).toArray w:=by
 subst u
 obtain⟨a,cap,rfl,_,h3⟩:=h
 rcases h3 with⟨rfl,_⟩|⟨b,o,rfl,_,h5⟩
 .cases a with
  | none=>rfl
  | some a=>simp[Builtin.firstCells,loadCells,loadCellsFrom,kN]
 have:=run_loadCells (P:=P) h5
 rw[dB]at this
 exact this
theorem rS{b o:Nat}{cs:List Value}(h:∀j c,cs[j]?=some c->Cell w b (o+j) c):∀j v,cs[j]?=some v->w.cell? ((⟨b,o,none⟩:Addr).add j)=some v:=λj v u=>by
 rw[gI];exact h j v u
theorem CL{T E kH R:Nat}{v src:Value}{F:Nat->Prop}(ht:VA P T E (Flat.sz α) kH)(hv:(bH v xs).p w F)(uF:dA S w src ys)
  (hn:xs.length+ys.length<=17592186044416) (B:(xs.length+ys.length)*kH<=140737488355328) :
  ∃v' w' F',(Builtin.append_ #[T,T] R [v,src].toArray).run P w=.ok v' w'/\(bH v' (xs++ys)).p w' F'/\(∀b,F' b->F b\/w.heap.size<=b)/\gz F w w':=by
 obtain⟨W,u,hi,V,wP,Z⟩:=fp ht
 obtain⟨zv,G,hzs⟩:∃zv,u.zero=some zv/\zv.cells.size=Flat.sz α:=by
  cases TP:u.zero with
  | none=>rw[TP]at Z;cases Z
  | some zv=>rw[TP]at Z;exact⟨zv,rfl,by simpa using Z⟩
 have hmul:(xs.length+ys.length)*u.bytes<=140737488355328:=by rw[show u.bytes=kH by omega];exact B
 have made:∀(cap:Nat),cap<xs.length+ys.length->
   (bH (.slice (some ⟨w.heap.size,0,none⟩) (xs.length+ys.length) (grownCap w (xs.length+ys.length) cap E)) (xs++ys)).p
    (w.drew.alloc (.cells ((flat xs).toArray++(flat ys).toArray++Builtin.zeroCells zv.cells (grownCap w (xs.length+ys.length) cap E-(xs.length+ys.length))) E)) (λk=>k=w.heap.size):=by
  intro cap hc
  have OQ:=grownCap_ge w (xs.length+ys.length) cap E
  refine .inr ⟨w.heap.size,grownCap w (xs.length+ys.length) cap E,(Builtin.zeroCells zv.cells (grownCap w (xs.length+ys.length) cap E-(xs.length+ys.length))).toList,ee,⟨E,?_⟩,?_,λ_=>Iff.rfl⟩
  .have:=mu w.drew (.cells ((flat xs).toArray++(flat ys).toArray++Builtin.zeroCells zv.cells (grownCap w (xs.length+ys.length) cap E-(xs.length+ys.length))) E)
   refine Eq.trans this ?_
   congr 2
   apply abj
   simp[gJ]
  .refine⟨by rw[l1];exact OQ,AU (Eq.symm ?_)⟩
   have e:(Builtin.zeroCells zv.cells (grownCap w (xs.length+ys.length) cap E-(xs.length+ys.length))).toList.length=(grownCap w (xs.length+ys.length) cap E-(xs.length+ys.length))*Flat.sz α:=by
    rw[Nj,size_zeroCells,hzs]
   rw[l1,e,dB,l1,<- Wk]
   congr 1
   omega
 have I:∀o,gz F w (w.drew.alloc o):=λo=>⟨rfl,rfl,rfl,ee,λb hb _=>ye w.drew o b hb⟩
 have rd:=uF
 obtain⟨sa,Gx,rfl,hsc,U⟩:=rd
 rcases hv with⟨rfl,rfl,Y⟩|⟨b,cap,rest,rfl,hb,M,Y⟩
 ·
  simp only[L2,u4,tx]at *
  by_cases B:ys=[]
  .subst B
   refine⟨.slice none 0 0,w,F,?_,.inl ⟨rfl,rfl,Y⟩,λb hb=>.inl hb,gz.refl _ _⟩
   cases sa<;>simp[Builtin.append_,run_underlying W,sizeOf,typeInfo,hi,Builtin.lenOf,Builtin.firstCells,loadCells,loadCellsFrom]
  have Ay:0<ys.length:=List.length_pos_iff.2 B
  rcases U with⟨h,_⟩|⟨b,o,rfl,_,VB⟩
  .exact absurd h B
  have O:=run_append_nil (P:=P) w T R E u zv W hi G ⟨b,o,none⟩ ys.length Gx (flat ys) (by rw[dB,V]) (rS VB) Ay bO bO
  refine⟨_,_,λk=>k=w.heap.size,O,?_,λk J=>.inr (by rw[J];exact pb _),I _⟩
  have:=made 0 Ay
  simpa[kN]using this
 have Ax:xs.length<=cap:=M.1
 replace M:=M.2
 by_cases yQ:xs.length+ys.length<=cap
 ·
  have TQ:(xs.length+ys.length)*Flat.sz α<=cap*Flat.sz α:=EL _ yQ
  have ud:(flat xs).length=xs.length*Flat.sz α:=dB xs
  have Ao:(flat ys).length<=rest.length:=by
   rw[l1,ud]at M;rw[dB];rw[Wk]at TQ;omega
  obtain⟨w',h1,h2,h3⟩:=mY (P:=P) (o:=xs.length*Flat.sz α) (flat ys) 0 (flat xs++rest) w hb (by rw[l1,ud];omega) Aw
  have Gu:ji (flat xs++rest) (xs.length*Flat.sz α+0) (flat ys)=flat (xs++ys)++rest.drop (flat ys).length:=by
   have:=my (flat xs) (rest.take (flat ys).length) (rest.drop (flat ys).length) (flat ys) (by simp;omega)
   rw[ud]at this
   rw[PK,gJ]
   rw[<- this]
   simp
  rw[Gu]at h2
  refine⟨.slice (some ⟨b,0,none⟩) (xs.length+ys.length) cap,w',F,?_,.inr ⟨b,cap,_,ee,h2,?_,Y⟩,λb hb=>.inl hb,h3.mono λk J=>(Y k).2 J⟩
  .have hf:=yg (α:=α) (P:=P) (sz:=Flat.sz α) rfl uF
   have ue:(⟨b,0,none⟩:Addr).add (xs.length*Flat.sz α)=⟨b,xs.length*Flat.sz α,none⟩:=by rw[gI,u4]
   simp[Builtin.append_,run_underlying W,sizeOf,typeInfo,hi,Builtin.lenOf,yQ,hf,V,ue,h1]
  refine⟨by rw[l1];exact yQ,xe M (AU ?_)⟩
  rw[l1,l1,gJ,l1,List.length_drop];omega
 -- a new row
 have O:=run_append_grow (P:=P) w T R E u zv W hi G ⟨b,0,none⟩ xs.length cap (flat xs) (by rw[dB,V])
  (rS λj c hj=>by rw[u4];exact hb.cell (by rw[u3 (kO.1 hj).1];exact hj))
 rcases U with⟨h,_⟩|⟨b',o,rfl,_,VB⟩
 .subst h;simp at yQ;omega
 have O:=O ⟨b',o,none⟩ ys.length Gx (flat ys) (by rw[dB,V]) (rS VB) bO bO (growslice_fits bO hmul)
 exact⟨_,_,λk=>k=w.heap.size,O,made cap bO,λk J=>.inr (by rw[J];exact pb _),I _⟩
theorem ahP{T E G R:Nat}{v src:Value}{F:Nat->Prop}(ht:VA P T E (Flat.sz α) G)(M:(bH v xs).p w F)(J:dA S w src ys)
  (O:xs.length+ys.length<=1073741824) (u:G<=8192) :
  ∃I w' B,(Builtin.append_ #[T,T] R [v,src].toArray).run P w=.ok I w'/\(bH I (xs++ys)).p w' B/\(∀b,B b->F b\/w.heap.size<=b)/\gz F w w':=
 CL ht M J bO (by have:=Qt O u;omega)
theorem KY{T E I R:Nat}{v src:Value}{K:Value->hM}(G:St w0 A (bH v xs::L) w)(ht:VA P T E (Flat.sz α) I)(Y:dA S w src ys)
  (hn:xs.length+ys.length<=17592186044416) (Z:(xs.length+ys.length)*I<=140737488355328) (k:∀B w',St w0 A (bH B (xs++ys)::L) w'->K B w'):rR P (Builtin.append_ #[T,T] R [v,src].toArray) w K:=by
 obtain⟨U,F,M,h1,h2,h3,h4,h5⟩:=G.uc
 obtain⟨B,w',J,g1,g2,W,O⟩:=CL (R:=R) ht h1 Y hn Z
 refine⟨B,w',g1,k B w' ?_⟩
 refine⟨G.aG.trans O (λ_ h=>h) λb hb u=>(h2 b u).elim id λhh=>bO,λb=>J b\/M b,J,M,g2,λb hb=>?_,λb hb V=>?_,λb=>Iff.rfl,?_⟩
 .rcases W b hb with u|u
  .exact h2 b u
  exact .inr (xe G.aG.size u)
 .rcases W b hb with u|u
  .exact h3 b u V
  have:=h5.lt b V;omega
 exact h5.loc λb hb=>O.bY b (h5.lt b hb) λu=>h3 b u hb
theorem bJ{T E G R:Nat}{v src:Value}{K:Value->hM}(J:St w0 A (bH v xs::L) w)(ht:VA P T E (Flat.sz α) G)(I:dA S w src ys)
  (M:xs.length+ys.length<=1073741824) (u:G<=8192) (k:∀B w',St w0 A (bH B (xs++ys)::L) w'->K B w'):rR P (Builtin.append_ #[T,T] R [v,src].toArray) w K:=
 KY J ht I bO (by have:=Qt M u;omega) k
end
end Go.Fw
namespace Go.Fw
section
variable {α:Type}[Flat α] {P:Program}{w w0:World}{A S:Nat->Prop}{L:List HP}{xs ys:List α}
theorem pK(x:α):(Flat.val x).cells=(Flat.enc x).toArray:=by
 cases h:Flat.agg α with
 | true=>rw[Flat.nD h];rfl
 | false=>
  have h1:=Flat.nX h x
  have h2:=Flat.one x (Flat.val x) cL
  rw[h1]
  revert h2
  cases Flat.val x<;>simp[wA,VR]
theorem OR(cs:List Value)(o:Nat)(v:Value)(r:List Value):ji cs o (v::r)=ji (cs.set o v) (o+1) r:=rfl
theorem KZ(u:Nat):∀(l:List Value) (k:Nat) (cs:Array Value),((l.zipIdx k).foldl (fun (cs:Array Value) q=>cs.setIfInBounds (u+q.2) q.1) cs).toList=ji cs.toList (u+k) l:=by
 intro l
 induction l with
 | nil=>intro k cs;rfl
 | cons v r B=>
  intro k cs
  rw[aaE,List.foldl_cons,B (k+1),OR]
  grind
theorem IZ(u:Nat)(l:List Value)(cs:Array Value) :
  (l.toArray.zipIdx.foldl (fun (cs:Array Value) (q:Value×Nat)=>match q with|(c,j)=>cs.setIfInBounds (u+j) c) cs).toList=ji cs.toList u l:=by
 rw[<- XH]
 have e:l.toArray.zipIdx.toList=l.zipIdx 0:=ee
 rw[e]
 exact KZ u l 0 cs
theorem TR:∀(xs:List α) (k:Nat) (pre u:List Value),pre.length=k*Flat.sz α->u.length=xs.length*Flat.sz α->
  Y9 (λi=>some (i*Flat.sz α,Flat.sz α)) (pre++u).toArray ((xs.zipIdx k).map λq=>(q.2,Flat.val q.1))=some (pre++flat xs).toArray:=by
 intro xs
 induction xs with
 | nil=>intro k pre u _ B;simp at B;subst B;simp[Y9,kN]
 | cons x xs G=>
  intro k pre u E B
  rw[aaE,List.map_cons]
  unfold Y9
  dsimp only
  have J:(Flat.val x).cells.size=Flat.sz α:=by rw[pK];simp[Flat.len]
  have I:u.length=xs.length*Flat.sz α+Flat.sz α:=cL
  rw[ei cL]
  have e:((Flat.val x).cells.zipIdx.foldl (fun (cs:Array Value) (q:Value×Nat)=>match q with|(c,j)=>cs.setIfInBounds (k*Flat.sz α+j) c) (pre++u).toArray) =
    ((pre++Flat.enc x)++u.drop (Flat.sz α)).toArray:=by
   apply abj
   rw[pK,IZ]
   have h1:=my pre (u.take (Flat.sz α)) (u.drop (Flat.sz α)) (Flat.enc x) (by simp[Flat.len];omega)
   simp_all
  rw[e]
  have:=G (k+1) (pre++Flat.enc x) (u.drop (Flat.sz α)) (by rw[l1,E,Flat.len,LC]) cL
  rw[this,kP,n5]
theorem bD{T E U n:Nat}{parts:List (Nat×Value)}{K:Value->hM}(xs:List α)(V:St w0 A L w)(ht:VA P T E (Flat.sz α) U)(O:xs.length=n)
  (Z:parts=xs.zipIdx.map λq=>(q.2,Flat.val q.1)) (hl:xs.length*Flat.sz α<=16777216) (k:∀v w',St w0 A (bH v xs::L) w'->K v w') :
  rR P (KN T n parts.toArray) w K:=by
 subst O
 obtain⟨Y,B,hi,W,wP,G⟩:=fp ht
 obtain⟨zv,I,M⟩:∃zv,B.zero=some zv/\zv.cells.size=Flat.sz α:=by
  cases TP:B.zero with
  | none=>rw[TP]at G;cases G
  | some zv=>rw[TP]at G;exact⟨zv,rfl,by simpa using G⟩
 have es:pr P (sizeOf E)=some (Flat.sz α):=by rw[mX hi,W]
 have ez:pr P (zeroValue E)=some zv:=by unfold zeroValue;rw[cX,mw hi];simp only[nj,I];rfl
 refine⟨.slice (some ⟨w.heap.size,0,none⟩) xs.length xs.length,push w (.cells (flat xs).toArray E),?_,k _ _ ?_⟩
 .have u:∀z:Array Value,Y9 (λi=>some (i*Flat.sz α,Flat.sz α)) ((abE (xs.length*Flat.sz α)).map (z[· % z.size]!)) parts=some (flat xs).toArray:=by
   intro z
   have:=TR xs 0 [] ((abE (xs.length*Flat.sz α)).map (z[· % z.size]!)).toList ee ee
   rw[Z]
   rw[tx,tx,P5]at this
   exact this
  unfold KN
  rw[eL (fZ (cZ Y) w)]
  dsimp only
  rw[eL (fZ es w),ei bO]
  by_cases J:xs.length*Flat.sz α=0
  .simp only[ej J]
   rw[eL (run_pure _ w),u]
   rfl
  simp only[ei J]
  rw[eL (fZ ez w),eL (run_pure _ w),u]
  rfl
 refine V.new (Ext.push _ _) (F:=λk=>k=w.heap.size) (.inr ⟨w.heap.size,xs.length,[],rfl,⟨E,?_⟩,⟨pb _,by simp[dB]⟩,λ_=>Iff.rfl⟩) λb hb=>by rw[hb];exact pb _
 rw[pd];exact mu _ _
theorem wQ(z:α)(n:Nat):(madeCells (Flat.enc z).toArray (n*Flat.sz α)).toList=flat (sk n z):=by
 apply List.ext_getElem?
 intro i
 have u:=Flat.pos (α:=α)
 by_cases hi:i<n*Flat.sz α
 .have h1:i / Flat.sz α<n:=by rw[Nat.div_lt_iff_lt_mul u];exact hi
  have h2:i % Flat.sz α<(Flat.enc z).length:=by rw[Flat.len];exact Nat.mod_lt _ u
  have:=r9 (xs:=sk n z) (i:=i / Flat.sz α) (j:=i % Flat.sz α) (x:=z) (c:=(Flat.enc z)[i % Flat.sz α]) (by simp[h1]) (by simp[h2])
  rw[Nat.div_add_mod' i (Flat.sz α)]at this
  rw[this]
  unfold madeCells
  simp[hi,Flat.len]
  grind
 have B:(madeCells (Flat.enc z).toArray (n*Flat.sz α)).toList[i]?=none:=by
  rw[CB,Nj,size_madeCells];omega
 have E:(flat (sk n z))[i]?=none:=by
  rw[CB,dB,EI];omega
 rw[B,E]
theorem wR{T E G:Nat}{n:Int}{K:Value->hM}(z:α)(O:St w0 A L w)(ht:VA P T E (Flat.sz α) G)(B:ox P E (Flat.val z))(I:0<=n)(h1:n<=1073741824)(M:G<=8192)
  (k:∀v w',St w0 A (bH v (sk n.toNat z)::L) w'->K v w'):rR P (N6 T (hZ n) (hZ n)) w K:=by
 obtain⟨V,u,hi,U,W,_⟩:=fp ht
 unfold ox et at B
 rw[hi]at B
 simp only[F1,oq.injEq]at B
 have hb:(u.bytes:Int)*n<=281474976710656:=by
  have h2:(u.bytes:Int)<=8192:=bO
  have h3:(u.bytes:Int)*n<=8192*n:=Int.mul_le_mul_of_nonneg_right h2 I
  omega
 have J:=run_make (P:=P) w T E u (Flat.val z) V hi B .i64 .i64 n n I (Int.le_refl _) hb bO
 rw[U,pK]at J
 refine⟨_,_,J,k _ _ ?_⟩
 refine O.new (w':=w.alloc (.cells (madeCells (Flat.enc z).toArray (n.toNat*Flat.sz α)) E)) ⟨rfl,rfl,rfl,ee,λb hb _=>ye w _ b hb⟩ (F:=λk=>k=w.heap.size)
  (.inr ⟨w.heap.size,n.toNat,[],ee,⟨E,?_⟩,⟨ee,by rw[pd,dB,EI];exact pb _⟩,λ_=>Iff.rfl⟩) λb hb=>by rw[hb];exact pb _
 rw[pd,<- wQ]
 have:=mu w (.cells (madeCells (Flat.enc z).toArray (n.toNat*Flat.sz α)) E)
 rw[P5]
 exact this
def He(α:Type)[Flat α](v:Value)(i:Nat)(p:Value):Prop:=∃b n c,v=.slice (some ⟨b,0,none⟩) n c/\p=.pointer (some ⟨b,i*Flat.sz α,none⟩)
theorem dR{T E G:Nat}{z:Option Nat}{v:Value}{i:Int}{K:Value->Prop}(I:St w0 A (bH v xs::L) w)(ht:eQ P T=some (E,Flat.sz α,G,z))(M:0<=i)(h1:i<xs.length)
  (k:∀p,He α v i.toNat p->K p):eU P (H3 T v (hZ i)) K:=by
 obtain⟨F,h,_⟩:=I.head
 rcases h with⟨rfl,rfl,_⟩|⟨b,cap,rest,rfl,hb,V,_⟩
 .simp at h1;omega
 obtain⟨O,U,hi,J,_⟩:=fp ht
 refine⟨.pointer (some ⟨b,i.toNat*Flat.sz α,none⟩),?_,k _ ⟨b,_,_,rfl,rfl⟩⟩
 unfold H3
 have B:pr P (underlying T)=some (.slice E):=cZ O
 have u:pr P (sizeOf E)=some (Flat.sz α):=by rw[mX hi,J]
 simp only[asIntOf,cX,B,u,nj,fS]
 simp only[ej (show 0<=i/\i<(xs.length:Int)from⟨M,h1⟩),cX,u,nj,fS,gI,u4]
theorem rT{v:Value}{F:Nat->Prop}{i:Nat}(h:(bH v xs).p w F)(hi:i<xs.length):∃b cap rest,v=.slice (some ⟨b,0,none⟩) xs.length cap/\mW w b (flat xs++rest)/\(xs.length<=cap/\cap*Flat.sz α<=(flat xs++rest).length)/\∀k,F k↔k=b:=by
 rcases h with⟨rfl,rfl,_⟩|h
 .simp at hi
 exact h
theorem gP{T:Nat}{v p:Value}{i:Nat}{x:α}{K:Value->Prop}(G:St w0 A (bH v xs::L) w)(ht:dF P T=some (Flat.agg α,Flat.sz α))(I:He α v i p)(B:xs[i]?=some x)(k:K (Flat.val x)) :
  Kn P (yx T p) w K:=by
 obtain⟨F,h,_⟩:=G.head
 obtain⟨b,cap,rest,E,hb,O,_⟩:=rT h (kO.1 B).1
 obtain⟨M,n,c,u,rfl⟩:=I
 rw[E]at u
 simp only[zH.injEq,oq.injEq,Addr.mk.injEq]at u
 obtain⟨⟨rfl,_,_⟩,_,_⟩:=u
 refine aD (S:=λ_=>True) ht ⟨b,i*Flat.sz α,rfl,trivial,λj c J=>hb.cell ?_⟩ k
 have:=r9 B J
 rw[u3 (kO.1 this).1];exact this
theorem La{i:Nat}(y:α)(h:i<xs.length):flat (xs.set i y)=flat (xs.take i)++Flat.enc y++flat (xs.drop (i+1)):=by
 rw[List.set_eq_take_append_cons_drop,ej h,gJ,kP,n5]
theorem zB{i:Nat}{x:α}(h:xs[i]?=some x):flat xs=flat (xs.take i)++Flat.enc x++flat (xs.drop (i+1)):=by
 have hi:=(kO.1 h).1
 have:xs=xs.take i++x::xs.drop (i+1):=by
  rw[<- (kO.1 h).2,List.getElem_cons_drop,List.take_append_drop]
 conv=>lhs;rw[this]
 rw[gJ,kP,n5]
theorem OS{T:Nat}{v p:Value}{i:Nat}{F:Nat->Prop}(y:α)(h:(bH v xs).p w F)(ht:dF P T=some (Flat.agg α,Flat.sz α))(U:He α v i p)(hi:i<xs.length) :
  ∃w',(KK T p (Flat.val y)).run P w=.ok () w'/\(bH v (xs.set i y)).p w' F/\gz F w w':=by
 obtain⟨b,cap,rest,I,hb,V,B⟩:=rT h hi
 obtain⟨W,n,c,u,rfl⟩:=U
 rw[I]at u
 simp only[zH.injEq,oq.injEq,Addr.mk.injEq]at u
 obtain⟨⟨rfl,_,_⟩,_,_⟩:=u
 have J:xs[i]?=some xs[i]:=by simp[hi]
 have E:=zB J
 have M:(flat (xs.take i)).length=i*Flat.sz α:=by rw[dB,List.length_take,Nat.min_eq_left bO]
 have hlen:i*Flat.sz α+Flat.sz α<=(flat xs).length:=by
  rw[dB,<- LC];exact EL _ hi
 obtain⟨w',h1,h2,h3⟩:=mY (P:=P) (o:=i*Flat.sz α) (Flat.enc y) 0 (flat xs++rest) w hb (by rw[Flat.len,l1];omega) (Flat.one y)
 have G:ji (flat xs++rest) (i*Flat.sz α+0) (Flat.enc y)=flat (xs.set i y)++rest:=by
  have:=my (flat (xs.take i)) (Flat.enc xs[i]) (flat (xs.drop (i+1))++rest) (Flat.enc y) (by rw[Flat.len,Flat.len])
  rw[M]at this
  rw[PK,La y hi,E]
  grind
 rw[G]at h2
 refine⟨w',?_,.inr ⟨b,cap,rest,cL,h2,?_,B⟩,h3.mono λk O=>(B k).2 O⟩
 .show(storeVar T ⟨b,i*Flat.sz α,none⟩ (Flat.val y)).run P w=_
  unfold storeVar
  rw[eL (fZ (lF ht).2 w),pK]
  simp only[Mu,Flat.len,ne_eq,not_true_eq_false,if_false]
  exact h1
 rw[l1,dB]at V |-;grind
theorem jw{T:Nat}{v p:Value}{i:Nat}{K:hM}(y:α)(B:St w0 A (bH v xs::L) w)(ht:dF P T=some (Flat.agg α,Flat.sz α))(M:He α v i p)(hi:i<xs.length)
  (k:∀w',St w0 A (bH v (xs.set i y)::L) w'->K w'):Vx P (KK T p (Flat.val y)) w K:=by
 obtain⟨U,F,G,h1,h2,h3,h4,h5⟩:=B.uc
 obtain⟨w',I,J,E⟩:=OS y h1 ht M hi
 refine⟨w',I,k w' ⟨B.aG.trans E (λ_ h=>h) λb hb u=>(h2 b u).elim id λO=>bO,U,F,G,J,h2,h3,h4,h5.loc λb hb=>E.bY b (h5.lt b hb) λu=>h3 b u hb⟩⟩
end
end Go.Fw
