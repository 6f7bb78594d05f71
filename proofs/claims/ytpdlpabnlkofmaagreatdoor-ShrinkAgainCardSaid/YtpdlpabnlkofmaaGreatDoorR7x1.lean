/-
  Part 1.
-/
import Derived.Test.YtpdlpabnlkofmaaGreatDoorProg
import Derived.Orders
import Derived.Tactics
import Derived.OrdersIn
import Derived.TacticsIn
import Derived.RangeFuncSeq
import Derived.RangeFuncLeaves
import Derived.Laws.Sem
import Derived.KernelRfl
import Derived.Below
import Derived.IntWalk
import Derived.Laws.AppendOwn
import Derived.Laws.MakeOwn
import Derived.WalkKit
import Derived.ProofKit
import Derived.OpenShut
import Derived.ChangeCalls
import Derived.Laws.Strings
import Derived.Lib.ConvBytes
import Derived.MapKept
import Derived.Maps.RangeRun
import Derived.Lib.AppendZeros
import Derived.LaidMore
import Derived.Lay
import Derived.SevenTiedAt
import Derived.Stop.Joined
set_option maxHeartbeats 8000000
set_option linter.all false
set_option maxRecDepth 100000
namespace Go
def bM{p:Prop}(h:p:=by omega):p:=h
def cJ{p:Prop}(h:p:=by grind):p:=h
def dC{p:Prop}(h:p:=by decide):p:=h
def ee{p:Prop}(h:p:=by simp):p:=h
def ei:=@if_neg
def ej:=@if_pos
def ew:=@decide_eq_true
def ez:=@decide_eq_false
def e8:=@decide_eq_decide
def fM:=@congrArg
def ga:=@of_decide_eq_true
def gS:=@of_decide_eq_false
def gT:=@Classical.byContradiction
noncomputable abbrev g6:=Proofs.Tryz.prog
abbrev g7:=World->Prop
abbrev hH(i:Int):Value:=.int .i64 i
end Go
open ByteArray renaming mk->ia
open List renaming getElem?_eq_some_iff->j0,length_append->kU,append_assoc->nk,length_cons->ob,mem_cons_self->oi,append_nil->oo,mem_cons_of_mem->pd,replicate->qV,mem_cons->sk,getElem?_append_left->s4,mem_singleton->ua,map_congr_left->Af,nil_append->BF,getElem?_eq_none_iff->BR,length_replicate->C2,all_eq_true->Fo,length_nil->Mh,size_toArray->MR,getElem?_toArray->P5,mem_filterMap->QG,zipIdx_cons->aat
open Go.Instr renaming build->l1,sliceAt->nT,index->u3,sliceBounds->vC,loadAt->x6,box->yB,fieldAt->Fp,indexAt->FP,storeAt->Ka,buildSlice->K9,makeSlice->NZ,alloc->Qj,extract->Ti,fill->X1,sliceBound->aaq
open Option renaming bind_some->ma,some->n4,map_some->E2
open Go.Value renaming int->ng,bool->xc,slice->yA,cells->aax,pointer->aaL
open Bool renaming and_eq_true->n3,not_eq_true'->sl,or_eq_true->xr,true_and->Bt,not_false->OZ
open Nat renaming le_refl->o1,le_trans->te,zero_add->tx,le_of_eq->zH,mul_le_mul_right->Be,beq->Ce,le_of_ble_eq_true->CU,land->Ix,succ_mul->JL,shiftLeft->KH,lor->OV,add_zero->PQ,eq_of_beq_eq_true->P6,testBit_two_pow->QA,mul_le_mul->QI,one_shiftLeft->Sg,ble->SE,add_mul->S5,testBit_or->TN,blt->aaB
open Array renaming getD_eq_getD_getElem?->Dm,getElem?_eq_some_iff->Ei,length_toList->NN,getElem?_modify->P8,toArray_toList->Qs,empty_append->WO,foldl_toList->Xm,ext'->aaD,range->abD
open Go.World renaming cell?->SN,setCell->aaH
open Prod renaming mk->aaC
open Go.Code renaming region->abw
open Classical renaming choose->abQ
namespace Go.Fw
abbrev Env:=Nat->Value
def ev(e:Env):Operand->Value
 | .tmp t=>e t
 | .const v=>v
 | .global g=>.pointer (some ⟨g,0,none⟩)
 | .func f=>.func (.func f) #[] #[]
def Am(e:Env)(d:Nat)(v:Value):Env:=λi=>bif Ce i d then v else e i
def jR(e:Env)(d:Option Nat)(v:Value):Env:=match d with|some d=>Am e d v|none=>e
theorem nw(e:Env)(d:Nat)(v:Value):Am e d v d=v:=by simp[Am]
theorem oL(e:Env){d i:Nat}(v:Value)(h:i≠d):Am e d v i=e i:=by
 have:Ce i d=false:=by
  cases hh:Ce i d
  .rfl
  simp_all
 simp[Am,this]
def WR(e:Env){d u:Nat}(v B:Value)(h:d≠u):Am (Am e d v) u B=Am (Am e u B) d v:=by
 funext i
 by_cases h1:i=d
 .subst h1;rw[oL _ _ h,nw,nw]
 by_cases h2:i=u
 .subst h2;rw[nw,oL _ _ h1,nw]
 rw[oL _ _ h2,oL _ _ h1,oL _ _ h1,oL _ _ h2]
def aim(e:Env)(d:Nat)(v:Value)(h:e d=v):Am e d v=e:=by
 funext i
 by_cases h1:i=d
 .subst h1;rw[nw,h]
 rw[oL _ _ h1]
def mark(D:Nat):Deferred:={target:=.collected D,args:=#[]}
structure ju(ds:List Nat)(n:Nat)(e:Env)(a:Act):Prop where
 defers:a.defers=ds.map mark
 size:a.tmps.size=n
 get:∀i,a.tmps.getD i undef=e i
def ju.eval{ds:List Nat}{n:Nat}{e:Env}{a:Act}(h:ju ds n e a):a.eval=ev e:=by
 funext x
 cases x<;>simp[Act.eval,ev]
 case tmp t=>simpa using h.get t
theorem ju.put{ds:List Nat}{n:Nat}{e:Env}{a:Act}(h:ju ds n e a){d:Option Nat}(hd:∀k,d=some k->k<n)(v:Value) :
  ju ds n (jR e d v) (a.put d v):=by
 cases d with
 | none=>exact h
 | some d=>
  have hd:=hd d rfl
  refine⟨h.defers,by simp[Act.put,h.size],λi=>?_⟩
  have u:=h.get i
  simp only[Act.put,jR,Dm]at *
  by_cases hi:i=d
  .subst hi
   rw[Array.getElem?_setIfInBounds_self_of_lt (by rw[h.size];exact hd),nw]
   rfl
  .rw[Array.getElem?_setIfInBounds_ne (Ne.symm hi),oL _ _ hi]
   exact u
def pr(P:Program){α:Type}:Sem α->Option α
 | .pure a=>some a
 | .program k=>pr P (k P)
 | .mark _ k=>pr P k
 | _=>none
theorem fY{P:Program}{α:Type}{m:Sem α}{v:α}(h:pr P m=some v)(w:World):m.run P w=.ok v w:=by
 induction m with
 | pure a=>simp only[pr,n4.injEq]at h;simp_all
 | program k u=>exact u P h
 | mark x k u=>exact u h
 | _=>simp[pr]at h
theorem fP{P:Program}{α:Type}(a:α):pr P (pure a:Sem α)=some a:=rfl
theorem cT{P:Program}{α β:Type}(m:Sem α)(f:α->Sem β):pr P (m >>= f)=(pr P m).bind λa=>pr P (f a):=by
 show pr P (m.bind f)=_
 induction m with
 | pure a=>rfl
 | program k u=>exact u P
 | mark x k u=>exact u
 | _=>rfl
theorem eJ{P:Program}{α β:Type}{m:Sem α}{f:α->Sem β}{w w':World}{a:α}(h:m.run P w=.ok a w') :
  (m >>= f).run P w=(f a).run P w':=by simp_all
theorem run_pure{P:Program}{α:Type}(a:α)(w:World):(pure a:Sem α).run P w=.ok a w:=rfl
abbrev FO(r:Option Nat):Fence:={Fence.wide with round:=r}
def Es{r:Option Nat}{p:Prop}:(FO r).depth.isSome=true->p:=λh=>by cases h
def zx{r:Option Nat}{n:Nat}{P:Program}{f:FuncId}{args:Array Value}{w:World}{R:Ending->g7}:CallsIn (FO r) n P f args w R↔Calls P f args w R:=
 callsIn_wide (n:=n)
def tc(K:Value->g7):Ending->g7:=λe w=>∃v,e=.returned v/\K v w
def tc.mono{K u:Value->g7}{e:Ending}{w:World}(h:tc K e w)(k:∀v w,K v w->u v w):tc u e w:=
 let ⟨v,E,B⟩:=h;⟨v,E,k _ _ B⟩
def Plain(P : Program)(f : FuncId) : Prop := ∃u, P.funcs[f]?=some u /\ (u.name == "runtime.NumGoroutine")=false /\ u.body.isNone=false
theorem Aq{P:Program}{f:FuncId}(h:Plain P f)(args:Array Value)(w:World) :
  (callFunc f args).run P w=.ok (.enter f args) w:=by
 obtain⟨u,h1,h2,h3⟩:=h
 show(match P.funcs[f]? with|none=>_|some u=>_:Sem Next).run P w=_
 rw[h1]
 simp[h2,h3]
structure eT(P:Program)(m:Sem Value)(K:Value->Prop):Prop where
 ex:∃v,pr P m=some v/\K v
structure KQ(P:Program)(m:Sem Value)(w:World)(K:Value->Prop):Prop where
 ex:∃v,m.run P w=.ok v w/\K v
structure qW(P:Program)(m:Sem Value)(w:World)(K:Value->g7):Prop where
 ex:∃v w',m.run P w=.ok v w'/\K v w'
structure Wu(P:Program)(m:Sem Unit)(w:World)(K:g7):Prop where
 ex:∃w',m.run P w=.ok () w'/\K w'
structure CZ(P:Program)(f:FuncId)(args:List Value)(w:World)(K:Value->g7):Prop where
 ex:(Plain P f/\Calls P f args.toArray w (tc K))\/∃v w',(callFunc f args.toArray).run P w=.ok (.value v) w'/\K v w'
structure kD(P:Program)(fv:Value)(args:List Value)(w:World)(K:Value->g7):Prop where
 ex:(∃g first cap,fv=.func (.func g) first cap/\Plain P g/\Calls P g (first++args.toArray++cap) w (tc K))\/
  ∃l,fv=.func (.yield l) #[] #[]/\YieldAt (FO none) 0 P l args.toArray w (tc K)
structure yR(v:Value)(A B:Prop):Prop where
 ex:∃t,v=.bool t/\(t=true->A)/\(t=false->B)
structure RV(P:Program)(m:Sem Value)(v:Value)(w:World)(R:Prop):Prop where
 ani:m.run P w=.ok v w
 rest:R
inductive Et where
 | val (v:Value)
 | p (m:Sem Value)
 | q (m:Sem Value)
 | e (m:Sem Value)
 | u (m:Sem Unit)
 | call (f:FuncId) (args:List Value)
 | RW (fv:Value) (args:List Value)
 | bad
def Wv:Operand->Bool|.const _=>true|_=>false
def Uo:Value->Sem Value
 | .pointer none|.nilIface|.nilFunc => stuck "nil"
 | .func (.method _) _ _ => stuck "method"
 | x=>pure x
def WT(c a b:Value):Sem Value:=do pure (if <- asBool c then a else b)
def acG(op:BinOp)(t:TypeId)(cx cy:Bool)(a b:Value):Sem Value:=
 match a,b with
 | .nilIface, .nilIface => if cx||cy then binOp op t a b else stuck "two nil interfaces"
 | .agg _, .agg _ => .program λp => if p.eqGuardType p.depth t then stuck "an interface in a part" else binOp op t a b
 | _,_=>binOp op t a b
def jU(op:BinOp)(t:TypeId)(cx cy:Bool)(a b:Value):Sem Value:=
 match op with
 | .eql=>acG .eql t cx cy a b
 | .neq=>acG .neq t cx cy a b
 | op=>binOp op t a b
def acH(P:Program)(op:BinOp)(t:TypeId)(x y:Operand):Bool:=
 match op with
 | .eql|.neq=>match P.underlying t with
  | some (.pointer _)|some .unsafePointer=>!(Wv x||Wv y)
  | _=>false
 | _=>false
def isMap(P:Program)(t:TypeId):Bool:=match P.underlying t with|some (.map _ _)|some (.chan _ _)=>true|_=>false
def anj(P:Program)(s d:TypeId):Nat:=
 match P.underlying d with
 | some (.slice _)=>2
 | some .string=>match P.underlying s with|some (.slice _)=>1|_=>0
 | _=>0
def As(P:Program)(o:Oper)(ρ:Operand->Value):Et:=
 match o.op with
 | .move x|.assign x=>.val (ρ x)
 | .pick c a b=>.p (WT (ρ c) (ρ a) (ρ b))
 | .alloc t=>.e (Qj t true (.tuple #[]))
 | .box t x=>.e (yB t (ρ x))
 | .build t parts=>.p (l1 t (parts.toList.map λq=>(q.1,ρ q.2)).toArray)
 | .buildSlice t n parts=>.e (K9 t n (parts.toList.map λq=>(q.1,ρ q.2)).toArray)
 | .load t a=>.q (x6 t (ρ a))
 | .store t a x=>.u (Ka t (ρ a) (ρ x))
 | .nilCheck x=>.p (Uo (ρ x))
 | .binOp op t x y _=>if acH P op t x y then .q (jU op t (Wv x) (Wv y) (ρ x) (ρ y))else .p (jU op t (Wv x) (Wv y) (ρ x) (ρ y))
 | .unOp op _ x=>.p (Op.unary op (ρ x))
 | .convert s d x=>match anj P s d with|0=>.p (convert s d (ρ x))|1=>.q (convert s d (ρ x))|_=>.e (convert s d (ρ x))
 | .makeInterface t x=>.q (Instr.makeInterface t (ρ x))
 | .makeFunc fn first cap=>.val (.func fn (first.toList.map ρ).toArray (cap.toList.map ρ).toArray)
 | .makeMap t r=>.e (Instr.makeMap t (r.map ρ))
 | .makeSlice t l c=>.e (NZ t (ρ l) (ρ c))
 | .slice t x lo hi B=>.p (nT t (ρ x) (lo.map ρ) (hi.map ρ) (B.map ρ))
 | .fieldAddr s x f=>.p (Fp s (ρ x) f)
 | .field t x f=>.p (Instr.field t (ρ x) f)
 | .indexAddr t x i=>.p (FP t (ρ x) (ρ i))
 | .index t x i=>.p (u3 t (ρ x) (ρ i))
 | .lookup t x i ok=>.q (Instr.lookup t (ρ x) (ρ i) ok)
 | .mapUpdate t m k x|.insert t m k x=>.u (Instr.mapUpdate t (ρ m) (ρ k) (ρ x))
 | .mapEntry t m k=>.e (Instr.mapEntry t (ρ m) (ρ k))
 | .entryStore t m s x=>.u (Instr.entryStore t (ρ m) (ρ s) (ρ x))
 | .range t x=>.e (Instr.range t (ρ x))
 | .next it s=>.e (Instr.next (ρ it) s o.type)
 | .entry it=>.q (Instr.entry (ρ it))
 | .typeAssert x t u ok=>.q (Instr.typeAssert (ρ x) t u ok)
 | .extract t i=>.p (Ti (ρ t) i)
 | .call c=>
  match c.callee with
  | .value (.func f)=>.call f (c.args.toList.map ρ)
  | .value x=>.RW (ρ x) (c.args.toList.map ρ)
  | .invoke ..=>.bad
  | .builtin b=>
   match b with
   | .len=>if isMap P (c.argTypes.getD 0 0)then .q (Builtin.len_ c.argTypes o.type (c.args.toList.map ρ).toArray)else .p (Builtin.len_ c.argTypes o.type (c.args.toList.map ρ).toArray)
   | .cap=>.p (Builtin.cap_ c.argTypes o.type (c.args.toList.map ρ).toArray)
   | .min=>.p (Builtin.min_ c.argTypes o.type (c.args.toList.map ρ).toArray)
   | .max=>.p (Builtin.max_ c.argTypes o.type (c.args.toList.map ρ).toArray)
   | .append=>.e (Builtin.append_ c.argTypes o.type (c.args.toList.map ρ).toArray)
   | .copy=>.e (Builtin.copy_ c.argTypes o.type (c.args.toList.map ρ).toArray)
   | .clear=>.e (Builtin.clear_ c.argTypes o.type (c.args.toList.map ρ).toArray)
   | .delete=>.e (Builtin.delete_ c.argTypes o.type (c.args.toList.map ρ).toArray)
   | _=>.bad
 | _=>.bad
def Hf(P:Program)(k:Et)(K:Value->g7)(w:World):Prop:=
 match k with
 | .val v=>K v w
 | .p m=>eT P m (λv=>K v w)
 | .q m=>KQ P m w (λv=>K v w)
 | .e m=>qW P m w K
 | .u m=>Wu P m w (λw'=>K undef w')
 | .call f args=>CZ P f args w K
 | .RW fv args=>kD P fv args w K
 | .bad=>False
def Et.quiet:Et->Bool
 | .val _|.p _|.q _=>true
 | _=>false
def Et.reads:Et->Bool
 | .q _=>true
 | _=>false
def Et.has(P:Program)(k:Et)(w:World)(v:Value):Prop:=
 match k with
 | .val x=>x=v
 | .p m=>pr P m=some v
 | .q m=>m.run P w=.ok v w
 | _=>False
def Hf.has{P:Program}{k:Et}{K:Value->g7}{w:World}(u:k.quiet=true)(h:Hf P k K w):∃v,k.has P w v/\K v w:=by
 cases k<;>simp only[Et.quiet,Bool.false_eq_true]at u<;>simp only[Hf]at h
 case val v=>exact⟨v,rfl,h⟩
 case p m=>exact h.ex
 case q m=>exact h.ex
def Et.Up{P:Program}{k:Et}{w w':World}{v:Value}(u:k.reads=false)(h:k.has P w v):k.has P w' v:=by
 cases k<;>simp only[Et.has,Et.reads,Bool.true_eq_false]at *
 .exact h
 exact h
def Hf.WU{P:Program}{k:Et}{K:Value->g7}{w:World}{v:Value}(h:k.has P w v)(B:K v w):Hf P k K w:=by
 cases k<;>simp only[Et.has]at h<;>simp only[Hf]
 case val u=>grind
 case p m=>exact⟨v,h,B⟩
 case q m=>exact⟨v,h,B⟩
def Hf.mono{P:Program}{k:Et}{K E:Value->g7}{w:World}(h:Hf P k K w)(B:∀v w,K v w->E v w):Hf P k E w:=by
 cases k<;>simp only[Hf]at *
 case val v=>grind
 case p m=>exact⟨let ⟨v,a,b⟩:=h.ex;⟨v,a,B _ _ b⟩⟩
 case q m=>exact⟨let ⟨v,a,b⟩:=h.ex;⟨v,a,B _ _ b⟩⟩
 case e m=>exact⟨let ⟨v,w',a,b⟩:=h.ex;⟨v,w',a,B _ _ b⟩⟩
 case u m=>exact⟨let ⟨w',a,b⟩:=h.ex;⟨w',a,B _ _ b⟩⟩
 case call f args=>
  rcases h.ex with⟨a,b⟩|⟨v,w',a,b⟩
  .exact⟨.inl ⟨a,b.mono λe w' r=>r.mono B⟩⟩
  .exact⟨.inr ⟨v,w',a,B _ _ b⟩⟩
 case RW fv args=>
  rcases h.ex with⟨g,f,c,a,b,d⟩|⟨l,a,G,t,s,b,c,d⟩
  .exact⟨.inl ⟨g,f,c,a,b,d.mono λe w' r=>r.mono B⟩⟩
  .exact⟨.inr ⟨l,a,G,t,s,b,c,d.mono λe w' r=>r.mono B⟩⟩
def uu{r:Option Nat}{P:Program}{o:Oper}{a:Act}{w:World}:∀f,o.about P w a.eval=some f->(FO r).fn f:=λ_ _=>trivial
def La{r:Option Nat}{P:Program}{o:Oper}{a:Act}{next:Act->g7}{Q:Exit->Act->g7}{f:FuncId}{args:Array Value}{w:World}
  {K:Value->g7}(h:Calls P f args w (tc K)) (B:∀v w',K v w'->next (a.put o.dst v) w'):o.uponIn (FO r) 0 P a next Q (.ok (.enter f args) w):=by
 rw[Oper.uponIn_enter]
 refine⟨Es,zx.2 (h.mono λe w' ⟨v,E,u⟩=>?_)⟩
 grind
def GQ{r:Option Nat}{P:Program}{o:Oper}{a:Act}{next:Act->g7}{Q:Exit->Act->g7}{l:Nat}{f:FuncId}{tmps:Array Value}{assign body:Code}{w:World}
  {K:Value->g7}(h:RoundIn (FO none) 0 P l f tmps assign body w (tc K)) (E:∀v w',K v w'->next (a.put o.dst v) w'):o.uponIn (FO r) 0 P a next Q (.ok (.round l f tmps assign body) w):=by
 rw[Oper.uponIn_round]
 refine⟨Es,?_⟩
 have u:RoundIn (FO r) 0 P l f tmps assign body w (tc K):=h
 refine u.mono λe w' ⟨v,B,G⟩=>?_
 grind
def kF{r:Option Nat}{P:Program}{o:Oper}{a:Act}{next:Act->g7}{Q:Exit->Act->g7}{w w':World}{v:Value}(u:∀c,o.op≠.defer c)
  (h:(execOp a.eval o).run P w=.ok (.value v) w') (B:next (a.put o.dst v) w'):o.wpIn (FO r) 0 P a w next Q:=by
 unfold Oper.wpIn;rw[Oper.semAt_eq _ _ _ u,h,Oper.uponIn_value];exact⟨uu,B⟩
def O5{r:Option Nat}{P:Program}{o:Oper}{a:Act}{next:Act->g7}{Q:Exit->Act->g7}{w w':World}(u:∀c,o.op≠.defer c)
  (h:(execOp a.eval o).run P w=.ok .skip w') (B:next (a.put o.dst undef) w'):o.wpIn (FO r) 0 P a w next Q:=by
 unfold Oper.wpIn;rw[Oper.semAt_eq _ _ _ u,h,Oper.uponIn_skip];exact⟨uu,B⟩
def Lb{P:Program}{m:Sem Value}{w w':World}{v:Value}(h:m.run P w=.ok v w') :
  (do pure (.value (<- m)):Sem Next).run P w=.ok (.value v) w':=by simp_all
def ank{P:Program}{m:Sem Unit}{w w':World}(h:m.run P w=.ok () w') :
  (do m;pure .skip:Sem Next).run P w=.ok .skip w':=by simp_all
theorem DM{α β:Type}(f:α->β)(l:Array α):(l.toList.map f).toArray=l.map f:=by
 grind
def eqG(t:TypeId)(x y:Operand)(a b:Value):Sem Unit:=
 match a,b with
 | .nilIface,.nilIface=>if (Wv x||Wv y)=true then pure ()else do
   if <- Op.eqGuardIn Op.maxDepth t a b then unsupported (.noEntry "binop/eql: two nil values of an interface type with methods, neither of them the literal nil")
 | .agg _,.agg _=>do
  if !(<- program).eqGuardType (<- program).depth t then return
  if <- Op.eqGuardIn Op.maxDepth t a b then unsupported (.noEntry "binop/eql: two nil values of an interface type with methods, in a part of a struct or an array")
 | _,_=>pure ()
def C0{P:Program}{op:BinOp}(B:op=.eql\/op=.neq){t:TypeId}{x y:Operand}{a b:Value}{w w':World}{v:Value}
  (h:(acG op t (Wv x) (Wv y) a b).run P w=.ok v w'):(eqGuard op t x y a b).run P w=.ok () w/\(binOp op t a b).run P w=.ok v w':=by
 have u:eqGuard op t x y a b=eqG t x y a b:=by rcases B with rfl|rfl<;>cases x<;>cases y<;>rfl
 rw[u]
 clear u
 unfold eqG
 unfold acG at h
 split at h
 .split at h
  .simp_all
  simp_all
 .rename_i c1 c2
  have E : (if P.eqGuardType P.depth t then stuck "an interface in a part" else binOp op t (.agg c1) (.agg c2) : Sem Value).run P w=.ok v w' := h
  split at E
  .simp_all
  simp_all
 simp_all
def Lc{P:Program}{op:BinOp}{t:TypeId}{x y:Operand}{a b:Value}{w w':World}{v:Value}
  (h:(jU op t (Wv x) (Wv y) a b).run P w=.ok v w'):(do eqGuard op t x y a b;binOp op t a b:Sem Value).run P w=.ok v w':=by
 unfold jU at h
 split at h
 .obtain⟨h1,h2⟩:=C0 (.inl rfl) h
  simp_all
 .obtain⟨h1,h2⟩:=C0 (.inr rfl) h
  simp_all
 rename_i n1 n2
 have h1:(eqGuard op t x y a b).run P w=.ok () w:=by
  unfold eqGuard
  simp_all
 simp_all
theorem Hf.wp{r:Option Nat}{ds:List Nat}{P:Program}{n:Nat}{o:Oper}{e:Env}{a:Act}{w:World}{K:Value->g7}{Q:Exit->Act->g7}{next:Act->g7}
  (ha:ju ds n e a) (h:Hf P (As P o (ev e)) K w) (G:∀v w',K v w'->next (a.put o.dst v) w'):o.wpIn (FO r) 0 P a w next Q:=by
 have B:=ha.eval
 have I:∀c,o.op≠.defer c:=λc hc=>by unfold As at h;rw[hc]at h;exact h
 have V:∀{m:Sem Value},eT P m (λv=>K v w)->execOp (ev e) o=(do pure (.value (<- m)):Sem Next)->o.wpIn (FO r) 0 P a w next Q:=λO J=>by
  obtain⟨v,h1,h2⟩:=O.ex
  exact kF (w':=w) I (by rw[B,J];exact Lb (fY h1 w)) (G _ _ h2)
 have Y:∀{m:Sem Value},KQ P m w (λv=>K v w)->execOp (ev e) o=(do pure (.value (<- m)):Sem Next)->o.wpIn (FO r) 0 P a w next Q:=λO J=>by
  obtain⟨v,h1,h2⟩:=O.ex
  exact kF (w':=w) I (by rw[B,J];exact Lb h1) (G _ _ h2)
 have E:∀{m:Sem Value},qW P m w K->execOp (ev e) o=(do pure (.value (<- m)):Sem Next)->o.wpIn (FO r) 0 P a w next Q:=λO J=>by
  obtain⟨v,w',h1,h2⟩:=O.ex
  exact kF I (by rw[B,J];exact Lb h1) (G _ _ h2)
 have U:∀{m:Sem Unit},Wu P m w (λw'=>K undef w')->execOp (ev e) o=(do m;pure .skip:Sem Next)->o.wpIn (FO r) 0 P a w next Q:=λO J=>by
  obtain⟨w',h1,h2⟩:=O.ex
  exact O5 I (by rw[B,J];exact ank h1) (G _ _ h2)
 unfold As at h
 cases kf:o.op with
 | move x=>rw[kf]at h;exact kF (w':=w) I (by rw[B];simp only[execOp,kf];rfl) (G _ _ h)
 | assign x=>rw[kf]at h;exact kF (w':=w) I (by rw[B];simp only[execOp,kf];rfl) (G _ _ h)
 | pick c x y=>
  rw[kf]at h
  obtain⟨v,h1,h2⟩:=h.ex
  refine kF (w':=w) I ?_ (G _ _ h2)
  rw[B];simp only[execOp,kf]
  have:=fY h1 w
  unfold WT at this
  revert this
  cases ev e c<;>simp only[asBool]<;>intro this<;>first|(simp only[stuck]at this;exact absurd this (by simp[Sem.run]))|skip
  case bool t=>
   have e2:v=(if t=true then ev e x else ev e y):=by
    have:(Result.ok (if t=true then ev e x else ev e y) w:Result Value)=.ok v w:=this
    simpa using this.symm
   rw[e2];rfl
 | alloc t=>rw[kf]at h;exact E h (by simp only[execOp,kf])
 | box t x=>rw[kf]at h;exact E h (by simp only[execOp,kf])
 | build t ps=>rw[kf]at h;exact V h (by simp only[execOp,kf,DM])
 | buildSlice t n ps=>rw[kf]at h;exact E h (by simp only[execOp,kf,DM])
 | insert t m k x=>rw[kf]at h;exact U h (by simp only[execOp,kf])
 | load t x=>rw[kf]at h;exact Y h (by simp only[execOp,kf])
 | store t x y=>rw[kf]at h;exact U h (by simp only[execOp,kf])
 | nilCheck x=>
  rw[kf]at h
  obtain⟨v,h1,h2⟩:=h.ex
  refine kF (w':=w) I ?_ (G _ _ h2)
  rw[B];simp only[execOp,kf]
  revert h1
  cases J:ev e x with
  | pointer p=>cases p<;>simp[Uo,stuck,pr,fP]<;>(try(rintro rfl;rfl))
  | func fn f c=>cases fn<;>simp[Uo,stuck,pr,fP]<;>(try(rintro rfl;rfl))
  | _=>simp[Uo,stuck,pr,fP]<;>(try(rintro rfl;rfl))
 | binOp op t x y u=>
  rw[kf]at h
  dsimp only at h
  split at h
  .obtain⟨v,h1,h2⟩:=h.ex
   exact kF (w':=w) I (by rw[B];simp only[execOp,kf];exact Lb (Lc h1)) (G _ _ h2)
  .obtain⟨v,h1,h2⟩:=h.ex
   exact kF (w':=w) I (by rw[B];simp only[execOp,kf];exact Lb (Lc (fY h1 w))) (G _ _ h2)
 | unOp op t x=>rw[kf]at h;exact V h (by simp only[execOp,kf])
 | convert s d x=>
  rw[kf]at h
  dsimp only at h
  split at h
  .exact V h (by simp only[execOp,kf])
  .exact Y h (by simp only[execOp,kf])
  .exact E h (by simp only[execOp,kf])
 | makeInterface t x=>rw[kf]at h;exact Y h (by simp only[execOp,kf])
 | makeFunc fn f c=>rw[kf]at h;exact kF (w':=w) I (by rw[B];simp only[execOp,kf,<- DM];rfl) (G _ _ h)
 | makeMap t r=>rw[kf]at h;exact E h (by simp only[execOp,kf])
 | makeSlice t l c=>rw[kf]at h;exact E h (by simp only[execOp,kf])
 | slice t x lo hi mx=>rw[kf]at h;exact V h (by simp only[execOp,kf])
 | fieldAddr s x f=>rw[kf]at h;exact V h (by simp only[execOp,kf])
 | field t x f=>rw[kf]at h;exact V h (by simp only[execOp,kf])
 | indexAddr t x i=>rw[kf]at h;exact V h (by simp only[execOp,kf])
 | index t x i=>rw[kf]at h;exact V h (by simp only[execOp,kf])
 | lookup t x i ok=>rw[kf]at h;exact Y h (by simp only[execOp,kf])
 | mapUpdate t m k x=>rw[kf]at h;exact U h (by simp only[execOp,kf])
 | mapEntry t m k=>rw[kf]at h;exact E h (by simp only[execOp,kf])
 | entryStore t m s x=>rw[kf]at h;exact U h (by simp only[execOp,kf])
 | range t x=>rw[kf]at h;exact E h (by simp only[execOp,kf])
 | next it s=>rw[kf]at h;exact E h (by simp only[execOp,kf])
 | entry it=>rw[kf]at h;exact Y h (by simp only[execOp,kf])
 | typeAssert x t u ok=>rw[kf]at h;exact Y h (by simp only[execOp,kf])
 | extract t i=>rw[kf]at h;exact V h (by simp only[execOp,kf])
 | call c=>
  rw[kf]at h
  dsimp only at h
  have M:(c.args.toList.map (ev e)).toArray=c.args.map (ev e):=DM _ _
  cases hc:c.callee with
  | value x=>
   rw[hc]at h
   have W:∀{g:FuncId}{first cap:Array Value},ev e x=.func (.func g) first cap->Plain P g->Calls P g (first++(c.args.toList.map (ev e)).toArray++cap) w (tc K)->o.wpIn (FO r) 0 P a w next Q:=by
    intro g first cap J O jZ
    unfold Oper.wpIn
    rw[Oper.semAt_eq _ _ _ I]
    have hr:(execOp a.eval o).run P w=.ok (.enter g (first++(c.args.toList.map (ev e)).toArray++cap)) w:=by
     rw[B]
     simp only[execOp,kf]
     have h1:(resolve (ev e) c o.type).run P w=.ok {target:=.fn (.func g) cap,args:=first++c.args.map (ev e)} w:=by
      simp only[resolve,hc,J];rfl
     rw[eJ h1]
     show(callFunc g (first++c.args.map (ev e)++cap)).run P w=_
     rw[Aq O,M]
    rw[hr]
    exact⟨uu,La jZ λv w' hv=>G v w' hv⟩
   have hyl:∀{l:Nat},ev e x=.func (.yield l) #[] #[]->YieldAt (FO none) 0 P l (c.args.toList.map (ev e)).toArray w (tc K)->o.wpIn (FO r) 0 P a w next Q:=by
    rintro l J ⟨fn,tmps,assign,body,hy,hr⟩
    unfold Oper.wpIn
    rw[Oper.semAt_eq _ _ _ I]
    have hr':(execOp a.eval o).run P w=.ok (.round l fn tmps assign body) w:=by
     rw[B]
     simp only[execOp,kf]
     have h1:(resolve (ev e) c o.type).run P w=.ok {target:=.fn (.yield l) #[],args:=#[]++c.args.map (ev e)} w:=by
      simp only[resolve,hc,J];rfl
     rw[eJ h1]
     show(Instr.yield l (#[]++c.args.map (ev e))).run P w=_
     rw[WO,<- M];exact hy
    rw[hr']
    exact⟨uu,GQ hr λv w' hv=>G v w' hv⟩
   have Z:kD P (ev e x) (c.args.toList.map (ev e)) w K->o.wpIn (FO r) 0 P a w next Q:=λh=>by
    rcases h.ex with⟨g,first,cap,h1,h2,h3⟩|⟨l,h1,h2⟩
    .exact W h1 h2 h3
    .exact hyl h1 h2
   cases x with
   | func f=>
    rcases h.ex with⟨h1,h2⟩|⟨v,w',h1,h2⟩
    .exact W (g:=f) (first:=#[]) (cap:=#[]) rfl h1 (by simpa using h2)
    .refine kF I ?_ (G _ _ h2)
     rw[B]
     simp only[execOp,kf]
     have h3:(resolve (ev e) c o.type).run P w=.ok {target:=.fn (.func f) #[],args:=#[]++c.args.map (ev e)} w:=by
      simp only[resolve,hc,ev];rfl
     rw[eJ h3]
     show(callFunc f (#[]++c.args.map (ev e)++#[])).run P w=_
     rw[<- M,WO,Array.append_empty]
     exact h1
   | tmp t=>exact Z h
   | const v=>exact Z h
   | global g=>exact Z h
  | invoke r nm=>rw[hc]at h;exact h.elim
  | builtin b=>
   rw[hc]at h
   dsimp only at h
   have hb:∀{m:Sem Value},builtin b c.argTypes o.type (c.args.map fun|.const _=>true|_=>false) (c.args.map (ev e))=(do pure (.value (<- m)):Sem Next)->
     execOp (ev e) o=(do pure (.value (<- m)):Sem Next):=by
    intro m hm
    simp only[execOp,kf]
    have h1:resolve (ev e) c o.type=pure {target:=.builtin b c.argTypes o.type (c.args.map fun|.const _=>true|_=>false),args:=c.args.map (ev e)}:=by
     simp only[resolve,hc];rfl
    rw[h1]
    exact hm
   rw[M]at h
   cases b<;>first|exact h.elim|skip
   case len=>
    dsimp only at h
    split at h
    .exact Y h (hb rfl)
    .exact V h (hb rfl)
   case cap=>exact V h (hb rfl)
   case min=>exact V h (hb rfl)
   case max=>exact V h (hb rfl)
   case append=>exact E h (hb rfl)
   case copy=>exact E h (hb rfl)
   case clear=>exact E h (hb rfl)
   case delete=>exact E h (hb rfl)
 | _=>rw[kf]at h;exact h.elim
def pre(o:Oper):List Nat:=(o.after.toList.filter λe=>Region.binds .any e).map (·.on)
def B8(u:List Oper)(j:Nat):Option Nat:=(u[j]?).bind (·.dst)
def looks(u:List Oper)(o:Oper):List Nat:=
 (o.op.operands.toList.filterMap fun|.tmp t=>some t|_=>none)++(match o.guard with|some (j,_)=>(B8 u j).toList|none=>[])
def oM(u:List Oper)(o:Oper)(e:Env):Bool:=
 match o.guard with
 | none=>true
 | some (j,b)=>match B8 u j with
  | none=>false
  | some s=>match e s with
   | .bool B=>B == b
   | _=>false
theorem Hg{ds:List Nat}{n:Nat}{e:Env}{a:Act}(h:ju ds n e a)(u:List Oper)(o:Oper):Region.wanted o (yielded u.toArray a.tmps)=oM u o e:=by
 unfold Region.wanted oM
 cases o.guard with
 | none=>rfl
 | some g=>
  obtain⟨j,b⟩:=g
  simp only[yielded,B8,P5]
  cases (u[j]?).bind (·.dst)with
  | none=>simp
  | some s=>
   have B:=h.get s
   simp only[ma]
   rw[<- B,Dm]
   cases a.tmps[s]? with
   | none=>simp[undef]
   | some v=>grind
theorem Uq{P:Program}{o:Oper}{ρ ρ':Operand->Value}(h:∀x∈o.op.operands,ρ x=ρ' x):As P o ρ=As P o ρ':=by
 unfold As
 cases kf:o.op<;>rw[kf]at h<;>simp only[Op.operands]at h<;>dsimp only
 case call c=>
  have I:∀x∈c.args,ρ x=ρ' x:=λx B=>h x (by simp[Call.operands,B])
  have E:c.args.toList.map ρ=c.args.toList.map ρ':=Af λx B=>I x cJ
  rw[E]
  cases hc:c.callee with
  | value x=>
   have B:ρ x=ρ' x:=h x (by simp[Call.operands,hc])
   grind
  | _=>rfl
 case build t ps=>
  have E:(ps.toList.map λq=>(q.1,ρ q.2))=ps.toList.map λq=>(q.1,ρ' q.2):=
   Af λq G=>cJ
  grind
 case buildSlice t n ps=>
  have E:(ps.toList.map λq=>(q.1,ρ q.2))=ps.toList.map λq=>(q.1,ρ' q.2):=
   Af λq G=>cJ
  grind
 case makeFunc fn f c=>
  simp_all
 case makeMap t r=>
  have:r.map ρ=r.map ρ':=by cases r with|none=>rfl|some x=>grind
  grind
 case slice t x lo hi mx=>
  have J:ρ x=ρ' x:=h x ee
  have h1:lo.map ρ=lo.map ρ':=by cases lo with|none=>rfl|some y=>grind
  have h2:hi.map ρ=hi.map ρ':=by cases hi with|none=>rfl|some y=>grind
  have h3:mx.map ρ=mx.map ρ':=by cases mx with|none=>rfl|some y=>grind
  grind
 case load t x=>grind
 case store t x y=>grind
 case pick c x y=>grind
 case binOp op t x y u=>grind
 case insert t m k x=>grind
 case mapUpdate t m k x=>grind
 case entryStore t m k x=>grind
 case mapEntry t m k=>grind
 case lookup t m k ok=>grind
 case indexAddr t m k=>grind
 case index t m k=>grind
 case makeSlice t m k=>grind
 all_goals grind
def ain{e:Env}{d:Nat}{v:Value}{x:Operand}(h:x≠.tmp d):ev (Am e d v) x=ev e x:=by
 cases x<;>simp only[ev]
 case tmp t=>exact oL _ _ λu=>h (by rw[u])
theorem DN{P:Program}{B:List Oper}{o:Oper}{e:Env}{d:Option Nat}{v:Value}(h:∀k,d=some k->k ∉ looks B o) :
  As P o (ev (jR e d v))=As P o (ev e):=by
 cases d with
 | none=>rfl
 | some d=>
  refine Uq λx E=>ain λu=>h d rfl ?_
  subst u
  exact List.mem_append_left _ (QG.2 ⟨.tmp d,cJ,rfl⟩)
theorem yc{u:List Oper}{o:Oper}{e:Env}{d:Option Nat}{v:Value}(h:∀k,d=some k->k ∉ looks u o) :
  oM u o (jR e d v)=oM u o e:=by
 cases d with
 | none=>rfl
 | some d=>
  have h:=h d rfl
  unfold oM
  unfold looks at h
  cases hg:o.guard with
  | none=>rfl
  | some g=>
   obtain⟨j,b⟩:=g
   rw[hg]at h
   dsimp only at h |-
   cases hs:B8 u j with
   | none=>rfl
   | some s=>
    rw[hs]at h
    have:s≠d:=λB=>h (by simp[B])
    simp only[jR,oL _ _ this]
def WV(u:List Oper)(x y:Oper):Prop:=
 (∀d,x.dst=some d->d ∉ looks u y/\y.dst≠some d)/\(∀d,y.dst=some d->d ∉ looks u x)
theorem Ur{e:Env}{d u:Option Nat}{v B:Value}(h:∀k,d=some k->u≠some k):jR (jR e d v) u B=jR (jR e u B) d v:=by
 cases d with
 | none=>rfl
 | some d=>cases u with
  | none=>rfl
  | some u=>exact WR _ _ _ λE=>h d rfl (by rw[E])
def DO(P:Program)(u:List Oper)(o:Oper)(K:Env->g7)(e:Env)(w:World):Prop:=
 if oM u o e=true then Hf P (As P o (ev e)) (λv w'=>K (jR e o.dst v) w') w else K (jR e o.dst undef) w
def DO.mono{P:Program}{u:List Oper}{o:Oper}{K B:Env->g7}{e:Env}{w:World}(h:DO P u o K e w)
  (E:∀v w',K (jR e o.dst v) w'->B (jR e o.dst v) w'):DO P u o B e w:=by
 unfold DO at *
 split
 .rename_i hw;rw[ej hw]at h;exact h.mono λv w'=>E v w'
 grind
def O6(u:List Oper)(L:Nat->Bool)(i:Nat):Prop:=L i=false/\∃o,u[i]?=some o/\∀p∈pre o,L p=true
def me(L:Nat->Bool)(i:Nat):Nat->Bool:=λk=>if k=i then true else L k
def Down(u:List Oper)(L:Nat->Bool):Prop:=∀i o,L i=true->u[i]?=some o->∀p∈pre o,L p=true
def Us(L:Nat->Bool)(i:Nat):me L i i=true:=by simp[me]
theorem RX(L:Nat->Bool){i k:Nat}(h:k≠i):me L i k=L k:=by simp[me,h]
def I0(L:Nat->Bool)(i:Nat){k:Nat}(h:L k=true):me L i k=true:=by unfold me;grind
theorem Ut(L:Nat->Bool)(i j:Nat):me (me L i) j=me (me L j) i:=by
 grind[me]
def Down.set{u:List Oper}{L:Nat->Bool}{i:Nat}(h:Down u L)(J:O6 u L i):Down u (me L i):=by
 intro k o B E p I
 by_cases e:k=i
 .subst e
  obtain⟨_,O,G,M⟩:=J
  grind[me]
 rw[RX _ e]at B
 exact I0 _ _ (h k o B E p I)
def O6.set{u:List Oper}{L:Nat->Bool}{i j:Nat}(h:O6 u L j)(E:j≠i):O6 u (me L i) j:=
 ⟨by rw[RX _ E];exact h.1,let ⟨o,G,B⟩:=h.2;⟨o,G,λp I=>I0 _ _ (B p I)⟩⟩
inductive O7(ops:List Oper):Nat->Nat->Prop
 | one {j i:Nat}{o:Oper}(h:ops[j]?=some o) (hp:i∈pre o):O7 ops j i
 | more {j p i:Nat}{o:Oper}(h:ops[j]?=some o) (hp:p∈pre o) (hd:O7 ops p i):O7 ops j i
theorem O7.listed{u:List Oper}{L:Nat->Bool}(I:Down u L){j i:Nat}(h:O7 u j i):(∀o,u[j]?=some o->∀p∈pre o,L p=true)->L i=true:=by
 induction h with
 | one h B=>grind
 | more h B hd M=>intro E;exact M λo J q G=>I _ o (E _ h _ B) J q G
def O7.GR{u:List Oper}{L:Nat->Bool}(B:Down u L){j i:Nat}(h:O7 u j i)(G:O6 u L j):L i=true:=
 h.listed B λo M p O=>by obtain⟨_,I,E,J⟩:=G;grind
def WS(P:Program)(u:List Oper)(Q:Env->g7)(S:Nat->g7):Nat->(Nat->Bool)->Env->g7
 | 0,L,e,w=>(∀i,¬ O6 u L i)/\Q e w
 | f+1,L,e,w=>((∀i,¬ O6 u L i)->Q e w)/\
   ∀i o,u[i]?=some o->O6 u L i->DO P u o (λB w'=>(w'=w\/S i w')/\WS P u Q S f (me L i) B w') e w
theorem WS.weaken{P:Program}{u:List Oper}{Q:Env->g7}{S E:Nat->g7}(h:∀i w,S i w->E i w) :
  ∀(f:Nat) (_L:Nat->Bool) (_e:Env) (_w:World),WS P u Q S f _L _e _w->WS P u Q E f _L _e _w
 | 0,_,_,_,B=>B
 | f+1,L,e,w,B=>⟨B.1,λi o G I=>(B.2 i o G I).mono λ_ _ ⟨h1,h2⟩=>⟨h1.imp id (h _ _),WS.weaken h f _ _ _ h2⟩⟩
theorem WS.first{P:Program}{B:List Oper}{Q:Env->g7}{S:Nat->g7}{i:Nat}{G:Oper}{X:Et}{b:Bool}{v:Value}
  (hi:B[i]?=some G) (hn:b=false->v=undef) :
  ∀(f:Nat) (L:Nat->Bool) (e:Env) (w:World),Down B L->O6 B L i->
   (∀j E,B[j]?=some E->j≠i->L j=false->i ∉ pre E->WV B G E)->
   As P G (ev e)=X->oM B G e=b->(b=true->X.has P w v)->
   WS P B Q (λj w'=>S j w'/\(O7 B j i\/(b=true->X.has P w' v))) f (me L i) (jR e G.dst v) w->WS P B Q S (f+1) L e w:=by
 have done:∀(K:Env->g7) (e:Env) (w:World),As P G (ev e)=X->oM B G e=b->(b=true->X.has P w v)->K (jR e G.dst v) w->DO P B G K e w:=by
  intro K e w hX hb hy J
  unfold DO
  rw[hb]
  cases b with
  | true=>rw[ej rfl,hX];exact Hf.WU (hy rfl) J
  | false=>grind
 have sub:∀{f:Nat}{L:Nat->Bool}{e:Env}{w:World},WS P B Q (λj w'=>S j w'/\(O7 B j i\/(b=true->X.has P w' v))) f L e w->WS P B Q S f L e w:=
  λh=>WS.weaken (λ_ _ h=>h.1) _ _ _ _ h
 intro f
 induction f with
 | zero=>
  intro L e w hL U RY hX hb hy H
  refine⟨λh=>absurd U (h i),λj E RZ M=>?_⟩
  by_cases I:j=i
  .grind
  .exact absurd (M.set I) (H.1 j)
 | succ f ih=>
  intro L e w hL U RY hX hb hy H
  refine⟨λh=>absurd U (h i),λj E RZ M=>?_⟩
  by_cases I:j=i
  .grind
  .have eE:i ∉ pre E:=λhp=>by
    obtain⟨_,V,W,wC⟩:=M.2.elim λV h=>(⟨trivial,V,h.1,h.2⟩:True/\∃V,B[j]?=some V/\∀p∈pre V,L p=true)
    rw[RZ]at W;cases W
    have:=wC i hp
    rw[U.1]at this;cases this
   have O:=RY j E RZ I M.1 eE
   have anl:¬ O7 B j i:=λhd=>by
    have:=hd.GR hL M
    rw[U.1]at this;cases this
   have h1:=H.2 j E RZ (M.set I)
   have Y:∀k,G.dst=some k->k ∉ looks B E:=λk J=>(O.1 k J).1
   have Z:∀k,E.dst=some k->k ∉ looks B G:=λk J=>O.2 k J
   have dd:∀k,G.dst=some k->E.dst≠some k:=λk J=>(O.1 k J).2
   have cont:∀(u:Value) (w':World),(w'=w\/(S j w'/\(O7 B j i\/(b=true->X.has P w' v))))->
     WS P B Q (λj w'=>S j w'/\(O7 B j i\/(b=true->X.has P w' v))) f (me (me L i) j) (jR (jR e G.dst v) E.dst u) w'->
     (w'=w\/S j w')/\WS P B Q S (f+1) (me L j) (jR e E.dst u) w':=by
    intro u w' hw hWS
    refine⟨hw.imp id λh=>h.1,?_⟩
    refine ih (me L j) (jR e E.dst u) w' (hL.set M) (U.set (Ne.symm I)) ?_ ?_ ?_ ?_ ?_
    .grind[me,pre,WV]
    .rw[DN Z];exact hX
    .rw[yc Z];exact hb
    .grind
    .rw[Ut,Ur λk J=>cJ]
     exact hWS
   unfold DO at h1 |-
   rw[yc Y]at h1
   split
   .rename_i hw
    rw[ej hw,DN Y]at h1
    exact h1.mono λu w' hh=>cont u w' hh.1 hh.2
   grind
def wr(u:List Oper):List Nat:=u.filterMap (·.dst)
def WW{u:List Oper}{i:Nat}{o:Oper}{d:Nat}(h:u[i]?=some o)(hd:o.dst=some d):d∈wr u:=
 QG.2 ⟨o,List.mem_of_getElem? h,hd⟩
theorem zy{e e0:Env}{u:List Oper}{i:Nat}{o:Oper}(h:∀k,k ∉ wr u->e k=e0 k)(G:u[i]?=some o)(v:Value) :
  ∀k,k ∉ wr u->jR e o.dst v k=e0 k:=by
 intro k B
 cases hd:o.dst with
 | none=>exact h k B
 | some d=>
  have:k≠d:=λE=>B (by rw[E];exact WW G hd)
  simp only[jR,oL _ _ this]
  grind
def DO.wpOp{r:Option Nat}{ds:List Nat}{P:Program}{n:Nat}{u:List Oper}{i:Nat}{o:Oper}{K:Env->g7}{E:Act->g7}{J:Exit->Act->g7}{e:Env}{a:Act}{w:World}
  (M:u[i]?=some o) (hd:∀k,o.dst=some k->k<n) (B:ju ds n e a) (h:DO P u o K e w)
  (G:∀v I w',ju ds n (jR e o.dst v) I->K (jR e o.dst v) w'->E I w'):wpOpIn (FO r) 0 P u.toArray J i E a w:=by
 unfold Go.wpOpIn
 simp only[P5,M]
 rw[Hg B]
 unfold DO at h
 split
 .rename_i hw
  rw[ej hw]at h
  exact Hf.wp B h λv w' O=>G v _ _ (B.put hd v) O
 rename_i hw
 rw[ei hw]at h
 exact⟨uu,G undef _ _ (B.put hd undef) h⟩
theorem WS.any{r:Option Nat}{ds:List Nat}{P:Program}{n:Nat}{u:List Oper}{Q:Env->g7}{V:Exit->Act->g7}{S:Nat->g7}{e0:Env}
  (hd:∀d∈wr u,d<n) (Y:∀e a w,ju ds n e a->(∀k,k ∉ wr u->e k=e0 k)->Q e w->V .normal a w) :
  ∀(f:Nat) (L:Nat->Bool) (listed:Array Bool) (e:Env) (a:Act) (w:World),ju ds n e a->(∀k,k ∉ wr u->e k=e0 k)->listed.size=u.length->
   (∀i,listed.getD i false=L i)->WS P u Q S f L e w->wpAnyIn (FO r) 0 P .any u.toArray V f listed a w:=by
 have B:∀(L:Nat->Bool) (listed:Array Bool) (_:listed.size=u.length) (_:∀i,listed.getD i false=L i) (i:Nat),
   i∈Region.ready .any u.toArray listed↔O6 u L i:=by
  intro L listed I E i
  rw[mem_ready]
  have W:∀o,u[i]?=some o->listed.getD i true=L i:=λo G=>by
   grind
  unfold O6 pre
  grind
 intro f
 induction f with
 | zero=>
  intro L listed e a w J M I E h
  refine⟨?_,Y e a w J M h.2⟩
  cases U:Region.ready .any u.toArray listed with
  | nil=>rfl
  | cons i r=>exact absurd ((B L listed I E i).1 cJ) (h.1 i)
 | succ f ih=>
  intro L listed e a w J M I E h
  refine⟨λhn=>Y e a w J M (h.1 λi hi=>?_),λi hi=>?_⟩
  .have:=(B L listed I E i).2 hi
   grind
  .have U:=(B L listed I E i).1 hi
   obtain⟨o,G,_⟩:=U.2
   refine DO.wpOp G (λk Z=>hd k (WW G Z)) J (h.2 i o G U) λv a' w' I1 hh=>?_
   refine ih (me L i) _ _ a' w' I1 (zy M G v) cJ (λk=>?_) hh.2
   have nM:i<listed.size:=cJ
   have O:=E k
   simp only[Dm]at O |-
   grind[me]
def WS.region{r:Option Nat}{ds:List Nat}{P:Program}{n:Nat}{id:Nat}{u:List Oper}{Q:Env->g7}{E:Exit->Act->g7}{S:Nat->g7}{e:Env}{a:Act}{w:World}
  (G:P.follows .mixedOrders=true) (hd:∀d∈wr u,d<n) (J:ju ds n e a)
  (I:∀B a w,ju ds n B a->(∀k,k ∉ wr u->B k=e k)->Q B w->E .normal a w)
  (h:WS P u Q S u.length (λ_=>false) e {w with drawn:=w.drawn+1}):(abw id u.toArray true).wpIn (FO r) 0 P E a w:=by
 refine wpIn_region_any G ?_
 rw[MR]
 refine WS.any hd I u.length (λ_=>false) _ e a _ J (λ_ _=>rfl) ee (λi=>?_) h
 simp only[Dm,Array.getElem?_replicate]
 grind
def lk(s:Nat):List (Nat×Option Bool)->Option (Option Bool)
 | []=>none
 | q::r=>bif Ce q.1 s then some q.2 else lk s r
def I2(d:Nat):List (Nat×Option Bool)->List (Nat×Option Bool)
 | []=>[]
 | q::r=>bif Ce q.1 d then I2 d r else q::I2 d r
def del(d:Option Nat)(u:List (Nat×Option Bool)):List (Nat×Option Bool):=match d with|none=>u|some d=>I2 d u
def DP(u:List (Nat×Option Bool)):Operand->Option Bool
 | .const (.bool b)=>some b
 | .tmp t=>match lk t u with|some b=>b|none=>none
 | _=>none
def agf(u:List (Nat×Option Bool)):Op->Option Operand
 | .move x=>some x
 | .assign x=>some x
 | .pick (.tmp c) a b=>match lk c u with|some (some t)=>some (bif t then a else b)|_=>none
 | _=>none
def WX(u:List (Nat×Option Bool))(d:Option Nat)(x:Operand):List (Nat×Option Bool):=
 match d,DP u x with
 | some d,some b=>(d,some b)::I2 d u
 | d,_=>del d u
def ofK:Option Bool->Value|some b=>.bool b|none=>undef
def ky(u:List (Nat×Option Bool))(e:Env):Prop:=∀s b,lk s u=some b->e s=ofK b
theorem Eu(n:Nat):Ce n n=true:=Nat.beq_refl n
theorem B9{a b:Nat}(h:a≠b):Ce a b=false:=by
 cases hh:Ce a b
 .rfl
 simp_all
theorem acL(s d:Nat)(u:List (Nat×Option Bool)):lk s (I2 d u)=if s=d then none else lk s u:=by
 induction u with
 | nil=>simp[I2,lk]
 | cons q r B=>
  simp only[I2,lk]
  by_cases h1:q.1=d
  .rw[h1,Eu,cond_true,B]
   by_cases h2:s=d
   .simp[h2]
   .rw[ei h2,ei h2,B9 (λE=>h2 E.symm),cond_false]
  .rw[B9 h1,cond_false]
   simp only[lk,B]
   by_cases h2:q.1=s
   .grind
   .rw[B9 h2,cond_false,cond_false]
def ky.nil(e:Env):ky [] e:=λs b h=>by simp[lk]at h
theorem ky.del{E:List (Nat×Option Bool)}{e:Env}(h:ky E e)(d:Option Nat)(v:Value):ky (del d E) (jR e d v):=by
 cases d with
 | none=>exact h
 | some d=>
  intro s b B
  simp only[Fw.del,acL]at B
  by_cases u:s=d
  .simp[u]at B
  .rw[ei u]at B
   simp only[jR,oL _ _ u]
   exact h s b B
def ky.cons{B:List (Nat×Option Bool)}{e:Env}(h:ky B e){s:Nat}{b:Option Bool}(E:e s=ofK b):ky ((s,b)::B) e:=by
 intro s' G u
 simp only[lk]at u
 by_cases h1:s=s'
 .subst h1;rw[Eu,cond_true]at u;cases u;exact E
 rw[B9 h1,cond_false]at u;exact h _ _ u
theorem ky.known{E:List (Nat×Option Bool)}{e:Env}(h:ky E e){x:Operand}{b:Bool}(B:DP E x=some b):ev e x=.bool b:=by
 cases x with
 | tmp t=>
  have u:(match lk t E with|some b=>b|none=>none)=some b:=B
  split at u
  .rename_i b' hb;subst u;exact h t _ hb
  grind
 | const v=>cases v<;>simp[DP]at B;simp[ev,B]
 | _=>simp[DP]at B
def ky.aft{u:List (Nat×Option Bool)}{e:Env}(h:ky u e)(d:Option Nat)(x:Operand):ky (WX u d x) (jR e d (ev e x)):=by
 unfold WX
 split
 .rename_i d b hb
  have h1:=h.del (some d) (ev e x)
  exact ky.cons (b:=some b) h1 (by simp only[jR,nw];exact h.known hb)
 exact h.del _ _
def uw(P:Program)(u:List Oper)(r:Oper)(e:Env)(w:World)(R:Prop):Prop:=
 bif oM u r e then(match As P r (ev e),r.dst with|.q m,some d=>RV P m (e d) w R|_,_=>False)else R
def Av(P:Program)(u:List Oper):List Oper->Env->World->Prop->Prop
 | [],_,_,R=>R
 | r::ks,e,w,R=>uw P u r e w (Av P u ks e w R)
theorem Ld{P:Program}{u:List Oper}{ks:List Oper}{e:Env}{w:World}{R:Prop}:Av P u ks e w R->(∀r∈ks,uw P u r e w True)/\R:=by
 induction ks with
 | nil=>intro h;exact⟨ee,h⟩
 | cons r ks B=>
  intro h
  have:uw P u r e w True/\Av P u ks e w R:=by
   simp only[Av,uw]at h |-
   cases hw:oM u r e with
   | false=>grind
   | true=>
    rw[hw]at h
    simp only[cond_true]at h |-
    cases hk:As P r (ev e)<;>rw[hk]at h<;>cases hd:r.dst<;>rw[hd]at h<;>first|grind|skip
    exact⟨⟨h.ani,trivial⟩,h.rest⟩
  grind
def Ev(n:Nat)(o:Oper):Bool:=match o.dst with|none=>true|some d=>aaB d n
def goF(P:Program)(B:List Oper)(o:Oper)(ks:List Oper)(rec:List (Nat×Option Bool)->Env->g7)(u:List (Nat×Option Bool))(e:Env)(w:World):Prop:=
 match agf u o.op with
 | some x=>rec (WX u o.dst x) (jR e o.dst (ev e x)) w
 | none=>Hf P (As P o (ev e)) (λv w'=>Av P B ks (jR e o.dst v) w' (rec (del o.dst u) (jR e o.dst v) w')) w
def skF(o:Oper)(rec:List (Nat×Option Bool)->Env->g7)(u:List (Nat×Option Bool))(e:Env)(w:World):Prop:=
 rec (match o.dst with|some d=>(d,none)::I2 d u|none=>u) (jR e o.dst undef) w
theorem ky.skip{u:List (Nat×Option Bool)}{e:Env}(h:ky u e)(d:Option Nat) :
  ky (match d with|some d=>(d,none)::I2 d u|none=>u) (jR e d undef):=by
 cases d with
 | none=>exact h
 | some d=>exact ky.cons (b:=none) (h.del (some d) undef) (by simp only[jR,nw];rfl)
def DS(P:Program)(n:Nat)(u:List Oper)(q:Oper×List Oper)(rec:List (Nat×Option Bool)->Env->g7)(B:List (Nat×Option Bool))(e:Env)(w:World):Prop:=
  bif Ev n q.1 then
   match q.1.guard with
   | none=>goF P u q.1 q.2 rec B e w
   | some g=>match B8 u g.1 with
    | none=>False
    | some s=>match lk s B with
     | some none=>skF q.1 rec B e w
     | some (some E)=>bif E == g.2 then goF P u q.1 q.2 rec B e w else skF q.1 rec B e w
     | none=>yR (e s)
       (bif g.2 then goF P u q.1 q.2 rec ((s,some true)::B) (Am e s (.bool true)) w else skF q.1 rec ((s,some true)::B) (Am e s (.bool true)) w)
       (bif g.2 then skF q.1 rec ((s,some false)::B) (Am e s (.bool false)) w else goF P u q.1 q.2 rec ((s,some false)::B) (Am e s (.bool false)) w)
  else False
def DR(P:Program)(n:Nat)(u:List Oper):List (Oper×List Oper)->(Env->g7)->List (Nat×Option Bool)->Env->g7
 | [],Q,_,e,w=>Q e w
 | q::rest,Q,kg,e,w=>DS P n u q (DR P n u rest Q) kg e w
def yd{P:Program}{u:List Oper}{o:Oper}{ks:List Oper}{rec:List (Nat×Option Bool)->Env->g7}{G:List (Nat×Option Bool)}{e:Env}{w:World}
  (B:ky G e) (h:goF P u o ks rec G e w) :
  Hf P (As P o (ev e)) (λv w'=>(w'=w\/∀r∈ks,uw P u r (jR e o.dst v) w' True)/\∃E,ky E (jR e o.dst v)/\rec E (jR e o.dst v) w') w:=by
 unfold goF at h
 split at h
 .rename_i x hx
  have I:(As P o (ev e)).has P w (ev e x):=by
   unfold As
   cases kf:o.op<;>rw[kf]at hx<;>simp only[agf]at hx<;>first|cases hx|skip
   case move y=>simp only[Et.has]
   case assign y=>simp only[Et.has]
   case pick c a b=>
    cases c<;>simp only at hx<;>first|cases hx|skip
    rename_i c
    split at hx
    .rename_i t ht
     cases hx
     have hc:e c=.bool t:=B c _ ht
     simp only[Et.has,ev,hc,WT]
     cases t<;>rfl
    .cases hx
  exact Hf.WU I ⟨.inl rfl,_,B.aft _ _,h⟩
 refine h.mono λv w' J=>?_
 have:=Ld J
 exact⟨.inr this.1,_,B.del _ _,this.2⟩
theorem I3{P:Program}{n:Nat}{u:List Oper}{q:Oper×List Oper}{rec:List (Nat×Option Bool)->Env->g7}{G:List (Nat×Option Bool)}{e:Env}{w:World}
  (B:ky G e) (h:DS P n u q rec G e w) :
  (∀d,q.1.dst=some d->d<n)/\
  DO P u q.1 (λV w'=>(w'=w\/∀r∈q.2,uw P u r V w' True)/\∃I,ky I V/\rec I V w') e w:=by
 unfold DS at h
 cases hd:Ev n q.1 with
 | false=>grind
 | true=>
  rw[hd]at h
  refine⟨λd hdd=>by unfold Ev at hd;simp_all,?_⟩
  have U:∀{G:List (Nat×Option Bool)},ky G e->skF q.1 rec G e w->
    (w=w\/∀r∈q.2,uw P u r (jR e q.1.dst undef) w True)/\∃I,ky I (jR e q.1.dst undef)/\rec I (jR e q.1.dst undef) w:=
   λB h=>⟨.inl rfl,_,B.skip _,h⟩
  simp only[cond_true]at h
  unfold DO
  cases hg:q.1.guard with
  | none=>
   rw[hg]at h
   have O:oM u q.1 e=true:=by unfold oM;rw[hg]
   rw[ej O]
   exact yd B h
  | some g=>
   obtain⟨j,b⟩:=g
   rw[hg]at h
   dsimp only at h
   cases hs:B8 u j with
   | none=>rw[hs]at h;exact h.elim
   | some s=>
    rw[hs]at h
    dsimp only at h
    have O:∀t,e s=.bool t->oM u q.1 e=(t == b):=λt ht=>by unfold oM;rw[hg];dsimp only;rw[hs];dsimp only;rw[ht]
    cases hl:lk s G with
    | some Y=>
     rw[hl]at h
     cases Y with
     | none=>
      dsimp only at h
      have Z:oM u q.1 e=false:=by
       unfold oM;rw[hg];dsimp only;rw[hs];dsimp only;rw[B s none hl];rfl
      rw[ei (by rw[Z];simp)]
      exact U B h
     | some W=>
      dsimp only at h
      rw[O W (B s _ hl)]
      cases hb:W == b with
      | true=>rw[hb]at h;rw[ej rfl];exact yd B h
      | false=>rw[hb]at h;rw[ei ee];exact U B h
    | none=>
     rw[hl]at h
     obtain⟨t,ht,M,E⟩:=h.ex
     rw[O t ht]
     have J:∀c,t=c->Am e s (.bool c)=e:=λc hc=>aim _ _ _ (by rw[ht,hc])
     cases t with
     | true=>
      have M:=M rfl
      rw[J true rfl]at M
      cases b with
      | true=>rw[ej (by rfl)];exact yd (B.cons (b:=some _) ht) M
      | false=>rw[ei ee];exact U (B.cons (b:=some _) ht) M
     | false=>
      have E:=E rfl
      rw[J false rfl]at E
      cases b with
      | true=>rw[ei ee];exact U (B.cons (b:=some _) ht) E
      | false=>rw[ej (by rfl)];exact yd (B.cons (b:=some _) ht) E
theorem DR.list{r:Option Nat}{ds:List Nat}{P:Program}{n:Nat}{u:List Oper}{Q:Env->g7}{V:Exit->Act->g7}{e0:Env}
  (hQ:∀e a w,ju ds n e a->(∀k,k ∉ wr u->e k=e0 k)->Q e w->V .normal a w) :
  ∀(l:List Oper) (I:List (Nat×Option Bool)) (e:Env) (a:Act) (w:World),(∀o∈l,o∈u)->ju ds n e a->(∀k,k ∉ wr u->e k=e0 k)->ky I e->
   DR P n u (l.map λo=>(o,[])) Q I e w->wpListIn (FO r) 0 P u.toArray V l a w:=by
 intro l
 induction l with
 | nil=>intro I e a w _ B J _ h;exact hQ e a w B J h
 | cons o l Y=>
  intro I e a w W B J hk h
  obtain⟨hd,E⟩:=I3 hk h
  obtain⟨i,hi⟩:=List.getElem?_of_mem (W o oi)
  have G:∀x∈l,x∈u:=λx Z=>W x (pd _ Z)
  unfold wpListIn
  rw[Hg B]
  unfold DO at E
  split
  .rename_i hw
   rw[ej hw]at E
   exact Hf.wp B E λv w' ⟨_,M,U,O⟩=>Y M _ _ w' G (B.put hd v) (zy J hi v) U O
  .rename_i hw
   rw[ei hw]at E
   obtain⟨_,M,U,O⟩:=E
   exact⟨uu,Y M _ _ w G (B.put hd undef) (zy J hi undef) U O⟩
def DR.region{r:Option Nat}{ds:List Nat}{P:Program}{n:Nat}{id:Nat}{u:List Oper}{Q:Env->g7}{E:Exit->Act->g7}{e:Env}{a:Act}{w:World}
  (I:ju ds n e a) (G:∀B a w,ju ds n B a->(∀k,k ∉ wr u->B k=e k)->Q B w->E .normal a w)
  (h:DR P n u (u.map λo=>(o,[])) Q [] e w):(abw id u.toArray false).wpIn (FO r) 0 P E a w:=
 wpIn_region_lit (DR.list G u [] e a w (λ_ h=>h) I (λ_ _=>rfl) (ky.nil e) h)
def O8(P:Program)(o:Oper):Bool:=(As P o λ_=>undef).quiet
def I4(P:Program)(o:Oper):Bool:=(As P o λ_=>undef).reads
theorem Le{P:Program}{o:Oper}(ρ ρ':Operand->Value):(As P o ρ).quiet=(As P o ρ').quiet/\(As P o ρ).reads=(As P o ρ').reads:=by
 unfold As
 cases o.op<;>try exact⟨rfl,rfl⟩
 case binOp op t x y u=>dsimp only;split<;>exact⟨rfl,rfl⟩
 case convert s d x=>dsimp only;split<;>exact⟨rfl,rfl⟩
 case call c=>
  dsimp only
  cases c.callee with
  | value x=>cases x<;>exact⟨rfl,rfl⟩
  | invoke r nm=>grind
  | builtin b=>cases b<;>dsimp only<;>first|exact⟨rfl,rfl⟩|(split<;>exact⟨rfl,rfl⟩)
def iM(d:Nat):List Nat->Bool
 | []=>false
 | x::r=>Ce x d||iM d r
theorem Aw{d:Nat}{l:List Nat}:iM d l=true↔d∈l:=by
 induction l with
 | nil=>simp[iM]
 | cons x r u=>
  simp only[iM,xr,u,sk]
  constructor
  .rintro(h|h)
   .simp_all
   grind
  .rintro(rfl|h)
   .simp_all
   grind
def R0{d:Nat}{l:List Nat}:iM d l=false↔d ∉ l:=by
 rw[<- Aw];simp
def eqO(d:Nat):Option Nat->Bool|none=>false|some k=>Ce k d
theorem acN{d:Nat}{o:Option Nat}:eqO d o=true↔o=some d:=by
 cases o with
 | none=>simp[eqO]
 | some k=>simp_all[eqO]
def I5(u:List Oper)(x y:Oper):Bool:=match y.dst with|none=>true|some d=>!iM d (looks u x)&&!eqO d x.dst
def Ca{u:List Oper}{x y:Oper}(h:I5 u x y=true):∀d,y.dst=some d->d ∉ looks u x/\x.dst≠some d:=by
 intro d hd
 unfold I5 at h
 rw[hd]at h
 simp only[n3,sl]at h
 exact⟨R0.1 h.1,λB=>by rw[<- acN]at B;grind⟩
def O9(u:List Oper)(x y:Oper):Bool:=I5 u y x&&I5 u x y
def Lf{u:List Oper}{x y:Oper}(h:O9 u x y=true):WV u x y:=by
 simp only[O9,n3]at h
 exact⟨λd hd=>Ca h.1 d hd,λd hd=>(Ca h.2 d hd).1⟩
def Cb(f:Nat->Oper->Bool):Nat->List Oper->Bool
 | _,[]=>true
 | k,o::r=>f k o&&Cb f (k+1) r
theorem oq{f:Nat->Oper->Bool}{l:List Oper}:∀{k:Nat},Cb f k l=true->∀i o,l[i]?=some o->f (k+i) o=true:=by
 induction l with
 | nil=>grind
 | cons x r u=>
  grind[Cb]
def Dp:List Nat->Nat->Nat
 | [],_=>0
 | x::_,0=>x
 | _::r,n+1=>Dp r n
def Hi(u:List Nat):List Nat->Nat
 | []=>0
 | p::r=>OV (OV (KH 1 p) (Dp u p)) (Hi u r)
def Hj(B:List Oper)(u:List Nat):Bool:=
 Cb (λj o=>(pre o).all (λp=>aaB p j)&&Ce (Dp u j) (Hi u (pre o))) 0 B
theorem Uu{u l:List Nat}{i:Nat}(h:(Hi u l).testBit i=true):∃p∈l,p=i\/(Dp u p).testBit i=true:=by
 induction l with
 | nil=>simp[Hi]at h
 | cons p r E=>
  have B:(((1 <<< p) ||| Dp u p) ||| Hi u r).testBit i=true:=h
  simp only[TN,xr]at B
  rcases B with(B|B)|B
  .refine⟨p,ee,.inl ?_⟩
   rw[Sg,QA]at B
   grind
  .grind
  grind
theorem Hk{u:List Oper}{B:List Nat}(h:Hj u B=true):∀(n j:Nat),j<n->j<u.length->∀i,(Dp B j).testBit i=true->O7 u j i:=by
 intro n
 induction n with
 | zero=>omega
 | succ n M=>
  intro j O hlen i hi
  obtain⟨o,E⟩:∃o,u[j]?=some o:=⟨u[j],by simp[hlen]⟩
  have:=oq h j o E
  simp only[tx,n3,Fo]at this
  obtain⟨h1,h2⟩:=this
  have h2:=P6 h2
  rw[h2]at hi
  obtain⟨p,I,G⟩:=Uu hi
  rcases G with rfl|G
  .exact .one E I
  .have J:p<j:=by simp_all
   exact .more E I (M p bM bM i G)
def bit(m i:Nat):Bool:=Nat.testBit m i
def Hl(u:List Oper)(y:Oper):Bool:=match y.dst with|none=>false|some d=>!iM d (looks u y)
theorem Pa{u:List Oper}{y:Oper}(h:Hl u y=true):∃d,y.dst=some d/\d ∉ looks u y:=by
 unfold Hl at h
 cases hd:y.dst with
 | none=>grind
 | some d=>rw[hd]at h;exact⟨d,rfl,R0.1 cJ⟩
def WY(P:Program)(u:List Oper)(B:List Nat)(m i:Nat)(ks:List Nat):Bool:=
 match u[i]? with
 | none=>false
 | some o=>
  !bit m i&&((pre o).all (λp=>bit m p) &&
  (bif O8 P o then
   Cb (λj y=>Ce j i||(bit m j||(iM i (pre y)||O9 u o y))) 0 u
  else
   Cb (λj y=>Ce j i||(bit m j||!(pre y).all λp=>bit m p)) 0 u &&
   (Cb (λr y=>!bit m r||(!I4 P y||(bit (Dp B i) r||iM r ks))) 0 u &&
   ks.all (λr=>match u[r]? with
    | none=>false
    | some y=>Hl u y&&Cb (λj z=>Ce j r||(bit (Dp B r) j||I5 u y z)) 0 u))))
inductive PT where
 | nil
 | stop
 | op (i:Nat) (ks:List Nat) (r:PT)
 | alt (i:Nat) (ks:List Nat) (r o:PT)
def PT.of:List (Nat×List Nat)->PT
 | []=>.nil
 | q::r=>.op q.1 q.2 (PT.of r)
def PT.ids:PT->List Nat
 | .alt i _ _ o=>i::o.ids
 | _=>[]
def PT.many:PT->Bool
 | .alt _ _ _ _=>true
 | .op _ _ r=>r.many
 | _=>false
def agi(P:Program)(u:List Oper)(B:List Nat)(m i:Nat)(ks:List Nat):Bool:=
 match u[i]? with
 | none=>false
 | some o=>
  !bit m i&&((pre o).all (λp=>bit m p)&&(!O8 P o&&(
   (Cb (λr y=>!bit m r||(!I4 P y||(bit (Dp B i) r||iM r ks))) 0 u &&
   ks.all (λr=>match u[r]? with
    | none=>false
    | some y=>Hl u y&&Cb (λj z=>Ce j r||(bit (Dp B r) j||I5 u y z)) 0 u)))))
def R2(P:Program)(u:List Oper)(B:List Nat):Bool->Nat->Nat->PT->Bool
 | c,f,m,.nil=>!c&&(Ce f 0&&Cb (λj _=>bit m j) 0 u)
 | c,_,_,.stop=>c
 | c,f,m,.op i ks r=>!c&&(match f with|0=>false|E+1=>WY P u B m i ks&&R2 P u B false E (OV m (KH 1 i)) r)
 | c,f,m,.alt i ks r o=>(c||Cb (λj y=>bit m j||(!(pre y).all (λp=>bit m p)||iM j (i::o.ids))) 0 u) &&
  ((match f with|0=>false|E+1=>agi P u B m i ks&&R2 P u B false E (OV m (KH 1 i)) r)&&R2 P u B true f m o)
def Hm(B:List Oper):List Nat:=B.foldl (λu o=>u++[Hi u (pre o)]) []
def PT.run(k:Nat):Nat->PT
 | 0=>.nil
 | n+1=>.op k [] (PT.run (k+1) n)
def wh(u:List Oper)(i:Nat):Oper:=(u[i]?).getD default
def DT(P:Program)(n:Nat)(u:List Oper):PT->(Env->g7)->List (Nat×Option Bool)->Env->g7
 | .nil,Q,_,e,w=>Q e w
 | .stop,_,_,_,_=>True
 | .op i ks r,Q,B,e,w=>DS P n u (wh u i,ks.map (wh u)) (DT P n u r Q) B e w
 | .alt i ks r o,Q,B,e,w=>DS P n u (wh u i,ks.map (wh u)) (DT P n u r Q) B e w/\DT P n u o Q B e w
def DQ(P:Program)(u:List Oper):PT->(Env->g7)->Env->g7
 | .nil,Q,e,w=>Q e w
 | .stop,_,_,_=>True
 | .op i ks r,Q,e,w=>DO P u (wh u i) (λB w'=>(w'=w\/∀r∈ks.map (wh u),uw P u r B w' True)/\DQ P u r Q B w') e w
 | .alt i ks r o,Q,e,w=>DO P u (wh u i) (λB w'=>(w'=w\/∀r∈ks.map (wh u),uw P u r B w' True)/\DQ P u r Q B w') e w/\DQ P u o Q e w
theorem DT.plain{P:Program}{n:Nat}{B:List Oper}{Q:Env->g7}:∀(p:PT) (u:List (Nat×Option Bool)) (e:Env) (w:World),ky u e->DT P n B p Q u e w->DQ P B p Q e w:=by
 intro p
 induction p with
 | nil=>intro u e w _ h;exact h
 | stop=>intro u e w _ _;trivial
 | op i ks p I=>intro u e w E h;exact(I3 E h).2.mono λv w' ⟨h1,G,h2,h3⟩=>⟨h1,I G _ _ h2 h3⟩
 | alt i ks p o I J=>intro u e w E h;exact⟨(I3 E h.1).2.mono λv w' ⟨h1,G,h2,h3⟩=>⟨h1,I G _ _ h2 h3⟩,J u e w E h.2⟩
structure Tk where
 idx:Nat
 o:Oper
 b:Bool
 X:Et
 v:Value
structure Ew(P:Program)(ops:List Oper)(L:Nat->Bool)(T:List Tk)(e:Env):Prop where
 op:∀x∈T,ops[x.idx]?=some x.o
 listed:∀x∈T,L x.idx=true
 kind:∀x∈T,x.X.reads=I4 P x.o
 still:∀x∈T,x.X.reads=false->x.b=true->∀w,x.X.has P w x.v
 reads:∀x∈T,x.X.reads=true->(∀j z,ops[j]?=some z->j≠x.idx->O7 ops x.idx j\/I5 ops x.o z=true)->Hl ops x.o=true->
  As P x.o (ev e)=x.X/\oM ops x.o e=x.b/\∃d,x.o.dst=some d/\(x.b=true->e d=x.v)
def ST(P:Program)(u:List Oper)(T:List Tk):Nat->g7:=λj w=>∀x∈T,O7 u j x.idx\/(x.b=true->x.X.has P w x.v)
def R3{m i:Nat}:(λk=>bit (OV m (KH 1 i)) k)=me (λk=>bit m k) i:=by
 funext k
 show(m ||| 1 <<< i).testBit k=_
 rw[TN,Sg,QA]
 grind[me,bit]
theorem Ew.next{P:Program}{u:List Oper}{L:Nat->Bool}{T:List Tk}{e:Env}(h:Ew P u L T e)(W:Down u L){i:Nat}{o:Oper}(Y:u[i]?=some o)(hi:L i=false)(v:Value) :
  Ew P u (me L i) T (jR e o.dst v):=by
 refine⟨h.op,λx G=>I0 _ _ (h.listed x G),h.kind,h.still,λx G hr U I=>?_⟩
 obtain⟨h1,h2,d,hd,h3⟩:=h.reads x G hr U I
 have Hh:i≠x.idx:=λV=>by have:=h.listed x G;grind
 have E:I5 u x.o o=true:=by
  rcases U i o Y Hh with anl|E
  .have:L i=true:=anl.listed W λZ J p hp=>W x.idx Z (h.listed x G) J p hp
   grind
  omega
 have B:=Ca E
 refine⟨by rw[DN λk M=>(B k M).1];exact h1,by rw[yc λk M=>(B k M).1];exact h2,d,hd,λhb=>?_⟩
 have:=h3 hb
 cases Lg:o.dst with
 | none=>exact this
 | some k=>
  have O:d≠k:=λV=>(B k Lg).2 (by rw[hd,V])
  simp only[jR,oL _ _ O]
  exact this
theorem Lh{P:Program}{u:List Oper}{G:List Nat}(hc:Hj u G=true){f m i:Nat}{ks:List Nat}{o:Oper}{T:List Tk}{e:Env}{w:World}{Q:Env->g7}{rec:Env->g7}
  (Y:u[i]?=some o) (W:bit m i=false) (hL:Down u (bit m)) (E:Ew P u (bit m) T e)
  (zz:∀(r:Nat) (y:Oper),u[r]?=some y->(!bit m r||(!I4 P y||(bit (Dp G i) r||iM r ks)))=true)
  (Li:∀r∈ks,(match u[r]? with|none=>false|some y=>Hl u y&&Cb (λj z=>Ce j r||(bit (Dp G r) j||I5 u y z)) 0 u)=true)
  (iY:DO P u o (λM w'=>(w'=w\/∀r∈ks.map (wh u),uw P u r M w' True)/\rec M w') e w)
  (Z:∀v w',Ew P u (me (bit m) i) T (jR e o.dst v)->rec (jR e o.dst v) w'->WS P u Q (ST P u T) f (me (bit m) i) (jR e o.dst v) w') :
  DO P u o (λM w'=>(w'=w\/ST P u T i w')/\WS P u Q (ST P u T) f (me (bit m) i) M w') e w:=by
 refine iY.mono λv w' hh=>?_
 obtain⟨I,Ax⟩:=hh
 have U:=E.next hL Y W v
 refine⟨?_,?_⟩
 .rcases I with hw|I
  .grind
  refine .inr λx B=>?_
  cases Ww:x.X.reads with
  | false=>exact .inr λhb=>E.still x B Ww hb w'
  | true=>
   have h1:=zz x.idx x.o (E.op x B)
   simp only[xr,sl]at h1
   rcases h1 with h1|h1|h1|h1
   .have:=E.listed x B;grind
   .have:=E.kind x B;grind
   .have C1:i<u.length:=(j0.1 Y).1
    exact .inl (Hk hc (i+1) i bM C1 _ h1)
   .have Lj:=Aw.1 h1
    have h2:=Li x.idx Lj
    rw[E.op x B]at h2
    simp only[n3]at h2
    obtain⟨O,h2⟩:=h2
    have h2:=oq h2
    have V:x.idx<u.length:=(j0.1 (E.op x B)).1
    obtain⟨e1,e2,d,hd,e3⟩:=U.reads x B Ww (λk z hz Hh=>by
     have:=h2 k z hz
     simp only[tx,xr]at this
     rcases this with h3|h3|h3
     .simp_all
     .exact .inl (Hk hc (x.idx+1) x.idx bM V _ h3)
     grind) O
    refine .inr λhb=>?_
    have J:=I x.o (List.mem_map.2 ⟨x.idx,Lj,by simp[wh,E.op x B]⟩)
    unfold uw at J
    rw[e2,hb,e1,hd]at J
    simp only[cond_true]at J
    cases hX:x.X<;>rw[hX]at J Ww<;>first|grind|cases Ww|skip
    have:=J.ani
    rw[e3 hb]at this
    exact this
 grind
theorem acP{P:Program}{u:List Oper}{Z:List Nat}{Q:Env->g7}(hc:Hj u Z=true) :
  ∀(p:PT) (f m:Nat) (T:List Tk) (e:Env) (w:World),
   Down u (bit m)->Ew P u (bit m) T e->DQ P u p Q e w->
   (R2 P u Z false f m p=true->WS P u Q (ST P u T) f (bit m) e w)/\
   (R2 P u Z true f m p=true->∀j∈p.ids,∃f',f=f'+1/\O6 u (bit m) j/\∀U,u[j]?=some U->DO P u U (λY w'=>(w'=w\/ST P u T j w')/\WS P u Q (ST P u T) f' (me (bit m) j) Y w') e w):=by
 intro p
 induction p with
 | nil=>
  intro f m T e w V hT h
  refine⟨λB=>?_,λ_ j I=>by cases I⟩
  simp only[R2,OZ,Bt,n3]at B
  have wC:=oq B.2
  rw[P6 B.1]
  refine⟨λi hr=>?_,h⟩
  obtain⟨h0,o,J,_⟩:=hr
  grind
 | stop=>
  intro f m T e w V hT h
  exact⟨λB=>by simp[R2]at B,λ_ j I=>by cases I⟩
 | op i ks p ih=>
  intro f m T e w V hT h
  refine⟨λB=>?_,λ_ j I=>by cases I⟩
  simp only[R2,OZ,Bt]at B
  cases f with
  | zero=>cases B
  | succ f=>
   simp only[n3]at B
   obtain⟨G,B⟩:=B
   unfold WY at G
   cases J:u[i]? with
   | none=>rw[J]at G;cases G
   | some o=>
   rw[J]at G
   simp only[n3,sl,Fo]at G
   obtain⟨O,ais,G⟩:=G
   have hr:O6 u (bit m) i:=⟨O,o,J,ais⟩
   have eE:wh u i=o:=by simp[wh,J]
   have W:DO P u (wh u i) (λY w'=>(w'=w\/∀r∈ks.map (wh u),uw P u r Y w' True)/\DQ P u p Q Y w') e w:=h
   rw[eE]at W
   have GS:(bit (OV m (KH 1 i)))=me (bit m) i:=R3
   have hL':Down u (me (bit m) i):=V.set hr
   cases hq:O8 P o with
   | true=>
    rw[hq]at G
    simp only[cond_true]at G
    have RY:=oq G
    have hqq:∀ρ,(As P o ρ).quiet=true:=λρ=>by rw[(Le ρ λ_=>undef).1];exact hq
    obtain⟨b,v,hb,hn,hy,Ax⟩:∃b v,oM u o e=b/\(b=false->v=undef)/\(b=true->(As P o (ev e)).has P w v)/\
      DQ P u p Q (jR e o.dst v) w:=by
     unfold DO at W
     cases hb:oM u o e with
     | true=>
      rw[ej hb]at W
      obtain⟨v,hv,_,Ax⟩:=W.has (hqq _)
      exact⟨true,v,rfl,ee,λ_=>hv,Ax⟩
     | false=>
      rw[ei (by rw[hb];simp)]at W
      obtain⟨_,Ax⟩:=W
      exact⟨false,undef,rfl,λ_=>rfl,ee,Ax⟩
    refine WS.first (X:=As P o (ev e)) J hn f (bit m) e w V hr ?_ rfl hb hy ?_
    .intro j U RZ hji avq eE
     have:=RY j U RZ
     simp only[tx,xr]at this
     rcases this with h1|h1|h1|h1
     .exact absurd (P6 h1) hji
     .rw[avq]at h1;cases h1
     .exact absurd (Aw.1 h1) eE
     .exact Lf h1
    .have hT':Ew P u (me (bit m) i) (⟨i,o,b,As P o (ev e),v⟩::T) (jR e o.dst v):=by
      have M:=hT.next V J O v
      constructor
      .intro x E;rcases sk.1 E with rfl|E
       .exact J
       .exact M.op x E
      .intro x E;rcases sk.1 E with rfl|E
       .exact Us _ _
       .exact M.listed x E
      .intro x E;rcases sk.1 E with rfl|E
       .exact(Le _ _).2
       .exact M.kind x E
      .intro x E;rcases sk.1 E with rfl|E
       .intro h1 h2 w';exact Et.Up h1 (hy h2)
       .exact M.still x E
      .intro x E;rcases sk.1 E with rfl|E
       .intro h1 h2 h3
        obtain⟨d,hd,KT⟩:=Pa h3
        dsimp only at hd KT |-
        have hh:∀k,o.dst=some k->k ∉ looks u o:=λk hk=>by rw[hd]at hk;cases hk;exact KT
        refine⟨DN hh,by rw[yc hh];exact hb,d,hd,λ_=>?_⟩
        rw[hd];exact nw _ _ _
       .exact M.reads x E
     have:=(ih f _ _ _ w (by rw[GS];exact hL') (by rw[GS];exact hT') Ax).1 B
     rw[GS]at this
     refine WS.weaken (λj w' I=>?_) _ _ _ _ this
     exact⟨λx E=>I x (pd _ E),I _ oi⟩
   | false=>
    rw[hq]at G
    simp only[cond_false,n3,Fo]at G
    obtain⟨WZ,zz,Li⟩:=G
    have WZ:=oq WZ
    have zz:=oq zz
    refine⟨λeE=>absurd hr (eE i),λj U RZ I=>?_⟩
    have hji:j=i:=by
     have:=WZ j U RZ
     simp only[tx,xr,sl]at this
     rcases this with h1|h1|h1
     .simp_all
     .have:=I.1;grind
     .obtain⟨_,o',ho',wC⟩:=I
      grind
    subst hji
    rw[J]at RZ;cases RZ
    refine Lh hc J O V hT (λr y hy=>cJ) Li W λv w' M Ax=>?_
    grind
 | alt i ks p o' ih ih2=>
  intro f m T e w V hT h
  obtain⟨h1,h2⟩:DO P u (wh u i) (λY w'=>(w'=w\/∀r∈ks.map (wh u),uw P u r Y w' True)/\DQ P u p Q Y w') e w/\DQ P u o' Q e w:=h
  have chain:∀c,R2 P u Z c f m (.alt i ks p o')=true->∀j∈i::o'.ids,∃f',f=f'+1/\O6 u (bit m) j/\∀U,u[j]?=some U->DO P u U (λY w'=>(w'=w\/ST P u T j w')/\WS P u Q (ST P u T) f' (me (bit m) j) Y w') e w:=by
   intro c B
   simp only[R2,n3]at B
   obtain⟨_,B,Wx⟩:=B
   cases f with
   | zero=>cases B
   | succ f=>
    simp only[n3]at B
    obtain⟨G,B⟩:=B
    intro j I
    rcases sk.1 I with rfl|I
    .unfold agi at G
     cases J:u[j]? with
     | none=>rw[J]at G;cases G
     | some o=>
      rw[J]at G
      simp only[n3,sl,Fo]at G
      obtain⟨O,ais,_,zz,Li⟩:=G
      have hr:O6 u (bit m) j:=⟨O,o,J,ais⟩
      refine⟨f,rfl,hr,λU RZ=>?_⟩
      cases RZ
      have zz:=oq zz
      have eE:wh u j=o:=by simp[wh,J]
      rw[eE]at h1
      have W:=h1
      have GS:(bit (OV m (KH 1 j)))=me (bit m) j:=R3
      have hL':Down u (me (bit m) j):=V.set hr
      refine Lh hc J O V hT (λr y hy=>cJ) Li W λv w' M Ax=>?_
      grind
    .exact(ih2 (f+1) m T e w V hT h2).2 Wx j I
  refine⟨λB=>?_,λB=>chain true B⟩
  have hch:=chain false B
  simp only[R2,Bool.false_or,n3]at B
  have avr:=oq B.1
  obtain⟨f',rfl,hri,_⟩:=hch i oi
  refine⟨λeE=>absurd hri (eE i),λj U RZ I=>?_⟩
  have Lj:j∈i::o'.ids:=by
   have:=avr j U RZ
   simp only[tx,xr,sl]at this
   rcases this with h3|h3|h3
   .have:=I.1;grind
   .obtain⟨_,o2,ho2,wC⟩:=I
    grind
   .exact Aw.1 h3
  obtain⟨f2,hf,_,W⟩:=hch j Lj
  simp_all
structure yS(F:(g7)->Prop)(G:g7):Prop where
 ex:∃I:g7,F I/\∀w,I w->G w
structure R5(B:(g7)->g7)(F:(g7)->Prop):Prop where
 ex:∃I:Nat->g7,(∃m,F (I m))/\∀m w,I m w->B (λw'=>∃m',m'<m/\I m' w') w
structure eS(F:(Value->g7)->Prop)(G:Value->g7):Prop where
 ex:∃I:Value->g7,F I/\∀x0 w,I x0 w->G x0 w
structure kG(B:(Value->g7)->Value->g7)(F:(Value->g7)->Prop):Prop where
 ex:∃I:Nat->Value->g7,(∃m,F (I m))/\∀m x0 w,I m x0 w->B (λy0 w'=>∃m',m'<m/\I m' y0 w') x0 w
structure Ey(F:(Value->Value->g7)->Prop)(G:Value->Value->g7):Prop where
 ex:∃I:Value->Value->g7,F I/\∀x0 x1 w,I x0 x1 w->G x0 x1 w
structure oN(B:(Value->Value->g7)->Value->Value->g7)(F:(Value->Value->g7)->Prop):Prop where
 ex:∃I:Nat->Value->Value->g7,(∃m,F (I m))/\∀m x0 x1 w,I m x0 x1 w->B (λy0 y1 w'=>∃m',m'<m/\I m' y0 y1 w') x0 x1 w
structure anp(F:(Value->Value->Value->g7)->Prop)(G:Value->Value->Value->g7):Prop where
 ex:∃I:Value->Value->Value->g7,F I/\∀x0 x1 x2 w,I x0 x1 x2 w->G x0 x1 x2 w
structure W0(B:(Value->Value->Value->g7)->Value->Value->Value->g7)(F:(Value->Value->Value->g7)->Prop):Prop where
 ex:∃I:Nat->Value->Value->Value->g7,(∃m,F (I m))/\∀m x0 x1 x2 w,I m x0 x1 x2 w->B (λy0 y1 y2 w'=>∃m',m'<m/\I m' y0 y1 y2 w') x0 x1 x2 w
structure anq(F:(Value->Value->Value->Value->g7)->Prop)(G:Value->Value->Value->Value->g7):Prop where
 ex:∃I:Value->Value->Value->Value->g7,F I/\∀x0 x1 x2 x3 w,I x0 x1 x2 x3 w->G x0 x1 x2 x3 w
structure anr(B:(Value->Value->Value->Value->g7)->Value->Value->Value->Value->g7)(F:(Value->Value->Value->Value->g7)->Prop):Prop where
 ex:∃I:Nat->Value->Value->Value->Value->g7,(∃m,F (I m))/\∀m x0 x1 x2 x3 w,I m x0 x1 x2 x3 w->B (λy0 y1 y2 y3 w'=>∃m',m'<m/\I m' y0 y1 y2 y3 w') x0 x1 x2 x3 w
structure ans(F:(Value->Value->Value->Value->Value->g7)->Prop)(G:Value->Value->Value->Value->Value->g7):Prop where
 ex:∃I:Value->Value->Value->Value->Value->g7,F I/\∀x0 x1 x2 x3 x4 w,I x0 x1 x2 x3 x4 w->G x0 x1 x2 x3 x4 w
structure ant(B:(Value->Value->Value->Value->Value->g7)->Value->Value->Value->Value->Value->g7)(F:(Value->Value->Value->Value->Value->g7)->Prop):Prop where
 ex:∃I:Nat->Value->Value->Value->Value->Value->g7,(∃m,F (I m))/\∀m x0 x1 x2 x3 x4 w,I m x0 x1 x2 x3 x4 w->B (λy0 y1 y2 y3 y4 w'=>∃m',m'<m/\I m' y0 y1 y2 y3 y4 w') x0 x1 x2 x3 x4 w
def lkv(i:Nat):List (Nat×Value)->Value->Value
 | [],d=>d
 | q::r,d=>bif Ce q.1 i then q.2 else lkv i r d
def GU(e:Env)(M:Nat)(bs:List (Nat×Value))(dead:Env):Env:=λi=>bif bit M i then lkv i bs (dead i)else e i
def Ay(l:List Nat)(F:(Env->g7)->Prop)(G:List (Nat×Value)->g7):Prop:=
 match l with
 | []=>yS (λK=>F λe w=>K w) (λw=>G [] w)
 | [u]=>eS (λK=>F λe w=>K (e u) w) (λE w=>G [(u,E)] w)
 | [u,B]=>Ey (λK=>F λe w=>K (e u) (e B) w) (λE J w=>G [(u,E),(B,J)] w)
 | [u,B,I]=>anp (λK=>F λe w=>K (e u) (e B) (e I) w) (λE J M w=>G [(u,E),(B,J),(I,M)] w)
 | [u,B,I,O]=>anq (λK=>F λe w=>K (e u) (e B) (e I) (e O) w) (λE J M U w=>G [(u,E),(B,J),(I,M),(O,U)] w)
 | [u,B,I,O,V]=>ans (λK=>F λe w=>K (e u) (e B) (e I) (e O) (e V) w) (λE J M U W w=>G [(u,E),(B,J),(I,M),(O,U),(V,W)] w)
 | _=>False
def Az(l:List Nat)(B:(Env->g7)->List (Nat×Value)->g7)(e:Env)(w:World):Prop:=
 match l with
 | []=>R5 (λK w=>B (λu w'=>K w') [] w) (λK=>K w)
 | [E]=>kG (λK J w=>B (λu w'=>K (u E) w') [(E,J)] w) (λK=>K (e E) w)
 | [E,G]=>oN (λK J O w=>B (λu w'=>K (u E) (u G) w') [(E,J),(G,O)] w) (λK=>K (e E) (e G) w)
 | [E,G,I]=>W0 (λK J O U w=>B (λu w'=>K (u E) (u G) (u I) w') [(E,J),(G,O),(I,U)] w) (λK=>K (e E) (e G) (e I) w)
 | [E,G,I,M]=>anr (λK J O U W w=>B (λu w'=>K (u E) (u G) (u I) (u M) w') [(E,J),(G,O),(I,U),(M,W)] w) (λK=>K (e E) (e G) (e I) (e M) w)
 | [E,G,I,M,V]=>ant (λK J O U W Y w=>B (λu w'=>K (u E) (u G) (u I) (u M) (u V) w') [(E,J),(G,O),(I,U),(M,W),(V,Y)] w) (λK=>K (e E) (e G) (e I) (e M) (e V) w)
 | _=>False
def jD(l:List Nat)(e:Env):List (Nat×Value):=l.map λa=>(a,e a)
def Ay.spec{l:List Nat}{F:(Env->g7)->Prop}{G:List (Nat×Value)->g7}(h:Ay l F G) :
  ∃I:List (Nat×Value)->g7,F (λe w=>I (jD l e) w)/\∀(e:Env) w,I (jD l e) w->G (jD l e) w:=by
 unfold Ay at h
 split at h
 .obtain⟨I,h1,h2⟩:=h.ex
  exact⟨λ_ w=>I w,h1,λ_ w hi=>h2 w hi⟩
 .obtain⟨I,h1,h2⟩:=h.ex
  exact⟨λq w=>match q with|[u]=>I u.2 w|_=>False,h1,λe w hi=>h2 _ w hi⟩
 .obtain⟨I,h1,h2⟩:=h.ex
  exact⟨λq w=>match q with|[u,B]=>I u.2 B.2 w|_=>False,h1,λe w hi=>h2 _ _ w hi⟩
 .obtain⟨I,h1,h2⟩:=h.ex
  exact⟨λq w=>match q with|[u,B,E]=>I u.2 B.2 E.2 w|_=>False,h1,λe w hi=>h2 _ _ _ w hi⟩
 .obtain⟨I,h1,h2⟩:=h.ex
  exact⟨λq w=>match q with|[u,B,E,J]=>I u.2 B.2 E.2 J.2 w|_=>False,h1,λe w hi=>h2 _ _ _ _ w hi⟩
 .obtain⟨I,h1,h2⟩:=h.ex
  exact⟨λq w=>match q with|[u,B,E,J,M]=>I u.2 B.2 E.2 J.2 M.2 w|_=>False,h1,λe w hi=>h2 _ _ _ _ _ w hi⟩
 grind
def Az.spec{l:List Nat}{B:(Env->g7)->List (Nat×Value)->g7}{e:Env}{w:World}(h:Az l B e w) :
  ∃I:Nat->List (Nat×Value)->g7,(∃m,I m (jD l e) w)/\
   ∀m e w,I m (jD l e) w->B (λU w'=>∃M,M<m/\I M (jD l U) w') (jD l e) w:=by
 unfold Az at h
 split at h
 .obtain⟨I,⟨m,h1⟩,h2⟩:=h.ex
  exact⟨λm _ w=>I m w,⟨m,h1⟩,λm _ w hi=>h2 m w hi⟩
 .obtain⟨I,⟨m,h1⟩,h2⟩:=h.ex
  exact⟨λm q w=>match q with|[u]=>I m u.2 w|_=>False,⟨m,h1⟩,λm e w hi=>h2 m _ w hi⟩
 .obtain⟨I,⟨m,h1⟩,h2⟩:=h.ex
  exact⟨λm q w=>match q with|[u,E]=>I m u.2 E.2 w|_=>False,⟨m,h1⟩,λm e w hi=>h2 m _ _ w hi⟩
 .obtain⟨I,⟨m,h1⟩,h2⟩:=h.ex
  exact⟨λm q w=>match q with|[u,E,G]=>I m u.2 E.2 G.2 w|_=>False,⟨m,h1⟩,λm e w hi=>h2 m _ _ _ w hi⟩
 .obtain⟨I,⟨m,h1⟩,h2⟩:=h.ex
  exact⟨λm q w=>match q with|[u,E,G,J]=>I m u.2 E.2 G.2 J.2 w|_=>False,⟨m,h1⟩,λm e w hi=>h2 m _ _ _ _ w hi⟩
 .obtain⟨I,⟨m,h1⟩,h2⟩:=h.ex
  exact⟨λm q w=>match q with|[u,E,G,J,O]=>I m u.2 E.2 G.2 J.2 O.2 w|_=>False,⟨m,h1⟩,λm e w hi=>h2 m _ _ _ _ _ w hi⟩
 grind
def W3(m d:Nat):Nat:=OV m (KH 1 d)
def anu(m d:Nat):Nat:=bif bit m d then Nat.sub m (KH 1 d)else m
def zA:List Nat->Nat
 | []=>0
 | d::r=>W3 (zA r) d
def wD:List Operand->Nat->Nat
 | [],m=>m
 | .tmp t::r,m=>W3 (wD r m) t
 | _::r,m=>wD r m
def lkX(id:Nat):List (Nat×Nat)->Nat
 | []=>0
 | q::r=>bif Ce q.1 id then q.2 else lkX id r
def W4:List Oper->Nat->Nat
 | [],lo=>lo
 | o::r,lo=>wD o.op.operands.toList (match o.dst with|some d=>anu (W4 r lo) d|none=>W4 r lo)
def anv:List Nat->Nat->Nat
 | [],m=>m
 | d::r,m=>anv r (anu m d)
def li(rl:Nat):Code->List (Nat×Nat)->Nat->Nat
 | .skip,_,lo=>lo
 | .ret,_,_=>rl
 | .exit id,X,_=>lkX id X
 | .region _ ops _,_,lo=>W4 ops.toList lo
 | .seq a b,X,lo=>li rl a X (li rl b X lo)
 | .cond c a b,X,lo=>wD [c] (OV (li rl a X lo) (li rl b X lo))
 | .block id c,X,lo=>li rl c ((id,lo)::X) lo
 | .loop c,X,_=>li rl c X (li rl c X 0)
 | .rangeFunc g ps a b,X,lo=>wD [g] (OV lo (anv ps.toList (li rl a X (li rl b X lo))))
 | _,_,_=>0
def fG:Code->Bool
 | .seq a b=>fG a||fG b
 | .cond _ a b=>fG a||fG b
 | .block _ c=>fG c
 | .loop c=>fG c
 | .rangeFunc _ _ _ _=>true
 | _=>false
def iR:Code->Nat
 | .region _ ops _=>zA (wr ops.toList)
 | .seq a b=>OV (iR a) (iR b)
 | .cond _ a b=>OV (iR a) (iR b)
 | .block _ c=>iR c
 | .loop c=>iR c
 | _=>0
def guarded:List Oper->Bool
 | []=>false
 | o::r=>o.guard.isSome||guarded r
def acQ(a b:Nat):Nat:=Nat.add a b
mutual
def exC(id:Nat):Code->Nat
 | .exit k=>bif Ce k id then 1 else 0
 | .seq a b=>bif Ce (nxC a) 0 then exC id a else acQ (exC id a) (exC id b)
 | .cond _ a b=>acQ (exC id a) (exC id b)
 | .block _ c=>exC id c
 | .loop c=>exC id c
 | .rangeFunc _ _ _ b=>exC id b
 | _=>0
def nxC:Code->Nat
 | .skip=>1
 | .region _ ops _=>bif guarded ops.toList then 2 else 1
 | .seq a b=>bif Ce (nxC a) 0 then 0 else nxC b
 | .cond _ a b=>acQ (nxC a) (nxC b)
 | .block id c=>acQ (nxC c) (exC id c)
 | .rangeFunc _ _ _ _=>1
 | _=>0
end
def gm(m:Nat):Nat->Nat->List Nat
 | 0,_=>[]
 | f+1,i=>bif bit m i then i::gm m f (i+1)else gm m f (i+1)
abbrev Dr:=Exit->List Nat->Env->g7
def tn(K:List Nat->Env->g7)(Q:Dr):Dr
 | .normal,ds,e,w=>K ds e w
 | x,ds,e,w=>Q x ds e w
def W5(id:Nat)(Q:Dr):Dr
 | .exit k,ds,e,w=>bif Ce k id then Q .normal ds e w else Q (.exit k) ds e w
 | x,ds,e,w=>Q x ds e w
def W6(K:Option Code->g7):Dr
 | .normal,_,_,w=>K none w
 | .ret,_,_,w=>K (some .ret) w
 | .exit id,_,_,w=>K (some (.exit id)) w
 | _,_,_,_=>False
def aft(N R:Nat->g7)(X:Nat->Nat->g7):Option Code->Nat->g7
 | none=>N
 | some .ret=>R
 | some (.exit id)=>X id
 | _=>λ_ _=>False
def outs:List Nat->Code->Bool
 | l,.exit id=>!(l.any λk=>Ce k id)
 | l,.seq a b=>outs l a||outs l b
 | l,.cond _ a b=>outs l a||outs l b
 | l,.block id c=>outs (id::l) c
 | l,.loop c=>outs l c
 | _,_=>false
def Ez:List Value->Nat->Value
 | [],_=>undef
 | v::_,0=>v
 | _::r,k+1=>Ez r k
def Hn(args:List Value):List Nat->Nat->Env->Env
 | [],_,e=>e
 | p::r,k,e=>Hn args r (k+1) (Am e p (Ez args k))
def lG(ds:List Nat):Value:=.tuple (ds.map fun (D:Nat)=>ng .u64 (D:Int)).toArray
def aiu:Value->Nat
 | .int _ n=>n.toNat
 | _=>0
def AA:Value->List Nat
 | .tuple vs=>vs.toList.map aiu
 | _=>[]
theorem Cc(ds:List Nat):AA (lG ds)=ds:=by
 show(ds.map fun (D:Nat)=>ng .u64 (D:Int)).map aiu=ds
 rw[List.map_map]
 conv=>rhs;rw[<- List.map_id ds]
 exact Af λD _=>by simp[aiu]
structure AB(P:Program)(fv:Value)(np:Nat)(w:World)(round:List Value->World->(World->(g7)->Prop)->(Option Code->g7)->Prop)(after:Option Code->Nat->g7):Prop where
 ex:∃gf cap,fv=.func (.func gf) #[] cap/\Plain P gf/\∀L0:Loop,L0.state=.ready->L0.pending=none->
  (∀(args:List Value) (W:World) (K:Value->g7),args.length=np->W.heap[w.heap.size+1]?=some (.loop L0)->
   round args W (λw1 k=>w1.heap[w.heap.size+1]?=some (.loop L0)/\k (w1.putObj (w.heap.size+1) (.loop {L0 with state:=.busy})))
    (λj W'=>W'.heap[w.heap.size+1]?=some (.loop {L0 with state:=.busy})/\K (.bool j.isNone) (W'.putObj (w.heap.size+1) (.loop {L0 with state:=if j.isNone then .ready else .done,pending:=j})))->
   YieldAt (FO none) 0 P (w.heap.size+1) args.toArray W (tc K))->
  Calls P gf (#[.func (.yield (w.heap.size+1)) #[] #[]]++cap) ((w.alloc (.deferred (some []))).alloc (.loop L0))
   (tc λ_ W2=>∃st j,st≠.busy/\W2.heap[w.heap.size+1]?=some (.loop {L0 with state:=st,pending:=j})/\after j w.heap.size (W2.putObj (w.heap.size+1) (.loop {L0 with state:=.exhausted,pending:=j})))
abbrev dJ:=Nat->PT
def Lk(pl:dJ):Code->Bool
 | .region id _ true=>(pl id).many
 | .block _ c=>Lk pl c
 | .seq a b=>Lk pl a||Lk pl b
 | .cond _ a b=>Lk pl a||Lk pl b
 | _=>false
def drew(w:World):World:={w with drawn:=w.drawn+1}
def D(P:Program)(n:Nat)(pl:dJ)(rl:Nat):Code->List (Nat×Nat)->Nat->Dr->List Nat->Env->g7
 | .skip,_,_,Q,ds,e,w=>Q .normal ds e w
 | .ret,_,_,Q,ds,e,w=>Q .ret ds e w
 | .exit id,_,_,Q,ds,e,w=>Q (.exit id) ds e w
 | .region _ ops false,_,_,Q,ds,e,w=>DR P n ops.toList (ops.toList.map λo=>(o,[])) (Q .normal ds) [] e w
 | .region id ops true,_,_,Q,ds,e,w=>
  bif ops.toList.all (Ev n)&&(Hj ops.toList (Hm ops.toList)&&R2 P ops.toList (Hm ops.toList) false ops.toList.length 0 (pl id))then
   DT P n ops.toList (pl id) (Q .normal ds) [] e (drew w)
  else False
 | .seq a b,X,lo,Q,ds,e,w=>
  bif SE (nxC a) 1&&!Lk pl a then D P n pl rl a X (li rl b X lo) (tn (D P n pl rl b X lo Q) Q) ds e w
  else bif fG a then Ay (n::gm (Ix (iR a) (li rl b X lo)) n 0)
   (λK=>D P n pl rl a X (li rl b X lo) (tn (λds e w=>K (Am e n (lG ds)) w) Q) ds e w)
   (λbs w'=>∀dead,D P n pl rl b X lo Q (AA (lkv n bs undef)) (GU e (iR a) bs.tail dead) w')
  else Ay (gm (Ix (iR a) (li rl b X lo)) n 0)
   (λK=>D P n pl rl a X (li rl b X lo) (tn (λ_ e w=>K e w) Q) ds e w)
   (λbs w'=>∀dead,D P n pl rl b X lo Q ds (GU e (iR a) bs dead) w')
 | .cond c a b,X,lo,Q,ds,e,w=>yR (ev e c) (D P n pl rl a X lo Q ds e w) (D P n pl rl b X lo Q ds e w)
 | .block id c,X,lo,Q,ds,e,w=>D P n pl rl c ((id,lo)::X) lo (W5 id Q) ds e w
 | .loop c,X,_,Q,ds,e,w=>
  bif fG c then Az (n::gm (Ix (iR c) (li rl c X (li rl c X 0))) n 0)
   (λK bs w=>∀dead,D P n pl rl c X (li rl c X (li rl c X 0)) (tn (λds e w=>K (Am e n (lG ds)) w) Q) (AA (lkv n bs undef)) (GU e (iR c) bs.tail dead) w) (Am e n (lG ds)) w
  else Az (gm (Ix (iR c) (li rl c X (li rl c X 0))) n 0)
   (λK bs w=>∀dead,D P n pl rl c X (li rl c X (li rl c X 0)) (tn (λ_ e w=>K e w) Q) ds (GU e (iR c) bs dead) w) e w
 | .rangeFunc g ps u E,_,_,Q,ds,e,w=>
  bif ps.toList.all (λp=>aaB p n)&&(!fG u&&!fG E)then
   AB P (ev e g) ps.toList.length w
    (λargs W B K=>D P n pl 0 u [] (li 0 E [] 0) (tn (λG I M=>B M λJ=>D P n pl 0 E [] 0 (W6 K) G I J) λ_ _ _ _=>False) [] (Hn args ps.toList 0 e) W)
    (aft (λD w=>Q .normal (D::ds) e w) (λD w=>Q .ret (D::ds) e w) (bif outs [] E then(λid D w=>Q (.exit id) (D::ds) e w) elseλ_ _ _=>False))
  else False
 | _,_,_,_,_,_,_=>False
theorem W7{m d i:Nat}:bit (W3 m d) i=(bit m i||decide (i=d)):=by
 show(m ||| 1 <<< d).testBit i=_
 rw[TN,Sg,QA]
 unfold bit
 grind
theorem Pb{l:List Nat}{i:Nat}:bit (zA l) i=true↔i∈l:=by
 induction l with
 | nil=>simp[zA,bit]
 | cons d r u=>simp only[zA,W7,xr,u,decide_eq_true_eq,sk];grind
theorem Pc{l:List Nat}{e:Env}{i:Nat}:lkv i (jD l e) (e i)=e i:=by
 induction l with
 | nil=>rfl
 | cons a r u=>
  show(bif Ce a i then e a else lkv i (jD r e) (e i))=e i
  by_cases h:a=i
  .grind
  .rw[B9 h];exact u
theorem ye{e u:Env}{M:Nat}{l:List Nat}(h:∀i,bit M i=false->u i=e i):GU e M (jD l u) u=u:=by
 funext i
 unfold GU
 cases hb:bit M i with
 | true=>simp only[cond_true];exact Pc
 | false=>grind
theorem Ll{m:Nat}:∀(f i k:Nat),k∈gm m f i->k<i+f:=by
 intro f
 induction f with
 | zero=>intro i k h;cases h
 | succ f u=>
  grind[gm]
theorem Pd{l:List Nat}{n:Nat}{v:Value}{e:Env}(h:∀k∈l,k<n):jD l (Am e n v)=jD l e:=
 Af λk u=>by rw[oL _ _ (Nat.ne_of_lt (h k u))]
theorem Ho{l:List Nat}{n:Nat}{ds:List Nat}{e:Env}(h:∀k∈l,k<n):jD (n::l) (Am e n (lG ds))=(n,lG ds)::jD l e:=by
 show(n,Am e n (lG ds) n)::jD l (Am e n (lG ds))=_
 rw[nw,Pd h]
theorem R6{m n:Nat}:∀k∈gm m n 0,k<n:=λk u=>by have:=Ll n 0 k u;omega
def ux(n:Nat)(M:Nat)(b:Bool)(ds:List Nat)(e:Env)(Q:Dr):Exit->Act->g7:=
 λx E w'=>∃u B,ju u n B E/\(∀i,bit M i=false->B i=e i)/\(b=false->u=ds)/\Q x u B w'
theorem least{p:Nat->Prop}(h:∃m,p m):∃m,p m/\∀k,p k->m<=k:=by
 obtain⟨m,B⟩:=h
 induction m using Nat.strongRecOn with
 | _ m u=>
  grind
theorem I6{n:Nat}{args:List Value}:∀(ps:List Nat) (k:Nat) (e:Env) (a:Act),(∀p∈ps,p<n)->ju [] n e a->k+ps.length<=args.length->
  ju [] n (Hn args ps k e) {a with tmps:=(ps.zip (args.drop k)).foldl (λt (q:Nat×Value)=>t.setIfInBounds q.1 q.2) a.tmps}:=by
 intro ps
 induction ps with
 | nil=>simp_all[Env,Hn]
 | cons p ps E=>
  intro k e a G I J
  have B:k<args.length:=cJ
  have hd:args.drop k=Ez args k::args.drop (k+1):=by
   rw[List.drop_eq_getElem_cons B]
   congr 1
   clear E I J G
   induction args generalizing k with
   | nil=>simp at B
   | cons v r u=>cases k with
    | zero=>rfl
    | succ k=>exact u k cJ
  rw[hd]
  have h1:=I.put (d:=some p) (λk J=>by simp_all) (Ez args k)
  exact E (k+1) _ _ (λq M=>G q (pd _ M)) h1 cJ
theorem W8{P:Program}{n:Nat}{pl:dJ}{g:Operand}{ps:Array Tmp}{u E:Code}
  (ihA:∀(r:Option Nat) (rl:Nat) (X:List (Nat×Nat)) (lo:Nat) (Q:Dr) (ds:List Nat) (e:Env) (a:Act) (w:World),
   (r=none\/fG u=false)->ju ds n e a->D P n pl rl u X lo Q ds e w->u.wpIn (FO r) 0 P (ux n (iR u) (fG u) ds e Q) a w)
  (ihB:∀(r:Option Nat) (rl:Nat) (X:List (Nat×Nat)) (lo:Nat) (Q:Dr) (ds:List Nat) (e:Env) (a:Act) (w:World),
   (r=none\/fG E=false)->ju ds n e a->D P n pl rl E X lo Q ds e w->E.wpIn (FO r) 0 P (ux n (iR E) (fG E) ds e Q) a w)
  (rl:Nat) (X:List (Nat×Nat)) (lo:Nat) (Q:Dr) (ds:List Nat) (e:Env) (a:Act) (w:World) (O:ju ds n e a) (h:D P n pl rl (.rangeFunc g ps u E) X lo Q ds e w) :
  (Code.rangeFunc g ps u E).wpIn (FO none) 0 P (ux n 0 true ds e Q) a w:=by
 have h':(bif ps.toList.all (λp=>aaB p n)&&(!fG u&&!fG E)then
  AB P (ev e g) ps.toList.length w
   (λargs W B K=>D P n pl 0 u [] (li 0 E [] 0) (tn (λM e1 w1=>B w1 λw2=>D P n pl 0 E [] 0 (W6 K) M e1 w2) λ_ _ _ _=>False) [] (Hn args ps.toList 0 e) W)
   (aft (λD w=>Q .normal (D::ds) e w) (λD w=>Q .ret (D::ds) e w) (bif outs [] E then(λid D w=>Q (.exit id) (D::ds) e w) elseλ_ _ _=>False))
  else False):=h
 cases hc:(ps.toList.all (λp=>aaB p n)&&(!fG u&&!fG E))with
 | false=>grind
 | true=>
  rw[hc]at h'
  simp only[cond_true]at h'
  simp only[n3,sl]at hc
  obtain⟨hps,hA,hB⟩:=hc
  have avv:∀p∈ps.toList,p<n:=λp V=>Nat.blt_eq▸Fo.1 hps p V
  obtain⟨Z,cap,hfv,nU,GV⟩:=h'.ex
  refine wpIn_rangeFunc λfn _=>?_
  let L0:Loop:={state:=.ready,pending:=none,fn,tmps:=a.tmps,params:=ps,assign:=u,body:=E,defers:=w.heap.size}
  have hY:=GV L0 rfl rfl (λargs W K hlen hl EA=>?_)
  .have hC:=hY.mono (R':=rangePost (FO none) 0 P (w.heap.size+1) (ux n 0 true ds e Q) {a with defers:=[{target:=.collected w.heap.size,args:=#[]}]++a.defers}) (λx w3 hx=>?_)
   .have hC1:=(zx (r:=none) (n:=0)).2 hC
    refine⟨w.heap.size+1,[{target:=.collected w.heap.size,args:=#[]}],(w.alloc (.deferred (some []))).alloc (.loop L0),
     {target:=.fn (.func Z) cap,args:=#[.func (.yield (w.heap.size+1)) #[] #[]]},(w.alloc (.deferred (some []))).alloc (.loop L0),Z,#[.func (.yield (w.heap.size+1)) #[] #[]]++cap,
     (w.alloc (.deferred (some []))).alloc (.loop L0),run_enterLoop_outer ..,?_,λ_ _=>trivial,?_,Es,?_⟩
    rotate_left 2
    .exact hC1
    .have hg:a.eval g=.func (.func Z) #[] cap:=by rw[O.eval];exact hfv
     simp only[resolve,hg]
     simp[go_sem]
    .show(callFunc Z (#[.func (.yield (w.heap.size+1)) #[] #[]]++cap)).run P _=_
     exact Aq nU _ _
   ·
    obtain⟨v,rfl,st,j,iY,hl3,I⟩:=hx
    refine⟨j,_,run_endLoop hl3 bM,?_⟩
    have G:ju (w.heap.size::ds) n e {a with defers:=[{target:=.collected w.heap.size,args:=#[]}]++a.defers}:=⟨by rw[O.defers];rfl,O.size,O.get⟩
    cases j with
    | none=>exact⟨_,e,G,λ_ _=>rfl,λY=>(by cases Y),I⟩
    | some c=>
     cases c with
     | ret=>exact wpIn_ret ⟨_,e,G,λ_ _=>rfl,λY=>(by cases Y),I⟩
     | exit id=>
       have KS:(bif outs [] E then(λid D w=>Q (.exit id) (D::ds) e w) elseλ_ _ _=>False:Nat->Nat->g7) id w.heap.size _:=I
       cases ho:outs [] E with
       | true=>rw[ho]at KS;exact wpIn_exit ⟨_,e,G,λ_ _=>rfl,λY=>(by cases Y),KS⟩
       | false=>grind
     | _=>exact I.elim
  ·
   have nM:w.heap.size+1<W.heap.size:=(Ei.1 hl).1
   refine⟨fn,_,u,E,run_yield hl bM,roundIn_of_wpIn trivial ?_⟩
   have G:ju [] n (Hn args ps.toList 0 e) {tmps:=(ps.zip args.toArray).foldl (λt (q:Nat×Value)=>t.setIfInBounds q.1 q.2) a.tmps,defers:=[]}:=by
    have h0:ju [] n e {tmps:=a.tmps,defers:=[]}:=⟨rfl,O.size,O.get⟩
    have:=I6 ps.toList 0 e _ avv h0 (by simpa using zH hlen.symm)
    have e1:(ps.zip args.toArray).foldl (λt (q:Nat×Value)=>t.setIfInBounds q.1 q.2) a.tmps=(ps.toList.zip (args.drop 0)).foldl (λt (q:Nat×Value)=>t.setIfInBounds q.1 q.2) a.tmps:=by
     rw[<- Xm,Array.toList_zip];simp
    grind
   refine wpIn_mono (ihA (some (w.heap.size+1)) 0 [] _ _ [] _ _ W (.inr hA) G EA) λx a1 w1 V=>?_
   obtain⟨M,e1,ha1,_,W9,J⟩:=V
   cases x with
   | normal=>
    obtain⟨hl1,J⟩:=J
    refine⟨_,run_beginRound hl1 rfl,?_⟩
    refine wpIn_mono (ihB (some (w.heap.size+1)) 0 [] _ _ M e1 a1 _ (.inr hB) ha1 J) λx a2 w2 V=>?_
    obtain⟨ds2,e2,ha2,_,_,J⟩:=V
    cases x with
    | normal=>obtain⟨U,I⟩:=J;exact⟨_,_,run_endRound none U,_,rfl,I⟩
    | ret=>obtain⟨U,I⟩:=J;exact⟨_,_,run_endRound (some .ret) U,_,rfl,I⟩
    | exit id=>obtain⟨U,I⟩:=J;exact⟨_,_,run_endRound (some (.exit id)) U,_,rfl,I⟩
    | _=>exact J.elim
   | _=>exact J.elim
theorem acT{P:Program}{n:Nat}{pl:dJ}(hm:P.follows .mixedOrders=true) :
  ∀(c:Code) (r:Option Nat) (rl:Nat) (X:List (Nat×Nat)) (lo:Nat) (Q:Dr) (ds:List Nat) (e:Env) (a:Act) (w:World),
   (r=none\/fG c=false)->ju ds n e a->D P n pl rl c X lo Q ds e w->c.wpIn (FO r) 0 P (ux n (iR c) (fG c) ds e Q) a w:=by
 intro c
 induction c with
 | skip=>intro r rl X lo Q ds e a w _ W h;exact wpIn_skip ⟨ds,e,W,λ_ _=>rfl,λ_=>rfl,h⟩
 | ret=>intro r rl X lo Q ds e a w _ W h;exact wpIn_ret ⟨ds,e,W,λ_ _=>rfl,λ_=>rfl,h⟩
 | exit id=>intro r rl X lo Q ds e a w _ W h;exact wpIn_exit ⟨ds,e,W,λ_ _=>rfl,λ_=>rfl,h⟩
 | region id B draw=>
  intro r rl X lo Q ds e a w _ W h
  have hQ:∀(u:Env) (G:Act) (w':World),ju ds n u G->(∀k,k ∉ wr B.toList->u k=e k)->Q .normal ds u w'->ux n (iR (.region id B draw)) (fG (.region id B draw)) ds e Q .normal G w':=
   λu G w' I1 Y hq=>by
    refine⟨ds,u,I1,λi hi=>Y i λLj=>?_,λ_=>rfl,hq⟩
    have h1:bit (zA (wr B.toList)) i=true:=Pb.2 Lj
    have h2:bit (zA (wr B.toList)) i=false:=hi
    grind
  cases draw with
  | false=>
   have:=DR.region (r:=r) (id:=id) W hQ (show DR P n B.toList (B.toList.map λo=>(o,[])) (Q .normal ds) [] e w from h)
   omega
  | true=>
   have Z:(bif B.toList.all (Ev n)&&(Hj B.toList (Hm B.toList)&&R2 P B.toList (Hm B.toList) false B.toList.length 0 (pl id))then
    DT P n B.toList (pl id) (Q .normal ds) [] e (drew w)else False):=h
   cases hc:(B.toList.all (Ev n)&&(Hj B.toList (Hm B.toList)&&R2 P B.toList (Hm B.toList) false B.toList.length 0 (pl id)))with
   | false=>grind
   | true=>
    rw[hc]at Z
    simp only[n3]at hc
    obtain⟨h2,h3,h4⟩:=hc
    have hd:∀d∈wr B.toList,d<n:=λd hd=>by
     obtain⟨o,ho,Lg⟩:=QG.1 hd
     have:=Fo.1 h2 o ho
     unfold Ev at this
     simp_all
    have hz:(bit 0)=λ_=>false:=by funext i;simp[bit]
    have hws:=(acP (Q:=Q .normal ds) h3 (pl id) B.toList.length 0 [] e (drew w) (λi o hi=>cJ) (by constructor<;>simp) (DT.plain _ _ _ _ (ky.nil e) Z)).1 h4
    rw[hz]at hws
    have:=WS.region (r:=r) (id:=id) hm hd W hQ hws
    omega
 | seq M U ih1 ih2=>
  intro r rl X lo Q ds e a w hr W h
  have Cd:r=none\/fG M=false:=hr.imp id λh=>by grind[fG]
  have DU:r=none\/fG U=false:=hr.imp id λh=>by grind[fG]
  have key:∀(K:List Nat->Env->g7),D P n pl rl M X (li rl U X lo) (tn K Q) ds e w->
    (∀E u G w',ju E n u G->(∀i,bit (iR M) i=false->u i=e i)->(fG M=false->E=ds)->K E u w'->U.wpIn (FO r) 0 P (ux n (iR U) (fG U) E u Q) G w')->
    (Code.seq M U).wpIn (FO r) 0 P (ux n (iR (.seq M U)) (fG (.seq M U)) ds e Q) a w:=by
   intro K hK hk
   refine wpIn_seq (wpIn_mono (ih1 r rl X _ _ ds e a w Cd W hK) λx G w' hp=>?_)
   obtain⟨E,u,I1,Y,O,hq⟩:=hp
   have hor:∀i,bit (iR (.seq M U)) i=false->bit (iR M) i=false/\bit (iR U) i=false:=λi hi=>by
    simp_all[bit,iR]
   have hrf:fG (.seq M U)=false->fG M=false/\fG U=false:=λhh=>by
    grind[fG]
   cases x with
   | normal=>
    refine wpIn_mono (hk E u G w' I1 Y O hq) λx2 a2 w2 Wx=>?_
    grind[ux,iR,fG]
   | _=>exact⟨E,u,I1,λi hi=>Y i (hor i hi).1,λhh=>O (hrf hh).1,hq⟩
  have Z:(bif SE (nxC M) 1&&!Lk pl M then D P n pl rl M X (li rl U X lo) (tn (D P n pl rl U X lo Q) Q) ds e w
   else bif fG M then Ay (n::gm (Ix (iR M) (li rl U X lo)) n 0)
    (λK=>D P n pl rl M X (li rl U X lo) (tn (λds e w=>K (Am e n (lG ds)) w) Q) ds e w)
    (λbs w'=>∀dead,D P n pl rl U X lo Q (AA (lkv n bs undef)) (GU e (iR M) bs.tail dead) w')
   else Ay (gm (Ix (iR M) (li rl U X lo)) n 0)
    (λK=>D P n pl rl M X (li rl U X lo) (tn (λ_ e w=>K e w) Q) ds e w)
    λbs w'=>∀dead,D P n pl rl U X lo Q ds (GU e (iR M) bs dead) w'):=h
  cases hc:(SE (nxC M) 1&&!Lk pl M)with
  | true=>
   grind
  | false=>
   rw[hc]at Z
   simp only[cond_false]at Z
   cases hc2:fG M with
   | false=>
    rw[hc2]at Z
    simp only[cond_false]at Z
    obtain⟨I,h1,h2⟩:=Ay.spec Z
    refine key _ h1 λE u G w' I1 Y O hk=>?_
    have:=h2 u w' hk u
    rw[ye Y]at this
    grind
   | true=>
    rw[hc2]at Z
    simp only[cond_true]at Z
    obtain⟨I,h1,h2⟩:=Ay.spec Z
    refine key _ h1 λE u G w' I1 Y O hk=>?_
    have:=h2 (Am u n (lG E)) w' hk u
    rw[Ho R6]at this
    rw[show((n,lG E)::jD (gm (Ix (iR M) (li rl U X lo)) n 0) u).tail=jD (gm (Ix (iR M) (li rl U X lo)) n 0) u from rfl,ye Y,
     show lkv n ((n,lG E)::jD (gm (Ix (iR M) (li rl U X lo)) n 0) u) undef=lG E by show(bif Ce n n then lG E else _)=_;simp_all,Cc]at this
    grind
 | cond c M U ih1 ih2=>
  intro r rl X lo Q ds e a w hr W h
  obtain⟨t,ht,hA,hB⟩:=(show yR (ev e c) (D P n pl rl M X lo Q ds e w) (D P n pl rl U X lo Q ds e w)from h).ex
  have hor:∀i,bit (iR (.cond c M U)) i=false->bit (iR M) i=false/\bit (iR U) i=false:=λi hi=>by
   simp_all[bit,iR]
  have hrf:fG (.cond c M U)=false->fG M=false/\fG U=false:=λhh=>by
   grind[fG]
  refine wpIn_cond_split (t:=t) (by rw[W.eval];exact ht) (λh1=>?_) (λh1=>?_)
  .exact wpIn_mono (ih1 r rl X lo Q ds e a w (hr.imp id λh=>(hrf h).1) W (hA h1)) λx G w' ⟨E,u,I1,Y,O,hq⟩=>⟨E,u,I1,λi hi=>Y i (hor i hi).1,λhh=>O (hrf hh).1,hq⟩
  .exact wpIn_mono (ih2 r rl X lo Q ds e a w (hr.imp id λh=>(hrf h).2) W (hB h1)) λx G w' ⟨E,u,I1,Y,O,hq⟩=>⟨E,u,I1,λi hi=>Y i (hor i hi).2,λhh=>O (hrf hh).2,hq⟩
 | block id c ih=>
  intro r rl X lo Q ds e a w hr W h
  refine wpIn_block (wpIn_mono (ih r rl _ _ _ ds e a w hr W h) λx G w' hp=>?_)
  obtain⟨E,u,I1,Y,O,hq⟩:=hp
  cases x with
  | exit k=>
   simp only[Exit.inBlock]
   simp only[W5]at hq
   by_cases hk:k=id
   .subst hk
    rw[Eu]at hq
    grind[ux,iR,fG]
   .rw[B9 hk]at hq
    grind[ux,iR,fG]
  | _=>exact⟨E,u,I1,Y,O,hq⟩
 | loop c ih=>
  intro r rl X lo Q ds e a w hr W h
  have key:∀(V:List Nat->Env->List (Nat×Value)) (I:Nat->List (Nat×Value)->g7),(∃m,I m (V ds e) w)->
    (∀m E u w',(∀i,bit (iR c) i=false->u i=e i)->(fG c=false->E=ds)->I m (V E u) w'->D P n pl rl c X (li rl c X (li rl c X 0)) (tn (λds2 e2 w2=>∃m',m'<m/\I m' (V ds2 e2) w2) Q) E u w')->
    (Code.loop c).wpIn (FO r) 0 P (ux n (iR (.loop c)) (fG (.loop c)) ds e Q) a w:=by
   intro V I ⟨m,h1⟩ h2
   let Inv:Nat->Act->g7:=λm G w'=>∃E u,ju E n u G/\(∀i,bit (iR c) i=false->u i=e i)/\(fG c=false->E=ds)/\I m (V E u) w'
   have body:∀m G w',Inv m G w'->c.wpIn (FO r) 0 P (Exit.then (λa2 w2=>∃m',m'<m/\Inv m' a2 w2) (ux n (iR (.loop c)) (fG (.loop c)) ds e Q)) G w':=by
    rintro m G w' ⟨E,u,I1,Y,O,hi⟩
    refine wpIn_mono (ih r rl X _ _ E u G w' hr I1 (h2 m E u w' Y O hi)) λx a2 w2 hp=>?_
    obtain⟨ds2,e2,ha2,hf2,avz,hq⟩:=hp
    have hfe:∀i,bit (iR c) i=false->e2 i=e i:=λi hi=>(hf2 i hi).trans (Y i hi)
    have anA:fG c=false->ds2=ds:=λhh=>(avz hh).trans (O hh)
    cases x with
    | normal=>obtain⟨m',hm',Pe⟩:=hq;exact⟨m',hm',ds2,e2,ha2,hfe,anA,Pe⟩
    | _=>exact⟨ds2,e2,ha2,hfe,anA,hq⟩
   classical
   let J:Act->g7:=λG w'=>∃m,Inv m G w'
   let μ:Act->World->Nat:=λG w'=>if h:∃m,Inv m G w' then abQ (least h)else 0
   have hμ:∀G w',J G w'->Inv (μ G w') G w'/\∀k,Inv k G w'->μ G w'<=k:=λG w' hj=>by
    grind
   refine wpIn_loop J μ ⟨m,ds,e,W,λ_ _=>rfl,λ_=>rfl,h1⟩ λG w' hj=>?_
   refine wpIn_mono (body _ G w' (hμ G w' hj).1) λx a2 w2 hp=>?_
   cases x with
   | normal=>
    obtain⟨m',hm',Pe⟩:=hp
    exact⟨⟨m',Pe⟩,Nat.lt_of_le_of_lt ((hμ a2 w2 ⟨m',Pe⟩).2 m' Pe) hm'⟩
   | _=>exact hp
  have Z:(bif fG c then Az (n::gm (Ix (iR c) (li rl c X (li rl c X 0))) n 0)
    (λK bs w=>∀dead,D P n pl rl c X (li rl c X (li rl c X 0)) (tn (λds e w=>K (Am e n (lG ds)) w) Q) (AA (lkv n bs undef)) (GU e (iR c) bs.tail dead) w) (Am e n (lG ds)) w
   else Az (gm (Ix (iR c) (li rl c X (li rl c X 0))) n 0)
    (λK bs w=>∀dead,D P n pl rl c X (li rl c X (li rl c X 0)) (tn (λ_ e w=>K e w) Q) ds (GU e (iR c) bs dead) w) e w):=h
  cases hc:fG c with
  | false=>
   rw[hc]at Z
   simp only[cond_false]at Z
   obtain⟨I,h1,h2⟩:=Az.spec Z
   rw[show fG (.loop c)=fG c from rfl]at key
   have:=key (λ_ e=>jD (gm (Ix (iR c) (li rl c X (li rl c X 0))) n 0) e) I h1 λm E u w' Y O hi=>by
    have:=h2 m u w' hi u
    rw[ye Y]at this
    grind
   exact this
  | true=>
   rw[hc]at Z
   simp only[cond_true]at Z
   obtain⟨I,h1,h2⟩:=Az.spec Z
   refine key (λds e=>jD (n::gm (Ix (iR c) (li rl c X (li rl c X 0))) n 0) (Am e n (lG ds))) I h1 λm E u w' Y O hi=>?_
   have:=h2 m (Am u n (lG E)) w' hi u
   rw[Ho R6]at this
   rw[show((n,lG E)::jD (gm (Ix (iR c) (li rl c X (li rl c X 0))) n 0) u).tail=jD (gm (Ix (iR c) (li rl c X (li rl c X 0))) n 0) u from rfl,ye Y,
    show lkv n ((n,lG E)::jD (gm (Ix (iR c) (li rl c X (li rl c X 0))) n 0) u) undef=lG E by show(bif Ce n n then lG E else _)=_;simp_all,Cc]at this
   exact this
 | rangeFunc g ps asx bd ihA ihB=>
  intro r rl X lo Q ds e a w hr W h
  have GJ:r=none:=hr.resolve_right (by simp[fG])
  subst GJ
  exact W8 ihA ihB rl X lo Q ds e a w W h
 | _=>intro r rl X lo Q ds e a w _ W h;exact h.elim
def Pf(P:Program):List ResultVar->Env->(List Value->Prop)->g7
 | [],_,K,_=>K []
 | .tmp t::r,e,K,w=>Pf P r e (λvs=>K (e t::vs)) w
 | .cell a t::r,e,K,w=>KQ P (x6 t (e a)) w (λv=>Pf P r e (λvs=>K (v::vs)) w)
def Xa:List Value->Value
 | [v]=>v
 | vs=>.tuple vs.toArray
def mQ:List Nat->World->(g7)->Prop
 | [],w,K=>K w
 | D::r,w,K=>w.heap[D]?=some (.deferred (some []))/\mQ r (w.putObj D (.deferred none)) K
def Pg(P:Program)(rs:List ResultVar)(K:Value->g7):Dr
 | .normal,ds,e,w=>mQ ds w λw=>Pf P rs e (λvs=>K (Xa vs) w) w
 | .ret,ds,e,w=>mQ ds w λw=>Pf P rs e (λvs=>K (Xa vs) w) w
 | _,_,_,_=>False
def Ds:List Value->Env
 | [],_=>undef
 | v::_,0=>v
 | _::r,n+1=>Ds r n
theorem Xb(l:List Value)(i:Nat):Ds l i=l.getD i undef:=by
 induction l generalizing i with
 | nil=>simp[Ds]
 | cons v r u=>cases i with
  | zero=>rfl
  | succ i=>simp[Ds,u]
def Uv(tmps:Array Value):ResultVar->Sem Value
 | .tmp t=>pure (tmps.getD t undef)
 | .cell a t=>do loadVar t (<- asAddr (tmps.getD a undef))
theorem I7{P:Program}{t:TypeId}{v u:Value}{w:World}(h:(x6 t v).run P w=.ok u w):(do loadVar t (<- asAddr v):Sem Value).run P w=.ok u w:=by
 cases v with
 | pointer a=>cases a with
  | none => exact absurd (show(Result.halt (.stuck "an address expected (no nilCheck in front?)") w : Result Value)=.ok u w from h) ee
  | some a=>exact h
 | _ => exact absurd (show(Result.halt (.stuck "an address expected (no nilCheck in front?)") w : Result Value)=.ok u w from h) ee
theorem Xc{P:Program}{ds:List Nat}{n:Nat}{e:Env}{a:Act}(E:ju ds n e a):∀(rs:List ResultVar) (K:List Value->Prop) (w:World),Pf P rs e K w->
  ∃vs,(rs.mapM (Uv a.tmps)).run P w=.ok vs w/\K vs:=by
 intro rs
 induction rs with
 | nil=>intro K w h;exact⟨[],rfl,h⟩
 | cons r rs G=>
  intro K w h
  have step:∀v,(Uv a.tmps r).run P w=.ok v w->Pf P rs e (λvs=>K (v::vs)) w->∃vs,((r::rs).mapM (Uv a.tmps)).run P w=.ok vs w/\K vs:=by
   intro v B u
   obtain⟨vs,h1,h2⟩:=G _ w u
   simp_all
  cases r with
  | tmp t=>exact step (e t) (by rw[<- E.get t];rfl) h
  | cell c t=>
   obtain⟨v,B,u⟩:=h.ex
   refine step v ?_ u
   show(do loadVar t (<- asAddr (a.tmps.getD c undef)):Sem Value).run P w=_
   rw[E.get c]
   exact I7 B
theorem Lm{P:Program}{u:Func}{rs:List ResultVar}(B:u.results=rs.toArray){tmps:Array Value}{w:World}{vs:List Value}
  (h:(rs.mapM (Uv tmps)).run P w=.ok vs w):(results u tmps).run P w=.ok (Xa vs) w:=by
 have e:results u tmps=(rs.toArray.mapM (Uv tmps) >>= λvs=>pure (if h:vs.size=1 then vs[0]else .tuple vs)):=by
  unfold results;rw[B];rfl
 rw[e,List.mapM_toArray]
 have h1:(Functor.map (λa=>a.toArray) (rs.mapM (Uv tmps))).run P w=.ok vs.toArray w:=by
  simp_all
 rw[eJ h1]
 show Result.ok _ w=Result.ok _ w
 congr 1
 match vs with
 | []=>rfl
 | [v]=>rfl
 | a::b::r=>simp[Xa]
theorem I8{P:Program}{u:Func}{tmps:Array Value}{R:Ending->g7}:∀(ds:List Nat) (w:World),mQ ds w (λw'=>∃v,(results u tmps).run P w'=.ok v w'/\R (.returned v) w')->
  LeavesInM (FO none) 0 P u tmps R (ds.map mark) .returning w:=by
 intro ds
 induction ds with
 | nil=>intro w ⟨v,h1,h2⟩;exact⟨v,h1,h2⟩
 | cons D r B=>intro w h;exact⟨ee,.inl ⟨D,_,rfl,run_takeDeferred h.1,B _ h.2⟩⟩
theorem mQ.mono{ds:List Nat}{K u:g7}(E:∀w,K w->u w):∀{w:World},mQ ds w K->mQ ds w u:=by
 induction ds with
 | nil=>intro w h;exact E w h
 | cons D r B=>intro w h;exact⟨h.1,B h.2⟩
theorem EB{P:Program}{n:Nat}{pl:dJ}{rl:Nat}{f:FuncId}{u:Func}{c:Code}{rs:List ResultVar}{args:List Value}{w:World}{K:Value->g7}
  (M:P.follows .mixedOrders=true) (W:P.funcs[f]?=some u) (hb:u.body=some c) (hn:u.ntmps=n) (U:u.results=rs.toArray) (V:args.length<=n)
  (h:D P n pl rl c [] rl (Pg P rs K) [] (Ds args) w):Calls P f args.toArray w (tc K):=by
 refine zx.1 (callsIn_of_wp_marks (F:=FO none) (n:=0) W hb trivial ?_)
 have ha:ju [] n (Ds args) {tmps:=args.toArray++Array.replicate (u.ntmps-args.toArray.size) undef,defers:=[]}:=by
  refine⟨rfl,cJ,λi=>?_⟩
  rw[Xb,Dm,Array.getElem?_append]
  grind
 refine wpIn_mono (acT M c none rl [] rl _ [] _ _ w (.inl rfl) ha h) λx I w' O=>?_
 obtain⟨G,Z,J,_,_,B⟩:=O
 have E:mQ G w' (λw=>Pf P rs Z (λvs=>K (Xa vs) w) w)->LeavesInM (FO none) 0 P u I.tmps (tc K) I.defers .returning w':=λB=>by
  rw[J.defers]
  refine I8 G w' (B.mono λY h1=>?_)
  obtain⟨vs,h1,h2⟩:=Xc J rs _ Y h1
  exact⟨_,Lm U h1,_,rfl,h2⟩
 cases x with
 | normal=>exact E B
 | ret=>exact E B
 | _=>exact B.elim
def okD{P:Program}{n:Nat}{pl:dJ}{rl:Nat}{f:FuncId}{u:Func}{c:Code}{rs:List ResultVar}{args:List Value}{w:World}{K:Value->g7}{S:Prop}
  (J:P.funcs[f]?=some u) (hb:u.body=some c) (G:u.ntmps=n) (I:u.results=rs.toArray) (E:P.follows .mixedOrders=true) (B:args.length<=n)
  (e:D P n pl rl c [] rl (Pg P rs K) [] (Ds args) w=S) (h:S):Calls P f args.toArray w (tc K):=EB E J hb G I B (e.mpr h)
def okE{P:Program}(n:Nat)(pl:dJ)(rl:Nat)(rs:List ResultVar){f:FuncId}{u:Func}{args:List Value}{w:World}{K:Value->g7}{S:Prop}
  (J:P.funcs[f]?=some u) (hb:u.body=some (u.body.getD .skip)) (G:u.ntmps=n) (I:u.results=rs.toArray) (E:P.follows .mixedOrders=true) (B:args.length<=n)
  (e:D P n pl rl (u.body.getD .skip) [] rl (Pg P rs K) [] (Ds args) w=S) (h:S):Calls P f args.toArray w (tc K):=okD J hb G I E B e h
theorem okZ{P:Program}(n:Nat)(pl:dJ)(rl:Nat)(rs:List ResultVar){f:FuncId}{u:Func}{args:List Value}{w:World}{K:Value->g7}{S:Prop}
  (E:P.funcs[f]?=some u) (B:P.follows .mixedOrders=true) (hc:(u.body.isSome,u.ntmps,u.results,SE args.length n)=(true,n,rs.toArray,true))
  (e:D P n pl rl (u.body.getD .skip) [] rl (Pg P rs K) [] (Ds args) w=S) (h:S):Calls P f args.toArray w (tc K):=by
 have h1:u.body.isSome=true:=fM (λx=>x.1) hc
 have h2:u.ntmps=n:=fM (λx=>x.2.1) hc
 have h3:u.results=rs.toArray:=fM (λx=>x.2.2.1) hc
 have h4:SE args.length n=true:=fM (λx=>x.2.2.2) hc
 have h5:u.body=some (u.body.getD .skip):=by
  cases hb:u.body with
  | none=>rw[hb]at h1;cases h1
  | some c=>rfl
 exact okD E h5 h2 h3 B (CU h4) e h
def dL{P : Program}{f : FuncId}{u : Func}(B : P.funcs[f]?=some u)(h : (u.name == "runtime.NumGoroutine", u.body.isNone)=(false, false) := by kernel_rfl) : Plain P f := ⟨u, B, fM (λx => x.1) h, fM (λx => x.2) h⟩
def vb{a b:Bool}(h:a=b):xc a=xc b:=fM _ h
def OU{p:Prop}[Decidable p](h:p):xc true=xc (decide p):=vb (ew h).symm
def Xd{p:Prop}[Decidable p](h:¬ p):xc false=xc (decide p):=vb (ez h).symm
def yJ{p q:Prop}[Decidable p][Decidable q](h:p↔q):xc (decide p)=xc (decide q):=vb (e8.2 h)
end Go.Fw
namespace Go.Proofs.YtpdlpabnlkofmaaGreatDoor
open Go.Fw
variable (w:World) (K:Value->g7)
abbrev i(n:Int):Value:=.int .i64 n
abbrev tt:Value:=.bool true
abbrev ff:Value:=.bool false
abbrev fA(T:Nat)(v:Value)(f:Nat)(K:Value->Prop):Prop:=eT g6 (Fp T v f) K
abbrev iA(T:Nat)(v j:Value)(K:Value->Prop):Prop:=eT g6 (FP T v j) K
abbrev lA(T:Nat)(p:Value)(w:World)(K:Value->Prop):Prop:=KQ g6 (x6 T p) w K
abbrev sA(T:Nat)(p v:Value)(w:World)(K:g7):Prop:=Wu g6 (Ka T p v) w K
abbrev bA(o:BinOp)(T:Nat)(x y:Value)(K:Value->Prop):Prop:=eT g6 (jU o T false false x y) K
abbrev bB(o:BinOp)(T:Nat)(x y:Value)(K:Value->Prop):Prop:=eT g6 (jU o T false true x y) K
abbrev bC(o:BinOp)(T:Nat)(x y:Value)(K:Value->Prop):Prop:=eT g6 (jU o T true false x y) K
abbrev cF(f:Nat)(args:List Value)(w:World)(K:Value->g7):Prop:=CZ g6 f args w K
abbrev nC(v:Value)(K:Value->Prop):Prop:=eT g6 (Uo v) K
abbrev lN(T:Nat)(v:Value)(K:Value->Prop):Prop:=eT g6 (Builtin.len_ #[T] 3 [v].toArray) K
abbrev aL(T:Nat)(w:World)(K:Value->g7):Prop:=qW g6 (Qj T true (.tuple #[])) w K
abbrev xT(v:Value)(k:Nat)(K:Value->Prop):Prop:=eT g6 (Ti v k) K
abbrev kA(T:Nat)(p v:Value)(w:World)(R:Prop):Prop:=RV g6 (x6 T p) v w R
abbrev aP(T:Nat)(a b:Value)(w:World)(K:Value->g7):Prop:=qW g6 (Builtin.append_ #[T,T] T [a,b].toArray) w K
abbrev bS(T n:Nat)(l:List (Nat×Value))(w:World)(K:Value->g7):Prop:=qW g6 (K9 T n l.toArray) w K
abbrev cV(v:Value)(a b:Prop):Prop:=yR v a b
noncomputable abbrev PG:Program:=g6
abbrev CR(n:Nat)(a:List Value)(w:World)(K:Value->g7):Prop:=Calls g6 n a.toArray w (tc K)
abbrev PL(n:Nat):Prop:=Plain g6 n
theorem mixed:Tryz.prog.follows .mixedOrders=true:=by kernel_rfl
theorem qm(n:Nat)(pl:dJ)(rl:Nat)(rs:List ResultVar){f:FuncId}{u:Func}{args:List Value}{w:World}{K:Value->g7}{S:Prop}
  (B:PG.funcs[f]?=some u) (h:S) (hc:(u.body.isSome,u.ntmps,u.results,SE args.length n)=(true,n,rs.toArray,true):=by kernel_rfl)
  (e:D PG n pl rl (u.body.getD .skip) [] rl (Pg PG rs K) [] (Ds args) w=S:=by kernel_rfl):CR f args w K:=okZ n pl rl rs B mixed hc e h
def Uw:List ResultVar->Nat
 | []=>0
 | .tmp t::r=>W3 (Uw r) t
 | .cell a _::r=>W3 (Uw r) a
theorem py{f:FuncId}{u:Func}(B:Tryz.prog.funcs[f]?=some u){args:List Value}{w:World}{K:Value->g7}{pl:dJ}
  (h:D g6 u.ntmps pl (Uw u.results.toList) (u.body.getD .skip) [] (Uw u.results.toList) (Pg g6 u.results.toList K) [] (Ds args) w)
  (hc:(u.body.isSome,SE args.length u.ntmps)=(true,true):=by kernel_rfl):Calls g6 f args.toArray w (tc K):=by
 have h1:u.body.isSome=true:=fM (λx=>x.1) hc
 have h5:u.body=some (u.body.getD .skip):=by
  cases hb:u.body with
  | none=>rw[hb]at h1;cases h1
  | some c=>rfl
 exact EB mixed B h5 rfl ee (CU (fM (λx=>x.2) hc)) h
theorem eZ{f:FuncId}{u:Func}(B:Tryz.prog.funcs[f]?=some u){args:List Value}{w:World}{K:Value->g7}
  (h:D g6 u.ntmps (λ_=>.nil) (Uw u.results.toList) (u.body.getD .skip) [] (Uw u.results.toList) (Pg g6 u.results.toList K) [] (Ds args) w)
  (hc:(u.body.isSome,SE args.length u.ntmps)=(true,true):=by kernel_rfl):Calls g6 f args.toArray w (tc K):=py B h hc
def P11:dJ:=λi=>match i with
 | 1=>(.op 0 [] (.op 1 [] (.op 3 [] (.op 4 [] (.op 6 [] (.op 7 [] (.op 9 [] (.op 10 [] (.alt 2 [4,7,10] (.alt 5 [7,10] (.alt 8 [10] (.alt 11 [] (.of [(12,[]),(13,[1,4,7,10]),(14,[])]) (.alt 13 [1,4,7,10] (.of [(11,[]),(12,[]),(14,[])]) .stop)) (.alt 13 [1,4,7,10] (.of [(8,[10]),(11,[]),(12,[]),(14,[])]) .stop)) (.alt 13 [1,4,7,10] (.of [(5,[7,10]),(8,[10]),(11,[]),(12,[]),(14,[])]) .stop)) (.alt 13 [1,4,7,10] (.of [(2,[4,7,10]),(5,[7,10]),(8,[10]),(11,[]),(12,[]),(14,[])]) .stop))))))))))
 | 5=>(.of [(0,[]),(1,[]),(2,[]),(3,[]),(4,[]),(5,[]),(6,[]),(7,[1]),(8,[1]),(9,[]),(10,[]),(11,[])])
 | 9=>(.of [(0,[]),(1,[]),(2,[]),(3,[]),(4,[]),(5,[]),(6,[]),(7,[]),(9,[]),(10,[]),(11,[]),(12,[]),(13,[]),(14,[]),(8,[1,10,14]),(15,[]),(16,[1]),(17,[]),(18,[]),(19,[])])
 | _=>.nil
def P19:dJ:=λi=>match i with
 | 6=>.run 0 51
 | _=>.nil
def P46:dJ:=λi=>match i with
 | 5=>(.op 0 [] (.op 1 [] (.op 2 [] (.op 3 [] (.op 4 [] (.op 5 [] (.op 6 [] (.op 7 [] (.op 8 [] (.op 9 [] (.op 10 [] (.op 11 [] (.op 12 [] (.op 13 [] (.op 14 [] (.op 15 [] (.op 16 [] (.op 17 [] (.op 18 [] (.op 19 [] (.op 20 [] (.op 21 [] (.op 22 [] (.alt 23 [4,9,17] (.of [(24,[]),(25,[4,9,17,22]),(26,[])]) (.alt 25 [4,9,17,22] (.of [(23,[4,9,17]),(24,[]),(26,[])]) .stop)))))))))))))))))))))))))
 | 9=>(.of [(0,[]),(1,[]),(2,[]),(3,[]),(4,[]),(5,[]),(6,[]),(7,[]),(8,[]),(9,[]),(10,[]),(11,[]),(12,[]),(13,[]),(14,[]),(15,[]),(16,[]),(17,[]),(18,[]),(19,[]),(20,[]),(21,[1]),(22,[]),(23,[]),(24,[])])
 | _=>.nil
def S57(p0:Value):Prop:=
 qW g6 (yB 27 p0) w λp1 a=>lA 27 p1 a λb=>cF 118 [b] a λc d=>eT g6 (Op.unary .not c) λe=>cV e (K (.tuple #[(i 8),(i 0)]) d) (lA 27 p1 d λf=>
 cF 119 [f] d λg h=>cV g (K (.tuple #[(i 2),(i 0)]) h) (lA 27 p1 h λj=>cF 120 [j] h λk l=>kG (λK1 i5 n=>∀_:Env,
 lN 24 k λo=>bA .lss 3 i5 o λp=>cV p (iA 24 k i5 λq=>fA 146 q 2 λr=>lA 141 r n λs=>cF 121 [s,(i 1)] n λt u=>bB .geq 3 t (i 0) λv=>cV v (K (.tuple #[(i 11),t]) u) (
 bB .add 3 i5 (i 1) λx=>K1 x u)) (lA 27 p1 n λy=>cF 122 [y] n λz aa=>bB .geq 3 z (i 0) λab=>cV ab (K (.tuple #[(i 10),z]) aa) (kG (λK2 J ac=>∀_:Env,
 lN 24 k λad=>bA .lss 3 J ad λae=>cV ae (kG (λK3 U M=>∀_:Env,
 iA 24 k J λag=>fA 146 ag 1 λah=>lA 91 ah M λai=>lN 91 ai λaj=>bA .lss 3 U aj λak=>cV ak (iA 24 k J λal=>fA 146 al 1 λam=>lA 91 am M λan=>iA 91 an U λao=>
 lA 9 ao M λZ=>eS (λK4=>iA 24 k J λaq=>fA 146 aq 1 λar=>lA 91 ar M λasx=>cF 123 [asx,Z] M λau av=>bA .lss 3 au U λaw=>cV aw (K4 tt av) (lA 27 p1 av λax=>
 cF 124 [ax] av λay az=>cF 123 [ay,Z] az λa0 a1=>bB .geq 3 a0 (i 0) λa2=>cV a2 (K4 tt a1) (lA 27 p1 a1 λa3=>cF 125 [a3] a1 λa4 a5=>cF 123 [a4,Z] a5 λa6 a7=>
 bB .geq 3 a6 (i 0) λa8=>K4 a8 a7))) (λa9 W=>∀_:Env,
 cV a9 (iA 24 k J λbb=>fA 146 bb 3 λbc=>lA 3 bc (drew W) λbd=>K (.tuple #[(i 10),bd]) (drew W)) (bB .add 3 U (i 1) λbe=>K3 be W))) (bB .add 3 J (i 1) λbf=>
 K2 bf M)) λK3=>K3 (i 0) ac) (kG (λY B V=>∀_:Env,
 lN 24 k λbh=>bA .lss 3 B bh λbi=>cV bi (kG (λK6 G E=>∀_:Env,
 iA 24 k B λbk=>fA 146 bk 2 λbl=>lA 141 bl E λbm=>lN 141 bm λbn=>bA .lss 3 G bn λbo=>cV bo (lA 27 p1 (drew E) λbp=>iA 24 k B λbq=>lA 146 bq (drew E) λbr=>
 iA 24 k B λbs=>fA 146 bs 2 λbt=>lA 141 bt (drew E) λbu=>iA 141 bu G λbv=>lA 193 bv (drew E) λbw=>cF 126 [bp,br,bw] (drew E) λbx bz=>bB .geq 3 bx (i 0) λb0=>
 cV b0 (K (.tuple #[(i 9),bx]) bz) (bB .add 3 G (i 1) λb1=>K6 b1 bz)) (bB .add 3 B (i 1) λb2=>Y b2 E)) λK6=>K6 (i 0) V) (lA 27 p1 (drew V) λb3=>lA 27 p1 (drew V) λb4=>
 cF 124 [b3] (drew V) λb5 b6=>kA 27 p1 b4 b6 (cF 62 [b4] b6 λb7 b8=>eT g6 (nT 91 b5 none (some b7) none) λb9=>kG (λK7 I O=>∀_:Env,
 fA 27 p1 5 λcb=>lA 25 cb O λcc=>lN 25 cc λcd=>bA .lss 3 I cd λce=>cV ce (fA 27 p1 5 λcf=>lA 25 cf O λcg=>iA 25 cg I λch=>fA 85 ch 0 λci=>lA 82 ci O λcj=>
 cF 127 [cj,b9] O λck cl=>bB .geq 3 ck (i 0) λcm=>cV cm (K (.tuple #[(i 9),ck]) cl) (bB .add 3 I (i 1) λcn=>K7 cn cl)) (K (.tuple #[(i 0),(i 0)]) O)) λK7=>K7 (i 0) b8)))
 λY=>Y (i 0) ac)) λK2=>K2 (i 0) aa))) λK1=>K1 (i 0) l))
def P57:dJ:=λi=>match i with
 | 23=>.run 0 7
 | 30=>.run 0 15
 | 33=>(.of [(0,[]),(2,[]),(1,[2]),(3,[]),(4,[]),(5,[])])
 | _=>.nil
theorem aiv(p0:Value)(h:S57 w K p0):CR 57 [p0] w K:=
 qm 150 P57 12 [.tmp 2,.tmp 3] Tryz.func57 h
def S61(E I J:Value):Prop:=
 eS (λM=>lN 41 E λa=>lN 41 J λb=>bA .neq 3 a b λc=>cV c (M tt w) (lN 41 E λd=>bB .gtr 3 d (i 20) λe=>cV e (M tt w) (bB .lss 3 I (i 0) λf=>
 cV f (M tt w) (lN 41 E λg=>bA .gtr 3 I g λh=>M h w)))) (λj k=>∀_:Env,
 cV j (K (.tuple #[(.pointer none),(i 1)]) k) (kG (λK2 B l=>∀_:Env,
 bA .lss 3 B I λn=>cV n (eS (λG=>bB .eql 3 B (i 0) λo=>cV o (iA 41 E (i 0) λp=>lA 3 p (drew l) λq=>bB .neq 3 q (i 0) λr=>cV r (G tt (drew l)) (
 bB .gtr 3 B (i 0) λs=>cV s (iA 41 E B λt=>lA 3 t (drew l) λu=>bB .sub 3 B (i 1) λv=>iA 41 E v λx=>lA 3 x (drew l) λy=>bA .neq 3 u y λz=>cV z (iA 41 E B λaa=>
 lA 3 aa (drew l) λab=>bB .sub 3 B (i 1) λac=>iA 41 E ac λad=>lA 3 ad (drew l) λae=>bB .add 3 ae (i 1) λaf=>bA .neq 3 ab af λag=>G ag (drew l)) (G ff (drew l))) (
 G ff (drew l)))) (bB .gtr 3 B (i 0) λah=>cV ah (iA 41 E B λai=>lA 3 ai (drew l) λaj=>bB .sub 3 B (i 1) λW=>iA 41 E W λal=>lA 3 al (drew l) λam=>bA .neq 3 aj am λan=>
 cV an (iA 41 E B λao=>lA 3 ao (drew l) λap=>bB .sub 3 B (i 1) λaq=>iA 41 E aq λar=>lA 3 ar (drew l) λO=>bB .add 3 O (i 1) λZ=>bA .neq 3 ap Z λav=>
 G av (drew l)) (G ff (drew l))) (G ff (drew l)))) (λaw V=>∀_:Env,
 cV aw (K (.tuple #[(.pointer none),(i 1)]) V) (bB .add 3 B (i 1) λay=>K2 ay V))) (bS 41 0 [] l λaz a0=>eT g6 (nT 41 E none (some I) none) λa1=>
 aP 41 az a1 a0 λa2 a3=>bS 41 0 [] a3 λa4 a5=>aP 41 a4 J a5 λa6 a7=>eT g6 (l1 122 [(0,a2),(1,a6)].toArray) λa8=>qW g6 (yB 122 a8) a7 λU ba=>
 bS 41 0 [] ba λbb bc=>aP 41 bb J bc λbd be=>nC U λbf=>fA 122 bf 2 λbg=>sA 41 bg bd be λbh=>bS 41 0 [] bh λbi Y=>eT g6 (nT 41 J none (some I) none) λbk=>
 aP 41 bi bk Y λbl bm=>nC U λbn=>fA 122 bn 3 λbo=>sA 41 bo bl bm λbp=>K (.tuple #[U,(i 0)]) bp)) λK2=>K2 (i 0) k))
def P61:dJ:=λi=>match i with
 | 6=>.run 0 37
 | _=>.nil
theorem aiw(E u B:Value)(h:S61 w K E u B):CR 61 [E,u,B] w K:=
 qm 97 P61 192 [.tmp 6,.tmp 7] Tryz.func61 h
def P62:dJ:=λi=>match i with
 | 1=>(.of [(0,[]),(3,[]),(4,[]),(5,[]),(1,[4]),(2,[]),(6,[]),(7,[])])
 | _=>.nil
def P65:dJ:=λi=>match i with
 | 6=>(.of [(0,[]),(1,[]),(2,[]),(3,[1]),(4,[1]),(5,[]),(6,[]),(7,[])])
 | 8=>(.of [(0,[]),(1,[]),(2,[]),(3,[1]),(4,[]),(5,[]),(6,[])])
 | 10=>(.of [(0,[]),(1,[]),(2,[]),(3,[1]),(4,[]),(5,[]),(6,[])])
 | 13=>(.of [(0,[]),(1,[]),(2,[]),(3,[]),(4,[]),(5,[]),(6,[]),(7,[]),(8,[1]),(9,[1]),(10,[]),(11,[]),(12,[])])
 | 15=>(.of [(0,[]),(1,[]),(2,[]),(3,[]),(4,[]),(5,[]),(6,[]),(7,[]),(8,[]),(9,[]),(10,[]),(11,[]),(12,[]),(13,[1]),(14,[1]),(15,[]),(16,[]),(17,[])])
 | 17=>(.of [(0,[]),(1,[]),(2,[]),(3,[]),(4,[]),(5,[]),(6,[]),(7,[]),(8,[]),(9,[]),(10,[]),(11,[]),(12,[1]),(13,[1]),(14,[]),(15,[]),(16,[])])
 | 21=>(.of [(0,[]),(1,[]),(2,[]),(3,[]),(4,[]),(5,[]),(6,[]),(7,[]),(8,[]),(9,[4,8]),(10,[]),(11,[])])
 | _=>.nil
def P71:dJ:=λi=>match i with
 | 6=>.run 0 9
 | _=>.nil
def P77:dJ:=λi=>match i with
 | 3=>.run 0 14
 | _=>.nil
def S78(W:Value):Prop:=
 cF 17 [W] w λa b=>bS 41 0 [] b λc d=>cF 147 [a,c] d λe f=>bS 126 0 [] f λg h=>bS 126 0 [] h λj k=>W0 (λU M G I l=>∀_:Env,
 lN 126 e λn=>bA .lss 3 I n λo=>cV o (Ey (λK2=>iA 126 e I λp=>lA 41 p l λq=>cF 92 [W,q] l λr s=>xT r 0 λt=>xT r 1 λ_=>oN (λJ E B u=>∀_:Env,
 lN 126 G λv=>bA .lss 3 B v λx=>cV x (eS (λY=>cV E (Y tt u) (iA 126 G B λy=>lA 41 y u λz=>cF 71 [z,t] u λaa ab=>Y aa ab)) (λO ac=>∀_:Env,
 bB .add 3 B (i 1) λad=>J O ad ac)) (eT g6 (Op.unary .not E) λae=>cV ae (bS 126 1 [(0,t)] u λaf ag=>aP 126 G af ag λah V=>iA 126 e I λaj=>
 lA 41 aj V λZ=>bS 126 1 [(0,Z)] V λal am=>aP 126 M al am λan ao=>K2 an ah ao) (K2 M G u))) λJ=>J ff (i 0) s) (λI9 Xe ap=>∀_:Env,
 bB .add 3 I (i 1) λaq=>U I9 Xe aq ap)) (K M l)) (λU=>U g j (i 0) k)
theorem aiy(u:Value)(h:S78 w K u):CR 78 [u] w K:=
 qm 61 (λ_=>.nil) 4 [.tmp 2] Tryz.func78 h
theorem avB:PL 11:=dL Tryz.func11
theorem avC:PL 16:=dL Tryz.func16
theorem aiz:PL 17:=dL Tryz.func17
theorem Pj:PL 19:=dL Tryz.func19
theorem Ux:PL 45:=dL Tryz.func45
theorem Ja:PL 46:=dL Tryz.func46
theorem aiA:PL 47:=dL Tryz.func47
theorem anD:PL 49:=dL Tryz.func49
theorem avD:PL 57:=dL Tryz.func57
theorem anE:PL 58:=dL Tryz.func58
theorem Uy:PL 59:=dL Tryz.func59
theorem avE:PL 61:=dL Tryz.func61
theorem aiB:PL 62:=dL Tryz.func62
theorem avF:PL 65:=dL Tryz.func65
theorem aiC:PL 71:=dL Tryz.func71
theorem anF:PL 77:=dL Tryz.func77
theorem avG:PL 78:=dL Tryz.func78
variable (w:World) (K:Value->g7)
def P84:dJ:=λi=>match i with
 | 1=>(.of [(0,[]),(1,[]),(2,[]),(3,[]),(4,[]),(5,[3]),(6,[]),(7,[]),(8,[])])
 | _=>.nil
def P86:dJ:=λi=>match i with
 | 5=>.run 0 9
 | _=>.nil
def S92(O Dt:Value):Prop:=
 cF 17 [O] w λa b=>lN 41 Dt λc=>lN 41 a λd=>bA .neq 3 c d λe=>cV e (K (.tuple #[(.slice none 0 0),(i 1)]) b) (kG (λK1 J f=>∀_:Env,
 lN 41 a λg=>bA .lss 3 J g λh=>cV h (eS (λK2=>iA 41 Dt J λj=>lA 3 j (drew f) λk=>bB .lss 3 k (i 0) λl=>cV l (K2 tt (drew f)) (iA 41 Dt J λn=>lA 3 n (drew f) λo=>
 iA 41 a J λp=>lA 3 p (drew f) λq=>bA .gtr 3 o q λr=>K2 r (drew f))) (λs t=>∀_:Env,
 cV s (K (.tuple #[(.slice none 0 0),(i 1)]) t) (bB .add 3 J (i 1) λu=>K1 u t))) (Ey (λW=>nC O λv=>fA 122 v 3 λx=>lA 41 x (drew f) λy=>((bS 41 0 [] (drew f) λz Z=>
 kA 41 x y Z ((aP 41 z Dt Z λab ac=>kA 41 x y ac (bS 41 0 [] ac λad ae=>kA 41 x y ae (aP 41 ad y ae λaf ag=>W ab af ag)))
 /\((bS 41 0 [] Z λah ai=>kA 41 x y ai (aP 41 z Dt ai λaj ak=>kA 41 x y ak (aP 41 ah y ak λal am=>W aj al am)))
 /\
 True)))
 /\((bS 41 0 [] (drew f) λan B=>kA 41 x y B (bS 41 0 [] B λap aq=>kA 41 x y aq (aP 41 ap Dt aq λar I=>kA 41 x y I (aP 41 an y I λau av=>W ar au av))))
 /\
 True))) (λU Jb aw=>∀_:Env,
 kG (λY G M=>∀_:Env,
 nC O λay=>fA 122 ay 4 λaz=>lA 120 az M λa0=>lN 120 a0 λa1=>bA .lss 3 G a1 λa2=>cV a2 (yS (λK5=>nC O λa3=>fA 122 a3 4 λa4=>lA 120 a4 M λa5=>
 iA 120 a5 G λa6=>lA 125 a6 M λa7=>aL 125 M λB a8=>sA 125 B a7 a8 λE=>fA 125 B 0 λba=>lA 3 ba E λbb=>iA 41 U bb λbc=>lA 3 bc E λbd=>bB .gtr 3 bd (i 0) λbe=>
 cV be (fA 125 B 0 λbf=>lA 3 bf (drew E) λbg=>fA 125 B 0 λbh=>lA 3 bh (drew E) λbi=>iA 41 U bi λbj=>lA 3 bj (drew E) λbk=>bB .sub 3 bk (i 1) λbl=>
 iA 41 U bg λbm=>sA 3 bm bl (drew E) λV=>fA 125 B 1 λbo=>lA 3 bo V λbp=>fA 125 B 2 λbq=>lA 3 bq V λbr=>iA 41 Jb bp λbs=>sA 3 bs br V λbt=>
 K5 bt) (K5 E)) (λbu=>∀_:Env,
 bB .add 3 G (i 1) λbv=>Y bv bu)) (K (.tuple #[Jb,(i 0)]) M)) λY=>Y (i 0) aw))) λK1=>K1 (i 0) b)
def P92:dJ:=λi=>match i with
 | 7=>.run 0 16
 | 9=>(.op 1 [] (.op 4 [] (.op 5 [] (.op 6 [] (.op 7 [] (.alt 0 [7] (.alt 2 [7] (.of [(3,[7]),(8,[]),(9,[]),(10,[])]) (.alt 3 [7] (.of [(2,[7]),(8,[]),(9,[]),(10,[])]) .stop)) (.alt 3 [7] (.of [(0,[7]),(2,[7]),(8,[]),(9,[]),(10,[])]) .stop)))))))
 | 15=>.run 0 11
 | _=>.nil
theorem aiD(u Dt:Value)(h:S92 w K u Dt):CR 92 [u,Dt] w K:=
 qm 89 P92 48 [.tmp 4,.tmp 5] Tryz.func92 h
def P93:dJ:=λi=>match i with
 | 5=>.run 0 13
 | _=>.nil
def S94(G:Value):Prop:=
 oN (λu E B a=>∀_:Env,
 lN 41 G λb=>bA .lss 3 B b λc=>cV c (bC .mul 3 (i 10000) E λd=>iA 41 G B λe=>lA 3 e a λf=>bA .add 3 d f λg=>bB .add 3 B (i 1) λh=>u g h a) (K E a))
 (λu=>u (i 0) (i 0) w)
theorem aiE(u:Value)(h:S94 w K u):CR 94 [u] w K:=
 qm 19 (λ_=>.nil) 4 [.tmp 2] Tryz.func94 h
def S122(p0:Value):Prop:=
 qW g6 (yB 27 p0) w λp1 a=>bS 23 0 [] a λb c=>lA 27 p1 c λd=>cF 59 [d] c λe f=>aP 23 b e f λg h=>fA 27 p1 2 λj=>lA 23 j h λk=>aP 23 g k h λl n=>
 oN (λM B G o=>∀_:Env,
 fA 27 p1 3 λp=>lA 24 p o λq=>lN 24 q λr=>bA .lss 3 G r λs=>cV s (fA 27 p1 3 λt=>lA 24 t (drew o) λu=>iA 24 u G λv=>fA 146 v 0 λx=>lA 9 x (drew o) λy=>
 fA 27 p1 3 λz=>lA 24 z (drew o) λaa=>iA 24 aa G λab=>fA 146 ab 3 λW=>lA 3 W (drew o) λad=>eT g6 (l1 161 [(0,y),(2,ad)].toArray) λY=>
 bS 23 1 [(0,Y)] (drew o) λaf ag=>aP 23 B af ag λah ai=>bB .add 3 G (i 1) λaj=>M ah aj ai) (cF 202 [B] o λV al=>kG (λK2 E O=>∀_:Env,
 lN 23 B λan=>bA .lss 3 E an λao=>cV ao (iA 23 B E λap=>fA 161 ap 0 λaq=>lA 9 aq O λar=>cF 123 [V,ar] O λI J=>bA .lss 3 I E λav=>cV av (iA 23 B E λaw=>
 fA 161 aw 2 λU=>lA 3 U J λay=>K ay J) (bB .add 3 E (i 1) λZ=>K2 Z J)) (K (i (-1)) O)) λK2=>K2 (i 0) al)) (λM=>M l (i 0) n)
def avH:dJ:=λi=>match i with
 | 6=>.run 0 17
 | _=>.nil
theorem acU(p0:Value)(h:S122 w K p0):CR 122 [p0] w K:=
 qm 60 avH 4 [.tmp 2] Tryz.func122 h
def avI:dJ:=λi=>match i with
 | 3=>(.of [(0,[]),(2,[]),(3,[]),(1,[3]),(4,[]),(5,[])])
 | 16=>(.of [(0,[]),(2,[]),(3,[]),(1,[3]),(4,[]),(5,[])])
 | _=>.nil
def S130(B:Value):Prop:=
 lN 9 B λa=>bB .gtr 3 a (i 4000) λb=>cV b (K (.tuple #[(.slice none 0 0),(i 2),(i 4000)]) w) (bS 198 0 [] w λc d=>cF 205 [B,(i 0)] d λe f=>oN (λZ yK E g=>∀_:Env,
 lN 9 B λh=>bA .lss 3 E h λj=>cV j (eT g6 (l1 209 [(3,E)].toArray) λk=>aL 209 g λI l=>sA 209 I k l λn=>eS (λK2=>eT g6 (u3 9 B E) λo=>
 cF 206 [o] n λp q=>cV p (fA 209 I 0 λr=>sA 3 r (i 1) q λs=>kG (λW G t=>∀_:Env,
 eS (λY=>lN 9 B λu=>bA .lss 3 G u λv=>cV v (eT g6 (u3 9 B G) λx=>cF 206 [x] t λy z=>cV y (Y tt z) (eT g6 (u3 9 B G) λaa=>
 cF 207 [aa] z λab ac=>Y ab ac)) (Y ff t)) (λad ae=>∀_:Env,
 cV ad (bB .add 3 G (i 1) λaf=>W af ae) (bA .sub 3 G E λag=>bB .gtr 3 ag (i 16) λah=>cV ah (K (.tuple #[(.slice none 0 0),(i 2),E]) ae) (K2 G ae)))) λW=>W E s) (
 eT g6 (u3 9 B E) λai=>cF 207 [ai] q λaj ak=>cV aj (fA 209 I 0 λal=>sA 3 al (i 2) ak λam=>kG (λU M an=>∀_:Env,
 eS (λK6=>lN 9 B λao=>bA .lss 3 M ao λap=>cV ap (eT g6 (u3 9 B M) λaq=>cF 207 [aq] an λar V=>K6 ar V) (K6 ff an)) (λau J=>∀_:Env,
 cV au (yS (λK7=>fA 209 I 2 λaw=>lA 3 aw J λax=>bB .leq 3 ax (i 4294967296) λay=>cV ay (fA 209 I 2 λaz=>lA 3 az (drew J) λa0=>bC .mul 3 (i 10) a0 λa1=>
 eT g6 (u3 9 B M) λa2=>bB .sub 5 a2 (.int .u8 48) λa3=>eT g6 (convert 5 3 a3) λa4=>bA .add 3 a1 a4 λa5=>fA 209 I 2 λa6=>sA 3 a6 a5 (drew J) λa7=>
 K7 a7) (K7 J)) (λa8=>∀_:Env,
 bB .add 3 M (i 1) λa9=>U a9 a8)) (fA 209 I 2 λba=>lA 3 ba J λbb=>bB .gtr 3 bb (i 4294967296) λbc=>cV bc (K (.tuple #[(.slice none 0 0),(i 4),E]) J) (K2 M J))))
 λU=>U E am) (fA 209 I 0 λbd=>sA 3 bd (i 3) ak λbe=>cF 208 [B,E] be λbf bg=>bA .add 3 E bf λbh=>bA .eql 3 bh E λbi=>cV bi (K (.tuple #[(.slice none 0 0),(i 3),E]) bg) (
 K2 bh bg)))) (λO bj=>∀_:Env,
 eT g6 (nT 9 B (some E) (some O) none) λbk=>fA 209 I 1 λbl=>sA 9 bl bk bj λbm=>lA 209 I bm λbn=>bS 198 1 [(0,bn)] bm λbo bp=>aP 198 yK bo bp λbq br=>
 cF 205 [B,O] br λbs bt=>Z bq bs bt)) (K (.tuple #[yK,(i 0),(i 0)]) g)) λZ=>Z c e f)
def avJ:dJ:=λi=>match i with
 | 17=>.run 0 11
 | _=>.nil
theorem acV(u:Value)(h:S130 w K u):CR 130 [u] w K:=
 qm 107 avJ 28 [.tmp 2,.tmp 3,.tmp 4] Tryz.func130 h
def avK:dJ:=λi=>match i with
 | 1=>.run 0 17
 | _=>.nil
theorem avL:PL 81:=dL Tryz.func81
theorem Pk:PL 83:=dL Tryz.func83
theorem avM:PL 86:=dL Tryz.func86
theorem aiF:PL 92:=dL Tryz.func92
theorem avN:PL 93:=dL Tryz.func93
theorem avO:PL 94:=dL Tryz.func94
theorem ago:PL 106:=dL Tryz.func106
theorem anG:PL 118:=dL Tryz.func118
theorem anH:PL 119:=dL Tryz.func119
theorem agp:PL 120:=dL Tryz.func120
theorem Xf:PL 121:=dL Tryz.func121
theorem anI:PL 122:=dL Tryz.func122
theorem rR:PL 123:=dL Tryz.func123
theorem R7:PL 124:=dL Tryz.func124
theorem R8:PL 125:=dL Tryz.func125
theorem anJ:PL 126:=dL Tryz.func126
theorem Xg:PL 127:=dL Tryz.func127
theorem anK:PL 130:=dL Tryz.func130
theorem yT:PL 131:=dL Tryz.func131
variable (w:World) (K:Value->g7)
def avP:dJ:=λi=>match i with
 | 7=>.run 0 24
 | 8=>.run 0 13
 | _=>.nil
def avQ:dJ:=λi=>match i with
 | 1=>.run 0 45
 | 3=>.run 0 26
 | _=>.nil
def avR:dJ:=λi=>match i with
 | 8=>(.of [(0,[]),(1,[]),(2,[]),(3,[]),(4,[]),(5,[]),(6,[]),(7,[1]),(8,[]),(9,[]),(10,[])])
 | 10=>.run 0 19
 | _=>.nil
def avS:dJ:=λi=>match i with
 | 1=>.run 0 18
 | _=>.nil
def avT:dJ:=λi=>match i with
 | 2=>.run 0 10
 | 4=>.run 0 13
 | _=>.nil
def avU:dJ:=λi=>match i with
 | 3=>.run 0 14
 | _=>.nil
def P149:dJ:=λi=>match i with
 | 5=>.run 0 12
 | _=>.nil
def avV:dJ:=λi=>match i with
 | 6=>.run 0 16
 | _=>.nil
def avW:dJ:=λi=>match i with
 | 6=>(.of [(0,[]),(1,[]),(2,[]),(3,[]),(4,[]),(5,[]),(6,[]),(7,[]),(8,[]),(9,[]),(10,[]),(11,[]),(12,[]),(13,[]),(14,[3,8,10]),(15,[3]),(16,[])])
 | _=>.nil
def avX:dJ:=λi=>match i with
 | 6=>.run 0 10
 | _=>.nil
def avY:dJ:=λi=>match i with
 | 5=>(.of [(0,[]),(1,[]),(2,[]),(3,[]),(4,[]),(5,[]),(6,[4]),(7,[]),(8,[]),(9,[]),(10,[])])
 | _=>.nil
def S165(E B:Value):Prop:=
 aL 231 w λa b=>eS (λV=>bB .lss 3 B (i 0) λc=>cV c (V tt b) (nC E λd=>fA 196 d 1 λe=>lA 179 e b λf=>lN 179 f λg=>bA .geq 3 B g λh=>V h b)) (λj k=>∀_:Env,
 cV j (eT g6 (l1 231 [].toArray) λl=>sA 231 a l k λn=>lA 231 a n λr=>K (.tuple #[r,(i 1)]) n) (cF 151 [E,B] k λo p=>eT g6 (Op.unary .not o) λq=>
 cV q (eT g6 (l1 231 [].toArray) λs=>sA 231 a s p λt=>lA 231 a t λY=>K (.tuple #[Y,(i 13)]) t) (nC E λu=>fA 196 u 1 λv=>lA 179 v p λx=>
 iA 179 x B λy=>lA 231 y p λz=>aL 231 p λU ab=>sA 231 U z ab λW=>bS 179 0 [] W λad M=>nC E λaf=>fA 196 af 1 λag=>lA 179 ag M λah=>eT g6 (nT 179 ah none (some B) none) λai=>
 aP 179 ad ai M λaj J=>nC E λal=>fA 196 al 1 λam=>lA 179 am J λan=>bB .add 3 B (i 1) λao=>eT g6 (nT 179 an (some ao) none none) λap=>
 aP 179 aj ap J λaq ar=>nC E λG=>fA 196 G 1 λZ=>sA 179 Z aq ar λO=>lA 231 U O λaw=>sA 231 a aw O λI=>lA 231 a I λPl=>K (.tuple #[Pl,(i 0)]) I)))
theorem acW(B u:Value)(h:S165 w K B u):CR 165 [B,u] w K:=
 qm 54 (λ_=>.nil) 48 [.cell 4 231,.tmp 5] Tryz.func165 h
def avZ:dJ:=λi=>match i with
 | 5=>(.of [(0,[]),(1,[]),(2,[]),(3,[]),(4,[]),(5,[]),(6,[]),(7,[]),(8,[]),(9,[]),(10,[]),(11,[]),(12,[]),(13,[]),(14,[]),(15,[4]),(16,[]),(17,[]),(18,[]),(19,[])])
 | _=>.nil
def av0:dJ:=λi=>match i with
 | 8=>.run 0 22
 | _=>.nil
theorem R9:PL 132:=dL Tryz.func132
theorem agq:PL 133:=dL Tryz.func133
theorem agr:PL 134:=dL Tryz.func134
theorem anL:PL 135:=dL Tryz.func135
theorem Sa:PL 136:=dL Tryz.func136
theorem anM:PL 139:=dL Tryz.func139
theorem anN:PL 144:=dL Tryz.func144
theorem anO:PL 145:=dL Tryz.func145
theorem ags:PL 147:=dL Tryz.func147
theorem agt:PL 148:=dL Tryz.func148
theorem anP:PL 150:=dL Tryz.func150
theorem agu:PL 151:=dL Tryz.func151
theorem anQ:PL 153:=dL Tryz.func153
theorem anR:PL 154:=dL Tryz.func154
theorem agv:PL 155:=dL Tryz.func155
theorem agw:PL 156:=dL Tryz.func156
theorem anS:PL 157:=dL Tryz.func157
theorem Sb:PL 162:=dL Tryz.func162
theorem anT:PL 165:=dL Tryz.func165
theorem agx:PL 166:=dL Tryz.func166
theorem anU:PL 167:=dL Tryz.func167
theorem Xh:PL 198:=dL Tryz.func198
variable (w:World) (K:Value->g7)
def av1:dJ:=λi=>match i with
 | 10=>.run 0 7
 | _=>.nil
def av2:dJ:=λi=>match i with
 | 2=>.run 0 17
 | 6=>.run 0 12
 | 8=>.run 0 9
 | 9=>.run 0 12
 | _=>.nil
def av3:dJ:=λi=>match i with
 | 5=>.run 0 8
 | 7=>.run 0 9
 | 9=>.run 0 9
 | 10=>.run 0 8
 | _=>.nil
def av4:dJ:=λi=>match i with
 | 5=>.run 0 17
 | _=>.nil
def av5:dJ:=λi=>match i with
 | 1=>.run 0 11
 | _=>.nil
def av6:dJ:=λi=>match i with
 | 1=>.run 0 11
 | 4=>.run 0 10
 | _=>.nil
def S219(E Lp:Value):Prop:=
 lN 41 Lp λa=>cF 266 [E,a] w λb c=>eT g6 (Op.unary .not b) λd=>cV d (K (.tuple #[(i 0),(i 8)]) c) (aL 318 c λp6 e=>lN 277 E λf=>kG (λG g h=>∀_:Env,
 bA .lss 3 g f λj=>cV j (yS (λK2=>iA 277 E g λk=>lA 320 k h λl=>aL 320 h λn o=>sA 320 n l o λp=>fA 320 n 0 λq=>lA 3 q p λr=>cF 267 [r] p λs t=>
 bB .eql 3 s (i 0) λu=>cV u (fA 320 n 1 λv=>lA 3 v t λx=>eS (λM=>fA 320 n 0 λy=>lA 3 y t λz=>bB .eql 3 z (i 2) λaa=>cV aa (fA 320 n 1 λab=>lA 3 ab t λac=>
 iA 41 Lp ac λad=>lA 3 ad t λae=>M ae t) (M x t)) (λn9 af=>∀_:Env,
 cF 268 [p6,n9] af λ_ ag=>K2 ag)) (bB .eql 3 s (i 1) λah=>cV ah (fA 320 n 0 λU=>lA 3 U (drew t) λaj=>fA 318 p6 0 λak=>cF 270 [ak] (drew t) λal am=>kA 3 U aj am (
 cF 269 [aj,al] am λW ao=>xT W 0 λap=>xT W 1 λ_=>cF 268 [p6,ap] ao λ_ aq=>K2 aq)) (fA 318 p6 0 λar=>cF 270 [ar] t λB J=>fA 320 n 0 λV=>lA 3 V (drew J) λaw=>
 fA 318 p6 0 λax=>cF 270 [ax] (drew J) λay I=>kA 3 V aw I (cF 271 [aw,ay,B] I λO Y=>xT O 0 λa2=>xT O 1 λZ=>bB .neq 31 Z (i 0) λa4=>cV a4 (K (.tuple #[(i 0),Z]) Y) (
 cF 268 [p6,a2] Y λ_ a5=>K2 a5))))) (λa6=>∀_:Env,
 bB .add 3 g (i 1) λa7=>G a7 a6)) (fA 318 p6 0 λa8=>cF 270 [a8] h λa9 ba=>K (.tuple #[a9,(i 0)]) ba)) λG=>G (i 0) e)
def av7:dJ:=λi=>match i with
 | 9=>(.of [(0,[]),(1,[]),(2,[]),(4,[]),(3,[1]),(5,[]),(6,[]),(7,[]),(8,[]),(9,[]),(10,[])])
 | 19=>(.of [(0,[]),(1,[]),(2,[]),(3,[1]),(4,[]),(5,[]),(6,[]),(7,[]),(8,[]),(9,[])])
 | _=>.nil
theorem acX(B u:Value)(h:S219 w K B u):CR 219 [B,u] w K:=
 qm 74 av7 48 [.tmp 4,.tmp 5] Tryz.func219 h
def S220(B I:Value):Prop:=
 cF 200 [B] w λa b=>eT g6 (Op.unary .not a) λc=>cV c (K (.tuple #[(.slice none 0 0),(i 8)]) b) (kG (λG E d=>∀_:Env,
 lN 82 B λe=>bA .lss 3 E e λf=>cV f (eS (λK2=>iA 82 B E λg=>fA 164 g 0 λh=>lA 3 h d λj=>bB .eql 3 j (i 2) λk=>cV k (iA 82 B E λl=>fA 164 l 2 λn=>
 lA 9 n d λo=>cF 123 [I,o] d λp q=>bB .lss 3 p (i 0) λr=>K2 r q) (K2 ff d)) (λs t=>∀_:Env,
 cV s (K (.tuple #[(.slice none 0 0),(i 9)]) t) (bB .add 3 E (i 1) λu=>G u t))) (cF 272 [B,(i 0),I] d λv x=>K (.tuple #[v,(i 0)]) x)) λG=>G (i 0) b)
theorem acY(B u:Value)(h:S220 w K B u):CR 220 [B,u] w K:=
 qm 35 (λ_=>.nil) 48 [.tmp 4,.tmp 5] Tryz.func220 h
def S224(u B E:Value):Prop:=
 lN 179 u λa=>eT g6 (nT 179 u (some B) (some E) (some a)) λ_=>bA .eql 3 B E λb=>cV b (K u w) (lN 179 u λc=>eT g6 (nT 179 u none (some B) none) λd=>
 eT g6 (nT 179 u (some E) none none) λe=>aP 179 d e (drew w) λf g=>lN 179 f λh=>eT g6 (nT 179 f (some h) (some c) none) λj=>
 qW g6 (Builtin.clear_ #[179] 0 [j].toArray) g λ_ k=>K f k)
def av8:dJ:=λi=>match i with
 | 5=>.run 0 8
 | _=>.nil
theorem acZ(E B u:Value)(h:S224 w K E B u):CR 224 [E,B,u] w K:=
 qm 33 av8 64 [.tmp 6] Tryz.func224 h
def S229(E jE:Value):Prop:=
 nC E λa=>fA 196 a 1 λb=>lA 179 b w λc=>lN 179 c λd=>bB .sub 3 d (i 1) λe=>kG (λG B f=>∀_:Env,
 bB .geq 3 B (i 0) λg=>cV g (eS (λK2=>nC E λh=>fA 196 h 1 λj=>lA 179 j f λk=>iA 179 k B λl=>fA 231 l 0 λn=>lA 3 n f λo=>bB .eql 3 o (i 3) λp=>
 cV p (nC E λq=>fA 196 q 1 λr=>lA 179 r f λs=>iA 179 s B λt=>fA 231 t 2 λu=>lA 3 u f λv=>bA .eql 3 v jE λx=>K2 x f) (K2 ff f)) (λy z=>∀_:Env,
 cV y (nC E λU=>fA 196 U 1 λW=>lA 179 W z λI=>iA 179 I B λM=>fA 231 M 3 λJ=>lA 3 J z λO=>K (.tuple #[O,tt]) z) (bB .sub 3 B (i 1) λV=>G V z))) (
 K (.tuple #[(i 0),ff]) f)) (λG=>G e w)
theorem ac0(u jE:Value)(h:S229 w K u jE):CR 229 [u,jE] w K:=
 qm 46 (λ_=>.nil) 48 [.tmp 4,.tmp 5] Tryz.func229 h
def av9:dJ:=λi=>match i with
 | 3=>.run 0 10
 | 5=>(.of [(0,[]),(1,[]),(2,[]),(3,[]),(4,[]),(5,[]),(6,[4]),(7,[]),(8,[]),(9,[]),(10,[])])
 | _=>.nil
def S252(u I:Value):Prop:=
 bB .add 3 I (i 1) λa=>W0 (λB J E G b=>∀_:Env,
 iA 82 u I λc=>fA 164 c 0 λd=>lA 3 d b λe=>cF 273 [e] b λf g=>bA .lss 3 G f λh=>cV h (cF 252 [u,E] g λj k=>eT g6 (Builtin.max_ #[3,3] 3 [J,j].toArray) λl=>
 cF 251 [u,E] k λn o=>bB .add 3 G (i 1) λp=>B l n p o) (bB .add 3 J (i 1) λq=>K q g)) (λB=>B (i 0) a (i 0) w)
theorem ac1(B u:Value)(h:S252 w K B u):CR 252 [B,u] w K:=
 qm 30 (λ_=>.nil) 16 [.tmp 4] Tryz.func252 h
theorem Sc:PL 199:=dL Tryz.func199
theorem Lq:PL 200:=dL Tryz.func200
theorem agy:PL 201:=dL Tryz.func201
theorem Xi:PL 202:=dL Tryz.func202
theorem agz:PL 205:=dL Tryz.func205
theorem Sd:PL 206:=dL Tryz.func206
theorem Se:PL 207:=dL Tryz.func207
theorem anV:PL 208:=dL Tryz.func208
theorem vP:PL 209:=dL Tryz.func209
theorem Xj:PL 210:=dL Tryz.func210
theorem uy:PL 211:=dL Tryz.func211
theorem anW:PL 212:=dL Tryz.func212
theorem agA:PL 213:=dL Tryz.func213
theorem Hq:PL 214:=dL Tryz.func214
theorem agB:PL 215:=dL Tryz.func215
theorem agC:PL 216:=dL Tryz.func216
theorem anX:PL 219:=dL Tryz.func219
theorem anY:PL 220:=dL Tryz.func220
theorem anZ:PL 222:=dL Tryz.func222
theorem agD:PL 223:=dL Tryz.func223
theorem an0:PL 224:=dL Tryz.func224
theorem an1:PL 226:=dL Tryz.func226
theorem an2:PL 228:=dL Tryz.func228
theorem an3:PL 229:=dL Tryz.func229
theorem Sf:PL 230:=dL Tryz.func230
theorem Lr:PL 251:=dL Tryz.func251
theorem Xk:PL 252:=dL Tryz.func252
variable (w:World) (K:Value->g7)
def S256(p0 Ls Y:Value):Prop:=
 nC p0 λa=>fA 305 a 0 λb=>lA 198 b (drew w) λc=>nC p0 λd=>fA 305 d 1 λe=>lA 3 e (drew w) λf=>cF 214 [c,f] (drew w) λg h=>oN (λK1 B J j=>∀_:Env,
 bB .leq 3 J (i 14) λk=>cV k (eS (λK2=>nC p0 λl=>fA 305 l 0 λn=>lA 198 n (drew j) λo=>nC p0 λp=>fA 305 p 1 λq=>lA 3 q (drew j) λr=>cF 290 [J] (drew j) λs t=>
 kA 198 n o t (kA 3 q r t (cF 209 [o,r,s] t λu v=>cV u (K2 J v) (K2 B v)))) (λZ x=>∀_:Env,
 bB .add 3 J (i 1) λy=>K1 Z y x)) (eS (λK3=>bB .eql 3 B (i 13) λz=>cV z (bB .eql 3 Y (i 0) λaa=>K3 aa j) (K3 ff j)) (λab M=>∀_:Env,
 cV ab (cF 291 [p0,(i 5)] M λ_ ad=>K (.tuple #[]) ad) (yS (λK4=>bB .neq 3 B (i 1) λae=>cV ae (nC p0 λaf=>fA 305 af 1 λag=>lA 3 ag M λah=>bB .add 3 ah (i 1) λai=>
 nC p0 λaj=>fA 305 aj 1 λak=>sA 3 ak ai M λal=>K4 al) (K4 M)) (λam=>∀_:Env,
 cF 292 [p0,B,g] am λan ao=>aL 193 ao λG aq=>sA 193 G an aq λO=>nC p0 λW=>fA 305 W 4 λau=>lA 141 au O λav=>lN 141 av λaw=>nC p0 λax=>fA 305 ax 4 λay=>
 lA 141 ay (drew O) λaz=>lA 193 G (drew O) λa0=>bS 141 1 [(0,a0)] (drew O) λa1 a2=>kA 141 ay az a2 (aP 141 az a1 a2 λa3 a4=>nC p0 λa5=>fA 305 a5 4 λa6=>
 sA 141 a6 a3 a4 λa7=>eS (λK5=>bB .neq 3 B (i 11) λa8=>cV a8 (bB .neq 3 B (i 12) λa9=>K5 a9 a7) (K5 ff a7)) (λba bb=>∀_:Env,
 cV ba (cF 257 [p0,(Go.Value.string (ia (#[59])))] bb λ_ bc=>K (.tuple #[]) bc) (eS (λK6=>bB .eql 3 B (i 12) λbd=>cV bd (bB .add 3 Y (i 1) λbe=>
 K6 be bb) (K6 Y bb)) (λI bf=>∀_:Env,
 bB .add 3 Ls (i 1) λbg=>cF 293 [p0,bg,I] bf λbh bi=>fA 193 G 6 λbj=>sA 3 bj bh bi λE=>yS (λK7=>eS (λV=>bB .eql 3 B (i 11) λbl=>cV bl (
 nC p0 λbm=>fA 305 bm 2 λbn=>lA 31 bn (drew E) λbo=>bB .eql 31 bo (i 0) λbp=>cV bp (nC p0 λbq=>fA 305 bq 0 λbr=>lA 198 br (drew E) λbs=>nC p0 λbt=>
 fA 305 bt 1 λbu=>lA 3 bu (drew E) λbv=>cF 209 [bs,bv,(Go.Value.string (ia (#[101,108,115,101])))] (drew E) λbw bx=>V bw bx) (V ff (drew E))) (V ff (drew E)))
 (λbz U=>∀_:Env,
 cV bz (nC p0 λb1=>fA 305 b1 1 λb2=>lA 3 b2 U λb3=>bB .add 3 b3 (i 1) λb4=>nC p0 λb5=>fA 305 b5 1 λb6=>sA 3 b6 b4 U λb7=>bB .add 3 Ls (i 1) λb8=>
 cF 293 [p0,b8,I] b7 λb9 ca=>fA 193 G 7 λcb=>sA 3 cb b9 ca λcc=>K7 cc) (K7 U))) (λcd=>∀_:Env,
 nC p0 λce=>fA 305 ce 4 λcf=>lA 141 cf (drew cd) λcg=>lA 193 G (drew cd) λch=>iA 141 cg aw λci=>sA 193 ci ch (drew cd) λcj=>K (.tuple #[]) cj)))))))))) (λK1=>K1 (i 1) (i 2) h)
def awa:dJ:=λi=>match i with
 | 0=>.run 0 11
 | 4=>(.of [(0,[]),(1,[]),(2,[]),(3,[]),(4,[]),(5,[]),(6,[]),(7,[]),(8,[]),(9,[3,7]),(10,[])])
 | 12=>(.of [(0,[]),(1,[]),(2,[]),(3,[]),(4,[]),(5,[]),(6,[4]),(7,[]),(8,[]),(9,[]),(10,[])])
 | 19=>.run 0 20
 | 22=>.run 0 8
 | _=>.nil
theorem ac3(p0 B u:Value)(h:S256 w K p0 B u):CR 256 [p0,B,u] w K:=
 qm 134 awa 0 [] Tryz.func256 h
def awb:dJ:=λi=>match i with
 | 0=>.run 0 17
 | _=>.nil
def S258(J i1 V E:Value):Prop:=
 aL 308 w λa b=>bB .eql 3 E (i 5) λc=>cV c (cF 294 [J,i1,V] b λd e=>sA 308 a d e λf=>lA 308 a f λr=>K r f) (bB .add 3 E (i 1) λg=>cF 258 [J,i1,V,g] b λh j=>
 aL 308 j λk l=>sA 308 k h l λn=>R5 (λK1 o=>∀_:Env,
 fA 308 k 2 λp=>lA 31 p o λq=>bB .eql 31 q (i 0) λs=>cV s (oN (λK2 Z B t=>∀_:Env,
 cF 295 [E] t λu v=>lN 41 u λx=>bA .lss 3 B x λy=>cV y (eS (λK3=>fA 308 k 1 λz=>lA 3 z (drew v) λW=>cF 295 [E] (drew v) λab O=>kA 3 z W O (iA 41 ab B λad=>
 lA 3 ad O λae=>cF 296 [ae] O λaf ag=>kA 3 z W ag (cF 209 [J,W,af] ag λah ai=>cV ah (cF 295 [E] ai λaj ak=>iA 41 aj B λal=>lA 3 al ak λam=>K3 am ak) (
 K3 Z ai)))) (λY an=>∀_:Env,
 bB .add 3 B (i 1) λao=>K2 Y ao an)) (bB .eql 3 Z (i 0) λap=>cV ap (lA 308 k v λaq=>sA 308 a aq v λar=>lA 308 a ar λJc=>K Jc ar) (fA 308 k 1 λM=>
 lA 3 M v λau=>bB .add 3 au (i 1) λav=>bB .add 3 E (i 1) λaw=>cF 258 [J,av,V,aw] v λax ay=>aL 308 ay λI az=>sA 308 I ax az λG=>fA 308 I 2 λa1=>
 lA 31 a1 G λa2=>bB .neq 31 a2 (i 0) λa3=>cV a3 (lA 308 I G λa4=>sA 308 a a4 G λa5=>lA 308 a a5 λPl=>K Pl a5) (fA 308 k 1 λa6=>lA 3 a6 G λa7=>iA 198 J a7 λa8=>
 fA 209 a8 3 λa9=>lA 3 a9 G λba=>eT g6 (l1 164 [(0,Z),(3,ba)].toArray) λbb=>bS 82 1 [(0,bb)] G λbc bd=>fA 308 k 0 λbe=>lA 82 be bd λbf=>
 aP 82 bc bf bd λbg bh=>fA 308 I 0 λbi=>lA 82 bi bh λbj=>aP 82 bg bj bh λbk bl=>fA 308 I 1 λbm=>lA 3 bm bl λbn=>eT g6 (l1 308 [(0,bk),(1,bn)].toArray) λbo=>
 sA 308 k bo bl λbp=>bB .eql 3 E (i 2) λbq=>cV bq (lA 308 k bp λbr=>sA 308 a br bp λbs=>lA 308 a bs λr_3=>K r_3 bs) (K1 bp))))) λK2=>K2 (i 0) (i 0) o) (
 lA 308 k o λbt=>sA 308 a bt o λbu=>lA 308 a bu λU=>K U bu)) λK1=>K1 n)
def awc:dJ:=λi=>match i with
 | 9=>(.of [(0,[]),(1,[]),(2,[]),(3,[]),(5,[]),(4,[2]),(6,[]),(7,[]),(8,[2]),(9,[])])
 | _=>.nil
theorem ac4(B E u G:Value)(h:S258 w K B E u G):CR 258 [B,E,u,G] w K:=
 qm 91 awc 256 [.cell 8 308] Tryz.func258 h
def awd:dJ:=λi=>match i with
 | 1=>.run 0 11
 | _=>.nil
def awe:dJ:=λi=>match i with
 | 1=>.run 0 15
 | _=>.nil
def awf:dJ:=λi=>match i with
 | 1=>.run 0 13
 | 2=>.run 0 15
 | _=>.nil
def S271(u E b2:Value):Prop:=
 eS (λB=>bB .lss 3 u (i 0) λa=>cV a (B tt w) (bB .geq 3 u (i 16) λb=>B b w)) (λc d=>∀_:Env,
 cV c (K (.tuple #[(i 0),(i 1)]) d) (cF 304 [] d λe f=>eT g6 (u3 348 e u) λg=>bB .eql 288 g .nilFunc λh=>cV h (K (.tuple #[(i 0),(i 1)]) f) (eS (λK2=>
 bB .eql 3 u (i 8) λj=>cV j (bB .eql 3 b2 (i 0) λk=>K2 k f) (bB .eql 3 u (i 9) λl=>cV l (bB .eql 3 b2 (i 0) λn=>K2 n f) (K2 ff f))) (λo p=>∀_:Env,
 cV o (K (.tuple #[(i 0),(i 12)]) p) (kD g6 g [E,b2] p λq r=>K (.tuple #[q,(i 0)]) r)))))
theorem ac5(B u b2:Value)(h:S271 w K B u b2):CR 271 [B,u,b2] w K:=
 qm 36 (λ_=>.nil) 192 [.tmp 6,.tmp 7] Tryz.func271 h
def S275(E B b2:Value):Prop:=
 bB .eql 3 E (i 5) λa=>cV a (bA .add 3 B b2 λb=>K (.tuple #[b,(i 0)]) w) (bB .eql 3 E (i 6) λc=>cV c (bA .sub 3 B b2 λd=>K (.tuple #[d,(i 0)]) w) (bB .eql 3 E (i 7) λe=>
 cV e (bA .mul 3 B b2 λf=>K (.tuple #[f,(i 0)]) w) (bB .eql 3 E (i 8) λg=>cV g (bB .eql 3 b2 (i 0) λh=>cV h (K (.tuple #[(i 0),(i 12)]) w) (cF 306 [B,b2] w λj k=>
 K (.tuple #[j,(i 0)]) k)) (bB .eql 3 E (i 9) λl=>cV l (bB .eql 3 b2 (i 0) λn=>cV n (K (.tuple #[(i 0),(i 12)]) w) (cF 306 [B,b2] w λo p=>bA .mul 3 b2 o λq=>bA .sub 3 B q λr=>
 K (.tuple #[r,(i 0)]) p)) (bB .eql 3 E (i 10) λs=>cV s (bA .eql 3 B b2 λt=>cF 305 [t] w λu v=>K (.tuple #[u,(i 0)]) v) (bB .eql 3 E (i 11) λx=>cV x (bA .neq 3 B b2 λy=>
 cF 305 [y] w λz aa=>K (.tuple #[z,(i 0)]) aa) (bB .eql 3 E (i 12) λab=>cV ab (bA .lss 3 B b2 λO=>cF 305 [O] w λad U=>K (.tuple #[ad,(i 0)]) U) (bB .eql 3 E (i 13) λaf=>
 cV af (bA .leq 3 B b2 λag=>cF 305 [ag] w λY ai=>K (.tuple #[Y,(i 0)]) ai) (bB .eql 3 E (i 14) λaj=>cV aj (Ey (λI=>bB .neq 3 B (i 0) λM=>cV M (bB .neq 3 b2 (i 0) λal=>
 cF 305 [al] w λam an=>I am (i 0) an) (cF 305 [ff] w λao ap=>I ao (i 0) ap)) (λaq ar G=>∀_:Env,
 K (.tuple #[aq,ar]) G)) (bB .eql 3 E (i 15) λW=>cV W (Ey (λK2=>bB .neq 3 B (i 0) λav=>cV av (cF 305 [tt] w λaw J=>K2 aw (i 0) J) (bB .neq 3 b2 (i 0) λay=>
 cF 305 [ay] w λV Z=>K2 V (i 0) Z)) (λa2 a3 a4=>∀_:Env,
 K (.tuple #[a2,a3]) a4)) (K (.tuple #[(i 0),(i 1)]) w)))))))))))
theorem ac6(B u b2:Value)(h:S275 w K B u b2):CR 275 [B,u,b2] w K:=
 qm 84 (λ_=>.nil) 192 [.tmp 6,.tmp 7] Tryz.func275 h
def S289(M G:Value):Prop:=
 oN (λZ Y O a=>∀_:Env,
 lN 141 M λb=>bA .lss 3 O b λc=>cV c (iA 141 M O λd=>lA 193 d a λe=>aL 193 a λf g=>sA 193 f e g λh=>eS (λK2=>fA 193 f 6 λj=>lA 3 j h λk=>
 bB .lss 3 k (i 0) λl=>cV l (K2 tt h) (fA 193 f 7 λn=>lA 3 n h λo=>bB .lss 3 o (i 0) λp=>cV p (K2 tt h) (fA 193 f 6 λq=>lA 3 q h λr=>bB .gtr 3 r (i 40) λs=>
 cV s (K2 tt h) (fA 193 f 7 λt=>lA 3 t h λu=>bB .gtr 3 u (i 40) λv=>cV v (K2 tt h) (bB .add 3 O (i 1) λx=>fA 193 f 6 λy=>lA 3 y h λz=>bA .add 3 x z λaa=>
 fA 193 f 7 λab=>lA 3 ab h λac=>bA .add 3 aa ac λad=>lN 141 M λae=>bA .gtr 3 ad ae λaf=>K2 af h))))) (λag B=>∀_:Env,
 cV ag (K (i (-1)) B) (eS (λE=>fA 193 f 6 λai=>lA 3 ai B λaj=>bB .gtr 3 aj (i 0) λak=>cV ak (fA 193 f 0 λal=>lA 3 al B λam=>bB .neq 3 am (i 11) λan=>
 cV an (fA 193 f 0 λao=>lA 3 ao B λap=>bB .neq 3 ap (i 12) λaq=>cV aq (E tt B) (fA 193 f 7 λar=>lA 3 ar B λV=>bB .gtr 3 V (i 0) λau=>cV au (fA 193 f 0 λav=>
 lA 3 av B λaw=>bB .neq 3 aw (i 11) λax=>cV ax (E tt B) (fA 193 f 0 λay=>lA 3 ay B λaz=>bB .eql 3 az (i 13) λa0=>cV a0 (bB .eql 3 G (i 0) λa1=>E a1 B) (
 E ff B))) (fA 193 f 0 λa2=>lA 3 a2 B λa3=>bB .eql 3 a3 (i 13) λa4=>cV a4 (bB .eql 3 G (i 0) λa5=>E a5 B) (E ff B)))) (fA 193 f 7 λa6=>lA 3 a6 B λa7=>
 bB .gtr 3 a7 (i 0) λa8=>cV a8 (fA 193 f 0 λa9=>lA 3 a9 B λba=>bB .neq 3 ba (i 11) λbb=>cV bb (E tt B) (fA 193 f 0 λbc=>lA 3 bc B λbd=>bB .eql 3 bd (i 13) λbe=>
 cV be (bB .eql 3 G (i 0) λbf=>E bf B) (E ff B))) (fA 193 f 0 λbg=>lA 3 bg B λbh=>bB .eql 3 bh (i 13) λbi=>cV bi (bB .eql 3 G (i 0) λbj=>E bj B) (
 E ff B)))) (fA 193 f 7 λbk=>lA 3 bk B λbl=>bB .gtr 3 bl (i 0) λbm=>cV bm (fA 193 f 0 λbn=>lA 3 bn B λbo=>bB .neq 3 bo (i 11) λbp=>cV bp (E tt B) (fA 193 f 0 λbq=>
 lA 3 bq B λbr=>bB .eql 3 br (i 13) λbs=>cV bs (bB .eql 3 G (i 0) λbt=>E bt B) (E ff B))) (fA 193 f 0 λbu=>lA 3 bu B λbv=>bB .eql 3 bv (i 13) λbw=>
 cV bw (bB .eql 3 G (i 0) λbx=>E bx B) (E ff B)))) (λbz J=>∀_:Env,
 cV bz (K (i (-1)) J) (bB .add 3 O (i 1) λb1=>fA 193 f 6 λb2=>lA 3 b2 (drew J) λb3=>bA .add 3 b1 b3 λb4=>eS (λK4=>fA 193 f 0 λb5=>lA 3 b5 (drew J) λb6=>
 bB .eql 3 b6 (i 12) λb7=>cV b7 (bB .add 3 G (i 1) λb8=>K4 b8 (drew J)) (K4 G (drew J))) (λI U=>∀_:Env,
 eS (λK5=>eS (λK6=>fA 193 f 0 λca=>lA 3 ca U λcb=>bB .eql 3 cb (i 11) λcc=>cV cc (K6 tt U) (fA 193 f 0 λcd=>lA 3 cd U λce=>bB .eql 3 ce (i 12) λcf=>
 K6 cf U)) (λcg ch=>∀_:Env,
 cV cg (bB .add 3 O (i 1) λci=>eT g6 (nT 141 M (some ci) (some b4) none) λcj=>fA 193 f 7 λck=>lA 3 ck (drew ch) λcl=>bA .add 3 b4 cl λcm=>eT g6 (nT 141 M (some b4) (some cm) none) λcn=>
 cF 289 [cj,I] (drew ch) λco cp=>kA 3 ck cl cp (cF 289 [cn,I] cp λcq cr=>eS (λK7=>bB .lss 3 co (i 0) λcs=>cV cs (K7 tt cr) (bB .lss 3 cq (i 0) λct=>K7 ct cr))
 (λcu cv=>∀_:Env,
 cV cu (K (i (-1)) cv) (bC .add 3 (i 1) co λcw=>bC .add 3 (i 1) cq λcx=>eT g6 (Builtin.max_ #[3,3,3] 3 [Y,cw,cx].toArray) λcy=>K5 cy cv)))) (K5 Y ch))) (λW cz=>∀_:Env,
 fA 193 f 7 λc0=>lA 3 c0 cz λc1=>bA .add 3 b4 c1 λc2=>Z W c2 cz))))))) (K Y a)) (λZ=>Z (i 0) (i 0) w)
def awg:dJ:=λi=>match i with
 | 8=>.run 0 8
 | 12=>(.of [(0,[]),(1,[]),(2,[]),(3,[]),(4,[]),(5,[]),(7,[]),(8,[]),(9,[]),(10,[]),(11,[]),(12,[]),(13,[]),(14,[]),(6,[11]),(15,[]),(16,[]),(17,[])])
 | _=>.nil
theorem ac7(B u:Value)(h:S289 w K B u):CR 289 [B,u] w K:=
 qm 135 awg 16 [.tmp 4] Tryz.func289 h
theorem agE:PL 253:=dL Tryz.func253
theorem agF:PL 254:=dL Tryz.func254
theorem an6:PL 255:=dL Tryz.func255
theorem agG:PL 256:=dL Tryz.func256
theorem yU:PL 257:=dL Tryz.func257
theorem Sh:PL 258:=dL Tryz.func258
theorem an7:PL 259:=dL Tryz.func259
theorem an8:PL 260:=dL Tryz.func260
theorem an9:PL 261:=dL Tryz.func261
theorem aoa:PL 266:=dL Tryz.func266
theorem Xn:PL 267:=dL Tryz.func267
theorem Si:PL 268:=dL Tryz.func268
theorem aob:PL 269:=dL Tryz.func269
theorem Sj:PL 270:=dL Tryz.func270
theorem aoc:PL 271:=dL Tryz.func271
theorem agH:PL 272:=dL Tryz.func272
theorem Lt:PL 273:=dL Tryz.func273
theorem aod:PL 274:=dL Tryz.func274
theorem aoe:PL 275:=dL Tryz.func275
theorem aof:PL 276:=dL Tryz.func276
theorem aog:PL 277:=dL Tryz.func277
theorem aoh:PL 288:=dL Tryz.func288
theorem Xo:PL 289:=dL Tryz.func289
variable (w:World) (K:Value->g7)
def awh:dJ:=λi=>match i with
 | 2=>.run 0 10
 | 4=>.run 0 13
 | _=>.nil
def awi:dJ:=λi=>match i with
 | 2=>.run 0 13
 | 5=>.run 0 17
 | _=>.nil
def S294(B E V:Value):Prop:=
 aL 308 w λa b=>lN 198 B λc=>bA .geq 3 E c λd=>cV d (cF 320 [B,E,(i 6)] b λe f=>sA 308 a e f λg=>lA 308 a g λr=>K r g) (eS (λK1=>cF 209 [B,E,(Go.Value.string (ia (#[33])))] b λh j=>
 cV h (K1 tt j) (cF 209 [B,E,(Go.Value.string (ia (#[45])))] j λk l=>K1 k l)) (λM n=>∀_:Env,
 cF 209 [B,E,(Go.Value.string (ia (#[40])))] n λo p=>eS (λK2=>cV M (bB .eql 3 V (i 12) λq=>K2 q p) (cV o (bB .eql 3 V (i 12) λs=>K2 s p) (K2 ff p)))
 (λt u=>∀_:Env,
 cV t (cF 320 [B,E,(i 7)] u λv x=>sA 308 a v x λy=>lA 308 a y λJc=>K Jc y) (cV M (bB .add 3 E (i 1) λz=>bB .add 3 V (i 1) λaa=>cF 294 [B,z,aa] u λab ac=>
 aL 308 ac λJ ae=>sA 308 J ab ae λI=>fA 308 J 2 λag=>lA 31 ag I λah=>bB .neq 31 ah (i 0) λai=>cV ai (lA 308 J I λaj=>sA 308 a aj I λak=>lA 308 a ak λPl=>
 K Pl ak) (eS (λK3=>iA 198 B E λal=>fA 209 al 1 λam=>lA 9 am I λan=>eT g6 (jU .eql 9 false true an (Go.Value.string (ia (#[45])))) λao=>
 cV ao (K3 (i 3) I) (K3 (i 4) I)) (λXl ap=>∀_:Env,
 iA 198 B E λaq=>fA 209 aq 3 λar=>lA 3 ar ap λY=>eT g6 (l1 164 [(0,Xl),(3,Y)].toArray) λau=>bS 82 1 [(0,au)] ap λav aw=>fA 308 J 0 λax=>
 lA 82 ax aw λay=>aP 82 av ay aw λaz a0=>fA 308 J 0 λa1=>sA 82 a1 az a0 λa2=>lA 308 J a2 λa3=>sA 308 a a3 a2 λa4=>lA 308 a a4 λr_3=>K r_3 a4))) (cV o (
 bB .add 3 E (i 1) λa5=>bB .add 3 V (i 1) λa6=>cF 258 [B,a5,a6,(i 0)] u λa7 a8=>aL 308 a8 λG ba=>sA 308 G a7 ba λO=>fA 308 G 2 λbc=>lA 31 bc O λbd=>
 bB .neq 31 bd (i 0) λbe=>cV be (lA 308 G O λbf=>sA 308 a bf O λbg=>lA 308 a bg λZ=>K Z bg) (fA 308 G 1 λbh=>lA 3 bh O λbi=>cF 209 [B,bi,(Go.Value.string (ia (#[41])))] O λbj U=>
 eT g6 (Op.unary .not bj) λbl=>cV bl (fA 308 G 1 λbm=>lA 3 bm U λbn=>cF 320 [B,bn,(i 5)] U λbo bp=>sA 308 a bo bp λbq=>lA 308 a bq λr_5=>K r_5 bq) (
 fA 308 G 1 λbr=>lA 3 br U λbs=>bB .add 3 bs (i 1) λbt=>fA 308 G 1 λbu=>sA 3 bu bt U λbv=>lA 308 G bv λbw=>sA 308 a bw bv λbx=>lA 308 a bx λr_6=>
 K r_6 bx))) (iA 198 B E λbz=>fA 209 bz 0 λb0=>lA 3 b0 u λb1=>bB .eql 3 b1 (i 2) λb2=>cV b2 (iA 198 B E λb3=>fA 209 b3 2 λb4=>lA 3 b4 (drew u) λb5=>
 iA 198 B E λb6=>fA 209 b6 3 λb7=>lA 3 b7 (drew u) λb8=>eT g6 (l1 164 [(0,(i 1)),(1,b5),(3,b8)].toArray) λb9=>bB .add 3 E (i 1) λca=>bS 82 1 [(0,b9)] (drew u) λcb cc=>
 eT g6 (l1 308 [(0,cb),(1,ca)].toArray) λcd=>sA 308 a cd cc λce=>lA 308 a ce λr_7=>K r_7 ce) (eS (λK4=>iA 198 B E λcf=>fA 209 cf 0 λcg=>
 lA 3 cg u λch=>bB .eql 3 ch (i 1) λci=>cV ci (iA 198 B E λcj=>fA 209 cj 1 λck=>lA 9 ck u λcl=>cF 211 [cl] u λcm cn=>K4 cm cn) (K4 ff u)) (λco W=>∀_:Env,
 cV co (iA 198 B E λcq=>fA 209 cq 1 λcr=>lA 9 cr (drew W) λcs=>iA 198 B E λct=>fA 209 ct 3 λcu=>lA 3 cu (drew W) λcv=>eT g6 (l1 164 [(0,(i 2)),(2,cs),(3,cv)].toArray) λcw=>
 bB .add 3 E (i 1) λcx=>bS 82 1 [(0,cw)] (drew W) λcy cz=>eT g6 (l1 308 [(0,cy),(1,cx)].toArray) λc0=>sA 308 a c0 cz λc1=>lA 308 a c1 λr_8=>
 K r_8 c1) (cF 320 [B,E,(i 5)] W λc2 c3=>sA 308 a c2 c3 λc4=>lA 308 a c4 λr_9=>K r_9 c4)))))))))
def awo:dJ:=λi=>match i with
 | 27=>(.of [(0,[]),(1,[]),(2,[]),(3,[]),(4,[]),(5,[]),(6,[]),(7,[]),(8,[]),(9,[]),(10,[]),(12,[]),(13,[]),(11,[]),(14,[]),(15,[])])
 | 29=>(.of [(0,[]),(1,[]),(2,[]),(3,[]),(4,[]),(5,[]),(6,[]),(7,[]),(8,[]),(9,[]),(10,[]),(12,[]),(13,[]),(11,[]),(14,[]),(15,[])])
 | _=>.nil
theorem ac8(E B u:Value)(h:S294 w K E B u):CR 294 [E,B,u] w K:=
 qm 152 awo 64 [.cell 6 308] Tryz.func294 h
def S304:Prop:=
 aL 348 w λa b=>aL 348 b λB c=>iA 348 B (i 5) λd=>sA 288 d (.func (.func 324) #[] #[]) c λe=>iA 348 B (i 6) λf=>sA 288 f (.func (.func 325) #[] #[]) e λg=>
 iA 348 B (i 7) λh=>sA 288 h (.func (.func 326) #[] #[]) g λj=>iA 348 B (i 8) λk=>sA 288 k (.func (.func 327) #[] #[]) j λl=>iA 348 B (i 9) λn=>sA 288 n (.func (.func 328) #[] #[]) l λo=>
 kD g6 (.func (.func 322) #[] #[]) [(.func (.func 329) #[] #[])] o λp q=>iA 348 B (i 10) λs=>sA 288 s p q λt=>kD g6 (.func (.func 322) #[] #[]) [(.func (.func 330) #[] #[])] t λu v=>
 iA 348 B (i 11) λx=>sA 288 x u v λy=>kD g6 (.func (.func 322) #[] #[]) [(.func (.func 331) #[] #[])] y λz Z=>iA 348 B (i 12) λab=>sA 288 ab z Z λJ=>
 kD g6 (.func (.func 322) #[] #[]) [(.func (.func 332) #[] #[])] J λV M=>iA 348 B (i 13) λW=>sA 288 W V M λag=>kD g6 (.func (.func 322) #[] #[]) [(.func (.func 333) #[] #[])] ag λO U=>
 iA 348 B (i 14) λaj=>sA 288 aj O U λI=>kD g6 (.func (.func 322) #[] #[]) [(.func (.func 334) #[] #[])] I λal am=>iA 348 B (i 15) λY=>sA 288 Y al am λE=>
 lA 348 B E λap=>sA 348 a ap E λG=>lA 348 a G λr=>K r G
theorem ac9(h:S304 w K):CR 304 [] w K:=
 qm 27 (λ_=>.nil) 1 [.cell 0 348] Tryz.func304 h
def S307(E a:Value):Prop:=
 lA 179 a w λb=>lN 179 b λc=>bB .sub 3 c (i 1) λd=>kG (λB u e=>∀_:Env,
 bB .geq 3 u (i 0) λf=>cV f (lA 179 a e λg=>iA 179 g u λh=>lA 231 h e λj=>kD g6 E [u,j] e λk l=>eT g6 (Op.unary .not k) λn=>cV n (
 K (.tuple #[]) l) (bB .sub 3 u (i 1) λo=>B o l)) (K (.tuple #[]) e)) (λB=>B d w)
theorem ada(u B:Value)(h:S307 w K u B):CR 307 [u,B] w K:=
 qm 19 (λ_=>.nil) 0 [] Tryz.func307 h
def S315(u:Value):Prop:=
 eS (λB=>bB .lss 3 u (i 1) λa=>cV a (B tt w) (bB .gtr 3 u (i 14) λb=>B b w)) (λc d=>∀_:Env,
 cV c (K (Go.Value.string (ia (#[]))) d) (bS 91 15 [(0,(Go.Value.string (ia (#[])))),(1,(Go.Value.string (ia (#[114,101])))),(2,(Go.Value.string (ia (#[114,110])))),(3,(Go.Value.string (ia (#[110,101])))),(4,(Go.Value.string (ia (#[114,110,101,102])))),(5,(Go.Value.string (ia (#[110])))),(6,(Go.Value.string (ia (#[110])))),(7,(Go.Value.string (ia (#[])))),(8,(Go.Value.string (ia (#[])))),(9,(Go.Value.string (ia (#[110])))),(10,(Go.Value.string (ia (#[110])))),(11,(Go.Value.string (ia (#[101,98])))),(12,(Go.Value.string (ia (#[107,98])))),(13,(Go.Value.string (ia (#[])))),(14,(Go.Value.string (ia (#[101]))))] d λe f=>
 iA 91 e u λg=>lA 9 g f λh=>K h f))
theorem adb(u:Value)(h:S315 w K u):CR 315 [u] w K:=
 qm 13 (λ_=>.nil) 4 [.tmp 2] Tryz.func315 h
def awp:dJ:=λi=>match i with
 | 1=>.run 0 45
 | 3=>.run 0 13
 | _=>.nil
def awq:dJ:=λi=>match i with
 | 3=>.run 0 18
 | _=>.nil
def awr:dJ:=λi=>match i with
 | 1=>.run 0 31
 | 2=>.run 0 12
 | _=>.nil
def S320(B E I:Value):Prop:=
 aL 308 w λa b=>eS (λG=>lN 198 B λc=>bA .geq 3 E c λd=>cV d (G (i 6) b) (G I b)) (λu e=>∀_:Env,
 cF 214 [B,E] e λf g=>eT g6 (l1 308 [(2,u),(3,f)].toArray) λh=>sA 308 a h g λj=>lA 308 a j λr=>K r j)
theorem ade(u B E:Value)(h:S320 w K u B E):CR 320 [u,B,E] w K:=
 qm 16 (λ_=>.nil) 64 [.cell 6 308] Tryz.func320 h
theorem aoi:PL 290:=dL Tryz.func290
theorem Hs:PL 291:=dL Tryz.func291
theorem aoj:PL 292:=dL Tryz.func292
theorem agI:PL 293:=dL Tryz.func293
theorem agJ:PL 294:=dL Tryz.func294
theorem Xp:PL 295:=dL Tryz.func295
theorem aok:PL 296:=dL Tryz.func296
theorem aol:PL 297:=dL Tryz.func297
theorem aom:PL 298:=dL Tryz.func298
theorem aon:PL 299:=dL Tryz.func299
theorem aoo:PL 300:=dL Tryz.func300
theorem aop:PL 301:=dL Tryz.func301
theorem Xq:PL 302:=dL Tryz.func302
theorem Lu:PL 303:=dL Tryz.func303
theorem aoq:PL 304:=dL Tryz.func304
theorem AD:PL 305:=dL Tryz.func305
theorem agK:PL 306:=dL Tryz.func306
theorem aor:PL 307:=dL Tryz.func307
theorem aos:PL 315:=dL Tryz.func315
theorem Lv:PL 316:=dL Tryz.func316
theorem EE:PL 317:=dL Tryz.func317
theorem Lw:PL 318:=dL Tryz.func318
theorem aot:PL 319:=dL Tryz.func319
theorem Sk:PL 320:=dL Tryz.func320
theorem aou:PL 321:=dL Tryz.func321
theorem Ht:PL 322:=dL Tryz.func322
theorem Hu:PL 323:=dL Tryz.func323
theorem aov:PL 324:=dL Tryz.func324
theorem aow:PL 325:=dL Tryz.func325
theorem aox:PL 326:=dL Tryz.func326
theorem aoy:PL 327:=dL Tryz.func327
theorem aoz:PL 328:=dL Tryz.func328
theorem aoA:PL 329:=dL Tryz.func329
theorem aoB:PL 330:=dL Tryz.func330
theorem aoC:PL 331:=dL Tryz.func331
theorem aoD:PL 332:=dL Tryz.func332
theorem aoE:PL 333:=dL Tryz.func333
theorem aoF:PL 334:=dL Tryz.func334
end Go.Proofs.YtpdlpabnlkofmaaGreatDoor
namespace Go.Fw
def qd(w:World)(b:Nat)(cs:List Value):Prop:=∃u,w.heap[b]?=some (.cells cs.toArray u (0,0))
def Cell(w:World)(b o:Nat)(v:Value):Prop:=w.cell? ⟨b,o,none⟩=some v
structure gz(A:Nat->Prop)(w w':World):Prop where
 os:w'.os=w.os
 tape:w'.tape=w.tape
 output:w'.output=w.output
 size:w.heap.size<=w'.heap.size
 bY:∀b,b<w.heap.size->¬ A b->w'.heap[b]?=w.heap[b]?
def aZ:Nat->Prop:=λ_=>False
abbrev Ext(w w':World):Prop:=gz aZ w w'
def gz.refl(A:Nat->Prop)(w:World):gz A w w:=⟨rfl,rfl,rfl,o1 _,λ_ _ _=>rfl⟩
def gz.trans{A B C:Nat->Prop}{w I E:World}(h:gz A w I)(k:gz B I E)(M:∀b,A b->C b)(J:∀b,b<w.heap.size->B b->C b):gz C w E:=
 ⟨k.os.trans h.os,k.tape.trans h.tape,k.output.trans h.output,te h.size k.size,λb hb G=>
  (k.bY b (Nat.lt_of_lt_of_le hb h.size) λu=>G (J b hb u)).trans (h.bY b hb λu=>G (M b u))⟩
def gz.then{A:Nat->Prop}{w B u:World}(h:gz A w B)(k:Ext B u):gz A w u:=h.trans k (λ_ h=>h) λ_ _ h=>h.elim
def gz.mono{A B:Nat->Prop}{w w':World}(h:gz A w w')(u:∀b,A b->B b):gz B w w':=⟨h.os,h.tape,h.output,h.size,λb hb E=>h.bY b hb λx=>E (u b x)⟩
def Ext.refl(w:World):Ext w w:=gz.refl _ _
def Ext.trans{w B u:World}(h:Ext w B)(k:Ext B u):Ext w u:=gz.then h k
def Ext.aF{A:Nat->Prop}{w w':World}(h:Ext w w'):gz A w w':=h.mono λ_ h=>h.elim
theorem Ext.drew(w:World):Ext w (drew w):=⟨rfl,rfl,rfl,o1 _,λ_ _ _=>rfl⟩
def gz.below{w w':World}(h:Ext w w'):Go.RowKit.Below w.heap.size w w':=⟨h.os,h.tape,h.output,h.size,λb hb=>h.bY b hb λx=>x⟩
def vg{w:World}{b:Nat}{o:Obj}(h:w.heap[b]?=some o):b<w.heap.size:=(Ei.1 h).1
def qd.lt{w:World}{b:Nat}{cs:List Value}(h:qd w b cs):b<w.heap.size:=vg h.choose_spec
def Cell.lt{w:World}{b o:Nat}{v:Value}(h:Cell w b o v):b<w.heap.size:=by
 unfold Cell SN at h
 grind
def Cell.of_eq{w w':World}{b o:Nat}{v:Value}(h:Cell w b o v)(u:w'.heap[b]?=w.heap[b]?):Cell w' b o v:=by
 unfold Cell SN at *
 grind
def qd.of_eq{w w':World}{b:Nat}{cs:List Value}(h:qd w b cs)(u:w'.heap[b]?=w.heap[b]?):qd w' b cs:=by
 grind[qd]
def Cell.aF{A:Nat->Prop}{w w':World}{b o:Nat}{v:Value}(h:Cell w b o v)(hc:gz A w w')(u:¬ A b):Cell w' b o v:=h.of_eq (hc.bY b h.lt u)
theorem Cell.ext{w w':World}{b o:Nat}{v:Value}(h:Cell w b o v)(hc:Ext w w'):Cell w' b o v:=h.aF hc (λx=>x)
def qd.cell{w:World}{b o:Nat}{cs:List Value}{v:Value}(h:qd w b cs)(u:cs[o]?=some v):Cell w b o v:=by
 obtain⟨B,h⟩:=h
 unfold Cell SN
 grind
def qd.frozen{w:World}{b o:Nat}{cs:List Value}(h:qd w b cs):w.frozen? ⟨b,o,none⟩=false:=by
 obtain⟨u,h⟩:=h
 unfold World.frozen?
 grind
def Je(w:World)(b o:Nat)(v:Value)(k:Nat)(h:k≠b):(w.setCell ⟨b,o,none⟩ v).heap[k]?=w.heap[k]?:=by
 simp only[aaH,P8]
 grind
def qd.setCell{w:World}{b o:Nat}{cs:List Value}(h:qd w b cs)(v:Value):qd (w.setCell ⟨b,o,none⟩ v) b (cs.set o v):=by
 obtain⟨u,h⟩:=h
 refine⟨u,?_⟩
 simp only[aaH,P8,if_true,h]
 simp
def gz.setCell(w:World)(b o:Nat)(v:Value):gz (· = b) w (w.setCell ⟨b,o,none⟩ v):=
 ⟨rfl,rfl,rfl,by simp_all,λk _ u=>Je w b o v k u⟩
def push(w:World)(o:Obj):World:={w with heap:=w.heap.push o}
def yf(w:World)(o:Obj)(k:Nat)(h:k<w.heap.size):(push w o).heap[k]?=w.heap[k]?:=by
 grind[push]
def mh(w:World)(o:Obj):(push w o).heap[w.heap.size]?=some o:=by
 grind[push]
theorem Cf(w:World)(o:Obj):(push w o).heap.size=w.heap.size+1:=by simp[push]
theorem Ext.push(w:World)(o:Obj):Ext w (push w o):=⟨rfl,rfl,rfl,by rw[Cf];omega,λb hb _=>yf w o b hb⟩
theorem qd.push(w:World)(cs:List Value)(u:TypeId):qd (push w (.cells cs.toArray u)) w.heap.size cs:=⟨u,mh _ _⟩
structure HP where
 p:World->(Nat->Prop)->Prop
 loc:∀w w' F,p w F->(∀b,F b->w'.heap[b]?=w.heap[b]?)->p w' F
 lt:∀w F b,p w F->F b->b<w.heap.size
def bY(b:Nat)(cs:List Value):HP where
 p w F:=qd w b cs/\∀k,F k↔k=b
 loc w w' F h hh:=⟨h.1.of_eq (hh b ((h.2 b).2 rfl)),h.2⟩
 lt w F b' h hb:=by rw[(h.2 b').1 hb];exact h.1.lt
def rS(w0:World)(A:Nat->Prop):List HP->World->(Nat->Prop)->Prop
 | [],_,U=>∀b,¬ U b
 | H::L,w,U=>∃F u,H.p w F/\(∀b,F b->A b\/w0.heap.size<=b)/\(∀b,F b->¬ u b)/\(∀b,U b↔F b\/u b)/\rS w0 A L w u
structure St(w0:World)(A:Nat->Prop)(L:List HP)(w:World):Prop where
 aF:gz A w0 w
 tV:∃U,rS w0 A L w U
theorem rS.lt{w0:World}{A:Nat->Prop}{L:List HP}{w:World}{U:Nat->Prop}(h:rS w0 A L w U):∀b,U b->b<w.heap.size:=by
 induction L generalizing U with
 | nil=>intro b hb;exact(h b hb).elim
 | cons H L u=>
  obtain⟨F,B,h1,h2,h3,h4,h5⟩:=h
  intro b hb
  rcases(h4 b).1 hb with hf|hu
  .exact H.lt _ _ _ h1 hf
  .exact u h5 b hu
theorem rS.loc{w0:World}{A:Nat->Prop}{L:List HP}{w w':World}{U:Nat->Prop}(h:rS w0 A L w U)(u:∀b,U b->w'.heap[b]?=w.heap[b]?):rS w0 A L w' U:=by
 induction L generalizing U with
 | nil=>exact h
 | cons H L E=>
  obtain⟨F,B,h1,h2,h3,h4,h5⟩:=h
  exact⟨F,B,H.loc _ _ _ h1 λb hb=>u b ((h4 b).2 (.inl hb)),h2,h3,h4,E h5 λb hb=>u b ((h4 b).2 (.inr hb))⟩
def St.start(w:World):St w aZ [] w:=⟨gz.refl _ _,aZ,λ_ h=>h⟩
def St.begin{w:World}{F:Nat->Prop}{H:HP}(h:H.p w F):St w F [H] w:=
 ⟨gz.refl _ _,F,F,aZ,h,λ_ h=>.inl h,λ_ _ h=>h,λ_=>⟨.inl,λh=>h.elim id λh=>h.elim⟩,λ_ h=>h⟩
theorem St.ext{w0:World}{A:Nat->Prop}{L:List HP}{w w':World}(h:St w0 A L w)(e:Ext w w'):St w0 A L w':=by
 obtain⟨U,u⟩:=h.tV
 exact⟨h.aF.then e,U,u.loc λb hb=>e.bY b (u.lt b hb) λx=>x⟩
theorem St.drew{w0:World}{A:Nat->Prop}{L:List HP}{w:World}(h:St w0 A L w):St w0 A L (drew w):=h.ext (Ext.drew w)
def St.new{w0:World}{A:Nat->Prop}{L:List HP}{w w':World}{H:HP}{F:Nat->Prop}(h:St w0 A L w)(e:Ext w w')(G:H.p w' F)(J:∀b,F b->w.heap.size<=b):St w0 A (H::L) w':=by
 obtain⟨U,M⟩:=(h.ext e).tV
 obtain⟨B,u⟩:=h.tV
 have E:rS w0 A L w' B:=u.loc λb hb=>e.bY b (u.lt b hb) (λx=>x)
 refine⟨(h.ext e).aF,λb=>F b\/B b,F,B,G,λb hb=>.inr ?_,λb hb I=>?_,λb=>Iff.rfl,E⟩
 .exact te h.aF.size (J b hb)
 have:=u.lt b I;grind
def St.rp{w0:World}{A:Nat->Prop}{L:List HP}{w w':World}{H H':HP}(h:St w0 A (H::L) w)
  (M:∀F,H.p w F->∃B,H'.p w' B/\(∀b,B b->F b\/w.heap.size<=b)/\gz F w w'):St w0 A (H'::L) w':=by
 obtain⟨U,F,G,h1,h2,h3,h4,h5⟩:=h.tV
 obtain⟨B,O,E,I⟩:=M F h1
 refine⟨h.aF.trans I (λ_ h=>h) λb hb u=>?_,λb=>B b\/G b,B,G,O,λb hb=>?_,λb hb J=>?_,λb=>Iff.rfl,?_⟩
 .grind
 .rcases E b hb with u|u
  .grind
  exact .inr (te h.aF.size u)
 .rcases E b hb with u|u
  .grind
  have:=h5.lt b J;omega
 exact h5.loc λb hb=>I.bY b (h5.lt b hb) λu=>h3 b u hb
def St.drop{w0:World}{A:Nat->Prop}{L:List HP}{w:World}{H:HP}(h:St w0 A (H::L) w):St w0 A L w:=by
 obtain⟨U,F,u,h1,h2,h3,h4,h5⟩:=h.tV
 exact⟨h.aF,u,h5⟩
def St.swap{w0:World}{A:Nat->Prop}{L:List HP}{w:World}{H H':HP}(h:St w0 A (H::H'::L) w):St w0 A (H'::H::L) w:=by
 obtain⟨U,F,M,h1,h2,h3,h4,I,u,G,B,V,O,E⟩:=h.tV
 refine⟨h.aF,U,I,λb=>F b\/u b,G,B,λb hb=>?_,λb=>?_,F,u,h1,h2,λb hb J=>?_,λb=>Iff.rfl,E⟩
 .grind
 .grind
 grind
def rS.swap{w0:World}{A:Nat->Prop}{L:List HP}{w:World}{H H':HP}{U:Nat->Prop}(h:rS w0 A (H::H'::L) w U):rS w0 A (H'::H::L) w U:=by
 obtain⟨F,M,h1,h2,h3,h4,I,u,G,B,V,O,E⟩:=h
 refine⟨I,λb=>F b\/u b,G,B,λb hb=>?_,λb=>?_,F,u,h1,h2,λb hb J=>?_,λb=>Iff.rfl,E⟩
 .grind
 .grind
 grind
def rS.under{w0:World}{A:Nat->Prop}{L L':List HP}{w:World}{H:HP}{U:Nat->Prop}(u:∀U,rS w0 A L w U->rS w0 A L' w U)(h:rS w0 A (H::L) w U):rS w0 A (H::L') w U:=by
 grind[rS]
theorem rS.pull{w0:World}{A:Nat->Prop}{u B:List HP}{w:World}{H:HP}{U:Nat->Prop}(h:rS w0 A (u++H::B) w U):rS w0 A (H::(u++B)) w U:=by
 induction u generalizing U with
 | nil=>exact h
 | cons X u E=>exact rS.swap (rS.under (λU h=>E h) h)
def St.pull{w0:World}{A:Nat->Prop}{w:World}(B:List HP){H:HP}{u:List HP}(h:St w0 A (B++H::u) w):St w0 A (H::(B++u)) w:=by
 obtain⟨U,E⟩:=h.tV
 exact⟨h.aF,U,E.pull⟩
def St.p1{w0:World}{A:Nat->Prop}{w:World}{u H:HP}{R:List HP}(h:St w0 A (u::H::R) w):St w0 A (H::u::R) w:=St.pull [u] h
def St.p2{w0:World}{A:Nat->Prop}{w:World}{B u H:HP}{R:List HP}(h:St w0 A (B::u::H::R) w):St w0 A (H::B::u::R) w:=St.pull [B,u] h
def St.p3{w0:World}{A:Nat->Prop}{w:World}{E B u H:HP}{R:List HP}(h:St w0 A (E::B::u::H::R) w):St w0 A (H::E::B::u::R) w:=St.pull [E,B,u] h
def St.p4{w0:World}{A:Nat->Prop}{w:World}{G E u B H:HP}{R:List HP}(h:St w0 A (G::E::u::B::H::R) w):St w0 A (H::G::E::u::B::R) w:=St.pull [G,E,u,B] h
def St.p5{w0:World}{A:Nat->Prop}{w:World}{G E u B P4 H:HP}{R:List HP}(h:St w0 A (G::E::u::B::P4::H::R) w):St w0 A (H::G::E::u::B::P4::R) w:=St.pull [G,E,u,B,P4] h
def St.p6{w0:World}{A:Nat->Prop}{w:World}{I G u B P4 E H:HP}{R:List HP}(h:St w0 A (I::G::u::B::P4::E::H::R) w):St w0 A (H::I::G::u::B::P4::E::R) w:=St.pull [I,G,u,B,P4,E] h
def St.p7{w0:World}{A:Nat->Prop}{w:World}{I G u B P4 E J H:HP}{R:List HP}(h:St w0 A (I::G::u::B::P4::E::J::H::R) w):St w0 A (H::I::G::u::B::P4::E::J::R) w:=St.pull [I,G,u,B,P4,E,J] h
def St.p8{w0:World}{A:Nat->Prop}{w:World}{I G u B P4 E J P7 H:HP}{R:List HP}(h:St w0 A (I::G::u::B::P4::E::J::P7::H::R) w):St w0 A (H::I::G::u::B::P4::E::J::P7::R) w:=St.pull [I,G,u,B,P4,E,J,P7] h
def St.p9{w0:World}{A:Nat->Prop}{w:World}{J I B E P4 G M P7 u H:HP}{R:List HP}(h:St w0 A (J::I::B::E::P4::G::M::P7::u::H::R) w):St w0 A (H::J::I::B::E::P4::G::M::P7::u::R) w:=St.pull [J,I,B,E,P4,G,M,P7,u] h
def St.p10{w0:World}{A:Nat->Prop}{w:World}{J I B E P4 G M P7 u P9 H:HP}{R:List HP}(h:St w0 A (J::I::B::E::P4::G::M::P7::u::P9::H::R) w):St w0 A (H::J::I::B::E::P4::G::M::P7::u::P9::R) w:=St.pull [J,I,B,E,P4,G,M,P7,u,P9] h
def St.p11{w0:World}{A:Nat->Prop}{w:World}{M J E G P4 I O P7 B P9 u H:HP}{R:List HP}(h:St w0 A (M::J::E::G::P4::I::O::P7::B::P9::u::H::R) w):St w0 A (H::M::J::E::G::P4::I::O::P7::B::P9::u::R) w:=St.pull [M,J,E,G,P4,I,O,P7,B,P9,u] h
def St.p12{w0:World}{A:Nat->Prop}{w:World}{M G E I P4 J O P7 B P9 u P11 H:HP}{R:List HP}(h:St w0 A (M::G::E::I::P4::J::O::P7::B::P9::u::P11::H::R) w):St w0 A (H::M::G::E::I::P4::J::O::P7::B::P9::u::P11::R) w:=St.pull [M,G,E,I,P4,J,O,P7,B,P9,u,P11] h
def St.p0{w0:World}{A:Nat->Prop}{w:World}{L:List HP}(h:St w0 A L w):St w0 A L w:=h
def St.head{w0:World}{A:Nat->Prop}{L:List HP}{w:World}{H:HP}(h:St w0 A (H::L) w):∃F,H.p w F/\∀b,F b->A b\/w0.heap.size<=b:=by
 obtain⟨U,F,u,h1,h2,_⟩:=h.tV;grind
theorem St.hb{w0:World}{A:Nat->Prop}{L:List HP}{w:World}{b:Nat}{cs:List Value}(h:St w0 A (bY b cs::L) w):qd w b cs:=by
 obtain⟨F,h1,_⟩:=h.head;exact h1.1
def wF:Value->Bool
 | .agg _=>false
 | .tuple _=>false
 | _=>true
def dD(P:Program)(T:TypeId):Option (Bool×Nat):=
 match P.underlying T with
 | some d=>(P.info? T).map λi=>(match d with|.struct _|.array _ _=>true|_=>false,i.size)
 | none=>none
def aT(P:Program)(T f:Nat):Option (Nat×Option Bool):=
 match P.underlying T with
 | some (.struct B)=>(B[f]?).map λu=>(u.offset,(P.info? u.type).map λi=>i.size != 0)
 | _=>none
def eM(P:Program)(T:TypeId):Option (TypeId×Nat×Nat×Option Nat):=
 match P.underlying T with
 | some (.slice E)=>(P.info? E).map λi=>(E,i.size,i.bytes,i.zero.map λz=>z.cells.size)
 | _=>none
def eo(P:Program)(T:TypeId):Option (Option Value):=(P.info? T).map λi=>i.zero
abbrev Xr(P:Program)(T:TypeId):Prop:=dD P T=some (false,1)
abbrev adf(P:Program)(T:TypeId)(n:Nat):Prop:=dD P T=some (true,n)
abbrev wG(P:Program)(T f u:Nat):Prop:=aT P T f=some (u,some true)
abbrev Wy(P:Program)(T E n bytes:Nat):Prop:=eM P T=some (E,n,bytes,some n)
abbrev ot(P:Program)(T:TypeId)(z:Value):Prop:=eo P T=some (some z)
theorem mi{P:Program}{T:TypeId}{i:TypeInfo}(h:P.info? T=some i):pr P (typeInfo T)=some i:=by
 show pr P (match P.info? T with|some i => pure i|none => stuck "no such type")=_
 rw[h];rfl
theorem cS{P:Program}{T:TypeId}{d:TypeDesc}(h:P.underlying T=some d):pr P (underlying T)=some d:=by
 show pr P (match P.underlying T with|some d => pure d|none => stuck "no such type")=_
 rw[h];rfl
theorem mR{P:Program}{T:TypeId}{i:TypeInfo}(h:P.info? T=some i):pr P (sizeOf T)=some i.size:=by
 unfold sizeOf;rw[cT,mi h];rfl
theorem vh{P:Program}{α β:Type}(m:Sem α)(f:α->β):pr P (do pure (f (<- m)))=(pr P m).map f:=by
 rw[cT];cases pr P m<;>rfl
theorem lB{P:Program}{T:TypeId}{a:Bool}{n:Nat}(h:dD P T=some (a,n)):pr P (isAgg T)=some a/\pr P (sizeOf T)=some n:=by
 unfold dD at h
 cases hd:P.underlying T with
 | none=>grind
 | some d=>
  rw[hd]at h
  cases hi:P.info? T with
  | none=>grind
  | some i=>
   rw[hi]at h
   simp only[E2,n4.injEq,aaC.injEq]at h
   obtain⟨h1,h2⟩:=h
   refine⟨?_,by rw[mR hi,h2]⟩
   unfold isAgg
   rw[cT,cS hd]
   show pr P (match d with|.struct _|.array _ _=>pure true|_=>pure false)=_
   rw[<- h1]
   cases d<;>rfl
theorem fp{P:Program}{T E n u:Nat}{z:Option Nat}(h:eM P T=some (E,n,u,z)) :
  P.underlying T=some (.slice E)/\∃i,P.info? E=some i/\i.size=n/\i.bytes=u/\i.zero.map (λz=>z.cells.size)=z:=by
 unfold eM at h
 split at h
 .rename_i E' hE
  cases hi:P.info? E' with
  | none=>grind
  | some i=>
   grind
 cases h
section
variable {P:Program}{w:World}
theorem pop{m:Sem Value}{v:Value}{K:Value->Prop}(h:pr P m=some v)(k:K v):eT P m K:=⟨v,h,k⟩
theorem aE{a:Addr}{K:Value->Prop}(k:K (.pointer (some a))):eT P (Uo (.pointer (some a))) K:=⟨_,rfl,k⟩
theorem bQ{b:Bool}{K:Value->Prop}(k:K (.bool (!b))):eT P (Op.unary .not (.bool b)) K:=⟨_,rfl,k⟩
theorem Lx{p:Prop}[Decidable p]{K:Value->Prop}(k:K (.bool (decide (¬ p)))):eT P (Op.unary .not (.bool (decide p))) K:=by
 refine bQ ?_
 grind
theorem aO{vs:List Value}{i:Nat}{v:Value}{K:Value->Prop}(h:vs[i]?=some v)(k:K v):eT P (Ti (.tuple vs.toArray) i) K:=
 ⟨v,by simp only[Ti,P5,h];rfl,k⟩
theorem aQ{T:Nat}{cx cy:Bool}{a b:Int}{K:Value->Prop}(k:K (.bool (decide (a<b)))):eT P (jU .lss T cx cy (hH a) (hH b)) K:=⟨_,rfl,k⟩
theorem gA{T:Nat}{cx cy:Bool}{a b:Int}{K:Value->Prop}(k:K (.bool (decide (a<=b)))):eT P (jU .leq T cx cy (hH a) (hH b)) K:=⟨_,rfl,k⟩
theorem cP{T:Nat}{cx cy:Bool}{a b:Int}{K:Value->Prop}(k:K (.bool (decide (b<a)))):eT P (jU .gtr T cx cy (hH a) (hH b)) K:=⟨_,rfl,k⟩
theorem cQ{T:Nat}{cx cy:Bool}{a b:Int}{K:Value->Prop}(k:K (.bool (decide (b<=a)))):eT P (jU .geq T cx cy (hH a) (hH b)) K:=⟨_,rfl,k⟩
theorem aG{T:Nat}{cx cy:Bool}{a b:Int}{K:Value->Prop}(k:K (.bool (decide (a=b)))):eT P (jU .eql T cx cy (hH a) (hH b)) K:=⟨_,rfl,k⟩
theorem bV{T:Nat}{cx cy:Bool}{a b:Int}{K:Value->Prop}(k:K (.bool (decide (a≠b)))):eT P (jU .neq T cx cy (hH a) (hH b)) K:=
 ⟨_,(show pr P (jU .neq T cx cy (hH a) (hH b))=some (.bool (decide (a≠b)))from by
  show some (xc (a != b))=_
  grind),k⟩
theorem aK{T:Nat}{cx cy:Bool}{a b:Int}{K:Value->Prop}(h : -9223372036854775808<=a+b/\a+b<=9223372036854775807)(k:K (hH (a+b))) :
  eT P (jU .add T cx cy (hH a) (hH b)) K:=
 ⟨_,(show pr P (jU .add T cx cy (hH a) (hH b))=some (hH (a+b))from by
  show some (ng .i64 (IntKind.i64.wrap (a+b)))=_
  rw[IntWalk.i64_in _ h]),k⟩
theorem fr{T:Nat}{cx cy:Bool}{a b:Int}{K:Value->Prop}(h : -9223372036854775808<=a-b/\a-b<=9223372036854775807)(k:K (hH (a-b))) :
  eT P (jU .sub T cx cy (hH a) (hH b)) K:=
 ⟨_,(show pr P (jU .sub T cx cy (hH a) (hH b))=some (hH (a-b))from by
  show some (ng .i64 (IntKind.i64.wrap (a-b)))=_
  rw[IntWalk.i64_in _ h]),k⟩
theorem DV{T:Nat}{cx cy:Bool}{a b:Int}{K:Value->Prop}(h : -9223372036854775808<=a*b/\a*b<=9223372036854775807)(k:K (hH (a*b))) :
  eT P (jU .mul T cx cy (hH a) (hH b)) K:=
 ⟨_,(show pr P (jU .mul T cx cy (hH a) (hH b))=some (hH (a*b))from by
  show some (ng .i64 (IntKind.i64.wrap (a*b)))=_
  rw[IntWalk.i64_in _ h]),k⟩
theorem aC{p:Prop}[Decidable p]{A B:Prop}(h1:p->A)(h2:¬ p->B):yR (.bool (decide p)) A B:=
 ⟨_,rfl,λh=>h1 (ga h),λh=>h2 (gS h)⟩
theorem gU{A B:Prop}(h:A):yR (.bool true) A B:=⟨_,rfl,λ_=>h,λh=>by cases h⟩
theorem ft{A B:Prop}(h:B):yR (.bool false) A B:=⟨_,rfl,λh=>(by cases h),λ_=>h⟩
theorem aY{b:Bool}{A B:Prop}(h1:b=true->A)(h2:b=false->B):yR (.bool b) A B:=⟨_,rfl,h1,h2⟩
theorem gx{α:Type}(l:List α){i:Nat}(h:i<l.length):∃x,l[i]?=some x:=⟨_,List.getElem?_eq_getElem h⟩
theorem dR{a b:Nat}(h:SE a b=true):a<=b:=CU h
theorem dO{f:FuncId}{args:List Value}{Φ K:Value->g7}(pl:Plain P f)(h:Calls P f args.toArray w (tc Φ))(k:∀v w',Φ v w'->K v w') :
  CZ P f args w K:=⟨.inl ⟨pl,h.mono λ_ _ r=>r.mono k⟩⟩
theorem gZ{g:FuncId}{args first cap:List Value}{Φ K:Value->g7}(pl:Plain P g)(h:Calls P g (first++args++cap).toArray w (tc Φ))(k:∀v w',Φ v w'->K v w') :
  kD P (.func (.func g) first.toArray cap.toArray) args w K:=⟨.inl ⟨g,_,_,rfl,pl,by simpa using h.mono λ_ _ r=>r.mono k⟩⟩
theorem aoH{f:FuncId}{args:List Value}{Φ Ψ:Value->g7}(h:Calls P f args.toArray w (tc Φ))(k:∀v w',Φ v w'->Ψ v w'):Calls P f args.toArray w (tc Ψ):=
 h.mono λ_ _ r=>r.mono k
variable {w0:World}{A:Nat->Prop}{L:List HP}
theorem run_load(a:Addr)(v:Value)(h:w.cell? a=some v):(load a).run P w=.ok v w:=by
 simp_all
theorem gK(b o j:Nat):(Addr.mk b o none).add j=⟨b,o+j,none⟩:=by
 unfold Addr.add;grind
theorem run_loadCellsFrom(b o:Nat):∀(n i:Nat) (u:Array Value) (cs:List Value),cs.length=n->(∀j c,cs[j]?=some c->Cell w b (o+i+j) c)->
  (loadCellsFrom ⟨b,o,none⟩ i n u).run P w=.ok (u++cs.toArray) w:=by
 intro n
 induction n with
 | zero=>intro i u cs B _;obtain rfl:=List.length_eq_zero_iff.1 B;simp[loadCellsFrom]
 | succ n E=>
  intro i u cs B h
  match cs,B with
  | c::cs,B=>
   unfold loadCellsFrom
   rw[eJ (run_load _ c (by rw[gK];exact h 0 c rfl))]
   rw[E (i+1) (u.push c) cs cJ λj d hd=>by have:=h (j+1) d cJ;grind]
   simp
theorem run_loadCells{b o:Nat}{cs:List Value}(h:∀j c,cs[j]?=some c->Cell w b (o+j) c):(loadCells ⟨b,o,none⟩ cs.length).run P w=.ok cs.toArray w:=by
 unfold loadCells
 rw[run_loadCellsFrom b o cs.length 0 #[] cs rfl λj c hc=>cJ]
 simp
theorem aI{T:TypeId}{b o:Nat}{v:Value}(ht:Xr P T)(h:Cell w b o v):(x6 T (.pointer (some ⟨b,o,none⟩))).run P w=.ok v w:=by
 show(loadVar T ⟨b,o,none⟩).run P w=_
 unfold loadVar
 rw[eJ (fY (lB ht).1 w)]
 exact run_load _ v h
theorem C3{T:TypeId}{b o:Nat}{cs:List Value}(ht:adf P T cs.length)(h:∀j c,cs[j]?=some c->Cell w b (o+j) c) :
  (x6 T (.pointer (some ⟨b,o,none⟩))).run P w=.ok (.agg cs.toArray) w:=by
 show(loadVar T ⟨b,o,none⟩).run P w=_
 unfold loadVar
 rw[eJ (fY (lB ht).1 w)]
 simp only[if_true]
 rw[eJ (fY (lB ht).2 w),eJ (run_loadCells h)]
 rfl
theorem aB{T:TypeId}{b o:Nat}{cs:List Value}{v:Value}{K:Value->Prop}(ht:Xr P T)(hb:qd w b cs)(hc:cs[o]?=some v)(k:K v) :
  KQ P (x6 T (.pointer (some ⟨b,o,none⟩))) w K:=⟨v,aI ht (hb.cell hc),k⟩
theorem Ly{T:TypeId}{b n:Nat}{cs:List Value}{K:Value->Prop}(ht:adf P T n)(hb:qd w b cs)(u:cs.length=n)(k:K (.agg cs.toArray)) :
  KQ P (x6 T (.pointer (some ⟨b,0,none⟩))) w K:=by
 subst u
 exact⟨_,C3 ht λj c hc=>by rw[tx];exact hb.cell hc,k⟩
theorem Pm{T f u b o:Nat}(ht:wG P T f u):pr P (Fp T (.pointer (some ⟨b,o,none⟩)) f)=some (.pointer (some ⟨b,o+u,none⟩)):=by
 unfold wG aT at ht
 split at ht
 .rename_i fs hfs
  cases hf:fs[f]? with
  | none=>grind
  | some fd=>
   rw[hf]at ht
   simp only[E2,n4.injEq,aaC.injEq]at ht
   obtain⟨G,E⟩:=ht
   cases hi:P.info? fd.type with
   | none=>grind
   | some i=>
    rw[hi]at E
    have B:i.size≠0:=cJ
    unfold Fp
    rw[cT,cS hfs]
    simp only[ma,hf]
    show pr P (do pure (aaL (some (<- fieldPlace ⟨b,o,none⟩ fd))))=_
    rw[vh]
    unfold fieldPlace
    rw[cT,mR hi]
    simp only[ma,ei B,gK,G]
    rfl
 cases ht
theorem aA{T f u b o:Nat}{K:Value->Prop}(ht:wG P T f u)(k:K (.pointer (some ⟨b,o+u,none⟩))) :
  eT P (Fp T (.pointer (some ⟨b,o,none⟩)) f) K:=⟨_,Pm ht,k⟩
theorem pfb{T f u b o T2:Nat}{cs:List Value}{v:Value}{K:Value->Prop}(ht:wG P T f u)(h2:Xr P T2)(hb:qd w b cs)(hc:cs[o+u]?=some v)(k:K v) :
  eT P (Fp T (.pointer (some ⟨b,o,none⟩)) f) λp=>KQ P (x6 T2 p) w K:=aA ht (aB h2 hb hc k)
theorem Jf(T:TypeId)(v:Value):(yB T v).run P w=.ok (.pointer (some ⟨w.heap.size,0,none⟩)) (push w (.cells v.cells T)):=rfl
theorem St.push{T:TypeId}{cs:List Value}(u:St w0 A L w):St w0 A (bY w.heap.size cs::L) (push w (.cells cs.toArray T)):=
 u.new (Ext.push _ _) (F:=λk=>k=w.heap.size) ⟨qd.push w cs T,λ_=>Iff.rfl⟩ λb hb=>by rw[hb];exact o1 _
theorem nx{T:TypeId}{v:Value}{K:Value->g7}(u:St w0 A L w)(B:wF v=true)
  (k:∀b w',St w0 A (bY b [v]::L) w'->K (.pointer (some ⟨b,0,none⟩)) w'):qW P (yB T v) w K:=by
 refine⟨_,_,Jf T v,k _ _ ?_⟩
 have:v.cells=[v].toArray:=by cases v<;>first|rfl|cases B
 rw[this]
 exact u.push
theorem ny{T:TypeId}{cs:List Value}{K:Value->g7}(u:St w0 A L w)
  (k:∀b w',St w0 A (bY b cs::L) w'->K (.pointer (some ⟨b,0,none⟩)) w'):qW P (yB T (.agg cs.toArray)) w K:=
 ⟨_,_,Jf T _,k _ _ u.push⟩
theorem gG{T:TypeId}{z:Value}{K:Value->g7}(B:St w0 A L w)(u:ot P T z)(E:wF z=true)
  (k:∀b w',St w0 A (bY b [z]::L) w'->K (.pointer (some ⟨b,0,none⟩)) w'):qW P (Qj T true (.tuple #[])) w K:=by
 unfold ot eo at u
 cases hi:P.info? T with
 | none=>rw[hi]at u;cases u
 | some i=>
  rw[hi]at u
  simp only[E2,n4.injEq]at u
  have h1:pr P (zeroValue T)=some z:=by unfold zeroValue;rw[cT,mi hi];simp only[ma,u];rfl
  refine⟨_,push w (.cells [z].toArray T),?_,k _ _ (B.push (T:=T))⟩
  unfold Qj
  rw[eJ (fY h1 w)]
  have:z.cells=[z].toArray:=by cases z<;>first|rfl|cases E
  show(do pure (aaL (some (<- newVar T z))):Sem Value).run P w=_
  unfold newVar
  rw[this]
  rfl
theorem aR{T:TypeId}{cs:List Value}{K:Value->g7}(B:St w0 A L w)(u:ot P T (.agg cs.toArray))
  (k:∀b w',St w0 A (bY b cs::L) w'->K (.pointer (some ⟨b,0,none⟩)) w'):qW P (Qj T true (.tuple #[])) w K:=by
 unfold ot eo at u
 cases hi:P.info? T with
 | none=>rw[hi]at u;cases u
 | some i=>
  rw[hi]at u
  simp only[E2,n4.injEq]at u
  have h1:pr P (zeroValue T)=some (.agg cs.toArray):=by unfold zeroValue;rw[cT,mi hi];simp only[ma,u];rfl
  refine⟨_,push w (.cells cs.toArray T),?_,k _ _ (B.push (T:=T))⟩
  unfold Qj
  rw[eJ (fY h1 w)]
  rfl
theorem run_store{b o:Nat}{cs:List Value}{v:Value}(hb:qd w b cs)(B:o<cs.length)(u:wF v=true) :
  (store ⟨b,o,none⟩ v).run P w=.ok () (w.setCell ⟨b,o,none⟩ v):=by
 have h1:w.cell? ⟨b,o,none⟩=some cs[o]:=hb.cell (by simp[B])
 have h2:=hb.frozen (o:=o)
 unfold store
 cases v<;>first|cases u|skip
 all_goals
  simp only[Sem.run,h1,h2]
  rfl
theorem Lz{b o:Nat}{cs:List Value}{v:Value}(B:St w0 A (bY b cs::L) w):St w0 A (bY b (cs.set o v)::L) (w.setCell ⟨b,o,none⟩ v):=
 B.rp λF u=>⟨F,⟨u.1.setCell v,u.2⟩,λ_ h=>.inl h,(gz.setCell w b o v).mono λk E=>(u.2 k).2 E⟩
theorem aW{T:TypeId}{b o:Nat}{cs:List Value}{v:Value}{K:g7}(u:St w0 A (bY b cs::L) w)(ht:Xr P T)(E:o<cs.length)(B:wF v=true)
  (k:∀w',St w0 A (bY b (cs.set o v)::L) w'->K w'):Wu P (Ka T (.pointer (some ⟨b,o,none⟩)) v) w K:=by
 refine⟨_,?_,k _ (Lz u)⟩
 show(storeVar T ⟨b,o,none⟩ v).run P w=_
 have hc:v.cells = #[v]:=by cases v<;>first|rfl|cases B
 unfold storeVar
 rw[eJ (fY (lB ht).2 w),hc]
 simp only[MR,ob,Mh,tx,ne_eq,not_true_eq_false,if_false]
 show(storeCells ⟨b,o,none⟩ [v]).run P w=_
 unfold storeCells
 rw[gK,PQ,eJ (run_store u.hb E B)]
 rfl
def jd:List Value->Nat->List Value->List Value
 | cs,_,[]=>cs
 | cs,o,v::r=>jd (cs.set o v) (o+1) r
theorem EF{b o:Nat}:∀(vs:List Value) (i:Nat) (cs:List Value) (w:World),St w0 A (bY b cs::L) w->o+i+vs.length<=cs.length->(∀v∈vs,wF v=true)->
  ∃w',(storeCells ⟨b,o,none⟩ vs i).run P w=.ok () w'/\St w0 A (bY b (jd cs (o+i) vs)::L) w':=by
 intro vs
 induction vs with
 | nil=>intro i cs w u _ _;exact⟨w,rfl,u⟩
 | cons v r G=>
  intro i cs w u J B
  have I:o+i+(r.length+1)<=cs.length:=by simpa using J
  have h1:=run_store (P:=P) u.hb (o:=o+i) (v:=v) bM (B v ee)
  obtain⟨w',h2,h3⟩:=G (i+1) (cs.set (o+i) v) _ (Lz u) (by simp;omega) (λx E=>B x (by simp[E]))
  refine⟨w',?_,by rw[show o+(i+1)=o+i+1 from bM]at h3;exact h3⟩
  show(do store ((Addr.mk b o none).add i) v;storeCells ⟨b,o,none⟩ r (i+1):Sem Unit).run P w=_
  rw[gK,eJ h1,h2]
theorem EG{T:TypeId}{b o n:Nat}{cs vs:List Value}{K:g7}(u:St w0 A (bY b cs::L) w)(ht:adf P T n)(E:vs.length=n)(G:o+n<=cs.length)(B:∀v∈vs,wF v=true)
  (k:∀w',St w0 A (bY b (jd cs o vs)::L) w'->K w'):Wu P (Ka T (.pointer (some ⟨b,o,none⟩)) (.agg vs.toArray)) w K:=by
 subst E
 obtain⟨w',h1,h2⟩:=EF (P:=P) (o:=o) vs 0 cs w u bM B
 refine⟨w',?_,k w' h2⟩
 show(storeVar T ⟨b,o,none⟩ (.agg vs.toArray)).run P w=_
 unfold storeVar
 rw[eJ (fY (lB ht).2 w)]
 simp only[aax,MR,ne_eq,not_true_eq_false,if_false]
 exact h1
end
end Go.Fw
namespace Go.Fw
class Flat (α:Type) where
 agg:Bool
 sz:Nat
 enc:α->List Value
 val:α->Value
 pos:0<sz
 len:∀a,(enc a).length=sz
 one:∀a v,v∈enc a->wF v=true
 nV:agg=true->∀a,val a=.agg (enc a).toArray
 nW:agg=false->∀a,enc a=[val a]
instance:Flat Int where
 agg:=false
 sz:=1
 enc n:=[hH n]
 val n:=hH n
 pos:=dC
 len _:=rfl
 one a v h:=by rw[ua.1 h];rfl
 nV h:=by cases h
 nW _ _:=rfl
instance:Flat Bool where
 agg:=false
 sz:=1
 enc n:=[.bool n]
 val n:=.bool n
 pos:=dC
 len _:=rfl
 one a v h:=by rw[ua.1 h];rfl
 nV h:=by cases h
 nW _ _:=rfl
instance:Flat ByteArray where
 agg:=false
 sz:=1
 enc n:=[.string n]
 val n:=.string n
 pos:=dC
 len _:=rfl
 one a v h:=by rw[ua.1 h];rfl
 nV h:=by cases h
 nW _ _:=rfl
section
variable {α:Type}[Flat α]
def flat(xs:List α):List Value:=xs.flatMap Flat.enc
theorem kH:flat ([]:List α)=[]:=rfl
theorem kI(x:α)(xs:List α):flat (x::xs)=Flat.enc x++flat xs:=by simp[flat]
theorem gL(xs ys:List α):flat (xs++ys)=flat xs++flat ys:=by simp[flat]
theorem dA(xs:List α):(flat xs).length=xs.length*Flat.sz α:=by
 induction xs with
 | nil=>simp[kH]
 | cons x xs u=>rw[kI,kU,u,Flat.len,ob,JL];omega
theorem AE{xs:List α}:∀v∈flat xs,wF v=true:=by
 intro v u
 obtain⟨x,_,B⟩:=List.mem_flatMap.1 u
 exact Flat.one x v B
theorem rT{xs:List α}{i j:Nat}{x:α}{c:Value}(u:xs[i]?=some x)(hc:(Flat.enc x)[j]?=some c):(flat xs)[i*Flat.sz α+j]?=some c:=by
 induction xs generalizing i with
 | nil=>simp at u
 | cons y ys B=>
  rw[kI]
  cases i with
  | zero=>
   grind
  | succ i=>
   have:=B (by simpa using u)
   rw[List.getElem?_append_right (by rw[Flat.len,JL];omega),Flat.len]
   grind
theorem Hv(xs:List α)(n:Nat):flat (xs.take n)=(flat xs).take (n*Flat.sz α):=by
 induction xs generalizing n with
 | nil=>simp[kH]
 | cons x xs u=>
  cases n with
  | zero=>simp[kH]
  | succ n=>
   rw[List.take_succ_cons,kI,kI,u,List.take_append,Flat.len]
   have h1:(n+1)*Flat.sz α-Flat.sz α=n*Flat.sz α:=cJ
   rw[h1,List.take_of_length_le (i:=(n+1)*Flat.sz α) (l:=Flat.enc x) (by rw[Flat.len,JL];omega)]
theorem Hw(xs:List α)(n:Nat):flat (xs.drop n)=(flat xs).drop (n*Flat.sz α):=by
 induction xs generalizing n with
 | nil=>simp[kH]
 | cons x xs u=>
  cases n with
  | zero=>simp
  | succ n=>
   rw[List.drop_succ_cons,kI,u,List.drop_append,Flat.len]
   have h1:(n+1)*Flat.sz α-Flat.sz α=n*Flat.sz α:=cJ
   rw[h1,List.drop_of_length_le (i:=(n+1)*Flat.sz α) (l:=Flat.enc x) (by rw[Flat.len,JL];omega),BF]
def At(S:Nat->Prop)(w:World)(p:Value)(x:α):Prop:=
 ∃b o,p=.pointer (some ⟨b,o,none⟩)/\S b/\∀j c,(Flat.enc x)[j]?=some c->Cell w b (o+j) c
def cZ(S:Nat->Prop)(w:World)(v:Value)(xs:List α):Prop:=
 ∃a cap,v=.slice a xs.length cap/\xs.length<=cap/\((xs=[]/\cap=0)\/∃b o,a=some ⟨b,o,none⟩/\(xs≠[]->S b)/\∀j c,(flat xs)[j]?=some c->Cell w b (o+j) c)
def bH(v:Value)(xs:List α):HP where
 p w F:=(v=.slice none 0 0/\xs=[]/\∀b,¬ F b)\/
  ∃b cap rest,v=.slice (some ⟨b,0,none⟩) xs.length cap/\qd w b (flat xs++rest)/\(xs.length<=cap/\cap*Flat.sz α<=(flat xs++rest).length)/\∀k,F k↔k=b
 loc w w' F h hh:=by
  rcases h with h|⟨b,cap,rest,h1,h2,h3,h4⟩
  .grind
  .exact .inr ⟨b,cap,rest,h1,h2.of_eq (hh b ((h4 b).2 rfl)),h3,h4⟩
 lt w F b h hb:=by
  rcases h with h|⟨u,cap,rest,h1,h2,h3,h4⟩
  .grind
  .rw[(h4 b).1 hb];exact h2.lt
variable {P:Program}{w w0:World}{A S:Nat->Prop}{L:List HP}{xs ys:List α}
theorem At.aF{A:Nat->Prop}{w w':World}{p:Value}{x:α}(h:At S w p x)(hc:gz A w w')(hd:∀b,S b->¬ A b):At S w' p x:=by
 obtain⟨b,o,h1,h2,h3⟩:=h;exact⟨b,o,h1,h2,λj c u=>(h3 j c u).aF hc (hd b h2)⟩
theorem At.ext{w w':World}{p:Value}{x:α}(h:At S w p x)(hc:Ext w w'):At S w' p x:=h.aF hc λ_ _ h=>h
theorem cZ.aF{A:Nat->Prop}{w w':World}{v:Value}(h:cZ S w v xs)(hc:gz A w w')(hd:∀b,S b->¬ A b):cZ S w' v xs:=by
 obtain⟨a,cap,h1,h2,h3⟩:=h
 refine⟨a,cap,h1,h2,?_⟩
 rcases h3 with h3|⟨b,o,h3,h4,h5⟩
 .grind
 exact .inr ⟨b,o,h3,h4,λj c u=>(h5 j c u).aF hc (hd b (h4 λh=>by subst h;simp[kH]at u))⟩
theorem cZ.ext{w w':World}{v:Value}(h:cZ S w v xs)(hc:Ext w w'):cZ S w' v xs:=h.aF hc λ_ _ h=>h
theorem cZ.mono{u:Nat->Prop}{v:Value}(h:cZ S w v xs)(hd:∀b,S b->u b):cZ u w v xs:=by
 grind[cZ]
theorem cZ.nil(S:Nat->Prop)(w:World):cZ S w (.slice none 0 0) ([]:List α):=⟨none,0,rfl,o1 _,.inl ⟨rfl,rfl⟩⟩
theorem bH.rd{v:Value}{F:Nat->Prop}(h:(bH v xs).p w F):cZ F w v xs:=by
 rcases h with⟨h1,h2,h3⟩|⟨b,cap,rest,h1,h2,h3,h4⟩
 .subst h1 h2;exact cZ.nil _ _
 refine⟨_,cap,h1,?_,.inr ⟨b,0,rfl,λ_=>(h4 b).2 rfl,λj c u=>?_⟩⟩
 .exact h3.1
 rw[tx]
 exact h2.cell cJ
theorem St.rd{v:Value}(u:St w0 A (bH v xs::L) w):∃S,(∀b,S b->A b\/w0.heap.size<=b)/\cZ S w v xs:=by
 obtain⟨F,h1,h2⟩:=u.head;exact⟨F,h2,bH.rd h1⟩
theorem St.dS{v:Value}(u:St w0 A (bH v xs::L) w):cZ (λ_=>True) w v xs:=by
 obtain⟨S,_,h⟩:=u.rd;exact h.mono λ_ _=>trivial
theorem St.eV(u:St w0 A L w):St w0 A (bH (.slice none 0 0) ([]:List α)::L) w:=
 u.new (Ext.refl w) (F:=aZ) (.inl ⟨rfl,rfl,λ_ h=>h⟩) λ_ h=>h.elim
theorem aD{T:TypeId}{p:Value}{x:α}{K:Value->Prop}(ht:dD P T=some (Flat.agg α,Flat.sz α))(h:At S w p x)(k:K (Flat.val x)):KQ P (x6 T p) w K:=by
 obtain⟨b,o,rfl,_,h3⟩:=h
 cases ha:Flat.agg α with
 | true=>
  rw[ha]at ht
  refine⟨_,?_,k⟩
  rw[Flat.nV ha x]
  exact C3 (by rw[Flat.len];exact ht) h3
 | false=>
  rw[ha]at ht
  have h1:=Flat.nW ha x
  have u:Flat.sz α=1:=by rw[<- Flat.len x,h1];rfl
  rw[u]at ht
  exact⟨_,aI ht (by have:=h3 0 (Flat.val x) cJ;omega),k⟩
theorem St.At{b:Nat}{x:α}(u:St w0 A (Fw.bY b (Flat.enc x)::L) w):Fw.At (λ_=>True) w (.pointer (some ⟨b,0,none⟩)) x:=
 ⟨b,0,rfl,trivial,λj c B=>by rw[tx];exact u.hb.cell B⟩
theorem bU{β:Type}[Flat β]{T f u:Nat}{p:Value}{x:α}(y:β){K:Value->Prop}(ht:wG P T f u)(h:At S w p x)(G:(Flat.enc x)[u]?=some (Flat.val y))(E:Flat.agg β=false)
  (k:∀q,At S w q y->K q):eT P (Fp T p f) K:=by
 obtain⟨b,o,rfl,h2,h3⟩:=h
 refine aA ht (k _ ⟨b,o+u,rfl,h2,λj c B=>?_⟩)
 rw[Flat.nW E]at B
 grind
theorem Jg{T R E n u:Nat}{z:Option Nat}{a:Option Addr}{l c:Nat}(ht:eM P T=some (E,n,u,z)):pr P (Builtin.len_ #[T] R [yA a l c].toArray)=some (hH l):=by
 show pr P (do
  match <- underlying T,yA a l c with
  | .string,.string s=>pure (goInt s.size)
  | .array n _,_=>pure (goInt n)
  | .pointer arr,_=>
   let .array n _ <- underlying arr|stuck "len: pointer to array expected"
   pure (goInt n)
  | .slice _,.slice _ n _=>pure (goInt n)
  | .map _ _,.map none|.chan _ _,.chan none=>pure (goInt 0)
  | .map _ _,.map (some r)=>
   let .map entries _ <- getObj r|stuck "len: map expected"
   pure (goInt entries.size)
  | .chan _ _,.chan (some r)=>
   let .chan _ buf _ _ _ timer <- getObj r|stuck "len: channel expected"
   pure (goInt (if timer then 0 else buf.size))
  | _, _ => stuck "len: string, array, pointer to array, slice, map or channel expected")=_
 rw[cT,cS (fp ht).1]
 rfl
theorem aH{T R E n u:Nat}{z:Option Nat}{v:Value}{K:Value->Prop}(ht:eM P T=some (E,n,u,z))(h:cZ S w v xs)(k:K (hH (xs.length:Int))) :
  eT P (Builtin.len_ #[T] R [v].toArray) K:=by
 obtain⟨a,cap,rfl,_⟩:=h
 exact⟨_,Jg ht,k⟩
theorem aN{T E O:Nat}{z:Option Nat}{v:Value}{i:Int}{x:α}{K:Value->Prop}(ht:eM P T=some (E,Flat.sz α,O,z))(h:cZ S w v xs)(V:0<=i)(u:xs[i.toNat]?=some x)
  (k:∀p,At S w p x->K p):eT P (FP T v (hH i)) K:=by
 obtain⟨a,cap,rfl,Z,h3⟩:=h
 have Y:i.toNat<xs.length:=(j0.1 u).1
 rcases h3 with⟨rfl,_⟩|⟨b,o,rfl,h4,h5⟩
 .simp at u
 obtain⟨M,J,hi,W,_⟩:=fp ht
 refine⟨.pointer (some ⟨b,o+i.toNat*Flat.sz α,none⟩),?_,k _ ⟨b,_,rfl,h4 cJ,λj c G=>?_⟩⟩
 .unfold FP
  rw[cT]
  show pr P _=_
  simp only[asIntOf]
  have I:pr P (underlying T)=some (.slice E):=cS M
  have B:pr P (sizeOf E)=some (Flat.sz α):=by rw[mR hi,W]
  simp only[cT,I,B,ma,fP]
  have U:0<=i/\i<(xs.length:Int):=⟨V,bM⟩
  simp only[ej U,cT,B,ma,fP,gK]
 have:=h5 (i.toNat*Flat.sz α+j) c (rT u G)
 grind
end
end Go.Fw
namespace Go.Fw
section
variable {α:Type}[Flat α] {P:Program}{w w0:World}{A S:Nat->Prop}{L:List HP}{xs ys:List α}
theorem ji{y:Nat}{i:Int}{code:BoundsCode}(u:0<=i)(h1:i<=y):pr P (aaq (hH i) y code)=some i.toNat:=by
 unfold aaq
 rw[cT]
 simp only[asIntOf,fP,ma,ej (show 0<=i/\i<=(y:Int)from⟨u,h1⟩)]
theorem wH{T E sz J:Nat}{z:Option Nat}{a:Option Addr}{n cap l h:Nat}{lo hi:Option Value}(ht:eM P T=some (E,sz,J,z))
  (hb:pr P (vC true n cap lo hi none)=some (l,h,cap)) :
  pr P (nT T (.slice a n cap) lo hi none)=some (.slice (if cap=l then a else a.map (·.add (l*sz))) (h-l) (cap-l)):=by
 obtain⟨u,B,G,I,_⟩:=fp ht
 unfold nT
 rw[cT,cS u]
 simp only[ma]
 unfold Instr.slice
 rw[cT,cS u]
 simp only[ma]
 rw[cT,hb]
 simp only[ma]
 rw[cT,mR G,I]
 rfl
theorem ou{n cap l h:Nat}{lo hi:Option Value}(G:lo=none/\l=0\/∃i:Int,lo=some (hH i)/\0<=i/\l=i.toNat)(E:hi=none/\h=n\/∃i:Int,hi=some (hH i)/\0<=i/\h=i.toNat)
  (h1:l<=h) (h2:h<=cap):pr P (vC true n cap lo hi none)=some (l,h,cap):=by
 rcases G with⟨rfl,rfl⟩|⟨i,rfl,B,rfl⟩<;>rcases E with⟨rfl,rfl⟩|⟨I,rfl,u,rfl⟩<;>simp only[vC,cT,fP,ma]
 .rw[ji u bM];rfl
 .rw[ji B bM];rfl
 rw[ji u bM];simp only[ma];rw[ji B bM];rfl
theorem cZ.cut{v:Value}{a:Option Addr}{n cap l h:Nat}(G:v=.slice a n cap)(O:cZ S w v xs)(h1:l<=h)(h2:h<=xs.length) :
  cZ S w (.slice (if cap=l then a else a.map (·.add (l*Flat.sz α))) (h-l) (cap-l)) ((xs.take h).drop l):=by
 obtain⟨Y,E,J,Z,h3⟩:=O
 rw[J]at G
 simp only[yA.injEq]at G
 obtain⟨rfl,W,rfl⟩:=G
 have hlen:((xs.take h).drop l).length=h-l:=by simp;omega
 rcases h3 with⟨B,V⟩|⟨b,o,rfl,h4,h5⟩
 .subst B
  exact⟨_,E-l,by rw[hlen],ee,.inl ⟨ee,bM⟩⟩
 refine⟨_,E-l,by rw[hlen],bM,.inr ?_⟩
 have U:(xs.take h).drop l≠[]->xs≠[]:=λu I=>u cJ
 by_cases u:E=l
 .rw[ej u]
  grind[flat,Cell]
 rw[ei u]
 refine⟨b,o+l*Flat.sz α,by simp[gK],λI=>h4 (U I),λj c M=>?_⟩
 rw[Hw,Hv,List.getElem?_drop,List.getElem?_take]at M
 grind
theorem Sl{T E I:Nat}{z:Option Nat}{v:Value}{lo hi:Option Value}{l h:Nat}{K:Value->Prop}(ht:eM P T=some (E,Flat.sz α,I,z))(B:cZ S w v xs)
  (J:lo=none/\l=0\/∃i:Int,lo=some (hH i)/\0<=i/\l=i.toNat) (M:hi=none/\h=xs.length\/∃i:Int,hi=some (hH i)/\0<=i/\h=i.toNat)
  (h1:l<=h) (h2:h<=xs.length) (k:∀G,cZ S w G ((xs.take h).drop l)->K G):eT P (nT T v lo hi none) K:=by
 have u:=B
 obtain⟨a,cap,rfl,O,h3⟩:=B
 exact⟨_,wH ht (ou J M h1 bM),k _ (u.cut rfl h1 h2)⟩
theorem Ch{T E B:Nat}{z:Option Nat}{v:Value}{i:Int}{K:Value->Prop}(ht:eM P T=some (E,Flat.sz α,B,z))(G:cZ S w v xs)(I:0<=i)(h2:i<=xs.length)
  (k:∀u,cZ S w u (xs.take i.toNat)->K u):eT P (nT T v none (some (hH i)) none) K:=
 Sl ht G (.inl ⟨rfl,rfl⟩) (.inr ⟨i,rfl,I,rfl⟩) bM bM λu h=>k u cJ
theorem Ci{T E B:Nat}{z:Option Nat}{v:Value}{i:Int}{K:Value->Prop}(ht:eM P T=some (E,Flat.sz α,B,z))(G:cZ S w v xs)(I:0<=i)(h2:i<=xs.length)
  (k:∀u,cZ S w u (xs.drop i.toNat)->K u):eT P (nT T v (some (hH i)) none none) K:=
 Sl ht G (.inr ⟨i,rfl,I,rfl⟩) (.inl ⟨rfl,rfl⟩) bM bM λu h=>k u cJ
theorem mS{b o:Nat}:∀(vs:List Value) (i:Nat) (cs:List Value) (w:World),qd w b cs->o+i+vs.length<=cs.length->(∀v∈vs,wF v=true)->
  ∃w',(storeCells ⟨b,o,none⟩ vs i).run P w=.ok () w'/\qd w' b (jd cs (o+i) vs)/\gz (· = b) w w':=by
 intro vs
 induction vs with
 | nil=>intro i cs w hb _ _;exact⟨w,rfl,hb,gz.refl _ _⟩
 | cons v r G=>
  intro i cs w hb I u
  have E:o+i+(r.length+1)<=cs.length:=bM
  have h1:=run_store (P:=P) hb (o:=o+i) (v:=v) bM (u v ee)
  obtain⟨w',h2,h3,h4⟩:=G (i+1) (cs.set (o+i) v) _ (hb.setCell v) (by simp;omega) (λx B=>u x (by simp[B]))
  refine⟨w',?_,by grind[qd,jd],(gz.setCell w b (o+i) v).trans h4 (λ_ h=>h) λ_ _ h=>h⟩
  show(do store ((Addr.mk b o none).add i) v;storeCells ⟨b,o,none⟩ r (i+1):Sem Unit).run P w=_
  rw[gK,eJ h1,h2]
theorem mj(pre u post vs:List Value)(h:u.length=vs.length):jd (pre++u++post) pre.length vs=pre++vs++post:=by
 induction vs generalizing pre u with
 | nil=>grind[jd]
 | cons v r B=>
  match u,h with
  | m::u,h=>
   have e:(pre++(m::u)++post).set pre.length v=(pre++[v])++u++post:=ee
   simp only[jd,e]
   have:=B (pre++[v]) u cJ
   simp_all
theorem yg{sz:Nat}{v:Value}(u:sz=Flat.sz α)(h:cZ S w v ys):(Builtin.firstCells sz ys.length v).run P w=.ok (flat ys).toArray w:=by
 subst u
 obtain⟨a,cap,rfl,_,h3⟩:=h
 rcases h3 with⟨rfl,_⟩|⟨b,o,rfl,_,h5⟩
 .cases a with
  | none=>rfl
  | some a=>simp[Builtin.firstCells,loadCells,loadCellsFrom,kH]
 have:=run_loadCells (P:=P) h5
 rw[dA]at this
 exact this
theorem rJ{b o:Nat}{cs:List Value}(h:∀j c,cs[j]?=some c->Cell w b (o+j) c):∀j v,cs[j]?=some v->w.cell? ((⟨b,o,none⟩:Addr).add j)=some v:=λj v u=>by
 rw[gK];exact h j v u
theorem C4{T E kz R:Nat}{v src:Value}{F:Nat->Prop}(ht:Wy P T E (Flat.sz α) kz)(hv:(bH v xs).p w F)(uz:cZ S w src ys)
  (hn:xs.length+ys.length<=17592186044416) (B:(xs.length+ys.length)*kz<=140737488355328) :
  ∃v' w' F',(Builtin.append_ #[T,T] R [v,src].toArray).run P w=.ok v' w'/\(bH v' (xs++ys)).p w' F'/\(∀b,F' b->F b\/w.heap.size<=b)/\gz F w w':=by
 obtain⟨W,u,hi,oK,wI,V⟩:=fp ht
 obtain⟨zv,U,hzs⟩:∃zv,u.zero=some zv/\zv.cells.size=Flat.sz α:=by
  cases Uz:u.zero with
  | none=>rw[Uz]at V;cases V
  | some zv=>rw[Uz]at V;exact⟨zv,rfl,by simpa using V⟩
 have hmul:(xs.length+ys.length)*u.bytes<=140737488355328:=by rw[show u.bytes=kz by omega];exact B
 have made:∀(cap:Nat),cap<xs.length+ys.length->
   (bH (.slice (some ⟨w.heap.size,0,none⟩) (xs.length+ys.length) (grownCap w (xs.length+ys.length) cap E)) (xs++ys)).p
    (w.drew.alloc (.cells ((flat xs).toArray++(flat ys).toArray++Builtin.zeroCells zv.cells (grownCap w (xs.length+ys.length) cap E-(xs.length+ys.length))) E)) (λk=>k=w.heap.size):=by
  intro cap hc
  have UA:=grownCap_ge w (xs.length+ys.length) cap E
  refine .inr ⟨w.heap.size,grownCap w (xs.length+ys.length) cap E,(Builtin.zeroCells zv.cells (grownCap w (xs.length+ys.length) cap E-(xs.length+ys.length))).toList,ee,⟨E,?_⟩,?_,λ_=>Iff.rfl⟩
  .have:=mh w.drew (.cells ((flat xs).toArray++(flat ys).toArray++Builtin.zeroCells zv.cells (grownCap w (xs.length+ys.length) cap E-(xs.length+ys.length))) E)
   refine Eq.trans this ?_
   congr 2
   apply aaD
   simp[gL]
  .refine⟨by rw[kU];exact UA,zH (Eq.symm ?_)⟩
   have e:(Builtin.zeroCells zv.cells (grownCap w (xs.length+ys.length) cap E-(xs.length+ys.length))).toList.length=(grownCap w (xs.length+ys.length) cap E-(xs.length+ys.length))*Flat.sz α:=by
    rw[NN,size_zeroCells,hzs]
   rw[kU,e,dA,kU,<- S5]
   congr 1
   omega
 have O:∀o,gz F w (w.drew.alloc o):=λo=>⟨rfl,rfl,rfl,ee,λb hb _=>yf w.drew o b hb⟩
 have rd:=uz
 obtain⟨sa,GX,rfl,Xs,G⟩:=rd
 rcases hv with⟨rfl,rfl,Z⟩|⟨b,cap,rest,rfl,hb,I,Z⟩
 ·
  simp only[Mh,tx,BF]at *
  by_cases B:ys=[]
  .subst B
   refine⟨.slice none 0 0,w,F,?_,.inl ⟨rfl,rfl,Z⟩,λb hb=>.inl hb,gz.refl _ _⟩
   cases sa<;>simp[Builtin.append_,run_underlying W,sizeOf,typeInfo,hi,Builtin.lenOf,Builtin.firstCells,loadCells,loadCellsFrom]
  have AG:0<ys.length:=List.length_pos_iff.2 B
  rcases G with⟨h,_⟩|⟨b,o,rfl,_,Wz⟩
  .exact absurd h B
  have M:=run_append_nil (P:=P) w T R E u zv W hi U ⟨b,o,none⟩ ys.length GX (flat ys) (by rw[dA,oK]) (rJ Wz) AG bM bM
  refine⟨_,_,λk=>k=w.heap.size,M,?_,λk J=>.inr (by rw[J];exact o1 _),O _⟩
  have:=made 0 AG
  simpa[kH]using this
 have AF:xs.length<=cap:=I.1
 replace I:=I.2
 by_cases Y:xs.length+ys.length<=cap
 ·
  have UB:(xs.length+ys.length)*Flat.sz α<=cap*Flat.sz α:=Be _ Y
  have tW:(flat xs).length=xs.length*Flat.sz α:=dA xs
  have Ax:(flat ys).length<=rest.length:=by
   rw[kU,tW]at I;rw[dA];rw[S5]at UB;omega
  obtain⟨w',h1,h2,h3⟩:=mS (P:=P) (o:=xs.length*Flat.sz α) (flat ys) 0 (flat xs++rest) w hb (by rw[kU,tW];omega) AE
  have GS:jd (flat xs++rest) (xs.length*Flat.sz α+0) (flat ys)=flat (xs++ys)++rest.drop (flat ys).length:=by
   have:=mj (flat xs) (rest.take (flat ys).length) (rest.drop (flat ys).length) (flat ys) (by simp;omega)
   rw[tW]at this
   rw[PQ,gL]
   rw[<- this]
   simp
  rw[GS]at h2
  refine⟨.slice (some ⟨b,0,none⟩) (xs.length+ys.length) cap,w',F,?_,.inr ⟨b,cap,_,ee,h2,?_,Z⟩,λb hb=>.inl hb,h3.mono λk J=>(Z k).2 J⟩
  .have hf:=yg (α:=α) (P:=P) (sz:=Flat.sz α) rfl uz
   have tX:(⟨b,0,none⟩:Addr).add (xs.length*Flat.sz α)=⟨b,xs.length*Flat.sz α,none⟩:=by rw[gK,tx]
   simp[Builtin.append_,run_underlying W,sizeOf,typeInfo,hi,Builtin.lenOf,Y,hf,oK,tX,h1]
  refine⟨by rw[kU];exact Y,te I (zH ?_)⟩
  rw[kU,kU,gL,kU,List.length_drop];omega
 -- a new row
 have M:=run_append_grow (P:=P) w T R E u zv W hi U ⟨b,0,none⟩ xs.length cap (flat xs) (by rw[dA,oK])
  (rJ λj c hj=>by rw[tx];exact hb.cell (by rw[s4 (j0.1 hj).1];exact hj))
 rcases G with⟨h,_⟩|⟨b',o,rfl,_,Wz⟩
 .subst h;simp at Y;omega
 have M:=M ⟨b',o,none⟩ ys.length GX (flat ys) (by rw[dA,oK]) (rJ Wz) bM bM (growslice_fits bM hmul)
 exact⟨_,_,λk=>k=w.heap.size,M,made cap bM,λk J=>.inr (by rw[J];exact o1 _),O _⟩
theorem aiL{T E G R:Nat}{v src:Value}{F:Nat->Prop}(ht:Wy P T E (Flat.sz α) G)(J:(bH v xs).p w F)(O:cZ S w src ys)
  (M:xs.length+ys.length<=1073741824) (u:G<=8192) :
  ∃B w' I,(Builtin.append_ #[T,T] R [v,src].toArray).run P w=.ok B w'/\(bH B (xs++ys)).p w' I/\(∀b,I b->F b\/w.heap.size<=b)/\gz F w w':=
 C4 ht J O bM (by have:=QI M u;omega)
theorem LA{T E M R:Nat}{v src:Value}{K:Value->g7}(G:St w0 A (bH v xs::L) w)(ht:Wy P T E (Flat.sz α) M)(Y:cZ S w src ys)
  (hn:xs.length+ys.length<=17592186044416) (Z:(xs.length+ys.length)*M<=140737488355328) (k:∀B w',St w0 A (bH B (xs++ys)::L) w'->K B w'):qW P (Builtin.append_ #[T,T] R [v,src].toArray) w K:=by
 obtain⟨U,F,O,h1,h2,h3,h4,h5⟩:=G.tV
 obtain⟨B,w',I,g1,g2,W,V⟩:=C4 (R:=R) ht h1 Y hn Z
 refine⟨B,w',g1,k B w' ?_⟩
 refine⟨G.aF.trans V (λ_ h=>h) λb hb u=>(h2 b u).elim id λhh=>bM,λb=>I b\/O b,I,O,g2,λb hb=>?_,λb hb J=>?_,λb=>Iff.rfl,?_⟩
 .rcases W b hb with u|u
  .exact h2 b u
  exact .inr (te G.aF.size u)
 .rcases W b hb with u|u
  .exact h3 b u J
  have:=h5.lt b J;omega
 exact h5.loc λb hb=>V.bY b (h5.lt b hb) λu=>h3 b u hb
theorem bL{T E G R:Nat}{v src:Value}{K:Value->g7}(I:St w0 A (bH v xs::L) w)(ht:Wy P T E (Flat.sz α) G)(M:cZ S w src ys)
  (J:xs.length+ys.length<=1073741824) (u:G<=8192) (k:∀B w',St w0 A (bH B (xs++ys)::L) w'->K B w'):qW P (Builtin.append_ #[T,T] R [v,src].toArray) w K:=
 LA I ht M bM (by have:=QI J u;omega) k
end
end Go.Fw
namespace Go.Fw
section
variable {α:Type}[Flat α] {P:Program}{w w0:World}{A S:Nat->Prop}{L:List HP}{xs ys:List α}
theorem pI(x:α):(Flat.val x).cells=(Flat.enc x).toArray:=by
 cases h:Flat.agg α with
 | true=>rw[Flat.nV h];rfl
 | false=>
  have h1:=Flat.nW h x
  have h2:=Flat.one x (Flat.val x) cJ
  rw[h1]
  revert h2
  cases Flat.val x<;>simp[wF,aax]
theorem Pn(cs:List Value)(o:Nat)(v:Value)(r:List Value):jd cs o (v::r)=jd (cs.set o v) (o+1) r:=rfl
theorem LB(u:Nat):∀(l:List Value) (k:Nat) (cs:Array Value),((l.zipIdx k).foldl (fun (cs:Array Value) q=>cs.setIfInBounds (u+q.2) q.1) cs).toList=jd cs.toList (u+k) l:=by
 intro l
 induction l with
 | nil=>intro k cs;rfl
 | cons v r B=>
  intro k cs
  rw[aat,List.foldl_cons,B (k+1),Pn]
  grind
theorem Ji(u:Nat)(l:List Value)(cs:Array Value) :
  (l.toArray.zipIdx.foldl (fun (cs:Array Value) (q:Value×Nat)=>match q with|(c,j)=>cs.setIfInBounds (u+j) c) cs).toList=jd cs.toList u l:=by
 rw[<- Xm]
 have e:l.toArray.zipIdx.toList=l.zipIdx 0:=ee
 rw[e]
 exact LB u l 0 cs
theorem UC:∀(xs:List α) (k:Nat) (pre u:List Value),pre.length=k*Flat.sz α->u.length=xs.length*Flat.sz α->
  X1 (λi=>some (i*Flat.sz α,Flat.sz α)) (pre++u).toArray ((xs.zipIdx k).map λq=>(q.2,Flat.val q.1))=some (pre++flat xs).toArray:=by
 intro xs
 induction xs with
 | nil=>intro k pre u _ B;simp at B;subst B;simp[X1,kH]
 | cons x xs G=>
  intro k pre u E B
  rw[aat,List.map_cons]
  unfold X1
  dsimp only
  have J:(Flat.val x).cells.size=Flat.sz α:=by rw[pI];simp[Flat.len]
  have I:u.length=xs.length*Flat.sz α+Flat.sz α:=cJ
  rw[ei cJ]
  have e:((Flat.val x).cells.zipIdx.foldl (fun (cs:Array Value) (q:Value×Nat)=>match q with|(c,j)=>cs.setIfInBounds (k*Flat.sz α+j) c) (pre++u).toArray) =
    ((pre++Flat.enc x)++u.drop (Flat.sz α)).toArray:=by
   apply aaD
   rw[pI,Ji]
   have h1:=mj pre (u.take (Flat.sz α)) (u.drop (Flat.sz α)) (Flat.enc x) (by simp[Flat.len];omega)
   simp_all
  rw[e]
  have:=G (k+1) (pre++Flat.enc x) (u.drop (Flat.sz α)) (by rw[kU,E,Flat.len,JL]) cJ
  rw[this,kI,nk]
theorem bD{T E W n:Nat}{parts:List (Nat×Value)}{K:Value->g7}(xs:List α)(M:St w0 A L w)(ht:Wy P T E (Flat.sz α) W)(Y:xs.length=n)
  (V:parts=xs.zipIdx.map λq=>(q.2,Flat.val q.1)) (hl:xs.length*Flat.sz α<=16777216) (k:∀v w',St w0 A (bH v xs::L) w'->K v w') :
  qW P (K9 T n parts.toArray) w K:=by
 subst Y
 obtain⟨U,u,hi,oK,wI,G⟩:=fp ht
 obtain⟨zv,I,O⟩:∃zv,u.zero=some zv/\zv.cells.size=Flat.sz α:=by
  cases Uz:u.zero with
  | none=>rw[Uz]at G;cases G
  | some zv=>rw[Uz]at G;exact⟨zv,rfl,by simpa using G⟩
 have es:pr P (sizeOf E)=some (Flat.sz α):=by rw[mR hi,oK]
 have Z:pr P (zeroValue E)=some zv:=by unfold zeroValue;rw[cT,mi hi];simp only[ma,I];rfl
 refine⟨.slice (some ⟨w.heap.size,0,none⟩) xs.length xs.length,push w (.cells (flat xs).toArray E),?_,k _ _ ?_⟩
 .have B:∀z:Array Value,X1 (λi=>some (i*Flat.sz α,Flat.sz α)) ((abD (xs.length*Flat.sz α)).map (z[· % z.size]!)) parts=some (flat xs).toArray:=by
   intro z
   have:=UC xs 0 [] ((abD (xs.length*Flat.sz α)).map (z[· % z.size]!)).toList ee ee
   rw[V]
   rw[BF,BF,Qs]at this
   exact this
  unfold K9
  rw[eJ (fY (cS U) w)]
  dsimp only
  rw[eJ (fY es w),ei bM]
  by_cases J:xs.length*Flat.sz α=0
  .simp only[ej J]
   rw[eJ (run_pure _ w),B]
   rfl
  simp only[ei J]
  rw[eJ (fY Z w),eJ (run_pure _ w),B]
  rfl
 refine M.new (Ext.push _ _) (F:=λk=>k=w.heap.size) (.inr ⟨w.heap.size,xs.length,[],rfl,⟨E,?_⟩,⟨o1 _,by simp[dA]⟩,λ_=>Iff.rfl⟩) λb hb=>by rw[hb];exact o1 _
 rw[oo];exact mh _ _
theorem wJ(z:α)(n:Nat):(madeCells (Flat.enc z).toArray (n*Flat.sz α)).toList=flat (qV n z):=by
 apply List.ext_getElem?
 intro i
 have u:=Flat.pos (α:=α)
 by_cases hi:i<n*Flat.sz α
 .have h1:i / Flat.sz α<n:=by rw[Nat.div_lt_iff_lt_mul u];exact hi
  have h2:i % Flat.sz α<(Flat.enc z).length:=by rw[Flat.len];exact Nat.mod_lt _ u
  have:=rT (xs:=qV n z) (i:=i / Flat.sz α) (j:=i % Flat.sz α) (x:=z) (c:=(Flat.enc z)[i % Flat.sz α]) (by simp[h1]) (by simp[h2])
  rw[Nat.div_add_mod' i (Flat.sz α)]at this
  rw[this]
  unfold madeCells
  simp[hi,Flat.len]
  grind
 have E:(madeCells (Flat.enc z).toArray (n*Flat.sz α)).toList[i]?=none:=by
  rw[BR,NN,size_madeCells];omega
 have B:(flat (qV n z))[i]?=none:=by
  rw[BR,dA,C2];omega
 rw[E,B]
theorem wL{T E G:Nat}{n:Int}{K:Value->g7}(z:α)(O:St w0 A L w)(ht:Wy P T E (Flat.sz α) G)(B:ot P E (Flat.val z))(J:0<=n)(h1:n<=1073741824)(M:G<=8192)
  (k:∀v w',St w0 A (bH v (qV n.toNat z)::L) w'->K v w'):qW P (NZ T (hH n) (hH n)) w K:=by
 obtain⟨U,u,hi,V,W,_⟩:=fp ht
 unfold ot eo at B
 rw[hi]at B
 simp only[E2,n4.injEq]at B
 have hb:(u.bytes:Int)*n<=281474976710656:=by
  have h2:(u.bytes:Int)<=8192:=bM
  have h3:(u.bytes:Int)*n<=8192*n:=Int.mul_le_mul_of_nonneg_right h2 J
  omega
 have I:=run_make (P:=P) w T E u (Flat.val z) U hi B .i64 .i64 n n J (Int.le_refl _) hb bM
 rw[V,pI]at I
 refine⟨_,_,I,k _ _ ?_⟩
 refine O.new (w':=w.alloc (.cells (madeCells (Flat.enc z).toArray (n.toNat*Flat.sz α)) E)) ⟨rfl,rfl,rfl,ee,λb hb _=>yf w _ b hb⟩ (F:=λk=>k=w.heap.size)
  (.inr ⟨w.heap.size,n.toNat,[],ee,⟨E,?_⟩,⟨ee,by rw[oo,dA,C2];exact o1 _⟩,λ_=>Iff.rfl⟩) λb hb=>by rw[hb];exact o1 _
 rw[oo,<- wJ]
 have:=mh w (.cells (madeCells (Flat.enc z).toArray (n.toNat*Flat.sz α)) E)
 rw[Qs]
 exact this
def Hx(α:Type)[Flat α](v:Value)(i:Nat)(p:Value):Prop:=∃b n c,v=.slice (some ⟨b,0,none⟩) n c/\p=.pointer (some ⟨b,i*Flat.sz α,none⟩)
theorem dM{T E M:Nat}{z:Option Nat}{v:Value}{i:Int}{K:Value->Prop}(B:St w0 A (bH v xs::L) w)(ht:eM P T=some (E,Flat.sz α,M,z))(O:0<=i)(h1:i<xs.length)
  (k:∀p,Hx α v i.toNat p->K p):eT P (FP T v (hH i)) K:=by
 obtain⟨F,h,_⟩:=B.head
 rcases h with⟨rfl,rfl,_⟩|⟨b,cap,rest,rfl,hb,V,_⟩
 .simp at h1;omega
 obtain⟨J,I,hi,U,_⟩:=fp ht
 refine⟨.pointer (some ⟨b,i.toNat*Flat.sz α,none⟩),?_,k _ ⟨b,_,_,rfl,rfl⟩⟩
 unfold FP
 have G:pr P (underlying T)=some (.slice E):=cS J
 have u:pr P (sizeOf E)=some (Flat.sz α):=by rw[mR hi,U]
 simp only[asIntOf,cT,G,u,ma,fP]
 simp only[ej (show 0<=i/\i<(xs.length:Int)from⟨O,h1⟩),cT,u,ma,fP,gK,tx]
theorem rK{v:Value}{F:Nat->Prop}{i:Nat}(h:(bH v xs).p w F)(hi:i<xs.length):∃b cap rest,v=.slice (some ⟨b,0,none⟩) xs.length cap/\qd w b (flat xs++rest)/\(xs.length<=cap/\cap*Flat.sz α<=(flat xs++rest).length)/\∀k,F k↔k=b:=by
 rcases h with⟨rfl,rfl,_⟩|h
 .simp at hi
 exact h
theorem fZ{T:Nat}{v p:Value}{i:Nat}{x:α}{K:Value->Prop}(E:St w0 A (bH v xs::L) w)(ht:dD P T=some (Flat.agg α,Flat.sz α))(I:Hx α v i p)(B:xs[i]?=some x)(k:K (Flat.val x)) :
  KQ P (x6 T p) w K:=by
 obtain⟨F,h,_⟩:=E.head
 obtain⟨b,cap,rest,J,hb,O,_⟩:=rK h (j0.1 B).1
 obtain⟨M,n,c,u,rfl⟩:=I
 rw[J]at u
 simp only[yA.injEq,n4.injEq,Addr.mk.injEq]at u
 obtain⟨⟨rfl,_,_⟩,_,_⟩:=u
 refine aD (S:=λ_=>True) ht ⟨b,i*Flat.sz α,rfl,trivial,λj c G=>hb.cell ?_⟩ k
 have:=rT B G
 rw[s4 (j0.1 this).1];exact this
theorem LD{i:Nat}(y:α)(h:i<xs.length):flat (xs.set i y)=flat (xs.take i)++Flat.enc y++flat (xs.drop (i+1)):=by
 rw[List.set_eq_take_append_cons_drop,ej h,gL,kI,nk]
theorem zB{i:Nat}{x:α}(h:xs[i]?=some x):flat xs=flat (xs.take i)++Flat.enc x++flat (xs.drop (i+1)):=by
 have hi:=(j0.1 h).1
 have:xs=xs.take i++x::xs.drop (i+1):=by
  rw[<- (j0.1 h).2,List.getElem_cons_drop,List.take_append_drop]
 conv=>lhs;rw[this]
 rw[gL,kI,nk]
theorem Po{T:Nat}{v p:Value}{i:Nat}{F:Nat->Prop}(y:α)(h:(bH v xs).p w F)(ht:dD P T=some (Flat.agg α,Flat.sz α))(I:Hx α v i p)(hi:i<xs.length) :
  ∃w',(Ka T p (Flat.val y)).run P w=.ok () w'/\(bH v (xs.set i y)).p w' F/\gz F w w':=by
 obtain⟨b,cap,rest,U,hb,M,B⟩:=rK h hi
 obtain⟨W,n,c,u,rfl⟩:=I
 rw[U]at u
 simp only[yA.injEq,n4.injEq,Addr.mk.injEq]at u
 obtain⟨⟨rfl,_,_⟩,_,_⟩:=u
 have E:xs[i]?=some xs[i]:=by simp[hi]
 have V:=zB E
 have J:(flat (xs.take i)).length=i*Flat.sz α:=by rw[dA,List.length_take,Nat.min_eq_left bM]
 have hlen:i*Flat.sz α+Flat.sz α<=(flat xs).length:=by
  rw[dA,<- JL];exact Be _ hi
 obtain⟨w',h1,h2,h3⟩:=mS (P:=P) (o:=i*Flat.sz α) (Flat.enc y) 0 (flat xs++rest) w hb (by rw[Flat.len,kU];omega) (Flat.one y)
 have G:jd (flat xs++rest) (i*Flat.sz α+0) (Flat.enc y)=flat (xs.set i y)++rest:=by
  have:=mj (flat (xs.take i)) (Flat.enc xs[i]) (flat (xs.drop (i+1))++rest) (Flat.enc y) (by rw[Flat.len,Flat.len])
  rw[J]at this
  rw[PQ,LD y hi,V]
  grind
 rw[G]at h2
 refine⟨w',?_,.inr ⟨b,cap,rest,cJ,h2,?_,B⟩,h3.mono λk O=>(B k).2 O⟩
 .show(storeVar T ⟨b,i*Flat.sz α,none⟩ (Flat.val y)).run P w=_
  unfold storeVar
  rw[eJ (fY (lB ht).2 w),pI]
  simp only[MR,Flat.len,ne_eq,not_true_eq_false,if_false]
  exact h1
 rw[kU,dA]at M |-;grind
theorem jo{T:Nat}{v p:Value}{i:Nat}{K:g7}(y:α)(B:St w0 A (bH v xs::L) w)(ht:dD P T=some (Flat.agg α,Flat.sz α))(I:Hx α v i p)(hi:i<xs.length)
  (k:∀w',St w0 A (bH v (xs.set i y)::L) w'->K w'):Wu P (Ka T p (Flat.val y)) w K:=by
 obtain⟨U,F,J,h1,h2,h3,h4,h5⟩:=B.tV
 obtain⟨w',M,G,E⟩:=Po y h1 ht I hi
 refine⟨w',M,k w' ⟨B.aF.trans E (λ_ h=>h) λb hb u=>(h2 b u).elim id λO=>bM,U,F,J,G,h2,h3,h4,h5.loc λb hb=>E.bY b (h5.lt b hb) λu=>h3 b u hb⟩⟩
end
end Go.Fw
