/-
  Part 3.
-/
import Derived.Test.YtdncbeepkacgbaaGreatDoorR3x2
set_option maxHeartbeats 8000000
set_option linter.all false
set_option maxRecDepth 100000
open ByteArray renaming mk->ia,size_extract->Va,size->WA
open Go.Fw.Flat renaming val->iS,enc->jn,sz->lx
open List renaming getElem?_eq_some_iff->j0,getElem?_eq_getElem->kB,length_append->kE,take_of_length_le->kO,mem_of_getElem?->l0,length_take->mg,append_assoc->mu,length_singleton->nB,length_map->nP,mem_map->n0,getElem?_map->n3,take_append_drop->ob,mem_cons_self->oi,drop_eq_nil_of_le->ot,length_drop->oC,replicate->oI,mem_cons->oR,getElem?_append_right->o1,mem_cons_of_mem->o5,drop_eq_getElem_cons->pd,mem_append->pI,length_eq_zero_iff->pP,getElem?_append_left->qk,drop_drop->q9,map_append->rn,mem_singleton->rC,nil_append->sk,take_add_one->tx,range->tL,any_eq_true->uZ,mem_iff_getElem?->vB,map_congr_left->wi,foldl_append->x6,nodup_cons->zO,map_map->CU,map_cons->EA,any_eq_false->E7,mem_of_mem_take->FC,flatMap_append->GD,filter_append->HS,toArray->Ix,mem_range->IC,mem_filter->J3,pairwise_iff_getElem->Lg,any_cons->Oe,any_append->Pq,pairwise_map->Re,any_nil->R2,nodup_append->SC,take_length->Tu,getElem_mem->TX,drop_zero->UL
open Option renaming bind_some->la,some->nM,map_eq_some_iff->yI
open Go.Fw.Deep renaming dr->l3
open Go.Value renaming int->mf,bool->sq,string->uH
open Nat renaming zero_le->mj,le_refl->om,zero_add->o6,add_sub_cancel_left->x7,min_eq_left->x8,le_of_eq->CV,add_assoc->GR,le_of_lt->Q8,sub_self->U4
open Go.Instr renaming sliceAt->mv,index->oJ,sliceBounds->qa,lookup->qs,box->qv,mapUpdate->rf,keyThatStays->Hj
open Bool renaming and_eq_true->nu,not_eq_true'->pw,or_eq_true->rL,true_and->tM,eq_iff_iff->zN,false_or->P1,or_false->P2
open Int renaming toNat_natCast->qG,mul_le_mul->IG,add_comm->Vk
open Array renaming getElem?_eq_some_iff->vO
open Decidable renaming not_not->BL
open Prod renaming fst->Qs,mk->UJ
namespace Go.Fw
open Go.MapKept (IsKey)
section
variable {P:Program}{w w':World}{b:Nat}{l:List ByteArray}
def B5(w:World)(b:Nat)(l:List ByteArray):Prop:=
 ∃es clock,w.heap[b]?=some (.map es clock)/\(es.toList.map λe=>(e.key,e.val))=l.map λs=>(uH s,sq true)
theorem Em{T G E:TypeId}{k:ByteArray}(h:B5 w b l)(ht:P.underlying T=some (.map G E))(I:P.underlying G=some .string)(B:ki P E (.bool false)) :
  (qs T (.map (some b)) (.string k) false).run P w=.ok (.bool (l.any λy=>decide (y=k))) w:=by
 obtain⟨es,c,h1,h2⟩:=h
 have U:(zeroValue E).run P w=.ok (.bool false) w:=by
  unfold ki dA at B
  cases hi:P.info? E with
  | none=>grind
  | some i=>
   rw[hi]at B
   simp only[Option.map_some,nM.injEq]at B
   refine eM ?_ w
   unfold zeroValue;rw[bT,jd hi];simp only[la,B];rfl
 have hc:=MapKept.run_checkKey (P:=P) (w:=w) (kt:=G) (k:=.string k) I (by simp[IsKey]) es.isEmpty 9999
 have mem:∀e∈es.toList,∃s∈l,e.key=.string s/\e.val=.bool true:=λe M=>by
  have:(e.key,e.val)∈l.map λs=>(uH s,sq true):=cR
  grind
 rcases MapKept.findNow_spec (d:=.string) (k:=.string k) (by simp[IsKey]) es.toList 0 (λx V=>by obtain⟨p,_,e,_⟩:=mem x V;rw[e];simp[IsKey])with⟨h3,h4⟩|⟨j,e,h3,h4,h5⟩
 .have:(l.any λy=>decide (y=k))=false:=by
   rw[E7]
   intro s J
   have:(uH s,sq true)∈es.toList.map λe=>(e.key,e.val):=by rw[h2];exact n0.2 ⟨s,J,rfl⟩
   obtain⟨e,M,u⟩:=n0.1 this
   simp only[UJ.injEq]at u
   intro h
   exact h4 e M (by rw[u.1,g6 h])
  rw[this]
  simp[qs,run_underlying ht,MapKept.run_getObj_map h1,hc,MapKept.run_findKey I h3,U,Result.andThen]
 obtain⟨s,J,u,O⟩:=mem e (l0 h4)
 rw[h5]at u;injection u with u
 have:(l.any λy=>decide (y=k))=true:=uZ.2 ⟨s,J,fY u.symm⟩
 rw[this]
 rw[o6,O]at h3
 simp[qs,run_underlying ht,MapKept.run_getObj_map h1,hc,MapKept.run_findKey I h3,Result.andThen]
theorem En{T u E:TypeId}{k:ByteArray}{K:Value->Prop}(h:B5 w b l)(ht:P.underlying T=some (.map u E))(B:P.underlying u=some .string)(G:ki P E (.bool false))(I:K (.bool (l.any λy=>decide (y=k)))):Ah P (qs T (.map (some b)) (.string k) false) w K:=
 ⟨_,Em h ht B G,I⟩
end
open Go.ChangeMaps (setBlock)
section
variable {P:Program}{w w0 w':World}{A:Nat->Prop}{L:List HP}{b:Nat}{l:List ByteArray}
theorem B5.lt(h:B5 w b l):b<w.heap.size:=by obtain⟨es,c,h1,_⟩:=h;grind
def GB(b:Nat)(l:List ByteArray):HP where
 p w F:=B5 w b l/\∀k,F k↔k=b
 loc w w' F h hh:=⟨by grind[B5],h.2⟩
 lt w F b' h hb:=by rw[(h.2 b').1 hb];exact h.1.lt
theorem NN{T:TypeId}{K:Value->hU}(u:St w0 A L w)(k:∀b w',St w0 A (GB b []::L) w'->K (.map (some b)) w'):mw P (Instr.makeMap T none) w K:=
 ⟨_,_,rfl,k _ _ (u.new (Ext.push w (.map #[] 0)) (F:=λk=>k=w.heap.size) ⟨⟨#[],0,jO _ _,rfl⟩,λ_=>Iff.rfl⟩ λb hb=>by rw[hb];exact om _)⟩
theorem NP{T I E:TypeId}{k:ByteArray}{K:hU}(B:St w0 A (GB b l::L) w)(ht:P.underlying T=some (.map I E))(G:P.underlying I=some .string)(O:∀s∈l,s≠k)
  (W:∀w',St w0 A (GB b (l++[k])::L) w'->K w'):LW P (rf T (.map (some b)) (.string k) (.bool true)) w K:=by
 have J:∃w',(rf T (.map (some b)) (.string k) (.bool true)).run P w=.ok () w'/\fD (· = b) w w'/\B5 w' b (l++[k]):=by
  obtain⟨F,h,_⟩:=B.head
  have U:=h.1.lt
  obtain⟨es,c,h1,h2⟩:=h.1
  have mem:∀e∈es.toList,∃s∈l,e.key=.string s:=λe V=>by
   have:(e.key,e.val)∈l.map λs=>(uH s,sq true):=by rw[<- h2];exact n0.2 ⟨e,V,rfl⟩
   obtain⟨s,B,u⟩:=n0.1 this
   simp only[UJ.injEq]at u
   exact⟨s,B,u.1.symm⟩
  have hc:=MapKept.run_checkKey (P:=P) (w:=w) (kt:=I) (k:=.string k) G (by simp[IsKey]) false 9999
  rcases MapKept.findNow_spec (d:=.string) (k:=.string k) (by simp[IsKey]) es.toList 0 (λx Y=>by obtain⟨p,_,e⟩:=mem x Y;rw[e];simp[IsKey])with⟨h3,h4⟩|⟨j,e,h3,h4,h5⟩
  .have h6:=MapKept.run_findKey (P:=P) (w:=w) G h3
   refine⟨_,?_,fD.setBlock w b (.map (es.push ⟨.string k,.bool true,c⟩) (c+1)),_,_,gT _ U,?_⟩
   .simp[rf,run_underlying ht,MapKept.run_getObj_map h1,hc,h6,j9 h1,Result.andThen]
   .rw[Array.toList_push,rn,rn,h2];rfl
  .obtain⟨s,B,u⟩:=mem e (l0 h4)
   rw[h5]at u;injection u with u
   exact absurd u.symm (O s B)
 obtain⟨w',h1,h2,h3⟩:=J
 exact⟨w',h1,W w' (B.mJ λF M=>⟨F,⟨h3,M.2⟩,λb hb=>.inl hb,h2.mono λk G=>(M.2 k).2 G⟩)⟩
theorem St.GB(u:St w0 A (Fw.GB b l::L) w):B5 w b l:=by obtain⟨F,h,_⟩:=u.head;exact h.1
theorem Eo{f : FuncId}{u : Func}{e : Array Value -> Sem Value}{args : List Value}{v : Value}{K : Value -> World -> Prop}(B : P.funcs[f]?=some u)(hb : (u.name == "runtime.NumGoroutine")=false /\ u.body.isNone=true /\ Extern.findNext u=none)(G : Extern.find u=some e)
  (E:pr P (e args.toArray)=some v) (k:K v w):wD P f args w K:=by
 refine⟨.inr ⟨v,w,?_,k⟩⟩
 show(match P.funcs[f]? with|none=>_|some u=>_:Sem Next).run P w=_
 rw[B]
 simp only[hb.1,hb.2.1,hb.2.2,G]
 have:=eM E w
 simp_all
theorem GC{T:Nat}{s:ByteArray}{i:Int}{K:Value->Prop}(u:P.underlying T=some .string)(B:0<=i)(h1:i<=s.size)(k:K (.string (s.extract i.toNat s.size))):dX P (mv T (.string s) (some (hZ i)) none none) K:=by
 refine⟨_,?_,k⟩
 unfold mv
 rw[bT,bR u]
 simp only[la]
 unfold Instr.slice
 rw[bT,bR u]
 simp only[la]
 rw[fg ea]
 have hb:pr P (qa false s.size s.size (some (hZ i)) none none)=some (i.toNat,s.size,s.size):=by
  simp only[qa,bT,eU,la]
  rw[fR B bP];rfl
 rw[bT,hb];rfl
theorem B6(s:ByteArray)(i j:Nat):fK (s.extract i j)=((fK s).drop i).take (j-i):=by
 simp_all[fK]
theorem IP{s t:ByteArray}(h:fK s=fK t):s=t:=by
 cases s;cases t
 exact gl ia (Array.toList_inj.1 h)
def Aa:List UInt8->UInt8->Option Nat
 | [],_=>none
 | x::r,c=>if x=c then some 0 else(Aa r c).map (· + 1)
def yS(l:List UInt8)(c:UInt8):Int:=match Aa l c with|some k=>(k:Int)|none=>-1
theorem AS(l:List UInt8)(c:UInt8)(g:Nat->Bool):∀(r:List UInt8) (o:Nat),(∀j x,r[j]?=some x->g (o+j)=(x == c))->(List.range' o r.length).find? g=(Aa r c).map (o + ·)
 | [],o,h=>rfl
 | x::r,o,h=>by
  have u:=h 0 x rfl
  rw[List.length_cons,List.range'_succ,List.find?_cons,show g o=(x == c)from u]
  unfold Aa
  by_cases e:x=c
  .grind
  .rw[fg e,show(x == c)=false from beq_eq_false_iff_ne.2 e]
   show List.find? g _=_
   rw[AS l c g r (o+1) λj x B=>by rw[show o+1+j=o+(j+1)from bP];simp_all]
   rw[Option.map_map]
   congr 1;grind
theorem Ws(s:ByteArray)(c:UInt8):pr P (Extern.BytealgIndexByte.indexByte #[.string s,.int .u8 (c.toNat:Int)])=some (hZ (yS (fK s) c)):=by
 have B:Extern.BytealgIndexByte.indexByte #[.string s,.int .u8 (c.toNat:Int)]=(do let b <- Extern.Bytes.bytesOf (.string s);let d <- Extern.Bytes.asByte (.int .u8 (c.toNat:Int));match (tL b.size).find? λi=>b[i]! == d with|some i=>pure (goInt i)|none=>pure (goInt (-1))):=rfl
 have hc:(Extern.Bytes.asByte (.int .u8 (c.toNat:Int)))=pure c:=by
  show pure ((c.toNat:Int).toNat.toUInt8)=_
  simp_all
 have hb:(Extern.Bytes.bytesOf (.string s))=pure s:=rfl
 have u:(tL s.size).find? (λi=>s[i]! == c)=Aa (fK s) c:=by
  have:=AS (fK s) c (λi=>s[i]! == c) (fK s) 0 λj x E=>by
   rw[Iz]at E
   grind
  rw[dY]at this
  rw[List.range_eq_range',this]
  simp_all
 rw[B]
 simp only[hc,hb,bT,eU,la,u]
 unfold yS
 cases Aa (fK s) c<;>rfl
theorem NQ(l:List UInt8)(c:UInt8):0<=yS l c↔l.any (λb=>decide (b=c))=true:=by
 unfold yS
 induction l with
 | nil=>exact⟨λh=>absurd (show(0:Int)<=-1 from h) ea,λh=>by cases h⟩
 | cons x r u=>
  rw[Oe]
  unfold Aa
  by_cases e:x=c
  .rw[fh e,fY e];exact⟨λ_=>rfl,λ_=>by show(0:Int)<=((0:Nat):Int);omega⟩
  .rw[fg e,fZ e,P1,<- u]
   cases Aa r c with
   | none=>exact Iff.rfl
   | some k=>exact⟨λ_=>by show(0:Int)<=(k:Int);omega,λ_=>by show(0:Int)<=((k+1:Nat):Int);omega⟩
end
end Go.Fw
namespace Go.Proofs.YtdncbeepkacgbaaGreatDoor
open Go.Fw
variable (w:World) (K:Value->hU)
def S369(G I uW J:Value):Prop:=
 bB .eql 3 J (i 0) λa=>cV a (K (.slice none 0 0) w) (dX hM (gX .eql 9 false true I (Go.Value.string (ia (#[])))) λb=>cV b (cF 377 [G,J] w λc d=>
 K c d) (eF (λY=>bB .lss 3 J (i 0) λe=>cV e (cF 378 [G,I] w λf g=>bB .add 3 f (i 1) λh=>Y h g) (Y J w)) (λM j=>∀_:Env,
 lN 9 G λk=>bB .add 3 k (i 1) λl=>dX hM (Builtin.min_ #[3,3] 3 [M,l].toArray) λn=>mw hM (Instr.makeSlice 86 n n) j λo p=>bB .sub 3 n (i 1) λq=>
 Mp (λV=>nW (λO E B r=>∀_:Env,
 bA .lss 3 B q λs=>cV s (cF 371 [E,I] r λt u=>bB .lss 3 t (i 0) λv=>cV v (V E B u) (bA .add 3 t uW λx=>dX hM (mv 9 E none (some x) none) λy=>
 iA 86 o B λz=>sA 9 z y u λaa=>lN 9 I λab=>bA .add 3 t ab λac=>dX hM (mv 9 E (some ac) none none) λZ=>bB .add 3 B (i 1) λae=>O Z ae aa)) (
 V E B r)) λO=>O G (i 0) p) (λU W af=>∀_:Env,
 iA 86 o W λag=>sA 9 ag U af λah=>bB .add 3 W (i 1) λai=>dX hM (mv 86 o none (some ai) none) λaj=>K aj ah))))
theorem Sd(B G E u:Value)(h:S369 w K B G E u):CR 369 [B,G,E,u] w K:=
 lL 66 (λ_=>.nil) 256 [.tmp 8] Tryz.func369 h
theorem abi:PL 345:=dD Tryz.func345
theorem abj:PL 358:=dD Tryz.func358
theorem abk:PL 369:=dD Tryz.func369
theorem abl:PL 378:=dD Tryz.func378
theorem U5:PL 371:=dD Tryz.func371
theorem abm:PL 385:=dD Tryz.func385
end Go.Proofs.YtdncbeepkacgbaaGreatDoor
namespace Go.Proofs.YtdncbeepkacgbaaGreatDoor
open Go.Fw
def C385(s:ByteArray)(c:UInt8)(w:World):CR 385 [.string s,.int .u8 (c.toNat:Int)] w (λv w'=>v=hZ (yS (fK s) c)/\Ext w w'):=by
 have u:=St.start w;refine eR Tryz.func385 ?_;exact Eo Tryz.func390 ⟨by kernel_rfl,by kernel_rfl,by kernel_rfl⟩ (by kernel_rfl) (Ws s c) ⟨rfl,u.aF⟩
def B7(c:UInt8):ByteArray:=⟨#[c]⟩
def C379(s:ByteArray)(c:UInt8)(w:World):CR 379 [.string s,.string (B7 c)] w (λv w'=>v=hZ (yS (fK s) c)/\Ext w w'):=by
 have u:=St.start w;refine eR Tryz.func379 ?_;refine eP gN ?_;refine⟨λB w'=>B=.bool (decide (B7 c=s))/\w'=w,?_,?_⟩
 .exact aG (aC (λh=>absurd (show(1:Int)=0 from h) ea) λ_=>fz ⟨rfl,rfl⟩)
 rintro _ _ ⟨rfl,rfl⟩ _;refine aC (λh=>?_) (λ_=>?_)
 .subst h;exact⟨gl (mf .i64) (show(0:Int)=yS [c] c by unfold yS Aa;rw[fh rfl];rfl),u.aF⟩
 exact aG (aC (λ_=>gR (s:=B7 c) (e:=c) gN ea rfl (aR abm u (C385 s c _) λ_ _ u=>⟨rfl,u.aF⟩)) λh=>absurd (show(1:Int)=1 from rfl) h)
def C371(s:ByteArray)(c:UInt8)(w:World):CR 371 [.string s,.string (B7 c)] w (λv w'=>v=hZ (yS (fK s) c)/\Ext w w'):=by
 have u:=St.start w;refine eR Tryz.func371 ?_;exact aR ⟨_,Tryz.func379,by kernel_rfl,by kernel_rfl⟩ u (C379 s c _) (λ_ _ u=>⟨rfl,u.aF⟩)
def Wt:ByteArray:=⟨#[108,105,110,101,32,118,111,108,32,108,111,99,107,32,116,104,114,101,97,100,32,114,101,103,32,108,111,97,100,32,115,116,111,114,101,32,99,97,115,32,102,108,117,115,104,32,111,112,116,32,115,102,101,110,99,101,32,109,102,101,110,99,101,32,116,97,107,101,32,103,105,118,101,32,105,102,32,101,108,115,101,32,108,111,111,112,32,98,114,101,97,107,32,99,104,101,99,107,32,114,101,99,111,118,101,114,32,97,108,119,97,121,115]⟩
def Zp:List UInt8:=fK Wt
def U6(k:Nat):Nat:=(gv.take k).foldl (λn x=>n+x.size+1) 0
def KK(k:Nat):ByteArray:=Wt.extract (U6 k) Wt.size
def tP(k:Nat):ByteArray:=gv.getD k ⟨#[]⟩
def abn(k:Nat):Bool:=decide (Aa (Zp.drop (U6 k)) 32=some (tP k).size)&&(decide ((Zp.drop (U6 k)).take (tP k).size=fK (tP k))&&(decide (U6 (k+1)=U6 k+((tP k).size+1))&&decide (U6 k+(tP k).size+1<=Zp.length)))
def Se:(tL 20).all abn=true:=by decide +kernel
theorem Ep(k:Nat):fK (KK k)=Zp.drop (U6 k):=by
 unfold KK Zp
 rw[B6]
 exact kO (by rw[oC,dY];omega)
def Wu(k:Nat)(h:k<20):yS (fK (KK k)) 32=(tP k).size/\(tP k).size+1<=(KK k).size/\(KK k).extract 0 (tP k).size=tP k/\(KK k).extract ((tP k).size+1) (KK k).size=KK (k+1):=by
 have:=List.all_eq_true.1 Se k (IC.2 h)
 unfold abn at this
 simp only[nu,decide_eq_true_eq]at this
 obtain⟨h1,h2,h3,h4⟩:=this
 have u:(KK k).size=Zp.length-U6 k:=by rw[<- dY,Ep,oC]
 refine⟨by rw[Ep];unfold yS;rw[h1],bP,IP ?_,IP ?_⟩
 .rw[B6,Ep,UL,Nat.sub_zero];exact h2
 rw[B6,Ep,Ep,q9,h3]
 exact kO cR
def kwB(k:Nat):(tP k).size<=100:=by
 by_cases h:k<21
 .exact(by decide +kernel:∀k,k<21->(tP k).size<=100) k h
 unfold tP;rw[List.getD_eq_getElem?_getD,List.getElem?_eq_none (show gv.length<=k from Nat.le_of_not_lt h)];decide
def abo:∀k,k<21->∀s∈gv.take k,s≠tP k:=by decide +kernel
theorem NS{k:Nat}(h:k<21):gv[k]?=some (tP k):=by simp_all[gv,tP]
theorem Wv{k:Nat}(h:k<21):(gv.take k++oI (21-k) (⟨#[]⟩:ByteArray)).set k (tP k)=(gv.take (k+1)++oI (21-(k+1)) (⟨#[]⟩:ByteArray)):=by
 have u:(gv.take k).length=k:=by rw[mg];exact x8 (Q8 h)
 rw[List.set_append_right _ _ bP,u,U4,show 21-k=(21-(k+1))+1 from bP,List.replicate_succ,List.set_cons_zero,tx,NS h,mu]
 rfl
theorem B8{k:Nat}(h:k<21):(gv.take k++oI (21-k) (⟨#[]⟩:ByteArray)).length=21:=by
 rw[kE,mg,List.length_replicate,x8 (show k<=gv.length from Q8 h)];omega
def C378(w:World):CR 378 [.string Wt,.string (B7 32)] w (λv w'=>v=hZ 20/\Ext w w'):=by
 have u:=St.start w;refine eR Tryz.func378 ?_;exact eP gN (aG (aC (λh=>absurd (show(1:Int)=0 from h) ea) λ_=>eP gN (aG (aC (λ_=>gR (s:=B7 32) (e:=32) gN ea rfl (Eo (e:=Extern.BytealgCount.count) (v:=hZ 20) Tryz.func384 ⟨by kernel_rfl,by kernel_rfl,by kernel_rfl⟩ (by kernel_rfl) (by kernel_rfl) ⟨rfl,u.aF⟩)) λh=>absurd (show(1:Int)=1 from rfl) h))))
def C369(w:World):CR 369 [.string Wt,.string (B7 32),hZ 0,hZ (-1)] w (λv w'=>mD (bH v gv) w w'):=by
 have u:=St.start w;refine Sd _ _ _ _ _ _ ?_;unfold S369;refine aG (aC (λh=>absurd h ea) λ_=>fz (aC (λh=>absurd h ea) λ_=>?_));refine⟨λO w'=>O=hZ 21/\St w bF [] w',?_,?_⟩
 .exact aQ (aC (λ_=>aR abl u (C378 _) λ_ _ u=>aM ea ⟨rfl,u⟩) λh=>absurd ea h)
 rintro _ _ ⟨rfl,u⟩ _;refine eP gN (aM ea (BZ ?_));rw[show min (21:Int) ((Wt.size:Int)+1)=21 from ea];refine Dv (⟨#[]⟩:ByteArray) u iN UA ea ea ea (λB _ u=>fk ea ?_);refine⟨λs y w'=>s=.string (KK 20)/\y=hZ 20/\St w bF [bH B (gv.take 20++oI (21-20) (⟨#[]⟩:ByteArray))] w',?_,?_⟩
 .refine⟨λG s y w'=>∃k:Nat,s=.string (KK k)/\y=hZ (k:Int)/\G=20-k/\k<=20/\St w bF [bH B (gv.take k++oI (21-k) (⟨#[]⟩:ByteArray))] w',⟨_,0,gl uH ea,rfl,rfl,mj _,u⟩,?_⟩;rintro G _ _ _ ⟨k,rfl,rfl,rfl,V,u⟩ _;refine aQ (aC (λM=>?_) λM=>?_);rotate_left
  .obtain rfl:k=20:=bP
   exact⟨rfl,rfl,u⟩
  obtain⟨J,Y,U,I⟩:=Wu k bP;refine aR U5 u (C371 (KK k) 32 _) (λ_ W u=>?_);rw[J];refine aQ (aC (λh=>absurd h bP) λ_=>aM (show -9223372036854775808<=((tP k).size:Int)+0/\((tP k).size:Int)+0<=9223372036854775807 by have:=kwB k;omega) (Gs gN bP bP ?_));rw[show(((tP k).size:Int)+0).toNat=(tP k).size from bP,U];refine ed u iN bP (by rw[B8 bP];omega) (λq E=>kI (tP k) u jZ E (by rw[B8 bP];omega) λ_ u=>?_);rw[qG,Wv bP]at u;refine eP gN (aM (show -9223372036854775808<=((tP k).size:Int)+1/\((tP k).size:Int)+1<=9223372036854775807 by have:=kwB k;omega) (GC gN (show(0:Int)<=((tP k).size:Int)+1 by omega) (show((tP k).size:Int)+1<=_ by omega) ?_))
  rw[show((tP k).size:Int)+(((B7 32).size:Nat):Int)=((tP k).size:Int)+1 from rfl,show(((tP k).size:Int)+1).toNat=(tP k).size+1 from bP,I];exact aM bP ⟨_,bP,k+1,rfl,rfl,rfl,bP,u⟩
 rintro _ _ _ ⟨rfl,rfl,u⟩ _;exact ed u iN ea (by rw[B8 ea];decide) (λ_ E=>kI (KK 20) u jZ E (by rw[B8 ea];decide) λ_ u=>aM ea (nh iN u ea ea λ_ u=>u.fresh))
def C358(w:World):CR 358 [.string Wt,.string (B7 32)] w (λv w'=>mD (bH v gv) w w'):=by
 have u:=St.start w;refine eR Tryz.func358 ?_;exact fV abk u (C369 _) (λ_ _ _ u=>u.fresh)
def C345(w:World):CR 345 [] w (λv w'=>∃b,v=.map (some b)/\B5 w' b gv/\Ext w w'):=by
 have u:=St.start w;refine eR Tryz.func345 ?_;refine NN u (λb _ u=>fV abj u (C358 _) λJ _ M u=>aI iN u.eS ?_);refine⟨λG y w'=>∃k:Nat,y=hZ (k:Int)/\G=21-k/\k<=21/\St w bF [GB b (gv.take k),bH J gv] w',⟨_,0,rfl,rfl,mj _,u.p1⟩,?_⟩;rintro G _ _ ⟨k,rfl,rfl,O,u⟩ _;refine aQ (aC (λB=>?_) λB=>?_);rotate_left
 .obtain rfl:k=21:=by have h:¬ (k:Int)<21:=B;omega
  exact⟨b,rfl,u.GB,u.aF⟩
 have E:k<21:=by have h:(k:Int)<21:=B;omega
 refine aY iN u.p1.eS bP (NS (show((k:Nat):Int).toNat<21 by omega)) (λq I=>aE jZ I ?_);rw[qG];refine NP u Tryz.underlying403 gN (abo k E) (λ_ u=>aM bP ?_);refine⟨_,bP,k+1,rfl,rfl,bP,?_⟩;rw[tx,NS E];exact u
def FnU(w:World)(f:Value)(g:UInt8->Bool):Prop:=∃B first cap,f=.func (.func B) (Ix first) (Ix cap)/\Plain hM B/\
 ∀(c:UInt8) u,Ext w u->Calls hM B (first++[mf .u8 c.toNat]++cap).toArray u (oU λv E=>v=.bool (g c)/\Ext u E)
def Sf{g:UInt8->Bool}{l:List UInt8}{k:Nat}(u:∀y∈l.take k,g y=true)(B:k<=l.length)(h:(match l[k]? with|some c=>g c|none=>false)=false):k=l.length↔l.all g=true:=by
 grind
def ru(s:ByteArray):Bool:=decide (s.size<1\/16<s.size)||(match (fK s)[0]? with|some c=>!fa c.toNat|none=>true)||gv.any (λy=>decide (y=s))
def NT{s:ByteArray}(h:ru s=false):s.size<=1048576:=by
 unfold ru at h
 grind
def NU{s:ByteArray}(h:ru s=true):fw s=false:=by
 show(!(ru s)&&_)=false
 rw[h];rfl
def NV{s:ByteArray}{n:Nat}(h:ru s=false)(u:n=(fK s).length↔(fK s).all (λc=>fa c.toNat||gZ c.toNat)=true):decide ((n:Int)=(s.size:Int))=fw s:=by
 show _=(!(ru s)&&!(fK s).any λc=>!fa c.toNat&&!gZ c.toNat)
 rw[h,Bool.not_false,tM,<- dY]
 grind
theorem Ww{s:ByteArray}(h:s.size=0):s=ia #[]:=by
 cases s with
 | mk a=>cases a with
  | mk l=>cases l with
   | nil=>rfl
   | cons x r=>simp[WA]at h
def C291(c:Int)(w:World):CR 291 [.int .u8 c] w (λv w'=>v=.bool (fa c)/\Ext w w'):=by
 have B:=St.start w;refine eR Tryz.func291 ?_;refine⟨λu w'=>u=.bool (decide (97<=c/\c<=122\/c=95))/\w=w',uF (aC (λ_=>uE (aC (λ_=>⟨FD bP,rfl⟩) λ_=>kR ⟨xh bP,rfl⟩)) λ_=>kR ⟨xh bP,rfl⟩),?_⟩;rintro _ _ ⟨rfl,E⟩ _;subst E;exact⟨rfl,B.aF⟩
def C295(c:Int)(w:World):CR 295 [.int .u8 c] w (λv w'=>v=.bool (gZ c)/\Ext w w'):=by
 have B:=St.start w;refine eR Tryz.func295 ?_;refine⟨λu w'=>u=.bool (decide (48<=c/\c<=57))/\w=w',uF (aC (λ_=>uE ⟨xh bP,rfl⟩) λ_=>⟨QY bP,rfl⟩),?_⟩;rintro _ _ ⟨rfl,E⟩ _;subst E;exact⟨rfl,B.aF⟩
def C294(c:Int)(w:World):CR 294 [.int .u8 c] w (λv w'=>v=.bool (fa c||gZ c)/\Ext w w'):=by
 have u:=St.start w;refine eR Tryz.func294 ?_;refine⟨λB w'=>B=.bool (fa c||gZ c)/\St w bF [] w',aR US u (C291 _ _) (λ_ _ u=>bD (λ_=>⟨vb cR,u⟩) λ_=>aR aa3 u (C295 _ _) λ_ _ u=>⟨vb cR,u⟩),?_⟩;rintro _ _ ⟨rfl,u⟩ _;exact⟨rfl,u.aF⟩
def C293(s:ByteArray)(fv:Value)(g:UInt8->Bool)(w:World)(W:FnU w fv g)(hn:s.size<=1048576):CR 293 [.string s,fv] w (λv w'=>∃n:Nat,v=hZ (n:Int)/\(n=(fK s).length↔(fK s).all g=true)/\Ext w w'):=by
 obtain⟨g0,first,cap,rfl,Z,U⟩:=W;have u:=St.start w;refine R8 _ _ _ _ ?_;unfold S293;refine⟨λm x J=>∃k:Nat,x=hZ (k:Int)/\m=(fK s).length-k/\k<=(fK s).length/\(∀y∈(fK s).take k,g y=true)/\St w bF [] J,⟨_,0,rfl,rfl,mj _,ew,u⟩,?_⟩;rintro m _ J ⟨k,rfl,rfl,O,I,u⟩ _;have L4:=dY s;refine⟨λY w'=>Y=.bool (match (fK s)[k]? with|some c=>g c|none=>false)/\St w bF [] w',eP gN (aQ (aC (λj6=>?_) λ_=>⟨vb cR,u⟩)),?_⟩
 .obtain⟨M,B⟩:∃G,(fK s)[(k:Int).toNat]?=some G:=⟨_,kB (by rw[dY];omega)⟩;refine gR gN bP B (fj Z (U M _ u.aF) ?_);rintro _ _ ⟨rfl,V⟩;have u:=u.ext V;exact⟨vb cR,u⟩
 rintro _ _ ⟨rfl,u⟩ _;refine bD (λE=>?_) (λE=>⟨k,rfl,Sf I O (by simpa using E),u.aF⟩);obtain⟨M,B⟩:∃G,(fK s)[k]?=some G:=by cases h:(fK s)[k]? with|none=>rw[h]at E;cases E|some x=>exact⟨x,rfl⟩
 have Rk:=(j0.1 B).1;exact aM bP ⟨_,bP,k+1,rfl,rfl,bP,eC I B cR,u⟩
def C292(s:ByteArray)(w:World):CR 292 [.string s] w (λv w'=>v=.bool (gv.any λy=>decide (y=s))/\Ext w w'):=by
 have u:=St.start w;refine eR Tryz.func292 ?_;refine dW abi (C345 _) ?_;rintro _ _ ⟨G,rfl,E,B⟩;have u:=u.ext B;exact En E Tryz.underlying403 Tryz.underlying9 MK ⟨rfl,u.aF⟩
def C206(s:ByteArray)(w:World):CR 206 [.string s] w (λv w'=>v=.bool (fw s)/\Ext w w'):=by
 have u:=St.start w;refine eR Tryz.func206 ?_;refine⟨λY w'=>Y=.bool (ru s)/\St w bF [] w',fz (aC (λG=>?_) λG=>?_),?_⟩
 .have J:s.size=0:=by rw[G];rfl
  exact⟨vb (by unfold ru;grind),u⟩
 .have J:s.size≠0:=λh=>G (Ww h);refine eP gN (dL (aC (λ_=>⟨vb (by unfold ru;grind),u⟩) λZ=>?_));obtain⟨W,I⟩:∃M,(fK s)[(0:Int).toNat]?=some M:=⟨_,kB (by rw[dY];omega)⟩;refine gR gN bP I ?_;have O:(fK s)[0]?=some W:=I;have Zq:¬ (s.size<1\/16<s.size):=bP
  exact aR US u (C291 _ _) (λ_ _ u=>bJ (bD (λ_=>⟨vb (by unfold ru;grind),u⟩) λ_=>aR aa6 u (C292 _ _) λ_ _ u=>⟨vb (by unfold ru;grind),u⟩))
 rintro _ _ ⟨rfl,u⟩ _;refine bD (λB=>⟨vb (NU B).symm,u.aF⟩) (λB=>dW aa4 (C293 s _ (λc=>fa c.toNat||gZ c.toNat) _ ⟨294,[],[],rfl,aa5,λ_ V _=>C294 _ V⟩ (NT (by simpa using B))) ?_);rintro _ _ ⟨nr,rfl,E,U⟩;have u:=u.ext U;exact eP gN (aG ⟨vb (NV (by simpa using B) E),u.aF⟩)
def KL(xs:List bI)(i:Int)(n:Nat):Int:=if n=0 then i else if i<0 then -1 else xo xs.length (skip n (xs.drop i.toNat))
def Sg(xs:List bI)(i:Int):KL xs i 1=mN xs i:=by unfold KL mN;omega
theorem NX(xs:List bI)(i:Int):KL xs i 0=i:=rfl
theorem Sh{xs:List bI}{i:Int}{n:Nat}(u:0<n)(h:i<0\/(xs.length:Int)<=i):KL xs i n = -1:=by
 unfold KL
 rw[fg bP]
 split
 .rfl
 rw[ot bP]
 cases n with
 | zero=>omega
 | succ n=>rfl
theorem Si{xs:List bI}{i:Int}{n:Nat}{x:bI}(G:0<n)(J:0<=i)(E:xs[i.toNat]?=some x)(I:kids x.op<0):KL xs i n = -1:=by
 unfold KL
 obtain⟨B,u⟩:=j0.1 E
 rw[fg bP,fg bP,pd B,u]
 cases n with
 | zero=>omega
 | succ n=>
  grind[xo,skip]
theorem NY{xs:List bI}{i:Int}{n m:Nat}{x:bI}(G:0<n)(M:0<=i)(E:xs[i.toNat]?=some x)(I:0<=kids x.op)(J:(m:Int)=n+kids x.op-1):KL xs i n=KL xs (i+1) m:=by
 obtain⟨B,u⟩:=j0.1 E
 have h1:KL xs i n=xo xs.length (skip m (xs.drop (i+1).toNat)):=by
  unfold KL
  rw[fg bP,fg bP,pd B,u,show(i+1).toNat=i.toNat+1 from bP]
  cases n with
  | zero=>omega
  | succ n=>
   grind[xo,skip]
 rw[h1]
 grind[xo,skip,KL]
def NZ(i:Int)(ks:List Ex)(k:Nat):List Int:=(tL k).map λj=>i+1+(ph ks j:Int)
theorem N0(i:Int)(ks:List Ex)(k:Nat):NZ i ks (k+1)=NZ i ks k++[i+1+(ph ks k:Int)]:=by
 unfold NZ;rw[List.range_succ,rn];rfl
theorem IS(i:Int)(ks:List Ex)(k:Nat):(NZ i ks k).length=k:=by simp[NZ]
def Sj{i:Int}{ks:List Ex}{n k:Nat}{e:Int}(h:(NZ i ks n)[k]?=some e):e=i+1+(ph ks k:Int)/\k<n:=by
 unfold NZ at h
 grind
def C304(k:Int)(w:World):CR 304 [hZ k] w (λv w'=>v=hZ (kids k)/\Ext w w'):=by
 have E:=St.start w;refine eR Tryz.func304 ?_;refine⟨λu w'=>u=.bool (decide (k=1\/k=2))/\w=w',aG (aC (λ_=>⟨FD bP,rfl⟩) λ_=>aG ⟨xh bP,rfl⟩),?_⟩;rintro _ _ ⟨rfl,B⟩ _;subst B;refine aC (λI=>?_) (λI=>⟨λu w'=>u=.bool (decide (k=3\/k=4))/\w=w',aG (aC (λ_=>⟨FD bP,rfl⟩) λ_=>aG ⟨xh bP,rfl⟩),?_⟩)
 .unfold kids;exact⟨gl (mf .i64) cR,E.aF⟩
 rintro _ _ ⟨rfl,B⟩ _;subst B;refine aC (λG=>?_) (λG=>⟨λu w'=>u=.bool (decide (5<=k/\k<=15))/\w=w',cJ (aC (λ_=>gL ⟨xh bP,rfl⟩) λ_=>⟨QY bP,rfl⟩),?_⟩)
 .unfold kids;exact⟨gl (mf .i64) cR,E.aF⟩
 rintro _ _ ⟨rfl,B⟩ _;subst B;refine aC (λJ=>?_) (λJ=>?_)
 .unfold kids;exact⟨gl (mf .i64) cR,E.aF⟩
 unfold kids;exact⟨gl (mf .i64) cR,E.aF⟩
def C229(x:bI)(w:World):CR 229 [iS x] w (λv w'=>v=.bool (!xq x)/\Ext w w'):=by
 have u:=St.start w;refine eR Tryz.func229 ?_;refine cE u (λE _ u=>⟨λB w'=>B=.bool (decide (x.at_<0\/4000<x.at_))/\St w bF [bM E (jn x)] w',aA ux (aB (v:=hZ x.at_) bL u.hb rfl (aQ (aC (λ_=>⟨vb cR,u⟩) λ_=>aA ux (aB (v:=hZ x.at_) bL u.hb rfl (dL ⟨vb cR,u⟩))))),?_⟩);rintro _ _ ⟨rfl,u⟩ _;refine bD (λI=>?_) (λI=>?_)
 .refine⟨vb ?_,u.drop.aF⟩;unfold xq
  grind
 refine aA im (aB (v:=hZ x.op) bL u.hb rfl (aG (aC (λJ=>⟨λB w'=>B=.bool (decide (0<=x.n/\x.n<=4294967296/\x.name=⟨#[]⟩))/\St w bF [bM E (jn x)] w',aA qU (aB (v:=hZ x.n) bL u.hb rfl (cJ (aC (λ_=>aA qU (aB (v:=hZ x.n) bL u.hb rfl (gL (aC (λ_=>aA lW (aB (v:=.string x.name) jZ u.hb rfl (fz ⟨vb cR,u⟩))) λ_=>⟨vb cR,u⟩)))) λ_=>⟨vb cR,u⟩))),?_⟩) λJ=>?_)))
 .rintro _ _ ⟨rfl,u⟩ _;refine⟨vb ?_,u.drop.aF⟩;unfold xq
  grind
 refine aA im (aB (v:=hZ x.op) bL u.hb rfl (aG (aC (λG=>⟨λB w'=>B=.bool (decide (x.n=0)&&fw x.name)/\St w bF [bM E (jn x)] w',aA qU (aB (v:=hZ x.n) bL u.hb rfl (aG (aC (λ_=>aA lW (aB (v:=.string x.name) jZ u.hb rfl (aR D9 u (C206 _ _) λ_ _ u=>⟨vb cR,u⟩))) λ_=>⟨vb cR,u⟩))),?_⟩) λG=>?_)))
 .rintro _ _ ⟨rfl,u⟩ _;refine⟨vb ?_,u.drop.aF⟩;unfold xq
  grind
 refine⟨λB w'=>B=.bool (decide (x.n=0/\x.name=⟨#[]⟩))/\St w bF [bM E (jn x)] w',aA qU (aB (v:=hZ x.n) bL u.hb rfl (aG (aC (λ_=>aA lW (aB (v:=.string x.name) jZ u.hb rfl (fz ⟨vb cR,u⟩))) λ_=>⟨vb cR,u⟩))),?_⟩;rintro _ _ ⟨rfl,u⟩ _;refine⟨vb ?_,u.drop.aF⟩;unfold xq
 grind
def C228(x:bI)(w:World):CR 228 [iS x] w (λv w'=>v=.bool (xq x)/\Ext w w'):=by
 have u:=St.start w;refine eR Tryz.func228 ?_;exact cE u (λ_ _ u=>aE wM u.At (aR aa7 u (C229 _ _) λ_ _ u=>bJ ⟨vb ew,u.drop.aF⟩))
def C303(J fv:Value)(xs:List bI)(g:bI->Bool)(w:World)(M:dy (λ_=>True) w J xs)(V:qF w fv g)(hn:xs.length<=1073741824):CR 303 [J,fv] w (λv w'=>v=hZ (pf g xs)/\Ext w w'):=by
 obtain⟨g0,first,cap,rfl,Y,O⟩:=V;have u:=St.start w;refine eR Tryz.func303 ?_;refine aI ju (M.ext u.aF) ?_;refine⟨λm x G=>∃k:Nat,x=hZ (k:Int)/\m=xs.length-k/\k<=xs.length/\(∀y∈xs.take k,g y=false)/\St w bF [] G,⟨_,0,rfl,rfl,mj _,ew,u⟩,?_⟩;rintro m _ G ⟨k,rfl,rfl,hk,B,u⟩ _;refine aQ (aC (λj6=>?_) λ_=>⟨gl (mf .i64) (gn (by rw[kO bP]at B;exact B)).symm,u.aF⟩);obtain⟨W,E⟩:=gx xs (i:=(k:Int).toNat) bP;refine aY ju M bP E (λ_ Z=>aE wM (Z.ext u.aF) (fj Y (O W G u.aF) ?_))
 rintro _ _ ⟨rfl,U⟩;have u:=u.ext U;exact bD (λI=>⟨gl (mf .i64) (jy B E I).symm,u.aF⟩) (λI=>aM bP ⟨xs.length-(k+1),bP,k+1,rfl,rfl,bP,eC B E I,u⟩)
def C230(B fv:Value)(xs:List bI)(g:bI->Bool)(w:World)(G:dy (λ_=>True) w B xs)(E:qF w fv g)(I:xs.length<=1073741824):CR 230 [B,fv] w (λv w'=>v=.bool (xs.any g)/\Ext w w'):=by
 have u:=St.start w;refine eR Tryz.func230 ?_;exact aR abe u (C303 _ _ _ _ _ (G.ext u.aF) (E.ext u.aF) bP) (λ_ _ u=>cJ ⟨vb (iv _ _),u.aF⟩)
def C231(lv:Value)(xs:List bI)(i:Int)(w:World)(J:dy (λ_=>True) w lv xs)(hn:xs.length<=1048576):CR 231 [lv,hZ i] w (λv w'=>v=hZ (mN xs i)/\Ext w w'):=by
 have u:=St.start w;refine eR Tryz.func231 ?_;refine⟨λm x y O=>∃(a:Int) (n:Nat),x=hZ a/\y=hZ (n:Int)/\m=xs.length-a.toNat/\n<=1+a.toNat/\KL xs a n=mN xs i/\St w bF [] O,⟨_,i,1,rfl,rfl,rfl,bP,Sg _ _,u⟩,?_⟩;rintro m _ _ O ⟨a,n,rfl,rfl,rfl,hna,E,u⟩ _;refine dL (aC (λZ=>⟨λjv w'=>jv=.bool (decide (a<0\/(xs.length:Int)<=a)||(match xs[a.toNat]? with|some x=>decide (kids x.op = -1)|none=>true))/\St w bF [] w',aQ (aC (λ_=>⟨vb cR,u⟩) λiQ=>aI ju (J.ext u.aF) (cJ (aC (λ_=>⟨vb cR,u⟩) λcW=>?_))),?_⟩) λZ=>?_)
 .obtain⟨B,G⟩:=gx xs (i:=a.toNat) bP;have Wl:=ri B.op;exact aY ju J bP G (λ_ I=>cU B.op im I rfl rfl λ_ Er=>aE bL (Er.ext u.aF) (aR NC u (C304 _ _) λ_ _ u=>aG ⟨vb cR,u⟩))
 .rintro _ _ ⟨rfl,u⟩ _;refine bD (λU=>?_) (λU=>?_)
  .refine⟨gl (mf .i64) ?_,u.aF⟩;rw[<- E]
   by_cases hq:a<0\/(xs.length:Int)<=a
   .exact(Sh bP hq).symm
   have M:a.toNat<xs.length:=bP
   rw[kB M]at U;exact(Si bP bP (kB M) cR).symm
  have Y:¬ (a<0\/(xs.length:Int)<=a):=cR
  obtain⟨B,G⟩:=gx xs (i:=a.toNat) bP;have Wl:=ri B.op;have W:0<=kids B.op:=cR
  exact aY ju J bP G (λ_ uN=>cU B.op im uN rfl rfl λ_ N1=>aE bL (N1.ext u.aF) (aR NC u (C304 _ _) λ_ _ u=>aM bP (aM bP (fk bP ⟨_,bP,a+1,((n:Int)+kids B.op-1).toNat,rfl,gl (mf .i64) bP,rfl,bP,by rw[<- E];exact(NY bP bP G W bP).symm,u⟩))))
 have V:n=0:=bP
 rw[V,NX]at E;exact⟨gl (mf .i64) E,u.aF⟩
theorem wQ{l:List bI}:fJ l=(decide (l.length<=40)&&decide (mN l 0=l.length)&&!l.any xq&&decide (Ny l<=12)):=by
 unfold fJ;rw[D7]
def C305(lv:Value)(xs:List bI)(i:Int)(t:Ex)(w:World)(M:dy (λ_=>True) w lv xs)(hn:xs.length<=1048576)(B:AN xs i t):CR 305 [lv,hZ i] w (λv w'=>mD (bH v (NZ i t.dR t.dR.length)) w w'):=by
 obtain⟨I,hq,O⟩:∃e,e=t.root/\xs[(i).toNat]?=some e:=⟨_,rfl,B.root.1⟩;have ZL:=B.root.2;have U:=B.end;have V:=Ex.uP B.2.1;rw[<- hq]at V;have Wl:=ri I.op;have UR:=B.1;have u:=St.start w;refine eR Tryz.func305 ?_;refine aM bP (aY ju M bP O λ_ yT=>cU I.op im yT rfl rfl λ_ N2=>aE bL (N2.ext u.aF) (aR NC u (C304 _ _) λG he u=>?_));refine⟨λm J a x G=>∃k:Nat,a=hZ (i+1+ph t.dR k)/\x=hZ (k:Int)/\m=t.dR.length-k/\k<=t.dR.length/\St w bF [bH J (NZ i t.dR k)] G,⟨_,0,gl (mf .i64) (by simp[ph]),rfl,rfl,bP,u.eD (α:=Int)⟩,?_⟩
 rintro m J _ _ _ ⟨k,rfl,rfl,rfl,hk,u⟩ _;refine aQ (aC (λcW=>?_) λcW=>?_)
 .obtain⟨a,E⟩:=gx t.dR (i:=k) bP;have Y:=Ex.te B.2.1 (l0 E);have Q2:=B.kid E;have Z:=Q2.end;have Zn:=a.oa;refine bK ([(i+1+ph t.dR k:Int)]) u dG rfl rfl (dQ rfl) (λU7 _ u=>?_);have W:=u.eS;exact cO u.p1 dG W (by rw[IS];exact Q8 (by simp;omega)) ea (λ_ _ u=>have u:=u.p1.drop;aR ND u (C231 _ _ _ _ (M.ext u.aF) bP) λ_ _ u=>aM bP ⟨_,bP,k+1,gl (mf .i64) (by rw[Z.1,vP E];omega),rfl,rfl,bP,by rw[N0];exact u⟩)
 rw[show t.dR.length=k from bP];exact u.fresh
theorem C232(lv:Value)(xs:List bI)(i:Int)(t:Ex)(N:Nat)(w:World)(O:dy (λ_=>True) w lv xs)(V:xs.length<=1048576)(B:AN xs i t)(hN:t.size<N):CR 232 [lv,hZ i] w (λv w'=>v=hZ t.depth/\Ext w w'):=by
 obtain⟨nS,hq,rk⟩:∃e,e=t.root/\xs[(i).toNat]?=some e:=⟨_,rfl,B.root.1⟩;have ZL:=B.root.2;have W:=B.end;have Y:=Ex.uP B.2.1;rw[<- hq]at Y;have Wl:=ri nS.op;have UR:=B.1;have u:=St.start w;refine R9 _ _ _ _ ?_;unfold S232;refine fV aa9 u (C305 _ _ _ t _ (O.ext u.aF) bP B) (λG J dw u=>?_);have N3:=IS i t.dR t.dR.length;refine aI dG u.eS ?_;refine⟨λm n x J=>∃k:Nat,n=hZ (xp t.dR k)/\x=hZ (k:Int)/\m=t.dR.length-k/\k<=t.dR.length/\St w bF [bH G (NZ i t.dR t.dR.length)] J,⟨_,0,rfl,rfl,rfl,bP,u⟩,?_⟩;rintro m _ _ _ ⟨k,rfl,rfl,rfl,hk,u⟩ _
 have hdk:=Gw (ks:=t.dR) (N:=(t.size:Int)) bP (λa Z=>by have:=(Ex.te B.2.1 Z).2;have:=a.oa;omega) k;refine aQ (aC (λuL=>?_) λ_=>aM bP ⟨gl (mf .i64) (by rw[t.D6,show k=t.dR.length from bP]),u.aF⟩);obtain⟨iR,I⟩:=gx (NZ i t.dR t.dR.length) (i:=(k:Int).toNat) bP;refine ed u dG bP bP (λ_ U=>gM u bL U I ?_);obtain⟨rfl,Nu⟩:=Sj I;obtain⟨a,E⟩:=gx t.dR (i:=k) bP;have hka:=Ex.te B.2.1 (l0 E);have M:=B.kid E;have Wn:=M.end;have Zn:=a.oa
 exact aR UT u (C232 _ _ _ _ (N-1) _ (O.ext u.aF) V M bP) (λ_ _ u=>xN (aM bP ⟨_,bP,k+1,by rw[vQ E],rfl,rfl,bP,u⟩))
termination_by N
decreasing_by all_goals omega
def C121(lv:Value)(xs:List bI)(w:World)(B:dy (λ_=>True) w lv xs)(G:xs.length<=1048576):CR 121 [lv] w (λv w'=>v=.bool (fJ xs)/\Ext w w'):=by
 have u:=St.start w;refine eR Tryz.func121 ?_;refine⟨λU w'=>U=.bool (decide (xs.length=0\/40<xs.length)||xs.any xq||decide (¬ mN xs 0=xs.length))/\St w bF [] w',aI ju (B.ext u.aF) (aG (aC (λ_=>⟨vb cR,u⟩) λZ=>aI ju (B.ext u.aF) (dL (aC (λ_=>⟨vb cR,u⟩) λW=>?_)))),?_⟩
 .have E:qF w (.func (.func 228) [].toArray [].toArray) xq:=
   ⟨228,[],[],rfl,aa8,λy O _=>C228 y O⟩
  exact aR abd u (C230 _ _ _ _ _ (B.ext u.aF) E bP) (λ_ _ u=>bD (λ_=>⟨vb cR,u⟩) λ_=>aR ND u (C231 _ _ _ _ (B.ext u.aF) bP) λ_ _ u=>aI ju (B.ext u.aF) (cB ⟨vb cR,u⟩))
 rintro _ _ ⟨rfl,u⟩ _;refine bD (λM=>?_) (λM=>?_)
 .refine⟨vb ?_,u.aF⟩;rw[wQ]
  by_cases J:xs.length=0
  .obtain rfl:=pP.1 J;rfl
  grind
 have V:mN xs 0=xs.length:=cR
 obtain⟨t,ht⟩:=AN.of (xs:=xs) (i:=0) bP;have I:=ht.zero V;refine aR UT u (C232 _ _ _ t (t.size+1) _ (B.ext u.aF) G ht bP) (λ_ Y u=>gL ?_);refine⟨vb ?_,u.aF⟩;rw[wQ];unfold Ny;rw[I.2]
 grind
def j1(o:List ByteArray)(x:bI):List ByteArray:=if x.op=2/\o.any (λy=>decide (y=x.name))=false then o++[x.name]else o
theorem N4{o:List ByteArray}{x:bI}(h:x.op=2/\o.any (λy=>decide (y=x.name))=false):j1 o x=o++[x.name]:=fh h
theorem N5{o:List ByteArray}{x:bI}(h:¬ (x.op=2/\o.any (λy=>decide (y=x.name))=false)):j1 o x=o:=fg h
def j3(xs:List bI):List ByteArray:=xs.foldl j1 []
theorem Es{xs:List bI}{k:Nat}{x:bI}(h:xs[k]?=some x):j3 (xs.take (k+1))=j1 (j3 (xs.take k)) x:=by
 unfold j3;rw[<- gm h,x6];rfl
theorem wR(xs:List bI):(j3 xs).length<=xs.length:=by
 have:∀(l:List bI) (o:List ByteArray),(l.foldl j1 o).length<=o.length+l.length:=by
  intro l
  induction l with
  | nil=>grind
  | cons x l u=>
   grind[j1]
 simpa[j3]using this xs []
theorem GF(g:ByteArray->Bool)(xs:List bI):(j3 xs).any g=xs.any λx=>decide (x.op=2)&&g x.name:=by
 have:∀(l:List bI) (o:List ByteArray),(l.foldl j1 o).any g=(o.any g||l.any λx=>decide (x.op=2)&&g x.name):=by
  intro l
  induction l with
  | nil=>grind
  | cons x l u=>
   intro o
   show(l.foldl j1 (j1 o x)).any g=_
   rw[u]
   have h2:(j1 o x).any g=(o.any g||(decide (x.op=2)&&g x.name)):=by
    unfold j1
    grind
   grind
 exact(this xs []).trans ew
theorem vT(ns:List ByteArray)(s:ByteArray):decide (0<=cT ns s)=ns.any λy=>decide (y=s):=iv _ _
theorem KM(ns:List ByteArray)(s:ByteArray):decide (cT ns s<0) = !ns.any λy=>decide (y=s):=by
 rw[<- vT]
 grind
def GG{k:Int}(h:0<=kids k):eT k=kids k:=by unfold eT kids at *;grind
def Sl{ns:List ByteArray}{xs:List bI}(h:fJ xs=false):ql ns xs=8:=by unfold ql;grind
def Sm{ns:List ByteArray}{xs:List bI}(h:fJ xs=true):ql ns xs=if (j3 xs).any (λs=>!ns.any λy=>decide (y=s))=true then 9 else 0:=by
 unfold ql
 rw[fg (by simp[h]),GF]
 simp only[KM]
theorem Et{ns:List ByteArray}{xs:List bI}(h:¬ ql ns xs=0):yN ns xs=[]:=by unfold yN;grind
def vU(ns:List ByteArray)(u:List Int)(xs:List bI):Int×Int:=if ns.length=u.length then(if ql ns xs=0 then runM (yN ns xs) u else(0,ql ns xs))else(0,1)
def C233(I:Value)(ns:List ByteArray)(s:ByteArray)(w:World)(M:dy (λ_=>True) w I ns)(U:ns.length<=1048576):CR 233 [I,.string s] w (λv w'=>v=hZ (cT ns s)/\Ext w w'):=by
 have u:=St.start w;refine eR Tryz.func233 ?_;refine aI iN (M.ext u.aF) ?_;refine⟨λm x J=>∃k:Nat,x=hZ (k:Int)/\m=ns.length-k/\k<=ns.length/\(∀y∈ns.take k,decide (y=s)=false)/\St w bF [] J,⟨_,0,rfl,rfl,mj _,ew,u⟩,?_⟩;rintro m _ J ⟨k,rfl,rfl,V,B,u⟩ _;refine aQ (aC (λW=>?_) λ_=>⟨gl (mf .i64) (gn (by rw[kO bP]at B;exact B)).symm,u.aF⟩);obtain⟨Y,E⟩:=gx ns (i:=(k:Int).toNat) bP;exact aY iN M bP E (λ_ O=>aE jZ (O.ext u.aF) (fz (aC (λG=>⟨gl (mf .i64) (jy B E (fY G.symm)).symm,u.aF⟩) λG=>aM bP ⟨_,bP,k+1,rfl,rfl,bP,eC B E (fZ λh=>G h.symm),u⟩)))
def C123(B:Value)(ns:List ByteArray)(s:ByteArray)(w:World)(E:dy (λ_=>True) w B ns)(G:ns.length<=1048576):CR 123 [B,.string s] w (λv w'=>v=.bool (ns.any λy=>decide (y=s))/\Ext w w'):=by
 have u:=St.start w;refine eR Tryz.func123 ?_;exact aR NF u (C233 _ _ _ _ (E.ext u.aF) bP) (λ_ _ u=>cJ ⟨vb (vT _ _),u.aF⟩)
def C234(J fv:Value)(xs:List ByteArray)(g:ByteArray->Bool)(w:World)(M:dy (λ_=>True) w J xs)(V:qF w fv g)(hn:xs.length<=1073741824):CR 234 [J,fv] w (λv w'=>v=hZ (pf g xs)/\Ext w w'):=by
 obtain⟨g0,first,cap,rfl,Y,O⟩:=V;have u:=St.start w;refine eR Tryz.func234 ?_;refine aI iN (M.ext u.aF) ?_;refine⟨λm x G=>∃k:Nat,x=hZ (k:Int)/\m=xs.length-k/\k<=xs.length/\(∀y∈xs.take k,g y=false)/\St w bF [] G,⟨_,0,rfl,rfl,mj _,ew,u⟩,?_⟩;rintro m _ G ⟨k,rfl,rfl,hk,B,u⟩ _;refine aQ (aC (λj6=>?_) λ_=>⟨gl (mf .i64) (gn (by rw[kO bP]at B;exact B)).symm,u.aF⟩);obtain⟨W,E⟩:=gx xs (i:=(k:Int).toNat) bP;refine aY iN M bP E (λ_ Z=>aE jZ (Z.ext u.aF) (fj Y (O W G u.aF) ?_))
 rintro _ _ ⟨rfl,U⟩;have u:=u.ext U;exact bD (λI=>⟨gl (mf .i64) (jy B E I).symm,u.aF⟩) (λI=>aM bP ⟨xs.length-(k+1),bP,k+1,rfl,rfl,bP,eC B E I,u⟩)
def C124(B fv:Value)(xs:List ByteArray)(g:ByteArray->Bool)(w:World)(G:dy (λ_=>True) w B xs)(E:qF w fv g)(I:xs.length<=1073741824):CR 124 [B,fv] w (λv w'=>v=.bool (xs.any g)/\Ext w w'):=by
 have u:=St.start w;refine eR Tryz.func124 ?_;exact aR abf u (C234 _ _ _ _ _ (G.ext u.aF) (E.ext u.aF) bP) (λ_ _ u=>cJ ⟨vb (iv _ _),u.aF⟩)
def C125(lv:Value)(xs:List bI)(w:World)(V:dy (λ_=>True) w lv xs)(hn:xs.length<=1048576)(hr:fJ xs=true):CR 125 [lv] w (λv w'=>mD (bH v (j3 xs)) w w'):=by
 have u:=St.start w;refine eR Tryz.func125 ?_;refine aR IM u (C121 _ _ _ (V.ext u.aF) bP) (λW he u=>bJ (bD (λG=>?_) λG=>?_))
 .rw[hr]at G;cases G
 refine aI ju (V.ext u.aF) ?_;refine⟨λm O x W=>∃k:Nat,x=hZ (k:Int)/\m=xs.length-k/\k<=xs.length/\St w bF [bH O (j3 (xs.take k))] W,⟨_,0,rfl,rfl,bP,u.eD (α:=ByteArray)⟩,?_⟩;rintro m O _ _ ⟨k,rfl,rfl,hk,u⟩ _;refine aQ (aC (λZ=>?_) λZ=>?_)
 .obtain⟨B,Y⟩:=gx xs (i:=(k:Int).toNat) bP;refine⟨λM w'=>St w bF [bH M (j1 (j3 (xs.take k)) B)] w',?_,?_⟩
  .have QW:=wR (xs.take k);rw[mg]at QW;refine aY ju V bP Y (λ_ D2=>aE wM (D2.ext u.aF) (aK u BU λE _ u=>aH (x:=B) u wM rfl rfl λ_ u=>⟨λM w'=>M=.bool (decide (B.op=2)&&!(j3 (xs.take k)).any λy=>decide (y=B.name))/\St w bF [bM E (jn B),bH O (j3 (xs.take k))] w',aA im (aB (v:=hZ B.op) bL u.hb rfl (aG (aC (λ_=>aA lW (aB (v:=.string B.name) jZ u.hb rfl (aR UY u (C123 _ _ _ _ u.p1.eS bP) λ_ _ u=>bJ ⟨vb cR,u⟩))) λ_=>⟨vb cR,u⟩))),?_⟩))
   rintro _ _ ⟨rfl,u⟩ _;refine bD (λJ=>?_) (λJ=>?_)
   .refine aA lW (aB (v:=.string B.name) jZ u.hb rfl (bK ([B.name]) u iN rfl rfl (dQ rfl) λI _ u=>?_));have Wz:=u.eS;refine cO u.p2 iN Wz (by simp<;>omega) ea (λU _ u=>?_);have u:=u.p1.drop;rw[N4 (by simpa using J)];exact u.p1.drop
   rw[N5 (by simpa using J)];exact u.drop
  rintro N6 _ u _;exact aM bP ⟨_,bP,k+1,rfl,rfl,bP,by rw[Es (k:=k) Y];exact u⟩
 rw[kO bP]at u;exact u.fresh
def Cb{α:Type}[Flat α]{S:Nat->Prop}{w:World}{v:Value}{xs:List α}(h:dy S w v xs):qD v=true:=by obtain⟨a,c,rfl,_⟩:=h;rfl
theorem KN(ns:List ByteArray)(xs:List bI):(yN ns xs).length<=xs.length:=by
 unfold yN
 split
 .unfold Gx
  cases h:tf xs with
  | none=>grind
  | some t=>
   rw[Ex.sf,<- Ex.cM,<- (tg h).2];omega
 grind
theorem C126(lv nv:Value)(xs:List bI)(ns:List ByteArray)(i:Int)(t:Ex)(N:Nat)(w:World)(I:dy (λ_=>True) w lv xs)(hN:dy (λ_=>True) w nv ns)(hn:xs.length<=1048576)(U8:ns.length<=1048576)(G:AN xs i t)(hNt:t.size<N):CR 126 [lv,hZ i,nv] w (λv w'=>mD (bH v (t.steps ns)) w w'):=by
 obtain⟨B,hq,M⟩:∃e,e=t.root/\xs[(i).toNat]?=some e:=⟨_,rfl,G.root.1⟩;have ZL:=G.root.2;have hie:=G.end;have Nw:=Ex.uP G.2.1;rw[<- hq]at Nw;have Wl:=ri B.op;have UR:=G.1;have hwk:=GG (k:=B.op) bP;have u:=St.start w;refine qg Tryz.func126 (pl:=ag4) ?_;refine aM bP (aY ju I bP M λ_ fH=>cU B.op im fH rfl rfl λ_ N7=>aE bL (N7.ext u.aF) (aR Mz u (C149 _ _) λw1 he u=>?_));refine⟨λm Y a x w1=>∃k:Nat,a=hZ (i+1+ph t.dR k)/\x=hZ (k:Int)/\m=t.dR.length-k/\k<=t.dR.length/\St w bF [bH Y (R6 ns t.dR k)] w1,⟨_,0,gl (mf .i64) (by simp[ph]),rfl,rfl,bP,u.eD (α:=mM)⟩,?_⟩
 rintro m Y _ _ _ ⟨k,rfl,rfl,rfl,hk,u⟩ _;refine aQ (aC (λfc=>?_) λfc=>?_)
 .obtain⟨a,O⟩:=gx t.dR (i:=k) bP;have hka:=Ex.te G.2.1 (l0 O);have Q2:=G.kid O;have Wn:=Q2.end;have Zn:=a.oa;have J:=IK (ns:=ns) (ks:=t.dR) (k:=k);have U9:=Ex.sf ns a;refine fV UW u (C126 _ _ _ _ _ _ (N-1) _ (I.ext u.aF) (hN.ext u.aF) hn U8 Q2 bP) (λx24 _ dw u=>?_);have WB:=u.eS;exact cO u.p1 sN WB bP ea (λ_ _ u=>have u:=u.p1.drop;aR ND u (C231 _ _ _ _ (I.ext u.aF) bP) λ_ _ u=>aM bP ⟨_,bP,k+1,gl (mf .i64) (by rw[Wn.1,vP O];omega),rfl,rfl,bP,by rw[Nx O];exact u⟩)
 have J:=IK (ns:=ns) (ks:=t.dR) (k:=k);refine aY ju I bP M (λ_ Ev=>cU B.op im Ev rfl rfl λ_ AT=>have u:=u.drew;aE bL (AT.ext u.aF) (aY ju I bP M λ_ N8=>cU B.n qU N8 rfl rfl λ_ Z=>aE bL (Z.ext u.aF) (pop (Gj _ _) (aK u BV λvN _ u=>?_))));refine⟨ji bL (AT.ext u.aF),?_⟩;refine⟨ji bL (Z.ext u.aF),?_⟩;refine aH (x:=(⟨B.op,B.n⟩:mM)) u yu rfl rfl (λ_ u=>⟨λw'=>St w bF [bM vN (jn (⟨B.op,Ex.numOf ns B⟩:mM)),bH Y (R6 ns t.dR k)] w',aA jU (aB (v:=hZ ((⟨B.op,B.n⟩:mM).kind)) bL u.hb rfl (aG (aC (λU=>?_) λU=>?_))),?_⟩)
 .refine aY ju I bP M (λ_ W=>cU B.name lW W rfl rfl λ_ V=>aE jZ (V.ext u.aF) (aR NF u (C233 _ _ _ _ (hN.ext u.aF) bP) λ_ he u=>aA lZ (aO u bL (dQ rfl) (rfl) λ_ u=>?_)));have u:=u.enc (cs':=jn ({ (⟨B.op,B.n⟩:mM)with n:=(cT ns B.name)}:mM)) rfl;have E:Ex.numOf ns B=cT ns B.name:=fh U;rw[<- E]at u;exact u
 .have E:Ex.numOf ns B=B.n:=fg U;rw[<- E]at u;exact u
 rintro _ u _;refine aE yu u.At (bK ([(⟨B.op,Ex.numOf ns B⟩:mM)]) u sN rfl rfl (dQ rfl) λabu _ u=>?_);have GH:=u.eS;refine cO u.p2 sN GH (by rw[J,nB];have:(t.steps ns).length=t.size:=Ex.sf ns t;rw[Ex.yM,kE,nB,<- show k=t.dR.length from bP]at this;omega) ea (λabv _ u=>?_);have u:=u.p1.drop;rw[Ex.yM,<- show k=t.dR.length from bP,<- hq];exact u.p1.drop.fresh
termination_by N
decreasing_by all_goals omega
def C122(s:ByteArray)(b2:Nat)(B:Value)(ns:List ByteArray)(w:World)(hc:Cell w b2 0 B)(E:dy (λ_=>True) w B ns)(G:ns.length<=1048576):CR 122 [.string s,.pointer (some ⟨b2,0,none⟩)] w (λv w'=>v=.bool (!ns.any λy=>decide (y=s))/\Ext w w'):=by
 have u:=St.start w;refine eR Tryz.func122 ?_;exact cD lT (hc.ext u.aF) (aR UY u (C123 _ _ _ _ (E.ext u.aF) bP) λ_ _ u=>bJ ⟨rfl,u.aF⟩)
def C59(lv I:Value)(xs:List bI)(ns:List ByteArray)(w:World)(U:dy (λ_=>True) w lv xs)(M:dy (λ_=>True) w I ns)(V:xs.length<=1048576)(Y:ns.length<=1048576):CR 59 [lv,I] w (λv w'=>∃s,v=.tuple #[s,hZ (ql ns xs)]/\mD (bH s (yN ns xs)) w w'):=by
 have u:=St.start w;refine Wq _ _ _ _ ?_;unfold S59;refine jP u (Cb M) (λEw w1 u=>aR IM u (C121 _ _ _ (U.ext u.aF) bP) λ_ he u=>bJ (bD (λE=>?_) λE=>?_))
 .have h8:ql ns xs=8:=Sl (by simpa using E);refine⟨_,by rw[h8],?_⟩;rw[Et (by rw[h8];decide)];exact(u.drop.eD (α:=mM)).fresh
 have B:fJ xs=true:=by simpa using E
 have QW:=wR xs;have RF:=Sm (ns:=ns) B;refine fV aba u (C125 _ _ _ (U.ext u.aF) V B) (λx12 _ dw u=>?_)
 have G:qF _ (.func (.func 122) [].toArray [.pointer (some ⟨Ew,0,none⟩)].toArray) (λs=>!ns.any λy=>decide (y=s)):=
  ⟨122,[],_,rfl,abb,λy w1 e1=>C122 y Ew I ns w1 ((u.p1.hb.cell rfl).ext e1) ((M.ext u.aF).ext e1) Y⟩
 refine aR UX u (C124 _ _ _ _ _ u.eS G bP) (λ_ he u=>bD (λJ=>?_) λJ=>?_)
 .have Z:ql ns xs=9:=by rw[RF,fh J]
  refine⟨_,by rw[Z],?_⟩;rw[Et (by rw[Z];decide)];exact(u.drop.drop.eD (α:=mM)).fresh
 refine aB lT u.p1.hb rfl ?_;have W:ql ns xs=0:=by rw[RF,fg (by simpa using J)]
 have Wy:=Gy B;obtain⟨t,ht⟩:=AN.of (xs:=xs) (i:=0) bP;have hz:=ht.zero Wy;refine fV UW u (C126 _ _ _ _ _ t (t.size+1) _ (U.ext u.aF) (M.ext u.aF) V Y ht bP) (λO _ dw u=>?_);refine⟨O,by rw[W],?_⟩;unfold yN Gx;rw[fh W,hz.2];exact u.p1.drop.p1.drop.fresh
def C78(lv J I:Value)(xs:List bI)(ns:List ByteArray)(E:List Int)(w:World)(W:dy (λ_=>True) w lv xs)(O:dy (λ_=>True) w J ns)(G:dy (λ_=>True) w I E)(Y:xs.length<=1048576)(U8:ns.length<=1048576):CR 78 [lv,J,I] w (λv w'=>v=.tuple #[hZ (vU ns E xs).1,hZ (vU ns E xs).2]/\Ext w w'):=by
 have u:=St.start w;refine Wr _ _ _ _ _ ?_;unfold S78;refine aI iN (O.ext u.aF) (aI dG (G.ext u.aF) (cB (aC (λV=>?_) λV=>?_)))
 .refine⟨?_,u.aF⟩;unfold vU;rw[fg bP]
 refine dW ag5 (C59 _ _ _ _ _ (W.ext u.aF) (O.ext u.aF) bP bP) ?_;rintro M _ ⟨Z,rfl,U⟩;have u:=u.made U;refine aJ rfl (aJ rfl (cB (aC (λB=>?_) λB=>?_)))
 .refine⟨?_,u.aF⟩;unfold vU;rw[fh bP,fg B]
 have Uz:=KN ns xs;refine aR af7 u (C79 _ _ _ _ _ u.eS (G.ext u.aF) bP) (λ_ he u=>aJ rfl (aJ rfl ?_));refine⟨?_,u.aF⟩;unfold vU;rw[fh bP,fh (by simpa using B)]
variable (w:World) (K:Value->hU)
def ahb:dI:=λi=>match i with
 | 9=>(.of [(0,[]),(1,[]),(2,[]),(3,[]),(4,[]),(6,[]),(7,[]),(5,[7]),(8,[]),(9,[]),(10,[]),(11,[]),(12,[]),(13,[]),(15,[]),(16,[]),(14,[16]),(17,[]),(18,[]),(19,[]),(20,[]),(21,[]),(22,[]),(24,[]),(25,[]),(23,[25]),(26,[]),(27,[]),(28,[]),(29,[]),(30,[]),(31,[]),(33,[]),(34,[]),(32,[34]),(35,[]),(36,[]),(37,[]),(38,[])])
 | _=>.nil
def S348(B yU:Value):Prop:=
 nW (λW n5 E a=>∀_:Env,
 lN 112 B λb=>bA .lss 3 E b λc=>cV c (iA 112 B E λd=>lA 220 d a λe=>aL 220 a λf g=>sA 220 f e g λh=>bB .add 3 E (i 1) λj=>fA 220 f 6 λk=>lA 3 k h λl=>
 bA .add 3 j l λn=>fA 220 f 7 λo=>lA 3 o h λp=>bA .add 3 n p λq=>eF (λK2=>fA 220 f 0 λr=>lA 3 r h λs=>bB .eql 3 s (i 11) λt=>cV t (K2 tt h) (fA 220 f 0 λu=>
 lA 3 u h λv=>bB .eql 3 v (i 12) λx=>K2 x h)) (λIU y=>∀_:Env,
 eF (λI=>fA 220 f 6 λz=>lA 3 z y λaa=>bB .lss 3 aa (i 0) λab=>cV ab (I tt y) (fA 220 f 7 λac=>lA 3 ac y λad=>bB .lss 3 ad (i 0) λae=>cV ae (I tt y) (
 fA 220 f 6 λaf=>lA 3 af y λag=>lN 112 B λah=>bA .gtr 3 ag ah λai=>cV ai (I tt y) (fA 220 f 7 λaj=>lA 3 aj y λak=>lN 112 B λal=>bA .gtr 3 ak al λam=>
 cV am (I tt y) (lN 112 B λan=>bA .gtr 3 q an λao=>I ao y))))) (λap M=>∀_:Env,
 cV ap (K (i (-1)) M) (eF (λJ=>eF (λK5=>dX hM (Op.unary .not IU) λar=>cV ar (fA 220 f 6 λY=>lA 3 Y M λau=>bB .gtr 3 au (i 0) λav=>K5 av M) (
 K5 ff M)) (λaw G=>∀_:Env,
 cV aw (J aw G) (eF (λK6=>fA 220 f 0 λay=>lA 3 ay G λaz=>bB .neq 3 az (i 11) λa0=>cV a0 (fA 220 f 7 λa1=>lA 3 a1 G λa2=>bB .gtr 3 a2 (i 0) λa3=>K6 a3 G) (
 K6 ff G)) (λa4 U=>∀_:Env,
 cV a4 (J a4 U) (fA 220 f 0 λa6=>lA 3 a6 U λa7=>bB .eql 3 a7 (i 13) λa8=>cV a8 (bB .eql 3 yU (i 0) λa9=>J a9 U) (J ff U)))))) (λba O=>∀_:Env,
 cV ba (K (i (-1)) O) (eF (λK7=>cV IU (fA 220 f 0 λbc=>lA 3 bc O λbd=>bB .eql 3 bd (i 12) λbe=>cF 255 [be] O λbf V=>bA .add 3 yU bf λbh=>bB .add 3 E (i 1) λbi=>
 bB .add 3 E (i 1) λbj=>fA 220 f 6 λbk=>lA 3 bk (drew V) λbl=>bA .add 3 bj bl λbm=>dX hM (mv 112 B (some bi) (some bm) none) λbn=>bB .add 3 E (i 1) λbo=>
 fA 220 f 6 λbp=>lA 3 bp (drew V) λbq=>bA .add 3 bo bq λbr=>dX hM (mv 112 B (some br) (some q) none) λbs=>cF 348 [bn,bh] (drew V) λbt bu=>
 kA 3 bp bq bu (cF 348 [bs,bh] bu λbv bw=>eF (λK8=>bB .eql 3 bt (i (-1)) λbx=>cV bx (K8 tt bw) (bB .eql 3 bv (i (-1)) λbz=>K8 bz bw)) (λb0 b1=>∀_:Env,
 cV b0 (K (i (-1)) b1) (bB .add 3 bt (i 1) λb2=>bB .add 3 bv (i 1) λb3=>dX hM (Builtin.max_ #[3,3,3] 3 [n5,b2,b3].toArray) λb4=>K7 b4 b1)))) (K7 n5 O)) (λZ b5=>∀_:Env,
 W Z q b5))))))) (K n5 a)) (λW=>W (i 0) (i 0) w)
def ahd:dI:=λi=>match i with
 | 15=>(.of [(0,[]),(1,[]),(2,[]),(3,[]),(4,[]),(5,[]),(6,[]),(7,[]),(8,[]),(9,[]),(11,[]),(12,[]),(13,[]),(14,[]),(15,[]),(16,[]),(17,[]),(18,[]),(19,[]),(10,[15]),(20,[]),(21,[]),(22,[])])
 | _=>.nil
theorem Sn(B u:Value)(h:S348 w K B u):CR 348 [B,u] w K:=
 lL 131 ahd 16 [.tmp 4] Tryz.func348 h
theorem abw:PL 360:=dD Tryz.func360
theorem abx:PL 347:=dD Tryz.func347
theorem Ey:PL 361:=dD Tryz.func361
theorem Vb:PL 363:=dD Tryz.func363
theorem Vc:PL 364:=dD Tryz.func364
theorem N9:PL 348:=dD Tryz.func348
theorem aby:PL 297:=dD Tryz.func297
theorem abz:PL 109:=dD Tryz.func109
theorem abA:PL 203:=dD Tryz.func203
theorem abB:PL 205:=dD Tryz.func205
theorem abC:PL 208:=dD Tryz.func208
theorem abD:PL 209:=dD Tryz.func209
theorem Oa:PL 204:=dD Tryz.func204
theorem abE:PL 290:=dD Tryz.func290
theorem Vd:PL 207:=dD Tryz.func207
theorem abF:PL 296:=dD Tryz.func296
theorem Ob:PL 210:=dD Tryz.func210
theorem abG:PL 346:=dD Tryz.func346
theorem abH:PL 359:=dD Tryz.func359
theorem abI:PL 289:=dD Tryz.func289
theorem abJ:PL 344:=dD Tryz.func344
theorem Ve:PL 211:=dD Tryz.func211
theorem abK:PL 298:=dD Tryz.func298
theorem Oc:PL 212:=dD Tryz.func212
theorem abL:PL 299:=dD Tryz.func299
theorem abM:PL 213:=dD Tryz.func213
theorem abN:PL 300:=dD Tryz.func300
end Go.Proofs.YtdncbeepkacgbaaGreatDoor
namespace Go.Proofs.YtdncbeepkacgbaaGreatDoor
open Go.Fw
variable (w:World) (K:Value->hU)
theorem abO:PL 370:=dD Tryz.func370
theorem abP:PL 362:=dD Tryz.func362
end Go.Proofs.YtdncbeepkacgbaaGreatDoor
namespace Go.Proofs.YtdncbeepkacgbaaGreatDoor
open Go.Fw
structure K15 where
instance:Flat K15 where
 agg:=true
 sz:=15
 enc _:=Wp.map uH
 val _:=.agg (Wp.map uH).toArray
 pos:=ea
 len _:=rfl
 one a v h:=by grind[qD]
 lj _ _:=rfl
 lD h:=by cases h
def C370(w:World):CR 370 [] w (λv w'=>v=iS (⟨⟩:K15)/\Ext w w'):=by
 have u:=St.start w;refine eR Tryz.func370 ?_;exact aK u RS (λ_ _ u=>pop (v:=iS (⟨⟩:K15)) (by kernel_rfl) (aH (x:=(⟨⟩:K15)) u UC rfl rfl λ_ u=>aE (x:=(⟨⟩:K15)) UC u.At ⟨rfl,u.drop.aF⟩))
theorem C360(k:Int)(w:World):CR 360 [hZ k] w (λv w'=>v=.string (eZ k)/\Ext w w'):=by
 have u:=St.start w;refine eR Tryz.func360 ?_;refine⟨λB w'=>B=.bool (decide (k<0\/15<=k))/\w'=w,?_,?_⟩
 .exact aQ (aC (λc=>⟨vb (fY (.inl c)).symm,rfl⟩) λ_=>cJ ⟨vb (ga.2 bP),rfl⟩)
 rintro _ _ ⟨rfl,rfl⟩ _;refine aC (λ_=>⟨gl uH (by unfold eZ;rw[fh bP]),u.aF⟩) (λc=>aR abO u (C370 _) λ_ E u=>?_);obtain⟨n,rfl⟩:∃n:Nat,k=n:=⟨k.toNat,bP⟩;refine pop (v:=.string (eZ n)) ?_ ⟨rfl,u.aF⟩
 match n,c with
 | 0,_=>exact(by kernel_rfl:pr hM (oJ 419 (iS K15.mk) (hZ ((0:Nat):Int)))=some (.string (eZ ((0:Nat):Int))))
 | 1,_=>exact(by kernel_rfl:pr hM (oJ 419 (iS K15.mk) (hZ ((1:Nat):Int)))=some (.string (eZ ((1:Nat):Int))))
 | 2,_=>exact(by kernel_rfl:pr hM (oJ 419 (iS K15.mk) (hZ ((2:Nat):Int)))=some (.string (eZ ((2:Nat):Int))))
 | 3,_=>exact(by kernel_rfl:pr hM (oJ 419 (iS K15.mk) (hZ ((3:Nat):Int)))=some (.string (eZ ((3:Nat):Int))))
 | 4,_=>exact(by kernel_rfl:pr hM (oJ 419 (iS K15.mk) (hZ ((4:Nat):Int)))=some (.string (eZ ((4:Nat):Int))))
 | 5,_=>exact(by kernel_rfl:pr hM (oJ 419 (iS K15.mk) (hZ ((5:Nat):Int)))=some (.string (eZ ((5:Nat):Int))))
 | 6,_=>exact(by kernel_rfl:pr hM (oJ 419 (iS K15.mk) (hZ ((6:Nat):Int)))=some (.string (eZ ((6:Nat):Int))))
 | 7,_=>exact(by kernel_rfl:pr hM (oJ 419 (iS K15.mk) (hZ ((7:Nat):Int)))=some (.string (eZ ((7:Nat):Int))))
 | 8,_=>exact(by kernel_rfl:pr hM (oJ 419 (iS K15.mk) (hZ ((8:Nat):Int)))=some (.string (eZ ((8:Nat):Int))))
 | 9,_=>exact(by kernel_rfl:pr hM (oJ 419 (iS K15.mk) (hZ ((9:Nat):Int)))=some (.string (eZ ((9:Nat):Int))))
 | 10,_=>exact(by kernel_rfl:pr hM (oJ 419 (iS K15.mk) (hZ ((10:Nat):Int)))=some (.string (eZ ((10:Nat):Int))))
 | 11,_=>exact(by kernel_rfl:pr hM (oJ 419 (iS K15.mk) (hZ ((11:Nat):Int)))=some (.string (eZ ((11:Nat):Int))))
 | 12,_=>exact(by kernel_rfl:pr hM (oJ 419 (iS K15.mk) (hZ ((12:Nat):Int)))=some (.string (eZ ((12:Nat):Int))))
 | 13,_=>exact(by kernel_rfl:pr hM (oJ 419 (iS K15.mk) (hZ ((13:Nat):Int)))=some (.string (eZ ((13:Nat):Int))))
 | 14,_=>exact(by kernel_rfl:pr hM (oJ 419 (iS K15.mk) (hZ ((14:Nat):Int)))=some (.string (eZ ((14:Nat):Int))))
 | n+15,c=>exact absurd (.inr bP) c
def WC:List Nat:=[107,114,110,101,102]
def abQ(c:Nat):ByteArray:=⟨#[c.toUInt8]⟩
def C362(k:Int)(c:Nat)(hc:c∈WC)(w:World):CR 362 [.string (eZ k),.string (abQ c)] w (λv w'=>v=.bool (eg (eZ k) c)/\Ext w w'):=by
 have u:=St.start w;refine eR Tryz.func362 ?_;refine aR U5 u (C371 (eZ k) c.toUInt8 _) (λ_ B u=>cJ ?_);refine⟨vb ?_,u.aF⟩;have h1:=NQ (fK (eZ k)) c.toUInt8;have h2:c.toUInt8.toNat=c:=(by decide:∀c∈WC,c.toUInt8.toNat=c) c hc;unfold eg;rw[show(λb:UInt8=>decide ((b.toNat:Int)=(c:Int)))=λb=>decide (b=c.toUInt8)from funext λ_=>ga.2 ⟨λ_=>UInt8.toNat_inj.1 bP,λh=>by rw[h,h2]⟩];exact(zN.2 (decide_eq_true_iff.trans h1))
def C361(k:Int)(c b2:Nat)(w:World)(hc:Cell w b2 0 (.string (eZ k)))(B:c∈WC):CR 361 [.string (abQ c),.pointer (some ⟨b2,0,none⟩)] w (λv w'=>v=.bool (eg (eZ k) c)/\Ext w w'):=by
 have u:=St.start w;refine eR Tryz.func361 ?_;exact cD jZ (hc.ext u.aF) (aR abP u (C362 k c B _) λ_ _ u=>⟨rfl,u.aF⟩)
def C363(b:Bool)(s:ByteArray)(w:World):CR 363 [.bool b,.string s] w (λv w'=>v=.bool ((b&&fw s)||(!b&&decide (s=⟨#[]⟩)))/\Ext w w'):=by
 have u:=St.start w;refine eR Tryz.func363 ?_;refine⟨λB w'=>B=.bool ((b&&fw s)||(!b&&decide (s=⟨#[]⟩)))/\St w bF [] w',bD (λ_=>aR D9 u (C206 _ _) λ_ _ u=>bD (λ_=>⟨vb cR,u⟩) λ_=>bJ (bD (λ_=>fz ⟨vb cR,u⟩) λ_=>⟨vb cR,u⟩)) (λ_=>bJ (bD (λ_=>fz ⟨vb cR,u⟩) λ_=>⟨vb cR,u⟩)),?_⟩;rintro _ _ ⟨rfl,u⟩ _;exact⟨rfl,u.aF⟩
def C364(b:Bool)(lv:Value)(xs:List bI)(w:World)(B:dy (λ_=>True) w lv xs)(G:xs.length<=1048576):CR 364 [.bool b,lv] w (λv w'=>v=.bool ((b&&fJ xs)||(!b&&decide (xs.length=0)))/\Ext w w'):=by
 have u:=St.start w;refine eR Tryz.func364 ?_;refine⟨λE w'=>E=.bool ((b&&fJ xs)||(!b&&decide (xs.length=0)))/\St w bF [] w',bD (λ_=>aR IM u (C121 _ _ _ (B.ext u.aF) bP) λ_ _ u=>bD (λ_=>⟨vb cR,u⟩) λ_=>bJ (bD (λ_=>aI ju (B.ext u.aF) (aG ⟨vb cR,u⟩)) λ_=>⟨vb cR,u⟩)) (λ_=>bJ (bD (λ_=>aI ju (B.ext u.aF) (aG ⟨vb cR,u⟩)) λ_=>⟨vb cR,u⟩)),?_⟩;rintro _ _ ⟨rfl,u⟩ _;exact⟨rfl,u.aF⟩
theorem Ez{x:aZ}{u:Bool}(h:u=(if eg (eZ x.kind) 107=true then decide (1<=x.n/\x.n<=8)else decide (x.n=0))) :
  (!(decide (1<=x.kind/\x.kind<15/\0<=x.at_/\x.at_<=4000)&&u)||(!(eg (eZ x.kind) 114&&fw x.eO||!eg (eZ x.kind) 114&&decide (x.eO=⟨#[]⟩))||(!(eg (eZ x.kind) 110&&fw x.name||!eg (eZ x.kind) 110&&decide (x.name=⟨#[]⟩)) ||
  (!(eg (eZ x.kind) 101&&fJ x.e||!eg (eZ x.kind) 101&&decide (x.e.length=0))||!(eg (eZ x.kind) 102&&fJ x.f||!eg (eZ x.kind) 102&&decide (x.f.length=0)))))) = !oc x:=by
 subst h
 have E:fw x.eO=true->¬ x.eO=⟨#[]⟩:=λh e=>by rw[e]at h;exact absurd h ea
 have I:fw x.name=true->¬ x.name=⟨#[]⟩:=λh e=>by rw[e]at h;exact absurd h ea
 have G:fJ x.e=true->¬ x.e.length=0:=λh e=>by rw[pP.1 e]at h;exact absurd h ea
 have B:fJ x.f=true->¬ x.f.length=0:=λh e=>by rw[pP.1 e]at h;exact absurd h ea
 unfold oc
 cases h1:eg (eZ x.kind) 114<;>cases h2:eg (eZ x.kind) 110<;>cases h3:eg (eZ x.kind) 101<;>cases h4:eg (eZ x.kind) 102<;>cases h5:eg (eZ x.kind) 107<;>simp<;>grind
def C347(x:aZ)(xv:aT)(w:World)(hx:l3 w xv x)(J:x.e.length<=1048576)(hf0:x.f.length<=1048576):CR 347 [iS xv] w (λv w'=>v=.bool (!oc x)/\Ext w w'):=by
 obtain⟨Od,M,rfl,U,O⟩:=hx;have u:=St.start w;refine qg Tryz.func347 (pl:=ahb) ?_;refine cE u (λW _ u=>aA ft (aB (v:=hZ x.kind) bL u.hb rfl (aR abw u (C360 _ _) λ_ B u=>fo u UA rfl λE _ u=>aO u jZ (dQ rfl) (rfl) λ_ u=>aA lX (aB (v:=hZ x.n) bL u.p1.hb rfl (aG ⟨λG w'=>G=.bool (if eg (eZ x.kind) 107=true then decide (1<=x.n/\x.n<=8)else decide (x.n=0))/\St w bF [bM E [.string (eZ x.kind)],bM W (jn (⟨x.kind,x.eO,x.name,Od,M,x.n,x.body,x.eG,x.at_⟩:aT))] w',?_,?_⟩)))))
 .refine fj Ey (C361 x.kind 107 E _ (u.hb.cell rfl) ea) ?_;rintro _ _ ⟨rfl,B⟩;have u:=u.ext B;exact bD (λ_=>aA lX (aB (v:=hZ x.n) bL u.p1.hb rfl (cJ (aC (λ_=>aA lX (aB (v:=hZ x.n) bL u.p1.hb rfl (gL ⟨vb cR,u⟩))) λ_=>⟨vb cR,u⟩)))) (λ_=>⟨vb cR,u⟩)
 rintro _ _ ⟨rfl,u⟩ _;refine⟨λG w'=>G=.bool (decide (1<=x.kind/\x.kind<15/\0<=x.at_/\x.at_<=4000)&&(if eg (eZ x.kind) 107=true then decide (1<=x.n/\x.n<=8)else decide (x.n=0)))/\St w bF [bM E [.string (eZ x.kind)],bM W (jn (⟨x.kind,x.eO,x.name,Od,M,x.n,x.body,x.eG,x.at_⟩:aT))] w',?_,?_⟩
 .refine aA ft (aB (v:=hZ x.kind) bL u.p1.hb rfl (cJ ?_));exact aC (λ_=>aA ft (aB (v:=hZ x.kind) bL u.p1.hb rfl (aQ (aC (λ_=>aA qX (aB (v:=hZ x.at_) bL u.p1.hb rfl (cJ (aC (λ_=>aA qX (aB (v:=hZ x.at_) bL u.p1.hb rfl (gL (aC (λ_=>⟨vb cR,u⟩) λ_=>⟨vb cR,u⟩)))) λ_=>⟨vb cR,u⟩)))) λ_=>⟨vb cR,u⟩)))) (λ_=>⟨vb cR,u⟩)
 rintro _ _ ⟨rfl,u⟩ _;refine⟨λG w'=>G=.bool (!oc x)/\St w bF [bM E [.string (eZ x.kind)],bM W (jn (⟨x.kind,x.eO,x.name,Od,M,x.n,x.body,x.eG,x.at_⟩:aT))] w',bJ (bD (λ_=>have u:=u.drew;⟨vb (by rw[<- Ez rfl];grind),u⟩) λIV=>?_),?_⟩
 .refine aA kL (have u:=u.drew;aB (v:=.string x.eO) jZ u.p1.hb rfl (fj Ey (C361 x.kind 114 E _ (u.hb.cell rfl) ea) ?_));rintro _ _ ⟨rfl,B⟩;have u:=u.ext B;refine⟨aX jZ (u.p1.hb.cell rfl),?_⟩;refine fj Vb (C363 _ x.eO _) ?_;rintro _ _ ⟨rfl,B⟩;have u:=u.ext B;refine bJ (bD (λ_=>⟨vb (by rw[<- Ez rfl];grind),u⟩) λZ=>aA jS (aB (v:=.string x.name) jZ u.p1.hb rfl (fj Ey (C361 x.kind 110 E _ (u.hb.cell rfl) ea) ?_)));rintro _ _ ⟨rfl,B⟩;have u:=u.ext B;refine⟨aX jZ (u.p1.hb.cell rfl),?_⟩;refine fj Vb (C363 _ x.name _) ?_
  rintro _ _ ⟨rfl,B⟩;have u:=u.ext B;refine bJ (bD (λ_=>⟨vb (by rw[<- Ez rfl];grind),u⟩) λY=>aA kM (aB lF u.p1.hb rfl ?_));have I:=DL.flat U;refine fj Ey (C361 x.kind 101 E _ (u.hb.cell rfl) ea) ?_;rintro _ _ ⟨rfl,B⟩;have u:=u.ext B;refine⟨aX lF (u.p1.hb.cell rfl),?_⟩;refine fj Vc (C364 _ _ x.e _ (I.ext u.aF) J) ?_;rintro _ _ ⟨rfl,B⟩;have u:=u.ext B;refine bJ (bD (λ_=>⟨vb (by rw[<- Ez rfl];grind),u⟩) λV=>aA qW (aB lF u.p1.hb rfl ?_));have hf2:=DL.flat O;refine fj Ey (C361 x.kind 102 E _ (u.hb.cell rfl) ea) ?_
  rintro _ _ ⟨rfl,B⟩;have u:=u.ext B;refine⟨aX lF (u.p1.hb.cell rfl),?_⟩;refine fj Vc (C364 _ _ x.f _ (hf2.ext u.aF) hf0) ?_;rintro _ _ ⟨rfl,B⟩;have u:=u.ext B;exact bJ ⟨vb (by rw[<- Ez rfl];grind),u⟩
 rintro _ _ ⟨rfl,u⟩ _;exact⟨rfl,u.drop.drop.aF⟩
structure abU(x:aZ):Prop where
 kind:1<=x.kind/\x.kind<=14
 at0:0<=x.at_/\x.at_<=4000
 e:(eg (eZ x.kind) 101=true/\fJ x.e=true)\/(eg (eZ x.kind) 101=false/\x.e=[])
 f:(eg (eZ x.kind) 102=true/\fJ x.f=true)\/(eg (eZ x.kind) 102=false/\x.f=[])
 eO:(eg (eZ x.kind) 114=true/\fw x.eO=true)\/(eg (eZ x.kind) 114=false/\x.eO=⟨#[]⟩)
 name:(eg (eZ x.kind) 110=true/\fw x.name=true)\/(eg (eZ x.kind) 110=false/\x.name=⟨#[]⟩)
 n:(eg (eZ x.kind) 107=true/\1<=x.n/\x.n<=8)\/(eg (eZ x.kind) 107=false/\x.n=0)
def vV{x:aZ}(h:oc x=true):abU x:=by
 unfold oc at h
 simp only[nu,pw,Bool.or_eq_false_iff,decide_eq_false_iff_not,bne_eq_false_iff_eq,Bool.and_eq_false_iff,Bool.not_eq_false',BL]at h
 obtain⟨⟨⟨h1,h2⟩,h3⟩,h4⟩:=h
 constructor
 .omega
 .omega
 .grind
 .grind
 .grind
 .grind
 grind
theorem WD:eg (eZ 12) 107=true:=ea
theorem me{l:List aZ}(h:pQ l=true):l.length<=40/\(∀x∈l,oc x=true)/\∃t:Bk,l=t.flat/\t.str/\t.ok 0=true/\t.depth<=12:=by
 unfold pQ at h
 simp only[nu,decide_eq_true_eq,pw]at h
 obtain⟨⟨h1,h2⟩,h3⟩:=h
 rw[E7]at h2
 refine⟨h1,λx E=>cR,?_⟩
 unfold eY at h3
 cases hb:nT l with
 | none=>grind
 | some t=>
  rw[hb]at h3
  obtain⟨u,B⟩:=j8 hb
  grind
structure PF(p:bQ):Prop where
 lines:∀l∈p.lines,l≠[]/\∀c∈l,kU 4294967296 c=false
 iJ:∀c∈p.iJ,kU 4294967296 c=false
 eV:∀c∈p.eV,kU 0 c=false
 th:∀t∈p.threads,ma true t=false
 rc:∀t∈p.recover,ma false t=false
 cl:∀c∈p.ef,0<=c.at_/\fJ c.e=true
 one:p.recover.length<=1
def oe{p:bQ}(h:jI p=true):PF p:=by
 unfold jI oH uU at h
 simp only[nu,pw,E7,decide_eq_true_eq]at h
 obtain⟨⟨h1,h2⟩,⟨⟨h3,h4⟩,h5⟩,h6⟩:=h
 refine⟨λl u=>?_,λc hc=>cR,λc hc=>cR,λt ht=>cR,λt ht=>cR,λc hc=>?_,h6⟩
 .have:=h1 l u
  unfold od oH at this
  grind
 have:=h2 c hc
 unfold mc pR at this
 grind
def yV{nb:Bool}{t:bW}(h:ma nb t=false):0<=t.at_/\pQ t.body=true/\(∀s∈t.dJ,fw s=true)/\fw t.name=nb:=by
 unfold ma B4 pR at h
 grind
def g9(p:bQ):List bW:=p.threads++p.recover
def PF.sj{p:bQ}(h:PF p){t:bW}(ht:t∈g9 p):0<=t.at_/\pQ t.body=true/\∀s∈t.dJ,fw s=true:=by
 unfold g9 at ht
 rcases pI.1 ht with ht|ht
 .have:=yV (h.th t ht);grind
 have:=yV (h.rc t ht);grind
def fM(p:bQ):List Int:=(jb p).map bO.n
def ee(p:bQ):Int:=(p.lines.flatten.length:Int)
def cX(p:bQ):List ByteArray:=(jb p).map bO.name
def cS(p:bQ):List ByteArray:=p.eV.map bO.name
def iE:List (List bO)->Int->Int->Int
 | [],i,a=>i+a
 | l::r,i,a=>if a<l.length then i else iE r (i+1) (a-l.length)
def po(p:bQ)(c:Int):Int:=if c<0\/(jb p).length<=c then -1 else iE p.lines 0 c
def qo(l:List bI)(ns:List ByteArray):Bool:=l.any λx=>decide (x.op=2)&&decide (cT ns x.name<0)
def pq(x:aZ)(n:Int):Int:=if x.kind=12 then n*x.n else n
def kV:Bk->Int->Bool
 | .nil,_=>false
 | .cons x a b r,n=>decide (64<pq x n)||(kV a (pq x n)||kV b (pq x n))||kV r n
def Bk.app:Bk->Bk->Bk
 | .nil,t=>t
 | .cons x a b r,t=>.cons x a b (r.app t)
theorem Bk.yW(a b:Bk):(a.app b).flat=a.flat++b.flat:=by
 induction a with
 | nil=>rfl
 | cons x c d r _ _ u=>grind[flat,app]
theorem Bk.So{a b:Bk}(B:a.str)(hb:b.str):(a.app b).str:=by
 induction a with
 | nil=>exact hb
 | cons x c d r _ _ u=>
  grind[str,app]
theorem KO(a b:Bk)(n:Int):kV (a.app b) n=(kV a n||kV b n):=by
 induction a with
 | nil=>simp[Bk.app,kV]
 | cons x c d r _ _ u=>simp only[Bk.app,kV,u,Bool.or_assoc]
def og(l:List aZ):Bool:=match nT l with|some t=>kV t 1|none=>false
theorem yX{t:Bk}(h:t.str):og t.flat=kV t 1:=by unfold og;rw[mU h]
def hG(p:bQ):List bO:=jb p++p.eV++p.threads.map (λt=>⟨t.name,0,t.at_⟩)
def Cc(l:List bO)(j:Nat):Bool:=match l[j]? with|some c=>decide (cT (l.map bO.name) c.name<j)|none=>false
def jo(l:List bO):Bool:=(tL l.length).any (Cc l)
def Of(p:bQ)(u:List ByteArray)(j:Nat):Bool:=match u[j]? with|some s=>decide (cT u s<j)||decide (0<=cT (cX p) s)||decide (0<=cT (cS p) s)|none=>false
def sB(p:bQ)(u:List ByteArray):Bool:=(tL u.length).any (Of p u)
def qp(p:bQ)(u:List ByteArray)(x:aZ):Bool:=
 (decide (¬ x.eO=⟨#[]⟩)&&decide (cT u x.eO<0)) ||
 ((decide (x.kind=2)||decide (x.kind=3)||decide (x.kind=4))&&decide (cT (cX p) x.name<0)) ||
 ((decide (x.kind=5)||decide (x.kind=6))&&(decide (cT (cX p) x.name<0)||decide (ee p<=cT (cX p) x.name))) ||
 ((decide (x.kind=9)||decide (x.kind=10))&&decide (cT (cS p) x.name<0))||qo x.e u||qo x.f u
def sC(p:bQ):Bool:=p.lines.any (λl=>decide (4<(l.length:Int)))||(g9 p).any (λt=>decide (4<(t.dJ.length:Int))) ||
 (decide (4<(p.lines.length:Int))||decide (4<(p.iJ.length:Int))||decide (2<(p.eV.length:Int))||decide ((p.threads.length:Int)<1)||decide (3<(p.threads.length:Int))||decide (4<(p.ef.length:Int)))
def fP(p:bQ):List ByteArray:=(cX p).take (ee p).toNat
def eI(p:bQ):Int:=
 if jI p=false then 8 else if sC p=true then 2 else if (g9 p).any (λt=>og t.body)=true then 11 else if jo (hG p)=true then 10
 else if (g9 p).any (λt=>sB p t.dJ)=true then 10 else if (g9 p).any (λt=>t.body.any (qp p t.dJ))=true then 9
 else if p.ef.any (λc=>qo c.e (fP p))=true then 9 else 0
def GI{x:aZ}(h:oc x=true):0<=x.at_/\(x.kind=12->1<=x.n/\x.n<=8):=by
 have h:=vV h
 refine⟨h.at0.1,λu=>?_⟩
 rcases h.n with h|h
 .exact h.2
 rw[u,WD]at h;grind
section
variable {p:bQ}
theorem ce8(h1:jI p=false):eI p=8:=by unfold eI;grind
theorem ce2(h1:jI p=true)(h2:sC p=true):eI p=2:=by grind[eI]
theorem ahe(h1:jI p=true)(h2:sC p=false)(h3:(g9 p).any (λt=>og t.body)=true):eI p=11:=by grind[eI]
theorem ahf(h1:jI p=true)(h2:sC p=false)(h3:(g9 p).any (λt=>og t.body)=false)(h4:jo (hG p)=true):eI p=10:=by
 grind[eI]
theorem abV(h1:jI p=true)(h2:sC p=false)(h3:(g9 p).any (λt=>og t.body)=false)(h4:jo (hG p)=false)(h5:(g9 p).any (λt=>sB p t.dJ)=true):eI p=10:=by
 grind[eI]
theorem ce9(h1:jI p=true)(h2:sC p=false)(h3:(g9 p).any (λt=>og t.body)=false)(h4:jo (hG p)=false)(h5:(g9 p).any (λt=>sB p t.dJ)=false)
  (h6:(g9 p).any (λt=>t.body.any (qp p t.dJ))=true):eI p=9:=by
 grind[eI]
theorem ahg(h1:jI p=true)(h2:sC p=false)(h3:(g9 p).any (λt=>og t.body)=false)(h4:jo (hG p)=false)(h5:(g9 p).any (λt=>sB p t.dJ)=false)
  (h6:(g9 p).any (λt=>t.body.any (qp p t.dJ))=false) (u:p.ef.any (λc=>qo c.e (fP p))=true):eI p=9:=by
 grind[eI]
theorem ce0(h1:jI p=true)(h2:sC p=false)(h3:(g9 p).any (λt=>og t.body)=false)(h4:jo (hG p)=false)(h5:(g9 p).any (λt=>sB p t.dJ)=false)
  (h6:(g9 p).any (λt=>t.body.any (qp p t.dJ))=false) (u:p.ef.any (λc=>qo c.e (fP p))=false):eI p=0:=by
 grind[eI]
theorem GJ(u:PS p):(cX p).length<=250500:=by unfold cX;rw[nP];exact rh u
theorem IW(u:PS p):(g9 p).length<=1000:=by
 have:=u.threads
 have:=u.recover
 grind[g9]
theorem PZ.sj(u:PZ p){t:bW}(ht:t∈g9 p):Q3 t/\t.dJ.length<=500/\t.body.length<=500:=by
 refine⟨?_,u.dJ t ht,u.body t ht⟩
 rcases pI.1 ht with h|h
 .exact u.zt t h
 exact u.zr t h
end
def WE{x:aZ}{n m:Int}(u:1<=n/\n<=64)(h:x.kind=12->1<=x.n/\x.n<=8)(B:m=pq x n):1<=m/\m<=512:=by
 rw[B];unfold pq
 split
 .rename_i hk
  have:=h hk
  have h1:=IG (a:=1) (b:=1) u.1 this.1 bP bP
  have h2:=IG (c:=64) (d:=8) u.2 this.2 bP bP
  omega
 omega
theorem Bk.IX{t:Bk}(h:¬ (t.flat.length:Int)=0):∃x a b r,t=.cons x a b r:=by
 cases t with
 | nil=>exact absurd rfl h
 | cons x a b r=>grind
def Bk.Dl{x:aZ}{a b r:Bk}(h:(Bk.cons x a b r).str){hi lo:Int}(h1:hi=1+x.body+x.eG)(h2:lo=1):((Bk.cons x a b r).flat.take hi.toNat).drop lo.toNat=(a.app b).flat:=by
 obtain⟨B,E,_⟩:=h
 have u:=a.cM
 have lb:=b.cM
 rw[Bk.yW,ti _ (a:=1) (n:=(a.flat++b.flat).length) cR bP]
 grind[flat]
theorem Bk.abW{x:aZ}{a b r:Bk}(h:(Bk.cons x a b r).str){hi:Int}(h1:hi=1+x.body+x.eG):(Bk.cons x a b r).flat.drop hi.toNat=r.flat:=by
 obtain⟨B,E,_⟩:=h
 have u:=a.cM
 have lb:=b.cM
 have e:(Bk.cons x a b r).flat=(x::(a.flat++b.flat))++r.flat:=by simp[Bk.flat]
 rw[e,show hi.toNat=(x::(a.flat++b.flat)).length from by simp;omega,List.drop_left]
theorem AU{l:List bO}{k:Nat}{c:bO}(h:l[k]?=some c):Cc l k=decide (cT (l.map bO.name) c.name<k):=by unfold Cc;rw[h]
theorem Cd{p:bQ}{l:List ByteArray}{k:Nat}{c:ByteArray}(h:l[k]?=some c):Of p l k=(decide (cT l c<k)||decide (0<=cT (cX p) c)||decide (0<=cT (cS p) c)):=by unfold Of;rw[h]
theorem IY(a b:Bk):(a.app b).len=a.len+b.len:=by rw[<- Bk.cM,Bk.yW,kE,Bk.cM,Bk.cM]
theorem Bk.abX{x:aZ}{a b r:Bk}(h:(Bk.cons x a b r).str){hi lo:Int}(h1:hi=1+x.body)(h2:lo=1):((Bk.cons x a b r).flat.take hi.toNat).drop lo.toNat=a.flat:=by
 obtain⟨B,E,_⟩:=h
 have u:=a.cM
 rw[ti _ (a:=1) (n:=a.flat.length) bP bP]
 grind[flat]
theorem Bk.abY{x:aZ}{a b r:Bk}(h:(Bk.cons x a b r).str){hi lo:Int}(h1:hi=1+x.body+x.eG)(h2:lo=1+x.body):((Bk.cons x a b r).flat.take hi.toNat).drop lo.toNat=b.flat:=by
 obtain⟨B,E,_⟩:=h
 have u:=a.cM
 have lb:=b.cM
 rw[ti _ (a:=1+a.flat.length) (n:=b.flat.length) bP bP]
 grind[flat]
def sR:Bk->Int
 | .nil=>0
 | .cons x a b r=>(if x.kind=12 then 2+sR a else if x.kind=11 then(if 0<x.eG then 1+sR a+sR b+1 else 1+sR a+sR b)else 1)+sR r
def toT(x:aZ)(a:Bk)(at_:Int):Int:=if 0<x.eG then at_+1+sR a+1 else at_+1+sR a
def nt(s:ByteArray):ByteArray:=s.extract 0 (min (s.size:Int) 40).toNat
def lH(s:ByteArray):(nt s).size<=40:=by
 unfold nt
 rw[Va];omega
def ahh(x:bI):bI:={x with name:=nt x.name}
def Ce(l:List bI):List bI:=(l.take 60).map ahh
def abZ(x:aZ):aZ:=⟨x.kind,nt x.eO,nt x.name,Ce x.e,Ce x.f,x.n,x.body,x.eG,x.at_⟩
def Og(l:List aZ):List aZ:=(l.take 50).map abZ
def ahi(c:bO):bO:={c with name:=nt c.name}
def rz(l:List bO):List bO:=(l.take 8).map ahi
def Vf(t:bW):bW:=⟨nt t.name,(t.dJ.take 6).map nt,Og t.body,t.at_⟩
def tn(l:List bW):List bW:=(l.take 4).map Vf
def Oh(c:gH):gH:=⟨Ce c.e,c.at_⟩
def KP(p:bQ):bQ:=⟨(p.lines.take 6).map rz,rz p.iJ,rz p.eV,tn p.threads,tn p.recover,(p.ef.take 6).map Oh⟩
def yY(l:List bI):(Ce l).length<=60:=by grind[Ce]
def Cf(l:List bI):∀y∈Ce l,y.name.size<=1048576:=by
 intro y u
 obtain⟨x,_,rfl⟩:=n0.1 u
 have:=lH x.name
 show(nt x.name).size<=_
 omega
def yZ(l:List bO):∀y∈rz l,y.name.size<=1048576:=by
 intro y u
 obtain⟨x,_,rfl⟩:=n0.1 u
 have:=lH x.name
 show(nt x.name).size<=_
 omega
def vW(l:List bO):(rz l).length<=8:=by grind[rz]
def Oi(l:List aZ):(Og l).length<=50:=by grind[Og]
def y7(l:List bW):(tn l).length<=4:=by grind[tn]
def Sp(l:List aZ):∀y∈Og l,SzS y:=by
 intro y u
 obtain⟨x,_,rfl⟩:=n0.1 u
 have h1:=lH x.eO
 have h2:=lH x.name
 have h3:=yY x.e
 have h4:=yY x.f
 exact⟨by show(nt x.eO).size<=_;omega,by show(nt x.name).size<=_;omega,by show(Ce x.e).length<=_;omega,by show(Ce x.f).length<=_;omega,Cf _,Cf _⟩
def GK(t:bW):(Vf t).dJ.length<=6:=by show((t.dJ.take 6).map nt).length<=6;grind
def AV(l:List bW):∀y∈tn l,Q3 y/\y.dJ.length<=500/\y.body.length<=500:=by
 intro y u
 obtain⟨x,_,rfl⟩:=n0.1 u
 have h1:=lH x.name
 have h2:=GK x
 have h3:=Oi x.body
 refine⟨⟨by show(nt x.name).size<=_;omega,λs B=>?_,Sp _⟩,bP,by show(Og x.body).length<=_;omega⟩
 obtain⟨z,_,rfl⟩:=n0.1 (show s∈(x.dJ.take 6).map nt from B)
 have:=lH z
 omega
def Sq(p:bQ):PZ (KP p):=by
 have u:(KP p).lines.length<=6:=by show((p.lines.take 6).map rz).length<=6;grind
 have hc:(KP p).ef.length<=6:=by show((p.ef.take 6).map Oh).length<=6;grind
 have h1:=vW p.iJ
 have h2:=vW p.eV
 have h3:=y7 p.threads
 have h4:=y7 p.recover
 have WG:∀t∈(KP p).threads++(KP p).recover,Q3 t/\t.dJ.length<=500/\t.body.length<=500:=by
  intro t ht
  rcases pI.1 ht with h|h
  .exact AV _ t h
  .exact AV _ t h
 refine {lines:=by omega,line:=λl h=>?_,iJ:=by show(rz p.iJ).length<=500;omega,eV:=by show(rz p.eV).length<=500;omega,threads:=by show(tn p.threads).length<=500;omega,recover:=by show(tn p.recover).length<=500;omega,ef:=by omega,dJ:=λt ht=>(WG t ht).2.1,body:=λt ht=>(WG t ht).2.2,zl:=λl h c hc=>?_,zv:=yZ _,zk:=yZ _,zt:=λt ht=>(WG t (List.mem_append_left _ ht)).1,zr:=λt ht=>(WG t (List.mem_append_right _ ht)).1,zc:=λc h=>?_}
 .obtain⟨x,_,rfl⟩:=n0.1 (show l∈(p.lines.take 6).map rz from h)
  have:=vW x;omega
 .obtain⟨x,_,rfl⟩:=n0.1 (show l∈(p.lines.take 6).map rz from h)
  exact yZ x c hc
 obtain⟨x,_,rfl⟩:=n0.1 (show c∈(p.ef.take 6).map Oh from h)
 have:=yY x.e
 exact⟨by show(Ce x.e).length<=_;omega,Cf _⟩
def uY(l:List Int)(i:Nat):Int:=if i=0 then 0 else l.getD (i-1) 0+1
theorem Oj(x:aZ)(loops:Int):loops+DZ (decide (x.kind=12))=Bk.IL x loops:=by
 unfold Bk.IL DZ
 grind
def ab0(b:Bool):0<=DZ b/\DZ b<=1:=by cases b<;>decide
def C359(O fv:Value)(xs:List aZ)(φ:aZ->Prop)(g:aZ->Bool)(w:World)(hL:DL w O xs)(hf:n7 hM w fv φ g)(W:∀x∈xs,φ x)(hn:xs.length<=1073741824):CR 359 [O,fv] w (λv w'=>v=hZ (pf g xs)/\Ext w w'):=by
 obtain⟨g0,first,cap,rfl,mI,Z⟩:=hf;have u:=St.start w;refine eR Tryz.func359 ?_;obtain⟨Y,M,J⟩:=hL.open;have Sr:=J.1;refine aI fT (M.ext u.aF) ?_;refine⟨λm x G=>∃k:Nat,x=hZ (k:Int)/\m=xs.length-k/\k<=xs.length/\(∀y∈xs.take k,g y=false)/\St w bF [] G,⟨_,0,rfl,rfl,mj _,ew,u⟩,?_⟩;rintro m _ G ⟨k,rfl,rfl,hk,B,u⟩ _;refine aQ (aC (λj6=>?_) λ_=>⟨gl (mf .i64) (gn (by rw[kO bP]at B;exact B)).symm,u.aF⟩);obtain⟨iR,U⟩:=gx Y (i:=(k:Int).toNat) bP;obtain⟨sS,E⟩:=gx xs (i:=(k:Int).toNat) bP
 obtain⟨Cg,Ss,rfl,Ch,Su⟩:=J.2 _ _ _ U E;refine aY fT M bP U (λ_ V=>aE ek (V.ext u.aF) (fj mI (Z _ sS G u.aF ⟨Cg,Ss,rfl,(Ch.ext u.aF),(Su.ext u.aF)⟩ (W _ (l0 E))) ?_));rintro _ _ ⟨rfl,he⟩;have u:=u.ext he;exact bD (λI=>⟨gl (mf .i64) (jy B E I).symm,u.aF⟩) (λI=>aM bP ⟨_,bP,k+1,rfl,rfl,bP,eC B E I,u⟩)
def C346(B fv:Value)(xs:List aZ)(φ:aZ->Prop)(g:aZ->Bool)(w:World)(I:DL w B xs)(G:n7 hM w fv φ g)(E:∀x∈xs,φ x)(J:xs.length<=1073741824):CR 346 [B,fv] w (λv w'=>v=.bool (xs.any g)/\Ext w w'):=by
 have u:=St.start w;refine eR Tryz.func346 ?_;exact aR abH u (C359 _ _ _ _ _ _ (I.ext u.aF) (G.ext u.aF) E bP) (λ_ _ u=>cJ ⟨vb (iv _ _),u.aF⟩)
theorem C348(lv:Value)(xs:List aZ)(loops:Int)(N:Nat)(w:World)(hL:DL w lv xs)(hn:xs.length<=40)(hlo:0<=loops)(Vg:loops+N<=4194304)(hN:xs.length<N):CR 348 [lv,hZ loops] w (λv w'=>v=hZ (eY xs loops)/\Ext w w'):=by
 have E:=St.start w;refine Sn _ _ _ _ ?_;unfold S348;refine⟨λm y x w1=>∃(k:Nat) (n:Int),y=hZ n/\x=hZ (k:Int)/\m=xs.length-k/\k<=xs.length/\0<=n/\n<=41/\eY xs loops=rp n (eY (xs.drop k) loops)/\St w bF [] w1,⟨_,0,0,rfl,rfl,rfl,bP,bP,bP,by have:=uS xs loops;rw[UL];unfold rp;split<;>omega,E⟩,?_⟩;rintro m _ _ w1 ⟨k,n,rfl,rfl,rfl,hk,Sk,Vh,hinv,E⟩ _;obtain⟨vu,I,Q5⟩:=hL.open;have hn4:=Q5.1;refine aI fT (I.ext E.aF) (aQ (aC (λcW=>?_) λcW=>?_))
 .obtain⟨Vi,oK⟩:=gx vu (i:=(k:Int).toNat) bP;obtain⟨u,vX⟩:=gx xs (i:=(k:Int).toNat) bP;obtain⟨O,J,rfl,ae2,ae3⟩:=Q5.2 _ _ _ oK vX;refine aY fT I bP oK (λ_ rj=>?_);have hdk:=drop_cons (xs:=xs) (k:=k) vX;rw[hdk]at hinv;have Zr:(xs.drop (k+1)).length=xs.length-(k+1):=oC;refine aE ek (rj.ext E.aF) (aK E jw λY _ E=>have E:=E.enc (cs':=jn (⟨0,(ia #[]),(ia #[]),bY,bY,0,0,0,0⟩:aT)) rfl;aH (x:=(⟨u.kind,u.eO,u.name,O,J,u.n,u.body,u.eG,u.at_⟩:aT)) E ek rfl rfl λ_ E=>aM bP (aA jT (aB (v:=hZ u.body) bL E.hb rfl (uD ?_))))
  obtain⟨W1,U⟩:∃W,W=xm (((k:Int)+1)+u.body):=⟨_,rfl⟩;rw[<- U];refine aA lY (aB (v:=hZ u.eG) bL E.hb rfl (uD ?_));obtain⟨M,V⟩:∃W,W=xm (W1+u.eG):=⟨_,rfl⟩;rw[<- V];refine⟨λG w'=>G=.bool (Bk.vR u)/\St w bF [bM Y (jn (⟨u.kind,u.eO,u.name,O,J,u.n,u.body,u.eG,u.at_⟩:aT))] w',aA ft (aB (v:=hZ u.kind) bL E.hb rfl (aG (aC (λ_=>⟨vb (by unfold Bk.vR;grind),E⟩) λ_=>aA ft (aB (v:=hZ u.kind) bL E.hb rfl (aG ⟨vb (by unfold Bk.vR;grind),E⟩))))),?_⟩
  rintro _ _ ⟨rfl,E⟩ _;refine⟨λG w'=>G=.bool (decide (u.body<0\/u.eG<0\/(xs.length:Int)<u.body\/(xs.length:Int)<u.eG\/(xs.length:Int)<M))/\St w bF [bM Y (jn (⟨u.kind,u.eO,u.name,O,J,u.n,u.body,u.eG,u.at_⟩:aT))] w',aA jT (aB (v:=hZ u.body) bL E.hb rfl (aQ (aC (λ_=>⟨vb cR,E⟩) λAW=>?_))),?_⟩
  .refine aA lY (aB (v:=hZ u.eG) bL E.hb rfl (aQ ?_));exact aC (λ_=>⟨vb cR,E⟩) (λ_=>aA jT (aB (v:=hZ u.body) bL E.hb rfl (aI fT (I.ext E.aF) (dL (aC (λ_=>⟨vb cR,E⟩) λ_=>aA lY (aB (v:=hZ u.eG) bL E.hb rfl (aI fT (I.ext E.aF) (dL (aC (λ_=>⟨vb cR,E⟩) λ_=>aI fT (I.ext E.aF) (dL ⟨vb cR,E⟩))))))))))
  rintro _ _ ⟨rfl,E⟩ _;refine bD (λuO=>?_) (λuO=>?_)
  .have hW:0<=u.body/\u.body<=40/\0<=u.eG/\u.eG<=40->M=(k:Int)+1+u.body+u.eG:=λh=>by
    have h1:W1=(k:Int)+1+u.body:=by rw[U];exact B2 bP
    rw[V,B2 bP];omega
   exact⟨gl (mf .i64) (NA hinv (by unfold uT;grind)).symm,E.drop.aF⟩
  have hq:=g7 uO
  have hW:M=(k:Int)+1+u.body+u.eG:=by
   have h1:W1=(k:Int)+1+u.body:=by rw[U];exact B2 bP
   rw[V,B2 bP];omega
  have my:uT u (xs.drop (k+1)):=by unfold uT;omega
  refine⟨λG w'=>G=.bool (!Bk.FH u loops)/\St w bF [bM Y (jn (⟨u.kind,u.eO,u.name,O,J,u.n,u.body,u.eG,u.at_⟩:aT))] w',⟨λG w'=>G=.bool (!Bk.vR u&&decide (0<u.body))/\St w bF [bM Y (jn (⟨u.kind,u.eO,u.name,O,J,u.n,u.body,u.eG,u.at_⟩:aT))] w',bJ (bD (λ_=>aA jT (aB (v:=hZ u.body) bL E.hb rfl (dL ⟨vb cR,E⟩))) λ_=>⟨vb cR,E⟩),?_⟩,?_⟩
  .rintro _ _ ⟨rfl,E⟩ _;refine bD (λ_=>⟨vb (by unfold Bk.FH;unfold Bk.vR at *;grind),E⟩) (λc_x66=>⟨λG w'=>G=.bool (decide (¬ u.kind=11/\0<u.eG))/\St w bF [bM Y (jn (⟨u.kind,u.eO,u.name,O,J,u.n,u.body,u.eG,u.at_⟩:aT))] w',aA ft (aB (v:=hZ u.kind) bL E.hb rfl (cB (aC (λ_=>aA lY (aB (v:=hZ u.eG) bL E.hb rfl (dL ⟨vb cR,E⟩))) λ_=>⟨vb cR,E⟩))),?_⟩);rintro _ _ ⟨rfl,E⟩ _;exact bD (λ_=>⟨vb (by unfold Bk.FH;unfold Bk.vR at *;grind),E⟩) (λ_=>aA ft (aB (v:=hZ u.kind) bL E.hb rfl (aG (aC (λ_=>aG ⟨vb (by unfold Bk.FH;unfold Bk.vR at *;grind),E⟩) λ_=>⟨vb (by unfold Bk.FH;unfold Bk.vR at *;grind),E⟩))))
  rintro _ _ ⟨rfl,E⟩ _;refine bD (λ_=>⟨gl (mf .i64) (NA hinv cR).symm,E.drop.aF⟩) (λae4=>?_);have qi:Bk.FH u loops=true:=cR
  have ahl:=my;unfold uT at ahl;refine⟨λG w'=>∃Z:Int,G=hZ Z/\0<=Z/\Z<=41/\eY xs loops=rp Z (eY (xs.drop (k+1+(u.body.toNat+u.eG.toNat))) loops)/\St w bF [bM Y (jn (⟨u.kind,u.eO,u.name,O,J,u.n,u.body,u.eG,u.at_⟩:aT))] w',bD (λvY=>?_) (λvY=>?_),?_⟩
  .have hb01:=Oj u loops;have hbb:=ab0 (decide (u.kind=12));have hcA:((xs.take (((k:Int)+1)+u.body).toNat).drop ((k:Int)+1).toNat)=(xs.drop (k+1)).take u.body.toNat:=ti xs bP bP;have hcB:((xs.take M.toNat).drop (((k:Int)+1)+u.body).toNat)=((xs.drop (k+1)).drop u.body.toNat).take u.eG.toNat:=by rw[q9];exact ti xs bP bP
   have hlA:((xs.take (((k:Int)+1)+u.body).toNat).drop ((k:Int)+1).toNat).length<=xs.length-1/\((xs.take (((k:Int)+1)+u.body).toNat).drop ((k:Int)+1).toNat).length<=40:=by rw[hcA,mg];omega
   have hlB:((xs.take M.toNat).drop (((k:Int)+1)+u.body).toNat).length<=xs.length-1/\((xs.take M.toNat).drop (((k:Int)+1)+u.body).toNat).length<=40:=by rw[hcB,mg,oC];omega
   refine aA ft (aB (v:=hZ u.kind) bL E.hb rfl (aG (aR MD E (C255 _ _) λ_ he E=>aM bP (aM bP (aM bP (aA jT (have E:=E.drew;aB (v:=hZ u.body) bL E.hb rfl (aM bP (vH fT (I.ext E.aF) bP bP bP λahm Sv=>?_)))))))));have Sw:=DL.cut Sv I Q5;refine aM bP (aA jT (aB (v:=hZ u.body) bL E.hb rfl (aM bP (vH fT (I.ext E.aF) bP bP bP λahn Sx=>?_))));have Sy:=DL.cut Sx I Q5
   refine aR N9 E (C348 _ _ _ (N-1) _ (Sw.ext E.aF) bP bP bP bP) (λ_ he E=>?_);refine⟨aX bL (E.hb.cell rfl),?_⟩;refine dW N9 (C348 _ _ _ (N-1) _ (Sy.ext E.aF) bP bP bP bP) ?_;rintro _ _ ⟨rfl,he⟩;have E:=E.ext he;obtain⟨A,hA⟩:∃A,A=eY ((xs.take (((k:Int)+1)+u.body).toNat).drop ((k:Int)+1).toNat) (Bk.IL u loops):=⟨_,rfl⟩;obtain⟨B,hB⟩:∃B,B=eY ((xs.take M.toNat).drop (((k:Int)+1)+u.body).toNat) (Bk.IL u loops):=⟨_,rfl⟩;have hAb:=uS ((xs.take (((k:Int)+1)+u.body).toNat).drop ((k:Int)+1).toNat) (Bk.IL u loops)
   have hBb:=uS ((xs.take M.toNat).drop (((k:Int)+1)+u.body).toNat) (Bk.IL u loops);rw[<- hA]at hAb;rw[<- hB]at hBb;rw[Oj,<- hA,<- hB];have Zn:=Wo hinv my qi vY A B (by rw[hA,hcA]) (by rw[hB,hcB]);refine⟨λG w'=>G=.bool (decide (A<0\/B<0))/\St w bF [bM Y (jn (⟨u.kind,u.eO,u.name,O,J,u.n,u.body,u.eG,u.at_⟩:aT))] w',aG (aC (λ_=>⟨vb cR,E⟩) λ_=>aG ⟨vb cR,E⟩),?_⟩;rintro _ _ ⟨rfl,E⟩ _;refine bD (λGM=>⟨gl (mf .i64) (Zn.1 (g6 GM)).symm,E.drop.aF⟩) (λGM=>aM bP (aM bP (Nj ?_)))
   have ab1:=Zn.2 (g7 GM);rw[q9,Vk 1 A,Vk 1 B]at ab1;exact⟨_,rfl,bP,bP,ab1,E⟩
  .have hdn:=aa1 hinv my qi vY;rw[q9]at hdn;exact⟨_,rfl,Sk,Vh,hdn,E⟩
  rintro _ _ ⟨Z,rfl,aho,ahp,ab2,E⟩ _;exact⟨_,bP,k+1+(u.body.toNat+u.eG.toNat),Z,rfl,gl (mf .i64) bP,rfl,bP,aho,ahp,ab2,E.drop⟩
 rw[ot bP,AO]at hinv;exact⟨gl (mf .i64) (by rw[hinv];unfold rp;omega),E.aF⟩
termination_by N
decreasing_by all_goals omega
theorem EB(xs:List aZ):pQ xs=(!(decide (40<xs.length)||xs.any λy=>!oc y)&&decide (¬ eY xs 0 = -1/\eY xs 0<=12)):=by
 have:=uS xs 0
 grind[pQ,oc,eY]
def C297(lv:Value)(xs:List aZ)(w:World)(J:DL w lv xs)(Z:xs.length<=1048576)(O:∀x∈xs,x.e.length<=1048576/\x.f.length<=1048576):CR 297 [lv] w (λv w'=>v=.bool (pQ xs)/\Ext w w'):=by
 have u:=St.start w;refine eR Tryz.func297 ?_;refine⟨λI w'=>I=.bool (decide (40<xs.length)||xs.any λy=>!oc y)/\St w bF [] w',?_,?_⟩
 .obtain⟨Vj,G,B⟩:=J.open;have xP:=B.1;exact aI fT (G.ext u.aF) (dL (aC (λ_=>⟨vb cR,u⟩) λ_=>aR abG u (C346 _ _ _ (λx=>x.e.length<=1048576/\x.f.length<=1048576) _ _ (J.ext u.aF) ⟨347,[],[],rfl,abx,λU y Y _ V M=>C347 y U Y V M.1 M.2⟩ O bP) λ_ _ u=>⟨vb cR,u⟩))
 rintro _ _ ⟨rfl,u⟩ _;refine bD (λE=>?_) (λE=>?_)
 .refine⟨vb ?_,u.aF⟩;rw[EB,E];rfl
 have W:xs.length<=40:=cR
 refine aR N9 u (C348 _ _ _ (xs.length+1) _ (J.ext u.aF) bP bP bP bP) (λ_ he u=>⟨λI w'=>I=.bool (decide (¬ eY xs 0 = -1/\eY xs 0<=12))/\St w bF [] w',cB (aC (λ_=>gL ⟨vb cR,u⟩) λ_=>⟨vb cR,u⟩),?_⟩);rintro _ _ ⟨rfl,u⟩ _;refine⟨vb ?_,u.aF⟩;rw[EB,E];rfl
def Ci(t:bW):Bool:=pR t.at_&&!t.dJ.any (λs=>!fw s)&&pQ t.body
theorem IZ(t:bW):(!fw t.name||!Ci t)=ma true t:=by
 unfold ma B4 Ci
 grind
theorem I0(t:bW):(decide (¬ t.name=⟨#[]⟩)||!Ci t)=ma false t:=by
 unfold ma B4 Ci
 by_cases h:t.name=⟨#[]⟩
 .rw[h,show fw (⟨#[]⟩:ByteArray)=false from ea]
  grind
 grind
theorem EC(p:bQ):(!(p.lines.any od||!oH 4294967296 p.iJ||!oH 0 p.eV||decide (1<p.recover.length))&&(!p.threads.any (ma true)&&!p.recover.any (ma false)&&!p.ef.any mc))=jI p:=by
 unfold jI uU
 grind
def SzS.ok{xs:List aZ}(h:∀x∈xs,SzS x):∀x∈xs,x.e.length<=1048576/\x.f.length<=1048576:=λx u=>⟨(h x u).2.2.1,(h x u).2.2.2.1⟩
def C210(n:Int)(w:World):CR 210 [hZ n] w (λv w'=>v=.bool (pR n)/\Ext w w'):=by
 have B:=St.start w;refine eR Tryz.func210 ?_;refine⟨λu w'=>u=.bool (decide (0<=n/\n<=4000))/\w=w',cJ (aC (λ_=>gL ⟨xh bP,rfl⟩) λ_=>⟨QY bP,rfl⟩),?_⟩;rintro _ _ ⟨rfl,E⟩ _;subst E;exact⟨rfl,B.aF⟩
def C290(c:bO)(b2:Nat)(E:Int)(w:World)(hc:Cell w b2 0 (hZ E)):CR 290 [iS c,.pointer (some ⟨b2,0,none⟩)] w (λv w'=>v=.bool (kU E c)/\Ext w w'):=by
 have u:=St.start w;refine eR Tryz.func290 ?_;refine cE u (λB _ u=>⟨λG w'=>G=.bool (kU E c)/\St w bF [bM B (jn c)] w',aA m8 (aB (v:=.string c.name) jZ u.hb rfl (aR D9 u (C206 _ _) λ_ J u=>bJ (bD (λ_=>⟨vb (by unfold kU;grind),u⟩) λI=>?_))),?_⟩)
 .exact aA uv (aB (v:=hZ c.n) bL u.hb rfl (aQ (aC (λ_=>⟨vb (by unfold kU;grind),u⟩) λ_=>aA uv (aB (v:=hZ c.n) bL u.hb rfl (cD bL (hc.ext u.aF) (dL (aC (λ_=>⟨vb (by unfold kU;grind),u⟩) λ_=>aA uw (aB (v:=hZ c.at_) bL u.hb rfl (aR Ob u (C210 _ _) λ_ _ u=>bJ ⟨vb (by unfold kU;grind),u⟩)))))))))
 rintro _ _ ⟨rfl,u⟩ _;exact⟨rfl,u.drop.aF⟩
def C344(J fv:Value)(xs:List bO)(g:bO->Bool)(w:World)(M:dy (λ_=>True) w J xs)(V:qF w fv g)(hn:xs.length<=1073741824):CR 344 [J,fv] w (λv w'=>v=hZ (pf g xs)/\Ext w w'):=by
 obtain⟨g0,first,cap,rfl,Y,O⟩:=V;have u:=St.start w;refine eR Tryz.func344 ?_;refine aI nQ (M.ext u.aF) ?_;refine⟨λm x G=>∃k:Nat,x=hZ (k:Int)/\m=xs.length-k/\k<=xs.length/\(∀y∈xs.take k,g y=false)/\St w bF [] G,⟨_,0,rfl,rfl,mj _,ew,u⟩,?_⟩;rintro m _ G ⟨k,rfl,rfl,hk,B,u⟩ _;refine aQ (aC (λj6=>?_) λ_=>⟨gl (mf .i64) (gn (by rw[kO bP]at B;exact B)).symm,u.aF⟩);obtain⟨W,E⟩:=gx xs (i:=(k:Int).toNat) bP;refine aY nQ M bP E (λ_ Z=>aE jQ (Z.ext u.aF) (fj Y (O W G u.aF) ?_))
 rintro _ _ ⟨rfl,U⟩;have u:=u.ext U;exact bD (λI=>⟨gl (mf .i64) (jy B E I).symm,u.aF⟩) (λI=>aM bP ⟨xs.length-(k+1),bP,k+1,rfl,rfl,bP,eC B E I,u⟩)
def C289(B fv:Value)(xs:List bO)(g:bO->Bool)(w:World)(G:dy (λ_=>True) w B xs)(E:qF w fv g)(I:xs.length<=1073741824):CR 289 [B,fv] w (λv w'=>v=.bool (xs.any g)/\Ext w w'):=by
 have u:=St.start w;refine eR Tryz.func289 ?_;exact aR abJ u (C344 _ _ _ _ _ (G.ext u.aF) (E.ext u.aF) bP) (λ_ _ u=>cJ ⟨vb (iv _ _),u.aF⟩)
def C204(lv:Value)(xs:List bO)(B:Int)(w:World)(M:dy (λ_=>True) w lv xs)(O:xs.length<=1048576):CR 204 [lv,hZ B] w (λv w'=>v=.bool (oH B xs)/\Ext w w'):=by
 have u:=St.start w;refine eR Tryz.func204 ?_;refine jP u rfl (λG I u=>?_)
 have E:qF _ (.func (.func 290) [].toArray [.pointer (some ⟨G,0,none⟩)].toArray) (kU B):=
  ⟨290,[],_,rfl,abE,λy I J=>C290 y G B I ((u.hb.cell rfl).ext J)⟩
 exact aR abI u (C289 _ _ _ _ _ (M.ext u.aF) E bP) (λ_ _ u=>bJ ⟨rfl,u.drop.aF⟩)
def C296(s:ByteArray)(w:World):CR 296 [.string s] w (λv w'=>v=.bool (!fw s)/\Ext w w'):=by
 have u:=St.start w;refine eR Tryz.func296 ?_;exact aR D9 u (C206 _ _) (λ_ _ u=>bJ ⟨rfl,u.aF⟩)
def C207(t:bW)(G:bU)(w:World)(ht:l3 w G t)(I:Q3 t/\t.dJ.length<=500/\t.body.length<=500):CR 207 [iS G] w (λv w'=>v=.bool (Ci t)/\Ext w w'):=by
 obtain⟨V,O,rfl,M,W⟩:=ht;have u:=St.start w;refine eR Tryz.func207 ?_;refine cE u (λJ E u=>⟨λU w'=>U=.bool (Ci t)/\St w bF [bM J (jn (⟨t.name,V,O,t.at_⟩:bU))] w',aA yt (aB (v:=hZ t.at_) bL u.hb rfl (aR Ob u (C210 _ _) λ_ Y u=>bD (λZ=>?_) λ_=>⟨vb (by unfold Ci;grind),u⟩)),?_⟩)
 .refine aA m6 (aB lT u.hb rfl ?_);have B:=DL.flat M;exact aR UX u (C124 _ _ _ (λs=>!fw s) _ (B.ext u.aF) ⟨296,[],[],rfl,abF,λy E _=>C296 y E⟩ bP) (λ_ _ u=>bJ (bD (λ_=>aA qQ (aB lV u.hb rfl (aR aby u (C297 _ _ _ (W.ext u.aF) bP (SzS.ok I.1.2.2)) λ_ _ u=>⟨vb (by unfold Ci;grind),u⟩))) λ_=>⟨vb (by unfold Ci;grind),u⟩))
 rintro _ _ ⟨rfl,u⟩ _;exact⟨rfl,u.drop.aF⟩
def C205(t:bW)(E:bU)(w:World)(ht:l3 w E t)(O:Q3 t/\t.dJ.length<=500/\t.body.length<=500):CR 205 [iS E] w (λv w'=>v=.bool (ma true t)/\Ext w w'):=by
 obtain⟨G,B,rfl,M,U⟩:=ht;have u:=St.start w;refine eR Tryz.func205 ?_;refine cE u (λI _ u=>⟨λJ w'=>J=.bool (ma true t)/\St w bF [bM I (jn (⟨t.name,G,B,t.at_⟩:bU))] w',aA yr (aB (v:=.string t.name) jZ u.hb rfl (aR D9 u (C206 _ _) λ_ _ u=>bJ (bD (λ_=>⟨vb (by rw[<- IZ];grind),u⟩) λ_=>aE lq u.At (aR Vd u (C207 t _ _ ⟨G,B,rfl,(M.ext u.aF),(U.ext u.aF)⟩ O) λ_ _ u=>bJ ⟨vb (by rw[<- IZ];grind),u⟩)))),?_⟩);rintro _ _ ⟨rfl,u⟩ _;exact⟨rfl,u.drop.aF⟩
def C208(t:bW)(E:bU)(w:World)(ht:l3 w E t)(O:Q3 t/\t.dJ.length<=500/\t.body.length<=500):CR 208 [iS E] w (λv w'=>v=.bool (ma false t)/\Ext w w'):=by
 obtain⟨G,B,rfl,M,U⟩:=ht;have u:=St.start w;refine eR Tryz.func208 ?_;refine cE u (λI _ u=>⟨λJ w'=>J=.bool (ma false t)/\St w bF [bM I (jn (⟨t.name,G,B,t.at_⟩:bU))] w',aA yr (aB (v:=.string t.name) jZ u.hb rfl (vI (aC (λ_=>⟨vb (by rw[<- I0];grind),u⟩) λ_=>aE lq u.At (aR Vd u (C207 t _ _ ⟨G,B,rfl,(M.ext u.aF),(U.ext u.aF)⟩ O) λ_ _ u=>bJ ⟨vb (by rw[<- I0];grind),u⟩)))),?_⟩);rintro _ _ ⟨rfl,u⟩ _;exact⟨rfl,u.drop.aF⟩
def C203(lv:Value)(xs:List bO)(w:World)(B:dy (λ_=>True) w lv xs)(G:xs.length<=1048576):CR 203 [lv] w (λv w'=>v=.bool (od xs)/\Ext w w'):=by
 have u:=St.start w;refine eR Tryz.func203 ?_;refine⟨λE w'=>E=.bool (od xs)/\St w bF [] w',aI nQ (B.ext u.aF) (aG (aC (λ_=>⟨vb (by unfold od;grind),u⟩) λ_=>aR Oa u (C204 _ _ _ _ (B.ext u.aF) bP) λ_ _ u=>bJ ⟨vb (by unfold od;grind),u⟩)),?_⟩;rintro _ _ ⟨rfl,u⟩ _;exact⟨rfl,u.aF⟩
def C209(c:gH)(cv:ig)(w:World)(hc:l3 w cv c)(M:c.e.length<=1048576):CR 209 [iS cv] w (λv w'=>v=.bool (mc c)/\Ext w w'):=by
 obtain⟨B,rfl,E⟩:=hc;have u:=St.start w;refine eR Tryz.func209 ?_;refine cE u (λG _ u=>⟨λJ w'=>J=.bool (mc c)/\St w bF [bM G (jn (⟨B,c.at_⟩:ig))] w',aA RN (aB (v:=hZ c.at_) bL u.hb rfl (aR Ob u (C210 _ _) λ_ O u=>bJ (bD (λ_=>⟨vb (by unfold mc;grind),u⟩) λU=>?_))),?_⟩)
 .refine aA BT (aB lF u.hb rfl ?_);have I:=DL.flat E;exact aR IM u (C121 _ _ _ (I.ext u.aF) bP) (λ_ _ u=>bJ ⟨vb (by unfold mc;grind),u⟩)
 rintro _ _ ⟨rfl,u⟩ _;exact⟨rfl,u.drop.aF⟩
def C298(U fv:Value)(xs:List (List bO))(φ:(List bO)->Prop)(g:(List bO)->Bool)(w:World)(hL:DL w U xs)(hf:n7 hM w fv φ g)(hφ:∀x∈xs,φ x)(hn:xs.length<=1073741824):CR 298 [U,fv] w (λv w'=>v=hZ (pf g xs)/\Ext w w'):=by
 obtain⟨g0,first,cap,rfl,mI,gK⟩:=hf;have u:=St.start w;refine eR Tryz.func298 ?_;obtain⟨M,B,E⟩:=hL.open;have hn8:=E.1;refine aI yn (B.ext u.aF) ?_;refine⟨λm x J=>∃k:Nat,x=hZ (k:Int)/\m=xs.length-k/\k<=xs.length/\(∀y∈xs.take k,g y=false)/\St w bF [] J,⟨_,0,rfl,rfl,mj _,ew,u⟩,?_⟩;rintro m _ J ⟨k,rfl,rfl,hk,G,u⟩ _;refine aQ (aC (λj6=>?_) λ_=>⟨gl (mf .i64) (gn (by rw[kO bP]at G;exact G)).symm,u.aF⟩);obtain⟨iR,V⟩:=gx M (i:=(k:Int).toNat) bP;obtain⟨Y,I⟩:=gx xs (i:=(k:Int).toNat) bP
 have W:DL w (iS iR) Y:=E.2 _ _ _ V I;refine aY yn B bP V (λ_ Z=>aE sy (Z.ext u.aF) ?_);have hf9:=DL.flat W;refine fj mI (gK _ Y J u.aF (W.ext u.aF) (hφ _ (l0 I))) ?_;rintro _ _ ⟨rfl,he⟩;have u:=u.ext he;exact bD (λO=>⟨gl (mf .i64) (jy G I O).symm,u.aF⟩) (λO=>aM bP ⟨_,bP,k+1,rfl,rfl,bP,eC G I O,u⟩)
def C211(B fv:Value)(xs:List (List bO))(φ:(List bO)->Prop)(g:(List bO)->Bool)(w:World)(I:DL w B xs)(G:n7 hM w fv φ g)(E:∀x∈xs,φ x)(J:xs.length<=1073741824):CR 211 [B,fv] w (λv w'=>v=.bool (xs.any g)/\Ext w w'):=by
 have u:=St.start w;refine eR Tryz.func211 ?_;exact aR abK u (C298 _ _ _ _ _ _ (I.ext u.aF) (G.ext u.aF) E bP) (λ_ _ u=>cJ ⟨vb (iv _ _),u.aF⟩)
def C299(U fv:Value)(xs:List bW)(φ:bW->Prop)(g:bW->Bool)(w:World)(hL:DL w U xs)(hf:n7 hM w fv φ g)(hφ:∀x∈xs,φ x)(hn:xs.length<=1073741824):CR 299 [U,fv] w (λv w'=>v=hZ (pf g xs)/\Ext w w'):=by
 obtain⟨g0,first,cap,rfl,mI,gK⟩:=hf;have u:=St.start w;refine eR Tryz.func299 ?_;obtain⟨M,B,E⟩:=hL.open;have V:=E.1;refine aI kJ (B.ext u.aF) ?_;refine⟨λm x J=>∃k:Nat,x=hZ (k:Int)/\m=xs.length-k/\k<=xs.length/\(∀y∈xs.take k,g y=false)/\St w bF [] J,⟨_,0,rfl,rfl,mj _,ew,u⟩,?_⟩;rintro m _ J ⟨k,rfl,rfl,hk,G,u⟩ _;refine aQ (aC (λj6=>?_) λ_=>⟨gl (mf .i64) (gn (by rw[kO bP]at G;exact G)).symm,u.aF⟩);obtain⟨iR,W⟩:=gx M (i:=(k:Int).toNat) bP;obtain⟨sS,I⟩:=gx xs (i:=(k:Int).toNat) bP
 obtain⟨GN,Z,rfl,GP,GQ⟩:=E.2 _ _ _ W I;refine aY kJ B bP W (λ_ Y=>aE lq (Y.ext u.aF) (fj mI (gK _ sS J u.aF ⟨GN,Z,rfl,(GP.ext u.aF),(GQ.ext u.aF)⟩ (hφ _ (l0 I))) ?_));rintro _ _ ⟨rfl,he⟩;have u:=u.ext he;exact bD (λO=>⟨gl (mf .i64) (jy G I O).symm,u.aF⟩) (λO=>aM bP ⟨_,bP,k+1,rfl,rfl,bP,eC G I O,u⟩)
def C212(B fv:Value)(xs:List bW)(φ:bW->Prop)(g:bW->Bool)(w:World)(I:DL w B xs)(G:n7 hM w fv φ g)(E:∀x∈xs,φ x)(J:xs.length<=1073741824):CR 212 [B,fv] w (λv w'=>v=.bool (xs.any g)/\Ext w w'):=by
 have u:=St.start w;refine eR Tryz.func212 ?_;exact aR abL u (C299 _ _ _ _ _ _ (I.ext u.aF) (G.ext u.aF) E bP) (λ_ _ u=>cJ ⟨vb (iv _ _),u.aF⟩)
def C300(U fv:Value)(xs:List gH)(φ:gH->Prop)(g:gH->Bool)(w:World)(hL:DL w U xs)(hf:n7 hM w fv φ g)(Z:∀x∈xs,φ x)(hn:xs.length<=1073741824):CR 300 [U,fv] w (λv w'=>v=hZ (pf g xs)/\Ext w w'):=by
 obtain⟨g0,first,cap,rfl,mI,gK⟩:=hf;have u:=St.start w;refine eR Tryz.func300 ?_;obtain⟨M,B,E⟩:=hL.open;have W:=E.1;refine aI BP (B.ext u.aF) ?_;refine⟨λm x J=>∃k:Nat,x=hZ (k:Int)/\m=xs.length-k/\k<=xs.length/\(∀y∈xs.take k,g y=false)/\St w bF [] J,⟨_,0,rfl,rfl,mj _,ew,u⟩,?_⟩;rintro m _ J ⟨k,rfl,rfl,hk,G,u⟩ _;refine aQ (aC (λj6=>?_) λ_=>⟨gl (mf .i64) (gn (by rw[kO bP]at G;exact G)).symm,u.aF⟩);obtain⟨iR,V⟩:=gx M (i:=(k:Int).toNat) bP;obtain⟨sS,I⟩:=gx xs (i:=(k:Int).toNat) bP
 obtain⟨Cg,rfl,Ch⟩:=E.2 _ _ _ V I;refine aY BP B bP V (λ_ Y=>aE BS (Y.ext u.aF) (fj mI (gK _ sS J u.aF ⟨Cg,rfl,(Ch.ext u.aF)⟩ (Z _ (l0 I))) ?_));rintro _ _ ⟨rfl,he⟩;have u:=u.ext he;exact bD (λO=>⟨gl (mf .i64) (jy G I O).symm,u.aF⟩) (λO=>aM bP ⟨_,bP,k+1,rfl,rfl,bP,eC G I O,u⟩)
def C213(B fv:Value)(xs:List gH)(φ:gH->Prop)(g:gH->Bool)(w:World)(I:DL w B xs)(G:n7 hM w fv φ g)(E:∀x∈xs,φ x)(J:xs.length<=1073741824):CR 213 [B,fv] w (λv w'=>v=.bool (xs.any g)/\Ext w w'):=by
 have u:=St.start w;refine eR Tryz.func213 ?_;exact aR abN u (C300 _ _ _ _ _ _ (I.ext u.aF) (G.ext u.aF) E bP) (λ_ _ u=>cJ ⟨vb (iv _ _),u.aF⟩)
def C109(p:bQ)(pv:bZ)(w:World)(E:l3 w pv p)(B:PZ p):CR 109 [iS pv] w (λv w'=>v=.bool (jI p)/\Ext w w'):=by
 obtain⟨Z,dB,cZ,cA,cC,cI,rfl,eN,fW,fN,eJ,eW,fB⟩:=E;have u:=St.start w;refine eR Tryz.func109 ?_;refine cE u (λCj G u=>⟨λV w'=>V=.bool (p.lines.any od||!oH 4294967296 p.iJ||!oH 0 p.eV||decide (1<p.recover.length))/\St w bF [bM Cj (jn (⟨Z,dB,cZ,cA,cC,cI⟩:bZ))] w',aA mK (aB ym u.hb rfl (aR Ve u (C211 _ _ _ (λl=>l.length<=1048576) _ _ (eN.ext u.aF) ⟨203,[],[],rfl,abA,λ_ y G _ I E=>C203 _ y G (DL.flat I) E⟩ (λl hl=>by have:=B.line l hl;omega) (by have:=B.lines;omega)) λ_ he u=>bD (λ_=>⟨vb cR,u⟩) λiQ=>?_)),?_⟩)
 .refine aA ug (aB sy u.hb rfl ?_);have U:=DL.flat fW;refine aR Oa u (C204 _ _ _ _ (U.ext u.aF) (by have:=B.iJ;omega)) (λ_ he u=>bJ (bD (λ_=>⟨vb cR,u⟩) λjY=>aA rX (aB sy u.hb rfl ?_)));have Y:=DL.flat fN;refine aR Oa u (C204 _ _ _ _ (Y.ext u.aF) (by have:=B.eV;omega)) (λ_ he u=>bJ (bD (λ_=>⟨vb cR,u⟩) λfc=>aA rY (aB pN u.hb rfl ?_)));have hzr:=B.recover;obtain⟨ts14,O,W⟩:=eW.open;have hn14:=W.1;exact aI kJ (O.ext u.aF) (dL ⟨vb cR,u⟩)
 rintro _ _ ⟨rfl,u⟩ _;refine bD (λM=>?_) (λM=>⟨λV w'=>V=.bool (!p.threads.any (ma true)&&!p.recover.any (ma false)&&!p.ef.any mc)/\St w bF [bM Cj (jn (⟨Z,dB,cZ,cA,cC,cI⟩:bZ))] w',?_,?_⟩)
 .refine⟨vb ?_,u.drop.aF⟩;rw[<- EC,M];simp
 .refine aA pO ?_;exact aB pN u.hb rfl (aR Oc u (C212 _ _ _ (λt=>Q3 t/\t.dJ.length<=500/\t.body.length<=500) _ _ (eJ.ext u.aF) ⟨205,[],[],rfl,abB,λJ y G _ I E=>C205 y J G I E⟩ (λ_ ht=>B.sj (List.mem_append_left _ ht)) (by have:=B.threads;omega)) λ_ _ u=>bJ (bD (λ_=>aA rY (aB pN u.hb rfl (aR Oc u (C212 _ _ _ (λt=>Q3 t/\t.dJ.length<=500/\t.body.length<=500) _ _ (eW.ext u.aF) ⟨208,[],[],rfl,abC,λJ y G _ I E=>C208 y J G I E⟩ (λ_ ht=>B.sj (List.mem_append_right _ ht)) (by have:=B.recover;omega)) λ_ _ u=>bJ (bD (λ_=>aA rZ (aB DB u.hb rfl (aR abM u (C213 _ _ _ (λc=>c.e.length<=1048576) _ _ (fB.ext u.aF) ⟨209,[],[],rfl,abD,λJ y G _ I E=>C209 y J G I E⟩ (λc hc=>(B.zc c hc).1) (by have:=B.ef;omega)) λ_ _ u=>bJ ⟨vb cR,u⟩))) λ_=>⟨vb cR,u⟩)))) λ_=>⟨vb cR,u⟩))
 rintro _ _ ⟨rfl,u⟩ _;refine⟨vb ?_,u.drop.aF⟩;rw[<- EC,M];simp
variable (w:World) (K:Value->hU)
def S220(W a:Value):Prop:=
 fA 36 a 0 λb=>lA 31 b w λc=>lN 31 c λd=>jA (λM e f=>∀_:Env,
 bA .lss 3 e d λg=>cV g (iA 31 c e λh=>lA 32 h f λj=>lN 32 j λk=>jA (λG l n=>∀_:Env,
 bA .lss 3 l k λo=>cV o (iA 32 j l λp=>lA 175 p n λq=>aL 175 n λZ r=>sA 175 Z q r λs=>lA 175 Z s λt=>gJ hM W [t,e] s λu v=>dX hM (Op.unary .not u) λx=>
 cV x (K (.tuple #[]) v) (bB .add 3 l (i 1) λy=>G y v)) (bB .add 3 e (i 1) λz=>M z n)) λG=>G (i 0) f) (fA 36 a 1 λaa=>lA 32 aa f λY=>lN 32 Y λac=>jA (λE B I=>∀_:Env,
 bA .lss 3 B ac λaf=>cV af (iA 32 Y B λag=>lA 175 ag I λah=>aL 175 I λV ai=>sA 175 V ah ai λO=>lA 175 V O λak=>fA 36 a 0 λal=>lA 31 al O λam=>
 lN 31 am λan=>bA .add 3 an B λao=>gJ hM W [ak,ao] O λap U=>dX hM (Op.unary .not ap) λar=>cV ar (K (.tuple #[]) U) (bB .add 3 B (i 1) λJ=>
 E J U)) (K (.tuple #[]) I)) λE=>E (i 0) f)) (λM=>M (i 0) w)
theorem Sz(B u:Value)(h:S220 w K B u):CR 220 [B,u] w K:=
 lL 48 (λ_=>.nil) 0 [] Tryz.func220 h
def S110(p0:Value):Prop:=
 mw hM (qv 36 p0) w λp1 a=>fA 36 p1 3 λb=>lA 33 b a λc=>lN 33 c λd=>eF (λB=>fA 36 p1 0 λe=>lA 31 e a λf=>lN 31 f λg=>bB .gtr 3 g (i 4) λh=>
 cV h (B tt a) (fA 36 p1 0 λj=>lA 31 j a λk=>cF 211 [k,(.func (.func 214) #[] #[])] a λl n=>cV l (B tt n) (fA 36 p1 1 λo=>lA 32 o n λp=>lN 32 p λq=>bB .gtr 3 q (i 4) λr=>
 cV r (B tt n) (fA 36 p1 2 λs=>lA 32 s n λt=>lN 32 t λu=>bB .gtr 3 u (i 2) λv=>cV v (B tt n) (bB .eql 3 d (i 0) λx=>cV x (B tt n) (bB .gtr 3 d (i 3) λy=>
 cV y (B tt n) (lA 36 p1 n λz=>cF 111 [z] n λM W=>cF 212 [M,(.func (.func 215) #[] #[])] W λJ E=>cV J (B tt E) (fA 36 p1 5 λG=>lA 34 G E λY=>lN 34 Y λU=>
 bB .gtr 3 U (i 4) λO=>B O E)))))))) (λI V=>∀_:Env,
 K I V)
theorem SA(p0:Value)(h:S110 w K p0):CR 110 [p0] w K:=
 lL 51 (λ_=>.nil) 4 [.tmp 2] Tryz.func110 h
def S112(E O:Value):Prop:=
 jA (λG B a=>∀_:Env,
 lN 112 E λb=>bA .lss 3 B b λc=>cV c (iA 112 E B λd=>lA 220 d a λe=>aL 220 a λf g=>sA 220 f e g λh=>bB .add 3 B (i 1) λj=>fA 220 f 6 λk=>lA 3 k h λl=>
 bA .add 3 j l λn=>fA 220 f 7 λo=>lA 3 o h λp=>bA .add 3 n p λq=>eF (λI=>fA 220 f 0 λr=>lA 3 r h λs=>bB .eql 3 s (i 12) λt=>cV t (fA 220 f 5 λu=>
 lA 3 u h λv=>bA .mul 3 O v λx=>I x h) (I O h)) (λM y=>∀_:Env,
 bB .gtr 3 M (i 64) λz=>cV z (fA 220 f 8 λY=>lA 3 Y y λab=>K (.tuple #[ab,tt]) y) (bB .add 3 B (i 1) λW=>dX hM (mv 112 E (some W) (some q) none) λV=>
 cF 112 [V,M] y λJ U=>xT J 0 λag=>xT J 1 λZ=>cV Z (K (.tuple #[ag,tt]) U) (G q U)))) (K (.tuple #[(i 0),ff]) a)) (λG=>G (i 0) w)
theorem SB(B u:Value)(h:S112 w K B u):CR 112 [B,u] w K:=
 lL 53 (λ_=>.nil) 48 [.tmp 4,.tmp 5] Tryz.func112 h
theorem I2:PL 116:=dD Tryz.func116
theorem I3:PL 220:=dD Tryz.func220
theorem ahy:PL 51:=dD Tryz.func51
theorem Om:PL 55:=dD Tryz.func55
theorem ab9:PL 53:=dD Tryz.func53
theorem ahz:PL 52:=dD Tryz.func52
theorem ahA:PL 56:=dD Tryz.func56
theorem AX:PL 146:=dD Tryz.func146
theorem I4:PL 111:=dD Tryz.func111
theorem aca:PL 110:=dD Tryz.func110
theorem acb:PL 214:=dD Tryz.func214
theorem acd:PL 215:=dD Tryz.func215
theorem Vl:PL 112:=dD Tryz.func112
theorem ace:PL 216:=dD Tryz.func216
theorem acf:PL 301:=dD Tryz.func301
end Go.Proofs.YtdncbeepkacgbaaGreatDoor
namespace Go.Fw
section
variable {α:Type}[Flat α] {P:Program}{w w0:World}{A:Nat->Prop}{L:List HP}
theorem ED{T E M I R:Nat}{kn O:IntKind}{K:Value->hU}(Y:St w0 A L w)(ht:QZ P T E (lx α) M)(V:P.underlying I=some (.int kn))(h1:1<=lx α)(n:Nat)(U:0<n)(Z:n<=1048576)(V3:M<=8192)
  (k:∀b cap w',n<=cap->St w0 A (bH (.slice (some ⟨b,0,none⟩) 0 cap) ([]:List α)::L) w'->K (.slice (some ⟨b,0,none⟩) n cap) w'):mw P (Builtin.append_ #[T,I] R [.slice none 0 0,.int O (n:Int)].toArray) w K:=by
 obtain⟨hu,u,hi,my,s6,B⟩:=eu ht
 obtain⟨z,W,G⟩:∃z,u.zero=some z/\z.cells.size=lx α:=by
  cases h:u.zero with
  | none=>rw[h]at B;cases B
  | some z=>rw[h]at B;exact⟨z,rfl,by simpa using B⟩
 have J:n*u.bytes<=281474976710656:=by
  have:=Nat.mul_le_mul Z (show u.bytes<=8192 by omega)
  omega
 have hr:=Lib.run_append_nil_zeros (P:=P) w T I R E u z O kn hu V hi W n U bP bP J
 have RF:=grownCap_ge w n 0 E
 refine⟨_,_,hr,k _ _ _ bP ?_⟩
 refine Y.drew.new (F:=(· = w.heap.size)) (Ext.alloc _ _) (.inr ⟨_,_,(Builtin.zeroCells z.cells n++Builtin.zeroCells z.cells (grownCap w n 0 E-n)).toList,rfl,?_,?_,λ_=>Iff.rfl⟩) λb hb=>CV hb.symm
 .exact⟨E,by rw[show flat ([]:List α)=[]from rfl,sk,Array.toArray_toList];exact jO _ _⟩
 refine⟨mj _,CV (Eq.symm ?_)⟩
 show([]++_).length=_
 rw[sk,Array.length_toList,Array.size_append,size_zeroCells,size_zeroCells,G,<- Nat.add_mul]
 congr 1;omega
theorem EE{T E sz B R n c:Nat}{z:Option Nat}{a:Option Addr}{K:Value->Prop}(ht:dV P T=some (E,sz,B,z))(k:K (hZ (c:Int))):dX P (Builtin.cap_ #[T] R [Value.slice a n c].toArray) K:=by
 obtain⟨u,_⟩:=eu ht
 refine⟨_,?_,k⟩
 unfold Builtin.cap_
 simp[bT,bR u]
 rfl
theorem EF{T E sz u n c:Nat}{z:Option Nat}{a:Option Addr}{K:Value->Prop}(ht:dV P T=some (E,sz,u,z))(B:a.map (·.add (0*sz))=a)(k:K (.slice a 0 c)):dX P (mv T (.slice a n c) none (some (hZ 0)) none) K:=by
 refine⟨_,qN ht (km (.inl ⟨rfl,rfl⟩) (.inr ⟨0,rfl,Int.le_refl _,rfl⟩) (om _) (mj _)),?_⟩
 grind
end
end Go.Fw
namespace Go.Proofs.YtdncbeepkacgbaaGreatDoor
open Go.Fw
theorem rB{α:Type}{ls:List (List α)}{k:Nat}{l:List α}(h:ls[k]?=some l):(ls.take (k+1)).flatten=(ls.take k).flatten++l:=by
 rw[<- gm h];simp
def Ck{α:Type}(ls:List (List α))(k:Nat):(ls.take k).flatten.length<=ls.flatten.length:=by
 conv=>rhs;rw[<- ob k ls,List.flatten_append,kE]
 omega
def Vm{α:Type}[Flat α](w:World):dy (λ_=>True) w (.slice none 0 0) ([]:List α):=⟨none,0,rfl,mj _,.inl ⟨rfl,rfl⟩⟩
def C301(n:Nat)(w:World)(E:n<=1048576):CR 301 [.slice none 0 0,hZ (n:Int)] w (λv w'=>mD (bH v ([]:List bU)) w w'):=by
 have u:=St.start w;refine eR Tryz.func301 ?_;refine⟨λw'=>w'=w,aQ (aC (λc=>absurd c bP) λ_=>rfl),?_⟩;rintro B I _;subst I;refine⟨λG w'=>St B bF [bH G ([]:List bU)] w',?_,?_⟩
 .refine EE kJ (aI kJ (Vm (α:=bU) B) (fk ew (fk (by simp;omega) (dL (aC (λc=>?_) λ_=>u.eD)))));refine EE kJ (EF kJ rfl ?_);have e:(n:Int)-(((0:Nat):Int)-(([]:List bU).length:Int))=(n:Int):=ew
  rw[e]at c |-;exact ED (α:=bU) (kn:=.i64) u kJ (by kernel_rfl) ea n bP E ea (λ_ _ _ _ u=>aI kJ (Vm (α:=bU) B) (EF kJ (by simp[Addr.add]) u))
 rintro v _ u _;exact u.fresh
def C216(lv:Value)(B:List (List bU))(w:World)(hL:agS w lv B)(hn:B.length<=1000)(hf:B.flatten.length<=100000):CR 216 [lv] w (λv w'=>mD (bH v B.flatten) w w'):=by
 obtain⟨G,O,hl,Y⟩:=hL;have u:=St.start w;refine eR Tryz.func216 ?_;refine aI DH (O.ext u.aF) ?_;refine⟨λm y x U=>∃k:Nat,y=hZ ((B.take k).flatten.length:Int)/\x=hZ (k:Int)/\m=G.length-k/\k<=G.length/\St w bF [] U,⟨_,0,rfl,rfl,rfl,mj _,u⟩,?_⟩;rintro m _ _ U ⟨k,rfl,rfl,rfl,Z,u⟩ _;refine aQ (aC (λc=>?_) λc=>?_)
 .obtain⟨s,M⟩:=gx G (i:=(k:Int).toNat) bP;obtain⟨t,J⟩:=gx B (i:=k) bP;have V:=Y k s t M J;have E:=Ck B (k+1);have I:=rB J;rw[I,kE]at E;refine⟨λjv w'=>jv=hZ ((B.take (k+1)).flatten.length:Int)/\St w bF [] w',aY DH O bP M (λ_ W=>aE pN (W.ext u.aF) (aI kJ (V.ext u.aF) (aM bP (aQ (aC (λc=>absurd c bP) λ_=>⟨gl (mf .i64) (by rw[I,kE];omega),u⟩))))),?_⟩;rintro _ _ ⟨rfl,u⟩ _;exact aM bP ⟨_,bP,k+1,rfl,rfl,rfl,bP,u⟩
 have qn:B.take k=B:=kO bP;rw[qn];refine fV acf u (C301 _ _ bP) (λx24 _ dw u=>aI DH (O.ext u.aF) ?_);refine⟨λm v x U=>∃k:Nat,x=hZ (k:Int)/\m=G.length-k/\k<=G.length/\St w bF [bH v ((B.take k).flatten)] U,⟨_,0,rfl,rfl,mj _,u⟩,?_⟩;rintro m v _ _ ⟨k,rfl,rfl,Z,u⟩ _;refine aQ (aC (λc=>?_) λc=>?_)
 .obtain⟨s,M⟩:=gx G (i:=(k:Int).toNat) bP;obtain⟨t,J⟩:=gx B (i:=k) bP;have V:=Y k s t M J;have E:=Ck B (k+1);have I:=rB J;rw[I,kE]at E;exact aY DH O bP M (λ_ W=>aE pN (W.ext u.aF) (cO u kJ (V.ext u.aF) bP ea λ_ _ u=>aM bP ⟨_,bP,k+1,rfl,rfl,bP,by rw[I];exact u⟩))
 rw[show B.take k=B from kO bP]at u;exact u.fresh
def WI{w:World}{a b:SV}{x y:List bU}(h1:dy (λ_=>True) w (iS a) x)(h2:dy (λ_=>True) w (iS b) y):∀(i:Nat) (s:SV) (t:List bU),[a,b][i]?=some s->[x,y][i]?=some t->dy (λ_=>True) w (iS s) t:=by
 grind
def C111(p:bQ)(pv:bZ)(B E:List bU)(w:World)(I:l3 w pv p)(h3:dy (λ_=>True) w (iS pv.threads) B)(h4:dy (λ_=>True) w (iS pv.recover) E)(O:B.length<=500)(U:E.length<=500):CR 111 [iS pv] w (λv w'=>mD (bH v (B++E)) w w'):=by
 obtain⟨Y,dB,cZ,V,J,cI,rfl,eN,fW,fN,W,eW,fB⟩:=I;have u:=St.start w;refine eR Tryz.func111 ?_;refine cE u (λCj _ u=>aA pO (aB pN u.hb rfl (aA rY (aB pN u.hb rfl (bK ([V,J]) u DH rfl rfl (dQ rfl) λM _ u=>fV ace u (C216 _ [B,E] _ ⟨_,u.eS,rfl,WI (h3.ext u.aF) (h4.ext u.aF)⟩ ew (by simp;omega)) λZ _ dw u=>?_)))));have G:=u.p1.drop.p1.drop;rw[show [B,E].flatten=B++E from ew]at G;exact G.fresh
def WJ(p:bQ):(decide (4<(p.lines.length:Int))||p.lines.any (λl=>decide (4<(l.length:Int)))||decide (4<(p.iJ.length:Int))||decide (2<(p.eV.length:Int))||decide ((p.threads.length:Int)=0)||decide (3<(p.threads.length:Int))||(g9 p).any (λt=>decide (4<(t.dJ.length:Int)))||decide (4<(p.ef.length:Int)))=sC p:=by
 unfold sC
 grind
def I5{p:bQ}(h:∀l∈p.lines,l.length<=500)(u:p.lines.length<=500)(k:Nat):(p.lines.take k).flatten.length<=250000:=by
 have h1:=Ck p.lines k
 have h2:=cM h
 omega
def C146(B:Value)(ns:List ByteArray)(s:ByteArray)(w:World)(E:dy (λ_=>True) w B ns)(G:ns.length<=1048576):CR 146 [B,.string s] w (λv w'=>v=hZ (cT ns s)/\Ext w w'):=by
 have u:=St.start w;refine eR Tryz.func146 ?_;exact aR NF u (C233 _ _ _ _ (E.ext u.aF) bP) (λ_ _ u=>⟨rfl,u.aF⟩)
def C55(p:bQ)(pv:bZ)(w:World)(hp:l3 w pv p)(B:PZ p):CR 55 [iS pv] w (λv w'=>v=hZ (ee p)/\Ext w w'):=by
 obtain⟨cK,dB,cZ,cA,cC,cI,rfl,eN,fW,fN,eJ,eW,fB⟩:=hp;have u:=St.start w;refine eR Tryz.func55 ?_;refine cE u (λCj Z u=>aA mK (aB ym u.hb rfl ?_));obtain⟨J,E,G⟩:=eN.open;have hn15:=G.1;refine aI yn (E.ext u.aF) ?_;refine⟨λm y x Z=>∃k:Nat,y=hZ (((p.lines.take k).flatten.length:Nat):Int)/\x=hZ (k:Int)/\m=p.lines.length-k/\k<=p.lines.length/\St w bF [bM Cj (jn (⟨cK,dB,cZ,cA,cC,cI⟩:bZ))] Z,⟨_,0,rfl,rfl,rfl,bP,u⟩,?_⟩
 rintro m _ _ _ ⟨k,rfl,rfl,rfl,hk,u⟩ _;have Zs:=I5 B.line B.lines k;have O:=I5 B.line B.lines (k+1);have hzl:=B.lines;refine aQ (aC (λgD=>?_) λgD=>?_)
 .obtain⟨AY,Y⟩:=gx J (i:=(k:Int).toNat) bP;obtain⟨W,I⟩:=gx p.lines (i:=(k:Int).toNat) bP;have M:DL w (iS AY) W:=G.2 _ _ _ Y I;refine aY yn E bP Y (λ_ yT=>?_);have V:=rB (k:=k) I;rw[V,kE]at O;refine aE sy (yT.ext u.aF) ?_;have U:=DL.flat M;exact aI nQ (U.ext u.aF) (aM bP (aM bP ⟨_,bP,k+1,gl (mf .i64) (by rw[rB (k:=k) I,kE];omega),rfl,rfl,bP,u⟩))
 rw[kO bP];exact⟨rfl,u.drop.aF⟩
def C52(p:bQ)(pv:bZ)(w:World)(O:l3 w pv p)(W:PZ p):CR 52 [iS pv] w (λv w'=>mD (bH v (cS p)) w w'):=by
 obtain⟨U,dB,cZ,cA,V,Y,rfl,eN,fW,fN,eJ,eW,fB⟩:=O;have u:=St.start w;refine eR Tryz.func52 ?_;refine cE u (λCj M u=>aA rX (aB sy u.hb rfl ?_));have B:=DL.flat fN;refine aI nQ (B.ext u.aF) ?_;refine⟨λm y x M=>∃k:Nat,x=hZ (k:Int)/\m=p.eV.length-k/\k<=p.eV.length/\St w bF [bH y ((p.eV.take k).map bO.name),bM Cj (jn (⟨U,dB,cZ,cA,V,Y⟩:bZ))] M,⟨_,0,rfl,rfl,bP,u.eD (α:=ByteArray)⟩,?_⟩;rintro m Eu _ _ ⟨k,rfl,rfl,hk,u⟩ _
 have Uz:((p.eV.take k).map bO.name).length=k:=by rw[nP,mg];omega
 have Z:=W.eV;refine aQ (aC (λgD=>?_) λgD=>?_)
 .obtain⟨E,I⟩:=gx p.eV (i:=(k:Int).toNat) bP;refine aY nQ B bP I (λ_ yT=>aE jQ (yT.ext u.aF) (aK u lO λJ _ u=>aH (x:=E) u jQ rfl rfl λ_ u=>aA m8 (aB (v:=.string E.name) jZ u.hb rfl (bK ([E.name]) u iN rfl rfl (dQ rfl) λG _ u=>?_))));have WK:=u.eS;exact cO u.p2 iN WK (by simp<;>omega) ea (λ_ _ u=>have u:=u.p1.drop;aM bP (have u:=u.p1.drop.p1.p1;⟨_,bP,k+1,rfl,rfl,bP,by rw[<- nn (k:=k) I];exact u⟩))
 have u:=u.p1.drop;rw[kO bP]at u;exact u.fresh
def C214(lv:Value)(xs:List bO)(w:World)(B:dy (λ_=>True) w lv xs)(E:xs.length<=1048576):CR 214 [lv] w (λv w'=>v=.bool (decide (4<(xs.length:Int)))/\Ext w w'):=by
 have u:=St.start w;refine eR Tryz.func214 ?_;exact aI nQ (B.ext u.aF) (dL ⟨rfl,u.aF⟩)
def C215(t:bW)(E:bU)(w:World)(ht:l3 w E t)(M:t.dJ.length<=500):CR 215 [iS E] w (λv w'=>v=.bool (decide (4<(t.dJ.length:Int)))/\Ext w w'):=by
 obtain⟨O,J,rfl,G,U⟩:=ht;have u:=St.start w;refine eR Tryz.func215 ?_;refine cE u (λI _ u=>aA m6 (aB lT u.hb rfl ?_));have B:=DL.flat G;exact aI iN (B.ext u.aF) (dL ⟨rfl,u.drop.aF⟩)
def C110(p:bQ)(pv:bZ)(w:World)(E:l3 w pv p)(B:PZ p):CR 110 [iS pv] w (λv w'=>v=.bool (sC p)/\Ext w w'):=by
 obtain⟨cK,dB,cZ,cA,cC,cI,rfl,eN,fW,fN,J,eW,fB⟩:=E;have u:=St.start w;refine SA _ _ _ ?_;unfold S110;refine cE u (λCj G u=>?_);have Q6:=B.lines;have Zq:=B.iJ;have hz3:=B.eV;have hz4:=B.threads;have hz5:=B.ef;obtain⟨rA,Ok,Ol⟩:=J.open;obtain⟨vu,GL,Q5⟩:=eW.open;have Sr:=Ol.1;have hn4:=Q5.1;have ahI:=IW B.toPS;refine aA pO (aB pN u.hb rfl ?_);obtain⟨ts19,ahJ,W⟩:=J.open;have hn19:=W.1;refine aI kJ (ahJ.ext u.aF) ⟨λjv w'=>jv=.bool (decide (4<(p.lines.length:Int))||p.lines.any (λl=>decide (4<(l.length:Int)))||decide (4<(p.iJ.length:Int))||decide (2<(p.eV.length:Int))||decide ((p.threads.length:Int)=0)||decide (3<(p.threads.length:Int))||(g9 p).any (λt=>decide (4<(t.dJ.length:Int)))||decide (4<(p.ef.length:Int)))/\St w bF [bM Cj (jn (⟨cK,dB,cZ,cA,cC,cI⟩:bZ))] w',?_,?_⟩
 .refine aA mK (aB ym u.hb rfl ?_);obtain⟨ts20,O,I⟩:=eN.open;have hn20:=I.1;refine aI yn (O.ext u.aF) (dL (aC (λ_=>⟨vb cR,u⟩) λlu=>aA mK (aB ym u.hb rfl (aR Ve u (C211 _ _ _ (λl=>l.length<=1048576) _ _ (eN.ext u.aF) ⟨214,[],[],rfl,acb,λ_ y G _ Z E=>C214 _ y G (DL.flat Z) E⟩ (λl hl=>by have:=B.line l hl;omega) (by have:=B.lines;omega)) λ_ he u=>bD (λ_=>⟨vb cR,u⟩) λuK=>aA ug (aB sy u.hb rfl ?_)))));have U:=DL.flat fW;refine aI nQ (U.ext u.aF) (dL (aC (λ_=>⟨vb cR,u⟩) λpg=>aA rX (aB sy u.hb rfl ?_)))
  have V:=DL.flat fN;refine aI nQ (V.ext u.aF) (dL (aC (λ_=>⟨vb cR,u⟩) λc_x29=>aG (aC (λ_=>⟨vb cR,u⟩) λwT=>dL (aC (λ_=>⟨vb cR,u⟩) λuO=>aE fS u.At (dW I4 (C111 p _ rA vu _ ⟨cK,dB,cZ,cA,cC,cI,rfl,(eN.ext u.aF),(fW.ext u.aF),(fN.ext u.aF),(J.ext u.aF),(eW.ext u.aF),(fB.ext u.aF)⟩ (Ok.ext u.aF) (GL.ext u.aF) (by have:=B.threads;omega) (by have:=B.recover;omega)) ?_)))));rintro x41 _ dw;have u:=u.made dw;have WL:DL _ _ (g9 p):=DL.of u.eS ((Ol.append Q5).ext u.aF)
  refine aR Oc u (C212 _ _ _ (λt=>t.dJ.length<=500) _ _ WL ⟨215,[],[],rfl,acd,λsv y G _ Z E=>C215 y sv G Z E⟩ (λ_ ht=>(B.sj ht).2.1) bP) (λ_ he u=>bD (λ_=>have u:=u.drop;⟨vb cR,u⟩) λwS=>aA rZ (aB DB u.p1.hb rfl ?_));obtain⟨ts23,M,Y⟩:=fB.open;have hn23:=Y.1;exact aI BP (M.ext u.aF) (dL (have u:=u.drop;⟨vb cR,u⟩))
 rintro _ _ ⟨rfl,u⟩ _;exact⟨vb (WJ p),u.drop.aF⟩
theorem pU(x:aZ)(a b r:Bk)(n:Int):kV (.cons x a b r) n=(decide (64<pq x n)||(kV a (pq x n)||kV b (pq x n))||kV r n):=rfl
def SD{xs:List aZ}{k:Nat}{x:aZ}{a b r:Bk}(h:xs.drop k=(Bk.cons x a b r).flat)(u:(Bk.cons x a b r).str){hi lo:Int}(h1:hi=k+1+x.body+x.eG)(h2:lo=k+1):(xs.take hi.toNat).drop lo.toNat=(a.app b).flat:=by
 have B:=u
 obtain⟨E,G,_⟩:=B
 have e:=Bk.Dl u (hi:=1+x.body+x.eG) (lo:=1) rfl rfl
 rw[<- e,<- h,List.take_drop,q9]
 grind
def On{xs:List aZ}{k:Nat}{x:aZ}{a b r:Bk}(h:xs.drop k=(Bk.cons x a b r).flat)(u:(Bk.cons x a b r).str):xs.drop (k+1+a.len+b.len)=r.flat:=by
 have B:=u
 obtain⟨E,G,_⟩:=B
 rw[<- Bk.abW u (hi:=1+x.body+x.eG) rfl,<- h,q9]
 grind
def Oo{α:Type}{xs l:List α}{k:Nat}{x:α}(h:xs.drop k=x::l):xs[k]?=some x:=by
 have:=gl (λl=>l[0]?) h
 grind
theorem C112(lv:Value)(t:Bk)(n:Int)(N:Nat)(w:World)(hL:DL w lv t.flat)(gi:t.str)(hq:∀x∈t.flat,0<=x.at_/\(x.kind=12->1<=x.n/\x.n<=8))(W:1<=n/\n<=64)(hl:t.len<=1048576)(hN:t.len<N):CR 112 [lv,hZ n] w (λv w'=>∃a:Int,v=.tuple #[hZ a,.bool (kV t n)]/\Ext w w'):=by
 have F8:=t.cM;have B:=St.start w;refine SB _ _ _ _ ?_;unfold S112;refine⟨λm y w1=>∃(k:Nat) (u:Bk),y=hZ (k:Int)/\m=t.len-k/\t.flat.drop k=u.flat/\k+u.len=t.len/\u.str/\(∀x∈u.flat,0<=x.at_/\(x.kind=12->1<=x.n/\x.n<=8))/\kV t n=kV u n/\St w bF [] w1,⟨_,0,t,rfl,rfl,rfl,bP,gi,hq,rfl,B⟩,?_⟩;rintro m _ w1 ⟨k,u,rfl,rfl,Oq,J,Y,I,G,B⟩ _;obtain⟨ahS,U,WN⟩:=hL.open;have hn24:=WN.1;refine aI fT (U.ext B.aF) (aQ (aC (λjY=>?_) λjY=>?_))
 .obtain⟨x,a,b,r,rfl⟩:=Bk.IX (t:=u) (by rw[Bk.cM];omega);obtain⟨yL,j7⟩:=gx ahS (i:=(k:Int).toNat) bP;obtain⟨E,Ot⟩:=gx t.flat (i:=(k:Int).toNat) bP;obtain⟨I6,I7,rfl,ae8,ae9⟩:=WN.2 _ _ _ j7 Ot;refine aY fT U bP j7 (λ_ D4=>?_);obtain rfl:E=x:=nM.inj (Ot.symm.trans (Oo Oq));have M:=I E (by simp[Bk.flat]);have ahT:=Y;obtain⟨AZ,CX,L6,hg4,hga,hgb,Z⟩:=ahT;have Ou:k+(a.len+b.len+r.len+1)=t.len:=J;have SF:=a.cM;have Vg:=b.cM;have hlr:=r.cM;have tO:=SD Oq Y (hi:=(k:Int)+1+E.body+E.eG) (lo:=(k:Int)+1) rfl rfl
  have ahV:=On Oq Y;refine aE ek (D4.ext B.aF) (aK B jw λAb _ B=>have B:=B.enc (cs':=jn (⟨0,(ia #[]),(ia #[]),bY,bY,0,0,0,0⟩:aT)) rfl;aH (x:=(⟨E.kind,E.eO,E.name,I6,I7,E.n,E.body,E.eG,E.at_⟩:aT)) B ek rfl rfl λ_ B=>aM bP (aA jT (aB (v:=hZ E.body) bL B.hb rfl (aM bP (aA lY (aB (v:=hZ E.eG) bL B.hb rfl (aM bP ⟨λjv w'=>∃m:Int,jv=hZ m/\m=pq E n/\St w bF [bM Ab (jn (⟨E.kind,E.eO,E.name,I6,I7,E.n,E.body,E.eG,E.at_⟩:aT))] w',aA ft (aB (v:=hZ E.kind) bL B.hb rfl (aG (aC (λn8=>aA lX (aB (v:=hZ E.n) bL B.hb rfl (Il (by have WO:=M.2 n8;have h1:=IG (a:=1) (b:=1) W.1 WO.1 bP bP;have h2:=IG (c:=64) (d:=8) W.2 WO.2 bP bP;omega) ⟨_,rfl,by grind[pq],B⟩))) λ_=>⟨_,rfl,by grind[pq],B⟩))),?_⟩)))))))
  rintro _ _ ⟨m,rfl,V,B⟩ _;have hm8:=WE W M.2 V;refine dL (aC (λuO=>?_) λuO=>?_)
  .refine aA qX (aB (v:=hZ E.at_) bL B.hb rfl ?_);refine⟨E.at_,?_,B.drop.aF⟩;rw[G,pU,<- V,fY (show(64:Int)<m by omega)];rfl
  refine aM bP (vH fT (U.ext B.aF) bP bP bP λacm GS=>?_);have Cm:=DL.cut GS U WN;refine dW Vl (C112 _ (a.app b) m (N-1) _ (by have h:=(Cm.ext B.aF);rw[tO]at h;exact h) (Bk.So hga hgb) (λy O=>I y (by rw[Bk.yW]at O;simp only[Bk.flat,oR,pI];rcases pI.1 O with h|h<;>simp[h])) bP (by rw[IY];omega) (by rw[IY];omega)) ?_;rintro _ _ ⟨a1,rfl,he⟩;have B:=B.ext he;rw[KO];refine aJ rfl (aJ rfl (bD (λwU=>?_) λwU=>⟨_,bP,k+1+a.len+b.len,r,gl (mf .i64) bP,rfl,ahV,bP,Z,(λy O=>I y (by simp[Bk.flat,O])),by rw[G,pU,<- V,fZ (show ¬ (64:Int)<m by omega),wU];rfl,B.drop⟩))
  refine⟨a1,?_,B.drop.aF⟩;rw[G,pU,<- V,wU];simp
 cases u with
 | nil=>exact⟨_,by rw[G];rfl,B.aF⟩
 | cons x a b r=>exact absurd J (by show ¬ k+(a.len+b.len+r.len+1)=_;omega)
termination_by N
decreasing_by all_goals omega
def GU:Int->List (List bO)->List (bO×Int)
 | _,[]=>[]
 | k,l::r=>l.map (λc=>(c,k))++GU (k+1) r
def FJ:Int->List bO->List (bO×Int)
 | _,[]=>[]
 | k,c::r=>(c,k)::FJ (k+1) r
def oL(p:bQ):List (bO×Int):=GU 0 p.lines++FJ p.lines.length p.iJ
theorem Cn:∀(ls:List (List bO)) (k:Int),(GU k ls).length=ls.flatten.length
 | [],_=>rfl
 | l::r,k=>by simp[GU,Cn r]
theorem SG:∀(vs:List bO) (k:Int),(FJ k vs).length=vs.length
 | [],_=>rfl
 | c::r,k=>by simp[FJ,SG r]
theorem Co:∀(ls:List (List bO)) (k:Int),(GU k ls).map Qs=ls.flatten
 | [],_=>rfl
 | l::r,k=>by simp[GU,Co r,Function.comp_def]
theorem Cp:∀(vs:List bO) (k:Int),(FJ k vs).map Qs=vs
 | [],_=>rfl
 | c::r,k=>by simp[FJ,Cp r]
theorem Ov{l:List bO}{c:bO}{j:Nat}(u:l[j]?=some c):∀(ls:List (List bO)) (k:Int) (i:Nat),ls[i]?=some l->(GU k ls)[(ls.take i).flatten.length+j]?=some (c,k+i)
 | [],_,_,h=>by simp at h
 | a::r,k,0,h=>by
  grind[GU]
 | a::r,k,i+1,h=>by
  have B:=Ov u r (k+1) i cR
  grind[GU]
theorem Ow:∀(vs:List bO) (k:Int) (j:Nat) (c:bO),vs[j]?=some c->(FJ k vs)[j]?=some (c,k+j)
 | [],_,_,_,h=>by simp at h
 | a::r,k,0,c,h=>by simp at h;subst h;simp[FJ]
 | a::r,k,j+1,c,h=>by
  have u:=Ow r (k+1) j c cR
  grind[FJ]
theorem u0(p:bQ):(oL p).map Qs=jb p:=by unfold oL jb;rw[rn,Co,Cp]
theorem px(p:bQ):(oL p).length=(jb p).length:=by rw[<- u0,nP]
def KR{p:bQ}{l:List bO}{c:bO}{i j:Nat}(B:p.lines[i]?=some l)(u:l[j]?=some c):(oL p)[(p.lines.take i).flatten.length+j]?=some (c,(i:Int)):=by
 have h:=Ov u p.lines 0 i B
 unfold oL
 grind
def Ox{p:bQ}{c:bO}{j:Nat}(u:p.iJ[j]?=some c):(oL p)[p.lines.flatten.length+j]?=some (c,(p.lines.length:Int)+j):=by
 unfold oL
 rw[o1 (by rw[Cn];omega),Cn,x7,Ow _ _ _ _ u]
def C220(y:Value)(b:Nat)(g0 g1:SV)(p:bQ)(J:Nat->hU)(Jx:hU)(w0 w:World)(hz:PS p)(hL:DL w0 (iS g0) p.lines)(hV:dy (λ_=>True) w0 (iS g1) p.iJ)
  (I:∀k W,J k W->Cell W b 0 (iS g0)/\Cell W b 1 (iS g1)/\Ext w0 W) (Oy:∀k W U,J k W->Ext W U->J k U) (h0:J 0 w)
  (hy:∀k c i W,(oL p)[k]?=some (c,i)->J k W->gJ hM y [iS c,hZ i] W λv U=>(v=.bool true/\J (k+1) U)\/(v=.bool false/\Jx U)) :
  CR 220 [y,.pointer (some ⟨b,0,none⟩)] w (λ_ W=>J (oL p).length W\/Jx W):=by
 obtain⟨ts,hR,hD⟩:=hL.open;have hn:=hD.1;have hzl:=hz.lines;have hzv:=hz.iJ;refine Sz _ _ _ _ ?_;unfold S220;obtain⟨Y,xu,he0⟩:=I 0 w h0;refine aA mK (cD ym Y (aI yn (hR.ext he0) ?_));refine⟨λm x E=>∃i:Nat,x=hZ (i:Int)/\m=p.lines.length-i/\i<=p.lines.length/\J ((p.lines.take i).flatten.length) E,⟨_,0,rfl,rfl,mj _,h0⟩,?_⟩;rintro m _ E ⟨i,rfl,rfl,hi,B⟩ _;refine aQ (aC (λc=>?_) λc=>?_)
 .obtain⟨l,Z⟩:=gx p.lines (i:=i) bP;obtain⟨t,ht⟩:=gx ts (i:=((i:Nat):Int).toNat) bP;have hdt:DL w0 (iS t) l:=hD.2 _ _ _ ht Z;have G:=DL.flat hdt;have GV:=hz.line l (l0 Z);have e1:=(I _ _ B).2.2;refine aY yn hR bP ht (λq O=>aE sy (O.ext e1) (aI nQ (G.ext e1) ?_));refine⟨λm x E=>∃j:Nat,x=hZ (j:Int)/\m=l.length-j/\j<=l.length/\J ((p.lines.take i).flatten.length+j) E,⟨_,0,rfl,rfl,mj _,B⟩,?_⟩;rintro m _ w2 ⟨j,rfl,rfl,LZ,B⟩ _;refine aQ (aC (λc=>?_) λ_=>aM bP ⟨_,bP,i+1,rfl,rfl,bP,by rw[rB Z,kE,show l.length=j from bP];exact B⟩)
  obtain⟨x,M⟩:=gx l (i:=((j:Nat):Int).toNat) bP;have V:=(I _ _ B).2.2;have u:=St.start w2;refine aY nQ G bP M (λq O=>aE jQ (O.ext V) (aK u lO λb6 _ u=>aH (x:=x) u jQ rfl rfl λw4 u=>aE jQ u.At ?_));refine gJ.mono (hy _ x i w4 (KR Z M) (Oy _ _ _ B u.aF)) ?_;rintro v w5 (⟨rfl,FK⟩|⟨rfl,Ac⟩)
  .exact bJ (ep (aM bP ⟨_,bP,j+1,rfl,rfl,bP,FK⟩))
  exact bJ (gE (.inr Ac))
 rw[show p.lines.take i=p.lines from kO bP]at B;obtain⟨Y,xu,e1⟩:=I _ _ B;refine aA ug (cD sy xu (aI nQ (hV.ext e1) ?_));refine⟨λm x E=>∃j:Nat,x=hZ (j:Int)/\m=p.iJ.length-j/\j<=p.iJ.length/\J (p.lines.flatten.length+j) E,⟨_,0,rfl,rfl,mj _,B⟩,?_⟩;rintro m _ w6 ⟨j,rfl,rfl,LZ,B⟩ _;refine aQ (aC (λc=>?_) λc=>?_)
 .obtain⟨x,M⟩:=gx p.iJ (i:=((j:Nat):Int).toNat) bP;obtain⟨Y,xu,V⟩:=I _ _ B;have u:=St.start w6;refine aY nQ hV bP M (λq O=>aE jQ (O.ext V) (aK u lO λb8 _ u=>aH (x:=x) u jQ rfl rfl λw8 u=>aE jQ u.At (aA mK (cD ym (Y.ext u.aF) (aI yn (hR.ext (V.trans u.aF)) (aM bP ?_))))));rw[hn];refine gJ.mono (hy _ x _ w8 (Ox M) (Oy _ _ _ B u.aF)) ?_;rintro v w9 (⟨rfl,FK⟩|⟨rfl,Ac⟩)
  .exact bJ (ep (aM bP ⟨_,bP,j+1,rfl,rfl,bP,FK⟩))
  exact bJ (gE (.inr Ac))
 refine .inl ?_;rw[px];unfold jb;rw[kE,show p.iJ.length=j from bP];exact B
def C116(pv:bZ)(w:World):CR 116 [iS pv] w (λv w'=>∃b,v=.func (.func 220) [].toArray [.pointer (some ⟨b,0,none⟩)].toArray/\mD (bM b (jn pv)) w w'):=by
 have u:=St.start w;refine eR Tryz.func116 ?_;exact cE u (λb _ u=>⟨b,rfl,u.fresh⟩)
def C51(p:bQ)(pv:bZ)(w:World)(hp:l3 w pv p)(hz:PZ p):CR 51 [iS pv] w (λv w'=>mD (bH v (cX p)) w w'):=by
 have hac:=rh hz.toPS;have my:(oL p).length=(jb p).length:=px p;obtain⟨I,U,cZ,cA,Z,cI,rfl,eN,fW,fN,eJ,eW,fB⟩:=hp;have u:=St.start w;refine eR Tryz.func51 ?_;refine cE u (λbp _ u=>fo u V7 rfl λb3 _ u=>aE fS u.p1.At (dW I2 (C116 _ _) ?_));rintro _ _ ⟨b,rfl,dw⟩;have u:=(u.made dw).eD (α:=ByteArray)
 refine q7 (cap:=[.pointer (some ⟨b,0,none⟩)]) (xs:=(oL p).map λq=>[iS q.1,hZ q.2]) I3 u
  (λk M=>∃G,M=[bH G (((jb p).take k).map bO.name),bM b (jn (⟨I,U,cZ,cA,Z,cI⟩:bZ)),bM b3 [G],bM bp (jn (⟨I,U,cZ,cA,Z,cI⟩:bZ))]) (λ_ _=>False) ⟨_,rfl⟩ (by intro x V;obtain⟨q,_,rfl⟩:=n0.1 V;rfl) ?_ ?_ ?_ ?_ ?_ ?_
 .intro y J Jx W hJ Oy Kv hy;refine(C220 y b I U p J Jx w W hz.toPS eN (DL.flat fW) (λk W E=>?_) Oy Kv λk c i W V E=>hy k [iS c,hZ i] W (by rw[n3,V];rfl) E).mono λ_ _ r=>r.mono λv W' h=>?_
  .obtain⟨Y,M,⟨G,rfl⟩,O⟩:=hJ k W E;exact⟨O.p2.hb.cell rfl,O.p2.hb.cell rfl,O.aF⟩
  simpa using h
 .rintro k args Y1 Y2 B Kr M W E ⟨G,rfl⟩ hB hN hR u;rw[n3]at E;obtain⟨q,hq,rfl⟩:=yI.1 E;have kH:=(j0.1 hq).1;have hc:(jb p)[k]?=some q.1:=by rw[<- u0,n3,hq];rfl
  have Uz:(((jb p).take k).map bO.name).length=k:=by rw[nP,mg];omega
  dsimp only[yf];refine aK u lO (λb4 _ u=>aH (x:=q.1) u jQ rfl rfl λ_ u=>?_);refine hB _ _ _ u.p1 (λ_ u=>?_);refine aB lT u.p4.hb rfl (aA m8 (aB (v:=.string q.1.name) jZ u.p1.hb rfl (bK ([bO.name q.1]) u iN rfl rfl (dQ rfl) λs8 _ u=>?_)));have hr:=u.eS;refine cO u.p3 iN hr (by rw[Uz,nB];omega) ea (λs9 _ u=>aO u.p5 lT (dQ rfl) (Cb u.eS) λ_ u=>?_);refine hN _ _ ?_ ⟨s9,rfl⟩;rw[<- nn (k:=k) hc];exact u.p2.drop.p3.drop.p3.p2.p3
 .rintro D M W ⟨G,rfl⟩ u;refine aB lT u.p3.hb rfl ?_;refine yz u (λ_ u=>?_);rw[nP,my,Tu]at u;exact u.p1.drop.p1.drop.p1.drop.fresh
 .rintro D M W h;exact h.elim
 .rintro id D M W h;exact h.elim
 rintro c M h;exact h.elim
def C56(p:bQ)(pv:bZ)(w:World)(hp:l3 w pv p)(hz:PZ p):CR 56 [iS pv] w (λv w'=>mD (bH v (fM p)) w w'):=by
 have hac:=rh hz.toPS;have my:(oL p).length=(jb p).length:=px p;obtain⟨I,U,cZ,cA,Z,cI,rfl,eN,fW,fN,eJ,eW,fB⟩:=hp;have u:=St.start w;refine eR Tryz.func56 ?_;refine cE u (λbp _ u=>fo u V4 rfl λb3 _ u=>aE fS u.p1.At (dW I2 (C116 _ _) ?_));rintro _ _ ⟨b,rfl,dw⟩;have u:=(u.made dw).eD (α:=Int)
 refine q7 (cap:=[.pointer (some ⟨b,0,none⟩)]) (xs:=(oL p).map λq=>[iS q.1,hZ q.2]) I3 u
  (λk M=>∃G,M=[bH G (((jb p).take k).map bO.n),bM b (jn (⟨I,U,cZ,cA,Z,cI⟩:bZ)),bM b3 [G],bM bp (jn (⟨I,U,cZ,cA,Z,cI⟩:bZ))]) (λ_ _=>False) ⟨_,rfl⟩ (by intro x V;obtain⟨q,_,rfl⟩:=n0.1 V;rfl) ?_ ?_ ?_ ?_ ?_ ?_
 .intro y J Jx W hJ Oy Kv hy;refine(C220 y b I U p J Jx w W hz.toPS eN (DL.flat fW) (λk W E=>?_) Oy Kv λk c i W V E=>hy k [iS c,hZ i] W (by rw[n3,V];rfl) E).mono λ_ _ r=>r.mono λv W' h=>?_
  .obtain⟨Y,M,⟨G,rfl⟩,O⟩:=hJ k W E;exact⟨O.p2.hb.cell rfl,O.p2.hb.cell rfl,O.aF⟩
  simpa using h
 .rintro k args Y1 Y2 B Kr M W E ⟨G,rfl⟩ hB hN hR u;rw[n3]at E;obtain⟨q,hq,rfl⟩:=yI.1 E;have kH:=(j0.1 hq).1;have hc:(jb p)[k]?=some q.1:=by rw[<- u0,n3,hq];rfl
  have Uz:(((jb p).take k).map bO.n).length=k:=by rw[nP,mg];omega
  dsimp only[yf];refine aK u lO (λb4 _ u=>aH (x:=q.1) u jQ rfl rfl λ_ u=>?_);refine hB _ _ _ u.p1 (λ_ u=>?_);refine aB eK u.p4.hb rfl (aA uv (aB (v:=hZ q.1.n) bL u.p1.hb rfl (bK ([bO.n q.1]) u dG rfl rfl (dQ rfl) λs8 _ u=>?_)));have hr:=u.eS;refine cO u.p3 dG hr (by rw[Uz,nB];omega) ea (λs9 _ u=>aO u.p5 eK (dQ rfl) (Cb u.eS) λ_ u=>?_);refine hN _ _ ?_ ⟨s9,rfl⟩;rw[<- nn (k:=k) hc];exact u.p2.drop.p3.drop.p3.p2.p3
 .rintro D M W ⟨G,rfl⟩ u;refine aB eK u.p3.hb rfl ?_;refine yz u (λ_ u=>?_);rw[nP,my,Tu]at u;exact u.p1.drop.p1.drop.p1.drop.fresh
 .rintro D M W h;exact h.elim
 .rintro id D M W h;exact h.elim
 rintro c M h;exact h.elim
theorem I8:∀(vs:List bO) (k:Int) (j:Nat) (q:bO×Int),(FJ k vs)[j]?=some q->q.2=k+j
 | [],_,_,_,h=>by simp[FJ]at h
 | c::r,k,0,q,h=>by simp[FJ]at h;grind
 | c::r,k,j+1,q,h=>by
  have:=I8 r (k+1) j q (by simpa[FJ]using h)
  omega
theorem EG(vs:List bO):∀(ls:List (List bO)) (i:Int) (a:Nat) (q:bO×Int),(GU i ls++FJ (i+ls.length) vs)[a]?=some q->iE ls i a=q.2
 | [],i,a,q,h=>by
  have:=I8 vs (i+0) a q (by simpa[GU]using h)
  unfold iE;omega
 | l::r,i,a,q,h=>by
  unfold iE
  by_cases u:a<l.length
  .rw[fh bP]
   rw[GU,mu,qk cR,n3]at h
   grind
  .rw[fg bP]
   rw[GU,mu,o1 (by simp;omega),nP]at h
   have e:(i+((l::r).length:Nat):Int)=i+1+(r.length:Nat):=cR
   rw[e]at h
   have:=EG vs r (i+1) (a-l.length) q h
   grind
theorem Oz{p:bQ}{k:Nat}{q:bO×Int}(h:(oL p)[k]?=some q):po p k=q.2:=by
 have u:=(j0.1 h).1
 rw[px]at u
 unfold po
 rw[fg bP]
 exact EG p.iJ p.lines 0 k q (by unfold oL at h;grind)
def C53(p:bQ)(pv:bZ)(c:Int)(w:World)(hp:l3 w pv p)(hz:PZ p):CR 53 [iS pv,hZ c] w (λv w'=>v=hZ (po p c)/\Ext w w'):=by
 have hac:=rh hz.toPS;have my:(oL p).length=(jb p).length:=px p;obtain⟨I,U,cZ,cA,cC,cI,rfl,eN,fW,fN,eJ,eW,fB⟩:=hp;have u:=St.start w;refine eR Tryz.func53 ?_;refine cE u (λbp _ u=>jP u rfl λb3 _ u=>fo u sM rfl λb4 _ u=>fo u sM rfl λb5 _ u=>aO u bL (dQ rfl) rfl λ_ u=>aE fS u.p3.At (dW I2 (C116 _ _) ?_));rintro _ _ ⟨b,rfl,dw⟩;have u:=u.made dw
 refine q7 (cap:=[.pointer (some ⟨b,0,none⟩)]) (xs:=(oL p).map λq=>[iS q.1,hZ q.2]) I3 u
  (λk M=>(∀j:Nat,j<k->¬ (j:Int)=c)/\M=[bM b (jn (⟨I,U,cZ,cA,cC,cI⟩:bZ)),bM b5 [hZ (k:Int)],bM b4 [hZ 0],bM b3 [hZ c],bM bp (jn (⟨I,U,cZ,cA,cC,cI⟩:bZ))])
  (λcd M=>cd=.ret/\M=[bM b4 [hZ (po p c)]]) ⟨bP,rfl⟩ (by intro x Z;obtain⟨q,_,rfl⟩:=n0.1 Z;rfl) ?_ ?_ ?_ ?_ ?_ ?_
 .intro y J Jx W hJ Oy Kv hy;refine(C220 y b I U p J Jx w W hz.toPS eN (DL.flat fW) (λk W E=>?_) Oy Kv λk c i W Z E=>hy k [iS c,hZ i] W (by rw[n3,Z];rfl) E).mono λ_ _ r=>r.mono λv W' h=>?_
  .obtain⟨Y,M,⟨_,rfl⟩,O⟩:=hJ k W E;exact⟨O.p1.hb.cell rfl,O.p1.hb.cell rfl,O.aF⟩
  simpa using h
 .rintro k args Y1 Y2 B Kr M W E ⟨G,rfl⟩ hB hN hR u;rw[n3]at E;obtain⟨q,hq,rfl⟩:=yI.1 E;have kH:=(j0.1 hq).1;dsimp only[yf];refine hB _ _ _ u (λ_ u=>?_);refine aB bL u.p2.hb rfl (aB bL u.p4.hb rfl (aG (aC (λV=>?_) λV=>aB bL u.p2.hb rfl (aM bP (aO u.p2 bL (dQ rfl) rfl λ_ u=>hN _ _ u.p2.p2.p0 ⟨λj hj=>?_,rfl⟩)))))
  .refine aO u.p3 bL (dQ rfl) rfl (λ_ u=>?_);refine hR _ [bM b4 [hZ (po p c)]] _ ?_ ⟨rfl,rfl⟩;rw[<- V,Oz hq];exact u.p2.drop.p2.drop.p2.drop.p2.drop.p1
  rcases Nat.lt_or_ge j k with h|h
  .exact G j h
  rw[show j=k from bP];exact V
 .rintro D M W ⟨G,rfl⟩ u;refine aO u.p3 bL (dQ rfl) rfl (λ_ u=>?_);refine yz u.p1 (λ_ u=>?_);refine aB bL u.hb rfl ?_;refine⟨gl (mf .i64) ?_,u.aF⟩;unfold po;rw[nP]at G
  rw[fh (by
   rcases Int.lt_or_le c 0 with h|h
   .exact .inl h
   .refine .inr ?_;have:=G c.toNat;omega)]
 .rintro D M W ⟨_,rfl⟩ u;refine yz u (λ_ u=>?_);exact aB bL u.hb rfl ⟨rfl,u.aF⟩
 .rintro id D M W ⟨h,_⟩;cases h
 rintro c M ⟨h,_⟩;exact .inr h
variable (w:World) (K:Value->hU)
def ahX:dI:=λi=>match i with
 | 22=>.run 0 6
 | _=>.nil
theorem acn:PL 108:=dD Tryz.func108
theorem OA:PL 202:=dD Tryz.func202
end Go.Proofs.YtdncbeepkacgbaaGreatDoor
namespace Go.Fw
open Go.MapKept (Stamped IsKey)
open Go.ChangeMaps (setBlock)
def tu(l:List SI)(k:ByteArray)(v:Int):List SI:=if l.any (λp=>decide (p.1=k))then l.map (λp=>if p.1=k then(k,v)else p)else l++[(k,v)]
theorem A0:∀(l:List SI) (k u:ByteArray) (v:Int),(∀p∈l,p.1≠k)->dF (l++[(k,v)]) u=if k=u then v else dF l u
 | [],k,u,v,_=>rfl
 | p::r,k,u,v,h=>by
  have E:=A0 r k u v (λq B=>h q (o5 _ B))
  have G:=h p (oi ..)
  show(if p.1=u then p.2 else dF (r++[(k,v)]) u)=_
  rw[E]
  show _=if k=u then v else(if p.1=u then p.2 else dF r u)
  grind
theorem vZ:∀(l:List SI) (k u:ByteArray) (v:Int),l.any (λp=>decide (p.1=k))=true->dF (l.map λp=>if p.1=k then(k,v)else p) u=if k=u then v else dF l u
 | [],_,_,_,h=>by simp at h
 | p::r,k,u,v,h=>by
  rw[EA]
  by_cases h1:p.1=k
  .rw[fh h1]
   show(if k=u then v else dF (r.map _) u)=if k=u then v else(if p.1=u then p.2 else dF r u)
   by_cases h2:k=u
   .grind
   .rw[fg h2,fg h2,fg λe=>h2 (h1.symm.trans e)]
    by_cases h3:r.any (λp=>decide (p.1=k))=true
    .rw[vZ r k u v h3,fg h2]
    .congr 1
     have:∀q∈r,q.1≠k:=λq B e=>h3 (uZ.2 ⟨q,B,fY e⟩)
     conv=>rhs;rw[<- List.map_id r]
     exact wi λq B=>fg (this q B)
  .rw[fg h1]
   have h3:r.any (λp=>decide (p.1=k))=true:=by
    grind
   show(if p.1=u then p.2 else dF (r.map _) u)=if k=u then v else(if p.1=u then p.2 else dF r u)
   rw[vZ r k u v h3]
   grind
theorem v7(l:List SI)(k u:ByteArray)(v:Int):dF (tu l k v) u=if k=u then v else dF l u:=by
 unfold tu
 by_cases h:l.any (λp=>decide (p.1=k))=true
 .rw[fh h,vZ l k u v h]
 rw[fg h,A0 l k u v λp B e=>h (uZ.2 ⟨p,B,fY e⟩)]
def SH{l:List SI}{k:ByteArray}{v:Int}(h:∀p∈l,p.2≠0)(B:v≠0):∀p∈tu l k v,p.2≠0:=by
 intro p u
 unfold tu at u
 grind
section
variable {P:Program}{w w0 w':World}{A:Nat->Prop}{L:List HP}{b:Nat}{l:List SI}
theorem OB{T J E:TypeId}{v:Int}{k:ByteArray}(h:pj w b l)(ht:P.underlying T=some (.map J E))(M:P.underlying J=some .string) :
  ∃w',(rf T (.map (some b)) (.string k) (hZ v)).run P w=.ok () w'/\fD (· = b) w w'/\pj w' b (tu l k v):=by
 by_cases ej:∀p∈l,p.1≠k
 .have:l.any (λp=>decide (p.1=k))=false:=by
   grind
  unfold tu
  rw[fg cR]
  exact Ej h ht M ej
 have Z:l.any (λp=>decide (p.1=k))=true:=by
  grind
 unfold tu
 rw[fh Z]
 have kH:=h.lt
 obtain⟨es,c,h1,h2,h3⟩:=h
 have hc:=MapKept.run_checkKey (P:=P) (w:=w) (kt:=J) (k:=.string k) M (by simp[IsKey]) false 9999
 rcases MapKept.findNow_spec (d:=.string) (k:=.string k) (by simp[IsKey]) es.toList 0 (λx G=>by obtain⟨p,_,e,_⟩:=NK h3 G;rw[e];simp[IsKey])with⟨V,g2⟩|⟨j,e,V,g2,g4⟩
 .obtain⟨p,U,he⟩:=uZ.1 Z
  obtain⟨x,G,e1,_⟩:=NL h3 U
  grind
 have W:=MapKept.run_findKey (P:=P) (w:=w) M V
 rw[o6]at W
 have Y:es[j]?=some e:=cR
 have gi:(Hj e.key (.string k)).run P w=.ok (.string k) w:=by
  have qn:(k == k)=true:=by cases k with|mk d=>exact beq_self_eq_true d
  rw[g4];unfold Hj;simp[Instr.sameBits,qn]
 refine⟨_,?_,fD.setBlock w b (.map (es.modify j λe=>{e with key:=.string k,val:=hZ v}) c),?_⟩
 .simp[rf,run_underlying ht,MapKept.run_getObj_map h1,hc,W,j9 h1,Result.andThen,Y,gi]
 have CW:∀u,es[j]?=some u->({u with key:=.string k,val:=hZ v}:MapEntry).key=u.key:=λu B=>by
  grind
 refine⟨_,_,gT _ kH,MapKept.stamped_modify h2 j _ (λ_ _=>rfl) (λu _ B=>CW u B),?_⟩
 let g:Value×Value->Value×Value:=λq=>match q.1 with|.string s=>if s=k then(.string k,hZ v)else q|_=>q
 have hg:(es.modify j λe=>{e with key:=.string k,val:=hZ v}).toList.map (λe=>(e.key,e.val))=(es.toList.map λe=>(e.key,e.val)).map g:=by
  apply List.ext_getElem?
  intro i
  simp only[n3,Array.getElem?_toList,Array.getElem?_modify]
  by_cases O:j=i
  .grind
  .rw[fg O]
   cases G:es[i]? with
   | none=>rfl
   | some x=>
    have Ak:x.key≠.string k:=λhxk=>by
     have hi:=(vO.1 G)
     have hj:=(vO.1 Y)
     obtain⟨hi1,WQ⟩:=hi
     obtain⟨hj1,FK⟩:=hj
     have U:=Lg.1 h2.2.2
     grind
    grind
 have hl:(l.map λp=>if p.1=k then(k,v)else p).map IN=(l.map IN).map g:=by
  rw[CU,CU]
  refine wi λp _=>?_
  show IN (if p.1=k then(k,v)else p)=g (IN p)
  by_cases I:p.1=k
  .rw[fh I];simp[g,IN,I]
  .rw[fg I];simp[g,IN,I]
 grind
theorem OC{T G E:TypeId}{v:Int}{k:ByteArray}{K:hU}(B:St w0 A (Fw.jJ b l::L) w)(ht:P.underlying T=some (.map G E))(u:P.underlying G=some .string)
  (J:∀w',St w0 A (Fw.jJ b (tu l k v)::L) w'->K w'):LW P (rf T (.map (some b)) (.string k) (hZ v)) w K:=by
 obtain⟨w',h1,h2,h3⟩:=OB (P:=P) (v:=v) (k:=k) B.jJ ht u
 exact⟨w',h1,J w' (B.mJ λF I=>⟨F,⟨h3,I.2⟩,λb hb=>.inl hb,h2.mono λk u=>(I.2 k).2 u⟩)⟩
end
end Go.Fw
namespace Go.Proofs.YtdncbeepkacgbaaGreatDoor
open Go.Fw
def nw(b3 b4 B u:Nat)(l:List SI)(tw:Bool)(a:Int):HP:=sep (bM b3 [.map (some u)]) (sep (bM b4 [.bool tw]) (sep (bM B [hZ a]) (jJ u l)))
def nw.shut{w0 w:World}{A:Nat->Prop}{L:List HP}{b3 b4 B u:Nat}{l:List SI}{tw:Bool}{a:Int}(E:St w0 A (jJ u l::bM B [hZ a]::bM b4 [.bool tw]::bM b3 [.map (some u)]::L) w):St w0 A (nw b3 b4 B u l tw a::L) w:=
 St.join (St.join (St.join E.p1).p1).p1
def nw.open{w0 w:World}{A:Nat->Prop}{L:List HP}{b3 b4 B u:Nat}{l:List SI}{tw:Bool}{a:Int}(E:St w0 A (nw b3 b4 B u l tw a::L) w):St w0 A (jJ u l::bM B [hZ a]::bM b4 [.bool tw]::bM b3 [.map (some u)]::L) w:=
 E.split.p1.split.p1.split.p1
def atN(l:List SI)(name:ByteArray)(tw:Bool)(place a:Int):Int:=if dF l name≠0/\tw=false then place else a
def SJ(l:List SI)(name:ByteArray)(tw:Bool):Bool:=tw||decide (dF l name≠0)
theorem C202(name:ByteArray)(B place:Int)(b3 b4 G E:Nat)(l:List SI)(tw:Bool)(a:Int)(F:Nat->Prop)(w:World)(M:(nw b3 b4 G E l tw a).p w F) :
  CR 202 [.string name,hZ B,hZ place,.pointer (some ⟨b3,0,none⟩),.pointer (some ⟨b4,0,none⟩),.pointer (some ⟨G,0,none⟩)] w (λv w'=>v=.tuple #[]/\mC F (nw b3 b4 G E (tu l name B) (SJ l name tw) (atN l name tw place a)) w w'):=by
 have u:=nw.open (St.begin M);refine eR Tryz.func202 ?_;refine⟨λw'=>St w F [jJ E l,bM G [hZ (atN l name tw place a)],bM b4 [.bool (SJ l name tw)],bM b3 [.map (some E)]] w',⟨λO w'=>O=.bool (decide (dF l name≠0)&&!tw)/\w'=w,aB AI u.p3.hb rfl (si u.jJ Tryz.underlying184 Tryz.underlying9 sM (cB (aC (λc=>aB BO u.p2.hb rfl (bJ ⟨vb (by rw[fY c,tM]),rfl⟩)) λc=>⟨vb (by rw[fZ c,Bool.false_and]),rfl⟩))),?_⟩,?_⟩
 .rintro _ _ ⟨rfl,rfl⟩ _;refine bD (λc=>?_) (λc=>?_)
  .have hc:dF l name≠0/\tw=false:=by simpa using c
   refine aO u.p1 bL (dQ rfl) rfl (λ_ u=>aO u.p2 BO (dQ rfl) rfl λ_ u=>?_);have J:atN l name tw place a=place:=fh hc;have I:SJ l name tw=true:=by unfold SJ;rw[fY hc.1,Bool.or_true]
   rw[J,I];exact u.p1.p2
  have hc:¬ (dF l name≠0/\tw=false):=by simpa using c
  have J:atN l name tw place a=a:=fg hc
  have I:SJ l name tw=tw:=by
   unfold SJ;cases tw with
   | true=>rfl
   | false=>rw[P1];exact fZ λh=>hc ⟨h,rfl⟩
  rw[J,I];exact u
 rintro _ u _;exact aB AI u.p3.hb rfl (OC u Tryz.underlying184 Tryz.underlying9 λ_ u=>⟨rfl,(nw.shut u).mut⟩)
def OD(st:List SI×Bool×Int)(q:ByteArray×Int×Int):List SI×Bool×Int:=(tu st.1 q.1 q.2.1,SJ st.1 q.1 st.2.1,atN st.1 q.1 st.2.1 q.2.2 st.2.2)
def wV(p:bQ)(i:Int):Int:=if (p.lines.length:Int)<=i then 2 else 1
def L7(p:bQ):List (ByteArray×Int×Int):=(oL p).map λq=>(q.1.name,wV p q.2,q.1.at_)
def KS(p:bQ):List (ByteArray×Int×Int):=p.eV.map λc=>(c.name,3,c.at_)
def L8(p:bQ):List (ByteArray×Int×Int):=p.threads.map λt=>(t.name,4,t.at_)
def tQ(l:List (ByteArray×Int×Int))(st:List SI×Bool×Int):List SI×Bool×Int:=l.foldl OD st
def wW(p:bQ):List SI×Bool×Int:=tQ (L8 p) (tQ (KS p) (tQ (L7 p) ([],false,0)))
theorem y8{l:List (ByteArray×Int×Int)}{st:List SI×Bool×Int}{k:Nat}{q:ByteArray×Int×Int}(h:l[k]?=some q):tQ (l.take (k+1)) st=OD (tQ (l.take k) st) q:=by
 unfold tQ;rw[<- gm h,x6];rfl
abbrev NO(b3 b4 B u:Nat)(st:List SI×Bool×Int):HP:=nw b3 b4 B u st.1 st.2.1 st.2.2
def C108(p:bQ)(pv:bZ)(w:World)(hp:l3 w pv p)(hz:PZ p):CR 108 [iS pv] w (λv w'=>∃G,v=.tuple #[.map (some G),hZ (wW p).2.2,.bool (wW p).2.1]/\mD (jJ G (wW p).1) w w'):=by
 have hac:=rh hz.toPS;have my:(oL p).length=(jb p).length:=px p;have hzl:=hz.lines;have hzk:=hz.eV;have hzt:=hz.threads;obtain⟨O,U,V,Z,cC,cI,rfl,eN,fW,fN,eJ,eW,fB⟩:=hp;obtain⟨SK,hR1,hD1⟩:=eN.open;have Vh:=hD1.1;obtain⟨rA,Ok,Ol⟩:=eJ.open;have Sr:=Ol.1;have hKr:=DL.flat fN;have u:=St.start w;refine qg Tryz.func108 (pl:=ahX) ?_;refine cE u (λbp w1 u=>Ek u λG _ u=>fo u Iq rfl λb3 _ u=>aO u AI (dQ rfl) rfl λ_ u=>fo u sM rfl λE _ u=>fo u MK rfl λb4 _ u=>aO u BO (dQ rfl) rfl λ_ u=>fo u RR rfl λb8 _ u=>aO u Ir (dQ rfl) rfl λ_ u=>aE fS u.p5.At (have u:=nw.shut (a:=0) (tw:=false) u.p3.p2.p3.p4;dW I2 (C116 _ _) ?_))
 rintro _ _ ⟨b,rfl,dw⟩;have u:=u.made dw
 refine q7 (cap:=[.pointer (some ⟨b,0,none⟩)]) (xs:=(oL p).map λq=>[iS q.1,hZ q.2]) I3 u
  (λk M=>M=[bM b (jn (⟨O,U,V,Z,cC,cI⟩:bZ)),NO b3 b4 E G (tQ ((L7 p).take k) ([],false,0)),bM b8 [(.func (.func 202) [].toArray [.pointer (some ⟨b3,0,none⟩),.pointer (some ⟨b4,0,none⟩),.pointer (some ⟨E,0,none⟩)].toArray)],bM bp (jn (⟨O,U,V,Z,cC,cI⟩:bZ))]) (λ_ _=>False) rfl (by intro x hx;obtain⟨q,_,rfl⟩:=n0.1 hx;rfl) ?_ ?_ ?_ ?_ ?_ ?_
 .intro y J Jx W hJ Oy Kv hy;refine(C220 y b O U p J Jx w W hz.toPS eN (DL.flat fW) (λk W I=>?_) Oy Kv λk c i W hx I=>hy k [iS c,hZ i] W (by rw[n3,hx];rfl) I).mono λ_ _ r=>r.mono λv W' h=>?_
  .obtain⟨Y,M,rfl,hS⟩:=hJ k W I;exact⟨hS.p1.hb.cell rfl,hS.p1.hb.cell rfl,hS.aF⟩
  simpa using h
 .rintro k args Y1 Y2 B Kr M W I rfl hB hN hR u;rw[n3]at I;obtain⟨q,hq,rfl⟩:=yI.1 I;have hc:(L7 p)[k]?=some (q.1.name,wV p q.2,q.1.at_):=by unfold L7;rw[n3,hq];rfl
  dsimp only[yf];refine aK u lO (λb9 _ u=>aH (x:=q.1) u jQ rfl rfl λ_ u=>?_);refine hB _ _ _ u.p1 (λOE u=>?_);refine⟨λjv w'=>jv=hZ (wV p q.2)/\w'=OE,aA mK (aB (v:=iS O) ym u.p5.hb rfl (aI yn (hR1.ext u.aF) (cJ (aC (λ_=>⟨gl (mf .i64) (fh bP).symm,rfl⟩) λ_=>⟨gl (mf .i64) (fg bP).symm,rfl⟩)))),?_⟩;rintro _ _ ⟨rfl,rfl⟩ _;refine aB Ir u.p4.hb rfl (aA m8 (aB (v:=.string q.1.name) jZ u.p1.hb rfl (aA uw (aB (v:=hZ q.1.at_) bL u.p1.hb rfl (yR (first:=[]) (cap:=[.pointer (some ⟨b3,0,none⟩),.pointer (some ⟨b4,0,none⟩),.pointer (some ⟨E,0,none⟩)]) (H':=λ_=>NO b3 b4 E G (OD (tQ ((L7 p).take k) ([],false,0)) (q.1.name,(wV p q.2),q.1.at_))) (Φ:=λv _=>v=.tuple #[]) OA u.p3 (λF hF _=>C202 q.1.name (wV p q.2) q.1.at_ b3 b4 E G _ _ _ F _ hF) λv _ _ u=>?_)))))
  refine hN _ _ ?_ rfl;rw[y8 hc];exact u.p2.drop.p2.p2
 .rintro D M W rfl u;rw[nP,show(L7 p).take (oL p).length=L7 p from kO (by unfold L7;rw[nP];exact om _)]at u;obtain⟨s0,hs0⟩:∃s,s=tQ (L7 p) ([],false,0):=⟨_,rfl⟩;rw[<- hs0]at u;refine aA rX (aB (v:=iS V) sy u.p4.hb rfl (aI nQ (hKr.ext u.aF) ?_));refine⟨λm x w1=>∃k:Nat,x=hZ (k:Int)/\m=p.eV.length-k/\k<=p.eV.length/\St w bF [jV D (.deferred (some [])),bM b (jn (⟨O,U,V,Z,cC,cI⟩:bZ)),NO b3 b4 E G (tQ ((KS p).take k) s0),bM b8 [(.func (.func 202) [].toArray [.pointer (some ⟨b3,0,none⟩),.pointer (some ⟨b4,0,none⟩),.pointer (some ⟨E,0,none⟩)].toArray)],bM bp (jn (⟨O,U,V,Z,cC,cI⟩:bZ))] w1,⟨_,0,rfl,rfl,mj _,(by rw[show tQ ((KS p).take 0) s0=s0 from rfl];exact u)⟩,?_⟩
  rintro m _ _ ⟨k,rfl,rfl,I,u⟩ _;refine aQ (aC (λc=>?_) λc=>?_)
  .obtain⟨x,hx⟩:=gx p.eV (i:=((k:Nat):Int).toNat) bP;have hx':p.eV[k]?=some x:=hx;have hc:(KS p)[k]?=some (x.name,3,x.at_):=by unfold KS;rw[n3,hx'];rfl
   refine aY nQ hKr bP hx (λq hq=>aE jQ (hq.ext u.aF) (aK u lO λb9 _ u=>aH (x:=x) u jQ rfl rfl λ_ u=>aB Ir u.p4.hb rfl (aA m8 (aB (v:=.string x.name) jZ u.hb rfl (aA uw (aB (v:=hZ x.at_) bL u.hb rfl (yR (first:=[]) (cap:=[.pointer (some ⟨b3,0,none⟩),.pointer (some ⟨b4,0,none⟩),.pointer (some ⟨E,0,none⟩)]) (H':=λ_=>NO b3 b4 E G (OD (tQ ((KS p).take k) s0) (x.name,3,x.at_))) (Φ:=λv _=>v=.tuple #[]) OA u.p3 (λF hF _=>C202 x.name 3 x.at_ b3 b4 E G _ _ _ F _ hF) λv _ _ u=>aM bP ?_)))))));refine⟨_,bP,k+1,rfl,rfl,bP,?_⟩
   rw[y8 hc];exact u.p1.drop.p2.p2
  rw[show(KS p).take k=KS p from kO (by unfold KS;rw[nP];omega)]at u;obtain⟨s1,KT⟩:∃s,s=tQ (KS p) s0:=⟨_,rfl⟩;rw[<- KT]at u;refine aA pO (aB (v:=iS Z) pN u.p4.hb rfl (aI kJ (Ok.ext u.aF) ?_));refine⟨λm x w1=>∃k:Nat,x=hZ (k:Int)/\m=rA.length-k/\k<=rA.length/\St w bF [jV D (.deferred (some [])),bM b (jn (⟨O,U,V,Z,cC,cI⟩:bZ)),NO b3 b4 E G (tQ ((L8 p).take k) s1),bM b8 [(.func (.func 202) [].toArray [.pointer (some ⟨b3,0,none⟩),.pointer (some ⟨b4,0,none⟩),.pointer (some ⟨E,0,none⟩)].toArray)],bM bp (jn (⟨O,U,V,Z,cC,cI⟩:bZ))] w1,⟨_,0,rfl,rfl,mj _,(by rw[show tQ ((L8 p).take 0) s1=s1 from rfl];exact u)⟩,?_⟩
  rintro m _ _ ⟨k,rfl,rfl,I,u⟩ _;refine aQ (aC (λc=>?_) λc=>?_)
  .obtain⟨t,ht⟩:=gx rA (i:=((k:Nat):Int).toNat) bP;obtain⟨r,hr⟩:=gx p.threads (i:=k) bP;obtain⟨gr,gb,rfl,_,_⟩:=Ol.2 _ _ _ ht hr;have hc:(L8 p)[k]?=some (r.name,4,r.at_):=by unfold L8;rw[n3,hr];rfl
   refine aY kJ Ok bP ht (λq hq=>aE lq (hq.ext u.aF) (aK u r8 λb9 _ u=>aH u lq rfl rfl λ_ u=>aB Ir u.p4.hb rfl (aA yr (aB (v:=.string r.name) jZ u.hb rfl (aA yt (aB (v:=hZ r.at_) bL u.hb rfl (yR (first:=[]) (cap:=[.pointer (some ⟨b3,0,none⟩),.pointer (some ⟨b4,0,none⟩),.pointer (some ⟨E,0,none⟩)]) (H':=λ_=>NO b3 b4 E G (OD (tQ ((L8 p).take k) s1) (r.name,4,r.at_))) (Φ:=λv _=>v=.tuple #[]) OA u.p3 (λF hF _=>C202 r.name 4 r.at_ b3 b4 E G _ _ _ F _ hF) λv _ _ u=>aM bP ?_)))))));refine⟨_,bP,k+1,rfl,rfl,bP,?_⟩
   rw[y8 hc];exact u.p1.drop.p2.p2
  rw[show(L8 p).take k=L8 p from kO (by unfold L8;rw[nP];omega),KT,hs0]at u;have u:=nw.open u.drew.p2;refine aB AI u.p3.hb rfl (aB bL u.p1.hb rfl (aB BO u.p2.hb rfl ?_));refine yz u.p4 (λ_ u=>?_);exact⟨G,rfl,u.p1.drop.p1.drop.p1.drop.p1.drop.p1.drop.p1.drop.fresh⟩
 .rintro D M W h;exact h.elim
 .rintro id D M W h;exact h.elim
 rintro c M h;exact h.elim
def pV(u:ByteArray)(G:Int)(I:Option Addr)(B E:Nat):pr hM (Instr.build 196 [(0,.string u),(1,hZ G),(2,.slice I B E)].toArray)=some (.agg [.string u,hZ G,.slice I B E].toArray):=by kernel_rfl
structure Cq where
 name:ByteArray
 at_:Int
 may:SV
instance:Flat Cq where
 agg:=true
 sz:=3
 enc e:=[.string e.name,hZ e.at_,.slice e.may.a e.may.n e.may.cap]
 val e:=.agg [.string e.name,hZ e.at_,.slice e.may.a e.may.n e.may.cap].toArray
 pos:=ea
 len _:=rfl
 one a v h:=by simp at h;rcases h with rfl|rfl|rfl<;>rfl
 lj _ _:=rfl
 lD h:=by cases h
variable (w:World) (K:Value->hU)
theorem Vn:PL 218:=dD Tryz.func218
theorem acq:PL 114:=dD Tryz.func114
theorem acr:PL 217:=dD Tryz.func217
end Go.Proofs.YtdncbeepkacgbaaGreatDoor
namespace Go.Fw
def GW:List Nat->HP
 | []=>eH λ_=>True
 | D::r=>sep (jV D (.deferred (some []))) (GW r)
def SL(P:Program)(w0:World)(A:Nat->Prop)(I:Nat->List HP->Prop)(E:hU)(y:Value)(B:Nat->List Value->(hU)->Prop):Prop:=
 ∀k args Φ W (R:HP) L,B k args Φ->(∀F u,R.p u F->Φ u)->I k L->St w0 A (R::L) W->gJ P y args W (λv u=>(v=.bool true/\∃L',I (k+1) L'/\St w0 A (R::L') u)\/(v=.bool false/\E u))
section
variable {P:Program}{w w0 w':World}{A:Nat->Prop}{L:List HP}
theorem GW.nil(u:St w0 A L w):St w0 A (GW []::L) w:=u.fG λ_=>trivial
theorem GW.take{K:hU}:∀(B:List Nat) {w:World},St w0 A (GW B::L) w->(∀w',St w0 A L w'->K w')->js B w K
 | [],_,u,k=>k _ u.drop
 | D::r,_,u,k=>by
  have h1:=u.split
  exact⟨h1.obj,GW.take r (h1.putObj _).drop k⟩
theorem OF{gf np:Nat}{cap:List Value}(n:Nat)(Ar:Nat->List Value->(hU)->Prop){round:List Value->World->(World->(hU)->Prop)->(Option Code->hU)->Prop}
  {N R:Nat->hU}{X:Nat->Nat->hU}(pl:Plain P gf) (hs:St w0 A L w) (I:Nat->List HP->Prop) (U:Code->List HP->Prop) (h0:I 0 L) (hnp:∀k a Φ,Ar k a Φ->a.length=np)
  (hgf:∀(y:Value) (Y:HP) (Z:hU) (W:World),(∃M,I 0 M/\St w0 A (Y::M) W)->SL P w0 A (λk L=>∃M,I k M/\L=Y::M) Z y Ar->
   Calls P gf ([y]++cap).toArray W (oU λ_ O=>(∃M,I n M/\St w0 A (Y::M) O)\/Z O))
  (yg:∀k args Φ (Y1 Y2:HP) (B:World->(hU)->Prop) (Kr:Option Code->hU) M W,Ar k args Φ->I k M->(∀F O,Y2.p O F->Φ O)->
   (∀M u (kk:hU),St w0 A (Y1::M) u->(∀w2,St w0 A (Y2::M) w2->kk w2)->B u kk)->
   (∀M u,St w0 A (Y2::M) u->I (k+1) M->Kr none u)->(∀c M u,St w0 A (Y2::M) u->U c M->Kr (some c) u)->
   St w0 A (Y1::M) W->round args W B Kr)
  (M7:∀D M W,I n M->St w0 A (jV D (.deferred (some []))::M) W->N D W)
  (V9:∀D M W,U .ret M->St w0 A (jV D (.deferred (some []))::M) W->R D W)
  (M8:∀id D M W,U (.exit id) M->St w0 A (jV D (.deferred (some []))::M) W->X id D W)
  (Gn:∀c M,U c M->(∃id,c=.exit id)\/c=.ret) :
  ua P (.func (.func gf) #[] cap.toArray) np w round (VS N R X):=by
 refine⟨gf,cap.toArray,rfl,pl,λG gi xl hy=>?_⟩
 obtain⟨l,hl⟩:∃l,l=w.heap.size+1:=⟨_,rfl⟩
 obtain⟨D,hD⟩:∃D,D=w.heap.size:=⟨_,rfl⟩
 rw[<- hl]at hy |-
 rw[<- hD]
 let Y:HP:=sep (jV l (.loop G)) (jV D (.deferred (some [])))
 let Z:hU:=λW=>∃c M,U c M/\St w0 A (jV l (.loop {G with state:=.done,pending:=some c})::jV D (.deferred (some []))::M) W
 have Kv:∃M,I 0 M/\St w0 A (Y::M) ((w.alloc (.deferred (some []))).alloc (.loop G)):=by
  refine⟨L,h0,?_⟩
  have h1:=(hs.alloc (o:=.deferred (some []))).alloc (o:=.loop G)
  rw[show(w.alloc (.deferred (some []))).heap.size=l from by rw[hl];exact vD w _,<- hD]at h1
  exact St.join h1
 have:=hgf (.func (.yield l) #[] #[]) Y Z _ Kv ?_
 .have e:([Value.func (.yield l) #[] #[]]++cap).toArray = #[.func (.yield l) #[] #[]]++cap.toArray:=ew
  rw[e]at this
  refine this.mono λx O ⟨v,hx,hv⟩=>⟨v,hx,?_⟩
  rcases hv with⟨M,J,E⟩|⟨c,M,J,E⟩
  .have E:=E.split
   refine⟨.ready,none,ew,?_,?_⟩
   .rw[<- gi,<- xl];exact E.obj
   exact M7 D M _ J (E.putObj _).drop
  refine⟨.done,some c,ew,E.obj,?_⟩
  rcases Gn c M J with⟨id,rfl⟩|rfl
  .exact M8 id D M _ J (E.putObj _).drop
  exact V9 D M _ J (E.putObj _).drop
 rintro k args Φ W R _ hk hR ⟨M,J,rfl⟩ E
 have V:=E.p1.split
 refine⟨.inr ⟨l,rfl,?_⟩⟩
 refine hy args W _ (hnp k args Φ hk) V.obj ?_
 refine yg k args Φ (sep (sep (jV l (.loop G)) (jV D (.deferred (some [])))) R) (sep (sep (jV l (.loop {G with state:=.busy})) (jV D (.deferred (some [])))) R) _ _ M W hk J (λF W2 ⟨_,F2,_,h2,_⟩=>hR F2 W2 h2)
  (λM u kk h1 h2=>?_) (λM u h1 h2=>?_) (λc M u h1 h2=>?_) (St.join (St.join V))
 .have h1:=h1.split.split
  exact⟨h1.obj,h2 _ (h1.putObj _).join.join⟩
 .have h1:=h1.split.split
  refine⟨h1.obj,.inl ⟨rfl,_,⟨M,h2,rfl⟩,?_⟩⟩
  have:=h1.putObj (.loop {G with state:=if (none:Option Code).isNone=true then LoopState.ready else LoopState.done,pending:=none})
  rw[yA G gi xl]at this |-
  exact(St.join this).p1
 have h1:=h1.split.split
 refine⟨h1.obj,.inr ⟨rfl,c,M,h2,?_⟩⟩
 exact(h1.putObj _).p2.drop
end
end Go.Fw
namespace Go.Proofs.YtdncbeepkacgbaaGreatDoor
open Go.Fw
abbrev UU:=ByteArray×Int×List Int
def mh(xs:List bI):List bI:=xs.filter λx=>decide (x.op=2)
theorem A1{xs:List bI}{k:Nat}{x:bI}(h:xs[k]?=some x):mh (xs.take (k+1))=mh (xs.take k)++(if x.op=2 then [x]else []):=by
 unfold mh;rw[<- gm h,HS];grind
def SM{xs:List bI}{k:Nat}{x:bI}(h:xs[k]?=some x)(u:x.op=2):(mh xs)[(mh (xs.take k)).length]?=some x:=by
 have h1:=drop_cons h
 have e:mh xs=mh (xs.take k)++mh (xs.drop k):=by unfold mh;rw[<- HS,ob]
 grind[mh]
def I9(l:List UU)(k:Nat)(args:List Value)(Φ:hU):Prop:=∃u s,l[k]?=some u/\args=[iS (⟨u.1,u.2.1,s⟩:Cq)]/\∀W,Φ W->dy (λ_=>True) W (iS s) u.2.2
def ahY{H H':HP}{Φ:hU}(h:∀F W,H.p W F->Φ W):∀F W,(sep H H').p W F->Φ W:=λ_ _ ⟨_,_,h1,_⟩=>h _ _ h1
def Cr{α:Type}[Flat α]{v:Value}{xs:List α}:∀F W,(bH v xs).p W F->dy (λ_=>True) W v xs:=λ_ _ h=>(bH.rd h).mono λ_ _=>trivial
def C218(lv y:Value)(xs:List bI)(may:Int)(ul:List UU)(B:Nat)(w0:World)(A:Nat->Prop)(I:Nat->List HP->Prop)(V:hU)(w:World)(hn:xs.length<=1048576)
  (hE:∀k L W,I k L->St w0 A L W->dy (λ_=>True) W lv xs) (h0:∃L,I B L/\St w0 A L w) (hu:∀(j:Nat) (x:bI),(mh xs)[j]?=some x->ul[B+j]?=some (x.name,x.at_,[may])) (hy:SL hM w0 A I V y (I9 ul)) :
  CR 218 [lv,hZ may,y] w (λv W=>(v=.bool true/\∃L,I (B+(mh xs).length) L/\St w0 A L W)\/(v=.bool false/\V W)):=by
 refine eR Tryz.func218 ?_;obtain⟨L0,G,E⟩:=h0;refine aI ju (hE _ _ _ G E) ?_;refine⟨λm x w1=>∃k:Nat,x=hZ (k:Int)/\m=xs.length-k/\k<=xs.length/\∃L,I (B+(mh (xs.take k)).length) L/\St w0 A L w1,⟨_,0,rfl,rfl,mj _,L0,G,E⟩,?_⟩;rintro m _ w1 ⟨k,rfl,rfl,hk,L1,J,u⟩ _;refine aQ (aC (λc=>?_) λc=>?_)
 .obtain⟨x,U⟩:=gx xs (i:=((k:Nat):Int).toNat) bP;refine aY ju (hE _ _ _ J u) bP U (λq hq=>aE wM hq (aK u BU λb8 _ u=>aH (x:=x) u wM rfl rfl λ_ u=>⟨λjv w'=>(jv=.bool false/\∃L,I (B+(mh (xs.take (k+1))).length) L/\St w0 A L w')\/(jv=.bool true/\V w'),aA im (aB (v:=hZ x.op) bL u.hb rfl (aG (aC (λM=>?_) λM=>?_))),?_⟩))
  .refine aA lW (aB (v:=.string x.name) jZ u.hb rfl (aA ux (aB (v:=hZ x.at_) bL u.hb rfl (bK ([may]:List Int) u.drop dG rfl rfl (dQ rfl) λs25 w4 u=>?_))));obtain⟨O,rfl⟩:=u.eS.gF;refine pop (pV x.name x.at_ O.a O.n O.cap) ?_;refine gJ.mono (hy _ _ _ w4 _ _ ⟨_,O,hu _ x (SM U M),rfl,λ_ h=>h⟩ Cr J u) ?_;rintro v w5 (⟨rfl,Y,FL,SN⟩|⟨rfl,Z⟩)
   .exact bJ (.inl ⟨rfl,Y,by rw[A1 (k:=k) U,fh M,kE];exact FL,SN.drop⟩)
   exact bJ (.inr ⟨rfl,Z⟩)
  .refine .inl ⟨rfl,L1,?_,u.drop⟩;rw[A1 (k:=k) U,fg M,List.append_nil];exact J
  rintro _ w6 (⟨rfl,Y,FL,u⟩|⟨rfl,Z⟩) _
  .exact ep (aM bP ⟨_,bP,k+1,rfl,rfl,bP,Y,FL,u⟩)
  exact gE (.inr ⟨rfl,Z⟩)
 rw[kO bP]at J;exact .inl ⟨rfl,L1,J,u⟩
def Cs(k:Int):List Int:=if k=5\/k=6 then [1]else if k=9\/k=10 then [3]else [1,2]
def v8(l:List bI):List UU:=(mh l).map λy=>(y.name,y.at_,[5])
def v9(x:aZ):List UU:=(if x.eO=⟨#[]⟩then []else [(x.eO,x.at_,[5])])++((if x.name=⟨#[]⟩then []else [(x.name,x.at_,Cs x.kind)])++(v8 x.e++v8 x.f))
def kD(xs:List aZ):List UU:=xs.flatMap v9
theorem A3{xs:List aZ}{k:Nat}{x:aZ}(h:xs[k]?=some x):kD (xs.take (k+1))=kD (xs.take k)++v9 x:=by
 unfold kD;rw[<- gm h,GD];simp
def SO{xs:List aZ}{k i:Nat}{x:aZ}{u:UU}(h:xs[k]?=some x)(hi:(v9 x)[i]?=some u):(kD xs)[(kD (xs.take k)).length+i]?=some u:=by
 have e:kD xs=kD (xs.take k)++(v9 x++kD (xs.drop (k+1))):=by
  rw[<- mu,<- A3 h];unfold kD;rw[<- GD,ob]
 grind
def Ja{l:List bI}{j:Nat}{y:bI}(h:(mh l)[j]?=some y):(v8 l)[j]?=some (y.name,y.at_,[5]):=by unfold v8;rw[n3,h];rfl
def nx(x:aZ):List UU:=if x.eO=⟨#[]⟩then []else [(x.eO,x.at_,[5])]
def oM(x:aZ):List UU:=if x.name=⟨#[]⟩then []else [(x.name,x.at_,Cs x.kind)]
theorem wc(x:aZ):v9 x=nx x++(oM x++(v8 x.e++v8 x.f)):=rfl
theorem WT{x:aZ}(h:¬ x.eO=⟨#[]⟩):(nx x).length=1:=by unfold nx;grind
theorem WU{x:aZ}(h:x.eO=⟨#[]⟩):(nx x).length=0:=by unfold nx;grind
theorem WV{x:aZ}{n:Nat}(h:¬ x.name=⟨#[]⟩):(n+(oM x).length)=n+1:=by unfold oM;grind
theorem WW{x:aZ}{n:Nat}(h:x.name=⟨#[]⟩):(n+(oM x).length)=n:=by unfold oM;grind
def OG{x:aZ}(h:¬ x.eO=⟨#[]⟩):(v9 x)[0]?=some (x.eO,x.at_,[5]):=by unfold v9;grind
def OH{x:aZ}(h:¬ x.name=⟨#[]⟩):(v9 x)[(nx x).length]?=some (x.name,x.at_,Cs x.kind):=by
 rw[wc,o1 (om _),U4];unfold oM;grind
def OI{x:aZ}{j:Nat}{y:bI}(h:(mh x.e)[j]?=some y):(v9 x)[(nx x).length+(oM x).length+j]?=some (y.name,y.at_,[5]):=by
 have h1:=Ja h
 rw[wc,o1 bP,show(nx x).length+(oM x).length+j-(nx x).length=(oM x).length+j from bP,o1 bP,x7,qk (j0.1 h1).1,h1]
def OJ{x:aZ}{j:Nat}{y:bI}(h:(mh x.f)[j]?=some y):(v9 x)[(nx x).length+(oM x).length+(mh x.e).length+j]?=some (y.name,y.at_,[5]):=by
 have h1:=Ja h
 have h2:(v8 x.e).length=(mh x.e).length:=by unfold v8;grind
 rw[wc,o1 bP,show(nx x).length+(oM x).length+(mh x.e).length+j-(nx x).length=(oM x).length+((v8 x.e).length+j)from bP,o1 bP,x7,o1 bP,x7,h1]
theorem OK(x:aZ):(v9 x).length=(nx x).length+(oM x).length+(mh x.e).length+(mh x.f).length:=by
 rw[wc];unfold v8;grind
def C217(y:Value)(b:Nat)(lv:Value)(ts:List aT)(xs:List aZ)(w0:World)(A:Nat->Prop)(I:Nat->List HP->Prop)(Jx:hU)(w:World)(hn:xs.length<=1048576)(hz:∀x∈xs,x.e.length<=1048576/\x.f.length<=1048576)
  (hE:∀k L W,I k L->St w0 A L W->Cell W b 0 lv/\dy (λ_=>True) W lv ts/\gQ ts xs W) (h0:∃L,I 0 L/\St w0 A L w) (hy:SL hM w0 A I Jx y (I9 (kD xs))) :
  CR 217 [y,.pointer (some ⟨b,0,none⟩)] w (λ_ W=>(∃L,I (kD xs).length L/\St w0 A L W)\/Jx W):=by
 have hyF:∀b4 (cs:List Value),SL hM w0 A (λj L=>∃M,I j M/\L=bM b4 cs::M) Jx y (I9 (kD xs)):=by
  rintro b4 cs k args Φ W R _ h1 h2 ⟨M,h3,rfl⟩ h4;refine gJ.mono (hy k args Φ W _ M h1 (ahY h2) h3 (St.join h4)) ?_;rintro v W' (⟨rfl,L',h5,h6⟩|h5)
  .exact .inl ⟨rfl,_,⟨L',h5,rfl⟩,h6.split⟩
  .exact .inr h5
 refine eR Tryz.func217 ?_;obtain⟨M0,hI0,hS0⟩:=h0;obtain⟨zW,L3,Jb⟩:=hE _ _ _ hI0 hS0;have QW:=Jb.1;refine cD lV zW (aI fT L3 ?_);refine⟨λm x w1=>∃k:Nat,x=hZ (k:Int)/\m=ts.length-k/\k<=ts.length/\∃L,I (kD (xs.take k)).length L/\St w0 A L w1,⟨_,0,rfl,rfl,mj _,M0,hI0,hS0⟩,?_⟩;rintro m _ w1 ⟨k,rfl,rfl,hk,M1,hI,B⟩ _;refine aQ (aC (λc=>?_) λc=>?_)
 .obtain⟨t,ht⟩:=gx ts (i:=((k:Nat):Int).toNat) bP;obtain⟨x,hx⟩:=gx xs (i:=k) bP;have hxz:=hz x (l0 hx);obtain⟨xu,Dg,ZU⟩:=hE _ _ _ hI B;obtain⟨V,gf,rfl,_,_⟩:=ZU.2 _ _ _ ht hx
  have hE1:∀k' M W,I k' M->St w0 A M W->dy (λ_=>True) W (iS V) x.e/\dy (λ_=>True) W (iS gf) x.f:=λk' M W h1 h2=>by
   obtain⟨_,_,h3⟩:=hE k' M W h1 h2;obtain⟨_,_,h4,h5,h6⟩:=h3.2 _ _ _ ht hx;cases h4
   exact⟨DL.flat h5,DL.flat h6⟩
  have qK:∀{i:Nat}{u:UU},(v9 x)[i]?=some u->(kD xs)[(kD (xs.take k)).length+i]?=some u:=SO hx;refine aY fT Dg bP ht (λq hq=>aE ek hq (aK B jw λb4 _ B=>aH (x:=(⟨x.kind,x.eO,x.name,V,gf,x.n,x.body,x.eG,x.at_⟩:aT)) B ek rfl rfl λ_ B=>?_));refine⟨λG w'=>(G=.bool false/\∃L,I ((kD (xs.take k)).length+(nx x).length) L/\St w0 A ((bM b4 (jn (⟨x.kind,x.eO,x.name,V,gf,x.n,x.body,x.eG,x.at_⟩:aT)))::L) w')\/(G=.bool true/\Jx w'),?_,?_⟩
  .refine aA kL (aB (v:=.string x.eO) jZ B.hb rfl (vI (aC (λU=>?_) λU=>.inl ⟨rfl,M1,by rw[WU (by simpa using U)];exact hI,B⟩)));refine aA kL (aB (v:=.string x.eO) jZ B.hb rfl (aA qX (aB (v:=hZ x.at_) bL B.hb rfl (bK ([5]:List Int) B dG rfl rfl (dQ rfl) λs25 _ B=>?_))));obtain⟨E,rfl⟩:=B.eS.gF;refine pop (pV x.eO x.at_ E.a E.n E.cap) ?_;refine gJ.mono (hyF b4 _ _ _ _ _ _ _ ⟨_,E,qK (i:=0) (OG U),rfl,λ_ h=>h⟩ Cr ⟨_,hI,rfl⟩ B) ?_;rintro v w5 (⟨rfl,_,⟨O,J,rfl⟩,SN⟩|⟨rfl,Y⟩)
   .exact bJ (.inl ⟨rfl,O,by rw[WT U];exact J,SN.drop⟩)
   exact bJ (.inr ⟨rfl,Y⟩)
  rintro _ w6 (⟨rfl,O,J,B⟩|⟨rfl,Y⟩) _;rotate_left
  .exact gE (.inr Y)
  refine ep (bK ([1,2]:List Int) B dG rfl rfl (dQ rfl) λs26 w7 B=>?_);refine⟨λG w'=>∃E:SV,G=iS E/\St w0 A (bH (iS E) (Cs x.kind)::(bM b4 (jn (⟨x.kind,x.eO,x.name,V,gf,x.n,x.body,x.eG,x.at_⟩:aT)))::O) w',?_,?_⟩
  .refine aA ft (aB (v:=hZ x.kind) bL B.p1.hb rfl ⟨λG w'=>G=.bool (decide (x.kind=5\/x.kind=6))/\w'=w7,aG (aC (λc3=>⟨vb (by simp[c3]),rfl⟩) λc3=>aG ⟨vb (by simp[c3]),rfl⟩),?_⟩);rintro _ w8 ⟨rfl,rfl⟩ _;refine aC (λc3=>?_) (λc3=>⟨λG w'=>G=.bool (decide (x.kind=9\/x.kind=10))/\w'=w8,aG (aC (λc4=>⟨vb (by simp[c4]),rfl⟩) λc4=>aG ⟨vb (by simp[c4]),rfl⟩),?_⟩)
   .refine bK ([1]:List Int) B dG rfl rfl (dQ rfl) (λs32 _ B=>?_);obtain⟨E,rfl⟩:=B.eS.gF;exact⟨E,rfl,by rw[Cs,fh c3];exact B.p1.drop⟩
   rintro _ _ ⟨rfl,rfl⟩ _;refine aC (λc4=>?_) (λc4=>?_)
   .refine bK ([3]:List Int) B dG rfl rfl (dQ rfl) (λs36 _ B=>?_);obtain⟨E,rfl⟩:=B.eS.gF;exact⟨E,rfl,by rw[Cs,fg c3,fh c4];exact B.p1.drop⟩
   obtain⟨E,rfl⟩:=B.eS.gF;exact⟨E,rfl,by rw[Cs,fg c3,fg c4];exact B⟩
  rintro _ _ ⟨E,rfl,B⟩ _;refine⟨λG w'=>(G=.bool false/\∃L,I ((kD (xs.take k)).length+((nx x).length+(oM x).length)) L/\St w0 A ((bM b4 (jn (⟨x.kind,x.eO,x.name,V,gf,x.n,x.body,x.eG,x.at_⟩:aT)))::L) w')\/(G=.bool true/\Jx w'),?_,?_⟩
  .refine aA jS (aB (v:=.string x.name) jZ B.p1.hb rfl (vI (aC (λU=>?_) λU=>.inl ⟨rfl,O,by rw[WW (by simpa using U)];exact J,B.drop⟩)));refine aA jS (aB (v:=.string x.name) jZ B.p1.hb rfl (aA qX (aB (v:=hZ x.at_) bL B.p1.hb rfl (pop (pV x.name x.at_ E.a E.n E.cap) ?_))));refine gJ.mono (hyF b4 _ _ _ _ _ _ _ ⟨_,E,qK (i:=(nx x).length) (OH U),rfl,λ_ h=>h⟩ Cr ⟨_,J,rfl⟩ B) ?_;rintro v w13 (⟨rfl,_,⟨M3,hI3,rfl⟩,V1⟩|⟨rfl,Y⟩)
   .exact bJ (.inl ⟨rfl,M3,by rw[WV U];exact hI3,V1.drop⟩)
   exact bJ (.inr ⟨rfl,Y⟩)
  rintro _ OE (⟨rfl,O,J,B⟩|⟨rfl,Y⟩) _;rotate_left
  .exact gE (.inr Y)
  refine ep ?_;refine⟨λG w'=>(G=.bool false/\∃L,I ((kD (xs.take (k+1))).length) L/\St w0 A ((bM b4 (jn (⟨x.kind,x.eO,x.name,V,gf,x.n,x.body,x.eG,x.at_⟩:aT)))::L) w')\/(G=.bool true/\Jx w'),?_,?_⟩
  .refine aA kM (aB (v:=iS V) lF B.hb rfl (dW Vn (C218 _ y x.e 5 (kD xs) ((kD (xs.take k)).length+((nx x).length+(oM x).length)) w0 A (λj L=>∃M,I j M/\L=(bM b4 (jn (⟨x.kind,x.eO,x.name,V,gf,x.n,x.body,x.eG,x.at_⟩:aT)))::M) Jx _ (by have:=hxz.1;omega) (λj L W ⟨M,h1,h2⟩ h3=>(hE1 _ _ _ h1 (h2▸h3).drop).1) ⟨_,⟨_,J,rfl⟩,B⟩ (λj _ Q6=>by rw[GR];exact qK (i:=((nx x).length+(oM x).length)+j) (OI Q6)) (hyF b4 _)) ?_));rintro v _ Z;rw[GR]at Z
   rcases Z with⟨rfl,_,⟨O,J,rfl⟩,B⟩|⟨rfl,Z⟩
   .refine bJ (ep (aA qW (aB (v:=iS gf) lF B.hb rfl (dW Vn (C218 _ y x.f 5 (kD xs) ((kD (xs.take k)).length+((nx x).length+(oM x).length+(mh x.e).length)) w0 A (λj L=>∃M,I j M/\L=(bM b4 (jn (⟨x.kind,x.eO,x.name,V,gf,x.n,x.body,x.eG,x.at_⟩:aT)))::M) Jx _ (by have:=hxz.2;omega) (λj L W ⟨M,h1,h2⟩ h3=>(hE1 _ _ _ h1 (h2▸h3).drop).2) ⟨_,⟨_,J,rfl⟩,B⟩ (λj _ Q6=>by rw[GR];exact qK (i:=((nx x).length+(oM x).length+(mh x.e).length)+j) (OJ Q6)) (hyF b4 _)) ?_))));rintro v _ Z;rw[GR]at Z
    rcases Z with⟨rfl,_,⟨O,J,rfl⟩,B⟩|⟨rfl,Z⟩
    .exact bJ (.inl ⟨rfl,O,by rw[A3 hx,kE,OK];exact J,B⟩)
    exact bJ (.inr ⟨rfl,Z⟩)
   exact bJ (gE (.inr ⟨rfl,Z⟩))
  rintro _ w17 (⟨rfl,O,J,B⟩|⟨rfl,Y⟩) _;rotate_left
  .exact gE (.inr Y)
  exact ep (aM bP ⟨_,bP,k+1,rfl,rfl,bP,O,J,B.drop⟩)
 rw[kO bP]at hI;exact .inl ⟨M1,hI,B⟩
def C114(lv:SV)(w:World):CR 114 [iS lv] w (λv w'=>∃b,v=.func (.func 217) [].toArray [.pointer (some ⟨b,0,none⟩)].toArray/\mD (bM b [iS lv]) w w'):=by
 have u:=St.start w;refine eR Tryz.func114 ?_;exact jP u rfl (λb _ u=>⟨b,rfl,u.fresh⟩)
variable (w:World) (K:Value->hU)
theorem Vo:PL 113:=dD Tryz.func113
end Go.Proofs.YtdncbeepkacgbaaGreatDoor
namespace Go.Proofs.YtdncbeepkacgbaaGreatDoor
open Go.Fw
def y9:List SI->List ByteArray->Option (List SI)
 | g,[]=>some g
 | g,n::r=>if dF g n=0 then y9 (g++[(n,5)]) r else none
def KU(l:List SI)(names:List ByteArray):Option (List SI):=y9 (l.filter λp=>decide (¬ p.2=4)) names
def SP{g:List SI}{ns:List ByteArray}{k:Nat}{n:ByteArray}(h:ns[k]?=some n)(u:dF g n=0):y9 g (ns.drop k)=y9 (g++[(n,5)]) (ns.drop (k+1)):=by
 rw[drop_cons h,y9,fh u]
def SQ{g:List SI}{ns:List ByteArray}{k:Nat}{n:ByteArray}(h:ns[k]?=some n)(u:¬ dF g n=0):y9 g (ns.drop k)=none:=by
 rw[drop_cons h,y9,fg u]
def acv(r:Option (List SI))(v:Value)(w w':World):Prop:=
 (r=none/\v=.tuple #[.map none,.bool true]/\Ext w w')\/∃g b,r=some g/\v=.tuple #[.map (some b),.bool false]/\mD (jJ b g) w w'
def C113(W:bU)(names:List ByteArray)(bm:Nat)(l:List SI)(w:World)(hf:dy (λ_=>True) w (iS W.dJ) names)(E:pj w bm l)(hz:∀p∈l,p.2≠0)(hn:names.length<=1073741824) :
  CR 113 [iS W,.map (some bm)] w (λv w'=>acv (KU l names) v w w'):=by
 have u:=St.start w;have QW:=E.nodup;obtain⟨es,clock,Q1,V,Vp⟩:=E;refine eR Tryz.func113 ?_;refine cE u (λWX w1 u=>Ek u λG _ u=>KI u Tryz.underlying184 (yQ Q1 u.aF) λr13 _ u=>?_);refine⟨λO w1=>∃(seen:Array Nat) (J:List SI),O=(leftOf es seen).size/\(∀p,p∈J↔(p∈l/\¬ p.2=4/\∃e∈es.toList,seen.contains e.born=true/\e.key=.string p.1))/\St w bF [AQ r13 bm clock seen,jJ G J,bM WX (jn W)] w1,⟨_,#[],[],rfl,λ_=>⟨λh=>(by cases h),λ⟨_,_,e,_,h,_⟩=>(by simp at h)⟩,u⟩,?_⟩;rintro O w4 ⟨seen,J,rfl,Z,u⟩ _;refine NJ u (yQ Q1 u.aF) V.1 (λh0=>?_) (λe _ M u=>?_)
 .refine aJ rfl (ep ?_);have u:=u.drop
  have hg:J.Perm (l.filter λp=>decide (¬ p.2=4)):=by
   have n1:J.Nodup:=(Re.1 u.jJ.nodup).imp λh e=>h (by rw[e]);have n2:l.Nodup:=(Re.1 QW).imp λh e=>h (by rw[e]);refine(List.perm_ext_iff_of_nodup n1 (n2.filter _)).2 λp=>?_;rw[Z,J3];refine⟨λ⟨h1,h2,_⟩=>⟨h1,fY h2⟩,λ⟨h1,h2⟩=>⟨h1,g6 h2,?_⟩⟩;obtain⟨e,M,h3,_⟩:=NL Vp h1;exact⟨e,M,all_seen es seen h0 e M,h3⟩
  have u:St w bF [jJ G (l.filter λp=>decide (¬ p.2=4)),bM WX (jn W)] w4:=u.mJ λF hF=>⟨F,⟨hF.1.perm hg,hF.2⟩,λ_ hb=>.inl hb,fD.refl _ _⟩;refine aA m6 (aB lT u.p1.hb rfl (aI iN (hf.ext u.aF) ?_));refine⟨λO i w'=>∃(k:Nat) (g:List SI),i=hZ (k:Int)/\O=names.length-k/\k<=names.length/\KU l names=y9 g (names.drop k)/\(∀p∈g,p.2≠0)/\St w bF [jJ G g,bM WX (jn W)] w',⟨_,0,_,rfl,rfl,mj _,rfl,λp hp=>hz p (J3.1 hp).1,u⟩,?_⟩;rintro O _ _ ⟨k,g,rfl,rfl,hk,CX,U,u⟩ _;refine aQ (aC (λOL=>?_) λOL=>?_)
  .obtain⟨sU,gI⟩:=gx names (i:=(k:Int).toNat) bP;refine aY iN (hf.ext u.aF) bP gI (λ_ uM=>aE jZ uM (si u.jJ Tryz.underlying184 Tryz.underlying9 sM (cB (aC (λoo=>?_) λoo=>?_))))
   .exact .inl ⟨CX.trans (SQ gI oo),rfl,u.drop.drop.aF⟩
   .have Y:dF g sU=0:=bP
    refine El u Tryz.underlying184 Tryz.underlying9 (GA u.jJ.nodup U Y) (λ_ u=>aM bP ?_)
    exact⟨_,bP,k+1,_,rfl,rfl,bP,CX.trans (SP gI Y),λp hp=>by
     rcases pI.1 hp with h|h
     .exact U p h
     .rw[rC.1 h];exact(by decide:(5:Int)≠0),u⟩
  .refine .inr ⟨g,G,?_,rfl,u.p1.drop.fresh⟩;rw[CX,ot bP];rfl
 .refine aJ rfl (gE ?_);have E:=mem_left M;refine KJ u (yQ Q1 u.aF) E.1 V.2.1 ?_;obtain⟨p0,FM,B,hev⟩:=NK Vp E.1;rw[B,hev];refine aJ rfl (aJ rfl (cB ?_))
  have old:∀q∈J,q.1≠p0.1:=λq hq e=>by
   obtain⟨_,_,I,he2,h1,h2⟩:=(Z q).1 hq;rw[e,<- B]at h2;obtain rfl:=key_inj V.2.2 he2 E.1 h2;exact absurd h1 (by simpa using E.2)
  refine aC (λku=>?_) (λku=>?_)
  .have u:=u.p1;refine El u Tryz.underlying184 Tryz.underlying9 old (λ_ u=>?_);have u:=u.p1;refine⟨_,left_shrinks es seen e M,seen.push e.born,_,rfl,λp=>?_,u⟩;rw[pI,rC,Z]
   constructor
   .rintro(⟨h1,h2,I,h3,h4,h5⟩|rfl)
    .exact⟨h1,h2,I,h3,by simp at h4 |-;exact .inl h4,h5⟩
    .exact⟨FM,ku,e,E.1,ew,B⟩
   .rintro⟨h1,h2,I,h3,h4,h5⟩
    rcases rq h4 with h|h
    .exact .inl ⟨h1,h2,I,h3,h,h5⟩
    .obtain rfl:=born_inj V.2.1 h3 E.1 h;rw[B]at h5;injection h5 with h5;exact .inr (NM QW h1 FM h5.symm)
  .refine⟨_,left_shrinks es seen e M,seen.push e.born,J,rfl,λp=>?_,u⟩;rw[Z]
   constructor
   .rintro⟨h1,h2,I,h3,h4,h5⟩;exact⟨h1,h2,I,h3,by simp at h4 |-;exact .inl h4,h5⟩
   .rintro⟨h1,h2,I,h3,h4,h5⟩
    rcases rq h4 with h|h
    .exact⟨h1,h2,I,h3,h,h5⟩
    .obtain rfl:=born_inj V.2.1 h3 E.1 h;rw[B]at h5;injection h5 with h5;obtain rfl:=NM QW h1 FM h5.symm;exact absurd h2 ku
theorem cY{ns:List ByteArray}{s:ByteArray}:0<=cT ns s↔s∈ns:=by
 have h:=vT ns s
 grind
theorem u5{ns:List ByteArray}{s:ByteArray}:cT ns s<0↔s ∉ ns:=by rw[<- cY];omega
theorem py{ns:List ByteArray}{s:ByteArray}(h:s∈ns):∃k:Nat,cT ns s=k/\ns[k]?=some s/\∀j,j<k->ns[j]?≠some s:=by
 unfold cT pf
 cases hf:ns.findIdx? (λy=>decide (y=s))with
 | none=>grind
 | some k=>
  obtain⟨h1,h2,h3⟩:=List.findIdx?_eq_some_iff_getElem.1 hf
  grind
def lI{ns:List ByteArray}{s:ByteArray}{k:Nat}(h:s∈ns):cT ns s<k↔s∈ns.take k:=by
 obtain⟨j,h1,h2,h3⟩:=py h
 rw[h1]
 constructor
 .intro B;exact vB.2 ⟨j,cR⟩
 intro u
 obtain⟨i,hi⟩:=vB.1 u
 grind
theorem nodup_iff(ns:List ByteArray):ns.Nodup↔∀(k:Nat) (s:ByteArray),ns[k]?=some s->s ∉ ns.take k:=by
 unfold List.Nodup
 rw[Lg]
 constructor
 .intro h k s G B
  obtain⟨i,hi⟩:=vB.1 B
  grind
 intro h i j hi E u I
 exact h j _ (kB E) (vB.2 ⟨i,cR⟩)
theorem tz(l:List bO):jo l=true↔¬ (l.map bO.name).Nodup:=by
 rw[nodup_iff]
 unfold jo
 rw[uZ]
 constructor
 .rintro⟨j,B,h⟩ E
  have B:=IC.1 B
  have J:l[j]?=some l[j]:=kB B
  rw[AU J,decide_eq_true_iff]at h
  have u:(l[j]).name∈l.map bO.name:=n0.2 ⟨_,TX B,rfl⟩
  exact E j _ cR ((lI u).1 h)
 intro E
 apply hH
 intro hc
 refine E λk s I u=>hc ⟨k,?_,?_⟩
 .grind
 rw[n3]at I
 obtain⟨c,G,rfl⟩:=yI.1 I
 rw[AU G,decide_eq_true_iff]
 exact(lI (FC u)).2 u
def EH(p:bQ)(E:List ByteArray):sB p E=true↔¬ E.Nodup\/∃s∈E,s∈cX p\/s∈cS p:=by
 rw[nodup_iff]
 unfold sB
 rw[uZ]
 constructor
 .rintro⟨j,u,h⟩
  have u:=IC.1 u
  have J:E[j]?=some E[j]:=kB u
  have G:=TX u
  rw[Cd J]at h
  simp only[rL,decide_eq_true_eq,cY]at h
  rcases h with(h|h)|h
  .exact .inl λB=>B j _ J ((lI G).1 h)
  .grind
  grind
 intro B
 rcases B with B|⟨s,M,hc⟩
 .apply hH
  intro hc
  refine B λk s I G=>hc ⟨k,IC.2 (j0.1 I).1,?_⟩
  rw[Cd I]
  simp only[rL,decide_eq_true_eq]
  exact .inl (.inl ((lI (FC G)).2 G))
 obtain⟨j,u⟩:=vB.1 M
 refine⟨j,IC.2 (j0.1 u).1,?_⟩
 rw[Cd u]
 simp only[rL,decide_eq_true_eq,cY]
 rcases hc with hc|hc
 .exact .inl (.inr hc)
 exact .inr hc
def SR(p:bQ):List (ByteArray×Int×Int):=L7 p++(KS p++L8 p)
theorem Jc(p:bQ):wW p=tQ (SR p) ([],false,0):=by simp_all[SI,wW,tQ,SR]
theorem we(p:bQ):(SR p).map (·.1)=(hG p).map bO.name:=by
 unfold SR L7 KS L8 hG
 rw[<- u0]
 simp only[rn,CU,mu]
 rfl
theorem OM(p:bQ):∀q∈SR p,q.2.1≠0:=by
 intro q u
 unfold SR L7 KS L8 wV at u
 grind
theorem ON:∀(l:List (ByteArray×Int×Int)) (st:List SI×Bool×Int),(∀q∈l,q.2.1≠0)->
  ((tQ l st).2.1=true↔st.2.1=true\/¬ (l.map (·.1)).Nodup\/∃q∈l,dF st.1 q.1≠0)
 | [],st,_=>by simp[tQ]
 | q::r,st,hz=>by
  have B:=ON r (OD st q) λq u=>hz q (o5 _ u)
  have E:=hz q (oi ..)
  have e:tQ (q::r) st=tQ r (OD st q):=rfl
  rw[e,B]
  show SJ st.1 q.1 st.2.1=true\/_\/(∃x∈r,dF (tu st.1 q.1 q.2.1) x.1≠0)↔_
  unfold SJ
  rw[EA,zO]
  simp only[rL,decide_eq_true_eq,v7,n0,oR]
  grind
theorem OO(p:bQ):(wW p).2.1=jo (hG p):=by
 rw[zN,Jc,ON _ _ (OM p),tz,we]
 simp[dF]
theorem GX:∀(l:List (ByteArray×Int×Int)) (st:List SI×Bool×Int) (n:ByteArray),n ∉ l.map (·.1)->dF (tQ l st).1 n=dF st.1 n
 | [],_,_,_=>rfl
 | q::r,st,n,h=>by
  rw[EA,oR,not_or]at h
  have e:tQ (q::r) st=tQ r (OD st q):=rfl
  rw[e,GX r _ n h.2]
  show dF (tu st.1 q.1 q.2.1) n=_
  rw[v7,fg λu=>h.1 u.symm]
theorem za:∀(l:List (ByteArray×Int×Int)) (st:List SI×Bool×Int) (q:ByteArray×Int×Int),(l.map (·.1)).Nodup->q∈l->dF (tQ l st).1 q.1=q.2.1
 | x::r,st,q,hn,h=>by
  rw[EA,zO]at hn
  have e:tQ (x::r) st=tQ r (OD st x):=rfl
  rw[e]
  rcases oR.1 h with rfl|h
  .rw[GX r _ _ hn.1]
   show dF (tu st.1 q.1 q.2.1) q.1=_
   rw[v7,fh rfl]
  .exact za r _ q hn.2 h
theorem OP:∀(l:List (ByteArray×Int×Int)) (st:List SI×Bool×Int),(∀q∈l,q.2.1≠0)->(∀e∈st.1,e.2≠0)->∀e∈(tQ l st).1,e.2≠0
 | [],_,_,h=>h
 | q::r,st,hz,h=>OP r (OD st q) (λq u=>hz q (o5 _ u)) (SH h (hz q (oi ..)))
def GY(p:bQ):∀e∈(wW p).1,e.2≠0:=by
 rw[Jc];exact OP _ _ (OM p) λe u=>by cases u
theorem OQ:∀(ls:List (List bO)) (k:Int) (q:bO×Int),q∈GU k ls->k<=q.2/\q.2<k+ls.length
 | [],_,_,h=>by cases h
 | l::r,k,q,h=>by
  unfold GU at h
  rcases pI.1 h with h|h
  .grind
  .have:=OQ r (k+1) q h;simp;omega
theorem OR:∀(vs:List bO) (k:Int) (q:bO×Int),q∈FJ k vs->k<=q.2
 | [],_,_,h=>by cases h
 | v::r,k,q,h=>by
  unfold FJ at h
  rcases oR.1 h with rfl|h
  .omega
  .have:=OR r (k+1) q h;omega
def oq(p:bQ):List ByteArray:=p.iJ.map bO.name
def SS(p:bQ):List ByteArray:=p.threads.map bW.name
theorem EI(p:bQ):fP p=p.lines.flatten.map bO.name:=by
 unfold fP cX jb ee
 rw[rn,qG,List.take_left' cR]
theorem mi(p:bQ):cX p=fP p++oq p:=by
 rw[EI];unfold cX jb oq;grind
theorem Jd(p:bQ):(hG p).map bO.name=fP p++oq p++(cS p++SS p):=by
 rw[<- mi];unfold hG cX cS SS
 simp_all
theorem Je{p:bQ}(G:jo (hG p)=false)(s:ByteArray) :
  dF (wW p).1 s=if 0<=cT (fP p) s then 1 else if 0<=cT (oq p) s then 2 else if 0<=cT (cS p) s then 3 else if 0<=cT (SS p) s then 4 else 0:=by
 have I:((hG p).map bO.name).Nodup:=hH λh=>by rw[(tz _).2 h]at G;cases G
 have B:((SR p).map (·.1)).Nodup:=by rw[we];exact I
 rw[Jc]
 by_cases h1:s∈fP p
 .rw[fh (cY.2 h1)]
  rw[EI,<- Co p.lines 0]at h1
  obtain⟨c,hc,rfl⟩:=n0.1 h1
  obtain⟨q,u,rfl⟩:=n0.1 hc
  have E:(q.1.name,wV p q.2,q.1.at_)∈SR p:=List.mem_append_left _ (n0.2 ⟨q,List.mem_append_left _ u,rfl⟩)
  have M:=OQ _ _ _ u
  exact(za _ _ _ B E).trans (fg bP)
 rw[fg λh=>h1 (cY.1 h)]
 by_cases h2:s∈oq p
 .rw[fh (cY.2 h2)]
  unfold oq at h2
  rw[<- Cp p.iJ p.lines.length]at h2
  obtain⟨c,hc,rfl⟩:=n0.1 h2
  obtain⟨q,u,rfl⟩:=n0.1 hc
  have E:(q.1.name,wV p q.2,q.1.at_)∈SR p:=List.mem_append_left _ (n0.2 ⟨q,List.mem_append_right _ u,rfl⟩)
  have J:=OR _ _ _ u
  exact(za _ _ _ B E).trans (fh J)
 rw[fg λh=>h2 (cY.1 h)]
 by_cases h3:s∈cS p
 .rw[fh (cY.2 h3)]
  obtain⟨c,hc,rfl⟩:=n0.1 h3
  exact za _ _ (c.name,3,c.at_) B (List.mem_append_right _ (List.mem_append_left _ (n0.2 ⟨c,hc,rfl⟩)))
 rw[fg λh=>h3 (cY.1 h)]
 by_cases h4:s∈SS p
 .rw[fh (cY.2 h4)]
  obtain⟨t,ht,rfl⟩:=n0.1 h4
  exact za _ _ (t.name,4,t.at_) B (List.mem_append_right _ (List.mem_append_right _ (n0.2 ⟨t,ht,rfl⟩)))
 rw[fg λh=>h4 (cY.1 h),GX _ _ _ (by rw[we,Jd];grind)]
 rfl
def zb{α:Type}{l:List α}{f g:α->Bool}(h:∀x∈l,f x=g x):l.any f=l.any g:=by
 grind
theorem KV{g:List SI}{n k:ByteArray}{v:Int}(B:∀e∈g,e.2≠0)(h:dF g n=0):dF (g++[(n,v)]) k=if n=k then v else dF g k:=by
 induction g with
 | nil=>simp_all[dF,SI]
 | cons e r I=>
  have u:=B e (oi ..)
  have E:¬ e.1=n:=λJ=>by
   have:dF (e::r) n=e.2:=by simp_all[dF,SI]
   omega
  have G:dF r n=0:=by
   grind[dF]
  show(if e.1=k then e.2 else dF (r++[(n,v)]) k)=if n=k then v else(if e.1=k then e.2 else dF r k)
  grind
theorem A4:∀(ns:List ByteArray) (g:List SI),(∀e∈g,e.2≠0)->
  (y9 g ns=none/\(¬ ns.Nodup\/∃s∈ns,dF g s≠0))\/∃I,y9 g ns=some I/\ns.Nodup/\(∀s∈ns,dF g s=0)/\∀s,dF I s=if 0<=cT ns s then 5 else dF g s
 | [],g,_=>.inr ⟨g,rfl,List.nodup_nil,λs h=>(by cases h),λs=>by rw[fg];exactλh=>by cases cY.1 h⟩
 | n::r,g,hz=>by
  unfold y9
  split
  .rename_i hl
   have J:∀e∈g++[(n,(5:Int))],e.2≠0:=by
    grind
   have B:=λk=>KV (k:=k) (v:=5) hz hl
   rcases A4 r _ J with⟨h1,h2⟩|⟨I,h1,h2,h3,h4⟩
   .grind
   .have E:n ∉ r:=λM=>cR
    refine .inr ⟨I,h1,zO.2 ⟨E,h2⟩,λs u=>?_,λs=>?_⟩
    .rcases oR.1 u with rfl|u
     .exact hl
     .have:=h3 s u;rw[B,fg λe:n=s=>E (e▸u)]at this;exact this
    .rw[h4,B]
     by_cases u:s∈r
     .rw[fh (cY.2 u),fh (cY.2 (o5 _ u))]
     .rw[fg λh=>u (cY.1 h)]
      by_cases G:n=s
      .rw[fh G,fh (cY.2 (by rw[G];exact oi ..))]
      .rw[fg G,fg λh=>(oR.1 (cY.1 h)).elim (λe=>G e.symm) u]
  grind
theorem EJ{l:List SI}(u:(l.map (·.1)).Nodup)(s:ByteArray):dF (l.filter λp=>decide (¬ p.2=4)) s=if dF l s=4 then 0 else dF l s:=by
 induction l with
 | nil=>rfl
 | cons e r B=>
  rw[EA,zO]at u
  have B:=B u.2
  have I:e.1=s->dF r s=0:=λh=>tm λq E J=>u.1 (n0.2 ⟨q,E,cR⟩)
  have G:dF (e::r) s=if e.1=s then e.2 else dF r s:=rfl
  rw[List.filter_cons,G]
  by_cases h4:e.2=4
  .grind
  .rw[fh (by simp[h4])]
   show(if e.1=s then e.2 else dF _ s)=_
   grind
def OT{l:List SI}{k:ByteArray}{v:Int}(h:(l.map (·.1)).Nodup):((tu l k v).map (·.1)).Nodup:=by
 unfold tu
 grind
theorem OU(p:bQ):((wW p).1.map (·.1)).Nodup:=by
 rw[Jc]
 have:∀(l:List (ByteArray×Int×Int)) (st:List SI×Bool×Int),(st.1.map (·.1)).Nodup->((tQ l st).1.map (·.1)).Nodup:=by
  intro l
  induction l with
  | nil=>intro st h;exact h
  | cons q r u=>intro st h;exact u (OD st q) (OT h)
 grind
theorem Ct{p:bQ}(J:jo (hG p)=false)(u:List ByteArray) :
  (KU (wW p).1 u=none/\sB p u=true)\/∃g,KU (wW p).1 u=some g/\sB p u=false/\(∀s∈u,s ∉ cX p/\s ∉ cS p)/\
   ∀s,dF g s=if 0<=cT u s then 5 else if 0<=cT (fP p) s then 1 else if 0<=cT (oq p) s then 2 else if 0<=cT (cS p) s then 3 else 0:=by
 have I:∀s,dF ((wW p).1.filter λp=>decide (¬ p.2=4)) s=if 0<=cT (fP p) s then 1 else if 0<=cT (oq p) s then 2 else if 0<=cT (cS p) s then 3 else 0:=by
  intro s
  rw[EJ (OU p),Je J]
  omega
 have hc:∀s,dF ((wW p).1.filter λp=>decide (¬ p.2=4)) s≠0↔(s∈cX p\/s∈cS p):=by
  intro s
  rw[I,mi,pI,<- cY (ns:=fP p),<- cY (ns:=oq p),<- cY (ns:=cS p)]
  omega
 unfold KU
 rcases A4 u ((wW p).1.filter λp=>decide (¬ p.2=4)) (λe M=>GY p e (J3.1 M).1)with⟨h1,h2⟩|⟨g,h1,h2,h3,h4⟩
 .refine .inl ⟨h1,(EH p u).2 ?_⟩
  grind
 have E:∀s∈u,s ∉ cX p/\s ∉ cS p:=λs B=>by
  have h:=h3 s B
  exact⟨λG=>(hc s).2 (.inl G) h,λG=>(hc s).2 (.inr G) h⟩
 refine .inr ⟨g,h1,?_,E,λs=>by rw[h4,I]⟩
 cases hr:sB p u with
 | false=>rfl
 | true=>
  rcases(EH p u).1 hr with h|⟨s,B,h⟩
  .grind
  .rcases h with h|h
   .exact absurd h (E s B).1
   .exact absurd h (E s B).2
def xw(g:List SI)(u:UU):Bool:=!u.2.2.any λm=>decide (m=dF g u.1)
theorem EK{g:List SI}{u:List ByteArray}(l:List bI)(h:∀s,dF g s=5↔s∈u):(v8 l).any (xw g)=qo l u:=by
 rw[zN]
 unfold v8 mh qo xw
 simp only[List.any_map,uZ,J3,Function.comp_apply,Oe,R2,P2,pw,decide_eq_false_iff_not,nu,decide_eq_true_eq,u5]
 grind
def GZ(p:bQ)(s:ByteArray):s∈fP p↔0<=cT (cX p) s/\cT (cX p) s<ee p:=by
 rw[cY,show fP p=(cX p).take (ee p).toNat from rfl]
 have B:0<=ee p:=by unfold ee;omega
 constructor
 .intro h
  have u:=FC h
  have:=(lI u).2 h
  exact⟨u,bP⟩
 rintro⟨h1,h2⟩;exact(lI h1).1 bP
theorem acx(k:Int):eg (eZ k) 110=decide (k=2\/k=3\/k=4\/k=5\/k=6\/k=9\/k=10):=by
 unfold eZ
 split
 .rw[fZ bP];decide
 rename_i h
 obtain rfl|rfl|rfl|rfl|rfl|rfl|rfl|rfl|rfl|rfl|rfl|rfl|rfl|rfl:k=1\/k=2\/k=3\/k=4\/k=5\/k=6\/k=7\/k=8\/k=9\/k=10\/k=11\/k=12\/k=13\/k=14:=bP
 all_goals decide
theorem EL:fw ⟨#[]⟩=false:=ea
def SU{p:bQ}{B:List ByteArray}{g:List SI}(G:∀s∈B,s ∉ cX p/\s ∉ cS p)(M:∀s∈cX p,s ∉ cS p)(hsv:∀s∈fP p,s ∉ oq p)
  (E:∀s,dF g s=if 0<=cT B s then 5 else if 0<=cT (fP p) s then 1 else if 0<=cT (oq p) s then 2 else if 0<=cT (cS p) s then 3 else 0) {x:aZ}(O:abU x) :
  (v9 x).any (xw g)=qp p B x:=by
 have J:∀s,dF g s=5↔s∈B:=λs=>by
  rw[E,<- cY];omega
 have g1:∀s,dF g s=1↔s∈fP p:=λs=>by
  rw[E,<- cY]
  split
  .rename_i h
   have:=G s (cY.1 h)
   rw[mi,pI]at this
   refine⟨λh=>(by cases h),λh=>absurd (cY.1 h) λu=>this.1 (.inl u)⟩
  omega
 have W:∀s,dF g s=2↔s∈oq p:=λs=>by
  rw[E]
  split
  .rename_i h
   have:=G s (cY.1 h)
   rw[mi,pI]at this
   grind
  .split
   .grind
   .rw[<- cY];omega
 have Z:∀s,dF g s=3↔s∈cS p:=λs=>by
  rw[E]
  split
  .grind
  .split
   .rename_i h;exact⟨λh=>(by cases h),λu=>absurd u (M s (by rw[mi];grind))⟩
   .split
    .rename_i h;exact⟨λh=>(by cases h),λu=>absurd u (M s (by rw[mi];grind))⟩
    .rw[<- cY];omega
 have I:=O.name
 rw[acx]at I
 rw[wc,Pq,Pq,Pq,EK x.e J,EK x.f J]
 have Y:(nx x).any (xw g)=(decide (¬ x.eO=⟨#[]⟩)&&decide (cT B x.eO<0)):=by
  unfold nx
  split
  .grind
  .rename_i h
   rw[fY h,tM,zN]
   simp only[Oe,R2,P2,xw,pw,decide_eq_false_iff_not,decide_eq_true_eq,u5]
   grind
 have U:(oM x).any (xw g)=(((decide (x.kind=2)||decide (x.kind=3)||decide (x.kind=4))&&decide (cT (cX p) x.name<0)) ||
   ((decide (x.kind=5)||decide (x.kind=6))&&(decide (cT (cX p) x.name<0)||decide (ee p<=cT (cX p) x.name))) ||
   ((decide (x.kind=9)||decide (x.kind=10))&&decide (cT (cS p) x.name<0))):=by
  have hk:=O.kind
  unfold oM
  split
  .rename_i h
   have V:¬ (x.kind=2\/x.kind=3\/x.kind=4\/x.kind=5\/x.kind=6\/x.kind=9\/x.kind=10):=by
    intro u
    rcases I with⟨_,h2⟩|⟨h1,_⟩
    .rw[h,EL]at h2;cases h2
    grind
   grind
  .rename_i h
   have V:x.kind=2\/x.kind=3\/x.kind=4\/x.kind=5\/x.kind=6\/x.kind=9\/x.kind=10:=by
    grind
   have hc:=GZ p x.name
   rw[zN]
   unfold Cs
   simp only[Oe,R2,P2,xw,pw,rL,nu,decide_eq_true_eq,u5]
   have e1:=g1 x.name;have e2:=W x.name;have e3:=Z x.name
   have ec:x.name∈cX p↔x.name∈fP p\/x.name∈oq p:=by rw[mi,pI]
   have pn:=cY (ns:=cX p) (s:=x.name)
   grind
 rw[Y,U]
 unfold qp
 grind
def EM{p:bQ}(B:jo (hG p)=false):(∀s∈cX p,s ∉ cS p)/\∀s∈fP p,s ∉ oq p:=by
 have E:((hG p).map bO.name).Nodup:=hH λh=>by rw[(tz _).2 h]at B;cases B
 rw[Jd,SC]at E
 obtain⟨h1,h2,h3⟩:=E
 rw[SC]at h1
 exact⟨λs u I=>h3 s (by rw[<- mi];exact u) s (List.mem_append_left _ I) rfl,λs u G=>h1.2.2 s u s G rfl⟩
def OW{p:bQ}{t:bW}{g:List SI}(u:jo (hG p)=false)(B:KU (wW p).1 t.dJ=some g)(I:∀x∈t.body,oc x=true):(kD t.body).any (xw g)=t.body.any (qp p t.dJ):=by
 rcases Ct u t.dJ with⟨h1,_⟩|⟨M,h1,h2,h3,h4⟩
 .grind
 rw[B]at h1;cases h1
 obtain⟨E,J⟩:=EM u
 unfold kD
 rw[List.any_flatMap]
 refine zb λx G=>SU h3 E J h4 (vV (I x G))
def G0{p:bQ}(u:jo (hG p)=false)(l:List bI):(l.any λx=>decide (x.op=2)&&decide (¬ dF (wW p).1 x.name=1))=qo l (fP p):=by
 unfold qo
 refine zb λx _=>?_
 congr 1
 refine ga.2 ?_
 rw[u5,Je u,<- cY]
 omega
variable (w:World) (K:Value->hU)
def S49(p0:Value):Prop:=
 mw hM (qv 36 p0) w λp1 a=>aL 40 a λb c=>aL 3 c λd e=>lA 36 p1 e λf=>cF 108 [f] e λg h=>xT g 0 λj=>xT g 1 λk=>xT g 2 λl=>lA 36 p1 h λn=>
 cF 109 [n] h λo p=>dX hM (Op.unary .not o) λq=>cV q (sA 40 b (i 8) p λs=>sA 3 d (i 0) s λt=>lA 40 b t λr=>lA 3 d t λKg=>K (.tuple #[r,Kg]) t) (lA 36 p1 p λu=>
 cF 110 [u] p λv x=>cV v (sA 40 b (i 2) x λy=>sA 3 d (i 0) y λz=>lA 40 b z λVZ=>lA 3 d z λr_3=>K (.tuple #[VZ,r_3]) z) (lA 36 p1 x λaa=>cF 111 [aa] x λab ac=>
 lN 33 ab λad=>jA (λK1 ae V=>∀_:Env,
 bA .lss 3 ae ad λag=>cV ag (iA 33 ab ae λah=>lA 114 ah V λai=>aL 114 V λt8 aj=>sA 114 t8 ai aj λak=>fA 114 t8 2 λal=>lA 112 al ak λam=>cF 112 [am,(i 1)] ak λan ao=>
 xT an 0 λap=>xT an 1 λaq=>cV aq (sA 40 b (i 11) ao λar=>sA 3 d ap ar λI=>lA 40 b I λr_4=>lA 3 d I λr_5=>K (.tuple #[r_4,r_5]) I) (bB .add 3 ae (i 1) λau=>
 K1 au ao)) (cV l (sA 40 b (i 10) V λav=>sA 3 d k av λaw=>lA 40 b aw λr_6=>lA 3 d aw λr_7=>K (.tuple #[r_6,r_7]) aw) (lA 36 p1 V λax=>cF 111 [ax] V λay az=>
 lN 33 ay λa0=>jA (λK2 a2 Z=>∀_:Env,
 bA .lss 3 a2 a0 λa4=>cV a4 (iA 33 ay a2 λa5=>lA 114 a5 Z λa6=>aL 114 Z λG a7=>sA 114 G a6 a7 λa8=>lA 114 G a8 λa9=>cF 113 [a9,j] a8 λba bb=>xT ba 0 λ_=>
 xT ba 1 λbc=>cV bc (fA 114 G 3 λbd=>lA 3 bd (drew bb) λbe=>sA 40 b (i 10) (drew bb) λbf=>kA 3 bd be bf (sA 3 d be bf λbg=>lA 40 b bg λr_8=>lA 3 d bg λr_9=>
 K (.tuple #[r_8,r_9]) bg)) (bB .add 3 a2 (i 1) λbh=>K2 bh bb)) (lA 36 p1 Z λbi=>cF 111 [bi] Z λbj bk=>lN 33 bj λbl=>nW (λK3 W bm Y=>∀_:Env,
 bA .lss 3 bm bl λbo=>cV bo (iA 33 bj bm λbp=>lA 114 bp Y λbq=>aL 114 Y λE br=>sA 114 E bq br λbs=>lA 114 E bs λbt=>cF 113 [bt,j] bs λbu bv=>xT bu 0 λbw=>
 xT bu 1 λ_=>aL 184 bv λJ bx=>sA 184 J bw bx λbz=>fA 114 E 2 λb0=>lA 112 b0 bz λb1=>cF 114 [b1] bz λb2 b3=>ua hM b2 1 b3 (λa1 b4 B1 R1=>
 aL 196 b4 λB b5=>sA 196 B (yf a1 0) b5 λb6=>B1 b6 λU=>fA 196 B 2 λb8=>lA 22 b8 U λb9=>lA 184 J U λca=>fA 196 B 0 λcb=>lA 9 cb U λcc=>
 Ah hM (qs 184 ca cc false) U λcd=>cF 115 [b9,cd] U λce cf=>dX hM (Op.unary .not ce) λcg=>cV cg (fA 196 B 1 λch=>lA 3 ch (drew cf) λci=>
 sA 40 b (i 9) (drew cf) λcj=>kA 3 ch ci cj (sA 3 d ci cj λck=>R1 (some .ret) ck)) (R1 none cf)) (VS (λD cl=>bB .add 3 bm (i 1) λcm=>K3 (iM (D::(tZ W))) cm cl)
 (λD cn=>js (D::(tZ W)) cn λco=>lA 40 b co λah0=>lA 3 d co λah1=>K (.tuple #[ah0,ah1]) co) λ_ _ _=>False)) (fA 36 p1 5 λcp=>lA 34 cp Y λcq=>
 lN 34 cq λcr=>jA (λK4 cs ct=>∀_:Env,
 bA .lss 3 cs cr λcu=>cV cu (iA 34 cq cs λcv=>lA 95 cv ct λcw=>aL 95 ct λO cx=>sA 95 O cw cx λcy=>fA 95 O 0 λcz=>lA 92 cz cy λc0=>lN 92 c0 λc1=>
 jA (λK5 c2 c3=>∀_:Env,
 bA .lss 3 c2 c1 λc4=>cV c4 (iA 92 c0 c2 λc5=>lA 183 c5 c3 λc6=>aL 183 c3 λc7 c8=>sA 183 c7 c6 c8 λM=>eF (λK6=>fA 183 c7 0 λda=>lA 3 da M λdb=>
 bB .eql 3 db (i 2) λdc=>cV dc (fA 183 c7 2 λdd=>lA 9 dd M λde=>Ah hM (qs 184 j de false) M λdf=>bB .neq 3 df (i 1) λdg=>K6 dg M) (K6 ff M))
 (λdh di=>∀_:Env,
 cV dh (fA 183 c7 3 λdj=>lA 3 dj (drew di) λdk=>sA 40 b (i 9) (drew di) λdl=>kA 3 dj dk dl (sA 3 d dk dl λdm=>js (tZ W) dm λdn=>lA 40 b dn λah2=>lA 3 d dn λah3=>
 K (.tuple #[ah2,ah3]) dn)) (bB .add 3 c2 (i 1) λdp=>K5 dp di))) (bB .add 3 cs (i 1) λdq=>K4 dq c3)) λK5=>K5 (i 0) cy) (sA 40 b (i 0) ct λdr=>sA 3 d (i 0) dr λdt=>
 js (tZ W) dt λdu=>lA 40 b du λah4=>lA 3 d du λah5=>K (.tuple #[ah4,ah5]) du)) λK4=>K4 (i 0) Y)) λK3=>K3 (iM []) (i 0) bk)) λK2=>K2 (i 0) az)))
 λK1=>K1 (i 0) ac))
def P49:dI:=λi=>match i with
 | 20=>(.of [(0,[]),(1,[]),(2,[1]),(3,[])])
 | 29=>(.of [(0,[]),(1,[]),(2,[1]),(3,[])])
 | 38=>(.of [(0,[]),(1,[]),(2,[1]),(3,[])])
 | _=>.nil
theorem WY(p0:Value)(h:S49 w K p0):CR 49 [p0] w K:=
 lL 128 P49 12 [.cell 2 40,.cell 3 3] Tryz.func49 h
theorem ah6:PL 49:=dD Tryz.func49
theorem acz:PL 115:=dD Tryz.func115
theorem acA:PL 219:=dD Tryz.func219
end Go.Proofs.YtdncbeepkacgbaaGreatDoor
