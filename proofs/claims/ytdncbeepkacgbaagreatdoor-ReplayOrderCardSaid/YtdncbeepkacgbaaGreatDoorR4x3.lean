/-
  Part 3.
-/
import Derived.Test.YtdncbeepkacgbaaGreatDoorR4x2
set_option maxHeartbeats 8000000
set_option linter.all false
set_option maxRecDepth 100000
open ByteArray renaming mk->hZ,size_extract->U7,size->VM
open Go.Fw.Flat renaming val->ia,enc->iW,sz->lx
open List renaming getElem?_eq_some_iff->jq,getElem?_eq_getElem->j0,length_append->kC,take_of_length_le->kE,mem_of_getElem?->l0,length_take->ml,append_assoc->mv,length_singleton->nD,length_map->nQ,mem_map->nT,getElem?_map->n0,take_append_drop->ob,mem_cons_self->oj,drop_eq_nil_of_le->ou,length_drop->oD,replicate->oJ,mem_cons->oS,getElem?_append_right->o1,mem_cons_of_mem->o5,drop_eq_getElem_cons->pd,mem_append->pJ,length_eq_zero_iff->qa,getElem?_append_left->qi,drop_drop->qv,map_append->rh,mem_singleton->ru,nil_append->sk,take_add_one->ta,range->tr,any_eq_true->tP,mem_iff_getElem?->u6,map_congr_left->vI,foldl_append->wI,nodup_cons->yQ,map_map->Cn,map_cons->Dz,any_eq_false->Ec,mem_of_mem_take->EG,flatMap_append->Ff,filter_append->F0,toArray->Hw,mem_range->H3,mem_filter->Jw,pairwise_iff_getElem->JK,any_cons->Ld,any_append->N4,pairwise_map->P6,any_nil->P7,nodup_append->P8,take_length->Si,getElem_mem->SK,drop_zero->U0
open Option renaming bind_some->kO,map_eq_some_iff->x7
open Go.Fw.Deep renaming dr->l2
open Go.Value renaming int->mj,string->tO
open Nat renaming zero_le->mr,le_refl->oq,add_sub_cancel_left->wM,min_eq_left->xn,le_of_eq->CJ,add_assoc->FF,le_of_lt->P5,sub_self->U6
open Go.Instr renaming sliceAt->mA,index->oK,box->pQ,sliceBounds->qh,lookup->qn,mapUpdate->qJ,keyThatStays->FR
open Bool renaming and_eq_true->nw,not_eq_true'->px,or_eq_true->rH,true_and->tx,eq_iff_iff->yh,false_or->Pn,or_false->Py
open Int renaming toNat_natCast->qs,mul_le_mul->H4,add_comm->U9
open Array renaming getElem?_eq_some_iff->vE
open Decidable renaming not_not->zP
open Prod renaming fst->P4
namespace Go.Fw
open Go.MapKept (IsKey)
open Go.ChangeMaps (setBlock)
section
variable {P:Program}{w w0 w':World}{A:Nat->Prop}{L:List HP}{b:Nat}{l:List ByteArray}
theorem Ci.lt(h:Ci w b l):b<w.heap.size:=by obtain⟨es,c,h1,_⟩:=h;grind
def GP(b:Nat)(l:List ByteArray):HP where
 p w F:=Ci w b l/\∀k,F k↔k=b
 loc w w' F h hh:=⟨by grind[Ci],h.2⟩
 lt w F b' h hb:=by rw[(h.2 b').1 hb];exact h.1.lt
theorem N1{T:TypeId}{K:Value->hM}(u:St w0 A L w)(k:∀b w',St w0 A (GP b []::L) w'->K (.map (some b)) w'):lW P (Instr.makeMap T none) w K:=
 ⟨_,_,rfl,k _ _ (u.new (Ext.push w (.map #[] 0)) (F:=λk=>k=w.heap.size) ⟨⟨#[],0,jQ _ _,rfl⟩,λ_=>Iff.rfl⟩ λb hb=>by rw[hb];exact oq _)⟩
theorem N2{T J E:TypeId}{k:ByteArray}{K:hM}(B:St w0 A (GP b l::L) w)(ht:P.underlying T=some (.map J E))(G:P.underlying J=some .string)(V:∀s∈l,s≠k)
  (U:∀w',St w0 A (GP b (l++[k])::L) w'->K w'):Md P (qJ T (.map (some b)) (.string k) (.bool true)) w K:=by
 have I:∃w',(qJ T (.map (some b)) (.string k) (.bool true)).run P w=.ok () w'/\fH (· = b) w w'/\Ci w' b (l++[k]):=by
  obtain⟨F,h,_⟩:=B.head
  have W:=h.1.lt
  obtain⟨es,c,h1,h2⟩:=h.1
  have mem:∀e∈es.toList,∃s∈l,e.key=.string s:=λe Y=>by
   have:(e.key,e.val)∈l.map λs=>(tO s,Value.bool true):=by rw[<- h2];exact nT.2 ⟨e,Y,rfl⟩
   obtain⟨s,B,u⟩:=nT.1 this
   simp only[Prod.mk.injEq]at u
   exact⟨s,B,u.1.symm⟩
  have hc:=MapKept.run_checkKey (P:=P) (w:=w) (kt:=J) (k:=.string k) G (by simp[IsKey]) false 9999
  rcases MapKept.findNow_spec (d:=.string) (k:=.string k) (by simp[IsKey]) es.toList 0 (λx O=>by obtain⟨p,_,e⟩:=mem x O;rw[e];simp[IsKey])with⟨h3,h4⟩|⟨j,e,h3,h4,h5⟩
  .have h6:=MapKept.run_findKey (P:=P) (w:=w) G h3
   refine⟨_,?_,fH.setBlock w b (.map (es.push ⟨.string k,.bool true,c⟩) (c+1)),_,_,gX _ W,?_⟩
   .simp[qJ,run_underlying ht,MapKept.run_getObj_map h1,hc,h6,kc h1,Result.andThen]
   .rw[Array.toList_push,rh,rh,h2];rfl
  .obtain⟨s,B,u⟩:=mem e (l0 h4)
   rw[h5]at u;injection u with u
   exact absurd u.symm (V s B)
 obtain⟨w',h1,h2,h3⟩:=I
 exact⟨w',h1,U w' (B.mM λF M=>⟨F,⟨h3,M.2⟩,λb hb=>.inl hb,h2.mono λk G=>(M.2 k).2 G⟩)⟩
theorem St.GP(u:St w0 A (Fw.GP b l::L) w):Ci w b l:=by obtain⟨F,h,_⟩:=u.head;exact h.1
theorem EE{f : FuncId}{u : Func}{e : Array Value -> Sem Value}{args : List Value}{v : Value}{K : Value -> World -> Prop}(E : P.funcs[f]?=some u)(hb : (u.name == "runtime.NumGoroutine")=false /\ u.body.isNone=true /\ Extern.findNext u=none)(G : Extern.find u=some e)
  (B:pr P (e args.toArray)=some v) (k:K v w):wJ P f args w K:=by
 refine⟨.inr ⟨v,w,?_,k⟩⟩
 show(match P.funcs[f]? with|none=>_|some u=>_:Sem Next).run P w=_
 rw[E]
 simp only[hb.1,hb.2.1,hb.2.2,G]
 have:=eM B w
 simp_all
theorem GQ{T:Nat}{s:ByteArray}{i:Int}{K:Value->Prop}(u:P.underlying T=some .string)(B:0<=i)(h1:i<=s.size)(k:K (.string (s.extract i.toNat s.size))):dW P (mA T (.string s) (some (hU i)) none none) K:=by
 refine⟨_,?_,k⟩
 unfold mA
 rw[bT,bR u]
 simp only[kO]
 unfold Instr.slice
 rw[bT,bR u]
 simp only[kO]
 rw[ez ea]
 have hb:pr P (qh false s.size s.size (some (hU i)) none none)=some (i.toNat,s.size,s.size):=by
  simp only[qh,bT,eW,kO]
  rw[fV B bP];rfl
 rw[bT,hb];rfl
theorem Cj(s:ByteArray)(i j:Nat):fO (s.extract i j)=((fO s).drop i).take (j-i):=by
 simp_all[fO]
theorem I5{s t:ByteArray}(h:fO s=fO t):s=t:=by
 cases s;cases t
 exact gj hZ (Array.toList_inj.1 h)
def An:List UInt8->UInt8->Option Nat
 | [],_=>none
 | x::r,c=>if x=c then some 0 else(An r c).map (· + 1)
def za(l:List UInt8)(c:UInt8):Int:=match An l c with|some k=>(k:Int)|none=>-1
theorem A6(l:List UInt8)(c:UInt8)(g:Nat->Bool):∀(r:List UInt8) (o:Nat),(∀j x,r[j]?=some x->g (o+j)=(x == c))->(List.range' o r.length).find? g=(An r c).map (o + ·)
 | [],o,h=>rfl
 | x::r,o,h=>by
  have u:=h 0 x rfl
  rw[List.length_cons,List.range'_succ,List.find?_cons,show g o=(x == c)from u]
  unfold An
  by_cases e:x=c
  .grind
  .rw[ez e,show(x == c)=false from beq_eq_false_iff_ne.2 e]
   show List.find? g _=_
   rw[A6 l c g r (o+1) λj x B=>by rw[show o+1+j=o+(j+1)from bP];simp_all]
   rw[Option.map_map]
   congr 1;grind
theorem WN(s:ByteArray)(c:UInt8):pr P (Extern.BytealgIndexByte.indexByte #[.string s,.int .u8 (c.toNat:Int)])=some (hU (za (fO s) c)):=by
 have E:Extern.BytealgIndexByte.indexByte #[.string s,.int .u8 (c.toNat:Int)]=(do let b <- Extern.Bytes.bytesOf (.string s);let d <- Extern.Bytes.asByte (.int .u8 (c.toNat:Int));match (tr b.size).find? λi=>b[i]! == d with|some i=>pure (goInt i)|none=>pure (goInt (-1))):=rfl
 have hc:(Extern.Bytes.asByte (.int .u8 (c.toNat:Int)))=pure c:=by
  show pure ((c.toNat:Int).toNat.toUInt8)=_
  simp_all
 have hb:(Extern.Bytes.bytesOf (.string s))=pure s:=rfl
 have B:(tr s.size).find? (λi=>s[i]! == c)=An (fO s) c:=by
  have:=A6 (fO s) c (λi=>s[i]! == c) (fO s) 0 λj x u=>by
   rw[IP]at u
   grind
  rw[dY]at this
  rw[List.range_eq_range',this]
  simp_all
 rw[E]
 simp only[hc,hb,bT,eW,kO,B]
 unfold za
 cases An (fO s) c<;>rfl
theorem N3(l:List UInt8)(c:UInt8):0<=za l c↔l.any (λb=>decide (b=c))=true:=by
 unfold za
 induction l with
 | nil=>exact⟨λh=>absurd (show(0:Int)<=-1 from h) ea,λh=>by cases h⟩
 | cons x r u=>
  rw[Ld]
  unfold An
  by_cases e:x=c
  .rw[fi e,fj e];exact⟨λ_=>rfl,λ_=>by show(0:Int)<=((0:Nat):Int);omega⟩
  .rw[ez e,ga e,Pn,<- u]
   cases An r c with
   | none=>exact Iff.rfl
   | some k=>exact⟨λ_=>by show(0:Int)<=(k:Int);omega,λ_=>by show(0:Int)<=((k+1:Nat):Int);omega⟩
end
end Go.Fw
namespace Go.Proofs.YtdncbeepkacgbaaGreatDoor
open Go.Fw
variable (w:World) (K:Value->hM)
def S369(J I uZ G:Value):Prop:=
 bB .eql 3 G (i 0) λa=>cV a (K (.slice none 0 0) w) (dW hH (g9 .eql 9 false true I (Go.Value.string (hZ (#[])))) λb=>cV b (cF 377 [J,G] w λc d=>
 K c d) (eo (λV=>bB .lss 3 G (i 0) λe=>cV e (cF 378 [J,I] w λf g=>bB .add 3 f (i 1) λh=>V h g) (V G w)) (λO j=>∀_:Env,
 lN 9 J λk=>bB .add 3 k (i 1) λl=>dW hH (Builtin.min_ #[3,3] 3 [O,l].toArray) λn=>lW hH (Instr.makeSlice 86 n n) j λo p=>bB .sub 3 n (i 1) λq=>
 ME (λY=>nX (λM E B r=>∀_:Env,
 bA .lss 3 B q λs=>cV s (cF 371 [E,I] r λt u=>bB .lss 3 t (i 0) λv=>cV v (Y E B u) (bA .add 3 t uZ λx=>dW hH (mA 9 E none (some x) none) λy=>
 iA 86 o B λz=>sA 9 z y u λaa=>lN 9 I λab=>bA .add 3 t ab λac=>dW hH (mA 9 E (some ac) none none) λad=>bB .add 3 B (i 1) λae=>M ad ae aa)) (
 Y E B r)) λM=>M J (i 0) p) (λU W af=>∀_:Env,
 iA 86 o W λag=>sA 9 ag U af λZ=>bB .add 3 W (i 1) λai=>dW hH (mA 86 o none (some ai) none) λaj=>K aj Z))))
theorem Su(u B E G:Value)(h:S369 w K u B E G):CR 369 [u,B,E,G] w K:=
 lE 66 (λ_=>.nil) 256 [.tmp 8] Tryz.func369 h
theorem abK:PL 345:=dF Tryz.func345
theorem abL:PL 358:=dF Tryz.func358
theorem abM:PL 369:=dF Tryz.func369
theorem abN:PL 378:=dF Tryz.func378
theorem Vp:PL 371:=dF Tryz.func371
theorem abO:PL 385:=dF Tryz.func385
end Go.Proofs.YtdncbeepkacgbaaGreatDoor
namespace Go.Proofs.YtdncbeepkacgbaaGreatDoor
open Go.Fw
def C385(s:ByteArray)(c:UInt8)(w:World):CR 385 [.string s,.int .u8 (c.toNat:Int)] w (λv w'=>v=hU (za (fO s) c)/\Ext w w'):=by
 have u:=St.start w;refine eT Tryz.func385 ?_;exact EE Tryz.func390 ⟨by kernel_rfl,by kernel_rfl,by kernel_rfl⟩ (by kernel_rfl) (WN s c) ⟨rfl,u.aF⟩
def Ck(c:UInt8):ByteArray:=⟨#[c]⟩
def C379(s:ByteArray)(c:UInt8)(w:World):CR 379 [.string s,.string (Ck c)] w (λv w'=>v=hU (za (fO s) c)/\Ext w w'):=by
 have u:=St.start w;refine eT Tryz.func379 ?_;refine eR gQ ?_;refine⟨λB w'=>B=.bool (decide (Ck c=s))/\w'=w,?_,?_⟩
 .exact aG (aC (λh=>absurd (show(1:Int)=0 from h) ea) λ_=>fE ⟨rfl,rfl⟩)
 rintro _ _ ⟨rfl,rfl⟩ _;refine aC (λh=>?_) (λ_=>?_)
 .subst h;exact⟨gj (mj .i64) (show(0:Int)=za [c] c by unfold za An;rw[fi rfl];rfl),u.aF⟩
 exact aG (aC (λ_=>gV (s:=Ck c) (e:=c) gQ ea rfl (aR abO u (C385 s c _) λ_ _ u=>⟨rfl,u.aF⟩)) λh=>absurd (show(1:Int)=1 from rfl) h)
def C371(s:ByteArray)(c:UInt8)(w:World):CR 371 [.string s,.string (Ck c)] w (λv w'=>v=hU (za (fO s) c)/\Ext w w'):=by
 have u:=St.start w;refine eT Tryz.func371 ?_;exact aR ⟨_,Tryz.func379,by kernel_rfl,by kernel_rfl⟩ u (C379 s c _) (λ_ _ u=>⟨rfl,u.aF⟩)
def WO:ByteArray:=⟨#[108,105,110,101,32,118,111,108,32,108,111,99,107,32,116,104,114,101,97,100,32,114,101,103,32,108,111,97,100,32,115,116,111,114,101,32,99,97,115,32,102,108,117,115,104,32,111,112,116,32,115,102,101,110,99,101,32,109,102,101,110,99,101,32,116,97,107,101,32,103,105,118,101,32,105,102,32,101,108,115,101,32,108,111,111,112,32,98,114,101,97,107,32,99,104,101,99,107,32,114,101,99,111,118,101,114,32,97,108,119,97,121,115]⟩
def ZP:List UInt8:=fO WO
def Vq(k:Nat):Nat:=(gC.take k).foldl (λn x=>n+x.size+1) 0
def KX(k:Nat):ByteArray:=WO.extract (Vq k) WO.size
def tT(k:Nat):ByteArray:=gC.getD k ⟨#[]⟩
def abP(k:Nat):Bool:=decide (An (ZP.drop (Vq k)) 32=some (tT k).size)&&(decide ((ZP.drop (Vq k)).take (tT k).size=fO (tT k))&&(decide (Vq (k+1)=Vq k+((tT k).size+1))&&decide (Vq k+(tT k).size+1<=ZP.length)))
def Sv:(tr 20).all abP=true:=by decide +kernel
theorem EF(k:Nat):fO (KX k)=ZP.drop (Vq k):=by
 unfold KX ZP
 rw[Cj]
 exact kE (by rw[oD,dY];omega)
def WQ(k:Nat)(h:k<20):za (fO (KX k)) 32=(tT k).size/\(tT k).size+1<=(KX k).size/\(KX k).extract 0 (tT k).size=tT k/\(KX k).extract ((tT k).size+1) (KX k).size=KX (k+1):=by
 have:=List.all_eq_true.1 Sv k (H3.2 h)
 unfold abP at this
 simp only[nw,decide_eq_true_eq]at this
 obtain⟨h1,h2,h3,h4⟩:=this
 have u:(KX k).size=ZP.length-Vq k:=by rw[<- dY,EF,oD]
 refine⟨by rw[EF];unfold za;rw[h1],bP,I5 ?_,I5 ?_⟩
 .rw[Cj,EF,U0,Nat.sub_zero];exact h2
 rw[Cj,EF,EF,qv,h3]
 exact kE cR
def kwB(k:Nat):(tT k).size<=100:=by
 by_cases h:k<21
 .exact(by decide +kernel:∀k,k<21->(tT k).size<=100) k h
 unfold tT;rw[List.getD_eq_getElem?_getD,List.getElem?_eq_none (show gC.length<=k from Nat.le_of_not_lt h)];decide
def abQ:∀k,k<21->∀s∈gC.take k,s≠tT k:=by decide +kernel
theorem N5{k:Nat}(h:k<21):gC[k]?=some (tT k):=by simp_all[gC,tT]
theorem WR{k:Nat}(h:k<21):(gC.take k++oJ (21-k) (⟨#[]⟩:ByteArray)).set k (tT k)=(gC.take (k+1)++oJ (21-(k+1)) (⟨#[]⟩:ByteArray)):=by
 have u:(gC.take k).length=k:=by rw[ml];exact xn (P5 h)
 rw[List.set_append_right _ _ bP,u,U6,show 21-k=(21-(k+1))+1 from bP,List.replicate_succ,List.set_cons_zero,ta,N5 h,mv]
 rfl
theorem Cl{k:Nat}(h:k<21):(gC.take k++oJ (21-k) (⟨#[]⟩:ByteArray)).length=21:=by
 rw[kC,ml,List.length_replicate,xn (show k<=gC.length from P5 h)];omega
def C378(w:World):CR 378 [.string WO,.string (Ck 32)] w (λv w'=>v=hU 20/\Ext w w'):=by
 have u:=St.start w;refine eT Tryz.func378 ?_;exact eR gQ (aG (aC (λh=>absurd (show(1:Int)=0 from h) ea) λ_=>eR gQ (aG (aC (λ_=>gV (s:=Ck 32) (e:=32) gQ ea rfl (EE (e:=Extern.BytealgCount.count) (v:=hU 20) Tryz.func384 ⟨by kernel_rfl,by kernel_rfl,by kernel_rfl⟩ (by kernel_rfl) (by kernel_rfl) ⟨rfl,u.aF⟩)) λh=>absurd (show(1:Int)=1 from rfl) h))))
def C369(w:World):CR 369 [.string WO,.string (Ck 32),hU 0,hU (-1)] w (λv w'=>mG (bH v gC) w w'):=by
 have u:=St.start w;refine Su _ _ _ _ _ _ ?_;unfold S369;refine aG (aC (λh=>absurd h ea) λ_=>fE (aC (λh=>absurd h ea) λ_=>?_));refine⟨λU w'=>U=hU 21/\St w bF [] w',?_,?_⟩
 .exact aS (aC (λ_=>aR abN u (C378 _) λ_ _ u=>aK ea ⟨rfl,u⟩) λh=>absurd ea h)
 rintro _ _ ⟨rfl,u⟩ _;refine eR gQ (aK ea (sg ?_));rw[show min (21:Int) ((WO.size:Int)+1)=21 from ea];refine DK (⟨#[]⟩:ByteArray) u iR UW ea ea ea (λB _ u=>fo ea ?_);refine⟨λs y w'=>s=.string (KX 20)/\y=hU 20/\St w bF [bH B (gC.take 20++oJ (21-20) (⟨#[]⟩:ByteArray))] w',?_,?_⟩
 .refine⟨λG s y w'=>∃k:Nat,s=.string (KX k)/\y=hU (k:Int)/\G=20-k/\k<=20/\St w bF [bH B (gC.take k++oJ (21-k) (⟨#[]⟩:ByteArray))] w',⟨_,0,gj tO ea,rfl,rfl,mr _,u⟩,?_⟩;rintro G _ _ _ ⟨k,rfl,rfl,rfl,Y,u⟩ _;refine aS (aC (λJ=>?_) λJ=>?_);rotate_left
  .obtain rfl:k=20:=bP
   exact⟨rfl,rfl,u⟩
  obtain⟨M,W,O,I⟩:=WQ k bP;refine aR Vp u (C371 (KX k) 32 _) (λ_ V u=>?_);rw[M];refine aS (aC (λh=>absurd h bP) λ_=>aK (show -9223372036854775808<=((tT k).size:Int)+0/\((tT k).size:Int)+0<=9223372036854775807 by have:=kwB k;omega) (GG gQ bP bP ?_));rw[show(((tT k).size:Int)+0).toNat=(tT k).size from bP,O];refine ed u iR bP (by rw[Cl bP];omega) (λq E=>kJ (tT k) u j3 E (by rw[Cl bP];omega) λ_ u=>?_);rw[qs,WR bP]at u;refine eR gQ (aK (show -9223372036854775808<=((tT k).size:Int)+1/\((tT k).size:Int)+1<=9223372036854775807 by have:=kwB k;omega) (GQ gQ (show(0:Int)<=((tT k).size:Int)+1 by omega) (show((tT k).size:Int)+1<=_ by omega) ?_))
  rw[show((tT k).size:Int)+(((Ck 32).size:Nat):Int)=((tT k).size:Int)+1 from rfl,show(((tT k).size:Int)+1).toNat=(tT k).size+1 from bP,I];exact aK bP ⟨_,bP,k+1,rfl,rfl,rfl,bP,u⟩
 rintro _ _ _ ⟨rfl,rfl,u⟩ _;exact ed u iR ea (by rw[Cl ea];decide) (λ_ E=>kJ (KX 20) u j3 E (by rw[Cl ea];decide) λ_ u=>aK ea (ni iR u ea ea λ_ u=>u.fresh))
def C358(w:World):CR 358 [.string WO,.string (Ck 32)] w (λv w'=>mG (bH v gC) w w'):=by
 have u:=St.start w;refine eT Tryz.func358 ?_;exact fZ abM u (C369 _) (λ_ _ _ u=>u.fresh)
def C345(w:World):CR 345 [] w (λv w'=>∃b,v=.map (some b)/\Ci w' b gC/\Ext w w'):=by
 have u:=St.start w;refine eT Tryz.func345 ?_;refine N1 u (λb _ u=>fZ abL u (C358 _) λI _ M u=>aI iR u.eU ?_);refine⟨λE y w'=>∃k:Nat,y=hU (k:Int)/\E=21-k/\k<=21/\St w bF [GP b (gC.take k),bH I gC] w',⟨_,0,rfl,rfl,mr _,u.p1⟩,?_⟩;rintro E _ _ ⟨k,rfl,rfl,O,u⟩ _;refine aS (aC (λB=>?_) λB=>?_);rotate_left
 .obtain rfl:k=21:=by have h:¬ (k:Int)<21:=B;omega
  exact⟨b,rfl,u.GP,u.aF⟩
 have G:k<21:=by have h:(k:Int)<21:=B;omega
 refine aZ iR u.p1.eU bP (N5 (show((k:Nat):Int).toNat<21 by omega)) (λq J=>aE j3 J ?_);rw[qs];refine N2 u Tryz.underlying403 gQ (abQ k G) (λ_ u=>aK bP ?_);refine⟨_,bP,k+1,rfl,rfl,bP,?_⟩;rw[ta,N5 G];exact u
def FnU(w:World)(f:Value)(g:UInt8->Bool):Prop:=∃B first cap,f=.func (.func B) (Hw first) (Hw cap)/\Plain hH B/\
 ∀(c:UInt8) u,Ext w u->Calls hH B (first++[mj .u8 c.toNat]++cap).toArray u (oV λv E=>v=.bool (g c)/\Ext u E)
def Sw{g:UInt8->Bool}{l:List UInt8}{k:Nat}(B:∀y∈l.take k,g y=true)(u:k<=l.length)(h:(match l[k]? with|some c=>g c|none=>false)=false):k=l.length↔l.all g=true:=by
 grind
def rA(s:ByteArray):Bool:=decide (s.size<1\/16<s.size)||(match (fO s)[0]? with|some c=>!fc c.toNat|none=>true)||gC.any (λy=>decide (y=s))
def N6{s:ByteArray}(h:rA s=false):s.size<=1048576:=by
 unfold rA at h
 grind
def N7{s:ByteArray}(h:rA s=true):fB s=false:=by
 show(!(rA s)&&_)=false
 rw[h];rfl
def N8{s:ByteArray}{n:Nat}(h:rA s=false)(u:n=(fO s).length↔(fO s).all (λc=>fc c.toNat||ie c.toNat)=true):decide ((n:Int)=(s.size:Int))=fB s:=by
 show _=(!(rA s)&&!(fO s).any λc=>!fc c.toNat&&!ie c.toNat)
 rw[h,Bool.not_false,tx,<- dY]
 grind
theorem WT{s:ByteArray}(h:s.size=0):s=hZ #[]:=by
 cases s with
 | mk a=>cases a with
  | mk l=>cases l with
   | nil=>rfl
   | cons x r=>simp[VM]at h
def C291(c:Int)(w:World):CR 291 [.int .u8 c] w (λv w'=>v=.bool (fc c)/\Ext w w'):=by
 have B:=St.start w;refine eT Tryz.func291 ?_;refine⟨λu w'=>u=.bool (decide (97<=c/\c<=122\/c=95))/\w=w',uI (aC (λ_=>uH (aC (λ_=>⟨FT bP,rfl⟩) λ_=>kS ⟨xr bP,rfl⟩)) λ_=>kS ⟨xr bP,rfl⟩),?_⟩;rintro _ _ ⟨rfl,E⟩ _;subst E;exact⟨rfl,B.aF⟩
def C295(c:Int)(w:World):CR 295 [.int .u8 c] w (λv w'=>v=.bool (ie c)/\Ext w w'):=by
 have B:=St.start w;refine eT Tryz.func295 ?_;refine⟨λu w'=>u=.bool (decide (48<=c/\c<=57))/\w=w',uI (aC (λ_=>uH ⟨xr bP,rfl⟩) λ_=>⟨Rc bP,rfl⟩),?_⟩;rintro _ _ ⟨rfl,E⟩ _;subst E;exact⟨rfl,B.aF⟩
def C294(c:Int)(w:World):CR 294 [.int .u8 c] w (λv w'=>v=.bool (fc c||ie c)/\Ext w w'):=by
 have u:=St.start w;refine eT Tryz.func294 ?_;refine⟨λB w'=>B=.bool (fc c||ie c)/\St w bF [] w',aR Vg u (C291 _ _) (λ_ _ u=>bD (λ_=>⟨vb cR,u⟩) λ_=>aR abv u (C295 _ _) λ_ _ u=>⟨vb cR,u⟩),?_⟩;rintro _ _ ⟨rfl,u⟩ _;exact⟨rfl,u.aF⟩
def C293(s:ByteArray)(fv:Value)(g:UInt8->Bool)(w:World)(V:FnU w fv g)(hn:s.size<=1048576):CR 293 [.string s,fv] w (λv w'=>∃n:Nat,v=hU (n:Int)/\(n=(fO s).length↔(fO s).all g=true)/\Ext w w'):=by
 obtain⟨g0,first,cap,rfl,U,O⟩:=V;have u:=St.start w;refine So _ _ _ _ ?_;unfold S293;refine⟨λm x M=>∃k:Nat,x=hU (k:Int)/\m=(fO s).length-k/\k<=(fO s).length/\(∀y∈(fO s).take k,g y=true)/\St w bF [] M,⟨_,0,rfl,rfl,mr _,ew,u⟩,?_⟩;rintro m _ M ⟨k,rfl,rfl,Z,J,u⟩ _;have Mi:=dY s;refine⟨λY w'=>Y=.bool (match (fO s)[k]? with|some c=>g c|none=>false)/\St w bF [] w',eR gQ (aS (aC (λj7=>?_) λ_=>⟨vb cR,u⟩)),?_⟩
 .obtain⟨I,B⟩:∃G,(fO s)[(k:Int).toNat]?=some G:=⟨_,j0 (by rw[dY];omega)⟩;refine gV gQ bP B (fm U (O I _ u.aF) ?_);rintro _ _ ⟨rfl,W⟩;have u:=u.ext W;exact⟨vb cR,u⟩
 rintro _ _ ⟨rfl,u⟩ _;refine bD (λE=>?_) (λE=>⟨k,rfl,Sw J Z (by simpa using E),u.aF⟩);obtain⟨I,B⟩:∃G,(fO s)[k]?=some G:=by cases h:(fO s)[k]? with|none=>rw[h]at E;cases E|some x=>exact⟨x,rfl⟩
 have RA:=(jq.1 B).1;exact aK bP ⟨_,bP,k+1,rfl,rfl,bP,eE J B cR,u⟩
def C292(s:ByteArray)(w:World):CR 292 [.string s] w (λv w'=>v=.bool (gC.any λy=>decide (y=s))/\Ext w w'):=by
 have u:=St.start w;refine eT Tryz.func292 ?_;refine dX abK (C345 _) ?_;rintro _ _ ⟨G,rfl,B,E⟩;have u:=u.ext E;exact ED B Tryz.underlying403 Tryz.underlying9 MY ⟨rfl,u.aF⟩
def C206(s:ByteArray)(w:World):CR 206 [.string s] w (λv w'=>v=.bool (fB s)/\Ext w w'):=by
 have u:=St.start w;refine eT Tryz.func206 ?_;refine⟨λW w'=>W=.bool (rA s)/\St w bF [] w',fE (aC (λG=>?_) λG=>?_),?_⟩
 .have U:s.size=0:=by rw[G];rfl
  exact⟨vb (by unfold rA;grind),u⟩
 .have U:s.size≠0:=λh=>G (WT h);refine eR gQ (dL (aC (λ_=>⟨vb (by unfold rA;grind),u⟩) λeS=>?_));obtain⟨M,I⟩:∃J,(fO s)[(0:Int).toNat]?=some J:=⟨_,j0 (by rw[dY];omega)⟩;refine gV gQ bP I ?_;have Y:(fO s)[0]?=some M:=I;have ZQ:¬ (s.size<1\/16<s.size):=bP
  exact aR Vg u (C291 _ _) (λ_ _ u=>bJ (bD (λ_=>⟨vb (by unfold rA;grind),u⟩) λ_=>aR aby u (C292 _ _) λ_ _ u=>⟨vb (by unfold rA;grind),u⟩))
 rintro _ _ ⟨rfl,u⟩ _;refine bD (λB=>⟨vb (N7 B).symm,u.aF⟩) (λB=>dX abw (C293 s _ (λc=>fc c.toNat||ie c.toNat) _ ⟨294,[],[],rfl,abx,λ_ O _=>C294 _ O⟩ (N6 (by simpa using B))) ?_);rintro _ _ ⟨Z,rfl,E,V⟩;have u:=u.ext V;exact eR gQ (aG ⟨vb (N8 (by simpa using B) E),u.aF⟩)
def KY(xs:List bI)(i:Int)(n:Nat):Int:=if n=0 then i else if i<0 then -1 else xB xs.length (skip n (xs.drop i.toNat))
def Sx(xs:List bI)(i:Int):KY xs i 1=mQ xs i:=by unfold KY mQ;omega
theorem Oa(xs:List bI)(i:Int):KY xs i 0=i:=rfl
theorem Sy{xs:List bI}{i:Int}{n:Nat}(u:0<n)(h:i<0\/(xs.length:Int)<=i):KY xs i n = -1:=by
 unfold KY
 rw[ez bP]
 split
 .rfl
 rw[ou bP]
 cases n with
 | zero=>omega
 | succ n=>rfl
theorem Sz{xs:List bI}{i:Int}{n:Nat}{x:bI}(I:0<n)(G:0<=i)(u:xs[i.toNat]?=some x)(J:kids x.op<0):KY xs i n = -1:=by
 unfold KY
 obtain⟨E,B⟩:=jq.1 u
 rw[ez bP,ez bP,pd E,B]
 cases n with
 | zero=>omega
 | succ n=>
  grind[xB,skip]
theorem Ob{xs:List bI}{i:Int}{n m:Nat}{x:bI}(J:0<n)(G:0<=i)(u:xs[i.toNat]?=some x)(M:0<=kids x.op)(I:(m:Int)=n+kids x.op-1):KY xs i n=KY xs (i+1) m:=by
 obtain⟨E,B⟩:=jq.1 u
 have h1:KY xs i n=xB xs.length (skip m (xs.drop (i+1).toNat)):=by
  unfold KY
  rw[ez bP,ez bP,pd E,B,show(i+1).toNat=i.toNat+1 from bP]
  cases n with
  | zero=>omega
  | succ n=>
   grind[xB,skip]
 rw[h1]
 grind[xB,skip,KY]
def Oc(i:Int)(ks:List Ex)(k:Nat):List Int:=(tr k).map λj=>i+1+(pj ks j:Int)
theorem Od(i:Int)(ks:List Ex)(k:Nat):Oc i ks (k+1)=Oc i ks k++[i+1+(pj ks k:Int)]:=by
 unfold Oc;rw[List.range_succ,rh];rfl
theorem I7(i:Int)(ks:List Ex)(k:Nat):(Oc i ks k).length=k:=by simp[Oc]
def SA{i:Int}{ks:List Ex}{n k:Nat}{e:Int}(h:(Oc i ks n)[k]?=some e):e=i+1+(pj ks k:Int)/\k<n:=by
 unfold Oc at h
 grind
def C304(k:Int)(w:World):CR 304 [hU k] w (λv w'=>v=hU (kids k)/\Ext w w'):=by
 have E:=St.start w;refine eT Tryz.func304 ?_;refine⟨λu w'=>u=.bool (decide (k=1\/k=2))/\w=w',aG (aC (λ_=>⟨FT bP,rfl⟩) λ_=>aG ⟨xr bP,rfl⟩),?_⟩;rintro _ _ ⟨rfl,B⟩ _;subst B;refine aC (λI=>?_) (λI=>⟨λu w'=>u=.bool (decide (k=3\/k=4))/\w=w',aG (aC (λ_=>⟨FT bP,rfl⟩) λ_=>aG ⟨xr bP,rfl⟩),?_⟩)
 .unfold kids;exact⟨gj (mj .i64) cR,E.aF⟩
 rintro _ _ ⟨rfl,B⟩ _;subst B;refine aC (λJ=>?_) (λJ=>⟨λu w'=>u=.bool (decide (5<=k/\k<=15))/\w=w',cJ (aC (λ_=>gO ⟨xr bP,rfl⟩) λ_=>⟨Rc bP,rfl⟩),?_⟩)
 .unfold kids;exact⟨gj (mj .i64) cR,E.aF⟩
 rintro _ _ ⟨rfl,B⟩ _;subst B;refine aC (λG=>?_) (λG=>?_)
 .unfold kids;exact⟨gj (mj .i64) cR,E.aF⟩
 unfold kids;exact⟨gj (mj .i64) cR,E.aF⟩
def C229(x:bI)(w:World):CR 229 [ia x] w (λv w'=>v=.bool (!xD x)/\Ext w w'):=by
 have u:=St.start w;refine eT Tryz.func229 ?_;refine bY u (λE _ u=>⟨λB w'=>B=.bool (decide (x.at_<0\/4000<x.at_))/\St w bF [bM E (iW x)] w',aA uA (aB (v:=hU x.at_) bL u.hb rfl (aS (aC (λ_=>⟨vb cR,u⟩) λ_=>aA uA (aB (v:=hU x.at_) bL u.hb rfl (dL ⟨vb cR,u⟩))))),?_⟩);rintro _ _ ⟨rfl,u⟩ _;refine bD (λJ=>?_) (λJ=>?_)
 .refine⟨vb ?_,u.drop.aF⟩;unfold xD
  grind
 refine aA ix (aB (v:=hU x.op) bL u.hb rfl (aG (aC (λI=>⟨λB w'=>B=.bool (decide (0<=x.n/\x.n<=4294967296/\x.name=⟨#[]⟩))/\St w bF [bM E (iW x)] w',aA qX (aB (v:=hU x.n) bL u.hb rfl (cJ (aC (λ_=>aA qX (aB (v:=hU x.n) bL u.hb rfl (gO (aC (λ_=>aA l4 (aB (v:=.string x.name) j3 u.hb rfl (fE ⟨vb cR,u⟩))) λ_=>⟨vb cR,u⟩)))) λ_=>⟨vb cR,u⟩))),?_⟩) λI=>?_)))
 .rintro _ _ ⟨rfl,u⟩ _;refine⟨vb ?_,u.drop.aF⟩;unfold xD
  grind
 refine aA ix (aB (v:=hU x.op) bL u.hb rfl (aG (aC (λG=>⟨λB w'=>B=.bool (decide (x.n=0)&&fB x.name)/\St w bF [bM E (iW x)] w',aA qX (aB (v:=hU x.n) bL u.hb rfl (aG (aC (λ_=>aA l4 (aB (v:=.string x.name) j3 u.hb rfl (aR En u (C206 _ _) λ_ _ u=>⟨vb cR,u⟩))) λ_=>⟨vb cR,u⟩))),?_⟩) λG=>?_)))
 .rintro _ _ ⟨rfl,u⟩ _;refine⟨vb ?_,u.drop.aF⟩;unfold xD
  grind
 refine⟨λB w'=>B=.bool (decide (x.n=0/\x.name=⟨#[]⟩))/\St w bF [bM E (iW x)] w',aA qX (aB (v:=hU x.n) bL u.hb rfl (aG (aC (λ_=>aA l4 (aB (v:=.string x.name) j3 u.hb rfl (fE ⟨vb cR,u⟩))) λ_=>⟨vb cR,u⟩))),?_⟩;rintro _ _ ⟨rfl,u⟩ _;refine⟨vb ?_,u.drop.aF⟩;unfold xD
 grind
def C228(x:bI)(w:World):CR 228 [ia x] w (λv w'=>v=.bool (xD x)/\Ext w w'):=by
 have u:=St.start w;refine eT Tryz.func228 ?_;exact bY u (λ_ _ u=>aE wS u.At (aR abz u (C229 _ _) λ_ _ u=>bJ ⟨vb ew,u.drop.aF⟩))
def C303(M fv:Value)(xs:List bI)(g:bI->Bool)(w:World)(J:dy (λ_=>True) w M xs)(Y:qI w fv g)(hn:xs.length<=1073741824):CR 303 [M,fv] w (λv w'=>v=hU (pg g xs)/\Ext w w'):=by
 obtain⟨g0,first,cap,rfl,W,V⟩:=Y;have u:=St.start w;refine eT Tryz.func303 ?_;refine aI jx (J.ext u.aF) ?_;refine⟨λm x E=>∃k:Nat,x=hU (k:Int)/\m=xs.length-k/\k<=xs.length/\(∀y∈xs.take k,g y=false)/\St w bF [] E,⟨_,0,rfl,rfl,mr _,ew,u⟩,?_⟩;rintro m _ E ⟨k,rfl,rfl,hk,B,u⟩ _;refine aS (aC (λj7=>?_) λ_=>⟨gj (mj .i64) (gy (by rw[kE bP]at B;exact B)).symm,u.aF⟩);obtain⟨O,G⟩:=gx xs (i:=(k:Int).toNat) bP;refine aZ jx J bP G (λ_ U=>aE wS (U.ext u.aF) (fm W (V O E u.aF) ?_))
 rintro _ _ ⟨rfl,Z⟩;have u:=u.ext Z;exact bD (λI=>⟨gj (mj .i64) (jA B G I).symm,u.aF⟩) (λI=>aK bP ⟨xs.length-(k+1),bP,k+1,rfl,rfl,bP,eE B G I,u⟩)
def C230(B fv:Value)(xs:List bI)(g:bI->Bool)(w:World)(E:dy (λ_=>True) w B xs)(G:qI w fv g)(I:xs.length<=1073741824):CR 230 [B,fv] w (λv w'=>v=.bool (xs.any g)/\Ext w w'):=by
 have u:=St.start w;refine eT Tryz.func230 ?_;exact aR abG u (C303 _ _ _ _ _ (E.ext u.aF) (G.ext u.aF) bP) (λ_ _ u=>cJ ⟨vb (iB _ _),u.aF⟩)
def C231(lv:Value)(xs:List bI)(i:Int)(w:World)(I:dy (λ_=>True) w lv xs)(hn:xs.length<=1048576):CR 231 [lv,hU i] w (λv w'=>v=hU (mQ xs i)/\Ext w w'):=by
 have u:=St.start w;refine eT Tryz.func231 ?_;refine⟨λm x y U=>∃(a:Int) (n:Nat),x=hU a/\y=hU (n:Int)/\m=xs.length-a.toNat/\n<=1+a.toNat/\KY xs a n=mQ xs i/\St w bF [] U,⟨_,i,1,rfl,rfl,rfl,bP,Sx _ _,u⟩,?_⟩;rintro m _ _ U ⟨a,n,rfl,rfl,rfl,hna,G,u⟩ _;refine dL (aC (λW=>⟨λjv w'=>jv=.bool (decide (a<0\/(xs.length:Int)<=a)||(match xs[a.toNat]? with|some x=>decide (kids x.op = -1)|none=>true))/\St w bF [] w',aS (aC (λ_=>⟨vb cR,u⟩) λiU=>aI jx (I.ext u.aF) (cJ (aC (λ_=>⟨vb cR,u⟩) λcW=>?_))),?_⟩) λW=>?_)
 .obtain⟨B,E⟩:=gx xs (i:=a.toNat) bP;have WG:=rn B.op;exact aZ jx I bP E (λ_ J=>cU B.op ix J rfl rfl λ_ Z=>aE bL (Z.ext u.aF) (aR NR u (C304 _ _) λ_ _ u=>aG ⟨vb cR,u⟩))
 .rintro _ _ ⟨rfl,u⟩ _;refine bD (λO=>?_) (λO=>?_)
  .refine⟨gj (mj .i64) ?_,u.aF⟩;rw[<- G]
   by_cases hq:a<0\/(xs.length:Int)<=a
   .exact(Sy bP hq).symm
   have M:a.toNat<xs.length:=bP
   rw[j0 M]at O;exact(Sz bP bP (j0 M) cR).symm
  have h23:¬ (a<0\/(xs.length:Int)<=a):=cR
  obtain⟨B,E⟩:=gx xs (i:=a.toNat) bP;have WG:=rn B.op;have NK:0<=kids B.op:=cR
  exact aZ jx I bP E (λ_ uQ=>cU B.op ix uQ rfl rfl λ_ V=>aE bL (V.ext u.aF) (aR NR u (C304 _ _) λ_ _ u=>aK bP (aK bP (fo bP ⟨_,bP,a+1,((n:Int)+kids B.op-1).toNat,rfl,gj (mj .i64) bP,rfl,bP,by rw[<- G];exact(Ob bP bP E NK bP).symm,u⟩))))
 have Y:n=0:=bP
 rw[Y,Oa]at G;exact⟨gj (mj .i64) G,u.aF⟩
theorem wX{l:List bI}:fN l=(decide (l.length<=40)&&decide (mQ l 0=l.length)&&!l.any xD&&decide (NM l<=12)):=by
 unfold fN;rw[El]
def C305(lv:Value)(xs:List bI)(i:Int)(t:Ex)(w:World)(G:dy (λ_=>True) w lv xs)(hn:xs.length<=1048576)(B:A0 xs i t):CR 305 [lv,hU i] w (λv w'=>mG (bH v (Oc i t.dR t.dR.length)) w w'):=by
 obtain⟨I,hq,rq⟩:∃e,e=t.root/\xs[(i).toNat]?=some e:=⟨_,rfl,B.root.1⟩;have O:=B.root.2;have Z:=B.end;have Y:=Ex.uS B.2.1;rw[<- hq]at Y;have WG:=rn I.op;have Vf:=B.1;have u:=St.start w;refine eT Tryz.func305 ?_;refine aK bP (aZ jx G bP rq λ_ zb=>cU I.op ix zb rfl rfl λ_ Of=>aE bL (Of.ext u.aF) (aR NR u (C304 _ _) λJ he u=>?_));refine⟨λm M a x J=>∃k:Nat,a=hU (i+1+pj t.dR k)/\x=hU (k:Int)/\m=t.dR.length-k/\k<=t.dR.length/\St w bF [bH M (Oc i t.dR k)] J,⟨_,0,gj (mj .i64) (by simp[pj]),rfl,rfl,bP,u.eF (α:=Int)⟩,?_⟩
 rintro m M _ _ _ ⟨k,rfl,rfl,rfl,hk,u⟩ _;refine aS (aC (λcW=>?_) λcW=>?_)
 .obtain⟨a,E⟩:=gx t.dR (i:=k) bP;have V:=Ex.ti B.2.1 (l0 E);have Rg:=B.kid E;have W:=Rg.end;have ZN:=a.od;refine bK ([(i+1+pj t.dR k:Int)]) u dz rfl rfl (dP rfl) (λVr _ u=>?_);have U:=u.eU;exact cO u.p1 dz U (by rw[I7];exact P5 (by simp;omega)) ea (λ_ _ u=>have u:=u.p1.drop;aR NS u (C231 _ _ _ _ (G.ext u.aF) bP) λ_ _ u=>aK bP ⟨_,bP,k+1,gj (mj .i64) (by rw[W.1,vS E];omega),rfl,rfl,bP,by rw[Od];exact u⟩)
 rw[show t.dR.length=k from bP];exact u.fresh
theorem C232(lv:Value)(xs:List bI)(i:Int)(t:Ex)(N:Nat)(w:World)(I:dy (λ_=>True) w lv xs)(Z:xs.length<=1048576)(B:A0 xs i t)(hN:t.size<N):CR 232 [lv,hU i] w (λv w'=>v=hU t.depth/\Ext w w'):=by
 obtain⟨Y,hq,rq⟩:∃e,e=t.root/\xs[(i).toNat]?=some e:=⟨_,rfl,B.root.1⟩;have V:=B.root.2;have hie:=B.end;have NK:=Ex.uS B.2.1;rw[<- hq]at NK;have WG:=rn Y.op;have Vf:=B.1;have u:=St.start w;refine Sp _ _ _ _ ?_;unfold S232;refine fZ abB u (C305 _ _ _ t _ (I.ext u.aF) bP B) (λE J dw u=>?_);have Og:=I7 i t.dR t.dR.length;refine aI dz u.eU ?_;refine⟨λm n x J=>∃k:Nat,n=hU (xC t.dR k)/\x=hU (k:Int)/\m=t.dR.length-k/\k<=t.dR.length/\St w bF [bH E (Oc i t.dR t.dR.length)] J,⟨_,0,rfl,rfl,rfl,bP,u⟩,?_⟩;rintro m _ _ _ ⟨k,rfl,rfl,rfl,hk,u⟩ _
 have hdk:=GK (ks:=t.dR) (N:=(t.size:Int)) bP (λa ha=>by have:=(Ex.ti B.2.1 ha).2;have:=a.od;omega) k;refine aS (aC (λuO=>?_) λ_=>aK bP ⟨gj (mj .i64) (by rw[t.Ek,show k=t.dR.length from bP]),u.aF⟩);obtain⟨iV,M⟩:=gx (Oc i t.dR t.dR.length) (i:=(k:Int).toNat) bP;refine ed u dz bP bP (λ_ U=>gP u bL U M ?_);obtain⟨rfl,NJ⟩:=SA M;obtain⟨a,G⟩:=gx t.dR (i:=k) bP;have W:=Ex.ti B.2.1 (l0 G);have O:=B.kid G;have WI:=O.end;have ZN:=a.od
 exact aR Vh u (C232 _ _ _ _ (N-1) _ (I.ext u.aF) Z O bP) (λ_ _ u=>xY (aK bP ⟨_,bP,k+1,by rw[vT G],rfl,rfl,bP,u⟩))
termination_by N
decreasing_by all_goals omega
def C121(lv:Value)(xs:List bI)(w:World)(B:dy (λ_=>True) w lv xs)(G:xs.length<=1048576):CR 121 [lv] w (λv w'=>v=.bool (fN xs)/\Ext w w'):=by
 have u:=St.start w;refine eT Tryz.func121 ?_;refine⟨λV w'=>V=.bool (decide (xs.length=0\/40<xs.length)||xs.any xD||decide (¬ mQ xs 0=xs.length))/\St w bF [] w',aI jx (B.ext u.aF) (aG (aC (λ_=>⟨vb cR,u⟩) λY=>aI jx (B.ext u.aF) (dL (aC (λ_=>⟨vb cR,u⟩) λW=>?_)))),?_⟩
 .have E:qI w (.func (.func 228) [].toArray [].toArray) xD:=
   ⟨228,[],[],rfl,abA,λy I _=>C228 y I⟩
  exact aR abF u (C230 _ _ _ _ _ (B.ext u.aF) E bP) (λ_ _ u=>bD (λ_=>⟨vb cR,u⟩) λ_=>aR NS u (C231 _ _ _ _ (B.ext u.aF) bP) λ_ _ u=>aI jx (B.ext u.aF) (cC ⟨vb cR,u⟩))
 rintro _ _ ⟨rfl,u⟩ _;refine bD (λJ=>?_) (λJ=>?_)
 .refine⟨vb ?_,u.aF⟩;rw[wX]
  by_cases M:xs.length=0
  .obtain rfl:=qa.1 M;rfl
  grind
 have U:mQ xs 0=xs.length:=cR
 obtain⟨t,ht⟩:=A0.of (xs:=xs) (i:=0) bP;have O:=ht.zero U;refine aR Vh u (C232 _ _ _ t (t.size+1) _ (B.ext u.aF) G ht bP) (λ_ Z u=>gO ?_);refine⟨vb ?_,u.aF⟩;rw[wX];unfold NM;rw[O.2]
 grind
def j4(o:List ByteArray)(x:bI):List ByteArray:=if x.op=2/\o.any (λy=>decide (y=x.name))=false then o++[x.name]else o
theorem Oh{o:List ByteArray}{x:bI}(h:x.op=2/\o.any (λy=>decide (y=x.name))=false):j4 o x=o++[x.name]:=fi h
theorem Oi{o:List ByteArray}{x:bI}(h:¬ (x.op=2/\o.any (λy=>decide (y=x.name))=false)):j4 o x=o:=ez h
def j5(xs:List bI):List ByteArray:=xs.foldl j4 []
theorem EH{xs:List bI}{k:Nat}{x:bI}(h:xs[k]?=some x):j5 (xs.take (k+1))=j4 (j5 (xs.take k)) x:=by
 unfold j5;rw[<- gw h,wI];rfl
theorem wY(xs:List bI):(j5 xs).length<=xs.length:=by
 have:∀(l:List bI) (o:List ByteArray),(l.foldl j4 o).length<=o.length+l.length:=by
  intro l
  induction l with
  | nil=>grind
  | cons x l u=>
   grind[j4]
 simpa[j5]using this xs []
theorem GS(g:ByteArray->Bool)(xs:List bI):(j5 xs).any g=xs.any λx=>decide (x.op=2)&&g x.name:=by
 have:∀(l:List bI) (o:List ByteArray),(l.foldl j4 o).any g=(o.any g||l.any λx=>decide (x.op=2)&&g x.name):=by
  intro l
  induction l with
  | nil=>grind
  | cons x l u=>
   intro o
   show(l.foldl j4 (j4 o x)).any g=_
   rw[u]
   have h2:(j4 o x).any g=(o.any g||(decide (x.op=2)&&g x.name)):=by
    unfold j4
    grind
   grind
 exact(this xs []).trans ew
theorem vW(ns:List ByteArray)(s:ByteArray):decide (0<=cT ns s)=ns.any λy=>decide (y=s):=iB _ _
theorem KZ(ns:List ByteArray)(s:ByteArray):decide (cT ns s<0) = !ns.any λy=>decide (y=s):=by
 rw[<- vW]
 grind
def GU{k:Int}(h:0<=kids k):eV k=kids k:=by unfold eV kids at *;grind
def SC{ns:List ByteArray}{xs:List bI}(h:fN xs=false):qo ns xs=8:=by unfold qo;grind
def SD{ns:List ByteArray}{xs:List bI}(h:fN xs=true):qo ns xs=if (j5 xs).any (λs=>!ns.any λy=>decide (y=s))=true then 9 else 0:=by
 unfold qo
 rw[ez (by simp[h]),GS]
 simp only[KZ]
theorem EI{ns:List ByteArray}{xs:List bI}(h:¬ qo ns xs=0):yY ns xs=[]:=by unfold yY;grind
def vX(ns:List ByteArray)(u:List Int)(xs:List bI):Int×Int:=if ns.length=u.length then(if qo ns xs=0 then runM (yY ns xs) u else(0,qo ns xs))else(0,1)
def C233(M:Value)(ns:List ByteArray)(s:ByteArray)(w:World)(I:dy (λ_=>True) w M ns)(W:ns.length<=1048576):CR 233 [M,.string s] w (λv w'=>v=hU (cT ns s)/\Ext w w'):=by
 have u:=St.start w;refine eT Tryz.func233 ?_;refine aI iR (I.ext u.aF) ?_;refine⟨λm x J=>∃k:Nat,x=hU (k:Int)/\m=ns.length-k/\k<=ns.length/\(∀y∈ns.take k,decide (y=s)=false)/\St w bF [] J,⟨_,0,rfl,rfl,mr _,ew,u⟩,?_⟩;rintro m _ J ⟨k,rfl,rfl,Y,B,u⟩ _;refine aS (aC (λV=>?_) λ_=>⟨gj (mj .i64) (gy (by rw[kE bP]at B;exact B)).symm,u.aF⟩);obtain⟨U,E⟩:=gx ns (i:=(k:Int).toNat) bP;exact aZ iR I bP E (λ_ O=>aE j3 (O.ext u.aF) (fE (aC (λG=>⟨gj (mj .i64) (jA B E (fj G.symm)).symm,u.aF⟩) λG=>aK bP ⟨_,bP,k+1,rfl,rfl,bP,eE B E (ga λh=>G h.symm),u⟩)))
def C123(B:Value)(ns:List ByteArray)(s:ByteArray)(w:World)(E:dy (λ_=>True) w B ns)(G:ns.length<=1048576):CR 123 [B,.string s] w (λv w'=>v=.bool (ns.any λy=>decide (y=s))/\Ext w w'):=by
 have u:=St.start w;refine eT Tryz.func123 ?_;exact aR NT u (C233 _ _ _ _ (E.ext u.aF) bP) (λ_ _ u=>cJ ⟨vb (vW _ _),u.aF⟩)
def C234(M fv:Value)(xs:List ByteArray)(g:ByteArray->Bool)(w:World)(J:dy (λ_=>True) w M xs)(Y:qI w fv g)(hn:xs.length<=1073741824):CR 234 [M,fv] w (λv w'=>v=hU (pg g xs)/\Ext w w'):=by
 obtain⟨g0,first,cap,rfl,W,V⟩:=Y;have u:=St.start w;refine eT Tryz.func234 ?_;refine aI iR (J.ext u.aF) ?_;refine⟨λm x E=>∃k:Nat,x=hU (k:Int)/\m=xs.length-k/\k<=xs.length/\(∀y∈xs.take k,g y=false)/\St w bF [] E,⟨_,0,rfl,rfl,mr _,ew,u⟩,?_⟩;rintro m _ E ⟨k,rfl,rfl,hk,B,u⟩ _;refine aS (aC (λj7=>?_) λ_=>⟨gj (mj .i64) (gy (by rw[kE bP]at B;exact B)).symm,u.aF⟩);obtain⟨O,G⟩:=gx xs (i:=(k:Int).toNat) bP;refine aZ iR J bP G (λ_ U=>aE j3 (U.ext u.aF) (fm W (V O E u.aF) ?_))
 rintro _ _ ⟨rfl,Z⟩;have u:=u.ext Z;exact bD (λI=>⟨gj (mj .i64) (jA B G I).symm,u.aF⟩) (λI=>aK bP ⟨xs.length-(k+1),bP,k+1,rfl,rfl,bP,eE B G I,u⟩)
def C124(B fv:Value)(xs:List ByteArray)(g:ByteArray->Bool)(w:World)(E:dy (λ_=>True) w B xs)(G:qI w fv g)(I:xs.length<=1073741824):CR 124 [B,fv] w (λv w'=>v=.bool (xs.any g)/\Ext w w'):=by
 have u:=St.start w;refine eT Tryz.func124 ?_;exact aR abH u (C234 _ _ _ _ _ (E.ext u.aF) (G.ext u.aF) bP) (λ_ _ u=>cJ ⟨vb (iB _ _),u.aF⟩)
def C125(lv:Value)(xs:List bI)(w:World)(E:dy (λ_=>True) w lv xs)(hn:xs.length<=1048576)(Z:fN xs=true):CR 125 [lv] w (λv w'=>mG (bH v (j5 xs)) w w'):=by
 have u:=St.start w;refine eT Tryz.func125 ?_;refine aR I3 u (C121 _ _ _ (E.ext u.aF) bP) (λY he u=>bJ (bD (λM=>?_) λM=>?_))
 .rw[Z]at M;cases M
 refine aI jx (E.ext u.aF) ?_;refine⟨λm V x Y=>∃k:Nat,x=hU (k:Int)/\m=xs.length-k/\k<=xs.length/\St w bF [bH V (j5 (xs.take k))] Y,⟨_,0,rfl,rfl,bP,u.eF (α:=ByteArray)⟩,?_⟩;rintro m V _ _ ⟨k,rfl,rfl,hk,u⟩ _;refine aS (aC (λlu=>?_) λlu=>?_)
 .obtain⟨B,W⟩:=gx xs (i:=(k:Int).toNat) bP;refine⟨λU w'=>St w bF [bH U (j4 (j5 (xs.take k)) B)] w',?_,?_⟩
  .have Ra:=wY (xs.take k);rw[ml]at Ra;refine aZ jx E bP W (λ_ Eg=>aE wS (Eg.ext u.aF) (aM u B9 λI _ u=>aH (x:=B) u wS rfl rfl λ_ u=>⟨λU w'=>U=.bool (decide (B.op=2)&&!(j5 (xs.take k)).any λy=>decide (y=B.name))/\St w bF [bM I (iW B),bH V (j5 (xs.take k))] w',aA ix (aB (v:=hU B.op) bL u.hb rfl (aG (aC (λ_=>aA l4 (aB (v:=.string B.name) j3 u.hb rfl (aR Vk u (C123 _ _ _ _ u.p1.eU bP) λ_ _ u=>bJ ⟨vb cR,u⟩))) λ_=>⟨vb cR,u⟩))),?_⟩))
   rintro _ _ ⟨rfl,u⟩ _;refine bD (λG=>?_) (λG=>?_)
   .refine aA l4 (aB (v:=.string B.name) j3 u.hb rfl (bK ([B.name]) u iR rfl rfl (dP rfl) λO _ u=>?_));have WW:=u.eU;refine cO u.p2 iR WW (by simp<;>omega) ea (λJ _ u=>?_);have u:=u.p1.drop;rw[Oh (by simpa using G)];exact u.p1.drop
   rw[Oi (by simpa using G)];exact u.drop
  rintro Oj _ u _;exact aK bP ⟨_,bP,k+1,rfl,rfl,bP,by rw[EH (k:=k) W];exact u⟩
 rw[kE bP]at u;exact u.fresh
def Co{α:Type}[Flat α]{S:Nat->Prop}{w:World}{v:Value}{xs:List α}(h:dy S w v xs):qG v=true:=by obtain⟨a,c,rfl,_⟩:=h;rfl
theorem La(ns:List ByteArray)(xs:List bI):(yY ns xs).length<=xs.length:=by
 unfold yY
 split
 .unfold GL
  cases h:tj xs with
  | none=>grind
  | some t=>
   rw[Ex.sl,<- Ex.cM,<- (tm h).2];omega
 grind
theorem C126(lv Z:Value)(xs:List bI)(ns:List ByteArray)(i:Int)(t:Ex)(N:Nat)(w:World)(I:dy (λ_=>True) w lv xs)(hN:dy (λ_=>True) w Z ns)(hn:xs.length<=1048576)(Vs:ns.length<=1048576)(E:A0 xs i t)(hNt:t.size<N):CR 126 [lv,hU i,Z] w (λv w'=>mG (bH v (t.steps ns)) w w'):=by
 obtain⟨B,hq,O⟩:∃e,e=t.root/\xs[(i).toNat]?=some e:=⟨_,rfl,E.root.1⟩;have hri:=E.root.2;have hie:=E.end;have NK:=Ex.uS E.2.1;rw[<- hq]at NK;have WG:=rn B.op;have Vf:=E.1;have hwk:=GU (k:=B.op) bP;have u:=St.start w;refine qj Tryz.func126 (pl:=ahw) ?_;refine aK bP (aZ jx I bP O λ_ fL=>cU B.op ix fL rfl rfl λ_ Ok=>aE bL (Ok.ext u.aF) (aR MO u (C149 _ _) λw1 he u=>?_));refine⟨λm V a x w1=>∃k:Nat,a=hU (i+1+pj t.dR k)/\x=hU (k:Int)/\m=t.dR.length-k/\k<=t.dR.length/\St w bF [bH V (Sm ns t.dR k)] w1,⟨_,0,gj (mj .i64) (by simp[pj]),rfl,rfl,bP,u.eF (α:=mP)⟩,?_⟩
 rintro m V _ _ _ ⟨k,rfl,rfl,rfl,hk,u⟩ _;refine aS (aC (λfg=>?_) λfg=>?_)
 .obtain⟨a,M⟩:=gx t.dR (i:=k) bP;have hka:=Ex.ti E.2.1 (l0 M);have Rg:=E.kid M;have WI:=Rg.end;have ZN:=a.od;have J:=I1 (ns:=ns) (ks:=t.dR) (k:=k);have Vt:=Ex.sl ns a;refine fZ Vi u (C126 _ _ _ _ _ _ (N-1) _ (I.ext u.aF) (hN.ext u.aF) hn Vs Rg bP) (λx24 _ dw u=>?_);have WY:=u.eU;exact cO u.p1 sR WY bP ea (λ_ _ u=>have u:=u.p1.drop;aR NS u (C231 _ _ _ _ (I.ext u.aF) bP) λ_ _ u=>aK bP ⟨_,bP,k+1,gj (mj .i64) (by rw[WI.1,vS M];omega),rfl,rfl,bP,by rw[NL M];exact u⟩)
 have J:=I1 (ns:=ns) (ks:=t.dR) (k:=k);refine aZ jx I bP O (λ_ EK=>cU B.op ix EK rfl rfl λ_ A7=>have u:=u.drew;aE bL (A7.ext u.aF) (aZ jx I bP O λ_ Ol=>cU B.n qX Ol rfl rfl λ_ I8=>aE bL (I8.ext u.aF) (pop (Gx _ _) (aM u Ca λvQ _ u=>?_))));refine⟨jk bL (A7.ext u.aF),?_⟩;refine⟨jk bL (I8.ext u.aF),?_⟩;refine aH (x:=(⟨B.op,B.n⟩:mP)) u yE rfl rfl (λ_ u=>⟨λw'=>St w bF [bM vQ (iW (⟨B.op,Ex.numOf ns B⟩:mP)),bH V (Sm ns t.dR k)] w',aA jW (aB (v:=hU ((⟨B.op,B.n⟩:mP).kind)) bL u.hb rfl (aG (aC (λY=>?_) λY=>?_))),?_⟩)
 .refine aZ jx I bP O (λ_ U=>cU B.name l4 U rfl rfl λ_ W=>aE j3 (W.ext u.aF) (aR NT u (C233 _ _ _ _ (hN.ext u.aF) bP) λ_ he u=>aA l7 (aO u bL (dP rfl) (rfl) λ_ u=>?_)));have u:=u.enc (cs':=iW ({ (⟨B.op,B.n⟩:mP)with n:=(cT ns B.name)}:mP)) rfl;have G:Ex.numOf ns B=cT ns B.name:=fi Y;rw[<- G]at u;exact u
 .have G:Ex.numOf ns B=B.n:=ez Y;rw[<- G]at u;exact u
 rintro _ u _;refine aE yE u.At (bK ([(⟨B.op,Ex.numOf ns B⟩:mP)]) u sR rfl rfl (dP rfl) λabV _ u=>?_);have GV:=u.eU;refine cO u.p2 sR GV (by rw[J,nD];have:(t.steps ns).length=t.size:=Ex.sl ns t;rw[Ex.yX,kC,nD,<- show k=t.dR.length from bP]at this;omega) ea (λabW _ u=>?_);have u:=u.p1.drop;rw[Ex.yX,<- show k=t.dR.length from bP,<- hq];exact u.p1.drop.fresh
termination_by N
decreasing_by all_goals omega
def C122(s:ByteArray)(b2:Nat)(B:Value)(ns:List ByteArray)(w:World)(hc:Cell w b2 0 B)(E:dy (λ_=>True) w B ns)(G:ns.length<=1048576):CR 122 [.string s,.pointer (some ⟨b2,0,none⟩)] w (λv w'=>v=.bool (!ns.any λy=>decide (y=s))/\Ext w w'):=by
 have u:=St.start w;refine eT Tryz.func122 ?_;exact cE lX (hc.ext u.aF) (aR Vk u (C123 _ _ _ _ (E.ext u.aF) bP) λ_ _ u=>bJ ⟨rfl,u.aF⟩)
def C59(lv J:Value)(xs:List bI)(ns:List ByteArray)(w:World)(E:dy (λ_=>True) w lv xs)(M:dy (λ_=>True) w J ns)(hn:xs.length<=1048576)(Z:ns.length<=1048576):CR 59 [lv,J] w (λv w'=>∃s,v=.tuple #[s,hU (qo ns xs)]/\mG (bH s (yY ns xs)) w w'):=by
 have u:=St.start w;refine WL _ _ _ _ ?_;unfold S59;refine jR u (Co M) (λV w1 u=>aR I3 u (C121 _ _ _ (E.ext u.aF) bP) λ_ he u=>bJ (bD (λI=>?_) λI=>?_))
 .have h8:qo ns xs=8:=SC (by simpa using I);refine⟨_,by rw[h8],?_⟩;rw[EI (by rw[h8];decide)];exact(u.drop.eF (α:=mP)).fresh
 have B:fN xs=true:=by simpa using I
 have Ra:=wY xs;have RV:=SD (ns:=ns) B;refine fZ abC u (C125 _ _ _ (E.ext u.aF) hn B) (λx12 _ dw u=>?_)
 have G:qI _ (.func (.func 122) [].toArray [.pointer (some ⟨V,0,none⟩)].toArray) (λs=>!ns.any λy=>decide (y=s)):=
  ⟨122,[],_,rfl,abD,λy w1 W=>C122 y V J ns w1 ((u.p1.hb.cell rfl).ext W) ((M.ext u.aF).ext W) Z⟩
 refine aR Vj u (C124 _ _ _ _ _ u.eU G bP) (λ_ he u=>bD (λU=>?_) λU=>?_)
 .have Y:qo ns xs=9:=by rw[RV,fi U]
  refine⟨_,by rw[Y],?_⟩;rw[EI (by rw[Y];decide)];exact(u.drop.drop.eF (α:=mP)).fresh
 refine aB lX u.p1.hb rfl ?_;have h0:qo ns xs=0:=by rw[RV,ez (by simpa using U)]
 have WV:=GM B;obtain⟨t,ht⟩:=A0.of (xs:=xs) (i:=0) bP;have hz:=ht.zero WV;refine fZ Vi u (C126 _ _ _ _ _ t (t.size+1) _ (E.ext u.aF) (M.ext u.aF) hn Z ht bP) (λO _ dw u=>?_);refine⟨O,by rw[h0],?_⟩;unfold yY GL;rw[fi h0,hz.2];exact u.p1.drop.p1.drop.fresh
def C78(lv J G:Value)(xs:List bI)(ns:List ByteArray)(B:List Int)(w:World)(U:dy (λ_=>True) w lv xs)(M:dy (λ_=>True) w J ns)(I:dy (λ_=>True) w G B)(hn:xs.length<=1048576)(Z:ns.length<=1048576):CR 78 [lv,J,G] w (λv w'=>v=.tuple #[hU (vX ns B xs).1,hU (vX ns B xs).2]/\Ext w w'):=by
 have u:=St.start w;refine WM _ _ _ _ _ ?_;unfold S78;refine aI iR (M.ext u.aF) (aI dz (I.ext u.aF) (cC (aC (λW=>?_) λW=>?_)))
 .refine⟨?_,u.aF⟩;unfold vX;rw[ez bP]
 refine dX ahx (C59 _ _ _ _ _ (U.ext u.aF) (M.ext u.aF) bP bP) ?_;rintro O _ ⟨Y,rfl,V⟩;have u:=u.made V;refine aJ rfl (aJ rfl (cC (aC (λE=>?_) λE=>?_)))
 .refine⟨?_,u.aF⟩;unfold vX;rw[fi bP,ez E]
 have UT:=La ns xs;refine aR agA u (C79 _ _ _ _ _ u.eU (I.ext u.aF) bP) (λ_ he u=>aJ rfl (aJ rfl ?_));refine⟨?_,u.aF⟩;unfold vX;rw[fi bP,fi (by simpa using E)]
variable (w:World) (K:Value->hM)
def ahD:dI:=λi=>match i with
 | 9=>(.of [(0,[]),(1,[]),(2,[]),(3,[]),(4,[]),(6,[]),(7,[]),(5,[7]),(8,[]),(9,[]),(10,[]),(11,[]),(12,[]),(13,[]),(15,[]),(16,[]),(14,[16]),(17,[]),(18,[]),(19,[]),(20,[]),(21,[]),(22,[]),(24,[]),(25,[]),(23,[25]),(26,[]),(27,[]),(28,[]),(29,[]),(30,[]),(31,[]),(33,[]),(34,[]),(32,[34]),(35,[]),(36,[]),(37,[]),(38,[])])
 | _=>.nil
def S348(B zd:Value):Prop:=
 nX (λY n5 E a=>∀_:Env,
 lN 112 B λb=>bA .lss 3 E b λc=>cV c (iA 112 B E λd=>lA 220 d a λe=>aL 220 a λf g=>sA 220 f e g λh=>bB .add 3 E (i 1) λj=>fA 220 f 6 λk=>lA 3 k h λl=>
 bA .add 3 j l λn=>fA 220 f 7 λo=>lA 3 o h λp=>bA .add 3 n p λq=>eo (λK2=>fA 220 f 0 λr=>lA 3 r h λs=>bB .eql 3 s (i 11) λt=>cV t (K2 tt h) (fA 220 f 0 λu=>
 lA 3 u h λv=>bB .eql 3 v (i 12) λx=>K2 x h)) (λI9 y=>∀_:Env,
 eo (λI=>fA 220 f 6 λz=>lA 3 z y λaa=>bB .lss 3 aa (i 0) λab=>cV ab (I tt y) (fA 220 f 7 λac=>lA 3 ac y λad=>bB .lss 3 ad (i 0) λae=>cV ae (I tt y) (
 fA 220 f 6 λaf=>lA 3 af y λag=>lN 112 B λah=>bA .gtr 3 ag ah λai=>cV ai (I tt y) (fA 220 f 7 λaj=>lA 3 aj y λak=>lN 112 B λal=>bA .gtr 3 ak al λam=>
 cV am (I tt y) (lN 112 B λan=>bA .gtr 3 q an λao=>I ao y))))) (λap J=>∀_:Env,
 cV ap (K (i (-1)) J) (eo (λM=>eo (λK5=>dW hH (Op.unary .not I9) λar=>cV ar (fA 220 f 6 λV=>lA 3 V J λau=>bB .gtr 3 au (i 0) λav=>K5 av J) (
 K5 ff J)) (λaw G=>∀_:Env,
 cV aw (M aw G) (eo (λK6=>fA 220 f 0 λay=>lA 3 ay G λaz=>bB .neq 3 az (i 11) λa0=>cV a0 (fA 220 f 7 λa1=>lA 3 a1 G λa2=>bB .gtr 3 a2 (i 0) λa3=>K6 a3 G) (
 K6 ff G)) (λa4 O=>∀_:Env,
 cV a4 (M a4 O) (fA 220 f 0 λa6=>lA 3 a6 O λa7=>bB .eql 3 a7 (i 13) λa8=>cV a8 (bB .eql 3 zd (i 0) λa9=>M a9 O) (M ff O)))))) (λba U=>∀_:Env,
 cV ba (K (i (-1)) U) (eo (λK7=>cV I9 (fA 220 f 0 λbc=>lA 3 bc U λbd=>bB .eql 3 bd (i 12) λbe=>cF 255 [be] U λbf Z=>bA .add 3 zd bf λbh=>bB .add 3 E (i 1) λbi=>
 bB .add 3 E (i 1) λbj=>fA 220 f 6 λbk=>lA 3 bk (drew Z) λbl=>bA .add 3 bj bl λbm=>dW hH (mA 112 B (some bi) (some bm) none) λbn=>bB .add 3 E (i 1) λbo=>
 fA 220 f 6 λbp=>lA 3 bp (drew Z) λbq=>bA .add 3 bo bq λbr=>dW hH (mA 112 B (some br) (some q) none) λbs=>cF 348 [bn,bh] (drew Z) λbt bu=>
 kA 3 bp bq bu (cF 348 [bs,bh] bu λbv bw=>eo (λK8=>bB .eql 3 bt (i (-1)) λbx=>cV bx (K8 tt bw) (bB .eql 3 bv (i (-1)) λbz=>K8 bz bw)) (λb0 b1=>∀_:Env,
 cV b0 (K (i (-1)) b1) (bB .add 3 bt (i 1) λb2=>bB .add 3 bv (i 1) λb3=>dW hH (Builtin.max_ #[3,3,3] 3 [n5,b2,b3].toArray) λb4=>K7 b4 b1)))) (K7 n5 U)) (λW b5=>∀_:Env,
 Y W q b5))))))) (K n5 a)) (λY=>Y (i 0) (i 0) w)
def ahF:dI:=λi=>match i with
 | 15=>(.of [(0,[]),(1,[]),(2,[]),(3,[]),(4,[]),(5,[]),(6,[]),(7,[]),(8,[]),(9,[]),(11,[]),(12,[]),(13,[]),(14,[]),(15,[]),(16,[]),(17,[]),(18,[]),(19,[]),(10,[15]),(20,[]),(21,[]),(22,[])])
 | _=>.nil
theorem SE(B u:Value)(h:S348 w K B u):CR 348 [B,u] w K:=
 lE 131 ahF 16 [.tmp 4] Tryz.func348 h
theorem abX:PL 360:=dF Tryz.func360
theorem abY:PL 347:=dF Tryz.func347
theorem EM:PL 361:=dF Tryz.func361
theorem Vv:PL 363:=dF Tryz.func363
theorem Vw:PL 364:=dF Tryz.func364
theorem Om:PL 348:=dF Tryz.func348
theorem abZ:PL 297:=dF Tryz.func297
theorem ab0:PL 109:=dF Tryz.func109
theorem ab1:PL 203:=dF Tryz.func203
theorem ab2:PL 205:=dF Tryz.func205
theorem ab3:PL 208:=dF Tryz.func208
theorem ab4:PL 209:=dF Tryz.func209
theorem On:PL 204:=dF Tryz.func204
theorem ab5:PL 290:=dF Tryz.func290
theorem Vx:PL 207:=dF Tryz.func207
theorem ab6:PL 296:=dF Tryz.func296
theorem Oo:PL 210:=dF Tryz.func210
theorem ab7:PL 346:=dF Tryz.func346
theorem ab8:PL 359:=dF Tryz.func359
theorem ab9:PL 289:=dF Tryz.func289
theorem aca:PL 344:=dF Tryz.func344
theorem Vy:PL 211:=dF Tryz.func211
theorem acb:PL 298:=dF Tryz.func298
theorem Oq:PL 212:=dF Tryz.func212
theorem acd:PL 299:=dF Tryz.func299
theorem ace:PL 213:=dF Tryz.func213
theorem acf:PL 300:=dF Tryz.func300
end Go.Proofs.YtdncbeepkacgbaaGreatDoor
namespace Go.Proofs.YtdncbeepkacgbaaGreatDoor
open Go.Fw
variable (w:World) (K:Value->hM)
theorem acg:PL 370:=dF Tryz.func370
theorem ach:PL 362:=dF Tryz.func362
end Go.Proofs.YtdncbeepkacgbaaGreatDoor
namespace Go.Proofs.YtdncbeepkacgbaaGreatDoor
open Go.Fw
structure K15 where
instance:Flat K15 where
 agg:=true
 sz:=15
 enc _:=WK.map tO
 val _:=.agg (WK.map tO).toArray
 pos:=ea
 len _:=rfl
 one a v h:=by grind[qG]
 lj _ _:=rfl
 lF h:=by cases h
def C370(w:World):CR 370 [] w (λv w'=>v=ia (⟨⟩:K15)/\Ext w w'):=by
 have u:=St.start w;refine eT Tryz.func370 ?_;exact aM u R9 (λ_ _ u=>pop (v:=ia (⟨⟩:K15)) (by kernel_rfl) (aH (x:=(⟨⟩:K15)) u UY rfl rfl λ_ u=>aE (x:=(⟨⟩:K15)) UY u.At ⟨rfl,u.drop.aF⟩))
theorem C360(k:Int)(w:World):CR 360 [hU k] w (λv w'=>v=.string (fa k)/\Ext w w'):=by
 have u:=St.start w;refine eT Tryz.func360 ?_;refine⟨λB w'=>B=.bool (decide (k<0\/15<=k))/\w'=w,?_,?_⟩
 .exact aS (aC (λc=>⟨vb (fj (.inl c)).symm,rfl⟩) λ_=>cJ ⟨vb (gh.2 bP),rfl⟩)
 rintro _ _ ⟨rfl,rfl⟩ _;refine aC (λ_=>⟨gj tO (by unfold fa;rw[fi bP]),u.aF⟩) (λc=>aR acg u (C370 _) λ_ E u=>?_);obtain⟨n,rfl⟩:∃n:Nat,k=n:=⟨k.toNat,bP⟩;refine pop (v:=.string (fa n)) ?_ ⟨rfl,u.aF⟩
 match n,c with
 | 0,_=>exact(by kernel_rfl:pr hH (oK 419 (ia K15.mk) (hU ((0:Nat):Int)))=some (.string (fa ((0:Nat):Int))))
 | 1,_=>exact(by kernel_rfl:pr hH (oK 419 (ia K15.mk) (hU ((1:Nat):Int)))=some (.string (fa ((1:Nat):Int))))
 | 2,_=>exact(by kernel_rfl:pr hH (oK 419 (ia K15.mk) (hU ((2:Nat):Int)))=some (.string (fa ((2:Nat):Int))))
 | 3,_=>exact(by kernel_rfl:pr hH (oK 419 (ia K15.mk) (hU ((3:Nat):Int)))=some (.string (fa ((3:Nat):Int))))
 | 4,_=>exact(by kernel_rfl:pr hH (oK 419 (ia K15.mk) (hU ((4:Nat):Int)))=some (.string (fa ((4:Nat):Int))))
 | 5,_=>exact(by kernel_rfl:pr hH (oK 419 (ia K15.mk) (hU ((5:Nat):Int)))=some (.string (fa ((5:Nat):Int))))
 | 6,_=>exact(by kernel_rfl:pr hH (oK 419 (ia K15.mk) (hU ((6:Nat):Int)))=some (.string (fa ((6:Nat):Int))))
 | 7,_=>exact(by kernel_rfl:pr hH (oK 419 (ia K15.mk) (hU ((7:Nat):Int)))=some (.string (fa ((7:Nat):Int))))
 | 8,_=>exact(by kernel_rfl:pr hH (oK 419 (ia K15.mk) (hU ((8:Nat):Int)))=some (.string (fa ((8:Nat):Int))))
 | 9,_=>exact(by kernel_rfl:pr hH (oK 419 (ia K15.mk) (hU ((9:Nat):Int)))=some (.string (fa ((9:Nat):Int))))
 | 10,_=>exact(by kernel_rfl:pr hH (oK 419 (ia K15.mk) (hU ((10:Nat):Int)))=some (.string (fa ((10:Nat):Int))))
 | 11,_=>exact(by kernel_rfl:pr hH (oK 419 (ia K15.mk) (hU ((11:Nat):Int)))=some (.string (fa ((11:Nat):Int))))
 | 12,_=>exact(by kernel_rfl:pr hH (oK 419 (ia K15.mk) (hU ((12:Nat):Int)))=some (.string (fa ((12:Nat):Int))))
 | 13,_=>exact(by kernel_rfl:pr hH (oK 419 (ia K15.mk) (hU ((13:Nat):Int)))=some (.string (fa ((13:Nat):Int))))
 | 14,_=>exact(by kernel_rfl:pr hH (oK 419 (ia K15.mk) (hU ((14:Nat):Int)))=some (.string (fa ((14:Nat):Int))))
 | n+15,c=>exact absurd (.inr bP) c
def WZ:List Nat:=[107,114,110,101,102]
def aci(c:Nat):ByteArray:=⟨#[c.toUInt8]⟩
def C362(k:Int)(c:Nat)(hc:c∈WZ)(w:World):CR 362 [.string (fa k),.string (aci c)] w (λv w'=>v=.bool (eg (fa k) c)/\Ext w w'):=by
 have u:=St.start w;refine eT Tryz.func362 ?_;refine aR Vp u (C371 (fa k) c.toUInt8 _) (λ_ B u=>cJ ?_);refine⟨vb ?_,u.aF⟩;have h1:=N3 (fO (fa k)) c.toUInt8;have h2:c.toUInt8.toNat=c:=(by decide:∀c∈WZ,c.toUInt8.toNat=c) c hc;unfold eg;rw[show(λb:UInt8=>decide ((b.toNat:Int)=(c:Int)))=λb=>decide (b=c.toUInt8)from funext λ_=>gh.2 ⟨λ_=>UInt8.toNat_inj.1 bP,λh=>by rw[h,h2]⟩];exact(yh.2 (decide_eq_true_iff.trans h1))
def C361(k:Int)(c b2:Nat)(w:World)(hc:Cell w b2 0 (.string (fa k)))(B:c∈WZ):CR 361 [.string (aci c),.pointer (some ⟨b2,0,none⟩)] w (λv w'=>v=.bool (eg (fa k) c)/\Ext w w'):=by
 have u:=St.start w;refine eT Tryz.func361 ?_;exact cE j3 (hc.ext u.aF) (aR ach u (C362 k c B _) λ_ _ u=>⟨rfl,u.aF⟩)
def C363(b:Bool)(s:ByteArray)(w:World):CR 363 [.bool b,.string s] w (λv w'=>v=.bool ((b&&fB s)||(!b&&decide (s=⟨#[]⟩)))/\Ext w w'):=by
 have u:=St.start w;refine eT Tryz.func363 ?_;refine⟨λB w'=>B=.bool ((b&&fB s)||(!b&&decide (s=⟨#[]⟩)))/\St w bF [] w',bD (λ_=>aR En u (C206 _ _) λ_ _ u=>bD (λ_=>⟨vb cR,u⟩) λ_=>bJ (bD (λ_=>fE ⟨vb cR,u⟩) λ_=>⟨vb cR,u⟩)) (λ_=>bJ (bD (λ_=>fE ⟨vb cR,u⟩) λ_=>⟨vb cR,u⟩)),?_⟩;rintro _ _ ⟨rfl,u⟩ _;exact⟨rfl,u.aF⟩
def C364(b:Bool)(lv:Value)(xs:List bI)(w:World)(B:dy (λ_=>True) w lv xs)(G:xs.length<=1048576):CR 364 [.bool b,lv] w (λv w'=>v=.bool ((b&&fN xs)||(!b&&decide (xs.length=0)))/\Ext w w'):=by
 have u:=St.start w;refine eT Tryz.func364 ?_;refine⟨λE w'=>E=.bool ((b&&fN xs)||(!b&&decide (xs.length=0)))/\St w bF [] w',bD (λ_=>aR I3 u (C121 _ _ _ (B.ext u.aF) bP) λ_ _ u=>bD (λ_=>⟨vb cR,u⟩) λ_=>bJ (bD (λ_=>aI jx (B.ext u.aF) (aG ⟨vb cR,u⟩)) λ_=>⟨vb cR,u⟩)) (λ_=>bJ (bD (λ_=>aI jx (B.ext u.aF) (aG ⟨vb cR,u⟩)) λ_=>⟨vb cR,u⟩)),?_⟩;rintro _ _ ⟨rfl,u⟩ _;exact⟨rfl,u.aF⟩
theorem EN{x:bE}{u:Bool}(h:u=(if eg (fa x.kind) 107=true then decide (1<=x.n/\x.n<=8)else decide (x.n=0))) :
  (!(decide (1<=x.kind/\x.kind<15/\0<=x.at_/\x.at_<=4000)&&u)||(!(eg (fa x.kind) 114&&fB x.eQ||!eg (fa x.kind) 114&&decide (x.eQ=⟨#[]⟩))||(!(eg (fa x.kind) 110&&fB x.name||!eg (fa x.kind) 110&&decide (x.name=⟨#[]⟩)) ||
  (!(eg (fa x.kind) 101&&fN x.e||!eg (fa x.kind) 101&&decide (x.e.length=0))||!(eg (fa x.kind) 102&&fN x.f||!eg (fa x.kind) 102&&decide (x.f.length=0)))))) = !oe x:=by
 subst h
 have B:fB x.eQ=true->¬ x.eQ=⟨#[]⟩:=λh e=>by rw[e]at h;exact absurd h ea
 have E:fB x.name=true->¬ x.name=⟨#[]⟩:=λh e=>by rw[e]at h;exact absurd h ea
 have I:fN x.e=true->¬ x.e.length=0:=λh e=>by rw[qa.1 e]at h;exact absurd h ea
 have G:fN x.f=true->¬ x.f.length=0:=λh e=>by rw[qa.1 e]at h;exact absurd h ea
 unfold oe
 cases h1:eg (fa x.kind) 114<;>cases h2:eg (fa x.kind) 110<;>cases h3:eg (fa x.kind) 101<;>cases h4:eg (fa x.kind) 102<;>cases h5:eg (fa x.kind) 107<;>simp<;>grind
def C347(x:bE)(xv:aW)(w:World)(hx:l2 w xv x)(he0:x.e.length<=1048576)(hf0:x.f.length<=1048576):CR 347 [ia xv] w (λv w'=>v=.bool (!oe x)/\Ext w w'):=by
 obtain⟨W,V,rfl,M,acm⟩:=hx;have u:=St.start w;refine qj Tryz.func347 (pl:=ahD) ?_;refine bY u (λU _ u=>aA fy (aB (v:=hU x.kind) bL u.hb rfl (aR abX u (C360 _ _) λ_ B u=>fq u UW rfl λE _ u=>aO u j3 (dP rfl) (rfl) λ_ u=>aA l5 (aB (v:=hU x.n) bL u.p1.hb rfl (aG ⟨λG w'=>G=.bool (if eg (fa x.kind) 107=true then decide (1<=x.n/\x.n<=8)else decide (x.n=0))/\St w bF [bM E [.string (fa x.kind)],bM U (iW (⟨x.kind,x.eQ,x.name,W,V,x.n,x.body,x.eH,x.at_⟩:aW))] w',?_,?_⟩)))))
 .refine fm EM (C361 x.kind 107 E _ (u.hb.cell rfl) ea) ?_;rintro _ _ ⟨rfl,B⟩;have u:=u.ext B;exact bD (λ_=>aA l5 (aB (v:=hU x.n) bL u.p1.hb rfl (cJ (aC (λ_=>aA l5 (aB (v:=hU x.n) bL u.p1.hb rfl (gO ⟨vb cR,u⟩))) λ_=>⟨vb cR,u⟩)))) (λ_=>⟨vb cR,u⟩)
 rintro _ _ ⟨rfl,u⟩ _;refine⟨λG w'=>G=.bool (decide (1<=x.kind/\x.kind<15/\0<=x.at_/\x.at_<=4000)&&(if eg (fa x.kind) 107=true then decide (1<=x.n/\x.n<=8)else decide (x.n=0)))/\St w bF [bM E [.string (fa x.kind)],bM U (iW (⟨x.kind,x.eQ,x.name,W,V,x.n,x.body,x.eH,x.at_⟩:aW))] w',?_,?_⟩
 .refine aA fy (aB (v:=hU x.kind) bL u.p1.hb rfl (cJ ?_));exact aC (λ_=>aA fy (aB (v:=hU x.kind) bL u.p1.hb rfl (aS (aC (λ_=>aA q7 (aB (v:=hU x.at_) bL u.p1.hb rfl (cJ (aC (λ_=>aA q7 (aB (v:=hU x.at_) bL u.p1.hb rfl (gO (aC (λ_=>⟨vb cR,u⟩) λ_=>⟨vb cR,u⟩)))) λ_=>⟨vb cR,u⟩)))) λ_=>⟨vb cR,u⟩)))) (λ_=>⟨vb cR,u⟩)
 rintro _ _ ⟨rfl,u⟩ _;refine⟨λG w'=>G=.bool (!oe x)/\St w bF [bM E [.string (fa x.kind)],bM U (iW (⟨x.kind,x.eQ,x.name,W,V,x.n,x.body,x.eH,x.at_⟩:aW))] w',bJ (bD (λ_=>have u:=u.drew;⟨vb (by rw[<- EN rfl];grind),u⟩) λJa=>?_),?_⟩
 .refine aA kM (have u:=u.drew;aB (v:=.string x.eQ) j3 u.p1.hb rfl (fm EM (C361 x.kind 114 E _ (u.hb.cell rfl) ea) ?_));rintro _ _ ⟨rfl,B⟩;have u:=u.ext B;refine⟨aY j3 (u.p1.hb.cell rfl),?_⟩;refine fm Vv (C363 _ x.eQ _) ?_;rintro _ _ ⟨rfl,B⟩;have u:=u.ext B;refine bJ (bD (λ_=>⟨vb (by rw[<- EN rfl];grind),u⟩) λO=>aA jU (aB (v:=.string x.name) j3 u.p1.hb rfl (fm EM (C361 x.kind 110 E _ (u.hb.cell rfl) ea) ?_)));rintro _ _ ⟨rfl,B⟩;have u:=u.ext B;refine⟨aY j3 (u.p1.hb.cell rfl),?_⟩;refine fm Vv (C363 _ x.name _) ?_
  rintro _ _ ⟨rfl,B⟩;have u:=u.ext B;refine bJ (bD (λ_=>⟨vb (by rw[<- EN rfl];grind),u⟩) λY=>aA kN (aB lH u.p1.hb rfl ?_));have I:=DL.flat M;refine fm EM (C361 x.kind 101 E _ (u.hb.cell rfl) ea) ?_;rintro _ _ ⟨rfl,B⟩;have u:=u.ext B;refine⟨aY lH (u.p1.hb.cell rfl),?_⟩;refine fm Vw (C364 _ _ x.e _ (I.ext u.aF) he0) ?_;rintro _ _ ⟨rfl,B⟩;have u:=u.ext B;refine bJ (bD (λ_=>⟨vb (by rw[<- EN rfl];grind),u⟩) λJ=>aA qZ (aB lH u.p1.hb rfl ?_));have Z:=DL.flat acm;refine fm EM (C361 x.kind 102 E _ (u.hb.cell rfl) ea) ?_
  rintro _ _ ⟨rfl,B⟩;have u:=u.ext B;refine⟨aY lH (u.p1.hb.cell rfl),?_⟩;refine fm Vw (C364 _ _ x.f _ (Z.ext u.aF) hf0) ?_;rintro _ _ ⟨rfl,B⟩;have u:=u.ext B;exact bJ ⟨vb (by rw[<- EN rfl];grind),u⟩
 rintro _ _ ⟨rfl,u⟩ _;exact⟨rfl,u.drop.drop.aF⟩
structure acn(x:bE):Prop where
 kind:1<=x.kind/\x.kind<=14
 at0:0<=x.at_/\x.at_<=4000
 e:(eg (fa x.kind) 101=true/\fN x.e=true)\/(eg (fa x.kind) 101=false/\x.e=[])
 f:(eg (fa x.kind) 102=true/\fN x.f=true)\/(eg (fa x.kind) 102=false/\x.f=[])
 eQ:(eg (fa x.kind) 114=true/\fB x.eQ=true)\/(eg (fa x.kind) 114=false/\x.eQ=⟨#[]⟩)
 name:(eg (fa x.kind) 110=true/\fB x.name=true)\/(eg (fa x.kind) 110=false/\x.name=⟨#[]⟩)
 n:(eg (fa x.kind) 107=true/\1<=x.n/\x.n<=8)\/(eg (fa x.kind) 107=false/\x.n=0)
def vY{x:bE}(h:oe x=true):acn x:=by
 unfold oe at h
 simp only[nw,px,Bool.or_eq_false_iff,decide_eq_false_iff_not,bne_eq_false_iff_eq,Bool.and_eq_false_iff,Bool.not_eq_false',zP]at h
 obtain⟨⟨⟨h1,h2⟩,h3⟩,h4⟩:=h
 constructor
 .omega
 .omega
 .grind
 .grind
 .grind
 .grind
 grind
theorem W0:eg (fa 12) 107=true:=ea
theorem mi{l:List bE}(h:pR l=true):l.length<=40/\(∀x∈l,oe x=true)/\∃t:Bk,l=t.flat/\t.str/\t.ok 0=true/\t.depth<=12:=by
 unfold pR at h
 simp only[nw,decide_eq_true_eq,px]at h
 obtain⟨⟨h1,h2⟩,h3⟩:=h
 rw[Ec]at h2
 refine⟨h1,λx u=>cR,?_⟩
 unfold e8 at h3
 cases hb:nU l with
 | none=>grind
 | some t=>
  rw[hb]at h3
  obtain⟨B,E⟩:=j9 hb
  grind
structure PF(p:bQ):Prop where
 lines:∀l∈p.lines,l≠[]/\∀c∈l,kV 4294967296 c=false
 iN:∀c∈p.iN,kV 4294967296 c=false
 eX:∀c∈p.eX,kV 0 c=false
 th:∀t∈p.threads,mg true t=false
 rc:∀t∈p.recover,mg false t=false
 cl:∀c∈p.ef,0<=c.at_/\fN c.e=true
 one:p.recover.length<=1
def oh{p:bQ}(h:jK p=true):PF p:=by
 unfold jK oI uX at h
 simp only[nw,px,Ec,decide_eq_true_eq]at h
 obtain⟨⟨h1,h2⟩,⟨⟨h3,h4⟩,h5⟩,h6⟩:=h
 refine⟨λl u=>?_,λc hc=>cR,λc hc=>cR,λt ht=>cR,λt ht=>cR,λc hc=>?_,h6⟩
 .have:=h1 l u
  unfold og oI at this
  grind
 have:=h2 c hc
 unfold mh pS at this
 grind
def ze{nb:Bool}{t:bW}(h:mg nb t=false):0<=t.at_/\pR t.body=true/\(∀s∈t.dJ,fB s=true)/\fB t.name=nb:=by
 unfold mg Ch pS at h
 grind
def ij(p:bQ):List bW:=p.threads++p.recover
def PF.so{p:bQ}(h:PF p){t:bW}(ht:t∈ij p):0<=t.at_/\pR t.body=true/\∀s∈t.dJ,fB s=true:=by
 unfold ij at ht
 rcases pJ.1 ht with ht|ht
 .have:=ze (h.th t ht);grind
 have:=ze (h.rc t ht);grind
def fQ(p:bQ):List Int:=(jd p).map bO.n
def ee(p:bQ):Int:=(p.lines.flatten.length:Int)
def cX(p:bQ):List ByteArray:=(jd p).map bO.name
def cS(p:bQ):List ByteArray:=p.eX.map bO.name
def iJ:List (List bO)->Int->Int->Int
 | [],i,a=>i+a
 | l::r,i,a=>if a<l.length then i else iJ r (i+1) (a-l.length)
def pq(p:bQ)(c:Int):Int:=if c<0\/(jd p).length<=c then -1 else iJ p.lines 0 c
def qt(l:List bI)(ns:List ByteArray):Bool:=l.any λx=>decide (x.op=2)&&decide (cT ns x.name<0)
def pw(x:bE)(n:Int):Int:=if x.kind=12 then n*x.n else n
def kW:Bk->Int->Bool
 | .nil,_=>false
 | .cons x a b r,n=>decide (64<pw x n)||(kW a (pw x n)||kW b (pw x n))||kW r n
def Bk.app:Bk->Bk->Bk
 | .nil,t=>t
 | .cons x a b r,t=>.cons x a b (r.app t)
theorem Bk.zh(a b:Bk):(a.app b).flat=a.flat++b.flat:=by
 induction a with
 | nil=>rfl
 | cons x c d r _ _ u=>grind[flat,app]
theorem Bk.SF{a b:Bk}(u:a.str)(hb:b.str):(a.app b).str:=by
 induction a with
 | nil=>exact hb
 | cons x c d r _ _ B=>
  grind[str,app]
theorem Lb(a b:Bk)(n:Int):kW (a.app b) n=(kW a n||kW b n):=by
 induction a with
 | nil=>simp[Bk.app,kW]
 | cons x c d r _ _ u=>simp only[Bk.app,kW,u,Bool.or_assoc]
def om(l:List bE):Bool:=match nU l with|some t=>kW t 1|none=>false
theorem zi{t:Bk}(h:t.str):om t.flat=kW t 1:=by unfold om;rw[mX h]
def ik(p:bQ):List bO:=jd p++p.eX++p.threads.map (λt=>⟨t.name,0,t.at_⟩)
def Cp(l:List bO)(j:Nat):Bool:=match l[j]? with|some c=>decide (cT (l.map bO.name) c.name<j)|none=>false
def jr(l:List bO):Bool:=(tr l.length).any (Cp l)
def Ov(p:bQ)(u:List ByteArray)(j:Nat):Bool:=match u[j]? with|some s=>decide (cT u s<j)||decide (0<=cT (cX p) s)||decide (0<=cT (cS p) s)|none=>false
def sF(p:bQ)(u:List ByteArray):Bool:=(tr u.length).any (Ov p u)
def qu(p:bQ)(u:List ByteArray)(x:bE):Bool:=
 (decide (¬ x.eQ=⟨#[]⟩)&&decide (cT u x.eQ<0)) ||
 ((decide (x.kind=2)||decide (x.kind=3)||decide (x.kind=4))&&decide (cT (cX p) x.name<0)) ||
 ((decide (x.kind=5)||decide (x.kind=6))&&(decide (cT (cX p) x.name<0)||decide (ee p<=cT (cX p) x.name))) ||
 ((decide (x.kind=9)||decide (x.kind=10))&&decide (cT (cS p) x.name<0))||qt x.e u||qt x.f u
def sG(p:bQ):Bool:=p.lines.any (λl=>decide (4<(l.length:Int)))||(ij p).any (λt=>decide (4<(t.dJ.length:Int))) ||
 (decide (4<(p.lines.length:Int))||decide (4<(p.iN.length:Int))||decide (2<(p.eX.length:Int))||decide ((p.threads.length:Int)<1)||decide (3<(p.threads.length:Int))||decide (4<(p.ef.length:Int)))
def fT(p:bQ):List ByteArray:=(cX p).take (ee p).toNat
def eJ(p:bQ):Int:=
 if jK p=false then 8 else if sG p=true then 2 else if (ij p).any (λt=>om t.body)=true then 11 else if jr (ik p)=true then 10
 else if (ij p).any (λt=>sF p t.dJ)=true then 10 else if (ij p).any (λt=>t.body.any (qu p t.dJ))=true then 9
 else if p.ef.any (λc=>qt c.e (fT p))=true then 9 else 0
def GW{x:bE}(h:oe x=true):0<=x.at_/\(x.kind=12->1<=x.n/\x.n<=8):=by
 have h:=vY h
 refine⟨h.at0.1,λu=>?_⟩
 rcases h.n with h|h
 .exact h.2
 rw[u,W0]at h;grind
section
variable {p:bQ}
theorem ce8(h1:jK p=false):eJ p=8:=by unfold eJ;grind
theorem ce2(h1:jK p=true)(h2:sG p=true):eJ p=2:=by grind[eJ]
theorem ahG(h1:jK p=true)(h2:sG p=false)(h3:(ij p).any (λt=>om t.body)=true):eJ p=11:=by grind[eJ]
theorem ahH(h1:jK p=true)(h2:sG p=false)(h3:(ij p).any (λt=>om t.body)=false)(h4:jr (ik p)=true):eJ p=10:=by
 grind[eJ]
theorem aco(h1:jK p=true)(h2:sG p=false)(h3:(ij p).any (λt=>om t.body)=false)(h4:jr (ik p)=false)(h5:(ij p).any (λt=>sF p t.dJ)=true):eJ p=10:=by
 grind[eJ]
theorem ce9(h1:jK p=true)(h2:sG p=false)(h3:(ij p).any (λt=>om t.body)=false)(h4:jr (ik p)=false)(h5:(ij p).any (λt=>sF p t.dJ)=false)
  (h6:(ij p).any (λt=>t.body.any (qu p t.dJ))=true):eJ p=9:=by
 grind[eJ]
theorem ahI(h1:jK p=true)(h2:sG p=false)(h3:(ij p).any (λt=>om t.body)=false)(h4:jr (ik p)=false)(h5:(ij p).any (λt=>sF p t.dJ)=false)
  (h6:(ij p).any (λt=>t.body.any (qu p t.dJ))=false) (u:p.ef.any (λc=>qt c.e (fT p))=true):eJ p=9:=by
 grind[eJ]
theorem ce0(h1:jK p=true)(h2:sG p=false)(h3:(ij p).any (λt=>om t.body)=false)(h4:jr (ik p)=false)(h5:(ij p).any (λt=>sF p t.dJ)=false)
  (h6:(ij p).any (λt=>t.body.any (qu p t.dJ))=false) (u:p.ef.any (λc=>qt c.e (fT p))=false):eJ p=0:=by
 grind[eJ]
theorem GX(u:PS p):(cX p).length<=250500:=by unfold cX;rw[nQ];exact rk u
theorem Jb(u:PS p):(ij p).length<=1000:=by
 have:=u.threads
 have:=u.recover
 grind[ij]
theorem PZ.so(u:PZ p){t:bW}(ht:t∈ij p):Rh t/\t.dJ.length<=500/\t.body.length<=500:=by
 refine⟨?_,u.dJ t ht,u.body t ht⟩
 rcases pJ.1 ht with h|h
 .exact u.zt t h
 exact u.zr t h
end
def W3{x:bE}{n m:Int}(u:1<=n/\n<=64)(h:x.kind=12->1<=x.n/\x.n<=8)(B:m=pw x n):1<=m/\m<=512:=by
 rw[B];unfold pw
 split
 .rename_i hk
  have:=h hk
  have h1:=H4 (a:=1) (b:=1) u.1 this.1 bP bP
  have h2:=H4 (c:=64) (d:=8) u.2 this.2 bP bP
  omega
 omega
theorem Bk.Jc{t:Bk}(h:¬ (t.flat.length:Int)=0):∃x a b r,t=.cons x a b r:=by
 cases t with
 | nil=>exact absurd rfl h
 | cons x a b r=>grind
def Bk.DB{x:bE}{a b r:Bk}(h:(Bk.cons x a b r).str){hi lo:Int}(h1:hi=1+x.body+x.eH)(h2:lo=1):((Bk.cons x a b r).flat.take hi.toNat).drop lo.toNat=(a.app b).flat:=by
 obtain⟨u,B,_⟩:=h
 have E:=a.cM
 have lb:=b.cM
 rw[Bk.zh,tn _ (a:=1) (n:=(a.flat++b.flat).length) cR bP]
 grind[flat]
theorem Bk.acp{x:bE}{a b r:Bk}(h:(Bk.cons x a b r).str){hi:Int}(h1:hi=1+x.body+x.eH):(Bk.cons x a b r).flat.drop hi.toNat=r.flat:=by
 obtain⟨u,B,_⟩:=h
 have E:=a.cM
 have lb:=b.cM
 have e:(Bk.cons x a b r).flat=(x::(a.flat++b.flat))++r.flat:=by simp[Bk.flat]
 rw[e,show hi.toNat=(x::(a.flat++b.flat)).length from by simp;omega,List.drop_left]
theorem A8{l:List bO}{k:Nat}{c:bO}(h:l[k]?=some c):Cp l k=decide (cT (l.map bO.name) c.name<k):=by unfold Cp;rw[h]
theorem Cq{p:bQ}{l:List ByteArray}{k:Nat}{c:ByteArray}(h:l[k]?=some c):Ov p l k=(decide (cT l c<k)||decide (0<=cT (cX p) c)||decide (0<=cT (cS p) c)):=by unfold Ov;rw[h]
theorem Jd(a b:Bk):(a.app b).len=a.len+b.len:=by rw[<- Bk.cM,Bk.zh,kC,Bk.cM,Bk.cM]
theorem Bk.acq{x:bE}{a b r:Bk}(h:(Bk.cons x a b r).str){hi lo:Int}(h1:hi=1+x.body)(h2:lo=1):((Bk.cons x a b r).flat.take hi.toNat).drop lo.toNat=a.flat:=by
 obtain⟨u,B,_⟩:=h
 have E:=a.cM
 rw[tn _ (a:=1) (n:=a.flat.length) bP bP]
 grind[flat]
theorem Bk.acr{x:bE}{a b r:Bk}(h:(Bk.cons x a b r).str){hi lo:Int}(h1:hi=1+x.body+x.eH)(h2:lo=1+x.body):((Bk.cons x a b r).flat.take hi.toNat).drop lo.toNat=b.flat:=by
 obtain⟨u,B,_⟩:=h
 have E:=a.cM
 have lb:=b.cM
 rw[tn _ (a:=1+a.flat.length) (n:=b.flat.length) bP bP]
 grind[flat]
def sU:Bk->Int
 | .nil=>0
 | .cons x a b r=>(if x.kind=12 then 2+sU a else if x.kind=11 then(if 0<x.eH then 1+sU a+sU b+1 else 1+sU a+sU b)else 1)+sU r
def toT(x:bE)(a:Bk)(at_:Int):Int:=if 0<x.eH then at_+1+sU a+1 else at_+1+sU a
def nu(s:ByteArray):ByteArray:=s.extract 0 (min (s.size:Int) 40).toNat
def lJ(s:ByteArray):(nu s).size<=40:=by
 unfold nu
 rw[U7];omega
def ahJ(x:bI):bI:={x with name:=nu x.name}
def Cr(l:List bI):List bI:=(l.take 60).map ahJ
def acs(x:bE):bE:=⟨x.kind,nu x.eQ,nu x.name,Cr x.e,Cr x.f,x.n,x.body,x.eH,x.at_⟩
def Ow(l:List bE):List bE:=(l.take 50).map acs
def ahK(c:bO):bO:={c with name:=nu c.name}
def rC(l:List bO):List bO:=(l.take 8).map ahK
def Vz(t:bW):bW:=⟨nu t.name,(t.dJ.take 6).map nu,Ow t.body,t.at_⟩
def tA(l:List bW):List bW:=(l.take 4).map Vz
def Ox(c:gI):gI:=⟨Cr c.e,c.at_⟩
def Lc(p:bQ):bQ:=⟨(p.lines.take 6).map rC,rC p.iN,rC p.eX,tA p.threads,tA p.recover,(p.ef.take 6).map Ox⟩
def zj(l:List bI):(Cr l).length<=60:=by grind[Cr]
def Cs(l:List bI):∀y∈Cr l,y.name.size<=1048576:=by
 intro y u
 obtain⟨x,_,rfl⟩:=nT.1 u
 have:=lJ x.name
 show(nu x.name).size<=_
 omega
def zn(l:List bO):∀y∈rC l,y.name.size<=1048576:=by
 intro y u
 obtain⟨x,_,rfl⟩:=nT.1 u
 have:=lJ x.name
 show(nu x.name).size<=_
 omega
def vZ(l:List bO):(rC l).length<=8:=by grind[rC]
def Oy(l:List bE):(Ow l).length<=50:=by grind[Ow]
def zo(l:List bW):(tA l).length<=4:=by grind[tA]
def SG(l:List bE):∀y∈Ow l,SzS y:=by
 intro y u
 obtain⟨x,_,rfl⟩:=nT.1 u
 have h1:=lJ x.eQ
 have h2:=lJ x.name
 have h3:=zj x.e
 have h4:=zj x.f
 exact⟨by show(nu x.eQ).size<=_;omega,by show(nu x.name).size<=_;omega,by show(Cr x.e).length<=_;omega,by show(Cr x.f).length<=_;omega,Cs _,Cs _⟩
def GY(t:bW):(Vz t).dJ.length<=6:=by show((t.dJ.take 6).map nu).length<=6;grind
def A9(l:List bW):∀y∈tA l,Rh y/\y.dJ.length<=500/\y.body.length<=500:=by
 intro y B
 obtain⟨x,_,rfl⟩:=nT.1 B
 have h1:=lJ x.name
 have h2:=GY x
 have h3:=Oy x.body
 refine⟨⟨by show(nu x.name).size<=_;omega,λs u=>?_,SG _⟩,bP,by show(Ow x.body).length<=_;omega⟩
 obtain⟨z,_,rfl⟩:=nT.1 (show s∈(x.dJ.take 6).map nu from u)
 have:=lJ z
 omega
def SH(p:bQ):PZ (Lc p):=by
 have u:(Lc p).lines.length<=6:=by show((p.lines.take 6).map rC).length<=6;grind
 have hc:(Lc p).ef.length<=6:=by show((p.ef.take 6).map Ox).length<=6;grind
 have h1:=vZ p.iN
 have h2:=vZ p.eX
 have h3:=zo p.threads
 have h4:=zo p.recover
 have W4:∀t∈(Lc p).threads++(Lc p).recover,Rh t/\t.dJ.length<=500/\t.body.length<=500:=by
  intro t ht
  rcases pJ.1 ht with h|h
  .exact A9 _ t h
  .exact A9 _ t h
 refine {lines:=by omega,line:=λl h=>?_,iN:=by show(rC p.iN).length<=500;omega,eX:=by show(rC p.eX).length<=500;omega,threads:=by show(tA p.threads).length<=500;omega,recover:=by show(tA p.recover).length<=500;omega,ef:=by omega,dJ:=λt ht=>(W4 t ht).2.1,body:=λt ht=>(W4 t ht).2.2,zl:=λl h c hc=>?_,zv:=zn _,zk:=zn _,zt:=λt ht=>(W4 t (List.mem_append_left _ ht)).1,zr:=λt ht=>(W4 t (List.mem_append_right _ ht)).1,zc:=λc h=>?_}
 .obtain⟨x,_,rfl⟩:=nT.1 (show l∈(p.lines.take 6).map rC from h)
  have:=vZ x;omega
 .obtain⟨x,_,rfl⟩:=nT.1 (show l∈(p.lines.take 6).map rC from h)
  exact zn x c hc
 obtain⟨x,_,rfl⟩:=nT.1 (show c∈(p.ef.take 6).map Ox from h)
 have:=zj x.e
 exact⟨by show(Cr x.e).length<=_;omega,Cs _⟩
def u5(l:List Int)(i:Nat):Int:=if i=0 then 0 else l.getD (i-1) 0+1
theorem Oz(x:bE)(loops:Int):loops+Ed (decide (x.kind=12))=Bk.I2 x loops:=by
 unfold Bk.I2 Ed
 grind
def acu(b:Bool):0<=Ed b/\Ed b<=1:=by cases b<;>decide
def C359(J fv:Value)(xs:List bE)(φ:bE->Prop)(g:bE->Bool)(w:World)(V:DL w J xs)(hf:oa hH w fv φ g)(hφ:∀x∈xs,φ x)(hn:xs.length<=1073741824):CR 359 [J,fv] w (λv w'=>v=hU (pg g xs)/\Ext w w'):=by
 obtain⟨g0,first,cap,rfl,mL,gN⟩:=hf;have u:=St.start w;refine eT Tryz.func359 ?_;obtain⟨rD,U,O⟩:=V.open;have Rj:=O.1;refine aI fX (U.ext u.aF) ?_;refine⟨λm x G=>∃k:Nat,x=hU (k:Int)/\m=xs.length-k/\k<=xs.length/\(∀y∈xs.take k,g y=false)/\St w bF [] G,⟨_,0,rfl,rfl,mr _,ew,u⟩,?_⟩;rintro m _ G ⟨k,rfl,rfl,hk,B,u⟩ _;refine aS (aC (λj7=>?_) λ_=>⟨gj (mj .i64) (gy (by rw[kE bP]at B;exact B)).symm,u.aF⟩);obtain⟨iV,M⟩:=gx rD (i:=(k:Int).toNat) bP;obtain⟨Z,E⟩:=gx xs (i:=(k:Int).toNat) bP
 obtain⟨Ct,SJ,rfl,Cu,W⟩:=O.2 _ _ _ M E;refine aZ fX U bP M (λ_ Y=>aE ep (Y.ext u.aF) (fm mL (gN _ Z G u.aF ⟨Ct,SJ,rfl,(Cu.ext u.aF),(W.ext u.aF)⟩ (hφ _ (l0 E))) ?_));rintro _ _ ⟨rfl,he⟩;have u:=u.ext he;exact bD (λI=>⟨gj (mj .i64) (jA B E I).symm,u.aF⟩) (λI=>aK bP ⟨_,bP,k+1,rfl,rfl,bP,eE B E I,u⟩)
def C346(B fv:Value)(xs:List bE)(φ:bE->Prop)(g:bE->Bool)(w:World)(E:DL w B xs)(G:oa hH w fv φ g)(I:∀x∈xs,φ x)(J:xs.length<=1073741824):CR 346 [B,fv] w (λv w'=>v=.bool (xs.any g)/\Ext w w'):=by
 have u:=St.start w;refine eT Tryz.func346 ?_;exact aR ab8 u (C359 _ _ _ _ _ _ (E.ext u.aF) (G.ext u.aF) I bP) (λ_ _ u=>cJ ⟨vb (iB _ _),u.aF⟩)
theorem C348(lv:Value)(xs:List bE)(loops:Int)(N:Nat)(w:World)(hL:DL w lv xs)(hn:xs.length<=40)(hlo:0<=loops)(VA:loops+N<=4194304)(hN:xs.length<N):CR 348 [lv,hU loops] w (λv w'=>v=hU (e8 xs loops)/\Ext w w'):=by
 have E:=St.start w;refine SE _ _ _ _ ?_;unfold S348;refine⟨λm y x w1=>∃(k:Nat) (n:Int),y=hU n/\x=hU (k:Int)/\m=xs.length-k/\k<=xs.length/\0<=n/\n<=41/\e8 xs loops=ry n (e8 (xs.drop k) loops)/\St w bF [] w1,⟨_,0,0,rfl,rfl,rfl,bP,bP,bP,by have:=uV xs loops;rw[U0];unfold ry;split<;>omega,E⟩,?_⟩;rintro m _ _ w1 ⟨k,n,rfl,rfl,rfl,hk,SB,SL,hinv,E⟩ _;obtain⟨vx,I,Rk⟩:=hL.open;have hn4:=Rk.1;refine aI fX (I.ext E.aF) (aS (aC (λcW=>?_) λcW=>?_))
 .obtain⟨VB,oL⟩:=gx vx (i:=(k:Int).toNat) bP;obtain⟨u,v7⟩:=gx xs (i:=(k:Int).toNat) bP;obtain⟨J,O,rfl,afv,afw⟩:=Rk.2 _ _ _ oL v7;refine aZ fX I bP oL (λ_ rp=>?_);have hdk:=drop_cons (xs:=xs) (k:=k) v7;rw[hdk]at hinv;have ZR:(xs.drop (k+1)).length=xs.length-(k+1):=oD;refine aE ep (rp.ext E.aF) (aM E jy λV _ E=>have E:=E.enc (cs':=iW (⟨0,(hZ #[]),(hZ #[]),bZ,bZ,0,0,0,0⟩:aW)) rfl;aH (x:=(⟨u.kind,u.eQ,u.name,J,O,u.n,u.body,u.eH,u.at_⟩:aW)) E ep rfl rfl λ_ E=>aK bP (aA jV (aB (v:=hU u.body) bL E.hb rfl (uG ?_))))
  obtain⟨W1,U⟩:∃W,W=xz (((k:Int)+1)+u.body):=⟨_,rfl⟩;rw[<- U];refine aA l6 (aB (v:=hU u.eH) bL E.hb rfl (uG ?_));obtain⟨M,Y⟩:∃W,W=xz (W1+u.eH):=⟨_,rfl⟩;rw[<- Y];refine⟨λG w'=>G=.bool (Bk.vU u)/\St w bF [bM V (iW (⟨u.kind,u.eQ,u.name,J,O,u.n,u.body,u.eH,u.at_⟩:aW))] w',aA fy (aB (v:=hU u.kind) bL E.hb rfl (aG (aC (λ_=>⟨vb (by unfold Bk.vU;grind),E⟩) λ_=>aA fy (aB (v:=hU u.kind) bL E.hb rfl (aG ⟨vb (by unfold Bk.vU;grind),E⟩))))),?_⟩
  rintro _ _ ⟨rfl,E⟩ _;refine⟨λG w'=>G=.bool (decide (u.body<0\/u.eH<0\/(xs.length:Int)<u.body\/(xs.length:Int)<u.eH\/(xs.length:Int)<M))/\St w bF [bM V (iW (⟨u.kind,u.eQ,u.name,J,O,u.n,u.body,u.eH,u.at_⟩:aW))] w',aA jV (aB (v:=hU u.body) bL E.hb rfl (aS (aC (λ_=>⟨vb cR,E⟩) λBa=>?_))),?_⟩
  .refine aA l6 (aB (v:=hU u.eH) bL E.hb rfl (aS ?_));exact aC (λ_=>⟨vb cR,E⟩) (λ_=>aA jV (aB (v:=hU u.body) bL E.hb rfl (aI fX (I.ext E.aF) (dL (aC (λ_=>⟨vb cR,E⟩) λ_=>aA l6 (aB (v:=hU u.eH) bL E.hb rfl (aI fX (I.ext E.aF) (dL (aC (λ_=>⟨vb cR,E⟩) λ_=>aI fX (I.ext E.aF) (dL ⟨vb cR,E⟩))))))))))
  rintro _ _ ⟨rfl,E⟩ _;refine bD (λuR=>?_) (λuR=>?_)
  .have hW:0<=u.body/\u.body<=40/\0<=u.eH/\u.eH<=40->M=(k:Int)+1+u.body+u.eH:=λh=>by
    have h1:W1=(k:Int)+1+u.body:=by rw[U];exact Cf bP
    rw[Y,Cf bP];omega
   exact⟨gj (mj .i64) (NP hinv (by unfold uW;grind)).symm,E.drop.aF⟩
  have hq:=g6 uR
  have hW:M=(k:Int)+1+u.body+u.eH:=by
   have h1:W1=(k:Int)+1+u.body:=by rw[U];exact Cf bP
   rw[Y,Cf bP];omega
  have mB:uW u (xs.drop (k+1)):=by unfold uW;omega
  refine⟨λG w'=>G=.bool (!Bk.FW u loops)/\St w bF [bM V (iW (⟨u.kind,u.eQ,u.name,J,O,u.n,u.body,u.eH,u.at_⟩:aW))] w',⟨λG w'=>G=.bool (!Bk.vU u&&decide (0<u.body))/\St w bF [bM V (iW (⟨u.kind,u.eQ,u.name,J,O,u.n,u.body,u.eH,u.at_⟩:aW))] w',bJ (bD (λ_=>aA jV (aB (v:=hU u.body) bL E.hb rfl (dL ⟨vb cR,E⟩))) λ_=>⟨vb cR,E⟩),?_⟩,?_⟩
  .rintro _ _ ⟨rfl,E⟩ _;refine bD (λ_=>⟨vb (by unfold Bk.FW;unfold Bk.vU at *;grind),E⟩) (λc_x66=>⟨λG w'=>G=.bool (decide (¬ u.kind=11/\0<u.eH))/\St w bF [bM V (iW (⟨u.kind,u.eQ,u.name,J,O,u.n,u.body,u.eH,u.at_⟩:aW))] w',aA fy (aB (v:=hU u.kind) bL E.hb rfl (cC (aC (λ_=>aA l6 (aB (v:=hU u.eH) bL E.hb rfl (dL ⟨vb cR,E⟩))) λ_=>⟨vb cR,E⟩))),?_⟩);rintro _ _ ⟨rfl,E⟩ _;exact bD (λ_=>⟨vb (by unfold Bk.FW;unfold Bk.vU at *;grind),E⟩) (λ_=>aA fy (aB (v:=hU u.kind) bL E.hb rfl (aG (aC (λ_=>aG ⟨vb (by unfold Bk.FW;unfold Bk.vU at *;grind),E⟩) λ_=>⟨vb (by unfold Bk.FW;unfold Bk.vU at *;grind),E⟩))))
  rintro _ _ ⟨rfl,E⟩ _;refine bD (λ_=>⟨gj (mj .i64) (NP hinv cR).symm,E.drop.aF⟩) (λafx=>?_);have ql:Bk.FW u loops=true:=cR
  have ahN:=mB;unfold uW at ahN;refine⟨λG w'=>∃Z:Int,G=hU Z/\0<=Z/\Z<=41/\e8 xs loops=ry Z (e8 (xs.drop (k+1+(u.body.toNat+u.eH.toNat))) loops)/\St w bF [bM V (iW (⟨u.kind,u.eQ,u.name,J,O,u.n,u.body,u.eH,u.at_⟩:aW))] w',bD (λv8=>?_) (λv8=>?_),?_⟩
  .have hb01:=Oz u loops;have hbb:=acu (decide (u.kind=12));have hcA:((xs.take (((k:Int)+1)+u.body).toNat).drop ((k:Int)+1).toNat)=(xs.drop (k+1)).take u.body.toNat:=tn xs bP bP;have hcB:((xs.take M.toNat).drop (((k:Int)+1)+u.body).toNat)=((xs.drop (k+1)).drop u.body.toNat).take u.eH.toNat:=by rw[qv];exact tn xs bP bP
   have hlA:((xs.take (((k:Int)+1)+u.body).toNat).drop ((k:Int)+1).toNat).length<=xs.length-1/\((xs.take (((k:Int)+1)+u.body).toNat).drop ((k:Int)+1).toNat).length<=40:=by rw[hcA,ml];omega
   have hlB:((xs.take M.toNat).drop (((k:Int)+1)+u.body).toNat).length<=xs.length-1/\((xs.take M.toNat).drop (((k:Int)+1)+u.body).toNat).length<=40:=by rw[hcB,ml,oD];omega
   refine aA fy (aB (v:=hU u.kind) bL E.hb rfl (aG (aR MR E (C255 _ _) λ_ he E=>aK bP (aK bP (aK bP (aA jV (have E:=E.drew;aB (v:=hU u.body) bL E.hb rfl (aK bP (vK fX (I.ext E.aF) bP bP bP λahO SM=>?_)))))))));have SN:=DL.cut SM I Rk;refine aK bP (aA jV (aB (v:=hU u.body) bL E.hb rfl (aK bP (vK fX (I.ext E.aF) bP bP bP λahP SO=>?_))));have SP:=DL.cut SO I Rk
   refine aR Om E (C348 _ _ _ (N-1) _ (SN.ext E.aF) bP bP bP bP) (λ_ he E=>?_);refine⟨aY bL (E.hb.cell rfl),?_⟩;refine dX Om (C348 _ _ _ (N-1) _ (SP.ext E.aF) bP bP bP bP) ?_;rintro _ _ ⟨rfl,he⟩;have E:=E.ext he;obtain⟨A,hA⟩:∃A,A=e8 ((xs.take (((k:Int)+1)+u.body).toNat).drop ((k:Int)+1).toNat) (Bk.I2 u loops):=⟨_,rfl⟩;obtain⟨B,hB⟩:∃B,B=e8 ((xs.take M.toNat).drop (((k:Int)+1)+u.body).toNat) (Bk.I2 u loops):=⟨_,rfl⟩;have hAb:=uV ((xs.take (((k:Int)+1)+u.body).toNat).drop ((k:Int)+1).toNat) (Bk.I2 u loops)
   have hBb:=uV ((xs.take M.toNat).drop (((k:Int)+1)+u.body).toNat) (Bk.I2 u loops);rw[<- hA]at hAb;rw[<- hB]at hBb;rw[Oz,<- hA,<- hB];have ZN:=WJ hinv mB ql v8 A B (by rw[hA,hcA]) (by rw[hB,hcB]);refine⟨λG w'=>G=.bool (decide (A<0\/B<0))/\St w bF [bM V (iW (⟨u.kind,u.eQ,u.name,J,O,u.n,u.body,u.eH,u.at_⟩:aW))] w',aG (aC (λ_=>⟨vb cR,E⟩) λ_=>aG ⟨vb cR,E⟩),?_⟩;rintro _ _ ⟨rfl,E⟩ _;refine bD (λG0=>⟨gj (mj .i64) (ZN.1 (gv G0)).symm,E.drop.aF⟩) (λG0=>aK bP (aK bP (Nx ?_)))
   have acv:=ZN.2 (g6 G0);rw[qv,U9 1 A,U9 1 B]at acv;exact⟨_,rfl,bP,bP,acv,E⟩
  .have hdn:=abt hinv mB ql v8;rw[qv]at hdn;exact⟨_,rfl,SB,SL,hdn,E⟩
  rintro _ _ ⟨Z,rfl,ahQ,ahR,acw,E⟩ _;exact⟨_,bP,k+1+(u.body.toNat+u.eH.toNat),Z,rfl,gj (mj .i64) bP,rfl,bP,ahQ,ahR,acw,E.drop⟩
 rw[ou bP,A1]at hinv;exact⟨gj (mj .i64) (by rw[hinv];unfold ry;omega),E.aF⟩
termination_by N
decreasing_by all_goals omega
theorem EP(xs:List bE):pR xs=(!(decide (40<xs.length)||xs.any λy=>!oe y)&&decide (¬ e8 xs 0 = -1/\e8 xs 0<=12)):=by
 have:=uV xs 0
 grind[pR,oe,e8]
def C297(lv:Value)(xs:List bE)(w:World)(B:DL w lv xs)(hn:xs.length<=1048576)(W:∀x∈xs,x.e.length<=1048576/\x.f.length<=1048576):CR 297 [lv] w (λv w'=>v=.bool (pR xs)/\Ext w w'):=by
 have u:=St.start w;refine eT Tryz.func297 ?_;refine⟨λI w'=>I=.bool (decide (40<xs.length)||xs.any λy=>!oe y)/\St w bF [] w',?_,?_⟩
 .obtain⟨VC,E,J⟩:=B.open;have Z:=J.1;exact aI fX (E.ext u.aF) (dL (aC (λ_=>⟨vb cR,u⟩) λ_=>aR ab7 u (C346 _ _ _ (λx=>x.e.length<=1048576/\x.f.length<=1048576) _ _ (B.ext u.aF) ⟨347,[],[],rfl,abY,λV y U _ O M=>C347 y V U O M.1 M.2⟩ W bP) λ_ _ u=>⟨vb cR,u⟩))
 rintro _ _ ⟨rfl,u⟩ _;refine bD (λG=>?_) (λG=>?_)
 .refine⟨vb ?_,u.aF⟩;rw[EP,G];rfl
 have Y:xs.length<=40:=cR
 refine aR Om u (C348 _ _ _ (xs.length+1) _ (B.ext u.aF) bP bP bP bP) (λ_ he u=>⟨λI w'=>I=.bool (decide (¬ e8 xs 0 = -1/\e8 xs 0<=12))/\St w bF [] w',cC (aC (λ_=>gO ⟨vb cR,u⟩) λ_=>⟨vb cR,u⟩),?_⟩);rintro _ _ ⟨rfl,u⟩ _;refine⟨vb ?_,u.aF⟩;rw[EP,G];rfl
def Cv(t:bW):Bool:=pS t.at_&&!t.dJ.any (λs=>!fB s)&&pR t.body
theorem Je(t:bW):(!fB t.name||!Cv t)=mg true t:=by
 unfold mg Ch Cv
 grind
theorem Jf(t:bW):(decide (¬ t.name=⟨#[]⟩)||!Cv t)=mg false t:=by
 unfold mg Ch Cv
 by_cases h:t.name=⟨#[]⟩
 .rw[h,show fB (⟨#[]⟩:ByteArray)=false from ea]
  grind
 grind
theorem ER(p:bQ):(!(p.lines.any og||!oI 4294967296 p.iN||!oI 0 p.eX||decide (1<p.recover.length))&&(!p.threads.any (mg true)&&!p.recover.any (mg false)&&!p.ef.any mh))=jK p:=by
 unfold jK uX
 grind
def SzS.ok{xs:List bE}(h:∀x∈xs,SzS x):∀x∈xs,x.e.length<=1048576/\x.f.length<=1048576:=λx u=>⟨(h x u).2.2.1,(h x u).2.2.2.1⟩
def C210(n:Int)(w:World):CR 210 [hU n] w (λv w'=>v=.bool (pS n)/\Ext w w'):=by
 have B:=St.start w;refine eT Tryz.func210 ?_;refine⟨λu w'=>u=.bool (decide (0<=n/\n<=4000))/\w=w',cJ (aC (λ_=>gO ⟨xr bP,rfl⟩) λ_=>⟨Rc bP,rfl⟩),?_⟩;rintro _ _ ⟨rfl,E⟩ _;subst E;exact⟨rfl,B.aF⟩
def C290(c:bO)(b2:Nat)(B:Int)(w:World)(hc:Cell w b2 0 (hU B)):CR 290 [ia c,.pointer (some ⟨b2,0,none⟩)] w (λv w'=>v=.bool (kV B c)/\Ext w w'):=by
 have u:=St.start w;refine eT Tryz.func290 ?_;refine bY u (λE _ u=>⟨λG w'=>G=.bool (kV B c)/\St w bF [bM E (iW c)] w',aA m9 (aB (v:=.string c.name) j3 u.hb rfl (aR En u (C206 _ _) λ_ I u=>bJ (bD (λ_=>⟨vb (by unfold kV;grind),u⟩) λJ=>?_))),?_⟩)
 .exact aA uy (aB (v:=hU c.n) bL u.hb rfl (aS (aC (λ_=>⟨vb (by unfold kV;grind),u⟩) λ_=>aA uy (aB (v:=hU c.n) bL u.hb rfl (cE bL (hc.ext u.aF) (dL (aC (λ_=>⟨vb (by unfold kV;grind),u⟩) λ_=>aA uz (aB (v:=hU c.at_) bL u.hb rfl (aR Oo u (C210 _ _) λ_ _ u=>bJ ⟨vb (by unfold kV;grind),u⟩)))))))))
 rintro _ _ ⟨rfl,u⟩ _;exact⟨rfl,u.drop.aF⟩
def C344(M fv:Value)(xs:List bO)(g:bO->Bool)(w:World)(J:dy (λ_=>True) w M xs)(Y:qI w fv g)(hn:xs.length<=1073741824):CR 344 [M,fv] w (λv w'=>v=hU (pg g xs)/\Ext w w'):=by
 obtain⟨g0,first,cap,rfl,W,V⟩:=Y;have u:=St.start w;refine eT Tryz.func344 ?_;refine aI nR (J.ext u.aF) ?_;refine⟨λm x E=>∃k:Nat,x=hU (k:Int)/\m=xs.length-k/\k<=xs.length/\(∀y∈xs.take k,g y=false)/\St w bF [] E,⟨_,0,rfl,rfl,mr _,ew,u⟩,?_⟩;rintro m _ E ⟨k,rfl,rfl,hk,B,u⟩ _;refine aS (aC (λj7=>?_) λ_=>⟨gj (mj .i64) (gy (by rw[kE bP]at B;exact B)).symm,u.aF⟩);obtain⟨O,G⟩:=gx xs (i:=(k:Int).toNat) bP;refine aZ nR J bP G (λ_ U=>aE jS (U.ext u.aF) (fm W (V O E u.aF) ?_))
 rintro _ _ ⟨rfl,Z⟩;have u:=u.ext Z;exact bD (λI=>⟨gj (mj .i64) (jA B G I).symm,u.aF⟩) (λI=>aK bP ⟨xs.length-(k+1),bP,k+1,rfl,rfl,bP,eE B G I,u⟩)
def C289(B fv:Value)(xs:List bO)(g:bO->Bool)(w:World)(E:dy (λ_=>True) w B xs)(G:qI w fv g)(I:xs.length<=1073741824):CR 289 [B,fv] w (λv w'=>v=.bool (xs.any g)/\Ext w w'):=by
 have u:=St.start w;refine eT Tryz.func289 ?_;exact aR aca u (C344 _ _ _ _ _ (E.ext u.aF) (G.ext u.aF) bP) (λ_ _ u=>cJ ⟨vb (iB _ _),u.aF⟩)
def C204(lv:Value)(xs:List bO)(B:Int)(w:World)(J:dy (λ_=>True) w lv xs)(O:xs.length<=1048576):CR 204 [lv,hU B] w (λv w'=>v=.bool (oI B xs)/\Ext w w'):=by
 have u:=St.start w;refine eT Tryz.func204 ?_;refine jR u rfl (λI G u=>?_)
 have E:qI _ (.func (.func 290) [].toArray [.pointer (some ⟨I,0,none⟩)].toArray) (kV B):=
  ⟨290,[],_,rfl,ab5,λy G M=>C290 y I B G ((u.hb.cell rfl).ext M)⟩
 exact aR ab9 u (C289 _ _ _ _ _ (J.ext u.aF) E bP) (λ_ _ u=>bJ ⟨rfl,u.drop.aF⟩)
def C296(s:ByteArray)(w:World):CR 296 [.string s] w (λv w'=>v=.bool (!fB s)/\Ext w w'):=by
 have u:=St.start w;refine eT Tryz.func296 ?_;exact aR En u (C206 _ _) (λ_ _ u=>bJ ⟨rfl,u.aF⟩)
def C207(t:bW)(G:bU)(w:World)(ht:l2 w G t)(O:Rh t/\t.dJ.length<=500/\t.body.length<=500):CR 207 [ia G] w (λv w'=>v=.bool (Cv t)/\Ext w w'):=by
 obtain⟨M,V,rfl,J,W⟩:=ht;have u:=St.start w;refine eT Tryz.func207 ?_;refine bY u (λI E u=>⟨λU w'=>U=.bool (Cv t)/\St w bF [bM I (iW (⟨t.name,M,V,t.at_⟩:bU))] w',aA yD (aB (v:=hU t.at_) bL u.hb rfl (aR Oo u (C210 _ _) λ_ Z u=>bD (λY=>?_) λ_=>⟨vb (by unfold Cv;grind),u⟩)),?_⟩)
 .refine aA m7 (aB lX u.hb rfl ?_);have B:=DL.flat J;exact aR Vj u (C124 _ _ _ (λs=>!fB s) _ (B.ext u.aF) ⟨296,[],[],rfl,ab6,λy E _=>C296 y E⟩ bP) (λ_ _ u=>bJ (bD (λ_=>aA qT (aB lZ u.hb rfl (aR abZ u (C297 _ _ _ (W.ext u.aF) bP (SzS.ok O.1.2.2)) λ_ _ u=>⟨vb (by unfold Cv;grind),u⟩))) λ_=>⟨vb (by unfold Cv;grind),u⟩))
 rintro _ _ ⟨rfl,u⟩ _;exact⟨rfl,u.drop.aF⟩
def C205(t:bW)(G:bU)(w:World)(ht:l2 w G t)(M:Rh t/\t.dJ.length<=500/\t.body.length<=500):CR 205 [ia G] w (λv w'=>v=.bool (mg true t)/\Ext w w'):=by
 obtain⟨E,B,rfl,U,O⟩:=ht;have u:=St.start w;refine eT Tryz.func205 ?_;refine bY u (λJ _ u=>⟨λI w'=>I=.bool (mg true t)/\St w bF [bM J (iW (⟨t.name,E,B,t.at_⟩:bU))] w',aA yC (aB (v:=.string t.name) j3 u.hb rfl (aR En u (C206 _ _) λ_ _ u=>bJ (bD (λ_=>⟨vb (by rw[<- Je];grind),u⟩) λ_=>aE lq u.At (aR Vx u (C207 t _ _ ⟨E,B,rfl,(U.ext u.aF),(O.ext u.aF)⟩ M) λ_ _ u=>bJ ⟨vb (by rw[<- Je];grind),u⟩)))),?_⟩);rintro _ _ ⟨rfl,u⟩ _;exact⟨rfl,u.drop.aF⟩
def C208(t:bW)(G:bU)(w:World)(ht:l2 w G t)(M:Rh t/\t.dJ.length<=500/\t.body.length<=500):CR 208 [ia G] w (λv w'=>v=.bool (mg false t)/\Ext w w'):=by
 obtain⟨E,B,rfl,U,O⟩:=ht;have u:=St.start w;refine eT Tryz.func208 ?_;refine bY u (λJ _ u=>⟨λI w'=>I=.bool (mg false t)/\St w bF [bM J (iW (⟨t.name,E,B,t.at_⟩:bU))] w',aA yC (aB (v:=.string t.name) j3 u.hb rfl (vL (aC (λ_=>⟨vb (by rw[<- Jf];grind),u⟩) λ_=>aE lq u.At (aR Vx u (C207 t _ _ ⟨E,B,rfl,(U.ext u.aF),(O.ext u.aF)⟩ M) λ_ _ u=>bJ ⟨vb (by rw[<- Jf];grind),u⟩)))),?_⟩);rintro _ _ ⟨rfl,u⟩ _;exact⟨rfl,u.drop.aF⟩
def C203(lv:Value)(xs:List bO)(w:World)(B:dy (λ_=>True) w lv xs)(G:xs.length<=1048576):CR 203 [lv] w (λv w'=>v=.bool (og xs)/\Ext w w'):=by
 have u:=St.start w;refine eT Tryz.func203 ?_;refine⟨λE w'=>E=.bool (og xs)/\St w bF [] w',aI nR (B.ext u.aF) (aG (aC (λ_=>⟨vb (by unfold og;grind),u⟩) λ_=>aR On u (C204 _ _ _ _ (B.ext u.aF) bP) λ_ _ u=>bJ ⟨vb (by unfold og;grind),u⟩)),?_⟩;rintro _ _ ⟨rfl,u⟩ _;exact⟨rfl,u.aF⟩
def C209(c:gI)(cv:iq)(w:World)(hc:l2 w cv c)(M:c.e.length<=1048576):CR 209 [ia cv] w (λv w'=>v=.bool (mh c)/\Ext w w'):=by
 obtain⟨G,rfl,E⟩:=hc;have u:=St.start w;refine eT Tryz.func209 ?_;refine bY u (λB _ u=>⟨λJ w'=>J=.bool (mh c)/\St w bF [bM B (iW (⟨G,c.at_⟩:iq))] w',aA R4 (aB (v:=hU c.at_) bL u.hb rfl (aR Oo u (C210 _ _) λ_ O u=>bJ (bD (λ_=>⟨vb (by unfold mh;grind),u⟩) λU=>?_))),?_⟩)
 .refine aA B8 (aB lH u.hb rfl ?_);have I:=DL.flat E;exact aR I3 u (C121 _ _ _ (I.ext u.aF) bP) (λ_ _ u=>bJ ⟨vb (by unfold mh;grind),u⟩)
 rintro _ _ ⟨rfl,u⟩ _;exact⟨rfl,u.drop.aF⟩
def C298(W fv:Value)(xs:List (List bO))(φ:(List bO)->Prop)(g:(List bO)->Bool)(w:World)(Z:DL w W xs)(hf:oa hH w fv φ g)(hφ:∀x∈xs,φ x)(hn:xs.length<=1073741824):CR 298 [W,fv] w (λv w'=>v=hU (pg g xs)/\Ext w w'):=by
 obtain⟨g0,first,cap,rfl,mL,gN⟩:=hf;have u:=St.start w;refine eT Tryz.func298 ?_;obtain⟨O,E,B⟩:=Z.open;have hn8:=B.1;refine aI yy (E.ext u.aF) ?_;refine⟨λm x J=>∃k:Nat,x=hU (k:Int)/\m=xs.length-k/\k<=xs.length/\(∀y∈xs.take k,g y=false)/\St w bF [] J,⟨_,0,rfl,rfl,mr _,ew,u⟩,?_⟩;rintro m _ J ⟨k,rfl,rfl,hk,G,u⟩ _;refine aS (aC (λj7=>?_) λ_=>⟨gj (mj .i64) (gy (by rw[kE bP]at G;exact G)).symm,u.aF⟩);obtain⟨iV,Y⟩:=gx O (i:=(k:Int).toNat) bP;obtain⟨U,I⟩:=gx xs (i:=(k:Int).toNat) bP
 have V:DL w (ia iV) U:=B.2 _ _ _ Y I;refine aZ yy E bP Y (λ_ fL=>aE sE (fL.ext u.aF) ?_);have hf9:=DL.flat V;refine fm mL (gN _ U J u.aF (V.ext u.aF) (hφ _ (l0 I))) ?_;rintro _ _ ⟨rfl,he⟩;have u:=u.ext he;exact bD (λM=>⟨gj (mj .i64) (jA G I M).symm,u.aF⟩) (λM=>aK bP ⟨_,bP,k+1,rfl,rfl,bP,eE G I M,u⟩)
def C211(B fv:Value)(xs:List (List bO))(φ:(List bO)->Prop)(g:(List bO)->Bool)(w:World)(E:DL w B xs)(G:oa hH w fv φ g)(I:∀x∈xs,φ x)(J:xs.length<=1073741824):CR 211 [B,fv] w (λv w'=>v=.bool (xs.any g)/\Ext w w'):=by
 have u:=St.start w;refine eT Tryz.func211 ?_;exact aR acb u (C298 _ _ _ _ _ _ (E.ext u.aF) (G.ext u.aF) I bP) (λ_ _ u=>cJ ⟨vb (iB _ _),u.aF⟩)
def C299(V fv:Value)(xs:List bW)(φ:bW->Prop)(g:bW->Bool)(w:World)(Y:DL w V xs)(hf:oa hH w fv φ g)(hφ:∀x∈xs,φ x)(hn:xs.length<=1073741824):CR 299 [V,fv] w (λv w'=>v=hU (pg g xs)/\Ext w w'):=by
 obtain⟨g0,first,cap,rfl,mL,gN⟩:=hf;have u:=St.start w;refine eT Tryz.func299 ?_;obtain⟨O,B,E⟩:=Y.open;have U:=E.1;refine aI kK (B.ext u.aF) ?_;refine⟨λm x J=>∃k:Nat,x=hU (k:Int)/\m=xs.length-k/\k<=xs.length/\(∀y∈xs.take k,g y=false)/\St w bF [] J,⟨_,0,rfl,rfl,mr _,ew,u⟩,?_⟩;rintro m _ J ⟨k,rfl,rfl,hk,G,u⟩ _;refine aS (aC (λj7=>?_) λ_=>⟨gj (mj .i64) (gy (by rw[kE bP]at G;exact G)).symm,u.aF⟩);obtain⟨iV,W⟩:=gx O (i:=(k:Int).toNat) bP;obtain⟨sV,I⟩:=gx xs (i:=(k:Int).toNat) bP
 obtain⟨G3,G4,rfl,G5,Z⟩:=E.2 _ _ _ W I;refine aZ kK B bP W (λ_ fL=>aE lq (fL.ext u.aF) (fm mL (gN _ sV J u.aF ⟨G3,G4,rfl,(G5.ext u.aF),(Z.ext u.aF)⟩ (hφ _ (l0 I))) ?_));rintro _ _ ⟨rfl,he⟩;have u:=u.ext he;exact bD (λM=>⟨gj (mj .i64) (jA G I M).symm,u.aF⟩) (λM=>aK bP ⟨_,bP,k+1,rfl,rfl,bP,eE G I M,u⟩)
def C212(B fv:Value)(xs:List bW)(φ:bW->Prop)(g:bW->Bool)(w:World)(E:DL w B xs)(G:oa hH w fv φ g)(I:∀x∈xs,φ x)(J:xs.length<=1073741824):CR 212 [B,fv] w (λv w'=>v=.bool (xs.any g)/\Ext w w'):=by
 have u:=St.start w;refine eT Tryz.func212 ?_;exact aR acd u (C299 _ _ _ _ _ _ (E.ext u.aF) (G.ext u.aF) I bP) (λ_ _ u=>cJ ⟨vb (iB _ _),u.aF⟩)
def C300(V fv:Value)(xs:List gI)(φ:gI->Prop)(g:gI->Bool)(w:World)(Y:DL w V xs)(hf:oa hH w fv φ g)(hφ:∀x∈xs,φ x)(hn:xs.length<=1073741824):CR 300 [V,fv] w (λv w'=>v=hU (pg g xs)/\Ext w w'):=by
 obtain⟨g0,first,cap,rfl,mL,gN⟩:=hf;have u:=St.start w;refine eT Tryz.func300 ?_;obtain⟨O,E,B⟩:=Y.open;have U:=B.1;refine aI B4 (E.ext u.aF) ?_;refine⟨λm x J=>∃k:Nat,x=hU (k:Int)/\m=xs.length-k/\k<=xs.length/\(∀y∈xs.take k,g y=false)/\St w bF [] J,⟨_,0,rfl,rfl,mr _,ew,u⟩,?_⟩;rintro m _ J ⟨k,rfl,rfl,hk,G,u⟩ _;refine aS (aC (λj7=>?_) λ_=>⟨gj (mj .i64) (gy (by rw[kE bP]at G;exact G)).symm,u.aF⟩);obtain⟨iV,W⟩:=gx O (i:=(k:Int).toNat) bP;obtain⟨sV,I⟩:=gx xs (i:=(k:Int).toNat) bP
 obtain⟨Ct,rfl,Cu⟩:=B.2 _ _ _ W I;refine aZ B4 E bP W (λ_ Z=>aE B7 (Z.ext u.aF) (fm mL (gN _ sV J u.aF ⟨Ct,rfl,(Cu.ext u.aF)⟩ (hφ _ (l0 I))) ?_));rintro _ _ ⟨rfl,he⟩;have u:=u.ext he;exact bD (λM=>⟨gj (mj .i64) (jA G I M).symm,u.aF⟩) (λM=>aK bP ⟨_,bP,k+1,rfl,rfl,bP,eE G I M,u⟩)
def C213(B fv:Value)(xs:List gI)(φ:gI->Prop)(g:gI->Bool)(w:World)(E:DL w B xs)(G:oa hH w fv φ g)(I:∀x∈xs,φ x)(J:xs.length<=1073741824):CR 213 [B,fv] w (λv w'=>v=.bool (xs.any g)/\Ext w w'):=by
 have u:=St.start w;refine eT Tryz.func213 ?_;exact aR acf u (C300 _ _ _ _ _ _ (E.ext u.aF) (G.ext u.aF) I bP) (λ_ _ u=>cJ ⟨vb (iB _ _),u.aF⟩)
def C109(p:bQ)(pv:cA)(w:World)(E:l2 w pv p)(B:PZ p):CR 109 [ia pv] w (λv w'=>v=.bool (jK p)/\Ext w w'):=by
 obtain⟨cK,dC,cZ,Z,cD,cI,rfl,eP,gd,fR,eK,eY,fF⟩:=E;have u:=St.start w;refine eT Tryz.func109 ?_;refine bY u (λCw G u=>⟨λY w'=>Y=.bool (p.lines.any og||!oI 4294967296 p.iN||!oI 0 p.eX||decide (1<p.recover.length))/\St w bF [bM Cw (iW (⟨cK,dC,cZ,Z,cD,cI⟩:cA))] w',aA mN (aB yx u.hb rfl (aR Vy u (C211 _ _ _ (λl=>l.length<=1048576) _ _ (eP.ext u.aF) ⟨203,[],[],rfl,ab1,λ_ y G _ I E=>C203 _ y G (DL.flat I) E⟩ (λl hl=>by have:=B.line l hl;omega) (by have:=B.lines;omega)) λ_ he u=>bD (λ_=>⟨vb cR,u⟩) λiU=>?_)),?_⟩)
 .refine aA uj (aB sE u.hb rfl ?_);have O:=DL.flat gd;refine aR On u (C204 _ _ _ _ (O.ext u.aF) (by have:=B.iN;omega)) (λ_ he u=>bJ (bD (λ_=>⟨vb cR,u⟩) λj1=>aA r8 (aB sE u.hb rfl ?_)));have V:=DL.flat fR;refine aR On u (C204 _ _ _ _ (V.ext u.aF) (by have:=B.eX;omega)) (λ_ he u=>bJ (bD (λ_=>⟨vb cR,u⟩) λfg=>aA r9 (aB pO u.hb rfl ?_)));have hzr:=B.recover;obtain⟨ts14,M,W⟩:=eY.open;have hn14:=W.1;exact aI kK (M.ext u.aF) (dL ⟨vb cR,u⟩)
 rintro _ _ ⟨rfl,u⟩ _;refine bD (λU=>?_) (λU=>⟨λY w'=>Y=.bool (!p.threads.any (mg true)&&!p.recover.any (mg false)&&!p.ef.any mh)/\St w bF [bM Cw (iW (⟨cK,dC,cZ,Z,cD,cI⟩:cA))] w',?_,?_⟩)
 .refine⟨vb ?_,u.drop.aF⟩;rw[<- ER,U];simp
 .refine aA pP ?_;exact aB pO u.hb rfl (aR Oq u (C212 _ _ _ (λt=>Rh t/\t.dJ.length<=500/\t.body.length<=500) _ _ (eK.ext u.aF) ⟨205,[],[],rfl,ab2,λJ y G _ I E=>C205 y J G I E⟩ (λ_ ht=>B.so (List.mem_append_left _ ht)) (by have:=B.threads;omega)) λ_ _ u=>bJ (bD (λ_=>aA r9 (aB pO u.hb rfl (aR Oq u (C212 _ _ _ (λt=>Rh t/\t.dJ.length<=500/\t.body.length<=500) _ _ (eY.ext u.aF) ⟨208,[],[],rfl,ab3,λJ y G _ I E=>C208 y J G I E⟩ (λ_ ht=>B.so (List.mem_append_right _ ht)) (by have:=B.recover;omega)) λ_ _ u=>bJ (bD (λ_=>aA sc (aB DU u.hb rfl (aR ace u (C213 _ _ _ (λc=>c.e.length<=1048576) _ _ (fF.ext u.aF) ⟨209,[],[],rfl,ab4,λJ y G _ I E=>C209 y J G I E⟩ (λc hc=>(B.zc c hc).1) (by have:=B.ef;omega)) λ_ _ u=>bJ ⟨vb cR,u⟩))) λ_=>⟨vb cR,u⟩)))) λ_=>⟨vb cR,u⟩))
 rintro _ _ ⟨rfl,u⟩ _;refine⟨vb ?_,u.drop.aF⟩;rw[<- ER,U];simp
variable (w:World) (K:Value->hM)
def S220(Z a:Value):Prop:=
 fA 36 a 0 λb=>lA 31 b w λc=>lN 31 c λd=>jC (λI e f=>∀_:Env,
 bA .lss 3 e d λg=>cV g (iA 31 c e λh=>lA 32 h f λj=>lN 32 j λk=>jC (λM l n=>∀_:Env,
 bA .lss 3 l k λo=>cV o (iA 32 j l λp=>lA 175 p n λq=>aL 175 n λW r=>sA 175 W q r λs=>lA 175 W s λt=>gM hH Z [t,e] s λu v=>dW hH (Op.unary .not u) λx=>
 cV x (K (.tuple #[]) v) (bB .add 3 l (i 1) λy=>M y v)) (bB .add 3 e (i 1) λz=>I z n)) λM=>M (i 0) f) (fA 36 a 1 λaa=>lA 32 aa f λU=>lN 32 U λac=>jC (λG B J=>∀_:Env,
 bA .lss 3 B ac λaf=>cV af (iA 32 U B λag=>lA 175 ag J λah=>aL 175 J λY ai=>sA 175 Y ah ai λO=>lA 175 Y O λak=>fA 36 a 0 λal=>lA 31 al O λam=>
 lN 31 am λan=>bA .add 3 an B λao=>gM hH Z [ak,ao] O λap V=>dW hH (Op.unary .not ap) λar=>cV ar (K (.tuple #[]) V) (bB .add 3 B (i 1) λE=>
 G E V)) (K (.tuple #[]) J)) λG=>G (i 0) f)) (λI=>I (i 0) w)
theorem SQ(B u:Value)(h:S220 w K B u):CR 220 [B,u] w K:=
 lE 48 (λ_=>.nil) 0 [] Tryz.func220 h
def S110(p0:Value):Prop:=
 lW hH (pQ 36 p0) w λp1 a=>fA 36 p1 3 λb=>lA 33 b a λc=>lN 33 c λd=>eo (λB=>fA 36 p1 0 λe=>lA 31 e a λf=>lN 31 f λg=>bB .gtr 3 g (i 4) λh=>
 cV h (B tt a) (fA 36 p1 0 λj=>lA 31 j a λk=>cF 211 [k,(.func (.func 214) #[] #[])] a λl n=>cV l (B tt n) (fA 36 p1 1 λo=>lA 32 o n λp=>lN 32 p λq=>bB .gtr 3 q (i 4) λr=>
 cV r (B tt n) (fA 36 p1 2 λs=>lA 32 s n λt=>lN 32 t λu=>bB .gtr 3 u (i 2) λv=>cV v (B tt n) (bB .eql 3 d (i 0) λx=>cV x (B tt n) (bB .gtr 3 d (i 3) λy=>
 cV y (B tt n) (lA 36 p1 n λz=>cF 111 [z] n λJ I=>cF 212 [J,(.func (.func 215) #[] #[])] I λU E=>cV U (B tt E) (fA 36 p1 5 λV=>lA 34 V E λO=>lN 34 O λM=>
 bB .gtr 3 M (i 4) λG=>B G E)))))))) (λW Y=>∀_:Env,
 K W Y)
theorem SR(p0:Value)(h:S110 w K p0):CR 110 [p0] w K:=
 lE 51 (λ_=>.nil) 4 [.tmp 2] Tryz.func110 h
def S112(E U:Value):Prop:=
 jC (λG B a=>∀_:Env,
 lN 112 E λb=>bA .lss 3 B b λc=>cV c (iA 112 E B λd=>lA 220 d a λe=>aL 220 a λf g=>sA 220 f e g λh=>bB .add 3 B (i 1) λj=>fA 220 f 6 λk=>lA 3 k h λl=>
 bA .add 3 j l λn=>fA 220 f 7 λo=>lA 3 o h λp=>bA .add 3 n p λq=>eo (λM=>fA 220 f 0 λr=>lA 3 r h λs=>bB .eql 3 s (i 12) λt=>cV t (fA 220 f 5 λu=>
 lA 3 u h λv=>bA .mul 3 U v λx=>M x h) (M U h)) (λO y=>∀_:Env,
 bB .gtr 3 O (i 64) λz=>cV z (fA 220 f 8 λY=>lA 3 Y y λW=>K (.tuple #[W,tt]) y) (bB .add 3 B (i 1) λac=>dW hH (mA 112 E (some ac) (some q) none) λad=>
 cF 112 [ad,O] y λJ I=>xT J 0 λZ=>xT J 1 λV=>cV V (K (.tuple #[Z,tt]) I) (G q I)))) (K (.tuple #[(i 0),ff]) a)) (λG=>G (i 0) w)
theorem SS(B u:Value)(h:S112 w K B u):CR 112 [B,u] w K:=
 lE 53 (λ_=>.nil) 48 [.tmp 4,.tmp 5] Tryz.func112 h
theorem Jh:PL 116:=dF Tryz.func116
theorem Ji:PL 220:=dF Tryz.func220
theorem ah0:PL 51:=dF Tryz.func51
theorem OC:PL 55:=dF Tryz.func55
theorem acD:PL 53:=dF Tryz.func53
theorem ah1:PL 52:=dF Tryz.func52
theorem ah2:PL 56:=dF Tryz.func56
theorem Bb:PL 146:=dF Tryz.func146
theorem Jj:PL 111:=dF Tryz.func111
theorem acE:PL 110:=dF Tryz.func110
theorem acF:PL 214:=dF Tryz.func214
theorem acG:PL 215:=dF Tryz.func215
theorem VE:PL 112:=dF Tryz.func112
theorem acH:PL 216:=dF Tryz.func216
theorem acI:PL 301:=dF Tryz.func301
end Go.Proofs.YtdncbeepkacgbaaGreatDoor
namespace Go.Fw
section
variable {α:Type}[Flat α] {P:Program}{w w0:World}{A:Nat->Prop}{L:List HP}
theorem ES{T E M G R:Nat}{kn O:IntKind}{K:Value->hM}(hs:St w0 A L w)(ht:Rd P T E (lx α) M)(hk:P.underlying G=some (.int kn))(h1:1<=lx α)(n:Nat)(V:0<n)(U:n<=1048576)(Wn:M<=8192)
  (k:∀b cap w',n<=cap->St w0 A (bH (.slice (some ⟨b,0,none⟩) 0 cap) ([]:List α)::L) w'->K (.slice (some ⟨b,0,none⟩) n cap) w'):lW P (Builtin.append_ #[T,G] R [.slice none 0 0,.int O (n:Int)].toArray) w K:=by
 obtain⟨Z,u,hi,mB,td,B⟩:=eA ht
 obtain⟨z,Y,J⟩:∃z,u.zero=some z/\z.cells.size=lx α:=by
  cases h:u.zero with
  | none=>rw[h]at B;cases B
  | some z=>rw[h]at B;exact⟨z,rfl,by simpa using B⟩
 have I:n*u.bytes<=281474976710656:=by
  have:=Nat.mul_le_mul U (show u.bytes<=8192 by omega)
  omega
 have W:=Lib.run_append_nil_zeros (P:=P) w T G R E u z O kn Z hk hi Y n V bP bP I
 have RV:=grownCap_ge w n 0 E
 refine⟨_,_,W,k _ _ _ bP ?_⟩
 refine hs.drew.new (F:=(· = w.heap.size)) (Ext.alloc _ _) (.inr ⟨_,_,(Builtin.zeroCells z.cells n++Builtin.zeroCells z.cells (grownCap w n 0 E-n)).toList,rfl,?_,?_,λ_=>Iff.rfl⟩) λb hb=>CJ hb.symm
 .exact⟨E,by rw[show flat ([]:List α)=[]from rfl,sk,Array.toArray_toList];exact jQ _ _⟩
 refine⟨mr _,CJ (Eq.symm ?_)⟩
 show([]++_).length=_
 rw[sk,Array.length_toList,Array.size_append,size_zeroCells,size_zeroCells,J,<- Nat.add_mul]
 congr 1;omega
theorem ET{T E sz u R n c:Nat}{z:Option Nat}{a:Option Addr}{K:Value->Prop}(ht:dV P T=some (E,sz,u,z))(k:K (hU (c:Int))):dW P (Builtin.cap_ #[T] R [Value.slice a n c].toArray) K:=by
 obtain⟨B,_⟩:=eA ht
 refine⟨_,?_,k⟩
 unfold Builtin.cap_
 simp[bT,bR B]
 rfl
theorem EU{T E sz u n c:Nat}{z:Option Nat}{a:Option Addr}{K:Value->Prop}(ht:dV P T=some (E,sz,u,z))(B:a.map (·.add (0*sz))=a)(k:K (.slice a 0 c)):dW P (mA T (.slice a n c) none (some (hU 0)) none) K:=by
 refine⟨_,qQ ht (ko (.inl ⟨rfl,rfl⟩) (.inr ⟨0,rfl,Int.le_refl _,rfl⟩) (oq _) (mr _)),?_⟩
 grind
end
end Go.Fw
namespace Go.Proofs.YtdncbeepkacgbaaGreatDoor
open Go.Fw
theorem rE{α:Type}{ls:List (List α)}{k:Nat}{l:List α}(h:ls[k]?=some l):(ls.take (k+1)).flatten=(ls.take k).flatten++l:=by
 rw[<- gw h];simp
def Cx{α:Type}(ls:List (List α))(k:Nat):(ls.take k).flatten.length<=ls.flatten.length:=by
 conv=>rhs;rw[<- ob k ls,List.flatten_append,kC]
 omega
def VG{α:Type}[Flat α](w:World):dy (λ_=>True) w (.slice none 0 0) ([]:List α):=⟨none,0,rfl,mr _,.inl ⟨rfl,rfl⟩⟩
def C301(n:Nat)(w:World)(I:n<=1048576):CR 301 [.slice none 0 0,hU (n:Int)] w (λv w'=>mG (bH v ([]:List bU)) w w'):=by
 have u:=St.start w;refine eT Tryz.func301 ?_;refine⟨λw'=>w'=w,aS (aC (λc=>absurd c bP) λ_=>rfl),?_⟩;rintro B G _;subst G;refine⟨λE w'=>St B bF [bH E ([]:List bU)] w',?_,?_⟩
 .refine ET kK (aI kK (VG (α:=bU) B) (fo ew (fo (by simp;omega) (dL (aC (λc=>?_) λ_=>u.eF)))));refine ET kK (EU kK rfl ?_);have e:(n:Int)-(((0:Nat):Int)-(([]:List bU).length:Int))=(n:Int):=ew
  rw[e]at c |-;exact ES (α:=bU) (kn:=.i64) u kK (by kernel_rfl) ea n bP I ea (λ_ _ _ _ u=>aI kK (VG (α:=bU) B) (EU kK (by simp[Addr.add]) u))
 rintro v _ u _;exact u.fresh
def C216(lv:Value)(B:List (List bU))(w:World)(Z:ahk w lv B)(hn:B.length<=1000)(hf:B.flatten.length<=100000):CR 216 [lv] w (λv w'=>mG (bH v B.flatten) w w'):=by
 obtain⟨G,O,hl,Y⟩:=Z;have u:=St.start w;refine eT Tryz.func216 ?_;refine aI D0 (O.ext u.aF) ?_;refine⟨λm y x U=>∃k:Nat,y=hU ((B.take k).flatten.length:Int)/\x=hU (k:Int)/\m=G.length-k/\k<=G.length/\St w bF [] U,⟨_,0,rfl,rfl,rfl,mr _,u⟩,?_⟩;rintro m _ _ U ⟨k,rfl,rfl,rfl,hk,u⟩ _;refine aS (aC (λc=>?_) λc=>?_)
 .obtain⟨s,M⟩:=gx G (i:=(k:Int).toNat) bP;obtain⟨t,J⟩:=gx B (i:=k) bP;have V:=Y k s t M J;have E:=Cx B (k+1);have I:=rE J;rw[I,kC]at E;refine⟨λjv w'=>jv=hU ((B.take (k+1)).flatten.length:Int)/\St w bF [] w',aZ D0 O bP M (λ_ W=>aE pO (W.ext u.aF) (aI kK (V.ext u.aF) (aK bP (aS (aC (λc=>absurd c bP) λ_=>⟨gj (mj .i64) (by rw[I,kC];omega),u⟩))))),?_⟩;rintro _ _ ⟨rfl,u⟩ _;exact aK bP ⟨_,bP,k+1,rfl,rfl,rfl,bP,u⟩
 have qq:B.take k=B:=kE bP;rw[qq];refine fZ acI u (C301 _ _ bP) (λx24 _ dw u=>aI D0 (O.ext u.aF) ?_);refine⟨λm v x U=>∃k:Nat,x=hU (k:Int)/\m=G.length-k/\k<=G.length/\St w bF [bH v ((B.take k).flatten)] U,⟨_,0,rfl,rfl,mr _,u⟩,?_⟩;rintro m v _ _ ⟨k,rfl,rfl,hk,u⟩ _;refine aS (aC (λc=>?_) λc=>?_)
 .obtain⟨s,M⟩:=gx G (i:=(k:Int).toNat) bP;obtain⟨t,J⟩:=gx B (i:=k) bP;have V:=Y k s t M J;have E:=Cx B (k+1);have I:=rE J;rw[I,kC]at E;exact aZ D0 O bP M (λ_ W=>aE pO (W.ext u.aF) (cO u kK (V.ext u.aF) bP ea λ_ _ u=>aK bP ⟨_,bP,k+1,rfl,rfl,bP,by rw[I];exact u⟩))
 rw[show B.take k=B from kE bP]at u;exact u.fresh
def W5{w:World}{a b:SV}{x y:List bU}(h1:dy (λ_=>True) w (ia a) x)(h2:dy (λ_=>True) w (ia b) y):∀(i:Nat) (s:SV) (t:List bU),[a,b][i]?=some s->[x,y][i]?=some t->dy (λ_=>True) w (ia s) t:=by
 grind
def C111(p:bQ)(pv:cA)(B E:List bU)(w:World)(U:l2 w pv p)(h3:dy (λ_=>True) w (ia pv.threads) B)(h4:dy (λ_=>True) w (ia pv.recover) E)(I:B.length<=500)(V:E.length<=500):CR 111 [ia pv] w (λv w'=>mG (bH v (B++E)) w w'):=by
 obtain⟨cK,dC,W,M,O,cI,rfl,eP,gd,fR,eK,eY,Y⟩:=U;have u:=St.start w;refine eT Tryz.func111 ?_;refine bY u (λCw _ u=>aA pP (aB pO u.hb rfl (aA r9 (aB pO u.hb rfl (bK ([M,O]) u D0 rfl rfl (dP rfl) λJ _ u=>fZ acH u (C216 _ [B,E] _ ⟨_,u.eU,rfl,W5 (h3.ext u.aF) (h4.ext u.aF)⟩ ew (by simp;omega)) λZ _ dw u=>?_)))));have G:=u.p1.drop.p1.drop;rw[show [B,E].flatten=B++E from ew]at G;exact G.fresh
def W6(p:bQ):(decide (4<(p.lines.length:Int))||p.lines.any (λl=>decide (4<(l.length:Int)))||decide (4<(p.iN.length:Int))||decide (2<(p.eX.length:Int))||decide ((p.threads.length:Int)=0)||decide (3<(p.threads.length:Int))||(ij p).any (λt=>decide (4<(t.dJ.length:Int)))||decide (4<(p.ef.length:Int)))=sG p:=by
 unfold sG
 grind
def Jk{p:bQ}(h:∀l∈p.lines,l.length<=500)(u:p.lines.length<=500)(k:Nat):(p.lines.take k).flatten.length<=250000:=by
 have h1:=Cx p.lines k
 have h2:=cM h
 omega
def C146(B:Value)(ns:List ByteArray)(s:ByteArray)(w:World)(E:dy (λ_=>True) w B ns)(G:ns.length<=1048576):CR 146 [B,.string s] w (λv w'=>v=hU (cT ns s)/\Ext w w'):=by
 have u:=St.start w;refine eT Tryz.func146 ?_;exact aR NT u (C233 _ _ _ _ (E.ext u.aF) bP) (λ_ _ u=>⟨rfl,u.aF⟩)
def C55(p:bQ)(pv:cA)(w:World)(hp:l2 w pv p)(E:PZ p):CR 55 [ia pv] w (λv w'=>v=hU (ee p)/\Ext w w'):=by
 obtain⟨cK,dC,cZ,cB,cD,cI,rfl,eP,gd,fR,eK,eY,fF⟩:=hp;have u:=St.start w;refine eT Tryz.func55 ?_;refine bY u (λCw Z u=>aA mN (aB yx u.hb rfl ?_));obtain⟨W,G,B⟩:=eP.open;have Y:=B.1;refine aI yy (G.ext u.aF) ?_;refine⟨λm y x Z=>∃k:Nat,y=hU (((p.lines.take k).flatten.length:Nat):Int)/\x=hU (k:Int)/\m=p.lines.length-k/\k<=p.lines.length/\St w bF [bM Cw (iW (⟨cK,dC,cZ,cB,cD,cI⟩:cA))] Z,⟨_,0,rfl,rfl,rfl,bP,u⟩,?_⟩
 rintro m _ _ _ ⟨k,rfl,rfl,rfl,hk,u⟩ _;have ZS:=Jk E.line E.lines k;have O:=Jk E.line E.lines (k+1);have hzl:=E.lines;refine aS (aC (λgG=>?_) λgG=>?_)
 .obtain⟨Bc,rF⟩:=gx W (i:=(k:Int).toNat) bP;obtain⟨I,M⟩:=gx p.lines (i:=(k:Int).toNat) bP;have U:DL w (ia Bc) I:=B.2 _ _ _ rF M;refine aZ yy G bP rF (λ_ zb=>?_);have V:=rE (k:=k) M;rw[V,kC]at O;refine aE sE (zb.ext u.aF) ?_;have J:=DL.flat U;exact aI nR (J.ext u.aF) (aK bP (aK bP ⟨_,bP,k+1,gj (mj .i64) (by rw[rE (k:=k) M,kC];omega),rfl,rfl,bP,u⟩))
 rw[kE bP];exact⟨rfl,u.drop.aF⟩
def C52(p:bQ)(pv:cA)(w:World)(Y:l2 w pv p)(hz:PZ p):CR 52 [ia pv] w (λv w'=>mG (bH v (cS p)) w w'):=by
 obtain⟨cK,dC,O,M,U,cI,rfl,eP,gd,fR,eK,eY,fF⟩:=Y;have u:=St.start w;refine eT Tryz.func52 ?_;refine bY u (λW I u=>aA r8 (aB sE u.hb rfl ?_));have B:=DL.flat fR;refine aI nR (B.ext u.aF) ?_;refine⟨λm y x I=>∃k:Nat,x=hU (k:Int)/\m=p.eX.length-k/\k<=p.eX.length/\St w bF [bH y ((p.eX.take k).map bO.name),bM W (iW (⟨cK,dC,O,M,U,cI⟩:cA))] I,⟨_,0,rfl,rfl,bP,u.eF (α:=ByteArray)⟩,?_⟩;rintro m EJ _ _ ⟨k,rfl,rfl,hk,u⟩ _
 have UT:((p.eX.take k).map bO.name).length=k:=by rw[nQ,ml];omega
 have Z:=hz.eX;refine aS (aC (λV=>?_) λV=>?_)
 .obtain⟨E,J⟩:=gx p.eX (i:=(k:Int).toNat) bP;refine aZ nR B bP J (λ_ zb=>aE jS (zb.ext u.aF) (aM u lR λSW _ u=>aH (x:=E) u jS rfl rfl λ_ u=>aA m9 (aB (v:=.string E.name) j3 u.hb rfl (bK ([E.name]) u iR rfl rfl (dP rfl) λG _ u=>?_))));have W7:=u.eU;exact cO u.p2 iR W7 (by simp<;>omega) ea (λ_ _ u=>have u:=u.p1.drop;aK bP (have u:=u.p1.drop.p1.p1;⟨_,bP,k+1,rfl,rfl,bP,by rw[<- nq (k:=k) J];exact u⟩))
 have u:=u.p1.drop;rw[kE bP]at u;exact u.fresh
def C214(lv:Value)(xs:List bO)(w:World)(B:dy (λ_=>True) w lv xs)(E:xs.length<=1048576):CR 214 [lv] w (λv w'=>v=.bool (decide (4<(xs.length:Int)))/\Ext w w'):=by
 have u:=St.start w;refine eT Tryz.func214 ?_;exact aI nR (B.ext u.aF) (dL ⟨rfl,u.aF⟩)
def C215(t:bW)(E:bU)(w:World)(ht:l2 w E t)(U:t.dJ.length<=500):CR 215 [ia E] w (λv w'=>v=.bool (decide (4<(t.dJ.length:Int)))/\Ext w w'):=by
 obtain⟨O,J,rfl,G,M⟩:=ht;have u:=St.start w;refine eT Tryz.func215 ?_;refine bY u (λI _ u=>aA m7 (aB lX u.hb rfl ?_));have B:=DL.flat G;exact aI iR (B.ext u.aF) (dL ⟨rfl,u.drop.aF⟩)
def C110(p:bQ)(pv:cA)(w:World)(E:l2 w pv p)(B:PZ p):CR 110 [ia pv] w (λv w'=>v=.bool (sG p)/\Ext w w'):=by
 obtain⟨cK,dC,cZ,cB,cD,cI,rfl,U,gd,fR,eK,eY,fF⟩:=E;have u:=St.start w;refine SR _ _ _ ?_;unfold S110;refine bY u (λCw G u=>?_);have Rl:=B.lines;have ZQ:=B.iN;have hz3:=B.eX;have hz4:=B.threads;have hz5:=B.ef;obtain⟨rD,OA,OB⟩:=eK.open;obtain⟨vx,GZ,Rk⟩:=eY.open;have Rj:=OB.1;have hn4:=Rk.1;have aia:=Jb B.toPS;refine aA pP (aB pO u.hb rfl ?_);obtain⟨ts19,Y,V⟩:=eK.open;have hn19:=V.1;refine aI kK (Y.ext u.aF) ⟨λjv w'=>jv=.bool (decide (4<(p.lines.length:Int))||p.lines.any (λl=>decide (4<(l.length:Int)))||decide (4<(p.iN.length:Int))||decide (2<(p.eX.length:Int))||decide ((p.threads.length:Int)=0)||decide (3<(p.threads.length:Int))||(ij p).any (λt=>decide (4<(t.dJ.length:Int)))||decide (4<(p.ef.length:Int)))/\St w bF [bM Cw (iW (⟨cK,dC,cZ,cB,cD,cI⟩:cA))] w',?_,?_⟩
 .refine aA mN (aB yx u.hb rfl ?_);obtain⟨ts20,aid,aie⟩:=U.open;have hn20:=aie.1;refine aI yy (aid.ext u.aF) (dL (aC (λ_=>⟨vb cR,u⟩) λlu=>aA mN (aB yx u.hb rfl (aR Vy u (C211 _ _ _ (λl=>l.length<=1048576) _ _ (U.ext u.aF) ⟨214,[],[],rfl,acF,λ_ y G _ M E=>C214 _ y G (DL.flat M) E⟩ (λl hl=>by have:=B.line l hl;omega) (by have:=B.lines;omega)) λ_ he u=>bD (λ_=>⟨vb cR,u⟩) λuN=>aA uj (aB sE u.hb rfl ?_)))));have J:=DL.flat gd;refine aI nR (J.ext u.aF) (dL (aC (λ_=>⟨vb cR,u⟩) λph=>aA r8 (aB sE u.hb rfl ?_)))
  have Z:=DL.flat fR;refine aI nR (Z.ext u.aF) (dL (aC (λ_=>⟨vb cR,u⟩) λO=>aG (aC (λ_=>⟨vb cR,u⟩) λxc=>dL (aC (λ_=>⟨vb cR,u⟩) λuR=>aE fW u.At (dX Jj (C111 p _ rD vx _ ⟨cK,dC,cZ,cB,cD,cI,rfl,(U.ext u.aF),(gd.ext u.aF),(fR.ext u.aF),(eK.ext u.aF),(eY.ext u.aF),(fF.ext u.aF)⟩ (OA.ext u.aF) (GZ.ext u.aF) (by have:=B.threads;omega) (by have:=B.recover;omega)) ?_)))));rintro x41 _ dw;have u:=u.made dw;have W8:DL _ _ (ij p):=DL.of u.eU ((OB.append Rk).ext u.aF)
  refine aR Oq u (C212 _ _ _ (λt=>t.dJ.length<=500) _ _ W8 ⟨215,[],[],rfl,acG,λsv y G _ M E=>C215 y sv G M E⟩ (λ_ ht=>(B.so ht).2.1) bP) (λ_ he u=>bD (λ_=>have u:=u.drop;⟨vb cR,u⟩) λwZ=>aA sc (aB DU u.p1.hb rfl ?_));obtain⟨ts23,W,I⟩:=fF.open;have hn23:=I.1;exact aI B4 (W.ext u.aF) (dL (have u:=u.drop;⟨vb cR,u⟩))
 rintro _ _ ⟨rfl,u⟩ _;exact⟨vb (W6 p),u.drop.aF⟩
theorem pV(x:bE)(a b r:Bk)(n:Int):kW (.cons x a b r) n=(decide (64<pw x n)||(kW a (pw x n)||kW b (pw x n))||kW r n):=rfl
def SX{xs:List bE}{k:Nat}{x:bE}{a b r:Bk}(h:xs.drop k=(Bk.cons x a b r).flat)(u:(Bk.cons x a b r).str){hi lo:Int}(h1:hi=k+1+x.body+x.eH)(h2:lo=k+1):(xs.take hi.toNat).drop lo.toNat=(a.app b).flat:=by
 have B:=u
 obtain⟨E,G,_⟩:=B
 have e:=Bk.DB u (hi:=1+x.body+x.eH) (lo:=1) rfl rfl
 rw[<- e,<- h,List.take_drop,qv]
 grind
def OD{xs:List bE}{k:Nat}{x:bE}{a b r:Bk}(h:xs.drop k=(Bk.cons x a b r).flat)(u:(Bk.cons x a b r).str):xs.drop (k+1+a.len+b.len)=r.flat:=by
 have B:=u
 obtain⟨E,G,_⟩:=B
 rw[<- Bk.acp u (hi:=1+x.body+x.eH) rfl,<- h,qv]
 grind
def OE{α:Type}{xs l:List α}{k:Nat}{x:α}(h:xs.drop k=x::l):xs[k]?=some x:=by
 have:=gj (λl=>l[0]?) h
 grind
theorem C112(lv:Value)(t:Bk)(n:Int)(N:Nat)(w:World)(hL:DL w lv t.flat)(gn:t.str)(hq:∀x∈t.flat,0<=x.at_/\(x.kind=12->1<=x.n/\x.n<=8))(hn:1<=n/\n<=64)(hl:t.len<=1048576)(hN:t.len<N):CR 112 [lv,hU n] w (λv w'=>∃a:Int,v=.tuple #[hU a,.bool (kW t n)]/\Ext w w'):=by
 have Gl:=t.cM;have B:=St.start w;refine SS _ _ _ _ ?_;unfold S112;refine⟨λm y w1=>∃(k:Nat) (u:Bk),y=hU (k:Int)/\m=t.len-k/\t.flat.drop k=u.flat/\k+u.len=t.len/\u.str/\(∀x∈u.flat,0<=x.at_/\(x.kind=12->1<=x.n/\x.n<=8))/\kW t n=kW u n/\St w bF [] w1,⟨_,0,t,rfl,rfl,rfl,bP,gn,hq,rfl,B⟩,?_⟩;rintro m _ w1 ⟨k,u,rfl,rfl,W,J,SU,I,G,B⟩ _;obtain⟨ail,V,Xa⟩:=hL.open;have hn24:=Xa.1;refine aI fX (V.ext B.aF) (aS (aC (λj1=>?_) λj1=>?_))
 .obtain⟨x,a,b,r,rfl⟩:=Bk.Jc (t:=u) (by rw[Bk.cM];omega);obtain⟨yW,j8⟩:=gx ail (i:=(k:Int).toNat) bP;obtain⟨E,OG⟩:=gx t.flat (i:=(k:Int).toNat) bP;obtain⟨Jl,Jm,rfl,afB,afC⟩:=Xa.2 _ _ _ j8 OG;refine aZ fX V bP j8 (λ_ Ei=>?_);obtain rfl:E=x:=Option.some.inj (OG.symm.trans (OE W));have M:=I E (by simp[Bk.flat]);have Y:=SU;obtain⟨Bd,Df,Mk,hg4,hga,hgb,hgr⟩:=Y;have OH:k+(a.len+b.len+r.len+1)=t.len:=J;have SZ:=a.cM;have VA:=b.cM;have hlr:=r.cM;have tS:=SX W SU (hi:=(k:Int)+1+E.body+E.eH) (lo:=(k:Int)+1) rfl rfl
  have aio:=OD W SU;refine aE ep (Ei.ext B.aF) (aM B jy λAo _ B=>have B:=B.enc (cs':=iW (⟨0,(hZ #[]),(hZ #[]),bZ,bZ,0,0,0,0⟩:aW)) rfl;aH (x:=(⟨E.kind,E.eQ,E.name,Jl,Jm,E.n,E.body,E.eH,E.at_⟩:aW)) B ep rfl rfl λ_ B=>aK bP (aA jV (aB (v:=hU E.body) bL B.hb rfl (aK bP (aA l6 (aB (v:=hU E.eH) bL B.hb rfl (aK bP ⟨λjv w'=>∃m:Int,jv=hU m/\m=pw E n/\St w bF [bM Ao (iW (⟨E.kind,E.eQ,E.name,Jl,Jm,E.n,E.body,E.eH,E.at_⟩:aW))] w',aA fy (aB (v:=hU E.kind) bL B.hb rfl (aG (aC (λoc=>aA l5 (aB (v:=hU E.n) bL B.hb rfl (IC (by have Xb:=M.2 oc;have h1:=H4 (a:=1) (b:=1) hn.1 Xb.1 bP bP;have h2:=H4 (c:=64) (d:=8) hn.2 Xb.2 bP bP;omega) ⟨_,rfl,by grind[pw],B⟩))) λ_=>⟨_,rfl,by grind[pw],B⟩))),?_⟩)))))))
  rintro _ _ ⟨m,rfl,O,B⟩ _;have hm8:=W3 hn M.2 O;refine dL (aC (λuR=>?_) λuR=>?_)
  .refine aA q7 (aB (v:=hU E.at_) bL B.hb rfl ?_);refine⟨E.at_,?_,B.drop.aF⟩;rw[G,pV,<- O,fj (show(64:Int)<m by omega)];rfl
  refine aK bP (vK fX (V.ext B.aF) bP bP bP λacO G8=>?_);have Cz:=DL.cut G8 V Xa;refine dX VE (C112 _ (a.app b) m (N-1) _ (by have h:=(Cz.ext B.aF);rw[tS]at h;exact h) (Bk.SF hga hgb) (λy U=>I y (by rw[Bk.zh]at U;simp only[Bk.flat,oS,pJ];rcases pJ.1 U with h|h<;>simp[h])) bP (by rw[Jd];omega) (by rw[Jd];omega)) ?_;rintro _ _ ⟨a1,rfl,he⟩;have B:=B.ext he;rw[Lb];refine aJ rfl (aJ rfl (bD (λZ=>?_) λZ=>⟨_,bP,k+1+a.len+b.len,r,gj (mj .i64) bP,rfl,aio,bP,hgr,(λy U=>I y (by simp[Bk.flat,U])),by rw[G,pV,<- O,ga (show ¬ (64:Int)<m by omega),Z];rfl,B.drop⟩))
  refine⟨a1,?_,B.drop.aF⟩;rw[G,pV,<- O,Z];simp
 cases u with
 | nil=>exact⟨_,by rw[G];rfl,B.aF⟩
 | cons x a b r=>exact absurd J (by show ¬ k+(a.len+b.len+r.len+1)=_;omega)
termination_by N
decreasing_by all_goals omega
def G9:Int->List (List bO)->List (bO×Int)
 | _,[]=>[]
 | k,l::r=>l.map (λc=>(c,k))++G9 (k+1) r
def FY:Int->List bO->List (bO×Int)
 | _,[]=>[]
 | k,c::r=>(c,k)::FY (k+1) r
def oM(p:bQ):List (bO×Int):=G9 0 p.lines++FY p.lines.length p.iN
theorem CA:∀(ls:List (List bO)) (k:Int),(G9 k ls).length=ls.flatten.length
 | [],_=>rfl
 | l::r,k=>by simp[G9,CA r]
theorem S0:∀(vs:List bO) (k:Int),(FY k vs).length=vs.length
 | [],_=>rfl
 | c::r,k=>by simp[FY,S0 r]
theorem CB:∀(ls:List (List bO)) (k:Int),(G9 k ls).map P4=ls.flatten
 | [],_=>rfl
 | l::r,k=>by simp[G9,CB r,Function.comp_def]
theorem CC:∀(vs:List bO) (k:Int),(FY k vs).map P4=vs
 | [],_=>rfl
 | c::r,k=>by simp[FY,CC r]
theorem OI{l:List bO}{c:bO}{j:Nat}(u:l[j]?=some c):∀(ls:List (List bO)) (k:Int) (i:Nat),ls[i]?=some l->(G9 k ls)[(ls.take i).flatten.length+j]?=some (c,k+i)
 | [],_,_,h=>by simp at h
 | a::r,k,0,h=>by
  grind[G9]
 | a::r,k,i+1,h=>by
  have B:=OI u r (k+1) i cR
  grind[G9]
theorem OJ:∀(vs:List bO) (k:Int) (j:Nat) (c:bO),vs[j]?=some c->(FY k vs)[j]?=some (c,k+j)
 | [],_,_,_,h=>by simp at h
 | a::r,k,0,c,h=>by simp at h;subst h;simp[FY]
 | a::r,k,j+1,c,h=>by
  have u:=OJ r (k+1) j c cR
  grind[FY]
theorem u7(p:bQ):(oM p).map P4=jd p:=by unfold oM jd;rw[rh,CB,CC]
theorem py(p:bQ):(oM p).length=(jd p).length:=by rw[<- u7,nQ]
def Le{p:bQ}{l:List bO}{c:bO}{i j:Nat}(B:p.lines[i]?=some l)(u:l[j]?=some c):(oM p)[(p.lines.take i).flatten.length+j]?=some (c,(i:Int)):=by
 have h:=OI u p.lines 0 i B
 unfold oM
 grind
def OK{p:bQ}{c:bO}{j:Nat}(u:p.iN[j]?=some c):(oM p)[p.lines.flatten.length+j]?=some (c,(p.lines.length:Int)+j):=by
 unfold oM
 rw[o1 (by rw[CA];omega),CA,wM,OJ _ _ _ _ u]
def C220(y:Value)(b:Nat)(g0 g1:SV)(p:bQ)(J:Nat->hM)(Jx:hM)(w0 w:World)(hz:PS p)(hL:DL w0 (ia g0) p.lines)(hV:dy (λ_=>True) w0 (ia g1) p.iN)
  (I:∀k W,J k W->Cell W b 0 (ia g0)/\Cell W b 1 (ia g1)/\Ext w0 W) (OL:∀k W M,J k W->Ext W M->J k M) (h0:J 0 w)
  (hy:∀k c i W,(oM p)[k]?=some (c,i)->J k W->gM hH y [ia c,hU i] W λv M=>(v=.bool true/\J (k+1) M)\/(v=.bool false/\Jx M)) :
  CR 220 [y,.pointer (some ⟨b,0,none⟩)] w (λ_ W=>J (oM p).length W\/Jx W):=by
 obtain⟨ts,hR,hD⟩:=hL.open;have hn:=hD.1;have hzl:=hz.lines;have hzv:=hz.iN;refine SQ _ _ _ _ ?_;unfold S220;obtain⟨Af,xG,he0⟩:=I 0 w h0;refine aA mN (cE yx Af (aI yy (hR.ext he0) ?_));refine⟨λm x E=>∃i:Nat,x=hU (i:Int)/\m=p.lines.length-i/\i<=p.lines.length/\J ((p.lines.take i).flatten.length) E,⟨_,0,rfl,rfl,mr _,h0⟩,?_⟩;rintro m _ E ⟨i,rfl,rfl,hi,B⟩ _;refine aS (aC (λc=>?_) λc=>?_)
 .obtain⟨l,Z⟩:=gx p.lines (i:=i) bP;obtain⟨t,ht⟩:=gx ts (i:=((i:Nat):Int).toNat) bP;have hdt:DL w0 (ia t) l:=hD.2 _ _ _ ht Z;have U:=DL.flat hdt;have Ha:=hz.line l (l0 Z);have Y:=(I _ _ B).2.2;refine aZ yy hR bP ht (λq O=>aE sE (O.ext Y) (aI nR (U.ext Y) ?_));refine⟨λm x E=>∃j:Nat,x=hU (j:Int)/\m=l.length-j/\j<=l.length/\J ((p.lines.take i).flatten.length+j) E,⟨_,0,rfl,rfl,mr _,B⟩,?_⟩;rintro m _ w2 ⟨j,rfl,rfl,Mg,B⟩ _;refine aS (aC (λc=>?_) λ_=>aK bP ⟨_,bP,i+1,rfl,rfl,bP,by rw[rE Z,kC,show l.length=j from bP];exact B⟩)
  obtain⟨x,G⟩:=gx l (i:=((j:Nat):Int).toNat) bP;have V:=(I _ _ B).2.2;have u:=St.start w2;refine aZ nR U bP G (λq O=>aE jS (O.ext V) (aM u lR λb6 _ u=>aH (x:=x) u jS rfl rfl λw4 u=>aE jS u.At ?_));refine gM.mono (hy _ x i w4 (Le Z G) (OL _ _ _ B u.aF)) ?_;rintro v w5 (⟨rfl,FZ⟩|⟨rfl,Ap⟩)
  .exact bJ (et (aK bP ⟨_,bP,j+1,rfl,rfl,bP,FZ⟩))
  exact bJ (gH (.inr Ap))
 rw[show p.lines.take i=p.lines from kE bP]at B;obtain⟨Af,xG,Y⟩:=I _ _ B;refine aA uj (cE sE xG (aI nR (hV.ext Y) ?_));refine⟨λm x E=>∃j:Nat,x=hU (j:Int)/\m=p.iN.length-j/\j<=p.iN.length/\J (p.lines.flatten.length+j) E,⟨_,0,rfl,rfl,mr _,B⟩,?_⟩;rintro m _ w6 ⟨j,rfl,rfl,Mg,B⟩ _;refine aS (aC (λc=>?_) λc=>?_)
 .obtain⟨x,G⟩:=gx p.iN (i:=((j:Nat):Int).toNat) bP;obtain⟨Af,xG,V⟩:=I _ _ B;have u:=St.start w6;refine aZ nR hV bP G (λq O=>aE jS (O.ext V) (aM u lR λb8 _ u=>aH (x:=x) u jS rfl rfl λw8 u=>aE jS u.At (aA mN (cE yx (Af.ext u.aF) (aI yy (hR.ext (V.trans u.aF)) (aK bP ?_))))));rw[hn];refine gM.mono (hy _ x _ w8 (OK G) (OL _ _ _ B u.aF)) ?_;rintro v w9 (⟨rfl,FZ⟩|⟨rfl,Ap⟩)
  .exact bJ (et (aK bP ⟨_,bP,j+1,rfl,rfl,bP,FZ⟩))
  exact bJ (gH (.inr Ap))
 refine .inl ?_;rw[py];unfold jd;rw[kC,show p.iN.length=j from bP];exact B
def C116(pv:cA)(w:World):CR 116 [ia pv] w (λv w'=>∃b,v=.func (.func 220) [].toArray [.pointer (some ⟨b,0,none⟩)].toArray/\mG (bM b (iW pv)) w w'):=by
 have u:=St.start w;refine eT Tryz.func116 ?_;exact bY u (λb _ u=>⟨b,rfl,u.fresh⟩)
def C51(p:bQ)(pv:cA)(w:World)(hp:l2 w pv p)(hz:PZ p):CR 51 [ia pv] w (λv w'=>mG (bH v (cX p)) w w'):=by
 have hac:=rk hz.toPS;have mB:(oM p).length=(jd p).length:=py p;obtain⟨V,U,cZ,Z,cD,cI,rfl,eP,gd,fR,eK,eY,fF⟩:=hp;have u:=St.start w;refine eT Tryz.func51 ?_;refine bY u (λbp _ u=>fq u Wr rfl λb3 _ u=>aE fW u.p1.At (dX Jh (C116 _ _) ?_));rintro _ _ ⟨b,rfl,dw⟩;have u:=(u.made dw).eF (α:=ByteArray)
 refine re (cap:=[.pointer (some ⟨b,0,none⟩)]) (xs:=(oM p).map λq=>[ia q.1,hU q.2]) Ji u
  (λk M=>∃G,M=[bH G (((jd p).take k).map bO.name),bM b (iW (⟨V,U,cZ,Z,cD,cI⟩:cA)),bM b3 [G],bM bp (iW (⟨V,U,cZ,Z,cD,cI⟩:cA))]) (λ_ _=>False) ⟨_,rfl⟩ (by intro x I;obtain⟨q,_,rfl⟩:=nT.1 I;rfl) ?_ ?_ ?_ ?_ ?_ ?_
 .intro y J Jx W hJ OL KI hy;refine(C220 y b V U p J Jx w W hz.toPS eP (DL.flat gd) (λk W E=>?_) OL KI λk c i W I E=>hy k [ia c,hU i] W (by rw[n0,I];rfl) E).mono λ_ _ r=>r.mono λv W' h=>?_
  .obtain⟨Y,M,⟨G,rfl⟩,O⟩:=hJ k W E;exact⟨O.p2.hb.cell rfl,O.p2.hb.cell rfl,O.aF⟩
  simpa using h
 .rintro k args Y1 Y2 B Kr M W E ⟨G,rfl⟩ hB hN hR u;rw[n0]at E;obtain⟨q,hq,rfl⟩:=x7.1 E;have kI:=(jq.1 hq).1;have hc:(jd p)[k]?=some q.1:=by rw[<- u7,n0,hq];rfl
  have UT:(((jd p).take k).map bO.name).length=k:=by rw[nQ,ml];omega
  dsimp only[yp];refine aM u lR (λb4 _ u=>aH (x:=q.1) u jS rfl rfl λ_ u=>?_);refine hB _ _ _ u.p1 (λ_ u=>?_);refine aB lX u.p4.hb rfl (aA m9 (aB (v:=.string q.1.name) j3 u.p1.hb rfl (bK ([bO.name q.1]) u iR rfl rfl (dP rfl) λs8 _ u=>?_)));have hr:=u.eU;refine cO u.p3 iR hr (by rw[UT,nD];omega) ea (λs9 _ u=>aO u.p5 lX (dP rfl) (Co u.eU) λ_ u=>?_);refine hN _ _ ?_ ⟨s9,rfl⟩;rw[<- nq (k:=k) hc];exact u.p2.drop.p3.drop.p3.p2.p3
 .rintro D M W ⟨G,rfl⟩ u;refine aB lX u.p3.hb rfl ?_;refine yJ u (λ_ u=>?_);rw[nQ,mB,Si]at u;exact u.p1.drop.p1.drop.p1.drop.fresh
 .rintro D M W h;exact h.elim
 .rintro id D M W h;exact h.elim
 rintro c M h;exact h.elim
def C56(p:bQ)(pv:cA)(w:World)(hp:l2 w pv p)(hz:PZ p):CR 56 [ia pv] w (λv w'=>mG (bH v (fQ p)) w w'):=by
 have hac:=rk hz.toPS;have mB:(oM p).length=(jd p).length:=py p;obtain⟨V,U,cZ,Z,cD,cI,rfl,eP,gd,fR,eK,eY,fF⟩:=hp;have u:=St.start w;refine eT Tryz.func56 ?_;refine bY u (λbp _ u=>fq u Wo rfl λb3 _ u=>aE fW u.p1.At (dX Jh (C116 _ _) ?_));rintro _ _ ⟨b,rfl,dw⟩;have u:=(u.made dw).eF (α:=Int)
 refine re (cap:=[.pointer (some ⟨b,0,none⟩)]) (xs:=(oM p).map λq=>[ia q.1,hU q.2]) Ji u
  (λk M=>∃G,M=[bH G (((jd p).take k).map bO.n),bM b (iW (⟨V,U,cZ,Z,cD,cI⟩:cA)),bM b3 [G],bM bp (iW (⟨V,U,cZ,Z,cD,cI⟩:cA))]) (λ_ _=>False) ⟨_,rfl⟩ (by intro x I;obtain⟨q,_,rfl⟩:=nT.1 I;rfl) ?_ ?_ ?_ ?_ ?_ ?_
 .intro y J Jx W hJ OL KI hy;refine(C220 y b V U p J Jx w W hz.toPS eP (DL.flat gd) (λk W E=>?_) OL KI λk c i W I E=>hy k [ia c,hU i] W (by rw[n0,I];rfl) E).mono λ_ _ r=>r.mono λv W' h=>?_
  .obtain⟨Y,M,⟨G,rfl⟩,O⟩:=hJ k W E;exact⟨O.p2.hb.cell rfl,O.p2.hb.cell rfl,O.aF⟩
  simpa using h
 .rintro k args Y1 Y2 B Kr M W E ⟨G,rfl⟩ hB hN hR u;rw[n0]at E;obtain⟨q,hq,rfl⟩:=x7.1 E;have kI:=(jq.1 hq).1;have hc:(jd p)[k]?=some q.1:=by rw[<- u7,n0,hq];rfl
  have UT:(((jd p).take k).map bO.n).length=k:=by rw[nQ,ml];omega
  dsimp only[yp];refine aM u lR (λb4 _ u=>aH (x:=q.1) u jS rfl rfl λ_ u=>?_);refine hB _ _ _ u.p1 (λ_ u=>?_);refine aB ek u.p4.hb rfl (aA uy (aB (v:=hU q.1.n) bL u.p1.hb rfl (bK ([bO.n q.1]) u dz rfl rfl (dP rfl) λs8 _ u=>?_)));have hr:=u.eU;refine cO u.p3 dz hr (by rw[UT,nD];omega) ea (λs9 _ u=>aO u.p5 ek (dP rfl) (Co u.eU) λ_ u=>?_);refine hN _ _ ?_ ⟨s9,rfl⟩;rw[<- nq (k:=k) hc];exact u.p2.drop.p3.drop.p3.p2.p3
 .rintro D M W ⟨G,rfl⟩ u;refine aB ek u.p3.hb rfl ?_;refine yJ u (λ_ u=>?_);rw[nQ,mB,Si]at u;exact u.p1.drop.p1.drop.p1.drop.fresh
 .rintro D M W h;exact h.elim
 .rintro id D M W h;exact h.elim
 rintro c M h;exact h.elim
theorem Jn:∀(vs:List bO) (k:Int) (j:Nat) (q:bO×Int),(FY k vs)[j]?=some q->q.2=k+j
 | [],_,_,_,h=>by simp[FY]at h
 | c::r,k,0,q,h=>by simp[FY]at h;grind
 | c::r,k,j+1,q,h=>by
  have:=Jn r (k+1) j q (by simpa[FY]using h)
  omega
theorem EV(vs:List bO):∀(ls:List (List bO)) (i:Int) (a:Nat) (q:bO×Int),(G9 i ls++FY (i+ls.length) vs)[a]?=some q->iJ ls i a=q.2
 | [],i,a,q,h=>by
  have:=Jn vs (i+0) a q (by simpa[G9]using h)
  unfold iJ;omega
 | l::r,i,a,q,h=>by
  unfold iJ
  by_cases u:a<l.length
  .rw[fi bP]
   rw[G9,mv,qi cR,n0]at h
   grind
  .rw[ez bP]
   rw[G9,mv,o1 (by simp;omega),nQ]at h
   have e:(i+((l::r).length:Nat):Int)=i+1+(r.length:Nat):=cR
   rw[e]at h
   have:=EV vs r (i+1) (a-l.length) q h
   grind
theorem OM{p:bQ}{k:Nat}{q:bO×Int}(h:(oM p)[k]?=some q):pq p k=q.2:=by
 have u:=(jq.1 h).1
 rw[py]at u
 unfold pq
 rw[ez bP]
 exact EV p.iN p.lines 0 k q (by unfold oM at h;grind)
def C53(p:bQ)(pv:cA)(c:Int)(w:World)(hp:l2 w pv p)(hz:PZ p):CR 53 [ia pv,hU c] w (λv w'=>v=hU (pq p c)/\Ext w w'):=by
 have hac:=rk hz.toPS;have mB:(oM p).length=(jd p).length:=py p;obtain⟨Z,V,cZ,cB,cD,cI,rfl,eP,gd,fR,eK,eY,fF⟩:=hp;have u:=St.start w;refine eT Tryz.func53 ?_;refine bY u (λbp _ u=>jR u rfl λb3 _ u=>fq u sQ rfl λb4 _ u=>fq u sQ rfl λb5 _ u=>aO u bL (dP rfl) rfl λ_ u=>aE fW u.p3.At (dX Jh (C116 _ _) ?_));rintro _ _ ⟨b,rfl,dw⟩;have u:=u.made dw
 refine re (cap:=[.pointer (some ⟨b,0,none⟩)]) (xs:=(oM p).map λq=>[ia q.1,hU q.2]) Ji u
  (λk M=>(∀j:Nat,j<k->¬ (j:Int)=c)/\M=[bM b (iW (⟨Z,V,cZ,cB,cD,cI⟩:cA)),bM b5 [hU (k:Int)],bM b4 [hU 0],bM b3 [hU c],bM bp (iW (⟨Z,V,cZ,cB,cD,cI⟩:cA))])
  (λcd M=>cd=.ret/\M=[bM b4 [hU (pq p c)]]) ⟨bP,rfl⟩ (by intro x I;obtain⟨q,_,rfl⟩:=nT.1 I;rfl) ?_ ?_ ?_ ?_ ?_ ?_
 .intro y J Jx W hJ OL KI hy;refine(C220 y b Z V p J Jx w W hz.toPS eP (DL.flat gd) (λk W E=>?_) OL KI λk c i W I E=>hy k [ia c,hU i] W (by rw[n0,I];rfl) E).mono λ_ _ r=>r.mono λv W' h=>?_
  .obtain⟨Y,M,⟨_,rfl⟩,U⟩:=hJ k W E;exact⟨U.p1.hb.cell rfl,U.p1.hb.cell rfl,U.aF⟩
  simpa using h
 .rintro k args Y1 Y2 B Kr M W E ⟨G,rfl⟩ hB hN hR u;rw[n0]at E;obtain⟨q,hq,rfl⟩:=x7.1 E;have kI:=(jq.1 hq).1;dsimp only[yp];refine hB _ _ _ u (λ_ u=>?_);refine aB bL u.p2.hb rfl (aB bL u.p4.hb rfl (aG (aC (λO=>?_) λO=>aB bL u.p2.hb rfl (aK bP (aO u.p2 bL (dP rfl) rfl λ_ u=>hN _ _ u.p2.p2.p0 ⟨λj hj=>?_,rfl⟩)))))
  .refine aO u.p3 bL (dP rfl) rfl (λ_ u=>?_);refine hR _ [bM b4 [hU (pq p c)]] _ ?_ ⟨rfl,rfl⟩;rw[<- O,OM hq];exact u.p2.drop.p2.drop.p2.drop.p2.drop.p1
  rcases Nat.lt_or_ge j k with h|h
  .exact G j h
  rw[show j=k from bP];exact O
 .rintro D M W ⟨G,rfl⟩ u;refine aO u.p3 bL (dP rfl) rfl (λ_ u=>?_);refine yJ u.p1 (λ_ u=>?_);refine aB bL u.hb rfl ?_;refine⟨gj (mj .i64) ?_,u.aF⟩;unfold pq;rw[nQ]at G
  rw[fi (by
   rcases Int.lt_or_le c 0 with h|h
   .exact .inl h
   .refine .inr ?_;have:=G c.toNat;omega)]
 .rintro D M W ⟨_,rfl⟩ u;refine yJ u (λ_ u=>?_);exact aB bL u.hb rfl ⟨rfl,u.aF⟩
 .rintro id D M W ⟨h,_⟩;cases h
 rintro c M ⟨h,_⟩;exact .inr h
variable (w:World) (K:Value->hM)
def aiq:dI:=λi=>match i with
 | 22=>.run 0 6
 | _=>.nil
theorem acP:PL 108:=dF Tryz.func108
theorem ON:PL 202:=dF Tryz.func202
end Go.Proofs.YtdncbeepkacgbaaGreatDoor
namespace Go.Fw
open Go.MapKept (Stamped IsKey)
open Go.ChangeMaps (setBlock)
def tB(l:List SI)(k:ByteArray)(v:Int):List SI:=if l.any (λp=>decide (p.1=k))then l.map (λp=>if p.1=k then(k,v)else p)else l++[(k,v)]
theorem Be:∀(l:List SI) (k u:ByteArray) (v:Int),(∀p∈l,p.1≠k)->dG (l++[(k,v)]) u=if k=u then v else dG l u
 | [],k,u,v,_=>rfl
 | p::r,k,u,v,h=>by
  have B:=Be r k u v (λq E=>h q (o5 _ E))
  have G:=h p (oj ..)
  show(if p.1=u then p.2 else dG (r++[(k,v)]) u)=_
  rw[B]
  show _=if k=u then v else(if p.1=u then p.2 else dG r u)
  grind
theorem v9:∀(l:List SI) (k u:ByteArray) (v:Int),l.any (λp=>decide (p.1=k))=true->dG (l.map λp=>if p.1=k then(k,v)else p) u=if k=u then v else dG l u
 | [],_,_,_,h=>by simp at h
 | p::r,k,u,v,h=>by
  rw[Dz]
  by_cases h1:p.1=k
  .rw[fi h1]
   show(if k=u then v else dG (r.map _) u)=if k=u then v else(if p.1=u then p.2 else dG r u)
   by_cases h2:k=u
   .grind
   .rw[ez h2,ez h2,ez λe=>h2 (h1.symm.trans e)]
    by_cases h3:r.any (λp=>decide (p.1=k))=true
    .rw[v9 r k u v h3,ez h2]
    .congr 1
     have:∀q∈r,q.1≠k:=λq B e=>h3 (tP.2 ⟨q,B,fj e⟩)
     conv=>rhs;rw[<- List.map_id r]
     exact vI λq B=>ez (this q B)
  .rw[ez h1]
   have h3:r.any (λp=>decide (p.1=k))=true:=by
    grind
   show(if p.1=u then p.2 else dG (r.map _) u)=if k=u then v else(if p.1=u then p.2 else dG r u)
   rw[v9 r k u v h3]
   grind
theorem wc(l:List SI)(k u:ByteArray)(v:Int):dG (tB l k v) u=if k=u then v else dG l u:=by
 unfold tB
 by_cases h:l.any (λp=>decide (p.1=k))=true
 .rw[fi h,v9 l k u v h]
 rw[ez h,Be l k u v λp B e=>h (tP.2 ⟨p,B,fj e⟩)]
def S1{l:List SI}{k:ByteArray}{v:Int}(h:∀p∈l,p.2≠0)(B:v≠0):∀p∈tB l k v,p.2≠0:=by
 intro p u
 unfold tB at u
 grind
section
variable {P:Program}{w w0 w':World}{A:Nat->Prop}{L:List HP}{b:Nat}{l:List SI}
theorem OO{T M E:TypeId}{v:Int}{k:ByteArray}(h:pk w b l)(ht:P.underlying T=some (.map M E))(O:P.underlying M=some .string) :
  ∃w',(qJ T (.map (some b)) (.string k) (hU v)).run P w=.ok () w'/\fH (· = b) w w'/\pk w' b (tB l k v):=by
 by_cases ej:∀p∈l,p.1≠k
 .have:l.any (λp=>decide (p.1=k))=false:=by
   grind
  unfold tB
  rw[ez cR]
  exact Ez h ht O ej
 have U:l.any (λp=>decide (p.1=k))=true:=by
  grind
 unfold tB
 rw[fi U]
 have kI:=h.lt
 obtain⟨es,c,h1,h2,h3⟩:=h
 have hc:=MapKept.run_checkKey (P:=P) (w:=w) (kt:=M) (k:=.string k) O (by simp[IsKey]) false 9999
 rcases MapKept.findNow_spec (d:=.string) (k:=.string k) (by simp[IsKey]) es.toList 0 (λx G=>by obtain⟨p,_,e,_⟩:=NY h3 G;rw[e];simp[IsKey])with⟨W,g2⟩|⟨j,e,W,g2,g4⟩
 .obtain⟨p,V,he⟩:=tP.1 U
  obtain⟨x,G,e1,_⟩:=NZ h3 V
  grind
 have Z:=MapKept.run_findKey (P:=P) (w:=w) O W
 rw[Nat.zero_add]at Z
 have Y:es[j]?=some e:=cR
 have gn:(FR e.key (.string k)).run P w=.ok (.string k) w:=by
  have qq:(k == k)=true:=by cases k with|mk d=>exact beq_self_eq_true d
  rw[g4];unfold FR;simp[Instr.sameBits,qq]
 refine⟨_,?_,fH.setBlock w b (.map (es.modify j λe=>{e with key:=.string k,val:=hU v}) c),?_⟩
 .simp[qJ,run_underlying ht,MapKept.run_getObj_map h1,hc,Z,kc h1,Result.andThen,Y,gn]
 have De:∀u,es[j]?=some u->({u with key:=.string k,val:=hU v}:MapEntry).key=u.key:=λu B=>by
  grind
 refine⟨_,_,gX _ kI,MapKept.stamped_modify h2 j _ (λ_ _=>rfl) (λu _ B=>De u B),?_⟩
 let g:Value×Value->Value×Value:=λq=>match q.1 with|.string s=>if s=k then(.string k,hU v)else q|_=>q
 have hg:(es.modify j λe=>{e with key:=.string k,val:=hU v}).toList.map (λe=>(e.key,e.val))=(es.toList.map λe=>(e.key,e.val)).map g:=by
  apply List.ext_getElem?
  intro i
  simp only[n0,Array.getElem?_toList,Array.getElem?_modify]
  by_cases J:j=i
  .grind
  .rw[ez J]
   cases G:es[i]? with
   | none=>rfl
   | some x=>
    have Az:x.key≠.string k:=λhxk=>by
     have hi:=(vE.1 G)
     have hj:=(vE.1 Y)
     obtain⟨hi1,Xc⟩:=hi
     obtain⟨hj1,FZ⟩:=hj
     have V:=JK.1 h2.2.2
     grind
    grind
 have hl:(l.map λp=>if p.1=k then(k,v)else p).map I4=(l.map I4).map g:=by
  rw[Cn,Cn]
  refine vI λp _=>?_
  show I4 (if p.1=k then(k,v)else p)=g (I4 p)
  by_cases I:p.1=k
  .rw[fi I];simp[g,I4,I]
  .rw[ez I];simp[g,I4,I]
 grind
theorem OP{T G E:TypeId}{v:Int}{k:ByteArray}{K:hM}(B:St w0 A (Fw.jL b l::L) w)(ht:P.underlying T=some (.map G E))(u:P.underlying G=some .string)
  (J:∀w',St w0 A (Fw.jL b (tB l k v)::L) w'->K w'):Md P (qJ T (.map (some b)) (.string k) (hU v)) w K:=by
 obtain⟨w',h1,h2,h3⟩:=OO (P:=P) (v:=v) (k:=k) B.jL ht u
 exact⟨w',h1,J w' (B.mM λF I=>⟨F,⟨h3,I.2⟩,λb hb=>.inl hb,h2.mono λk u=>(I.2 k).2 u⟩)⟩
end
end Go.Fw
namespace Go.Proofs.YtdncbeepkacgbaaGreatDoor
open Go.Fw
def nx(b3 b4 B u:Nat)(l:List SI)(tw:Bool)(a:Int):HP:=sep (bM b3 [.map (some u)]) (sep (bM b4 [.bool tw]) (sep (bM B [hU a]) (jL u l)))
def nx.shut{w0 w:World}{A:Nat->Prop}{L:List HP}{b3 b4 B u:Nat}{l:List SI}{tw:Bool}{a:Int}(E:St w0 A (jL u l::bM B [hU a]::bM b4 [.bool tw]::bM b3 [.map (some u)]::L) w):St w0 A (nx b3 b4 B u l tw a::L) w:=
 St.join (St.join (St.join E.p1).p1).p1
def nx.open{w0 w:World}{A:Nat->Prop}{L:List HP}{b3 b4 B u:Nat}{l:List SI}{tw:Bool}{a:Int}(E:St w0 A (nx b3 b4 B u l tw a::L) w):St w0 A (jL u l::bM B [hU a]::bM b4 [.bool tw]::bM b3 [.map (some u)]::L) w:=
 E.split.p1.split.p1.split.p1
def atN(l:List SI)(name:ByteArray)(tw:Bool)(place a:Int):Int:=if dG l name≠0/\tw=false then place else a
def S2(l:List SI)(name:ByteArray)(tw:Bool):Bool:=tw||decide (dG l name≠0)
theorem C202(name:ByteArray)(B place:Int)(b3 b4 G E:Nat)(l:List SI)(tw:Bool)(a:Int)(F:Nat->Prop)(w:World)(M:(nx b3 b4 G E l tw a).p w F) :
  CR 202 [.string name,hU B,hU place,.pointer (some ⟨b3,0,none⟩),.pointer (some ⟨b4,0,none⟩),.pointer (some ⟨G,0,none⟩)] w (λv w'=>v=.tuple #[]/\mF F (nx b3 b4 G E (tB l name B) (S2 l name tw) (atN l name tw place a)) w w'):=by
 have u:=nx.open (St.begin M);refine eT Tryz.func202 ?_;refine⟨λw'=>St w F [jL E l,bM G [hU (atN l name tw place a)],bM b4 [.bool (S2 l name tw)],bM b3 [.map (some E)]] w',⟨λO w'=>O=.bool (decide (dG l name≠0)&&!tw)/\w'=w,aB AV u.p3.hb rfl (sn u.jL Tryz.underlying184 Tryz.underlying9 sQ (cC (aC (λc=>aB B3 u.p2.hb rfl (bJ ⟨vb (by rw[fj c,tx]),rfl⟩)) λc=>⟨vb (by rw[ga c,Bool.false_and]),rfl⟩))),?_⟩,?_⟩
 .rintro _ _ ⟨rfl,rfl⟩ _;refine bD (λc=>?_) (λc=>?_)
  .have hc:dG l name≠0/\tw=false:=by simpa using c
   refine aO u.p1 bL (dP rfl) rfl (λ_ u=>aO u.p2 B3 (dP rfl) rfl λ_ u=>?_);have J:atN l name tw place a=place:=fi hc;have I:S2 l name tw=true:=by unfold S2;rw[fj hc.1,Bool.or_true]
   rw[J,I];exact u.p1.p2
  have hc:¬ (dG l name≠0/\tw=false):=by simpa using c
  have J:atN l name tw place a=a:=ez hc
  have I:S2 l name tw=tw:=by
   unfold S2;cases tw with
   | true=>rfl
   | false=>rw[Pn];exact ga λh=>hc ⟨h,rfl⟩
  rw[J,I];exact u
 rintro _ u _;exact aB AV u.p3.hb rfl (OP u Tryz.underlying184 Tryz.underlying9 λ_ u=>⟨rfl,(nx.shut u).mut⟩)
def OQ(st:List SI×Bool×Int)(q:ByteArray×Int×Int):List SI×Bool×Int:=(tB st.1 q.1 q.2.1,S2 st.1 q.1 st.2.1,atN st.1 q.1 st.2.1 q.2.2 st.2.2)
def xe(p:bQ)(i:Int):Int:=if (p.lines.length:Int)<=i then 2 else 1
def Ml(p:bQ):List (ByteArray×Int×Int):=(oM p).map λq=>(q.1.name,xe p q.2,q.1.at_)
def Lf(p:bQ):List (ByteArray×Int×Int):=p.eX.map λc=>(c.name,3,c.at_)
def Mm(p:bQ):List (ByteArray×Int×Int):=p.threads.map λt=>(t.name,4,t.at_)
def tU(l:List (ByteArray×Int×Int))(st:List SI×Bool×Int):List SI×Bool×Int:=l.foldl OQ st
def xf(p:bQ):List SI×Bool×Int:=tU (Mm p) (tU (Lf p) (tU (Ml p) ([],false,0)))
theorem zp{l:List (ByteArray×Int×Int)}{st:List SI×Bool×Int}{k:Nat}{q:ByteArray×Int×Int}(h:l[k]?=some q):tU (l.take (k+1)) st=OQ (tU (l.take k) st) q:=by
 unfold tU;rw[<- gw h,wI];rfl
abbrev NO(b3 b4 u B:Nat)(st:List SI×Bool×Int):HP:=nx b3 b4 u B st.1 st.2.1 st.2.2
def C108(p:bQ)(pv:cA)(w:World)(hp:l2 w pv p)(hz:PZ p):CR 108 [ia pv] w (λv w'=>∃G,v=.tuple #[.map (some G),hU (xf p).2.2,.bool (xf p).2.1]/\mG (jL G (xf p).1) w w'):=by
 have hac:=rk hz.toPS;have mB:(oM p).length=(jd p).length:=py p;have hzl:=hz.lines;have hzk:=hz.eX;have hzt:=hz.threads;obtain⟨O,U,V,Z,cD,cI,rfl,eP,gd,fR,eK,eY,fF⟩:=hp;obtain⟨S5,hR1,hD1⟩:=eP.open;have SL:=hD1.1;obtain⟨rD,OA,OB⟩:=eK.open;have Rj:=OB.1;have hKr:=DL.flat fR;have u:=St.start w;refine qj Tryz.func108 (pl:=aiq) ?_;refine bY u (λbp w1 u=>EA u λG _ u=>fq u IG rfl λb3 _ u=>aO u AV (dP rfl) rfl λ_ u=>fq u sQ rfl λE _ u=>fq u MY rfl λb4 _ u=>aO u B3 (dP rfl) rfl λ_ u=>fq u R8 rfl λb8 _ u=>aO u IH (dP rfl) rfl λ_ u=>aE fW u.p5.At (have u:=nx.shut (a:=0) (tw:=false) u.p3.p2.p3.p4;dX Jh (C116 _ _) ?_))
 rintro _ _ ⟨b,rfl,dw⟩;have u:=u.made dw
 refine re (cap:=[.pointer (some ⟨b,0,none⟩)]) (xs:=(oM p).map λq=>[ia q.1,hU q.2]) Ji u
  (λk M=>M=[bM b (iW (⟨O,U,V,Z,cD,cI⟩:cA)),NO b3 b4 E G (tU ((Ml p).take k) ([],false,0)),bM b8 [(.func (.func 202) [].toArray [.pointer (some ⟨b3,0,none⟩),.pointer (some ⟨b4,0,none⟩),.pointer (some ⟨E,0,none⟩)].toArray)],bM bp (iW (⟨O,U,V,Z,cD,cI⟩:cA))]) (λ_ _=>False) rfl (by intro x hx;obtain⟨q,_,rfl⟩:=nT.1 hx;rfl) ?_ ?_ ?_ ?_ ?_ ?_
 .intro y J Jx W hJ OL KI hy;refine(C220 y b O U p J Jx w W hz.toPS eP (DL.flat gd) (λk W I=>?_) OL KI λk c i W hx I=>hy k [ia c,hU i] W (by rw[n0,hx];rfl) I).mono λ_ _ r=>r.mono λv W' h=>?_
  .obtain⟨Y,M,rfl,hS⟩:=hJ k W I;exact⟨hS.p1.hb.cell rfl,hS.p1.hb.cell rfl,hS.aF⟩
  simpa using h
 .rintro k args Y1 Y2 B Kr M W I rfl hB hN hR u;rw[n0]at I;obtain⟨q,hq,rfl⟩:=x7.1 I;have hc:(Ml p)[k]?=some (q.1.name,xe p q.2,q.1.at_):=by unfold Ml;rw[n0,hq];rfl
  dsimp only[yp];refine aM u lR (λb9 _ u=>aH (x:=q.1) u jS rfl rfl λ_ u=>?_);refine hB _ _ _ u.p1 (λOR u=>?_);refine⟨λjv w'=>jv=hU (xe p q.2)/\w'=OR,aA mN (aB (v:=ia O) yx u.p5.hb rfl (aI yy (hR1.ext u.aF) (cJ (aC (λ_=>⟨gj (mj .i64) (fi bP).symm,rfl⟩) λ_=>⟨gj (mj .i64) (ez bP).symm,rfl⟩)))),?_⟩;rintro _ _ ⟨rfl,rfl⟩ _;refine aB IH u.p4.hb rfl (aA m9 (aB (v:=.string q.1.name) j3 u.p1.hb rfl (aA uz (aB (v:=hU q.1.at_) bL u.p1.hb rfl (y9 (first:=[]) (cap:=[.pointer (some ⟨b3,0,none⟩),.pointer (some ⟨b4,0,none⟩),.pointer (some ⟨E,0,none⟩)]) (H':=λ_=>NO b3 b4 E G (OQ (tU ((Ml p).take k) ([],false,0)) (q.1.name,(xe p q.2),q.1.at_))) (Φ:=λv _=>v=.tuple #[]) ON u.p3 (λF hF _=>C202 q.1.name (xe p q.2) q.1.at_ b3 b4 E G _ _ _ F _ hF) λv _ _ u=>?_)))))
  refine hN _ _ ?_ rfl;rw[zp hc];exact u.p2.drop.p2.p2
 .rintro D M W rfl u;rw[nQ,show(Ml p).take (oM p).length=Ml p from kE (by unfold Ml;rw[nQ];exact oq _)]at u;obtain⟨s0,hs0⟩:∃s,s=tU (Ml p) ([],false,0):=⟨_,rfl⟩;rw[<- hs0]at u;refine aA r8 (aB (v:=ia V) sE u.p4.hb rfl (aI nR (hKr.ext u.aF) ?_));refine⟨λm x w1=>∃k:Nat,x=hU (k:Int)/\m=p.eX.length-k/\k<=p.eX.length/\St w bF [jX D (.deferred (some [])),bM b (iW (⟨O,U,V,Z,cD,cI⟩:cA)),NO b3 b4 E G (tU ((Lf p).take k) s0),bM b8 [(.func (.func 202) [].toArray [.pointer (some ⟨b3,0,none⟩),.pointer (some ⟨b4,0,none⟩),.pointer (some ⟨E,0,none⟩)].toArray)],bM bp (iW (⟨O,U,V,Z,cD,cI⟩:cA))] w1,⟨_,0,rfl,rfl,mr _,(by rw[show tU ((Lf p).take 0) s0=s0 from rfl];exact u)⟩,?_⟩
  rintro m _ _ ⟨k,rfl,rfl,I,u⟩ _;refine aS (aC (λc=>?_) λc=>?_)
  .obtain⟨x,hx⟩:=gx p.eX (i:=((k:Nat):Int).toNat) bP;have hx':p.eX[k]?=some x:=hx;have hc:(Lf p)[k]?=some (x.name,3,x.at_):=by unfold Lf;rw[n0,hx'];rfl
   refine aZ nR hKr bP hx (λq hq=>aE jS (hq.ext u.aF) (aM u lR λb9 _ u=>aH (x:=x) u jS rfl rfl λ_ u=>aB IH u.p4.hb rfl (aA m9 (aB (v:=.string x.name) j3 u.hb rfl (aA uz (aB (v:=hU x.at_) bL u.hb rfl (y9 (first:=[]) (cap:=[.pointer (some ⟨b3,0,none⟩),.pointer (some ⟨b4,0,none⟩),.pointer (some ⟨E,0,none⟩)]) (H':=λ_=>NO b3 b4 E G (OQ (tU ((Lf p).take k) s0) (x.name,3,x.at_))) (Φ:=λv _=>v=.tuple #[]) ON u.p3 (λF hF _=>C202 x.name 3 x.at_ b3 b4 E G _ _ _ F _ hF) λv _ _ u=>aK bP ?_)))))));refine⟨_,bP,k+1,rfl,rfl,bP,?_⟩
   rw[zp hc];exact u.p1.drop.p2.p2
  rw[show(Lf p).take k=Lf p from kE (by unfold Lf;rw[nQ];omega)]at u;obtain⟨s1,Lg⟩:∃s,s=tU (Lf p) s0:=⟨_,rfl⟩;rw[<- Lg]at u;refine aA pP (aB (v:=ia Z) pO u.p4.hb rfl (aI kK (OA.ext u.aF) ?_));refine⟨λm x w1=>∃k:Nat,x=hU (k:Int)/\m=rD.length-k/\k<=rD.length/\St w bF [jX D (.deferred (some [])),bM b (iW (⟨O,U,V,Z,cD,cI⟩:cA)),NO b3 b4 E G (tU ((Mm p).take k) s1),bM b8 [(.func (.func 202) [].toArray [.pointer (some ⟨b3,0,none⟩),.pointer (some ⟨b4,0,none⟩),.pointer (some ⟨E,0,none⟩)].toArray)],bM bp (iW (⟨O,U,V,Z,cD,cI⟩:cA))] w1,⟨_,0,rfl,rfl,mr _,(by rw[show tU ((Mm p).take 0) s1=s1 from rfl];exact u)⟩,?_⟩
  rintro m _ _ ⟨k,rfl,rfl,I,u⟩ _;refine aS (aC (λc=>?_) λc=>?_)
  .obtain⟨t,ht⟩:=gx rD (i:=((k:Nat):Int).toNat) bP;obtain⟨r,hr⟩:=gx p.threads (i:=k) bP;obtain⟨gr,gb,rfl,_,_⟩:=OB.2 _ _ _ ht hr;have hc:(Mm p)[k]?=some (r.name,4,r.at_):=by unfold Mm;rw[n0,hr];rfl
   refine aZ kK OA bP ht (λq hq=>aE lq (hq.ext u.aF) (aM u sd λb9 _ u=>aH u lq rfl rfl λ_ u=>aB IH u.p4.hb rfl (aA yC (aB (v:=.string r.name) j3 u.hb rfl (aA yD (aB (v:=hU r.at_) bL u.hb rfl (y9 (first:=[]) (cap:=[.pointer (some ⟨b3,0,none⟩),.pointer (some ⟨b4,0,none⟩),.pointer (some ⟨E,0,none⟩)]) (H':=λ_=>NO b3 b4 E G (OQ (tU ((Mm p).take k) s1) (r.name,4,r.at_))) (Φ:=λv _=>v=.tuple #[]) ON u.p3 (λF hF _=>C202 r.name 4 r.at_ b3 b4 E G _ _ _ F _ hF) λv _ _ u=>aK bP ?_)))))));refine⟨_,bP,k+1,rfl,rfl,bP,?_⟩
   rw[zp hc];exact u.p1.drop.p2.p2
  rw[show(Mm p).take k=Mm p from kE (by unfold Mm;rw[nQ];omega),Lg,hs0]at u;have u:=nx.open u.drew.p2;refine aB AV u.p3.hb rfl (aB bL u.p1.hb rfl (aB B3 u.p2.hb rfl ?_));refine yJ u.p4 (λ_ u=>?_);exact⟨G,rfl,u.p1.drop.p1.drop.p1.drop.p1.drop.p1.drop.p1.drop.fresh⟩
 .rintro D M W h;exact h.elim
 .rintro id D M W h;exact h.elim
 rintro c M h;exact h.elim
def pW(E:ByteArray)(G:Int)(u:Option Addr)(I B:Nat):pr hH (Instr.build 196 [(0,.string E),(1,hU G),(2,.slice u I B)].toArray)=some (.agg [.string E,hU G,.slice u I B].toArray):=by kernel_rfl
structure CD where
 name:ByteArray
 at_:Int
 may:SV
instance:Flat CD where
 agg:=true
 sz:=3
 enc e:=[.string e.name,hU e.at_,.slice e.may.a e.may.n e.may.cap]
 val e:=.agg [.string e.name,hU e.at_,.slice e.may.a e.may.n e.may.cap].toArray
 pos:=ea
 len _:=rfl
 one a v h:=by simp at h;rcases h with rfl|rfl|rfl<;>rfl
 lj _ _:=rfl
 lF h:=by cases h
variable (w:World) (K:Value->hM)
theorem VH:PL 218:=dF Tryz.func218
theorem acS:PL 114:=dF Tryz.func114
theorem acT:PL 217:=dF Tryz.func217
end Go.Proofs.YtdncbeepkacgbaaGreatDoor
namespace Go.Fw
def Hb:List Nat->HP
 | []=>eI λ_=>True
 | D::r=>sep (jX D (.deferred (some []))) (Hb r)
def S6(P:Program)(w0:World)(A:Nat->Prop)(I:Nat->List HP->Prop)(E:hM)(y:Value)(B:Nat->List Value->(hM)->Prop):Prop:=
 ∀k args Φ W (R:HP) L,B k args Φ->(∀F u,R.p u F->Φ u)->I k L->St w0 A (R::L) W->gM P y args W (λv u=>(v=.bool true/\∃L',I (k+1) L'/\St w0 A (R::L') u)\/(v=.bool false/\E u))
section
variable {P:Program}{w w0 w':World}{A:Nat->Prop}{L:List HP}
theorem Hb.nil(u:St w0 A L w):St w0 A (Hb []::L) w:=u.fK λ_=>trivial
theorem Hb.take{K:hM}:∀(B:List Nat) {w:World},St w0 A (Hb B::L) w->(∀w',St w0 A L w'->K w')->ju B w K
 | [],_,u,k=>k _ u.drop
 | D::r,_,u,k=>by
  have h1:=u.split
  exact⟨h1.obj,Hb.take r (h1.putObj _).drop k⟩
theorem OS{gf np:Nat}{cap:List Value}(n:Nat)(Ar:Nat->List Value->(hM)->Prop){round:List Value->World->(World->(hM)->Prop)->(Option Code->hM)->Prop}
  {N R:Nat->hM}{X:Nat->Nat->hM}(pl:Plain P gf) (hs:St w0 A L w) (I:Nat->List HP->Prop) (U:Code->List HP->Prop) (h0:I 0 L) (hnp:∀k a Φ,Ar k a Φ->a.length=np)
  (hgf:∀(y:Value) (Y:HP) (Jx:hM) (W:World),(∃M,I 0 M/\St w0 A (Y::M) W)->S6 P w0 A (λk L=>∃M,I k M/\L=Y::M) Jx y Ar->
   Calls P gf ([y]++cap).toArray W (oV λ_ O=>(∃M,I n M/\St w0 A (Y::M) O)\/Jx O))
  (yq:∀k args Φ (Y1 Z:HP) (B:World->(hM)->Prop) (Kr:Option Code->hM) M W,Ar k args Φ->I k M->(∀F O,Z.p O F->Φ O)->
   (∀M u (kk:hM),St w0 A (Y1::M) u->(∀w2,St w0 A (Z::M) w2->kk w2)->B u kk)->
   (∀M u,St w0 A (Z::M) u->I (k+1) M->Kr none u)->(∀c M u,St w0 A (Z::M) u->U c M->Kr (some c) u)->
   St w0 A (Y1::M) W->round args W B Kr)
  (Nm:∀D M W,I n M->St w0 A (jX D (.deferred (some []))::M) W->N D W)
  (Wt:∀D M W,U .ret M->St w0 A (jX D (.deferred (some []))::M) W->R D W)
  (Nn:∀id D M W,U (.exit id) M->St w0 A (jX D (.deferred (some []))::M) W->X id D W)
  (GB:∀c M,U c M->(∃id,c=.exit id)\/c=.ret) :
  ud P (.func (.func gf) #[] cap.toArray) np w round (Wc N R X):=by
 refine⟨gf,cap.toArray,rfl,pl,λG gn xy hy=>?_⟩
 obtain⟨l,hl⟩:∃l,l=w.heap.size+1:=⟨_,rfl⟩
 obtain⟨D,hD⟩:∃D,D=w.heap.size:=⟨_,rfl⟩
 rw[<- hl]at hy |-
 rw[<- hD]
 let Y:HP:=sep (jX l (.loop G)) (jX D (.deferred (some [])))
 let Jx:hM:=λW=>∃c M,U c M/\St w0 A (jX l (.loop {G with state:=.done,pending:=some c})::jX D (.deferred (some []))::M) W
 have KI:∃M,I 0 M/\St w0 A (Y::M) ((w.alloc (.deferred (some []))).alloc (.loop G)):=by
  refine⟨L,h0,?_⟩
  have h1:=(hs.alloc (o:=.deferred (some []))).alloc (o:=.loop G)
  rw[show(w.alloc (.deferred (some []))).heap.size=l from by rw[hl];exact vG w _,<- hD]at h1
  exact St.join h1
 have:=hgf (.func (.yield l) #[] #[]) Y Jx _ KI ?_
 .have e:([Value.func (.yield l) #[] #[]]++cap).toArray = #[.func (.yield l) #[] #[]]++cap.toArray:=ew
  rw[e]at this
  refine this.mono λx O ⟨v,hx,hv⟩=>⟨v,hx,?_⟩
  rcases hv with⟨M,J,E⟩|⟨c,M,J,E⟩
  .have E:=E.split
   refine⟨.ready,none,ew,?_,?_⟩
   .rw[<- gn,<- xy];exact E.obj
   exact Nm D M _ J (E.putObj _).drop
  refine⟨.done,some c,ew,E.obj,?_⟩
  rcases GB c M J with⟨id,rfl⟩|rfl
  .exact Nn id D M _ J (E.putObj _).drop
  exact Wt D M _ J (E.putObj _).drop
 rintro k args Φ W R _ hk hR ⟨M,J,rfl⟩ E
 have V:=E.p1.split
 refine⟨.inr ⟨l,rfl,?_⟩⟩
 refine hy args W _ (hnp k args Φ hk) V.obj ?_
 refine yq k args Φ (sep (sep (jX l (.loop G)) (jX D (.deferred (some [])))) R) (sep (sep (jX l (.loop {G with state:=.busy})) (jX D (.deferred (some [])))) R) _ _ M W hk J (λF W2 ⟨_,F2,_,h2,_⟩=>hR F2 W2 h2)
  (λM u kk h1 h2=>?_) (λM u h1 h2=>?_) (λc M u h1 h2=>?_) (St.join (St.join V))
 .have h1:=h1.split.split
  exact⟨h1.obj,h2 _ (h1.putObj _).join.join⟩
 .have h1:=h1.split.split
  refine⟨h1.obj,.inl ⟨rfl,_,⟨M,h2,rfl⟩,?_⟩⟩
  have:=h1.putObj (.loop {G with state:=if (none:Option Code).isNone=true then LoopState.ready else LoopState.done,pending:=none})
  rw[yK G gn xy]at this |-
  exact(St.join this).p1
 have h1:=h1.split.split
 refine⟨h1.obj,.inr ⟨rfl,c,M,h2,?_⟩⟩
 exact(h1.putObj _).p2.drop
end
end Go.Fw
namespace Go.Proofs.YtdncbeepkacgbaaGreatDoor
open Go.Fw
abbrev UU:=ByteArray×Int×List Int
def mn(xs:List bI):List bI:=xs.filter λx=>decide (x.op=2)
theorem Bf{xs:List bI}{k:Nat}{x:bI}(h:xs[k]?=some x):mn (xs.take (k+1))=mn (xs.take k)++(if x.op=2 then [x]else []):=by
 unfold mn;rw[<- gw h,F0];grind
def Ta{xs:List bI}{k:Nat}{x:bI}(h:xs[k]?=some x)(u:x.op=2):(mn xs)[(mn (xs.take k)).length]?=some x:=by
 have h1:=drop_cons h
 have e:mn xs=mn (xs.take k)++mn (xs.drop k):=by unfold mn;rw[<- F0,ob]
 grind[mn]
def Jo(l:List UU)(k:Nat)(args:List Value)(Φ:hM):Prop:=∃u s,l[k]?=some u/\args=[ia (⟨u.1,u.2.1,s⟩:CD)]/\∀W,Φ W->dy (λ_=>True) W (ia s) u.2.2
def air{H H':HP}{Φ:hM}(h:∀F W,H.p W F->Φ W):∀F W,(sep H H').p W F->Φ W:=λ_ _ ⟨_,_,h1,_⟩=>h _ _ h1
def CE{α:Type}[Flat α]{v:Value}{xs:List α}:∀F W,(bH v xs).p W F->dy (λ_=>True) W v xs:=λ_ _ h=>(bH.rd h).mono λ_ _=>trivial
def C218(lv y:Value)(xs:List bI)(may:Int)(ul:List UU)(J:Nat)(w0:World)(A:Nat->Prop)(I:Nat->List HP->Prop)(V:hM)(w:World)(hn:xs.length<=1048576)
  (hE:∀k L W,I k L->St w0 A L W->dy (λ_=>True) W lv xs) (h0:∃L,I J L/\St w0 A L w) (hu:∀(j:Nat) (x:bI),(mn xs)[j]?=some x->ul[J+j]?=some (x.name,x.at_,[may])) (hy:S6 hH w0 A I V y (Jo ul)) :
  CR 218 [lv,hU may,y] w (λv W=>(v=.bool true/\∃L,I (J+(mn xs).length) L/\St w0 A L W)\/(v=.bool false/\V W)):=by
 refine eT Tryz.func218 ?_;obtain⟨L0,B,E⟩:=h0;refine aI jx (hE _ _ _ B E) ?_;refine⟨λm x w1=>∃k:Nat,x=hU (k:Int)/\m=xs.length-k/\k<=xs.length/\∃L,I (J+(mn (xs.take k)).length) L/\St w0 A L w1,⟨_,0,rfl,rfl,mr _,L0,B,E⟩,?_⟩;rintro m _ w1 ⟨k,rfl,rfl,hk,L1,G,u⟩ _;refine aS (aC (λc=>?_) λc=>?_)
 .obtain⟨x,M⟩:=gx xs (i:=((k:Nat):Int).toNat) bP;refine aZ jx (hE _ _ _ G u) bP M (λq hq=>aE wS hq (aM u B9 λb8 _ u=>aH (x:=x) u wS rfl rfl λ_ u=>⟨λjv w'=>(jv=.bool false/\∃L,I (J+(mn (xs.take (k+1))).length) L/\St w0 A L w')\/(jv=.bool true/\V w'),aA ix (aB (v:=hU x.op) bL u.hb rfl (aG (aC (λO=>?_) λO=>?_))),?_⟩))
  .refine aA l4 (aB (v:=.string x.name) j3 u.hb rfl (aA uA (aB (v:=hU x.at_) bL u.hb rfl (bK ([may]:List Int) u.drop dz rfl rfl (dP rfl) λs25 w4 u=>?_))));obtain⟨U,rfl⟩:=u.eU.gu;refine pop (pW x.name x.at_ U.a U.n U.cap) ?_;refine gM.mono (hy _ _ _ w4 _ _ ⟨_,U,hu _ x (Ta M O),rfl,λ_ h=>h⟩ CE G u) ?_;rintro v w5 (⟨rfl,L2,Z,Tb⟩|⟨rfl,Y⟩)
   .exact bJ (.inl ⟨rfl,L2,by rw[Bf (k:=k) M,fi O,kC];exact Z,Tb.drop⟩)
   exact bJ (.inr ⟨rfl,Y⟩)
  .refine .inl ⟨rfl,L1,?_,u.drop⟩;rw[Bf (k:=k) M,ez O,List.append_nil];exact G
  rintro _ w6 (⟨rfl,L2,Z,u⟩|⟨rfl,Y⟩) _
  .exact et (aK bP ⟨_,bP,k+1,rfl,rfl,bP,L2,Z,u⟩)
  exact gH (.inr ⟨rfl,Y⟩)
 rw[kE bP]at G;exact .inl ⟨rfl,L1,G,u⟩
def CF(k:Int):List Int:=if k=5\/k=6 then [1]else if k=9\/k=10 then [3]else [1,2]
def we(l:List bI):List UU:=(mn l).map λy=>(y.name,y.at_,[5])
def wg(x:bE):List UU:=(if x.eQ=⟨#[]⟩then []else [(x.eQ,x.at_,[5])])++((if x.name=⟨#[]⟩then []else [(x.name,x.at_,CF x.kind)])++(we x.e++we x.f))
def kF(xs:List bE):List UU:=xs.flatMap wg
theorem Bg{xs:List bE}{k:Nat}{x:bE}(h:xs[k]?=some x):kF (xs.take (k+1))=kF (xs.take k)++wg x:=by
 unfold kF;rw[<- gw h,Ff];simp
def Tc{xs:List bE}{k i:Nat}{x:bE}{u:UU}(h:xs[k]?=some x)(hi:(wg x)[i]?=some u):(kF xs)[(kF (xs.take k)).length+i]?=some u:=by
 have e:kF xs=kF (xs.take k)++(wg x++kF (xs.drop (k+1))):=by
  rw[<- mv,<- Bg h];unfold kF;rw[<- Ff,ob]
 grind
def Jp{l:List bI}{j:Nat}{y:bI}(h:(mn l)[j]?=some y):(we l)[j]?=some (y.name,y.at_,[5]):=by unfold we;rw[n0,h];rfl
def ny(x:bE):List UU:=if x.eQ=⟨#[]⟩then []else [(x.eQ,x.at_,[5])]
def oN(x:bE):List UU:=if x.name=⟨#[]⟩then []else [(x.name,x.at_,CF x.kind)]
theorem wh(x:bE):wg x=ny x++(oN x++(we x.e++we x.f)):=rfl
theorem Xe{x:bE}(h:¬ x.eQ=⟨#[]⟩):(ny x).length=1:=by unfold ny;grind
theorem Xf{x:bE}(h:x.eQ=⟨#[]⟩):(ny x).length=0:=by unfold ny;grind
theorem Xg{x:bE}{n:Nat}(h:¬ x.name=⟨#[]⟩):(n+(oN x).length)=n+1:=by unfold oN;grind
theorem Xh{x:bE}{n:Nat}(h:x.name=⟨#[]⟩):(n+(oN x).length)=n:=by unfold oN;grind
def OT{x:bE}(h:¬ x.eQ=⟨#[]⟩):(wg x)[0]?=some (x.eQ,x.at_,[5]):=by unfold wg;grind
def OU{x:bE}(h:¬ x.name=⟨#[]⟩):(wg x)[(ny x).length]?=some (x.name,x.at_,CF x.kind):=by
 rw[wh,o1 (oq _),U6];unfold oN;grind
def OV{x:bE}{j:Nat}{y:bI}(h:(mn x.e)[j]?=some y):(wg x)[(ny x).length+(oN x).length+j]?=some (y.name,y.at_,[5]):=by
 have h1:=Jp h
 rw[wh,o1 bP,show(ny x).length+(oN x).length+j-(ny x).length=(oN x).length+j from bP,o1 bP,wM,qi (jq.1 h1).1,h1]
def OW{x:bE}{j:Nat}{y:bI}(h:(mn x.f)[j]?=some y):(wg x)[(ny x).length+(oN x).length+(mn x.e).length+j]?=some (y.name,y.at_,[5]):=by
 have h1:=Jp h
 have h2:(we x.e).length=(mn x.e).length:=by unfold we;grind
 rw[wh,o1 bP,show(ny x).length+(oN x).length+(mn x.e).length+j-(ny x).length=(oN x).length+((we x.e).length+j)from bP,o1 bP,wM,o1 bP,wM,h1]
theorem OX(x:bE):(wg x).length=(ny x).length+(oN x).length+(mn x.e).length+(mn x.f).length:=by
 rw[wh];unfold we;grind
def C217(y:Value)(b:Nat)(lv:Value)(ts:List aW)(xs:List bE)(w0:World)(A:Nat->Prop)(I:Nat->List HP->Prop)(Jx:hM)(w:World)(hn:xs.length<=1048576)(hz:∀x∈xs,x.e.length<=1048576/\x.f.length<=1048576)
  (hE:∀k L W,I k L->St w0 A L W->Cell W b 0 lv/\dy (λ_=>True) W lv ts/\gU ts xs W) (h0:∃L,I 0 L/\St w0 A L w) (hy:S6 hH w0 A I Jx y (Jo (kF xs))) :
  CR 217 [y,.pointer (some ⟨b,0,none⟩)] w (λ_ W=>(∃L,I (kF xs).length L/\St w0 A L W)\/Jx W):=by
 have V:∀b4 (cs:List Value),S6 hH w0 A (λj L=>∃M,I j M/\L=bM b4 cs::M) Jx y (Jo (kF xs)):=by
  rintro b4 cs k args Φ W R _ h1 h2 ⟨M,h3,rfl⟩ h4;refine gM.mono (hy k args Φ W _ M h1 (air h2) h3 (St.join h4)) ?_;rintro v W' (⟨rfl,L',h5,h6⟩|h5)
  .exact .inl ⟨rfl,_,⟨L',h5,rfl⟩,h6.split⟩
  .exact .inr h5
 refine eT Tryz.func217 ?_;obtain⟨M0,hI0,hS0⟩:=h0;obtain⟨Af,Mh,Jq⟩:=hE _ _ _ hI0 hS0;have Ra:=Jq.1;refine cE lZ Af (aI fX Mh ?_);refine⟨λm x w1=>∃k:Nat,x=hU (k:Int)/\m=ts.length-k/\k<=ts.length/\∃L,I (kF (xs.take k)).length L/\St w0 A L w1,⟨_,0,rfl,rfl,mr _,M0,hI0,hS0⟩,?_⟩;rintro m _ w1 ⟨k,rfl,rfl,hk,M1,hI,B⟩ _;refine aS (aC (λc=>?_) λc=>?_)
 .obtain⟨t,ht⟩:=gx ts (i:=((k:Nat):Int).toNat) bP;obtain⟨x,hx⟩:=gx xs (i:=k) bP;have hxz:=hz x (l0 hx);obtain⟨xG,Dv,hd1⟩:=hE _ _ _ hI B;obtain⟨ge,U,rfl,_,_⟩:=hd1.2 _ _ _ ht hx
  have hE1:∀k' M W,I k' M->St w0 A M W->dy (λ_=>True) W (ia ge) x.e/\dy (λ_=>True) W (ia U) x.f:=λk' M W h1 h2=>by
   obtain⟨_,_,h3⟩:=hE k' M W h1 h2;obtain⟨_,_,h4,h5,h6⟩:=h3.2 _ _ _ ht hx;cases h4
   exact⟨DL.flat h5,DL.flat h6⟩
  have qN:∀{i:Nat}{u:UU},(wg x)[i]?=some u->(kF xs)[(kF (xs.take k)).length+i]?=some u:=Tc hx;refine aZ fX Dv bP ht (λq hq=>aE ep hq (aM B jy λb4 _ B=>aH (x:=(⟨x.kind,x.eQ,x.name,ge,U,x.n,x.body,x.eH,x.at_⟩:aW)) B ep rfl rfl λ_ B=>?_));refine⟨λG w'=>(G=.bool false/\∃L,I ((kF (xs.take k)).length+(ny x).length) L/\St w0 A ((bM b4 (iW (⟨x.kind,x.eQ,x.name,ge,U,x.n,x.body,x.eH,x.at_⟩:aW)))::L) w')\/(G=.bool true/\Jx w'),?_,?_⟩
  .refine aA kM (aB (v:=.string x.eQ) j3 B.hb rfl (vL (aC (λc2=>?_) λc2=>.inl ⟨rfl,M1,by rw[Xf (by simpa using c2)];exact hI,B⟩)));refine aA kM (aB (v:=.string x.eQ) j3 B.hb rfl (aA q7 (aB (v:=hU x.at_) bL B.hb rfl (bK ([5]:List Int) B dz rfl rfl (dP rfl) λs25 _ B=>?_))));obtain⟨E,rfl⟩:=B.eU.gu;refine pop (pW x.eQ x.at_ E.a E.n E.cap) ?_;refine gM.mono (V b4 _ _ _ _ _ _ _ ⟨_,E,qN (i:=0) (OT c2),rfl,λ_ h=>h⟩ CE ⟨_,hI,rfl⟩ B) ?_;rintro v w5 (⟨rfl,_,⟨O,J,rfl⟩,Tb⟩|⟨rfl,Y⟩)
   .exact bJ (.inl ⟨rfl,O,by rw[Xe c2];exact J,Tb.drop⟩)
   exact bJ (.inr ⟨rfl,Y⟩)
  rintro _ w6 (⟨rfl,O,J,B⟩|⟨rfl,Y⟩) _;rotate_left
  .exact gH (.inr Y)
  refine et (bK ([1,2]:List Int) B dz rfl rfl (dP rfl) λs26 w7 B=>?_);refine⟨λG w'=>∃E:SV,G=ia E/\St w0 A (bH (ia E) (CF x.kind)::(bM b4 (iW (⟨x.kind,x.eQ,x.name,ge,U,x.n,x.body,x.eH,x.at_⟩:aW)))::O) w',?_,?_⟩
  .refine aA fy (aB (v:=hU x.kind) bL B.p1.hb rfl ⟨λG w'=>G=.bool (decide (x.kind=5\/x.kind=6))/\w'=w7,aG (aC (λc3=>⟨vb (by simp[c3]),rfl⟩) λc3=>aG ⟨vb (by simp[c3]),rfl⟩),?_⟩);rintro _ w8 ⟨rfl,rfl⟩ _;refine aC (λc3=>?_) (λc3=>⟨λG w'=>G=.bool (decide (x.kind=9\/x.kind=10))/\w'=w8,aG (aC (λc4=>⟨vb (by simp[c4]),rfl⟩) λc4=>aG ⟨vb (by simp[c4]),rfl⟩),?_⟩)
   .refine bK ([1]:List Int) B dz rfl rfl (dP rfl) (λs32 _ B=>?_);obtain⟨E,rfl⟩:=B.eU.gu;exact⟨E,rfl,by rw[CF,fi c3];exact B.p1.drop⟩
   rintro _ _ ⟨rfl,rfl⟩ _;refine aC (λc4=>?_) (λc4=>?_)
   .refine bK ([3]:List Int) B dz rfl rfl (dP rfl) (λs36 _ B=>?_);obtain⟨E,rfl⟩:=B.eU.gu;exact⟨E,rfl,by rw[CF,ez c3,fi c4];exact B.p1.drop⟩
   obtain⟨E,rfl⟩:=B.eU.gu;exact⟨E,rfl,by rw[CF,ez c3,ez c4];exact B⟩
  rintro _ _ ⟨E,rfl,B⟩ _;refine⟨λG w'=>(G=.bool false/\∃L,I ((kF (xs.take k)).length+((ny x).length+(oN x).length)) L/\St w0 A ((bM b4 (iW (⟨x.kind,x.eQ,x.name,ge,U,x.n,x.body,x.eH,x.at_⟩:aW)))::L) w')\/(G=.bool true/\Jx w'),?_,?_⟩
  .refine aA jU (aB (v:=.string x.name) j3 B.p1.hb rfl (vL (aC (λc2=>?_) λc2=>.inl ⟨rfl,O,by rw[Xh (by simpa using c2)];exact J,B.drop⟩)));refine aA jU (aB (v:=.string x.name) j3 B.p1.hb rfl (aA q7 (aB (v:=hU x.at_) bL B.p1.hb rfl (pop (pW x.name x.at_ E.a E.n E.cap) ?_))));refine gM.mono (V b4 _ _ _ _ _ _ _ ⟨_,E,qN (i:=(ny x).length) (OU c2),rfl,λ_ h=>h⟩ CE ⟨_,J,rfl⟩ B) ?_;rintro v w13 (⟨rfl,_,⟨M3,hI3,rfl⟩,Wl⟩|⟨rfl,Y⟩)
   .exact bJ (.inl ⟨rfl,M3,by rw[Xg c2];exact hI3,Wl.drop⟩)
   exact bJ (.inr ⟨rfl,Y⟩)
  rintro _ OR (⟨rfl,O,J,B⟩|⟨rfl,Y⟩) _;rotate_left
  .exact gH (.inr Y)
  refine et ?_;refine⟨λG w'=>(G=.bool false/\∃L,I ((kF (xs.take (k+1))).length) L/\St w0 A ((bM b4 (iW (⟨x.kind,x.eQ,x.name,ge,U,x.n,x.body,x.eH,x.at_⟩:aW)))::L) w')\/(G=.bool true/\Jx w'),?_,?_⟩
  .refine aA kN (aB (v:=ia ge) lH B.hb rfl (dX VH (C218 _ y x.e 5 (kF xs) ((kF (xs.take k)).length+((ny x).length+(oN x).length)) w0 A (λj L=>∃M,I j M/\L=(bM b4 (iW (⟨x.kind,x.eQ,x.name,ge,U,x.n,x.body,x.eH,x.at_⟩:aW)))::M) Jx _ (by have:=hxz.1;omega) (λj L W ⟨M,h1,h2⟩ h3=>(hE1 _ _ _ h1 (h2▸h3).drop).1) ⟨_,⟨_,J,rfl⟩,B⟩ (λj _ Rl=>by rw[FF];exact qN (i:=((ny x).length+(oN x).length)+j) (OV Rl)) (V b4 _)) ?_));rintro v _ Z;rw[FF]at Z
   rcases Z with⟨rfl,_,⟨O,J,rfl⟩,B⟩|⟨rfl,Z⟩
   .refine bJ (et (aA qZ (aB (v:=ia U) lH B.hb rfl (dX VH (C218 _ y x.f 5 (kF xs) ((kF (xs.take k)).length+((ny x).length+(oN x).length+(mn x.e).length)) w0 A (λj L=>∃M,I j M/\L=(bM b4 (iW (⟨x.kind,x.eQ,x.name,ge,U,x.n,x.body,x.eH,x.at_⟩:aW)))::M) Jx _ (by have:=hxz.2;omega) (λj L W ⟨M,h1,h2⟩ h3=>(hE1 _ _ _ h1 (h2▸h3).drop).2) ⟨_,⟨_,J,rfl⟩,B⟩ (λj _ Rl=>by rw[FF];exact qN (i:=((ny x).length+(oN x).length+(mn x.e).length)+j) (OW Rl)) (V b4 _)) ?_))));rintro v _ Z;rw[FF]at Z
    rcases Z with⟨rfl,_,⟨O,J,rfl⟩,B⟩|⟨rfl,Z⟩
    .exact bJ (.inl ⟨rfl,O,by rw[Bg hx,kC,OX];exact J,B⟩)
    exact bJ (.inr ⟨rfl,Z⟩)
   exact bJ (gH (.inr ⟨rfl,Z⟩))
  rintro _ w17 (⟨rfl,O,J,B⟩|⟨rfl,Y⟩) _;rotate_left
  .exact gH (.inr Y)
  exact et (aK bP ⟨_,bP,k+1,rfl,rfl,bP,O,J,B.drop⟩)
 rw[kE bP]at hI;exact .inl ⟨M1,hI,B⟩
def C114(lv:SV)(w:World):CR 114 [ia lv] w (λv w'=>∃b,v=.func (.func 217) [].toArray [.pointer (some ⟨b,0,none⟩)].toArray/\mG (bM b [ia lv]) w w'):=by
 have u:=St.start w;refine eT Tryz.func114 ?_;exact jR u rfl (λb _ u=>⟨b,rfl,u.fresh⟩)
variable (w:World) (K:Value->hM)
theorem VI:PL 113:=dF Tryz.func113
end Go.Proofs.YtdncbeepkacgbaaGreatDoor
namespace Go.Proofs.YtdncbeepkacgbaaGreatDoor
open Go.Fw
def zq:List SI->List ByteArray->Option (List SI)
 | g,[]=>some g
 | g,n::r=>if dG g n=0 then zq (g++[(n,5)]) r else none
def Lh(l:List SI)(names:List ByteArray):Option (List SI):=zq (l.filter λp=>decide (¬ p.2=4)) names
def Td{g:List SI}{ns:List ByteArray}{k:Nat}{n:ByteArray}(h:ns[k]?=some n)(u:dG g n=0):zq g (ns.drop k)=zq (g++[(n,5)]) (ns.drop (k+1)):=by
 rw[drop_cons h,zq,fi u]
def Te{g:List SI}{ns:List ByteArray}{k:Nat}{n:ByteArray}(h:ns[k]?=some n)(u:¬ dG g n=0):zq g (ns.drop k)=none:=by
 rw[drop_cons h,zq,ez u]
def acW(r:Option (List SI))(v:Value)(w w':World):Prop:=
 (r=none/\v=.tuple #[.map none,.bool true]/\Ext w w')\/∃g b,r=some g/\v=.tuple #[.map (some b),.bool false]/\mG (jL b g) w w'
def C113(Y:bU)(names:List ByteArray)(bm:Nat)(l:List SI)(w:World)(hf:dy (λ_=>True) w (ia Y.dJ) names)(E:pk w bm l)(hz:∀p∈l,p.2≠0)(hn:names.length<=1073741824) :
  CR 113 [ia Y,.map (some bm)] w (λv w'=>acW (Lh l names) v w w'):=by
 have u:=St.start w;have Ra:=E.nodup;obtain⟨es,clock,Rf,W,VJ⟩:=E;refine eT Tryz.func113 ?_;refine bY u (λXi w1 u=>EA u λG _ u=>KV u Tryz.underlying184 (y8 Rf u.aF) λr13 _ u=>?_);refine⟨λU w1=>∃(seen:Array Nat) (J:List SI),U=(leftOf es seen).size/\(∀p,p∈J↔(p∈l/\¬ p.2=4/\∃e∈es.toList,seen.contains e.born=true/\e.key=.string p.1))/\St w bF [A4 r13 bm clock seen,jL G J,bM Xi (iW Y)] w1,⟨_,#[],[],rfl,λ_=>⟨λh=>(by cases h),λ⟨_,_,e,_,h,_⟩=>(by simp at h)⟩,u⟩,?_⟩;rintro U w4 ⟨seen,J,rfl,Z,u⟩ _;refine NX u (y8 Rf u.aF) W.1 (λh0=>?_) (λe _ M u=>?_)
 .refine aJ rfl (et ?_);have u:=u.drop
  have hg:J.Perm (l.filter λp=>decide (¬ p.2=4)):=by
   have n1:J.Nodup:=(P6.1 u.jL.nodup).imp λh e=>h (by rw[e]);have n2:l.Nodup:=(P6.1 Ra).imp λh e=>h (by rw[e]);refine(List.perm_ext_iff_of_nodup n1 (n2.filter _)).2 λp=>?_;rw[Z,Jw];refine⟨λ⟨h1,h2,_⟩=>⟨h1,fj h2⟩,λ⟨h1,h2⟩=>⟨h1,gv h2,?_⟩⟩;obtain⟨e,M,h3,_⟩:=NZ VJ h1;exact⟨e,M,all_seen es seen h0 e M,h3⟩
  have u:St w bF [jL G (l.filter λp=>decide (¬ p.2=4)),bM Xi (iW Y)] w4:=u.mM λF hF=>⟨F,⟨hF.1.perm hg,hF.2⟩,λ_ hb=>.inl hb,fH.refl _ _⟩;refine aA m7 (aB lX u.p1.hb rfl (aI iR (hf.ext u.aF) ?_));refine⟨λU i w'=>∃(k:Nat) (g:List SI),i=hU (k:Int)/\U=names.length-k/\k<=names.length/\Lh l names=zq g (names.drop k)/\(∀p∈g,p.2≠0)/\St w bF [jL G g,bM Xi (iW Y)] w',⟨_,0,_,rfl,rfl,mr _,rfl,λp hp=>hz p (Jw.1 hp).1,u⟩,?_⟩;rintro U _ _ ⟨k,g,rfl,rfl,hk,Df,O,u⟩ _;refine aS (aC (λOY=>?_) λOY=>?_)
  .obtain⟨sX,gJ⟩:=gx names (i:=(k:Int).toNat) bP;refine aZ iR (hf.ext u.aF) bP gJ (λ_ uP=>aE j3 uP (sn u.jL Tryz.underlying184 Tryz.underlying9 sQ (cC (aC (λly=>?_) λly=>?_))))
   .exact .inl ⟨Df.trans (Te gJ ly),rfl,u.drop.drop.aF⟩
   .have V:dG g sX=0:=bP
    refine EB u Tryz.underlying184 Tryz.underlying9 (GO u.jL.nodup O V) (λ_ u=>aK bP ?_)
    exact⟨_,bP,k+1,_,rfl,rfl,bP,Df.trans (Td gJ V),λp hp=>by
     rcases pJ.1 hp with h|h
     .exact O p h
     .rw[ru.1 h];exact(by decide:(5:Int)≠0),u⟩
  .refine .inr ⟨g,G,?_,rfl,u.p1.drop.fresh⟩;rw[Df,ou bP];rfl
 .refine aJ rfl (gH ?_);have E:=mem_left M;refine KW u (y8 Rf u.aF) E.1 W.2.1 ?_;obtain⟨p0,F3,B,hev⟩:=NY VJ E.1;rw[B,hev];refine aJ rfl (aJ rfl (cC ?_))
  have old:∀q∈J,q.1≠p0.1:=λq hq e=>by
   obtain⟨_,_,I,he2,h1,h2⟩:=(Z q).1 hq;rw[e,<- B]at h2;obtain rfl:=key_inj W.2.2 he2 E.1 h2;exact absurd h1 (by simpa using E.2)
  refine aC (λkx=>?_) (λkx=>?_)
  .have u:=u.p1;refine EB u Tryz.underlying184 Tryz.underlying9 old (λ_ u=>?_);have u:=u.p1;refine⟨_,left_shrinks es seen e M,seen.push e.born,_,rfl,λp=>?_,u⟩;rw[pJ,ru,Z]
   constructor
   .rintro(⟨h1,h2,I,h3,h4,h5⟩|rfl)
    .exact⟨h1,h2,I,h3,by simp at h4 |-;exact .inl h4,h5⟩
    .exact⟨F3,kx,e,E.1,ew,B⟩
   .rintro⟨h1,h2,I,h3,h4,h5⟩
    rcases rz h4 with h|h
    .exact .inl ⟨h1,h2,I,h3,h,h5⟩
    .obtain rfl:=born_inj W.2.1 h3 E.1 h;rw[B]at h5;injection h5 with h5;exact .inr (N0 Ra h1 F3 h5.symm)
  .refine⟨_,left_shrinks es seen e M,seen.push e.born,J,rfl,λp=>?_,u⟩;rw[Z]
   constructor
   .rintro⟨h1,h2,I,h3,h4,h5⟩;exact⟨h1,h2,I,h3,by simp at h4 |-;exact .inl h4,h5⟩
   .rintro⟨h1,h2,I,h3,h4,h5⟩
    rcases rz h4 with h|h
    .exact⟨h1,h2,I,h3,h,h5⟩
    .obtain rfl:=born_inj W.2.1 h3 E.1 h;rw[B]at h5;injection h5 with h5;obtain rfl:=N0 Ra h1 F3 h5.symm;exact absurd h2 kx
theorem cY{ns:List ByteArray}{s:ByteArray}:0<=cT ns s↔s∈ns:=by
 have h:=vW ns s
 grind
theorem u9{ns:List ByteArray}{s:ByteArray}:cT ns s<0↔s ∉ ns:=by rw[<- cY];omega
theorem pA{ns:List ByteArray}{s:ByteArray}(h:s∈ns):∃k:Nat,cT ns s=k/\ns[k]?=some s/\∀j,j<k->ns[j]?≠some s:=by
 unfold cT pg
 cases hf:ns.findIdx? (λy=>decide (y=s))with
 | none=>grind
 | some k=>
  obtain⟨h1,h2,h3⟩:=List.findIdx?_eq_some_iff_getElem.1 hf
  grind
def lK{ns:List ByteArray}{s:ByteArray}{k:Nat}(h:s∈ns):cT ns s<k↔s∈ns.take k:=by
 obtain⟨j,h1,h2,h3⟩:=pA h
 rw[h1]
 constructor
 .intro B;exact u6.2 ⟨j,cR⟩
 intro u
 obtain⟨i,hi⟩:=u6.1 u
 grind
theorem nodup_iff(ns:List ByteArray):ns.Nodup↔∀(k:Nat) (s:ByteArray),ns[k]?=some s->s ∉ ns.take k:=by
 unfold List.Nodup
 rw[JK]
 constructor
 .intro h k s I B
  obtain⟨i,hi⟩:=u6.1 B
  grind
 intro h i j hi u E G
 exact h j _ (j0 u) (u6.2 ⟨i,cR⟩)
theorem tC(l:List bO):jr l=true↔¬ (l.map bO.name).Nodup:=by
 rw[nodup_iff]
 unfold jr
 rw[tP]
 constructor
 .rintro⟨j,u,h⟩ E
  have u:=H3.1 u
  have J:l[j]?=some l[j]:=j0 u
  rw[A8 J,decide_eq_true_iff]at h
  have B:(l[j]).name∈l.map bO.name:=nT.2 ⟨_,SK u,rfl⟩
  exact E j _ cR ((lK B).1 h)
 intro E
 apply g7
 intro hc
 refine E λk s I B=>hc ⟨k,?_,?_⟩
 .grind
 rw[n0]at I
 obtain⟨c,G,rfl⟩:=x7.1 I
 rw[A8 G,decide_eq_true_iff]
 exact(lK (EG B)).2 B
def EW(p:bQ)(B:List ByteArray):sF p B=true↔¬ B.Nodup\/∃s∈B,s∈cX p\/s∈cS p:=by
 rw[nodup_iff]
 unfold sF
 rw[tP]
 constructor
 .rintro⟨j,u,h⟩
  have u:=H3.1 u
  have J:B[j]?=some B[j]:=j0 u
  have G:=SK u
  rw[Cq J]at h
  simp only[rH,decide_eq_true_eq,cY]at h
  rcases h with(h|h)|h
  .exact .inl λE=>E j _ J ((lK G).1 h)
  .grind
  grind
 intro E
 rcases E with E|⟨s,M,hc⟩
 .apply g7
  intro hc
  refine E λk s I G=>hc ⟨k,H3.2 (jq.1 I).1,?_⟩
  rw[Cq I]
  simp only[rH,decide_eq_true_eq]
  exact .inl (.inl ((lK (EG G)).2 G))
 obtain⟨j,u⟩:=u6.1 M
 refine⟨j,H3.2 (jq.1 u).1,?_⟩
 rw[Cq u]
 simp only[rH,decide_eq_true_eq,cY]
 rcases hc with hc|hc
 .exact .inl (.inr hc)
 exact .inr hc
def Tf(p:bQ):List (ByteArray×Int×Int):=Ml p++(Lf p++Mm p)
theorem Jr(p:bQ):xf p=tU (Tf p) ([],false,0):=by simp_all[SI,xf,tU,Tf]
theorem wi(p:bQ):(Tf p).map (·.1)=(ik p).map bO.name:=by
 unfold Tf Ml Lf Mm ik
 rw[<- u7]
 simp only[rh,Cn,mv]
 rfl
theorem OZ(p:bQ):∀q∈Tf p,q.2.1≠0:=by
 intro q u
 unfold Tf Ml Lf Mm xe at u
 grind
theorem O0:∀(l:List (ByteArray×Int×Int)) (st:List SI×Bool×Int),(∀q∈l,q.2.1≠0)->
  ((tU l st).2.1=true↔st.2.1=true\/¬ (l.map (·.1)).Nodup\/∃q∈l,dG st.1 q.1≠0)
 | [],st,_=>by simp[tU]
 | q::r,st,hz=>by
  have u:=O0 r (OQ st q) λq E=>hz q (o5 _ E)
  have B:=hz q (oj ..)
  have e:tU (q::r) st=tU r (OQ st q):=rfl
  rw[e,u]
  show S2 st.1 q.1 st.2.1=true\/_\/(∃x∈r,dG (tB st.1 q.1 q.2.1) x.1≠0)↔_
  unfold S2
  rw[Dz,yQ]
  simp only[rH,decide_eq_true_eq,wc,nT,oS]
  grind
theorem O1(p:bQ):(xf p).2.1=jr (ik p):=by
 rw[yh,Jr,O0 _ _ (OZ p),tC,wi]
 simp[dG]
theorem Hc:∀(l:List (ByteArray×Int×Int)) (st:List SI×Bool×Int) (n:ByteArray),n ∉ l.map (·.1)->dG (tU l st).1 n=dG st.1 n
 | [],_,_,_=>rfl
 | q::r,st,n,h=>by
  rw[Dz,oS,not_or]at h
  have e:tU (q::r) st=tU r (OQ st q):=rfl
  rw[e,Hc r _ n h.2]
  show dG (tB st.1 q.1 q.2.1) n=_
  rw[wc,ez λu=>h.1 u.symm]
theorem zu:∀(l:List (ByteArray×Int×Int)) (st:List SI×Bool×Int) (q:ByteArray×Int×Int),(l.map (·.1)).Nodup->q∈l->dG (tU l st).1 q.1=q.2.1
 | x::r,st,q,hn,h=>by
  rw[Dz,yQ]at hn
  have e:tU (x::r) st=tU r (OQ st x):=rfl
  rw[e]
  rcases oS.1 h with rfl|h
  .rw[Hc r _ _ hn.1]
   show dG (tB st.1 q.1 q.2.1) q.1=_
   rw[wc,fi rfl]
  .exact zu r _ q hn.2 h
theorem O2:∀(l:List (ByteArray×Int×Int)) (st:List SI×Bool×Int),(∀q∈l,q.2.1≠0)->(∀e∈st.1,e.2≠0)->∀e∈(tU l st).1,e.2≠0
 | [],_,_,h=>h
 | q::r,st,hz,h=>O2 r (OQ st q) (λq u=>hz q (o5 _ u)) (S1 h (hz q (oj ..)))
def Hd(p:bQ):∀e∈(xf p).1,e.2≠0:=by
 rw[Jr];exact O2 _ _ (OZ p) λe u=>by cases u
theorem O3:∀(ls:List (List bO)) (k:Int) (q:bO×Int),q∈G9 k ls->k<=q.2/\q.2<k+ls.length
 | [],_,_,h=>by cases h
 | l::r,k,q,h=>by
  unfold G9 at h
  rcases pJ.1 h with h|h
  .grind
  .have:=O3 r (k+1) q h;simp;omega
theorem O4:∀(vs:List bO) (k:Int) (q:bO×Int),q∈FY k vs->k<=q.2
 | [],_,_,h=>by cases h
 | v::r,k,q,h=>by
  unfold FY at h
  rcases oS.1 h with rfl|h
  .omega
  .have:=O4 r (k+1) q h;omega
def ot(p:bQ):List ByteArray:=p.iN.map bO.name
def Tg(p:bQ):List ByteArray:=p.threads.map bW.name
theorem EX(p:bQ):fT p=p.lines.flatten.map bO.name:=by
 unfold fT cX jd ee
 rw[rh,qs,List.take_left' cR]
theorem mq(p:bQ):cX p=fT p++ot p:=by
 rw[EX];unfold cX jd ot;grind
theorem Js(p:bQ):(ik p).map bO.name=fT p++ot p++(cS p++Tg p):=by
 rw[<- mq];unfold ik cX cS Tg
 simp_all
theorem Jt{p:bQ}(G:jr (ik p)=false)(s:ByteArray) :
  dG (xf p).1 s=if 0<=cT (fT p) s then 1 else if 0<=cT (ot p) s then 2 else if 0<=cT (cS p) s then 3 else if 0<=cT (Tg p) s then 4 else 0:=by
 have I:((ik p).map bO.name).Nodup:=g7 λh=>by rw[(tC _).2 h]at G;cases G
 have B:((Tf p).map (·.1)).Nodup:=by rw[wi];exact I
 rw[Jr]
 by_cases h1:s∈fT p
 .rw[fi (cY.2 h1)]
  rw[EX,<- CB p.lines 0]at h1
  obtain⟨c,hc,rfl⟩:=nT.1 h1
  obtain⟨q,u,rfl⟩:=nT.1 hc
  have E:(q.1.name,xe p q.2,q.1.at_)∈Tf p:=List.mem_append_left _ (nT.2 ⟨q,List.mem_append_left _ u,rfl⟩)
  have M:=O3 _ _ _ u
  exact(zu _ _ _ B E).trans (ez bP)
 rw[ez λh=>h1 (cY.1 h)]
 by_cases h2:s∈ot p
 .rw[fi (cY.2 h2)]
  unfold ot at h2
  rw[<- CC p.iN p.lines.length]at h2
  obtain⟨c,hc,rfl⟩:=nT.1 h2
  obtain⟨q,u,rfl⟩:=nT.1 hc
  have E:(q.1.name,xe p q.2,q.1.at_)∈Tf p:=List.mem_append_left _ (nT.2 ⟨q,List.mem_append_right _ u,rfl⟩)
  have J:=O4 _ _ _ u
  exact(zu _ _ _ B E).trans (fi J)
 rw[ez λh=>h2 (cY.1 h)]
 by_cases h3:s∈cS p
 .rw[fi (cY.2 h3)]
  obtain⟨c,hc,rfl⟩:=nT.1 h3
  exact zu _ _ (c.name,3,c.at_) B (List.mem_append_right _ (List.mem_append_left _ (nT.2 ⟨c,hc,rfl⟩)))
 rw[ez λh=>h3 (cY.1 h)]
 by_cases h4:s∈Tg p
 .rw[fi (cY.2 h4)]
  obtain⟨t,ht,rfl⟩:=nT.1 h4
  exact zu _ _ (t.name,4,t.at_) B (List.mem_append_right _ (List.mem_append_right _ (nT.2 ⟨t,ht,rfl⟩)))
 rw[ez λh=>h4 (cY.1 h),Hc _ _ _ (by rw[wi,Js];grind)]
 rfl
def zx{α:Type}{l:List α}{f g:α->Bool}(h:∀x∈l,f x=g x):l.any f=l.any g:=by
 grind
theorem Li{g:List SI}{n k:ByteArray}{v:Int}(B:∀e∈g,e.2≠0)(h:dG g n=0):dG (g++[(n,v)]) k=if n=k then v else dG g k:=by
 induction g with
 | nil=>simp_all[dG,SI]
 | cons e r G=>
  have u:=B e (oj ..)
  have J:¬ e.1=n:=λI=>by
   have:dG (e::r) n=e.2:=by simp_all[dG,SI]
   omega
  have E:dG r n=0:=by
   grind[dG]
  show(if e.1=k then e.2 else dG (r++[(n,v)]) k)=if n=k then v else(if e.1=k then e.2 else dG r k)
  grind
theorem Bh:∀(ns:List ByteArray) (g:List SI),(∀e∈g,e.2≠0)->
  (zq g ns=none/\(¬ ns.Nodup\/∃s∈ns,dG g s≠0))\/∃G,zq g ns=some G/\ns.Nodup/\(∀s∈ns,dG g s=0)/\∀s,dG G s=if 0<=cT ns s then 5 else dG g s
 | [],g,_=>.inr ⟨g,rfl,List.nodup_nil,λs h=>(by cases h),λs=>by rw[ez];exactλh=>by cases cY.1 h⟩
 | n::r,g,hz=>by
  unfold zq
  split
  .rename_i hl
   have J:∀e∈g++[(n,(5:Int))],e.2≠0:=by
    grind
   have B:=λk=>Li (k:=k) (v:=5) hz hl
   rcases Bh r _ J with⟨h1,h2⟩|⟨G,h1,h2,h3,h4⟩
   .grind
   .have E:n ∉ r:=λM=>cR
    refine .inr ⟨G,h1,yQ.2 ⟨E,h2⟩,λs u=>?_,λs=>?_⟩
    .rcases oS.1 u with rfl|u
     .exact hl
     .have:=h3 s u;rw[B,ez λe:n=s=>E (e▸u)]at this;exact this
    .rw[h4,B]
     by_cases u:s∈r
     .rw[fi (cY.2 u),fi (cY.2 (o5 _ u))]
     .rw[ez λh=>u (cY.1 h)]
      by_cases I:n=s
      .rw[fi I,fi (cY.2 (by rw[I];exact oj ..))]
      .rw[ez I,ez λh=>(oS.1 (cY.1 h)).elim (λe=>I e.symm) u]
  grind
theorem EY{l:List SI}(u:(l.map (·.1)).Nodup)(s:ByteArray):dG (l.filter λp=>decide (¬ p.2=4)) s=if dG l s=4 then 0 else dG l s:=by
 induction l with
 | nil=>rfl
 | cons e r B=>
  rw[Dz,yQ]at u
  have B:=B u.2
  have I:e.1=s->dG r s=0:=λh=>tz λq E J=>u.1 (nT.2 ⟨q,E,cR⟩)
  have G:dG (e::r) s=if e.1=s then e.2 else dG r s:=rfl
  rw[List.filter_cons,G]
  by_cases h4:e.2=4
  .grind
  .rw[fi (by simp[h4])]
   show(if e.1=s then e.2 else dG _ s)=_
   grind
def O6{l:List SI}{k:ByteArray}{v:Int}(h:(l.map (·.1)).Nodup):((tB l k v).map (·.1)).Nodup:=by
 unfold tB
 grind
theorem O7(p:bQ):((xf p).1.map (·.1)).Nodup:=by
 rw[Jr]
 have:∀(l:List (ByteArray×Int×Int)) (st:List SI×Bool×Int),(st.1.map (·.1)).Nodup->((tU l st).1.map (·.1)).Nodup:=by
  intro l
  induction l with
  | nil=>intro st h;exact h
  | cons q r u=>intro st h;exact u (OQ st q) (O6 h)
 grind
theorem CG{p:bQ}(J:jr (ik p)=false)(u:List ByteArray) :
  (Lh (xf p).1 u=none/\sF p u=true)\/∃g,Lh (xf p).1 u=some g/\sF p u=false/\(∀s∈u,s ∉ cX p/\s ∉ cS p)/\
   ∀s,dG g s=if 0<=cT u s then 5 else if 0<=cT (fT p) s then 1 else if 0<=cT (ot p) s then 2 else if 0<=cT (cS p) s then 3 else 0:=by
 have I:∀s,dG ((xf p).1.filter λp=>decide (¬ p.2=4)) s=if 0<=cT (fT p) s then 1 else if 0<=cT (ot p) s then 2 else if 0<=cT (cS p) s then 3 else 0:=by
  intro s
  rw[EY (O7 p),Jt J]
  omega
 have hc:∀s,dG ((xf p).1.filter λp=>decide (¬ p.2=4)) s≠0↔(s∈cX p\/s∈cS p):=by
  intro s
  rw[I,mq,pJ,<- cY (ns:=fT p),<- cY (ns:=ot p),<- cY (ns:=cS p)]
  omega
 unfold Lh
 rcases Bh u ((xf p).1.filter λp=>decide (¬ p.2=4)) (λe M=>Hd p e (Jw.1 M).1)with⟨h1,h2⟩|⟨g,h1,h2,h3,h4⟩
 .refine .inl ⟨h1,(EW p u).2 ?_⟩
  grind
 have G:∀s∈u,s ∉ cX p/\s ∉ cS p:=λs B=>by
  have h:=h3 s B
  exact⟨λE=>(hc s).2 (.inl E) h,λE=>(hc s).2 (.inr E) h⟩
 refine .inr ⟨g,h1,?_,G,λs=>by rw[h4,I]⟩
 cases hr:sF p u with
 | false=>rfl
 | true=>
  rcases(EW p u).1 hr with h|⟨s,B,h⟩
  .grind
  .rcases h with h|h
   .exact absurd h (G s B).1
   .exact absurd h (G s B).2
def xH(g:List SI)(u:UU):Bool:=!u.2.2.any λm=>decide (m=dG g u.1)
theorem EZ{g:List SI}{u:List ByteArray}(l:List bI)(h:∀s,dG g s=5↔s∈u):(we l).any (xH g)=qt l u:=by
 rw[yh]
 unfold we mn qt xH
 simp only[List.any_map,tP,Jw,Function.comp_apply,Ld,P7,Py,px,decide_eq_false_iff_not,nw,decide_eq_true_eq,u9]
 grind
def He(p:bQ)(s:ByteArray):s∈fT p↔0<=cT (cX p) s/\cT (cX p) s<ee p:=by
 rw[cY,show fT p=(cX p).take (ee p).toNat from rfl]
 have B:0<=ee p:=by unfold ee;omega
 constructor
 .intro h
  have u:=EG h
  have:=(lK u).2 h
  exact⟨u,bP⟩
 rintro⟨h1,h2⟩;exact(lK h1).1 bP
theorem acY(k:Int):eg (fa k) 110=decide (k=2\/k=3\/k=4\/k=5\/k=6\/k=9\/k=10):=by
 unfold fa
 split
 .rw[ga bP];decide
 rename_i h
 obtain rfl|rfl|rfl|rfl|rfl|rfl|rfl|rfl|rfl|rfl|rfl|rfl|rfl|rfl:k=1\/k=2\/k=3\/k=4\/k=5\/k=6\/k=7\/k=8\/k=9\/k=10\/k=11\/k=12\/k=13\/k=14:=bP
 all_goals decide
theorem E0:fB ⟨#[]⟩=false:=ea
def Th{p:bQ}{B:List ByteArray}{g:List SI}(I:∀s∈B,s ∉ cX p/\s ∉ cS p)(O:∀s∈cX p,s ∉ cS p)(hsv:∀s∈fT p,s ∉ ot p)
  (E:∀s,dG g s=if 0<=cT B s then 5 else if 0<=cT (fT p) s then 1 else if 0<=cT (ot p) s then 2 else if 0<=cT (cS p) s then 3 else 0) {x:bE}(G:acn x) :
  (wg x).any (xH g)=qu p B x:=by
 have J:∀s,dG g s=5↔s∈B:=λs=>by
  rw[E,<- cY];omega
 have Z:∀s,dG g s=1↔s∈fT p:=λs=>by
  rw[E,<- cY]
  split
  .rename_i h
   have:=I s (cY.1 h)
   rw[mq,pJ]at this
   refine⟨λh=>(by cases h),λh=>absurd (cY.1 h) λu=>this.1 (.inl u)⟩
  omega
 have U:∀s,dG g s=2↔s∈ot p:=λs=>by
  rw[E]
  split
  .rename_i h
   have:=I s (cY.1 h)
   rw[mq,pJ]at this
   grind
  .split
   .grind
   .rw[<- cY];omega
 have W:∀s,dG g s=3↔s∈cS p:=λs=>by
  rw[E]
  split
  .grind
  .split
   .rename_i h;exact⟨λh=>(by cases h),λu=>absurd u (O s (by rw[mq];grind))⟩
   .split
    .rename_i h;exact⟨λh=>(by cases h),λu=>absurd u (O s (by rw[mq];grind))⟩
    .rw[<- cY];omega
 have M:=G.name
 rw[acY]at M
 rw[wh,N4,N4,N4,EZ x.e J,EZ x.f J]
 have hA:(ny x).any (xH g)=(decide (¬ x.eQ=⟨#[]⟩)&&decide (cT B x.eQ<0)):=by
  unfold ny
  split
  .grind
  .rename_i h
   rw[fj h,tx,yh]
   simp only[Ld,P7,Py,xH,px,decide_eq_false_iff_not,decide_eq_true_eq,u9]
   grind
 have Y:(oN x).any (xH g)=(((decide (x.kind=2)||decide (x.kind=3)||decide (x.kind=4))&&decide (cT (cX p) x.name<0)) ||
   ((decide (x.kind=5)||decide (x.kind=6))&&(decide (cT (cX p) x.name<0)||decide (ee p<=cT (cX p) x.name))) ||
   ((decide (x.kind=9)||decide (x.kind=10))&&decide (cT (cS p) x.name<0))):=by
  have hk:=G.kind
  unfold oN
  split
  .rename_i h
   have V:¬ (x.kind=2\/x.kind=3\/x.kind=4\/x.kind=5\/x.kind=6\/x.kind=9\/x.kind=10):=by
    intro u
    rcases M with⟨_,h2⟩|⟨h1,_⟩
    .rw[h,E0]at h2;cases h2
    grind
   grind
  .rename_i h
   have V:x.kind=2\/x.kind=3\/x.kind=4\/x.kind=5\/x.kind=6\/x.kind=9\/x.kind=10:=by
    grind
   have hc:=He p x.name
   rw[yh]
   unfold CF
   simp only[Ld,P7,Py,xH,px,rH,nw,decide_eq_true_eq,u9]
   have e1:=Z x.name;have e2:=U x.name;have e3:=W x.name
   have ec:x.name∈cX p↔x.name∈fT p\/x.name∈ot p:=by rw[mq,pJ]
   have pn:=cY (ns:=cX p) (s:=x.name)
   grind
 rw[hA,Y]
 unfold qu
 grind
def E1{p:bQ}(E:jr (ik p)=false):(∀s∈cX p,s ∉ cS p)/\∀s∈fT p,s ∉ ot p:=by
 have B:((ik p).map bO.name).Nodup:=g7 λh=>by rw[(tC _).2 h]at E;cases E
 rw[Js,P8]at B
 obtain⟨h1,h2,h3⟩:=B
 rw[P8]at h1
 exact⟨λs u I=>h3 s (by rw[<- mq];exact u) s (List.mem_append_left _ I) rfl,λs u G=>h1.2.2 s u s G rfl⟩
def O9{p:bQ}{t:bW}{g:List SI}(u:jr (ik p)=false)(B:Lh (xf p).1 t.dJ=some g)(I:∀x∈t.body,oe x=true):(kF t.body).any (xH g)=t.body.any (qu p t.dJ):=by
 rcases CG u t.dJ with⟨h1,_⟩|⟨M,h1,h2,h3,h4⟩
 .grind
 rw[B]at h1;cases h1
 obtain⟨J,G⟩:=E1 u
 unfold kF
 rw[List.any_flatMap]
 refine zx λx E=>Th h3 J G h4 (vY (I x E))
def Hf{p:bQ}(u:jr (ik p)=false)(l:List bI):(l.any λx=>decide (x.op=2)&&decide (¬ dG (xf p).1 x.name=1))=qt l (fT p):=by
 unfold qt
 refine zx λx _=>?_
 congr 1
 refine gh.2 ?_
 rw[u9,Jt u,<- cY]
 omega
variable (w:World) (K:Value->hM)
def S49(p0:Value):Prop:=
 lW hH (pQ 36 p0) w λp1 a=>aL 40 a λb c=>aL 3 c λd e=>lA 36 p1 e λf=>cF 108 [f] e λg h=>xT g 0 λj=>xT g 1 λk=>xT g 2 λl=>lA 36 p1 h λn=>
 cF 109 [n] h λo p=>dW hH (Op.unary .not o) λq=>cV q (sA 40 b (i 8) p λs=>sA 3 d (i 0) s λt=>lA 40 b t λr=>lA 3 d t λKv=>K (.tuple #[r,Kv]) t) (lA 36 p1 p λu=>
 cF 110 [u] p λv x=>cV v (sA 40 b (i 2) x λy=>sA 3 d (i 0) y λz=>lA 40 b z λWj=>lA 3 d z λr_3=>K (.tuple #[Wj,r_3]) z) (lA 36 p1 x λaa=>cF 111 [aa] x λab ac=>
 lN 33 ab λad=>jC (λK1 ae O=>∀_:Env,
 bA .lss 3 ae ad λag=>cV ag (iA 33 ab ae λah=>lA 114 ah O λai=>aL 114 O λt8 aj=>sA 114 t8 ai aj λak=>fA 114 t8 2 λal=>lA 112 al ak λam=>cF 112 [am,(i 1)] ak λan ao=>
 xT an 0 λap=>xT an 1 λaq=>cV aq (sA 40 b (i 11) ao λar=>sA 3 d ap ar λE=>lA 40 b E λr_4=>lA 3 d E λr_5=>K (.tuple #[r_4,r_5]) E) (bB .add 3 ae (i 1) λau=>
 K1 au ao)) (cV l (sA 40 b (i 10) O λav=>sA 3 d k av λaw=>lA 40 b aw λr_6=>lA 3 d aw λr_7=>K (.tuple #[r_6,r_7]) aw) (lA 36 p1 O λax=>cF 111 [ax] O λay az=>
 lN 33 ay λa0=>jC (λK2 a2 W=>∀_:Env,
 bA .lss 3 a2 a0 λa4=>cV a4 (iA 33 ay a2 λa5=>lA 114 a5 W λa6=>aL 114 W λG a7=>sA 114 G a6 a7 λa8=>lA 114 G a8 λa9=>cF 113 [a9,j] a8 λba bb=>xT ba 0 λ_=>
 xT ba 1 λbc=>cV bc (fA 114 G 3 λbd=>lA 3 bd (drew bb) λbe=>sA 40 b (i 10) (drew bb) λbf=>kA 3 bd be bf (sA 3 d be bf λbg=>lA 40 b bg λr_8=>lA 3 d bg λr_9=>
 K (.tuple #[r_8,r_9]) bg)) (bB .add 3 a2 (i 1) λbh=>K2 bh bb)) (lA 36 p1 W λbi=>cF 111 [bi] W λbj bk=>lN 33 bj λbl=>nX (λK3 ds bm Y=>∀_:Env,
 bA .lss 3 bm bl λbo=>cV bo (iA 33 bj bm λbp=>lA 114 bp Y λbq=>aL 114 Y λI br=>sA 114 I bq br λbs=>lA 114 I bs λbt=>cF 113 [bt,j] bs λbu bv=>xT bu 0 λbw=>
 xT bu 1 λ_=>aL 184 bv λU bx=>sA 184 U bw bx λbz=>fA 114 I 2 λb0=>lA 112 b0 bz λb1=>cF 114 [b1] bz λb2 b3=>ud hH b2 1 b3 (λa1 b4 B1 R1=>
 aL 196 b4 λB b5=>sA 196 B (yp a1 0) b5 λb6=>B1 b6 λJ=>fA 196 B 2 λb8=>lA 22 b8 J λb9=>lA 184 U J λca=>fA 196 B 0 λcb=>lA 9 cb J λcc=>
 Aw hH (qn 184 ca cc false) J λcd=>cF 115 [b9,cd] J λce cf=>dW hH (Op.unary .not ce) λcg=>cV cg (fA 196 B 1 λch=>lA 3 ch (drew cf) λci=>
 sA 40 b (i 9) (drew cf) λcj=>kA 3 ch ci cj (sA 3 d ci cj λck=>R1 (some .ret) ck)) (R1 none cf)) (Wc (λD cl=>bB .add 3 bm (i 1) λcm=>K3 (iQ (D::(uc ds))) cm cl)
 (λD cn=>ju (D::(uc ds)) cn λco=>lA 40 b co λait=>lA 3 d co λaiu=>K (.tuple #[ait,aiu]) co) λ_ _ _=>False)) (fA 36 p1 5 λcp=>lA 34 cp Y λcq=>
 lN 34 cq λcr=>jC (λK4 cs ct=>∀_:Env,
 bA .lss 3 cs cr λcu=>cV cu (iA 34 cq cs λcv=>lA 95 cv ct λcw=>aL 95 ct λV cx=>sA 95 V cw cx λcy=>fA 95 V 0 λcz=>lA 92 cz cy λc0=>lN 92 c0 λc1=>
 jC (λK5 c2 c3=>∀_:Env,
 bA .lss 3 c2 c1 λc4=>cV c4 (iA 92 c0 c2 λc5=>lA 183 c5 c3 λc6=>aL 183 c3 λZ c8=>sA 183 Z c6 c8 λM=>eo (λK6=>fA 183 Z 0 λda=>lA 3 da M λdb=>
 bB .eql 3 db (i 2) λdc=>cV dc (fA 183 Z 2 λdd=>lA 9 dd M λde=>Aw hH (qn 184 j de false) M λdf=>bB .neq 3 df (i 1) λdg=>K6 dg M) (K6 ff M))
 (λdh di=>∀_:Env,
 cV dh (fA 183 Z 3 λdj=>lA 3 dj (drew di) λdk=>sA 40 b (i 9) (drew di) λdl=>kA 3 dj dk dl (sA 3 d dk dl λdm=>ju (uc ds) dm λdn=>lA 40 b dn λaiv=>lA 3 d dn λaiw=>
 K (.tuple #[aiv,aiw]) dn)) (bB .add 3 c2 (i 1) λdp=>K5 dp di))) (bB .add 3 cs (i 1) λdq=>K4 dq c3)) λK5=>K5 (i 0) cy) (sA 40 b (i 0) ct λdr=>sA 3 d (i 0) dr λdt=>
 ju (uc ds) dt λdu=>lA 40 b du λaix=>lA 3 d du λaiy=>K (.tuple #[aix,aiy]) du)) λK4=>K4 (i 0) Y)) λK3=>K3 (iQ []) (i 0) bk)) λK2=>K2 (i 0) az)))
 λK1=>K1 (i 0) ac))
def P49:dI:=λi=>match i with
 | 20=>(.of [(0,[]),(1,[]),(2,[1]),(3,[])])
 | 29=>(.of [(0,[]),(1,[]),(2,[1]),(3,[])])
 | 38=>(.of [(0,[]),(1,[]),(2,[1]),(3,[])])
 | _=>.nil
theorem Xj(p0:Value)(h:S49 w K p0):CR 49 [p0] w K:=
 lE 128 P49 12 [.cell 2 40,.cell 3 3] Tryz.func49 h
theorem aiz:PL 49:=dF Tryz.func49
theorem ac0:PL 115:=dF Tryz.func115
theorem ac1:PL 219:=dF Tryz.func219
end Go.Proofs.YtdncbeepkacgbaaGreatDoor
namespace Go.Proofs.YtdncbeepkacgbaaGreatDoor
open Go.Fw
def C219(M:Value)(ns:List Int)(s:Int)(w:World)(I:dy (λ_=>True) w M ns)(W:ns.length<=1048576):CR 219 [M,hU s] w (λv w'=>v=hU (pg (λy=>decide (y=s)) ns)/\Ext w w'):=by
 have u:=St.start w;refine eT Tryz.func219 ?_;refine aI dz (I.ext u.aF) ?_;refine⟨λm x J=>∃k:Nat,x=hU (k:Int)/\m=ns.length-k/\k<=ns.length/\(∀y∈ns.take k,decide (y=s)=false)/\St w bF [] J,⟨_,0,rfl,rfl,mr _,ew,u⟩,?_⟩;rintro m _ J ⟨k,rfl,rfl,Y,B,u⟩ _;refine aS (aC (λV=>?_) λ_=>⟨gj (mj .i64) (gy (by rw[kE bP]at B;exact B)).symm,u.aF⟩);obtain⟨U,E⟩:=gx ns (i:=(k:Int).toNat) bP;exact aZ dz I bP E (λ_ O=>aE bL (O.ext u.aF) (aG (aC (λG=>⟨gj (mj .i64) (jA B E (fj G.symm)).symm,u.aF⟩) λG=>aK bP ⟨_,bP,k+1,rfl,rfl,bP,eE B E (ga λh=>G h.symm),u⟩)))
def C115(B:Value)(ns:List Int)(s:Int)(w:World)(E:dy (λ_=>True) w B ns)(G:ns.length<=1048576):CR 115 [B,hU s] w (λv w'=>v=.bool (ns.any λy=>decide (y=s))/\Ext w w'):=by
 have u:=St.start w;refine eT Tryz.func115 ?_;exact aR ac1 u (C219 _ _ _ _ (E.ext u.aF) bP) (λ_ _ u=>cJ ⟨vb (iB _ _),u.aF⟩)
end Go.Proofs.YtdncbeepkacgbaaGreatDoor
