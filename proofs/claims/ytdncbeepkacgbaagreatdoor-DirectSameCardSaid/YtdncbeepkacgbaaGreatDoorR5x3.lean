/-
  Part 3.
-/
import Derived.Test.YtdncbeepkacgbaaGreatDoorR5x2
set_option maxHeartbeats 8000000
set_option linter.all false
set_option maxRecDepth 100000
open Go.Fw.Flat renaming val->jj,enc->jl,sz->og
open ByteArray renaming mk->jY,size_extract->acG,size->adi
open List renaming getElem?_eq_some_iff->j0,length_append->lJ,getElem?_eq_getElem->l0,mem_of_getElem?->ml,length_singleton->mv,take_of_length_le->mH,length_take->n0,length_map->oi,append_assoc->o1,getElem?_eq_none->o4,replicate->o6,getD_eq_getElem?_getD->pd,mem_map->pB,getElem?_map->qa,range->qi,mem_append->qC,getElem?_append_left->s7,mem_cons->ta,length_replicate->tr,length_drop->tx,drop_drop->uL,map_append->vB,length_eq_zero_iff->vI,drop_eq_getElem_cons->vP,nil_append->wc,any_eq_true->wk,drop_eq_nil_of_le->xr,any_eq_false->xC,length_nil->x7,take_add_one->yC,getElem?_eq_none_iff->zH,getElem_of_mem->zN,ext_getElem?->AY,range_succ->B8,getElem?_set_self->C0,mem_range->Ie,map_cons->IV,filter_append->JC,nodup_cons->JV,map_map->JZ,getElem?_set_ne->J0,mem_filter->ND,toArray->P0,getElem?_eraseIdx_of_lt->Q5,getElem?_eraseIdx_of_ge->Rk,forIn_cons->VD,mem_range'->VV,getElem_inj->aaM,filter_nil->abE,drop_zero->ab3,range'->ada
open Option renaming bind_some->nY,some->o5,map_some->EO
open Bool renaming and_eq_true->n3,or_eq_false_iff->sn,not_eq_true'->sV,and_eq_false_iff->Ev,false_or->T6
open Go.Fw.Deep renaming dr->n4
open Go.Value renaming int->n5,bool->vO,string->Ic
open Nat renaming zero_le->ob,le_refl->qQ,zero_add->uf,add_sub_cancel->FD,min_eq_left->Hx,le_of_lt->U8,mul_one->WD,sub_zero->YF,div_one->ac9
open Go.Instr renaming sliceAt->pA,mapUpdate->rN,lookup->ua,index->uG,sliceBounds->u1,makeMap->Kv,findKey->NR,checkKey->On,keyThatStays->Pw,findAsking->U0
open Int renaming toNat_natCast->s6,mul_le_mul->Mi,add_comm->acH
open Decidable renaming not_not->DY
open Array renaming toList_push->YH
namespace Go.Fw
open Go.MapKept (Stamped IsKey)
open Go.ChangeMaps (setBlock)
def nA(w:World)(b:Nat)(ks:List Int)(vs:List Value):Prop:=
 ∃es clock,w.heap[b]?=some (.map es clock)/\Stamped es clock/\es.toList.map (·.key)=ks.map (n5 .i64)/\es.toList.map (·.val)=vs
def lu:List Int->Int->Option Nat
 | [],_=>none
 | x::xs,k=>if x=k then some 0 else(lu xs k).map (· + 1)
theorem lg:∀{ks:List Int}{k:Int}{j:Nat},lu ks k=some j->ks[j]?=some k
 | x::xs,k,j,h=>by
  unfold lu at h
  split at h
  .grind
  .cases hh:lu xs k with
   | none=>grind
   | some i=>rw[hh]at h;simp at h;subst h;simpa using lg hh
theorem nB:∀{ks:List Int}{k:Int},lu ks k=none↔k ∉ ks
 | [],_=>by simp[lu]
 | x::xs,k=>by
  unfold lu
  by_cases e:x=k
  .simp[e]
  .rw[ew e,Option.map_eq_none_iff,nB,ta]
   grind
theorem tV:∀{ks:List Int}{k:Int}{j:Nat},ks.Nodup->ks[j]?=some k->lu ks k=some j
 | x::xs,k,0,_,h=>by simp at h;simp[lu,h]
 | x::xs,k,j+1,hn,h=>by
  rw[List.getElem?_cons_succ]at h
  have B:=ml h
  have:x≠k:=λe=>(JV.1 hn).1 (e▸B)
  simp[lu,this,tV (JV.1 hn).2 h]
def look{β:Type}(ks:List Int)(vs:List β)(k:Int):Option β:=(lu ks k).bind (vs[·]?)
def vJ{β:Type}(f:Int->β)(k:Int)(x:β):Int->β:=λj=>if j=k then x else f j
section
variable {P:Program}{w w0 w':World}{A:Nat->Prop}{L:List HP}{b:Nat}{ks:List Int}{vs:List Value}
theorem nA.of_eq(h:nA w b ks vs)(B:w'.heap[b]?=w.heap[b]?):nA w' b ks vs:=by
 grind[nA]
theorem nA.lt(h:nA w b ks vs):b<w.heap.size:=by obtain⟨es,c,h1,_⟩:=h;grind
theorem nA.ext(h:nA w b ks vs)(e:Ext w w'):nA w' b ks vs:=h.of_eq (e.bU b h.lt λh=>h)
theorem nA.len(h:nA w b ks vs):ks.length=vs.length:=by
 obtain⟨es,c,_,_,h3,h4⟩:=h
 have:=gD List.length h3;grind
theorem nA.nodup(h:nA w b ks vs):ks.Nodup:=by
 obtain⟨es,c,_,h2,h3,h4⟩:=h
 have:=h2.2.2
 grind
def Kq(b:Nat)(ks:List Int)(vs:List Value):HP where
 p w F:=nA w b ks vs/\∀k,F k↔k=b
 loc w w' F h hh:=⟨h.1.of_eq (hh b ((h.2 b).2 rfl)),h.2⟩
 lt w F b' h hb:=by rw[(h.2 b').1 hb];exact h.1.lt
theorem Yp{es:Array MapEntry}(h3:es.toList.map (·.key)=ks.map (n5 .i64)):∀x∈es.toList,IsKey (.int .i64) x.key:=by
 intro x B
 have:x.key∈es.toList.map (·.key):=pB.2 ⟨x,B,rfl⟩
 rw[h3]at this
 obtain⟨k,_,e⟩:=pB.1 this
 rw[<- e];simp[IsKey]
theorem Ip{T:TypeId}{k:Int}{es:Array MapEntry}(B:P.underlying T=some (.int .i64))(E:ks.Nodup)(h3:es.toList.map (·.key)=ks.map (n5 .i64)) :
  (lu ks k=none/\(NR T (iE k) es.toList).run P w=.ok none w)\/∃j e,lu ks k=some j/\es.toList[j]?=some e/\e.key=iE k/\(NR T (iE k) es.toList).run P w=.ok (some (j,e.val)) w:=by
 rcases MapKept.findNow_spec (d:=.int .i64) (k:=iE k) (by simp[IsKey]) es.toList 0 (Yp h3)with⟨h1,h2⟩|⟨j,e,h1,h2,h4⟩
 .refine .inl ⟨nB.2 λG=>?_,MapKept.run_findKey B h1⟩
  have:n5 .i64 k∈es.toList.map (·.key):=dH
  grind
 refine .inr ⟨j,e,tV E ?_,h2,h4,by rw[uf]at h1;exact MapKept.run_findKey B h1⟩
 have:(es.toList.map (·.key))[j]?=some (iE k):=dH
 grind
theorem qM{T I E:TypeId}{z:Value}{k:Int}(h:nA w b ks vs)(ht:P.underlying T=some (.map I E))(J:P.underlying I=some (.int .i64))(B:n6 P E z) :
  (ua T (.map (some b)) (iE k) false).run P w=.ok ((look ks vs k).getD z) w:=by
 have O:=h.nodup
 obtain⟨es,c,h1,h2,h3,h4⟩:=h
 have G:(zeroValue E).run P w=.ok z w:=by
  unfold n6 dW at B
  cases hi:P.info? E with
  | none=>grind
  | some i=>
   rw[hi]at B
   simp only[EO,o5.injEq]at B
   refine fx ?_ w
   unfold zeroValue;rw[cH,l7 hi];simp only[nY,B];rfl
 have hc:=MapKept.run_checkKey (P:=P) (w:=w) (kt:=I) (k:=iE k) J (by simp[IsKey]) es.isEmpty 9999
 rcases Ip (w:=w) (k:=k) J O h3 with⟨h5,h6⟩|⟨j,e,h5,h6,U,M⟩
 .simp[ua,run_underlying ht,MapKept.run_getObj_map h1,hc,h6,G,Result.andThen,look,h5]
 have:vs[j]?=some e.val:=dH
 simp[ua,run_underlying ht,MapKept.run_getObj_map h1,hc,M,Result.andThen,look,h5,this]
theorem jZ(o:Obj)(hb:b<w.heap.size):(setBlock w b o).heap[b]?=some o:=by simp[setBlock,hb]
theorem gZ.setBlock(w:World)(b:Nat)(o:Obj):gZ (· = b) w (setBlock w b o):=
 ⟨rfl,rfl,rfl,by simp[ChangeMaps.setBlock],λk _ B=>by simp only[ChangeMaps.setBlock];grind⟩
theorem nD{es:Array MapEntry}{clock:Nat}{o:Obj}(h1:w.heap[b]?=some (.map es clock)):(setObj b o).run P w=.ok () (setBlock w b o):=by
 simp[setObj,Sem.run,h1,setBlock]
theorem V4{T J E:TypeId}{v:Value}{k:Int}(h:nA w b ks vs)(ht:P.underlying T=some (.map J E))(O:P.underlying J=some (.int .i64)) :
  ∃w',(rN T (.map (some b)) (iE k) v).run P w=.ok () w'/\gZ (· = b) w w'/\
   (match lu ks k with|some j=>nA w' b ks (vs.set j v)|none=>nA w' b (ks++[k]) (vs++[v])):=by
 have Y:=h.nodup
 have M:=h.lt
 obtain⟨es,c,h1,h2,h3,h4⟩:=h
 have hc:=MapKept.run_checkKey (P:=P) (w:=w) (kt:=J) (k:=iE k) O (by simp[IsKey]) false 9999
 rcases Ip (w:=w) (k:=k) O Y h3 with⟨h5,h6⟩|⟨j,e,h5,h6,V,W⟩
 .refine⟨_,?_,gZ.setBlock w b (.map (es.push ⟨iE k,v,c⟩) (c+1)),?_⟩
  .simp[rN,run_underlying ht,MapKept.run_getObj_map h1,hc,h6,nD h1,Result.andThen]
  rw[h5]
  refine⟨_,_,jZ _ M,MapKept.stamped_push h2 λx hx e=>?_,by simp[h3],by simp[h4]⟩
  have:x.key∈es.toList.map (·.key):=pB.2 ⟨x,hx,rfl⟩
  rw[h3,e]at this
  obtain⟨k',I,B⟩:=pB.1 this
  simp at B
  exact nB.1 h5 (B▸I)
 have Z:es[j]?=some e:=dH
 have U:(Pw e.key (iE k)).run P w=.ok (iE k) w:=by
  rw[V];unfold Pw;simp[Instr.sameBits]
 refine⟨_,?_,gZ.setBlock w b (.map (es.modify j λe=>{e with key:=iE k,val:=v}) c),?_⟩
 .simp[rN,run_underlying ht,MapKept.run_getObj_map h1,hc,W,nD h1,Result.andThen,Z,U]
 rw[h5]
 have I:∀B,es[j]?=some B->({B with key:=iE k,val:=v}:MapEntry).key=B.key:=λB G=>by
  grind
 refine⟨_,_,jZ _ M,MapKept.stamped_modify h2 j _ (λ_ _=>rfl) (λB _ G=>I B G),?_,?_⟩
 .rw[MapKept.modify_keys j _ I,h3]
 rw[<- h4]
 apply AY
 grind
theorem ahd{T B E R:TypeId}{M:Array TypeId}{k:Int}(h:nA w b ks vs)(I:M[0]?=some T)(ht:P.underlying T=some (.map B E))(J:P.underlying B=some (.int .i64)) :
  ∃w',(Builtin.delete_ M R [.map (some b),iE k].toArray).run P w=.ok (.tuple #[]) w'/\gZ (· = b) w w'/\
   (match lu ks k with|some j=>nA w' b (ks.eraseIdx j) (vs.eraseIdx j)|none=>nA w' b ks vs):=by
 have V:=h.nodup
 have G:=h.lt
 obtain⟨es,c,h1,h2,h3,h4⟩:=h
 have hc:=MapKept.run_checkKey (P:=P) (w:=w) (kt:=B) (k:=iE k) J (by simp[IsKey]) es.isEmpty 9999
 rcases Ip (w:=w) (k:=k) J V h3 with⟨h5,h6⟩|⟨j,e,h5,h6,W,U⟩
 .refine⟨_,?_,gZ.setBlock w b (.map es c),?_⟩
  .simp[Builtin.delete_,I,run_underlying ht,MapKept.run_getObj_map h1,hc,h6,nD h1,Result.andThen]
  rw[h5]
  exact⟨_,_,jZ _ G,h2,h3,h4⟩
 have Y:j<es.size:=dH
 refine⟨_,?_,gZ.setBlock w b (.map (es.eraseIdxIfInBounds j) c),?_⟩
 .simp[Builtin.delete_,I,run_underlying ht,MapKept.run_getObj_map h1,hc,U,nD h1,Result.andThen]
 rw[h5]
 have O:(es.eraseIdxIfInBounds j).toList=es.toList.eraseIdx j:=by
  simp_all
 refine⟨_,_,jZ _ G,MapKept.stamped_erase h2 j,?_,?_⟩
 .rw[O,ChangeMaps.map_eraseIdx,h3,ChangeMaps.map_eraseIdx]
 rw[O,ChangeMaps.map_eraseIdx,h4]
theorem zQ{T:TypeId}{K:Value->iD}(B:St w0 A L w)(k:∀b w',St w0 A (Kq b [] []::L) w'->K (.map (some b)) w'):se P (Kv T none) w K:=
 ⟨_,_,rfl,k _ _ (B.new (Ext.push w (.map #[] 0)) (F:=λk=>k=w.heap.size) ⟨⟨#[],0,nh _ _,MapKept.stamped_empty 0,rfl,rfl⟩,λ_=>Iff.rfl⟩ λb hb=>by rw[hb];exact qQ _)⟩
theorem St.Dc(B:St w0 A (Kq b ks vs::L) w):nA w b ks vs:=by obtain⟨F,h,_⟩:=B.head;exact h.1
theorem jd{T I E:TypeId}{v:Value}{k:Int}{K:iD}(J:St w0 A (Kq b ks vs::L) w)(ht:P.underlying T=some (.map I E))(B:P.underlying I=some (.int .i64))(O:lu ks k=none)
  (M:∀w',St w0 A (Kq b (ks++[k]) (vs++[v])::L) w'->K w'):El P (rN T (.map (some b)) (iE k) v) w K:=by
 obtain⟨w',h1,h2,h3⟩:=V4 (P:=P) (v:=v) (k:=k) J.Dc ht B
 rw[O]at h3
 exact⟨w',h1,M w' (J.qH λF G=>⟨F,⟨h3,G.2⟩,λb hb=>.inl hb,h2.mono λk B=>(G.2 k).2 B⟩)⟩
end
section
variable {α:Type}[Flat α] {P:Program}{w w0 w':World}{A:Nat->Prop}{L:List HP}{b:Nat}{f:Int->List α}
abbrev Gv(s:SV)(x:List α):HP:=bG (jj s) x
def qB(b:Nat)(f:Int->List α):HP:=ph λks=>ph λB:List SV=>ph λE:List (List α)=>fact (f=λk=>(look ks E k).getD []) (sep (Kq b ks (B.map jj)) (gH Gv B E))
def vh(w:World)(b:Nat)(f:Int->List α):Prop:=∃ks,∃B:List SV,nA w b ks (B.map jj)/\(∀(i:Nat) (k:Int) (s:SV),ks[i]?=some k->B[i]?=some s->dP (λ_=>True) w (jj s) (f k))/\∀k,k ∉ ks->f k=[]
theorem vh.ext(h:vh w b f)(e:Ext w w'):vh w' b f:=by
 obtain⟨ks,B,h1,h2,h3⟩:=h;exact⟨ks,B,h1.ext e,λi k s a c=>(h2 i k s a c).ext e,h3⟩
theorem q9{β:Type}{ks:List Int}{xs:List β}{k:Int}{i:Nat}{x:β}(B:ks.Nodup)(h1:ks[i]?=some k)(h2:xs[i]?=some x):look ks xs k=some x:=by
 unfold look;rw[tV B h1];exact h2
theorem qN{β:Type}{ks:List Int}{xs:List β}{k:Int}(h:k ∉ ks):look ks xs k=none:=by unfold look;rw[nB.2 h];rfl
theorem qB.rd{F:Nat->Prop}(h:(qB b f).p w F):vh w b f:=by
 obtain⟨ks,G,B,I,V,U,h1,h2,_,_⟩:=h
 refine⟨ks,G,h1.1,λi k s E J=>?_,λk E=>by rw[I];dsimp only;rw[qN E];rfl⟩
 have W:=EK h2
 have hi:i<B.length:=by have:=(j0.1 J).1;omega
 have M:B[i]?=some B[i]:=l0 hi
 have O:St w U [gH Gv G B] w:=St.begin h2
 have:=O.ag0 J M (Φ:=λw=>dP (λ_=>True) w (jj s) B[i]) λh=>(bG.rd h).mono λ_ _=>trivial
 rw[I];dsimp only
 rw[q9 h1.1.nodup E M];exact this
theorem St.abC(B:St w0 A (qB b f::L) w):vh w b f:=by obtain⟨F,h,_⟩:=B.head;exact qB.rd h
theorem vh.look{T J E:TypeId}{k:Int}(h:vh w b f)(ht:P.underlying T=some (.map J E))(O:P.underlying J=some (.int .i64))(U:n6 P E (.slice none 0 0)) :
  ∃s:SV,(ua T (.map (some b)) (iE k) false).run P w=.ok (jj s) w/\dP (λ_=>True) w (jj s) (f k):=by
 obtain⟨ks,B,h1,h2,h3⟩:=h
 have I:=qM (P:=P) (k:=k) h1 ht O U
 cases oH:lu ks k with
 | none=>
  have:Fw.look ks (B.map jj) k=none:=by unfold Fw.look;grind
  rw[this]at I
  exact⟨bO,I,by rw[h3 k (nB.1 oH)];exact dP.nil _ _⟩
 | some j=>
  have W:=lg oH
  have V:=h1.len
  have G:j<B.length:=dH
  have M:B[j]?=some B[j]:=l0 G
  have:Fw.look ks (B.map jj) k=some (jj B[j]):=by unfold Fw.look;grind
  grind
theorem vh.asS{T J E:TypeId}{k:Int}(h:vh w0 b f)(ht:P.underlying T=some (.map J E))(O:P.underlying J=some (.int .i64))(U:n6 P E (.slice none 0 0)) :
  ∃s:SV,(∀w,Ext w0 w->(ua T (.map (some b)) (iE k) false).run P w=.ok (jj s) w)/\dP (λ_=>True) w0 (jj s) (f k):=by
 obtain⟨ks,B,h1,h2,h3⟩:=h
 have I:∀w,Ext w0 w->_:=λw e=>qM (P:=P) (k:=k) (h1.ext e) ht O U
 cases oH:lu ks k with
 | none=>
  have:Fw.look ks (B.map jj) k=none:=by unfold Fw.look;grind
  rw[this]at I
  exact⟨bO,I,by rw[h3 k (nB.1 oH)];exact dP.nil _ _⟩
 | some j=>
  have W:=lg oH
  have V:=h1.len
  have G:j<B.length:=dH
  have M:B[j]?=some B[j]:=l0 G
  have:Fw.look ks (B.map jj) k=some (jj B[j]):=by unfold Fw.look;grind
  grind
theorem EU{T B E:TypeId}{k:Int}{K:Value->Prop}(h:vh w0 b f)(e:Ext w0 w)(ht:P.underlying T=some (.map B E))(G:P.underlying B=some (.int .i64))(J:n6 P E (.slice none 0 0))
  (I:∀s:SV,dP (λ_=>True) w0 (jj s) (f k)->K (jj s)):GK P (ua T (.map (some b)) (iE k) false) w K:=by
 obtain⟨s,h1,h2⟩:=h.asS (P:=P) (k:=k) ht G J;exact⟨_,h1 w e,I s h2⟩
def PX(b:Nat)(f:Int->List α)(k:Int)(s:SV):HP:=ph λks=>ph λE:List SV=>ph λG:List (List α)=>ph λvs:List Value=>
 fact ((∀B,B≠k->f B=(look ks G B).getD [])/\look ks vs k=(lu ks k).map (λ_=>jj s)/\(lu ks k=none->s=bO)/\vs.length=E.length/\∀(i:Nat) (B:Int),ks[i]?=some B->B≠k->vs[i]?=(E[i]?).map jj) (sep (Kq b ks vs) (gH Gv E G))
theorem St.Iq{k:Int}(B:St w0 A (qB b f::L) w):∃s:SV,St w0 A (bG (jj s) (f k)::PX b f k s::L) w:=by
 obtain⟨ks,B⟩:=B.dU;obtain⟨E,B⟩:=B.dU;obtain⟨G,B⟩:=B.dU;obtain⟨M,B⟩:=B.lq
 replace B:=B.split
 have W:=B.Dc
 have hl:=W.len
 have GR:=B.p1.gh
 have Y:=W.nodup
 rw[oi]at hl
 cases oH:lu ks k with
 | none=>
  refine⟨bO,?_⟩
  have hx:look ks G k=none:=by unfold look;rw[oH];rfl
  have e:f k=[]:=by rw[M];dsimp only;rw[hx];rfl
  rw[e]
  refine(St.dX ks (St.dX E (St.dX G (St.dX (E.map jj) (St.nx ⟨λO _=>by rw[M],by unfold look;rw[oH];rfl,λ_=>rfl,by rw[oi],λi O _ _=>by rw[qa]⟩ (St.join B)))))).eU
 | some j=>
  have U:=lg oH
  have Z:=(j0.1 U).1
  have I:E[j]?=some (E[j]'(cU)):=l0 _
  have J:G[j]?=some (G[j]'(cU)):=l0 _
  refine⟨E[j]'(cU),?_⟩
  have e:f k=G[j]'(cU):=by rw[M];dsimp only;rw[q9 Y U J];rfl
  rw[e]
  have h1:=(B.p1.focus I J).p1
  have h2:=(h1.eU (α:=α)).p1
  have h3:St w0 A (Gv (bO:SV) ([]:List α)::oF Gv E G j::_::_::L) w:=h2.p1
  have h4:=h3.Ia cU GR
  have h5:=h4.p2
  refine(St.dX ks (St.dX (E.set j bO) (St.dX (G.set j []) (St.dX (E.map jj) (St.nx ⟨λO V=>?_,by unfold look;rw[oH];simp[I],λh=>(by cases oH.symm.trans h),et,λi O hi V=>?_⟩ (St.join h5)))))).p1
  .rw[M];dsimp only
   unfold look
   cases hq:lu ks O with
   | none=>rfl
   | some i=>
    have:j≠i:=λe=>V (by have:=lg hq;rw[<- e,U]at this;exact(o5.inj this).symm)
    simp[this]
  .rw[qa,J0]
   rintro rfl
   rw[U]at hi;exact V (o5.inj hi).symm
theorem St.EV{T G E:TypeId}{k:Int}{s:SV}(B:St w0 A (PX b f k s::L) w)(ht:P.underlying T=some (.map G E))(I:P.underlying G=some (.int .i64))(J:n6 P E (.slice none 0 0)) :
  (ua T (.map (some b)) (iE k) false).run P w=.ok (jj s) w:=by
 obtain⟨ks,B⟩:=B.dU;obtain⟨M,B⟩:=B.dU;obtain⟨O,B⟩:=B.dU;obtain⟨vs,B⟩:=B.dU;obtain⟨⟨_,h2,h3,_⟩,B⟩:=B.lq
 have:=qM (P:=P) (k:=k) B.split.Dc ht I J
 rw[h2]at this
 cases oH:lu ks k with
 | none=>rw[oH]at this;rw[h3 oH];exact this
 | some j=>rw[oH]at this;exact this
theorem St.abD{k:Int}{s:SV}{xs:List α}(B:St w0 A (bG (jj s) xs::PX b f k s::L) w):St w0 A (qB b (vJ f k xs)::L) w:=by
 replace B:=B.p1
 obtain⟨ks,B⟩:=B.dU;obtain⟨G,B⟩:=B.dU;obtain⟨M,B⟩:=B.dU;obtain⟨vs,B⟩:=B.dU;obtain⟨⟨hf,h2,h3,hvs,J⟩,B⟩:=B.lq
 replace B:=B.split
 have Z:=B.Dc
 have hl:=Z.len
 have hn:=Z.nodup
 have GR:=B.p1.gh
 cases oH:lu ks k with
 | none=>
  have FW:=nB.1 oH
  have I:vs=G.map jj:=AY λi=>by
   cases hi:ks[i]? with
   | none=>rw[zH]at hi;rw[o4 cU,o4 (by rw[oi];omega)]
   | some E=>rw[J i E hi (λe=>FW (e▸ml hi)),qa]
  have hx:xs=[]:=by
   obtain⟨F,h,_⟩:=B.p2.head
   rw[h3 oH]at h
   rcases h with⟨_,h,_⟩|⟨b',cap,rest,h,_⟩
   .exact h
   .cases h
  subst hx
  refine St.dX ks (St.dX G (St.dX M (St.nx ?_ (St.join ?_))))
  .funext E
   unfold vJ
   by_cases e:E=k
   .subst e;rw[ez rfl,qN FW];rfl
   .rw[ew e,hf E e]
  .rw[<- I];exact B.p2.drop
 | some j=>
  have Y:=lg oH
  have hjk:=(j0.1 Y).1
  have O:G[j]?=some (G[j]'(cU)):=l0 _
  have W:M[j]?=some (M[j]'(cU)):=l0 _
  have V:vs[j]?=some (jj s):=by unfold look at h2;rw[oH]at h2;exact h2
  have h6:=((B.p1.focus O W).drop).p2
  have h7:St w0 A (Gv s xs::oF Gv G M j::_::L) w:=h6.p0
  have h8:=h7.Ia cU GR
  refine St.dX ks (St.dX (G.set j s) (St.dX (M.set j xs) (St.nx ?_ (St.join ?_))))
  .funext E
   unfold vJ
   by_cases e:E=k
   .subst e
    rw[ez rfl,q9 hn Y (x:=xs) (by rw[C0 cU])];rfl
   .rw[ew e,hf E e]
    unfold look
    cases hq:lu ks E with
    | none=>rfl
    | some i=>
     have:j≠i:=λU=>e (by have:=lg hq;rw[<- U,Y]at this;exact(o5.inj this).symm)
     simp[this]
  .have e:(G.set j s).map jj=vs:=by
    apply AY
    intro i
    rw[qa]
    by_cases e:j=i
    .subst e;rw[C0 cU,V];rfl
    .rw[J0 e]
     cases hi:ks[i]? with
     | none=>rw[zH]at hi;rw[o4 (show vs.length<=i by omega),o4 (show G.length<=i by omega)];rfl
     | some E=>rw[J i E hi λU=>e (by rw[U]at hi;have h1:=tV hn hi;rw[oH]at h1;exact o5.inj h1)]
   rw[e];exact h8.p1
omit [Flat α]in
theorem Yq{f:Int->List α}{k:Int}:vJ f k (f k)=f:=by
 grind[vJ]
theorem FX{T Kt E:TypeId}{k:Int}{s s':SV}{xs:List α}{K:iD}(B:St w0 A (bG (jj s') xs::PX b f k s::L) w)(ht:P.underlying T=some (.map Kt E))(U:P.underlying Kt=some (.int .i64))
  (kk:∀w',St w0 A (qB b (vJ f k xs)::L) w'->K w'):El P (rN T (.map (some b)) (iE k) (jj s')) w K:=by
 replace B:=B.p1
 obtain⟨ks,B⟩:=B.dU;obtain⟨I,B⟩:=B.dU;obtain⟨J,B⟩:=B.dU;obtain⟨vs,B⟩:=B.dU;obtain⟨⟨hf,h2,h3,hvs,Y⟩,B⟩:=B.lq
 replace B:=B.split
 have hm:=B.Dc
 have hl:=hm.len
 have hn:=hm.nodup
 have GR:=B.p1.gh
 obtain⟨w',r1,r2,M⟩:=V4 (P:=P) (v:=jj s') (k:=k) hm ht U
 refine⟨w',r1,kk w' ?_⟩
 cases oH:lu ks k with
 | none=>
  rw[oH]at M
  have h5:St w0 A (Kq b (ks++[k]) (vs++[jj s'])::_::_::L) w':=B.qH λF W=>⟨F,⟨M,W.2⟩,λb hb=>.inl hb,r2.mono λk U=>(W.2 k).2 U⟩
  have FW:=nB.1 oH
  have O:vs=I.map jj:=AY λi=>by
   cases hi:ks[i]? with
   | none=>rw[zH]at hi;rw[o4 cU,o4 (by rw[oi];omega)]
   | some G=>rw[Y i G hi (λe=>FW (e▸ml hi)),qa]
  have h6:=h5.p1
  have h7:St w0 A (gH Gv (I++[s']) (J++[xs])::_::L) w':=St.CX (H:=Gv (α:=α)) (p:=s') (x:=xs) h6.p2.p1
  refine St.dX (ks++[k]) (St.dX (I++[s']) (St.dX (J++[xs]) (St.nx ?_ (St.join ?_))))
  .funext G
   unfold vJ
   by_cases e:G=k
   .subst e
    rw[ez rfl,q9 (i:=ks.length) M.nodup et (x:=xs) (by rw[List.getElem?_append_right cU];simp[show ks.length-J.length=0 from cU])];rfl
   .rw[ew e,hf G e]
    by_cases yt:G∈ks
    .obtain⟨i,hi,hik⟩:=zN yt
     have V:ks[i]?=some G:=by rw[l0 hi,hik]
     have Z:J[i]?=some (J[i]'(cU)):=l0 _
     rw[q9 hn V Z,q9 (i:=i) M.nodup (by rw[s7 hi];exact V) (by rw[s7 cU];exact Z)]
    .rw[qN yt,qN (by simp[yt,e])]
  .have e:(I++[s']).map jj=vs++[jj s']:=by rw[O,vB];rfl
   rw[e];exact h7.p1
 | some j=>
  rw[oH]at M
  have h5:St w0 A (Kq b ks (vs.set j (jj s'))::_::_::L) w':=B.qH λF W=>⟨F,⟨M,W.2⟩,λb hb=>.inl hb,r2.mono λk U=>(W.2 k).2 U⟩
  have hj:=lg oH
  have hjk:=(j0.1 hj).1
  have hsj:I[j]?=some (I[j]'(cU)):=l0 _
  have hxj:J[j]?=some (J[j]'(cU)):=l0 _
  have h6:=((h5.p1.focus hsj hxj).drop).p2
  have h7:St w0 A (Gv s' xs::oF Gv I J j::_::L) w':=h6.p0
  have h8:=h7.Ia cU GR
  refine St.dX ks (St.dX (I.set j s') (St.dX (J.set j xs) (St.nx ?_ (St.join ?_))))
  .funext G
   unfold vJ
   by_cases e:G=k
   .subst e
    rw[ez rfl,q9 hn hj (x:=xs) (by rw[C0 cU])];rfl
   .rw[ew e,hf G e]
    unfold look
    cases hq:lu ks G with
    | none=>rfl
    | some i=>
     have:j≠i:=λe'=>e (by have:=lg hq;rw[<- e',hj]at this;exact(o5.inj this).symm)
     simp[this]
  .have e:(I.set j s').map jj=vs.set j (jj s'):=by
    apply AY
    intro i
    rw[qa]
    by_cases e:j=i
    .subst e;rw[C0 cU,C0 cU];rfl
    .rw[J0 e,J0 e]
     cases hi:ks[i]? with
     | none=>rw[zH]at hi;rw[o4 (show vs.length<=i by omega),o4 (show I.length<=i by omega)];rfl
     | some G=>rw[Y i G hi λe'=>e (by rw[e']at hi;have h1:=tV hn hi;rw[oH]at h1;exact o5.inj h1)]
   rw[e];exact h8.p1
theorem qc{T:TypeId}{K:Value->iD}(B:St w0 A L w)(k:∀b w',St w0 A (qB b (λ_=>([]:List α))::L) w'->K (.map (some b)) w'):se P (Kv T none) w K:=
 zQ B λb w' h=>k b w' (St.dX [] (St.dX [] (St.dX ([]:List (List α)) (St.nx rfl (St.join ((h.new (Ext.refl w') (H:=gH Gv [] []) (F:=bE) (λ_ h=>h) λ_ h=>h.elim).p1))))))
theorem PY{T Kt E R:TypeId}{k:Int}{A2:Array TypeId}{K:Value->iD}(B:St w0 A (qB b f::L) w)(ha:A2[0]?=some T)(ht:P.underlying T=some (.map Kt E))(V:P.underlying Kt=some (.int .i64))
  (kk:∀v w',St w0 A (qB b (vJ f k [])::L) w'->K v w'):se P (Builtin.delete_ A2 R [.map (some b),iE k].toArray) w K:=by
 obtain⟨ks,B⟩:=B.dU;obtain⟨O,B⟩:=B.dU;obtain⟨U,B⟩:=B.dU;obtain⟨hf,B⟩:=B.lq
 replace B:=B.split
 have Z:=B.Dc
 have hl:=Z.len
 have GR:=B.p1.gh
 have hn:=Z.nodup
 rw[oi]at hl
 obtain⟨w',r1,r2,J⟩:=ahd (P:=P) (R:=R) (k:=k) Z ha ht V
 refine⟨_,w',r1,kk _ w' ?_⟩
 cases oH:lu ks k with
 | none=>
  rw[oH]at J
  have h5:St w0 A (Kq b ks (O.map jj)::_::L) w':=B.qH λF W=>⟨F,⟨J,W.2⟩,λb hb=>.inl hb,r2.mono λk V=>(W.2 k).2 V⟩
  refine St.dX ks (St.dX O (St.dX U (St.nx ?_ (St.join h5))))
  funext k'
  unfold vJ
  by_cases e:k'=k
  .subst e;rw[ez rfl];unfold look;rw[oH];rfl
  .rw[ew e,hf]
 | some j=>
  rw[oH]at J
  have hj:=lg oH
  have hjk:=(j0.1 hj).1
  have h5:St w0 A (Kq b (ks.eraseIdx j) ((O.map jj).eraseIdx j)::_::L) w':=B.qH λF W=>⟨F,⟨J,W.2⟩,λb hb=>.inl hb,r2.mono λk V=>(W.2 k).2 V⟩
  have Y:O[j]?=some (O[j]'(cU)):=l0 _
  have hxj:U[j]?=some (U[j]'(cU)):=l0 _
  have h6:=(h5.p1.focus Y hxj).drop.Yi
  dsimp only at J
  rw[<- ChangeMaps.map_eraseIdx]at h6 J
  refine St.dX (ks.eraseIdx j) (St.dX (O.eraseIdx j) (St.dX (U.eraseIdx j) (St.nx ?_ (St.join h6.p1))))
  funext k'
  unfold vJ
  by_cases e:k'=k
  .subst e
   rw[ez rfl,qN];rfl
   intro OV
   obtain⟨i,hi,G⟩:=zN OV
   rw[List.getElem_eraseIdx]at G
   split at G
   .have:=tV (j:=i) hn (k:=k') (by rw[<- G];exact l0 _);rw[oH]at this;have:=o5.inj this;omega
   .have:=tV (j:=i+1) hn (k:=k') (by rw[<- G];exact l0 _);rw[oH]at this;have:=o5.inj this;omega
  .rw[ew e,hf];dsimp only
   by_cases yt:k'∈ks
   .obtain⟨i,hi,G⟩:=zN yt
    have I:ks[i]?=some k':=by rw[l0 hi,G]
    have M:U[i]?=some (U[i]'(cU)):=l0 _
    have hij:i≠j:=λe'=>e (by rw[e',hj]at I;exact(o5.inj I).symm)
    rw[q9 hn I M]
    by_cases l6:i<j
    .rw[q9 (i:=i) J.nodup (by rw[Q5 l6];exact I) (by rw[Q5 l6];exact M)]
    .rw[q9 (i:=i-1) J.nodup (by rw[Rk cU,show i-1+1=i from cU];exact I) (by rw[Rk cU,show i-1+1=i from cU];exact M)]
   .rw[qN yt,qN λh=>yt ((List.eraseIdx_sublist ks j).subset h)]
end
section
variable {α:Type}[Flat α] {P:Program}{w w0 w':World}{A S:Nat->Prop}{L:List HP}{xs ys:List α}
theorem Ir{T T2 E G b o dn dc:Nat}{z:Option Nat}{R:TypeId}{src:Value}{cs:List Value}(ht:eQ P T=some (E,og α,G,z))(hb:oR w b cs)(B:dP S w src ys)
  (I:ys.length<=dn) (O:o+ys.length*og α<=cs.length) :
  ∃w',(Builtin.copy_ #[T,T2] R [.slice (some ⟨b,o,none⟩) dn dc,src].toArray).run P w=.ok (iE ys.length) w'/\oR w' b (iV cs o (flat ys))/\gZ (· = b) w w':=by
 obtain⟨Z,Y,hi,V,BK,_⟩:=gw ht
 have M:=AB (α:=α) (P:=P) (sz:=og α) rfl B
 have rd:=B
 obtain⟨sa,U,rfl,W,J⟩:=rd
 obtain⟨w',h1,h2,h3⟩:=nR (P:=P) (o:=o) (flat ys) 0 cs w hb (by rw[dO];omega) Cy
 refine⟨w',?_,cU,h3⟩
 simp[Builtin.copy_,run_underlying Z,sizeOf,typeInfo,hi,Builtin.lenOf,Hx I,M,V,h1,goInt]
theorem Qa{T T2 E mn:Nat}{z:Option Nat}{R:TypeId}{v src:Value}{K:Value->iD}(M:St w0 A (bG v xs::L) w)(ht:eQ P T=some (E,og α,mn,z))(I:dP S w src ys)(G:ys.length<=xs.length)
  (k:∀w',St w0 A (bG v (ys++xs.drop ys.length)::L) w'->K (iE ys.length) w'):se P (Builtin.copy_ #[T,T2] R [v,src].toArray) w K:=by
 obtain⟨U,F,U',Z,g2,g3,g4,g5⟩:=M.vC
 rcases Z with⟨rfl,rfl,hF⟩|⟨b,cap,rest,rfl,hb,W,hF⟩
 .obtain rfl:ys=[]:=by simpa using G
  obtain⟨hu,inf,hi,mr,BK,_⟩:=gw ht
  have V:=AB (α:=α) (P:=P) (sz:=og α) rfl I
  obtain⟨sa,aaN,rfl,hsc,hs3⟩:=I
  refine⟨_,w,?_,k w M⟩
  simp at V
  simp[Builtin.copy_,run_underlying hu,sizeOf,typeInfo,hi,Builtin.lenOf,mr,V,goInt]
 have hle:ys.length*og α<=xs.length*og α:=Nat.mul_le_mul_right _ G
 obtain⟨w',h1,h2,h3⟩:=Ir (P:=P) (o:=0) (dn:=xs.length) (dc:=cap) (T2:=T2) (R:=R) ht hb I G (by rw[lJ,dO];omega)
 refine⟨_,w',h1,k w' (M.qH λF' B=>?_)⟩
 rcases B with⟨h,_⟩|⟨b',Kf,J,Y,hb',hl',B⟩
 .cases h
 simp only[Value.slice.injEq,o5.injEq,Addr.mk.injEq,and_true,true_and]at Y
 obtain⟨rfl,rfl⟩:=Y
 refine⟨F',.inr ⟨b,cap,rest,?_,?_,?_,B⟩,λb hb=>.inl hb,h3.mono λk hk=>(B k).2 hk⟩
 .congr 1;rw[lJ,tx];omega
 .have e:flat xs=[]++flat (xs.take ys.length)++flat (xs.drop ys.length):=by rw[wc,<- iP,List.take_append_drop]
  have:=mc [] (flat (xs.take ys.length)) (flat (xs.drop ys.length)++rest) (flat ys) (by rw[dO,dO,n0,Hx G])
  rw[x7]at this
  rw[e,o1,this]at h2
  rw[iP,o1];exact h2
 have O:(ys++xs.drop ys.length).length=xs.length:=by rw[lJ,tx];omega
 exact⟨by rw[O];exact W.1,by have:=W.2;rw[lJ,dO]at this |-;rw[O];exact this⟩
end
section
variable {P:Program}{w w0 w':World}{A:Nat->Prop}{L:List HP}{b r:Nat}
def Is(r m since:Nat)(seen:Array Nat):HP where
 p w F:=w.heap[r]?=some (.mapIter (some m) since seen since)/\∀k,F k↔k=r
 loc w w' F h hh:=⟨(hh r ((h.2 r).2 rfl)).trans h.1,h.2⟩
 lt w F b' h hb:=dH
theorem Li{T B E:TypeId}{es:Array MapEntry}{clock:Nat}{K:Value->iD}(G:St w0 A L w)(ht:P.underlying T=some (.map B E))(hb:w.heap[b]?=some (.map es clock))
  (k:∀r w',St w0 A (Is r b clock #[]::L) w'->K (.pointer (some ⟨r,0,none⟩)) w'):se P (Instr.range T (.map (some b))) w K:=
 ⟨_,_,run_range_map w T B E b es clock ht hb,k _ _ (G.new (Ext.push w _) (F:=λk=>k=w.heap.size) ⟨nh _ _,λ_=>Iff.rfl⟩ λb hb=>by rw[hb];exact qQ _)⟩
theorem Qb{T since:Nat}{seen:Array Nat}{es:Array MapEntry}{K:Value->iD}(E:St w0 A (Is r b since seen::L) w)(hb:w.heap[b]?=some (.map es since))(hold:∀x∈es.toList,x.born<since)
  (I:(leftOf es seen).size=0->K (.tuple #[.bool false]) w)
  (M:∀e w',e∈(leftOf es seen).toList->St w0 A (Is r b since (seen.push e.born)::L) w'->K (.tuple #[.bool true,e.key,e.val]) w'):se P (Instr.next (.pointer (some ⟨r,0,none⟩)) false T) w K:=by
 obtain⟨F,h,_⟩:=E.head
 rcases run_next_at (P:=P) w T r b since since seen es since h.1 hb hold (qQ _)with⟨h1,h2⟩|⟨e,U,G,O,h2⟩
 .exact⟨_,w,h2,I h1⟩
 have e1:St w0 A (Is r b since seen::L) G:=by
  rcases O with rfl|rfl
  .exact E
  .exact E.ext ⟨rfl,rfl,rfl,qQ _,λ_ _ _=>rfl⟩
 refine⟨_,_,h2,M e _ U (e1.qH λF B=>⟨F,⟨jZ _ (tq B.1),B.2⟩,λb hb=>.inl hb,(gZ.setBlock G r _).mono λk J=>(B.2 k).2 J⟩)⟩
theorem Lj{since:Nat}{seen:Array Nat}{es:Array MapEntry}{e:MapEntry}{K:Value->Prop}(E:St w0 A (Is r b since (seen.push e.born)::L) w)(hb:w.heap[b]?=some (.map es since))(G:e∈es.toList)(B:(es.toList.map (·.born)).Nodup)
  (k:K (.tuple #[e.key,e.val])):GK P (Instr.entry (.pointer (some ⟨r,0,none⟩))) w K:=by
 obtain⟨F,h,_⟩:=E.head
 exact⟨_,run_entry_at w r b since seen es since e h.1 hb G B,k⟩
theorem vh.es{α:Type}[Flat α]{f:Int->List α}(h:vh w b f):∃es clock,w.heap[b]?=some (.map es clock)/\Stamped es clock/\(∀e∈es.toList,∃k,∃s:SV,e.key=iE k/\e.val=jj s/\dP (λ_=>True) w (jj s) (f k))/\∀k,(∀e∈es.toList,e.key≠iE k)->f k=[]:=by
 obtain⟨ks,B,⟨es,clock,h1,h2,h3,h4⟩,h5,h6⟩:=h
 have M:es.toList.length=ks.length:=by have:=gD List.length h3;grind
 have E:es.toList.length=B.length:=by have:=gD List.length h4;grind
 refine⟨es,clock,h1,h2,λe G=>?_,λk J=>h6 k λI=>?_⟩
 .obtain⟨i,hi,rfl⟩:=zN G
  refine⟨ks[i]'(cU),B[i]'(cU),?_,?_,h5 i _ _ (l0 _) (l0 _)⟩
  .have:=gD (·[i]?) h3
   grind
  have:=gD (·[i]?) h4
  grind
 have:n5 .i64 k∈es.toList.map (·.key):=dH
 grind
theorem wQ{o:Obj}(h:w.heap[b]?=some o)(e:Ext w w'):w'.heap[b]?=some o:=(e.bU b (tq h) λh=>h).trans h
theorem tW{seen:Array Nat}{x y:Nat}(h:(seen.push x).contains y=true):seen.contains y=true\/y=x:=by
 grind
theorem born_inj{es:Array MapEntry}(E:(es.toList.map (·.born)).Nodup){e B:MapEntry}(h:e∈es.toList)(G:B∈es.toList)(hb:e.born=B.born):e=B:=by
 obtain⟨i,hi,rfl⟩:=zN h
 obtain⟨j,I,rfl⟩:=zN G
 have:=(aaM (i:=i) (j:=j) (h₀:=by grind) (h₁:=by grind) E).1 dH
 grind
end
section
variable {P:Program}{w w0 w':World}{A:Nat->Prop}{L:List HP}{b r:Nat}
def Qc(P:Program)(n T E:Nat):Prop:=P.underlying T=some (.array n E)/\P.underlying E=some (.int .i64)/\pr P (sizeOf E)=some 1
abbrev Dd(xs:List Int):Value:=.agg (xs.map (n5 .i64)).toArray
theorem Qd{β:Type}{f:Nat->β->Sem (ForInStep β)}{g:Nat->Bool}{B stop:β}:∀l:List Nat,(∀i∈l,pr P (f i B)=some (if g i=true then .yield B else .done stop))->pr P (forIn l B f)=some (if l.all g=true then B else stop)
 | [],_=>by simp[fq]
 | i::l,h=>by
  rw[VD,cH,h i et]
  by_cases E:g i=true
  .rw[ez E]
   simp only[nY]
   rw[Qd l λj G=>h j (by simp[G])]
   simp[E]
  .rw[ew E]
   simp[E,fq]
theorem BV{E:TypeId}{xs:List Int}{i:Nat}(B:P.underlying E=some (.int .i64))(hi:i<xs.length):pr P (part E (xs.map (n5 .i64)).toArray i)=some (iE xs[i]):=
 ML (n:=0) B rfl (by simp[hi])
theorem ahf{n T E:Nat}{xs ys:List Int}(h:Qc P n T E)(V:xs.length=n)(U:ys.length=n):pr P (Op.equal T (Dd xs) (Dd ys))=some (decide (xs=ys)):=by
 obtain⟨ht,G,M⟩:=h
 have e:∀x y:Int,pr P (Op.equalIn 9999 E (iE x) (iE y))=some (decide (x=y)):=λx y=>by
  rw[FL (k:=9998) (n:=0) G rfl rfl rfl];rfl
 show pr P (Op.equalIn (9999+1) T _ _)=_
 unfold Op.equalIn
 rw[cH,cJ ht]
 simp only[nY,cH,M]
 simp only[Std.Legacy.Range.forIn_eq_forIn_range',Std.Legacy.Range.size,YF,FD,ac9,WD]
 rw[Qd (g:=λi=>decide (xs[i]?=ys[i]?)) (stop:=⟨some false,PUnit.unit⟩)]
 .by_cases B:xs=ys
  .subst B
   simp[fq]
  have:(ada 0 n).all (λi=>decide (xs[i]?=ys[i]?))=false:=by
   rw[List.all_eq_false]
   apply hU
   intro hc
   apply B
   apply AY
   intro i
   apply hU
   intro J
   by_cases hi:i<n
   .exact hc ⟨i,by simp[VV];omega,by simpa using J⟩
   .exact J (by rw[o4 cU,o4 cU])
  simp[this,B,fq]
 intro i hi
 have O:i<n:=by simp[VV]at hi;omega
 simp only[cH,BV G (show i<xs.length by omega),BV G (show i<ys.length by omega),nY,e]
 rw[l0 (show i<xs.length by omega),l0 (show i<ys.length by omega)]
 by_cases I:xs[i]'(cU)=ys[i]'(cU)
 .simp[I,fq]
 simp[I,fq]
def Ti(b n:Nat)(ks:List (List Int)):HP where
 p w F:=(∃es clock,w.heap[b]?=some (.map es clock)/\es.toList.map (·.key)=ks.map Dd/\(∀e∈es.toList,e.val=.bool true)/\∀k∈ks,k.length=n)/\∀k,F k↔k=b
 loc w w' F h hh:=by
  grind
 lt w F b' h hb:=dH
theorem Qe{T n:TypeId}{K:Value->iD}(B:St w0 A L w)(k:∀b w',St w0 A (Ti b n []::L) w'->K (.map (some b)) w'):se P (Kv T none) w K:=
 ⟨_,_,rfl,k _ _ (B.new (Ext.push w (.map #[] 0)) (F:=λk=>k=w.heap.size) ⟨⟨#[],0,nh _ _,rfl,et,et⟩,λ_=>Iff.rfl⟩ λb hb=>by rw[hb];exact qQ _)⟩
theorem abF{T E n:Nat}{x:List Int}(h:Qc P n T E)(J:x.length=n):∀(es:List MapEntry) (ks:List (List Int)) (i:Nat),es.map (·.key)=ks.map Dd->(∀k∈ks,k.length=n)->(∀e∈es,e.val=.bool true)->
  (x ∉ ks/\pr P (U0 T (Dd x) es i)=some none)\/(x∈ks/\∃j,pr P (U0 T (Dd x) es i)=some (some (j,.bool true)))
 | [],ks,i,B,_,_=>by
  have:ks=[]:=by simp_all
  subst this
  exact .inl ⟨et,rfl⟩
 | e::es,[],i,B,_,_=>by simp at B
 | e::es,k::ks,i,B,hl,hv=>by
  simp only[IV,List.cons.injEq]at B
  have I:pr P (Op.equal T (Dd x) e.key)=some (decide (x=k)):=by rw[B.1];exact ahf h J (hl k et)
  unfold U0
  rw[cH,I]
  simp only[nY]
  by_cases G:x=k
  .subst G
   refine .inr ⟨et,i,?_⟩
   simp[fq,hv e et]
  .rcases abF h J es ks (i+1) B.2 (λk B=>hl k (by simp[B])) (λe I=>hv e (by simp[I]))with⟨h1,h2⟩|⟨h1,j,h2⟩
   .grind
   grind
theorem Qf{E:TypeId}{x:Int}{em:Bool}(B:P.underlying E=some (.int .i64)):pr P (On em 9999 E (iE x))=some ():=by
 show pr P (On em (9998+1) E _)=_
 unfold On
 rw[cH,cJ B];rfl
theorem It{f:Nat->PUnit->Sem (ForInStep PUnit)}:∀l:List Nat,(∀i∈l,pr P (f i ⟨⟩)=some (.yield ⟨⟩))->pr P (forIn l PUnit.unit f)=some ⟨⟩
 | [],_=>by simp[fq]
 | i::l,h=>by
  rw[VD,cH,h i et]
  simp only[nY]
  exact It l λj B=>h j (by simp[B])
theorem FY{T E n:Nat}{x:List Int}{em:Bool}(h:Qc P n T E)(J:x.length=n):pr P (On em 10000 T (Dd x))=some ():=by
 obtain⟨ht,G,B⟩:=h
 show pr P (On em (9999+1) T _)=_
 unfold On
 rw[cH,cJ ht]
 simp only[nY,cH,B]
 simp only[Std.Legacy.Range.forIn_eq_forIn_range',Std.Legacy.Range.size,YF,FD,ac9,WD]
 rw[It]
 .rfl
 intro i hi
 have I:i<n:=by simp[VV]at hi;omega
 simp only[cH,B,nY,WD,BV G (show i<x.length by omega),Qf G,fq]
theorem V5{T E n:Nat}{x:List Int}{es:List MapEntry}{ks:List (List Int)}(h:Qc P n T E)(G:x.length=n)(B:es.map (·.key)=ks.map Dd)(I:∀k∈ks,k.length=n)(J:∀e∈es,e.val=.bool true) :
  (x ∉ ks/\pr P (NR T (Dd x) es)=some none)\/(x∈ks/\∃j,pr P (NR T (Dd x) es)=some (some (j,.bool true))):=by
 unfold NR
 rw[cH,cJ h.1]
 simp only[nY]
 cases es with
 | nil=>
  have:ks=[]:=by simp_all
  subst this
  exact .inl ⟨et,rfl⟩
 | cons e es=>exact abF h G (e::es) ks 0 B I J
theorem ahg{T O E G n:Nat}{x:List Int}{ks:List (List Int)}{K:Value->Prop}(V:St w0 A (Ti b n ks::L) w)(ht:P.underlying T=some (.map O G))(h:Qc P n O E)(B:n6 P G (.bool false))(U:x.length=n)
  (k:K (.bool (decide (x∈ks)))):GK P (ua T (.map (some b)) (Dd x) false) w K:=by
 obtain⟨F,⟨⟨es,c,h1,h2,h3,h4⟩,h5⟩,_⟩:=V.head
 refine⟨_,?_,k⟩
 have M:(zeroValue G).run P w=.ok (.bool false) w:=by
  unfold n6 dW at B
  cases hi:P.info? G with
  | none=>rw[hi]at B;cases B
  | some i=>
   rw[hi]at B
   simp only[EO,o5.injEq]at B
   refine fx ?_ w
   unfold zeroValue;rw[cH,l7 hi];simp only[nY,B];rfl
 have hc:=fx (FY (em:=es.isEmpty) h U) w
 rcases V5 h U h2 h4 h3 with⟨h6,I⟩|⟨h6,j,I⟩
 .have J:=fx I w
  simp[ua,run_underlying ht,MapKept.run_getObj_map h1,hc,J,M,Result.andThen,h6]
 have J:=fx I w
 simp[ua,run_underlying ht,MapKept.run_getObj_map h1,hc,J,Result.andThen,h6]
theorem ahh{T O E Y n:Nat}{x:List Int}{ks:List (List Int)}{K:iD}(U:St w0 A (Ti b n ks::L) w)(ht:P.underlying T=some (.map O Y))(h:Qc P n O E)(I:x.length=n)(Z:x ∉ ks)
  (k:∀w',St w0 A (Ti b n (ks++[x])::L) w'->K w'):El P (rN T (.map (some b)) (Dd x) (.bool true)) w K:=by
 obtain⟨F,⟨⟨es,c,h1,h2,h3,h4⟩,h5⟩,_⟩:=U.head
 have hc:=fx (FY (em:=false) h I) w
 rcases V5 h I h2 h4 h3 with⟨h6,J⟩|⟨h6,j,J⟩
 .have V:=fx J w
  refine⟨setBlock w b (.map (es.push ⟨Dd x,.bool true,c⟩) (c+1)),?_,k _ (U.qH λF' M=>⟨F',⟨⟨_,_,jZ _ (tq h1),by simp[h2],?_,?_⟩,M.2⟩,λb hb=>.inl hb,(gZ.setBlock w b _).mono λk W=>(M.2 k).2 W⟩)⟩
  .simp[rN,run_underlying ht,MapKept.run_getObj_map h1,hc,V,nD h1,Result.andThen]
  .intro e B;simp at B;rcases B with B|rfl
   .exact h3 e (by simpa using B)
   rfl
  intro q G;simp at G;rcases G with G|rfl
  .exact h4 q G
  exact I
 exact absurd h6 Z
theorem aT{f:FuncId}{args:List Value}{H:HP}{H':Value->HP}{Φ:Value->iD}{K:Value->iD}(pl:Plain P f)(E:St w0 A (H::L) w)
  (hc:∀F,H.p w F->(∀w',gZ F w w'->St w0 A L w')->Calls P f args.toArray w (rZ λv w'=>Φ v w'/\ng F (H' v) w w')) (k:∀v w',Φ v w'->St w0 A (H' v::L) w'->K v w'):FE P f args w K:=by
 obtain⟨U,F,M,h1,h2,h3,h4,h5⟩:=E.vC
 refine eC pl (hc F h1 λw' G=>⟨E.aG.trans G (λ_ h=>h) λb hb B=>(h2 b B).elim id λO=>cU,M,h5.loc λb hb=>G.bU b (h5.lt b hb) λB=>h3 b B hb⟩) λv w' ⟨J,I⟩=>k v w' J (E.aa6 h2 h3 h5 I)
theorem zR{g:FuncId}{args first cap:List Value}{H:HP}{H':Value->HP}{Φ:Value->iD}{K:Value->iD}(pl:Plain P g)(E:St w0 A (H::L) w)
  (hc:∀F,H.p w F->(∀w',gZ F w w'->St w0 A L w')->Calls P g (first++args++cap).toArray w (rZ λv w'=>Φ v w'/\ng F (H' v) w w')) (k:∀v w',Φ v w'->St w0 A (H' v::L) w'->K v w'):gR P (.func (.func g) first.toArray cap.toArray) args w K:=by
 obtain⟨U,F,M,h1,h2,h3,h4,h5⟩:=E.vC
 refine fm pl (hc F h1 λw' G=>⟨E.aG.trans G (λ_ h=>h) λb hb B=>(h2 b B).elim id λO=>cU,M,h5.loc λb hb=>G.bU b (h5.lt b hb) λB=>h3 b B hb⟩) λv w' ⟨J,I⟩=>k v w' J (E.aa6 h2 h3 h5 I)
theorem Yr{T E n:Nat}{K:Value->Prop}(h:Qc P n T E)(k:K (.slice (some ⟨b,0,none⟩) n n)):eK P (pA T (.pointer (some ⟨b,0,none⟩)) none none none) K:=by
 refine⟨_,?_,k⟩
 unfold pA
 rw[cH,cJ h.1]
 simp only[nY,Instr.sureAddr,cH,fq,u1,h.2.2]
 simp[ix]
theorem amQ{xs:List Int}{n:Nat}(h:xs.length<=n):iV (o6 n (n5 .i64 0)) 0 (flat xs)=(xs++o6 (n-xs.length) 0).map (n5 .i64):=by
 have B:flat xs=xs.map (n5 .i64):=by
  induction xs with
  | nil=>rfl
  | cons x xs G=>rw[j7,G (by simp at h;omega)];rfl
 have E:(flat xs).length=xs.length:=by rw[B,oi]
 have:=mc [] (o6 xs.length (n5 .i64 0)) (o6 (n-xs.length) (n5 .i64 0)) (flat xs) (by rw[tr,E])
 rw[wc,wc,List.replicate_append_replicate,show xs.length+(n-xs.length)=n from cU,x7]at this
 rw[this,B,vB,List.map_replicate]
theorem Qg{T T2 E I n dc:Nat}{z:Option Nat}{R:TypeId}{src:Value}{cs:List Value}{ys:List Int}{S:Nat->Prop}{K:Value->iD}(G:St w0 A (bU b cs::L) w)(ht:eQ P T=some (E,og Int,I,z))(J:dP S w src ys)(M:ys.length<=n)(U:ys.length<=cs.length)
  (k:∀w',St w0 A (bU b (iV cs 0 (flat ys))::L) w'->K (iE ys.length) w'):se P (Builtin.copy_ #[T,T2] R [.slice (some ⟨b,0,none⟩) n dc,src].toArray) w K:=by
 obtain⟨w',h1,h2,h3⟩:=Ir (P:=P) (o:=0) (dn:=n) (dc:=dc) (T2:=T2) (R:=R) ht G.hb J M (by change 0+ys.length*1<=_;omega)
 exact⟨_,w',h1,k w' (G.qH λF B=>⟨F,⟨h2,B.2⟩,λb hb=>.inl hb,h3.mono λk O=>(B.2 k).2 O⟩)⟩
end
def Has(H:HP)(w:World):Prop:=∃F,H.p w F
def St.has{w w0:World}{A:Nat->Prop}{L:List HP}{H:HP}(B:St w0 A (H::L) w):Has H w:=by obtain⟨F,h,_⟩:=B.head;exact⟨F,h⟩
theorem Has.ext{H:HP}{w w':World}(h:Has H w)(e:Ext w w'):Has H w':=by
 obtain⟨F,h⟩:=h;exact⟨F,H.loc _ _ _ h λb hb=>e.bU b (H.lt _ _ _ h hb) λx=>x⟩
def Has.st{H:HP}{w:World}(h:Has H w):∃F,St w F [H] w:=by obtain⟨F,h⟩:=h;exact⟨F,St.begin h⟩
abbrev SI:=ByteArray×Int
def V6(p:SI):Value×Value:=(.string p.1,iE p.2)
def wR(w:World)(b:Nat)(l:List SI):Prop:=
 ∃es clock,w.heap[b]?=some (.map es clock)/\Stamped es clock/\(es.toList.map λe=>(e.key,e.val)).Perm (l.map V6)
def eJ:List SI->ByteArray->Int
 | [],_=>0
 | p::r,k=>if p.1=k then p.2 else eJ r k
theorem wS:∀{l:List SI}{p:SI},(l.map (·.1)).Nodup->p∈l->eJ l p.1=p.2
 | q::r,p,hn,hm=>by
  rw[IV,JV]at hn
  rcases ta.1 hm with rfl|hm
  .unfold eJ;grind
  .have:q.1≠p.1:=λe=>hn.1 (pB.2 ⟨p,hm,e.symm⟩)
   unfold eJ;rw[ew this];exact wS hn.2 hm
theorem BW:∀{l:List SI}{k:ByteArray},(∀p∈l,p.1≠k)->eJ l k=0
 | [],_,_=>rfl
 | q::r,k,h=>by
  unfold eJ;rw[ew (h q (List.mem_cons_self ..))];exact BW λp B=>h p (List.mem_cons_of_mem _ B)
def Tj{l:List SI}{k:ByteArray}(E:(l.map (·.1)).Nodup)(G:∀p∈l,p.2≠0)(h:eJ l k=0):∀p∈l,p.1≠k:=λp B e=>by
 subst e;exact G p B ((wS E B).symm.trans h)
section
variable {P:Program}{w w0 w':World}{A:Nat->Prop}{L:List HP}{b:Nat}{l:List SI}
theorem wR.of_eq(h:wR w b l)(B:w'.heap[b]?=w.heap[b]?):wR w' b l:=by
 grind[wR]
theorem wR.lt(h:wR w b l):b<w.heap.size:=by obtain⟨es,c,h1,_⟩:=h;grind
theorem wR.nodup(h:wR w b l):(l.map (·.1)).Nodup:=by
 obtain⟨es,c,_,h2,h3⟩:=h
 have h4:=(h3.map Prod.fst)
 rw[JZ,JZ]at h4
 have h5:(l.map λp=>Ic p.1).Nodup:=h4.nodup_iff.1 h2.2.2
 grind
theorem wR.perm{B:List SI}(h:wR w b l)(E:l.Perm B):wR w b B:=by
 obtain⟨es,c,h1,h2,h3⟩:=h;exact⟨es,c,h1,h2,h3.trans (E.map _)⟩
def oe(b:Nat)(l:List SI):HP where
 p w F:=wR w b l/\∀k,F k↔k=b
 loc w w' F h hh:=⟨h.1.of_eq (hh b ((h.2 b).2 rfl)),h.2⟩
 lt w F b' h hb:=by rw[(h.2 b').1 hb];exact h.1.lt
theorem abG{es:Array MapEntry}(h3:(es.toList.map λe=>(e.key,e.val)).Perm (l.map V6)){e:MapEntry}(E:e∈es.toList):∃p∈l,e.key=.string p.1/\e.val=iE p.2:=by
 have:(e.key,e.val)∈l.map V6:=h3.mem_iff.1 (pB.2 ⟨e,E,rfl⟩)
 obtain⟨p,G,B⟩:=pB.1 this
 unfold V6 at B
 grind
theorem abH{es:Array MapEntry}(h3:(es.toList.map λe=>(e.key,e.val)).Perm (l.map V6)){p:SI}(E:p∈l):∃e∈es.toList,e.key=.string p.1/\e.val=iE p.2:=by
 have:V6 p∈es.toList.map λe=>(e.key,e.val):=h3.mem_iff.2 (pB.2 ⟨p,E,rfl⟩)
 obtain⟨e,G,B⟩:=pB.1 this
 unfold V6 at B
 grind
theorem Lk{T:TypeId}{k:ByteArray}{es:Array MapEntry}(G:P.underlying T=some .string)(h3:(es.toList.map λe=>(e.key,e.val)).Perm (l.map V6)) :
  ((∀p∈l,p.1≠k)/\(NR T (.string k) es.toList).run P w=.ok none w)\/∃j p,p∈l/\p.1=k/\(NR T (.string k) es.toList).run P w=.ok (some (j,iE p.2)) w:=by
 rcases MapKept.findNow_spec (d:=.string) (k:=.string k) (by simp[IsKey]) es.toList 0 (λx E=>by obtain⟨p,_,e,_⟩:=abG h3 E;rw[e];simp[IsKey])with⟨h1,h2⟩|⟨j,e,h1,h2,h4⟩
 .refine .inl ⟨λp B e=>?_,MapKept.run_findKey G h1⟩
  obtain⟨x,E,e1,_⟩:=abH h3 B
  grind
 obtain⟨p,B,e1,I⟩:=abG h3 (ml h2)
 rw[h4]at e1;injection e1 with e1
 refine .inr ⟨j,p,B,e1.symm,?_⟩
 rw[uf,I]at h1
 exact MapKept.run_findKey G h1
theorem Qh{T I E:TypeId}{k:ByteArray}(h:wR w b l)(ht:P.underlying T=some (.map I E))(J:P.underlying I=some .string)(B:n6 P E (iE 0)) :
  (ua T (.map (some b)) (.string k) false).run P w=.ok (iE (eJ l k)) w:=by
 have O:=h.nodup
 obtain⟨es,c,h1,h2,h3⟩:=h
 have G:(zeroValue E).run P w=.ok (iE 0) w:=by
  unfold n6 dW at B
  cases hi:P.info? E with
  | none=>grind
  | some i=>
   rw[hi]at B
   simp only[EO,o5.injEq]at B
   refine fx ?_ w
   unfold zeroValue;rw[cH,l7 hi];simp only[nY,B];rfl
 have hc:=MapKept.run_checkKey (P:=P) (w:=w) (kt:=I) (k:=.string k) J (by simp[IsKey]) es.isEmpty 9999
 rcases Lk (w:=w) (k:=k) J h3 with⟨h5,h6⟩|⟨j,p,h5,h6,M⟩
 .simp[ua,run_underlying ht,MapKept.run_getObj_map h1,hc,h6,G,Result.andThen,BW h5]
 subst h6
 simp[ua,run_underlying ht,MapKept.run_getObj_map h1,hc,M,Result.andThen,wS O h5]
theorem Qi{T B E:TypeId}{v:Int}{k:ByteArray}(h:wR w b l)(ht:P.underlying T=some (.map B E))(G:P.underlying B=some .string)(U:∀p∈l,p.1≠k) :
  ∃w',(rN T (.map (some b)) (.string k) (iE v)).run P w=.ok () w'/\gZ (· = b) w w'/\wR w' b (l++[(k,v)]):=by
 have I:=h.lt
 obtain⟨es,c,h1,h2,h3⟩:=h
 have hc:=MapKept.run_checkKey (P:=P) (w:=w) (kt:=B) (k:=.string k) G (by simp[IsKey]) false 9999
 rcases Lk (w:=w) (k:=k) G h3 with⟨h5,h6⟩|⟨j,p,h5,h6,M⟩
 .refine⟨_,?_,gZ.setBlock w b (.map (es.push ⟨.string k,iE v,c⟩) (c+1)),?_⟩
  .simp[rN,run_underlying ht,MapKept.run_getObj_map h1,hc,h6,nD h1,Result.andThen]
  refine⟨_,_,jZ _ I,MapKept.stamped_push h2 λx J e=>?_,?_⟩
  .obtain⟨p,O,e1,_⟩:=abG h3 J
   grind
  rw[YH,vB,vB]
  exact h3.append (List.Perm.refl _)
 grind
theorem Qj{T:TypeId}{K:Value->iD}(B:St w0 A L w)(k:∀b w',St w0 A (oe b []::L) w'->K (.map (some b)) w'):se P (Kv T none) w K:=
 ⟨_,_,rfl,k _ _ (B.new (Ext.push w (.map #[] 0)) (F:=λk=>k=w.heap.size) ⟨⟨#[],0,nh _ _,⟨et,et,et⟩,et⟩,λ_=>Iff.rfl⟩ λb hb=>by rw[hb];exact qQ _)⟩
theorem St.oe(B:St w0 A (oe b l::L) w):wR w b l:=by obtain⟨F,h,_⟩:=B.head;exact h.1
theorem AM{T B E:TypeId}{k:ByteArray}{K:Value->Prop}(h:wR w b l)(ht:P.underlying T=some (.map B E))(G:P.underlying B=some .string)(J:n6 P E (iE 0))(I:K (iE (eJ l k))):GK P (ua T (.map (some b)) (.string k) false) w K:=
 ⟨_,Qh h ht G J,I⟩
theorem Qk{T I E:TypeId}{v:Int}{k:ByteArray}{K:iD}(J:St w0 A (Fw.oe b l::L) w)(ht:P.underlying T=some (.map I E))(B:P.underlying I=some .string)(O:∀p∈l,p.1≠k)
  (M:∀w',St w0 A (Fw.oe b (l++[(k,v)])::L) w'->K w'):El P (rN T (.map (some b)) (.string k) (iE v)) w K:=by
 obtain⟨w',h1,h2,h3⟩:=Qi (P:=P) (v:=v) (k:=k) J.oe ht B O
 exact⟨w',h1,M w' (J.qH λF G=>⟨F,⟨h3,G.2⟩,λb hb=>.inl hb,h2.mono λk B=>(G.2 k).2 B⟩)⟩
theorem key_inj{es:Array MapEntry}(E:(es.toList.map (·.key)).Nodup){e B:MapEntry}(h:e∈es.toList)(G:B∈es.toList)(hb:e.key=B.key):e=B:=by
 obtain⟨i,hi,rfl⟩:=zN h
 obtain⟨j,I,rfl⟩:=zN G
 have:=(aaM (i:=i) (j:=j) (h₀:=by grind) (h₁:=by grind) E).1 dH
 grind
theorem abI{l:List SI}(B:(l.map (·.1)).Nodup){p q:SI}(G:p∈l)(E:q∈l)(h:p.1=q.1):p=q:=by
 have h1:=wS B G
 have h2:=wS B E
 grind
end
open Go.MapKept (IsKey)
section
variable {P:Program}{w w':World}{b:Nat}{l:List ByteArray}
def M6(w:World)(b:Nat)(l:List ByteArray):Prop:=
 ∃es clock,w.heap[b]?=some (.map es clock)/\(es.toList.map λe=>(e.key,e.val))=l.map λs=>(Ic s,vO true)
theorem Ql{T J E:TypeId}{k:ByteArray}(h:M6 w b l)(ht:P.underlying T=some (.map J E))(I:P.underlying J=some .string)(B:n6 P E (.bool false)) :
  (ua T (.map (some b)) (.string k) false).run P w=.ok (.bool (l.any λy=>decide (y=k))) w:=by
 obtain⟨es,c,h1,h2⟩:=h
 have G:(zeroValue E).run P w=.ok (.bool false) w:=by
  unfold n6 dW at B
  cases hi:P.info? E with
  | none=>grind
  | some i=>
   rw[hi]at B
   simp only[EO,o5.injEq]at B
   refine fx ?_ w
   unfold zeroValue;rw[cH,l7 hi];simp only[nY,B];rfl
 have hc:=MapKept.run_checkKey (P:=P) (w:=w) (kt:=J) (k:=.string k) I (by simp[IsKey]) es.isEmpty 9999
 have mem:∀e∈es.toList,∃s∈l,e.key=.string s/\e.val=.bool true:=λe O=>by
  have:(e.key,e.val)∈l.map λs=>(Ic s,vO true):=dH
  grind
 rcases MapKept.findNow_spec (d:=.string) (k:=.string k) (by simp[IsKey]) es.toList 0 (λx V=>by obtain⟨p,_,e,_⟩:=mem x V;rw[e];simp[IsKey])with⟨h3,h4⟩|⟨j,e,h3,h4,h5⟩
 .have:(l.any λy=>decide (y=k))=false:=by
   rw[xC]
   intro s M
   have:(Ic s,vO true)∈es.toList.map λe=>(e.key,e.val):=by rw[h2];exact pB.2 ⟨s,M,rfl⟩
   obtain⟨e,O,e1⟩:=pB.1 this
   simp only[Prod.mk.injEq]at e1
   intro h
   exact h4 e O (by rw[e1.1,hG h])
  rw[this]
  simp[ua,run_underlying ht,MapKept.run_getObj_map h1,hc,MapKept.run_findKey I h3,G,Result.andThen]
 obtain⟨s,M,e1,U⟩:=mem e (ml h4)
 rw[h5]at e1;injection e1 with e1
 have:(l.any λy=>decide (y=k))=true:=wk.2 ⟨s,M,fY e1.symm⟩
 rw[this]
 rw[uf,U]at h3
 simp[ua,run_underlying ht,MapKept.run_getObj_map h1,hc,MapKept.run_findKey I h3,Result.andThen]
theorem Qm{T B E:TypeId}{k:ByteArray}{K:Value->Prop}(h:M6 w b l)(ht:P.underlying T=some (.map B E))(G:P.underlying B=some .string)(J:n6 P E (.bool false))(I:K (.bool (l.any λy=>decide (y=k)))):GK P (ua T (.map (some b)) (.string k) false) w K:=
 ⟨_,Ql h ht G J,I⟩
end
section
variable {P:Program}{w w0 w':World}{A:Nat->Prop}{L:List HP}{b:Nat}{l:List ByteArray}
theorem M6.lt(h:M6 w b l):b<w.heap.size:=by obtain⟨es,c,h1,_⟩:=h;grind
def Tl(b:Nat)(l:List ByteArray):HP where
 p w F:=M6 w b l/\∀k,F k↔k=b
 loc w w' F h hh:=⟨by grind[M6],h.2⟩
 lt w F b' h hb:=by rw[(h.2 b').1 hb];exact h.1.lt
theorem abJ{T:TypeId}{K:Value->iD}(B:St w0 A L w)(k:∀b w',St w0 A (Tl b []::L) w'->K (.map (some b)) w'):se P (Kv T none) w K:=
 ⟨_,_,rfl,k _ _ (B.new (Ext.push w (.map #[] 0)) (F:=λk=>k=w.heap.size) ⟨⟨#[],0,nh _ _,rfl⟩,λ_=>Iff.rfl⟩ λb hb=>by rw[hb];exact qQ _)⟩
theorem abK{T J E:TypeId}{k:ByteArray}{K:iD}(B:St w0 A (Tl b l::L) w)(ht:P.underlying T=some (.map J E))(G:P.underlying J=some .string)(V:∀s∈l,s≠k)
  (U:∀w',St w0 A (Tl b (l++[k])::L) w'->K w'):El P (rN T (.map (some b)) (.string k) (.bool true)) w K:=by
 have I:∃w',(rN T (.map (some b)) (.string k) (.bool true)).run P w=.ok () w'/\gZ (· = b) w w'/\M6 w' b (l++[k]):=by
  obtain⟨F,h,_⟩:=B.head
  have O:=h.1.lt
  obtain⟨es,c,h1,h2⟩:=h.1
  have mem:∀e∈es.toList,∃s∈l,e.key=.string s:=λe Y=>by
   have:(e.key,e.val)∈l.map λs=>(Ic s,vO true):=by rw[<- h2];exact pB.2 ⟨e,Y,rfl⟩
   obtain⟨s,B,e1⟩:=pB.1 this
   simp only[Prod.mk.injEq]at e1
   exact⟨s,B,e1.1.symm⟩
  have hc:=MapKept.run_checkKey (P:=P) (w:=w) (kt:=J) (k:=.string k) G (by simp[IsKey]) false 9999
  rcases MapKept.findNow_spec (d:=.string) (k:=.string k) (by simp[IsKey]) es.toList 0 (λx W=>by obtain⟨p,_,e⟩:=mem x W;rw[e];simp[IsKey])with⟨h3,h4⟩|⟨j,e,h3,h4,h5⟩
  .have h6:=MapKept.run_findKey (P:=P) (w:=w) G h3
   refine⟨_,?_,gZ.setBlock w b (.map (es.push ⟨.string k,.bool true,c⟩) (c+1)),_,_,jZ _ O,?_⟩
   .simp[rN,run_underlying ht,MapKept.run_getObj_map h1,hc,h6,nD h1,Result.andThen]
   .rw[YH,vB,vB,h2];rfl
  .obtain⟨s,B,e1⟩:=mem e (ml h4)
   rw[h5]at e1;injection e1 with e1
   exact absurd e1.symm (V s B)
 obtain⟨w',h1,h2,h3⟩:=I
 exact⟨w',h1,U w' (B.qH λF M=>⟨F,⟨h3,M.2⟩,λb hb=>.inl hb,h2.mono λk G=>(M.2 k).2 G⟩)⟩
theorem St.Tl(B:St w0 A (Fw.Tl b l::L) w):M6 w b l:=by obtain⟨F,h,_⟩:=B.head;exact h.1
theorem Qn{f : FuncId}{B : Func}{e : Array Value -> Sem Value}{args : List Value}{v : Value}{K : Value -> World -> Prop}(I : P.funcs[f]?=some B)(hb : (B.name == "runtime.NumGoroutine")=false /\ B.body.isNone=true /\ Extern.findNext B=none)(G : Extern.find B=some e)
  (E:pr P (e args.toArray)=some v) (k:K v w):FE P f args w K:=by
 refine⟨.inr ⟨v,w,?_,k⟩⟩
 show(match P.funcs[f]? with|none=>_|some B=>_:Sem Next).run P w=_
 rw[I]
 simp only[hb.1,hb.2.1,hb.2.2,G]
 have:=fx E w
 simp_all
theorem Tm{T:Nat}{s:ByteArray}{i:Int}{K:Value->Prop}(B:P.underlying T=some .string)(E:0<=i)(h1:i<=s.size)(k:K (.string (s.extract i.toNat s.size))):eK P (pA T (.string s) (some (iE i)) none none) K:=by
 refine⟨_,?_,k⟩
 unfold pA
 rw[cH,cJ B]
 simp only[nY]
 unfold Instr.slice
 rw[cH,cJ B]
 simp only[nY]
 rw[ew er]
 have hb:pr P (u1 false s.size s.size (some (iE i)) none none)=some (i.toNat,s.size,s.size):=by
  simp only[u1,cH,fq,nY]
  rw[jG E cU];rfl
 rw[cH,hb];rfl
theorem M7(s:ByteArray)(i j:Nat):jn (s.extract i j)=((jn s).drop i).take (j-i):=by
 simp_all[jn]
theorem V7{s t:ByteArray}(h:jn s=jn t):s=t:=by
 cases s;cases t
 exact gD jY (Array.toList_inj.1 h)
def Ks:List UInt8->UInt8->Option Nat
 | [],_=>none
 | x::r,c=>if x=c then some 0 else(Ks r c).map (· + 1)
def Iu(l:List UInt8)(c:UInt8):Int:=match Ks l c with|some k=>(k:Int)|none=>-1
theorem Ll(l:List UInt8)(c:UInt8)(g:Nat->Bool):∀(r:List UInt8) (o:Nat),(∀j x,r[j]?=some x->g (o+j)=(x == c))->(ada o r.length).find? g=(Ks r c).map (o + ·)
 | [],o,h=>rfl
 | x::r,o,h=>by
  have B:=h 0 x rfl
  rw[List.length_cons,List.range'_succ,List.find?_cons,show g o=(x == c)from B]
  unfold Ks
  by_cases e:x=c
  .grind
  .rw[ew e,show(x == c)=false from beq_eq_false_iff_ne.2 e]
   show List.find? g _=_
   rw[Ll l c g r (o+1) λj x E=>by rw[show o+1+j=o+(j+1)from cU];simp_all]
   rw[Option.map_map]
   congr 1;grind
theorem amR(s:ByteArray)(c:UInt8):pr P (Extern.BytealgIndexByte.indexByte #[.string s,.int .u8 (c.toNat:Int)])=some (iE (Iu (jn s) c)):=by
 have E:Extern.BytealgIndexByte.indexByte #[.string s,.int .u8 (c.toNat:Int)]=(do let b <- Extern.Bytes.bytesOf (.string s);let d <- Extern.Bytes.asByte (.int .u8 (c.toNat:Int));match (qi b.size).find? λi=>b[i]! == d with|some i=>pure (goInt i)|none=>pure (goInt (-1))):=rfl
 have hc:(Extern.Bytes.asByte (.int .u8 (c.toNat:Int)))=pure c:=by
  show pure ((c.toNat:Int).toNat.toUInt8)=_
  simp_all
 have hb:(Extern.Bytes.bytesOf (.string s))=pure s:=rfl
 have B:(qi s.size).find? (λi=>s[i]! == c)=Ks (jn s) c:=by
  have:=Ll (jn s) c (λi=>s[i]! == c) (jn s) 0 λj x G=>by
   rw[VU]at G
   grind
  rw[eu]at this
  rw[List.range_eq_range',this]
  simp_all
 rw[E]
 simp only[hc,hb,cH,fq,nY,B]
 unfold Iu
 cases Ks (jn s) c<;>rfl
theorem abL(l:List UInt8)(c:UInt8):0<=Iu l c↔l.any (λb=>decide (b=c))=true:=by
 unfold Iu
 induction l with
 | nil=>exact⟨λh=>absurd (show(0:Int)<=-1 from h) er,λh=>by cases h⟩
 | cons x r B=>
  rw[List.any_cons]
  unfold Ks
  by_cases e:x=c
  .rw[ez e,fY e];exact⟨λ_=>rfl,λ_=>by show(0:Int)<=((0:Nat):Int);omega⟩
  .rw[ew e,gk e,T6,<- B]
   cases Ks r c with
   | none=>exact Iff.rfl
   | some k=>exact⟨λ_=>by show(0:Int)<=(k:Int);omega,λ_=>by show(0:Int)<=((k+1:Nat):Int);omega⟩
end
end Go.Fw
namespace Go.Proofs.YtdncbeepkacgbaaGreatDoor
open Go.Fw
variable (w:World) (K:Value->iD)
def S369(I J De M:Value):Prop:=
 bB .eql 3 M (i 0) λa=>cV a (K (.slice none 0 0) w) (eK hZ (ku .eql 9 false true J (Go.Value.string (jY (#[])))) λb=>cV b (cF 377 [I,M] w λc d=>
 K c d) (eW (λW=>bB .lss 3 M (i 0) λe=>cV e (cF 378 [I,J] w λf g=>bB .add 3 f (i 1) λh=>W h g) (W M w)) (λO j=>∀_:Env,
 lN 9 I λk=>bB .add 3 k (i 1) λl=>eK hZ (Builtin.min_ #[3,3] 3 [O,l].toArray) λn=>se hZ (Instr.makeSlice 86 n n) j λo p=>bB .sub 3 n (i 1) λq=>
 Vp (λK2=>rq (λV E B r=>∀_:Env,
 bA .lss 3 B q λs=>cV s (cF 371 [E,J] r λt u=>bB .lss 3 t (i 0) λv=>cV v (K2 E B u) (bA .add 3 t De λx=>eK hZ (pA 9 E none (some x) none) λy=>
 iA 86 o B λz=>sA 9 z y u λaa=>lN 9 J λab=>bA .add 3 t ab λac=>eK hZ (pA 9 E (some ac) none none) λad=>bB .add 3 B (i 1) λae=>V ad ae aa)) (
 K2 E B r)) λV=>V I (i 0) p) (λU G Y=>∀_:Env,
 iA 86 o G λZ=>sA 9 Z U Y λah=>bB .add 3 G (i 1) λai=>eK hZ (pA 86 o none (some ai) none) λaj=>K aj ah))))
theorem ahi(I E B G:Value)(h:S369 w K I E B G):CR 369 [I,E,B,G] w K:=
 qG 66 (λ_=>.nil) 256 [.tmp 8] Tryz.func369 h
theorem asT:PL 345:=dT Tryz.func345
theorem asU:PL 358:=dT Tryz.func358
theorem asV:PL 369:=dT Tryz.func369
theorem asW:PL 378:=dT Tryz.func378
theorem aks:PL 371:=dT Tryz.func371
theorem asX:PL 385:=dT Tryz.func385
end Go.Proofs.YtdncbeepkacgbaaGreatDoor
namespace Go.Proofs.YtdncbeepkacgbaaGreatDoor
open Go.Fw
def C385(s:ByteArray)(c:UInt8)(w:World):CR 385 [.string s,.int .u8 (c.toNat:Int)] w (λv w'=>v=iE (Iu (jn s) c)/\Ext w w'):=by
 have B:=St.start w;refine fD Tryz.func385 ?_;exact Qn Tryz.func390 ⟨by kernel_rfl,by kernel_rfl,by kernel_rfl⟩ (by kernel_rfl) (amR s c) ⟨rfl,B.aG⟩
def M8(c:UInt8):ByteArray:=⟨#[c]⟩
def C379(s:ByteArray)(c:UInt8)(w:World):CR 379 [.string s,.string (M8 c)] w (λv w'=>v=iE (Iu (jn s) c)/\Ext w w'):=by
 have B:=St.start w;refine fD Tryz.func379 ?_;refine fG gL ?_;refine⟨λE w'=>E=.bool (decide (M8 c=s))/\w'=w,?_,?_⟩
 .exact aI (aC (λh=>absurd (show(1:Int)=0 from h) er) λ_=>kJ ⟨rfl,rfl⟩)
 rintro _ _ ⟨rfl,rfl⟩ _;refine aC (λh=>?_) (λ_=>?_)
 .subst h;exact⟨gD (n5 .i64) (show(0:Int)=Iu [c] c by unfold Iu Ks;rw[ez rfl];rfl),B.aG⟩
 exact aI (aC (λ_=>kU (s:=M8 c) (e:=c) gL er rfl (aY asX B (C385 s c _) λ_ _ B=>⟨rfl,B.aG⟩)) λh=>absurd (show(1:Int)=1 from rfl) h)
def C371(s:ByteArray)(c:UInt8)(w:World):CR 371 [.string s,.string (M8 c)] w (λv w'=>v=iE (Iu (jn s) c)/\Ext w w'):=by
 have B:=St.start w;refine fD Tryz.func371 ?_;exact aY ⟨_,Tryz.func379,by kernel_rfl,by kernel_rfl⟩ B (C379 s c _) (λ_ _ B=>⟨rfl,B.aG⟩)
def kwT:ByteArray:=⟨#[108,105,110,101,32,118,111,108,32,108,111,99,107,32,116,104,114,101,97,100,32,114,101,103,32,108,111,97,100,32,115,116,111,114,101,32,99,97,115,32,102,108,117,115,104,32,111,112,116,32,115,102,101,110,99,101,32,109,102,101,110,99,101,32,116,97,107,101,32,103,105,118,101,32,105,102,32,101,108,115,101,32,108,111,111,112,32,98,114,101,97,107,32,99,104,101,99,107,32,114,101,99,111,118,101,114,32,97,108,119,97,121,115]⟩
def kwl:List UInt8:=jn kwT
def kwo(k:Nat):Nat:=(km.take k).foldl (λn x=>n+x.size+1) 0
def Ys(k:Nat):ByteArray:=kwT.extract (kwo k) kwT.size
def Cl(k:Nat):ByteArray:=km.getD k ⟨#[]⟩
def asY(k:Nat):Bool:=decide (Ks (kwl.drop (kwo k)) 32=some (Cl k).size)&&(decide ((kwl.drop (kwo k)).take (Cl k).size=jn (Cl k))&&(decide (kwo (k+1)=kwo k+((Cl k).size+1))&&decide (kwo k+(Cl k).size+1<=kwl.length)))
def ahj:(qi 20).all asY=true:=by decide +kernel
theorem Qo(k:Nat):jn (Ys k)=kwl.drop (kwo k):=by
 unfold Ys kwl
 rw[M7]
 exact mH (by rw[tx,eu];omega)
def amT(k:Nat)(h:k<20):Iu (jn (Ys k)) 32=(Cl k).size/\(Cl k).size+1<=(Ys k).size/\(Ys k).extract 0 (Cl k).size=Cl k/\(Ys k).extract ((Cl k).size+1) (Ys k).size=Ys (k+1):=by
 have:=List.all_eq_true.1 ahj k (Ie.2 h)
 unfold asY at this
 simp only[n3,decide_eq_true_eq]at this
 obtain⟨h1,h2,h3,h4⟩:=this
 have B:(Ys k).size=kwl.length-kwo k:=by rw[<- eu,Qo,tx]
 refine⟨by rw[Qo];unfold Iu;rw[h1],cU,V7 ?_,V7 ?_⟩
 .rw[M7,Qo,ab3,YF];exact h2
 rw[M7,Qo,Qo,uL,h3]
 exact mH dH
def kwB(k:Nat):(Cl k).size<=100:=by
 by_cases h:k<21
 .exact(by decide +kernel:∀k,k<21->(Cl k).size<=100) k h
 unfold Cl;rw[pd,o4 (show km.length<=k from Nat.le_of_not_lt h)];decide
def asZ:∀k,k<21->∀s∈km.take k,s≠Cl k:=by decide +kernel
theorem abN{k:Nat}(h:k<21):km[k]?=some (Cl k):=by simp_all[km,Cl]
theorem amU{k:Nat}(h:k<21):(km.take k++o6 (21-k) (⟨#[]⟩:ByteArray)).set k (Cl k)=(km.take (k+1)++o6 (21-(k+1)) (⟨#[]⟩:ByteArray)):=by
 have B:(km.take k).length=k:=by rw[n0];exact Hx (U8 h)
 rw[List.set_append_right _ _ cU,B,Nat.sub_self,show 21-k=(21-(k+1))+1 from cU,List.replicate_succ,List.set_cons_zero,yC,abN h,o1]
 rfl
theorem M9{k:Nat}(h:k<21):(km.take k++o6 (21-k) (⟨#[]⟩:ByteArray)).length=21:=by
 rw[lJ,n0,tr,Hx (show k<=km.length from U8 h)];omega
def C378(w:World):CR 378 [.string kwT,.string (M8 32)] w (λv w'=>v=iE 20/\Ext w w'):=by
 have B:=St.start w;refine fD Tryz.func378 ?_;exact fG gL (aI (aC (λh=>absurd (show(1:Int)=0 from h) er) λ_=>fG gL (aI (aC (λ_=>kU (s:=M8 32) (e:=32) gL er rfl (Qn (e:=Extern.BytealgCount.count) (v:=iE 20) Tryz.func384 ⟨by kernel_rfl,by kernel_rfl,by kernel_rfl⟩ (by kernel_rfl) (by kernel_rfl) ⟨rfl,B.aG⟩)) λh=>absurd (show(1:Int)=1 from rfl) h))))
def C369(w:World):CR 369 [.string kwT,.string (M8 32),iE 0,iE (-1)] w (λv w'=>mf (bG v km) w w'):=by
 have B:=St.start w;refine ahi _ _ _ _ _ _ ?_;unfold S369;refine aI (aC (λh=>absurd h er) λ_=>kJ (aC (λh=>absurd h er) λ_=>?_));refine⟨λO w'=>O=iE 21/\St w bE [] w',?_,?_⟩
 .exact aV (aC (λ_=>aY asW B (C378 _) λ_ _ B=>aR er ⟨rfl,B⟩) λh=>absurd er h)
 rintro _ _ ⟨rfl,B⟩ _;refine fG gL (aR er (u6 ?_));rw[show min (21:Int) ((kwT.size:Int)+1)=21 from er];refine tA (⟨#[]⟩:ByteArray) B kN ajU er er er (λE _ B=>fO er ?_);refine⟨λs y w'=>s=.string (Ys 20)/\y=iE 20/\St w bE [bG E (km.take 20++o6 (21-20) (⟨#[]⟩:ByteArray))] w',?_,?_⟩
 .refine⟨λI s y w'=>∃k:Nat,s=.string (Ys k)/\y=iE (k:Int)/\I=20-k/\k<=20/\St w bE [bG E (km.take k++o6 (21-k) (⟨#[]⟩:ByteArray))] w',⟨_,0,gD Ic er,rfl,rfl,ob _,B⟩,?_⟩;rintro I _ _ _ ⟨k,rfl,rfl,rfl,V,B⟩ _;refine aV (aC (λc1=>?_) λc1=>?_);rotate_left
  .obtain rfl:k=20:=cU
   exact⟨rfl,rfl,B⟩
  obtain⟨U,t2,J,M⟩:=amT k cU;refine aY aks B (C371 (Ys k) 32 _) (λ_ W B=>?_);rw[U];refine aV (aC (λh=>absurd h cU) λ_=>aR (show -9223372036854775808<=((Cl k).size:Int)+0/\((Cl k).size:Int)+0<=9223372036854775807 by have:=kwB k;omega) (oV gL cU cU ?_));rw[show(((Cl k).size:Int)+0).toNat=(Cl k).size from cU,J];refine dN B kN cU (by rw[M9 cU];omega) (λq G=>jm (Cl k) B ke G (by rw[M9 cU];omega) λ_ B=>?_);rw[s6,amU cU]at B;refine fG gL (aR (show -9223372036854775808<=((Cl k).size:Int)+1/\((Cl k).size:Int)+1<=9223372036854775807 by have:=kwB k;omega) (Tm gL (show(0:Int)<=((Cl k).size:Int)+1 by omega) (show((Cl k).size:Int)+1<=_ by omega) ?_))
  rw[show((Cl k).size:Int)+(((M8 32).size:Nat):Int)=((Cl k).size:Int)+1 from rfl,show(((Cl k).size:Int)+1).toNat=(Cl k).size+1 from cU,M];exact aR cU ⟨_,cU,k+1,rfl,rfl,rfl,cU,B⟩
 rintro _ _ _ ⟨rfl,rfl,B⟩ _;exact dN B kN er (by rw[M9 er];decide) (λ_ G=>jm (Ys 20) B ke G (by rw[M9 er];decide) λ_ B=>aR er (H7 kN B er er λ_ B=>B.fresh))
def C358(w:World):CR 358 [.string kwT,.string (M8 32)] w (λv w'=>mf (bG v km) w w'):=by
 have B:=St.start w;refine fD Tryz.func358 ?_;exact cW asV B (C369 _) (λ_ _ _ B=>B.fresh)
def C345(w:World):CR 345 [] w (λv w'=>∃b,v=.map (some b)/\M6 w' b km/\Ext w w'):=by
 have B:=St.start w;refine fD Tryz.func345 ?_;refine abJ B (λb _ B=>cW asU B (C358 _) λI _ M B=>aK kN B.fc ?_);refine⟨λE y w'=>∃k:Nat,y=iE (k:Int)/\E=21-k/\k<=21/\St w bE [Tl b (km.take k),bG I km] w',⟨_,0,rfl,rfl,ob _,B.p1⟩,?_⟩;rintro E _ _ ⟨k,rfl,rfl,O,B⟩ _;refine aV (aC (λc1=>?_) λc1=>?_);rotate_left
 .obtain rfl:k=21:=by have h:¬ (k:Int)<21:=c1;omega
  exact⟨b,rfl,B.Tl,B.aG⟩
 have G:k<21:=by have h:(k:Int)<21:=c1;omega
 refine aW kN B.p1.fc cU (abN (show((k:Nat):Int).toNat<21 by omega)) (λq J=>aE ke J ?_);rw[s6];refine abK B Tryz.underlying403 gL (asZ k G) (λ_ B=>aR cU ?_);refine⟨_,cU,k+1,rfl,rfl,cU,?_⟩;rw[yC,abN G];exact B
def FnU(w:World)(f:Value)(g:UInt8->Bool):Prop:=∃E first cap,f=.func (.func E) (P0 first) (P0 cap)/\Plain hZ E/\
 ∀(c:UInt8) B,Ext w B->Calls hZ E (first++[n5 .u8 c.toNat]++cap).toArray B (rZ λv G=>v=.bool (g c)/\Ext B G)
def ahk{g:UInt8->Bool}{l:List UInt8}{k:Nat}(E:∀y∈l.take k,g y=true)(B:k<=l.length)(h:(match l[k]? with|some c=>g c|none=>false)=false):k=l.length↔l.all g=true:=by
 grind
def zS(s:ByteArray):Bool:=decide (s.size<1\/16<s.size)||(match (jn s)[0]? with|some c=>!iq c.toNat|none=>true)||km.any (λy=>decide (y=s))
def abO{s:ByteArray}(h:zS s=false):s.size<=1048576:=by
 unfold zS at h
 grind
def abP{s:ByteArray}(h:zS s=true):iu s=false:=by
 show(!(zS s)&&_)=false
 rw[h];rfl
def abQ{s:ByteArray}{n:Nat}(h:zS s=false)(B:n=(jn s).length↔(jn s).all (λc=>iq c.toNat||lf c.toNat)=true):decide ((n:Int)=(s.size:Int))=iu s:=by
 show _=(!(zS s)&&!(jn s).any λc=>!iq c.toNat&&!lf c.toNat)
 rw[h,Bool.not_false,Bool.true_and,<- eu]
 grind
theorem amV{s:ByteArray}(h:s.size=0):s=jY #[]:=by
 cases s with
 | mk a=>cases a with
  | mk l=>cases l with
   | nil=>rfl
   | cons x r=>simp[adi]at h
def C291(c:Int)(w:World):CR 291 [.int .u8 c] w (λv w'=>v=.bool (iq c)/\Ext w w'):=by
 have G:=St.start w;refine fD Tryz.func291 ?_;refine⟨λB w'=>B=.bool (decide (97<=c/\c<=122\/c=95))/\w=w',CW (aC (λ_=>CV (aC (λ_=>⟨Vr cU,rfl⟩) λ_=>oE ⟨Hw cU,rfl⟩)) λ_=>oE ⟨Hw cU,rfl⟩),?_⟩;rintro _ _ ⟨rfl,E⟩ _;subst E;exact⟨rfl,G.aG⟩
def C295(c:Int)(w:World):CR 295 [.int .u8 c] w (λv w'=>v=.bool (lf c)/\Ext w w'):=by
 have G:=St.start w;refine fD Tryz.func295 ?_;refine⟨λB w'=>B=.bool (decide (48<=c/\c<=57))/\w=w',CW (aC (λ_=>CV ⟨Hw cU,rfl⟩) λ_=>⟨jvF cU,rfl⟩),?_⟩;rintro _ _ ⟨rfl,E⟩ _;subst E;exact⟨rfl,G.aG⟩
def C294(c:Int)(w:World):CR 294 [.int .u8 c] w (λv w'=>v=.bool (iq c||lf c)/\Ext w w'):=by
 have B:=St.start w;refine fD Tryz.func294 ?_;refine⟨λE w'=>E=.bool (iq c||lf c)/\St w bE [] w',aY akj B (C291 _ _) (λ_ _ B=>aX (λ_=>⟨vb dH,B⟩) λ_=>aY asE B (C295 _ _) λ_ _ B=>⟨vb dH,B⟩),?_⟩;rintro _ _ ⟨rfl,B⟩ _;exact⟨rfl,B.aG⟩
def C293(s:ByteArray)(fv:Value)(g:UInt8->Bool)(w:World)(W:FnU w fv g)(hn:s.size<=1048576):CR 293 [.string s,fv] w (λv w'=>∃n:Nat,v=iE (n:Int)/\(n=(jn s).length↔(jn s).all g=true)/\Ext w w'):=by
 obtain⟨g0,first,cap,rfl,U,Y⟩:=W;have B:=St.start w;refine ahb _ _ _ _ ?_;unfold S293;refine⟨λm x J=>∃k:Nat,x=iE (k:Int)/\m=(jn s).length-k/\k<=(jn s).length/\(∀y∈(jn s).take k,g y=true)/\St w bE [] J,⟨_,0,rfl,rfl,ob _,et,B⟩,?_⟩;rintro m _ J ⟨k,rfl,rfl,V,M,B⟩ _;have xD:=eu s;refine⟨λZ w'=>Z=.bool (match (jn s)[k]? with|some c=>g c|none=>false)/\St w bE [] w',fG gL (aV (aC (λlR=>?_) λ_=>⟨vb dH,B⟩)),?_⟩
 .obtain⟨O,E⟩:∃I,(jn s)[(k:Int).toNat]?=some I:=⟨_,l0 (by rw[eu];omega)⟩;refine kU gL cU E (fm U (Y O _ B.aG) ?_);rintro _ _ ⟨rfl,he⟩;have B:=B.ext he;exact⟨vb dH,B⟩
 rintro _ _ ⟨rfl,B⟩ _;refine aX (λG=>?_) (λG=>⟨k,rfl,ahk M V (by simpa using G),B.aG⟩);obtain⟨O,E⟩:∃I,(jn s)[k]?=some I:=by cases h:(jn s)[k]? with|none=>rw[h]at G;cases G|some x=>exact⟨x,rfl⟩
 have ZU:=(j0.1 E).1;exact aR cU ⟨_,cU,k+1,rfl,rfl,cU,fg M E dH,B⟩
def C292(s:ByteArray)(w:World):CR 292 [.string s] w (λv w'=>v=.bool (km.any λy=>decide (y=s))/\Ext w w'):=by
 have B:=St.start w;refine fD Tryz.func292 ?_;refine eC asT (C345 _) ?_;rintro _ _ ⟨I,rfl,E,G⟩;have B:=B.ext G;exact Qm E Tryz.underlying403 Tryz.underlying9 VK ⟨rfl,B.aG⟩
def C206(s:ByteArray)(w:World):CR 206 [.string s] w (λv w'=>v=.bool (iu s)/\Ext w w'):=by
 have B:=St.start w;refine fD Tryz.func206 ?_;refine⟨λW w'=>W=.bool (zS s)/\St w bE [] w',kJ (aC (λI=>?_) λI=>?_),?_⟩
 .have Z:s.size=0:=by rw[I];rfl
  exact⟨vb (by unfold zS;grind),B⟩
 .have Z:s.size≠0:=λh=>I (amV h);refine fG gL (eh (aC (λ_=>⟨vb (by unfold zS;grind),B⟩) λiO=>?_));obtain⟨G,M⟩:∃O,(jn s)[(0:Int).toNat]?=some O:=⟨_,l0 (by rw[eu];omega)⟩;refine kU gL cU M ?_;have Lm:(jn s)[0]?=some G:=M;have V:¬ (s.size<1\/16<s.size):=cU
  exact aY akj B (C291 _ _) (λ_ _ B=>bJ (aX (λ_=>⟨vb (by unfold zS;grind),B⟩) λ_=>aY asH B (C292 _ _) λ_ _ B=>⟨vb (by unfold zS;grind),B⟩))
 rintro _ _ ⟨rfl,B⟩ _;refine aX (λE=>⟨vb (abP E).symm,B.aG⟩) (λE=>eC asF (C293 s _ (λc=>iq c.toNat||lf c.toNat) _ ⟨294,[],[],rfl,asG,λ_ U _=>C294 _ U⟩ (abO (by simpa using E))) ?_);rintro _ _ ⟨nr,rfl,J,Y⟩;have B:=B.ext Y;exact fG gL (aI ⟨vb (abQ (by simpa using E) J),B.aG⟩)
def Yt(xs:List bY)(i:Int)(n:Nat):Int:=if n=0 then i else if i<0 then -1 else Gs xs.length (skip n (xs.drop i.toNat))
def ahm(xs:List bY)(i:Int):Yt xs i 1=sR xs i:=by unfold Yt sR;omega
theorem abS(xs:List bY)(i:Int):Yt xs i 0=i:=rfl
theorem ahn{xs:List bY}{i:Int}{n:Nat}(B:0<n)(h:i<0\/(xs.length:Int)<=i):Yt xs i n = -1:=by
 unfold Yt
 rw[ew cU]
 split
 .rfl
 rw[xr cU]
 cases n with
 | zero=>omega
 | succ n=>rfl
theorem aho{xs:List bY}{i:Int}{n:Nat}{x:bY}(J:0<n)(I:0<=i)(B:xs[i.toNat]?=some x)(M:kids x.op<0):Yt xs i n = -1:=by
 unfold Yt
 obtain⟨E,G⟩:=j0.1 B
 rw[ew cU,ew cU,vP E,G]
 cases n with
 | zero=>omega
 | succ n=>
  grind[Gs,skip]
theorem abT{xs:List bY}{i:Int}{n m:Nat}{x:bY}(J:0<n)(I:0<=i)(E:xs[i.toNat]?=some x)(M:0<=kids x.op)(O:(m:Int)=n+kids x.op-1):Yt xs i n=Yt xs (i+1) m:=by
 obtain⟨G,B⟩:=j0.1 E
 have h1:Yt xs i n=Gs xs.length (skip m (xs.drop (i+1).toNat)):=by
  unfold Yt
  rw[ew cU,ew cU,vP G,B,show(i+1).toNat=i.toNat+1 from cU]
  cases n with
  | zero=>omega
  | succ n=>
   grind[Gs,skip]
 rw[h1]
 grind[Gs,skip,Yt]
def opP(i:Int)(ks:List Ex)(k:Nat):List Int:=(qi k).map λj=>i+1+(wP ks j:Int)
theorem abV(i:Int)(ks:List Ex)(k:Nat):opP i ks (k+1)=opP i ks k++[i+1+(wP ks k:Int)]:=by
 unfold opP;rw[B8,vB];rfl
theorem V8(i:Int)(ks:List Ex)(k:Nat):(opP i ks k).length=k:=by simp[opP]
def ahp{i:Int}{ks:List Ex}{n k:Nat}{e:Int}(h:(opP i ks n)[k]?=some e):e=i+1+(wP ks k:Int)/\k<n:=by
 unfold opP at h
 grind
def C304(k:Int)(w:World):CR 304 [iE k] w (λv w'=>v=iE (kids k)/\Ext w w'):=by
 have G:=St.start w;refine fD Tryz.func304 ?_;refine⟨λB w'=>B=.bool (decide (k=1\/k=2))/\w=w',aI (aC (λ_=>⟨Vr cU,rfl⟩) λ_=>aI ⟨Hw cU,rfl⟩),?_⟩;rintro _ _ ⟨rfl,E⟩ _;subst E;refine aC (λJ=>?_) (λJ=>⟨λB w'=>B=.bool (decide (k=3\/k=4))/\w=w',aI (aC (λ_=>⟨Vr cU,rfl⟩) λ_=>aI ⟨Hw cU,rfl⟩),?_⟩)
 .unfold kids;exact⟨gD (n5 .i64) dH,G.aG⟩
 rintro _ _ ⟨rfl,E⟩ _;subst E;refine aC (λI=>?_) (λI=>⟨λB w'=>B=.bool (decide (5<=k/\k<=15))/\w=w',dC (aC (λ_=>kq ⟨Hw cU,rfl⟩) λ_=>⟨jvF cU,rfl⟩),?_⟩)
 .unfold kids;exact⟨gD (n5 .i64) dH,G.aG⟩
 rintro _ _ ⟨rfl,E⟩ _;subst E;refine aC (λM=>?_) (λM=>?_)
 .unfold kids;exact⟨gD (n5 .i64) dH,G.aG⟩
 unfold kids;exact⟨gD (n5 .i64) dH,G.aG⟩
def C229(x:bY)(w:World):CR 229 [jj x] w (λv w'=>v=.bool (!ET x)/\Ext w w'):=by
 have B:=St.start w;refine fD Tryz.func229 ?_;refine cP B (λG _ B=>⟨λE w'=>E=.bool (decide (x.at_<0\/4000<x.at_))/\St w bE [bU G (jl x)] w',aA CN (aB (v:=iE x.at_) bL B.hb rfl (aV (aC (λ_=>⟨vb dH,B⟩) λ_=>aA CN (aB (v:=iE x.at_) bL B.hb rfl (eh ⟨vb dH,B⟩))))),?_⟩);rintro _ _ ⟨rfl,B⟩ _;refine aX (λM=>?_) (λM=>?_)
 .refine⟨vb ?_,B.drop.aG⟩;unfold ET
  grind
 refine aA lK (aB (v:=iE x.op) bL B.hb rfl (aI (aC (λJ=>⟨λE w'=>E=.bool (decide (0<=x.n/\x.n<=4294967296/\x.name=⟨#[]⟩))/\St w bE [bU G (jl x)] w',aA zy (aB (v:=iE x.n) bL B.hb rfl (dC (aC (λ_=>aA zy (aB (v:=iE x.n) bL B.hb rfl (kq (aC (λ_=>aA nq (aB (v:=.string x.name) ke B.hb rfl (kJ ⟨vb dH,B⟩))) λ_=>⟨vb dH,B⟩)))) λ_=>⟨vb dH,B⟩))),?_⟩) λJ=>?_)))
 .rintro _ _ ⟨rfl,B⟩ _;refine⟨vb ?_,B.drop.aG⟩;unfold ET
  grind
 refine aA lK (aB (v:=iE x.op) bL B.hb rfl (aI (aC (λI=>⟨λE w'=>E=.bool (decide (x.n=0)&&iu x.name)/\St w bE [bU G (jl x)] w',aA zy (aB (v:=iE x.n) bL B.hb rfl (aI (aC (λ_=>aA nq (aB (v:=.string x.name) ke B.hb rfl (aY PW B (C206 _ _) λ_ _ B=>⟨vb dH,B⟩))) λ_=>⟨vb dH,B⟩))),?_⟩) λI=>?_)))
 .rintro _ _ ⟨rfl,B⟩ _;refine⟨vb ?_,B.drop.aG⟩;unfold ET
  grind
 refine⟨λE w'=>E=.bool (decide (x.n=0/\x.name=⟨#[]⟩))/\St w bE [bU G (jl x)] w',aA zy (aB (v:=iE x.n) bL B.hb rfl (aI (aC (λ_=>aA nq (aB (v:=.string x.name) ke B.hb rfl (kJ ⟨vb dH,B⟩))) λ_=>⟨vb dH,B⟩))),?_⟩;rintro _ _ ⟨rfl,B⟩ _;refine⟨vb ?_,B.drop.aG⟩;unfold ET
 grind
def C228(x:bY)(w:World):CR 228 [jj x] w (λv w'=>v=.bool (ET x)/\Ext w w'):=by
 have B:=St.start w;refine fD Tryz.func228 ?_;exact cP B (λ_ _ B=>aE zx B.At (aY asI B (C229 _ _) λ_ _ B=>bJ ⟨vb et,B.drop.aG⟩))
def C303(O fv:Value)(xs:List bY)(g:bY->Bool)(w:World)(M:dP (λ_=>True) w O xs)(V:vG w fv g)(hn:xs.length<=1073741824):CR 303 [O,fv] w (λv w'=>v=iE (pY g xs)/\Ext w w'):=by
 obtain⟨g0,first,cap,rfl,U,W⟩:=V;have B:=St.start w;refine fD Tryz.func303 ?_;refine aK me (M.ext B.aG) ?_;refine⟨λm x I=>∃k:Nat,x=iE (k:Int)/\m=xs.length-k/\k<=xs.length/\(∀y∈xs.take k,g y=false)/\St w bE [] I,⟨_,0,rfl,rfl,ob _,et,B⟩,?_⟩;rintro m _ I ⟨k,rfl,rfl,hk,E,B⟩ _;refine aV (aC (λlR=>?_) λ_=>⟨gD (n5 .i64) (gJ (by rw[mH cU]at E;exact E)).symm,B.aG⟩);obtain⟨Y,G⟩:=gx xs (i:=(k:Int).toNat) cU;refine aW me M cU G (λ_ Z=>aE zx (Z.ext B.aG) (fm U (W Y I B.aG) ?_))
 rintro _ _ ⟨rfl,he⟩;have B:=B.ext he;exact aX (λJ=>⟨gD (n5 .i64) (jT E G J).symm,B.aG⟩) (λJ=>aR cU ⟨xs.length-(k+1),cU,k+1,rfl,rfl,cU,fg E G J,B⟩)
def C230(E fv:Value)(xs:List bY)(g:bY->Bool)(w:World)(G:dP (λ_=>True) w E xs)(I:vG w fv g)(J:xs.length<=1073741824):CR 230 [E,fv] w (λv w'=>v=.bool (xs.any g)/\Ext w w'):=by
 have B:=St.start w;refine fD Tryz.func230 ?_;exact aY asP B (C303 _ _ _ _ _ (G.ext B.aG) (I.ext B.aG) cU) (λ_ _ B=>dC ⟨vb (iJ _ _),B.aG⟩)
def C231(lv:Value)(xs:List bY)(i:Int)(w:World)(J:dP (λ_=>True) w lv xs)(hn:xs.length<=1048576):CR 231 [lv,iE i] w (λv w'=>v=iE (sR xs i)/\Ext w w'):=by
 have B:=St.start w;refine fD Tryz.func231 ?_;refine⟨λm x y W=>∃(a:Int) (n:Nat),x=iE a/\y=iE (n:Int)/\m=xs.length-a.toNat/\n<=1+a.toNat/\Yt xs a n=sR xs i/\St w bE [] W,⟨_,i,1,rfl,rfl,rfl,cU,ahm _ _,B⟩,?_⟩;rintro m _ _ W ⟨a,n,rfl,rfl,rfl,hna,E,B⟩ _;refine eh (aC (λj9=>⟨λjv w'=>jv=.bool (decide (a<0\/(xs.length:Int)<=a)||(match xs[a.toNat]? with|some x=>decide (kids x.op = -1)|none=>true))/\St w bE [] w',aV (aC (λ_=>⟨vb dH,B⟩) λkj=>aK me (J.ext B.aG) (dC (aC (λ_=>⟨vb dH,B⟩) λdK=>?_))),?_⟩) λj9=>?_)
 .obtain⟨G,I⟩:=gx xs (i:=a.toNat) cU;have M:=zJ G.op;exact aW me J cU I (λ_ Df=>cL G.op lK Df rfl rfl λ_ O=>aE bL (O.ext B.aG) (aY abz B (C304 _ _) λ_ _ B=>aI ⟨vb dH,B⟩))
 .rintro _ _ ⟨rfl,B⟩ _;refine aX (λV=>?_) (λV=>?_)
  .refine⟨gD (n5 .i64) ?_,B.aG⟩;rw[<- E]
   by_cases hq:a<0\/(xs.length:Int)<=a
   .exact(ahn cU hq).symm
   have Y:a.toNat<xs.length:=cU
   rw[l0 Y]at V;exact(aho cU cU (l0 Y) dH).symm
  have h23:¬ (a<0\/(xs.length:Int)<=a):=dH
  obtain⟨G,I⟩:=gx xs (i:=a.toNat) cU;have M:=zJ G.op;have Z:0<=kids G.op:=dH
  exact aW me J cU I (λ_ zM=>cL G.op lK zM rfl rfl λ_ yz=>aE bL (yz.ext B.aG) (aY abz B (C304 _ _) λ_ _ B=>aR cU (aR cU (fO cU ⟨_,cU,a+1,((n:Int)+kids G.op-1).toNat,rfl,gD (n5 .i64) cU,rfl,cU,by rw[<- E];exact(abT cU cU I Z cU).symm,B⟩))))
 have U:n=0:=cU
 rw[U,abS]at E;exact⟨gD (n5 .i64) E,B.aG⟩
theorem F0{l:List bY}:gM l=(decide (l.length<=40)&&decide (sR l 0=l.length)&&!l.any ET&&decide (abu l<=12)):=by
 unfold gM;rw[PU]
def C305(lv:Value)(xs:List bY)(i:Int)(t:Ex)(w:World)(M:dP (λ_=>True) w lv xs)(hn:xs.length<=1048576)(E:Lg xs i t):CR 305 [lv,iE i] w (λv w'=>mf (bG v (opP i t.fi t.fi.length)) w w'):=by
 obtain⟨U,hq,zL⟩:∃e,e=t.root/\xs[(i).toNat]?=some e:=⟨_,rfl,E.root.1⟩;have hri:=E.root.2;have Z:=E.end;have W:=Ex.C7 E.2.1;rw[<- hq]at W;have hkb:=zJ U.op;have hi0:=E.1;have B:=St.start w;refine fD Tryz.func305 ?_;refine aR cU (aW me M cU zL λ_ Y=>cL U.op lK Y rfl rfl λ_ Qq=>aE bL (Qq.ext B.aG) (aY abz B (C304 _ _) λV he B=>?_));refine⟨λm O a x V=>∃k:Nat,a=iE (i+1+wP t.fi k)/\x=iE (k:Int)/\m=t.fi.length-k/\k<=t.fi.length/\St w bE [bG O (opP i t.fi k)] V,⟨_,0,gD (n5 .i64) (by simp[wP]),rfl,rfl,cU,B.eU (α:=Int)⟩,?_⟩
 rintro m O _ _ _ ⟨k,rfl,rfl,rfl,hk,B⟩ _;refine aV (aC (λdK=>?_) λdK=>?_)
 .obtain⟨a,I⟩:=gx t.fi (i:=k) cU;have hka:=Ex.BS E.2.1 (ml I);have J:=E.kid I;have G:=J.end;have hdb:=a.vc;refine bV ([(i+1+wP t.fi k:Int)]) B dZ rfl rfl (ei rfl) (λakv _ B=>?_);have Nb:=B.fc;exact cK B.p1 dZ Nb (by rw[V8];exact U8 (by simp;omega)) er (λ_ _ B=>have B:=B.p1.drop;aY abA B (C231 _ _ _ _ (M.ext B.aG) cU) λ_ _ B=>aR cU ⟨_,cU,k+1,gD (n5 .i64) (by rw[G.1,ER I];omega),rfl,rfl,cU,by rw[abV];exact B⟩)
 rw[show t.fi.length=k from cU];exact B.fresh
theorem C232(lv:Value)(xs:List bY)(i:Int)(t:Ex)(N:Nat)(w:World)(O:dP (λ_=>True) w lv xs)(hn:xs.length<=1048576)(E:Lg xs i t)(hN:t.size<N):CR 232 [lv,iE i] w (λv w'=>v=iE t.depth/\Ext w w'):=by
 obtain⟨uN,hq,zL⟩:∃e,e=t.root/\xs[(i).toNat]?=some e:=⟨_,rfl,E.root.1⟩;have hri:=E.root.2;have W:=E.end;have V:=Ex.C7 E.2.1;rw[<- hq]at V;have hkb:=zJ uN.op;have hi0:=E.1;have B:=St.start w;refine ahc _ _ _ _ ?_;unfold S232;refine cW asK B (C305 _ _ _ t _ (O.ext B.aG) cU E) (λI U cA B=>?_);have V9:=V8 i t.fi t.fi.length;refine aK dZ B.fc ?_;refine⟨λm n x U=>∃k:Nat,n=iE (Gt t.fi k)/\x=iE (k:Int)/\m=t.fi.length-k/\k<=t.fi.length/\St w bE [bG I (opP i t.fi t.fi.length)] U,⟨_,0,rfl,rfl,rfl,cU,B⟩,?_⟩;rintro m _ _ _ ⟨k,rfl,rfl,rfl,hk,B⟩ _
 have hdk:=Tg (ks:=t.fi) (N:=(t.size:Int)) cU (λa Y=>by have:=(Ex.BS E.2.1 Y).2;have:=a.vc;omega) k;refine aV (aC (λoG=>?_) λ_=>aR cU ⟨gD (n5 .i64) (by rw[t.PR,show k=t.fi.length from cU]),B.aG⟩);obtain⟨jz,M⟩:=gx (opP i t.fi t.fi.length) (i:=(k:Int).toNat) cU;refine dN B dZ cU cU (λ_ gC=>gW B bL gC M ?_);obtain⟨rfl,Sp⟩:=ahp M;obtain⟨a,J⟩:=gx t.fi (i:=k) cU;have Z:=Ex.BS E.2.1 (ml J);have G:=E.kid J;have hen:=G.end;have hdb:=a.vc
 exact aY akk B (C232 _ _ _ _ (N-1) _ (O.ext B.aG) hn G cU) (λ_ _ B=>CT (aR cU ⟨_,cU,k+1,by rw[ES J],rfl,rfl,cU,B⟩))
termination_by N
decreasing_by all_goals omega
def C121(lv:Value)(xs:List bY)(w:World)(E:dP (λ_=>True) w lv xs)(I:xs.length<=1048576):CR 121 [lv] w (λv w'=>v=.bool (gM xs)/\Ext w w'):=by
 have B:=St.start w;refine fD Tryz.func121 ?_;refine⟨λV w'=>V=.bool (decide (xs.length=0\/40<xs.length)||xs.any ET||decide (¬ sR xs 0=xs.length))/\St w bE [] w',aK me (E.ext B.aG) (aI (aC (λ_=>⟨vb dH,B⟩) λY=>aK me (E.ext B.aG) (eh (aC (λ_=>⟨vb dH,B⟩) λZ=>?_)))),?_⟩
 .have G:vG w (.func (.func 228) [].toArray [].toArray) ET:=
   ⟨228,[],[],rfl,asJ,λy M _=>C228 y M⟩
  exact aY asO B (C230 _ _ _ _ _ (E.ext B.aG) G cU) (λ_ _ B=>aX (λ_=>⟨vb dH,B⟩) λ_=>aY abA B (C231 _ _ _ _ (E.ext B.aG) cU) λ_ _ B=>aK me (E.ext B.aG) (cN ⟨vb dH,B⟩))
 rintro _ _ ⟨rfl,B⟩ _;refine aX (λJ=>?_) (λJ=>?_)
 .refine⟨vb ?_,B.aG⟩;rw[F0]
  by_cases O:xs.length=0
  .obtain rfl:=vI.1 O;rfl
  grind
 have U:sR xs 0=xs.length:=dH
 obtain⟨t,ht⟩:=Lg.of (xs:=xs) (i:=0) cU;have W:=ht.zero U;refine aY akk B (C232 _ _ _ t (t.size+1) _ (E.ext B.aG) I ht cU) (λ_ he B=>kq ?_);refine⟨vb ?_,B.aG⟩;rw[F0];unfold abu;rw[W.2]
 grind
def oP(o:List ByteArray)(x:bY):List ByteArray:=if x.op=2/\o.any (λy=>decide (y=x.name))=false then o++[x.name]else o
theorem abX{o:List ByteArray}{x:bY}(h:x.op=2/\o.any (λy=>decide (y=x.name))=false):oP o x=o++[x.name]:=ez h
theorem abY{o:List ByteArray}{x:bY}(h:¬ (x.op=2/\o.any (λy=>decide (y=x.name))=false)):oP o x=o:=ew h
def oQ(xs:List bY):List ByteArray:=xs.foldl oP []
theorem Qr{xs:List bY}{k:Nat}{x:bY}(h:xs[k]?=some x):oQ (xs.take (k+1))=oP (oQ (xs.take k)) x:=by
 unfold oQ;rw[<- gI h,List.foldl_append];rfl
theorem F3(xs:List bY):(oQ xs).length<=xs.length:=by
 have:∀(l:List bY) (o:List ByteArray),(l.foldl oP o).length<=o.length+l.length:=by
  intro l
  induction l with
  | nil=>grind
  | cons x l B=>
   grind[oP]
 simpa[oQ]using this xs []
theorem To(g:ByteArray->Bool)(xs:List bY):(oQ xs).any g=xs.any λx=>decide (x.op=2)&&g x.name:=by
 have:∀(l:List bY) (o:List ByteArray),(l.foldl oP o).any g=(o.any g||l.any λx=>decide (x.op=2)&&g x.name):=by
  intro l
  induction l with
  | nil=>grind
  | cons x l B=>
   intro o
   show(l.foldl oP (oP o x)).any g=_
   rw[B]
   have h2:(oP o x).any g=(o.any g||(decide (x.op=2)&&g x.name)):=by
    unfold oP
    grind
   grind
 exact(this xs []).trans et
theorem EW(ns:List ByteArray)(s:ByteArray):decide (0<=bR ns s)=ns.any λy=>decide (y=s):=iJ _ _
theorem Yu(ns:List ByteArray)(s:ByteArray):decide (bR ns s<0) = !ns.any λy=>decide (y=s):=by
 rw[<- EW]
 grind
def Tp{k:Int}(h:0<=kids k):fV k=kids k:=by unfold fV kids at *;grind
def ahq{ns:List ByteArray}{xs:List bY}(h:gM xs=false):sG ns xs=8:=by unfold sG;grind
def ahr{ns:List ByteArray}{xs:List bY}(h:gM xs=true):sG ns xs=if (oQ xs).any (λs=>!ns.any λy=>decide (y=s))=true then 9 else 0:=by
 unfold sG
 rw[ew (by simp[h]),To]
 simp only[Yu]
theorem Qs{ns:List ByteArray}{xs:List bY}(h:¬ sG ns xs=0):eL ns xs=[]:=by unfold eL;grind
def BX(ns:List ByteArray)(B:List Int)(xs:List bY):Int×Int:=if ns.length=B.length then(if sG ns xs=0 then runM (eL ns xs) B else(0,sG ns xs))else(0,1)
def C233(O:Value)(ns:List ByteArray)(s:ByteArray)(w:World)(J:dP (λ_=>True) w O ns)(W:ns.length<=1048576):CR 233 [O,.string s] w (λv w'=>v=iE (bR ns s)/\Ext w w'):=by
 have B:=St.start w;refine fD Tryz.func233 ?_;refine aK kN (J.ext B.aG) ?_;refine⟨λm x M=>∃k:Nat,x=iE (k:Int)/\m=ns.length-k/\k<=ns.length/\(∀y∈ns.take k,decide (y=s)=false)/\St w bE [] M,⟨_,0,rfl,rfl,ob _,et,B⟩,?_⟩;rintro m _ M ⟨k,rfl,rfl,Y,E,B⟩ _;refine aV (aC (λV=>?_) λ_=>⟨gD (n5 .i64) (gJ (by rw[mH cU]at E;exact E)).symm,B.aG⟩);obtain⟨Z,G⟩:=gx ns (i:=(k:Int).toNat) cU;exact aW kN J cU G (λ_ U=>aE ke (U.ext B.aG) (kJ (aC (λI=>⟨gD (n5 .i64) (jT E G (fY I.symm)).symm,B.aG⟩) λI=>aR cU ⟨_,cU,k+1,rfl,rfl,cU,fg E G (gk λh=>I h.symm),B⟩)))
def C123(E:Value)(ns:List ByteArray)(s:ByteArray)(w:World)(G:dP (λ_=>True) w E ns)(I:ns.length<=1048576):CR 123 [E,.string s] w (λv w'=>v=.bool (ns.any λy=>decide (y=s))/\Ext w w'):=by
 have B:=St.start w;refine fD Tryz.func123 ?_;exact aY abB B (C233 _ _ _ _ (G.ext B.aG) cU) (λ_ _ B=>dC ⟨vb (EW _ _),B.aG⟩)
def C234(O fv:Value)(xs:List ByteArray)(g:ByteArray->Bool)(w:World)(M:dP (λ_=>True) w O xs)(V:vG w fv g)(hn:xs.length<=1073741824):CR 234 [O,fv] w (λv w'=>v=iE (pY g xs)/\Ext w w'):=by
 obtain⟨g0,first,cap,rfl,U,W⟩:=V;have B:=St.start w;refine fD Tryz.func234 ?_;refine aK kN (M.ext B.aG) ?_;refine⟨λm x I=>∃k:Nat,x=iE (k:Int)/\m=xs.length-k/\k<=xs.length/\(∀y∈xs.take k,g y=false)/\St w bE [] I,⟨_,0,rfl,rfl,ob _,et,B⟩,?_⟩;rintro m _ I ⟨k,rfl,rfl,hk,E,B⟩ _;refine aV (aC (λlR=>?_) λ_=>⟨gD (n5 .i64) (gJ (by rw[mH cU]at E;exact E)).symm,B.aG⟩);obtain⟨Y,G⟩:=gx xs (i:=(k:Int).toNat) cU;refine aW kN M cU G (λ_ Z=>aE ke (Z.ext B.aG) (fm U (W Y I B.aG) ?_))
 rintro _ _ ⟨rfl,he⟩;have B:=B.ext he;exact aX (λJ=>⟨gD (n5 .i64) (jT E G J).symm,B.aG⟩) (λJ=>aR cU ⟨xs.length-(k+1),cU,k+1,rfl,rfl,cU,fg E G J,B⟩)
def C124(E fv:Value)(xs:List ByteArray)(g:ByteArray->Bool)(w:World)(G:dP (λ_=>True) w E xs)(I:vG w fv g)(J:xs.length<=1073741824):CR 124 [E,fv] w (λv w'=>v=.bool (xs.any g)/\Ext w w'):=by
 have B:=St.start w;refine fD Tryz.func124 ?_;exact aY asQ B (C234 _ _ _ _ _ (G.ext B.aG) (I.ext B.aG) cU) (λ_ _ B=>dC ⟨vb (iJ _ _),B.aG⟩)
def C125(lv:Value)(xs:List bY)(w:World)(G:dP (λ_=>True) w lv xs)(hn:xs.length<=1048576)(Z:gM xs=true):CR 125 [lv] w (λv w'=>mf (bG v (oQ xs)) w w'):=by
 have B:=St.start w;refine fD Tryz.func125 ?_;refine aY V3 B (C121 _ _ _ (G.ext B.aG) cU) (λY he B=>bJ (aX (λO=>?_) λO=>?_))
 .rw[Z]at O;cases O
 refine aK me (G.ext B.aG) ?_;refine⟨λm I x Y=>∃k:Nat,x=iE (k:Int)/\m=xs.length-k/\k<=xs.length/\St w bE [bG I (oQ (xs.take k))] Y,⟨_,0,rfl,rfl,cU,B.eU (α:=ByteArray)⟩,?_⟩;rintro m I _ _ ⟨k,rfl,rfl,hk,B⟩ _;refine aV (aC (λmX=>?_) λmX=>?_)
 .obtain⟨E,W⟩:=gx xs (i:=(k:Int).toNat) cU;refine⟨λU w'=>St w bE [bG U (oP (oQ (xs.take k)) E)] w',?_,?_⟩
  .have V:=F3 (xs.take k);rw[n0]at V;refine aW me G cU W (λ_ PO=>aE zx (PO.ext B.aG) (aJ B GX λA9 _ B=>aH (x:=E) B zx rfl rfl λ_ B=>⟨λU w'=>U=.bool (decide (E.op=2)&&!(oQ (xs.take k)).any λy=>decide (y=E.name))/\St w bE [bU A9 (jl E),bG I (oQ (xs.take k))] w',aA lK (aB (v:=iE E.op) bL B.hb rfl (aI (aC (λ_=>aA nq (aB (v:=.string E.name) ke B.hb rfl (aY akn B (C123 _ _ _ _ B.p1.fc cU) λ_ _ B=>bJ ⟨vb dH,B⟩))) λ_=>⟨vb dH,B⟩))),?_⟩))
   rintro _ _ ⟨rfl,B⟩ _;refine aX (λM=>?_) (λM=>?_)
   .refine aA nq (aB (v:=.string E.name) ke B.hb rfl (bV ([E.name]) B kN rfl rfl (ei rfl) λakw _ B=>?_));have J:=B.fc;refine cK B.p2 kN J (by simp<;>omega) er (λas0 _ B=>?_);have B:=B.p1.drop;rw[abX (by simpa using M)];exact B.p1.drop
   rw[abY (by simpa using M)];exact B.drop
  rintro vA _ B _;exact aR cU ⟨_,cU,k+1,rfl,rfl,cU,by rw[Qr (k:=k) W];exact B⟩
 rw[mH cU]at B;exact B.fresh
def Nc{α:Type}[Flat α]{S:Nat->Prop}{w:World}{v:Value}{xs:List α}(h:dP S w v xs):sg v=true:=by obtain⟨a,c,rfl,_⟩:=h;rfl
theorem Yv(ns:List ByteArray)(xs:List bY):(eL ns xs).length<=xs.length:=by
 unfold eL
 split
 .unfold M4
  cases h:BT xs with
  | none=>grind
  | some t=>
   rw[Ex.wO,<- Ex.dL,<- (xM h).2];omega
 grind
theorem C126(lv nv:Value)(xs:List bY)(ns:List ByteArray)(i:Int)(t:Ex)(N:Nat)(w:World)(M:dP (λ_=>True) w lv xs)(hN:dP (λ_=>True) w nv ns)(hn:xs.length<=1048576)(Ln:ns.length<=1048576)(G:Lg xs i t)(hNt:t.size<N):CR 126 [lv,iE i,nv] w (λv w'=>mf (bG v (t.steps ns)) w w'):=by
 obtain⟨E,hq,V⟩:∃e,e=t.root/\xs[(i).toNat]?=some e:=⟨_,rfl,G.root.1⟩;have hri:=G.root.2;have hie:=G.end;have Kn:=Ex.C7 G.2.1;rw[<- hq]at Kn;have hkb:=zJ E.op;have hi0:=G.1;have hwk:=Tp (k:=E.op) cU;have B:=St.start w;refine pG Tryz.func126 (pl:=aAr) ?_;refine aR cU (aW me M cU V λ_ gC=>cL E.op lK gC rfl rfl λ_ Dg=>aE bL (Dg.ext B.aG) (aY aaB B (C149 _ _) λw1 he B=>?_));refine⟨λm I a x w1=>∃k:Nat,a=iE (i+1+wP t.fi k)/\x=iE (k:Int)/\m=t.fi.length-k/\k<=t.fi.length/\St w bE [bG I (stK ns t.fi k)] w1,⟨_,0,gD (n5 .i64) (by simp[wP]),rfl,rfl,cU,B.eU (α:=nW)⟩,?_⟩
 rintro m I _ _ _ ⟨k,rfl,rfl,rfl,hk,B⟩ _;refine aV (aC (λjh=>?_) λjh=>?_)
 .obtain⟨a,W⟩:=gx t.fi (i:=k) cU;have hka:=Ex.BS G.2.1 (ml W);have U:=G.kid W;have Y:=U.end;have hdb:=a.vc;have O:=V2 (ns:=ns) (ks:=t.fi) (k:=k);have hal:=Ex.wO ns a;refine cW akl B (C126 _ _ _ _ _ _ (N-1) _ (M.ext B.aG) (hN.ext B.aG) hn Ln U cU) (λx24 _ cA B=>?_);have BY:=B.fc;exact cK B.p1 rz BY cU er (λ_ _ B=>have B:=B.p1.drop;aY abA B (C231 _ _ _ _ (M.ext B.aG) cU) λ_ _ B=>aR cU ⟨_,cU,k+1,gD (n5 .i64) (by rw[Y.1,ER W];omega),rfl,rfl,cU,by rw[abt W];exact B⟩)
 have O:=V2 (ns:=ns) (ks:=t.fi) (k:=k);refine aW me M cU V (λ_ Dh=>cL E.op lK Dh rfl rfl λ_ Bs=>have B:=B.drew;aE bL (Bs.ext B.aG) (aW me M cU V λ_ Iv=>cL E.n zy Iv rfl rfl λ_ F4=>aE bL (F4.ext B.aG) (pop (S7 _ _) (aJ B MQ λEN _ B=>?_))));refine⟨fJ bL (Bs.ext B.aG),?_⟩;refine⟨fJ bL (F4.ext B.aG),?_⟩;refine aH (x:=(⟨E.op,E.n⟩:nW)) B HQ rfl rfl (λ_ B=>⟨λw'=>St w bE [bU EN (jl (⟨E.op,Ex.numOf ns E⟩:nW)),bG I (stK ns t.fi k)] w',aA oB (aB (v:=iE ((⟨E.op,E.n⟩:nW).kind)) bL B.hb rfl (aI (aC (λyA=>?_) λyA=>?_))),?_⟩)
 .refine aW me M cU V (λ_ Qt=>cL E.name nq Qt rfl rfl λ_ Z=>aE ke (Z.ext B.aG) (aY abB B (C233 _ _ _ _ (hN.ext B.aG) cU) λ_ he B=>aA rB (aO B bL (ei rfl) (rfl) λ_ B=>?_)));have B:=B.enc (cs':=jl ({ (⟨E.op,E.n⟩:nW)with n:=(bR ns E.name)}:nW)) rfl;have J:Ex.numOf ns E=bR ns E.name:=ez yA;rw[<- J]at B;exact B
 .have J:Ex.numOf ns E=E.n:=ew yA;rw[<- J]at B;exact B
 rintro _ B _;refine aE HQ B.At (bV ([(⟨E.op,Ex.numOf ns E⟩:nW)]) B rz rfl rfl (ei rfl) λas2 _ B=>?_);have Tq:=B.fc;refine cK B.p2 rz Tq (by rw[O,mv];have:(t.steps ns).length=t.size:=Ex.wO ns t;rw[Ex.Im,lJ,mv,<- show k=t.fi.length from cU]at this;omega) er (λas3 _ B=>?_);have B:=B.p1.drop;rw[Ex.Im,<- show k=t.fi.length from cU,<- hq];exact B.p1.drop.fresh
termination_by N
decreasing_by all_goals omega
def C122(s:ByteArray)(b2:Nat)(E:Value)(ns:List ByteArray)(w:World)(hc:Cell w b2 0 E)(G:dP (λ_=>True) w E ns)(I:ns.length<=1048576):CR 122 [.string s,.pointer (some ⟨b2,0,none⟩)] w (λv w'=>v=.bool (!ns.any λy=>decide (y=s))/\Ext w w'):=by
 have B:=St.start w;refine fD Tryz.func122 ?_;exact bN nf (hc.ext B.aG) (aY akn B (C123 _ _ _ _ (G.ext B.aG) cU) λ_ _ B=>bJ ⟨rfl,B.aG⟩)
def C59(lv U:Value)(xs:List bY)(ns:List ByteArray)(w:World)(G:dP (λ_=>True) w lv xs)(I:dP (λ_=>True) w U ns)(Y:xs.length<=1048576)(Ln:ns.length<=1048576):CR 59 [lv,U] w (λv w'=>∃s,v=.tuple #[s,iE (sG ns xs)]/\mf (bG s (eL ns xs)) w w'):=by
 have B:=St.start w;refine amN _ _ _ _ ?_;unfold S59;refine ni B (Nc I) (λQu w1 B=>aY V3 B (C121 _ _ _ (G.ext B.aG) cU) λ_ he B=>bJ (aX (λJ=>?_) λJ=>?_))
 .have W:sG ns xs=8:=ahq (by simpa using J);refine⟨_,by rw[W],?_⟩;rw[Qs (by rw[W];decide)];exact(B.drop.eU (α:=nW)).fresh
 have E:gM xs=true:=by simpa using J
 have hnl:=F3 xs;have Z:=ahr (ns:=ns) E;refine cW asL B (C125 _ _ _ (G.ext B.aG) Y E) (λx12 _ cA B=>?_)
 have V:vG _ (.func (.func 122) [].toArray [.pointer (some ⟨Qu,0,none⟩)].toArray) (λs=>!ns.any λy=>decide (y=s)):=
  ⟨122,[],_,rfl,asM,λy w1 e1=>C122 y Qu U ns w1 ((B.p1.hb.cell rfl).ext e1) ((I.ext B.aG).ext e1) Ln⟩
 refine aY akm B (C124 _ _ _ _ _ B.fc V cU) (λ_ he B=>aX (λM=>?_) λM=>?_)
 .have h9:sG ns xs=9:=by rw[Z,ez M]
  refine⟨_,by rw[h9],?_⟩;rw[Qs (by rw[h9];decide)];exact(B.drop.drop.eU (α:=nW)).fresh
 refine aB nf B.p1.hb rfl ?_;have h0:sG ns xs=0:=by rw[Z,ew (by simpa using M)]
 have OF:=Th E;obtain⟨t,ht⟩:=Lg.of (xs:=xs) (i:=0) cU;have hz:=ht.zero OF;refine cW akl B (C126 _ _ _ _ _ t (t.size+1) _ (G.ext B.aG) (I.ext B.aG) Y Ln ht cU) (λO _ cA B=>?_);refine⟨O,by rw[h0],?_⟩;unfold eL M4;rw[ez h0,hz.2];exact B.p1.drop.p1.drop.fresh
def C78(lv O M:Value)(xs:List bY)(ns:List ByteArray)(G:List Int)(w:World)(V:dP (λ_=>True) w lv xs)(I:dP (λ_=>True) w O ns)(J:dP (λ_=>True) w M G)(hn:xs.length<=1048576)(Ln:ns.length<=1048576):CR 78 [lv,O,M] w (λv w'=>v=.tuple #[iE (BX ns G xs).1,iE (BX ns G xs).2]/\Ext w w'):=by
 have B:=St.start w;refine amO _ _ _ _ _ ?_;unfold S78;refine aK kN (I.ext B.aG) (aK dZ (J.ext B.aG) (cN (aC (λW=>?_) λW=>?_)))
 .refine⟨?_,B.aG⟩;unfold BX;rw[ew cU]
 refine eC amP (C59 _ _ _ _ _ (V.ext B.aG) (I.ext B.aG) cU cU) ?_;rintro U _ ⟨Y,rfl,Z⟩;have B:=B.made Z;refine aN rfl (aN rfl (cN (aC (λE=>?_) λE=>?_)))
 .refine⟨?_,B.aG⟩;unfold BX;rw[ez cU,ew E]
 have hml:=Yv ns xs;refine aY amj B (C79 _ _ _ _ _ B.fc (J.ext B.aG) cU) (λ_ he B=>aN rfl (aN rfl ?_));refine⟨?_,B.aG⟩;unfold BX;rw[ez cU,ez (by simpa using E)]
variable (w:World) (K:Value->iD)
def aAx:dM:=λi=>match i with
 | 9=>(.of [(0,[]),(1,[]),(2,[]),(3,[]),(4,[]),(6,[]),(7,[]),(5,[7]),(8,[]),(9,[]),(10,[]),(11,[]),(12,[]),(13,[]),(15,[]),(16,[]),(14,[16]),(17,[]),(18,[]),(19,[]),(20,[]),(21,[]),(22,[]),(24,[]),(25,[]),(23,[25]),(26,[]),(27,[]),(28,[]),(29,[]),(30,[]),(31,[]),(33,[]),(34,[]),(32,[34]),(35,[]),(36,[]),(37,[]),(38,[])])
 | _=>.nil
def S348(B Iw:Value):Prop:=
 rq (λY W E a=>∀_:Env,
 lN 112 B λb=>bA .lss 3 E b λc=>cV c (iA 112 B E λd=>lA 220 d a λe=>aL 220 a λf g=>sA 220 f e g λh=>bB .add 3 E (i 1) λj=>fA 220 f 6 λk=>lA 3 k h λl=>
 bA .add 3 j l λn=>fA 220 f 7 λo=>lA 3 o h λp=>bA .add 3 n p λq=>eW (λK2=>fA 220 f 0 λr=>lA 3 r h λs=>bB .eql 3 s (i 11) λt=>cV t (K2 tt h) (fA 220 f 0 λu=>
 lA 3 u h λv=>bB .eql 3 v (i 12) λx=>K2 x h)) (λWa y=>∀_:Env,
 eW (λG=>fA 220 f 6 λz=>lA 3 z y λaa=>bB .lss 3 aa (i 0) λab=>cV ab (G tt y) (fA 220 f 7 λac=>lA 3 ac y λad=>bB .lss 3 ad (i 0) λae=>cV ae (G tt y) (
 fA 220 f 6 λaf=>lA 3 af y λag=>lN 112 B λah=>bA .gtr 3 ag ah λai=>cV ai (G tt y) (fA 220 f 7 λaj=>lA 3 aj y λak=>lN 112 B λal=>bA .gtr 3 ak al λam=>
 cV am (G tt y) (lN 112 B λan=>bA .gtr 3 q an λao=>G ao y))))) (λap J=>∀_:Env,
 cV ap (K (i (-1)) J) (eW (λO=>eW (λK5=>eK hZ (Op.unary .not Wa) λar=>cV ar (fA 220 f 6 λasx=>lA 3 asx J λau=>bB .gtr 3 au (i 0) λav=>K5 av J) (
 K5 ff J)) (λaw I=>∀_:Env,
 cV aw (O aw I) (eW (λK6=>fA 220 f 0 λay=>lA 3 ay I λaz=>bB .neq 3 az (i 11) λa0=>cV a0 (fA 220 f 7 λa1=>lA 3 a1 I λa2=>bB .gtr 3 a2 (i 0) λa3=>K6 a3 I) (
 K6 ff I)) (λa4 U=>∀_:Env,
 cV a4 (O a4 U) (fA 220 f 0 λa6=>lA 3 a6 U λa7=>bB .eql 3 a7 (i 13) λa8=>cV a8 (bB .eql 3 Iw (i 0) λa9=>O a9 U) (O ff U)))))) (λba M=>∀_:Env,
 cV ba (K (i (-1)) M) (eW (λK7=>cV Wa (fA 220 f 0 λbc=>lA 3 bc M λbd=>bB .eql 3 bd (i 12) λbe=>cF 255 [be] M λbf V=>bA .add 3 Iw bf λbh=>bB .add 3 E (i 1) λbi=>
 bB .add 3 E (i 1) λbj=>fA 220 f 6 λbk=>lA 3 bk (drew V) λbl=>bA .add 3 bj bl λbm=>eK hZ (pA 112 B (some bi) (some bm) none) λbn=>bB .add 3 E (i 1) λbo=>
 fA 220 f 6 λbp=>lA 3 bp (drew V) λbq=>bA .add 3 bo bq λbr=>eK hZ (pA 112 B (some br) (some q) none) λbs=>cF 348 [bn,bh] (drew V) λbt bu=>
 kA 3 bp bq bu (cF 348 [bs,bh] bu λbv bw=>eW (λK8=>bB .eql 3 bt (i (-1)) λbx=>cV bx (K8 tt bw) (bB .eql 3 bv (i (-1)) λbz=>K8 bz bw)) (λb0 b1=>∀_:Env,
 cV b0 (K (i (-1)) b1) (bB .add 3 bt (i 1) λb2=>bB .add 3 bv (i 1) λb3=>eK hZ (Builtin.max_ #[3,3,3] 3 [W,b2,b3].toArray) λb4=>K7 b4 b1)))) (K7 W M)) (λZ b5=>∀_:Env,
 Y Z q b5))))))) (K W a)) (λY=>Y (i 0) (i 0) w)
def aAz:dM:=λi=>match i with
 | 15=>(.of [(0,[]),(1,[]),(2,[]),(3,[]),(4,[]),(5,[]),(6,[]),(7,[]),(8,[]),(9,[]),(11,[]),(12,[]),(13,[]),(14,[]),(15,[]),(16,[]),(17,[]),(18,[]),(19,[]),(10,[15]),(20,[]),(21,[]),(22,[])])
 | _=>.nil
theorem ahs(B E:Value)(h:S348 w K B E):CR 348 [B,E] w K:=
 qG 131 aAz 16 [.tmp 4] Tryz.func348 h
theorem as4:PL 360:=dT Tryz.func360
theorem as5:PL 347:=dT Tryz.func347
theorem Qv:PL 361:=dT Tryz.func361
theorem aky:PL 363:=dT Tryz.func363
theorem akz:PL 364:=dT Tryz.func364
theorem abZ:PL 348:=dT Tryz.func348
theorem as6:PL 297:=dT Tryz.func297
theorem as7:PL 109:=dT Tryz.func109
theorem as8:PL 203:=dT Tryz.func203
theorem as9:PL 205:=dT Tryz.func205
theorem ata:PL 208:=dT Tryz.func208
theorem atb:PL 209:=dT Tryz.func209
theorem ab0:PL 204:=dT Tryz.func204
theorem atc:PL 290:=dT Tryz.func290
theorem akA:PL 207:=dT Tryz.func207
theorem atd:PL 296:=dT Tryz.func296
theorem ab1:PL 210:=dT Tryz.func210
theorem ate:PL 346:=dT Tryz.func346
theorem atf:PL 359:=dT Tryz.func359
theorem atg:PL 289:=dT Tryz.func289
theorem ath:PL 344:=dT Tryz.func344
theorem akB:PL 211:=dT Tryz.func211
theorem ati:PL 298:=dT Tryz.func298
theorem ab2:PL 212:=dT Tryz.func212
theorem atj:PL 299:=dT Tryz.func299
theorem atk:PL 213:=dT Tryz.func213
theorem atl:PL 300:=dT Tryz.func300
end Go.Proofs.YtdncbeepkacgbaaGreatDoor
namespace Go.Proofs.YtdncbeepkacgbaaGreatDoor
open Go.Fw
variable (w:World) (K:Value->iD)
theorem atm:PL 370:=dT Tryz.func370
theorem atn:PL 362:=dT Tryz.func362
end Go.Proofs.YtdncbeepkacgbaaGreatDoor
namespace Go.Proofs.YtdncbeepkacgbaaGreatDoor
open Go.Fw
structure K15 where
instance:Flat K15 where
 agg:=true
 sz:=15
 enc _:=amM.map Ic
 val _:=.agg (amM.map Ic).toArray
 pos:=er
 len _:=rfl
 one a v h:=by grind[sg]
 ot _ _:=rfl
 oS h:=by cases h
def C370(w:World):CR 370 [] w (λv w'=>v=jj (⟨⟩:K15)/\Ext w w'):=by
 have B:=St.start w;refine fD Tryz.func370 ?_;exact aJ B agT (λ_ _ B=>pop (v:=jj (⟨⟩:K15)) (by kernel_rfl) (aH (x:=(⟨⟩:K15)) B aj2 rfl rfl λ_ B=>aE (x:=(⟨⟩:K15)) aj2 B.At ⟨rfl,B.drop.aG⟩))
theorem C360(k:Int)(w:World):CR 360 [iE k] w (λv w'=>v=.string (gQ k)/\Ext w w'):=by
 have B:=St.start w;refine fD Tryz.func360 ?_;refine⟨λE w'=>E=.bool (decide (k<0\/15<=k))/\w'=w,?_,?_⟩
 .exact aV (aC (λc=>⟨vb (fY (.inl c)).symm,rfl⟩) λ_=>dC ⟨vb (gv.2 cU),rfl⟩)
 rintro _ _ ⟨rfl,rfl⟩ _;refine aC (λ_=>⟨gD Ic (by unfold gQ;rw[ez cU]),B.aG⟩) (λc=>aY atm B (C370 _) λ_ G B=>?_);obtain⟨n,rfl⟩:∃n:Nat,k=n:=⟨k.toNat,cU⟩;refine pop (v:=.string (gQ n)) ?_ ⟨rfl,B.aG⟩
 match n,c with
 | 0,_=>exact(by kernel_rfl:pr hZ (uG 419 (jj K15.mk) (iE ((0:Nat):Int)))=some (.string (gQ ((0:Nat):Int))))
 | 1,_=>exact(by kernel_rfl:pr hZ (uG 419 (jj K15.mk) (iE ((1:Nat):Int)))=some (.string (gQ ((1:Nat):Int))))
 | 2,_=>exact(by kernel_rfl:pr hZ (uG 419 (jj K15.mk) (iE ((2:Nat):Int)))=some (.string (gQ ((2:Nat):Int))))
 | 3,_=>exact(by kernel_rfl:pr hZ (uG 419 (jj K15.mk) (iE ((3:Nat):Int)))=some (.string (gQ ((3:Nat):Int))))
 | 4,_=>exact(by kernel_rfl:pr hZ (uG 419 (jj K15.mk) (iE ((4:Nat):Int)))=some (.string (gQ ((4:Nat):Int))))
 | 5,_=>exact(by kernel_rfl:pr hZ (uG 419 (jj K15.mk) (iE ((5:Nat):Int)))=some (.string (gQ ((5:Nat):Int))))
 | 6,_=>exact(by kernel_rfl:pr hZ (uG 419 (jj K15.mk) (iE ((6:Nat):Int)))=some (.string (gQ ((6:Nat):Int))))
 | 7,_=>exact(by kernel_rfl:pr hZ (uG 419 (jj K15.mk) (iE ((7:Nat):Int)))=some (.string (gQ ((7:Nat):Int))))
 | 8,_=>exact(by kernel_rfl:pr hZ (uG 419 (jj K15.mk) (iE ((8:Nat):Int)))=some (.string (gQ ((8:Nat):Int))))
 | 9,_=>exact(by kernel_rfl:pr hZ (uG 419 (jj K15.mk) (iE ((9:Nat):Int)))=some (.string (gQ ((9:Nat):Int))))
 | 10,_=>exact(by kernel_rfl:pr hZ (uG 419 (jj K15.mk) (iE ((10:Nat):Int)))=some (.string (gQ ((10:Nat):Int))))
 | 11,_=>exact(by kernel_rfl:pr hZ (uG 419 (jj K15.mk) (iE ((11:Nat):Int)))=some (.string (gQ ((11:Nat):Int))))
 | 12,_=>exact(by kernel_rfl:pr hZ (uG 419 (jj K15.mk) (iE ((12:Nat):Int)))=some (.string (gQ ((12:Nat):Int))))
 | 13,_=>exact(by kernel_rfl:pr hZ (uG 419 (jj K15.mk) (iE ((13:Nat):Int)))=some (.string (gQ ((13:Nat):Int))))
 | 14,_=>exact(by kernel_rfl:pr hZ (uG 419 (jj K15.mk) (iE ((14:Nat):Int)))=some (.string (gQ ((14:Nat):Int))))
 | n+15,c=>exact absurd (.inr cU) c
def amY:List Nat:=[107,114,110,101,102]
def ato(c:Nat):ByteArray:=⟨#[c.toUInt8]⟩
def C362(k:Int)(c:Nat)(hc:c∈amY)(w:World):CR 362 [.string (gQ k),.string (ato c)] w (λv w'=>v=.bool (eF (gQ k) c)/\Ext w w'):=by
 have B:=St.start w;refine fD Tryz.func362 ?_;refine aY aks B (C371 (gQ k) c.toUInt8 _) (λ_ E B=>dC ?_);refine⟨vb ?_,B.aG⟩;have h1:=abL (jn (gQ k)) c.toUInt8;have h2:c.toUInt8.toNat=c:=(by decide:∀c∈amY,c.toUInt8.toNat=c) c hc;unfold eF;rw[show(λb:UInt8=>decide ((b.toNat:Int)=(c:Int)))=λb=>decide (b=c.toUInt8)from funext λ_=>gv.2 ⟨λ_=>UInt8.toNat_inj.1 cU,λh=>by rw[h,h2]⟩];exact(Bool.eq_iff_iff.2 (decide_eq_true_iff.trans h1))
def C361(k:Int)(c b2:Nat)(w:World)(hc:Cell w b2 0 (.string (gQ k)))(E:c∈amY):CR 361 [.string (ato c),.pointer (some ⟨b2,0,none⟩)] w (λv w'=>v=.bool (eF (gQ k) c)/\Ext w w'):=by
 have B:=St.start w;refine fD Tryz.func361 ?_;exact bN ke (hc.ext B.aG) (aY atn B (C362 k c E _) λ_ _ B=>⟨rfl,B.aG⟩)
def C363(b:Bool)(s:ByteArray)(w:World):CR 363 [.bool b,.string s] w (λv w'=>v=.bool ((b&&iu s)||(!b&&decide (s=⟨#[]⟩)))/\Ext w w'):=by
 have B:=St.start w;refine fD Tryz.func363 ?_;refine⟨λE w'=>E=.bool ((b&&iu s)||(!b&&decide (s=⟨#[]⟩)))/\St w bE [] w',aX (λ_=>aY PW B (C206 _ _) λ_ _ B=>aX (λ_=>⟨vb dH,B⟩) λ_=>bJ (aX (λ_=>kJ ⟨vb dH,B⟩) λ_=>⟨vb dH,B⟩)) (λ_=>bJ (aX (λ_=>kJ ⟨vb dH,B⟩) λ_=>⟨vb dH,B⟩)),?_⟩;rintro _ _ ⟨rfl,B⟩ _;exact⟨rfl,B.aG⟩
def C364(b:Bool)(lv:Value)(xs:List bY)(w:World)(E:dP (λ_=>True) w lv xs)(I:xs.length<=1048576):CR 364 [.bool b,lv] w (λv w'=>v=.bool ((b&&gM xs)||(!b&&decide (xs.length=0)))/\Ext w w'):=by
 have B:=St.start w;refine fD Tryz.func364 ?_;refine⟨λG w'=>G=.bool ((b&&gM xs)||(!b&&decide (xs.length=0)))/\St w bE [] w',aX (λ_=>aY V3 B (C121 _ _ _ (E.ext B.aG) cU) λ_ _ B=>aX (λ_=>⟨vb dH,B⟩) λ_=>bJ (aX (λ_=>aK me (E.ext B.aG) (aI ⟨vb dH,B⟩)) λ_=>⟨vb dH,B⟩)) (λ_=>bJ (aX (λ_=>aK me (E.ext B.aG) (aI ⟨vb dH,B⟩)) λ_=>⟨vb dH,B⟩)),?_⟩;rintro _ _ ⟨rfl,B⟩ _;exact⟨rfl,B.aG⟩
theorem Qw{x:bD}{B:Bool}(h:B=(if eF (gQ x.kind) 107=true then decide (1<=x.n/\x.n<=8)else decide (x.n=0))) :
  (!(decide (1<=x.kind/\x.kind<15/\0<=x.at_/\x.at_<=4000)&&B)||(!(eF (gQ x.kind) 114&&iu x.eY||!eF (gQ x.kind) 114&&decide (x.eY=⟨#[]⟩))||(!(eF (gQ x.kind) 110&&iu x.name||!eF (gQ x.kind) 110&&decide (x.name=⟨#[]⟩)) ||
  (!(eF (gQ x.kind) 101&&gM x.e||!eF (gQ x.kind) 101&&decide (x.e.length=0))||!(eF (gQ x.kind) 102&&gM x.f||!eF (gQ x.kind) 102&&decide (x.f.length=0)))))) = !sH x:=by
 subst h
 have E:iu x.eY=true->¬ x.eY=⟨#[]⟩:=λh e=>by rw[e]at h;exact absurd h er
 have J:iu x.name=true->¬ x.name=⟨#[]⟩:=λh e=>by rw[e]at h;exact absurd h er
 have G:gM x.e=true->¬ x.e.length=0:=λh e=>by rw[vI.1 e]at h;exact absurd h er
 have I:gM x.f=true->¬ x.f.length=0:=λh e=>by rw[vI.1 e]at h;exact absurd h er
 unfold sH
 cases h1:eF (gQ x.kind) 114<;>cases h2:eF (gQ x.kind) 110<;>cases h3:eF (gQ x.kind) 101<;>cases h4:eF (gQ x.kind) 102<;>cases h5:eF (gQ x.kind) 107<;>simp<;>grind
def C347(x:bD)(xv:bF)(w:World)(hx:n4 w xv x)(Lm:x.e.length<=1048576)(Sq:x.f.length<=1048576):CR 347 [jj xv] w (λv w'=>v=.bool (!sH x)/\Ext w w'):=by
 obtain⟨I,J,rfl,O,V⟩:=hx;have B:=St.start w;refine pG Tryz.func347 (pl:=aAx) ?_;refine cP B (λY _ B=>aA iy (aB (v:=iE x.kind) bL B.hb rfl (aY as4 B (C360 _ _) λ_ E B=>gT B ajU rfl λG _ B=>aO B ke (ei rfl) (rfl) λ_ B=>aA pP (aB (v:=iE x.n) bL B.p1.hb rfl (aI ⟨λM w'=>M=.bool (if eF (gQ x.kind) 107=true then decide (1<=x.n/\x.n<=8)else decide (x.n=0))/\St w bE [bU G [.string (gQ x.kind)],bU Y (jl (⟨x.kind,x.eY,x.name,I,J,x.n,x.body,x.eR,x.at_⟩:bF))] w',?_,?_⟩)))))
 .refine fm Qv (C361 x.kind 107 G _ (B.hb.cell rfl) er) ?_;rintro _ _ ⟨rfl,E⟩;have B:=B.ext E;exact aX (λ_=>aA pP (aB (v:=iE x.n) bL B.p1.hb rfl (dC (aC (λ_=>aA pP (aB (v:=iE x.n) bL B.p1.hb rfl (kq ⟨vb dH,B⟩))) λ_=>⟨vb dH,B⟩)))) (λ_=>⟨vb dH,B⟩)
 rintro _ _ ⟨rfl,B⟩ _;refine⟨λM w'=>M=.bool (decide (1<=x.kind/\x.kind<15/\0<=x.at_/\x.at_<=4000)&&(if eF (gQ x.kind) 107=true then decide (1<=x.n/\x.n<=8)else decide (x.n=0)))/\St w bE [bU G [.string (gQ x.kind)],bU Y (jl (⟨x.kind,x.eY,x.name,I,J,x.n,x.body,x.eR,x.at_⟩:bF))] w',?_,?_⟩
 .refine aA iy (aB (v:=iE x.kind) bL B.p1.hb rfl (dC ?_));exact aC (λ_=>aA iy (aB (v:=iE x.kind) bL B.p1.hb rfl (aV (aC (λ_=>aA tN (aB (v:=iE x.at_) bL B.p1.hb rfl (dC (aC (λ_=>aA tN (aB (v:=iE x.at_) bL B.p1.hb rfl (kq (aC (λ_=>⟨vb dH,B⟩) λ_=>⟨vb dH,B⟩)))) λ_=>⟨vb dH,B⟩)))) λ_=>⟨vb dH,B⟩)))) (λ_=>⟨vb dH,B⟩)
 rintro _ _ ⟨rfl,B⟩ _;refine⟨λM w'=>M=.bool (!sH x)/\St w bE [bU G [.string (gQ x.kind)],bU Y (jl (⟨x.kind,x.eY,x.name,I,J,x.n,x.body,x.eR,x.at_⟩:bF))] w',bJ (aX (λ_=>have B:=B.drew;⟨vb (by rw[<- Qw rfl];grind),B⟩) λWb=>?_),?_⟩
 .refine aA lO (have B:=B.drew;aB (v:=.string x.eY) ke B.p1.hb rfl (fm Qv (C361 x.kind 114 G _ (B.hb.cell rfl) er) ?_));rintro _ _ ⟨rfl,E⟩;have B:=B.ext E;refine⟨aF ke (B.p1.hb.cell rfl),?_⟩;refine fm aky (C363 _ x.eY _) ?_;rintro _ _ ⟨rfl,E⟩;have B:=B.ext E;refine bJ (aX (λ_=>⟨vb (by rw[<- Qw rfl];grind),B⟩) λU=>aA jJ (aB (v:=.string x.name) ke B.p1.hb rfl (fm Qv (C361 x.kind 110 G _ (B.hb.cell rfl) er) ?_)));rintro _ _ ⟨rfl,E⟩;have B:=B.ext E;refine⟨aF ke (B.p1.hb.cell rfl),?_⟩;refine fm aky (C363 _ x.name _) ?_
  rintro _ _ ⟨rfl,E⟩;have B:=B.ext E;refine bJ (aX (λ_=>⟨vb (by rw[<- Qw rfl];grind),B⟩) λpo=>aA jK (aB l5 B.p1.hb rfl ?_));have Z:=DL.flat O;refine fm Qv (C361 x.kind 101 G _ (B.hb.cell rfl) er) ?_;rintro _ _ ⟨rfl,E⟩;have B:=B.ext E;refine⟨aF l5 (B.p1.hb.cell rfl),?_⟩;refine fm akz (C364 _ _ x.e _ (Z.ext B.aG) Lm) ?_;rintro _ _ ⟨rfl,E⟩;have B:=B.ext E;refine bJ (aX (λ_=>⟨vb (by rw[<- Qw rfl];grind),B⟩) λW=>aA rA (aB l5 B.p1.hb rfl ?_));have KM:=DL.flat V;refine fm Qv (C361 x.kind 102 G _ (B.hb.cell rfl) er) ?_
  rintro _ _ ⟨rfl,E⟩;have B:=B.ext E;refine⟨aF l5 (B.p1.hb.cell rfl),?_⟩;refine fm akz (C364 _ _ x.f _ (KM.ext B.aG) Sq) ?_;rintro _ _ ⟨rfl,E⟩;have B:=B.ext E;exact bJ ⟨vb (by rw[<- Qw rfl];grind),B⟩
 rintro _ _ ⟨rfl,B⟩ _;exact⟨rfl,B.drop.drop.aG⟩
structure atr(x:bD):Prop where
 kind:1<=x.kind/\x.kind<=14
 Sr:0<=x.at_/\x.at_<=4000
 e:(eF (gQ x.kind) 101=true/\gM x.e=true)\/(eF (gQ x.kind) 101=false/\x.e=[])
 f:(eF (gQ x.kind) 102=true/\gM x.f=true)\/(eF (gQ x.kind) 102=false/\x.f=[])
 eY:(eF (gQ x.kind) 114=true/\iu x.eY=true)\/(eF (gQ x.kind) 114=false/\x.eY=⟨#[]⟩)
 name:(eF (gQ x.kind) 110=true/\iu x.name=true)\/(eF (gQ x.kind) 110=false/\x.name=⟨#[]⟩)
 n:(eF (gQ x.kind) 107=true/\1<=x.n/\x.n<=8)\/(eF (gQ x.kind) 107=false/\x.n=0)
def AN{x:bD}(h:sH x=true):atr x:=by
 unfold sH at h
 simp only[n3,sV,sn,decide_eq_false_iff_not,bne_eq_false_iff_eq,Ev,Bool.not_eq_false',DY]at h
 obtain⟨⟨⟨h1,h2⟩,h3⟩,h4⟩:=h
 constructor
 .omega
 .omega
 .grind
 .grind
 .grind
 .grind
 grind
theorem amZ:eF (gQ 12) 107=true:=er
theorem kX{l:List bD}(h:xN l=true):l.length<=40/\(∀x∈l,sH x=true)/\∃t:Bk,l=t.flat/\t.str/\t.ok 0=true/\t.depth<=12:=by
 unfold xN at h
 simp only[n3,decide_eq_true_eq,sV]at h
 obtain⟨⟨h1,h2⟩,h3⟩:=h
 rw[xC]at h2
 refine⟨h1,λx G=>dH,?_⟩
 unfold ij at h3
 cases hb:qu l with
 | none=>grind
 | some t=>
  rw[hb]at h3
  obtain⟨B,E⟩:=oX hb
  grind
structure PF(p:bQ):Prop where
 lines:∀l∈p.lines,l≠[]/\∀c∈l,nX 4294967296 c=false
 jR:∀c∈p.jR,nX 4294967296 c=false
 locks:∀c∈p.locks,nX 0 c=false
 th:∀t∈p.threads,rI true t=false
 rc:∀t∈p.recover,rI false t=false
 cl:∀c∈p.cB,0<=c.at_/\gM c.e=true
 one:p.recover.length<=1
def pq{p:bQ}(h:nz p=true):PF p:=by
 unfold nz vH Db at h
 simp only[n3,sV,xC,decide_eq_true_eq]at h
 obtain⟨⟨h1,h2⟩,⟨⟨h3,h4⟩,h5⟩,h6⟩:=h
 refine⟨λl B=>?_,λc hc=>dH,λc hc=>dH,λt ht=>dH,λt ht=>dH,λc hc=>?_,h6⟩
 .have:=h1 l B
  unfold vg vH at this
  grind
 have:=h2 c hc
 unfold rJ vd at this
 grind
def Iy{nb:Bool}{t:cE}(h:rI nb t=false):0<=t.at_/\xN t.body=true/\(∀s∈t.aS,iu s=true)/\iu t.name=nb:=by
 unfold rI M5 vd at h
 grind
def Iz{m:Int}{c:cG}(h:nX m c=false):0<=c.at_/\iu c.name=true/\0<=c.n/\c.n<=m:=by
 unfold nX vd at h
 grind
def je(p:bQ):List cE:=p.threads++p.recover
def PF.kC{p:bQ}(h:PF p){t:cE}(ht:t∈je p):0<=t.at_/\xN t.body=true/\∀s∈t.aS,iu s=true:=by
 unfold je at ht
 rcases qC.1 ht with ht|ht
 .have:=Iy (h.th t ht);grind
 have:=Iy (h.rc t ht);grind
def gK(p:bQ):List Int:=(gS p).map cG.n
def cZ(p:bQ):Int:=(p.lines.flatten.length:Int)
def bW(p:bQ):List ByteArray:=(gS p).map cG.name
def cR(p:bQ):List ByteArray:=p.locks.map cG.name
def iR:List (List cG)->Int->Int->Int
 | [],i,a=>i+a
 | l::r,i,a=>if a<l.length then i else iR r (i+1) (a-l.length)
def iS(p:bQ)(c:Int):Int:=if c<0\/(gS p).length<=c then -1 else iR p.lines 0 c
def oI(l:List bY)(ns:List ByteArray):Bool:=l.any λx=>decide (x.op=2)&&decide (bR ns x.name<0)
def qd(x:bD)(n:Int):Int:=if x.kind=12 then n*x.n else n
def nF:Bk->Int->Bool
 | .nil,_=>false
 | .cons x a b r,n=>decide (64<qd x n)||(nF a (qd x n)||nF b (qd x n))||nF r n
def Bk.app:Bk->Bk->Bk
 | .nil,t=>t
 | .cons x a b r,t=>.cons x a b (r.app t)
theorem Bk.IA(a b:Bk):(a.app b).flat=a.flat++b.flat:=by
 induction a with
 | nil=>rfl
 | cons x c d r _ _ B=>grind[flat,app]
theorem Bk.aht{a b:Bk}(B:a.str)(hb:b.str):(a.app b).str:=by
 induction a with
 | nil=>exact hb
 | cons x c d r _ _ E=>
  grind[str,app]
theorem Yw(a b:Bk)(n:Int):nF (a.app b) n=(nF a n||nF b n):=by
 induction a with
 | nil=>simp[Bk.app,nF]
 | cons x c d r _ _ B=>simp only[Bk.app,nF,B,Bool.or_assoc]
def tX(l:List bD):Bool:=match qu l with|some t=>nF t 1|none=>false
theorem BZ{t:Bk}(h:t.str):tX t.flat=nF t 1:=by unfold tX;rw[pk h]
def kH(p:bQ):List cG:=gS p++p.locks++p.threads.map (λt=>⟨t.name,0,t.at_⟩)
def Nd(l:List cG)(j:Nat):Bool:=match l[j]? with|some c=>decide (bR (l.map cG.name) c.name<j)|none=>false
def mN(l:List cG):Bool:=(qi l.length).any (Nd l)
def ab5(p:bQ)(rs:List ByteArray)(j:Nat):Bool:=match rs[j]? with|some s=>decide (bR rs s<j)||decide (0<=bR (bW p) s)||decide (0<=bR (cR p) s)|none=>false
def zW(p:bQ)(rs:List ByteArray):Bool:=(qi rs.length).any (ab5 p rs)
theorem rK{f:Nat->Bool}{n:Nat}(h:∀j,j<n->f j=false):(qi n).any f=false:=by
 grind
theorem zX{f:Nat->Bool}{n j:Nat}(B:j<n)(h:f j=true):(qi n).any f=true:=wk.2 ⟨j,Ie.2 B,h⟩
def Nf{f:Nat->Bool}{k:Nat}(h:∀j,j<k->f j=false)(B:f k=false):∀j,j<k+1->f j=false:=λj E=>by
 grind
def oJ(p:bQ)(rs:List ByteArray)(x:bD):Bool:=
 (decide (¬ x.eY=⟨#[]⟩)&&decide (bR rs x.eY<0)) ||
 ((decide (x.kind=2)||decide (x.kind=3)||decide (x.kind=4))&&decide (bR (bW p) x.name<0)) ||
 ((decide (x.kind=5)||decide (x.kind=6))&&(decide (bR (bW p) x.name<0)||decide (cZ p<=bR (bW p) x.name))) ||
 ((decide (x.kind=9)||decide (x.kind=10))&&decide (bR (cR p) x.name<0))||oI x.e rs||oI x.f rs
def yS(p:bQ):Bool:=p.lines.any (λl=>decide (4<(l.length:Int)))||(je p).any (λt=>decide (4<(t.aS.length:Int))) ||
 (decide (4<(p.lines.length:Int))||decide (4<(p.jR.length:Int))||decide (2<(p.locks.length:Int))||decide ((p.threads.length:Int)<1)||decide (3<(p.threads.length:Int))||decide (4<(p.cB.length:Int)))
def gi(p:bQ):List ByteArray:=(bW p).take (cZ p).toNat
def fW(p:bQ):Int:=
 if nz p=false then 8 else if yS p=true then 2 else if (je p).any (λt=>tX t.body)=true then 11 else if mN (kH p)=true then 10
 else if (je p).any (λt=>zW p t.aS)=true then 10 else if (je p).any (λt=>t.body.any (oJ p t.aS))=true then 9
 else if p.cB.any (λc=>oI c.e (gi p))=true then 9 else 0
def IB{x:bD}(h:sH x=true):0<=x.at_/\(x.kind=12->1<=x.n/\x.n<=8):=by
 have h:=AN h
 refine⟨h.Sr.1,λB=>?_⟩
 rcases h.n with h|h
 .exact h.2
 rw[B,amZ]at h;grind
section
variable {p:bQ}
theorem ce8(h1:nz p=false):fW p=8:=by unfold fW;grind
theorem ce2(h1:nz p=true)(h2:yS p=true):fW p=2:=by grind[fW]
theorem aAA(h1:nz p=true)(h2:yS p=false)(h3:(je p).any (λt=>tX t.body)=true):fW p=11:=by grind[fW]
theorem aAB(h1:nz p=true)(h2:yS p=false)(h3:(je p).any (λt=>tX t.body)=false)(h4:mN (kH p)=true):fW p=10:=by
 grind[fW]
theorem att(h1:nz p=true)(h2:yS p=false)(h3:(je p).any (λt=>tX t.body)=false)(h4:mN (kH p)=false)(h5:(je p).any (λt=>zW p t.aS)=true):fW p=10:=by
 grind[fW]
theorem ce9(h1:nz p=true)(h2:yS p=false)(h3:(je p).any (λt=>tX t.body)=false)(h4:mN (kH p)=false)(h5:(je p).any (λt=>zW p t.aS)=false)
  (h6:(je p).any (λt=>t.body.any (oJ p t.aS))=true):fW p=9:=by
 grind[fW]
theorem aAC(h1:nz p=true)(h2:yS p=false)(h3:(je p).any (λt=>tX t.body)=false)(h4:mN (kH p)=false)(h5:(je p).any (λt=>zW p t.aS)=false)
  (h6:(je p).any (λt=>t.body.any (oJ p t.aS))=false) (B:p.cB.any (λc=>oI c.e (gi p))=true):fW p=9:=by
 grind[fW]
theorem ce0(h1:nz p=true)(h2:yS p=false)(h3:(je p).any (λt=>tX t.body)=false)(h4:mN (kH p)=false)(h5:(je p).any (λt=>zW p t.aS)=false)
  (h6:(je p).any (λt=>t.body.any (oJ p t.aS))=false) (B:p.cB.any (λc=>oI c.e (gi p))=false):fW p=0:=by
 grind[fW]
theorem IC(B:PS p):(bW p).length<=250500:=by unfold bW;rw[oi];exact wM B
theorem Wc(B:PS p):(je p).length<=1000:=by
 have:=B.threads
 have:=B.recover
 grind[je]
theorem PZ.kC(B:PZ p){t:cE}(ht:t∈je p):SzT t/\t.aS.length<=500/\t.body.length<=500:=by
 refine⟨?_,B.aS t ht,B.body t ht⟩
 rcases qC.1 ht with h|h
 .exact B.zt t h
 exact B.zr t h
end
def am0{x:bD}{n m:Int}(B:1<=n/\n<=64)(h:x.kind=12->1<=x.n/\x.n<=8)(E:m=qd x n):1<=m/\m<=512:=by
 rw[E];unfold qd
 split
 .rename_i hk
  have:=h hk
  have h1:=Mi (a:=1) (b:=1) B.1 this.1 cU cU
  have h2:=Mi (c:=64) (d:=8) B.2 this.2 cU cU
  omega
 omega
theorem Bk.Wd{t:Bk}(h:¬ (t.flat.length:Int)=0):∃x a b r,t=.cons x a b r:=by
 cases t with
 | nil=>exact absurd rfl h
 | cons x a b r=>grind
def Bk.Eu{x:bD}{a b r:Bk}(h:(Bk.cons x a b r).str){hi lo:Int}(h1:hi=1+x.body+x.eR)(h2:lo=1):((Bk.cons x a b r).flat.take hi.toNat).drop lo.toNat=(a.app b).flat:=by
 obtain⟨B,E,_⟩:=h
 have G:=a.dL
 have lb:=b.dL
 rw[Bk.IA,BU _ (a:=1) (n:=(a.flat++b.flat).length) dH cU]
 grind[flat]
theorem Bk.atu{x:bD}{a b r:Bk}(h:(Bk.cons x a b r).str){hi:Int}(h1:hi=1+x.body+x.eR):(Bk.cons x a b r).flat.drop hi.toNat=r.flat:=by
 obtain⟨B,E,_⟩:=h
 have G:=a.dL
 have lb:=b.dL
 have e:(Bk.cons x a b r).flat=(x::(a.flat++b.flat))++r.flat:=by simp[Bk.flat]
 rw[e,show hi.toNat=(x::(a.flat++b.flat)).length from by simp;omega,List.drop_left]
theorem Lo{l:List cG}{k:Nat}{c:cG}(h:l[k]?=some c):Nd l k=decide (bR (l.map cG.name) c.name<k):=by unfold Nd;rw[h]
theorem Ng{p:bQ}{l:List ByteArray}{k:Nat}{c:ByteArray}(h:l[k]?=some c):ab5 p l k=(decide (bR l c<k)||decide (0<=bR (bW p) c)||decide (0<=bR (cR p) c)):=by unfold ab5;rw[h]
theorem We(a b:Bk):(a.app b).len=a.len+b.len:=by rw[<- Bk.dL,Bk.IA,lJ,Bk.dL,Bk.dL]
theorem Bk.atv{x:bD}{a b r:Bk}(h:(Bk.cons x a b r).str){hi lo:Int}(h1:hi=1+x.body)(h2:lo=1):((Bk.cons x a b r).flat.take hi.toNat).drop lo.toNat=a.flat:=by
 obtain⟨B,E,_⟩:=h
 have G:=a.dL
 rw[BU _ (a:=1) (n:=a.flat.length) cU cU]
 grind[flat]
theorem Bk.atw{x:bD}{a b r:Bk}(h:(Bk.cons x a b r).str){hi lo:Int}(h1:hi=1+x.body+x.eR)(h2:lo=1+x.body):((Bk.cons x a b r).flat.take hi.toNat).drop lo.toNat=b.flat:=by
 obtain⟨B,E,_⟩:=h
 have G:=a.dL
 have lb:=b.dL
 rw[BU _ (a:=1+a.flat.length) (n:=b.flat.length) cU cU]
 grind[flat]
def ID(k:Int):Int:=if k=2\/k=4\/k=8\/k=9\/k=10 then 1 else if k=3\/k=5\/k=6\/k=7 then 2 else 0
def ab6(k:Int):0<=ID k/\ID k<=2:=by
 grind[ID]
def uO:Bk->Int
 | .nil=>0
 | .cons x a b r=>(if x.kind=12 then x.n*uO a else if x.kind=11 then max (uO a) (uO b)else ID x.kind)+uO r
def lT(t:Bk):Prop:=∀x∈t.flat,x.kind=12->1<=x.n/\x.n<=8
theorem lT.a{x:bD}{a b r:Bk}(h:lT (.cons x a b r)):lT a:=λy B=>h y (by simp[Bk.flat,B])
theorem lT.b{x:bD}{a b r:Bk}(h:lT (.cons x a b r)):lT b:=λy B=>h y (by simp[Bk.flat,B])
theorem lT.r{x:bD}{a b r:Bk}(h:lT (.cons x a b r)):lT r:=λy B=>h y (by simp[Bk.flat,B])
theorem lT.x{x:bD}{a b r:Bk}(h:lT (.cons x a b r)):x.kind=12->1<=x.n/\x.n<=8:=h x (by simp[Bk.flat])
theorem ahu(t:Bk):lT t->0<=uO t:=by
 induction t with
 | nil=>intro _;simp[uO]
 | cons x a b r E G B=>
  intro h
  have h1:=E h.a
  have h2:=G h.b
  have h3:=B h.r
  have hc:=ab6 x.kind
  unfold uO
  split
  .rename_i hk
   have:=Int.mul_nonneg (a:=x.n) (by have:=h.x hk;omega) h1
   omega
  omega
def aZ:Bk->Int
 | .nil=>0
 | .cons x a b r=>(if x.kind=12 then 2+aZ a else if x.kind=11 then(if 0<x.eR then 1+aZ a+aZ b+1 else 1+aZ a+aZ b)else 1)+aZ r
theorem iK(t:Bk):0<=aZ t/\aZ t<=2*t.len:=by
 induction t with
 | nil=>simp[aZ,Bk.len]
 | cons x a b r B G E=>
  unfold aZ Bk.len
  omega
def jD:Bk->Int
 | .nil=>0
 | .cons x a b r=>max (if x.kind=12 then max (jD a) (jD b)+1 else max (jD a) (jD b)) (jD r)
theorem oY(t:Bk):0<=jD t/\jD t<=t.len:=by
 induction t with
 | nil=>simp[jD,Bk.len]
 | cons x a b r B G E=>
  unfold jD Bk.len
  omega
def eE(p:bQ)(rs:List ByteArray)(x:bD):aU:=
 ⟨if x.kind=14 then 15 else x.kind,max 0 (bR rs x.eY),
  if x.kind=2\/x.kind=3\/x.kind=4 then bR (bW p) x.name else if x.kind=5\/x.kind=6 then iS p (bR (bW p) x.name)else if x.kind=9\/x.kind=10 then bR (cR p) x.name else 0,
  eL rs x.e,eL rs x.f,0⟩
def jF(x:bD)(a:Bk)(at_:Int):Int:=if 0<x.eR then at_+1+aZ a+1 else at_+1+aZ a
def dG(p:bQ)(rs:List ByteArray):Bk->Int->Int->Int->List aU
 | .nil,_,_,_=>[]
 | .cons x a b r,at_,lp,out=>
  (if x.kind=11 then [⟨12,0,0,eL rs x.e,[],jF x a at_⟩]++dG p rs a (at_+1) lp out++(if 0<x.eR then [⟨11,0,0,[],[],jF x a at_+aZ b⟩]else [])++dG p rs b (jF x a at_) lp out
   else if x.kind=12 then [⟨13,lp,x.n,[],[],0⟩]++dG p rs a (at_+1) (lp+1) (at_+2+aZ a)++[⟨14,lp,0,[],[],at_+1⟩]
   else if x.kind=13 then [⟨11,0,0,[],[],out⟩]else [eE p rs x])++
  dG p rs r (at_+(aZ (.cons x a b r)-aZ r)) lp out
theorem fL(p:bQ)(rs:List ByteArray)(t:Bk):∀at_ lp out,((dG p rs t at_ lp out).length:Int)=aZ t:=by
 induction t with
 | nil=>intro _ _ _;rfl
 | cons x a b r B I G=>
  intro at_ lp out
  unfold dG
  rw[lJ,Int.natCast_add,G]
  rw[show aZ (.cons x a b r)=(if x.kind=12 then 2+aZ a else if x.kind=11 then(if 0<x.eR then 1+aZ a+aZ b+1 else 1+aZ a+aZ b)else 1)+aZ r from rfl]
  congr 1
  by_cases h1:x.kind=11
  .simp only[ez h1,ew (show ¬ x.kind=12 by omega)]
   have E:=B (at_+1) lp out
   have hb:=I (jF x a at_) lp out
   by_cases h2:0<x.eR
   .simp only[ez h2,lJ,mv];omega
   .simp only[ew h2,lJ,mv,x7];omega
  .simp only[ew h1]
   by_cases h2:x.kind=12
   .have E:=B (at_+1) (lp+1) (at_+2+aZ a)
    simp only[ez h2,lJ,mv];omega
   .simp only[ew h2]
    split<;>simp
def jM(p:bQ)(t:cE):gz:=match qu t.body with|some b=>⟨t.aS.length,jD b,dG p t.aS b 0 0 0⟩|none=>⟨t.aS.length,0,[]⟩
def eM(p:bQ):ki:=
 ⟨(qi (gS p).length).map (fun (i:Nat)=>iS p i),cZ p,gK p,p.locks.length,p.threads.map (jM p),(match p.recover[0]? with|some t=>jM p t|none=>⟨0,0,[]⟩),p.cB.map λc=>eL (gi p) c.e⟩
theorem ab7(t:Bk):∀n:Int,lT t->1<=n->nF t n=false->n*uO t<=128*(t.len:Int)/\0<=uO t:=by
 induction t with
 | nil=>intro n _ _ _;simp[uO,Bk.len]
 | cons x a b r Z A8 Kp=>
  intro n G I O
  unfold nF at O
  simp only[sn,decide_eq_false_iff_not]at O
  obtain⟨⟨U,W,hb⟩,Y⟩:=O
  have E:1<=qd x n:=by
   unfold qd
   split
   .rename_i B
    have:=G.x B
    have:=Mi (a:=1) (b:=1) I this.1 cU cU
    omega
   .exact I
  have h1:=Z _ G.a E W
  have h2:=A8 _ G.b E hb
  have h3:=Kp _ G.r I Y
  have J:=ahu _ G
  refine⟨?_,J⟩
  have hl:((Bk.cons x a b r).len:Int)=a.len+b.len+r.len+1:=rfl
  rw[hl,show uO (.cons x a b r)=(if x.kind=12 then x.n*uO a else if x.kind=11 then max (uO a) (uO b)else ID x.kind)+uO r from rfl,Int.mul_add]
  have V:n*(if x.kind=12 then x.n*uO a else if x.kind=11 then max (uO a) (uO b)else ID x.kind)<=128*(a.len+b.len+1):=by
   by_cases B:x.kind=12
   .rw[ez B,<- Int.mul_assoc]
    have:qd x n=n*x.n:=by unfold qd;rw[ez B]
    rw[this]at h1;omega
   .have M:qd x n=n:=by unfold qd;rw[ew B]
    rw[M]at h1 h2 U
    rw[ew B]
    split
    .rcases Int.le_total (uO a) (uO b)with h|h
     .rw[Int.max_eq_right h];omega
     .rw[Int.max_eq_left h];omega
    .have hc:=ab6 x.kind
     have:=Mi (a:=n) (b:=ID x.kind) (c:=64) (d:=2) cU hc.2 hc.1 cU
     omega
  omega
structure Bt(p:bQ):Prop where
 right:nz p=true
 big:yS p=false
 aAE:∀t∈je p,tX t.body=false
 twice:mN (kH p)=false
 aS:∀t∈je p,zW p t.aS=false
 names:∀t∈je p,∀x∈t.body,oJ p t.aS x=false
 cB:∀c∈p.cB,oI c.e (gi p)=false
def Qy{p:bQ}(h:fW p=0):Bt p:=by
 unfold fW at h
 split at h
 .omega
 rename_i h1
 split at h
 .omega
 rename_i h2
 split at h
 .omega
 rename_i h3
 split at h
 .omega
 rename_i h4
 split at h
 .omega
 rename_i h5
 split at h
 .omega
 rename_i h6
 split at h
 .omega
 rename_i h7
 simp only[Bool.not_eq_true,Bool.not_eq_false,xC]at h1 h2 h3 h4 h5 h6 h7
 exact⟨h1,h2,λt ht=>h3 t ht,h4,λt ht=>h5 t ht,λt ht x B=>h6 t ht x B,λc hc=>h7 c hc⟩
def Bt.tree{p:bQ}(h:Bt p){t:cE}(ht:t∈je p):∃b:Bk,t.body=b.flat/\b.str/\b.ok 0=true/\b.len<=40/\lT b/\(∀x∈b.flat,sH x=true)/\nF b 1=false/\qu t.body=some b/\0<=uO b/\uO b<=5120:=by
 obtain⟨h1,h2,b,h3,h4,h5,_⟩:=kX ((pq h.right).kC ht).2.1
 have I:b.len<=40:=by rw[<- Bk.dL,<- h3];exact h1
 have E:lT b:=λx B=>(IB (h2 x (by rw[h3];exact B))).2
 have G:nF b 1=false:=by have:=h.aAE t ht;rw[h3,BZ h4]at this;exact this
 have J:=ab7 b 1 E cU G
 exact⟨b,h3,h4,h5,I,E,λx B=>h2 x (by rw[h3];exact B),G,by rw[h3];exact pk h4,J.2,cU⟩
def Lp(p:bQ)(rs:List ByteArray)(x:bD)(a b:Bk)(at_ lp out:Int):List aU:=
  if x.kind=11 then [⟨12,0,0,eL rs x.e,[],jF x a at_⟩]++dG p rs a (at_+1) lp out++(if 0<x.eR then [⟨11,0,0,[],[],jF x a at_+aZ b⟩]else [])++dG p rs b (jF x a at_) lp out
   else if x.kind=12 then [⟨13,lp,x.n,[],[],0⟩]++dG p rs a (at_+1) (lp+1) (at_+2+aZ a)++[⟨14,lp,0,[],[],at_+1⟩]
   else if x.kind=13 then [⟨11,0,0,[],[],out⟩]else [eE p rs x]
theorem xO(p:bQ)(rs:List ByteArray)(x:bD)(a b r:Bk)(at_ lp out:Int):dG p rs (.cons x a b r) at_ lp out=Lp p rs x a b at_ lp out++dG p rs r (at_+((Lp p rs x a b at_ lp out).length:Int)) lp out:=by
 have h1:=fL p rs (.cons x a b r) at_ lp out
 have e:dG p rs (.cons x a b r) at_ lp out=Lp p rs x a b at_ lp out++dG p rs r (at_+(aZ (.cons x a b r)-aZ r)) lp out:=rfl
 have h2:=fL p rs r (at_+(aZ (.cons x a b r)-aZ r)) lp out
 rw[e,lJ]at h1
 rw[e,show((Lp p rs x a b at_ lp out).length:Int)=aZ (.cons x a b r)-aZ r from cU]
theorem G4(p:bQ)(rs:List ByteArray)(x:bD)(a b r:Bk)(at_ lp out:Int):((Lp p rs x a b at_ lp out).length:Int)=aZ (.cons x a b r)-aZ r:=by
 have h1:=fL p rs (.cons x a b r) at_ lp out
 have h2:=fL p rs r (at_+(aZ (.cons x a b r)-aZ r)) lp out
 have e:dG p rs (.cons x a b r) at_ lp out=Lp p rs x a b at_ lp out++dG p rs r (at_+(aZ (.cons x a b r)-aZ r)) lp out:=rfl
 rw[e,lJ]at h1
 omega
def Qz:gz:=⟨0,0,[]⟩
def akC:ki:=⟨[],0,[],0,[],Qz,[]⟩
def ab8(p:bQ):gz:=match p.recover[0]? with|some t=>jM p t|none=>Qz
theorem IE{p:bQ}{t:cE}{b:Bk}(h:qu t.body=some b):jM p t=⟨t.aS.length,jD b,dG p t.aS b 0 0 0⟩:=by unfold jM;rw[h]
theorem Ts(f:Nat->Int)(k:Nat):(qi k).map f++[f k]=(qi (k+1)).map f:=by rw[B8,vB];rfl
def Tt(p:bQ):(gK p).length=(gS p).length:=by unfold gK;rw[oi]
def pw(s:ByteArray):ByteArray:=s.extract 0 (min (s.size:Int) 40).toNat
def qO(s:ByteArray):(pw s).size<=40:=by
 unfold pw
 rw[acG];omega
def ahv(x:bY):bY:={x with name:=pw x.name}
def Ba(l:List bY):List bY:=(l.take 60).map ahv
def Wf(x:bD):bD:=⟨x.kind,pw x.eY,pw x.name,Ba x.e,Ba x.f,x.n,x.body,x.eR,x.at_⟩
def IF(l:List bD):List bD:=(l.take 50).map Wf
def ahw(c:cG):cG:={c with name:=pw c.name}
def j1(l:List cG):List cG:=(l.take 8).map ahw
def Bu(t:cE):cE:=⟨pw t.name,(t.aS.take 6).map pw,IF t.body,t.at_⟩
def lU(l:List cE):List cE:=(l.take 4).map Bu
def IG(c:iF):iF:=⟨Ba c.e,c.at_⟩
def sS(p:bQ):bQ:=⟨(p.lines.take 6).map j1,j1 p.jR,j1 p.locks,lU p.threads,lU p.recover,(p.cB.take 6).map IG⟩
theorem tY{α:Type}{xs:List α}{k m:Nat}(h:k<=m)(h2:k<=xs.length)(h3:¬ (k<xs.length/\k<m)):xs.take k=xs.take m:=by
 grind
def IH(l:List bY):(Ba l).length<=60:=by grind[Ba]
def Nh(l:List bY):∀y∈Ba l,y.name.size<=1048576:=by
 intro y B
 obtain⟨x,_,rfl⟩:=pB.1 B
 have:=qO x.name
 show(pw x.name).size<=_
 omega
def II(l:List cG):∀y∈j1 l,y.name.size<=1048576:=by
 intro y B
 obtain⟨x,_,rfl⟩:=pB.1 B
 have:=qO x.name
 show(pw x.name).size<=_
 omega
def EX(l:List cG):(j1 l).length<=8:=by grind[j1]
def ab9(l:List bD):(IF l).length<=50:=by grind[IF]
def IJ(l:List cE):(lU l).length<=4:=by grind[lU]
def ahx(l:List bD):∀y∈IF l,SzS y:=by
 intro y B
 obtain⟨x,_,rfl⟩:=pB.1 B
 have h1:=qO x.eY
 have h2:=qO x.name
 have h3:=IH x.e
 have h4:=IH x.f
 exact⟨by show(pw x.eY).size<=_;omega,by show(pw x.name).size<=_;omega,by show(Ba x.e).length<=_;omega,by show(Ba x.f).length<=_;omega,Nh _,Nh _⟩
def Tu(t:cE):(Bu t).aS.length<=6:=by show((t.aS.take 6).map pw).length<=6;grind
def Lq(l:List cE):∀y∈lU l,SzT y/\y.aS.length<=500/\y.body.length<=500:=by
 intro y B
 obtain⟨x,_,rfl⟩:=pB.1 B
 have h1:=qO x.name
 have h2:=Tu x
 have h3:=ab9 x.body
 refine⟨⟨by show(pw x.name).size<=_;omega,λs E=>?_,ahx _⟩,cU,by show(IF x.body).length<=_;omega⟩
 obtain⟨z,_,rfl⟩:=pB.1 (show s∈(x.aS.take 6).map pw from E)
 have:=qO z
 omega
def Ni(p:bQ):PZ (sS p):=by
 have B:(sS p).lines.length<=6:=by show((p.lines.take 6).map j1).length<=6;grind
 have hc:(sS p).cB.length<=6:=by show((p.cB.take 6).map IG).length<=6;grind
 have h1:=EX p.jR
 have h2:=EX p.locks
 have h3:=IJ p.threads
 have h4:=IJ p.recover
 have ZZ:∀t∈(sS p).threads++(sS p).recover,SzT t/\t.aS.length<=500/\t.body.length<=500:=by
  intro t ht
  rcases qC.1 ht with h|h
  .exact Lq _ t h
  .exact Lq _ t h
 refine {lines:=by omega,line:=λl h=>?_,jR:=by show(j1 p.jR).length<=500;omega,locks:=by show(j1 p.locks).length<=500;omega,threads:=by show(lU p.threads).length<=500;omega,recover:=by show(lU p.recover).length<=500;omega,cB:=by omega,aS:=λt ht=>(ZZ t ht).2.1,body:=λt ht=>(ZZ t ht).2.2,zl:=λl h c hc=>?_,zv:=II _,zk:=II _,zt:=λt ht=>(ZZ t (List.mem_append_left _ ht)).1,zr:=λt ht=>(ZZ t (List.mem_append_right _ ht)).1,zc:=λc h=>?_}
 .obtain⟨x,_,rfl⟩:=pB.1 (show l∈(p.lines.take 6).map j1 from h)
  have:=EX x;omega
 .obtain⟨x,_,rfl⟩:=pB.1 (show l∈(p.lines.take 6).map j1 from h)
  exact II x c hc
 obtain⟨x,_,rfl⟩:=pB.1 (show c∈(p.cB.take 6).map IG from h)
 have:=IH x.e
 exact⟨by show(Ba x.e).length<=_;omega,Nh _⟩
def C48(lv:Value)(xs:List bY)(w:World)(J:dP (λ_=>True) w lv xs):CR 48 [lv] w (λv w'=>mf (bG v (Ba xs)) w w'):=by
 have B:=St.start w;refine fD Tryz.func48 ?_;refine bV ([]:List bY) B me rfl rfl (ei rfl) (λW M B=>?_);refine⟨λm G x M=>∃k:Nat,x=iE (k:Int)/\m=60-k/\k<=60/\k<=xs.length/\St w bE [bG G ((xs.take k).map ahv)] M,⟨_,0,rfl,rfl,cU,cU,B⟩,?_⟩;rintro m G _ _ ⟨k,rfl,rfl,hk,FZ,B⟩ _;have V:((xs.take k).map ahv).length=k:=by rw[oi,n0];omega
 refine⟨λjv w'=>jv=.bool (decide (k<xs.length/\k<60))/\St w bE [bG G ((xs.take k).map ahv)] w',aK me (J.ext B.aG) (aV (aC (λ_=>aV ⟨vb dH,B⟩) λ_=>⟨vb dH,B⟩)),?_⟩;rintro _ _ ⟨rfl,B⟩ _;refine aX (λI=>?_) (λI=>?_)
 .have Y:k<xs.length/\k<60:=by simpa using I
  obtain⟨E,O⟩:=gx xs (i:=(k:Int).toNat) cU;refine aW me J cU O (λ_ Z=>aE zx (Z.ext B.aG) (aJ B GX λA9 _ B=>aH (x:=E) B zx rfl rfl λ_ B=>aA nq (aB (v:=.string E.name) ke B.hb rfl (aA nq (aB (v:=.string E.name) ke B.hb rfl (fG gL (u6 (oV gL cU cU (aA nq (aO B ke (ei rfl) (rfl) λ_ B=>?_))))))))));have B:=B.enc (cs':=jl ({E with name:=(E.name.extract 0 (min (E.name.size:Int) 40).toNat)}:bY)) rfl;refine aE zx B.At (bV ([({E with name:=(E.name.extract 0 (min (E.name.size:Int) 40).toNat)}:bY)]) B me rfl rfl (ei rfl) λaty _ B=>?_)
  have U:=B.fc;exact cK B.p2 me U (by rw[V,mv];omega) er (λ_ _ B=>have B:=B.p1.drop;aR cU (have B:=B.p1.drop;⟨_,cU,k+1,rfl,rfl,cU,cU,by rw[<- ig (k:=k) O];exact B⟩))
 rw[tY (xs:=xs) (k:=k) (m:=60) cU cU (hM I)]at B;exact B.fresh
def C46(lv:Value)(xs:List cG)(w:World)(J:dP (λ_=>True) w lv xs):CR 46 [lv] w (λv w'=>mf (bG v (j1 xs)) w w'):=by
 have B:=St.start w;refine fD Tryz.func46 ?_;refine bV ([]:List cG) B qq rfl rfl (ei rfl) (λY M B=>?_);refine⟨λm G x M=>∃k:Nat,x=iE (k:Int)/\m=8-k/\k<=8/\k<=xs.length/\St w bE [bG G ((xs.take k).map ahw)] M,⟨_,0,rfl,rfl,cU,cU,B⟩,?_⟩;rintro m G _ _ ⟨k,rfl,rfl,hk,FZ,B⟩ _;have V:((xs.take k).map ahw).length=k:=by rw[oi,n0];omega
 refine⟨λjv w'=>jv=.bool (decide (k<xs.length/\k<8))/\St w bE [bG G ((xs.take k).map ahw)] w',aK qq (J.ext B.aG) (aV (aC (λ_=>aV ⟨vb dH,B⟩) λ_=>⟨vb dH,B⟩)),?_⟩;rintro _ _ ⟨rfl,B⟩ _;refine aX (λI=>?_) (λI=>?_)
 .have Z:k<xs.length/\k<8:=by simpa using I
  obtain⟨E,O⟩:=gx xs (i:=(k:Int).toNat) cU;refine aW qq J cU O (λ_ kW=>aE mU (kW.ext B.aG) (aJ B pO λW _ B=>aH (x:=E) B mU rfl rfl λ_ B=>aA ox (aB (v:=.string E.name) ke B.hb rfl (aA ox (aB (v:=.string E.name) ke B.hb rfl (fG gL (u6 (oV gL cU cU (aA ox (aO B ke (ei rfl) (rfl) λ_ B=>?_))))))))));have B:=B.enc (cs':=jl ({E with name:=(E.name.extract 0 (min (E.name.size:Int) 40).toNat)}:cG)) rfl;refine aE mU B.At (bV ([({E with name:=(E.name.extract 0 (min (E.name.size:Int) 40).toNat)}:cG)]) B qq rfl rfl (ei rfl) λaty _ B=>?_)
  have U:=B.fc;exact cK B.p2 qq U (by rw[V,mv];omega) er (λ_ _ B=>have B:=B.p1.drop;aR cU (have B:=B.p1.drop;⟨_,cU,k+1,rfl,rfl,cU,cU,by rw[<- ig (k:=k) O];exact B⟩))
 rw[tY (xs:=xs) (k:=k) (m:=8) cU cU (hM I)]at B;exact B.fresh
def C107(lv:Value)(xs:List bD)(w:World)(hL:DL w lv xs):CR 107 [lv] w (λv w'=>mf (fe v (IF xs)) w w'):=by
 have E:=St.start w;refine fD Tryz.func107 ?_;refine zF (α:=bD) E gX (λam2 w1 E=>?_);refine⟨λm U x w1=>∃k:Nat,x=iE (k:Int)/\m=50-k/\k<=50/\k<=xs.length/\St w bE [fe U ((xs.take k).map Wf)] w1,⟨_,0,rfl,rfl,cU,cU,E⟩,?_⟩;rintro m U _ _ ⟨k,rfl,rfl,hk,FZ,E⟩ _;have Nj:((xs.take k).map Wf).length=k:=by rw[oi,n0];omega
 refine⟨λjv w'=>jv=.bool (decide (k<xs.length/\k<50))/\St w bE [fe U ((xs.take k).map Wf)] w',?_,?_⟩
 .obtain⟨ts60,Y,aAG⟩:=hL.open;have hn60:=aAG.1;exact aK gX (Y.ext E.aG) (aV (aC (λ_=>aV ⟨vb dH,E⟩) λ_=>⟨vb dH,E⟩))
 rintro _ _ ⟨rfl,E⟩ _;refine aX (λW=>?_) (λW=>?_)
 .have atx:k<xs.length/\k<50:=by simpa using W
  obtain⟨V,Z,I⟩:=hL.open;have hn61:=I.1;obtain⟨jN,fQ⟩:=gx V (i:=(k:Int).toNat) cU;obtain⟨B,qP⟩:=gx xs (i:=(k:Int).toNat) cU;obtain⟨M,G,rfl,Wg,Wh⟩:=I.2 _ _ _ fQ qP;refine aW gX Z cU fQ (λ_ kW=>aE fh (kW.ext E.aG) (aJ E kS λA9 _ E=>have E:=E.enc (cs':=jl (⟨0,(jY #[]),(jY #[]),bO,bO,0,0,0,0⟩:bF)) rfl;aH (x:=(⟨B.kind,B.eY,B.name,M,G,B.n,B.body,B.eR,B.at_⟩:bF)) E fh rfl rfl λ_ E=>aA lO (aB (v:=.string B.eY) ke E.hb rfl (aA lO (aB (v:=.string B.eY) ke E.hb rfl (fG gL (u6 (oV gL cU cU (aA lO ?_)))))))))
  have O:=DL.flat Wg;have aAK:=DL.flat Wh;refine aO E ke (ei rfl) (rfl) (λ_ E=>have E:=E.enc (cs':=jl (⟨B.kind,(B.eY.extract 0 (min (B.eY.size:Int) 40).toNat),B.name,M,G,B.n,B.body,B.eR,B.at_⟩:bF)) rfl;aA jJ (aB (v:=.string B.name) ke E.hb rfl (aA jJ (aB (v:=.string B.name) ke E.hb rfl (fG gL (u6 (oV gL cU cU (aA jJ (aO E ke (ei rfl) (rfl) λ_ E=>have E:=E.enc (cs':=jl (⟨B.kind,(B.eY.extract 0 (min (B.eY.size:Int) 40).toNat),(B.name.extract 0 (min (B.name.size:Int) 40).toNat),M,G,B.n,B.body,B.eR,B.at_⟩:bF)) rfl;aA jK (aB (v:=jj (M:SV)) l5 E.hb rfl (cW amh E (C48 _ _ _ (O.ext E.aG)) λx39 _ cA E=>?_)))))))))))
  refine aA jK ?_;obtain⟨J,rfl⟩:=E.fK;refine aO E.p1 l5 (ei rfl) (rfl) (λ_ E=>have E:=E.enc (cs':=jl (⟨B.kind,(B.eY.extract 0 (min (B.eY.size:Int) 40).toNat),(B.name.extract 0 (min (B.name.size:Int) 40).toNat),J,G,B.n,B.body,B.eR,B.at_⟩:bF)) rfl;aA rA (aB (v:=jj (G:SV)) l5 E.hb rfl (cW amh E (C48 _ _ _ (aAK.ext E.aG)) λx43 _ cA E=>aA rA ?_)));obtain⟨EY,rfl⟩:=E.fK;exact aO E.p1 l5 (ei rfl) (rfl) (λ_ E=>have E:=E.enc (cs':=jl (⟨B.kind,(B.eY.extract 0 (min (B.eY.size:Int) 40).toNat),(B.name.extract 0 (min (B.name.size:Int) 40).toNat),J,EY,B.n,B.body,B.eR,B.at_⟩:bF)) rfl;aE fh E.At (have E:=E.p2.freeze.p2.freeze.p1.fu.cS (Ψ:=(λw=>n4 w (⟨B.kind,(B.eY.extract 0 (min (B.eY.size:Int) 40).toNat),(B.name.extract 0 (min (B.name.size:Int) 40).toNat),J,EY,B.n,B.body,B.eR,B.at_⟩:bF) (⟨B.kind,(B.eY.extract 0 (min (B.eY.size:Int) 40).toNat),(B.name.extract 0 (min (B.name.size:Int) 40).toNat),(Ba B.e),(Ba B.f),B.n,B.body,B.eR,B.at_⟩:bD))) (λ_ h=>⟨_,_,rfl,DL.fP h.1,DL.fP h.2⟩);fH (s:=(⟨B.kind,(B.eY.extract 0 (min (B.eY.size:Int) 40).toNat),(B.name.extract 0 (min (B.name.size:Int) 40).toNat),J,EY,B.n,B.body,B.eR,B.at_⟩:bF)) (x:=(⟨B.kind,(B.eY.extract 0 (min (B.eY.size:Int) 40).toNat),(B.name.extract 0 (min (B.name.size:Int) 40).toNat),(Ba B.e),(Ba B.f),B.n,B.body,B.eR,B.at_⟩:bD)) E gX er λ_ _ E=>have E:=E.p2;fI E gX (by rw[Nj,mv];omega) er λ_ _ E=>aR cU (have E:=E.p1.drop;⟨_,cU,k+1,rfl,rfl,cU,cU,by rw[<- ig (k:=k) qP];exact E⟩)))
 rw[tY (xs:=xs) (k:=k) (m:=50) cU cU (hM W)]at E;exact E.fresh
def C47(lv:Value)(xs:List cE)(w:World)(hL:DL w lv xs):CR 47 [lv] w (λv w'=>mf (fe v (lU xs)) w w'):=by
 have B:=St.start w;refine pG Tryz.func47 (pl:=P47) ?_;refine zF (α:=cE) B kM (λatA w1 B=>?_);refine⟨λm O x w1=>∃k:Nat,x=iE (k:Int)/\m=4-k/\k<=4/\k<=xs.length/\St w bE [fe O ((xs.take k).map Bu)] w1,⟨_,0,rfl,rfl,cU,cU,B⟩,?_⟩;rintro m O _ _ ⟨k,rfl,rfl,hk,FZ,B⟩ _;have Nj:((xs.take k).map Bu).length=k:=by rw[oi,n0];omega
 refine⟨λjv w'=>jv=.bool (decide (k<xs.length/\k<4))/\St w bE [fe O ((xs.take k).map Bu)] w',?_,?_⟩
 .obtain⟨ts64,aAL,aAM⟩:=hL.open;have hn64:=aAM.1;exact aK kM (aAL.ext B.aG) (aV (aC (λ_=>aV ⟨vb dH,B⟩) λ_=>⟨vb dH,B⟩))
 rintro _ _ ⟨rfl,B⟩ _;refine aX (λlS=>?_) (λlS=>?_)
 .have hc15:k<xs.length/\k<4:=by simpa using lS
  obtain⟨aAN,M,atB⟩:=hL.open;have hn65:=atB.1;obtain⟨akD,I⟩:=gx aAN (i:=(k:Int).toNat) cU;obtain⟨E,Nb⟩:=gx xs (i:=(k:Int).toNat) cU;obtain⟨B2,Tx,rfl,IK,IL⟩:=atB.2 _ _ _ I Nb;refine⟨λvA w'=>St w bE [fe vA ((xs.take k).map Bu++[Bu E])] w',⟨λjv w'=>∃(Y:Nat) (G:SV),jv=.pointer (some ⟨Y,0,none⟩)/\St w bE [bU Y (jl (⟨(E.name.extract 0 (min (E.name.size:Int) 40).toNat),bO,G,E.at_⟩:cI)),fe (jj G) (IF E.body),fe O ((xs.take k).map Bu)] w',?_,?_⟩,?_⟩
  .refine aW kM M cU I (λ_ QA=>cL E.name zn QA rfl rfl λ_ U=>have B:=B.drew;aE ke (U.ext B.aG) (aW kM M cU I λ_ zY=>cL E.name zn zY rfl rfl λ_ Z=>aE ke (Z.ext B.aG) (fG gL (u6 (oV gL cU cU (aW kM M cU I λ_ Bs=>cL E.at_ CI Bs rfl rfl λ_ tZ=>aE bL (tZ.ext B.aG) (aW kM M cU I λ_ F4=>cL Tx tG F4 rfl rfl λ_ Di=>aE ou (Di.ext B.aG) ⟨?_,⟨?_,?_⟩⟩)))))))
   .refine cW ajB B (C107 _ _ _ (IL.ext B.aG)) (λx41 _ cA B=>?_);refine⟨fJ ke (U.ext B.aG),?_⟩;refine⟨fJ ke (Z.ext B.aG),?_⟩;refine⟨fJ bL (tZ.ext B.aG),?_⟩;obtain⟨Nk,rfl⟩:=B.mW;refine pop (CQ _ _ _ _ _) (aJ B qZ λb_t5 _ B=>?_);have B:=B.enc (cs':=jl (⟨(jY #[]),bO,bO,0⟩:cI)) rfl;refine⟨fJ ke (U.ext B.aG),?_⟩;refine⟨fJ ke (Z.ext B.aG),?_⟩;refine⟨fJ bL (tZ.ext B.aG),?_⟩;refine⟨fJ ou (Di.ext B.aG),?_⟩;exact aH (x:=(⟨(E.name.extract 0 (min (E.name.size:Int) 40).toNat),bO,Nk,E.at_⟩:cI)) B lG rfl rfl (λ_ B=>have B:=B.p2.p2.p2;⟨_,_,rfl,B⟩)
   .refine aJ B qZ (λaAO _ B=>?_);have B:=B.enc (cs':=jl (⟨(jY #[]),bO,bO,0⟩:cI)) rfl;refine⟨fJ ke (U.ext B.aG),?_⟩;refine⟨fJ ke (Z.ext B.aG),?_⟩;refine⟨fJ bL (tZ.ext B.aG),?_⟩;refine⟨fJ ou (Di.ext B.aG),?_⟩;refine cW ajB B (C107 _ _ _ (IL.ext B.aG)) (λx41_1 _ cA B=>?_);refine⟨fJ ke (U.ext B.aG),?_⟩;refine⟨fJ ke (Z.ext B.aG),?_⟩;refine⟨fJ bL (tZ.ext B.aG),?_⟩;obtain⟨aca,rfl⟩:=B.mW;exact pop (CQ _ _ _ _ _) (aH (x:=(⟨(E.name.extract 0 (min (E.name.size:Int) 40).toNat),bO,aca,E.at_⟩:cI)) B.p1 lG rfl rfl λ_ B=>have B:=B.p2.p2.p2;⟨_,_,rfl,B⟩)
   trivial
  .rintro _ _ ⟨Y,G,rfl,B⟩ _;have B:=((((B.eU (α:=ByteArray)).p3).p3).p2).p3;refine⟨λm x w1=>∃(j:Nat) (J:SV),x=iE (j:Int)/\m=6-j/\j<=6/\j<=E.aS.length/\St w bE [bU Y (jl (⟨(E.name.extract 0 (min (E.name.size:Int) 40).toNat),J,G,E.at_⟩:cI)),bG (jj J) ((E.aS.take j).map pw),fe (jj G) (IF E.body),fe O ((xs.take k).map Bu)] w1,⟨_,0,bO,rfl,rfl,cU,cU,B⟩,?_⟩;rintro m _ _ ⟨j,J,rfl,rfl,hj,OG,B⟩ _;have am3:((E.aS.take j).map pw).length=j:=by rw[oi,n0];omega
   refine⟨λjv w'=>jv=.bool (decide (j<E.aS.length/\j<6))/\St w bE [bU Y (jl (⟨(E.name.extract 0 (min (E.name.size:Int) 40).toNat),J,G,E.at_⟩:cI)),bG (jj J) ((E.aS.take j).map pw),fe (jj G) (IF E.body),fe O ((xs.take k).map Bu)] w',?_,?_⟩
   .refine aW kM M cU I (λ_ acb=>cL B2 kP acb rfl rfl λ_ Qt=>aE nf (Qt.ext B.aG) ?_);have aAP:=DL.flat IK;exact aK kN (aAP.ext B.aG) (aV (aC (λ_=>aV ⟨vb dH,B⟩) λ_=>⟨vb dH,B⟩))
   rintro _ _ ⟨rfl,B⟩ _;refine aX (λQC=>?_) (λQC=>?_)
   .have hc54:j<E.aS.length/\j<6:=by simpa using QC
    refine aA kP (have B:=B.drew;aB (v:=jj (J:SV)) nf B.hb rfl (aW kM M cU I λ_ atC=>cL B2 kP atC rfl rfl λ_ QD=>aE nf (QD.ext B.aG) ?_));have V:=DL.flat IK;obtain⟨W,Ty⟩:=gx E.aS (i:=(j:Int).toNat) cU;refine aW kN V cU Ty (λ_ F5=>aE ke (F5.ext B.aG) (aW kM M cU I λ_ atF=>cL B2 kP atF rfl rfl λ_ acd=>aE nf (acd.ext B.aG) (aW kN V cU Ty λ_ atG=>aE ke (atG.ext B.aG) (fG gL (u6 (oV gL cU cU (bV ([((W).extract 0 (min ((W).size:Int) 40).toNat)]) B kN rfl rfl (ei rfl) λatH _ B=>?_)))))))
    refine⟨aF nf (B.p1.hb.cell rfl),?_⟩;have am4:=B.fc;refine cK B.p2 kN am4 (by rw[am3,mv];omega) er (λs_x79 _ B=>have B:=B.p1.drop;aA kP ?_);obtain⟨ace,rfl⟩:=B.fK;exact aO B.p1 nf (ei rfl) (rfl) (λ_ B=>have B:=B.enc (cs':=jl (⟨(E.name.extract 0 (min (E.name.size:Int) 40).toNat),ace,G,E.at_⟩:cI)) rfl;aR cU (have B:=B.p3.p3.p3.p3;⟨_,cU,j+1,ace,rfl,rfl,cU,cU,by rw[<- ig (k:=j) Ty];exact B⟩))
   refine aE lG B.At (have B:=B.p1.freeze.p2.kV.p1.fu.cS (Ψ:=(λw=>n4 w (⟨(E.name.extract 0 (min (E.name.size:Int) 40).toNat),J,G,E.at_⟩:cI) (⟨(E.name.extract 0 (min (E.name.size:Int) 40).toNat),((E.aS.take j).map pw),(IF E.body),E.at_⟩:cE))) (λ_ h=>⟨_,_,rfl,DL.fP h.1,h.2⟩);fH (s:=(⟨(E.name.extract 0 (min (E.name.size:Int) 40).toNat),J,G,E.at_⟩:cI)) (x:=(⟨(E.name.extract 0 (min (E.name.size:Int) 40).toNat),((E.aS.take j).map pw),(IF E.body),E.at_⟩:cE)) B kM er λatI _ B=>have B:=B.p2;fI B kM (by rw[Nj,mv];omega) er λatJ _ B=>?_)
   have B:=B.p1.drop;rw[tY (xs:=E.aS) (k:=j) (m:=6) cU cU (hM QC)]at B;exact B
  rintro vA _ B _;exact aR cU ⟨_,cU,k+1,rfl,rfl,cU,cU,by rw[<- ig (k:=k) Nb];exact B⟩
 rw[tY (xs:=xs) (k:=k) (m:=4) cU cU (hM lS)]at B;exact B.fresh
def C16(p:bQ)(pv:bT)(w:World)(hp:n4 w pv p):CR 16 [jj pv] w (λv w'=>∃qv:bT,v=jj qv/\mf (ep λw=>n4 w qv (sS p)) w w'):=by
 obtain⟨dJ,ej,dV,cQ,cT,dA,rfl,fT,iZ,iN,fj,fk,gU⟩:=hp;have B:=St.start w;refine pG Tryz.func16 (pl:=P16) ?_;refine cP B (λB3 w1 B=>aJ B xJ λqt _ B=>have B:=B.enc (cs':=jl (⟨bO,bO,bO,bO,bO,bO⟩:bT)) rfl;⟨λjv w'=>∃(V:Nat) (J G I E:SV),jv=.pointer (some ⟨V,0,none⟩)/\St w bE [bU V (jl (⟨bO,J,G,I,E,bO⟩:bT)),bG (jj J) (j1 p.jR),bG (jj G) (j1 p.locks),fe (jj I) (lU p.threads),fe (jj E) (lU p.recover),bU B3 (jl (⟨dJ,ej,dV,cQ,cT,dA⟩:bT)),bU qt (jl (⟨bO,bO,bO,bO,bO,bO⟩:bT))] w',?_,?_⟩)
 .refine aA AD (have B:=B.drew;aB l4 B.p1.hb rfl ?_);have atK:=DL.flat iZ;refine aA uV (aB l4 B.p1.hb rfl ?_);have Z:=DL.flat iN;refine aA sO (aB kf B.p1.hb rfl (aA uW (aB kf B.p1.hb rfl ⟨cW X8 B (C46 _ _ _ (atK.ext B.aG)) (λx8 _ M B=>⟨aF l4 (B.p2.hb.cell rfl),⟨aF kf (B.p2.hb.cell rfl),⟨aF kf (B.p2.hb.cell rfl),⟨cW X8 B (C46 _ _ _ (Z.ext B.aG)) (λx11 _ M B=>⟨aF kf (B.p3.hb.cell rfl),⟨aF kf (B.p3.hb.cell rfl),⟨cW Mz B (C47 _ _ _ (fj.ext B.aG)) (λx14 _ M B=>⟨aF kf (B.p4.hb.cell rfl),⟨?_,⟨?_,?_⟩⟩⟩),⟨?_,?_⟩⟩⟩⟩),⟨?_,?_⟩⟩⟩⟩⟩),⟨?_,?_⟩⟩)))
  .refine cW Mz B (C47 _ _ _ (fk.ext B.aG)) (λx17 _ M B=>?_);obtain⟨IN,rfl⟩:=B.p3.fK;obtain⟨nG,rfl⟩:=B.p2.fK;obtain⟨qe,rfl⟩:=B.p1.mW;obtain⟨acf,rfl⟩:=B.mW;refine pop (oC _ _ _ _ _ _ _ _ _ _ _ _) (aJ B xJ λb_q3 _ B=>?_);have B:=B.enc (cs':=jl (⟨bO,bO,bO,bO,bO,bO⟩:bT)) rfl;refine⟨aF l4 (B.p6.hb.cell rfl),?_⟩;refine⟨aF l4 (B.p6.hb.cell rfl),?_⟩;refine⟨aF kf (B.p6.hb.cell rfl),?_⟩;refine⟨aF kf (B.p6.hb.cell rfl),?_⟩;exact aH (x:=(⟨bO,IN,nG,qe,acf,bO⟩:bT)) B gO rfl rfl (λ_ B=>have B:=B.p5.p6.p3.p4.p5.p6.p6;⟨_,_,_,_,_,rfl,B⟩)
  .refine aJ B xJ (λaAQ _ B=>?_);have B:=B.enc (cs':=jl (⟨bO,bO,bO,bO,bO,bO⟩:bT)) rfl;refine⟨aF l4 (B.p5.hb.cell rfl),?_⟩;refine⟨aF l4 (B.p5.hb.cell rfl),?_⟩;refine⟨aF kf (B.p5.hb.cell rfl),?_⟩;refine⟨aF kf (B.p5.hb.cell rfl),?_⟩;refine cW Mz B (C47 _ _ _ (fk.ext B.aG)) (λatL _ M B=>?_);obtain⟨IN,rfl⟩:=B.p4.fK;obtain⟨nG,rfl⟩:=B.p3.fK;obtain⟨qe,rfl⟩:=B.p2.mW;obtain⟨QE,rfl⟩:=B.mW;exact pop (oC _ _ _ _ _ _ _ _ _ _ _ _) (aH (x:=(⟨bO,IN,nG,qe,QE,bO⟩:bT)) B.p1 gO rfl rfl λ_ B=>have B:=B.p5.p6.p3.p4.p5.p6.p6;⟨_,_,_,_,_,rfl,B⟩)
  .trivial
  .refine aJ B xJ (λaAR _ B=>?_);have B:=B.enc (cs':=jl (⟨bO,bO,bO,bO,bO,bO⟩:bT)) rfl;refine⟨aF l4 (B.p4.hb.cell rfl),?_⟩;refine⟨aF l4 (B.p4.hb.cell rfl),?_⟩;refine⟨aF kf (B.p4.hb.cell rfl),?_⟩;refine⟨aF kf (B.p4.hb.cell rfl),?_⟩;refine cW Mz B (C47 _ _ _ (fj.ext B.aG)) (λx14_1 _ M B=>?_);refine⟨aF kf (B.p5.hb.cell rfl),?_⟩;refine cW Mz B (C47 _ _ _ (fk.ext B.aG)) (λatM _ M B=>?_);obtain⟨IN,rfl⟩:=B.p4.fK;obtain⟨nG,rfl⟩:=B.p3.fK;obtain⟨acg,rfl⟩:=B.p1.mW;obtain⟨QF,rfl⟩:=B.mW
   exact pop (oC _ _ _ _ _ _ _ _ _ _ _ _) (aH (x:=(⟨bO,IN,nG,acg,QF,bO⟩:bT)) B.p2 gO rfl rfl λ_ B=>have B:=B.p5.p6.p3.p4.p5.p6.p6;⟨_,_,_,_,_,rfl,B⟩)
  .trivial
  .refine aJ B xJ (λaAS _ B=>?_);have B:=B.enc (cs':=jl (⟨bO,bO,bO,bO,bO,bO⟩:bT)) rfl;refine⟨aF l4 (B.p3.hb.cell rfl),?_⟩;refine⟨aF l4 (B.p3.hb.cell rfl),?_⟩;refine⟨aF kf (B.p3.hb.cell rfl),?_⟩;refine⟨aF kf (B.p3.hb.cell rfl),?_⟩;refine cW X8 B (C46 _ _ _ (Z.ext B.aG)) (λx11_1 _ M B=>?_);refine⟨aF kf (B.p4.hb.cell rfl),?_⟩;refine⟨aF kf (B.p4.hb.cell rfl),?_⟩;refine cW Mz B (C47 _ _ _ (fj.ext B.aG)) (λx14_2 _ M B=>?_);refine⟨aF kf (B.p5.hb.cell rfl),?_⟩;refine cW Mz B (C47 _ _ _ (fk.ext B.aG)) (λx17_3 _ M B=>?_)
   obtain⟨IN,rfl⟩:=B.p4.fK;obtain⟨ach,rfl⟩:=B.p2.fK;obtain⟨aci,rfl⟩:=B.p1.mW;obtain⟨acj,rfl⟩:=B.mW;exact pop (oC _ _ _ _ _ _ _ _ _ _ _ _) (aH (x:=(⟨bO,IN,ach,aci,acj,bO⟩:bT)) B.p3 gO rfl rfl λ_ B=>have B:=B.p5.p6.p3.p4.p5.p6.p6;⟨_,_,_,_,_,rfl,B⟩)
  .trivial
  .refine aJ B xJ (λaAT _ B=>?_);have B:=B.enc (cs':=jl (⟨bO,bO,bO,bO,bO,bO⟩:bT)) rfl;refine⟨aF l4 (B.p2.hb.cell rfl),?_⟩;refine⟨aF l4 (B.p2.hb.cell rfl),?_⟩;refine⟨aF kf (B.p2.hb.cell rfl),?_⟩;refine⟨aF kf (B.p2.hb.cell rfl),?_⟩;refine cW X8 B (C46 _ _ _ (atK.ext B.aG)) (λx8_1 _ M B=>?_);refine⟨aF l4 (B.p3.hb.cell rfl),?_⟩;refine⟨aF kf (B.p3.hb.cell rfl),?_⟩;refine⟨aF kf (B.p3.hb.cell rfl),?_⟩;refine cW X8 B (C46 _ _ _ (Z.ext B.aG)) (λx11_2 _ M B=>?_);refine⟨aF kf (B.p4.hb.cell rfl),?_⟩;refine⟨aF kf (B.p4.hb.cell rfl),?_⟩
   refine cW Mz B (C47 _ _ _ (fj.ext B.aG)) (λx14_3 _ M B=>?_);refine⟨aF kf (B.p5.hb.cell rfl),?_⟩;refine cW Mz B (C47 _ _ _ (fk.ext B.aG)) (λx17_4 _ M B=>?_);obtain⟨G5,rfl⟩:=B.p3.fK;obtain⟨ack,rfl⟩:=B.p2.fK;obtain⟨acm,rfl⟩:=B.p1.mW;obtain⟨acn,rfl⟩:=B.mW;exact pop (oC _ _ _ _ _ _ _ _ _ _ _ _) (aH (x:=(⟨bO,G5,ack,acm,acn,bO⟩:bT)) B.p4 gO rfl rfl λ_ B=>have B:=B.p5.p6.p3.p4.p5.p6.p6;⟨_,_,_,_,_,rfl,B⟩)
  trivial
 rintro _ _ ⟨V,J,G,I,E,rfl,B⟩ _;have B:=((((((((B.xK (α:=(List cG))).p7).p7).p7).p7).p7).p7).p6).p7;refine⟨λm x w1=>∃(k:Nat) (O:SV),x=iE (k:Int)/\m=6-k/\k<=6/\k<=p.lines.length/\St w bE [bU V (jl (⟨O,J,G,I,E,bO⟩:bT)),fe (jj O) ((p.lines.take k).map j1),bG (jj J) (j1 p.jR),bG (jj G) (j1 p.locks),fe (jj I) (lU p.threads),fe (jj E) (lU p.recover),bU B3 (jl (⟨dJ,ej,dV,cQ,cT,dA⟩:bT)),bU qt (jl (⟨bO,bO,bO,bO,bO,bO⟩:bT))] w1,⟨_,0,bO,rfl,rfl,cU,cU,B⟩,?_⟩
 rintro m _ _ ⟨k,O,rfl,rfl,hk,FZ,B⟩ _;have Nj:((p.lines.take k).map j1).length=k:=by rw[oi,n0];omega
 refine⟨λjv w'=>jv=.bool (decide (k<p.lines.length/\k<6))/\St w bE [bU V (jl (⟨O,J,G,I,E,bO⟩:bT)),fe (jj O) ((p.lines.take k).map j1),bG (jj J) (j1 p.jR),bG (jj G) (j1 p.locks),fe (jj I) (lU p.threads),fe (jj E) (lU p.recover),bU B3 (jl (⟨dJ,ej,dV,cQ,cT,dA⟩:bT)),bU qt (jl (⟨bO,bO,bO,bO,bO,bO⟩:bT))] w',?_,?_⟩
 .refine aA nT (aB zh B.p6.hb rfl ?_);obtain⟨ts70,aAU,aAV⟩:=fT.open;have hn70:=aAV.1;exact aK BN (aAU.ext B.aG) (aV (aC (λ_=>aV ⟨vb dH,B⟩) λ_=>⟨vb dH,B⟩))
 rintro _ _ ⟨rfl,B⟩ _;refine aX (λkD=>?_) (λkD=>?_)
 .have hc27:k<p.lines.length/\k<6:=by simpa using kD
  refine aA nT (have B:=B.drew;aB (v:=jj (O:SV)) zh B.hb rfl (aA nT (aB zh B.p6.hb rfl ?_)));obtain⟨aAW,aAX,atO⟩:=fT.open;have hn71:=atO.1;obtain⟨atP,aco⟩:=gx aAW (i:=(k:Int).toNat) cU;obtain⟨W,acq⟩:=gx p.lines (i:=(k:Int).toNat) cU;have atQ:DL w (jj atP) W:=atO.2 _ _ _ aco acq;refine aW BN aAX cU aco (λ_ IP=>aE l4 (IP.ext B.aG) ?_);have aAY:=DL.flat atQ;refine cW X8 B (C46 _ _ _ (aAY.ext B.aG)) (λx37 _ M B=>?_);refine⟨aF zh (B.p1.hb.cell rfl),?_⟩;obtain⟨TD,rfl⟩:=B.fK
  have B:=B.freeze.cS (Ψ:=λw=>n4 w TD (j1 W)) (λ_ h=>DL.fP h);refine fH (s:=TD) (x:=(j1 W)) B BN er (λatS _ B=>?_);refine⟨aF zh (B.p1.hb.cell rfl),?_⟩;have B:=B.p2;refine fI B BN (by rw[Nj,mv];omega) er (λakF _ B=>aA nT ?_);obtain⟨B0,rfl⟩:=B.mW;exact aO B.p1 zh (ei rfl) (rfl) (λ_ B=>have B:=B.enc (cs':=jl (⟨B0,J,G,I,E,bO⟩:bT)) rfl;aR cU (have B:=B.p7.p7.p7.p7.p7.p7.p7.p7;⟨_,cU,k+1,B0,rfl,rfl,cU,cU,by rw[<- ig (k:=k) acq];exact B⟩))
 rw[tY (xs:=p.lines) (k:=k) (m:=6) cU cU (hM kD)]at B;have B:=(((((((((B.xK (α:=iF)).p8).p8).p8).p8).p8).p8).p8).p7).p8;refine⟨λm x w1=>∃(j:Nat) (U:SV),x=iE (j:Int)/\m=6-j/\j<=6/\j<=p.cB.length/\St w bE [bU V (jl (⟨O,J,G,I,E,U⟩:bT)),fe (jj U) ((p.cB.take j).map IG),fe (jj O) ((p.lines.take 6).map j1),bG (jj J) (j1 p.jR),bG (jj G) (j1 p.locks),fe (jj I) (lU p.threads),fe (jj E) (lU p.recover),bU B3 (jl (⟨dJ,ej,dV,cQ,cT,dA⟩:bT)),bU qt (jl (⟨bO,bO,bO,bO,bO,bO⟩:bT))] w1,⟨_,0,bO,rfl,rfl,cU,cU,B⟩,?_⟩
 rintro m _ _ ⟨j,U,rfl,rfl,hj,OG,B⟩ _;have am3:((p.cB.take j).map IG).length=j:=by rw[oi,n0];omega
 refine⟨λjv w'=>jv=.bool (decide (j<p.cB.length/\j<6))/\St w bE [bU V (jl (⟨O,J,G,I,E,U⟩:bT)),fe (jj U) ((p.cB.take j).map IG),fe (jj O) ((p.lines.take 6).map j1),bG (jj J) (j1 p.jR),bG (jj G) (j1 p.locks),fe (jj I) (lU p.threads),fe (jj E) (lU p.recover),bU B3 (jl (⟨dJ,ej,dV,cQ,cT,dA⟩:bT)),bU qt (jl (⟨bO,bO,bO,bO,bO,bO⟩:bT))] w',?_,?_⟩
 .refine aA oM (aB zi B.p7.hb rfl ?_);obtain⟨ts73,aAZ,aA0⟩:=gU.open;have hn73:=aA0.1;exact aK A7 (aAZ.ext B.aG) (aV (aC (λ_=>aV ⟨vb dH,B⟩) λ_=>⟨vb dH,B⟩))
 rintro _ _ ⟨rfl,B⟩ _;refine aX (λyB=>?_) (λyB=>?_)
 .have hc49:j<p.cB.length/\j<6:=by simpa using yB
  refine aA oM (have B:=B.drew;aB (v:=jj (U:SV)) zi B.hb rfl (aA oM (aB zi B.p7.hb rfl ?_)));obtain⟨aA1,atT,atU⟩:=gU.open;have hn74:=atU.1;obtain⟨Wi,vL⟩:=gx aA1 (i:=(j:Int).toNat) cU;obtain⟨Y,EZ⟩:=gx p.cB (i:=(j:Int).toNat) cU;obtain⟨ahz,rfl,ahA⟩:=atU.2 _ _ _ vL EZ;refine aW A7 atT cU vL (λ_ IQ=>cL ahz CG IQ rfl rfl λ_ IS=>aE l5 (IS.ext B.aG) ?_);have aA2:=DL.flat ahA;refine aA oM (aB zi B.p7.hb rfl (aW A7 atT cU vL λ_ acr=>cL Y.at_ VN acr rfl rfl λ_ F5=>aE bL (F5.ext B.aG) (cW amh B (C48 _ _ _ (aA2.ext B.aG)) λx60 _ M B=>?_)))
  refine⟨aF zi (B.p1.hb.cell rfl),?_⟩;refine⟨aF zi (B.p8.hb.cell rfl),?_⟩;refine⟨fJ bL (F5.ext B.aG),?_⟩;obtain⟨E0,rfl⟩:=B.fK;refine pop (La _ _ _ _) (have B:=B.freeze.cS (Ψ:=(λw=>n4 w (⟨E0,Y.at_⟩:jy) (⟨(Ba Y.e),Y.at_⟩:iF))) (λ_ h=>⟨_,rfl,DL.fP h⟩);fH (s:=(⟨E0,Y.at_⟩:jy)) (x:=(⟨(Ba Y.e),Y.at_⟩:iF)) B A7 er λs_x68 _ B=>?_);refine⟨aF zi (B.p1.hb.cell rfl),?_⟩;have B:=B.p2;refine fI B A7 (by rw[am3,mv];omega) er (λs_x69 _ B=>aA oM ?_)
  obtain⟨acs,rfl⟩:=B.mW;exact aO B.p1 zi (ei rfl) (rfl) (λ_ B=>have B:=B.enc (cs':=jl (⟨O,J,G,I,E,acs⟩:bT)) rfl;aR cU (have B:=B.p8.p8.p8.p8.p8.p8.p8.p8.p8;⟨_,cU,j+1,acs,rfl,rfl,cU,cU,by rw[<- ig (k:=j) EZ];exact B⟩))
 refine aE gO B.At (aH (x:=(⟨O,J,G,I,E,U⟩:bT)) B.p8 gO rfl rfl λ_ B=>aE gO B.At ?_);rw[tY (xs:=p.cB) (k:=j) (m:=6) cU cU (hM yB)]at B;have B:=B.p3.kV.p4.freeze.p1.fu.p4.freeze.p1.fu.p4.kV.p1.fu.p4.kV.p1.fu;have B:=B.p3.kV.p1.fu.cS (Ψ:=(λw=>n4 w (⟨O,J,G,I,E,U⟩:bT) (⟨((p.lines.take 6).map j1),(j1 p.jR),(j1 p.locks),(lU p.threads),(lU p.recover),((p.cB.take 6).map IG)⟩:bQ))) (λ_ h=>⟨_,_,_,_,_,_,rfl,h.1.1.1.1.1,DL.fP h.1.1.1.1.2,DL.fP h.1.1.1.2,h.1.1.2,h.1.2,h.2⟩)
 have B:=B.p1.drop.p1.drop.p1.drop;exact⟨_,rfl,B.fresh⟩
def QG(n many:Int):Bool:=decide (0<=n)&&decide (n<many)
def vi(k:Int):Bool:=decide (k=1)||decide (k=3)||decide (k=4)||decide (k=12)||decide (k=15)
def aM(x:aU)(aS counts:Int):Bool:=if x.kind=13\/x.kind=14 then QG x.a counts else if x.kind=1\/x.kind=2\/x.kind=4 then QG x.a aS else decide (x.a=0)
def bM(x:aU)(cells lines locks:Int):Bool:=if x.kind=2\/x.kind=3\/x.kind=4 then QG x.b cells else if x.kind=5\/x.kind=6 then QG x.b lines else if x.kind=9\/x.kind=10 then QG x.b locks else if x.kind=13 then decide (1<=x.b)&&decide (x.b<=8)else decide (x.b=0)
def efM(x:aU)(aS:Int):Bool:=(if vi x.kind=true then fa x.e aS else !decide (0<(x.e.length:Int)))&&(if x.kind=4 then fa x.f aS else !decide (0<(x.f.length:Int)))
def xP(x:aU)(c:gz)(cells lines locks:Int):Bool:=efM x c.aS&&(decide (1<=x.kind)&&decide (x.kind<=15)&&aM x c.aS c.counts&&bM x cells lines locks)
def vj(y:aU)(a:Int):Bool:=decide (y.kind=13)&&decide (y.a=a)
def btM(l:List aU)(i:Nat)(x:aU):Bool:=decide (1<=x.to)&&decide (x.to<=i)&&(match l[(x.to-1).toNat]? with|some y=>vj y x.a|none=>false)
theorem acu{l:List aU}{i:Nat}{x y:aU}(h1:1<=x.to)(h2:x.to<=i)(h:l[(x.to-1).toNat]?=some y):btM l i x=vj y x.a:=by unfold btM;rw[h,fY h1,fY h2];rfl
theorem QH{l:List aU}{i:Nat}{x:aU}(h:x.to<1\/(i:Int)<x.to):btM l i x=false:=by
 unfold btM
 rcases h with h|h
 .rw[gk (show ¬ 1<=x.to by omega)];rfl
 rw[gk (show ¬ x.to<=(i:Int)by omega)];simp
def atV{l:List aU}{i:Nat}{x:aU}(h:btM l i x=true):1<=x.to/\x.to<=i:=by
 by_cases h1:x.to<1\/(i:Int)<x.to
 .rw[QH h1]at h;cases h
 omega
def F6(l:List aU)(i:Nat)(x:aU):Bool:=btM l i x&&!((l.take i).drop x.to.toNat).any (λy=>vj y x.a)
def Nl(l:List aU)(i:Nat)(x:aU):Bool:=if x.kind=11\/x.kind=12 then decide ((i:Int)<x.to)&&decide (x.to<=l.length)else if x.kind=14 then F6 l i x else decide (x.to=0)
def xQ(c:gz)(cells lines locks:Int)(i:Nat):Bool:=match c.l[i]? with|some x=>!xP x c cells lines locks||!Nl c.l i x|none=>false
def xR(l:List aU)(x:aU)(k:Nat):Bool:=match l[k]? with|some y=>decide (y.kind=14)&&!(decide (x.to<=y.to)||decide ((k:Int)+1<x.to))|none=>false
def sT(l:List aU)(i:Nat):Bool:=match l[i]? with|some x=>decide (x.kind=14)&&(qi i).any (xR l x)|none=>false
def xS(c:gz):Bool:=decide (c.aS<0)||decide (4<c.aS)||decide (c.counts<0)||decide (12<c.counts)
def mF(c:gz)(cells lines locks:Int):Bool:=!xS c&&!(qi c.l.length).any (xQ c cells lines locks)&&!(qi c.l.length).any (sT c.l)
def iw(u:ki):Int:=if 1<=u.stays/\u.stays<=u.lines.length then u.lines.getD (u.stays-1).toNat 0+1 else 0
def kY(l:List Int)(i:Nat):Int:=if i=0 then 0 else l.getD (i-1) 0+1
def ly(u:ki)(i:Nat):Bool:=match u.lines[i]? with|some n=>decide (¬ n=kY u.lines i)&&(decide (i=0)||decide (u.stays<=i)||decide (¬ n=kY u.lines i-1))|none=>false
def mG(n:Int):Bool:=decide (n<0)||decide (4294967296<n)
def mg(u:ki):Bool:=decide (20<(u.lines.length:Int))||decide (u.stays<0)||decide ((u.lines.length:Int)<u.stays)||decide (¬ (u.dD.length:Int)=u.lines.length)||decide (u.locks<0)||decide (2<u.locks)||decide ((u.threads.length:Int)<1)||decide (3<(u.threads.length:Int))
def qR(u:ki):Bool:=!mg u&&(!u.dD.any mG&&!(qi u.lines.length).any (ly u)&&!u.threads.any (λc=>!mF c u.lines.length (iw u) u.locks)&&!u.cB.any (λl=>!fa l u.stays)&&mF u.recover u.lines.length (iw u) u.locks)
structure CZ(c:gz):Prop where
 l:c.l.length<=1000
 ef:∀x∈c.l,x.e.length<=1000/\x.f.length<=1000
structure UZ(u:ki):Prop where
 lines:u.lines.length<=1000
 dD:u.dD.length<=1000
 threads:u.threads.length<=1000
 cB:u.cB.length<=1000
 th:∀c∈u.threads,CZ c
 rc:CZ u.recover
 cl:∀l∈u.cB,l.length<=1000
theorem wT{c:gz}{cells lines locks:Int}{i:Nat}{x:aU}(h:c.l[i]?=some x):xQ c cells lines locks i=(!xP x c cells lines locks||!Nl c.l i x):=by unfold xQ;rw[h]
theorem Dj{l:List aU}{x y:aU}{k:Nat}(h:l[k]?=some y):xR l x k=(decide (y.kind=14)&&!(decide (x.to<=y.to)||decide ((k:Int)+1<x.to))):=by unfold xR;rw[h]
theorem AO{l:List aU}{i:Nat}{x:aU}(h:l[i]?=some x):sT l i=(decide (x.kind=14)&&(qi i).any (xR l x)):=by unfold sT;rw[h]
def ahC{l:List aU}{i:Nat}{x:aU}(h:F6 l i x=true):1<=x.to/\x.to<=i:=by unfold F6 at h;rw[n3]at h;exact atV h.1
def acv{l:List aU}{i:Nat}{x:aU}(B:x.kind=14)(h:Nl l i x=true):1<=x.to/\x.to<=i:=by
 unfold Nl at h;rw[ew cU,ez B]at h;exact ahC h
def acw{l:List aU}{i:Nat}{x:aU}(h:btM l i x=false):F6 l i x=false:=by unfold F6;rw[h];rfl
def Lr{f:Nat->Bool}{n:Nat}(h:(qi n).any f=false):∀j,j<n->f j=false:=λj B=>by
 grind
theorem IT{u:ki}{k:Nat}(h:∀j,j<k->ly u j=false):∀j n,j<k->u.lines[j]?=some n->-1<=n/\n<=j
 | 0,n,E,B=>by
  have:=h 0 E
  unfold ly kY at this
  rw[B]at this
  simp at this
  omega
 | j+1,n,E,B=>by
  have I:=(j0.1 B).1
  obtain⟨m,G⟩:=gx u.lines (i:=j) cU
  have J:=IT h j m cU G
  have:=h (j+1) E
  unfold ly kY at this
  rw[B]at this
  simp only[Nat.add_one_ne_zero,if_false,FD,pd,G,Option.getD_some,decide_false,T6,Ev,decide_eq_false_iff_not,sn,DY]at this
  omega
theorem Ls{u:ki}{k:Nat}{n:Int}(h:u.lines[k]?=some n):ly u k=(decide (¬ n=kY u.lines k)&&(decide ((k:Int)=0)||decide (u.stays<=k)||decide (¬ n=kY u.lines k-1))):=by
 unfold ly;rw[h];simp only[]
 congr 2
 congr 1
 exact gv.2 cU
def QI{u:ki}(h:∀j,j<u.lines.length->ly u j=false):∀n∈u.lines,-1<=n/\n<=(u.lines.length:Int):=by
 intro n E
 obtain⟨j,B,G⟩:=List.mem_iff_getElem.1 E
 have:=IT h j n B (by rw[l0 B,G])
 omega
def TE{u:ki}(h:mg u=false):u.lines.length<=20/\0<=u.stays/\u.stays<=u.lines.length/\u.dD.length=u.lines.length/\0<=u.locks/\u.locks<=2/\1<=u.threads.length/\u.threads.length<=3:=by
 unfold mg at h
 simp only[sn,decide_eq_false_iff_not]at h
 omega
def am7:List ByteArray:=[⟨#[]⟩,⟨#[114,101]⟩,⟨#[114,99]⟩,⟨#[99,101]⟩,⟨#[114,99,101,102]⟩,⟨#[108]⟩,⟨#[108]⟩,⟨#[]⟩,⟨#[]⟩,⟨#[109]⟩,⟨#[109]⟩,⟨#[116]⟩,⟨#[101,116]⟩,⟨#[107,110]⟩,⟨#[107,116]⟩,⟨#[101]⟩]
def am8:Array Value:=#[.string ⟨#[]⟩,.string ⟨#[114,101]⟩,.string ⟨#[114,99]⟩,.string ⟨#[99,101]⟩,.string ⟨#[114,99,101,102]⟩,.string ⟨#[108]⟩,.string ⟨#[108]⟩,.string ⟨#[]⟩,.string ⟨#[]⟩,.string ⟨#[109]⟩,.string ⟨#[109]⟩,.string ⟨#[116]⟩,.string ⟨#[101,116]⟩,.string ⟨#[107,110]⟩,.string ⟨#[107,116]⟩,.string ⟨#[101]⟩]
def hasB(k c:Int):Bool:=eF (am7.getD k.toNat ⟨#[]⟩) c
def qf{k:Int}(h:1<=k/\k<=15):hasB k 114=decide (k=1\/k=2\/k=4)/\hasB k 107=decide (k=13\/k=14)/\hasB k 99=decide (k=2\/k=3\/k=4)/\hasB k 108=decide (k=5\/k=6)/\hasB k 109=decide (k=9\/k=10)/\hasB k 110=decide (k=13)/\hasB k 101=vi k/\hasB k 102=decide (k=4)/\hasB k 116=decide (k=11\/k=12\/k=14):=by
 obtain rfl|rfl|rfl|rfl|rfl|rfl|rfl|rfl|rfl|rfl|rfl|rfl|rfl|rfl|rfl:k=1\/k=2\/k=3\/k=4\/k=5\/k=6\/k=7\/k=8\/k=9\/k=10\/k=11\/k=12\/k=13\/k=14\/k=15:=cU
 all_goals decide
def Ss(l:List aU)(i:Nat):Bool:=match l[i]? with|some x=>decide (x.kind=14)|none=>false
def qg(l:List aU)(k:Nat):List Int:=((qi k).filter (Ss l)).map (fun (n:Nat)=>(n:Int))
def Lt(l:List aU)(k:Nat):(qg l k).length<=k:=by
 unfold qg
 rw[oi]
 have:=List.length_filter_le (Ss l) (qi k)
 rw[List.length_range]at this;exact this
theorem acx{l:List aU}{k:Nat}{x:aU}(h:l[k]?=some x)(B:¬ x.kind=14):qg l k=qg l (k+1):=by
 have:Ss l k=false:=by unfold Ss;rw[h];exact gk B
 unfold qg;rw[B8,JC,List.filter_cons_of_neg (by rw[this];decide),abE,List.append_nil]
theorem Yx{l:List aU}{k:Nat}{x:aU}(h:l[k]?=some x)(B:x.kind=14):qg l k++[(k:Int)]=qg l (k+1):=by
 have:Ss l k=true:=by unfold Ss;rw[h];exact fY B
 unfold qg;rw[B8,JC,List.filter_cons_of_pos this,abE,vB];rfl
theorem Yy{l:List aU}{k:Nat}{e:Int}(h:e∈qg l k):∃j:Nat,e=j/\j<k/\∃y,l[j]?=some y/\y.kind=14:=by
 unfold qg at h
 obtain⟨j,B,rfl⟩:=pB.1 h
 obtain⟨h1,h2⟩:=ND.1 B
 refine⟨j,rfl,Ie.1 h1,?_⟩
 unfold Ss at h2
 cases hy:l[j]? with
 | none=>rw[hy]at h2;cases h2
 | some y=>rw[hy]at h2;exact⟨y,rfl,hG h2⟩
theorem acy{l:List aU}{k:Nat}{x:aU}(h:∀e∈qg l k,xR l x e.toNat=false):(qi k).any (xR l x)=false:=by
 refine rK λj E=>?_
 cases hy:l[j]? with
 | none=>unfold xR;rw[hy]
 | some y=>
  by_cases B:y.kind=14
  .exact h (j:Int) (pB.2 ⟨j,ND.2 ⟨Ie.2 E,by unfold Ss;rw[hy];exact fY B⟩,rfl⟩)
  .rw[Dj hy,gk B];rfl
def akG(l:List aU):Prop:=∀(i:Nat) (x:aU),l[i]?=some x->x.kind=14->1<=x.to/\x.to<=i
def List.fX{α:Type}{l B:List α}{f g:α->Bool}(h:l=B)(h2:∀x,f x=g x):l.any f=B.any g:=by subst h;rw[funext h2]
def C238(w:World):CR 238 [] w (λv w'=>v=.agg am8/\Ext w w'):=by
 have B:=St.start w;refine fD Tryz.func238 ?_;exact aJ B agS (λ_ _ B=>pop (nw _ _ _ _ _ _ _ _ _ _ _ _ _) (ry B aj1 rfl er (by simp[sg,iV]) λ_ B=>tz aj1 B.hb rfl ⟨rfl,B.drop.aG⟩))
def C239(p:Bool)(n many:Int)(w:World):CR 239 [.bool p,iE n,iE many] w (λv w'=>v=.bool (if p=true then QG n many else decide (n=0))/\Ext w w'):=by
 have B:=St.start w;refine fD Tryz.func239 ?_;refine bJ (aX (λE=>?_) λE=>⟨λG w'=>G=.bool (QG n many)/\St w bE [] w',dC (aC (λ_=>aV ⟨vb (by unfold QG;grind),B⟩) λ_=>⟨vb (by unfold QG;grind),B⟩),?_⟩)
 .refine aI ?_;refine⟨vb ?_,B.aG⟩
  grind
 rintro _ _ ⟨rfl,B⟩ _;refine⟨vb ?_,B.aG⟩
 grind
def C306(O:Value)(xs:List UInt8)(c:Int)(w:World)(J:dP (λ_=>True) w O xs)(W:xs.length<=1048576):CR 306 [O,.int .u8 c] w (λv w'=>v=iE (pY (λy=>decide (c=(y.toNat:Int))) xs)/\Ext w w'):=by
 have B:=St.start w;refine fD Tryz.func306 ?_;refine aK aj0 (J.ext B.aG) ?_;refine⟨λm x M=>∃k:Nat,x=iE (k:Int)/\m=xs.length-k/\k<=xs.length/\(∀y∈xs.take k,decide (c=(y.toNat:Int))=false)/\St w bE [] M,⟨_,0,rfl,rfl,ob _,et,B⟩,?_⟩;rintro m _ M ⟨k,rfl,rfl,Y,E,B⟩ _;refine aV (aC (λV=>?_) λ_=>⟨gD (n5 .i64) (gJ (by rw[mH cU]at E;exact E)).symm,B.aG⟩);obtain⟨Z,G⟩:=gx xs (i:=(k:Int).toNat) cU;exact aW aj0 J cU G (λ_ U=>aE ty5 (U.ext B.aG) (oE (aC (λI=>⟨gD (n5 .i64) (jT E G (fY I)).symm,B.aG⟩) λI=>aR cU ⟨_,cU,k+1,rfl,rfl,cU,fg E G (gk I),B⟩)))
def C237(E:Value)(xs:List UInt8)(c:Int)(w:World)(G:dP (λ_=>True) w E xs)(I:xs.length<=1048576):CR 237 [E,.int .u8 c] w (λv w'=>v=.bool (xs.any λy=>decide (c=(y.toNat:Int)))/\Ext w w'):=by
 have B:=St.start w;refine fD Tryz.func237 ?_;exact aY arD B (C306 _ _ _ _ (G.ext B.aG) cU) (λ_ _ B=>dC ⟨vb (iJ _ _),B.aG⟩)
def C236(k c:Int)(b1:Nat)(Q:Bool)(w:World)(hc:Cell w b1 0 (iE k))(O:1<=k/\k<=15)(G:hasB k c=Q):CR 236 [.int .u8 c,.pointer (some ⟨b1,0,none⟩)] w (λv w'=>v=.bool Q/\Ext w w'):=by
 have B:=St.start w;refine pG Tryz.func236 (pl:=azW) ?_;refine aA kQ (have B:=B.drew;bN bL (hc.ext B.aG) (aY arh B (C238 _) λ_ E B=>?_));refine⟨aF bL (hc.ext B.aG),?_⟩;obtain rfl|rfl|rfl|rfl|rfl|rfl|rfl|rfl|rfl|rfl|rfl|rfl|rfl|rfl|rfl:k=1\/k=2\/k=3\/k=4\/k=5\/k=6\/k=7\/k=8\/k=9\/k=10\/k=11\/k=12\/k=13\/k=14\/k=15:=cU
 .refine pop (v:=.string ⟨#[114,101]⟩) (by kernel_rfl) (jc B gL Tryz.underlying326 A6 λJ I B=>aY tn B (C237 _ _ _ _ B.ep (by rw[eu];decide)) λM E B=>?_);have B:=B.drop;refine⟨vb ?_,B.aG⟩;rw[<- G];unfold hasB eF;exact List.fX rfl (λ_=>gv.2 eq_comm)
 .refine pop (v:=.string ⟨#[114,99]⟩) (by kernel_rfl) (jc B gL Tryz.underlying326 A6 λJ I B=>aY tn B (C237 _ _ _ _ B.ep (by rw[eu];decide)) λM E B=>?_);have B:=B.drop;refine⟨vb ?_,B.aG⟩;rw[<- G];unfold hasB eF;exact List.fX rfl (λ_=>gv.2 eq_comm)
 .refine pop (v:=.string ⟨#[99,101]⟩) (by kernel_rfl) (jc B gL Tryz.underlying326 A6 λJ I B=>aY tn B (C237 _ _ _ _ B.ep (by rw[eu];decide)) λM E B=>?_);have B:=B.drop;refine⟨vb ?_,B.aG⟩;rw[<- G];unfold hasB eF;exact List.fX rfl (λ_=>gv.2 eq_comm)
 .refine pop (v:=.string ⟨#[114,99,101,102]⟩) (by kernel_rfl) (jc B gL Tryz.underlying326 A6 λJ I B=>aY tn B (C237 _ _ _ _ B.ep (by rw[eu];decide)) λM E B=>?_);have B:=B.drop;refine⟨vb ?_,B.aG⟩;rw[<- G];unfold hasB eF;exact List.fX rfl (λ_=>gv.2 eq_comm)
 .refine pop (v:=.string ⟨#[108]⟩) (by kernel_rfl) (jc B gL Tryz.underlying326 A6 λJ I B=>aY tn B (C237 _ _ _ _ B.ep (by rw[eu];decide)) λM E B=>?_);have B:=B.drop;refine⟨vb ?_,B.aG⟩;rw[<- G];unfold hasB eF;exact List.fX rfl (λ_=>gv.2 eq_comm)
 .refine pop (v:=.string ⟨#[108]⟩) (by kernel_rfl) (jc B gL Tryz.underlying326 A6 λJ I B=>aY tn B (C237 _ _ _ _ B.ep (by rw[eu];decide)) λM E B=>?_);have B:=B.drop;refine⟨vb ?_,B.aG⟩;rw[<- G];unfold hasB eF;exact List.fX rfl (λ_=>gv.2 eq_comm)
 .refine pop (v:=.string ⟨#[]⟩) (by kernel_rfl) (jc B gL Tryz.underlying326 A6 λJ I B=>aY tn B (C237 _ _ _ _ B.ep (by rw[eu];decide)) λM E B=>?_);have B:=B.drop;refine⟨vb ?_,B.aG⟩;rw[<- G];unfold hasB eF;exact List.fX rfl (λ_=>gv.2 eq_comm)
 .refine pop (v:=.string ⟨#[]⟩) (by kernel_rfl) (jc B gL Tryz.underlying326 A6 λJ I B=>aY tn B (C237 _ _ _ _ B.ep (by rw[eu];decide)) λM E B=>?_);have B:=B.drop;refine⟨vb ?_,B.aG⟩;rw[<- G];unfold hasB eF;exact List.fX rfl (λ_=>gv.2 eq_comm)
 .refine pop (v:=.string ⟨#[109]⟩) (by kernel_rfl) (jc B gL Tryz.underlying326 A6 λJ I B=>aY tn B (C237 _ _ _ _ B.ep (by rw[eu];decide)) λM E B=>?_);have B:=B.drop;refine⟨vb ?_,B.aG⟩;rw[<- G];unfold hasB eF;exact List.fX rfl (λ_=>gv.2 eq_comm)
 .refine pop (v:=.string ⟨#[109]⟩) (by kernel_rfl) (jc B gL Tryz.underlying326 A6 λJ I B=>aY tn B (C237 _ _ _ _ B.ep (by rw[eu];decide)) λM E B=>?_);have B:=B.drop;refine⟨vb ?_,B.aG⟩;rw[<- G];unfold hasB eF;exact List.fX rfl (λ_=>gv.2 eq_comm)
 .refine pop (v:=.string ⟨#[116]⟩) (by kernel_rfl) (jc B gL Tryz.underlying326 A6 λJ I B=>aY tn B (C237 _ _ _ _ B.ep (by rw[eu];decide)) λM E B=>?_);have B:=B.drop;refine⟨vb ?_,B.aG⟩;rw[<- G];unfold hasB eF;exact List.fX rfl (λ_=>gv.2 eq_comm)
 .refine pop (v:=.string ⟨#[101,116]⟩) (by kernel_rfl) (jc B gL Tryz.underlying326 A6 λJ I B=>aY tn B (C237 _ _ _ _ B.ep (by rw[eu];decide)) λM E B=>?_);have B:=B.drop;refine⟨vb ?_,B.aG⟩;rw[<- G];unfold hasB eF;exact List.fX rfl (λ_=>gv.2 eq_comm)
 .refine pop (v:=.string ⟨#[107,110]⟩) (by kernel_rfl) (jc B gL Tryz.underlying326 A6 λJ I B=>aY tn B (C237 _ _ _ _ B.ep (by rw[eu];decide)) λM E B=>?_);have B:=B.drop;refine⟨vb ?_,B.aG⟩;rw[<- G];unfold hasB eF;exact List.fX rfl (λ_=>gv.2 eq_comm)
 .refine pop (v:=.string ⟨#[107,116]⟩) (by kernel_rfl) (jc B gL Tryz.underlying326 A6 λJ I B=>aY tn B (C237 _ _ _ _ B.ep (by rw[eu];decide)) λM E B=>?_);have B:=B.drop;refine⟨vb ?_,B.aG⟩;rw[<- G];unfold hasB eF;exact List.fX rfl (λ_=>gv.2 eq_comm)
 refine pop (v:=.string ⟨#[101]⟩) (by kernel_rfl) (jc B gL Tryz.underlying326 A6 λJ I B=>aY tn B (C237 _ _ _ _ B.ep (by rw[eu];decide)) λM E B=>?_);have B:=B.drop;refine⟨vb ?_,B.aG⟩;rw[<- G];unfold hasB eF;exact List.fX rfl (λ_=>gv.2 eq_comm)
def C245(O fv:Value)(xs:List Int)(g:Int->Bool)(w:World)(M:dP (λ_=>True) w O xs)(V:vG w fv g)(hn:xs.length<=1073741824):CR 245 [O,fv] w (λv w'=>v=iE (pY g xs)/\Ext w w'):=by
 obtain⟨g0,first,cap,rfl,U,W⟩:=V;have B:=St.start w;refine fD Tryz.func245 ?_;refine aK dZ (M.ext B.aG) ?_;refine⟨λm x I=>∃k:Nat,x=iE (k:Int)/\m=xs.length-k/\k<=xs.length/\(∀y∈xs.take k,g y=false)/\St w bE [] I,⟨_,0,rfl,rfl,ob _,et,B⟩,?_⟩;rintro m _ I ⟨k,rfl,rfl,hk,E,B⟩ _;refine aV (aC (λlR=>?_) λ_=>⟨gD (n5 .i64) (gJ (by rw[mH cU]at E;exact E)).symm,B.aG⟩);obtain⟨Y,G⟩:=gx xs (i:=(k:Int).toNat) cU;refine aW dZ M cU G (λ_ Z=>aE bL (Z.ext B.aG) (fm U (W Y I B.aG) ?_))
 rintro _ _ ⟨rfl,he⟩;have B:=B.ext he;exact aX (λJ=>⟨gD (n5 .i64) (jT E G J).symm,B.aG⟩) (λJ=>aR cU ⟨_,cU,k+1,rfl,rfl,cU,fg E G J,B⟩)
def C246(sv fv:Value)(xs:List gz)(φ:gz->Prop)(g:gz->Bool)(w:World)(hL:DL w sv xs)(hf:lr hZ w fv φ g)(hφ:∀x∈xs,φ x)(hn:xs.length<=1073741824):CR 246 [sv,fv] w (λv w'=>v=iE (pY g xs)/\Ext w w'):=by
 obtain⟨g0,first,cap,rfl,mM,g9⟩:=hf;have B:=St.start w;refine fD Tryz.func246 ?_;obtain⟨M,G,E⟩:=hL.open;have Z:=E.1;refine aK ED (G.ext B.aG) ?_;refine⟨λm x U=>∃k:Nat,x=iE (k:Int)/\m=xs.length-k/\k<=xs.length/\(∀y∈xs.take k,g y=false)/\St w bE [] U,⟨_,0,rfl,rfl,ob _,et,B⟩,?_⟩;rintro m _ U ⟨k,rfl,rfl,hk,I,B⟩ _;refine aV (aC (λlR=>?_) λ_=>⟨gD (n5 .i64) (gJ (by rw[mH cU]at I;exact I)).symm,B.aG⟩);obtain⟨jz,Y⟩:=gx M (i:=(k:Int).toNat) cU;obtain⟨rL,J⟩:=gx xs (i:=(k:Int).toNat) cU
 obtain⟨O,rfl,V⟩:=E.2 _ _ _ Y J;refine aW ED G cU Y (λ_ gC=>aE si (gC.ext B.aG) (fm mM (g9 _ rL U B.aG ⟨O,rfl,(V.ext B.aG)⟩ (hφ _ (ml J))) ?_));rintro _ _ ⟨rfl,he⟩;have B:=B.ext he;exact aX (λW=>⟨gD (n5 .i64) (jT I J W).symm,B.aG⟩) (λW=>aR cU ⟨_,cU,k+1,rfl,rfl,cU,fg I J W,B⟩)
def C247(sv fv:Value)(xs:List (List nW))(φ:(List nW)->Prop)(g:(List nW)->Bool)(w:World)(hL:DL w sv xs)(hf:lr hZ w fv φ g)(hφ:∀x∈xs,φ x)(hn:xs.length<=1073741824):CR 247 [sv,fv] w (λv w'=>v=iE (pY g xs)/\Ext w w'):=by
 obtain⟨g0,first,cap,rfl,mM,g9⟩:=hf;have B:=St.start w;refine fD Tryz.func247 ?_;obtain⟨M,G,E⟩:=hL.open;have Y:=E.1;refine aK Kj (G.ext B.aG) ?_;refine⟨λm x U=>∃k:Nat,x=iE (k:Int)/\m=xs.length-k/\k<=xs.length/\(∀y∈xs.take k,g y=false)/\St w bE [] U,⟨_,0,rfl,rfl,ob _,et,B⟩,?_⟩;rintro m _ U ⟨k,rfl,rfl,hk,I,B⟩ _;refine aV (aC (λlR=>?_) λ_=>⟨gD (n5 .i64) (gJ (by rw[mH cU]at I;exact I)).symm,B.aG⟩);obtain⟨jz,W⟩:=gx M (i:=(k:Int).toNat) cU;obtain⟨rL,J⟩:=gx xs (i:=(k:Int).toNat) cU
 have Z:DL w (jj jz) rL:=E.2 _ _ _ W J;refine aW Kj G cU W (λ_ gC=>aE sE (gC.ext B.aG) ?_);have O:=DL.flat Z;refine fm mM (g9 _ rL U B.aG (Z.ext B.aG) (hφ _ (ml J))) ?_;rintro _ _ ⟨rfl,he⟩;have B:=B.ext he;exact aX (λV=>⟨gD (n5 .i64) (jT I J V).symm,B.aG⟩) (λV=>aR cU ⟨_,cU,k+1,rfl,rfl,cU,fg I J V,B⟩)
def C349(Y fv:Value)(xs:List aU)(φ:aU->Prop)(g:aU->Bool)(w:World)(Z:DL w Y xs)(hf:lr hZ w fv φ g)(hφ:∀x∈xs,φ x)(hn:xs.length<=1073741824):CR 349 [Y,fv] w (λv w'=>v=iE (pY g xs)/\Ext w w'):=by
 obtain⟨g0,first,cap,rfl,mM,g9⟩:=hf;have B:=St.start w;refine fD Tryz.func349 ?_;obtain⟨M,E,G⟩:=Z.open;have U:=G.1;refine aK pE (E.ext B.aG) ?_;refine⟨λm x O=>∃k:Nat,x=iE (k:Int)/\m=xs.length-k/\k<=xs.length/\(∀y∈xs.take k,g y=false)/\St w bE [] O,⟨_,0,rfl,rfl,ob _,et,B⟩,?_⟩;rintro m _ O ⟨k,rfl,rfl,hk,I,B⟩ _;refine aV (aC (λlR=>?_) λ_=>⟨gD (n5 .i64) (gJ (by rw[mH cU]at I;exact I)).symm,B.aG⟩);obtain⟨jz,W⟩:=gx M (i:=(k:Int).toNat) cU;obtain⟨rL,J⟩:=gx xs (i:=(k:Int).toNat) cU
 obtain⟨Dk,Nm,rfl,Dl,Nn⟩:=G.2 _ _ _ W J;refine aW pE E cU W (λ_ gC=>aE ie (gC.ext B.aG) (fm mM (g9 _ rL O B.aG ⟨Dk,Nm,rfl,(Dl.ext B.aG),(Nn.ext B.aG)⟩ (hφ _ (ml J))) ?_));rintro _ _ ⟨rfl,he⟩;have B:=B.ext he;exact aX (λV=>⟨gD (n5 .i64) (jT I J V).symm,B.aG⟩) (λV=>aR cU ⟨_,cU,k+1,rfl,rfl,cU,fg I J V,B⟩)
def C137(E fv:Value)(xs:List Int)(g:Int->Bool)(w:World)(G:dP (λ_=>True) w E xs)(I:vG w fv g)(J:xs.length<=1073741824):CR 137 [E,fv] w (λv w'=>v=.bool (xs.any g)/\Ext w w'):=by
 have B:=St.start w;refine fD Tryz.func137 ?_;exact aY aro B (C245 _ _ _ _ _ (G.ext B.aG) (I.ext B.aG) cU) (λ_ _ B=>dC ⟨vb (iJ _ _),B.aG⟩)
def C138(E fv:Value)(xs:List gz)(φ:gz->Prop)(g:gz->Bool)(w:World)(G:DL w E xs)(J:lr hZ w fv φ g)(I:∀x∈xs,φ x)(M:xs.length<=1073741824):CR 138 [E,fv] w (λv w'=>v=.bool (xs.any g)/\Ext w w'):=by
 have B:=St.start w;refine fD Tryz.func138 ?_;exact aY arp B (C246 _ _ _ _ _ _ (G.ext B.aG) (J.ext B.aG) I cU) (λ_ _ B=>dC ⟨vb (iJ _ _),B.aG⟩)
def C139(E fv:Value)(xs:List (List nW))(φ:(List nW)->Prop)(g:(List nW)->Bool)(w:World)(G:DL w E xs)(J:lr hZ w fv φ g)(I:∀x∈xs,φ x)(M:xs.length<=1073741824):CR 139 [E,fv] w (λv w'=>v=.bool (xs.any g)/\Ext w w'):=by
 have B:=St.start w;refine fD Tryz.func139 ?_;exact aY arq B (C247 _ _ _ _ _ _ (G.ext B.aG) (J.ext B.aG) I cU) (λ_ _ B=>dC ⟨vb (iJ _ _),B.aG⟩)
def C307(E fv:Value)(xs:List aU)(φ:aU->Prop)(g:aU->Bool)(w:World)(G:DL w E xs)(J:lr hZ w fv φ g)(I:∀x∈xs,φ x)(M:xs.length<=1073741824):CR 307 [E,fv] w (λv w'=>v=.bool (xs.any g)/\Ext w w'):=by
 have B:=St.start w;refine fD Tryz.func307 ?_;exact aY ar2 B (C349 _ _ _ _ _ _ (G.ext B.aG) (J.ext B.aG) I cU) (λ_ _ B=>dC ⟨vb (iJ _ _),B.aG⟩)
theorem acz(x:bD)(loops:Int):loops+PJ (decide (x.kind=12))=Bk.G3 x loops:=by
 unfold Bk.G3 PJ
 grind
def at2(b:Bool):0<=PJ b/\PJ b<=1:=by cases b<;>decide
def C359(V fv:Value)(xs:List bD)(φ:bD->Prop)(g:bD->Bool)(w:World)(W:DL w V xs)(hf:lr hZ w fv φ g)(hφ:∀x∈xs,φ x)(hn:xs.length<=1073741824):CR 359 [V,fv] w (λv w'=>v=iE (pY g xs)/\Ext w w'):=by
 obtain⟨g0,first,cap,rfl,Z,g9⟩:=hf;have B:=St.start w;refine fD Tryz.func359 ?_;obtain⟨z6,G,E⟩:=(W).open;have hn3:=E.1;refine aK gX (G.ext B.aG) ?_;refine⟨λm x M=>∃k:Nat,x=iE (k:Int)/\m=xs.length-k/\k<=xs.length/\(∀y∈xs.take k,g y=false)/\St w bE [] M,⟨_,0,rfl,rfl,ob _,et,B⟩,?_⟩;rintro m _ M ⟨k,rfl,rfl,hk,I,B⟩ _;refine aV (aC (λlR=>?_) λ_=>⟨gD (n5 .i64) (gJ (by rw[mH cU]at I;exact I)).symm,B.aG⟩);obtain⟨jz,U⟩:=gx z6 (i:=(k:Int).toNat) cU;obtain⟨rL,J⟩:=gx xs (i:=(k:Int).toNat) cU
 obtain⟨Dk,Y,rfl,Dl,Nn⟩:=E.2 _ _ _ U J;refine aW gX G cU U (λ_ gC=>aE fh (gC.ext B.aG) (fm Z (g9 _ rL M B.aG ⟨Dk,Y,rfl,(Dl.ext B.aG),(Nn.ext B.aG)⟩ (hφ _ (ml J))) ?_));rintro _ _ ⟨rfl,he⟩;have B:=B.ext he;exact aX (λO=>⟨gD (n5 .i64) (jT I J O).symm,B.aG⟩) (λO=>aR cU ⟨_,cU,k+1,rfl,rfl,cU,fg I J O,B⟩)
def C346(E fv:Value)(xs:List bD)(φ:bD->Prop)(g:bD->Bool)(w:World)(G:DL w E xs)(J:lr hZ w fv φ g)(I:∀x∈xs,φ x)(M:xs.length<=1073741824):CR 346 [E,fv] w (λv w'=>v=.bool (xs.any g)/\Ext w w'):=by
 have B:=St.start w;refine fD Tryz.func346 ?_;exact aY atf B (C359 _ _ _ _ _ _ (G.ext B.aG) (J.ext B.aG) I cU) (λ_ _ B=>dC ⟨vb (iJ _ _),B.aG⟩)
theorem C348(lv:Value)(xs:List bD)(loops:Int)(N:Nat)(w:World)(hL:DL w lv xs)(hn:xs.length<=40)(hlo:0<=loops)(Su:loops+N<=4194304)(hN:xs.length<N):CR 348 [lv,iE loops] w (λv w'=>v=iE (ij xs loops)/\Ext w w'):=by
 have G:=St.start w;refine ahs _ _ _ _ ?_;unfold S348;refine⟨λm y x w1=>∃(k:Nat) (n:Int),y=iE n/\x=iE (k:Int)/\m=xs.length-k/\k<=xs.length/\0<=n/\n<=41/\ij xs loops=zP n (ij (xs.drop k) loops)/\St w bE [] w1,⟨_,0,0,rfl,rfl,rfl,cU,cU,cU,by have:=C9 xs loops;rw[ab3];unfold zP;split<;>omega,G⟩,?_⟩;rintro m _ _ w1 ⟨k,n,rfl,rfl,rfl,hk,hn0,hn1,hinv,G⟩ _;obtain⟨Eg,J,M⟩:=hL.open;have hn4:=M.1;refine aK gX (J.ext G.aG) (aV (aC (λdK=>?_) λdK=>?_))
 .obtain⟨jN,fQ⟩:=gx Eg (i:=(k:Int).toNat) cU;obtain⟨E,qP⟩:=gx xs (i:=(k:Int).toNat) cU;obtain⟨V,O,rfl,Wg,Wh⟩:=M.2 _ _ _ fQ qP;refine aW gX J cU fQ (λ_ kW=>?_);have hdk:=drop_cons (xs:=xs) (k:=k) qP;rw[hdk]at hinv;have hdl:(xs.drop (k+1)).length=xs.length-(k+1):=tx;refine aE fh (kW.ext G.aG) (aJ G kS λY _ G=>have G:=G.enc (cs':=jl (⟨0,(jY #[]),(jY #[]),bO,bO,0,0,0,0⟩:bF)) rfl;aH (x:=(⟨E.kind,E.eY,E.name,V,O,E.n,E.body,E.eR,E.at_⟩:bF)) G fh rfl rfl λ_ G=>aR cU (aA nt (aB (v:=iE E.body) bL G.hb rfl (zD ?_))))
  obtain⟨W1,hW1⟩:∃W,W=sd (((k:Int)+1)+E.body):=⟨_,rfl⟩;rw[<- hW1];refine aA pQ (aB (v:=iE E.eR) bL G.hb rfl (zD ?_));obtain⟨U,Z⟩:∃W,W=sd (W1+E.eR):=⟨_,rfl⟩;rw[<- Z];refine⟨λI w'=>I=.bool (Bk.zO E)/\St w bE [bU Y (jl (⟨E.kind,E.eY,E.name,V,O,E.n,E.body,E.eR,E.at_⟩:bF))] w',aA iy (aB (v:=iE E.kind) bL G.hb rfl (aI (aC (λ_=>⟨vb (by unfold Bk.zO;grind),G⟩) λ_=>aA iy (aB (v:=iE E.kind) bL G.hb rfl (aI ⟨vb (by unfold Bk.zO;grind),G⟩))))),?_⟩
  rintro _ _ ⟨rfl,G⟩ _;refine⟨λI w'=>I=.bool (decide (E.body<0\/E.eR<0\/(xs.length:Int)<E.body\/(xs.length:Int)<E.eR\/(xs.length:Int)<U))/\St w bE [bU Y (jl (⟨E.kind,E.eY,E.name,V,O,E.n,E.body,E.eR,E.at_⟩:bF))] w',aA nt (aB (v:=iE E.body) bL G.hb rfl (aV (aC (λ_=>⟨vb dH,G⟩) λDm=>?_))),?_⟩
  .refine aA pQ (aB (v:=iE E.eR) bL G.hb rfl (aV ?_));exact aC (λ_=>⟨vb dH,G⟩) (λ_=>aA nt (aB (v:=iE E.body) bL G.hb rfl (aK gX (J.ext G.aG) (eh (aC (λ_=>⟨vb dH,G⟩) λ_=>aA pQ (aB (v:=iE E.eR) bL G.hb rfl (aK gX (J.ext G.aG) (eh (aC (λ_=>⟨vb dH,G⟩) λ_=>aK gX (J.ext G.aG) (eh ⟨vb dH,G⟩))))))))))
  rintro _ _ ⟨rfl,G⟩ _;refine aX (λwN=>?_) (λwN=>?_)
  .have hW:0<=E.body/\E.body<=40/\0<=E.eR/\E.eR<=40->U=(k:Int)+1+E.body+E.eR:=λh=>by
    have h1:W1=(k:Int)+1+E.body:=by rw[hW1];exact HZ cU
    rw[Z,HZ cU];omega
   exact⟨gD (n5 .i64) (abx hinv (by unfold Da;grind)).symm,G.drop.aG⟩
  have hq:=hM wN
  have hW:U=(k:Int)+1+E.body+E.eR:=by
   have h1:W1=(k:Int)+1+E.body:=by rw[hW1];exact HZ cU
   rw[Z,HZ cU];omega
  have mr:Da E (xs.drop (k+1)):=by unfold Da;omega
  refine⟨λI w'=>I=.bool (!Bk.Ko E loops)/\St w bE [bU Y (jl (⟨E.kind,E.eY,E.name,V,O,E.n,E.body,E.eR,E.at_⟩:bF))] w',⟨λI w'=>I=.bool (!Bk.zO E&&decide (0<E.body))/\St w bE [bU Y (jl (⟨E.kind,E.eY,E.name,V,O,E.n,E.body,E.eR,E.at_⟩:bF))] w',bJ (aX (λ_=>aA nt (aB (v:=iE E.body) bL G.hb rfl (eh ⟨vb dH,G⟩))) λ_=>⟨vb dH,G⟩),?_⟩,?_⟩
  .rintro _ _ ⟨rfl,G⟩ _;refine aX (λ_=>⟨vb (by unfold Bk.Ko;unfold Bk.zO at *;grind),G⟩) (λc_x66=>⟨λI w'=>I=.bool (decide (¬ E.kind=11/\0<E.eR))/\St w bE [bU Y (jl (⟨E.kind,E.eY,E.name,V,O,E.n,E.body,E.eR,E.at_⟩:bF))] w',aA iy (aB (v:=iE E.kind) bL G.hb rfl (cN (aC (λ_=>aA pQ (aB (v:=iE E.eR) bL G.hb rfl (eh ⟨vb dH,G⟩))) λ_=>⟨vb dH,G⟩))),?_⟩);rintro _ _ ⟨rfl,G⟩ _;exact aX (λ_=>⟨vb (by unfold Bk.Ko;unfold Bk.zO at *;grind),G⟩) (λ_=>aA iy (aB (v:=iE E.kind) bL G.hb rfl (aI (aC (λ_=>aI ⟨vb (by unfold Bk.Ko;unfold Bk.zO at *;grind),G⟩) λ_=>⟨vb (by unfold Bk.Ko;unfold Bk.zO at *;grind),G⟩))))
  rintro _ _ ⟨rfl,G⟩ _;refine aX (λ_=>⟨gD (n5 .i64) (abx hinv dH).symm,G.drop.aG⟩) (λax3=>?_);have kx:Bk.Ko E loops=true:=dH
  have aA7:=mr;unfold Da at aA7;refine⟨λI w'=>∃n':Int,I=iE n'/\0<=n'/\n'<=41/\ij xs loops=zP n' (ij (xs.drop (k+1+(E.body.toNat+E.eR.toNat))) loops)/\St w bE [bU Y (jl (⟨E.kind,E.eY,E.name,V,O,E.n,E.body,E.eR,E.at_⟩:bF))] w',aX (λE1=>?_) (λE1=>?_),?_⟩
  .have hb01:=acz E loops;have hbb:=at2 (decide (E.kind=12));have hcA:((xs.take (((k:Int)+1)+E.body).toNat).drop ((k:Int)+1).toNat)=(xs.drop (k+1)).take E.body.toNat:=BU xs cU cU;have hcB:((xs.take U.toNat).drop (((k:Int)+1)+E.body).toNat)=((xs.drop (k+1)).drop E.body.toNat).take E.eR.toNat:=by rw[uL];exact BU xs cU cU
   have hlA:((xs.take (((k:Int)+1)+E.body).toNat).drop ((k:Int)+1).toNat).length<=xs.length-1/\((xs.take (((k:Int)+1)+E.body).toNat).drop ((k:Int)+1).toNat).length<=40:=by rw[hcA,n0];omega
   have hlB:((xs.take U.toNat).drop (((k:Int)+1)+E.body).toNat).length<=xs.length-1/\((xs.take U.toNat).drop (((k:Int)+1)+E.body).toNat).length<=40:=by rw[hcB,n0,tx];omega
   refine aA iy (aB (v:=iE E.kind) bL G.hb rfl (aI (aY aaG G (C255 _ _) λ_ he G=>aR cU (aR cU (aR cU (aA nt (have G:=G.drew;aB (v:=iE E.body) bL G.hb rfl (aR cU (qL gX (J.ext G.aG) cU cU cU λaA8 ahG=>?_)))))))));have ahH:=DL.cut ahG J M;refine aR cU (aA nt (aB (v:=iE E.body) bL G.hb rfl (aR cU (qL gX (J.ext G.aG) cU cU cU λaA9 ahI=>?_))));have ahJ:=DL.cut ahI J M
   refine aY abZ G (C348 _ _ _ (N-1) _ (ahH.ext G.aG) cU cU cU cU) (λ_ he G=>?_);refine⟨aF bL (G.hb.cell rfl),?_⟩;refine eC abZ (C348 _ _ _ (N-1) _ (ahJ.ext G.aG) cU cU cU cU) ?_;rintro _ _ ⟨rfl,he⟩;have G:=G.ext he;obtain⟨A,hA⟩:∃A,A=ij ((xs.take (((k:Int)+1)+E.body).toNat).drop ((k:Int)+1).toNat) (Bk.G3 E loops):=⟨_,rfl⟩;obtain⟨B,hB⟩:∃B,B=ij ((xs.take U.toNat).drop (((k:Int)+1)+E.body).toNat) (Bk.G3 E loops):=⟨_,rfl⟩;have hAb:=C9 ((xs.take (((k:Int)+1)+E.body).toNat).drop ((k:Int)+1).toNat) (Bk.G3 E loops)
   have hBb:=C9 ((xs.take U.toNat).drop (((k:Int)+1)+E.body).toNat) (Bk.G3 E loops);rw[<- hA]at hAb;rw[<- hB]at hBb;rw[acz,<- hA,<- hB];have hdb:=amL hinv mr kx E1 A B (by rw[hA,hcA]) (by rw[hB,hcB]);refine⟨λI w'=>I=.bool (decide (A<0\/B<0))/\St w bE [bU Y (jl (⟨E.kind,E.eY,E.name,V,O,E.n,E.body,E.eR,E.at_⟩:bF))] w',aI (aC (λ_=>⟨vb dH,G⟩) λ_=>aI ⟨vb dH,G⟩),?_⟩;rintro _ _ ⟨rfl,G⟩ _;refine aX (λIU=>⟨gD (n5 .i64) (hdb.1 (hG IU)).symm,G.drop.aG⟩) (λIU=>aR cU (aR cU (abg ?_)))
   have at4:=hdb.2 (hM IU);rw[uL,acH 1 A,acH 1 B]at at4;exact⟨_,rfl,cU,cU,at4,G⟩
  .have hdn:=asC hinv mr kx E1;rw[uL]at hdn;exact⟨_,rfl,hn0,hn1,hdn,G⟩
  rintro _ _ ⟨n',rfl,aBb,aBc,at5,G⟩ _;exact⟨_,cU,k+1+(E.body.toNat+E.eR.toNat),n',rfl,gD (n5 .i64) cU,rfl,cU,aBb,aBc,at5,G.drop⟩
 rw[xr cU,Lh]at hinv;exact⟨gD (n5 .i64) (by rw[hinv];unfold zP;omega),G.aG⟩
termination_by N
decreasing_by all_goals omega
theorem QK(xs:List bD):xN xs=(!(decide (40<xs.length)||xs.any λy=>!sH y)&&decide (¬ ij xs 0 = -1/\ij xs 0<=12)):=by
 have:=C9 xs 0
 grind[xN,sH,ij]
def C297(lv:Value)(xs:List bD)(w:World)(E:DL w lv xs)(hn:xs.length<=1048576)(hz:∀x∈xs,x.e.length<=1048576/\x.f.length<=1048576):CR 297 [lv] w (λv w'=>v=.bool (xN xs)/\Ext w w'):=by
 have B:=St.start w;refine fD Tryz.func297 ?_;refine⟨λM w'=>M=.bool (decide (40<xs.length)||xs.any λy=>!sH y)/\St w bE [] w',?_,?_⟩
 .obtain⟨V,G,J⟩:=E.open;have G6:=J.1;exact aK gX (G.ext B.aG) (eh (aC (λ_=>⟨vb dH,B⟩) λ_=>aY ate B (C346 _ _ _ (λx=>x.e.length<=1048576/\x.f.length<=1048576) _ _ (E.ext B.aG) ⟨347,[],[],rfl,as5,λZ y W _ U O=>C347 y Z W U O.1 O.2⟩ hz cU) λ_ _ B=>⟨vb dH,B⟩))
 rintro _ _ ⟨rfl,B⟩ _;refine aX (λI=>?_) (λI=>?_)
 .refine⟨vb ?_,B.aG⟩;rw[QK,I];rfl
 have Y:xs.length<=40:=dH
 refine aY abZ B (C348 _ _ _ (xs.length+1) _ (E.ext B.aG) cU cU cU cU) (λ_ he B=>⟨λM w'=>M=.bool (decide (¬ ij xs 0 = -1/\ij xs 0<=12))/\St w bE [] w',cN (aC (λ_=>kq ⟨vb dH,B⟩) λ_=>⟨vb dH,B⟩),?_⟩);rintro _ _ ⟨rfl,B⟩ _;refine⟨vb ?_,B.aG⟩;rw[QK,I];rfl
end Go.Proofs.YtdncbeepkacgbaaGreatDoor
