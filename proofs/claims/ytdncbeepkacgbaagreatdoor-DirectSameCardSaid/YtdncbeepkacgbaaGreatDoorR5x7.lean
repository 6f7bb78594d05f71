/-
  Part 7.
-/
import Derived.Test.YtdncbeepkacgbaaGreatDoorR5x6
set_option maxHeartbeats 8000000
set_option linter.all false
set_option maxRecDepth 100000
open Go.Fw.Flat renaming val->jj,enc->jl
open ByteArray renaming mk->jY
open List renaming getElem?_eq_some_iff->j0,length_append->lJ,getElem?_eq_getElem->l0,mem_of_getElem?->ml,length_singleton->mv,length_take->n0,length_map->oi,append_assoc->o1,replicate->o6,getD_eq_getElem?_getD->pd,mem_map->pB,length_cons->qb,range->qi,mem_cons_self->qs,mem_append->qC,append_nil->rM,getElem?_append_right->sl,mem_cons_of_mem->so,length_set->sy,mem_singleton->sU,getElem?_append_left->s7,mem_cons->ta,length_replicate->tr,any_eq_true->wk,any_eq_false->xC,length_nil->x7,mem_iff_getElem?->zT,getElem?_take->FC,mem_or_eq_of_mem_set->O3,eq_nil_of_length_eq_zero->QZ,length_pos_iff->Sm,take_zero->TA
open Option renaming bind_some->nY,some->o5
open Bool renaming and_eq_true->n3,or_eq_false_iff->sn,not_eq_true'->sV,or_eq_true->vo,true_and->yx,and_eq_false_iff->Ev,false_and->P3
open Go.Fw.Deep renaming dr->n4
open Go.Value renaming int->n5
open Nat renaming zero_le->ob,le_refl->qQ,zero_add->uf,add_sub_cancel_left->By,add_sub_cancel->FD,le_succ->HY,succ_mul->H5
open Int renaming toNat_natCast->s6,le_refl->u4,eq_ofNat_of_zero_le->Pz
open Decidable renaming not_not->DY
namespace Go.Proofs.YtdncbeepkacgbaaGreatDoor
open Go.Fw
def ja(l:List bP)(a:Int):Nat->Int
 | 0=>1
 | n+1=>if vt l a (LX ((n:Int)+2))=true then(n:Int)+2 else ja l a n
theorem Xq{l:List bP}{a:Int}:∀n:Nat,1<=ja l a n/\ja l a n<=(n:Int)+1
 | 0=>by unfold ja;omega
 | n+1=>by
  have:=Xq (l:=l) (a:=a) n
  unfold ja
  omega
theorem RM{l:List bP}{a:Int}:∀n:Nat,ja l a n=1\/∃t,vt l a t=true
 | 0=>.inl rfl
 | n+1=>by
  unfold ja
  split
  .grind
  .exact RM n
def LY{l:List bP}{a:Int}{n:Nat}(h:vt l a (LX ((n:Int)+2))=true):ja l a (n+1)=(n:Int)+2:=ez h
def LZ{l:List bP}{a:Int}{n:Nat}(h:¬ vt l a (LX ((n:Int)+2))=true):ja l a (n+1)=ja l a n:=ew h
def s1S(l:List bP)(s:gF):gF:=if ja l s.at_ 13≠1 then {s with at_:=s.at_+1}else s
def NZ{l:List bP}{s:gF}(h:mq l s):mq l (s1S l s):=by
 unfold s1S
 split
 .rename_i h1
  rcases RM (l:=l) (a:=s.at_) 13 with h2|⟨t,h2⟩
  .omega
  have:=uy h2
  exact⟨dH,dH⟩
 exact h
abbrev alG:ByteArray:=⟨#[101,108,115,101]⟩
def lC(l:List bP)(kd:Int)(s:gF):Bool:=decide (kd=11)&&decide (s.e=0)&&vt l s.at_ alG
def Zd(s:gF):gF:={s with at_:=s.at_+1}
abbrev aiH:=gF->Int->Int->Option (gF×List bD)
def GG(l:List bP)(bU:aiH)(s:gF)(d lp:Int):Option (gF×List bD):=
 if ja l s.at_ 13=13/\lp=0 then some (jV l s 5,[])
 else(l3 l (s1S l s) (ja l s.at_ 13) (om l s.at_)).bind λr=>
  if ja l s.at_ 13≠11/\ja l s.at_ 13≠12 then some (eg l r.1 ⟨#[59]⟩,[r.2])
  else(bU r.1 (d+1) (if ja l s.at_ 13=12 then lp+1 else lp)).bind λq=>
   if lC l (ja l s.at_ 13) q.1=true then(bU (Zd q.1) (d+1) lp).bind λt=>some (t.1,{r.2 with body:=(q.2.length:Int),eR:=(t.2.length:Int)}::(q.2++t.2))
   else some (q.1,{r.2 with body:=(q.2.length:Int)}::q.2)
section
variable {l:List bP}{bU:aiH}{s s':gF}{d lp:Int}{add:List bD}
theorem Xr(h:GG l bU s d lp=some (s',add))(hb:ja l s.at_ 13=13/\lp=0):s'=jV l s 5/\add=[]:=by
 unfold GG at h;grind
theorem aeu(h:GG l bU s d lp=some (s',add))(hb:¬ (ja l s.at_ 13=13/\lp=0)):∃B x,l3 l (s1S l s) (ja l s.at_ 13) (om l s.at_)=some (B,x)/\
  (if ja l s.at_ 13≠11/\ja l s.at_ 13≠12 then some (eg l B ⟨#[59]⟩,[x])
  else(bU B (d+1) (if ja l s.at_ 13=12 then lp+1 else lp)).bind λq=>
   if lC l (ja l s.at_ 13) q.1=true then(bU (Zd q.1) (d+1) lp).bind λt=>some (t.1,{x with body:=(q.2.length:Int),eR:=(t.2.length:Int)}::(q.2++t.2))
   else some (q.1,{x with body:=(q.2.length:Int)}::q.2))=some (s',add):=by
 unfold GG at h;rw[ew hb]at h
 obtain⟨p,q,h1,h2⟩:=eV h
 grind
theorem Xs{kd:Int}{I:gF}{x:bD}(h:(if kd≠11/\kd≠12 then some (eg l I ⟨#[59]⟩,[x])
  else(bU I (d+1) (if kd=12 then lp+1 else lp)).bind λq=>
   if lC l kd q.1=true then(bU (Zd q.1) (d+1) lp).bind λt=>some (t.1,{x with body:=(q.2.length:Int),eR:=(t.2.length:Int)}::(q.2++t.2))
   else some (q.1,{x with body:=(q.2.length:Int)}::q.2))=some (s',add)) (J:¬ (kd≠11/\kd≠12)) :
  ∃B E,bU I (d+1) (if kd=12 then lp+1 else lp)=some (B,E)/\
   ((lC l kd B=true/\∃G m2,bU (Zd B) (d+1) lp=some (G,m2)/\s'=G/\add={x with body:=(E.length:Int),eR:=(m2.length:Int)}::(E++m2))\/
    (lC l kd B=false/\s'=B/\add={x with body:=(E.length:Int)}::E)):=by
 rw[ew J]at h
 obtain⟨B,E,h1,h2⟩:=eV h
 refine⟨B,E,h1,?_⟩
 dsimp only at h2
 cases he:lC l kd B with
 | true=>
  rw[he,ez rfl]at h2
  obtain⟨G,m2,h3,h4⟩:=eV h2
  grind
 | false=>
  grind
theorem L3{kd:Int}{B:gF}{x:bD}(h:(if kd≠11/\kd≠12 then some (eg l B ⟨#[59]⟩,[x])
  else(bU B (d+1) (if kd=12 then lp+1 else lp)).bind λq=>
   if lC l kd q.1=true then(bU (Zd q.1) (d+1) lp).bind λt=>some (t.1,{x with body:=(q.2.length:Int),eR:=(t.2.length:Int)}::(q.2++t.2))
   else some (q.1,{x with body:=(q.2.length:Int)}::q.2))=some (s',add)) (E:kd≠11/\kd≠12):s'=eg l B ⟨#[59]⟩/\add=[x]:=by
 grind
end
abbrev Gj:ByteArray:=⟨#[123]⟩
abbrev pC:ByteArray:=⟨#[125]⟩
def vw(l:List bP)(one:gF->Option (gF×List bD)):Nat->gF->Option (gF×List bD)
 | 0,_=>none
 | m+1,s=>if (decide (s.e=0)&&!vt l s.at_ pC)=true then(one s).bind λr=>(vw l one m r.1).bind λq=>some (q.1,r.2++q.2)else some (s,[])
def Z9(l:List bP)(s:gF)(d:Int):gF:=if (decide (12<d)&&vt l s.at_ Gj)=true then jV l s 7 else s
def UA{l:List bP}{s:gF}{d:Int}(h:mq l s):mq l (Z9 l s d):=by unfold Z9;split;exact vv h;exact h
def blF(l:List bP):Nat->aiH
 | 0=>λ_ _ _=>none
 | k+1=>λs d lp=>(vw l (λs=>GG l (blF l k) s d lp) 10000 (eg l (Z9 l s d) Gj)).bind λr=>some (eg l r.1 pC,r.2)
section
variable {l:List bP}{one:gF->Option (gF×List bD)}{s s':gF}{d lp:Int}{add:List bD}{m:Nat}
theorem L4(h:vw l one m s=some (s',add)):∃k,m=k+1:=by
 cases m with
 | zero=>cases h
 | succ k=>grind
theorem JE(h:vw l one (m+1) s=some (s',add))(hb:(decide (s.e=0)&&!vt l s.at_ pC)=false):s'=s/\add=[]:=by
 unfold vw at h;grind
theorem N1(h:vw l one (m+1) s=some (s',add))(hb:(decide (s.e=0)&&!vt l s.at_ pC)=true):∃B a1 a2,one s=some (B,a1)/\vw l one m B=some (s',a2)/\add=a1++a2:=by
 unfold vw at h;rw[hb,ez rfl]at h
 obtain⟨B,a1,h1,h2⟩:=eV h
 obtain⟨E,a2,h3,h4⟩:=eV h2
 grind
theorem aev{k:Nat}(h:blF l (k+1) s d lp=some (s',add)):∃B,vw l (λs=>GG l (blF l k) s d lp) 10000 (eg l (Z9 l s d) Gj)=some (B,add)/\s'=eg l B pC:=by
 unfold blF at h
 obtain⟨B,a1,h1,h2⟩:=eV h
 grind
end
def UB{l:List bP}{bU:aiH}{s s':gF}{d lp:Int}{add:List bD}(hb:∀s d lp s' a,mq l s->bU s d lp=some (s',a)->mq l s')(G:mq l s)(h:GG l bU s d lp=some (s',add)):mq l s':=by
 by_cases h1:ja l s.at_ 13=13/\lp=0
 .rw[(Xr h h1).1];exact vv G
 obtain⟨O,x,h2,h3⟩:=aeu h h1
 have B:=Fm (NZ G) h2
 by_cases h4:ja l s.at_ 13≠11/\ja l s.at_ 13≠12
 .rw[(L3 h3 h4).1];exact gq B
 obtain⟨V,U,h5,h6⟩:=Xs h3 h4
 have M:=hb _ _ _ _ _ B h5
 rcases h6 with⟨E,W,m2,J,I,_⟩|⟨_,I,_⟩
 .rw[I]
  refine hb _ _ _ _ _ ?_ J
  unfold lC at E
  rw[n3]at E
  have:=uy E.2
  grind[mq,Zd]
 grind
theorem Xt{l:List bP}{one:gF->Option (gF×List bD)}(E:∀s s' a,mq l s->one s=some (s',a)->mq l s'):∀{m:Nat}{s s':gF}{add:List bD},mq l s->vw l one m s=some (s',add)->mq l s'
 | 0,_,_,_,_,h=>by cases h
 | m+1,s,s',add,B,h=>by
  cases hb:(decide (s.e=0)&&!vt l s.at_ pC)with
  | false=>rw[(JE h hb).1];exact B
  | true=>
   obtain⟨G,a1,a2,h1,h2,_⟩:=N1 h hb
   exact Xt E (E _ _ _ B h1) h2
theorem UC{l:List bP}:∀{k:Nat}{s s':gF}{d lp:Int}{add:List bD},mq l s->blF l k s d lp=some (s',add)->mq l s'
 | 0,_,_,_,_,_,_,h=>by cases h
 | k+1,s,s',d,lp,add,B,h=>by
  obtain⟨E,h1,h2⟩:=aev h
  rw[h2]
  exact gq (Xt (λ_ _ _ a b=>UB (λ_ _ _ _ _ c e=>UC c e) a b) (gq (UA B)) h1)
def pT(p:Nat)(lv:Value)(s:gF)(out:List bD)(Q:iD):HP:=ph λov:Value=>ph λts:List bF=>sep (bU p (eG lv ov s)) (sep (bG ov ts) (ep λw=>jx ts out w/\Q w))
section
variable {w0 w:World}{A:Nat->Prop}{L:List HP}{p:Nat}{lv:Value}{s:gF}{out:List bD}{Q:iD}
theorem pT.open(B:St w0 A (pT p lv s out Q::L) w):∃(ov:Value) (ts:List bF),St w0 A (bU p (eG lv ov s)::bG ov ts::ep (λw=>jx ts out w/\Q w)::L) w:=by
 obtain⟨ov,h1⟩:=B.dU
 obtain⟨ts,h2⟩:=h1.dU
 exact⟨ov,ts,h2.split.p1.split.p2⟩
theorem pT.shut{ov:Value}{ts:List bF}(B:St w0 A (bU p (eG lv ov s)::bG ov ts::ep (λw=>jx ts out w/\Q w)::L) w):St w0 A (pT p lv s out Q::L) w:=
 St.dX (H:=λov:Value=>ph λts:List bF=>sep (bU p (eG lv ov s)) (sep (bG ov ts) (ep λw=>jx ts out w/\Q w))) ov (St.dX (H:=λts:List bF=>sep (bU p (eG lv ov s)) (sep (bG ov ts) (ep λw=>jx ts out w/\Q w))) ts (St.join B.p2.p2.join.p1))
end
def aoR(l:List bP)(k:Nat):Prop:=∀(p:Nat) (lv:Value) (s:gF) (d lp:Int) (out:List bD) (B:gF) (add:List bD) (Q:iD) (F:Nat->Prop) (w:World),
 (pT p lv s out Q).p w F->(∀w',gZ F w w'->dP (λ_=>True) w' lv l)->mq l s->0<=d/\d+k<=1001->0<=lp/\lp+k<=1001->out.length+add.length<=1000000->blF l k s d lp=some (B,add)->
 Calls hZ 338 [.pointer (some ⟨p,0,none⟩),iE d,iE lp].toArray w (rZ λv w'=>v=iE (add.length:Int)/\ng F (pT p lv B (out++add) Q) w w')
def aiI{w:World}{sh:bF}{x:bD}(h:n4 w sh x):DL w (jj sh.e) x.e:=by obtain⟨_,_,rfl,h,_⟩:=h;exact h
def aiJ{w:World}{sh:bF}{x:bD}(h:n4 w sh x):DL w (jj sh.f) x.f:=by obtain⟨_,_,rfl,_,h⟩:=h;exact h
def UD{l:List bP}{kd:Int}{s:gF}(h:lC l kd s=true):mq l (Zd s):=by
 unfold lC at h
 rw[n3]at h
 have:=uy h.2
 grind[mq,Zd]
def aiK{α σ:Type}[Flat σ][Deep α σ]{w:World}{ts:List σ}{xs:List α}{i:Nat}{t:σ}{x:α}(h:jx ts xs w)(ht:n4 w t x):jx (ts.set i t) (xs.set i x) w:=by
 grind[jx]
theorem aew{α:Type}{a b:List α}{x y:α}:(a++x::b).set a.length y=a++y::b:=by
 grind
def C285(p:Nat)(lv:Value)(l:List bP)(s:gF)(k:Nat)(d lp:Int)(out:List bD)(s2:gF)(add:List bD)(Q:iD)(F:Nat->Prop)(w:World)(hF:(pT p lv s out Q).p w F)(W:∀w',gZ F w w'->dP (λ_=>True) w' lv l)(hk:jE l)(h0:mq l s)(HB:aoR l k)(hd:0<=d/\d+k<=1000)(RI:0<=lp/\lp+k<=1000)(Z0:out.length+add.length<=1000000)(hr:GG l (blF l k) s d lp=some (s2,add)):CR 285 [(.pointer (some ⟨p,0,none⟩)),iE d,iE lp] w (λv w'=>v=.tuple #[]/\ng F (pT p lv s2 (out++add) Q) w w'):=by
 have B:=St.begin hF;obtain⟨ov,ts,B⟩:=pT.open B;have J4:ts.length=out.length:=B.p2.ep.1.1;have G6:=hk.n;have hn:l.length<=1000000:=cU
 have wg:=hk.at_;obtain⟨Xj,Xk⟩:=id h0;refine agz _ _ _ _ _ ?_;unfold S285;refine aD (aA iX (have B:=B.drew;aB jI B.hb rfl (aD (aA fo (aB bL B.hb rfl (aY KO B (C201 _ l s.at_ _ (W _ B.aG) hn wg) λ_ he B=>?_))))));have B:=B.p2.p2.p2;refine⟨λmm a b w'=>∃j:Nat,a=iE (ja l s.at_ j)/\b=iE ((j:Int)+2)/\mm=13-j/\j<=13/\St w F [bU p (eG lv ov s),bG ov ts,ep λw=>jx ts out w/\Q w] w',⟨_,0,rfl,rfl,rfl,ob _,B⟩,?_⟩;rintro mm _ _ w2 ⟨j,rfl,rfl,rfl,hj,B⟩ _;refine kq (aC (λjL=>⟨_,aD (aA iX (have B:=B.drew;aB jI B.hb rfl (aD (aA fo (aB bL B.hb rfl (aY arZ B (C335 ((j:Int)+2) _ cU) λ_ he B=>⟨aF jI (B.hb.cell rfl),⟨aF bL (B.hb.cell rfl),aY yr B (C196 _ l s.at_ (LX ((j:Int)+2)) _ (W _ B.aG) hn) λ_ he B=>aX (λn7=>?_) λn7=>?_⟩⟩)))))),λ_ _ h=>h⟩) λjL=>?_)
 .intro yP;exact aR cU ⟨_,cU,j+1,gD (n5 .i64) (by first|exact(LY n7).symm|exact(LZ (by rw[n7];simp)).symm),gD (n5 .i64) cU,rfl,cU,B⟩
 .intro yP;exact aR cU ⟨_,cU,j+1,gD (n5 .i64) (by first|exact(LY n7).symm|exact(LZ (by rw[n7];simp)).symm),gD (n5 .i64) cU,rfl,cU,B⟩
 obtain rfl:j=13:=cU
 have hkb:=Xq (l:=l) (a:=s.at_) 13;refine⟨λjv w'=>jv=.bool (decide ((ja l s.at_ 13)=13/\lp=0))/\w2=w',aI (aC (λ_=>aI ⟨Hw cU,rfl⟩) λ_=>⟨jvF cU,rfl⟩),?_⟩;rintro _ _ ⟨rfl,hw⟩ _;subst hw;refine aC (λpx=>?_) (λpx=>⟨λw'=>St w F [bU p (eG lv ov (s1S l s)),bG ov ts,ep λw=>jx ts out w/\Q w] w',cN (aC (λC4=>?_) λC4=>?_),?_⟩)
 .refine aT KR B (H':=λ_=>bU p (eG lv ov (jV l s 5))) (Φ:=λ_ _=>True) (λV U O=>?_) ?_
  .exact(C336 p lv ov l s 5 V _ U (λw' hc=>W w' (O w' hc).aG) hk h0).mono λ_ _ r=>r.mono λ_ _ h=>⟨trivial,h.2⟩
  rintro _ _ _ B;obtain⟨e1,e2⟩:=Xr hr px;rw[e1,e2,rM];exact⟨rfl,(pT.shut B).mut⟩
 .refine aD (aA fo (aB bL B.hb rfl (aR cU (aD (aA fo (aO B bL (ei rfl) (rfl) λ_ B=>?_))))));have B:=B.p2.p2.p2;have G7:(s1S l s)={s with at_:=s.at_+1}:=by unfold s1S;rw[ez cU]
  rw[G7];exact B
 .have B:=B.p2.p2.p2;have G7:(s1S l s)=s:=by unfold s1S;rw[ew cU]
  rw[G7];exact B
 intro _ B _;obtain⟨q,x,mM,GS⟩:=aeu hr px;refine aT ar0 B (H':=λv=>ph λsh:bF=>fact (v=jj sh) (sep (bU p (eG lv ov q)) (ep λw=>n4 w sh x))) (Φ:=λ_ _=>True) (λV U O=>?_) ?_
 .exact(C337 p lv ov l (s1S l s) (ja l s.at_ 13) (om l s.at_) q x V _ U (λw' hc=>W w' (O w' hc).aG) hk (NZ h0) mM).mono λ_ _ r=>r.mono λ_ _ h=>⟨trivial,h⟩
 rintro v_x58 _ _ yD;obtain⟨aDg,yU⟩:=yD.dU
 clear yD
 obtain⟨aoS,Co⟩:=yU.lq
 clear yU
 subst aoS;have B:=Co.split
 clear Co
 obtain⟨E,G,aoT,hde,hdf⟩:=B.p1.ep;subst aoT;refine aJ B kS (λEN _ B=>have B:=B.enc (cs':=jl (⟨0,(jY #[]),(jY #[]),bO,bO,0,0,0,0⟩:bF)) rfl;aH (x:=(⟨x.kind,x.eY,x.name,E,G,x.n,x.body,x.eR,x.at_⟩:bF)) B fh rfl rfl λ_ B=>aD (aA rD (aB ou B.p1.hb rfl (aK gX B.p3.fc (aD (aA rD (have B:=B.drew;aB ou B.p1.hb rfl (aE fh B.At (bV ([(⟨x.kind,x.eY,x.name,E,G,x.n,x.body,x.eR,x.at_⟩:bF)]) B gX rfl rfl (ei rfl) λali _ B=>?_)))))))))
 refine⟨aF ou (B.p2.hb.cell rfl),?_⟩;have aoU:=B.fc;refine cK B.p4 gX aoU (by simp;omega) er (λXu _ B=>have B:=B.p1.drop;aD (aA rD (aO B.p2 ou (ei rfl) B.fc.one λ_ B=>⟨λjv w'=>jv=.bool (decide ((ja l s.at_ 13)≠11/\(ja l s.at_ 13)≠12))/\St w F [bU p (eG lv Xu q),bG Xu (ts++[(⟨x.kind,x.eY,x.name,E,G,x.n,x.body,x.eR,x.at_⟩:bF)]),ep (λw=>jx (ts++[(⟨x.kind,x.eY,x.name,E,G,x.n,x.body,x.eR,x.at_⟩:bF)]) (out++[x]) w/\(λw=>Q w/\n4 w (⟨x.kind,x.eY,x.name,E,G,x.n,x.body,x.eR,x.at_⟩:bF) x) w),bU EN (jl (⟨x.kind,x.eY,x.name,E,G,x.n,x.body,x.eR,x.at_⟩:bF))] w',cN (aC (λ_=>cN (have B:=B.p3.p4.fu.cS (Ψ:=λw=>jx (ts++[(⟨x.kind,x.eY,x.name,E,G,x.n,x.body,x.eR,x.at_⟩:bF)]) (out++[x]) w/\(λw=>Q w/\n4 w (⟨x.kind,x.eY,x.name,E,G,x.n,x.body,x.eR,x.at_⟩:bF) x) w) (λ_ h=>⟨h.1.1.snoc h.2,h.1.2,h.2⟩);have B:=B.p3.p1.p3.p3;⟨vb dH,B⟩)) λ_=>have B:=B.p3.p4.fu.cS (Ψ:=λw=>jx (ts++[(⟨x.kind,x.eY,x.name,E,G,x.n,x.body,x.eR,x.at_⟩:bF)]) (out++[x]) w/\(λw=>Q w/\n4 w (⟨x.kind,x.eY,x.name,E,G,x.n,x.body,x.eR,x.at_⟩:bF) x) w) (λ_ h=>⟨h.1.1.snoc h.2,h.1.2,h.2⟩);have B:=B.p3.p1.p3.p3;⟨vb dH,B⟩),?_⟩)))
 rintro _ w16 ⟨rfl,B⟩ _;refine aC (λaex=>?_) (λaex=>⟨λjv w'=>jv=iE (if (ja l s.at_ 13)=12 then lp+1 else lp)/\w16=w',aI (aC (λ_=>aR cU ⟨by rw[ez cU],rfl⟩) λ_=>⟨by rw[ew cU],rfl⟩),?_⟩)
 .refine aT Bn B (H':=λ_=>bU p (eG lv Xu (eg l q (jY #[59])))) (Φ:=λ_ _=>True) (λV U O=>?_) ?_
  .exact(C286 p lv Xu l q (jY #[59]) V _ U (λw' hc=>W w' (O w' hc).aG) hk (Fm (NZ h0) mM)).mono λ_ _ r=>r.mono λ_ _ h=>⟨trivial,h.2⟩
  rintro _ _ _ B;have B:=B.p3.drop.p1.p1.p2.cS (Ψ:=λw=>jx (ts++[(⟨x.kind,x.eY,x.name,E,G,x.n,x.body,x.eR,x.at_⟩:bF)]) (out++[x]) w/\Q w) (λ_ h=>⟨h.1,h.2.1⟩);have B:=B.p2.p2;obtain⟨e1,e2⟩:=L3 GS aex;rw[e1,e2];exact⟨rfl,(pT.shut B).mut⟩
 rintro _ _ ⟨rfl,hw⟩ _;subst hw;refine aR cU ?_;have B:=pT.shut B.p2.p2.p2;obtain⟨Y,I,FT,ZW⟩:=Xs GS aex;have hm1:I.length<add.length:=by rcases ZW with⟨_,s5,m2,_,_,e⟩|⟨_,_,e⟩<;>rw[e]<;>simp<;>omega
 refine aT ajP B (H':=λ_=>pT p lv Y ((out++[x])++I) λw=>Q w/\n4 w (⟨x.kind,x.eY,x.name,E,G,x.n,x.body,x.eR,x.at_⟩:bF) x) (Φ:=λv _=>v=iE (I.length:Int)) (λV U O=>?_) ?_
 .exact HB p lv q (d+1) (if (ja l s.at_ 13)=12 then lp+1 else lp) (out++[x]) Y I (λw=>Q w/\n4 w (⟨x.kind,x.eY,x.name,E,G,x.n,x.body,x.eR,x.at_⟩:bF) x) V _ U (λw' hc=>W w' (O w' hc).aG) (Fm (NZ h0) mM) cU (by split<;>omega) (by rw[lJ,mv];omega) FT
 rintro _ _ rfl B;obtain⟨ov3,z6,B⟩:=pT.open B;refine aA nt (aO B.p3 bL (ei rfl) (rfl) λ_ B=>have B:=B.enc (cs':=jl (⟨x.kind,x.eY,x.name,E,G,x.n,(I.length:Int),x.eR,x.at_⟩:bF)) rfl;⟨λw'=>∃(bd el:Int) (rest:List bD),add={x with body:=bd,eR:=el}::rest/\St w F [pT p lv s2 ((out++[x])++rest) (λw=>Q w/\n4 w (⟨x.kind,x.eY,x.name,E,G,x.n,x.body,x.eR,x.at_⟩:bF) x),bU EN (jl (⟨x.kind,x.eY,x.name,E,G,x.n,bd,el,x.at_⟩:bF))] w',⟨λjv w'=>jv=.bool (lC l (ja l s.at_ 13) Y)/\St w F [bU p (eG lv ov3 Y),bG ov3 z6,ep (λw=>jx z6 ((out++[x])++I) w/\(λw=>Q w/\n4 w (⟨x.kind,x.eY,x.name,E,G,x.n,x.body,x.eR,x.at_⟩:bF) x) w),bU EN (jl (⟨x.kind,x.eY,x.name,E,G,x.n,(I.length:Int),x.eR,x.at_⟩:bF))] w',?_,?_⟩,?_⟩)
 .refine aI ?_;exact aC (λL5=>aD (aA lQ (have B:=B.drew;aB kh B.p1.hb rfl (aI (aC (λN2=>aD (aA iX (aB jI B.p1.hb rfl (aD (aA fo (aB bL B.p1.hb rfl (aY yr B (C196 _ l Y.at_ (jY #[101,108,115,101]) _ (W _ B.aG) hn) λ_ _ B=>have B:=B.p3.p3.p3;⟨vb (by unfold lC;rw[fY L5,fY N2];rfl),B⟩))))))) λN2=>have B:=B.p3.p3.p3;⟨vb (by unfold lC;first|(rw[gk L5];rfl)|(rw[fY L5,gk N2];rfl)),B⟩))))) (λL5=>have B:=B.drew.p3.p3.p3;⟨vb (by unfold lC;first|(rw[gk L5];rfl)|(rw[fY L5,gk N2];rfl)),B⟩)
 .rintro _ _ ⟨rfl,B⟩ _;refine aX (λJ=>?_) (λJ=>?_)
  .obtain⟨M,s5,m2,TT,e5,vD⟩|⟨M,_⟩:=ZW
   rotate_left
   .rw[M]at J;cases J
   subst e5;have hin3:=uy (show vt l Y.at_ alG=true by unfold lC at J;rw[n3]at J;exact J.2);refine aD (aA fo (aB bL B.hb rfl (aR cU (aD (aA fo (aO B bL (ei rfl) (rfl) λ_ B=>aR cU ?_))))));have B:=pT.shut (s:=Zd Y) B.p2.p2.p2;have hkd11:(ja l s.at_ 13)=11:=by unfold lC at J;simp at J;exact J.1.1
   rw[ew (show ¬ (ja l s.at_ 13)=12 by omega)];refine aT ajP B (H':=λ_=>pT p lv s2 (((out++[x])++I)++m2) λw=>Q w/\n4 w (⟨x.kind,x.eY,x.name,E,G,x.n,x.body,x.eR,x.at_⟩:bF) x) (Φ:=λv _=>v=iE (m2.length:Int)) (λV U O=>?_) ?_
   .exact HB p lv (Zd Y) (d+1) lp ((out++[x])++I) s2 m2 (λw=>Q w/\n4 w (⟨x.kind,x.eY,x.name,E,G,x.n,x.body,x.eR,x.at_⟩:bF) x) V _ U (λw' hc=>W w' (O w' hc).aG) (UD J) cU cU (by have:=gD List.length vD;simp at this |-;omega) TT
   rintro _ _ rfl B;rw[o1 (out++[x])]at B;exact aA pQ (aO B.p1 bL (ei rfl) (rfl) λ_ B=>have B:=B.enc (cs':=jl (⟨x.kind,x.eY,x.name,E,G,x.n,(I.length:Int),(m2.length:Int),x.at_⟩:bF)) rfl;have B:=B.p1;⟨_,_,_,vD,B⟩)
  obtain⟨M,_⟩|⟨M,e5,vD⟩:=ZW
  .rw[M]at J;cases J
  subst e5;have B:=((pT.shut B.p2.p2.p2).p1).p1;exact⟨(I.length:Int),x.eR,I,vD,B⟩
 rintro _ ⟨bd,el,rest,vD,B⟩ _;obtain⟨ov5,Z,B⟩:=pT.open B;refine aD (aA rD (have B:=B.drew;aB ou B.hb rfl (aE fh B.p3.At ?_)));have h5l:Z.length=(out++[x]++rest).length:=B.p2.ep.1.1;have h6l:=gD List.length vD;simp only[lJ,qb,x7]at h5l h6l;obtain⟨aDh,ayJ⟩:=gx Z (i:=(ts.length:Int).toNat) cU;refine dN B.p1 gX cU cU (λ_ aoV=>jm _ B.p1 fh aoV cU λ_ B=>?_)
 have B:=B.p3.drop.p1.p2.cS (Ψ:=λw=>jx (Z.set (ts.length:Int).toNat (⟨x.kind,x.eY,x.name,E,G,x.n,bd,el,x.at_⟩:bF)) (out++add) w/\Q w) (λ_ h=>⟨by
  have hh:=aiK (i:=(ts.length:Int).toNat) (t:=(⟨x.kind,x.eY,x.name,E,G,x.n,bd,el,x.at_⟩:bF)) (x:={x with body:=bd,eR:=el}) h.1 ⟨E,G,rfl,aiI (x:=x) h.2.2,aiJ (x:=x) h.2.2⟩;rw[show(ts.length:Int).toNat=out.length from cU,o1,List.singleton_append,aew]at hh;rw[vD,show(ts.length:Int).toNat=out.length from cU];exact hh,h.2.1⟩)
 have B:=B.p2.p2;exact⟨rfl,(pT.shut B).mut⟩
def C338(p:Nat)(lv:Value)(l:List bP)(s:gF)(k:Nat)(d lp:Int)(out:List bD)(s2:gF)(add:List bD)(Q:iD)(F:Nat->Prop)(w:World)(hF:(pT p lv s out Q).p w F)(U:∀w',gZ F w w'->dP (λ_=>True) w' lv l)(V:jE l)(Z:mq l s)(HB:aoR l k)(hd:0<=d/\d+k<=1000)(RI:0<=lp/\lp+k<=1000)(Z0:out.length+add.length<=1000000)(hr:blF l (k+1) s d lp=some (s2,add)):CR 338 [(.pointer (some ⟨p,0,none⟩)),iE d,iE lp] w (λv w'=>v=iE (add.length:Int)/\ng F (pT p lv s2 (out++add) Q) w w'):=by
 have B:=St.begin hF;obtain⟨ov,ts,B⟩:=pT.open B;have J4:ts.length=out.length:=B.p2.ep.1.1;obtain⟨s9,OJ,e2⟩:=aev hr;have G6:=V.n;have hn:l.length<=1000000:=cU
 have wg:=V.at_;obtain⟨Xj,Xk⟩:=id Z;refine pG Tryz.func338 (pl:=az4) ?_;refine aD (aA rD (aB ou B.hb rfl (aK gX B.p1.fc ⟨λw'=>St w F [bU p (eG lv ov (Z9 l s d)),bG ov ts,ep λw=>jx ts out w/\Q w] w',⟨λjv w'=>jv=.bool (decide (12<d)&&vt l s.at_ Gj)/\St w F [bU p (eG lv ov s),bG ov ts,ep λw=>jx ts out w/\Q w] w',eh (aC (λ_=>aD (aA iX (have B:=B.drew;aB jI B.hb rfl (aD (aA fo (aB bL B.hb rfl (aY yr B (C196 _ l s.at_ (jY #[123]) _ (U _ B.aG) hn) λ_ _ B=>⟨vb (by first|(rw[fY (show 12<d by omega)];rfl)|(rw[gk (show ¬ 12<d by omega)];rfl)),B⟩))))))) λ_=>have B:=B.drew;⟨vb (by first|(rw[fY (show 12<d by omega)];rfl)|(rw[gk (show ¬ 12<d by omega)];rfl)),B⟩),?_⟩,?_⟩)))
 .rintro _ _ ⟨rfl,B⟩ _;refine aX (λji=>?_) (λji=>?_)
  .refine aT KR B (H':=λ_=>bU p (eG lv ov (jV l s 7))) (Φ:=λ_ _=>True) (λO I M=>?_) ?_
   .exact(C336 p lv ov l s 7 O _ I (λw' hc=>U w' (M w' hc).aG) V Z).mono λ_ _ r=>r.mono λ_ _ h=>⟨trivial,h.2⟩
   rintro _ _ _ B;have B:=B.p2.p2.p2;have h7:Z9 l s d=jV l s 7:=by unfold Z9;rw[ez ji]
   rw[h7];exact B
  have B:=B.p2.p2.p2;have h7:Z9 l s d=s:=by unfold Z9;rw[ew (by rw[ji];simp)]
  rw[h7];exact B
 intro _ B _;refine aT Bn B (H':=λ_=>bU p (eG lv ov (eg l (Z9 l s d) (jY #[123])))) (Φ:=λ_ _=>True) (λO I M=>?_) ?_
 .exact(C286 p lv ov l (Z9 l s d) (jY #[123]) O _ I (λw' hc=>U w' (M w' hc).aG) V (UA Z)).mono λ_ _ r=>r.mono λ_ _ h=>⟨trivial,h.2⟩
 rintro _ _ _ B;have B:=pT.shut (s:=eg l (Z9 l s d) Gj) B.p2.p2.p2;refine⟨λmm w'=>∃(E:gF) (G a2:List bD),mq l E/\vw l (λs=>GG l (blF l k) s d lp) mm E=some (s9,a2)/\add=G++a2/\St w F [pT p lv E (out++G) Q] w',⟨10000,_,[],add,gq (UA Z),OJ,rfl,by rw[rM];exact B⟩,?_⟩;rintro mm _ ⟨E,G,a2,RN,FT,Y,B⟩ _;obtain⟨m,rfl⟩:=L4 FT;obtain⟨Ze,J,B⟩:=pT.open B;have aiL:J.length=(out++G).length:=B.p2.ep.1.1;rw[lJ]at aiL;refine⟨λjv w'=>jv=.bool (decide (E.e=0)&&!vt l E.at_ pC)/\St w F [bU p (eG lv Ze E),bG Ze J,ep λw=>jx J (out++G) w/\Q w] w',aD (aA lQ (have B:=B.drew;aB kh B.hb rfl (aI (aC (λW=>aD (aA iX (aB jI B.hb rfl (aD (aA fo (aB bL B.hb rfl (aY yr B (C196 _ l E.at_ (jY #[125]) _ (U _ B.aG) hn) λ_ _ B=>bJ (have B:=B.p2.p2.p2;⟨vb (by first|(rw[fY W];rfl)|(rw[gk W];rfl)),B⟩)))))))) λW=>have B:=B.p2.p2.p2;⟨vb (by first|(rw[fY W];rfl)|(rw[gk W];rfl)),B⟩)))),?_⟩
 rintro _ _ ⟨rfl,B⟩ _;refine aX (λC4=>?_) (λC4=>?_)
 .obtain⟨s3,a1,a3,ho,OI,rfl⟩:=N1 FT C4;have B:=pT.shut B.p2.p2.p2;refine aT ajN B (H':=λ_=>pT p lv s3 ((out++G)++a1) Q) (Φ:=λ_ _=>True) (λO I M=>?_) ?_
  .exact(C285 p lv l E k d lp (out++G) s3 a1 Q O _ I (λw' hc=>U w' (M w' hc).aG) V RN HB cU cU (by have:=gD List.length Y;simp at this |-;omega) ho).mono λ_ _ r=>r.mono λ_ _ h=>⟨trivial,h.2⟩
  rintro _ _ _ B;exact⟨_,cU,s3,G++a1,a3,UB (λ_ _ _ _ _ c e=>UC c e) RN ho,OI,by rw[Y,o1],by rw[<- o1];exact B⟩
 obtain⟨e9,rfl⟩:=JE FT C4;replace e9:=e9.symm;subst e9;rw[rM]at Y;subst Y;refine aT Bn B (H':=λ_=>bU p (eG lv Ze (eg l E (jY #[125])))) (Φ:=λ_ _=>True) (λO I M=>?_) ?_
 .exact(C286 p lv Ze l E (jY #[125]) O _ I (λw' hc=>U w' (M w' hc).aG) V RN).mono λ_ _ r=>r.mono λ_ _ h=>⟨trivial,h.2⟩
 rintro _ _ _ B;refine aD (aA rD (aB ou B.hb rfl (aK gX B.p1.fc (fO cU ?_))));rw[e2];exact⟨gD (n5 .i64) cU,(pT.shut B).mut⟩
theorem awr{l:List bP}(E:jE l):∀k,aoR l k
 | 0=>λp lv s d lp out B add Q F w _ _ _ _ _ _ h=>by cases h
 | k+1=>λp lv s d lp out B add Q F w J G M O U I h=>C338 p lv l s k d lp out B add Q F w J G E M (awr E k) cU cU I h
def we(i:Int):gF:=⟨i,0,0⟩
def JF(l:List bP)(i op:Int):Option (List bD×Int×Int×Int):=
 (vw l (λs=>GG l (blF l 20) s 0 0) 10000 (we i)).bind λr=>
  if 1000000<r.2.length then none else if (eg l r.1 pC).e≠0 then some ([],0,(eg l r.1 pC).e,(eg l r.1 pC).pos)
  else if 40<r.2.length then some ([],0,2,(qD l op).at_)
  else some (r.2,(eg l r.1 pC).at_,0,0)
def N3(l:List bP)(s:gF):Bool:=match mJ l s.at_ with|some t=>decide (t.kind=2)|none=>false
def ma(l:List bP)(nb:Bool)(s:gF):gF×cG:=
 if (nb&&(iW l (fp l s).1 OK).2)=true then
  (if N3 l (iW l (fp l s).1 OK).1=true then(Zd (iW l (fp l s).1 OK).1,{ (fp l s).2 with n:=(qD l (iW l (fp l s).1 OK).1.at_).n})
  else(jV l (iW l (fp l s).1 OK).1 5,(fp l s).2))
 else fp l s
abbrev Fo:ByteArray:=⟨#[44]⟩
abbrev Xv:ByteArray:=⟨#[59]⟩
def qV(l:List bP)(nb:Bool):Nat->Bool->gF->Option (gF×List cG)
 | 0,_,_=>none
 | m+1,more,s=>if (more&&decide (s.e=0))=true then(qV l nb m (iW l (ma l nb s).1 Fo).2 (iW l (ma l nb s).1 Fo).1).bind λr=>some (r.1,(ma l nb s).2::r.2)else some (s,[])
def oo(l:List bP)(nb:Bool)(s:gF):Option (gF×List cG):=(qV l nb 10000 true s).bind λr=>if 1000000<r.2.length then none else some (eg l r.1 Xv,r.2)
abbrev Zf:ByteArray:=⟨#[114,101,103]⟩
def DZ(l:List bP)(s:gF):Option (gF×List ByteArray):=
 if (iW l s Zf).2=true then(oo l false (iW l s Zf).1).bind λr=>some (r.1,r.2.map cG.name)else some (s,[])
def vx(l:List bP)(s:gF)(nm:ByteArray)(a:Int):Option (gF×cE):=
 (DZ l (eg l s Gj)).bind λr=>
  if r.1.e≠0 then some (r.1,⟨nm,r.2,[],a⟩)
  else(JF l r.1.at_ s.at_).bind λR=>if 0<=R.2.1/\R.2.1<=l.length then some (⟨R.2.1,R.2.2.1,R.2.2.2⟩,⟨nm,r.2,R.1,a⟩)else none
def Ao(l:List bP)(s:gF)(a:Int):Option (gF×iF):=
 (yN l s.at_).bind λR=>if R.2.2.1≠0 then some ({s with e:=R.2.2.1,pos:=R.2.2.2},⟨[],0⟩)
  else if 0<=R.2.1/\R.2.1<=l.length then some (eg l {s with at_:=R.2.1} Xv,⟨R.1,a⟩)else none
def oa{α:Type}(l:List bP)(t:ByteArray)(rd:gF->Option (gF×α)):Nat->gF->Option (gF×List α)
 | 0,_=>none
 | m+1,s=>if (iW l s t).2=true then(rd (iW l s t).1).bind λr=>(oa l t rd m r.1).bind λq=>some (q.1,r.2::q.2)else some (s,[])
def Ch(l:List bP)(s:gF):Int:=(qD l (s.at_-1)).at_
def UE(l:List bP)(s:gF):Option (gF×List cE):=
 if (iW l s ⟨#[114,101,99,111,118,101,114]⟩).2=true then(vx l (iW l s ⟨#[114,101,99,111,118,101,114]⟩).1 ⟨#[]⟩ (Ch l (iW l s ⟨#[114,101,99,111,118,101,114]⟩).1)).bind λr=>some (r.1,[r.2])else some (s,[])
abbrev aey:ByteArray:=⟨#[108,105,110,101]⟩
abbrev aoW:ByteArray:=⟨#[118,111,108]⟩
abbrev aez:ByteArray:=⟨#[108,111,99,107]⟩
abbrev N4:ByteArray:=⟨#[116,104,114,101,97,100]⟩
abbrev N5:ByteArray:=⟨#[97,108,119,97,121,115]⟩
def aoX(l:List bP)(s:gF):Option (gF×cE):=vx l (fp l s).1 (fp l s).2.name (fp l s).2.at_
def Kz(l:List bP)(s:gF):gF:=if s.at_<l.length then jV l s 5 else s
def D0:bQ:=⟨[],[],[],[],[],[]⟩
def yk(t:ByteArray):Option (bQ×Int×Int):=
 (yK t).bind λL=>if L.2.1≠0 then some (D0,L.2.1,L.2.2)else
 (oa L.1 aey (oo L.1 true) 10000 (we 0)).bind λr1=>
 (oa L.1 aoW (oo L.1 true) 10000 r1.1).bind λI=>
 (oa L.1 aez (oo L.1 false) 10000 I.1).bind λE=>
 (oa L.1 N4 (aoX L.1) 10000 E.1).bind λG=>
 (UE L.1 G.1).bind λJ=>
 (oa L.1 N5 (λs=>Ao L.1 s (Ch L.1 s)) 10000 J.1).bind λB=>
  if 1000000<r1.2.length\/1000000<I.2.flatten.length\/1000000<E.2.flatten.length\/1000000<G.2.length\/1000000<B.2.length then none else if (Kz L.1 B.1).e≠0 then some (D0,(Kz L.1 B.1).e,(Kz L.1 B.1).pos)else some (⟨r1.2,I.2.flatten,E.2.flatten,G.2,J.2,B.2⟩,0,0)
section
variable {l:List bP}{s s':gF}
theorem aeA{t:ByteArray}(h:(iW l s t).2=true):iW l s t=({s with at_:=s.at_+1},true)/\s.e=0/\0<=s.at_/\s.at_<l.length:=by
 unfold iW at h |-
 split at h
 .rename_i h2
  rw[ez h2]
  rw[n3,decide_eq_true_eq]at h2
  exact⟨rfl,h2.1,uy h2.2⟩
 cases h
theorem Ap{t:ByteArray}(h:(iW l s t).2=false):iW l s t=(s,false):=by
 grind[iW]
theorem JG{nb:Bool}(h:mq l s):mq l (ma l nb s).1:=by
 have h1:=xw h
 have h2:=lh (t:=OK) h1
 unfold ma
 split
 .split
  .rename_i h3
   unfold N3 at h3
   cases ht:mJ l (iW l (fp l s).1 OK).1.at_ with
   | none=>grind
   | some t=>
    have:=nO ht
    exact⟨by show 0<=(iW l (fp l s).1 OK).1.at_+1;omega,by show(iW l (fp l s).1 OK).1.at_+1<=_;omega⟩
  exact vv h2
 exact h1
theorem L6{nb:Bool}:∀{m:Nat}{more:Bool}{s s':gF}{x:List cG},mq l s->qV l nb m more s=some (s',x)->mq l s'
 | 0,_,_,_,_,_,h=>by cases h
 | m+1,more,s,s',x,B,h=>by
  unfold qV at h
  split at h
  .obtain⟨q,y,h1,h2⟩:=eV h
   cases h2
   exact L6 (lh (JG B)) h1
  grind
theorem AZ{nb:Bool}{x:List cG}(h:oo l nb s=some (s',x)):∃B,qV l nb 10000 true s=some (B,x)/\s'=eg l B Xv/\x.length<=1000000:=by
 unfold oo at h
 obtain⟨q,y,h1,h2⟩:=eV h
 grind
theorem A0{nb:Bool}{x:List cG}(B:mq l s)(h:oo l nb s=some (s',x)):mq l s':=by
 obtain⟨E,h1,h2,_⟩:=AZ h
 rw[h2];exact gq (L6 B h1)
theorem RO{nb more:Bool}{m:Nat}{x:List cG}(h:qV l nb m more s=some (s',x)):∃k,m=k+1:=by
 cases m with
 | zero=>cases h
 | succ k=>grind
theorem JH{nb more:Bool}{m:Nat}{x:List cG}(h:qV l nb (m+1) more s=some (s',x))(hb:(more&&decide (s.e=0))=false):s'=s/\x=[]:=by
 unfold qV at h;grind
theorem Zg{nb more:Bool}{m:Nat}{x:List cG}(h:qV l nb (m+1) more s=some (s',x))(hb:(more&&decide (s.e=0))=true):∃y,qV l nb m (iW l (ma l nb s).1 Fo).2 (iW l (ma l nb s).1 Fo).1=some (s',y)/\x=(ma l nb s).2::y:=by
 unfold qV at h;rw[hb,ez rfl]at h
 obtain⟨q,y,h1,h2⟩:=eV h
 grind
theorem RP{x:List ByteArray}(B:mq l s)(h:DZ l s=some (s',x)):mq l s':=by
 unfold DZ at h
 split at h
 .obtain⟨q,y,h1,h2⟩:=eV h
  cases h2
  exact A0 (lh B) h1
 grind
theorem JI{nm:ByteArray}{a:Int}{x:cE}(B:mq l s)(h:vx l s nm a=some (s',x)):mq l s':=by
 unfold vx at h
 obtain⟨q,y,h1,h2⟩:=eV h
 have h3:=RP (gq B) h1
 dsimp only at h2
 split at h2
 .grind
 cases hr:JF l q.at_ s.at_ with
 | none=>grind
 | some R=>
  grind[mq]
theorem Zh{a:Int}{x:iF}(B:mq l s)(h:Ao l s a=some (s',x)):mq l s':=by
 unfold Ao at h
 cases hr:yN l s.at_ with
 | none=>grind
 | some R=>
  rw[hr]at h
  simp only[nY]at h
  split at h
  .cases h;exact B
  .split at h
   .rename_i h4;cases h;exact gq h4
   .cases h
theorem uB{α:Type}{t:ByteArray}{rd:gF->Option (gF×α)}{m:Nat}{x:List α}(h:oa l t rd m s=some (s',x)):∃k,m=k+1:=by
 cases m with
 | zero=>cases h
 | succ k=>grind
theorem xy{α:Type}{t:ByteArray}{rd:gF->Option (gF×α)}{m:Nat}{x:List α}(h:oa l t rd (m+1) s=some (s',x))(hb:(iW l s t).2=false):s'=s/\x=[]:=by
 unfold oa at h;grind
theorem Aq{α:Type}{t:ByteArray}{rd:gF->Option (gF×α)}{m:Nat}{x:List α}(h:oa l t rd (m+1) s=some (s',x))(hb:(iW l s t).2=true):∃B y z,rd (iW l s t).1=some (B,y)/\oa l t rd m B=some (s',z)/\x=y::z:=by
 unfold oa at h;rw[hb,ez rfl]at h
 obtain⟨q,y,h1,h2⟩:=eV h
 obtain⟨G,E,h3,h4⟩:=eV h2
 grind
end
def noQ:iD:=λ_=>True
theorem D1{l:List bP}{i:Int}{t:bP}(B:0<=i)(h:l[i.toNat]?=some t):qD l i=t:=by
 unfold qD mJ;grind
def aiM{l:List bP}{i op:Int}{R:List bD×Int×Int×Int}(h:JF l i op=some R):∃B add,vw l (λs=>GG l (blF l 20) s 0 0) 10000 (we i)=some (B,add)/\add.length<=1000000/\
  ((eg l B pC).e≠0->R=([],0,(eg l B pC).e,(eg l B pC).pos))/\(¬ (eg l B pC).e≠0->40<(add.length:Int)->R=([],0,2,(qD l op).at_))/\
  (¬ (eg l B pC).e≠0->¬ 40<(add.length:Int)->R=(add,(eg l B pC).at_,0,0)):=by
 unfold JF at h
 obtain⟨q,y,h1,h2⟩:=eV h
 grind
section
variable {l:List bP}{s s':gF}{nb:Bool}
theorem Zi(B:nb=true)(h2:(iW l (fp l s).1 OK).2=true)(h3:N3 l (iW l (fp l s).1 OK).1=true) :
  ma l nb s=(Zd (iW l (fp l s).1 OK).1,{ (fp l s).2 with n:=(qD l (iW l (fp l s).1 OK).1.at_).n}):=by
 unfold ma;grind
theorem Zj(B:nb=true)(h2:(iW l (fp l s).1 OK).2=true)(h3:N3 l (iW l (fp l s).1 OK).1=false) :
  ma l nb s=(jV l (iW l (fp l s).1 OK).1 5,(fp l s).2):=by
 unfold ma;grind
theorem aeB(h2:(iW l (fp l s).1 OK).2=false):ma l nb s=((iW l (fp l s).1 OK).1,(fp l s).2):=by
 unfold ma;rw[ew dH,Ap h2]
theorem aeC(B:nb=false):ma l nb s=((fp l s).1,(fp l s).2):=by
 grind[ma,fp]
theorem aiN{q:gF}(h:N3 l q=true):∃B,mJ l q.at_=some B/\l[q.at_.toNat]?=some B/\0<=q.at_/\q.at_<l.length:=by
 unfold N3 at h
 cases ht:mJ l q.at_ with
 | none=>grind
 | some B=>have:=nO ht;grind
theorem L7{x:List ByteArray}(h:DZ l s=some (s',x))(h1:(iW l s Zf).2=true):∃ys,oo l false (iW l s Zf).1=some (s',ys)/\x=ys.map cG.name:=by
 unfold DZ at h;rw[ez h1]at h
 obtain⟨q,y,h2,h3⟩:=eV h
 grind
theorem RQ{x:List ByteArray}(h:DZ l s=some (s',x))(h1:(iW l s Zf).2=false):s'=s/\x=[]:=by
 unfold DZ at h;grind
theorem UF{nm:ByteArray}{a:Int}{x:cE}(h:vx l s nm a=some (s',x)):∃q rs,DZ l (eg l s Gj)=some (q,rs)/\
  (q.e≠0->s'=q/\x=⟨nm,rs,[],a⟩)/\(¬ q.e≠0->∃R,JF l q.at_ s.at_=some R/\0<=R.2.1/\R.2.1<=l.length/\s'=⟨R.2.1,R.2.2.1,R.2.2.2⟩/\x=⟨nm,rs,R.1,a⟩):=by
 unfold vx at h
 obtain⟨q,rs,h1,h2⟩:=eV h
 refine⟨q,rs,h1,λB=>?_,λB=>?_⟩
 .grind
 dsimp only at h2;rw[ew B]at h2
 cases hr:JF l q.at_ s.at_ with
 | none=>grind
 | some R=>
  grind
theorem Zk{a:Int}{x:iF}(h:Ao l s a=some (s',x)):∃R,yN l s.at_=some R/\
  (R.2.2.1≠0->s'={s with e:=R.2.2.1,pos:=R.2.2.2}/\x=⟨[],0⟩)/\(¬ R.2.2.1≠0->(0<=R.2.1/\R.2.1<=l.length)/\s'=eg l {s with at_:=R.2.1} Xv/\x=⟨R.1,a⟩):=by
 unfold Ao at h
 cases hr:yN l s.at_ with
 | none=>grind
 | some R=>
  grind
theorem aoY{e:Int}(B:e≠0)(h:(jV l s e).e=0):False:=by
 unfold jV at h
 grind
theorem aiO{t:ByteArray}(h:(eg l s t).e=0):vt l s.at_ t=true:=by
 unfold eg at h
 split at h
 .grind
 exact(aoY er h).elim
theorem awt{t:ByteArray}:(iW l s t).1.e=s.e:=by unfold iW;grind
theorem Zl{e:Int}(h:s.e≠0):(jV l s e).e≠0:=by unfold jV;grind
theorem UG{t:ByteArray}(h:s.e≠0):(eg l s t).e≠0:=by
 unfold eg;rw[ew dH];exact Zl h
theorem RR:∀{m:Nat}{more:Bool}{s s':gF}{x:List cG},s.e≠0->qV l nb m more s=some (s',x)->s'.e≠0
 | 0,_,_,_,_,_,h=>by cases h
 | m+1,more,s,s',x,B,h=>by
  have:=JH h dH
  grind
theorem RS{x:List cG}(B:s.e≠0)(h:oo l nb s=some (s',x)):s'.e≠0:=by
 obtain⟨E,h1,h2,_⟩:=AZ h
 rw[h2];exact UG (RR B h1)
theorem UH{x:List ByteArray}(B:s.e≠0)(h:DZ l s=some (s',x)):s'.e≠0:=by
 cases h1:(iW l s Zf).2 with
 | true=>obtain⟨ys,h2,_⟩:=L7 h h1;exact RS (by rw[awt];exact B) h2
 | false=>rw[(RQ h h1).1];exact B
end
theorem KA{α β:Type}{f:α->β}{l:List α}{k:Nat}{e:α}(h:l[k]?=some e):(l.take k).map f++[f e]=(l.take (k+1)).map f:=by
 rw[<- gI h,List.map_append];rfl
def RT{l:List bP}{s s':gF}{x:List cE}(h:UE l s=some (s',x))(h1:(iW l s ⟨#[114,101,99,111,118,101,114]⟩).2=true):∃y,vx l (iW l s ⟨#[114,101,99,111,118,101,114]⟩).1 ⟨#[]⟩ (Ch l (iW l s ⟨#[114,101,99,111,118,101,114]⟩).1)=some (s',y)/\x=[y]:=by
 unfold UE at h;rw[ez h1]at h
 obtain⟨q,y,h2,h3⟩:=eV h
 grind
theorem Xw{l:List bP}{s s':gF}{x:List cE}(h:UE l s=some (s',x))(h1:(iW l s ⟨#[114,101,99,111,118,101,114]⟩).2=false):s'=s/\x=[]:=by
 unfold UE at h;grind
theorem Zm{t:ByteArray}{l:List bP}{e a:Int}{R:bQ×Int×Int}(h:yk t=some R)(B:yK t=some (l,e,a))(E:e≠0):R=(D0,e,a):=by
 unfold yk at h;rw[B]at h
 simp only[nY]at h
 rw[ez E]at h;exact(o5.inj h).symm
theorem UI{t:ByteArray}{R:bQ×Int×Int}(h:yk t=some R):∃l e a,yK t=some (l,e,a):=by
 unfold yk at h
 cases hs:yK t with
 | none=>rw[hs]at h;cases h
 | some L=>exact⟨L.1,L.2.1,L.2.2,rfl⟩
structure aoZ(l:List bP)(R:bQ×Int×Int)(t1 t2 t3 t4 t5 t6:gF)(y1:List (List cG))(y2 y3:List (List cG))(y4 y5:List cE)(y6:List iF):Prop where
 h1:oa l aey (oo l true) 10000 (we 0)=some (t1,y1)
 h2:oa l aoW (oo l true) 10000 t1=some (t2,y2)
 h3:oa l aez (oo l false) 10000 t2=some (t3,y3)
 h4:oa l N4 (aoX l) 10000 t3=some (t4,y4)
 h5:UE l t4=some (t5,y5)
 h6:oa l N5 (λs=>Ao l s (Ch l s)) 10000 t5=some (t6,y6)
 b1:y1.length<=1000000
 b2:y2.flatten.length<=1000000
 b3:y3.flatten.length<=1000000
 b4:y4.length<=1000000
 b6:y6.length<=1000000
 bad:(Kz l t6).e≠0->R=(D0,(Kz l t6).e,(Kz l t6).pos)
 aDi:¬ (Kz l t6).e≠0->R=(⟨y1,y2.flatten,y3.flatten,y4,y5,y6⟩,0,0)
def aeD{t:ByteArray}{l:List bP}{e a:Int}{R:bQ×Int×Int}(h:yk t=some R)(hs:yK t=some (l,e,a))(he:¬ e≠0):∃Y t2 J M I V B U W Z O G,aoZ l R Y t2 J M I V B U W Z O G:=by
 unfold yk at h;rw[hs]at h
 simp only[nY]at h
 rw[ew he]at h
 obtain⟨Y,B,h1,h⟩:=eV h
 obtain⟨t2,U,h2,h⟩:=eV h
 obtain⟨J,W,h3,h⟩:=eV h
 obtain⟨M,Z,h4,h⟩:=eV h
 obtain⟨I,O,h5,h⟩:=eV h
 obtain⟨V,G,h6,h⟩:=eV h
 dsimp only at h
 split at h
 .cases h
 rename_i hb
 simp only[not_or,Nat.not_lt]at hb
 refine⟨Y,t2,J,M,I,V,B,U,W,Z,O,G,h1,h2,h3,h4,h5,h6,hb.1,hb.2.1,hb.2.2.1,hb.2.2.2.1,hb.2.2.2.2,λE=>?_,λE=>?_⟩
 .rw[ez E]at h;exact(o5.inj h).symm
 rw[ew E]at h;exact(o5.inj h).symm
theorem aiP{l:List bP}{s s':gF}{x:List cE}(B:mq l s)(h:UE l s=some (s',x)):mq l s':=by
 cases h1:(iW l s ⟨#[114,101,99,111,118,101,114]⟩).2 with
 | true=>obtain⟨y,h2,_⟩:=RT h h1;exact JI (lh B) h2
 | false=>rw[(Xw h h1).1];exact B
theorem D2{α:Type}{a:List (List α)}{b:List α}:(a++[b]).flatten=a.flatten++b:=et
def Xx{α:Type}{y a c:List (List α)}{b:List α}(h:y=a++b::c):a.flatten.length+b.length<=y.flatten.length:=dH
def C199(l:List bP)(lv:Value)(i op:Int)(R:List bD×Int×Int×Int)(w:World)(hL:dP (λ_=>True) w lv l)(M:jE l)(h0:0<=i/\i<=l.length)(ld:0<=op/\op<l.length)(hr:JF l i op=some R):CR 199 [lv,iE i,iE op] w (λv w'=>∃Y:SV,v=.tuple #[jj Y,iE R.2.1,iE R.2.2.1,iE R.2.2.2]/\mf (ep λw=>DL w (jj Y) R.1) w w'):=by
 have G6:=M.n;have hn:l.length<=1000000:=cU
 have wg:=M.at_;obtain⟨s9,add,OJ,Z0,hR⟩:=aiM hr;obtain⟨lsv,V⟩:=hL.fK;have B:=St.start w;refine pG Tryz.func199 (pl:=azT) ?_;rw[V];refine pop (S9 _ _ _ _) (kL B λawu _ B=>?_);obtain⟨p,rfl⟩:∃p,p=awu:=⟨_,rfl⟩;have B:=B.enc (cs':=eG (jj lsv) (.slice none 0 0) (we i)) rfl;rw[<- V]at B |-;have hT:∀w',gZ bE w w'->dP (λ_=>True) w' lv l:=λ_ hc=>hL.ext hc;have B:=((B.fw (Φ:=λw=>jx ([]:List bF) ([]:List bD) w/\noQ w) λ_=>⟨jx.nil,trivial⟩).eU (α:=bF)).p2;have B:=pT.shut B;refine⟨λmm w'=>∃(E:gF) (I a2:List bD),mq l E/\vw l (λs=>GG l (blF l 20) s 0 0) mm E=some (s9,a2)/\add=I++a2/\St w bE [pT p lv E (([]:List bD)++I) noQ] w',⟨10000,we i,[],add,(show mq l (we i)from h0),OJ,rfl,by rw[rM];exact B⟩,?_⟩
 rintro mm _ ⟨E,I,a2,RN,FT,W,B⟩ _;obtain⟨m,rfl⟩:=L4 FT;obtain⟨Z,G,B⟩:=pT.open B;have O:G.length=(([]:List bD)++I).length:=B.p2.ep.1.1;rw[lJ]at O;refine⟨λjv w'=>jv=.bool (decide (E.e=0)&&!vt l E.at_ pC)/\St w bE [bU p (eG lv Z E),bG Z G,ep λw=>jx G (([]:List bD)++I) w/\noQ w] w',aD (aA lQ (have B:=B.drew;aB kh B.hb rfl (aI (aC (λU=>aD (aA iX (aB jI B.hb rfl (aD (aA fo (aB bL B.hb rfl (aY yr B (C196 _ l E.at_ (jY #[125]) _ (hT _ B.aG) hn) λ_ _ B=>bJ (have B:=B.p2.p2.p2;⟨vb (by first|(rw[fY U];rfl)|(rw[gk U];rfl)),B⟩)))))))) λU=>have B:=B.p2.p2.p2;⟨vb (by first|(rw[fY U];rfl)|(rw[gk U];rfl)),B⟩)))),?_⟩
 rintro _ _ ⟨rfl,B⟩ _;refine aX (λu9=>?_) (λu9=>?_)
 .obtain⟨s3,a1,a3,ho,OI,rfl⟩:=N1 FT u9;have B:=pT.shut B.p2.p2.p2;refine aT ajN B (H':=λ_=>pT p lv s3 ((([]:List bD)++I)++a1) noQ) (Φ:=λ_ _=>True) (λF2 ed dQ=>?_) ?_
  .exact(C285 p lv l E 20 0 0 (([]:List bD)++I) s3 a1 noQ F2 _ ed (λw' hc=>hT w' (dQ w' hc).aG) M RN (awr M 20) cU cU (by have:=gD List.length W;simp at this |-;omega) ho).mono λ_ _ r=>r.mono λ_ _ h=>⟨trivial,h.2⟩
  rintro _ _ _ B;exact⟨_,cU,s3,I++a1,a3,UB (λ_ _ _ _ _ c e=>UC c e) RN ho,OI,by rw[W,o1],by rw[<- o1];exact B⟩
 obtain⟨e9,rfl⟩:=JE FT u9;replace e9:=e9.symm;subst e9;rw[rM]at W;subst W;obtain⟨aDk,aDl⟩:=id RN;simp only[x7,uf]at O;refine aT Bn B (H':=λ_=>bU p (eG lv Z (eg l E (jY #[125])))) (Φ:=λ_ _=>True) (λF2 ed dQ=>?_) ?_
 .exact(C286 p lv Z l E (jY #[125]) F2 _ ed (λw' hc=>hT w' (dQ w' hc).aG) M RN).mono λ_ _ r=>r.mono λ_ _ h=>⟨trivial,h.2⟩
 rintro _ _ _ B;refine aD (aA lQ (aB kh B.hb rfl (cN (aC (λDm=>?_) λDm=>aD (aA rD (aB ou B.hb rfl (aK gX B.p1.fc (eh (aC (λQC=>?_) λQC=>?_)))))))))
 .refine aD (aA lQ (have B:=B.drew;aB kh B.hb rfl (aD (aA CP (aB bL B.hb rfl ?_)))));have J:R=([],0,(eg l E pC).e,(eg l E pC).pos):=hR.1 Dm;rw[J];exact⟨bO,rfl,(B.fw (Φ:=λw=>DL w (jj (bO:SV)) ([]:List bD)) λw=>DL.nil w).fresh⟩
 .obtain⟨Wi,vL⟩:=gx l (i:=op.toNat) cU;refine aW gy hL cU vL (λ_ IQ=>cL Wi.at_ mB IQ rfl rfl λ_ IS=>have B:=B.drew;aE bL (IS.ext B.aG) ?_);have J:R=([],0,2,Wi.at_):=(hR.2.1 Dm cU).trans (by rw[D1 ld.1 vL]);rw[J];exact⟨bO,rfl,(B.fw (Φ:=λw=>DL w (jj (bO:SV)) ([]:List bD)) λw=>DL.nil w).fresh⟩
 refine aD (aA rD (have B:=B.drew;aB ou B.hb rfl (aD (aA fo (aB bL B.hb rfl ?_)))));have B:=(B.drop.p1.cS (Ψ:=jx G ([]++add)) λ_ h=>h.1).p1;have B:=St.zE B;obtain⟨Y,hsv⟩:=B.mW;subst hsv;rw[hR.2.2 Dm cU];exact⟨Y,rfl,B.kV.fresh⟩
def C102(p:Nat)(lv:Value)(l:List bP)(s:gF)(nb:Bool)(s2:gF)(x:List cG)(F:Nat->Prop)(w:World)(hF:(bU p (eH lv s)).p w F)(M:∀w',gZ F w w'->dP (λ_=>True) w' lv l)(U:jE l)(h0:mq l s)(hr:oo l nb s=some (s2,x)):CR 102 [(.pointer (some ⟨p,0,none⟩)),.bool nb] w (λv w'=>ng F (sep (bU p (eH lv s2)) (bG v x)) w w'):=by
 have B:=St.begin hF;obtain⟨s9,hn0,e2,Z0⟩:=AZ hr;have G6:=U.n;have hn:l.length<=1000000:=cU
 have wg:=U.at_;obtain⟨Xj,Xk⟩:=id h0;refine pG Tryz.func102 (pl:=azr) ?_;refine bV ([]:List cG) B qq rfl rfl (ei rfl) (λBb _ B=>?_);have B:=B.p1.p1;refine⟨λmm o mo w'=>∃(E:gF) (b:Bool) (Z a2:List cG),mo=.bool b/\mq l E/\qV l nb mm b E=some (s9,a2)/\x=Z++a2/\St w F [bG o Z,bU p (eH lv E)] w',⟨10000,s,true,[],x,rfl,h0,hn0,rfl,B⟩,?_⟩;rintro mm BJ _ w2 ⟨E,b,Z,a2,rfl,O,W,hx,B⟩ _;obtain⟨m,rfl⟩:=RO W;obtain⟨aDk,aDl⟩:=id O;refine⟨λjv w'=>jv=.bool (b&&decide (E.e=0))/\w2=w',aX (λD3=>aD (aA nn (aB kh B.p1.hb rfl (aI ⟨vb (by first|(rw[D3];rfl)|(rw[D3];rfl)),rfl⟩)))) (λD3=>⟨vb (by first|(rw[D3];rfl)|(rw[D3];rfl)),rfl⟩),?_⟩
 rintro _ _ ⟨rfl,hw⟩ _;subst hw;refine aX (λdK=>?_) (λdK=>?_)
 .obtain⟨a3,hn3,rfl⟩:=Zg W dK;refine aT ajz B.p1 (H':=λ_=>bU p (eH lv (fp l E).1)) (Φ:=λv _=>v=jj (fp l E).2) (λJ I G=>?_) ?_
  .exact C103 p lv l E J _ I (λw' hc=>M w' (G w' hc).aG) U O
  rintro _ _ rfl B;refine aJ B pO (λawv _ B=>aH (x:=(fp l E).2) B mU rfl rfl λ_ B=>⟨λw'=>St w F [bU p (eH lv (ma l nb E).1),bU awv (jl (ma l nb E).2),bG BJ Z] w',⟨_,aX (λyl=>?_) (λyl=>?_),λ_ _ h=>h⟩,?_⟩)
  .refine aT Bm B.p1 (H':=λ_=>bU p (eH lv (iW l (fp l E).1 (jY #[61])).1)) (Φ:=λv _=>v=.bool (iW l (fp l E).1 (jY #[61])).2) (λJ I G=>?_) ?_
   .exact C101 p lv l (fp l E).1 (jY #[61]) J _ I (λw' hc=>M w' (G w' hc).aG) U (xw O)
   rintro _ _ rfl B;intro Ig;refine aX (λji=>?_) (λji=>?_)
   .have hq:=lh (t:=jY #[61]) (xw O);obtain⟨Y,hq1⟩:=id hq;refine⟨λjv w'=>jv=.bool (N3 l (iW l (fp l E).1 (jY #[61])).1)/\St w F [bU p (eH lv (iW l (fp l E).1 (jY #[61])).1),bU awv (jl (fp l E).2),bG BJ Z] w',aD (aA fS (have B:=B.drew;aB bL B.hb rfl (aD (aA kR (aB jI B.hb rfl (aK gy (M _ B.aG) (aV (aC (λn7=>?_) λn7=>have B:=B.p2.p2.p2;⟨vb (by unfold N3 mJ;rw[ez Y,List.getElem?_eq_none cU]),B⟩)))))))),?_⟩
    .refine aD (aA kR (aB jI B.hb rfl (aD (aA fS (aB bL B.hb rfl ?_)))));obtain⟨aww,aeE⟩:=gx l (i:=(((iW l (fp l E).1 (jY #[61])).1).at_).toNat) cU;exact aW gy (M _ B.aG) cU aeE (λ_ aeF=>cL aww.kind mA aeF rfl rfl λ_ acb=>aE bL acb (aI (have B:=B.p2.p2.p2;⟨vb (by unfold N3 mJ;rw[ez Y,aeE]),B⟩)))
    rintro _ _ ⟨rfl,B⟩ _;refine aX (λyB=>?_) (λyB=>?_)
    .obtain⟨tk,hnt,Nq,_,hqlt⟩:=aiN yB;have FW:qD l (iW l (fp l E).1 (jY #[61])).1.at_=tk:=D1 Y Nq;refine aD (aA kR (have B:=B.drew;aB jI B.hb rfl (aD (aA fS (aB bL B.hb rfl (aW gy (M _ B.aG) cU Nq λ_ IS=>cL tk.n tL IS rfl rfl λ_ awx=>aE bL awx (aA CL (aO B.p1 bL (ei rfl) (rfl) λ_ B=>have B:=B.enc (cs':=jl ({ (fp l E).2 with n:=tk.n}:cG)) rfl;aD (aA fS ?_)))))))));refine aB bL B.p1.hb rfl (aR cU (aD (aA fS (aO B.p1 bL (ei rfl) (rfl) λ_ B=>?_))))
     have B:=B.p2.p2.p2;have V:(ma l nb E)=(Zd (iW l (fp l E).1 (jY #[61])).1,{ (fp l E).2 with n:=tk.n}):=(Zi yl ji yB).trans (by rw[FW]);rw[V];exact B
    refine aT Vt B (H':=λ_=>bU p (eH lv (jV l (iW l (fp l E).1 (jY #[61])).1 5))) (Φ:=λ_ _=>True) (λJ I G=>?_) ?_
    .exact(C106 p lv l (iW l (fp l E).1 (jY #[61])).1 J _ I (λw' hc=>M w' (G w' hc).aG) U (lh (xw O))).mono λ_ _ r=>r.mono λ_ _ h=>⟨trivial,h.2⟩
    rintro _ _ _ B;have B:=B.p2.p2.p2;have V:=Zj yl ji yB;rw[V];exact B
   have B:=B.p2.p2.p2;have V:=aeB (nb:=nb) ji;rw[V];exact B
  .intro Ig;refine eX ?_;have B:=B.p2.p1.p2;have V:=aeC (l:=l) (s:=E) yl;rw[V];exact B
  intro _ B _;refine aE mU B.p1.At (bV ([(ma l nb E).2]) B qq rfl rfl (ei rfl) λawm _ B=>?_);have ao0:=B.fc;refine cK B.p3 qq ao0 (by have:=gD List.length hx;simp at this |-;omega) er (λs_x75 _ B=>have B:=B.p1.drop;aT Bm B.p1 (H':=λ_=>bU p (eH lv (iW l (ma l nb E).1 (jY #[44])).1)) (Φ:=λv _=>v=.bool (iW l (ma l nb E).1 (jY #[44])).2) (λJ I G=>?_) ?_)
  .exact C101 p lv l (ma l nb E).1 (jY #[44]) J _ I (λw' hc=>M w' (G w' hc).aG) U (JG O)
  rintro _ _ rfl B;have B:=B.p2.drop.p1;exact⟨_,cU,(iW l (ma l nb E).1 Fo).1,(iW l (ma l nb E).1 Fo).2,Z++[(ma l nb E).2],a3,rfl,lh (JG O),hn3,by rw[hx,o1];rfl,B⟩
 obtain⟨e9,rfl⟩:=JH W dK;replace e9:=e9.symm;subst e9;rw[rM]at hx;subst hx;refine aT aaE B.p1 (H':=λ_=>bU p (eH lv (eg l E (jY #[59])))) (Φ:=λ_ _=>True) (λJ I G=>?_) ?_
 .exact(C197 p lv l E (jY #[59]) J _ I (λw' hc=>M w' (G w' hc).aG) U O).mono λ_ _ r=>r.mono λ_ _ h=>⟨trivial,h.2⟩
 rintro _ _ _ B;have B:=B.p1.p1;rw[e2];exact(St.join B).mut
def C104(p:Nat)(lv:Value)(l:List bP)(s:gF)(nm:ByteArray)(a:Int)(s2:gF)(x:cE)(F:Nat->Prop)(w:World)(hF:(bU p (eH lv s)).p w F)(hT:∀w',gZ F w w'->dP (λ_=>True) w' lv l)(G:jE l)(J:mq l s)(hr:vx l s nm a=some (s2,x)):CR 104 [(.pointer (some ⟨p,0,none⟩)),jj (⟨nm,bO,bO,a⟩:cI)] w (λv w'=>ng F (ph λsh:cI=>fact (v=jj sh) (sep (bU p (eH lv s2)) (ep λw=>n4 w sh x))) w w'):=by
 have B:=St.begin hF;obtain⟨q,rs,Gd,tf,Gw⟩:=UF hr;have Y:=RP (gq J) Gd;obtain⟨hqi0,hqi1⟩:=id Y;have G6:=G.n;have hn:l.length<=1000000:=cU
 have wg:=G.at_;obtain⟨Xj,Xk⟩:=id J;refine pG Tryz.func104 (pl:=azt) ?_;refine cP (x:=(⟨nm,bO,bO,a⟩:cI)) B (λE _ B=>aJ B qZ λQ6 _ B=>have B:=B.enc (cs':=jl (⟨(jY #[]),bO,bO,0⟩:cI)) rfl;aD (aA fS (aB bL B.p2.hb rfl (aT aaE B.p2 (H':=λ_=>bU p (eH lv (eg l s (jY #[123])))) (Φ:=λ_ _=>True) (λW O M=>?_) ?_))))
 .exact(C197 p lv l s (jY #[123]) W _ O (λw' hc=>hT w' (M w' hc).aG) G J).mono λ_ _ r=>r.mono λ_ _ h=>⟨trivial,h.2⟩
 rintro _ _ _ B;refine⟨λw'=>∃rv:SV,St w F [bG (jj rv) rs,bU E (jl (⟨nm,rv,bO,a⟩:cI)),bU Q6 (jl (⟨(jY #[]),bO,bO,0⟩:cI)),bU p (eH lv q)] w',?_,?_⟩
 .refine aT Bm B (H':=λ_=>bU p (eH lv (iW l (eg l s (jY #[123])) (jY #[114,101,103])).1)) (Φ:=λv _=>v=.bool (iW l (eg l s (jY #[123])) (jY #[114,101,103])).2) (λW O M=>?_) ?_
  .exact C101 p lv l (eg l s (jY #[123])) (jY #[114,101,103]) W _ O (λw' hc=>hT w' (M w' hc).aG) G (gq J)
  rintro _ _ rfl B;refine aX (λjh=>?_) (λjh=>?_)
  .obtain⟨ys,V,hrs⟩:=L7 Gd jh;have hyl:ys.length<=1000000:=by obtain⟨_,_,_,h⟩:=AZ V;exact h
   refine aT Vs B (H':=λv=>sep (bU p (eH lv q)) (bG v ys)) (Φ:=λ_ _=>True) (λW O M=>?_) ?_
   .exact(C102 p lv l (iW l (eg l s (jY #[123])) (jY #[114,101,103])).1 false q ys W _ O (λw' hc=>hT w' (M w' hc).aG) G (lh (gq J)) V).mono λ_ _ r=>r.mono λ_ _ h=>⟨trivial,h⟩
   rintro x21 _ _ B;have B:=(((((B.split.eU (α:=ByteArray)).p1).p3).p3).p4).p4;refine⟨λmm i w'=>∃(j:Nat) (rv:SV),i=iE (j:Int)/\mm=ys.length-j/\j<=ys.length/\St w F [bG (jj rv) ((ys.take j).map cG.name),bU E (jl (⟨nm,rv,bO,a⟩:cI)),bG x21 ys,bU Q6 (jl (⟨(jY #[]),bO,bO,0⟩:cI)),bU p (eH lv q)] w',⟨_,0,bO,rfl,rfl,ob _,B⟩,?_⟩;rintro mm _ _ ⟨j,rv,rfl,rfl,hj,B⟩ _;refine aK qq B.p2.fc (aV (aC (λji=>?_) λji=>?_))
   .refine aA kP (have B:=B.drew;aB (v:=jj (rv:SV)) nf B.p1.hb rfl ?_);obtain⟨Z,U⟩:=gx ys (i:=(j:Int).toNat) cU;refine dN B.p2 qq cU cU (λ_ Dh=>mD ox Dh λ_ Bs=>tP Z.name B.p2 ke Bs U rfl (bV ([Z.name]) B kN rfl rfl (ei rfl) λs_x35 _ B=>?_));refine⟨aF nf (B.p2.hb.cell rfl),?_⟩;have ao2:=B.fc;refine cK B.p1 kN ao2 (by simp;omega) er (λs_x36 _ B=>have B:=B.p1.drop;aA kP ?_);obtain⟨I,rfl⟩:=B.fK;exact aO B.p1 nf (ei rfl) (rfl) (λ_ B=>have B:=B.enc (cs':=jl (⟨nm,I,bO,a⟩:cI)) rfl;aR cU (have B:=B.p4.p4.p4.p3.p4;⟨_,cU,j+1,I,rfl,rfl,cU,by rw[<- KA (k:=j) U];exact B⟩))
   have B:=B.p2.drop.p3.p3.p3.p3;rw[List.take_of_length_le cU]at B;rw[hrs];exact⟨rv,B⟩
  have B:=((((B.eU (α:=ByteArray)).p1).p2).p3).p3;obtain⟨e1,e3⟩:=RQ Gd jh;rw[Ap jh]at B;rw[e1,e3];exact⟨bO,B⟩
 rintro _ ⟨rv,B⟩ _;refine⟨λw'=>∃(rv bv:SV) (body:List bD),x=⟨nm,rs,body,a⟩/\St w F [bG (jj rv) rs,ep (λw=>DL w (jj bv) body),bU E (jl (⟨nm,rv,bv,a⟩:cI)),bU Q6 (jl (⟨(jY #[]),bO,bO,0⟩:cI)),bU p (eH lv s2)] w',aD (aA nn (aB kh B.p3.hb rfl (aI (aC (λpx=>?_) λpx=>?_)))),?_⟩
 .obtain⟨R,hR,hR0,hR1,e2,hx⟩:=Gw cU;have I9:(eg l s Gj).e=0:=DY.1 λhh=>UH hh Gd cU;have ld:=uy (aiO I9);refine aD (aA kR (have B:=B.drew;aB jI B.p3.hb rfl (aD (aA fS (aB bL B.p3.hb rfl (eC are (C199 l _ q.at_ s.at_ R _ (hT _ B.aG) G Y ld hR) ?_))))));rintro _ _ ⟨Ue,rfl,cA⟩;have B:=B.made cA;refine aN rfl (aN rfl (aN rfl (aN rfl (aA tG (aO B.p2 ou (ei rfl) (rfl) λ_ B=>have B:=B.enc (cs':=jl (⟨nm,rv,Ue,a⟩:cI)) rfl;aD (aA fS (aO B.p4 bL (ei rfl) (rfl) λ_ B=>aD (aA nn (aO B kh (ei rfl) (rfl) λ_ B=>aD ?_)))))))))
  refine aA zu (aO B bL (ei rfl) (rfl) λ_ B=>?_);have B:=B.p4.p2.p3.p4;rw[e2];exact⟨rv,Ue,R.1,hx,B⟩
 .have B:=B.fw (Φ:=λw=>DL w (jj (bO:SV)) ([]:List bD)) λw=>DL.nil w;have B:=B.p4.p4.p4.p3.p4;obtain⟨e2,hx⟩:=tf px;rw[e2];exact⟨rv,bO,[],hx,B⟩
 rintro _ ⟨rv,bv,body,rfl,B⟩ _;exact aE lG B.p2.At (aH (x:=(⟨nm,rv,bv,a⟩:cI)) B.p3 lG rfl rfl λ_ B=>aE lG B.At (have B:=B.p1.freeze.p2.p1.fu.cS (Ψ:=(λw=>n4 w (⟨nm,rv,bv,a⟩:cI) (⟨nm,rs,body,a⟩:cE))) (λ_ h=>⟨_,_,rfl,DL.fP h.1,id h.2⟩);have B:=B.p1.drop.p1.drop.p1;(An B).mut))
def C105(p:Nat)(lv:Value)(l:List bP)(s:gF)(a:Int)(O:gF)(x:iF)(F:Nat->Prop)(w:World)(Y:(bU p (eH lv s)).p w F)(M:∀w',gZ F w w'->dP (λ_=>True) w' lv l)(G:jE l)(Z:mq l s)(V:Ao l s a=some (O,x)):CR 105 [(.pointer (some ⟨p,0,none⟩)),iE a] w (λv w'=>ng F (ph λsh:jy=>fact (v=jj sh) (sep (bU p (eH lv O)) (ep λw=>n4 w sh x))) w w'):=by
 have B:=St.begin Y;obtain⟨R,I,tf,Gw⟩:=Zk V;have G6:=G.n;have hn:l.length<=1000000:=cU
 have wg:=G.at_;obtain⟨Xj,Xk⟩:=id Z;refine pG Tryz.func105 (pl:=azu) ?_;refine aJ B MP (λQ6 _ B=>have B:=B.enc (cs':=jl (⟨bO,0⟩:jy)) rfl;aD (aA kR (have B:=B.drew;aB jI B.p1.hb rfl (aD (aA fS (aB bL B.p1.hb rfl (eC ajI (C200 l _ s.at_ R _ (M _ B.aG) G cU I) ?_)))))));rintro _ _ ⟨E,rfl,cA⟩;have B:=B.made cA;refine aN rfl (aN rfl (aN rfl (aN rfl (cN (aC (λJ=>?_) λJ=>?_)))))
 .obtain⟨rfl,rfl⟩:=tf J;exact aD (aA nn (aO B.p2 kh (ei rfl) (rfl) λ_ B=>aD (aA zu (aO B bL (ei rfl) (rfl) λ_ B=>pop (v:=jj (⟨bO,0⟩:jy)) (by kernel_rfl) (aH (x:=(⟨bO,0⟩:jy)) B.p2 HF rfl rfl λ_ B=>aE HF B.At (have B:=B.fw (Φ:=(λw=>n4 w (⟨bO,0⟩:jy) (⟨[],0⟩:iF))) (λ_=>⟨_,rfl,DL.nil _⟩);have B:=B.p1.drop.p2.drop.p1;(An B).mut))))))
 obtain⟨W,rfl,rfl⟩:=Gw J;refine aD (aA fS (aO B.p2 bL (ei rfl) (rfl) λ_ B=>have B:=B.enc (cs':=eH lv ({s with at_:=R.2.1}:gF)) rfl;aT aaE B (H':=λ_=>bU p (eH lv (eg l ({s with at_:=R.2.1}:gF) (jY #[59])))) (Φ:=λ_ _=>True) (λF2 U dQ=>?_) ?_))
 .exact(C197 p lv l ({s with at_:=R.2.1}:gF) (jY #[59]) F2 _ U (λw' hc=>M w' (dQ w' hc).aG) G (show mq l ({s with at_:=R.2.1}:gF)from W)).mono λ_ _ r=>r.mono λ_ _ h=>⟨trivial,h.2⟩
 rintro _ _ _ B;exact pop (La _ _ _ _) (aH (x:=(⟨E,a⟩:jy)) B.p2 HF rfl rfl λ_ B=>aE HF B.At (have B:=B.p2.cS (Ψ:=(λw=>n4 w (⟨E,a⟩:jy) (⟨R.1,a⟩:iF))) (λ_ h=>⟨_,rfl,id h⟩);have B:=B.p1.drop.p1;(An B).mut))
def C44(s:ByteArray)(R:bQ×Int×Int)(w:World)(hz1:s.size<=1000000)(hr:yk s=some R)(hTk:∀l e a,yK s=some (l,e,a)->jE l):CR 44 [.string s] w (λv w'=>∃pv:bT,v=.tuple #[jj pv,iE R.2.1,iE R.2.2]/\mf (ep λw=>n4 w pv R.1) w w'):=by
 obtain⟨l,e,a,hsc⟩:=UI hr;have Y:=hTk l e a hsc;have G6:=Y.n;have hn:l.length<=1000000:=cU
 have wg:=Y.at_;have B:=St.start w;refine pG Tryz.func44 (pl:=P44) ?_;refine aJ B xJ (λqt _ B=>have B:=B.enc (cs':=jl (⟨bO,bO,bO,bO,bO,bO⟩:bT)) rfl;eC aqS (C100 s (l,e,a) _ hz1 hsc) ?_);rintro _ _ ⟨lv,rfl,cA⟩;have B:=B.made cA;refine aN rfl (aN rfl (aN rfl (cN (aC (λkz=>?_) λkz=>?_))))
 .refine pop (v:=jj (⟨bO,bO,bO,bO,bO,bO⟩:bT)) (by kernel_rfl) (aH (x:=(⟨bO,bO,bO,bO,bO,bO⟩:bT)) B.p1 gO rfl rfl λ_ B=>aE gO B.At ?_);have B:=B.fw (Φ:=(λw=>n4 w (⟨bO,bO,bO,bO,bO,bO⟩:bT) (⟨[],[],[],[],[],[]⟩:bQ))) (λ_=>⟨_,_,_,_,_,_,rfl,DL.nil _,DL.nil _,DL.nil _,DL.nil _,DL.nil _,DL.nil _⟩);have B:=B.p1.drop.p1.drop;rw[Zm hr hsc kz];exact⟨_,rfl,B.fresh⟩
 obtain⟨t1,t2,t3,t4,t5,t6,y1,y2,y3,y4,y5,y6,hp⟩:=aeD hr hsc kz;obtain⟨lsv,hlv⟩:=B.fK;rw[hlv];refine pop (aa2 _ _ _) (kL B λFV _ B=>pop (v:=jj (⟨bO,bO,bO,bO,bO,bO⟩:bT)) (by kernel_rfl) (aJ B xJ λUJ _ B=>have B:=B.enc (cs':=jl (⟨bO,bO,bO,bO,bO,bO⟩:bT)) rfl;aH (x:=(⟨bO,bO,bO,bO,bO,bO⟩:bT)) B gO rfl rfl λ_ B=>?_));obtain⟨p,rfl⟩:∃p,p=FV:=⟨_,rfl⟩;have B:=B.p1.enc (cs':=eH (jj lsv) (we 0)) rfl;rw[<- hlv]at B |-;have aDn:mq l (we 0):=⟨u4 _,by show(0:Int)<=_;omega⟩;have B:=(((((B.xK (α:=(List cG))).p4).p4).p3).p4).p4
 refine⟨λmm w'=>∃(s0:gF) (M:SV) (xs0 a0:List (List cG)),mq l s0/\oa l aey (oo l true) mm s0=some (t1,a0)/\y1=xs0++a0/\St w bE [fe (jj M) xs0,bU UJ (jl (⟨M,bO,bO,bO,bO,bO⟩:bT)),bU p (eH lv s0),bG lv l,bU qt (jl (⟨bO,bO,bO,bO,bO,bO⟩:bT))] w',⟨10000,we 0,bO,[],y1,aDn,hp.h1,rfl,B⟩,?_⟩;rintro mm _ ⟨s0,M,xs0,a0,hi0,I9,hy0,B⟩ _;obtain⟨m0,rfl⟩:=uB I9;refine aT Bm B.p2 (H':=λ_=>bU p (eH lv (iW l s0 (jY #[108,105,110,101])).1)) (Φ:=λv _=>v=.bool (iW l s0 (jY #[108,105,110,101])).2) (λI G E=>?_) ?_
 .exact C101 p lv l s0 (jY #[108,105,110,101]) I _ G (λw' hc=>(E w' hc).p2.fc) Y hi0
 rintro _ _ rfl B;refine aX (λkD=>?_) (λkD=>?_)
 .obtain⟨q0,z0,b0,Wv,hn0,rfl⟩:=Aq I9 kD;refine aA nT (have B:=B.drew;aB (v:=jj (M:SV)) zh B.p2.hb rfl (aT Vs B (H':=λv=>sep (bU p (eH lv q0)) (bG v z0)) (Φ:=λ_ _=>True) (λI G E=>?_) ?_))
  .exact(C102 p lv l (iW l s0 (jY #[108,105,110,101])).1 true q0 z0 I _ G (λw' hc=>(E w' hc).p2.fc) Y (lh hi0) Wv).mono λ_ _ r=>r.mono λ_ _ h=>⟨trivial,h⟩
  rintro x31 _ _ B;have B:=B.split;refine⟨aF zh (B.p3.hb.cell rfl),?_⟩;obtain⟨aeJ,rfl⟩:=B.p1.fK;have B:=B.p1.freeze.cS (Ψ:=λw=>n4 w aeJ z0) (λ_ h=>DL.fP h);refine fH (s:=aeJ) (x:=z0) B BN er (λs_x32 _ B=>?_);refine⟨aF zh (B.p3.hb.cell rfl),?_⟩;have B:=B.p2;refine fI B BN (by have h1:=gD List.length hy0;have h2:=hp.b1;simp at h1 |-;omega) er (λs_x33 _ B=>aA nT ?_);obtain⟨z9,rfl⟩:=B.mW;exact aO B.p2 zh (ei rfl) (rfl) (λ_ B=>have B:=((((B.enc (cs':=jl (⟨z9,bO,bO,bO,bO,bO⟩:bT)) rfl).p4).p4).p4).p3;have B:=B.p4;⟨_,cU,q0,z9,xs0++[z0],b0,A0 (lh hi0) Wv,hn0,by rw[hy0,o1];rfl,B⟩)
 obtain⟨U,rfl⟩:=xy I9 kD;replace U:=U.symm;subst U;rw[rM]at hy0;subst hy0;rw[Ap kD]at B;have B:=((((((B.eU (α:=cG)).p5).p5).p3).p5).p5).p5;refine⟨λmm w'=>∃(s1:gF) (O:SV) (xs1 a1:List (List cG)),mq l s1/\oa l aoW (oo l true) mm s1=some (t2,a1)/\y2=xs1++a1/\St w bE [bG (jj O) xs1.flatten,fe (jj M) y1,bU UJ (jl (⟨M,O,bO,bO,bO,bO⟩:bT)),bU p (eH lv s1),bG lv l,bU qt (jl (⟨bO,bO,bO,bO,bO,bO⟩:bT))] w',⟨10000,s0,bO,[],y2,hi0,hp.h2,rfl,B⟩,?_⟩;rintro mm _ ⟨s1,O,xs1,a1,hi1,hm1,hy1,B⟩ _;obtain⟨m1,rfl⟩:=uB hm1
 refine aT Bm B.p3 (H':=λ_=>bU p (eH lv (iW l s1 (jY #[118,111,108])).1)) (Φ:=λv _=>v=.bool (iW l s1 (jY #[118,111,108])).2) (λI G E=>?_) ?_
 .exact C101 p lv l s1 (jY #[118,111,108]) I _ G (λw' hc=>(E w' hc).p3.fc) Y hi1
 rintro _ _ rfl B;refine aX (λrS=>?_) (λrS=>?_)
 .obtain⟨q1,z1,b1,hd1,hn1,rfl⟩:=Aq hm1 rS;refine aA AD (have B:=B.drew;aB (v:=jj (O:SV)) l4 B.p3.hb rfl (aT Vs B (H':=λv=>sep (bU p (eH lv q1)) (bG v z1)) (Φ:=λ_ _=>True) (λI G E=>?_) ?_))
  .exact(C102 p lv l (iW l s1 (jY #[118,111,108])).1 true q1 z1 I _ G (λw' hc=>(E w' hc).p3.fc) Y (lh hi1) hd1).mono λ_ _ r=>r.mono λ_ _ h=>⟨trivial,h⟩
  rintro x40 _ _ B;have B:=B.split;refine⟨aF l4 (B.p4.hb.cell rfl),?_⟩;have xW:=B.p1.fc;refine cK B.p2 qq xW (by have:=Xx hy1;have:=hp.b2;omega) er (λs_x41 _ B=>have B:=B.p2.drop;aA AD ?_);obtain⟨Nk,rfl⟩:=B.fK;refine aO B.p3 l4 (ei rfl) (rfl) (λ_ B=>?_);have B:=((((B.enc (cs':=jl (⟨M,Nk,bO,bO,bO,bO⟩:bT)) rfl).p5).p5).p4).p3;have B:=B.p5.p5;rw[<- D2]at B;exact⟨_,cU,q1,Nk,xs1++[z1],b1,A0 (lh hi1) hd1,hn1,by rw[hy1,o1];rfl,B⟩
 obtain⟨U,rfl⟩:=xy hm1 rS;replace U:=U.symm;subst U;rw[rM]at hy1;subst hy1;rw[Ap rS]at B;have B:=(((((((B.eU (α:=cG)).p6).p6).p3).p6).p5).p6).p6;refine⟨λmm w'=>∃(s2:gF) (W:SV) (xs2 a2:List (List cG)),mq l s2/\oa l aez (oo l false) mm s2=some (t3,a2)/\y3=xs2++a2/\St w bE [bG (jj W) xs2.flatten,fe (jj M) y1,bG (jj O) y2.flatten,bU UJ (jl (⟨M,O,W,bO,bO,bO⟩:bT)),bU p (eH lv s2),bG lv l,bU qt (jl (⟨bO,bO,bO,bO,bO,bO⟩:bT))] w',⟨10000,s1,bO,[],y3,hi1,hp.h3,rfl,B⟩,?_⟩;rintro mm _ ⟨s2,W,xs2,a2,hi2,hm2,hy2,B⟩ _
 obtain⟨m2,rfl⟩:=uB hm2;refine aT Bm B.p4 (H':=λ_=>bU p (eH lv (iW l s2 (jY #[108,111,99,107])).1)) (Φ:=λv _=>v=.bool (iW l s2 (jY #[108,111,99,107])).2) (λI G E=>?_) ?_
 .exact C101 p lv l s2 (jY #[108,111,99,107]) I _ G (λw' hc=>(E w' hc).p4.fc) Y hi2
 rintro _ _ rfl B;refine aX (λQ4=>?_) (λQ4=>?_)
 .obtain⟨q2,z2,b2,Kx,hn2,rfl⟩:=Aq hm2 Q4;refine aA uV (have B:=B.drew;aB (v:=jj (W:SV)) l4 B.p4.hb rfl (aT Vs B (H':=λv=>sep (bU p (eH lv q2)) (bG v z2)) (Φ:=λ_ _=>True) (λI G E=>?_) ?_))
  .exact(C102 p lv l (iW l s2 (jY #[108,111,99,107])).1 false q2 z2 I _ G (λw' hc=>(E w' hc).p4.fc) Y (lh hi2) Kx).mono λ_ _ r=>r.mono λ_ _ h=>⟨trivial,h⟩
  rintro x48 _ _ B;have B:=B.split;refine⟨aF l4 (B.p5.hb.cell rfl),?_⟩;have ao4:=B.p1.fc;refine cK B.p2 qq ao4 (by have:=Xx hy2;have:=hp.b3;omega) er (λs_x49 _ B=>have B:=B.p2.drop;aA uV ?_);obtain⟨aeK,rfl⟩:=B.fK;refine aO B.p4 l4 (ei rfl) (rfl) (λ_ B=>?_);have B:=((((B.enc (cs':=jl (⟨M,O,aeK,bO,bO,bO⟩:bT)) rfl).p6).p6).p4).p3;have B:=B.p6.p6.p6;rw[<- D2]at B;exact⟨_,cU,q2,aeK,xs2++[z2],b2,A0 (lh hi2) Kx,hn2,by rw[hy2,o1];rfl,B⟩
 obtain⟨U,rfl⟩:=xy hm2 Q4;replace U:=U.symm;subst U;rw[rM]at hy2;subst hy2;rw[Ap Q4]at B;have B:=((((((((B.xK (α:=cE)).p7).p7).p3).p7).p5).p7).p7).p7;refine⟨λmm w'=>∃(J:gF) (v3:SV) (xs3 a3:List cE),mq l J/\oa l N4 (aoX l) mm J=some (t4,a3)/\y4=xs3++a3/\St w bE [fe (jj v3) xs3,fe (jj M) y1,bG (jj O) y2.flatten,bG (jj W) y3.flatten,bU UJ (jl (⟨M,O,W,v3,bO,bO⟩:bT)),bU p (eH lv J),bG lv l,bU qt (jl (⟨bO,bO,bO,bO,bO,bO⟩:bT))] w',⟨10000,s2,bO,[],y4,hi2,hp.h4,rfl,B⟩,?_⟩;rintro mm _ ⟨J,v3,xs3,a3,Z,hm3,hy3,B⟩ _
 obtain⟨m3,rfl⟩:=uB hm3;refine aT Bm B.p5 (H':=λ_=>bU p (eH lv (iW l J (jY #[116,104,114,101,97,100])).1)) (Φ:=λv _=>v=.bool (iW l J (jY #[116,104,114,101,97,100])).2) (λI G E=>?_) ?_
 .exact C101 p lv l J (jY #[116,104,114,101,97,100]) I _ G (λw' hc=>(E w' hc).p5.fc) Y Z
 rintro _ _ rfl B;refine aX (λDW=>?_) (λDW=>?_)
 .obtain⟨q3,z3,b3,hd3,hn3,rfl⟩:=Aq hm3 DW;refine aT ajz B (H':=λ_=>bU p (eH lv (fp l (iW l J (jY #[116,104,114,101,97,100])).1).1)) (Φ:=λv _=>v=jj (fp l (iW l J (jY #[116,104,114,101,97,100])).1).2) (λI G E=>?_) ?_
  .exact C103 p lv l (iW l J (jY #[116,104,114,101,97,100])).1 I _ G (λw' hc=>(E w' hc).p5.fc) Y (lh Z)
  rintro _ _ rfl B;refine aJ B pO (λb_c10 _ B=>aH (x:=(fp l (iW l J (jY #[116,104,114,101,97,100])).1).2) B mU rfl rfl λ_ B=>aA sO (have B:=B.drew;aB (v:=jj (v3:SV)) kf B.p6.hb rfl (aA ox (aB (v:=.string (((fp l (iW l J (jY #[116,104,114,101,97,100])).1).2).name)) ke B.hb rfl (aA CM (aB (v:=iE (((fp l (iW l J (jY #[116,104,114,101,97,100])).1).2).at_)) bL B.hb rfl (pop (S1 _ _) (aT ajA B.p1 (H':=λv=>ph λsh:cI=>fact (v=jj sh) (sep (bU p (eH lv q3)) (ep λw=>n4 w sh z3))) (Φ:=λ_ _=>True) (λI G E=>?_) ?_))))))))
  .exact(C104 p lv l (fp l (iW l J (jY #[116,104,114,101,97,100])).1).1 ((fp l (iW l J (jY #[116,104,114,101,97,100])).1).2).name ((fp l (iW l J (jY #[116,104,114,101,97,100])).1).2).at_ q3 z3 I _ G (λw' hc=>(E w' hc).p6.fc) Y (xw (lh Z)) hd3).mono λ_ _ r=>r.mono λ_ _ h=>⟨trivial,h⟩
  rintro v_x63 _ _ yD;obtain⟨ao6,yU⟩:=yD.dU
  clear yD
  obtain⟨ao7,Co⟩:=yU.lq
  clear yU
  subst ao7;have B:=Co.split
  clear Co
  refine⟨aF kf (B.p7.hb.cell rfl),?_⟩;have B:=B.p1;refine fH (s:=ao6) (x:=z3) B kM er (λavL _ B=>?_);refine⟨aF kf (B.p7.hb.cell rfl),?_⟩;have B:=B.p3;refine fI B kM (by have h1:=gD List.length hy3;have h2:=hp.b4;simp at h1 |-;omega) er (λals _ B=>aA sO ?_);obtain⟨aeL,rfl⟩:=B.mW;exact aO B.p6 kf (ei rfl) (rfl) (λ_ B=>have B:=((((B.enc (cs':=jl (⟨M,O,W,aeL,bO,bO⟩:bT)) rfl).p3).drop).p7).p7;have B:=B.p4.p3.p7.p7.p7.p7;⟨_,cU,q3,aeL,xs3++[z3],b3,JI (xw (lh Z)) hd3,hn3,by rw[hy3,o1];rfl,B⟩)
 obtain⟨U,rfl⟩:=xy hm3 DW;replace U:=U.symm;subst U;rw[rM]at hy3;subst hy3;rw[Ap DW]at B;refine⟨λw'=>∃v4:SV,St w bE [fe (jj v4) y5,fe (jj M) y1,bG (jj O) y2.flatten,bG (jj W) y3.flatten,fe (jj v3) y4,bU UJ (jl (⟨M,O,W,v3,v4,bO⟩:bT)),bU p (eH lv t5),bG lv l,bU qt (jl (⟨bO,bO,bO,bO,bO,bO⟩:bT))] w',?_,?_⟩
 .refine aT Bm B (H':=λ_=>bU p (eH lv (iW l J (jY #[114,101,99,111,118,101,114])).1)) (Φ:=λv _=>v=.bool (iW l J (jY #[114,101,99,111,118,101,114])).2) (λI G E=>?_) ?_
  .exact C101 p lv l J (jY #[114,101,99,111,118,101,114]) I _ G (λw' hc=>(E w' hc).p5.fc) Y Z
  rintro _ _ rfl B;refine aX (λRU=>?_) (λRU=>?_)
  .obtain⟨z4,hd4,hy5⟩:=RT hp.h5 RU;obtain⟨aDr,_,hlo68,hhi68⟩:=aeA RU;have hat68:(iW l J (jY #[114,101,99,111,118,101,114])).1.at_=J.at_+1:=by rw[aDr]
   refine aA uW (have B:=B.drew;aB (v:=jj (bO:SV)) kf B.p5.hb rfl (aD (aA fS (aB bL B.hb rfl (fO cU ?_)))));obtain⟨aeM,aeN⟩:=gx l (i:=(((iW l J (jY #[114,101,99,111,118,101,114])).1).at_-1).toNat) cU;refine dN B.p6 gy cU cU (λ_ aer=>mD mB aer λ_ awz=>tP aeM.at_ B.p6 bL awz aeN rfl (pop (aa1 _) ?_));have SA:Ch l (iW l J (jY #[114,101,99,111,118,101,114])).1=aeM.at_:=gD bP.at_ (D1 cU aeN);rw[SA]at hd4;refine aT ajA B (H':=λv=>ph λsh:cI=>fact (v=jj sh) (sep (bU p (eH lv t5)) (ep λw=>n4 w sh z4))) (Φ:=λ_ _=>True) (λI G E=>?_) ?_
   .exact(C104 p lv l (iW l J (jY #[114,101,99,111,118,101,114])).1 (jY #[]) aeM.at_ t5 z4 I _ G (λw' hc=>(E w' hc).p5.fc) Y (lh Z) hd4).mono λ_ _ r=>r.mono λ_ _ h=>⟨trivial,h⟩
   rintro v_x82 _ _ yD;obtain⟨ao8,yU⟩:=yD.dU
   clear yD
   obtain⟨ao9,Co⟩:=yU.lq
   clear yU
   subst ao9;have B:=Co.split
   clear Co
   refine⟨aF kf (B.p6.hb.cell rfl),?_⟩;have B:=B.p1;refine fH (s:=ao8) (x:=z4) B kM er (λatI _ B=>?_);refine⟨aF kf (B.p6.hb.cell rfl),?_⟩;have B:=((B.xK (α:=cE)).p1).p1;refine fI B kM et er (λatJ _ B=>aA uW ?_);obtain⟨aeO,rfl⟩:=B.mW;refine aO B.p6 kf (ei rfl) (rfl) (λ_ B=>?_);have B:=(((((B.enc (cs':=jl (⟨M,O,W,v3,aeO,bO⟩:bT)) rfl).p8).p8).p4).p3).p5;have B:=B.p8.p8.p8.p8;rw[hy5];exact⟨aeO,B⟩
  rw[Ap RU]at B;have B:=(((((((((B.xK (α:=cE)).p8).p8).p3).p8).p5).p8).p8).p8).p8;obtain⟨e5,e6⟩:=Xw hp.h5 RU;rw[e5,e6];exact⟨bO,B⟩
 rintro _ ⟨v4,B⟩ _;have B:=((((((((((B.xK (α:=iF)).p9).p9).p9).p9).p5).p9).p9).p9).p9).p9;refine⟨λmm w'=>∃(V:gF) (v5:SV) (xs5 a5:List iF),mq l V/\oa l N5 (λs=>Ao l s (Ch l s)) mm V=some (t6,a5)/\y6=xs5++a5/\St w bE [fe (jj v5) xs5,fe (jj M) y1,bG (jj O) y2.flatten,bG (jj W) y3.flatten,fe (jj v3) y4,fe (jj v4) y5,bU UJ (jl (⟨M,O,W,v3,v4,v5⟩:bT)),bU p (eH lv V),bG lv l,bU qt (jl (⟨bO,bO,bO,bO,bO,bO⟩:bT))] w',⟨10000,t5,bO,[],y6,(aiP Z hp.h5),hp.h6,rfl,B⟩,?_⟩;rintro mm _ ⟨V,v5,xs5,a5,hi5,hm5,hy5,B⟩ _
 obtain⟨m5,rfl⟩:=uB hm5;refine aT Bm B.p7 (H':=λ_=>bU p (eH lv (iW l V (jY #[97,108,119,97,121,115])).1)) (Φ:=λv _=>v=.bool (iW l V (jY #[97,108,119,97,121,115])).2) (λI G E=>?_) ?_
 .exact C101 p lv l V (jY #[97,108,119,97,121,115]) I _ G (λw' hc=>(E w' hc).p7.fc) Y hi5
 rintro _ _ rfl B;refine aX (λRV=>?_) (λRV=>?_)
 .obtain⟨q5,z5,b5,hd5,G6,rfl⟩:=Aq hm5 RV;obtain⟨aDu,_,hlo87,hhi87⟩:=aeA RV;have hat87:(iW l V (jY #[97,108,119,97,121,115])).1.at_=V.at_+1:=by rw[aDu]
  refine aA oM (have B:=B.drew;aB (v:=jj (v5:SV)) zi B.p7.hb rfl (aD (aA fS (aB bL B.hb rfl (fO cU ?_)))));obtain⟨aeP,aeQ⟩:=gx l (i:=(((iW l V (jY #[97,108,119,97,121,115])).1).at_-1).toNat) cU;refine dN B.p8 gy cU cU (λ_ awB=>mD mB awB λ_ awC=>tP aeP.at_ B.p8 bL awC aeQ rfl ?_);have SA:Ch l (iW l V (jY #[97,108,119,97,121,115])).1=aeP.at_:=gD bP.at_ (D1 cU aeQ);rw[SA]at hd5;refine aT aqT B (H':=λv=>ph λsh:jy=>fact (v=jj sh) (sep (bU p (eH lv q5)) (ep λw=>n4 w sh z5))) (Φ:=λ_ _=>True) (λI G E=>?_) ?_
  .exact(C105 p lv l (iW l V (jY #[97,108,119,97,121,115])).1 aeP.at_ q5 z5 I _ G (λw' hc=>(E w' hc).p7.fc) Y (lh hi5) hd5).mono λ_ _ r=>r.mono λ_ _ h=>⟨trivial,h⟩
  rintro aDv _ _ yD;obtain⟨aiQ,yU⟩:=yD.dU
  clear yD
  obtain⟨aiR,Co⟩:=yU.lq
  clear yU
  subst aiR;have B:=Co.split
  clear Co
  refine⟨aF zi (B.p8.hb.cell rfl),?_⟩;have B:=B.p1;refine fH (s:=aiQ) (x:=z5) B A7 er (λaoi _ B=>?_);refine⟨aF zi (B.p8.hb.cell rfl),?_⟩;have B:=B.p2;refine fI B A7 (by have h1:=gD List.length hy5;have h2:=hp.b6;simp at h1 |-;omega) er (λaoj _ B=>aA oM ?_);obtain⟨Xy,rfl⟩:=B.mW;exact aO B.p7 zi (ei rfl) (rfl) (λ_ B=>have B:=(((((B.enc (cs':=jl (⟨M,O,W,v3,v4,Xy⟩:bT)) rfl).p9).p9).p4).p3).p9;have B:=B.p9.p9.p9.p9.p9;⟨_,cU,q5,Xy,xs5++[z5],b5,Zh (lh hi5) hd5,G6,by rw[hy5,o1];rfl,B⟩)
 obtain⟨U,rfl⟩:=xy hm5 RV;replace U:=U.symm;subst U;rw[rM]at hy5;subst hy5;rw[Ap RV]at B;obtain⟨hi50,hi51⟩:=id hi5;refine⟨λw'=>St w bE [fe (jj v5) y6,fe (jj M) y1,bG (jj O) y2.flatten,bG (jj W) y3.flatten,fe (jj v3) y4,fe (jj v4) y5,bU UJ (jl (⟨M,O,W,v3,v4,v5⟩:bT)),bU p (eH lv (Kz l V)),bG lv l,bU qt (jl (⟨bO,bO,bO,bO,bO,bO⟩:bT))] w',aD (aA fS (aB bL B.hb rfl (aK gy B.p8.fc (aV (aC (λCc=>?_) λCc=>?_))))),?_⟩
 .refine aT Vt B (H':=λ_=>bU p (eH lv (jV l V 5))) (Φ:=λ_ _=>True) (λI G E=>?_) ?_
  .exact(C106 p lv l V I _ G (λw' hc=>(E w' hc).p7.fc) Y hi5).mono λ_ _ r=>r.mono λ_ _ h=>⟨trivial,h.2⟩
  rintro _ _ _ B;have B:=B.p9.p9.p2.p9.p9.p9.p9.p9.p9.p9;have he6:Kz l V=jV l V 5:=ez Cc;rw[he6];exact B
 .have B:=B.p9.p9.p2.p9.p9.p9.p9.p9.p9.p9;have he6:Kz l V=V:=ew Cc;rw[he6];exact B
 intro _ B _;refine aD (aA nn (aB kh B.p7.hb rfl (cN (aC (λUL=>?_) λUL=>?_))))
 .refine pop (v:=jj (⟨bO,bO,bO,bO,bO,bO⟩:bT)) (by kernel_rfl) (aD (aA nn (have B:=B.drew;aB kh B.p7.hb rfl (aD (aA zu (aB bL B.p7.hb rfl (aH (x:=(⟨bO,bO,bO,bO,bO,bO⟩:bT)) B.p9 gO rfl rfl λ_ B=>?_)))))));refine⟨aF kh (B.p8.hb.cell rfl),?_⟩;refine⟨aF bL (B.p8.hb.cell rfl),?_⟩;refine aE gO B.At ?_;have B:=B.fw (Φ:=(λw=>n4 w (⟨bO,bO,bO,bO,bO,bO⟩:bT) (⟨[],[],[],[],[],[]⟩:bQ))) (λ_=>⟨_,_,_,_,_,_,rfl,DL.nil _,DL.nil _,DL.nil _,DL.nil _,DL.nil _,DL.nil _⟩);have B:=B.p1.drop.p1.drop.p1.drop.p1.drop.p1.drop.p1.drop.p1.drop.p1.drop.p1.drop
  have B:=B.p1.drop;rw[hp.bad UL];exact⟨_,rfl,B.fresh⟩
 refine aE gO B.p6.At (aH (x:=(⟨M,O,W,v3,v4,v5⟩:bT)) B.p9 gO rfl rfl λ_ B=>aE gO B.At ?_);have B:=B.p2.kV.p3.freeze.p1.fu.p3.freeze.p1.fu.p3.kV.p1.fu.p3.kV.p1.fu;have B:=B.p2.kV.p1.fu.cS (Ψ:=(λw=>n4 w (⟨M,O,W,v3,v4,v5⟩:bT) (⟨y1,y2.flatten,y3.flatten,y4,y5,y6⟩:bQ))) (λ_ h=>⟨_,_,_,_,_,_,rfl,h.1.1.1.1.1,DL.fP h.1.1.1.1.2,DL.fP h.1.1.1.2,h.1.1.2,h.1.2,h.2⟩);have B:=B.p1.drop.p1.drop.p1.drop.p1.drop;rw[hp.aDi UL];exact⟨_,rfl,B.fresh⟩
structure m9(c:gz)(cells lines locks:Int):Prop where
 rb:0<=c.aS/\c.aS<=4
 cb:0<=c.counts/\c.counts<=12
 fld:∀(i:Nat) (x:aU),c.l[i]?=some x->xP x c cells lines locks=true
 to:∀(i:Nat) (x:aU),c.l[i]?=some x->Nl c.l i x=true
def RW{c:gz}{cells lines locks:Int}(h:mF c cells lines locks=true):m9 c cells lines locks:=by
 unfold mF at h
 simp only[n3,sV]at h
 obtain⟨⟨h1,h2⟩,h3⟩:=h
 unfold xS at h1
 simp only[sn,decide_eq_false_iff_not]at h1
 have hi:∀(i:Nat) (x:aU),c.l[i]?=some x->xP x c cells lines locks=true/\Nl c.l i x=true:=by
  intro i x B
  have h4:=Lr h2 i (j0.1 B).1
  rw[wT B]at h4
  simpa using h4
 exact⟨cU,cU,λi x B=>(hi i x B).1,λi x B=>(hi i x B).2⟩
structure JJ(u:ki):Prop where
 ll:u.lines.length<=20
 st:0<=u.stays/\u.stays<=u.lines.length
 fl:u.dD.length=u.lines.length
 lk:0<=u.locks/\u.locks<=2
 tl:1<=u.threads.length/\u.threads.length<=3
 ln:∀i,i<u.lines.length->ly u i=false
 fr:∀n∈u.dD,0<=n/\n<=4294967296
 th:∀c∈u.threads,m9 c u.lines.length (iw u) u.locks
 cl:∀l∈u.cB,fa l u.stays=true
 rc:m9 u.recover u.lines.length (iw u) u.locks
def uC{u:ki}(h:qR u=true):JJ u:=by
 unfold qR at h
 simp only[n3,sV]at h
 obtain⟨h1,⟨⟨⟨⟨h2,h3⟩,h4⟩,h5⟩,h6⟩⟩:=h
 unfold mg at h1
 simp only[sn,decide_eq_false_iff_not]at h1
 rw[xC]at h2 h4 h5
 refine⟨cU,cU,cU,cU,cU,λi hi=>Lr h3 i hi,λn B=>?_,λc hc=>?_,λl E=>?_,RW h6⟩
 .have:=h2 n B
  unfold mG at this
  simp at this;omega
 .have:=h4 c hc
  exact RW (by simpa using this)
 have:=h5 l E
 simpa using this
def Xz{n k:Int}(h:QG n k=true):0<=n/\n<k:=by unfold QG at h;grind
section
variable {c:gz}{cells lines locks:Int}{i:Nat}{x:aU}
theorem m9.kd(h:m9 c cells lines locks)(B:c.l[i]?=some x):1<=x.kind/\x.kind<=15:=by
 have:=h.fld i x B;unfold xP at this;simp only[n3,decide_eq_true_eq]at this;exact⟨this.2.1.1.1,this.2.1.1.2⟩
theorem m9.a(h:m9 c cells lines locks)(B:c.l[i]?=some x):aM x c.aS c.counts=true:=by
 have:=h.fld i x B;unfold xP at this;simp only[n3,decide_eq_true_eq]at this;exact this.2.1.2
theorem m9.b(h:m9 c cells lines locks)(B:c.l[i]?=some x):bM x cells lines locks=true:=by
 have:=h.fld i x B;unfold xP at this;simp only[n3,decide_eq_true_eq]at this;exact this.2.2
theorem m9.a13(h:m9 c cells lines locks)(B:c.l[i]?=some x)(E:x.kind=13\/x.kind=14):0<=x.a/\x.a<c.counts:=by
 have:=h.a B;unfold aM at this;rw[ez E]at this;exact Xz this
theorem m9.a1(h:m9 c cells lines locks)(B:c.l[i]?=some x)(E:x.kind=1\/x.kind=2\/x.kind=4):0<=x.a/\x.a<c.aS:=by
 have:=h.a B;unfold aM at this;rw[ew cU,ez E]at this;exact Xz this
theorem m9.b2(h:m9 c cells lines locks)(B:c.l[i]?=some x)(E:x.kind=2\/x.kind=3\/x.kind=4):0<=x.b/\x.b<cells:=by
 have:=h.b B;unfold bM at this;rw[ez E]at this;exact Xz this
theorem m9.b9(h:m9 c cells lines locks)(B:c.l[i]?=some x)(E:x.kind=9\/x.kind=10):0<=x.b/\x.b<locks:=by
 have:=h.b B;unfold bM at this;rw[ew cU,ew cU,ez E]at this;exact Xz this
theorem m9.tob(h:m9 c cells lines locks)(B:c.l[i]?=some x):0<=x.to/\x.to<=c.l.length:=by
 have h1:=h.to i x B
 have hi:=(j0.1 B).1
 by_cases E:x.kind=14
 .have:=acv E h1;omega
 unfold Nl at h1
 split at h1
 .simp at h1;omega
 simp at h1;omega
theorem sB{α:Type}{l:List α}{x:α}(h:x∈l):∃i:Nat,l[i]?=some x:=zT.1 h
theorem m9.ok(h:m9 c cells lines locks)(G:CZ c):Cb c:=by
 have h1:=h.rb;have h2:=h.cb;have h3:=G.l
 refine⟨cU,cU,cU,λx B=>?_,λx B E=>?_,λx B E=>?_⟩
 .obtain⟨i,hi⟩:=sB B
  have:=h.tob hi
  have h4:=G.ef x B
  exact⟨h4.1,h4.2,cU,cU⟩
 .obtain⟨i,hi⟩:=sB B;exact h.a1 hi (.inl E)
 obtain⟨i,hi⟩:=sB B;exact h.a13 hi E
end
def Vis(t:fN):Prop:=∀x,gj t=some x->t.fault=0->2<=x.kind/\x.kind<=10
def aeR{t:fN}{x:aU}{e:Int}:(Ab t x e).1.code=t.code/\(Ab t x e).1.buf=t.buf:=by
 unfold Ab;repeat' split
 all_goals exact⟨rfl,rfl⟩
theorem rW(t:fN):(fF t).1.code=t.code/\(fF t).1.buf=t.buf:=by
 unfold fF
 cases hn:gj t with
 | none=>exact⟨rfl,rfl⟩
 | some x=>
  dsimp only
  split
  .split
   .exact aeR
   .exact⟨rfl,rfl⟩
  .exact⟨rfl,rfl⟩
theorem D4:∀{n:Nat}{t t':fN},tm n t=some t'->t'.code=t.code/\t'.buf=t.buf
 | 0,_,_,h=>by cases h
 | n+1,t,t',h=>by
  have hc:=rW t
  unfold tm at h
  split at h
  .have:=D4 h;exact⟨this.1.trans hc.1,this.2.trans hc.2⟩
  .cases h;exact hc
theorem N6:∀{n:Nat}{t t':fN},G8 t->tm n t=some t'->G8 t'
 | 0,_,_,_,h=>by cases h
 | n+1,t,t',B,h=>by
  unfold tm at h
  split at h
  .exact N6 (lW B) h
  .cases h;exact lW B
theorem JK:∀{n k:Nat}{t t':fN},tm n t=some t'->tm (n+k) t=some t'
 | 0,_,_,_,h=>by cases h
 | n+1,k,t,t',h=>by
  rw[show n+1+k=(n+k)+1 from cU]
  unfold tm at h |-
  split at h
  .rename_i hs;rw[ez hs];exact JK h
  .rename_i hs;rw[ew hs];exact h
theorem UM{t:fN}(I:∀x∈t.code.l,1<=x.kind/\x.kind<=15)(h:(fF t).2=false):Vis (fF t).1:=by
 intro x E B
 cases hn:gj t with
 | none=>rw[xi hn]at E;rw[E]at hn;cases hn
 | some y=>
  have J:=I y (tg hn).1
  cases he:(eo y.e t.aS).2 with
  | false=>rw[xj hn he]at B;simp[tE,he]at B
  | true=>
   cases KM:(eo y.f t.aS).2 with
   | false=>rw[xk hn he KM]at B;simp[tF,tE,KM]at B
   | true=>
    rw[iz hn he KM]at h E B
    unfold Ab at h E B
    have e:∀z,gj (tF (tE t y) y)=some z->z=y:=by
     intro z G
     have:gj (tF (tE t y) y)=gj t:=rfl
     rw[this,hn]at G;exact(o5.inj G).symm
    split at h
    .cases h
    .split at h
     .cases h
     .split at h
      .split at h<;>cases h
      .split at h
       .cases h
       .split at h
        .split at h<;>cases h
        .split at h
         .rename_i h1 h2 h3 h4 h5 h6
          rw[ew h1,ew h2,ew h3,ew h4,ew h5,ez h6]at B
          split at B
          .cases B
          .rename_i h7;rw[ew h7]at h;cases h
         .rename_i h1 h2 h3 h4 h5 h6
          rw[ew h1,ew h2,ew h3,ew h4,ew h5,ew h6]at E
          have:=e x E;subst this
          omega
theorem He:∀{n:Nat}{t t':fN},(∀x∈t.code.l,1<=x.kind/\x.kind<=15)->tm n t=some t'->Vis t'
 | 0,_,_,_,h=>by cases h
 | n+1,t,t',B,h=>by
  unfold tm at h
  split at h
  .exact He (by rw[(rW t).1];exact B) h
  .rename_i hs;cases h;exact UM B (by simpa using hs)
theorem vy{l:List Int}{k:Nat}(B:0<k)(h:k<=l.length):ju (l.take k)=l.getD (k-1) 0+1:=by
 grind[ju]
def Hf{u:ki}(h:JJ u){k:Nat}{n:Int}(I:(k:Int)<u.stays)(B:u.lines[k]?=some n):(n=kY u.lines k\/(0<k/\n=kY u.lines k-1))/\-1<=n/\n<=k:=by
 have E:=(j0.1 B).1
 have hb:=IT (u:=u) (k:=u.lines.length) (λj G=>h.ln j G) k n E B
 have h1:=h.ln k E
 unfold ly at h1
 rw[B]at h1
 simp only[Ev,sn,decide_eq_false_iff_not,DY]at h1
 refine⟨?_,hb⟩
 rcases h1 with h1|h1
 .exact .inl h1
 exact .inr ⟨cU,h1.2⟩
theorem N7{u:ki}(h:JJ u):∀(k:Nat) (n:Int),(k:Int)<u.stays->u.lines[k]?=some n->0<=n/\∀j m,j<=k->u.lines[j]?=some m->m<=n
 | 0,n,G,B=>by
  have h1:=(Hf h G B).1
  have e:kY u.lines 0=0:=rfl
  rw[e]at h1
  refine⟨cU,λj m M E=>?_⟩
  obtain rfl:j=0:=cU
  rw[B]at E;cases E;exact u4 _
 | k+1,n,G,B=>by
  have U:=(j0.1 B).1
  obtain⟨q,J⟩:=gx u.lines (i:=k) cU
  have O:=N7 h k q cU J
  have h1:=(Hf h G B).1
  have e:kY u.lines (k+1)=q+1:=by unfold kY;rw[ew cU,FD,pd,J];rfl
  rw[e]at h1
  refine⟨cU,λj m M E=>?_⟩
  by_cases I:j=k+1
  .subst I;rw[B]at E;cases E;exact u4 _
  .have:=O.2 j m cU E;omega
def aiS{u:ki}(h:JJ u):xg (Kw u.lines u.stays u.dD):=by
 have h1:=h.st;have h2:=h.fl;have h3:=h.ll
 have G:(u.lines.take u.stays.toNat).length=u.stays.toNat:=by rw[n0];omega
 refine⟨?_,?_,rfl,?_,λn I=>?_,?_,λk x M=>by cases M⟩
 .show(u.lines.take u.stays.toNat).length<=u.dD.length;omega
 .show u.dD.length<=20;omega
 .show(u.dD.take u.stays.toNat).length=(u.lines.take u.stays.toNat).length;rw[G,n0];omega
 .obtain⟨i,hi⟩:=sB (show n∈u.lines.take u.stays.toNat from I)
  have E:=(j0.1 hi).1
  rw[G]at E
  rw[FC,ez E]at hi
  obtain⟨q,B⟩:=gx u.lines (i:=u.stays.toNat-1) cU
  have h4:=N7 h (u.stays.toNat-1) q cU B
  have h5:=(N7 h i n cU hi).1
  have h6:=h4.2 i n cU hi
  show 0<=n/\n<ju (u.lines.take u.stays.toNat)
  rw[vy cU cU,pd,B]
  exact⟨h5,by show n<q+1;omega⟩
 show ju (u.lines.take u.stays.toNat)<=20
 by_cases J:u.stays.toNat=0
 .rw[J,TA];decide
 obtain⟨q,B⟩:=gx u.lines (i:=u.stays.toNat-1) cU
 have:=(Hf h cU B).2
 rw[vy cU cU,pd,B]
 show q+1<=20
 omega
def XA{f:Int->List jS}{a k:Int}{xs:List jS}{x:jS}(h:x∈vJ f a xs k):x∈xs\/x∈f k:=by
 unfold vJ at h;grind
def Fp{m:Mem}{c n:Int}(h:xg m):xg (gN m c n):=by
 unfold gN
 split
 .rename_i yt
  unfold TZ at yt;rw[decide_eq_true_eq]at yt
  refine⟨h.WI,h.fl,by show(m.l.set _ _).length=_;rw[sy];exact h.ll,h.kl,h.ofr,h.lb,λk x B=>?_⟩
  dsimp only at B
  split at B
  .rename_i hc
   rcases XA B with h1|h1
   .rw[qC]at h1
    rcases h1 with h1|h1
    .exact h.pc _ x h1
    grind
   exact h.pc _ x h1
  exact h.pc _ x B
 exact h
def aiT{m:Mem}{c:Int}(h:xg m):xg (sW m c):=by
 unfold sW
 split
 .refine⟨h.WI,h.fl,h.ll,by show(Bf _ _).length=_;rw[Du];exact h.kl,h.ofr,h.lb,λk x B=>?_⟩
  rcases XA B with h1|h1
  .cases h1
  exact h.pc _ x h1
 exact h
def Zn{m:Mem}{cut lx:List Int}(h:iG m cut=some lx):lx.length=m.kept.length:=by
 unfold iG at h;split at h
 .cases h;exact xh _ _ _
 cases h
def L8{m:Mem}{cut lx:List Int}(h:xg m)(hi:iG m cut=some lx):xg (nH m lx):=by
 have h1:=Zn hi
 have h2:=h.kl;have h3:=h.WI
 refine⟨h.WI,h.fl,?_,?_,h.ofr,h.lb,λk x B=>by cases B⟩
 .show(lx++m.dD.drop lx.length).length=m.dD.length
  rw[lJ,List.length_drop];omega
 show lx.length=m.of.length;omega
structure GM(m:jU):Prop where
 ru:JJ m.u
 uz:UZ m.u
 mem:xg m.mem
 of:m.mem.of=m.u.lines.take m.u.stays.toNat
 dD:m.mem.dD=m.u.dD
 th:∀t∈m.l,G8 t/\Vis t/\(t.code∈m.u.threads\/t.code=m.u.recover)
 tl:m.l.length<=3
 lk:(m.locks.length:Int)=m.u.locks
 rm:1<=m.room/\m.room<=16
 cr:0<=m.bX
section
variable {m:jU}{t:fN}
theorem GM.code(h:GM m)(ht:t∈m.l):m9 t.code m.u.lines.length (iw m.u) m.u.locks:=by
 rcases(h.th t ht).2.2 with h1|h1
 .exact h.ru.th _ h1
 rw[h1];exact h.ru.rc
theorem GM.ok(h:GM m):xm m:=by
 have M:=h.tl
 refine⟨h.mem,λt ht=>(h.th t ht).1,cU,h.lk,λt ht x B E=>?_,λt ht x B E=>?_,λt ht x B E=>?_,h.rm,λt ht=>(h.th t ht).2.1,λn G=>?_⟩
 .obtain⟨i,hi⟩:=sB B;exact(h.code ht).b9 hi E
 .obtain⟨i,hi⟩:=sB B;exact(h.code ht).b2 hi (.inr (.inl E))
 .obtain⟨i,hi⟩:=sB B
  exact(h.code ht).a1 hi cU
 obtain⟨i,hi⟩:=sB G
 have I:=(j0.1 hi).1
 have:=IT (u:=m.u) (k:=m.u.lines.length) (λj J=>h.ru.ln j J) i n I hi
 have:=h.ru.ll
 omega
theorem L9{B:Mem}{x:bH}(h:xg B):xg (gB B x)/\(gB B x).of=B.of/\(gB B x).dD=B.dD:=by
 unfold gB
 split
 .exact⟨Fp h,Fe _ _ _,vX _ _ _⟩
 split
 .grind
 exact⟨aiT h,ain _ _,Ri _ _⟩
theorem aeS{i:Int}{x:aU}(h:xg m.mem):xg (dS m t i x).1.mem/\(dS m t i x).1.mem.of=m.mem.of/\(dS m t i x).1.mem.dD=m.mem.dD:=by
 unfold dS yb BA sK
 repeat' split
 all_goals first
  | exact⟨h,rfl,rfl⟩
  | exact⟨Fp h,Fe _ _ _,vX _ _ _⟩
theorem XB{i:Int}{x:aU}:(dS m t i x).1.locks.length=m.locks.length/\(dS m t i x).1.bX=m.bX:=by
 unfold dS yb BA sK
 repeat' split
 all_goals first
  | exact⟨rfl,rfl⟩
  | exact⟨sy ..,rfl⟩
theorem Zo{l:List bH}{i:Int}:(iH l i).length<=l.length:=by
 grind[iH]
theorem GM.out{q:cC}(h:GM m)(ht:m.l[q.t.toNat]?=some t):GM (nK m t q):=by
 have E:=L9 (x:=cO t.buf q.i) h.mem
 have G:=ml ht
 refine⟨h.ru,h.uz,E.1,E.2.1.trans h.of,E.2.2.trans h.dD,λt' B=>?_,by show(m.l.set _ _).length<=3;rw[sy];exact h.tl,h.lk,h.rm,h.cr⟩
 rcases O3 (show t'∈m.l.set _ _ from B)with h1|h1
 .exact h.th t' h1
 subst h1
 obtain⟨h2,h3,h4⟩:=h.th t G
 have:=Zo (l:=t.buf) (i:=q.i)
 have hb:=h2.bl
 exact⟨⟨h2.code,h2.rg,h2.cn,h2.Sr,by show(iH t.buf q.i).length<=1000;omega⟩,h3,h4⟩
theorem m9.kds{c:gz}{a b d:Int}(h:m9 c a b d):∀x∈c.l,1<=x.kind/\x.kind<=15:=λx B=>by
 obtain⟨i,hi⟩:=sB B;exact h.kd hi
theorem GM.step{N:Nat}{i:Int}{m':jU}{ev:bZ}(h:GM m)(E:nL N m i=some (m',ev)):GM m':=by
 cases ht:m.l[i.toNat]? with
 | none=>unfold nL at E;rw[ht]at E;cases E
 | some t=>
  have xn:=ml ht
  have B:=h.th t xn
  by_cases O:t.fault≠0
  .rw[(AS E ht O).1]
   exact⟨h.ru,h.uz,h.mem,h.of,h.dD,h.th,h.tl,h.lk,h.rm,h.cr⟩
  .obtain⟨x,hn⟩:=DH E ht O
   have V:=aeS (m:=m) (t:=t) (i:=i) (x:=x) h.mem
   have J9:=XB (m:=m) (t:=t) (i:=i) (x:=x)
   have G:=NK (m:=m) (i:=i) (x:=x) B.1 h.rm.2
   have J:∀t2:fN,G8 t2->Vis t2->t2.code=t.code->GM { (dS m t i x).1 with l:=(dS m t i x).1.l.set i.toNat t2}:=by
    intro t2 h1 h2 h3
    have I:=T9 (m:=m) (t:=t) (i:=i) (x:=x)
    refine⟨by rw[I];exact h.ru,by rw[I];exact h.uz,V.1,by rw[I];exact V.2.1.trans h.of,by rw[I];exact V.2.2.trans h.dD,λt' M=>?_,?_,?_,?_,?_⟩
    .rw[Ff]at M
     rw[I]
     rcases O3 (show t'∈m.l.set _ _ from M)with h4|h4
     .exact h.th t' h4
     .subst h4;exact⟨h1,h2,by rw[h3];exact B.2.2⟩
    .show((dS m t i x).1.l.set _ _).length<=3
     rw[sy,Ff];exact h.tl
    .show((dS m t i x).1.locks.length:Int)=(dS m t i x).1.u.locks
     rw[J9.1,I];exact h.lk
    .show 1<=(dS m t i x).1.room/\(dS m t i x).1.room<=16
     rw[xp];exact h.rm
    .show 0<=(dS m t i x).1.bX
     rw[J9.2];exact h.cr
   by_cases h0:(dS m t i x).1.fault=0
   .obtain⟨t2,W,Y,_⟩:=AT E ht O hn h0
    rw[Y]
    have hc:=D4 W
    have U:t2.code=t.code:=hc.1.trans (qT (m:=m) (t:=t) (i:=i) (x:=x))
    refine J t2 (N6 ?_ W) (He (t:={ (dS m t i x).2.1 with at_:=(dS m t i x).2.1.at_+1}) ?_ W) U
    .exact⟨G.code,G.rg,G.cn,by show 0<=(dS m t i x).2.1.at_+1;have:=G.Sr;omega,G.bl⟩
    .show ∀x'∈(dS m t i x).2.1.code.l,_
     rw[qT];exact(h.code xn).kds
   .obtain⟨Y,_⟩:=AU E ht O hn h0
    rw[Y]
    refine J _ G ?_ (qT (m:=m) (t:=t) (i:=i) (x:=x))
    intro y Z hfy
    have e:gj (dS m t i x).2.1=gj t:=by unfold gj;rw[qT,DG]
    rw[e]at Z
    exact B.2.1 y Z cU
theorem GM.awD{q:cC}{lx:List Int}{N:Nat}(h:GM m)(hi:jg m q=some lx)(G:tm N (qU m.u.recover)=some t):GM (mO (Ag m lx) [t]):=by
 have E:iG m.mem q.cut=some lx:=by unfold jg at hi;split at hi;exact hi;cases hi
 have I:=h.ru.rc
 have J:=h.ru.lk
 refine⟨h.ru,h.uz,L8 h.mem E,h.of,h.dD,λt' B=>?_,by show [t].length<=3;simp,?_,h.rm,by show 0<=m.bX+1;have:=h.cr;omega⟩
 .obtain rfl:t'=t:=by simpa using(show t'∈[t]from B)
  exact⟨N6 (DI (I.ok h.uz.rc)) G,He (t:=qU m.u.recover) I.kds G,.inr (D4 G).1⟩
 show((o6 m.u.locks.toNat (-1:Int)).length:Int)=m.u.locks
 rw[tr];omega
theorem GM.do{N:Nat}{q:cC}{m2:jU}{ev:bZ}{e:Int}(h:GM m)(E:Jo N m q=some (m2,ev,e)):GM m2:=by
 cases hc:jg m q with
 | some lx=>obtain⟨t,I,J,_⟩:=ti E hc;rw[J];exact h.awD hc I
 | none=>
  by_cases B:(gV m).any (gY q)=true
  .by_cases G:q.kind=2
   .obtain⟨_,t,ht⟩:=ui B
    rw[(rf E hc B G ht).1];exact h.out ht
   .exact h.step (oL E hc B G).1
  .rw[(re E hc B).1];exact h
end
def GM.new{N:Nat}{u:ki}{room:Int}{kC:List fN}(E:JJ u)(J:UZ u)(hb:vY N u.threads kC)(O:1<=room/\room<=16):GM (mO (m6 u room) kC):=by
 have h1:=E.tl;have h2:=E.lk
 refine⟨E,J,aiS E,rfl,rfl,λt ht=>?_,by show kC.length<=3;rw[hb.1];exact h1.2,?_,O,u4 _⟩
 .obtain⟨i,hi⟩:=sB (show t∈kC from ht)
  have M:=(j0.1 hi).1
  obtain⟨c,hc⟩:∃c,u.threads[i]?=some c:=⟨_,l0 (by rw[<- hb.1];exact M)⟩
  have I:=hb.2 i c t hc hi
  have G:=ml hc
  have B:=E.th c G
  exact⟨N6 (DI (B.ok (J.th c G))) I,He (t:=qU c) B.kds I,.inl (by rw[(D4 I).1];exact G)⟩
 show((o6 u.locks.toNat (-1:Int)).length:Int)=u.locks
 rw[tr];omega
def aeU{N:Nat}{u:ki}{kC:List fN}(B:JJ u)(I:UZ u)(hb:vY N u.threads kC):adT N u kC:=by
 have h1:=B.lk;have h2:=B.st;have h3:=B.ll
 refine⟨hb,λc hc=>(B.th c hc).ok (I.th c hc),B.fl.symm,B.ll,B.st,λk n G E=>?_,cU⟩
 have h4:=Hf B G E
 have J:=(j0.1 E).1
 exact⟨h4.1,cU,cU⟩
def MB.mono{E:Mem}{a b:Nat}(h:MB E a)(B:a<=b):MB E b:=λk=>Nat.le_trans (h k) B
def MB.write{B:Mem}{c x:Int}{n:Nat}(h:MB B n):MB (gN B c x) (n+1):=by
 intro k
 unfold gN
 split
 .dsimp only
  split
  .unfold vJ
   split
   .rw[lJ,mv];have:=h (B.of.getD c.toNat 0);omega
   have:=h k;omega
  have:=h k;omega
 have:=h k;omega
theorem MB.out{B:Mem}{c:Int}{n:Nat}(h:MB B n):MB (sW B c) n:=by
 intro k
 unfold sW
 split
 .dsimp only
  unfold vJ
  split
  .simp
  exact h k
 exact h k
theorem MB.gB{B:Mem}{x:bH}{n:Nat}(h:MB B n):MB (gB B x) (n+1):=by
 unfold Go.Proofs.YtdncbeepkacgbaaGreatDoor.gB
 split
 .exact h.write
 split
 .exact h.mono (HY n)
 exact h.out.mono (HY n)
theorem MB.act{m:jU}{t:fN}{i:Int}{x:aU}{n:Nat}(h:MB m.mem n):MB (dS m t i x).1.mem (n+1):=by
 unfold dS yb BA sK
 repeat' split
 all_goals first
  | exact h.mono (HY n)
  | exact h.write
theorem MB.step{N n:Nat}{m J:jU}{i:Int}{ev:bZ}(h:MB m.mem n)(B:nL N m i=some (J,ev)):MB J.mem (n+1):=by
 cases ht:m.l[i.toNat]? with
 | none=>unfold nL at B;rw[ht]at B;cases B
 | some t=>
  by_cases E:t.fault≠0
  .rw[(AS B ht E).1];exact h.mono (HY n)
  .obtain⟨x,I⟩:=DH B ht E
   by_cases G:(dS m t i x).1.fault=0
   .obtain⟨t2,_,M,_⟩:=AT B ht E I G
    rw[M];exact h.act
   .rw[(AU B ht E I G).1];exact h.act
theorem MB.do{N n:Nat}{m m2:jU}{q:cC}{ev:bZ}{e:Int}(h:MB m.mem n)(E:Jo N m q=some (m2,ev,e)):MB m2.mem (n+1):=by
 cases hc:jg m q with
 | some lx=>obtain⟨t,_,I,_⟩:=ti E hc;rw[I];intro k;exact ob _
 | none=>
  by_cases B:(gV m).any (gY q)=true
  .by_cases G:q.kind=2
   .obtain⟨_,t,ht⟩:=ui B
    rw[(rf E hc B G ht).1];exact h.gB
   .exact h.step (oL E hc B G).1
  .rw[(re E hc B).1];exact h.mono (HY n)
def MB.new{u:ki}{room:Int}{kC:List fN}:MB (mO (m6 u room) kC).mem 0:=λ_=>qQ _
theorem JL{N:Nat}{m m2:jU}{q:cC}{ev:bZ}{e:Int}(G:Jo N m q=some (m2,ev,e)):m2.bX<=m.bX+1/\m2.u=m.u/\m2.room=m.room:=by
 cases hc:jg m q with
 | some lx=>obtain⟨t,_,U,_⟩:=ti G hc;rw[U];exact⟨u4 _,rfl,rfl⟩
 | none=>
  by_cases E:(gV m).any (gY q)=true
  .by_cases M:q.kind=2
   .obtain⟨_,t,ht⟩:=ui E
    rw[(rf G hc E M ht).1];exact⟨by show m.bX<=_;omega,rfl,rfl⟩
   .have B:=(oL G hc E M).1
    cases ht:m.l[q.t.toNat]? with
    | none=>unfold nL at B;rw[ht]at B;cases B
    | some t=>
     by_cases I:t.fault≠0
     .rw[(AS B ht I).1];exact⟨by show m.bX<=_;omega,rfl,rfl⟩
     .obtain⟨x,J⟩:=DH B ht I
      have W:=(XB (m:=m) (t:=t) (i:=q.t) (x:=x)).2
      by_cases O:(dS m t q.t x).1.fault=0
      .obtain⟨t2,_,V,_⟩:=AT B ht I J O
       rw[V];exact⟨by show(dS m t q.t x).1.bX<=_;omega,T9,xp⟩
      .rw[(AU B ht I J O).1];exact⟨by show(dS m t q.t x).1.bX<=_;omega,T9,xp⟩
  .rw[(re G hc E).1];exact⟨cU,rfl,rfl⟩
theorem apa{α:Type}{g:α->Bool}{l:List α}(h:0<=pY g l):pY g l<l.length:=by
 unfold pY at h |-
 cases hf:l.findIdx? g with
 | none=>grind
 | some k=>
  have:=(List.findIdx?_eq_some_iff_getElem.1 hf).1
  grind
def As{ns:List ByteArray}{s:ByteArray}(h:0<=bR ns s):bR ns s<ns.length:=apa h
def JM{s:ByteArray}(h:iu s=true):s≠⟨#[]⟩:=by
 rintro rfl
 exact absurd h er
theorem Ex.awE(ns:List ByteArray)(t:Ex):t.wf->∀n h:Int,0<=n->∃M,(t.steps ns).foldl ZX (some (n,h))=some (n+1,M):=by
 induction t with
 | leaf x=>
  intro E n h I
  have B:kids x.op=0:=E
  have G:fV x.op=0:=by
   unfold kids at B
   unfold fV
   omega
  simp_all[ZX,steps]
 | un x a O=>
  intro E n h I
  have B:kids x.op=1:=E.1
  have G:fV x.op=1:=by
   unfold kids at B
   unfold fV
   omega
  obtain⟨h1,e1⟩:=O E.2 n h I
  simp_all[ZX,steps]
 | bin x a b J U=>
  intro E n h I
  have B:kids x.op=2:=E.1
  have G:fV x.op=2:=by
   unfold kids at B
   unfold fV
   omega
  obtain⟨h1,e1⟩:=J E.2.1 n h I
  obtain⟨h2,V⟩:=U E.2.2 (n+1) h1 cU
  refine⟨max h2 (n+1),?_⟩
  grind[ZX,steps]
def N8{k:Int}(h:kids k=0\/kids k=1\/kids k=2):1<=k/\k<=15:=by
 unfold kids at h
 omega
theorem Ex.Zp(ns:List ByteArray)(t:Ex):t.wf->∀o∈t.steps ns,∃x∈t.flat,o=⟨x.op,numOf ns x⟩/\1<=x.op/\x.op<=15:=by
 induction t with
 | leaf x=>intro E o B;exact⟨x,by simp[Ex.flat],by simpa[Ex.steps]using B,N8 (.inl E)⟩
 | un x a G=>
  intro E o B
  have B:o∈a.steps ns++[⟨x.op,numOf ns x⟩]:=B
  rw[qC]at B
  rcases B with B|B
  .obtain⟨y,h1,h2⟩:=G E.2 o B;exact⟨y,by simp[Ex.flat,h1],h2⟩
  .exact⟨x,by simp[Ex.flat],dH,N8 (.inr (.inl E.1))⟩
 | bin x a b I J=>
  intro E o B
  have B:o∈a.steps ns++b.steps ns++[⟨x.op,numOf ns x⟩]:=B
  rw[qC,qC]at B
  rcases B with(B|B)|B
  .obtain⟨y,h1,h2⟩:=I E.2.1 o B;exact⟨y,by simp[Ex.flat,h1],h2⟩
  .obtain⟨y,h1,h2⟩:=J E.2.2 o B;exact⟨y,by simp[Ex.flat,h1],h2⟩
  .exact⟨x,by simp[Ex.flat],dH,N8 (.inr (.inr E.1))⟩
def vz{ns:List ByteArray}{l:List bY}{many:Int}(I:gM l=true)(J:oI l ns=false)(hm:many=ns.length):fa (eL ns l) many=true/\(eL ns l).length<=40:=by
 have Kd:=I
 unfold gM at I
 simp only[n3,sV,decide_eq_true_eq,xC]at I
 obtain⟨⟨⟨h1,h2⟩,h3⟩,h4⟩:=I
 obtain⟨t,G⟩:=Option.isSome_iff_exists.1 h2
 obtain⟨V,U⟩:=xM G
 have hv0:=J
 unfold oI at J
 have he:sG ns l=0:=by grind[sG]
 have hl:eL ns l=t.steps ns:=by unfold eL;rw[ez he];unfold M4;rw[G]
 rw[hl]
 have hlen:(t.steps ns).length<=40:=by rw[Ex.wO,<- Ex.dL,<- U];exact h1
 obtain⟨W,e'⟩:=t.awE ns V 0 0 (u4 _)
 have e2:ht (t.steps ns)=some (1,W):=by unfold ht;grind
 refine⟨?_,hlen⟩
 unfold fa htN
 rw[e2]
 simp only[Option.isSome_some,decide_true,Bool.and_true,n3,decide_eq_true_eq,sV,xC]
 refine⟨hlen,λo Z=>?_⟩
 obtain⟨x,O,rfl,ZU,FZ⟩:=t.Zp ns V o Z
 rw[<- U]at O
 have B:=h3 x O
 unfold ET at B
 simp only[vo,decide_eq_true_eq,not_or,n3,sV,not_and,Bool.not_eq_false]at B
 obtain⟨⟨⟨⟨g1,g2⟩,g3⟩,g4⟩,g5⟩:=B
 have Y:Ex.numOf ns x=if x.op=2 then bR ns x.name else x.n:=rfl
 unfold wK
 simp only[decide_eq_true_eq]
 rintro(⟨E,M⟩|⟨E,M⟩|⟨E,M,q3⟩)
 .omega
 .have E:x.op=2:=E
  rw[Y,ez E]at M
  rw[xC]at J
  have:=J x O
  simp only[n3,decide_eq_true_eq,not_and]at this
  have h5:=this E
  have h6:=As (ns:=ns) (s:=x.name) cU
  omega
 omega
def awF{k:Int}(h:1<=k/\k<=14):eF (gQ k) 101=decide (k=1\/k=3\/k=4\/k=11\/k=14)/\eF (gQ k) 102=decide (k=4)/\eF (gQ k) 114=decide (k=1\/k=2\/k=4)/\eF (gQ k) 110=decide (k=2\/k=3\/k=4\/k=5\/k=6\/k=9\/k=10):=by
 obtain rfl|rfl|rfl|rfl|rfl|rfl|rfl|rfl|rfl|rfl|rfl|rfl|rfl|rfl:k=1\/k=2\/k=3\/k=4\/k=5\/k=6\/k=7\/k=8\/k=9\/k=10\/k=11\/k=12\/k=13\/k=14:=cU
 all_goals decide
structure awG(x:bD):Prop where
 kind:1<=x.kind/\x.kind<=14
 e1:x.kind=1\/x.kind=3\/x.kind=4\/x.kind=11\/x.kind=14->gM x.e=true
 e0:¬ (x.kind=1\/x.kind=3\/x.kind=4\/x.kind=11\/x.kind=14)->x.e=[]
 f1:x.kind=4->gM x.f=true
 f0:¬ x.kind=4->x.f=[]
 r1:x.kind=1\/x.kind=2\/x.kind=4->iu x.eY=true
 r0:¬ (x.kind=1\/x.kind=2\/x.kind=4)->x.eY=⟨#[]⟩
def aDA{x:bD}(h:sH x=true):awG x:=by
 have h:=AN h
 obtain⟨E,I,J,G⟩:=awF h.kind
 refine⟨h.kind,λB=>?_,λB=>?_,λB=>?_,λB=>?_,λB=>?_,λB=>?_⟩
 .rcases h.e with q|q
  .exact q.2
  grind
 .rcases h.e with q|q
  .grind
  grind
 .rcases h.f with q|q
  .exact q.2
  grind
 .rcases h.f with q|q
  .grind
  grind
 .rcases h.eY with q|q
  .exact q.2
  grind
 rcases h.eY with q|q
 .grind
 grind
theorem Ma(ns:List ByteArray):eL ns []=[]:=by
 unfold eL;split
 .rfl
 rfl
theorem sZ:∀(ls:List (List cG)) (i a:Int),0<=a->(∀l∈ls,l≠[])->i<=iR ls i a/\(∀b,a<=b->iR ls i a<=iR ls i b)/\(iR ls i (a+1)=iR ls i a\/iR ls i (a+1)=iR ls i a+1)
 | [],i,a,E,_=>⟨by unfold iR;omega,λb hb=>by unfold iR;omega,by unfold iR;omega⟩
 | l::r,i,a,E,hl=>by
  have M:0<l.length:=Sm.2 (hl l (qs ..))
  have B:=λl G=>hl l (so _ G)
  unfold iR
  by_cases h1:a<l.length
  .rw[ez h1]
   refine⟨u4 _,λb hb=>?_,?_⟩
   .split
    .omega
    .have:=(sZ r (i+1) (b-l.length) cU B).1;omega
   .split
    .omega
    .have e:a+1-(l.length:Int)=0:=cU
     rw[e]
     cases r with
     | nil=>unfold iR;omega
     | cons l2 U=>
      simp_all[iR]
  .rw[ew h1]
   obtain⟨I,J,O⟩:=sZ r (i+1) (a-l.length) cU B
   grind
theorem Hg:∀(ls:List (List cG)) (i a:Int),(ls.flatten.length:Int)<=a->iR ls i a=i+ls.length+(a-ls.flatten.length)
 | [],i,a,_=>by unfold iR;simp
 | l::r,i,a,ha=>by
  have e:(((l::r).flatten).length:Int)=l.length+r.flatten.length:=et
  unfold iR
  rw[ew cU,Hg r (i+1) (a-l.length) cU,e]
  grind
theorem N9:∀(ls:List (List cG)) (i a:Int),0<=a->a<ls.flatten.length->iR ls i a<i+ls.length
 | [],i,a,B,E=>by grind
 | l::r,i,a,B,E=>by
  have e:(((l::r).flatten).length:Int)=l.length+r.flatten.length:=et
  unfold iR
  split
  .grind
  .have:=N9 r (i+1) (a-l.length) cU cU
   grind
section
variable {p:bQ}
theorem Fq(p:bQ):(eM p).lines.length=(gS p).length:=by show((qi _).map _).length=_;rw[oi,List.length_range]
theorem Au{i:Nat}(h:i<(gS p).length):(eM p).lines[i]?=some (iS p i):=by
 show((qi _).map _)[i]?=_
 rw[List.getElem?_map,List.getElem?_range h];rfl
theorem Bt.pf(h:Bt p):PF p:=pq h.right
theorem Bt.sz(h:Bt p):p.lines.length<=4/\(∀l∈p.lines,l.length<=4)/\p.jR.length<=4/\p.locks.length<=2/\1<=p.threads.length/\p.threads.length<=3/\p.cB.length<=4/\∀t∈je p,t.aS.length<=4:=by
 have hb:=h.big
 unfold yS at hb
 simp only[sn,decide_eq_false_iff_not,xC,decide_eq_true_eq]at hb
 grind
theorem RX:∀{ls:List (List cG)},(∀l∈ls,l.length<=4)->ls.flatten.length<=4*ls.length
 | [],_=>by simp
 | l::r,h=>by
  have h1:=h l (qs ..)
  have h2:=RX (ls:=r) λl B=>h l (so _ B)
  grind
theorem Bt.gS(h:Bt p):(gS p).length<=20:=by
 obtain⟨h1,h2,h3,_⟩:=h.sz
 have:=RX h2
 unfold Go.Proofs.YtdncbeepkacgbaaGreatDoor.gS
 rw[lJ];omega
theorem rX(p:bQ):0<=cZ p/\cZ p<=(gS p).length:=by grind[cZ,gS]
theorem rY{c:Int}(h:0<=c/\c<(gS p).length):iS p c=iR p.lines 0 c:=by unfold iS;omega
theorem Zq(h:Bt p){c:Int}(hc:0<=c/\c<cZ p):0<=iS p c/\iS p c<iw (eM p):=by
 have M:=rX p
 have G:=λl I=>(h.pf.lines l I).1
 obtain⟨B,E,_⟩:=sZ p.lines 0 c hc.1 G
 rw[rY cU]
 refine⟨B,?_⟩
 have J:=E (cZ p-1) cU
 have e:iw (eM p)=iR p.lines 0 (cZ p-1)+1:=by
  unfold iw
  rw[Fq]
  show(if 1<=cZ p/\cZ p<=((Go.Proofs.YtdncbeepkacgbaaGreatDoor.gS p).length:Int)then(eM p).lines.getD (cZ p-1).toNat 0+1 else 0)=_
  rw[ez cU,pd,Au cU]
  show iS p ((cZ p-1).toNat:Nat)+1=_
  rw[show(((cZ p-1).toNat:Nat):Int)=cZ p-1 from cU,rY cU]
 omega
theorem UN(h:Bt p){i:Nat}(hi:i<(gS p).length):ly (eM p) i=false:=by
 have J:=λl I=>(h.pf.lines l I).1
 have Z:=rX p
 unfold ly
 rw[Au hi]
 dsimp only
 by_cases E:i=0
 .subst E
  have e:iS p (0:Nat)=0:=by
   rw[rY cU]
   cases I:p.lines with
   | nil=>unfold iR;rfl
   | cons l r=>
    have:=Sm.2 (J l (by rw[I];exact qs ..))
    unfold iR;rw[ez cU]
  rw[e]
  have G:kY (eM p).lines 0=0:=rfl
  rw[G];rfl
 have G:kY (eM p).lines i=iS p ((i-1:Nat):Int)+1:=by
  unfold kY;rw[ew E,pd,Au cU];rfl
 rw[G,rY cU,rY cU]
 obtain⟨_,_,B⟩:=sZ p.lines 0 ((i-1:Nat):Int) cU J
 rw[show((i-1:Nat):Int)+1=(i:Int)from cU]at B
 by_cases Y:(i:Int)<cZ p
 .rcases B with B|B
  .rw[B]
   have M:decide ((eM p).stays<=(i:Int))=false:=gk (by show ¬ cZ p<=_;omega)
   rw[M,gk E]
   simp
  rw[B];simp
 have hlen:(p.lines.flatten.length:Int)=cZ p:=rfl
 by_cases V:((i-1:Nat):Int)<cZ p
 .have O:(i:Int)=cZ p:=cU
  have W:=Hg p.lines 0 i cU
  have U:=N9 p.lines 0 ((i-1:Nat):Int) cU cU
  have:iR p.lines 0 i=iR p.lines 0 ((i-1:Nat):Int)+1:=cU
  rw[this];simp
 have W:=Hg p.lines 0 i cU
 have U:=Hg p.lines 0 ((i-1:Nat):Int) cU
 have:iR p.lines 0 i=iR p.lines 0 ((i-1:Nat):Int)+1:=cU
 rw[this];simp
end
theorem JN{ns:List ByteArray}(h:∀s∈ns,iu s=true):bR ns ⟨#[]⟩ = -1:=gJ λy B=>gk (JM (h y B))
structure Zr(p:bQ)(rs:List ByteArray)(x:bD):Prop where
 fit:awG x
 rg:∀s∈rs,iu s=true
 nb:oJ p rs x=false
section
variable {p:bQ}{rs:List ByteArray}{x:bD}{c:gz}
theorem awH(h:Zr p rs x)(hc:c.aS=rs.length)(B:x.kind=1\/x.kind=3\/x.kind=4\/x.kind=11\/x.kind=14):fa (eL rs x.e) c.aS=true:=by
 have hb:=h.nb;unfold oJ at hb;simp only[sn]at hb
 exact(vz (h.fit.e1 B) hb.1.2 hc).1
theorem aDB(h:Zr p rs x)(hc:c.aS=rs.length)(B:x.kind=4):fa (eL rs x.f) c.aS=true:=by
 have hb:=h.nb;unfold oJ at hb;simp only[sn]at hb
 exact(vz (h.fit.f1 B) hb.2 hc).1
theorem aiU(hp:Bt p)(h:Zr p rs x)(hc:c.aS=rs.length)(hk:¬ x.kind=11)(FZ:¬ x.kind=12)(Y:¬ x.kind=13) :
  xP (eE p rs x) c (gS p).length (iw (eM p)) p.locks.length=true/\(eE p rs x).to=0/\¬ (eE p rs x).kind=11/\¬ (eE p rs x).kind=12/\¬ (eE p rs x).kind=13/\¬ (eE p rs x).kind=14:=by
 have Vm:=h.fit.kind
 have E:(eE p rs x).kind=if x.kind=14 then 15 else x.kind:=rfl
 have B:¬ (eE p rs x).kind=11/\¬ (eE p rs x).kind=12/\¬ (eE p rs x).kind=13/\¬ (eE p rs x).kind=14/\1<=(eE p rs x).kind/\(eE p rs x).kind<=15:=by rw[E];split<;>omega
 refine⟨?_,rfl,B.1,B.2.1,B.2.2.1,B.2.2.2.1⟩
 have hb:=h.nb;unfold oJ at hb
 simp only[sn,Ev,decide_eq_false_iff_not,not_or,DY]at hb
 obtain⟨⟨⟨⟨⟨b1,b2⟩,b3⟩,b4⟩,b5⟩,b6⟩:=hb
 have hE:(if vi (eE p rs x).kind=true then fa (eE p rs x).e c.aS else !decide (0<((eE p rs x).e.length:Int)))=true:=by
  by_cases G:x.kind=1\/x.kind=3\/x.kind=4\/x.kind=11\/x.kind=14
  .have I:vi (eE p rs x).kind=true:=by
    unfold vi;rw[E]
    split
    .rfl
    .simp only[vo,decide_eq_true_eq];omega
   rw[ez I];exact awH h hc G
  .have I:¬ vi (eE p rs x).kind=true:=by
    unfold vi;rw[E,ew cU]
    simp only[vo,decide_eq_true_eq];omega
   rw[ew I]
   have:(eE p rs x).e=[]:=by show eL rs x.e=[];rw[h.fit.e0 G,Ma]
   rw[this];rfl
 have Z:(if (eE p rs x).kind=4 then fa (eE p rs x).f c.aS else !decide (0<((eE p rs x).f.length:Int)))=true:=by
  by_cases G:x.kind=4
  .rw[ez (by rw[E];split<;>omega)];exact aDB h hc G
  .rw[ew (by rw[E];split<;>omega)]
   have:(eE p rs x).f=[]:=by show eL rs x.f=[];rw[h.fit.f0 G,Ma]
   rw[this];rfl
 have W:aM (eE p rs x) c.aS c.counts=true:=by
  unfold aM
  rw[ew cU]
  have U:(eE p rs x).a=max 0 (bR rs x.eY):=rfl
  by_cases G:x.kind=1\/x.kind=2\/x.kind=4
  .rw[ez (by rw[E];split<;>omega),U]
   have I:=JM (h.fit.r1 G)
   have:¬ bR rs x.eY<0:=by
    rcases b1 with b1|b1
    .exact absurd b1 I
    .exact b1
   have h2:=As (ns:=rs) (s:=x.eY) cU
   unfold QG;simp only[n3,decide_eq_true_eq];omega
  .rw[ew (by rw[E];split<;>omega),U,h.fit.r0 G,JN h.rg];rfl
 have hB:bM (eE p rs x) (gS p).length (iw (eM p)) p.locks.length=true:=by
  unfold bM
  have J:(eE p rs x).b=if x.kind=2\/x.kind=3\/x.kind=4 then bR (bW p) x.name else if x.kind=5\/x.kind=6 then iS p (bR (bW p) x.name)else if x.kind=9\/x.kind=10 then bR (cR p) x.name else 0:=rfl
  have F9:(bW p).length=(gS p).length:=by unfold bW;rw[oi]
  have Sw:(cR p).length=p.locks.length:=by unfold cR;rw[oi]
  by_cases M:x.kind=2\/x.kind=3\/x.kind=4
  .rw[ez (by rw[E];split<;>omega),J,ez M]
   have h1:¬ bR (bW p) x.name<0:=by
    rcases b2 with b2|b2
    .omega
    .exact b2
   have h2:=As (ns:=bW p) (s:=x.name) cU
   unfold QG;simp only[n3,decide_eq_true_eq];omega
  .rw[ew (by rw[E];split<;>omega)]
   by_cases O:x.kind=5\/x.kind=6
   .rw[ez (by rw[E];split<;>omega),J,ew M,ez O]
    have h1:¬ bR (bW p) x.name<0/\¬ cZ p<=bR (bW p) x.name:=by
     rcases b3 with b3|b3
     .omega
     .exact b3
    have:=Zq hp (c:=bR (bW p) x.name) cU
    unfold QG;simp only[n3,decide_eq_true_eq];omega
   .rw[ew (by rw[E];split<;>omega)]
    by_cases V:x.kind=9\/x.kind=10
    .rw[ez (by rw[E];split<;>omega),J,ew M,ew O,ez V]
     have h1:¬ bR (cR p) x.name<0:=by
      rcases b4 with b4|b4
      .omega
      .exact b4
     have h2:=As (ns:=cR p) (s:=x.name) cU
     unfold QG;simp only[n3,decide_eq_true_eq];omega
    .rw[ew (by rw[E];split<;>omega),ew B.2.2.1,J,ew M,ew O,ew V];rfl
 unfold xP efM
 rw[hE,Z,W,hB,fY B.2.2.2.2.1,fY B.2.2.2.2.2];rfl
end
section
variable {m:j4}{t:kG}{i:Int}{x:bD}{p:bQ}
theorem apb:(eZ m t i x).1.l=m.l:=by
 unfold eZ yh xt;grind
theorem Fs:(eZ m t i x).1.room=m.room:=by
 unfold eZ yh xt;grind
theorem aeW:(eZ m t i x).1.p=m.p:=by
 unfold eZ yh xt;grind
theorem aeX:(eZ m t i x).1.fault=m.fault/\(eZ m t i x).1.fB=m.fB/\(eZ m t i x).1.bX=m.bX:=by
 unfold eZ yh xt;grind
theorem Ft:(eZ m t i x).2.1.cD=t.cD:=by
 unfold eZ v7 Bj;grind
theorem qW:(eZ m t i x).2.1.names=t.names:=by
 unfold eZ v7 Bj;grind
theorem Zs{room:Int}{l:List bH}{y:bH}:(qw room l y).length<=l.length\/((qw room l y).length:Int)<=room:=by
 grind[qw]
theorem Oa{φ:bD->Prop}(h:uq φ t)(E:m.room<=16):uq φ (eZ m t i x).2.1:=by
 have h1:=h.p;have h2:=h.rl;have h3:=h.nb;have h4:=h.bl;have h5:=h.cl
 have B:∀y,uq φ (Bj m t y):=λy=>by
  have h6:=Zs (room:=m.room) (l:=t.buf) (y:=y)
  exact⟨h1,h2,h3,by show(qw m.room t.buf y).length<=1000;omega,h5⟩
 unfold eZ;repeat' split
 all_goals first
  | exact h
  | exact h.set _ _
  | exact B _
theorem aeY(h:xg m.mem):xg (eZ m t i x).1.mem/\(eZ m t i x).1.mem.of=m.mem.of/\(eZ m t i x).1.mem.dD=m.mem.dD:=by
 unfold eZ yh xt;repeat' split
 all_goals first
  | exact⟨h,rfl,rfl⟩
  | exact⟨Fp h,Fe _ _ _,vX _ _ _⟩
theorem aiV{n:Nat}(h:MB m.mem n):MB (eZ m t i x).1.mem (n+1):=by
 unfold eZ yh xt;repeat' split
 all_goals first
  | exact h.mono (HY n)
  | exact h.write
theorem aiW:(eZ m t i x).1.fC.length=m.fC.length:=by
 unfold eZ yh xt;grind
theorem Ob{φ:bD->Prop}(h:uq φ t):uq φ {t with cD:=iM t.cD}:=by
 refine h.cD h.p.pop ?_
 match hp:t.cD with
 | []=>exact qQ _
 | (.nil,_)::q=>grind[iU,iM]
 | (.cons y a b r,e)::q=>have:=Uf (p:=(.cons y a b r,e)::q) rfl;omega
theorem RY{cs ls:List ByteArray}(h:Eh cs ls t):aea (goD t):=λB=>WW _ (qm h).1 h B
theorem Zt(B:rU m)(ht:t∈m.l):Eh (bW m.p) (cR m.p) (yi m t i x)/\aea (yi m t i x)/\(yi m t i x).names=t.names:=by
 have h1:uq (StD (bW m.p) (cR m.p) t.names) { (eZ m t i x).2.1 with cD:=iM (eZ m t i x).2.1.cD}:=Ob (Oa (B.th t ht) B.rm.2)
 have h2:Eh (bW m.p) (cR m.p) { (eZ m t i x).2.1 with cD:=iM (eZ m t i x).2.1.cD}:=by
  show uq (StD _ _ (eZ m t i x).2.1.names) _
  rw[qW];exact h1
 exact⟨(qm h2).2.1,RY h2,(qm h2).2.2.trans qW⟩
theorem D5{β:Type}{l:List β}{k:Nat}{a y:β}(h:y∈l.set k a):y=a\/y∈l:=(O3 h).symm
theorem aeZ(B:rU m):rU (jP m i).1/\(jP m i).1.p=m.p/\(∀n,MB m.mem n->MB (jP m i).1.mem (n+1))/\(jP m i).1.l.length=m.l.length:=by
 unfold jP
 split
 .exact⟨B,rfl,λn h=>h.mono (HY n),rfl⟩
 rename_i t ht
 have J:=ml ht
 split
 .exact⟨⟨B.mem,B.th,B.tl,B.ow,B.rm,B.st,B.pz⟩,rfl,λn h=>h.mono (HY n),rfl⟩
 split
 .exact⟨B,rfl,λn h=>h.mono (HY n),rfl⟩
 rename_i x _ _ _
 split
 .exact⟨⟨B.mem,B.th,B.tl,B.ow,B.rm,B.st,B.pz⟩,rfl,λn h=>h.mono (HY n),rfl⟩
 obtain⟨I,d2,_⟩:=Zt (i:=i) (x:=x) B J
 have G:=aeW (m:=m) (t:=t) (i:=i) (x:=x)
 refine⟨⟨(aeY B.mem).1,λy E=>?_,by show(m.l.set _ _).length<=_;rw[sy];exact B.tl,?_,by show 1<=(eZ m t i x).1.room/\_;rw[Fs];exact B.rm,λy E=>?_,?_⟩,G,λn h=>aiV h,sy⟩
 .show Eh (bW (eZ m t i x).1.p) (cR (eZ m t i x).1.p) y
  rw[G]
  rcases D5 E with rfl|E
  .exact I
  exact B.th y E
 .show(eZ m t i x).1.fC.length=(cR (eZ m t i x).1.p).length
  rw[aiW,G];exact B.ow
 .rcases D5 E with rfl|E
  .exact d2
  exact B.st y E
 show PZ (eZ m t i x).1.p;rw[G];exact B.pz
theorem UO{l:List bH}{i:Int}:(iH l i).length<=l.length:=by
 grind[iH]
theorem aiX{q:cC}(B:rU m)(ht:m.l[q.t.toNat]?=some t):rU (DK m t q)/\(∀n,MB m.mem n->MB (DK m t q).mem (n+1)):=by
 have G:=ml ht
 have h1:=B.th t G
 refine⟨⟨(L9 B.mem).1,λy E=>?_,by show(m.l.set _ _).length<=_;rw[sy];exact B.tl,B.ow,B.rm,λy E=>?_,B.pz⟩,λn h=>h.gB⟩
 .rcases D5 E with rfl|E
  .have:=UO (l:=t.buf) (i:=q.i)
   exact⟨h1.p,h1.rl,h1.nb,by show(iH t.buf q.i).length<=1000;have:=h1.bl;omega,h1.cl⟩
  exact B.th y E
 rcases D5 E with rfl|E
 .exact B.st t G
 exact B.st y E
structure Hh(p:bQ):Prop where
 f:PF p
 big:yS p=false
 w:∀t∈je p,tX t.body=false
 tw:mN (kH p)=false
 u:∀t∈je p,∀x∈t.body,oJ p t.aS x=false
theorem Oc(h:fW p=0):Hh p:=by
 unfold fW at h
 split at h
 .cases h
 rename_i h1
 split at h
 .cases h
 rename_i h2
 split at h
 .cases h
 rename_i h3
 split at h
 .cases h
 rename_i h4
 split at h
 .cases h
 rename_i h5
 split at h
 .cases h
 rename_i h6
 simp only[Bool.not_eq_true,xC]at h2 h3 h4 h6
 exact⟨pq dH,h2,λt ht=>dH,h4,λt ht x B=>dH⟩
theorem Fu:∀(b:Bk) (n:Int),b.ok n=true->∀x∈b.flat,x.eR<=0\/x.kind=11
 | .nil,_,_,_,h=>by cases h
 | .cons y a b r,n,h,x,B=>by
  unfold Bk.ok at h
  simp only[n3]at h
  obtain⟨⟨⟨h1,h2⟩,h3⟩,h4⟩:=h
  unfold Bk.flat at B
  rcases ta.1 B with rfl|B
  .unfold Bk.Ko at h1;grind
  .rcases qC.1 B with B|B
   .exact Fu a _ h2 x B
   .rcases qC.1 B with B|B
    .exact Fu b _ h3 x B
    .exact Fu r _ h4 x B
theorem ym{l:List bY}(h:gM l=true):l.length<=40:=by
 unfold gM at h
 grind
theorem Mb{l:List bY}(h:gM l=true):∀y∈l,y.name.size<=1000:=λy E=>by
 have B:ET y=false:=by
  unfold gM at h
  grind
 unfold ET iu at B
 by_cases h2:y.op=2
 .grind
 .have:y.name=⟨#[]⟩:=dH
  rw[this];decide
theorem apc(hc:Hh p){t:cE}(ht:t∈je p){x:bD}(U:x∈t.body)(I:sH x=true)(he:x.eR<=0\/x.kind=11):StD (bW p) (cR p) t.aS x:=by
 have G:=hc.u t ht x U
 have Z:=IB I
 have B:=AN I
 unfold oJ at G
 simp only[sn,Ev,decide_eq_false_iff_not,DY]at G
 obtain⟨⟨⟨⟨⟨E,W⟩,u3⟩,Y⟩,_⟩,_⟩:=G
 have J:x.e.length<=1000:=by
  rcases B.e with h|h
  .have:=ym h.2;omega
  grind
 have O:x.f.length<=1000:=by
  rcases B.f with h|h
  .have:=ym h.2;omega
  grind
 refine⟨B.kind,⟨J,O⟩,λh=>cU,λh=>cU,λh=>?_,λh=>cU,λh=>cU,?_,?_⟩
 rotate_left
 .rcases B.e with h|h
  .exact Mb h.2
  grind
 .rcases B.f with h|h
  .exact Mb h.2
  grind
 rcases E with E|E
 .exfalso
  have M:=B.eY
  rcases M with⟨_,h2⟩|⟨h1,_⟩
  .rw[E,QX]at h2;cases h2
  have V:=B.kind
  rcases h with h|h|h<;>rw[h]at h1<;>exact absurd h1 er
 omega
theorem xz:∀(b:Bk) (n:Int),1<=n->n<=64->nF b n=false->(∀x∈b.flat,x.kind=12->1<=x.n)->n.toNat*m7 b<=128*b.len
 | .nil,n,_,_,_,_=>by simp[m7]
 | .cons y a b r,n,h1,h2,hw,I=>by
  rw[xU]at hw
  simp only[sn,decide_eq_false_iff_not]at hw
  obtain⟨⟨M,B,J⟩,Y⟩:=hw
  have V:∀x∈a.flat,x.kind=12->1<=x.n:=λx G=>I x (by unfold Bk.flat;simp[G])
  have Z:∀x∈b.flat,x.kind=12->1<=x.n:=λx G=>I x (by unfold Bk.flat;simp[G])
  have qr:∀x∈r.flat,x.kind=12->1<=x.n:=λx G=>I x (by unfold Bk.flat;simp[G])
  have ir:=xz r n h1 h2 Y qr
  rw[yc]
  unfold Bk.len
  obtain⟨k,rfl⟩:=Pz (show 0<=n by omega)
  rw[s6]at ir |-
  by_cases E:y.kind=12
  .rw[ez E]
   have U:=I y (by unfold Bk.flat;grind) E
   unfold qd at M B
   rw[ez E]at M B
   obtain⟨j,W⟩:=Pz (show 0<=y.n by omega)
   rw[W]at M B U
   rw[W,s6]
   have O:(1:Int)<=(k:Int)*(j:Int):=by
    have:=Int.mul_le_mul (a:=1) (b:=1) (c:=(k:Int)) (d:=(j:Int)) h1 U cU cU
    omega
   have ia:=xz a _ O cU B V
   grind
  .rw[ew E]
   unfold qd at B J
   rw[ew E]at B J
   have ia:=xz a k h1 h2 B V
   have ib:=xz b k h1 h2 J Z
   grind
theorem RZ{b:Bk}(h:b.str):Z5 b.flat=b:=by unfold Z5;rw[pk h];rfl
theorem Hi(hc:Hh p){t:cE}(ht:t∈je p):Eh (bW p) (cR p) (DM t):=by
 obtain⟨_,h2,_⟩:=hc.f.kC ht
 obtain⟨h3,h4,b,h5,h6,M,_⟩:=kX h2
 have hb:Z5 t.body=b:=by rw[h5];exact RZ h6
 have O:GB (StD (bW p) (cR p) t.aS) b:=(YV b).2 λx B=>by
  rw[<- h5]at B
  exact apc hc ht B (h4 x B) (Fu b 0 M x dH)
 have U:LN (StD (bW p) (cR p) t.aS) []:=⟨λ_ h=>(by cases h),λ_ h=>(by cases h),λ_ h=>(by cases h)⟩
 have J:=hc.w t ht
 rw[h5,BZ h6]at J
 have E:=xz b 1 cU cU J λx B V=>(((IB (h4 x dH)).2 V).1)
 have W:b.len<=40:=by rw[<- Bk.dL,<- h5];exact h3
 have I:t.aS.length<=4:=by
  have G:=hc.big
  unfold yS at G
  grind
 refine⟨?_,by simp[DM],by show t.aS.length<=1000;omega,by simp[DM],?_⟩
 .show LN _ (lY (Z5 t.body) false [])
  rw[hb];exact U.push h6 O
 show iU (lY (Z5 t.body) false [])<=10000
 rw[hb,uo]
 grind[m7,iU]
theorem R0:Eh (bW p) (cR p) (DM ⟨⟨#[]⟩,[],[],0⟩):=by
 refine⟨⟨λ_ h=>(by cases h),λ_ h=>(by cases h),λ_ h=>(by cases h)⟩,rfl,(by decide:(0:Nat)<=1000),(by decide:(0:Nat)<=1000),(by decide:(0:Nat)<=10000)⟩
theorem Mc{l:List cE}(I:xg m.mem)(E:1<=m.room/\m.room<=16)(J:PZ m.p)(G:l.length<=1000)(h:∀t∈l,Eh (bW m.p) (cR m.p) (DM t)):rU (yj m l):=by
 refine⟨I,λt ht=>?_,by show(l.map Y0).length<=1000;rw[oi];exact G,by show(o6 _ _).length=_;rw[tr];rfl,E,λt ht=>?_,J⟩
 .obtain⟨u,B,rfl⟩:=pB.1 ht
  exact(qm (h u B)).2.1
 obtain⟨u,B,rfl⟩:=pB.1 ht
 exact RY (h u B)
theorem XC(hc:Hh m.p):(yV m).length<=1/\∀t∈yV m,Eh (bW m.p) (cR m.p) (DM t):=by
 unfold yV
 split
 .exact⟨qQ _,λt ht=>by rw[sU.1 ht];exact R0⟩
 exact⟨hc.f.one,λt ht=>Hi hc (List.mem_append_right _ ht)⟩
theorem D6{k:Nat}{x:cC}(h:x∈jw m k):∃i t,i<k/\m.l[i]?=some t/\x∈rj m i t:=by
 unfold jw at h
 grind
theorem JO{i:Nat}{t:kG}{x:cC}(h:x∈rj m i t):x.t=i/\x.cut=[]/\((x.kind=1/\Bi m t=true/\x.i=0)\/(x.kind=2/\x.i∈qj t.buf)):=by
 unfold rj at h
 grind
theorem awI{q:cC}(h:(gE m).any (gY q)=true):m.fault=0/\0<=q.t/\q.cut.length=0/\∃t,m.l[q.t.toNat]?=some t/\((q.kind=1/\Bi m t=true)\/(q.kind=2/\q.i∈qj t.buf)):=by
 rw[wk]at h
 obtain⟨x,B,E⟩:=h
 unfold gE at B
 split at B
 .cases B
 rename_i hf
 obtain⟨i,t,_,ht,G⟩:=D6 B
 obtain⟨h1,_,h2⟩:=JO G
 unfold gY at E
 simp only[n3,decide_eq_true_eq]at E
 have e:q.t=(i:Int):=cU
 refine⟨cU,cU,E.2,t,by rw[e];exact ht,?_⟩
 rcases h2 with⟨a,b,_⟩|⟨a,b⟩
 .exact .inl ⟨cU,b⟩
 exact .inr ⟨cU,by rw[<- E.1.2];exact b⟩
theorem ae0(h:Bi m t=true):∃x a b,sX t.cD=some (x,a,b):=by
 unfold Bi at h
 grind
theorem ape{q:cC}(B:rU m)(hc:Hh m.p):rU (mQ m q).1/\(mQ m q).1.p=m.p/\(∀n,MB m.mem n->MB (mQ m q).1.mem (n+1)):=by
 unfold mQ
 cases hi:m8 m q with
 | some lx=>
  have E:iG m.mem q.cut=some lx:=by unfold m8 at hi;grind
  obtain⟨r1,G⟩:=XC hc
  refine⟨Mc (L8 B.mem E) B.rm B.pz cU G,rfl,λn h k=>?_⟩
  show([]:List jS).length<=_
  grind
 | none=>
  dsimp only
  split
  .split
   .split
    .rename_i t ht
     obtain⟨h1,h2⟩:=aiX B ht
     exact⟨h1,rfl,h2⟩
    .exact⟨B,rfl,λn h=>h.mono (HY n)⟩
   .obtain⟨h1,h2,h3,_⟩:=aeZ (i:=q.t) B
    grind
  .exact⟨B,rfl,λn h=>h.mono (HY n)⟩
theorem UP{i:Nat}(h:i<(bW p).length):(GC p)[i]?=some (iS p i):=by grind[GC,iS]
theorem JP(p:bQ):(bW p).length=(gS p).length:=by unfold bW;grind
theorem alI(hc:Hh p):(gS p).length<=20:=by
 have hb:=hc.big
 unfold yS at hb
 simp only[sn,xC,decide_eq_false_iff_not,decide_eq_true_eq]at hb
 obtain⟨⟨h1,_⟩,⟨⟨⟨⟨h2,h3⟩,_⟩,_⟩,_⟩,_⟩:=hb
 have h4:∀ls:List (List cG),(∀l∈ls,¬ 4<(l.length:Int))->ls.flatten.length<=4*ls.length:=by
  intro ls
  induction ls with
  | nil=>grind
  | cons l r B=>
   grind
 grind[gS]
theorem ae1(hc:Hh p){k:Nat}{n:Int}(J:(k:Int)<cZ p)(I:(GC p)[k]?=some n):(n=kY (GC p) k\/(0<k/\n=kY (GC p) k-1))/\0<=n/\n<=k:=by
 have M:=rX p
 have V:=JP p
 have E:∀l∈p.lines,l≠[]:=λl G=>(hc.f.lines l G).1
 have e1:∀j:Nat,(j:Int)<cZ p->(GC p)[j]?=some (iR p.lines 0 j):=λj W=>by rw[UP cU,rY cU]
 rw[e1 k J]at I;cases I
 have B:∀j:Nat,iR p.lines 0 j<=j:=by
  intro j
  induction j with
  | zero=>
   cases G:p.lines with
   | nil=>unfold iR;omega
   | cons l r=>
    grind[iR]
  | succ j U=>
   have:=(sZ p.lines 0 (j:Int) cU E).2.2
   grind
 refine⟨?_,(sZ p.lines 0 (k:Int) cU E).1,B k⟩
 cases k with
 | zero=>
  left
  have:=B 0
  have:=(sZ p.lines 0 ((0:Nat):Int) cU E).1
  show _=0
  omega
 | succ k=>
  have h3:=(sZ p.lines 0 (k:Int) cU E).2.2
  have e:((k+1:Nat):Int)=(k:Int)+1:=cU
  have O:kY (GC p) (k+1)=iR p.lines 0 (k:Int)+1:=by
   unfold kY;grind
  grind
theorem ae2(hc:Hh p):xg (Kw (GC p) (cZ p) (gK p)):=by
 have V:=rX p
 have Y:=JP p
 have M:=alI hc
 have O:∀l∈p.lines,l≠[]:=λl G=>(hc.f.lines l G).1
 have W:(GC p).length=(gS p).length:=by grind[GC,gS]
 have Z:(gK p).length=(gS p).length:=by unfold gK;grind
 have G:((GC p).take (cZ p).toNat).length=(cZ p).toNat:=dH
 have e1:∀j:Nat,(j:Int)<cZ p->(GC p)[j]?=some (iR p.lines 0 j):=λj hj=>by rw[UP cU,rY cU]
 have B:0<(cZ p).toNat->ju ((GC p).take (cZ p).toNat)=iR p.lines 0 ((cZ p).toNat-1:Nat)+1:=λE=>by
  rw[vy E cU,pd,e1 _ cU];rfl
 refine⟨?_,?_,rfl,?_,λn J=>?_,?_,λk x U=>by cases U⟩
 .show((GC p).take (cZ p).toNat).length<=(gK p).length;omega
 .show(gK p).length<=20;omega
 .show((gK p).take (cZ p).toNat).length=((GC p).take (cZ p).toNat).length;grind
 .obtain⟨i,hi⟩:=zT.1 (show n∈(GC p).take (cZ p).toNat from J)
  have I:=(j0.1 hi).1
  rw[G]at I
  rw[FC,ez I,e1 i cU]at hi
  cases hi
  show 0<=_/\_<ju ((GC p).take (cZ p).toNat)
  rw[B cU]
  have h3:=sZ p.lines 0 (i:Int) cU O
  grind
 show ju ((GC p).take (cZ p).toNat)<=20
 by_cases E:(cZ p).toNat=0
 .rw[E,TA];decide
 rw[B cU]
 have:=(ae1 hc (k:=(cZ p).toNat-1) cU (e1 _ cU)).2.2
 omega
theorem aiY(B:PZ p)(hc:Hh p){room:Int}(E:1<=room/\room<=16):rU (RA p room):=by
 refine Mc (m:=Jy p room) (ae2 hc) E B (by have:=B.threads;omega) λt ht=>Hi hc (List.mem_append_left _ ht)
end
structure ae3(c:gz)(cells lines locks:Int)(L:List aU)(i:Nat)(x:aU):Prop where
 fld:xP x c cells lines locks=true
 to:Nl L i x=true
 nest:x.kind=14->∀(k:Nat) (y:aU),x.to<=k->k<i->L[k]?=some y->y.kind=14->x.to<=y.to
 b13:x.kind=14->∃y,L[(x.to-1).toNat]?=some y/\y.kind=13
def Emb(L:List aU)(n:Nat)(l:List aU):Prop:=∀(k:Nat) (y:aU),l[k]?=some y->L[n+k]?=some y
def sC(c:gz)(cells lines locks:Int)(L:List aU)(n:Nat)(l:List aU):Prop:=∀(k:Nat) (y:aU),l[k]?=some y->ae3 c cells lines locks L (n+k) y
section
variable {L l1 l2:List aU}{n:Nat}{c:gz}{cells lines locks:Int}
theorem Emb.left(h:Emb L n (l1++l2)):Emb L n l1:=λk y B=>h k y (by rw[s7 (j0.1 B).1];exact B)
theorem Emb.right(h:Emb L n (l1++l2)):Emb L (n+l1.length) l2:=λk y B=>by
 have:=h (l1.length+k) y (by rw[sl cU,By];exact B)
 rw[Nat.add_assoc];exact this
theorem Emb.one{y:aU}(h:Emb L n [y]):L[n]?=some y:=h 0 y rfl
theorem sC.app(h1:sC c cells lines locks L n l1)(h2:sC c cells lines locks L (n+l1.length) l2):sC c cells lines locks L n (l1++l2):=λk y B=>by
 rcases Nat.lt_or_ge k l1.length with h|h
 .rw[s7 h]at B;exact h1 k y B
 .rw[sl h]at B
  have:=h2 (k-l1.length) y B
  rwa [show n+l1.length+(k-l1.length)=n+k from cU]at this
theorem sC.nil:sC c cells lines locks L n []:=λk y B=>by simp at B
theorem sC.one{y:aU}(h:ae3 c cells lines locks L n y):sC c cells lines locks L n [y]:=λk z B=>by
 cases k with
 | zero=>simp at B;subst B;exact h
 | succ k=>simp at B
end
theorem XD(p:bQ)(rs:List ByteArray)(t:Bk):∀at_ lp out,∀y∈dG p rs t at_ lp out,(y.kind=13->lp<=y.a)/\(y.kind=14->at_+1<=y.to):=by
 induction t with
 | nil=>intro at_ lp out y B;cases B
 | cons x a b r E J G=>
  intro at_ lp out y B
  rw[xO,qC]at B
  have I:=iK a
  rcases B with B|B
  .unfold Lp at B
   split at B
   .have ht:at_+1<=jF x a at_:=by unfold jF;split<;>omega
    rw[qC,qC,qC]at B
    rcases B with((B|B)|B)|B
    .rw[sU]at B;subst B;exact⟨λh=>by simp at h,λh=>by simp at h⟩
    .have:=E _ _ _ y B;exact⟨this.1,λh=>by have:=this.2 h;omega⟩
    .split at B
     .rw[sU]at B;subst B;exact⟨λh=>by simp at h,λh=>by simp at h⟩
     .cases B
    .have:=J _ _ _ y B;exact⟨this.1,λh=>by have:=this.2 h;omega⟩
   .split at B
    .rw[qC,qC]at B
     rcases B with(B|B)|B
     .rw[sU]at B;subst B;exact⟨λ_=>u4 _,λh=>by simp at h⟩
     .have:=E _ _ _ y B;exact⟨λh=>by have:=this.1 h;omega,λh=>by have:=this.2 h;omega⟩
     .rw[sU]at B;subst B;exact⟨λh=>by simp at h,λ_=>u4 _⟩
    .split at B
     .rw[sU]at B;subst B;exact⟨λh=>by simp at h,λh=>by simp at h⟩
     .rename_i h1 h2 h3
      rw[sU]at B;subst B
      have e:(eE p rs x).kind=if x.kind=14 then 15 else x.kind:=rfl
      refine⟨λh=>?_,λh=>?_⟩
      .rw[e]at h;split at h<;>omega
      .rw[e]at h;split at h<;>omega
  .have:=G _ _ _ y B
   exact⟨this.1,λh=>by have:=this.2 h;omega⟩
theorem yn{b:Bk}(h:(b.len:Int)<=0):b=.nil:=by
 cases b with
 | nil=>rfl
 | cons x a b r=>exfalso;unfold Bk.len at h;omega
theorem XE{x:aU}{r:Int}(E:vi x.kind=false)(h1:x.e=[])(B:¬ x.kind=4)(h2:x.f=[]):efM x r=true:=by
 unfold efM;rw[ew (by rw[E];decide),ew B,h1,h2];rfl
section
variable {p:bQ}{rs:List ByteArray}{c:gz}
theorem aiZ(hp:Bt p)(hc:c.aS=rs.length)(L:List aU)(t:Bk):∀(n:Nat) (lp out loops:Int),Emb L n (dG p rs t n lp out)->n+aZ t<=(L.length:Int)->t.ok loops=true->t.str->lT t->0<=loops->
  (loops≠0->n+aZ t<=out/\out<=L.length)->0<=lp->lp+jD t<=c.counts->(∀x∈t.flat,Zr p rs x)->sC c (gS p).length (iw (eM p)) p.locks.length L n (dG p rs t n lp out):=by
 induction t with
 | nil=>intros;exact sC.nil
 | cons x a b r yQ A8 Kp=>
  intro n lp out loops hE hL kx ae5 GQ Y YA RI af6 gG
  have hsa:=iK a;have hsb:=iK b;have hsr:=iK r
  have Z7:=oY a;have hdb:=oY b;have hdr:=oY r
  obtain⟨G7,Bd,_,_,UQ,ae6,ae7⟩:=ae5
  have Ub:=kx
  unfold Bk.ok at Ub
  simp only[n3]at Ub
  obtain⟨⟨⟨ho1,ZV⟩,ho3⟩,ho4⟩:=Ub
  unfold Bk.Ko at ho1
  rw[decide_eq_true_eq]at ho1
  have hx:Zr p rs x:=gG x (by simp[Bk.flat])
  have I:aZ (.cons x a b r)=(if x.kind=12 then 2+aZ a else if x.kind=11 then(if 0<x.eR then 1+aZ a+aZ b+1 else 1+aZ a+aZ b)else 1)+aZ r:=rfl
  have hdp:jD (.cons x a b r)=max (if x.kind=12 then max (jD a) (jD b)+1 else max (jD a) (jD b)) (jD r):=rfl
  rw[xO]at hE |-
  have O:=G4 p rs x a b r n lp out
  have hER:=hE.right
  have B:=hE.left
  generalize hH:Lp p rs x a b n lp out=H at *
  refine sC.app ?_ ?_
  .rw[<- hH]at B O |-
   unfold Lp at B O |-
   by_cases BE:x.kind=11
   .rw[ez BE]at B O |-
    rw[ew cU,ez BE]at I
    rw[ew cU]at hdp
    have yt:Bk.G3 x loops=loops:=by unfold Bk.G3;rw[ew cU]
    rw[yt]at ZV ho3
    have hA1:=B.left.left.left
    have G:=B.left.left.right
    have hA3:=B.left.right
    have M:=B.right
    have QQ:=fL p rs a (n+1) lp out
    have V:jF x a n=if 0<x.eR then(n:Int)+1+aZ a+1 else(n:Int)+1+aZ a:=rfl
    refine sC.app (sC.app (sC.app (sC.one ?_) ?_) ?_) ?_
    .refine⟨?_,?_,λh=>by simp at h,λh=>by simp at h⟩
     .unfold xP efM aM bM vi
      simp only[awH hx hc (.inr (.inr (.inr (.inl BE))))]
      rfl
     .unfold Nl;rw[ez (.inr rfl)]
      show(decide ((n:Int)<jF x a n)&&decide (jF x a n<=L.length))=true
      rw[n3,decide_eq_true_eq,decide_eq_true_eq,V]
      split<;>(rename_i he;first|rw[ez he]at I|rw[ew he]at I)<;>omega
    .have U:Emb L (n+1) (dG p rs a ((n+1:Nat):Int) lp out):=G
     exact yQ (n+1) lp out loops U (by split at I<;>omega) ZV UQ GQ.a Y (λhl=>by have:=YA hl;refine⟨?_,this.2⟩;split at I<;>omega) RI cU λy E=>gG y (by simp[Bk.flat,E])
    .split
     .rename_i he
      refine sC.one ⟨?_,?_,λh=>by simp at h,λh=>by simp at h⟩
      .rfl
      .unfold Nl;rw[ez (.inl rfl)]
       rw[ez he]at I V
       rw[n3,decide_eq_true_eq,decide_eq_true_eq]
       show((n+([(⟨12,0,0,eL rs x.e,[],jF x a n⟩:aU)]++dG p rs a (n+1) lp out).length:Nat):Int)<jF x a n+aZ b/\jF x a n+aZ b<=L.length
       rw[lJ,mv,V]
       omega
     .exact sC.nil
    .by_cases he:0<x.eR
     .rw[ez he]at I V M |-
      have J:((n+([(⟨12,0,0,eL rs x.e,[],jF x a n⟩:aU)]++dG p rs a (n+1) lp out++[(⟨11,0,0,[],[],jF x a n+aZ b⟩:aU)]).length:Nat):Int)=jF x a n:=by
       simp only[lJ,mv];rw[V];omega
      generalize n+([(⟨12,0,0,eL rs x.e,[],jF x a n⟩:aU)]++dG p rs a (n+1) lp out++[(⟨11,0,0,[],[],jF x a n+aZ b⟩:aU)]).length=m at M J |-
      rw[<- J]at M |-
      exact A8 _ lp out loops M (by rw[J,V];omega) ho3 ae6 GQ.b Y (λhl=>by have:=YA hl;rw[J,V];exact⟨cU,this.2⟩) RI cU λy E=>gG y (by simp[Bk.flat,E])
     .have OJ:=yn (b:=b) cU
      subst OJ;exact sC.nil
   .rw[ew BE]at B O |-
    by_cases W:x.kind=12
    .rw[ez W]at B O |-
     rw[ez W]at I hdp
     have yt:Bk.G3 x loops=loops+1:=by unfold Bk.G3;rw[ez W]
     rw[yt]at ZV
     have hA1:=B.left.left
     have G:=B.left.right
     have hA3:=B.right
     have QQ:=fL p rs a (n+1) (lp+1) (n+2+aZ a)
     have hxn:=GQ.x W
     have Od:=hA1.one
     refine sC.app (sC.app (sC.one ?_) ?_) (sC.one ?_)
     .refine⟨?_,?_,λh=>by simp at h,λh=>by simp at h⟩
      .unfold xP
       rw[XE rfl rfl (by decide:¬ (13:Int)=4) rfl]
       have e1:aM ⟨13,lp,x.n,[],[],0⟩ c.aS c.counts=true:=by unfold aM;rw[ez (.inl rfl)];unfold QG;rw[n3,decide_eq_true_eq,decide_eq_true_eq];exact⟨RI,by show lp<c.counts;omega⟩
       have e2:bM ⟨13,lp,x.n,[],[],0⟩ (gS p).length (iw (eM p)) p.locks.length=true:=by
        unfold bM;show(decide (1<=x.n)&&decide (x.n<=8))=true
        rw[n3,decide_eq_true_eq,decide_eq_true_eq];exact hxn
       rw[e1,e2];rfl
      .rfl
     .have U:Emb L (n+1) (dG p rs a ((n+1:Nat):Int) (lp+1) (n+2+aZ a)):=G
      exact yQ (n+1) (lp+1) (n+2+aZ a) (loops+1) U cU ZV UQ GQ.a cU (λ_=>⟨cU,cU⟩) cU cU λy E=>gG y (by simp[Bk.flat,E])
     .have Cz:n+([(⟨13,lp,x.n,[],[],0⟩:aU)]++dG p rs a (n+1) (lp+1) (n+2+aZ a)).length=n+1+(dG p rs a (n+1) (lp+1) (n+2+aZ a)).length:=by
       rw[lJ,mv];omega
      rw[Cz]
      have alK:∀(k:Nat) (y:aU),n+1<=k->k<n+1+(dG p rs a (n+1) (lp+1) (n+2+aZ a)).length->L[k]?=some y->y∈dG p rs a (n+1) (lp+1) (n+2+aZ a):=by
       intro k y h1 h2 E
       obtain⟨z,hz⟩:=gx (dG p rs a (n+1) (lp+1) (n+2+aZ a)) (i:=k-(n+1)) cU
       have h3:L[n+1+(k-(n+1))]?=some z:=G _ z hz
       rw[show n+1+(k-(n+1))=k from cU,E]at h3
       obtain rfl:=o5.inj h3
       exact ml hz
      refine⟨?_,?_,λ_ k y h1 h2 E Z=>?_,λ_=>?_⟩
      .unfold xP
       rw[XE rfl rfl (by decide:¬ (14:Int)=4) rfl]
       have e1:aM ⟨14,lp,0,[],[],n+1⟩ c.aS c.counts=true:=by unfold aM;rw[ez (.inr rfl)];unfold QG;rw[n3,decide_eq_true_eq,decide_eq_true_eq];exact⟨RI,by show lp<c.counts;omega⟩
       have e2:bM ⟨14,lp,0,[],[],n+1⟩ (gS p).length (iw (eM p)) p.locks.length=true:=rfl
       rw[e1,e2];rfl
      .unfold Nl;rw[ew (by decide:¬ ((14:Int)=11\/(14:Int)=12)),ez rfl]
       unfold F6
       rw[n3]
       refine⟨?_,?_⟩
       .rw[acu (y:=⟨13,lp,x.n,[],[],0⟩) (by show 1<=(n:Int)+1;omega) (by show(n:Int)+1<=_;omega) (by show L[((n:Int)+1-1).toNat]?=_;rw[show((n:Int)+1-1).toNat=n from cU];exact Od)]
        unfold vj;simp
       .rw[sV,xC]
        intro y E
        obtain⟨k,Z⟩:=sB E
        rw[List.getElem?_drop,FC]at Z
        split at Z
        .have h5:=alK _ y (by show n+1<=((n:Int)+1).toNat+k;omega) (by assumption) Z
         have h6:=(XD p rs a _ _ _ y h5).1
         unfold vj
         rw[n3,decide_eq_true_eq,decide_eq_true_eq]
         rintro⟨q1,q2⟩
         have:=h6 q1
         have q2:y.a=lp:=q2
         omega
        .cases Z
      .have h1:(n:Int)+1<=k:=h1
       have h5:=alK k y cU h2 E
       have:=(XD p rs a _ _ _ y h5).2 Z
       show(n:Int)+1<=y.to
       omega
      .exact⟨_,by show L[((n:Int)+1-1).toNat]?=_;rw[show((n:Int)+1-1).toNat=n from cU];exact Od,rfl⟩
    .rw[ew W]at B O |-
     rw[ew W,ew BE]at I
     by_cases Od:x.kind=13
     .rw[ez Od]at B O |-
      have hl0:loops≠0:=cU
      have hou:=YA hl0
      refine sC.one ⟨rfl,?_,λh=>by simp at h,λh=>by simp at h⟩
      unfold Nl;rw[ez (.inl rfl)]
      rw[n3,decide_eq_true_eq,decide_eq_true_eq]
      show(n:Int)<out/\out<=L.length
      omega
     .rw[ew Od]at B O |-
      obtain⟨g1,g2,g3,g4,g5,g6⟩:=aiU (c:=c) hp hx hc BE W Od
      refine sC.one ⟨g1,?_,λh=>absurd h g6,λh=>absurd h g6⟩
      unfold Nl;rw[ew cU,ew g6,g2];rfl
  .have hn2:((n+H.length:Nat):Int)=n+H.length:=cU
   rw[<- hn2]at hER |-
   exact Kp _ lp out loops hER cU ho4 ae7 GQ.r Y (λhl=>by have:=YA hl;exact⟨cU,this.2⟩) RI cU λy E=>gG y (by simp[Bk.flat,E])
end
theorem ai0(t:Bk):∀n:Int,t.ok n=true->t.str->jD t<=t.depth:=by
 induction t with
 | nil=>intro n _ _;exact u4 _
 | cons x a b r Z A8 Kp=>
  intro n J G
  obtain⟨G7,Bd,_,_,V,E,M⟩:=G
  unfold Bk.ok at J
  simp only[n3]at J
  obtain⟨⟨⟨B,Y⟩,O⟩,I⟩:=J
  unfold Bk.Ko at B
  rw[decide_eq_true_eq]at B
  have h1:=Z _ Y V
  have h2:=A8 _ O E
  have h3:=Kp _ I M
  have hd:=Bk.tU a
  have Kx:=Bk.tU b
  have hd3:=Bk.tU r
  have e:jD (.cons x a b r)=max (if x.kind=12 then max (jD a) (jD b)+1 else max (jD a) (jD b)) (jD r):=rfl
  have e2:(Bk.cons x a b r).depth=if Bk.zO x then max (max (1+a.depth) (1+b.depth)) r.depth else r.depth:=rfl
  rw[e,e2]
  by_cases U:x.kind=11\/x.kind=12
  .have:Bk.zO x=true:=fY U
   rw[ez this]
   split<;>omega
  .have:Bk.zO x=false:=gk U
   rw[ew (by omega:¬ x.kind=12),ew (show ¬ Bk.zO x=true by rw[this];decide)]
   have W:=yn (b:=a) cU
   have hb:=yn (b:=b) cU
   subst W hb
   have:jD .nil=0:=rfl
   omega
section
variable {p:bQ}
theorem Bt.stk(h:Bt p){t:cE}(ht:t∈je p):∀x∈t.body,Zr p t.aS x:=by
 intro x B
 obtain⟨_,h2,_⟩:=kX (h.pf.kC ht).2.1
 refine⟨aDA (h2 x B),(h.pf.kC ht).2.2,?_⟩
 have:=h.names t ht x B
 simpa using this
theorem R2(h:Bt p){t:cE}(ht:t∈je p):mF (jM p t) (gS p).length (iw (eM p)) p.locks.length=true/\CZ (jM p t):=by
 obtain⟨Y,_,b,J,U,Z,hb4⟩:=kX (h.pf.kC ht).2.1
 have SA:qu t.body=some b:=by rw[J];exact pk U
 have hq:lT b:=λx B=>by
  obtain⟨_,h2,_⟩:=kX (h.pf.kC ht).2.1
  exact(IB (h2 x (by rw[J];exact B))).2
 have hlen:b.len<=40:=by rw[<- Bk.dL,<- J];exact Y
 have hd:=ai0 b 0 Z U
 have Kx:=oY b
 have Gd:=h.sz.2.2.2.2.2.2.2 t ht
 have hml:=fL p t.aS b 0 0 0
 have mr:=iK b
 rw[IE SA]
 have W:sC ⟨t.aS.length,jD b,dG p t.aS b 0 0 0⟩ (gS p).length (iw (eM p)) p.locks.length (dG p t.aS b 0 0 0) 0 (dG p t.aS b 0 0 0):=
  aiZ (c:=⟨t.aS.length,jD b,dG p t.aS b 0 0 0⟩) h rfl (dG p t.aS b 0 0 0) b 0 0 0 0 (λk y G=>by rw[uf];exact G) cU Z U hq (u4 _) (λhh=>absurd rfl hh) (u4 _) (by show 0+jD b<=jD b;omega) (λx B=>h.stk ht x (by rw[J];exact B))
 have O:∀(i:Nat) (x:aU),(dG p t.aS b 0 0 0)[i]?=some x->ae3 ⟨t.aS.length,jD b,dG p t.aS b 0 0 0⟩ (gS p).length (iw (eM p)) p.locks.length (dG p t.aS b 0 0 0) i x:=λi x B=>by
  have:=W i x B;rwa [uf]at this
 refine⟨?_,?_,λx B=>?_⟩
 .unfold mF
  have e1:xS ⟨t.aS.length,jD b,dG p t.aS b 0 0 0⟩=false:=by
   unfold xS
   simp only[sn,decide_eq_false_iff_not]
   omega
  rw[e1,rK (f:=xQ _ _ _ _) λi hi=>?_,rK (f:=sT _) λi hi=>?_]
  .rfl
  .obtain⟨x,B⟩:∃x,(dG p t.aS b 0 0 0)[i]?=some x:=⟨_,l0 hi⟩
   have I:=O i x B
   rw[AO B]
   by_cases G:x.kind=14
   .rw[fY G,yx]
    refine rK λk FZ=>?_
    obtain⟨y,M⟩:∃y,(dG p t.aS b 0 0 0)[k]?=some y:=⟨_,l0 (by have hi:i<(dG p t.aS b 0 0 0).length:=hi;omega)⟩
    rw[Dj M]
    by_cases E:y.kind=14
    .rw[fY E,yx,Bool.not_eq_false',vo,decide_eq_true_eq,decide_eq_true_eq]
     by_cases h1:x.to<=k
     .exact .inl (I.nest G k y h1 FZ M E)
     by_cases h2:(k:Int)+1<x.to
     .exact .inr h2
     exfalso
     obtain⟨z,hz,hz2⟩:=I.b13 G
     rw[show(x.to-1).toNat=k from cU,M]at hz
     obtain rfl:=o5.inj hz
     omega
    rw[gk E,P3]
   rw[gk G,P3]
  obtain⟨x,B⟩:∃x,(dG p t.aS b 0 0 0)[i]?=some x:=⟨_,l0 hi⟩
  have I:=O i x B
  rw[wT (show(⟨t.aS.length,jD b,dG p t.aS b 0 0 0⟩:gz).l[i]?=some x from B),I.fld,I.to];rfl
 .show(dG p t.aS b 0 0 0).length<=1000;omega
 obtain⟨i,hi⟩:=sB (show x∈dG p t.aS b 0 0 0 from B)
 have V:=(O i x hi).fld
 unfold xP efM at V
 simp only[n3]at V
 obtain⟨⟨h1,h2⟩,_⟩:=V
 refine⟨?_,?_⟩
 .split at h1
  .unfold fa at h1;simp only[n3,decide_eq_true_eq]at h1;omega
  simp at h1;rw[h1];simp
 split at h2
 .unfold fa at h2;simp only[n3,decide_eq_true_eq]at h2;omega
 simp at h2;rw[h2];simp
theorem ae8(a b c:Int):mF Qz a b c=true/\CZ Qz:=⟨rfl,er,λx B=>by cases B⟩
theorem awK(h:Bt p):mF (eM p).recover (gS p).length (iw (eM p)) p.locks.length=true/\CZ (eM p).recover:=by
 show mF (match p.recover[0]? with|some t=>jM p t|none=>⟨0,0,[]⟩) _ _ _=true/\CZ (match p.recover[0]? with|some t=>jM p t|none=>⟨0,0,[]⟩)
 cases hr:p.recover[0]? with
 | none=>exact ae8 _ _ _
 | some t=>exact R2 h (List.mem_append_right _ (ml hr))
theorem rn(h:Bt p):qR (eM p)=true/\UZ (eM p):=by
 obtain⟨g1,g2,g3,g4,g5,g6,g7,g8⟩:=h.sz
 have qF:=h.gS
 have gG:=rX p
 have M:=Fq p
 have Y:(eM p).dD.length=(gS p).length:=by show((gS p).map _).length=_;rw[oi]
 have O:(eM p).threads.length=p.threads.length:=by show(p.threads.map _).length=_;rw[oi]
 have F9:(eM p).cB.length=p.cB.length:=by show(p.cB.map _).length=_;rw[oi]
 have ZZ:∀c∈(eM p).threads,mF c (gS p).length (iw (eM p)) p.locks.length=true/\CZ c:=λc hc=>by
  obtain⟨t,ht,rfl⟩:=pB.1 (show c∈p.threads.map (jM p)from hc)
  exact R2 h (List.mem_append_left _ ht)
 have E:∀l∈(eM p).cB,fa l (eM p).stays=true/\l.length<=40:=λl B=>by
  obtain⟨c,hc,rfl⟩:=pB.1 (show l∈p.cB.map (λc=>eL (gi p) c.e)from B)
  refine vz (h.pf.cl c hc).2 (by simpa using h.cB c hc) ?_
  show cZ p=((gi p).length:Int)
  unfold gi bW
  rw[n0,oi];omega
 have I:∀c∈gS p,0<=c.n/\c.n<=4294967296:=λc hc=>by
  unfold gS at hc
  rcases qC.1 hc with hc|hc
  .obtain⟨l,B,W⟩:=List.mem_flatten.1 hc
   have:=Iz ((h.pf.lines l B).2 c W);exact⟨this.2.2.1,this.2.2.2⟩
  .have:=Iz (h.pf.jR c hc);exact⟨this.2.2.1,this.2.2.2⟩
 refine⟨?_,?_⟩
 .unfold qR
  have e1:mg (eM p)=false:=by
   unfold mg
   rw[M,Y,O]
   have J:(eM p).stays=cZ p:=rfl
   have G:(eM p).locks=p.locks.length:=rfl
   rw[J,G]
   simp only[sn,decide_eq_false_iff_not,not_true_eq_false,not_false_eq_true,and_true]
   omega
  have J:(eM p).dD.any mG=false:=pX λn U=>by
   obtain⟨c,hc,rfl⟩:=pB.1 (show n∈(gS p).map cG.n from U)
   have:=I c hc
   unfold mG
   rw[gk cU,gk cU];rfl
  have G:(qi (eM p).lines.length).any (ly (eM p))=false:=rK λi hi=>UN h cU
  have V:(eM p).threads.any (λc=>!mF c (eM p).lines.length (iw (eM p)) (eM p).locks)=false:=pX λc hc=>by
   have:=(ZZ c hc).1
   rw[M]
   show(!mF c (gS p).length (iw (eM p)) p.locks.length)=false
   rw[this];rfl
  have Z:(eM p).cB.any (λl=>!fa l (eM p).stays)=false:=pX λl B=>by rw[(E l B).1];rfl
  rw[e1,J,G,V,Z,M]
  show(!false&&(!false&&!false&&!false&&!false&&mF (eM p).recover (gS p).length (iw (eM p)) p.locks.length))=true
  rw[(awK h).1];rfl
 exact⟨cU,cU,cU,cU,λc hc=>(ZZ c hc).2,(awK h).2,λl B=>by have:=(E l B).2;omega⟩
end
def hdC(g:Int->Nat)(B E:Nat)(x:bD):Nat:=
 if x.kind=11 then g 12+max (B+(if 0<x.eR then g 11 else 0)) E
 else if x.kind=12 then g 13+x.n.toNat*(B+g 14)
 else if x.kind=13 then g 11 else g (if x.kind=14 then 15 else x.kind)
def tj(g:Int->Nat):Bk->Nat
 | .nil=>0
 | .cons x a b r=>hdC g (tj g a) (tj g b) x+tj g r
def qz(x:bD)(a b r:Bk)(at_:Int):Int:=at_+(aZ (.cons x a b r)-aZ r)
def W(g:Int->Nat):Bk->Int->Int->List Int->Int->Nat->Nat->Option Nat
 | .nil,at_,_,_,pos,kE,_=>if pos=at_ then some kE else none
 | .cons x a b r,at_,lp,cs,pos,kE,kO=>
  if qz x a b r at_<=pos then W g r (qz x a b r at_) lp cs pos kE kO
  else if pos=at_ then(if x.kind=13 then some (g 11+kO)else some (hdC g (tj g a) (tj g b) x+(tj g r+kE)))
  else if x.kind=11 then(if pos<jF x a at_ then W g a (at_+1) lp cs pos ((if 0<x.eR then g 11 else 0)+(tj g r+kE)) kO else W g b (jF x a at_) lp cs pos (tj g r+kE) kO)
  else if x.kind=12 then(if 1<=cs.getD lp.toNat 0/\cs.getD lp.toNat 0<=8 then W g a (at_+1) (lp+1) cs pos (g 14+((cs.getD lp.toNat 0).toNat-1)*(tj g a+g 14)+(tj g r+kE)) (tj g r+kE)else none)
  else none
def US(x:bD)(a b r:Bk)(at_:Int):at_+1<=qz x a b r at_:=by
 have h1:=iK a;have h2:=iK b
 have e:aZ (.cons x a b r)=(if x.kind=12 then 2+aZ a else if x.kind=11 then(if 0<x.eR then 1+aZ a+aZ b+1 else 1+aZ a+aZ b)else 1)+aZ r:=rfl
 grind[qz]
section
variable {g:Int->Nat}{lp:Int}{cs:List Int}{kE kO:Nat}
theorem A1(t:Bk)(at_:Int)(h:kO<=kE):∃r,W g t at_ lp cs at_ kE kO=some r/\r<=tj g t+kE:=by
 cases t with
 | nil=>simp_all[W,tj]
 | cons x a b r=>
  have h1:=US x a b r at_
  rw[show tj g (.cons x a b r)=hdC g (tj g a) (tj g b) x+tj g r from rfl]
  unfold W
  rw[ew (show ¬ qz x a b r at_<=at_ by omega),ez rfl]
  by_cases B:x.kind=13
  .rw[ez B]
   grind[hdC,tj]
  .rw[ew B];grind
theorem XF(t:Bk):∀(at_ pos:Int),pos=at_+aZ t->W g t at_ lp cs pos kE kO=some kE:=by
 induction t with
 | nil=>grind[aZ,W]
 | cons x a b r _ _ B=>
  intro at_ pos h
  have h1:=US x a b r at_
  have h2:=iK r
  have e:qz x a b r at_=at_+(aZ (.cons x a b r)-aZ r):=rfl
  grind[W]
theorem UT{x:bD}{a b r:Bk}{at_ pos:Int}(h:qz x a b r at_<=pos):W g (.cons x a b r) at_ lp cs pos kE kO=W g r (qz x a b r at_) lp cs pos kE kO:=by
 conv=>lhs;unfold W
 grind
theorem api{x:bD}{a b r:Bk}{at_:Int}(h:kO<=kE):∃B,W g (.cons x a b r) at_ lp cs (qz x a b r at_) kE kO=some B/\B<=tj g r+kE:=by
 rw[UT (u4 _)];exact A1 r _ h
end
def Tr(x:aU)(pos:Int)(cs:List Int)(pos':Int)(cs':List Int):Prop:=
 (x.kind=11/\pos'=x.to/\cs'=cs)\/(x.kind=12/\(pos'=x.to\/pos'=pos+1)/\cs'=cs)\/(x.kind=13/\pos'=pos+1/\cs'=cs.set x.a.toNat x.b)\/
 (x.kind=14/\cs'=cs.set x.a.toNat (sd (cs.getD x.a.toNat 0-1))/\((0<sd (cs.getD x.a.toNat 0-1)/\pos'=x.to)\/(¬ 0<sd (cs.getD x.a.toNat 0-1)/\pos'=pos+1)))\/
 (¬ x.kind=11/\¬ x.kind=12/\¬ x.kind=13/\¬ x.kind=14/\pos'=pos+1/\cs'=cs)
def apj{n:Int}(h:0<=n/\n<=8):sd n=n:=by
 obtain rfl|rfl|rfl|rfl|rfl|rfl|rfl|rfl|rfl:n=0\/n=1\/n=2\/n=3\/n=4\/n=5\/n=6\/n=7\/n=8:=cU
 all_goals decide
def Gk{cs:List Int}{i:Nat}{v:Int}(h:i<cs.length):(cs.set i v).getD i 0=v:=by
 grind
def getD_set_ne{cs:List Int}{i j:Nat}{v:Int}(h:i≠j):(cs.set i v).getD j 0=cs.getD j 0:=by
 grind
def D7{α:Type}{l1 l2:List α}{k:Int}{x:α}(h:(l1++l2)[k.toNat]?=some x)(B:k.toNat<l1.length):l1[k.toNat]?=some x:=by
 grind
def xA{α:Type}{l1 l2:List α}{k j:Int}{x:α}(h:(l1++l2)[k.toNat]?=some x)(B:l1.length<=k.toNat)(E:j.toNat=k.toNat-l1.length):l2[j.toNat]?=some x:=by
 grind
def at_one{α:Type}{y x:α}{k:Int}(h:[y][k.toNat]?=some x):x=y:=by
 grind
structure R3(g:Int->Nat)(t:Bk)(at_ lp out loops:Int)(cs cs':List Int)(pos':Int)(kE kO r c:Nat):Prop where
 low:∀j:Nat,(j:Int)<lp->cs'.getD j 0=cs.getD j 0
 len:cs'.length=cs.length
 go:(at_<=pos'/\pos'<=at_+aZ t/\∃r',W g t at_ lp cs' pos' kE kO=some r'/\r'+c<=r)\/(loops≠0/\pos'=out/\kO+c<=r)
section
variable {g:Int->Nat}{p:bQ}{rs:List ByteArray}
theorem ai1{x:aU}{pos pos':Int}{cs cs':List Int}(h:Tr x pos cs pos' cs')(h1:¬ x.kind=11)(h2:¬ x.kind=12)(h3:¬ x.kind=13)(h4:¬ x.kind=14):pos'=pos+1/\cs'=cs:=by
 rcases h with⟨q,_⟩|⟨q,_⟩|⟨q,_⟩|⟨q,_⟩|⟨_,_,_,_,h⟩
 .exact absurd q h1
 .exact absurd q h2
 .exact absurd q h3
 .exact absurd q h4
 exact h
theorem alL{x:aU}{pos pos':Int}{cs cs':List Int}(h:Tr x pos cs pos' cs')(h1:x.kind=11):pos'=x.to/\cs'=cs:=by
 rcases h with⟨q,h⟩|⟨q,_⟩|⟨q,_⟩|⟨q,_⟩|⟨q,_⟩
 .exact h
 all_goals omega
theorem awL{x:aU}{pos pos':Int}{cs cs':List Int}(h:Tr x pos cs pos' cs')(h1:x.kind=12):(pos'=x.to\/pos'=pos+1)/\cs'=cs:=by
 rcases h with⟨q,_⟩|⟨q,h⟩|⟨q,_⟩|⟨q,_⟩|⟨_,q,_⟩
 .omega
 .exact h
 all_goals omega
theorem awM{x:aU}{pos pos':Int}{cs cs':List Int}(h:Tr x pos cs pos' cs')(h1:x.kind=13):pos'=pos+1/\cs'=cs.set x.a.toNat x.b:=by
 rcases h with⟨q,_⟩|⟨q,_⟩|⟨q,h⟩|⟨q,_⟩|⟨_,_,q,_⟩
 .omega
 .omega
 .exact h
 all_goals omega
theorem awN{x:aU}{pos pos':Int}{cs cs':List Int}(h:Tr x pos cs pos' cs')(h1:x.kind=14):cs'=cs.set x.a.toNat (sd (cs.getD x.a.toNat 0-1))/\((0<sd (cs.getD x.a.toNat 0-1)/\pos'=x.to)\/(¬ 0<sd (cs.getD x.a.toNat 0-1)/\pos'=pos+1)):=by
 rcases h with⟨q,_⟩|⟨q,_⟩|⟨q,_⟩|⟨q,h⟩|⟨_,_,_,q,_⟩
 .omega
 .omega
 .omega
 .exact h
 omega
theorem apk(t:Bk):∀(at_ lp out loops:Int) (cs:List Int) (pos:Int) (kE kO r:Nat) (x:aU) (pos':Int) (cs':List Int),W g t at_ lp cs pos kE kO=some r->at_<=pos->pos<at_+aZ t->kO<=kE->lT t->t.str->t.ok loops=true->0<=lp->lp+jD t<=cs.length->
  (dG p rs t at_ lp out)[(pos-at_).toNat]?=some x->Tr x pos cs pos' cs'->R3 g t at_ lp out loops cs cs' pos' kE kO r (g x.kind):=by
 induction t with
 | nil=>intro at_ lp out loops cs pos kE kO r x pos' cs' _ h1 h2;have:aZ .nil=0:=rfl;omega
 | cons x a b B yQ A8 Kp=>
  intro at_ lp out loops cs pos kE kO r y pos' cs' E hp1 hp2 hO GQ ae5 kx RI af6 hy hT
  have hsa:=iK a;have hsb:=iK b;have hsr:=iK B
  have Z7:=oY a;have hdb:=oY b;have hdr:=oY B
  obtain⟨G7,Bd,_,_,UQ,ae6,ae7⟩:=ae5
  unfold Bk.ok at kx
  simp only[n3]at kx
  obtain⟨⟨⟨ho1,ZV⟩,ho3⟩,ho4⟩:=kx
  unfold Bk.Ko at ho1
  rw[decide_eq_true_eq]at ho1
  have mr:aZ (.cons x a b B)=(if x.kind=12 then 2+aZ a else if x.kind=11 then(if 0<x.eR then 1+aZ a+aZ b+1 else 1+aZ a+aZ b)else 1)+aZ B:=rfl
  have hdp:jD (.cons x a b B)=max (if x.kind=12 then max (jD a) (jD b)+1 else max (jD a) (jD b)) (jD B):=rfl
  have SE:=G4 p rs x a b B at_ lp out
  have hee:qz x a b B at_=at_+(aZ (.cons x a b B)-aZ B):=rfl
  have hen:=US x a b B at_
  rw[xO]at hy
  have next:∀Z:List Int,∀c:Nat,(∀j:Nat,(j:Int)<lp->Z.getD j 0=cs.getD j 0)->Z.length=cs.length->tj g B+kE+c<=r->R3 g (.cons x a b B) at_ lp out loops cs Z (qz x a b B at_) kE kO r c:=by
   intro Z c h1 h2 h3
   obtain⟨U,h4,h5⟩:=api (g:=g) (lp:=lp) (cs:=Z) (kE:=kE) (kO:=kO) (x:=x) (a:=a) (b:=b) (r:=B) (at_:=at_) hO
   exact⟨h1,h2,.inl ⟨cU,cU,U,h4,cU⟩⟩
  by_cases hE:qz x a b B at_<=pos
  .rw[UT hE]at E
   have hy2:=xA (j:=pos-qz x a b B at_) hy cU cU
   have G:=Kp (qz x a b B at_) lp out loops cs pos kE kO r y pos' cs' E hE cU hO GQ.r ae7 ho4 RI cU (by rw[hee,<- SE];rw[hee,<- SE]at hy2;exact hy2) hT
   refine⟨G.low,G.len,?_⟩
   rcases G.go with⟨h1,h2,U,h3,h4⟩|h1
   .exact .inl ⟨cU,cU,U,by rw[UT h1];exact h3,h4⟩
   .exact .inr h1
  .have M:=D7 hy cU
   clear hy
   have O:∀(Z:List Int) (q:Int),¬ qz x a b B at_<=q->q≠at_->W g (.cons x a b B) at_ lp Z q kE kO =
     (if x.kind=11 then(if q<jF x a at_ then W g a (at_+1) lp Z q ((if 0<x.eR then g 11 else 0)+(tj g B+kE)) kO else W g b (jF x a at_) lp Z q (tj g B+kE) kO)
      else if x.kind=12 then(if 1<=Z.getD lp.toNat 0/\Z.getD lp.toNat 0<=8 then W g a (at_+1) (lp+1) Z q (g 14+((Z.getD lp.toNat 0).toNat-1)*(tj g a+g 14)+(tj g B+kE)) (tj g B+kE)else none)else none):=by
    intro Z q h1 h2
    conv=>lhs;unfold W
    rw[ew h1,ew h2]
   have hWs:pos=at_->W g (.cons x a b B) at_ lp cs pos kE kO=if x.kind=13 then some (g 11+kO)else some (hdC g (tj g a) (tj g b) x+(tj g B+kE)):=by
    intro h1
    conv=>lhs;unfold W
    rw[ew hE,ez h1]
   unfold Lp at M SE
   have UW:∀j:Nat,(j:Int)<lp->cs.getD j 0=cs.getD j 0:=λ_ _=>rfl
   by_cases Y:x.kind=11
   .rw[ez Y]at M SE
    rw[ew (show ¬ x.kind=12 by omega),ez Y]at mr
    rw[ew (show ¬ x.kind=12 by omega)]at hdp
    have yt:Bk.G3 x loops=loops:=by unfold Bk.G3;rw[ew cU]
    rw[yt]at ZV ho3
    have QQ:=fL p rs a (at_+1) lp out
    have Su:=fL p rs b (jF x a at_) lp out
    have V:jF x a at_=if 0<x.eR then at_+1+aZ a+1 else at_+1+aZ a:=rfl
    have hhd:hdC g (tj g a) (tj g b) x=g 12+max (tj g a+(if 0<x.eR then g 11 else 0)) (tj g b):=by unfold hdC;rw[ez Y]
    have toB:∀c:Nat,tj g b+(tj g B+kE)+c<=r->R3 g (.cons x a b B) at_ lp out loops cs cs (jF x a at_) kE kO r c:=by
     intro c hc
     by_cases hz:qz x a b B at_<=jF x a at_
     .have:jF x a at_=qz x a b B at_:=by split at mr<;>(first|rw[ez (by assumption)]at V|rw[ew (by assumption)]at V)<;>omega
      rw[this];exact next cs c UW rfl cU
     .obtain⟨U,h4,h5⟩:=A1 (g:=g) (lp:=lp) (cs:=cs) (kE:=tj g B+kE) (kO:=kO) b (jF x a at_) cU
      have h6:at_+1<=jF x a at_:=by rw[V];split<;>omega
      exact⟨UW,rfl,.inl ⟨cU,cU,U,by rw[O cs _ hz cU,ez Y,ew cU];exact h4,cU⟩⟩
    by_cases I:pos=at_
    .rw[hWs I,ew (show ¬ x.kind=13 by omega),hhd]at E
     obtain rfl:=o5.inj E
     have J:y=⟨12,0,0,eL rs x.e,[],jF x a at_⟩:=by
      rw[I,show(at_-at_).toNat=0 from cU]at M
      simpa using M.symm
     subst J
     obtain⟨hq,rfl⟩:=awL hT rfl
     rcases hq with rfl|rfl
     .exact toB _ (by show _+g 12<=_;omega)
     .by_cases hz:qz x a b B at_<=pos+1
      .have:pos+1=qz x a b B at_:=cU
       rw[this];exact next _ _ UW rfl (by show _+g 12<=_;omega)
      .by_cases hz2:pos+1<jF x a at_
       .obtain⟨U,h4,h5⟩:=A1 (g:=g) (lp:=lp) (cs:=cs') (kE:=(if 0<x.eR then g 11 else 0)+(tj g B+kE)) (kO:=kO) a (at_+1) cU
        refine⟨UW,rfl,.inl ⟨cU,cU,U,?_,by show _+g 12<=_;omega⟩⟩
        rw[O _ _ hz cU,ez Y,ez hz2,I];exact h4
       .exfalso
        split at mr
        .rename_i he;rw[ez he]at V;omega
        .rename_i he;rw[ew he]at V
         have OJ:=yn (b:=b) cU
         subst OJ
         have:aZ .nil=0:=rfl
         omega
    .rw[O cs pos hE I,ez Y]at E
     by_cases hpt:pos<jF x a at_
     .rw[ez hpt]at E
      by_cases CS:pos<at_+1+aZ a
      .have hya:(dG p rs a (at_+1) lp out)[(pos-(at_+1)).toNat]?=some y:=by
        have h1:=D7 (D7 M (by simp only[lJ,mv];split<;>simp<;>omega)) (by simp only[lJ,mv];omega)
        exact xA h1 (by simp only[mv];omega) (by simp only[mv];omega)
       have G:=yQ (at_+1) lp out loops cs pos _ kO r y pos' cs' E cU CS cU GQ.a UQ ZV RI cU hya hT
       rcases G.go with⟨h1,h2,U,h3,h4⟩|h1
       .by_cases hz:qz x a b B at_<=pos'
        .have e1:pos'=at_+1+aZ a:=by split at mr<;>omega
         have e2:pos'=qz x a b B at_:=by split at mr<;>omega
         rw[XF a (at_+1) pos' e1]at h3
         obtain rfl:=o5.inj h3
         rw[e2];exact next cs' _ G.low G.len cU
        .refine⟨G.low,G.len,.inl ⟨cU,cU,U,?_,h4⟩⟩
         rw[O cs' pos' hz cU,ez Y]
         by_cases hz2:pos'<jF x a at_
         .rw[ez hz2];exact h3
         .exfalso
          split at mr
          .rename_i he;rw[ez he]at V;omega
          .rename_i he;rw[ew he]at V
           have OJ:=yn (b:=b) cU
           subst OJ
           have:aZ .nil=0:=rfl
           omega
       .exact⟨G.low,G.len,.inr h1⟩
      .have awO:0<x.eR:=by
        by_cases he:0<x.eR
        .exact he
        .rw[ew he]at V;omega
       rw[ez awO]at V mr E
       rw[ez awO]at M
       have e1:pos=at_+1+aZ a:=cU
       rw[XF a (at_+1) pos e1]at E
       obtain rfl:=o5.inj E
       have J:y=⟨11,0,0,[],[],jF x a at_+aZ b⟩:=by
        have h1:=D7 M (by simp only[lJ,mv];omega)
        exact at_one (xA (j:=0) h1 (by simp only[lJ,mv];omega) (by simp only[lJ,mv];omega))
       subst J
       obtain⟨rfl,rfl⟩:=alL hT rfl
       have e2:jF x a at_+aZ b=qz x a b B at_:=cU
       show R3 g _ at_ lp out loops cs' cs' (jF x a at_+aZ b) kE kO _ (g 11)
       rw[e2];exact next _ _ UW rfl cU
     .rw[ew hpt]at E
      have hyb:(dG p rs b (jF x a at_) lp out)[(pos-jF x a at_).toNat]?=some y:=by
       refine xA M ?_ ?_
       .simp only[lJ,mv];rw[V]at hpt;split<;>split at hpt<;>simp<;>omega
       .simp only[lJ,mv];rw[V];split<;>simp<;>omega
      have G:=A8 (jF x a at_) lp out loops cs pos _ kO r y pos' cs' E cU (by split at mr<;>(first|rw[ez (by assumption)]at V|rw[ew (by assumption)]at V)<;>omega) cU GQ.b ae6 ho3 RI cU hyb hT
      have h6:at_+1<=jF x a at_:=by rw[V];split<;>omega
      have h7:jF x a at_+aZ b=qz x a b B at_:=by split at mr<;>(first|rw[ez (by assumption)]at V|rw[ew (by assumption)]at V)<;>omega
      rcases G.go with⟨h1,h2,U,h3,h4⟩|h1
      .by_cases hz:qz x a b B at_<=pos'
       .rw[XF b _ pos' cU]at h3
        obtain rfl:=o5.inj h3
        rw[show pos'=qz x a b B at_ from cU]
        exact next cs' _ G.low G.len cU
       .refine⟨G.low,G.len,.inl ⟨cU,cU,U,?_,h4⟩⟩
        rw[O cs' pos' hz cU,ez Y,ew cU];exact h3
      .exact⟨G.low,G.len,.inr h1⟩
   .rw[ew Y]at M SE
    by_cases wV:x.kind=12
    .rw[ez wV]at M SE mr hdp
     have yt:Bk.G3 x loops=loops+1:=by unfold Bk.G3;rw[ez wV]
     rw[yt]at ZV
     have QQ:=fL p rs a (at_+1) (lp+1) (at_+2+aZ a)
     have hxn:=GQ.x wV
     have hhd:hdC g (tj g a) (tj g b) x=g 13+x.n.toNat*(tj g a+g 14):=by unfold hdC;rw[ew Y,ez wV]
     by_cases I:pos=at_
     .rw[hWs I,ew (show ¬ x.kind=13 by omega),hhd]at E
      obtain rfl:=o5.inj E
      have J:y=⟨13,lp,x.n,[],[],0⟩:=by
       rw[I,show(at_-at_).toNat=0 from cU]at M
       simpa using M.symm
      subst J
      obtain⟨rfl,rfl⟩:=awM hT rfl
      have hg:(cs.set lp.toNat x.n).getD lp.toNat 0=x.n:=Gk cU
      obtain⟨U,h4,h5⟩:=A1 (g:=g) (lp:=lp+1) (cs:=cs.set lp.toNat x.n) (kE:=g 14+(x.n.toNat-1)*(tj g a+g 14)+(tj g B+kE)) (kO:=tj g B+kE) a (at_+1) cU
      obtain⟨m,hm⟩:∃m,x.n.toNat=m+1:=⟨x.n.toNat-1,cU⟩
      rw[hm,FD]at h4 h5
      refine⟨λj hj=>getD_set_ne (by show lp.toNat≠j;omega),et,.inl ⟨cU,cU,U,?_,?_⟩⟩
      .show W g _ at_ lp (cs.set lp.toNat x.n) (pos+1) kE kO=_
       rw[O _ _ cU cU,ew Y,ez wV,hg,ez hxn,hm,FD,I];exact h4
      .show U+g 13<=_
       rw[hm,H5];omega
     .rw[O cs pos hE I,ew Y,ez wV]at E
      split at E
      .rename_i hcc
       by_cases CS:pos<at_+1+aZ a
       .have hya:(dG p rs a (at_+1) (lp+1) (at_+2+aZ a))[(pos-(at_+1)).toNat]?=some y:=by
         have h1:=D7 M (by simp only[lJ,mv];omega)
         exact xA h1 (by simp only[mv];omega) (by simp only[mv];omega)
        have G:=yQ (at_+1) (lp+1) (at_+2+aZ a) (loops+1) cs pos _ _ r y pos' cs' E cU CS cU GQ.a UQ ZV cU cU hya hT
        have AP:cs'.getD lp.toNat 0=cs.getD lp.toNat 0:=G.low lp.toNat cU
        have Zv:∀j:Nat,(j:Int)<lp->cs'.getD j 0=cs.getD j 0:=λj hj=>G.low j cU
        rcases G.go with⟨h1,h2,U,h3,h4⟩|⟨_,h1,h2⟩
        .refine⟨Zv,G.len,.inl ⟨cU,cU,U,?_,h4⟩⟩
         rw[O cs' pos' cU cU,ew Y,ez wV,AP,ez hcc];exact h3
        .rw[show pos'=qz x a b B at_ from cU]
         exact next cs' _ Zv G.len cU
       .have e1:pos=at_+1+aZ a:=cU
        rw[XF a (at_+1) pos e1]at E
        obtain rfl:=o5.inj E
        have J:y=⟨14,lp,0,[],[],at_+1⟩:=at_one (xA (j:=0) M (by simp only[lJ,mv];omega) (by simp only[lJ,mv];omega))
        subst J
        obtain⟨rfl,hq⟩:=awN hT rfl
        have hwe:sd (cs.getD lp.toNat 0-1)=cs.getD lp.toNat 0-1:=apj cU
        have hq:(0<sd (cs.getD lp.toNat 0-1)/\pos'=at_+1)\/(¬ 0<sd (cs.getD lp.toNat 0-1)/\pos'=pos+1):=hq
        have Zv:∀j:Nat,(j:Int)<lp->(cs.set lp.toNat (sd (cs.getD lp.toNat 0-1))).getD j 0=cs.getD j 0:=λj hj=>getD_set_ne cU
        show R3 g _ at_ lp out loops cs (cs.set lp.toNat (sd (cs.getD lp.toNat 0-1))) pos' kE kO _ (g 14)
        rw[hwe]at hq Zv |-
        rcases hq with⟨q1,q2⟩|⟨q1,q2⟩
        .have hg:(cs.set lp.toNat (cs.getD lp.toNat 0-1)).getD lp.toNat 0=cs.getD lp.toNat 0-1:=Gk cU
         obtain⟨m,hm⟩:∃m,(cs.getD lp.toNat 0).toNat=m+2:=⟨(cs.getD lp.toNat 0).toNat-2,cU⟩
         obtain⟨U,h4,h5⟩:=A1 (g:=g) (lp:=lp+1) (cs:=cs.set lp.toNat (cs.getD lp.toNat 0-1)) (kE:=g 14+m*(tj g a+g 14)+(tj g B+kE)) (kO:=tj g B+kE) a (at_+1) cU
         refine⟨Zv,et,.inl ⟨cU,cU,U,?_,?_⟩⟩
         .rw[O _ _ cU cU,ew Y,ez wV,hg,ez cU,q2,show(cs.getD lp.toNat 0-1).toNat-1=m from cU];exact h4
         .rw[hm,show m+2-1=m+1 from cU,H5];omega
        .rw[show pos'=qz x a b B at_ from cU]
         exact next _ _ Zv et cU
      .cases E
    .rw[ew wV]at M SE
     rw[ew wV,ew Y]at mr
     have I:pos=at_:=cU
     rw[hWs I]at E
     by_cases Od:x.kind=13
     .rw[ez Od]at M E
      obtain rfl:=o5.inj E
      have J:=at_one M
      subst J
      obtain⟨rfl,rfl⟩:=alL hT rfl
      exact⟨UW,rfl,.inr ⟨cU,rfl,by show kO+g 11<=_;omega⟩⟩
     .rw[ew Od]at M E
      obtain rfl:=o5.inj E
      have J:=at_one M
      subst J
      have oH:(eE p rs x).kind=if x.kind=14 then 15 else x.kind:=rfl
      obtain⟨rfl,rfl⟩:=ai1 hT (by rw[oH];split<;>omega) (by rw[oH];split<;>omega) (by rw[oH];split<;>omega) (by rw[oH];split<;>omega)
      have hhd:hdC g (tj g a) (tj g b) x=g (eE p rs x).kind:=by unfold hdC;rw[ew Y,ew wV,ew Od,oH]
      rw[show pos+1=qz x a b B at_ from cU]
      exact next _ _ UW rfl cU
end
structure R4(p:bQ)(c:gz)(b:Bk)(rs:List ByteArray):Prop where
 l:c.l=dG p rs b 0 0 0
 cn:c.counts=jD b
 rd:lT b
 str:b.str
 ok:b.ok 0=true
structure TW(g:Int->Nat)(p:bQ)(b:Bk)(rs:List ByteArray)(t:fN)(r:Nat):Prop where
 code:R4 p t.code b rs
 cl:(t.counts.length:Int)=t.code.counts
 a0:0<=t.at_
 a1:t.at_<=aZ b
 w:W g b 0 0 t.counts t.at_ 0 0=some r
section
variable {g:Int->Nat}{p:bQ}{b:Bk}{rs:List ByteArray}{t t':fN}{r:Nat}
theorem TW.next{x:aU}(h:TW g p b rs t r)(B:gj t=some x)(J:Tr x t.at_ t.counts t'.at_ t'.counts)(hc:t'.code=t.code):∃E,TW g p b rs t' E/\E+g x.kind<=r:=by
 have h1:=(tg B).2
 have U:=fL p rs b 0 0 0
 rw[h.code.l]at h1
 have M:(dG p rs b 0 0 0)[(t.at_-0).toNat]?=some x:=by
  unfold gj at B
  rw[h.code.l]at B
  rw[ew cU]at B
  rw[Int.sub_zero];exact B
 have I:=h.code.cn
 have O:=h.cl
 have G:=apk (g:=g) (p:=p) (rs:=rs) b 0 0 0 0 t.counts t.at_ 0 0 r x t'.at_ t'.counts h.w h.a0 cU (qQ _) h.code.rd h.code.str h.code.ok (u4 _) cU M J
 rcases G.go with⟨h3,h4,E,h5,h6⟩|⟨h3,_⟩
 .exact⟨E,⟨by rw[hc];exact h.code,by rw[G.len,hc];exact h.cl,h3,cU,h5⟩,h6⟩
 exact absurd rfl h3
theorem TW.same(h:TW g p b rs t r)(hc:t'.code=t.code)(B:t'.at_=t.at_)(E:t'.counts=t.counts):TW g p b rs t' r:=
 ⟨by rw[hc];exact h.code,by rw[E,hc];exact h.cl,by rw[B];exact h.a0,by rw[B];exact h.a1,by rw[E,B];exact h.w⟩
theorem apl{x:aU}{e:Int}(h:(Ab t x e).2=true):Tr x t.at_ t.counts (Ab t x e).1.at_ (Ab t x e).1.counts:=by
 by_cases h1:x.kind=1
 .rw[Re h1];exact .inr (.inr (.inr (.inr ⟨cU,cU,cU,cU,rfl,rfl⟩)))
 by_cases J:x.kind=11
 .rw[Fc J];exact .inl ⟨J,rfl,rfl⟩
 by_cases I:x.kind=12
 .by_cases B:e=0
  .rw[Dx I B];exact .inr (.inl ⟨I,.inl rfl,rfl⟩)
  rw[Dy I B];exact .inr (.inl ⟨I,.inr rfl,rfl⟩)
 by_cases M:x.kind=13
 .rw[Je M];exact .inr (.inr (.inl ⟨M,rfl,rfl⟩))
 by_cases G:x.kind=14
 .by_cases B:0<sd (t.counts.getD x.a.toNat 0-1)
  .rw[Dz G B];exact .inr (.inr (.inr (.inl ⟨G,rfl,.inl ⟨B,rfl⟩⟩)))
  rw[DB G B];exact .inr (.inr (.inr (.inl ⟨G,rfl,.inr ⟨B,rfl⟩⟩)))
 by_cases E:x.kind=15
 .by_cases B:e=0
  .rw[DC E B]at h;cases h
  rw[DD E B];exact .inr (.inr (.inr (.inr ⟨J,I,M,G,rfl,rfl⟩)))
 rw[Jf h1 J I M G E]at h;cases h
theorem afc{x:aU}{e:Int}(h:(Ab t x e).2=false):(Ab t x e).1.at_=t.at_/\(Ab t x e).1.counts=t.counts/\(Ab t x e).1.aS=t.aS:=by
 by_cases h1:x.kind=1
 .rw[Re h1]at h;cases h
 by_cases J:x.kind=11
 .rw[Fc J]at h;cases h
 by_cases I:x.kind=12
 .by_cases B:e=0
  .rw[Dx I B]at h;cases h
  rw[Dy I B]at h;cases h
 by_cases M:x.kind=13
 .rw[Je M]at h;cases h
 by_cases G:x.kind=14
 .by_cases B:0<sd (t.counts.getD x.a.toNat 0-1)
  .rw[Dz G B]at h;cases h
  rw[DB G B]at h;cases h
 by_cases E:x.kind=15
 .by_cases B:e=0
  .rw[DC E B];exact⟨rfl,rfl,rfl⟩
  rw[DD E B]at h;cases h
 rw[Jf h1 J I M G E];exact⟨rfl,rfl,rfl⟩
theorem Md(h:(fF t).2=true):∃x,gj t=some x/\Tr x t.at_ t.counts (fF t).1.at_ (fF t).1.counts:=by
 cases hn:gj t with
 | none=>rw[xi hn]at h;cases h
 | some x=>
  refine⟨x,rfl,?_⟩
  cases he:(eo x.e t.aS).2 with
  | false=>rw[xj hn he]at h;cases h
  | true=>
   cases hf:(eo x.f t.aS).2 with
   | false=>rw[xk hn he hf]at h;cases h
   | true=>
    rw[iz hn he hf]at h |-
    exact apl (t:=tF (tE t x) x) h
theorem R5(h:(fF t).2=false):(fF t).1.at_=t.at_/\(fF t).1.counts=t.counts:=by
 cases hn:gj t with
 | none=>rw[xi hn];exact⟨rfl,rfl⟩
 | some x=>
  cases he:(eo x.e t.aS).2 with
  | false=>rw[xj hn he];exact⟨rfl,rfl⟩
  | true=>
   cases hf:(eo x.f t.aS).2 with
   | false=>rw[xk hn he hf];exact⟨rfl,rfl⟩
   | true=>
    rw[iz hn he hf]at h |-
    have:=afc (t:=tF (tE t x) x) h
    exact⟨this.1,this.2.1⟩
theorem TW.go:∀{N:Nat}{t t':fN}{r:Nat},TW g p b rs t r->tm N t=some t'->∃E,TW g p b rs t' E/\E<=r
 | 0,_,_,_,_,h=>by cases h
 | N+1,t,t',r,B,h=>by
  unfold tm at h
  split at h
  .rename_i hs
   obtain⟨x,G,I⟩:=Md hs
   obtain⟨r1,h1,h2⟩:=B.next G I (rW t).1
   obtain⟨J,h3,h4⟩:=TW.go h1 h
   exact⟨J,h3,cU⟩
  .rename_i hs
   cases h
   have:=R5 (by simpa using hs)
   exact⟨r,B.same (rW t).1 this.1 this.2,qQ _⟩
theorem R6:∀{n:Nat}{t:fN}{r:Nat},TW (λ_=>1) p b rs t r->r<=n->∃t',tm (n+1) t=some t'
 | n,t,r,B,I=>by
  cases hs:(fF t).2 with
  | false=>exact⟨_,by unfold tm;rw[hs];rfl⟩
  | true=>
   obtain⟨x,E,G⟩:=Md hs
   obtain⟨r1,h1,h2⟩:=B.next E G (rW t).1
   cases n with
   | zero=>exfalso;omega
   | succ n=>
    obtain⟨t',h3⟩:=R6 (n:=n) h1 cU
    exact⟨t',by unfold tm;rw[hs,ez rfl];exact h3⟩
end
def JQ(p:bQ)(t:fN):Prop:=∃b rs,∀g,∃r,TW g p b rs t r
section
variable {p:bQ}{t t':fN}
theorem JQ.next{x:aU}(h:JQ p t)(B:gj t=some x)(G:Tr x t.at_ t.counts t'.at_ t'.counts)(hc:t'.code=t.code):JQ p t':=by
 obtain⟨b,rs,h⟩:=h
 exact⟨b,rs,λg=>by obtain⟨r,h1⟩:=h g;obtain⟨E,h2,_⟩:=h1.next B G hc;exact⟨E,h2⟩⟩
theorem JQ.same(h:JQ p t)(hc:t'.code=t.code)(B:t'.at_=t.at_)(E:t'.counts=t.counts):JQ p t':=by
 obtain⟨b,rs,h⟩:=h
 exact⟨b,rs,λg=>by obtain⟨r,h1⟩:=h g;exact⟨r,h1.same hc B E⟩⟩
theorem JQ.go{N:Nat}(h:JQ p t)(E:tm N t=some t'):JQ p t':=by
 obtain⟨b,rs,h⟩:=h
 exact⟨b,rs,λg=>by obtain⟨r,h1⟩:=h g;obtain⟨B,h2,_⟩:=h1.go E;exact⟨B,h2⟩⟩
theorem JQ.total(h:JQ p t):∃N t',tm N t=some t':=by
 obtain⟨b,rs,h⟩:=h
 obtain⟨r,h1⟩:=h λ_=>1
 obtain⟨t',h2⟩:=R6 h1 (qQ r)
 exact⟨_,t',h2⟩
end
def Of{p:bQ}{c:gz}{b:Bk}{rs:List ByteArray}(h:R4 p c b rs)(hc:0<=c.counts)(g:Int->Nat):∃r,TW g p b rs (qU c) r/\r<=tj g b:=by
 obtain⟨r,h1,h2⟩:=A1 (g:=g) (lp:=0) (cs:=o6 c.counts.toNat 0) (kE:=0) (kO:=0) b 0 (qQ _)
 have:=iK b
 exact⟨r,⟨h,by show((o6 c.counts.toNat (0:Int)).length:Int)=c.counts;rw[tr];omega,u4 _,this.1,h1⟩,cU⟩
def XH{p:bQ}(h:Bt p){t:cE}(ht:t∈je p):∃b,R4 p (jM p t) b t.aS/\qu t.body=some b/\lT b:=by
 obtain⟨b,h1,h2,h3,_,h5,_,_,B,_⟩:=h.tree ht
 rw[IE B]
 exact⟨b,⟨rfl,rfl,h5,h2,h3⟩,B,h5⟩
theorem awP{p:bQ}(h:Bt p):∃b rs,R4 p (eM p).recover b rs:=by
 show ∃b rs,R4 p (match p.recover[0]? with|some t=>jM p t|none=>⟨0,0,[]⟩) b rs
 cases hr:p.recover[0]? with
 | none=>exact⟨.nil,[],⟨rfl,rfl,λx B=>(by cases B),trivial,rfl⟩⟩
 | some t=>
  obtain⟨b,hb,_⟩:=XH h (List.mem_append_right p.threads (ml hr))
  exact⟨b,_,hb⟩
structure PM(p:bQ)(m:jU):Prop where
 chk:Bt p
 u:m.u=eM p
 gm:GM m
 tw:∀t∈m.l,JQ p t
section
variable {p:bQ}{m m2:jU}
theorem Zw(h:Bt p):∃N t,tm N (qU (eM p).recover)=some t/\JQ p t:=by
 obtain⟨b,rs,hb⟩:=awP h
 have B:=uC (rn h).1
 have E:JQ p (qU (eM p).recover):=⟨b,rs,λg=>by obtain⟨r,h1,_⟩:=Of hb B.rc.cb.1 g;exact⟨r,h1⟩⟩
 obtain⟨N,t,ht⟩:=E.total
 exact⟨N,t,ht,E.go ht⟩
theorem R7(h:Bt p):∃N kC,vY N (eM p).threads kC/\∀t∈kC,JQ p t:=by
 have J:=uC (rn h).1
 have I:∀cs:List gz,(∀c∈cs,c∈(eM p).threads)->∃N kC,vY N cs kC/\∀t∈kC,JQ p t:=by
  intro cs
  induction cs with
  | nil=>intro _;exact⟨0,[],⟨rfl,λj c t h=>by simp at h⟩,λt ht=>by cases ht⟩
  | cons c cs W=>
   intro V
   obtain⟨N,kC,h1,h2⟩:=W λc hc=>V c (so _ hc)
   have O:=V c (qs ..)
   obtain⟨t,ht,rfl⟩:=pB.1 (show c∈p.threads.map (jM p)from O)
   obtain⟨b,hb,_⟩:=XH h (List.mem_append_left p.recover ht)
   have U:JQ p (qU (jM p t)):=⟨b,t.aS,λg=>by obtain⟨r,h1,_⟩:=Of hb (J.th _ O).cb.1 g;exact⟨r,h1⟩⟩
   obtain⟨M,t',G⟩:=U.total
   refine⟨N+M,t'::kC,⟨by rw[qb,qb,h1.1],λj Y t2 B E=>?_⟩,λt2 E=>?_⟩
   .cases j with
    | zero=>
     rw[List.getElem?_cons_zero]at B E
     cases B;cases E
     rw[Nat.add_comm];exact JK G
    | succ j=>
     rw[List.getElem?_cons_succ]at B E
     exact JK (h1.2 j Y t2 B E)
   .rcases ta.1 E with rfl|E
    .exact U.go G
    .exact h2 t2 E
 exact I _ λc hc=>hc
theorem Ci{t:fN}{i:Int}{x:aU}:(dS m t i x).2.1.counts=t.counts:=by
 unfold dS loadT casT xo
 repeat' split
 all_goals rfl
theorem XI{t:fN}{i:Int}{x:aU}(h:JQ p t)(B:gj t=some x)(E:2<=x.kind/\x.kind<=10):JQ p { (dS m t i x).2.1 with at_:=(dS m t i x).2.1.at_+1}:=
 h.next B (.inr (.inr (.inr (.inr ⟨cU,cU,cU,cU,by show(dS m t i x).2.1.at_+1=_;rw[DG],Ci⟩)))) qT
theorem Og{α:Type}{φ:α->Prop}{l:List α}{i:Nat}{x:α}(h:∀y∈l,φ y)(E:φ x):∀y∈l.set i x,φ y:=λy B=>by
 grind
theorem PM.do{N:Nat}{q:cC}{ev:bZ}{e:Int}(h:PM p m)(E:Jo N m q=some (m2,ev,e)):PM p m2:=by
 refine⟨h.chk,(JL E).2.1.trans h.u,h.gm.do E,?_⟩
 cases hc:jg m q with
 | some lx=>
  obtain⟨t,O,hm,_⟩:=ti E hc
  rw[hm]
  intro t' W
  obtain rfl:t'=t:=by simpa using(show t'∈[t]from W)
  rw[h.u]at O
  obtain⟨b,rs,hb⟩:=awP h.chk
  have V:=uC (rn h.chk).1
  have M:JQ p (qU (eM p).recover):=⟨b,rs,λg=>by obtain⟨r,h1,_⟩:=Of hb V.rc.cb.1 g;exact⟨r,h1⟩⟩
  exact M.go O
 | none=>
  by_cases G:(gV m).any (gY q)=true
  .by_cases Y:q.kind=2
   .obtain⟨_,t,ht⟩:=ui G
    rw[(rf E hc G Y ht).1]
    exact Og h.tw ((h.tw t (ml ht)).same rfl rfl rfl)
   .have B:=(oL E hc G Y).1
    cases ht:m.l[q.t.toNat]? with
    | none=>unfold nL at B;rw[ht]at B;cases B
    | some t=>
     have U:=ml ht
     by_cases J:t.fault≠0
     .rw[(AS B ht J).1];exact h.tw
     .obtain⟨x,I⟩:=DH B ht J
      have Z:=(h.gm.th t U).2.1 x I cU
      by_cases M:(dS m t q.t x).1.fault=0
      .obtain⟨t2,O,Sn,_⟩:=AT B ht J I M
       rw[Sn]
       show ∀t'∈(dS m t q.t x).1.l.set _ _,_
       rw[Ff]
       exact Og h.tw ((XI (h.tw t U) I Z).go O)
      .rw[(AU B ht J I M).1]
       show ∀t'∈(dS m t q.t x).1.l.set _ _,_
       rw[Ff]
       exact Og h.tw ((h.tw t U).same qT DG Ci)
  .rw[(re E hc G).1];exact h.tw
theorem R8{q:cC}(h:(gV m).any (gY q)=true)(I:¬ q.kind=2):q.kind=1/\∃t,m.l[q.t.toNat]?=some t/\yT m t=true:=by
 rw[wk]at h
 obtain⟨x,G,E⟩:=h
 unfold gY at E
 simp only[n3,decide_eq_true_eq]at E
 unfold gV at G
 split at G
 .cases G
 obtain⟨i,t,_,ht,B⟩:=Gg G
 have h1:=Rq B
 unfold vW at B
 rw[qC]at B
 rcases B with B|B
 .split at B
  .rename_i hc
   simp at B
   subst B
   refine⟨E.1.1.1.symm,t,?_,hc⟩
   have e:q.t=(i:Int):=E.1.1.2.symm
   rw[e];exact ht
  cases B
 rw[pB]at B
 obtain⟨k,_,rfl⟩:=B
 exact absurd E.1.1.1.symm I
theorem afd(h:PM p m)(q:cC):∃N m2 ev e,Jo N m q=some (m2,ev,e)/\PM p m2:=by
 have E:∃N m2 ev e,Jo N m q=some (m2,ev,e):=by
  cases hc:jg m q with
  | some lx=>
   obtain⟨N,t,ht,_⟩:=Zw h.chk
   exact⟨N,mO (Ag m lx) [t],⟨15,0,0,sJ q.cut q.cut.length,0⟩,0,by unfold Jo;rw[hc];dsimp only;rw[h.u,ht];rfl⟩
  | none=>
   by_cases B:(gV m).any (gY q)=true
   .by_cases G:q.kind=2
    .obtain⟨_,t,ht⟩:=ui B
     refine⟨0,nK m t q,mI q.t (cO t.buf q.i),0,?_⟩
     unfold Jo;rw[hc];dsimp only;rw[ez B,ez G,ht];rfl
    .obtain⟨ZU,t,ht,J⟩:=R8 B G
     have O:=ml ht
     have V:∃N r,nL N m q.t=some r:=by
      by_cases I:t.fault≠0
      .exact⟨0,_,by unfold nL;rw[ht];dsimp only;rw[ez I]⟩
      .cases hn:gj t with
       | none=>unfold yT at J;rw[hn]at J;cases J
       | some x=>
        by_cases U:(dS m t q.t x).1.fault=0
        .have W:=(h.gm.th t O).2.1 x hn cU
         obtain⟨N,t2,Z⟩:=(XI (m:=m) (i:=q.t) (h.tw t O) hn W).total
         exact⟨N,_,by unfold nL;rw[ht];dsimp only;rw[ew I,hn];dsimp only;rw[ez U,Z];rfl⟩
        .exact⟨0,_,by unfold nL;rw[ht];dsimp only;rw[ew I,hn];dsimp only;rw[ew U]⟩
     obtain⟨N,r,Y⟩:=V
     exact⟨N,r.1,r.2,0,by unfold Jo;rw[hc];dsimp only;rw[ez B,ew G,Y];rfl⟩
   .exact⟨0,m,⟨0,0,0,0,0⟩,13,by unfold Jo;rw[hc];dsimp only;rw[ew B]⟩
 obtain⟨N,m2,ev,e,M⟩:=E
 exact⟨N,m2,ev,e,M,h.do M⟩
theorem PM.new{N:Nat}{room:Int}{kC:List fN}(h:Bt p)(hb:vY N (eM p).threads kC)(ht:∀t∈kC,JQ p t)(B:1<=room/\room<=16):PM p (mO (m6 (eM p) room) kC):=
 ⟨h,rfl,GM.new (uC (rn h).1) (rn h).2 hb B,ht⟩
end
inductive XJ(c:List aU):Int->Int->Prop
 | nil (i:Int):XJ c i i
 | cons {i j:Int}{x:aU}(h0:0<=i) (hx:c[i.toNat]?=some x) (hk:x.kind=11) (he:x.e=[]) (hf:x.f=[]) (h:XJ c x.to j):XJ c i j
theorem XJ.trans{c:List aU}{i j k:Int}(h:XJ c i j)(h2:XJ c j k):XJ c i k:=by
 induction h with
 | nil=>exact h2
 | cons B I E he G _ J=>exact .cons B I E he G (J h2)
def Me(c l:List aU)(i:Int):Prop:=0<=i/\∀k,k<l.length->c[i.toNat+k]?=l[k]?
theorem Me.app{c l1 l2:List aU}{i:Int}(h:Me c (l1++l2) i):Me c l1 i/\Me c l2 (i+l1.length):=by
 refine⟨⟨h.1,λk B=>?_⟩,by have:=h.1;omega,λk B=>?_⟩
 .rw[h.2 k dH,s7 B]
 have h2:=h.2 (l1.length+k) dH
 rw[sl cU,By]at h2
 rw[show(i+(l1.length:Int)).toNat+k=i.toNat+(l1.length+k)from by have:=h.1;omega]
 exact h2
def Me.head{c l:List aU}{x:aU}{i:Int}(h:Me c (x::l) i):c[i.toNat]?=some x/\Me c l (i+1):=by
 have h2:=Me.app (l1:=[x]) (l2:=l) h
 simp_all[Me]
def Me.one{c:List aU}{x:aU}{i:Int}(h:Me c [x] i):c[i.toNat]?=some x:=h.head.1
structure GdS(p:bQ)(rs:List ByteArray)(x:bD):Prop where
 k:1<=x.kind/\x.kind<=14
 e:x.e=[]\/(gM x.e=true/\oI x.e rs=false)
 f:x.f=[]\/(gM x.f=true/\oI x.f rs=false)
 e0:x.kind=12\/x.kind=13->x.e=[]
 f0:11<=x.kind->x.f=[]
 n:x.kind=12->1<=x.n/\x.n<=8
 nb:oJ p rs x=false
def Oh(p:bQ)(rs:List ByteArray)(cn:Nat):Bk->Int->Prop
 | .nil,_=>True
 | .cons x a b r,lp=>GdS p rs x/\(x.kind=12->lp<cn/\Oh p rs cn a (lp+1))/\(x.kind=11->Oh p rs cn a lp/\Oh p rs cn b lp/\(¬ 0<x.eR->b=.nil))/\(x.kind=13->0<lp)/\Oh p rs cn r lp
theorem Oh.of{p:bQ}{rs:List ByteArray}{cn:Nat}:∀(b:Bk) (lp:Int),b.str->b.ok lp=true->0<=lp->lp+jD b<=cn->(∀x∈b.flat,GdS p rs x)->Oh p rs cn b lp
 | .nil,_,_,_,_,_,_=>trivial
 | .cons x a b r,lp,hs,J,M,I,G=>by
  obtain⟨s1,s2,s3,s4,V,Z,W⟩:=hs
  unfold Bk.ok at J
  simp only[n3]at J
  obtain⟨⟨⟨k1,B⟩,O⟩,k4⟩:=J
  unfold jD at I
  have da:=oY a
  have db:=oY b
  have dr:=oY r
  have xa:∀y∈a.flat,GdS p rs y:=λy E=>G y (by unfold Bk.flat;simp[E])
  have xb:∀y∈b.flat,GdS p rs y:=λy E=>G y (by unfold Bk.flat;simp[E])
  have Y:∀y∈r.flat,GdS p rs y:=λy E=>G y (by unfold Bk.flat;simp[E])
  refine⟨G x (by unfold Bk.flat;simp),λU=>?_,λBE=>?_,λOd=>?_,Oh.of r lp W k4 M cU Y⟩
  .rw[ez U]at I
   unfold Bk.G3 at B
   rw[ez U]at B
   exact⟨cU,Oh.of a (lp+1) V B cU cU xa⟩
  .rw[ew cU]at I
   unfold Bk.G3 at B O
   rw[ew cU]at B O
   refine⟨Oh.of a lp V B M cU xa,Oh.of b lp Z O M cU xb,λhe=>yn cU⟩
  .unfold Bk.Ko at k1
   grind
structure apn(c:List aU)(p:bQ)(rs:List ByteArray)(cn:List Int)(x:bD)(a:Bk)(j lp o:Int):Prop where
 l1:1<=lp
 oj:o=j+1
 k:x.kind=12
 e:x.e=[]
 f:x.f=[]
 n:0<=x.n/\x.n<=8
 cv:cn[(lp-1).toNat]?=some (x.n+1)
 i:c[j.toNat]?=some ⟨14,lp-1,0,[],[],j-aZ a⟩
 b0:0<=j-aZ a
 b:Me c (dG p rs a (j-aZ a) lp o) (j-aZ a)
 g:Oh p rs cn.length a lp
def iC(c:List aU)(p:bQ)(rs:List ByteArray)(cn:List Int):PD->Int->Int->Int->Prop
 | [],i,lp,_=>XJ c i c.length/\lp=0
 | (b,false)::r,i,lp,o=>b≠.nil/\∃j,XJ c i j/\Me c (dG p rs b j lp o) j/\Oh p rs cn.length b lp/\iC c p rs cn r (j+aZ b) lp o
 | (b,true)::r,i,lp,o=>∃x a j B,b=.cons x a .nil .nil/\XJ c i j/\apn c p rs cn x a j lp o/\iC c p rs cn r (j+1) (lp-1) B
def ai4(c:List aU)(p:bQ)(rs:List ByteArray)(cn:List Int):PD->Int->Int->Int->Prop
 | [],i,lp,_=>i=c.length/\lp=0
 | (b,false)::r,i,lp,o=>b≠.nil/\Me c (dG p rs b i lp o) i/\Oh p rs cn.length b lp/\iC c p rs cn r (i+aZ b) lp o
 | (b,true)::r,i,lp,o=>∃x a B,b=.cons x a .nil .nil/\apn c p rs cn x a i lp o/\iC c p rs cn r (i+1) (lp-1) B
section
variable {c:List aU}{p:bQ}{rs:List ByteArray}{cn:List Int}{i j o lp:Int}{q:PD}
theorem iC.jmp(h:XJ c i j):∀{q:PD},iC c p rs cn q j lp o->iC c p rs cn q i lp o
 | [],⟨h1,h2⟩=>⟨h.trans h1,h2⟩
 | (_,false)::_,⟨h0,k,h1,h2⟩=>⟨h0,k,h.trans h1,h2⟩
 | (_,true)::_,⟨x,a,k,o2,h0,h1,h2⟩=>⟨x,a,k,o2,h0,h.trans h1,h2⟩
theorem XJ.split(h:XJ c i j):(∃x,0<=i/\c[i.toNat]?=some x/\x.kind=11/\x.e=[]/\x.f=[]/\XJ c x.to j)\/i=j:=by
 cases h with
 | nil=>omega
 | cons B G I he E h=>grind
theorem iC.split:∀{q:PD},iC c p rs cn q i lp o->(∃x,0<=i/\c[i.toNat]?=some x/\x.kind=11/\x.e=[]/\x.f=[]/\iC c p rs cn q x.to lp o)\/ai4 c p rs cn q i lp o
 | [],⟨h1,h2⟩=>by
  rcases h1.split with⟨x,B,G,M,E,I,J⟩|rfl
  .exact .inl ⟨x,B,G,M,E,I,J,h2⟩
  .exact .inr ⟨rfl,h2⟩
 | (_,false)::_,⟨h0,k,h1,h2⟩=>by
  rcases h1.split with⟨x,B,G,M,E,I,J⟩|rfl
  .exact .inl ⟨x,B,G,M,E,I,h0,k,J,h2⟩
  .exact .inr ⟨h0,h2⟩
 | (_,true)::_,⟨y,a,k,o2,h0,h1,h2⟩=>by
  rcases h1.split with⟨x,B,G,M,E,I,J⟩|rfl
  .exact .inl ⟨x,B,G,M,E,I,y,a,k,o2,h0,J,h2⟩
  .exact .inr ⟨y,a,o2,h0,h2⟩
theorem iC.push{b:Bk}(B:Me c (dG p rs b i lp o) i)(E:Oh p rs cn.length b lp)(h:iC c p rs cn q (i+aZ b) lp o):iC c p rs cn (lY b false q) i lp o:=by
 cases b with
 | nil=>
  have e:i+aZ .nil=i:=by show i+0=i;omega
  rw[e]at h;exact h
 | cons x a b r=>exact⟨et,i,.nil i,B,E,h⟩
theorem iC.lp0:∀{q:PD}{i lp o:Int},iC c p rs cn q i lp o->0<=lp
 | [],_,_,_,⟨_,h⟩=>by omega
 | (_,false)::_,_,_,_,⟨_,_,_,_,_,h⟩=>iC.lp0 h
 | (_,true)::_,_,_,_,⟨_,_,_,_,_,_,h,_⟩=>by have:=h.l1;omega
theorem iC.leave:∀{q:PD}{i lp o:Int},0<lp->iC c p rs cn q i lp o->∃B,iC c p rs cn (mP q) o (lp-1) B
 | [],_,_,_,E,⟨_,h⟩=>by omega
 | (b,false)::q,_,_,_,E,⟨_,_,_,_,_,h⟩=>by
  obtain⟨B,h2⟩:=iC.leave E h
  grind[iC,mP]
 | (b,true)::q,_,_,_,E,⟨x,a,j,B,_,_,h1,h⟩=>⟨B,by unfold mP;rw[h1.oj];exact h⟩
theorem iC.cnt{k:Nat}{v:Int}:∀{q:PD}{i lp o:Int},lp<=k->iC c p rs cn q i lp o->iC c p rs (cn.set k v) q i lp o
 | [],_,_,_,_,h=>h
 | (b,false)::q,i,lp,o,h0,⟨h1,j,h2,h3,h4,h⟩=>⟨h1,j,h2,h3,dH,iC.cnt h0 h⟩
 | (b,true)::q,i,lp,o,h0,⟨x,a,j,o2,h1,h2,h3,h⟩=>⟨x,a,j,o2,h1,h2,⟨h3.l1,h3.oj,h3.k,h3.e,h3.f,h3.n,by have:=h3.l1;rw[List.getElem?_set_ne cU];exact h3.cv,h3.i,h3.b0,h3.b,by rw[sy];exact h3.g⟩,iC.cnt cU h⟩
end
structure uD(p:bQ)(m:fN)(t:kG):Prop where
 rl:t.aS.length=t.names.length
 rg:m.aS=t.aS
 bf:m.buf=t.buf
 ft:m.fault=t.fault
 pl:∃lp o,iC m.code.l p t.names m.counts t.cD m.at_ lp o
section
variable {p:bQ}{m m2:fN}{t t2:kG}{x:bD}{a b r:Bk}{e:Bool}{q:PD}{y:aU}{ns:List ByteArray}{l:List bY}
theorem XK(h:gM l=true/\oI l ns=false):sG ns l=0:=by
 unfold sG
 rw[ew dH]
 have h2:=h.2
 unfold oI at h2
 grind
theorem UX(G:t.aS.length=t.names.length)(h:l=[]\/(gM l=true/\oI l t.names=false)):eo (eL t.names l) t.aS=eS t l:=by
 rcases h with rfl|h
 .rfl
 have E:=XK h
 have h1:=(vz (many:=t.names.length) h.1 h.2 rfl).1
 have h2:¬ (eL t.names l).length=0:=λB=>by
  rw[QZ B]at h1;cases h1
 have h3:¬ l.length=0:=λB=>by
  have:=QZ B
  subst this
  exact h2 rfl
 unfold eo eS BX
 grind
theorem uE(B:0<=m.at_)(h:m.code.l[m.at_.toNat]?=some y):gj m=some y:=by
 grind[gj]
theorem Mf(h2:(eo y.e m.aS).2=true)(h3:(eo y.f m.aS).2=true):tF (tE m y) y={m with e:=(eo y.e m.aS).1,f:=(eo y.f m.aS).1}:=by
 unfold tF tE
 grind
theorem R9(B:0<=m.at_)(h:m.code.l[m.at_.toNat]?=some y)(E:y.kind=11)(G:y.e=[])(I:y.f=[]):fF m=({m with e:=0,f:=0,at_:=y.to},true):=by
 have h2:(eo y.e m.aS)=(0,true):=by rw[G];rfl
 have h3:(eo y.f m.aS)=(0,true):=dH
 rw[iz (uE B h) (by rw[h2]) (by rw[h3]),Fc E,Mf (by rw[h2]) (by rw[h3]),h2,h3]
end
section
variable {p:bQ}{m m2 mR:fN}{t t2 dR:kG}{x:bD}{a b r:Bk}{e:Bool}{q:PD}{y:aU}{i lp o:Int}{rs:List ByteArray}
theorem uF:dG p rs (.cons x a b r) i lp o=(if x.kind=11 then [⟨12,0,0,eL rs x.e,[],jF x a i⟩]++dG p rs a (i+1) lp o++(if 0<x.eR then [⟨11,0,0,[],[],jF x a i+aZ b⟩]else [])++dG p rs b (jF x a i) lp o
   else if x.kind=12 then [⟨13,lp,x.n,[],[],0⟩]++dG p rs a (i+1) (lp+1) (i+2+aZ a)++[⟨14,lp,0,[],[],i+1⟩]
   else if x.kind=13 then [⟨11,0,0,[],[],o⟩]else [eE p rs x])++
  dG p rs r (i+(aZ (.cons x a b r)-aZ r)) lp o:=rfl
theorem xB:aZ (.cons x a b r)=(if x.kind=12 then 2+aZ a else if x.kind=11 then(if 0<x.eR then 1+aZ a+aZ b+1 else 1+aZ a+aZ b)else 1)+aZ r:=rfl
theorem D8{c:List aU}{cn:List Int}{k:Int}(B:Me c (dG p rs r (i+k) lp o) (i+k))(E:Oh p rs cn.length r lp)(G:aZ (.cons x a b r)=k+aZ r)(h:iC c p rs cn q (i+aZ (.cons x a b r)) lp o):iC c p rs cn (iM ((.cons x a b r,e)::q)) (i+k) lp o:=by
 show iC c p rs cn (lY r false q) (i+k) lp o
 rw[G]at h
 exact iC.push B E (by rw[show i+k+aZ r=i+(k+aZ r)from cU];exact h)
theorem Oi{c:List aU}{cn:List Int}(h1:¬ x.kind=11)(h2:¬ x.kind=12)(h3:¬ x.kind=13)(B:Me c (dG p rs (.cons x a b r) i lp o) i)(J:Oh p rs cn.length (.cons x a b r) lp)(h:iC c p rs cn q (i+aZ (.cons x a b r)) lp o):c[i.toNat]?=some (eE p rs x)/\iC c p rs cn (iM ((.cons x a b r,e)::q)) (i+1) lp o:=by
 have E:aZ (.cons x a b r)=1+aZ r:=by rw[xB,ew h2,ew h1]
 rw[uF,ew h1,ew h2,ew h3,E,show i+(1+aZ r-aZ r)=i+1 from cU]at B
 obtain⟨I,G⟩:=B.head
 exact⟨I,D8 G J.2.2.2.2 E h⟩
theorem aff{c:List aU}{cn:List Int}(h1:x.kind=11)(hs:Me c (dG p rs (.cons x a b r) i lp o) i)(Y:Oh p rs cn.length (.cons x a b r) lp)(h:iC c p rs cn q (i+aZ (.cons x a b r)) lp o):c[i.toNat]?=some ⟨12,0,0,eL rs x.e,[],jF x a i⟩/\iC c p rs cn (lY a false (iM ((.cons x a b r,e)::q))) (i+1) lp o/\iC c p rs cn (lY b false (iM ((.cons x a b r,e)::q))) (jF x a i) lp o:=by
 obtain⟨ga,gb,gn⟩:=Y.2.2.1 h1
 have la:=fL p rs a (i+1) lp o
 have lb:=fL p rs b (jF x a i) lp o
 have sa:=(iK a).1
 have sb:=(iK b).1
 have i0:=hs.1
 rw[uF,ez h1]at hs
 have B:=xB (x:=x) (a:=a) (b:=b) (r:=r)
 rw[ew cU,ez h1]at B
 obtain⟨G7,E⟩:=hs.app
 obtain⟨W,G⟩:=G7.app
 obtain⟨Z,I⟩:=W.app
 obtain⟨Co,U⟩:=Z.app
 by_cases J:0<x.eR
 .rw[ez J]at B
  have V:jF x a i=i+1+aZ a+1:=by unfold jF;rw[ez J]
  have O:aZ (.cons x a b r)=(1+aZ a+aZ b+1)+aZ r:=B
  rw[ez J]at E G I
  have e1:i+(([(⟨12,0,0,eL rs x.e,[],jF x a i⟩:aU)]:List aU).length:Int)=i+1:=rfl
  rw[e1]at U
  have e2:i+(([(⟨12,0,0,eL rs x.e,[],jF x a i⟩:aU)]++dG p rs a (i+1) lp o:List aU).length:Int)=i+1+aZ a:=by
   rw[lJ,mv];omega
  rw[e2]at I
  have e3:i+(([(⟨12,0,0,eL rs x.e,[],jF x a i⟩:aU)]++dG p rs a (i+1) lp o++[⟨11,0,0,[],[],jF x a i+aZ b⟩]:List aU).length:Int)=jF x a i:=by
   rw[lJ,lJ,mv,mv];omega
  rw[e3]at G
  have M:iC c p rs cn (iM ((.cons x a b r,e)::q)) (i+(1+aZ a+aZ b+1)) lp o:=by
   refine D8 ?_ Y.2.2.2.2 O h
   rw[O,show i+(1+aZ a+aZ b+1+aZ r-aZ r)=i+(1+aZ a+aZ b+1)from cU]at E
   rw[lJ,lJ,lJ,mv,mv]at E
   rw[show i+((1+(dG p rs a (i+1) lp o).length+1+(dG p rs b (jF x a i) lp o).length:Nat):Int)=i+(1+aZ a+aZ b+1)from cU]at E
   exact E
  refine⟨Co.one,iC.push U ga (iC.jmp (.cons cU I.one rfl rfl rfl (.nil _)) ?_),iC.push G gb ?_⟩
  .show iC _ _ _ _ _ (jF x a i+aZ b) _ _
   rw[V,show i+1+aZ a+1+aZ b=i+(1+aZ a+aZ b+1)from cU];exact M
  rw[V,show i+1+aZ a+1+aZ b=i+(1+aZ a+aZ b+1)from cU];exact M
 rw[ew J]at B
 have hb:=gn J
 subst hb
 have eb:aZ .nil=0:=rfl
 have V:jF x a i=i+1+aZ a:=by unfold jF;rw[ew J]
 have O:aZ (.cons x a .nil r)=(1+aZ a)+aZ r:=by rw[B,eb];omega
 rw[ew J]at E
 have e1:i+(([(⟨12,0,0,eL rs x.e,[],jF x a i⟩:aU)]:List aU).length:Int)=i+1:=rfl
 rw[e1]at U
 have M:iC c p rs cn (iM ((.cons x a .nil r,e)::q)) (i+(1+aZ a)) lp o:=by
  refine D8 ?_ Y.2.2.2.2 O h
  rw[O,show i+(1+aZ a+aZ r-aZ r)=i+(1+aZ a)from cU]at E
  rw[lJ,lJ,lJ,mv]at E
  rw[show i+((1+(dG p rs a (i+1) lp o).length+([]:List aU).length+(dG p rs .nil (jF x a i) lp o).length:Nat):Int)=i+(1+aZ a)from by show i+((1+(dG p rs a (i+1) lp o).length+0+0:Nat):Int)=_;omega]at E
  exact E
 refine⟨Co.one,iC.push U ga ?_,?_⟩
 .rw[show i+1+aZ a=i+(1+aZ a)from cU];exact M
 rw[V,show i+1+aZ a=i+(1+aZ a)from cU];exact M
theorem afg{c:List aU}{cn:List Int}(h1:x.kind=12)(h0:0<=lp)(U:Me c (dG p rs (.cons x a b r) i lp o) i)(M:Oh p rs cn.length (.cons x a b r) lp)(h:iC c p rs cn q (i+aZ (.cons x a b r)) lp o):c[i.toNat]?=some ⟨13,lp,x.n,[],[],0⟩/\iC c p rs (cn.set lp.toNat x.n) (o0 x a ((.cons x a b r,e)::q)) (i+1) (lp+1) (i+2+aZ a):=by
 obtain⟨gl,V⟩:=M.2.1 h1
 have E:=M.1
 have hn:=E.n h1
 have la:=fL p rs a (i+1) (lp+1) (i+2+aZ a)
 have sa:=(iK a).1
 have i0:=U.1
 have W:aZ (.cons x a b r)=(2+aZ a)+aZ r:=by rw[xB,ez h1]
 rw[uF,ew cU,ez h1]at U
 obtain⟨Y,I⟩:=U.app
 obtain⟨J,G⟩:=Y.app
 obtain⟨O,B⟩:=J.app
 have e1:i+(([(⟨13,lp,x.n,[],[],0⟩:aU)]:List aU).length:Int)=i+1:=rfl
 rw[e1]at B
 have e2:i+(([(⟨13,lp,x.n,[],[],0⟩:aU)]++dG p rs a (i+1) (lp+1) (i+2+aZ a):List aU).length:Int)=i+1+aZ a:=by
  rw[lJ,mv];omega
 rw[e2]at G
 have Z:iC c p rs cn (iM ((.cons x a b r,e)::q)) (i+(2+aZ a)) lp o:=by
  refine D8 ?_ M.2.2.2.2 W h
  rw[W,show i+(2+aZ a+aZ r-aZ r)=i+(2+aZ a)from cU]at I
  rw[lJ,lJ,mv,mv]at I
  rw[show i+((1+(dG p rs a (i+1) (lp+1) (i+2+aZ a)).length+1:Nat):Int)=i+(2+aZ a)from cU]at I
  exact I
 refine⟨O.one,?_⟩
 unfold o0
 rw[ew cU]
 refine iC.push B (by rw[sy];exact V) ⟨{x with n:=x.n-1},a,i+1+aZ a,o,rfl,.nil _,⟨cU,cU,h1,E.e0 (.inl h1),E.f0 cU,⟨by show 0<=x.n-1;omega,by show x.n-1<=8;omega⟩,?_,?_,cU,?_,by rw[sy];exact V⟩,?_⟩
 .show _=some (x.n-1+1)
  rw[show lp+1-1=lp from cU,List.getElem?_set_self cU,show x.n-1+1=x.n from cU]
 .rw[show lp+1-1=lp from cU,show i+1+aZ a-aZ a=i+1 from cU];exact G.one
 .rw[show i+1+aZ a-aZ a=i+1 from cU];exact B
 rw[show i+1+aZ a+1=i+(2+aZ a)from cU,show lp+1-1=lp from cU]
 exact iC.cnt cU Z
theorem Mg{c:List aU}{cn:List Int}(h1:x.kind=13)(B:Me c (dG p rs (.cons x a b r) i lp o) i):c[i.toNat]?=some ⟨11,0,0,[],[],o⟩:=by
 rw[uF,ew cU,ew cU,ez h1]at B
 exact B.app.1.one
theorem Zx{c:List aU}{cn:List Int}{B:Int}(h:apn c p rs cn x a i lp o)(I:iC c p rs cn q (i+1) (lp-1) B):(0<x.n->iC c p rs (cn.set (lp-1).toNat x.n) (o0 x a ((.cons x a .nil .nil,true)::q)) (i-aZ a) lp o)/\(¬ 0<x.n->iC c p rs (cn.set (lp-1).toNat x.n) (o0 x a ((.cons x a .nil .nil,true)::q)) (i+1) (lp-1) B):=by
 have J:=h.l1
 have M:=h.n
 have hc:=(j0.1 h.cv).1
 have E:iC c p rs (cn.set (lp-1).toNat x.n) q (i+1) (lp-1) B:=iC.cnt cU I
 refine⟨λG=>?_,λG=>?_⟩
 .unfold o0
  rw[ew cU]
  refine iC.push h.b (by rw[sy];exact h.g) ⟨{x with n:=x.n-1},a,i,B,rfl,by rw[show i-aZ a+aZ a=i from cU];exact .nil _,⟨h.l1,h.oj,h.k,h.e,h.f,⟨dH,dH⟩,?_,h.i,h.b0,h.b,by rw[sy];exact h.g⟩,E⟩
  simp_all
 unfold o0
 rw[ez cU]
 exact E
end
section
variable {p:bQ}{m m2 mR:fN}{t t2 dR:kG}{x:bD}{a b r:Bk}{e:Bool}{q:PD}{y:aU}{i lp o:Int}{rs:List ByteArray}
theorem Sa(h:t.cD=(.cons x a b r,e)::q):sX t.cD=some (x,a,b):=by rw[h];rfl
def Cj(p:bQ)(m:fN)(t:kG):Prop:=∃lp o,ai4 m.code.l p t.names m.counts t.cD m.at_ lp o
theorem Mh(h:uD p m t)(I:gj m=some y)(ht:sX t.cD=some (x,a,b))(B:eo y.e m.aS=eS t x.e)(J:eo y.f m.aS=eS t x.f)(M:¬ ((eS t x.e).2=true/\(eS t x.f).2=true))(G:Cj p m t):∃E,fF m=(E,false)/\sq t=({t with fault:=2},false)/\uD p E {t with fault:=2}/\Cj p E {t with fault:=2}:=by
 by_cases h1:(eS t x.e).2=true
 .have h2:(eS t x.f).2=false:=by simpa[h1]using M
  exact⟨_,xk I (by rw[B];exact h1) (by rw[J];exact h2),adY ht h2,⟨h.rl,h.rg,h.bf,by
   show(if (eo y.f (tE m y).aS).2=true then(tE m y).fault else(2:Int))=2
   have e:(eo y.f (tE m y).aS).2=false:=by show(eo y.f m.aS).2=false;rw[J];exact h2
   rw[ew (by rw[e];decide)],h.pl⟩,G⟩
 have h2:(eS t x.e).2=false:=by simpa using h1
 exact⟨_,xj I (by rw[B];exact h2),adX ht h2,⟨h.rl,h.rg,h.bf,by
  show(if (eo y.e m.aS).2=true then m.fault else(2:Int))=2
  rw[ew (by rw[B,h2];decide)],h.pl⟩,G⟩
theorem afh(h:uD p m t)(g:GdS p t.names x):eo (eE p t.names x).e m.aS=eS t x.e/\eo (eE p t.names x).f m.aS=eS t x.f:=by
 rw[h.rg];exact⟨UX h.rl g.e,UX h.rl g.f⟩
theorem UY(h:uD p m t)(h0:0<=m.at_):(∃I,fF m=(I,true)/\uD p I t)\/∃I t' bb,fF m=(I,bb)/\sq t=(t',bb)/\uD p I t'/\(bb=false->Cj p I t'):=by
 obtain⟨lp,o,hp⟩:=h.pl
 rcases hp.split with⟨y,g1,g2,g3,g4,g5,g6⟩|G
 .exact .inl ⟨_,R9 g1 g2 g3 g4 g5,h.rl,h.rg,h.bf,h.ft,lp,o,g6⟩
 right
 have hl0:=hp.lp0
 have hR:Cj p m t:=⟨lp,o,G⟩
 match yJ:t.cD,G with
 | [],G=>
  obtain⟨h1,h2⟩:=G
  refine⟨m,t,false,xi ?_,adW (by rw[yJ];rfl),h,λ_=>hR⟩
  unfold gj;grind
 | (.nil,false)::q,G=>exact absurd rfl G.1
 | (.cons x a b r,false)::q,G=>
  obtain⟨_,hs,hg,Z⟩:=G
  have ht:=Sa yJ
  have O:=hg.1
  by_cases Hy:x.kind=11
  .obtain⟨V,s2,s3⟩:=aff (e:=false) Hy hs hg Z
   have E:=uE h0 V
   have J:eo (aU.e ⟨12,0,0,eL t.names x.e,[],jF x a m.at_⟩) m.aS=eS t x.e:=by rw[h.rg];exact UX h.rl O.e
   have U:eo (aU.f ⟨12,0,0,eL t.names x.e,[],jF x a m.at_⟩) m.aS=eS t x.f:=by rw[O.f0 cU];rfl
   by_cases B:(eS t x.e).2=true/\(eS t x.f).2=true
   .rw[iz E (by rw[J];exact B.1) (by rw[U];exact B.2),Fg ht B.1 B.2,WX Hy,Mf (by rw[J];exact B.1) (by rw[U];exact B.2),J]
    by_cases M:(eS t x.e).1=0
    .rw[Dx rfl M]
     refine⟨_,_,true,rfl,rfl,⟨h.rl,h.rg,h.bf,h.ft,lp,o,?_⟩,nofun⟩
     rw[ez M,yJ];exact s3
    .rw[Dy rfl M]
     refine⟨_,_,true,rfl,rfl,⟨h.rl,h.rg,h.bf,h.ft,lp,o,?_⟩,nofun⟩
     rw[ew M,yJ];exact s2
   .obtain⟨I,g1,g2,g3,g4⟩:=Mh h E ht J U B hR
    exact⟨I,_,false,g1,g2,g3,λ_=>g4⟩
  by_cases Sb:x.kind=12
  .obtain⟨V,s2⟩:=afg (e:=false) Sb hl0 hs hg Z
   have E:=uE h0 V
   have ee:eS t x.e=(0,true):=by rw[O.e0 (.inl Sb)];rfl
   have ef:eS t x.f=(0,true):=by rw[O.f0 cU];rfl
   rw[iz E rfl rfl,Fg ht (by rw[ee]) (by rw[ef]),NM Sb,Mf rfl rfl,Je rfl]
   refine⟨_,_,true,rfl,rfl,⟨h.rl,h.rg,h.bf,h.ft,lp+1,m.at_+2+aZ a,?_⟩,nofun⟩
   rw[yJ];exact s2
  by_cases Y:x.kind=13
  .have V:=Mg Y hs (cn:=m.counts)
   have E:=uE h0 V
   have ee:eS t x.e=(0,true):=by rw[O.e0 (.inr Y)];rfl
   have ef:eS t x.f=(0,true):=by rw[O.f0 cU];rfl
   obtain⟨o2,hl⟩:=iC.leave (hg.2.2.2.1 Y) Z
   rw[iz E rfl rfl,Fg ht (by rw[ee]) (by rw[ef]),WY Y,Mf rfl rfl,Fc rfl]
   refine⟨_,_,true,rfl,rfl,⟨h.rl,h.rg,h.bf,h.ft,lp-1,o2,?_⟩,nofun⟩
   rw[yJ];unfold mP;exact hl
  obtain⟨V,s2⟩:=Oi (e:=false) Hy Sb Y hs hg Z
  have E:=uE h0 V
  obtain⟨J,U⟩:=afh h O
  by_cases B:(eS t x.e).2=true/\(eS t x.f).2=true
  .have hk:(eE p t.names x).kind=if x.kind=14 then 15 else x.kind:=rfl
   have kk:=O.k
   rw[iz E (by rw[J];exact B.1) (by rw[U];exact B.2),Fg ht B.1 B.2,Mf (by rw[J];exact B.1) (by rw[U];exact B.2),J]
   by_cases k1:x.kind=1
   .rw[Re (by rw[hk,ew cU];exact k1),adV k1]
    have ea:(eE p t.names x).a.toNat=(bR t.names x.eY).toNat:=by show(max 0 (bR t.names x.eY)).toNat=_;omega
    refine⟨_,_,true,rfl,rfl,⟨by show(t.aS.set _ _).length=t.names.length;rw[sy];exact h.rl,by show m.aS.set _ _=t.aS.set _ _;rw[h.rg,ea],h.bf,h.ft,lp,o,?_⟩,nofun⟩
    show iC _ _ _ _ (iM t.cD) _ _ _
    rw[yJ];exact s2
   by_cases Ss:x.kind=14
   .by_cases M:(eS t x.e).1=0
    .rw[DC (by rw[hk,ez Ss]) M,Rs Ss M]
     exact⟨_,_,false,rfl,rfl,⟨h.rl,h.rg,h.bf,rfl,lp,o,hp⟩,λ_=>hR⟩
    .rw[DD (by rw[hk,ez Ss]) M,Rt Ss M]
     refine⟨_,_,true,rfl,rfl,⟨h.rl,h.rg,h.bf,h.ft,lp,o,?_⟩,nofun⟩
     show iC _ _ _ _ (iM t.cD) _ _ _
     rw[yJ];exact s2
   .rw[ew Ss]at hk
    rw[Jf cU cU cU cU cU cU,WZ k1 Hy Sb Y Ss]
    exact⟨_,_,false,rfl,rfl,⟨h.rl,h.rg,h.bf,h.ft,lp,o,hp⟩,λ_=>hR⟩
  .obtain⟨I,g1,g2,g3,g4⟩:=Mh h E ht J U B hR
   exact⟨I,_,false,g1,g2,g3,λ_=>g4⟩
 | (b,true)::q,G=>
  obtain⟨x,a,o2,rfl,W,Z⟩:=G
  have ht:=Sa yJ
  have E:=uE h0 W.i
  have ee:eS t x.e=(0,true):=by rw[W.e];rfl
  have ef:eS t x.f=(0,true):=by rw[W.f];rfl
  obtain⟨r1,r2⟩:=Zx W Z
  have hw:sd (m.counts.getD (lp-1).toNat 0-1)=x.n:=by
   have:=W.n
   rw[pd,W.cv,Option.getD_some,HZ cU];omega
  rw[iz E rfl rfl,Fg ht (by rw[ee]) (by rw[ef]),NM W.k,Mf rfl rfl]
  by_cases hx:0<x.n
  .rw[Dz rfl dH]
   refine⟨_,_,true,rfl,rfl,⟨h.rl,h.rg,h.bf,h.ft,lp,o,?_⟩,nofun⟩
   grind
  .rw[DB rfl dH]
   refine⟨_,_,true,rfl,rfl,⟨h.rl,h.rg,h.bf,h.ft,lp-1,o2,?_⟩,nofun⟩
   grind
theorem D9:∀{N:Nat}{m mR:fN}{n:Nat}{t dR:kG},uD p m t->G8 m->tm N m=some mR->Ah n t=some dR->uD p mR dR/\Cj p mR dR
 | 0,_,_,_,_,_,_,_,h,_=>by cases h
 | N+1,m,mR,n,t,dR,h,M,J,G=>by
  have I:=lW M
  rcases UY h M.Sr with⟨U,B,E⟩|⟨U,t',O,B,E,V,W⟩
  .rw[B]at I
   exact D9 E I (vV J B) G
  .rw[B]at I
   obtain⟨k,rfl⟩:=LQ G
   cases O with
   | true=>exact D9 V I (vV J B) (WV G E)
   | false=>rw[AQ J B,xq G E];grind
theorem JR(h:Cj p m t)(G:0<=m.at_):(gj m=none/\t.cD=[])\/∃y x a b,gj m=some y/\sX t.cD=some (x,a,b)/\(2<=y.kind/\y.kind<=10->y=eE p t.names x/\x.kind=y.kind/\GdS p t.names x/\∀lp o,ai4 m.code.l p t.names m.counts t.cD m.at_ lp o->iC m.code.l p t.names m.counts (iM t.cD) (m.at_+1) lp o):=by
 obtain⟨lp,o,B⟩:=h
 match yJ:t.cD,B with
 | [],B=>
  refine .inl ⟨?_,rfl⟩
  unfold gj;rw[ez (by have:=B.1;omega)]
 | (.nil,false)::q,B=>exact absurd rfl B.1
 | (.cons x a b r,false)::q,B=>
  right
  obtain⟨_,J,W,U⟩:=B
  by_cases M:x.kind=11
  .obtain⟨I,_⟩:=aff (e:=false) M J W U
   exact⟨_,x,a,b,uE G I,rfl,λE=>absurd E.2 (show ¬ (12:Int)<=10 by decide)⟩
  by_cases V:x.kind=12
  .have I:m.code.l[m.at_.toNat]?=some ⟨13,lp,x.n,[],[],0⟩:=by
    rw[uF,ew M,ez V]at J
    exact J.app.1.app.1.app.1.one
   exact⟨_,x,a,b,uE G I,rfl,λE=>absurd E.2 (show ¬ (13:Int)<=10 by decide)⟩
  by_cases O:x.kind=13
  .exact⟨_,x,a,b,uE G (Mg O J (cn:=m.counts)),rfl,λE=>absurd E.2 (show ¬ (11:Int)<=10 by decide)⟩
  obtain⟨I,_⟩:=Oi (e:=false) M V O J W U
  refine⟨_,x,a,b,uE G I,rfl,λE=>⟨rfl,?_,W.1,λY o2 Sz=>?_⟩⟩
  .have e:(eE p t.names x).kind=if x.kind=14 then 15 else x.kind:=rfl
   split at e
   .omega
   .exact e.symm
  .obtain⟨_,Bd,Gw,Z⟩:=Sz
   exact(Oi (e:=false) M V O Bd Gw Z).2
 | (b,true)::q,B=>
  obtain⟨x,a,o2,rfl,he,U⟩:=B
  exact .inr ⟨_,x,a,.nil,uE G he.i,rfl,λE=>absurd E.2 (show ¬ (14:Int)<=10 by decide)⟩
end
def Ek(t:fN):Prop:=∀x,gj t=some x->t.fault=0->t.e=(eo x.e t.aS).1/\t.f=(eo x.f t.aS).1
theorem Zy{t:fN}(h:(fF t).2=false):Ek (fF t).1:=by
 intro x G E
 cases hn:gj t with
 | none=>rw[xi hn]at G;grind
 | some y=>
  cases he:(eo y.e t.aS).2 with
  | false=>rw[xj hn he]at E;simp[tE,he]at E
  | true=>
   cases KM:(eo y.f t.aS).2 with
   | false=>rw[xk hn he KM]at E;simp[tF,tE,KM]at E
   | true=>
    rw[iz hn he KM]at h G E |-
    have e:∀z,gj (tF (tE t y) y)=some z->z=y:=by
     grind[gj,tF,tE]
    by_cases h1:y.kind=1
    .rw[Re h1]at h;cases h
    by_cases h2:y.kind=11
    .rw[Fc h2]at h;cases h
    by_cases h3:y.kind=12
    .by_cases B:(eo y.e t.aS).1=0
     .rw[Dx h3 B]at h;cases h
     .rw[Dy h3 B]at h;cases h
    by_cases h4:y.kind=13
    .rw[Je h4]at h;cases h
    by_cases h5:y.kind=14
    .by_cases B:0<sd ((tF (tE t y) y).counts.getD y.a.toNat 0-1)
     .rw[Dz h5 B]at h;cases h
     .rw[DB h5 B]at h;cases h
    by_cases h6:y.kind=15
    .by_cases B:(eo y.e t.aS).1=0
     .rw[DC h6 B]at E;cases E
     .rw[DD h6 B]at h;cases h
    rw[Jf h1 h2 h3 h4 h5 h6]at G |-
    have:=e x G;subst this
    exact⟨rfl,rfl⟩
theorem Oj:∀{n:Nat}{t t':fN},tm n t=some t'->Ek t'
 | 0,_,_,h=>by cases h
 | n+1,t,t',h=>by
  unfold tm at h
  split at h
  .exact Oj h
  .rename_i hs;cases h;exact Zy (by simpa using hs)
end Go.Proofs.YtdncbeepkacgbaaGreatDoor
