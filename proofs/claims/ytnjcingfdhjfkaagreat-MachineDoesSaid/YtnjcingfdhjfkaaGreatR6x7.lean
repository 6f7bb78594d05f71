/-
  Part 7.
-/
import Derived.Test.YtnjcingfdhjfkaaGreatR6x6
set_option maxHeartbeats 8000000
set_option linter.all false
set_option maxRecDepth 100000
open Go.Fw.Flat renaming val->j6,enc->kp
open ByteArray renaming mk->k9
open List renaming mem_of_getElem?->ld,getElem?_eq_some_iff->l0,take_of_length_le->mE,getElem?_eq_getElem->nT,length_append->n0,length_singleton->n6,getD_eq_getElem?_getD->oi,length_take->oj,length_map->qE,append_assoc->qF,replicate->qU,range->rv,mem_append->r3,mem_map->r5,append_nil->r6,length_cons->sf,mem_singleton->s7,mem_cons_of_mem->s8,mem_cons_self->uc,getElem?_map->uO,length_nil->u1,getElem?_append_left->u2,length_replicate->xq,any_eq_false->Av,getElem?_append_right->Bu,length_set->DI,mem_or_eq_of_mem_set->EP,getElem?_take->G5,all_eq_true->Im,length_range->ND,length_pos_iff->Sq,take_zero->acu
open Bool renaming and_eq_true->oG,or_eq_false_iff->tc,not_eq_true'->uw,or_eq_true->zY,true_and->L1,and_eq_false_iff->M8,false_and->ZX
open Option renaming bind_some->o5,some->qa,map_some->F1,isSome_iff_exists->VZ
open Nat renaming zero_le->o6,le_refl->r4,zero_add->ve,le_trans->x5,add_sub_cancel->HI,succ_mul->Km,le_succ->QU,add_comm->acR
open Go.Fw.Deep renaming dr->py
open Go.Value renaming int->qs
open Int renaming le_refl->z7,emod_lt_of_pos->aaS,emod_nonneg->abZ
open Decidable renaming not_not->FE
namespace Go.Proofs.YtnjcingfdhjfkaaGreat
open Go.Fw
def jT(l:List bP)(a:Int):Nat->Int
 | 0=>1
 | n+1=>if wU l a (Mq ((n:Int)+2))=true then(n:Int)+2 else jT l a n
theorem Xm{l:List bP}{a:Int}:∀n:Nat,1<=jT l a n/\jT l a n<=(n:Int)+1
 | 0=>by unfold jT;omega
 | n+1=>by
  have:=Xm (l:=l) (a:=a) n
  unfold jT
  omega
theorem RM{l:List bP}{a:Int}:∀n:Nat,jT l a n=1\/∃t,wU l a t=true
 | 0=>.inl rfl
 | n+1=>by
  unfold jT
  split
  .grind
  .exact RM n
def Mr{l:List bP}{a:Int}{n:Nat}(h:wU l a (Mq ((n:Int)+2))=true):jT l a (n+1)=(n:Int)+2:=fV h
def Ms{l:List bP}{a:Int}{n:Nat}(h:¬ wU l a (Mq ((n:Int)+2))=true):jT l a (n+1)=jT l a n:=fU h
def s1S(l:List bP)(s:ik):ik:=if jT l s.at_ 13≠1 then {s with at_:=s.at_+1}else s
def Oi{l:List bP}{s:ik}(h:nD l s):nD l (s1S l s):=by
 unfold s1S
 split
 .rename_i h1
  rcases RM (l:=l) (a:=s.at_) 13 with h2|⟨t,h2⟩
  .omega
  have:=wb h2
  exact⟨eS,eS⟩
 exact h
abbrev amh:ByteArray:=⟨#[101,108,115,101]⟩
def mM(l:List bP)(kd:Int)(s:ik):Bool:=decide (kd=11)&&decide (s.e=0)&&wU l s.at_ amh
def YY(s:ik):ik:={s with at_:=s.at_+1}
abbrev aiY:=ik->Int->Int->Option (ik×List cR)
def GL(l:List bP)(cI:aiY)(s:ik)(d lp:Int):Option (ik×List cR):=
 if jT l s.at_ 13=13/\lp=0 then some (lg l s 5,[])
 else(m9 l (s1S l s) (jT l s.at_ 13) (pz l s.at_)).bind λr=>
  if jT l s.at_ 13≠11/\jT l s.at_ 13≠12 then some (eC l r.1 ⟨#[59]⟩,[r.2])
  else(cI r.1 (d+1) (if jT l s.at_ 13=12 then lp+1 else lp)).bind λq=>
   if mM l (jT l s.at_ 13) q.1=true then(cI (YY q.1) (d+1) lp).bind λt=>some (t.1,{r.2 with body:=(q.2.length:Int),ib:=(t.2.length:Int)}::(q.2++t.2))
   else some (q.1,{r.2 with body:=(q.2.length:Int)}::q.2)
section
variable {l:List bP}{cI:aiY}{s s':ik}{d lp:Int}{add:List cR}
theorem Xn(h:GL l cI s d lp=some (s',add))(hb:jT l s.at_ 13=13/\lp=0):s'=lg l s 5/\add=[]:=by
 unfold GL at h;grind
theorem adQ(h:GL l cI s d lp=some (s',add))(hb:¬ (jT l s.at_ 13=13/\lp=0)):∃B x,m9 l (s1S l s) (jT l s.at_ 13) (pz l s.at_)=some (B,x)/\
  (if jT l s.at_ 13≠11/\jT l s.at_ 13≠12 then some (eC l B ⟨#[59]⟩,[x])
  else(cI B (d+1) (if jT l s.at_ 13=12 then lp+1 else lp)).bind λq=>
   if mM l (jT l s.at_ 13) q.1=true then(cI (YY q.1) (d+1) lp).bind λt=>some (t.1,{x with body:=(q.2.length:Int),ib:=(t.2.length:Int)}::(q.2++t.2))
   else some (q.1,{x with body:=(q.2.length:Int)}::q.2))=some (s',add):=by
 unfold GL at h;rw[fU hb]at h
 obtain⟨p,q,h1,h2⟩:=fQ h
 grind
theorem Xo{kd:Int}{J:ik}{x:cR}(h:(if kd≠11/\kd≠12 then some (eC l J ⟨#[59]⟩,[x])
  else(cI J (d+1) (if kd=12 then lp+1 else lp)).bind λq=>
   if mM l kd q.1=true then(cI (YY q.1) (d+1) lp).bind λt=>some (t.1,{x with body:=(q.2.length:Int),ib:=(t.2.length:Int)}::(q.2++t.2))
   else some (q.1,{x with body:=(q.2.length:Int)}::q.2))=some (s',add)) (M:¬ (kd≠11/\kd≠12)) :
  ∃B E,cI J (d+1) (if kd=12 then lp+1 else lp)=some (B,E)/\
   ((mM l kd B=true/\∃I m2,cI (YY B) (d+1) lp=some (I,m2)/\s'=I/\add={x with body:=(E.length:Int),ib:=(m2.length:Int)}::(E++m2))\/
    (mM l kd B=false/\s'=B/\add={x with body:=(E.length:Int)}::E)):=by
 rw[fU M]at h
 obtain⟨B,E,h1,h2⟩:=fQ h
 refine⟨B,E,h1,?_⟩
 dsimp only at h2
 cases he:mM l kd B with
 | true=>
  rw[he,fV rfl]at h2
  obtain⟨I,m2,h3,h4⟩:=fQ h2
  grind
 | false=>
  grind
theorem Mt{kd:Int}{B:ik}{x:cR}(h:(if kd≠11/\kd≠12 then some (eC l B ⟨#[59]⟩,[x])
  else(cI B (d+1) (if kd=12 then lp+1 else lp)).bind λq=>
   if mM l kd q.1=true then(cI (YY q.1) (d+1) lp).bind λt=>some (t.1,{x with body:=(q.2.length:Int),ib:=(t.2.length:Int)}::(q.2++t.2))
   else some (q.1,{x with body:=(q.2.length:Int)}::q.2))=some (s',add)) (E:kd≠11/\kd≠12):s'=eC l B ⟨#[59]⟩/\add=[x]:=by
 grind
end
abbrev Gu:ByteArray:=⟨#[123]⟩
abbrev qV:ByteArray:=⟨#[125]⟩
def wX(l:List bP)(one:ik->Option (ik×List cR)):Nat->ik->Option (ik×List cR)
 | 0,_=>none
 | m+1,s=>if (decide (s.e=0)&&!wU l s.at_ qV)=true then(one s).bind λr=>(wX l one m r.1).bind λq=>some (q.1,r.2++q.2)else some (s,[])
def ZV(l:List bP)(s:ik)(d:Int):ik:=if (decide (12<d)&&wU l s.at_ Gu)=true then lg l s 7 else s
def UB{l:List bP}{s:ik}{d:Int}(h:nD l s):nD l (ZV l s d):=by unfold ZV;split;exact wW h;exact h
def ZW(l:List bP):Nat->aiY
 | 0=>λ_ _ _=>none
 | k+1=>λs d lp=>(wX l (λs=>GL l (ZW l k) s d lp) 10000 (eC l (ZV l s d) Gu)).bind λr=>some (eC l r.1 qV,r.2)
section
variable {l:List bP}{one:ik->Option (ik×List cR)}{s s':ik}{d lp:Int}{add:List cR}{m:Nat}
theorem Mu(h:wX l one m s=some (s',add)):∃k,m=k+1:=by
 cases m with
 | zero=>cases h
 | succ k=>grind
theorem J7(h:wX l one (m+1) s=some (s',add))(hb:(decide (s.e=0)&&!wU l s.at_ qV)=false):s'=s/\add=[]:=by
 unfold wX at h;grind
theorem Oj(h:wX l one (m+1) s=some (s',add))(hb:(decide (s.e=0)&&!wU l s.at_ qV)=true):∃E a1 B,one s=some (E,a1)/\wX l one m E=some (s',B)/\add=a1++B:=by
 unfold wX at h;rw[hb,fV rfl]at h
 obtain⟨E,a1,h1,h2⟩:=fQ h
 obtain⟨I,B,h3,h4⟩:=fQ h2
 grind
theorem adR{k:Nat}(h:ZW l (k+1) s d lp=some (s',add)):∃B,wX l (λs=>GL l (ZW l k) s d lp) 10000 (eC l (ZV l s d) Gu)=some (B,add)/\s'=eC l B qV:=by
 unfold ZW at h
 obtain⟨B,a1,h1,h2⟩:=fQ h
 grind
end
def UC{l:List bP}{cI:aiY}{s s':ik}{d lp:Int}{add:List cR}(hb:∀s d lp s' a,nD l s->cI s d lp=some (s',a)->nD l s')(I:nD l s)(h:GL l cI s d lp=some (s',add)):nD l s':=by
 by_cases h1:jT l s.at_ 13=13/\lp=0
 .rw[(Xn h h1).1];exact wW I
 obtain⟨W,x,h2,h3⟩:=adQ h h1
 have B:=FN (Oi I) h2
 by_cases h4:jT l s.at_ 13≠11/\jT l s.at_ 13≠12
 .rw[(Mt h3 h4).1];exact gX B
 obtain⟨s3,U,h5,h6⟩:=Xo h3 h4
 have O:=hb _ _ _ _ _ B h5
 rcases h6 with⟨E,V,m2,M,J,_⟩|⟨_,J,_⟩
 .rw[J]
  refine hb _ _ _ _ _ ?_ M
  unfold mM at E
  rw[oG]at E
  have:=wb E.2
  grind[nD,YY]
 grind
theorem Xp{l:List bP}{one:ik->Option (ik×List cR)}(B:∀s s' a,nD l s->one s=some (s',a)->nD l s'):∀{m:Nat}{s s':ik}{add:List cR},nD l s->wX l one m s=some (s',add)->nD l s'
 | 0,_,_,_,_,h=>by cases h
 | m+1,s,s',add,E,h=>by
  cases hb:(decide (s.e=0)&&!wU l s.at_ qV)with
  | false=>rw[(J7 h hb).1];exact E
  | true=>
   obtain⟨J,a1,I,h1,h2,_⟩:=Oj h hb
   exact Xp B (B _ _ _ E h1) h2
theorem UD{l:List bP}:∀{k:Nat}{s s':ik}{d lp:Int}{add:List cR},nD l s->ZW l k s d lp=some (s',add)->nD l s'
 | 0,_,_,_,_,_,_,h=>by cases h
 | k+1,s,s',d,lp,add,B,h=>by
  obtain⟨E,h1,h2⟩:=adR h
  rw[h2]
  exact gX (Xp (λ_ _ _ a b=>UC (λ_ _ _ _ _ c e=>UD c e) a b) (gX (UB B)) h1)
def pT(p:Nat)(lv:Value)(s:ik)(out:List cR)(Q:jj):HP:=uI λov:Value=>uI λts:List cL=>sep (cI p (eQ lv ov s)) (sep (bE ov ts) (fB λw=>jF ts out w/\Q w))
section
variable {w0 w:World}{A:Nat->Prop}{L:List HP}{p:Nat}{lv:Value}{s:ik}{out:List cR}{Q:jj}
theorem pT.open(B:St w0 A (pT p lv s out Q::L) w):∃(ov:Value) (ts:List cL),St w0 A (cI p (eQ lv ov s)::bE ov ts::fB (λw=>jF ts out w/\Q w)::L) w:=by
 obtain⟨ov,h1⟩:=B.fH
 obtain⟨ts,h2⟩:=h1.fH
 exact⟨ov,ts,h2.split.p1.split.p2⟩
theorem pT.shut{ov:Value}{ts:List cL}(B:St w0 A (cI p (eQ lv ov s)::bE ov ts::fB (λw=>jF ts out w/\Q w)::L) w):St w0 A (pT p lv s out Q::L) w:=
 St.fD (H:=λov:Value=>uI λts:List cL=>sep (cI p (eQ lv ov s)) (sep (bE ov ts) (fB λw=>jF ts out w/\Q w))) ov (St.fD (H:=λts:List cL=>sep (cI p (eQ lv ov s)) (sep (bE ov ts) (fB λw=>jF ts out w/\Q w))) ts (St.join B.p2.p2.join.p1))
end
def aqz(l:List bP)(k:Nat):Prop:=∀(p:Nat) (lv:Value) (s:ik) (d lp:Int) (out:List cR) (B:ik) (add:List cR) (Q:jj) (F:Nat->Prop) (w:World),
 (pT p lv s out Q).p w F->(∀w',js F w w'->eN (λ_=>True) w' lv l)->nD l s->0<=d/\d+k<=1001->0<=lp/\lp+k<=1001->out.length+add.length<=1000000->ZW l k s d lp=some (B,add)->
 Calls ji 256 [.pointer (some ⟨p,0,none⟩),jK d,jK lp].toArray w (qZ λv w'=>v=jK (add.length:Int)/\pk F (pT p lv B (out++add) Q) w w')
def aiZ{w:World}{sh:cL}{x:cR}(h:py w sh x):DL w (j6 sh.e) x.e:=by obtain⟨_,_,rfl,h,_⟩:=h;exact h
def ai0{w:World}{sh:cL}{x:cR}(h:py w sh x):DL w (j6 sh.f) x.f:=by obtain⟨_,_,rfl,_,h⟩:=h;exact h
def UE{l:List bP}{kd:Int}{s:ik}(h:mM l kd s=true):nD l (YY s):=by
 unfold mM at h
 rw[oG]at h
 have:=wb h.2
 grind[nD,YY]
def ai1{α σ:Type}[Flat σ][Deep α σ]{w:World}{ts:List σ}{xs:List α}{i:Nat}{t:σ}{x:α}(h:jF ts xs w)(ht:py w t x):jF (ts.set i t) (xs.set i x) w:=by
 grind[jF]
theorem adS{α:Type}{a b:List α}{x y:α}:(a++x::b).set a.length y=a++y::b:=by
 grind
def C233(p:Nat)(lv:Value)(l:List bP)(s:ik)(k:Nat)(d lp:Int)(out:List cR)(s2:ik)(add:List cR)(Q:jj)(F:Nat->Prop)(w:World)(hF:(pT p lv s out Q).p w F)(hT:∀w',js F w w'->eN (λ_=>True) w' lv l)(hk:kz l)(h0:nD l s)(HB:aqz l k)(hd:0<=d/\d+k<=1000)(RG:0<=lp/\lp+k<=1000)(KA:out.length+add.length<=1000000)(hr:GL l (ZW l k) s d lp=some (s2,add)):CR 233 [(.pointer (some ⟨p,0,none⟩)),jK d,jK lp] w (λv w'=>v=.tuple #[]/\pk F (pT p lv s2 (out++add) Q) w w'):=by
 have B:=St.begin hF;obtain⟨ov,ts,B⟩:=pT.open B;have Pr:ts.length=out.length:=B.p2.fB.1.1;have KD:=hk.n;have hn:l.length<=1000000:=cW
 have vG:=hk.at_;obtain⟨Xf,Xg⟩:=id h0;refine agO _ _ _ _ _ ?_;unfold S233;refine aD (aA jQ (have B:=B.drew;aB kK B.hb rfl (aD (aA ga (aB aV B.hb rfl (aZ LC B (C215 _ l s.at_ _ (hT _ B.aE) hn vG) λ_ he B=>?_))))));have B:=B.p2.p2.p2;refine⟨λmm a b w'=>∃j:Nat,a=jK (jT l s.at_ j)/\b=jK ((j:Int)+2)/\mm=13-j/\j<=13/\St w F [cI p (eQ lv ov s),bE ov ts,fB λw=>jF ts out w/\Q w] w',⟨_,0,rfl,rfl,rfl,o6 _,B⟩,?_⟩;rintro mm _ _ w2 ⟨j,rfl,rfl,rfl,hj,B⟩ _;refine gL (aC (λiF=>⟨_,aD (aA jQ (have B:=B.drew;aB kK B.hb rfl (aD (aA ga (aB aV B.hb rfl (aZ auw B (C253 ((j:Int)+2) _ cW) λ_ he B=>⟨aG kK (B.hb.cell rfl),⟨aG aV (B.hb.cell rfl),aZ zz B (C211 _ l s.at_ (Mq ((j:Int)+2)) _ (hT _ B.aE) hn) λ_ he B=>aW (λlj=>?_) λlj=>?_⟩⟩)))))),λ_ _ h=>h⟩) λiF=>?_)
 .intro se;exact aN cW ⟨_,cW,j+1,hM (qs .i64) (by first|exact(Mr lj).symm|exact(Ms (by rw[lj];simp)).symm),hM (qs .i64) cW,rfl,cW,B⟩
 .intro se;exact aN cW ⟨_,cW,j+1,hM (qs .i64) (by first|exact(Mr lj).symm|exact(Ms (by rw[lj];simp)).symm),hM (qs .i64) cW,rfl,cW,B⟩
 obtain rfl:j=13:=cW
 have hkb:=Xm (l:=l) (a:=s.at_) 13;refine⟨λjv w'=>jv=.bool (decide ((jT l s.at_ 13)=13/\lp=0))/\w2=w',aH (aC (λ_=>aH ⟨uS cW,rfl⟩) λ_=>⟨jvF cW,rfl⟩),?_⟩;rintro _ _ ⟨rfl,hw⟩ _;subst hw;refine aC (λpY=>?_) (λpY=>⟨λw'=>St w F [cI p (eQ lv ov (s1S l s)),bE ov ts,fB λw=>jF ts out w/\Q w] w',bQ (aC (λAw=>?_) λAw=>?_),?_⟩)
 .refine bI LG B (H':=λ_=>cI p (eQ lv ov (lg l s 5))) (Φ:=λ_ _=>True) (λV U W=>?_) ?_
  .exact(C254 p lv ov l s 5 V _ U (λw' hc=>hT w' (W w' hc).aE) hk h0).mono λ_ _ r=>r.mono λ_ _ h=>⟨trivial,h.2⟩
  rintro _ _ _ B;obtain⟨e1,e2⟩:=Xn hr pY;rw[e1,e2,r6];exact⟨rfl,(pT.shut B).mut⟩
 .refine aD (aA ga (aB aV B.hb rfl (aN cW (aD (aA ga (aS B aV (dV rfl) (rfl) λ_ B=>?_))))));have B:=B.p2.p2.p2;have Ys:(s1S l s)={s with at_:=s.at_+1}:=by unfold s1S;rw[fV cW]
  rw[Ys];exact B
 .have B:=B.p2.p2.p2;have Ys:(s1S l s)=s:=by unfold s1S;rw[fU cW]
  rw[Ys];exact B
 intro _ B _;obtain⟨q,x,uf,Lx⟩:=adQ hr pY;refine bI auy B (H':=λv=>uI λsh:cL=>fact (v=j6 sh) (sep (cI p (eQ lv ov q)) (fB λw=>py w sh x))) (Φ:=λ_ _=>True) (λV U W=>?_) ?_
 .exact(C255 p lv ov l (s1S l s) (jT l s.at_ 13) (pz l s.at_) q x V _ U (λw' hc=>hT w' (W w' hc).aE) hk (Oi h0) uf).mono λ_ _ r=>r.mono λ_ _ h=>⟨trivial,h⟩
 rintro v_x58 _ _ Ew;obtain⟨aGA,Ey⟩:=Ew.fH
 clear Ew
 obtain⟨aqA,Hi⟩:=Ey.pd
 clear Ey
 subst aqA;have B:=Hi.split
 clear Hi
 obtain⟨E,I,aqB,hde,hdf⟩:=B.p1.fB;subst aqB;refine aR B uH (λIz _ B=>have B:=B.enc (cs':=kp (⟨0,(k9 #[]),(k9 #[]),bL,bL,0,0,0,0⟩:cL)) rfl;aO (x:=(⟨x.kind,x.jJ,x.name,E,I,x.n,x.body,x.ib,x.at_⟩:cL)) B iy rfl rfl λ_ B=>aD (aA tI (aB xd B.p1.hb rfl (aI mH B.p3.fu (aD (aA tI (have B:=B.drew;aB xd B.p1.hb rfl (aF iy B.At (bJ ([(⟨x.kind,x.jJ,x.name,E,I,x.n,x.body,x.ib,x.at_⟩:cL)]) B mH rfl rfl (dV rfl) λalZ _ B=>?_)))))))))
 refine⟨aG xd (B.p2.hb.cell rfl),?_⟩;have aqC:=B.fu;refine bW B.p4 mH aqC (by simp;omega) dO (λXq _ B=>have B:=B.p1.drop;aD (aA tI (aS B.p2 xd (dV rfl) B.fu.one λ_ B=>⟨λjv w'=>jv=.bool (decide ((jT l s.at_ 13)≠11/\(jT l s.at_ 13)≠12))/\St w F [cI p (eQ lv Xq q),bE Xq (ts++[(⟨x.kind,x.jJ,x.name,E,I,x.n,x.body,x.ib,x.at_⟩:cL)]),fB (λw=>jF (ts++[(⟨x.kind,x.jJ,x.name,E,I,x.n,x.body,x.ib,x.at_⟩:cL)]) (out++[x]) w/\(λw=>Q w/\py w (⟨x.kind,x.jJ,x.name,E,I,x.n,x.body,x.ib,x.at_⟩:cL) x) w),cI Iz (kp (⟨x.kind,x.jJ,x.name,E,I,x.n,x.body,x.ib,x.at_⟩:cL))] w',bQ (aC (λ_=>bQ (have B:=B.p3.p4.gU.dT (Ψ:=λw=>jF (ts++[(⟨x.kind,x.jJ,x.name,E,I,x.n,x.body,x.ib,x.at_⟩:cL)]) (out++[x]) w/\(λw=>Q w/\py w (⟨x.kind,x.jJ,x.name,E,I,x.n,x.body,x.ib,x.at_⟩:cL) x) w) (λ_ h=>⟨h.1.1.snoc h.2,h.1.2,h.2⟩);have B:=B.p3.p1.p3.p3;⟨vb eS,B⟩)) λ_=>have B:=B.p3.p4.gU.dT (Ψ:=λw=>jF (ts++[(⟨x.kind,x.jJ,x.name,E,I,x.n,x.body,x.ib,x.at_⟩:cL)]) (out++[x]) w/\(λw=>Q w/\py w (⟨x.kind,x.jJ,x.name,E,I,x.n,x.body,x.ib,x.at_⟩:cL) x) w) (λ_ h=>⟨h.1.1.snoc h.2,h.1.2,h.2⟩);have B:=B.p3.p1.p3.p3;⟨vb eS,B⟩),?_⟩)))
 rintro _ Uj ⟨rfl,B⟩ _;refine aC (λWc=>?_) (λWc=>⟨λjv w'=>jv=jK (if (jT l s.at_ 13)=12 then lp+1 else lp)/\Uj=w',aH (aC (λ_=>aN cW ⟨by rw[fV cW],rfl⟩) λ_=>⟨by rw[fU cW],rfl⟩),?_⟩)
 .refine bI B8 B (H':=λ_=>cI p (eQ lv Xq (eC l q (k9 #[59])))) (Φ:=λ_ _=>True) (λV U W=>?_) ?_
  .exact(C234 p lv Xq l q (k9 #[59]) V _ U (λw' hc=>hT w' (W w' hc).aE) hk (FN (Oi h0) uf)).mono λ_ _ r=>r.mono λ_ _ h=>⟨trivial,h.2⟩
  rintro _ _ _ B;have B:=B.p3.drop.p1.p1.p2.dT (Ψ:=λw=>jF (ts++[(⟨x.kind,x.jJ,x.name,E,I,x.n,x.body,x.ib,x.at_⟩:cL)]) (out++[x]) w/\Q w) (λ_ h=>⟨h.1,h.2.1⟩);have B:=B.p2.p2;obtain⟨e1,e2⟩:=Mt Lx Wc;rw[e1,e2];exact⟨rfl,(pT.shut B).mut⟩
 rintro _ _ ⟨rfl,hw⟩ _;subst hw;refine aN cW ?_;have B:=pT.shut B.p2.p2.p2;obtain⟨s3,J,KQ,hcs⟩:=Xo Lx Wc;have hm1:J.length<add.length:=by rcases hcs with⟨_,s5,m2,_,_,e⟩|⟨_,_,e⟩<;>rw[e]<;>simp<;>omega
 refine bI akE B (H':=λ_=>pT p lv s3 ((out++[x])++J) λw=>Q w/\py w (⟨x.kind,x.jJ,x.name,E,I,x.n,x.body,x.ib,x.at_⟩:cL) x) (Φ:=λv _=>v=jK (J.length:Int)) (λV U W=>?_) ?_
 .exact HB p lv q (d+1) (if (jT l s.at_ 13)=12 then lp+1 else lp) (out++[x]) s3 J (λw=>Q w/\py w (⟨x.kind,x.jJ,x.name,E,I,x.n,x.body,x.ib,x.at_⟩:cL) x) V _ U (λw' hc=>hT w' (W w' hc).aE) (FN (Oi h0) uf) cW (by split<;>omega) (by rw[n0,n6];omega) KQ
 rintro _ _ rfl B;obtain⟨ov3,ts3,B⟩:=pT.open B;refine aA pN (aS B.p3 aV (dV rfl) (rfl) λ_ B=>have B:=B.enc (cs':=kp (⟨x.kind,x.jJ,x.name,E,I,x.n,(J.length:Int),x.ib,x.at_⟩:cL)) rfl;⟨λw'=>∃(bd el:Int) (rest:List cR),add={x with body:=bd,ib:=el}::rest/\St w F [pT p lv s2 ((out++[x])++rest) (λw=>Q w/\py w (⟨x.kind,x.jJ,x.name,E,I,x.n,x.body,x.ib,x.at_⟩:cL) x),cI Iz (kp (⟨x.kind,x.jJ,x.name,E,I,x.n,bd,el,x.at_⟩:cL))] w',⟨λjv w'=>jv=.bool (mM l (jT l s.at_ 13) s3)/\St w F [cI p (eQ lv ov3 s3),bE ov3 ts3,fB (λw=>jF ts3 ((out++[x])++J) w/\(λw=>Q w/\py w (⟨x.kind,x.jJ,x.name,E,I,x.n,x.body,x.ib,x.at_⟩:cL) x) w),cI Iz (kp (⟨x.kind,x.jJ,x.name,E,I,x.n,(J.length:Int),x.ib,x.at_⟩:cL))] w',?_,?_⟩,?_⟩)
 .refine aH ?_;exact aC (λMv=>aD (aA mS (have B:=B.drew;aB qt B.p1.hb rfl (aH (aC (λFi=>aD (aA jQ (aB kK B.p1.hb rfl (aD (aA ga (aB aV B.p1.hb rfl (aZ zz B (C211 _ l s3.at_ (k9 #[101,108,115,101]) _ (hT _ B.aE) hn) λ_ _ B=>have B:=B.p3.p3.p3;⟨vb (by unfold mM;rw[gq Mv,gq Fi];rfl),B⟩))))))) λFi=>have B:=B.p3.p3.p3;⟨vb (by unfold mM;first|(rw[gD Mv];rfl)|(rw[gq Mv,gD Fi];rfl)),B⟩))))) (λMv=>have B:=B.drew.p3.p3.p3;⟨vb (by unfold mM;first|(rw[gD Mv];rfl)|(rw[gq Mv,gD Fi];rfl)),B⟩)
 .rintro _ _ ⟨rfl,B⟩ _;refine aW (λM=>?_) (λM=>?_)
  .obtain⟨O,s5,m2,hb2,e5,xb⟩|⟨O,_⟩:=hcs
   rotate_left
   .rw[O]at M;cases M
   subst e5;have hin3:=wb (show wU l s3.at_ amh=true by unfold mM at M;rw[oG]at M;exact M.2);refine aD (aA ga (aB aV B.hb rfl (aN cW (aD (aA ga (aS B aV (dV rfl) (rfl) λ_ B=>aN cW ?_))))));have B:=pT.shut (s:=YY s3) B.p2.p2.p2;have hkd11:(jT l s.at_ 13)=11:=by unfold mM at M;simp at M;exact M.1.1
   rw[fU (show ¬ (jT l s.at_ 13)=12 by omega)];refine bI akE B (H':=λ_=>pT p lv s2 (((out++[x])++J)++m2) λw=>Q w/\py w (⟨x.kind,x.jJ,x.name,E,I,x.n,x.body,x.ib,x.at_⟩:cL) x) (Φ:=λv _=>v=jK (m2.length:Int)) (λV U W=>?_) ?_
   .exact HB p lv (YY s3) (d+1) lp ((out++[x])++J) s2 m2 (λw=>Q w/\py w (⟨x.kind,x.jJ,x.name,E,I,x.n,x.body,x.ib,x.at_⟩:cL) x) V _ U (λw' hc=>hT w' (W w' hc).aE) (UE M) cW cW (by have:=hM List.length xb;simp at this |-;omega) hb2
   rintro _ _ rfl B;rw[qF (out++[x])]at B;exact aA kJ (aS B.p1 aV (dV rfl) (rfl) λ_ B=>have B:=B.enc (cs':=kp (⟨x.kind,x.jJ,x.name,E,I,x.n,(J.length:Int),(m2.length:Int),x.at_⟩:cL)) rfl;have B:=B.p1;⟨_,_,_,xb,B⟩)
  obtain⟨O,_⟩|⟨O,e5,xb⟩:=hcs
  .rw[O]at M;cases M
  subst e5;have B:=((pT.shut B.p2.p2.p2).p1).p1;exact⟨(J.length:Int),x.ib,J,xb,B⟩
 rintro _ ⟨bd,el,rest,xb,B⟩ _;obtain⟨ov5,ts5,B⟩:=pT.open B;refine aD (aA tI (have B:=B.drew;aB xd B.hb rfl (aF iy B.p3.At ?_)));have h5l:ts5.length=(out++[x]++rest).length:=B.p2.fB.1.1;have h6l:=hM List.length xb;simp only[n0,sf,u1]at h5l h6l;obtain⟨aGB,aAA⟩:=gx ts5 (i:=(ts.length:Int).toNat) cW;refine cH B.p1 mH cW cW (λ_ aqD=>gY _ B.p1 iy aqD cW λ_ B=>?_)
 have B:=B.p3.drop.p1.p2.dT (Ψ:=λw=>jF (ts5.set (ts.length:Int).toNat (⟨x.kind,x.jJ,x.name,E,I,x.n,bd,el,x.at_⟩:cL)) (out++add) w/\Q w) (λ_ h=>⟨by
  have hh:=ai1 (i:=(ts.length:Int).toNat) (t:=(⟨x.kind,x.jJ,x.name,E,I,x.n,bd,el,x.at_⟩:cL)) (x:={x with body:=bd,ib:=el}) h.1 ⟨E,I,rfl,aiZ (x:=x) h.2.2,ai0 (x:=x) h.2.2⟩;rw[show(ts.length:Int).toNat=out.length from cW,qF,List.singleton_append,adS]at hh;rw[xb,show(ts.length:Int).toNat=out.length from cW];exact hh,h.2.1⟩)
 have B:=B.p2.p2;exact⟨rfl,(pT.shut B).mut⟩
def C256(p:Nat)(lv:Value)(l:List bP)(s:ik)(k:Nat)(d lp:Int)(out:List cR)(s2:ik)(add:List cR)(Q:jj)(F:Nat->Prop)(w:World)(hF:(pT p lv s out Q).p w F)(hT:∀w',js F w w'->eN (λ_=>True) w' lv l)(W:kz l)(h0:nD l s)(HB:aqz l k)(hd:0<=d/\d+k<=1000)(RG:0<=lp/\lp+k<=1000)(KA:out.length+add.length<=1000000)(hr:ZW l (k+1) s d lp=some (s2,add)):CR 256 [(.pointer (some ⟨p,0,none⟩)),jK d,jK lp] w (λv w'=>v=jK (add.length:Int)/\pk F (pT p lv s2 (out++add) Q) w w'):=by
 have B:=St.begin hF;obtain⟨ov,ts,B⟩:=pT.open B;have Pr:ts.length=out.length:=B.p2.fB.1.1;obtain⟨s9,Hf,e2⟩:=adR hr;have KD:=W.n;have hn:l.length<=1000000:=cW
 have vG:=W.at_;obtain⟨Xf,Xg⟩:=id h0;refine uT Tryz.func256 (pl:=aDa) ?_;refine aD (aA tI (aB xd B.hb rfl (aI mH B.p1.fu ?_)));refine⟨λw'=>St w F [cI p (eQ lv ov (ZV l s d)),bE ov ts,fB λw=>jF ts out w/\Q w] w',?_,?_⟩
 .refine⟨λjv w'=>jv=.bool (decide (12<d)&&wU l s.at_ Gu)/\St w F [cI p (eQ lv ov s),bE ov ts,fB λw=>jF ts out w/\Q w] w',?_,?_⟩
  .refine cG (aC (λkn=>?_) λkn=>?_)
   .refine aD (aA jQ (have B:=B.drew;aB kK B.hb rfl (aD (aA ga (aB aV B.hb rfl (aZ zz B (C211 _ l s.at_ (k9 #[123]) _ (hT _ B.aE) hn) λ_ he B=>?_))))));exact⟨vb (by first|(rw[gq (show 12<d by omega)];rfl)|(rw[gD (show ¬ 12<d by omega)];rfl)),B⟩
   .have B:=B.drew;exact⟨vb (by first|(rw[gq (show 12<d by omega)];rfl)|(rw[gD (show ¬ 12<d by omega)];rfl)),B⟩
  .rintro _ _ ⟨rfl,B⟩ _;refine aW (λfX=>?_) (λfX=>?_)
   .refine bI LG B (H':=λ_=>cI p (eQ lv ov (lg l s 7))) (Φ:=λ_ _=>True) (λV U M=>?_) ?_
    .exact(C254 p lv ov l s 7 V _ U (λw' hc=>hT w' (M w' hc).aE) W h0).mono λ_ _ r=>r.mono λ_ _ h=>⟨trivial,h.2⟩
    rintro _ _ _ B;have B:=B.p2.p2.p2;have h7:ZV l s d=lg l s 7:=by unfold ZV;rw[fV fX]
    rw[h7];exact B
   .have B:=B.p2.p2.p2;have h7:ZV l s d=s:=by unfold ZV;rw[fU (by rw[fX];simp)]
    rw[h7];exact B
 .intro _ B _;refine bI B8 B (H':=λ_=>cI p (eQ lv ov (eC l (ZV l s d) (k9 #[123])))) (Φ:=λ_ _=>True) (λV U M=>?_) ?_
  .exact(C234 p lv ov l (ZV l s d) (k9 #[123]) V _ U (λw' hc=>hT w' (M w' hc).aE) W (UB h0)).mono λ_ _ r=>r.mono λ_ _ h=>⟨trivial,h.2⟩
  rintro _ _ _ B;have B:=pT.shut (s:=eC l (ZV l s d) Gu) B.p2.p2.p2;refine⟨λmm w'=>∃(E:ik) (J a2:List cR),nD l E/\wX l (λs=>GL l (ZW l k) s d lp) mm E=some (s9,a2)/\add=J++a2/\St w F [pT p lv E (out++J) Q] w',⟨10000,_,[],add,gX (UB h0),Hf,rfl,by rw[r6];exact B⟩,?_⟩;rintro mm _ ⟨E,J,a2,RN,KQ,xb,B⟩ _;obtain⟨m,rfl⟩:=Mu KQ;obtain⟨I,O,B⟩:=pT.open B;have ai3:O.length=(out++J).length:=B.p2.fB.1.1;rw[n0]at ai3;refine⟨λjv w'=>jv=.bool (decide (E.e=0)&&!wU l E.at_ qV)/\St w F [cI p (eQ lv I E),bE I O,fB λw=>jF O (out++J) w/\Q w] w',?_,?_⟩
  .refine aD (aA mS (have B:=B.drew;aB qt B.hb rfl (aH (aC (λjG=>?_) λjG=>?_))))
   .refine aD (aA jQ (aB kK B.hb rfl (aD (aA ga (aB aV B.hb rfl (aZ zz B (C211 _ l E.at_ (k9 #[125]) _ (hT _ B.aE) hn) λ_ he B=>bV ?_))))));have B:=B.p2.p2.p2;exact⟨vb (by first|(rw[gq jG];rfl)|(rw[gD jG];rfl)),B⟩
   .have B:=B.p2.p2.p2;exact⟨vb (by first|(rw[gq jG];rfl)|(rw[gD jG];rfl)),B⟩
  .rintro _ _ ⟨rfl,B⟩ _;refine aW (λAw=>?_) (λAw=>?_)
   .obtain⟨s3,a1,a3,ho,hb3,rfl⟩:=Oj KQ Aw;have B:=pT.shut B.p2.p2.p2;refine bI akD B (H':=λ_=>pT p lv s3 ((out++J)++a1) Q) (Φ:=λ_ _=>True) (λV U M=>?_) ?_
    .exact(C233 p lv l E k d lp (out++J) s3 a1 Q V _ U (λw' hc=>hT w' (M w' hc).aE) W RN HB cW cW (by have:=hM List.length xb;simp at this |-;omega) ho).mono λ_ _ r=>r.mono λ_ _ h=>⟨trivial,h.2⟩
    rintro _ _ _ B;exact⟨_,cW,s3,J++a1,a3,UC (λ_ _ _ _ _ c e=>UD c e) RN ho,hb3,by rw[xb,qF],by rw[<- qF];exact B⟩
   .obtain⟨e9,rfl⟩:=J7 KQ Aw;replace e9:=e9.symm;subst e9;rw[r6]at xb;subst xb;refine bI B8 B (H':=λ_=>cI p (eQ lv I (eC l E (k9 #[125])))) (Φ:=λ_ _=>True) (λV U M=>?_) ?_
    .exact(C234 p lv I l E (k9 #[125]) V _ U (λw' hc=>hT w' (M w' hc).aE) W RN).mono λ_ _ r=>r.mono λ_ _ h=>⟨trivial,h.2⟩
    rintro _ _ _ B;refine aD (aA tI (aB xd B.hb rfl (aI mH B.p1.fu (eW cW ?_))));rw[e2];exact⟨hM (qs .i64) cW,(pT.shut B).mut⟩
theorem ayb{l:List bP}(E:kz l):∀k,aqz l k
 | 0=>λp lv s d lp out B add Q F w _ _ _ _ _ _ h=>by cases h
 | k+1=>λp lv s d lp out B add Q F w O J M hd U I h=>C256 p lv l s k d lp out B add Q F w O J E M (ayb E k) cW cW I h
def xy(i:Int):ik:=⟨i,0,0⟩
def J8(l:List bP)(i op:Int):Option (List cR×Int×Int×Int):=
 (wX l (λs=>GL l (ZW l 20) s 0 0) 10000 (xy i)).bind λr=>
  if 1000000<r.2.length then none else if (eC l r.1 qV).e≠0 then some ([],0,(eC l r.1 qV).e,(eC l r.1 qV).pos)
  else if 40<r.2.length then some ([],0,2,(su l op).at_)
  else some (r.2,(eC l r.1 qV).at_,0,0)
def Ok(l:List bP)(s:ik):Bool:=match nN l s.at_ with|some t=>decide (t.kind=2)|none=>false
def gw(l:List bP)(nb:Bool)(s:ik):ik×dW:=
 if (nb&&(jM l (gd l s).1 OR).2)=true then
  (if Ok l (jM l (gd l s).1 OR).1=true then(YY (jM l (gd l s).1 OR).1,{ (gd l s).2 with n:=(su l (jM l (gd l s).1 OR).1.at_).n})
  else(lg l (jM l (gd l s).1 OR).1 5,(gd l s).2))
 else gd l s
abbrev FP:ByteArray:=⟨#[44]⟩
abbrev Xr:ByteArray:=⟨#[59]⟩
def sY(l:List bP)(nb:Bool):Nat->Bool->ik->Option (ik×List dW)
 | 0,_,_=>none
 | m+1,more,s=>if (more&&decide (s.e=0))=true then(sY l nb m (jM l (gw l nb s).1 FP).2 (jM l (gw l nb s).1 FP).1).bind λr=>some (r.1,(gw l nb s).2::r.2)else some (s,[])
def pA(l:List bP)(nb:Bool)(s:ik):Option (ik×List dW):=(sY l nb 10000 true s).bind λr=>if 1000000<r.2.length then none else some (eC l r.1 Xr,r.2)
abbrev YZ:ByteArray:=⟨#[114,101,103]⟩
def EC(l:List bP)(s:ik):Option (ik×List ByteArray):=
 if (jM l s YZ).2=true then(pA l false (jM l s YZ).1).bind λr=>some (r.1,r.2.map dW.name)else some (s,[])
def wY(l:List bP)(s:ik)(B:ByteArray)(a:Int):Option (ik×eH):=
 (EC l (eC l s Gu)).bind λr=>
  if r.1.e≠0 then some (r.1,⟨B,r.2,[],a⟩)
  else(J8 l r.1.at_ s.at_).bind λR=>if 0<=R.2.1/\R.2.1<=l.length then some (⟨R.2.1,R.2.2.1,R.2.2.2⟩,⟨B,r.2,R.1,a⟩)else none
def A1(l:List bP)(s:ik)(a:Int):Option (ik×lW):=
 (zK l s.at_).bind λR=>if R.2.2.1≠0 then some ({s with e:=R.2.2.1,pos:=R.2.2.2},⟨[],0⟩)
  else if 0<=R.2.1/\R.2.1<=l.length then some (eC l {s with at_:=R.2.1} Xr,⟨R.1,a⟩)else none
def ph{α:Type}(l:List bP)(t:ByteArray)(rd:ik->Option (ik×α)):Nat->ik->Option (ik×List α)
 | 0,_=>none
 | m+1,s=>if (jM l s t).2=true then(rd (jM l s t).1).bind λr=>(ph l t rd m r.1).bind λq=>some (q.1,r.2::q.2)else some (s,[])
def C2(l:List bP)(s:ik):Int:=(su l (s.at_-1)).at_
def UF(l:List bP)(s:ik):Option (ik×List eH):=
 if (jM l s ⟨#[114,101,99,111,118,101,114]⟩).2=true then(wY l (jM l s ⟨#[114,101,99,111,118,101,114]⟩).1 ⟨#[]⟩ (C2 l (jM l s ⟨#[114,101,99,111,118,101,114]⟩).1)).bind λr=>some (r.1,[r.2])else some (s,[])
abbrev adT:ByteArray:=⟨#[108,105,110,101]⟩
abbrev aqE:ByteArray:=⟨#[118,111,108]⟩
abbrev adU:ByteArray:=⟨#[108,111,99,107]⟩
abbrev Ol:ByteArray:=⟨#[116,104,114,101,97,100]⟩
abbrev Om:ByteArray:=⟨#[97,108,119,97,121,115]⟩
def aqF(l:List bP)(s:ik):Option (ik×eH):=wY l (gd l s).1 (gd l s).2.name (gd l s).2.at_
def Lg(l:List bP)(s:ik):ik:=if s.at_<l.length then lg l s 5 else s
def RO:dM:=⟨[],[],[],[],[],[]⟩
def we(t:ByteArray):Option (dM×Int×Int):=
 (yt t).bind λL=>if L.2.1≠0 then some (RO,L.2.1,L.2.2)else
 (ph L.1 adT (pA L.1 true) 10000 (xy 0)).bind λr1=>
 (ph L.1 aqE (pA L.1 true) 10000 r1.1).bind λE=>
 (ph L.1 adU (pA L.1 false) 10000 E.1).bind λJ=>
 (ph L.1 Ol (aqF L.1) 10000 J.1).bind λI=>
 (UF L.1 I.1).bind λM=>
 (ph L.1 Om (λs=>A1 L.1 s (C2 L.1 s)) 10000 M.1).bind λB=>
  if 1000000<r1.2.length\/1000000<E.2.flatten.length\/1000000<J.2.flatten.length\/1000000<I.2.length\/1000000<B.2.length then none else if (Lg L.1 B.1).e≠0 then some (RO,(Lg L.1 B.1).e,(Lg L.1 B.1).pos)else some (⟨r1.2,E.2.flatten,J.2.flatten,I.2,M.2,B.2⟩,0,0)
section
variable {l:List bP}{s s':ik}
theorem adV{t:ByteArray}(h:(jM l s t).2=true):jM l s t=({s with at_:=s.at_+1},true)/\s.e=0/\0<=s.at_/\s.at_<l.length:=by
 unfold jM at h |-
 split at h
 .rename_i h2
  rw[fV h2]
  rw[oG,decide_eq_true_eq]at h2
  exact⟨rfl,h2.1,wb h2.2⟩
 cases h
theorem A3{t:ByteArray}(h:(jM l s t).2=false):jM l s t=(s,false):=by
 grind[jM]
theorem J9{nb:Bool}(h:nD l s):nD l (gw l nb s).1:=by
 have h1:=yu h
 have h2:=mA (t:=OR) h1
 unfold gw
 split
 .split
  .rename_i h3
   unfold Ok at h3
   cases ht:nN l (jM l (gd l s).1 OR).1.at_ with
   | none=>grind
   | some t=>
    have:=oU ht
    exact⟨by show 0<=(jM l (gd l s).1 OR).1.at_+1;omega,by show(jM l (gd l s).1 OR).1.at_+1<=_;omega⟩
  exact wW h2
 exact h1
theorem Mw{nb:Bool}:∀{m:Nat}{more:Bool}{s s':ik}{x:List dW},nD l s->sY l nb m more s=some (s',x)->nD l s'
 | 0,_,_,_,_,_,h=>by cases h
 | m+1,more,s,s',x,B,h=>by
  unfold sY at h
  split at h
  .obtain⟨q,y,h1,h2⟩:=fQ h
   cases h2
   exact Mw (mA (J9 B)) h1
  grind
theorem BP{nb:Bool}{x:List dW}(h:pA l nb s=some (s',x)):∃B,sY l nb 10000 true s=some (B,x)/\s'=eC l B Xr/\x.length<=1000000:=by
 unfold pA at h
 obtain⟨q,y,h1,h2⟩:=fQ h
 grind
theorem BQ{nb:Bool}{x:List dW}(B:nD l s)(h:pA l nb s=some (s',x)):nD l s':=by
 obtain⟨E,h1,h2,_⟩:=BP h
 rw[h2];exact gX (Mw B h1)
theorem RP{nb more:Bool}{m:Nat}{x:List dW}(h:sY l nb m more s=some (s',x)):∃k,m=k+1:=by
 cases m with
 | zero=>cases h
 | succ k=>grind
theorem Ka{nb more:Bool}{m:Nat}{x:List dW}(h:sY l nb (m+1) more s=some (s',x))(hb:(more&&decide (s.e=0))=false):s'=s/\x=[]:=by
 unfold sY at h;grind
theorem Y0{nb more:Bool}{m:Nat}{x:List dW}(h:sY l nb (m+1) more s=some (s',x))(hb:(more&&decide (s.e=0))=true):∃y,sY l nb m (jM l (gw l nb s).1 FP).2 (jM l (gw l nb s).1 FP).1=some (s',y)/\x=(gw l nb s).2::y:=by
 unfold sY at h;rw[hb,fV rfl]at h
 obtain⟨q,y,h1,h2⟩:=fQ h
 grind
theorem RQ{x:List ByteArray}(B:nD l s)(h:EC l s=some (s',x)):nD l s':=by
 unfold EC at h
 split at h
 .obtain⟨q,y,h1,h2⟩:=fQ h
  cases h2
  exact BQ (mA B) h1
 grind
theorem Kb{B:ByteArray}{a:Int}{x:eH}(E:nD l s)(h:wY l s B a=some (s',x)):nD l s':=by
 unfold wY at h
 obtain⟨q,y,h1,h2⟩:=fQ h
 have h3:=RQ (gX E) h1
 dsimp only at h2
 split at h2
 .grind
 cases hr:J8 l q.at_ s.at_ with
 | none=>grind
 | some R=>
  grind[nD]
theorem Y3{a:Int}{x:lW}(B:nD l s)(h:A1 l s a=some (s',x)):nD l s':=by
 unfold A1 at h
 cases hr:zK l s.at_ with
 | none=>grind
 | some R=>
  rw[hr]at h
  simp only[o5]at h
  split at h
  .cases h;exact B
  .split at h
   .rename_i h4;cases h;exact gX h4
   .cases h
theorem wg{α:Type}{t:ByteArray}{rd:ik->Option (ik×α)}{m:Nat}{x:List α}(h:ph l t rd m s=some (s',x)):∃k,m=k+1:=by
 cases m with
 | zero=>cases h
 | succ k=>grind
theorem yw{α:Type}{t:ByteArray}{rd:ik->Option (ik×α)}{m:Nat}{x:List α}(h:ph l t rd (m+1) s=some (s',x))(hb:(jM l s t).2=false):s'=s/\x=[]:=by
 unfold ph at h;grind
theorem A4{α:Type}{t:ByteArray}{rd:ik->Option (ik×α)}{m:Nat}{x:List α}(h:ph l t rd (m+1) s=some (s',x))(hb:(jM l s t).2=true):∃B y z,rd (jM l s t).1=some (B,y)/\ph l t rd m B=some (s',z)/\x=y::z:=by
 unfold ph at h;rw[hb,fV rfl]at h
 obtain⟨q,y,h1,h2⟩:=fQ h
 obtain⟨I,E,h3,h4⟩:=fQ h2
 grind
end
def noQ:jj:=λ_=>True
theorem ED{l:List bP}{i:Int}{t:bP}(B:0<=i)(h:l[i.toNat]?=some t):su l i=t:=by
 unfold su nN;grind
def ai4{l:List bP}{i op:Int}{R:List cR×Int×Int×Int}(h:J8 l i op=some R):∃B add,wX l (λs=>GL l (ZW l 20) s 0 0) 10000 (xy i)=some (B,add)/\add.length<=1000000/\
  ((eC l B qV).e≠0->R=([],0,(eC l B qV).e,(eC l B qV).pos))/\(¬ (eC l B qV).e≠0->40<(add.length:Int)->R=([],0,2,(su l op).at_))/\
  (¬ (eC l B qV).e≠0->¬ 40<(add.length:Int)->R=(add,(eC l B qV).at_,0,0)):=by
 unfold J8 at h
 obtain⟨q,y,h1,h2⟩:=fQ h
 grind
section
variable {l:List bP}{s s':ik}{nb:Bool}
theorem Y4(B:nb=true)(h2:(jM l (gd l s).1 OR).2=true)(h3:Ok l (jM l (gd l s).1 OR).1=true) :
  gw l nb s=(YY (jM l (gd l s).1 OR).1,{ (gd l s).2 with n:=(su l (jM l (gd l s).1 OR).1.at_).n}):=by
 unfold gw;grind
theorem Y5(B:nb=true)(h2:(jM l (gd l s).1 OR).2=true)(h3:Ok l (jM l (gd l s).1 OR).1=false) :
  gw l nb s=(lg l (jM l (gd l s).1 OR).1 5,(gd l s).2):=by
 unfold gw;grind
theorem adW(h2:(jM l (gd l s).1 OR).2=false):gw l nb s=((jM l (gd l s).1 OR).1,(gd l s).2):=by
 unfold gw;rw[fU eS,A3 h2]
theorem adX(B:nb=false):gw l nb s=((gd l s).1,(gd l s).2):=by
 grind[gw,gd]
theorem ai5{q:ik}(h:Ok l q=true):∃B,nN l q.at_=some B/\l[q.at_.toNat]?=some B/\0<=q.at_/\q.at_<l.length:=by
 unfold Ok at h
 cases ht:nN l q.at_ with
 | none=>grind
 | some B=>have:=oU ht;grind
theorem Mx{x:List ByteArray}(h:EC l s=some (s',x))(h1:(jM l s YZ).2=true):∃ys,pA l false (jM l s YZ).1=some (s',ys)/\x=ys.map dW.name:=by
 unfold EC at h;rw[fV h1]at h
 obtain⟨q,y,h2,h3⟩:=fQ h
 grind
theorem RR{x:List ByteArray}(h:EC l s=some (s',x))(h1:(jM l s YZ).2=false):s'=s/\x=[]:=by
 unfold EC at h;grind
theorem UH{B:ByteArray}{a:Int}{x:eH}(h:wY l s B a=some (s',x)):∃q rs,EC l (eC l s Gu)=some (q,rs)/\
  (q.e≠0->s'=q/\x=⟨B,rs,[],a⟩)/\(¬ q.e≠0->∃R,J8 l q.at_ s.at_=some R/\0<=R.2.1/\R.2.1<=l.length/\s'=⟨R.2.1,R.2.2.1,R.2.2.2⟩/\x=⟨B,rs,R.1,a⟩):=by
 unfold wY at h
 obtain⟨q,rs,h1,h2⟩:=fQ h
 refine⟨q,rs,h1,λE=>?_,λE=>?_⟩
 .grind
 dsimp only at h2;rw[fU E]at h2
 cases hr:J8 l q.at_ s.at_ with
 | none=>grind
 | some R=>
  grind
theorem Y6{a:Int}{x:lW}(h:A1 l s a=some (s',x)):∃R,zK l s.at_=some R/\
  (R.2.2.1≠0->s'={s with e:=R.2.2.1,pos:=R.2.2.2}/\x=⟨[],0⟩)/\(¬ R.2.2.1≠0->(0<=R.2.1/\R.2.1<=l.length)/\s'=eC l {s with at_:=R.2.1} Xr/\x=⟨R.1,a⟩):=by
 unfold A1 at h
 cases hr:zK l s.at_ with
 | none=>grind
 | some R=>
  grind
theorem aqG{e:Int}(B:e≠0)(h:(lg l s e).e=0):False:=by
 unfold lg at h
 grind
theorem ai6{t:ByteArray}(h:(eC l s t).e=0):wU l s.at_ t=true:=by
 unfold eC at h
 split at h
 .grind
 exact(aqG dO h).elim
theorem ayd{t:ByteArray}:(jM l s t).1.e=s.e:=by unfold jM;grind
theorem Y7{e:Int}(h:s.e≠0):(lg l s e).e≠0:=by unfold lg;grind
theorem UI{t:ByteArray}(h:s.e≠0):(eC l s t).e≠0:=by
 unfold eC;rw[fU eS];exact Y7 h
theorem RS:∀{m:Nat}{more:Bool}{s s':ik}{x:List dW},s.e≠0->sY l nb m more s=some (s',x)->s'.e≠0
 | 0,_,_,_,_,_,h=>by cases h
 | m+1,more,s,s',x,B,h=>by
  have:=Ka h eS
  grind
theorem RT{x:List dW}(B:s.e≠0)(h:pA l nb s=some (s',x)):s'.e≠0:=by
 obtain⟨E,h1,h2,_⟩:=BP h
 rw[h2];exact UI (RS B h1)
theorem UJ{x:List ByteArray}(B:s.e≠0)(h:EC l s=some (s',x)):s'.e≠0:=by
 cases h1:(jM l s YZ).2 with
 | true=>obtain⟨ys,h2,_⟩:=Mx h h1;exact RT (by rw[ayd];exact B) h2
 | false=>rw[(RR h h1).1];exact B
end
theorem Lh{α β:Type}{f:α->β}{l:List α}{k:Nat}{e:α}(h:l[k]?=some e):(l.take k).map f++[f e]=(l.take (k+1)).map f:=by
 rw[<- ja h,List.map_append];rfl
def RU{l:List bP}{s s':ik}{x:List eH}(h:UF l s=some (s',x))(h1:(jM l s ⟨#[114,101,99,111,118,101,114]⟩).2=true):∃y,wY l (jM l s ⟨#[114,101,99,111,118,101,114]⟩).1 ⟨#[]⟩ (C2 l (jM l s ⟨#[114,101,99,111,118,101,114]⟩).1)=some (s',y)/\x=[y]:=by
 unfold UF at h;rw[fV h1]at h
 obtain⟨q,y,h2,h3⟩:=fQ h
 grind
theorem Xs{l:List bP}{s s':ik}{x:List eH}(h:UF l s=some (s',x))(h1:(jM l s ⟨#[114,101,99,111,118,101,114]⟩).2=false):s'=s/\x=[]:=by
 unfold UF at h;grind
theorem Y8{t:ByteArray}{l:List bP}{e a:Int}{R:dM×Int×Int}(h:we t=some R)(B:yt t=some (l,e,a))(E:e≠0):R=(RO,e,a):=by
 unfold we at h;rw[B]at h
 simp only[o5]at h
 rw[fV E]at h;exact(qa.inj h).symm
theorem UL{t:ByteArray}{R:dM×Int×Int}(h:we t=some R):∃l e a,yt t=some (l,e,a):=by
 unfold we at h
 cases hs:yt t with
 | none=>rw[hs]at h;cases h
 | some L=>exact⟨L.1,L.2.1,L.2.2,rfl⟩
structure aqH(l:List bP)(R:dM×Int×Int)(t1 t2 t3 t4 t5 t6:ik)(y1:List (List dW))(y2 y3:List (List dW))(y4 y5:List eH)(y6:List lW):Prop where
 h1:ph l adT (pA l true) 10000 (xy 0)=some (t1,y1)
 h2:ph l aqE (pA l true) 10000 t1=some (t2,y2)
 h3:ph l adU (pA l false) 10000 t2=some (t3,y3)
 h4:ph l Ol (aqF l) 10000 t3=some (t4,y4)
 h5:UF l t4=some (t5,y5)
 h6:ph l Om (λs=>A1 l s (C2 l s)) 10000 t5=some (t6,y6)
 b1:y1.length<=1000000
 b2:y2.flatten.length<=1000000
 b3:y3.flatten.length<=1000000
 b4:y4.length<=1000000
 b6:y6.length<=1000000
 bad:(Lg l t6).e≠0->R=(RO,(Lg l t6).e,(Lg l t6).pos)
 aGC:¬ (Lg l t6).e≠0->R=(⟨y1,y2.flatten,y3.flatten,y4,y5,y6⟩,0,0)
def adY{t:ByteArray}{l:List bP}{e a:Int}{R:dM×Int×Int}(h:we t=some R)(hs:yt t=some (l,e,a))(he:¬ e≠0):∃M O t3 E t5 B I J y3 U y5 W,aqH l R M O t3 E t5 B I J y3 U y5 W:=by
 unfold we at h;rw[hs]at h
 simp only[o5]at h
 rw[fU he]at h
 obtain⟨M,I,h1,h⟩:=fQ h
 obtain⟨O,J,h2,h⟩:=fQ h
 obtain⟨t3,y3,h3,h⟩:=fQ h
 obtain⟨E,U,h4,h⟩:=fQ h
 obtain⟨t5,y5,h5,h⟩:=fQ h
 obtain⟨B,W,h6,h⟩:=fQ h
 dsimp only at h
 split at h
 .cases h
 rename_i hb
 simp only[not_or,Nat.not_lt]at hb
 refine⟨M,O,t3,E,t5,B,I,J,y3,U,y5,W,h1,h2,h3,h4,h5,h6,hb.1,hb.2.1,hb.2.2.1,hb.2.2.2.1,hb.2.2.2.2,λV=>?_,λV=>?_⟩
 .rw[fV V]at h;exact(qa.inj h).symm
 rw[fU V]at h;exact(qa.inj h).symm
theorem ai7{l:List bP}{s s':ik}{x:List eH}(B:nD l s)(h:UF l s=some (s',x)):nD l s':=by
 cases h1:(jM l s ⟨#[114,101,99,111,118,101,114]⟩).2 with
 | true=>obtain⟨y,h2,_⟩:=RU h h1;exact Kb (mA B) h2
 | false=>rw[(Xs h h1).1];exact B
theorem EE{α:Type}{a:List (List α)}{b:List α}:(a++[b]).flatten=a.flatten++b:=eU
def Xt{α:Type}{y a c:List (List α)}{b:List α}(h:y=a++b::c):a.flatten.length+b.length<=y.flatten.length:=eS
def C213(l:List bP)(lv:Value)(i op:Int)(R:List cR×Int×Int×Int)(w:World)(hL:eN (λ_=>True) w lv l)(W:kz l)(h0:0<=i/\i<=l.length)(ml:0<=op/\op<l.length)(hr:J8 l i op=some R):CR 213 [lv,jK i,jK op] w (λv w'=>∃sv:SV,v=.tuple #[j6 sv,jK R.2.1,jK R.2.2.1,jK R.2.2.2]/\mr (fB λw=>DL w (j6 sv) R.1) w w'):=by
 have KD:=W.n;have hn:l.length<=1000000:=cW
 have vG:=W.at_;obtain⟨s9,add,Hf,KA,hR⟩:=ai4 hr;obtain⟨lsv,hlv⟩:=hL.gE;have B:=St.start w;refine uT Tryz.func213 (pl:=aC2) ?_;rw[hlv];refine pop (S3 _ _ _ _) (lC B λayf _ B=>?_);obtain⟨p,rfl⟩:∃p,p=ayf:=⟨_,rfl⟩;have B:=B.enc (cs':=eQ (j6 lsv) (.slice none 0 0) (xy i)) rfl;rw[<- hlv]at B |-;have hT:∀w',js aY w w'->eN (λ_=>True) w' lv l:=λ_ hc=>hL.ext hc;have B:=((B.iK (Φ:=λw=>jF ([]:List cL) ([]:List cR) w/\noQ w) λ_=>⟨jF.nil,trivial⟩).gA (α:=cL)).p2;have B:=pT.shut B;refine⟨λmm w'=>∃(E:ik) (M a2:List cR),nD l E/\wX l (λs=>GL l (ZW l 20) s 0 0) mm E=some (s9,a2)/\add=M++a2/\St w aY [pT p lv E (([]:List cR)++M) noQ] w',⟨10000,xy i,[],add,(show nD l (xy i)from h0),Hf,rfl,by rw[r6];exact B⟩,?_⟩
 rintro mm _ ⟨E,M,a2,RN,KQ,xb,B⟩ _;obtain⟨m,rfl⟩:=Mu KQ;obtain⟨J,I,B⟩:=pT.open B;have U:I.length=(([]:List cR)++M).length:=B.p2.fB.1.1;rw[n0]at U;refine⟨λjv w'=>jv=.bool (decide (E.e=0)&&!wU l E.at_ qV)/\St w aY [cI p (eQ lv J E),bE J I,fB λw=>jF I (([]:List cR)++M) w/\noQ w] w',aD (aA mS (have B:=B.drew;aB qt B.hb rfl (aH (aC (λV=>aD (aA jQ (aB kK B.hb rfl (aD (aA ga (aB aV B.hb rfl (aZ zz B (C211 _ l E.at_ (k9 #[125]) _ (hT _ B.aE) hn) λ_ _ B=>bV (have B:=B.p2.p2.p2;⟨vb (by first|(rw[gq V];rfl)|(rw[gD V];rfl)),B⟩)))))))) λV=>have B:=B.p2.p2.p2;⟨vb (by first|(rw[gq V];rfl)|(rw[gD V];rfl)),B⟩)))),?_⟩
 rintro _ _ ⟨rfl,B⟩ _;refine aW (λmW=>?_) (λmW=>?_)
 .obtain⟨s3,a1,a3,ho,hb3,rfl⟩:=Oj KQ mW;have B:=pT.shut B.p2.p2.p2;refine bI akD B (H':=λ_=>pT p lv s3 ((([]:List cR)++M)++a1) noQ) (Φ:=λ_ _=>True) (λF2 fz eO=>?_) ?_
  .exact(C233 p lv l E 20 0 0 (([]:List cR)++M) s3 a1 noQ F2 _ fz (λw' hc=>hT w' (eO w' hc).aE) W RN (ayb W 20) cW cW (by have:=hM List.length xb;simp at this |-;omega) ho).mono λ_ _ r=>r.mono λ_ _ h=>⟨trivial,h.2⟩
  rintro _ _ _ B;exact⟨_,cW,s3,M++a1,a3,UC (λ_ _ _ _ _ c e=>UD c e) RN ho,hb3,by rw[xb,qF],by rw[<- qF];exact B⟩
 obtain⟨e9,rfl⟩:=J7 KQ mW;replace e9:=e9.symm;subst e9;rw[r6]at xb;subst xb;obtain⟨aGE,aGF⟩:=id RN;simp only[u1,ve]at U;refine bI B8 B (H':=λ_=>cI p (eQ lv J (eC l E (k9 #[125])))) (Φ:=λ_ _=>True) (λF2 fz eO=>?_) ?_
 .exact(C234 p lv J l E (k9 #[125]) F2 _ fz (λw' hc=>hT w' (eO w' hc).aE) W RN).mono λ_ _ r=>r.mono λ_ _ h=>⟨trivial,h.2⟩
 rintro _ _ _ B;refine aD (aA mS (aB qt B.hb rfl (bQ (aC (λuq=>?_) λuq=>aD (aA tI (aB xd B.hb rfl (aI mH B.p1.fu (cG (aC (λtO=>?_) λtO=>?_)))))))))
 .refine aD (aA mS (have B:=B.drew;aB qt B.hb rfl (aD (aA DD (aB aV B.hb rfl ?_)))));have O:R=([],0,(eC l E qV).e,(eC l E qV).pos):=hR.1 uq;rw[O];exact⟨bL,rfl,(B.iK (Φ:=λw=>DL w (j6 (bL:SV)) ([]:List cR)) λw=>DL.nil w).fresh⟩
 .obtain⟨QJ,sN⟩:=gx l (i:=op.toNat) cW;refine aQ gZ hL cW sN (λ_ AI=>bO QJ.at_ nG AI rfl rfl λ_ D4=>have B:=B.drew;aF aV (D4.ext B.aE) ?_);have O:R=([],0,2,QJ.at_):=(hR.2.1 uq cW).trans (by rw[ED ml.1 sN]);rw[O];exact⟨bL,rfl,(B.iK (Φ:=λw=>DL w (j6 (bL:SV)) ([]:List cR)) λw=>DL.nil w).fresh⟩
 refine aD (aA tI (have B:=B.drew;aB xd B.hb rfl (aD (aA ga (aB aV B.hb rfl ?_)))));have B:=(B.drop.p1.dT (Ψ:=jF I ([]++add)) λ_ h=>h.1).p1;have B:=St.An B;obtain⟨sv,hsv⟩:=B.nX;subst hsv;rw[hR.2.2 uq cW];exact⟨sv,rfl,B.mf.fresh⟩
def C166(p:Nat)(lv:Value)(l:List bP)(s:ik)(nb:Bool)(s2:ik)(x:List dW)(F:Nat->Prop)(w:World)(hF:(cI p (fy lv s)).p w F)(U:∀w',js F w w'->eN (λ_=>True) w' lv l)(hk:kz l)(h0:nD l s)(hr:pA l nb s=some (s2,x)):CR 166 [(.pointer (some ⟨p,0,none⟩)),.bool nb] w (λv w'=>pk F (sep (cI p (fy lv s2)) (bE v x)) w w'):=by
 have B:=St.begin hF;obtain⟨s9,hn0,e2,KA⟩:=BP hr;have KD:=hk.n;have hn:l.length<=1000000:=cW
 have vG:=hk.at_;obtain⟨Xf,Xg⟩:=id h0;refine uT Tryz.func166 (pl:=aCN) ?_;refine bJ ([]:List dW) B mG rfl rfl (dV rfl) (λzQ _ B=>?_);have B:=B.p1.p1;refine⟨λmm o mo w'=>∃(E:ik) (b:Bool) (o1 a2:List dW),mo=.bool b/\nD l E/\sY l nb mm b E=some (s9,a2)/\x=o1++a2/\St w F [bE o o1,cI p (fy lv E)] w',⟨10000,s,true,[],x,rfl,h0,hn0,rfl,B⟩,?_⟩;rintro mm BU _ w2 ⟨E,b,o1,a2,rfl,O,hn1,hx,B⟩ _;obtain⟨m,rfl⟩:=RP hn1;obtain⟨aGE,aGF⟩:=id O;refine⟨λjv w'=>jv=.bool (b&&decide (E.e=0))/\w2=w',aW (λEF=>aD (aA oy (aB qt B.p1.hb rfl (aH ⟨vb (by first|(rw[EF];rfl)|(rw[EF];rfl)),rfl⟩)))) (λEF=>⟨vb (by first|(rw[EF];rfl)|(rw[EF];rfl)),rfl⟩),?_⟩
 rintro _ _ ⟨rfl,hw⟩ _;subst hw;refine aW (λfT=>?_) (λfT=>?_)
 .obtain⟨a3,hn3,rfl⟩:=Y0 hn1 fT;refine bI akq B.p1 (H':=λ_=>cI p (fy lv (gd l E).1)) (Φ:=λv _=>v=j6 (gd l E).2) (λJ I M=>?_) ?_
  .exact C167 p lv l E J _ I (λw' hc=>U w' (M w' hc).aE) hk O
  rintro _ _ rfl B;refine aR B GW (λayg _ B=>aO (x:=(gd l E).2) B B9 rfl rfl λ_ B=>⟨λw'=>St w F [cI p (fy lv (gw l nb E).1),cI ayg (kp (gw l nb E).2),bE BU o1] w',⟨_,aW (λzu=>?_) (λzu=>?_),λ_ _ h=>h⟩,?_⟩)
  .refine bI B7 B.p1 (H':=λ_=>cI p (fy lv (jM l (gd l E).1 (k9 #[61])).1)) (Φ:=λv _=>v=.bool (jM l (gd l E).1 (k9 #[61])).2) (λJ I M=>?_) ?_
   .exact C165 p lv l (gd l E).1 (k9 #[61]) J _ I (λw' hc=>U w' (M w' hc).aE) hk (yu O)
   rintro _ _ rfl B;intro uj;refine aW (λfX=>?_) (λfX=>?_)
   .have hq:=mA (t:=k9 #[61]) (yu O);obtain⟨V,hq1⟩:=id hq;refine⟨λjv w'=>jv=.bool (Ok l (jM l (gd l E).1 (k9 #[61])).1)/\St w F [cI p (fy lv (jM l (gd l E).1 (k9 #[61])).1),cI ayg (kp (gd l E).2),bE BU o1] w',aD (aA gH (have B:=B.drew;aB aV B.hb rfl (aD (aA me (aB kK B.hb rfl (aI gZ (U _ B.aE) (aK (aC (λlj=>?_) λlj=>have B:=B.p2.p2.p2;⟨vb (by unfold Ok nN;rw[fV V,List.getElem?_eq_none cW]),B⟩)))))))),?_⟩
    .refine aD (aA me (aB kK B.hb rfl (aD (aA gH (aB aV B.hb rfl ?_)))));obtain⟨ayh,adZ⟩:=gx l (i:=(((jM l (gd l E).1 (k9 #[61])).1).at_).toNat) cW;exact aQ gZ (U _ B.aE) cW adZ (λ_ IX=>bO ayh.kind nF IX rfl rfl λ_ Qv=>aF aV Qv (aH (have B:=B.p2.p2.p2;⟨vb (by unfold Ok nN;rw[fV V,adZ]),B⟩)))
    rintro _ _ ⟨rfl,B⟩ _;refine aW (λnI=>?_) (λnI=>?_)
    .obtain⟨tk,hnt,Xd,_,hqlt⟩:=ai5 nI;have BH:su l (jM l (gd l E).1 (k9 #[61])).1.at_=tk:=ED V Xd;refine aD (aA me (have B:=B.drew;aB kK B.hb rfl (aD (aA gH (aB aV B.hb rfl (aQ gZ (U _ B.aE) cW Xd λ_ D4=>bO tk.n vq D4 rfl rfl λ_ ad0=>aF aV ad0 (aA DA (aS B.p1 aV (dV rfl) (rfl) λ_ B=>have B:=B.enc (cs':=kp ({ (gd l E).2 with n:=tk.n}:dW)) rfl;aD (aA gH ?_)))))))));refine aB aV B.p1.hb rfl (aN cW (aD (aA gH (aS B.p1 aV (dV rfl) (rfl) λ_ B=>?_))))
     have B:=B.p2.p2.p2;have W:(gw l nb E)=(YY (jM l (gd l E).1 (k9 #[61])).1,{ (gd l E).2 with n:=tk.n}):=(Y4 zu fX nI).trans (by rw[BH]);rw[W];exact B
    refine bI VE B (H':=λ_=>cI p (fy lv (lg l (jM l (gd l E).1 (k9 #[61])).1 5))) (Φ:=λ_ _=>True) (λJ I M=>?_) ?_
    .exact(C170 p lv l (jM l (gd l E).1 (k9 #[61])).1 J _ I (λw' hc=>U w' (M w' hc).aE) hk (mA (yu O))).mono λ_ _ r=>r.mono λ_ _ h=>⟨trivial,h.2⟩
    rintro _ _ _ B;have B:=B.p2.p2.p2;have W:=Y5 zu fX nI;rw[W];exact B
   have B:=B.p2.p2.p2;have W:=adW (nb:=nb) fX;rw[W];exact B
  .intro uj;refine fM ?_;have B:=B.p2.p1.p2;have W:=adX (l:=l) (s:=E) zu;rw[W];exact B
  intro _ B _;refine aF B9 B.p1.At (bJ ([(gw l nb E).2]) B mG rfl rfl (dV rfl) λab6 _ B=>?_);have UM:=B.fu;refine bW B.p3 mG UM (by have:=hM List.length hx;simp at this |-;omega) dO (λWs _ B=>have B:=B.p1.drop;bI B7 B.p1 (H':=λ_=>cI p (fy lv (jM l (gw l nb E).1 (k9 #[44])).1)) (Φ:=λv _=>v=.bool (jM l (gw l nb E).1 (k9 #[44])).2) (λJ I M=>?_) ?_)
  .exact C165 p lv l (gw l nb E).1 (k9 #[44]) J _ I (λw' hc=>U w' (M w' hc).aE) hk (J9 O)
  rintro _ _ rfl B;have B:=B.p2.drop.p1;exact⟨_,cW,(jM l (gw l nb E).1 FP).1,(jM l (gw l nb E).1 FP).2,o1++[(gw l nb E).2],a3,rfl,mA (J9 O),hn3,by rw[hx,qF];rfl,B⟩
 obtain⟨e9,rfl⟩:=Ka hn1 fT;replace e9:=e9.symm;subst e9;rw[r6]at hx;subst hx;refine bI aaB B.p1 (H':=λ_=>cI p (fy lv (eC l E (k9 #[59])))) (Φ:=λ_ _=>True) (λJ I M=>?_) ?_
 .exact(C212 p lv l E (k9 #[59]) J _ I (λw' hc=>U w' (M w' hc).aE) hk O).mono λ_ _ r=>r.mono λ_ _ h=>⟨trivial,h.2⟩
 rintro _ _ _ B;have B:=B.p1.p1;rw[e2];exact(St.join B).mut
def C168(p:Nat)(lv:Value)(l:List bP)(s:ik)(I:ByteArray)(a:Int)(s2:ik)(x:eH)(F:Nat->Prop)(w:World)(hF:(cI p (fy lv s)).p w F)(hT:∀w',js F w w'->eN (λ_=>True) w' lv l)(M:kz l)(W:nD l s)(hr:wY l s I a=some (s2,x)):CR 168 [(.pointer (some ⟨p,0,none⟩)),j6 (⟨I,bL,bL,a⟩:fE)] w (λv w'=>pk F (uI λsh:fE=>fact (v=j6 sh) (sep (cI p (fy lv s2)) (fB λw=>py w sh x))) w w'):=by
 have B:=St.begin hF;obtain⟨q,rs,AM,zW,hg2⟩:=UH hr;have hqi:=RQ (gX W) AM;obtain⟨hqi0,hqi1⟩:=id hqi;have KD:=M.n;have hn:l.length<=1000000:=cW
 have vG:=M.at_;obtain⟨Xf,Xg⟩:=id W;refine uT Tryz.func168 (pl:=aCP) ?_;refine cU (x:=(⟨I,bL,bL,a⟩:fE)) B (λJ _ B=>aR B SU λxZ _ B=>have B:=B.enc (cs':=kp (⟨(k9 #[]),bL,bL,0⟩:fE)) rfl;aD (aA gH (aB aV B.p2.hb rfl (bI aaB B.p2 (H':=λ_=>cI p (fy lv (eC l s (k9 #[123])))) (Φ:=λ_ _=>True) (λF2 fz eO=>?_) ?_))))
 .exact(C212 p lv l s (k9 #[123]) F2 _ fz (λw' hc=>hT w' (eO w' hc).aE) M W).mono λ_ _ r=>r.mono λ_ _ h=>⟨trivial,h.2⟩
 rintro _ _ _ B;refine⟨λw'=>∃E:SV,St w F [bE (j6 E) rs,cI J (kp (⟨I,E,bL,a⟩:fE)),cI xZ (kp (⟨(k9 #[]),bL,bL,0⟩:fE)),cI p (fy lv q)] w',?_,?_⟩
 .refine bI B7 B (H':=λ_=>cI p (fy lv (jM l (eC l s (k9 #[123])) (k9 #[114,101,103])).1)) (Φ:=λv _=>v=.bool (jM l (eC l s (k9 #[123])) (k9 #[114,101,103])).2) (λF2 fz eO=>?_) ?_
  .exact C165 p lv l (eC l s (k9 #[123])) (k9 #[114,101,103]) F2 _ fz (λw' hc=>hT w' (eO w' hc).aE) M (gX W)
  rintro _ _ rfl B;refine aW (λgI=>?_) (λgI=>?_)
  .obtain⟨ys,O,hrs⟩:=Mx AM gI;have hyl:ys.length<=1000000:=by obtain⟨_,_,_,h⟩:=BP O;exact h
   refine bI VD B (H':=λv=>sep (cI p (fy lv q)) (bE v ys)) (Φ:=λ_ _=>True) (λF2 fz eO=>?_) ?_
   .exact(C166 p lv l (jM l (eC l s (k9 #[123])) (k9 #[114,101,103])).1 false q ys F2 _ fz (λw' hc=>hT w' (eO w' hc).aE) M (mA (gX W)) O).mono λ_ _ r=>r.mono λ_ _ h=>⟨trivial,h⟩
   rintro ZS _ _ B;have B:=(((((B.split.gA (α:=ByteArray)).p1).p3).p3).p4).p4;refine⟨λmm i w'=>∃(j:Nat) (E:SV),i=jK (j:Int)/\mm=ys.length-j/\j<=ys.length/\St w F [bE (j6 E) ((ys.take j).map dW.name),cI J (kp (⟨I,E,bL,a⟩:fE)),bE ZS ys,cI xZ (kp (⟨(k9 #[]),bL,bL,0⟩:fE)),cI p (fy lv q)] w',⟨_,0,bL,rfl,rfl,o6 _,B⟩,?_⟩;rintro mm _ _ ⟨j,E,rfl,rfl,hj,B⟩ _;refine aI mG B.p2.fu (aK (aC (λfX=>?_) λfX=>?_))
   .refine aA lO (have B:=B.drew;aB (v:=j6 (E:SV)) tA B.p1.hb rfl ?_);obtain⟨U,ad1⟩:=gx ys (i:=(j:Int).toNat) cW;refine cH B.p2 mG cW cW (λ_ AH=>kL tG AH λ_ vH=>lH U.name B.p2 mJ vH ad1 rfl (bJ ([U.name]) B pK rfl rfl (dV rfl) λavC _ B=>?_));refine⟨aG tA (B.p2.hb.cell rfl),?_⟩;have aqI:=B.fu;refine bW B.p1 pK aqI (by simp;omega) dO (λabK _ B=>have B:=B.p1.drop;aA lO ?_);obtain⟨V,rfl⟩:=B.gE;exact aS B.p1 tA (dV rfl) (rfl) (λ_ B=>have B:=B.enc (cs':=kp (⟨I,V,bL,a⟩:fE)) rfl;aN cW (have B:=B.p4.p4.p4.p3.p4;⟨_,cW,j+1,V,rfl,rfl,cW,by rw[<- Lh (k:=j) ad1];exact B⟩))
   have B:=B.p2.drop.p3.p3.p3.p3;rw[mE cW]at B;rw[hrs];exact⟨E,B⟩
  have B:=((((B.gA (α:=ByteArray)).p1).p2).p3).p3;obtain⟨e1,e3⟩:=RR AM gI;rw[A3 gI]at B;rw[e1,e3];exact⟨bL,B⟩
 rintro _ ⟨E,B⟩ _;refine⟨λw'=>∃(E bv:SV) (body:List cR),x=⟨I,rs,body,a⟩/\St w F [bE (j6 E) rs,fB (λw=>DL w (j6 bv) body),cI J (kp (⟨I,E,bv,a⟩:fE)),cI xZ (kp (⟨(k9 #[]),bL,bL,0⟩:fE)),cI p (fy lv s2)] w',aD (aA oy (aB qt B.p3.hb rfl (aH (aC (λpY=>?_) λpY=>?_)))),?_⟩
 .obtain⟨R,hR,hR0,hR1,e2,hx⟩:=hg2 cW;have CX:(eC l s Gu).e=0:=FE.1 λhh=>UJ hh AM cW;have ml:=wb (ai6 CX);refine aD (aA me (have B:=B.drew;aB kK B.p3.hb rfl (aD (aA gH (aB aV B.p3.hb rfl (eR at4 (C213 l _ q.at_ s.at_ R _ (hT _ B.aE) M hqi ml hR) ?_))))));rintro _ _ ⟨Uh,rfl,cJ⟩;have B:=B.made cJ;refine bD rfl (bD rfl (bD rfl (bD rfl (aA uG (aS B.p2 xd (dV rfl) (rfl) λ_ B=>have B:=B.enc (cs':=kp (⟨I,E,Uh,a⟩:fE)) rfl;aD (aA gH (aS B.p4 aV (dV rfl) (rfl) λ_ B=>aD (aA oy (aS B qt (dV rfl) (rfl) λ_ B=>aD ?_)))))))))
  refine aA Ag (aS B aV (dV rfl) (rfl) λ_ B=>?_);have B:=B.p4.p2.p3.p4;rw[e2];exact⟨E,Uh,R.1,hx,B⟩
 .have B:=B.iK (Φ:=λw=>DL w (j6 (bL:SV)) ([]:List cR)) λw=>DL.nil w;have B:=B.p4.p4.p4.p3.p4;obtain⟨e2,hx⟩:=zW pY;rw[e2];exact⟨E,bL,[],hx,B⟩
 rintro _ ⟨E,bv,body,rfl,B⟩ _;exact aF Nn B.p2.At (aO (x:=(⟨I,E,bv,a⟩:fE)) B.p3 Nn rfl rfl λ_ B=>aF Nn B.At (have B:=B.p1.freeze.p2.p1.gU.dT (Ψ:=(λw=>py w (⟨I,E,bv,a⟩:fE) (⟨I,rs,body,a⟩:eH))) (λ_ h=>⟨_,_,rfl,DL.gB h.1,id h.2⟩);have B:=B.p1.drop.p1.drop.p1;(A0 B).mut))
def C169(p:Nat)(lv:Value)(l:List bP)(s:ik)(a:Int)(U:ik)(x:lW)(F:Nat->Prop)(w:World)(hF:(cI p (fy lv s)).p w F)(V:∀w',js F w w'->eN (λ_=>True) w' lv l)(I:kz l)(h0:nD l s)(hr:A1 l s a=some (U,x)):CR 169 [(.pointer (some ⟨p,0,none⟩)),jK a] w (λv w'=>pk F (uI λsh:nZ=>fact (v=j6 sh) (sep (cI p (fy lv U)) (fB λw=>py w sh x))) w w'):=by
 have B:=St.begin hF;obtain⟨R,O,zW,M⟩:=Y6 hr;have KD:=I.n;have hn:l.length<=1000000:=cW
 have vG:=I.at_;obtain⟨Xf,Xg⟩:=id h0;refine uT Tryz.func169 (pl:=aCQ) ?_;refine aR B anJ (λxZ _ B=>have B:=B.enc (cs':=kp (⟨bL,0⟩:nZ)) rfl;aD (aA me (have B:=B.drew;aB kK B.p1.hb rfl (aD (aA gH (aB aV B.p1.hb rfl (eR akz (C214 l _ s.at_ R _ (V _ B.aE) I cW O) ?_)))))));rintro _ _ ⟨E,rfl,cJ⟩;have B:=B.made cJ;refine bD rfl (bD rfl (bD rfl (bD rfl (bQ (aC (λJ=>?_) λJ=>?_)))))
 .obtain⟨rfl,rfl⟩:=zW J;exact aD (aA oy (aS B.p2 qt (dV rfl) (rfl) λ_ B=>aD (aA Ag (aS B aV (dV rfl) (rfl) λ_ B=>pop (v:=j6 (⟨bL,0⟩:nZ)) (by kernel_rfl) (aO (x:=(⟨bL,0⟩:nZ)) B.p2 agY rfl rfl λ_ B=>aF agY B.At (have B:=B.iK (Φ:=(λw=>py w (⟨bL,0⟩:nZ) (⟨[],0⟩:lW))) (λ_=>⟨_,rfl,DL.nil _⟩);have B:=B.p1.drop.p2.drop.p1;(A0 B).mut))))))
 obtain⟨AM,rfl,rfl⟩:=M J;refine aD (aA gH (aS B.p2 aV (dV rfl) (rfl) λ_ B=>have B:=B.enc (cs':=fy lv ({s with at_:=R.2.1}:ik)) rfl;bI aaB B (H':=λ_=>cI p (fy lv (eC l ({s with at_:=R.2.1}:ik) (k9 #[59])))) (Φ:=λ_ _=>True) (λF2 fz W=>?_) ?_))
 .exact(C212 p lv l ({s with at_:=R.2.1}:ik) (k9 #[59]) F2 _ fz (λw' hc=>V w' (W w' hc).aE) I (show nD l ({s with at_:=R.2.1}:ik)from AM)).mono λ_ _ r=>r.mono λ_ _ h=>⟨trivial,h.2⟩
 rintro _ _ _ B;exact pop (LM _ _ _ _) (aO (x:=(⟨E,a⟩:nZ)) B.p2 agY rfl rfl λ_ B=>aF agY B.At (have B:=B.p2.dT (Ψ:=(λw=>py w (⟨E,a⟩:nZ) (⟨R.1,a⟩:lW))) (λ_ h=>⟨_,rfl,id h⟩);have B:=B.p1.drop.p1;(A0 B).mut))
def C109(s:ByteArray)(R:dM×Int×Int)(w:World)(hz1:s.size<=1000000)(hr:we s=some R)(hTk:∀l e a,yt s=some (l,e,a)->kz l):CR 109 [.string s] w (λv w'=>∃pv:bX,v=.tuple #[j6 pv,jK R.2.1,jK R.2.2]/\mr (fB λw=>py w pv R.1) w w'):=by
 obtain⟨l,e,a,hsc⟩:=UL hr;have hk:=hTk l e a hsc;have KD:=hk.n;have hn:l.length<=1000000:=cW
 have vG:=hk.at_;have B:=St.start w;refine uT Tryz.func109 (pl:=aCh) ?_;refine aR B yJ (λmV _ B=>have B:=B.enc (cs':=kp (⟨bL,bL,bL,bL,bL,bL⟩:bX)) rfl;eR atx (C164 s (l,e,a) _ hz1 hsc) ?_);rintro _ _ ⟨lv,rfl,cJ⟩;have B:=B.made cJ;refine bD rfl (bD rfl (bD rfl (bQ (aC (λg9=>?_) λg9=>?_))))
 .refine pop (v:=j6 (⟨bL,bL,bL,bL,bL,bL⟩:bX)) (by kernel_rfl) (aO (x:=(⟨bL,bL,bL,bL,bL,bL⟩:bX)) B.p1 jE rfl rfl λ_ B=>aF jE B.At ?_);have B:=B.iK (Φ:=(λw=>py w (⟨bL,bL,bL,bL,bL,bL⟩:bX) (⟨[],[],[],[],[],[]⟩:dM))) (λ_=>⟨_,_,_,_,_,_,rfl,DL.nil _,DL.nil _,DL.nil _,DL.nil _,DL.nil _,DL.nil _⟩);have B:=B.p1.drop.p1.drop;rw[Y8 hr hsc g9];exact⟨_,rfl,B.fresh⟩
 obtain⟨t1,t2,t3,t4,t5,t6,y1,y2,y3,y4,y5,y6,hp⟩:=adY hr hsc g9;obtain⟨lsv,hlv⟩:=B.gE;rw[hlv];refine pop (aaW _ _ _) (lC B λF9 _ B=>pop (v:=j6 (⟨bL,bL,bL,bL,bL,bL⟩:bX)) (by kernel_rfl) (aR B yJ λUN _ B=>have B:=B.enc (cs':=kp (⟨bL,bL,bL,bL,bL,bL⟩:bX)) rfl;aO (x:=(⟨bL,bL,bL,bL,bL,bL⟩:bX)) B jE rfl rfl λ_ B=>?_));obtain⟨p,rfl⟩:∃p,p=F9:=⟨_,rfl⟩;have B:=B.p1.enc (cs':=fy (j6 lsv) (xy 0)) rfl;rw[<- hlv]at B |-;have aGI:nD l (xy 0):=⟨z7 _,by show(0:Int)<=_;omega⟩;have B:=(((((B.BY (α:=(List dW))).p4).p4).p3).p4).p4
 refine⟨λmm w'=>∃(s0:ik) (O:SV) (xs0 a0:List (List dW)),nD l s0/\ph l adT (pA l true) mm s0=some (t1,a0)/\y1=xs0++a0/\St w aY [fW (j6 O) xs0,cI UN (kp (⟨O,bL,bL,bL,bL,bL⟩:bX)),cI p (fy lv s0),bE lv l,cI mV (kp (⟨bL,bL,bL,bL,bL,bL⟩:bX))] w',⟨10000,xy 0,bL,[],y1,aGI,hp.h1,rfl,B⟩,?_⟩;rintro mm _ ⟨s0,O,xs0,a0,hi0,CX,hy0,B⟩ _;obtain⟨m0,rfl⟩:=wg CX;refine bI B7 B.p2 (H':=λ_=>cI p (fy lv (jM l s0 (k9 #[108,105,110,101])).1)) (Φ:=λv _=>v=.bool (jM l s0 (k9 #[108,105,110,101])).2) (λI E J=>?_) ?_
 .exact C165 p lv l s0 (k9 #[108,105,110,101]) I _ E (λw' hc=>(J w' hc).p2.fu) hk hi0
 rintro _ _ rfl B;refine aW (λiV=>?_) (λiV=>?_)
 .obtain⟨q0,z0,b0,hd0,hn0,rfl⟩:=A4 CX iV;refine aA lM (have B:=B.drew;aB (v:=j6 (O:SV)) wo B.p2.hb rfl (bI VD B (H':=λv=>sep (cI p (fy lv q0)) (bE v z0)) (Φ:=λ_ _=>True) (λI E J=>?_) ?_))
  .exact(C166 p lv l (jM l s0 (k9 #[108,105,110,101])).1 true q0 z0 I _ E (λw' hc=>(J w' hc).p2.fu) hk (mA hi0) hd0).mono λ_ _ r=>r.mono λ_ _ h=>⟨trivial,h⟩
  rintro x31 _ _ B;have B:=B.split;refine⟨aG wo (B.p3.hb.cell rfl),?_⟩;obtain⟨On,rfl⟩:=B.p1.gE;have B:=B.p1.freeze.dT (Ψ:=λw=>py w On z0) (λ_ h=>DL.gB h);refine fG (s:=On) (x:=z0) B zN dO (λaxj _ B=>?_);refine⟨aG wo (B.p3.hb.cell rfl),?_⟩;have B:=B.p2;refine eB B zN (by have h1:=hM List.length hy0;have h2:=hp.b1;simp at h1 |-;omega) dO (λs_x33 _ B=>aA lM ?_);obtain⟨AR,rfl⟩:=B.nX;exact aS B.p2 wo (dV rfl) (rfl) (λ_ B=>have B:=((((B.enc (cs':=kp (⟨AR,bL,bL,bL,bL,bL⟩:bX)) rfl).p4).p4).p4).p3;have B:=B.p4;⟨_,cW,q0,AR,xs0++[z0],b0,BQ (mA hi0) hd0,hn0,by rw[hy0,qF];rfl,B⟩)
 obtain⟨W,rfl⟩:=yw CX iV;replace W:=W.symm;subst W;rw[r6]at hy0;subst hy0;rw[A3 iV]at B;have B:=((((((B.gA (α:=dW)).p5).p5).p3).p5).p5).p5;refine⟨λmm w'=>∃(s1:ik) (U:SV) (xs1 a1:List (List dW)),nD l s1/\ph l aqE (pA l true) mm s1=some (t2,a1)/\y2=xs1++a1/\St w aY [bE (j6 U) xs1.flatten,fW (j6 O) y1,cI UN (kp (⟨O,U,bL,bL,bL,bL⟩:bX)),cI p (fy lv s1),bE lv l,cI mV (kp (⟨bL,bL,bL,bL,bL,bL⟩:bX))] w',⟨10000,s0,bL,[],y2,hi0,hp.h2,rfl,B⟩,?_⟩;rintro mm _ ⟨s1,U,xs1,a1,hi1,hm1,hy1,B⟩ _;obtain⟨m1,rfl⟩:=wg hm1
 refine bI B7 B.p3 (H':=λ_=>cI p (fy lv (jM l s1 (k9 #[118,111,108])).1)) (Φ:=λv _=>v=.bool (jM l s1 (k9 #[118,111,108])).2) (λI E J=>?_) ?_
 .exact C165 p lv l s1 (k9 #[118,111,108]) I _ E (λw' hc=>(J w' hc).p3.fu) hk hi1
 rintro _ _ rfl B;refine aW (λnh=>?_) (λnh=>?_)
 .obtain⟨q1,z1,b1,hd1,hn1,rfl⟩:=A4 hm1 nh;refine aA yI (have B:=B.drew;aB (v:=j6 (U:SV)) lV B.p3.hb rfl (bI VD B (H':=λv=>sep (cI p (fy lv q1)) (bE v z1)) (Φ:=λ_ _=>True) (λI E J=>?_) ?_))
  .exact(C166 p lv l (jM l s1 (k9 #[118,111,108])).1 true q1 z1 I _ E (λw' hc=>(J w' hc).p3.fu) hk (mA hi1) hd1).mono λ_ _ r=>r.mono λ_ _ h=>⟨trivial,h⟩
  rintro x40 _ _ B;have B:=B.split;refine⟨aG lV (B.p4.hb.cell rfl),?_⟩;have zb:=B.p1.fu;refine bW B.p2 mG zb (by have:=Xt hy1;have:=hp.b2;omega) dO (λWr _ B=>have B:=B.p2.drop;aA yI ?_);obtain⟨NR,rfl⟩:=B.gE;refine aS B.p3 lV (dV rfl) (rfl) (λ_ B=>?_);have B:=((((B.enc (cs':=kp (⟨O,NR,bL,bL,bL,bL⟩:bX)) rfl).p5).p5).p4).p3;have B:=B.p5.p5;rw[<- EE]at B;exact⟨_,cW,q1,NR,xs1++[z1],b1,BQ (mA hi1) hd1,hn1,by rw[hy1,qF];rfl,B⟩
 obtain⟨W,rfl⟩:=yw hm1 nh;replace W:=W.symm;subst W;rw[r6]at hy1;subst hy1;rw[A3 nh]at B;have B:=(((((((B.gA (α:=dW)).p6).p6).p3).p6).p5).p6).p6;refine⟨λmm w'=>∃(s2:ik) (v2:SV) (xs2 a2:List (List dW)),nD l s2/\ph l adU (pA l false) mm s2=some (t3,a2)/\y3=xs2++a2/\St w aY [bE (j6 v2) xs2.flatten,fW (j6 O) y1,bE (j6 U) y2.flatten,cI UN (kp (⟨O,U,v2,bL,bL,bL⟩:bX)),cI p (fy lv s2),bE lv l,cI mV (kp (⟨bL,bL,bL,bL,bL,bL⟩:bX))] w',⟨10000,s1,bL,[],y3,hi1,hp.h3,rfl,B⟩,?_⟩;rintro mm _ ⟨s2,v2,xs2,a2,Yw,hm2,hy2,B⟩ _
 obtain⟨m2,rfl⟩:=wg hm2;refine bI B7 B.p4 (H':=λ_=>cI p (fy lv (jM l s2 (k9 #[108,111,99,107])).1)) (Φ:=λv _=>v=.bool (jM l s2 (k9 #[108,111,99,107])).2) (λI E J=>?_) ?_
 .exact C165 p lv l s2 (k9 #[108,111,99,107]) I _ E (λw' hc=>(J w' hc).p4.fu) hk Yw
 rintro _ _ rfl B;refine aW (λqO=>?_) (λqO=>?_)
 .obtain⟨q2,z2,b2,WZ,hn2,rfl⟩:=A4 hm2 qO;refine aA wC (have B:=B.drew;aB (v:=j6 (v2:SV)) lV B.p4.hb rfl (bI VD B (H':=λv=>sep (cI p (fy lv q2)) (bE v z2)) (Φ:=λ_ _=>True) (λI E J=>?_) ?_))
  .exact(C166 p lv l (jM l s2 (k9 #[108,111,99,107])).1 false q2 z2 I _ E (λw' hc=>(J w' hc).p4.fu) hk (mA Yw) WZ).mono λ_ _ r=>r.mono λ_ _ h=>⟨trivial,h⟩
  rintro x48 _ _ B;have B:=B.split;refine⟨aG lV (B.p5.hb.cell rfl),?_⟩;have UO:=B.p1.fu;refine bW B.p2 mG UO (by have:=Xt hy2;have:=hp.b3;omega) dO (λav6 _ B=>have B:=B.p2.drop;aA wC ?_);obtain⟨ad4,rfl⟩:=B.gE;refine aS B.p4 lV (dV rfl) (rfl) (λ_ B=>?_);have B:=((((B.enc (cs':=kp (⟨O,U,ad4,bL,bL,bL⟩:bX)) rfl).p6).p6).p4).p3;have B:=B.p6.p6.p6;rw[<- EE]at B;exact⟨_,cW,q2,ad4,xs2++[z2],b2,BQ (mA Yw) WZ,hn2,by rw[hy2,qF];rfl,B⟩
 obtain⟨W,rfl⟩:=yw hm2 qO;replace W:=W.symm;subst W;rw[r6]at hy2;subst hy2;rw[A3 qO]at B;have B:=((((((((B.BY (α:=eH)).p7).p7).p3).p7).p5).p7).p7).p7;refine⟨λmm w'=>∃(M:ik) (v3:SV) (xs3 a3:List eH),nD l M/\ph l Ol (aqF l) mm M=some (t4,a3)/\y4=xs3++a3/\St w aY [fW (j6 v3) xs3,fW (j6 O) y1,bE (j6 U) y2.flatten,bE (j6 v2) y3.flatten,cI UN (kp (⟨O,U,v2,v3,bL,bL⟩:bX)),cI p (fy lv M),bE lv l,cI mV (kp (⟨bL,bL,bL,bL,bL,bL⟩:bX))] w',⟨10000,s2,bL,[],y4,Yw,hp.h4,rfl,B⟩,?_⟩;rintro mm _ ⟨M,v3,xs3,a3,hi3,hm3,hy3,B⟩ _
 obtain⟨m3,rfl⟩:=wg hm3;refine bI B7 B.p5 (H':=λ_=>cI p (fy lv (jM l M (k9 #[116,104,114,101,97,100])).1)) (Φ:=λv _=>v=.bool (jM l M (k9 #[116,104,114,101,97,100])).2) (λI E J=>?_) ?_
 .exact C165 p lv l M (k9 #[116,104,114,101,97,100]) I _ E (λw' hc=>(J w' hc).p5.fu) hk hi3
 rintro _ _ rfl B;refine aW (λvF=>?_) (λvF=>?_)
 .obtain⟨q3,z3,b3,hd3,hn3,rfl⟩:=A4 hm3 vF;refine bI akq B (H':=λ_=>cI p (fy lv (gd l (jM l M (k9 #[116,104,114,101,97,100])).1).1)) (Φ:=λv _=>v=j6 (gd l (jM l M (k9 #[116,104,114,101,97,100])).1).2) (λI E J=>?_) ?_
  .exact C167 p lv l (jM l M (k9 #[116,104,114,101,97,100])).1 I _ E (λw' hc=>(J w' hc).p5.fu) hk (mA hi3)
  rintro _ _ rfl B;refine aR B GW (λb_c10 _ B=>aO (x:=(gd l (jM l M (k9 #[116,104,114,101,97,100])).1).2) B B9 rfl rfl λ_ B=>aA qg (have B:=B.drew;aB (v:=j6 (v3:SV)) lz B.p6.hb rfl (aA tG (aB (v:=.string (((gd l (jM l M (k9 #[116,104,114,101,97,100])).1).2).name)) mJ B.hb rfl (aA HY (aB (v:=jK (((gd l (jM l M (k9 #[116,104,114,101,97,100])).1).2).at_)) aV B.hb rfl (pop (Ya _ _) (bI akr B.p1 (H':=λv=>uI λsh:fE=>fact (v=j6 sh) (sep (cI p (fy lv q3)) (fB λw=>py w sh z3))) (Φ:=λ_ _=>True) (λI E J=>?_) ?_))))))))
  .exact(C168 p lv l (gd l (jM l M (k9 #[116,104,114,101,97,100])).1).1 ((gd l (jM l M (k9 #[116,104,114,101,97,100])).1).2).name ((gd l (jM l M (k9 #[116,104,114,101,97,100])).1).2).at_ q3 z3 I _ E (λw' hc=>(J w' hc).p6.fu) hk (yu (mA hi3)) hd3).mono λ_ _ r=>r.mono λ_ _ h=>⟨trivial,h⟩
  rintro v_x63 _ _ Ew;obtain⟨aqM,Ey⟩:=Ew.fH
  clear Ew
  obtain⟨aqN,Hi⟩:=Ey.pd
  clear Ey
  subst aqN;have B:=Hi.split
  clear Hi
  refine⟨aG lz (B.p7.hb.cell rfl),?_⟩;have B:=B.p1;refine fG (s:=aqM) (x:=z3) B kI dO (λadA _ B=>?_);refine⟨aG lz (B.p7.hb.cell rfl),?_⟩;have B:=B.p3;refine eB B kI (by have h1:=hM List.length hy3;have h2:=hp.b4;simp at h1 |-;omega) dO (λadB _ B=>aA qg ?_);obtain⟨ad5,rfl⟩:=B.nX;exact aS B.p6 lz (dV rfl) (rfl) (λ_ B=>have B:=((((B.enc (cs':=kp (⟨O,U,v2,ad5,bL,bL⟩:bX)) rfl).p3).drop).p7).p7;have B:=B.p4.p3.p7.p7.p7.p7;⟨_,cW,q3,ad5,xs3++[z3],b3,Kb (yu (mA hi3)) hd3,hn3,by rw[hy3,qF];rfl,B⟩)
 obtain⟨W,rfl⟩:=yw hm3 vF;replace W:=W.symm;subst W;rw[r6]at hy3;subst hy3;rw[A3 vF]at B;refine⟨λw'=>∃v4:SV,St w aY [fW (j6 v4) y5,fW (j6 O) y1,bE (j6 U) y2.flatten,bE (j6 v2) y3.flatten,fW (j6 v3) y4,cI UN (kp (⟨O,U,v2,v3,v4,bL⟩:bX)),cI p (fy lv t5),bE lv l,cI mV (kp (⟨bL,bL,bL,bL,bL,bL⟩:bX))] w',?_,?_⟩
 .refine bI B7 B (H':=λ_=>cI p (fy lv (jM l M (k9 #[114,101,99,111,118,101,114])).1)) (Φ:=λv _=>v=.bool (jM l M (k9 #[114,101,99,111,118,101,114])).2) (λI E J=>?_) ?_
  .exact C165 p lv l M (k9 #[114,101,99,111,118,101,114]) I _ E (λw' hc=>(J w' hc).p5.fu) hk hi3
  rintro _ _ rfl B;refine aW (λL5=>?_) (λL5=>?_)
  .obtain⟨z4,hd4,hy5⟩:=RU hp.h5 L5;obtain⟨aGL,_,hlo68,hhi68⟩:=adV L5;have hat68:(jM l M (k9 #[114,101,99,111,118,101,114])).1.at_=M.at_+1:=by rw[aGL]
   refine aA wD (have B:=B.drew;aB (v:=j6 (bL:SV)) lz B.p5.hb rfl (aD (aA gH (aB aV B.hb rfl (eW cW ?_)))));obtain⟨ad6,ad7⟩:=gx l (i:=(((jM l M (k9 #[114,101,99,111,118,101,114])).1).at_-1).toNat) cW;refine cH B.p6 gZ cW cW (λ_ RH=>kL nG RH λ_ ayj=>lH ad6.at_ B.p6 aV ayj ad7 rfl (pop (aha _) ?_));have OM:C2 l (jM l M (k9 #[114,101,99,111,118,101,114])).1=ad6.at_:=hM bP.at_ (ED cW ad7);rw[OM]at hd4;refine bI akr B (H':=λv=>uI λsh:fE=>fact (v=j6 sh) (sep (cI p (fy lv t5)) (fB λw=>py w sh z4))) (Φ:=λ_ _=>True) (λI E J=>?_) ?_
   .exact(C168 p lv l (jM l M (k9 #[114,101,99,111,118,101,114])).1 (k9 #[]) ad6.at_ t5 z4 I _ E (λw' hc=>(J w' hc).p5.fu) hk (mA hi3) hd4).mono λ_ _ r=>r.mono λ_ _ h=>⟨trivial,h⟩
   rintro v_x82 _ _ Ew;obtain⟨aqO,Ey⟩:=Ew.fH
   clear Ew
   obtain⟨aqP,Hi⟩:=Ey.pd
   clear Ey
   subst aqP;have B:=Hi.split
   clear Hi
   refine⟨aG lz (B.p6.hb.cell rfl),?_⟩;have B:=B.p1;refine fG (s:=aqO) (x:=z4) B kI dO (λalp _ B=>?_);refine⟨aG lz (B.p6.hb.cell rfl),?_⟩;have B:=((B.BY (α:=eH)).p1).p1;refine eB B kI eU dO (λalm _ B=>aA wD ?_);obtain⟨ad8,rfl⟩:=B.nX;refine aS B.p6 lz (dV rfl) (rfl) (λ_ B=>?_);have B:=(((((B.enc (cs':=kp (⟨O,U,v2,v3,ad8,bL⟩:bX)) rfl).p8).p8).p4).p3).p5;have B:=B.p8.p8.p8.p8;rw[hy5];exact⟨ad8,B⟩
  rw[A3 L5]at B;have B:=(((((((((B.BY (α:=eH)).p8).p8).p3).p8).p5).p8).p8).p8).p8;obtain⟨e5,e6⟩:=Xs hp.h5 L5;rw[e5,e6];exact⟨bL,B⟩
 rintro _ ⟨v4,B⟩ _;have B:=((((((((((B.BY (α:=lW)).p9).p9).p9).p9).p5).p9).p9).p9).p9).p9;refine⟨λmm w'=>∃(V:ik) (v5:SV) (xs5 a5:List lW),nD l V/\ph l Om (λs=>A1 l s (C2 l s)) mm V=some (t6,a5)/\y6=xs5++a5/\St w aY [fW (j6 v5) xs5,fW (j6 O) y1,bE (j6 U) y2.flatten,bE (j6 v2) y3.flatten,fW (j6 v3) y4,fW (j6 v4) y5,cI UN (kp (⟨O,U,v2,v3,v4,v5⟩:bX)),cI p (fy lv V),bE lv l,cI mV (kp (⟨bL,bL,bL,bL,bL,bL⟩:bX))] w',⟨10000,t5,bL,[],y6,(ai7 hi3 hp.h5),hp.h6,rfl,B⟩,?_⟩;rintro mm _ ⟨V,v5,xs5,a5,hi5,hm5,hy5,B⟩ _
 obtain⟨m5,rfl⟩:=wg hm5;refine bI B7 B.p7 (H':=λ_=>cI p (fy lv (jM l V (k9 #[97,108,119,97,121,115])).1)) (Φ:=λv _=>v=.bool (jM l V (k9 #[97,108,119,97,121,115])).2) (λI E J=>?_) ?_
 .exact C165 p lv l V (k9 #[97,108,119,97,121,115]) I _ E (λw' hc=>(J w' hc).p7.fu) hk hi5
 rintro _ _ rfl B;refine aW (λJd=>?_) (λJd=>?_)
 .obtain⟨q5,z5,b5,hd5,KD,rfl⟩:=A4 hm5 Jd;obtain⟨aGO,_,hlo87,hhi87⟩:=adV Jd;have hat87:(jM l V (k9 #[97,108,119,97,121,115])).1.at_=V.at_+1:=by rw[aGO]
  refine aA nn (have B:=B.drew;aB (v:=j6 (v5:SV)) xc B.p7.hb rfl (aD (aA gH (aB aV B.hb rfl (eW cW ?_)))));obtain⟨ad9,aea⟩:=gx l (i:=(((jM l V (k9 #[97,108,119,97,121,115])).1).at_-1).toNat) cW;refine cH B.p8 gZ cW cW (λ_ ayl=>kL nG ayl λ_ aym=>lH ad9.at_ B.p8 aV aym aea rfl ?_);have OM:C2 l (jM l V (k9 #[97,108,119,97,121,115])).1=ad9.at_:=hM bP.at_ (ED cW aea);rw[OM]at hd5;refine bI aty B (H':=λv=>uI λsh:nZ=>fact (v=j6 sh) (sep (cI p (fy lv q5)) (fB λw=>py w sh z5))) (Φ:=λ_ _=>True) (λI E J=>?_) ?_
  .exact(C169 p lv l (jM l V (k9 #[97,108,119,97,121,115])).1 ad9.at_ q5 z5 I _ E (λw' hc=>(J w' hc).p7.fu) hk (mA hi5) hd5).mono λ_ _ r=>r.mono λ_ _ h=>⟨trivial,h⟩
  rintro aGP _ _ Ew;obtain⟨ai8,Ey⟩:=Ew.fH
  clear Ew
  obtain⟨ai9,Hi⟩:=Ey.pd
  clear Ey
  subst ai9;have B:=Hi.split
  clear Hi
  refine⟨aG xc (B.p8.hb.cell rfl),?_⟩;have B:=B.p1;refine fG (s:=ai8) (x:=z5) B Cz dO (λap6 _ B=>?_);refine⟨aG xc (B.p8.hb.cell rfl),?_⟩;have B:=B.p2;refine eB B Cz (by have h1:=hM List.length hy5;have h2:=hp.b6;simp at h1 |-;omega) dO (λap7 _ B=>aA nn ?_);obtain⟨Xu,rfl⟩:=B.nX;exact aS B.p7 xc (dV rfl) (rfl) (λ_ B=>have B:=(((((B.enc (cs':=kp (⟨O,U,v2,v3,v4,Xu⟩:bX)) rfl).p9).p9).p4).p3).p9;have B:=B.p9.p9.p9.p9.p9;⟨_,cW,q5,Xu,xs5++[z5],b5,Y3 (mA hi5) hd5,KD,by rw[hy5,qF];rfl,B⟩)
 obtain⟨W,rfl⟩:=yw hm5 Jd;replace W:=W.symm;subst W;rw[r6]at hy5;subst hy5;rw[A3 Jd]at B;obtain⟨hi50,hi51⟩:=id hi5;refine⟨λw'=>St w aY [fW (j6 v5) y6,fW (j6 O) y1,bE (j6 U) y2.flatten,bE (j6 v2) y3.flatten,fW (j6 v3) y4,fW (j6 v4) y5,cI UN (kp (⟨O,U,v2,v3,v4,v5⟩:bX)),cI p (fy lv (Lg l V)),bE lv l,cI mV (kp (⟨bL,bL,bL,bL,bL,bL⟩:bX))] w',aD (aA gH (aB aV B.hb rfl (aI gZ B.p8.fu (aK (aC (λC0=>?_) λC0=>?_))))),?_⟩
 .refine bI VE B (H':=λ_=>cI p (fy lv (lg l V 5))) (Φ:=λ_ _=>True) (λI E J=>?_) ?_
  .exact(C170 p lv l V I _ E (λw' hc=>(J w' hc).p7.fu) hk hi5).mono λ_ _ r=>r.mono λ_ _ h=>⟨trivial,h.2⟩
  rintro _ _ _ B;have B:=B.p9.p9.p2.p9.p9.p9.p9.p9.p9.p9;have he6:Lg l V=lg l V 5:=fV C0;rw[he6];exact B
 .have B:=B.p9.p9.p2.p9.p9.p9.p9.p9.p9.p9;have he6:Lg l V=V:=fU C0;rw[he6];exact B
 intro _ B _;refine aD (aA oy (aB qt B.p7.hb rfl (bQ (aC (λUP=>?_) λUP=>?_))))
 .refine pop (v:=j6 (⟨bL,bL,bL,bL,bL,bL⟩:bX)) (by kernel_rfl) (aD (aA oy (have B:=B.drew;aB qt B.p7.hb rfl (aD (aA Ag (aB aV B.p7.hb rfl (aO (x:=(⟨bL,bL,bL,bL,bL,bL⟩:bX)) B.p9 jE rfl rfl λ_ B=>?_)))))));refine⟨aG qt (B.p8.hb.cell rfl),?_⟩;refine⟨aG aV (B.p8.hb.cell rfl),?_⟩;refine aF jE B.At ?_;have B:=B.iK (Φ:=(λw=>py w (⟨bL,bL,bL,bL,bL,bL⟩:bX) (⟨[],[],[],[],[],[]⟩:dM))) (λ_=>⟨_,_,_,_,_,_,rfl,DL.nil _,DL.nil _,DL.nil _,DL.nil _,DL.nil _,DL.nil _⟩);have B:=B.p1.drop.p1.drop.p1.drop.p1.drop.p1.drop.p1.drop.p1.drop.p1.drop.p1.drop
  have B:=B.p1.drop;rw[hp.bad UP];exact⟨_,rfl,B.fresh⟩
 refine aF jE B.p6.At (aO (x:=(⟨O,U,v2,v3,v4,v5⟩:bX)) B.p9 jE rfl rfl λ_ B=>aF jE B.At ?_);have B:=B.p2.mf.p3.freeze.p1.gU.p3.freeze.p1.gU.p3.mf.p1.gU.p3.mf.p1.gU;have B:=B.p2.mf.p1.gU.dT (Ψ:=(λw=>py w (⟨O,U,v2,v3,v4,v5⟩:bX) (⟨y1,y2.flatten,y3.flatten,y4,y5,y6⟩:dM))) (λ_ h=>⟨_,_,_,_,_,_,rfl,h.1.1.1.1.1,DL.gB h.1.1.1.1.2,DL.gB h.1.1.1.2,h.1.1.2,h.1.2,h.2⟩);have B:=B.p1.drop.p1.drop.p1.drop.p1.drop;rw[hp.aGC UP];exact⟨_,rfl,B.fresh⟩
def C48(s:ByteArray)(R:dM×Int×Int)(w:World)(J:s.size<=1000000)(W:we s=some R)(O:∀l e a,yt s=some (l,e,a)->kz l)(V:PZ R.1):CR 48 [.string s] w (λv w'=>∃U:dH,v=j6 U/\mr (fB λw=>py w U (if jL R.1=0 then fL R.1 else Jb)) w w'):=by
 have B:=St.start w;refine lx Tryz.func48 ?_;refine aR B Aa (λmV _ B=>have B:=B.enc (cs':=kp (⟨bL,0,bL,0,bL,(⟨0,0,bL⟩:bY),bL⟩:dH)) rfl;eR as9 (C109 s R _ J W O) ?_);rintro _ _ ⟨E,rfl,M⟩;have B:=B.made M;refine bD rfl (bD rfl (bD rfl (aR B yJ λwu _ B=>have B:=B.enc (cs':=kp (⟨bL,bL,bL,bL,bL,bL⟩:bX)) rfl;aO (x:=E) B jE rfl rfl λ_ B=>aF jE B.At (eR asN (C12 R.1 E _ B.p1.fB V) ?_))));rintro _ _ ⟨I,rfl,M⟩;have B:=B.made M;exact bD rfl (bD rfl (aR B Aa λ_ _ B=>have B:=B.enc (cs':=kp (⟨bL,0,bL,0,bL,(⟨0,0,bL⟩:bY),bL⟩:dH)) rfl;aO (x:=I) B tW rfl rfl λ_ B=>aF tW B.At (aO (x:=I) B.p4 tW rfl rfl λ_ B=>aF tW B.At (have B:=B.drop.drop.p1.drop.p1.drop;⟨_,rfl,B.fresh⟩))))
structure od(c:gp)(cells lines locks:Int):Prop where
 rb:0<=c.aJ/\c.aJ<=4
 cb:0<=c.counts/\c.counts<=12
 fld:∀(i:Nat) (x:bF),c.l[i]?=some x->vO x c cells lines locks=true
 to:∀(i:Nat) (x:bF),c.l[i]?=some x->Gj c.l i x=true
def RV{c:gp}{cells lines locks:Int}(h:kP c cells lines locks=true):od c cells lines locks:=by
 unfold kP at h
 simp only[oG,uw]at h
 obtain⟨⟨h1,h2⟩,h3⟩:=h
 unfold rO at h1
 simp only[tc,decide_eq_false_iff_not]at h1
 have E:∀(i:Nat) (x:bF),c.l[i]?=some x->vO x c cells lines locks=true/\Gj c.l i x=true:=by
  intro i x B
  have h4:=BF h2 i (l0.1 B).1
  rw[pZ B]at h4
  simpa using h4
 exact⟨cW,cW,λi x B=>(E i x B).1,λi x B=>(E i x B).2⟩
structure Gv(u:iz):Prop where
 ll:u.lines.length<=20
 st:0<=u.stays/\u.stays<=u.lines.length
 fl:u.cO.length=u.lines.length
 lk:0<=u.locks/\u.locks<=2
 tl:1<=u.threads.length/\u.threads.length<=3
 ln:∀i,i<u.lines.length->kF u i=false
 fr:∀n∈u.cO,0<=n/\n<=4294967296
 th:∀c∈u.threads,od c u.lines.length (ic u) u.locks
 cl:∀l∈u.cD,eJ l u.stays=true
 rc:od u.recover u.lines.length (ic u) u.locks
def rY{u:iz}(h:iY u=true):Gv u:=by
 unfold iY at h
 simp only[oG,uw]at h
 obtain⟨h1,⟨⟨⟨⟨h2,h3⟩,h4⟩,h5⟩,h6⟩⟩:=h
 unfold jg at h1
 simp only[tc,decide_eq_false_iff_not]at h1
 rw[Av]at h2 h4 h5
 refine⟨cW,cW,cW,cW,cW,λi E=>BF h3 i E,λn B=>?_,λc hc=>?_,λl I=>?_,RV h6⟩
 .have:=h2 n B
  unfold ky at this
  simp at this;omega
 .have:=h4 c hc
  exact RV (by simpa using this)
 have:=h5 l I
 simpa using this
def Xv{n k:Int}(h:KB n k=true):0<=n/\n<k:=by unfold KB at h;grind
section
variable {c:gp}{cells lines locks:Int}{i:Nat}{x:bF}
theorem od.kd(h:od c cells lines locks)(B:c.l[i]?=some x):1<=x.kind/\x.kind<=15:=by
 have:=h.fld i x B;unfold vO at this;simp only[oG,decide_eq_true_eq]at this;exact⟨this.2.1.1.1,this.2.1.1.2⟩
theorem od.a(h:od c cells lines locks)(B:c.l[i]?=some x):aM x c.aJ c.counts=true:=by
 have:=h.fld i x B;unfold vO at this;simp only[oG,decide_eq_true_eq]at this;exact this.2.1.2
theorem od.b(h:od c cells lines locks)(B:c.l[i]?=some x):bM x cells lines locks=true:=by
 have:=h.fld i x B;unfold vO at this;simp only[oG,decide_eq_true_eq]at this;exact this.2.2
theorem od.a13(h:od c cells lines locks)(E:c.l[i]?=some x)(B:x.kind=13\/x.kind=14):0<=x.a/\x.a<c.counts:=by
 have:=h.a E;unfold aM at this;rw[fV B]at this;exact Xv this
theorem od.a1(h:od c cells lines locks)(E:c.l[i]?=some x)(B:x.kind=1\/x.kind=2\/x.kind=4):0<=x.a/\x.a<c.aJ:=by
 have:=h.a E;unfold aM at this;rw[fU cW,fV B]at this;exact Xv this
theorem od.b2(h:od c cells lines locks)(E:c.l[i]?=some x)(B:x.kind=2\/x.kind=3\/x.kind=4):0<=x.b/\x.b<cells:=by
 have:=h.b E;unfold bM at this;rw[fV B]at this;exact Xv this
theorem od.b9(h:od c cells lines locks)(E:c.l[i]?=some x)(B:x.kind=9\/x.kind=10):0<=x.b/\x.b<locks:=by
 have:=h.b E;unfold bM at this;rw[fU cW,fU cW,fV B]at this;exact Xv this
theorem od.tob(h:od c cells lines locks)(B:c.l[i]?=some x):0<=x.to/\x.to<=c.l.length:=by
 have h1:=h.to i x B
 have I:=(l0.1 B).1
 by_cases E:x.kind=14
 .have:=NT E h1;omega
 unfold Gj at h1
 split at h1
 .simp at h1;omega
 simp at h1;omega
theorem pB{α:Type}{l:List α}{x:α}(h:x∈l):∃i:Nat,l[i]?=some x:=List.mem_iff_getElem?.1 h
theorem od.ok(h:od c cells lines locks)(J:CZ c):AW c:=by
 have h1:=h.rb;have h2:=h.cb;have h3:=J.l
 refine⟨cW,cW,cW,λx B=>?_,λx B I=>?_,λx B I=>?_⟩
 .obtain⟨i,E⟩:=pB B
  have:=h.tob E
  have h4:=J.ef x B
  exact⟨h4.1,h4.2,cW,cW⟩
 .obtain⟨i,E⟩:=pB B;exact h.a1 E (.inl I)
 obtain⟨i,E⟩:=pB B;exact h.a13 E I
end
def Vis(t:fR):Prop:=∀x,gP t=some x->t.fault=0->2<=x.kind/\x.kind<=10
def aed{t:fR}{x:bF}{e:Int}:(zh t x e).1.code=t.code/\(zh t x e).1.buf=t.buf:=by
 unfold zh;repeat' split
 all_goals exact⟨rfl,rfl⟩
theorem qW(t:fR):(fK t).1.code=t.code/\(fK t).1.buf=t.buf:=by
 unfold fK
 cases hn:gP t with
 | none=>exact⟨rfl,rfl⟩
 | some x=>
  dsimp only
  split
  .split
   .exact aed
   .exact⟨rfl,rfl⟩
  .exact⟨rfl,rfl⟩
theorem EG:∀{n:Nat}{t t':fR},sB n t=some t'->t'.code=t.code/\t'.buf=t.buf
 | 0,_,_,h=>by cases h
 | n+1,t,t',h=>by
  have hc:=qW t
  unfold sB at h
  split at h
  .have:=EG h;exact⟨this.1.trans hc.1,this.2.trans hc.2⟩
  .cases h;exact hc
theorem Oo:∀{n:Nat}{t t':fR},JR t->sB n t=some t'->JR t'
 | 0,_,_,_,h=>by cases h
 | n+1,t,t',B,h=>by
  unfold sB at h
  split at h
  .exact Oo (jd B) h
  .cases h;exact jd B
theorem Kc:∀{n k:Nat}{t t':fR},sB n t=some t'->sB (n+k) t=some t'
 | 0,_,_,_,h=>by cases h
 | n+1,k,t,t',h=>by
  rw[show n+1+k=(n+k)+1 from cW]
  unfold sB at h |-
  split at h
  .rename_i hs;rw[fV hs];exact Kc h
  .rename_i hs;rw[fU hs];exact h
theorem UQ{t:fR}(J:∀x∈t.code.l,1<=x.kind/\x.kind<=15)(h:(fK t).2=false):Vis (fK t).1:=by
 intro x E B
 cases hn:gP t with
 | none=>rw[yn hn]at E;rw[E]at hn;cases hn
 | some y=>
  have M:=J y (o9 hn).1
  cases he:(dE y.e t.aJ).2 with
  | false=>rw[yo hn he]at B;simp[tE,he]at B
  | true=>
   cases XV:(dE y.f t.aJ).2 with
   | false=>rw[yp hn he XV]at B;simp[tF,tE,XV]at B
   | true=>
    rw[lL hn he XV]at h E B
    unfold zh at h E B
    have e:∀z,gP (tF (tE t y) y)=some z->z=y:=by
     intro z I
     have:gP (tF (tE t y) y)=gP t:=rfl
     rw[this,hn]at I;exact(qa.inj I).symm
    split at h
    .cases h
    .split at h
     .cases h
     .split at h
      .split at h<;>cases h
      .split at h
       .cases h
       .split at h
        .split at h<;>cases h
        .split at h
         .rename_i h1 h2 h3 h4 h5 h6
          rw[fU h1,fU h2,fU h3,fU h4,fU h5,fV h6]at B
          split at B
          .cases B
          .rename_i h7;rw[fU h7]at h;cases h
         .rename_i h1 h2 h3 h4 h5 h6
          rw[fU h1,fU h2,fU h3,fU h4,fU h5,fU h6]at E
          have:=e x E;subst this
          omega
theorem Hn:∀{n:Nat}{t t':fR},(∀x∈t.code.l,1<=x.kind/\x.kind<=15)->sB n t=some t'->Vis t'
 | 0,_,_,_,h=>by cases h
 | n+1,t,t',B,h=>by
  unfold sB at h
  split at h
  .exact Hn (by rw[(qW t).1];exact B) h
  .rename_i hs;cases h;exact UQ B (by simpa using hs)
theorem A5{l:List Int}{k:Nat}(B:0<k)(h:k<=l.length):ie (l.take k)=l.getD (k-1) 0+1:=by
 grind[ie]
def Ho{u:iz}(h:Gv u){k:Nat}{n:Int}(J:(k:Int)<u.stays)(B:u.lines[k]?=some n):(n=kQ u.lines k\/(0<k/\n=kQ u.lines k-1))/\-1<=n/\n<=k:=by
 have E:=(l0.1 B).1
 have hb:=FA (u:=u) (k:=u.lines.length) (λj I=>h.ln j I) k n E B
 have h1:=h.ln k E
 unfold kF at h1
 rw[B]at h1
 simp only[M8,tc,decide_eq_false_iff_not,FE]at h1
 refine⟨?_,hb⟩
 rcases h1 with h1|h1
 .exact .inl h1
 exact .inr ⟨cW,h1.2⟩
theorem Oq{u:iz}(h:Gv u):∀(k:Nat) (n:Int),(k:Int)<u.stays->u.lines[k]?=some n->0<=n/\∀j m,j<=k->u.lines[j]?=some m->m<=n
 | 0,n,J,E=>by
  have h1:=(Ho h J E).1
  have e:kQ u.lines 0=0:=rfl
  rw[e]at h1
  refine⟨cW,λj m U B=>?_⟩
  obtain rfl:j=0:=cW
  rw[E]at B;cases B;exact z7 _
 | k+1,n,J,E=>by
  have V:=(l0.1 E).1
  obtain⟨q,M⟩:=gx u.lines (i:=k) cW
  have O:=Oq h k q cW M
  have h1:=(Ho h J E).1
  have e:kQ u.lines (k+1)=q+1:=by unfold kQ;rw[fU cW,HI,oi,M];rfl
  rw[e]at h1
  refine⟨cW,λj m U B=>?_⟩
  by_cases I:j=k+1
  .subst I;rw[E]at B;cases B;exact z7 _
  .have:=O.2 j m cW B;omega
def aja{u:iz}(h:Gv u):ux (N7 u.lines u.stays u.cO):=by
 have h1:=h.st;have h2:=h.fl;have h3:=h.ll
 have I:(u.lines.take u.stays.toNat).length=u.stays.toNat:=by rw[oj];omega
 refine⟨?_,?_,rfl,?_,λn U=>?_,?_,λk x M=>by cases M⟩
 .show(u.lines.take u.stays.toNat).length<=u.cO.length;omega
 .show u.cO.length<=20;omega
 .show(u.cO.take u.stays.toNat).length=(u.lines.take u.stays.toNat).length;rw[I,oj];omega
 .obtain⟨i,E⟩:=pB (show n∈u.lines.take u.stays.toNat from U)
  have J:=(l0.1 E).1
  rw[I]at J
  rw[G5,fV J]at E
  obtain⟨q,B⟩:=gx u.lines (i:=u.stays.toNat-1) cW
  have h4:=Oq h (u.stays.toNat-1) q cW B
  have h5:=(Oq h i n cW E).1
  have h6:=h4.2 i n cW E
  show 0<=n/\n<ie (u.lines.take u.stays.toNat)
  rw[A5 cW cW,oi,B]
  exact⟨h5,by show n<q+1;omega⟩
 show ie (u.lines.take u.stays.toNat)<=20
 by_cases O:u.stays.toNat=0
 .rw[O,acu];decide
 obtain⟨q,B⟩:=gx u.lines (i:=u.stays.toNat-1) cW
 have:=(Ho h cW B).2
 rw[A5 cW cW,oi,B]
 show q+1<=20
 omega
def Hp{f:Int->List jV}{a k:Int}{xs:List jV}{x:jV}(h:x∈rS f a xs k):x∈xs\/x∈f k:=by
 unfold rS at h;grind
def My{m:Mem}{c n:Int}(h:ux m):ux (gF m c n):=by
 unfold gF
 split
 .rename_i uh
  unfold KC at uh;rw[decide_eq_true_eq]at uh
  refine⟨h.Lc,h.fl,by show(m.l.set _ _).length=_;rw[DI];exact h.ll,h.kl,h.ofr,h.lb,λk x B=>?_⟩
  dsimp only at B
  split at B
  .rename_i hc
   rcases Hp B with h1|h1
   .rw[r3]at h1
    rcases h1 with h1|h1
    .exact h.pc _ x h1
    grind
   exact h.pc _ x h1
  exact h.pc _ x B
 exact h
def ajb{m:Mem}{c:Int}(h:ux m):ux (sR m c):=by
 unfold sR
 split
 .refine⟨h.Lc,h.fl,h.ll,by show(qc _ _).length=_;rw[AU];exact h.kl,h.ofr,h.lb,λk x B=>?_⟩
  rcases Hp B with h1|h1
  .cases h1
  exact h.pc _ x h1
 exact h
def Y9{m:Mem}{cut nx:List Int}(h:gW m cut=some nx):nx.length=m.kept.length:=by
 unfold gW at h;split at h
 .cases h;exact nK _ _ _
 cases h
def Za{m:Mem}{cut nx:List Int}(h:ux m)(E:gW m cut=some nx):ux (rU m nx):=by
 have h1:=Y9 E
 have h2:=h.kl;have h3:=h.Lc
 refine⟨h.Lc,h.fl,?_,?_,h.ofr,h.lb,λk x B=>by cases B⟩
 .show(nx++m.cO.drop nx.length).length=m.cO.length
  rw[n0,List.length_drop];omega
 show nx.length=m.of.length;omega
structure GM(m:gQ):Prop where
 ru:Gv m.u
 uz:UZ m.u
 mem:ux m.mem
 of:m.mem.of=m.u.lines.take m.u.stays.toNat
 cO:m.mem.cO=m.u.cO
 th:∀t∈m.l,JR t/\Vis t/\(t.code∈m.u.threads\/t.code=m.u.recover)
 tl:m.l.length<=3
 lk:(m.locks.length:Int)=m.u.locks
 rm:1<=m.room/\m.room<=16
 cr:0<=m.cS
section
variable {m:gQ}{t:fR}
theorem GM.code(h:GM m)(ht:t∈m.l):od t.code m.u.lines.length (ic m.u) m.u.locks:=by
 rcases(h.th t ht).2.2 with h1|h1
 .exact h.ru.th _ h1
 rw[h1];exact h.ru.rc
theorem GM.ok(h:GM m):nL m:=by
 have U:=h.tl
 refine⟨h.mem,λt ht=>(h.th t ht).1,cW,h.lk,λt ht x E I=>?_,λt ht x E I=>?_,λt ht x E I=>?_,h.rm,λt ht=>(h.th t ht).2.1,λn J=>?_⟩
 .obtain⟨i,B⟩:=pB E;exact(h.code ht).b9 B I
 .obtain⟨i,B⟩:=pB E;exact(h.code ht).b2 B (.inr (.inl I))
 .obtain⟨i,B⟩:=pB E
  exact(h.code ht).a1 B cW
 obtain⟨i,B⟩:=pB J
 have O:=(l0.1 B).1
 have:=FA (u:=m.u) (k:=m.u.lines.length) (λj M=>h.ru.ln j M) i n O B
 have:=h.ru.ll
 omega
theorem Zb{B:Mem}{x:aX}(h:ux B):ux (ir B x)/\(ir B x).of=B.of/\(ir B x).cO=B.cO:=by
 unfold ir
 split
 .exact⟨My h,Mj _ _ _,Co _ _ _⟩
 split
 .grind
 exact⟨ajb h,aiN _ _,Ru _ _⟩
theorem aee{i:Int}{x:bF}(h:ux m.mem):ux (dJ m t i x).1.mem/\(dJ m t i x).1.mem.of=m.mem.of/\(dJ m t i x).1.mem.cO=m.mem.cO:=by
 unfold dJ AX Cm sr
 repeat' split
 all_goals first
  | exact⟨h,rfl,rfl⟩
  | exact⟨My h,Mj _ _ _,Co _ _ _⟩
theorem Xw{i:Int}{x:bF}:(dJ m t i x).1.locks.length=m.locks.length/\(dJ m t i x).1.cS=m.cS:=by
 unfold dJ AX Cm sr
 repeat' split
 all_goals first
  | exact⟨rfl,rfl⟩
  | exact⟨DI ..,rfl⟩
theorem Zc{l:List aX}{i:Int}:(kR l i).length<=l.length:=by
 grind[kR]
theorem GM.out{q:dY}(h:GM m)(ht:m.l[q.t.toNat]?=some t):GM (lf m t q):=by
 have B:=Zb (x:=dK t.buf q.i) h.mem
 have E:=ld ht
 refine⟨h.ru,h.uz,B.1,B.2.1.trans h.of,B.2.2.trans h.cO,λt' I=>?_,by show(m.l.set _ _).length<=3;rw[DI];exact h.tl,h.lk,h.rm,h.cr⟩
 rcases EP (show t'∈m.l.set _ _ from I)with h1|h1
 .exact h.th t' h1
 subst h1
 obtain⟨h2,h3,h4⟩:=h.th t E
 have:=Zc (l:=t.buf) (i:=q.i)
 have hb:=h2.bl
 exact⟨⟨h2.code,h2.rg,h2.cn,h2.Sv,by show(kR t.buf q.i).length<=1000;omega⟩,h3,h4⟩
theorem od.kds{c:gp}{a b d:Int}(h:od c a b d):∀x∈c.l,1<=x.kind/\x.kind<=15:=λx B=>by
 obtain⟨i,E⟩:=pB B;exact h.kd E
theorem GM.step{N:Nat}{i:Int}{m':gQ}{ev:bU}(h:GM m)(I:nM N m i=some (m',ev)):GM m':=by
 cases ht:m.l[i.toNat]? with
 | none=>unfold nM at I;rw[ht]at I;cases I
 | some t=>
  have wQ:=ld ht
  have E:=h.th t wQ
  by_cases U:t.fault≠0
  .rw[(zo I ht U).1]
   exact⟨h.ru,h.uz,h.mem,h.of,h.cO,h.th,h.tl,h.lk,h.rm,h.cr⟩
  .obtain⟨x,hn⟩:=zp I ht U
   have hm:=aee (m:=m) (t:=t) (i:=i) (x:=x) h.mem
   have Ln:=Xw (m:=m) (t:=t) (i:=i) (x:=x)
   have M:=N9 (m:=m) (i:=i) (x:=x) E.1 h.rm.2
   have O:∀B:fR,JR B->Vis B->B.code=t.code->GM { (dJ m t i x).1 with l:=(dJ m t i x).1.l.set i.toNat B}:=by
    intro B h1 h2 h3
    have J:=Ue (m:=m) (t:=t) (i:=i) (x:=x)
    refine⟨by rw[J];exact h.ru,by rw[J];exact h.uz,hm.1,by rw[J];exact hm.2.1.trans h.of,by rw[J];exact hm.2.2.trans h.cO,λt' Mz=>?_,?_,?_,?_,?_⟩
    .rw[J0]at Mz
     rw[J]
     rcases EP (show t'∈m.l.set _ _ from Mz)with h4|h4
     .exact h.th t' h4
     .subst h4;exact⟨h1,h2,by rw[h3];exact E.2.2⟩
    .show((dJ m t i x).1.l.set _ _).length<=3
     rw[DI,J0];exact h.tl
    .show((dJ m t i x).1.locks.length:Int)=(dJ m t i x).1.u.locks
     rw[Ln.1,J];exact h.lk
    .show 1<=(dJ m t i x).1.room/\(dJ m t i x).1.room<=16
     rw[BL];exact h.rm
    .show 0<=(dJ m t i x).1.cS
     rw[Ln.2];exact h.cr
   by_cases h0:(dJ m t i x).1.fault=0
   .obtain⟨B,W,Sr,_⟩:=zq I ht U hn h0
    rw[Sr]
    have hc:=EG W
    have V:B.code=t.code:=hc.1.trans (u9 (m:=m) (t:=t) (i:=i) (x:=x))
    refine O B (Oo ?_ W) (Hn (t:={ (dJ m t i x).2.1 with at_:=(dJ m t i x).2.1.at_+1}) ?_ W) V
    .exact⟨M.code,M.rg,M.cn,by show 0<=(dJ m t i x).2.1.at_+1;have:=M.Sv;omega,M.bl⟩
    .show ∀x'∈(dJ m t i x).2.1.code.l,_
     rw[u9];exact(h.code wQ).kds
   .obtain⟨Sr,_⟩:=zs I ht U hn h0
    rw[Sr]
    refine O _ M ?_ (u9 (m:=m) (t:=t) (i:=i) (x:=x))
    intro y hy hfy
    have e:gP (dJ m t i x).2.1=gP t:=by unfold gP;rw[u9,Eu]
    rw[e]at hy
    exact E.2.1 y hy cW
theorem GM.RW{q:dY}{nx:List Int}{N:Nat}(h:GM m)(B:ig m q=some nx)(E:sB N (oR m.u.recover)=some t):GM (j3 (v8 m nx) [t]):=by
 have J:gW m.mem q.cut=some nx:=by unfold ig at B;split at B;exact B;cases B
 have I:=h.ru.rc
 have O:=h.ru.lk
 refine⟨h.ru,h.uz,Za h.mem J,h.of,h.cO,λt' M=>?_,by show [t].length<=3;simp,?_,h.rm,by show 0<=m.cS+1;have:=h.cr;omega⟩
 .obtain rfl:t'=t:=by simpa using(show t'∈[t]from M)
  exact⟨Oo (Hh (I.ok h.uz.rc)) E,Hn (t:=oR m.u.recover) I.kds E,.inr (EG E).1⟩
 show((qU m.u.locks.toNat (-1:Int)).length:Int)=m.u.locks
 rw[xq];omega
theorem GM.do{N:Nat}{q:dY}{m2:gQ}{ev:bU}{e:Int}(h:GM m)(hd:ET N m q=some (m2,ev,e)):GM m2:=by
 cases hc:ig m q with
 | some nx=>obtain⟨t,J,I,_⟩:=sV hd hc;rw[I];exact h.RW hc J
 | none=>
  by_cases B:(cT m).any (jo q)=true
  .by_cases E:q.kind=2
   .obtain⟨_,t,ht⟩:=tZ B
    rw[(rW hd hc B E ht).1];exact h.out ht
   .exact h.step (oS hd hc B E).1
  .rw[(pa hd hc B).1];exact h
end
def GM.new{N:Nat}{u:iz}{room:Int}{mv:List fR}(B:Gv u)(O:UZ u)(hb:sU N u.threads mv)(U:1<=room/\room<=16):GM (j3 (jh u room) mv):=by
 have h1:=B.tl;have h2:=B.lk
 refine⟨B,O,aja B,rfl,rfl,λt ht=>?_,by show mv.length<=3;rw[hb.1];exact h1.2,?_,U,z7 _⟩
 .obtain⟨i,M⟩:=pB (show t∈mv from ht)
  have V:=(l0.1 M).1
  obtain⟨c,hc⟩:∃c,u.threads[i]?=some c:=⟨_,nT (by rw[<- hb.1];exact V)⟩
  have I:=hb.2 i c t hc M
  have J:=ld hc
  have E:=B.th c J
  exact⟨Oo (Hh (E.ok (O.th c J))) I,Hn (t:=oR c) E.kds I,.inl (by rw[(EG I).1];exact J)⟩
 show((qU u.locks.toNat (-1:Int)).length:Int)=u.locks
 rw[xq];omega
def Kd{N:Nat}{u:iz}{mv:List fR}(B:Gv u)(I:UZ u)(hb:sU N u.threads mv):Mk N u mv:=by
 have h1:=B.lk;have h2:=B.st;have h3:=B.ll
 refine⟨hb,λc hc=>(B.th c hc).ok (I.th c hc),B.fl.symm,B.ll,B.st,λk n J E=>?_,cW⟩
 have h4:=Ho B J E
 have M:=(l0.1 E).1
 exact⟨h4.1,cW,cW⟩
def MB.mono{E:Mem}{a b:Nat}(h:MB E a)(B:a<=b):MB E b:=λk=>x5 (h k) B
def MB.write{B:Mem}{c x:Int}{n:Nat}(h:MB B n):MB (gF B c x) (n+1):=by
 intro k
 unfold gF
 split
 .dsimp only
  split
  .unfold rS
   split
   .rw[n0,n6];have:=h (B.of.getD c.toNat 0);omega
   have:=h k;omega
  have:=h k;omega
 have:=h k;omega
theorem MB.out{B:Mem}{c:Int}{n:Nat}(h:MB B n):MB (sR B c) n:=by
 intro k
 unfold sR
 split
 .dsimp only
  unfold rS
  split
  .simp
  exact h k
 exact h k
theorem MB.ir{B:Mem}{x:aX}{n:Nat}(h:MB B n):MB (ir B x) (n+1):=by
 unfold Go.Proofs.YtnjcingfdhjfkaaGreat.ir
 split
 .exact h.write
 split
 .exact h.mono (QU n)
 exact h.out.mono (QU n)
theorem MB.act{m:gQ}{t:fR}{i:Int}{x:bF}{n:Nat}(h:MB m.mem n):MB (dJ m t i x).1.mem (n+1):=by
 unfold dJ AX Cm sr
 repeat' split
 all_goals first
  | exact h.mono (QU n)
  | exact h.write
theorem MB.step{N n:Nat}{m I:gQ}{i:Int}{ev:bU}(h:MB m.mem n)(B:nM N m i=some (I,ev)):MB I.mem (n+1):=by
 cases ht:m.l[i.toNat]? with
 | none=>unfold nM at B;rw[ht]at B;cases B
 | some t=>
  by_cases E:t.fault≠0
  .rw[(zo B ht E).1];exact h.mono (QU n)
  .obtain⟨x,M⟩:=zp B ht E
   by_cases J:(dJ m t i x).1.fault=0
   .obtain⟨U,_,O,_⟩:=zq B ht E M J
    rw[O];exact h.act
   .rw[(zs B ht E M J).1];exact h.act
theorem MB.do{N n:Nat}{m m2:gQ}{q:dY}{ev:bU}{e:Int}(h:MB m.mem n)(hd:ET N m q=some (m2,ev,e)):MB m2.mem (n+1):=by
 cases hc:ig m q with
 | some nx=>obtain⟨t,_,I,_⟩:=sV hd hc;rw[I];intro k;exact o6 _
 | none=>
  by_cases B:(cT m).any (jo q)=true
  .by_cases E:q.kind=2
   .obtain⟨_,t,ht⟩:=tZ B
    rw[(rW hd hc B E ht).1];exact h.ir
   .exact h.step (oS hd hc B E).1
  .rw[(pa hd hc B).1];exact h.mono (QU n)
def MB.new{u:iz}{room:Int}{mv:List fR}:MB (j3 (jh u room) mv).mem 0:=λ_=>r4 _
theorem Ke{N:Nat}{m m2:gQ}{q:dY}{ev:bU}{e:Int}(hd:ET N m q=some (m2,ev,e)):m2.cS<=m.cS+1/\m2.u=m.u/\m2.room=m.room:=by
 cases hc:ig m q with
 | some nx=>obtain⟨t,_,U,_⟩:=sV hd hc;rw[U];exact⟨z7 _,rfl,rfl⟩
 | none=>
  by_cases E:(cT m).any (jo q)=true
  .by_cases J:q.kind=2
   .obtain⟨_,t,ht⟩:=tZ E
    rw[(rW hd hc E J ht).1];exact⟨by show m.cS<=_;omega,rfl,rfl⟩
   .have B:=(oS hd hc E J).1
    cases ht:m.l[q.t.toNat]? with
    | none=>unfold nM at B;rw[ht]at B;cases B
    | some t=>
     by_cases I:t.fault≠0
     .rw[(zo B ht I).1];exact⟨by show m.cS<=_;omega,rfl,rfl⟩
     .obtain⟨x,O⟩:=zp B ht I
      have W:=(Xw (m:=m) (t:=t) (i:=q.t) (x:=x)).2
      by_cases M:(dJ m t q.t x).1.fault=0
      .obtain⟨t2,_,V,_⟩:=zq B ht I O M
       rw[V];exact⟨by show(dJ m t q.t x).1.cS<=_;omega,Ue,BL⟩
      .rw[(zs B ht I O M).1];exact⟨by show(dJ m t q.t x).1.cS<=_;omega,Ue,BL⟩
  .rw[(pa hd hc E).1];exact⟨cW,rfl,rfl⟩
theorem aqQ{α:Type}{g:α->Bool}{l:List α}(h:0<=yO g l):yO g l<l.length:=by
 unfold yO at h |-
 cases hf:l.findIdx? g with
 | none=>grind
 | some k=>
  have:=(List.findIdx?_eq_some_iff_getElem.1 hf).1
  grind
def EH{ns:List ByteArray}{s:ByteArray}(h:0<=eD ns s):eD ns s<ns.length:=aqQ h
def RX{s:ByteArray}(h:mD s=true):s≠⟨#[]⟩:=by
 rintro rfl
 exact absurd h dO
theorem Ex.ayn(ns:List ByteArray)(t:Ex):t.wf->∀n h:Int,0<=n->∃O,(t.steps ns).foldl ZO (some (n,h))=some (n+1,O):=by
 induction t with
 | leaf x=>
  intro E n h J
  have B:kids x.op=0:=E
  have I:eP x.op=0:=by
   unfold kids at B
   unfold eP
   omega
  simp_all[ZO,steps]
 | un x a V=>
  intro E n h J
  have B:kids x.op=1:=E.1
  have I:eP x.op=1:=by
   unfold kids at B
   unfold eP
   omega
  obtain⟨h1,e1⟩:=V E.2 n h J
  simp_all[ZO,steps]
 | bin x a b M U=>
  intro E n h J
  have B:kids x.op=2:=E.1
  have I:eP x.op=2:=by
   unfold kids at B
   unfold eP
   omega
  obtain⟨h1,e1⟩:=M E.2.1 n h J
  obtain⟨h2,W⟩:=U E.2.2 (n+1) h1 cW
  refine⟨max h2 (n+1),?_⟩
  grind[ZO,steps]
def Ot{k:Int}(h:kids k=0\/kids k=1\/kids k=2):1<=k/\k<=15:=by
 unfold kids at h
 omega
theorem Ex.Zd(ns:List ByteArray)(t:Ex):t.wf->∀o∈t.steps ns,∃x∈t.flat,o=⟨x.op,numOf ns x⟩/\1<=x.op/\x.op<=15:=by
 induction t with
 | leaf x=>intro E o B;exact⟨x,by simp[Ex.flat],by simpa[Ex.steps]using B,Ot (.inl E)⟩
 | un x a M=>
  intro E o B
  have B:o∈a.steps ns++[⟨x.op,numOf ns x⟩]:=B
  rw[r3]at B
  rcases B with B|B
  .obtain⟨y,h1,h2⟩:=M E.2 o B;exact⟨y,by simp[Ex.flat,h1],h2⟩
  .exact⟨x,by simp[Ex.flat],eS,Ot (.inr (.inl E.1))⟩
 | bin x a b I J=>
  intro E o B
  have B:o∈a.steps ns++b.steps ns++[⟨x.op,numOf ns x⟩]:=B
  rw[r3,r3]at B
  rcases B with(B|B)|B
  .obtain⟨y,h1,h2⟩:=I E.2.1 o B;exact⟨y,by simp[Ex.flat,h1],h2⟩
  .obtain⟨y,h1,h2⟩:=J E.2.2 o B;exact⟨y,by simp[Ex.flat,h1],h2⟩
  .exact⟨x,by simp[Ex.flat],eS,Ot (.inr (.inr E.1))⟩
def A6{ns:List ByteArray}{l:List dP}{many:Int}(J:lX l=true)(M:zD l ns=false)(hm:many=ns.length):eJ (iN ns l) many=true/\(iN ns l).length<=40:=by
 have hr0:=J
 unfold lX at J
 simp only[oG,uw,decide_eq_true_eq,Av]at J
 obtain⟨⟨⟨h1,h2⟩,h3⟩,h4⟩:=J
 obtain⟨t,I⟩:=VZ.1 h2
 obtain⟨V,W⟩:=CG I
 have hv0:=M
 unfold zD at M
 have he:Cd ns l=0:=by grind[Cd]
 have hl:iN ns l=t.steps ns:=by unfold iN;rw[fV he];unfold Tp;rw[I]
 rw[hl]
 have hlen:(t.steps ns).length<=40:=by rw[Ex.By,<- Ex.dI,<- W];exact h1
 obtain⟨h',e'⟩:=t.ayn ns V 0 0 (z7 _)
 have e2:ht (t.steps ns)=some (1,h'):=by unfold ht;grind
 refine⟨?_,hlen⟩
 unfold eJ htN
 rw[e2]
 simp only[Option.isSome_some,decide_true,Bool.and_true,oG,decide_eq_true_eq,uw,Av]
 refine⟨hlen,λo ho=>?_⟩
 obtain⟨x,O,rfl,Z5,xk⟩:=t.Zd ns V o ho
 rw[<- W]at O
 have B:=h3 x O
 unfold sH at B
 simp only[zY,decide_eq_true_eq,not_or,oG,uw,not_and,Bool.not_eq_false]at B
 obtain⟨⟨⟨⟨g1,g2⟩,g3⟩,g4⟩,g5⟩:=B
 have hn:Ex.numOf ns x=if x.op=2 then eD ns x.name else x.n:=rfl
 unfold kq
 simp only[decide_eq_true_eq]
 rintro(⟨E,U⟩|⟨E,U⟩|⟨E,U,q3⟩)
 .omega
 .have E:x.op=2:=E
  rw[hn,fV E]at U
  rw[Av]at M
  have:=M x O
  simp only[oG,decide_eq_true_eq,not_and]at this
  have h5:=this E
  have h6:=EH (ns:=ns) (s:=x.name) cW
  omega
 omega
def ayo{k:Int}(h:1<=k/\k<=14):fS (nR k) 101=decide (k=1\/k=3\/k=4\/k=11\/k=14)/\fS (nR k) 102=decide (k=4)/\fS (nR k) 114=decide (k=1\/k=2\/k=4)/\fS (nR k) 110=decide (k=2\/k=3\/k=4\/k=5\/k=6\/k=9\/k=10):=by
 obtain rfl|rfl|rfl|rfl|rfl|rfl|rfl|rfl|rfl|rfl|rfl|rfl|rfl|rfl:k=1\/k=2\/k=3\/k=4\/k=5\/k=6\/k=7\/k=8\/k=9\/k=10\/k=11\/k=12\/k=13\/k=14:=cW
 all_goals decide
structure ayp(x:cR):Prop where
 kind:1<=x.kind/\x.kind<=14
 e1:x.kind=1\/x.kind=3\/x.kind=4\/x.kind=11\/x.kind=14->lX x.e=true
 e0:¬ (x.kind=1\/x.kind=3\/x.kind=4\/x.kind=11\/x.kind=14)->x.e=[]
 f1:x.kind=4->lX x.f=true
 f0:¬ x.kind=4->x.f=[]
 r1:x.kind=1\/x.kind=2\/x.kind=4->mD x.jJ=true
 r0:¬ (x.kind=1\/x.kind=2\/x.kind=4)->x.jJ=⟨#[]⟩
def aGT{x:cR}(h:vB x=true):ayp x:=by
 have h:=Fk h
 obtain⟨E,M,J,I⟩:=ayo h.kind
 refine⟨h.kind,λB=>?_,λB=>?_,λB=>?_,λB=>?_,λB=>?_,λB=>?_⟩
 .rcases h.e with q|q
  .exact q.2
  grind
 .rcases h.e with q|q
  .grind
  grind
 .rcases h.f with q|q
  .exact q.2
  grind
 .rcases h.f with q|q
  .grind
  grind
 .rcases h.jJ with q|q
  .exact q.2
  grind
 rcases h.jJ with q|q
 .grind
 grind
theorem MC(ns:List ByteArray):iN ns []=[]:=by
 unfold iN;split
 .rfl
 rfl
theorem Hq:∀(ls:List (List dW)) (i a:Int),0<=a->(∀l∈ls,l≠[])->i<=kx ls i a/\(∀b,a<=b->kx ls i a<=kx ls i b)/\(kx ls i (a+1)=kx ls i a\/kx ls i (a+1)=kx ls i a+1)
 | [],i,a,I,_=>⟨by unfold kx;omega,λb hb=>by unfold kx;omega,by unfold kx;omega⟩
 | l::r,i,a,I,hl=>by
  have J:0<l.length:=Sq.2 (hl l (uc ..))
  have B:=λl E=>hl l (s8 _ E)
  unfold kx
  by_cases h1:a<l.length
  .rw[fV h1]
   refine⟨z7 _,λb hb=>?_,?_⟩
   .split
    .omega
    .have:=(Hq r (i+1) (b-l.length) cW B).1;omega
   .split
    .omega
    .have e:a+1-(l.length:Int)=0:=cW
     rw[e]
     cases r with
     | nil=>unfold kx;omega
     | cons l2 M=>
      simp_all[kx]
  .rw[fU h1]
   obtain⟨O,V,U⟩:=Hq r (i+1) (a-l.length) cW B
   grind
theorem Hr:∀(ls:List (List dW)) (i a:Int),(ls.flatten.length:Int)<=a->kx ls i a=i+ls.length+(a-ls.flatten.length)
 | [],i,a,_=>by unfold kx;simp
 | l::r,i,a,ha=>by
  have e:(((l::r).flatten).length:Int)=l.length+r.flatten.length:=eU
  unfold kx
  rw[fU cW,Hr r (i+1) (a-l.length) cW,e]
  grind
theorem Ou:∀(ls:List (List dW)) (i a:Int),0<=a->a<ls.flatten.length->kx ls i a<i+ls.length
 | [],i,a,E,B=>by grind
 | l::r,i,a,E,B=>by
  have e:(((l::r).flatten).length:Int)=l.length+r.flatten.length:=eU
  unfold kx
  split
  .grind
  .have:=Ou r (i+1) (a-l.length) cW cW
   grind
section
variable {p:dM}
theorem FQ(p:dM):(fL p).lines.length=(jB p).length:=by show((rv _).map _).length=_;rw[qE,ND]
theorem EI{i:Nat}(h:i<(jB p).length):(fL p).lines[i]?=some (n8 p i):=by
 show((rv _).map _)[i]?=_
 rw[uO,List.getElem?_range h];rfl
theorem Fq.pf(h:Fq p):PF p:=AG h.right
theorem Fq.sz(h:Fq p):p.lines.length<=4/\(∀l∈p.lines,l.length<=4)/\p.mu.length<=4/\p.locks.length<=2/\1<=p.threads.length/\p.threads.length<=3/\p.cD.length<=4/\∀t∈kH p,t.aJ.length<=4:=by
 have hb:=h.big
 unfold D2 at hb
 simp only[tc,decide_eq_false_iff_not,Av,decide_eq_true_eq]at hb
 grind
theorem RY:∀{ls:List (List dW)},(∀l∈ls,l.length<=4)->ls.flatten.length<=4*ls.length
 | [],_=>by simp
 | l::r,h=>by
  have h1:=h l (uc ..)
  have h2:=RY (ls:=r) λl B=>h l (s8 _ B)
  grind
theorem Fq.jB(h:Fq p):(jB p).length<=20:=by
 obtain⟨h1,h2,h3,_⟩:=h.sz
 have:=RY h2
 unfold Go.Proofs.YtnjcingfdhjfkaaGreat.jB
 rw[n0];omega
theorem EJ(p:dM):0<=fw p/\fw p<=(jB p).length:=by grind[fw,jB]
theorem yx{c:Int}(h:0<=c/\c<(jB p).length):n8 p c=kx p.lines 0 c:=by unfold n8;omega
theorem Ze(h:Fq p){c:Int}(hc:0<=c/\c<fw p):0<=n8 p c/\n8 p c<ic (fL p):=by
 have M:=EJ p
 have B:=λl J=>(h.pf.lines l J).1
 obtain⟨E,I,_⟩:=Hq p.lines 0 c hc.1 B
 rw[yx cW]
 refine⟨E,?_⟩
 have O:=I (fw p-1) cW
 have e:ic (fL p)=kx p.lines 0 (fw p-1)+1:=by
  unfold ic
  rw[FQ]
  show(if 1<=fw p/\fw p<=((Go.Proofs.YtnjcingfdhjfkaaGreat.jB p).length:Int)then(fL p).lines.getD (fw p-1).toNat 0+1 else 0)=_
  rw[fV cW,oi,EI cW]
  show n8 p ((fw p-1).toNat:Nat)+1=_
  rw[show(((fw p-1).toNat:Nat):Int)=fw p-1 from cW,yx cW]
 omega
theorem UR(h:Fq p){i:Nat}(O:i<(jB p).length):kF (fL p) i=false:=by
 have M:=λl J=>(h.pf.lines l J).1
 have hs:=EJ p
 unfold kF
 rw[EI O]
 dsimp only
 by_cases E:i=0
 .subst E
  have e:n8 p (0:Nat)=0:=by
   rw[yx cW]
   cases J:p.lines with
   | nil=>unfold kx;rfl
   | cons l r=>
    have:=Sq.2 (M l (by rw[J];exact uc ..))
    unfold kx;rw[fV cW]
  rw[e]
  have I:kQ (fL p).lines 0=0:=rfl
  rw[I];rfl
 have I:kQ (fL p).lines i=n8 p ((i-1:Nat):Int)+1:=by
  unfold kQ;rw[fU E,oi,EI cW];rfl
 rw[I,yx cW,yx cW]
 obtain⟨_,_,B⟩:=Hq p.lines 0 ((i-1:Nat):Int) cW M
 rw[show((i-1:Nat):Int)+1=(i:Int)from cW]at B
 by_cases gj:(i:Int)<fw p
 .rcases B with B|B
  .rw[B]
   have U:decide ((fL p).stays<=(i:Int))=false:=gD (by show ¬ fw p<=_;omega)
   rw[U,gD E]
   simp
  rw[B];simp
 have hlen:(p.lines.flatten.length:Int)=fw p:=rfl
 by_cases Qy:((i-1:Nat):Int)<fw p
 .have Yw:(i:Int)=fw p:=cW
  have V:=Hr p.lines 0 i cW
  have W:=Ou p.lines 0 ((i-1:Nat):Int) cW cW
  have:kx p.lines 0 i=kx p.lines 0 ((i-1:Nat):Int)+1:=cW
  rw[this];simp
 have V:=Hr p.lines 0 i cW
 have W:=Hr p.lines 0 ((i-1:Nat):Int) cW
 have:kx p.lines 0 i=kx p.lines 0 ((i-1:Nat):Int)+1:=cW
 rw[this];simp
end
def US{ns:List ByteArray}(h:∀s∈ns,mD s=true):eD ns ⟨#[]⟩ = -1:=mU λy B=>gD (RX (h y B))
structure StK(p:dM)(rs:List ByteArray)(x:cR):Prop where
 fit:ayp x
 rg:∀s∈rs,mD s=true
 nb:rK p rs x=false
section
variable {p:dM}{rs:List ByteArray}{x:cR}{c:gp}
theorem ayq(h:StK p rs x)(hc:c.aJ=rs.length)(B:x.kind=1\/x.kind=3\/x.kind=4\/x.kind=11\/x.kind=14):eJ (iN rs x.e) c.aJ=true:=by
 have hb:=h.nb;unfold rK at hb;simp only[tc]at hb
 exact(A6 (h.fit.e1 B) hb.1.2 hc).1
theorem aGU(h:StK p rs x)(hc:c.aJ=rs.length)(B:x.kind=4):eJ (iN rs x.f) c.aJ=true:=by
 have hb:=h.nb;unfold rK at hb;simp only[tc]at hb
 exact(A6 (h.fit.f1 B) hb.2 hc).1
theorem ajc(hp:Fq p)(h:StK p rs x)(hc:c.aJ=rs.length)(hk:¬ x.kind=11)(xk:¬ x.kind=12)(hk3:¬ x.kind=13) :
  vO (nS p rs x) c (jB p).length (ic (fL p)) p.locks.length=true/\(nS p rs x).to=0/\¬ (nS p rs x).kind=11/\¬ (nS p rs x).kind=12/\¬ (nS p rs x).kind=13/\¬ (nS p rs x).kind=14:=by
 have hkd:=h.fit.kind
 have E:(nS p rs x).kind=if x.kind=14 then 15 else x.kind:=rfl
 have B:¬ (nS p rs x).kind=11/\¬ (nS p rs x).kind=12/\¬ (nS p rs x).kind=13/\¬ (nS p rs x).kind=14/\1<=(nS p rs x).kind/\(nS p rs x).kind<=15:=by rw[E];split<;>omega
 refine⟨?_,rfl,B.1,B.2.1,B.2.2.1,B.2.2.2.1⟩
 have hb:=h.nb;unfold rK at hb
 simp only[tc,M8,decide_eq_false_iff_not,not_or,FE]at hb
 obtain⟨⟨⟨⟨⟨b1,b2⟩,b3⟩,b4⟩,b5⟩,b6⟩:=hb
 have hE:(if qS (nS p rs x).kind=true then eJ (nS p rs x).e c.aJ else !decide (0<((nS p rs x).e.length:Int)))=true:=by
  by_cases I:x.kind=1\/x.kind=3\/x.kind=4\/x.kind=11\/x.kind=14
  .have J:qS (nS p rs x).kind=true:=by
    unfold qS;rw[E]
    split
    .rfl
    .simp only[zY,decide_eq_true_eq];omega
   rw[fV J];exact ayq h hc I
  .have J:¬ qS (nS p rs x).kind=true:=by
    unfold qS;rw[E,fU cW]
    simp only[zY,decide_eq_true_eq];omega
   rw[fU J]
   have:(nS p rs x).e=[]:=by show iN rs x.e=[];rw[h.fit.e0 I,MC]
   rw[this];rfl
 have hF:(if (nS p rs x).kind=4 then eJ (nS p rs x).f c.aJ else !decide (0<((nS p rs x).f.length:Int)))=true:=by
  by_cases I:x.kind=4
  .rw[fV (by rw[E];split<;>omega)];exact aGU h hc I
  .rw[fU (by rw[E];split<;>omega)]
   have:(nS p rs x).f=[]:=by show iN rs x.f=[];rw[h.fit.f0 I,MC]
   rw[this];rfl
 have hA:aM (nS p rs x) c.aJ c.counts=true:=by
  unfold aM
  rw[fU cW]
  have V:(nS p rs x).a=max 0 (eD rs x.jJ):=rfl
  by_cases I:x.kind=1\/x.kind=2\/x.kind=4
  .rw[fV (by rw[E];split<;>omega),V]
   have J:=RX (h.fit.r1 I)
   have:¬ eD rs x.jJ<0:=by
    rcases b1 with b1|b1
    .exact absurd b1 J
    .exact b1
   have h2:=EH (ns:=rs) (s:=x.jJ) cW
   unfold KB;simp only[oG,decide_eq_true_eq];omega
  .rw[fU (by rw[E];split<;>omega),V,h.fit.r0 I,US h.rg];rfl
 have hB:bM (nS p rs x) (jB p).length (ic (fL p)) p.locks.length=true:=by
  unfold bM
  have M:(nS p rs x).b=if x.kind=2\/x.kind=3\/x.kind=4 then eD (gv p) x.name else if x.kind=5\/x.kind=6 then n8 p (eD (gv p) x.name)else if x.kind=9\/x.kind=10 then eD (jZ p) x.name else 0:=rfl
  have GG:(gv p).length=(jB p).length:=by unfold gv;rw[qE]
  have IG:(jZ p).length=p.locks.length:=by unfold jZ;rw[qE]
  by_cases O:x.kind=2\/x.kind=3\/x.kind=4
  .rw[fV (by rw[E];split<;>omega),M,fV O]
   have h1:¬ eD (gv p) x.name<0:=by
    rcases b2 with b2|b2
    .omega
    .exact b2
   have h2:=EH (ns:=gv p) (s:=x.name) cW
   unfold KB;simp only[oG,decide_eq_true_eq];omega
  .rw[fU (by rw[E];split<;>omega)]
   by_cases U:x.kind=5\/x.kind=6
   .rw[fV (by rw[E];split<;>omega),M,fU O,fV U]
    have h1:¬ eD (gv p) x.name<0/\¬ fw p<=eD (gv p) x.name:=by
     rcases b3 with b3|b3
     .omega
     .exact b3
    have:=Ze hp (c:=eD (gv p) x.name) cW
    unfold KB;simp only[oG,decide_eq_true_eq];omega
   .rw[fU (by rw[E];split<;>omega)]
    by_cases W:x.kind=9\/x.kind=10
    .rw[fV (by rw[E];split<;>omega),M,fU O,fU U,fV W]
     have h1:¬ eD (jZ p) x.name<0:=by
      rcases b4 with b4|b4
      .omega
      .exact b4
     have h2:=EH (ns:=jZ p) (s:=x.name) cW
     unfold KB;simp only[oG,decide_eq_true_eq];omega
    .rw[fU (by rw[E];split<;>omega),fU B.2.2.1,M,fU O,fU U,fU W];rfl
 unfold vO CQ
 rw[hE,hF,hA,hB,gq B.2.2.2.2.1,gq B.2.2.2.2.2];rfl
end
structure aeg(c:gp)(cells lines locks:Int)(L:List bF)(i:Nat)(x:bF):Prop where
 fld:vO x c cells lines locks=true
 to:Gj L i x=true
 nest:x.kind=14->∀(k:Nat) (y:bF),x.to<=k->k<i->L[k]?=some y->y.kind=14->x.to<=y.to
 b13:x.kind=14->∃y,L[(x.to-1).toNat]?=some y/\y.kind=13
def Emb(L:List bF)(n:Nat)(l:List bF):Prop:=∀(k:Nat) (y:bF),l[k]?=some y->L[n+k]?=some y
def ud(c:gp)(cells lines locks:Int)(L:List bF)(n:Nat)(l:List bF):Prop:=∀(k:Nat) (y:bF),l[k]?=some y->aeg c cells lines locks L (n+k) y
section
variable {L l1 l2:List bF}{n:Nat}{c:gp}{cells lines locks:Int}
theorem Emb.left(h:Emb L n (l1++l2)):Emb L n l1:=λk y B=>h k y (by rw[u2 (l0.1 B).1];exact B)
theorem Emb.right(h:Emb L n (l1++l2)):Emb L (n+l1.length) l2:=λk y B=>by
 have:=h (l1.length+k) y (by rw[Bu cW,Nat.add_sub_cancel_left];exact B)
 rw[Nat.add_assoc];exact this
theorem Emb.one{y:bF}(h:Emb L n [y]):L[n]?=some y:=h 0 y rfl
theorem ud.app(h1:ud c cells lines locks L n l1)(h2:ud c cells lines locks L (n+l1.length) l2):ud c cells lines locks L n (l1++l2):=λk y B=>by
 rcases Nat.lt_or_ge k l1.length with h|h
 .rw[u2 h]at B;exact h1 k y B
 .rw[Bu h]at B
  have:=h2 (k-l1.length) y B
  rwa [show n+l1.length+(k-l1.length)=n+k from cW]at this
theorem ud.nil:ud c cells lines locks L n []:=λk y B=>by simp at B
theorem ud.one{y:bF}(h:aeg c cells lines locks L n y):ud c cells lines locks L n [y]:=λk z B=>by
 cases k with
 | zero=>simp at B;subst B;exact h
 | succ k=>simp at B
end
theorem Xx(p:dM)(rs:List ByteArray)(t:Bk):∀at_ lp out,∀y∈fY p rs t at_ lp out,(y.kind=13->lp<=y.a)/\(y.kind=14->at_+1<=y.to):=by
 induction t with
 | nil=>intro at_ lp out y B;cases B
 | cons x a b r E M I=>
  intro at_ lp out y B
  rw[yZ,r3]at B
  have J:=kX a
  rcases B with B|B
  .unfold KY at B
   split at B
   .have ht:at_+1<=vI x a at_:=by unfold vI;split<;>omega
    rw[r3,r3,r3]at B
    rcases B with((B|B)|B)|B
    .rw[s7]at B;subst B;exact⟨λh=>by simp at h,λh=>by simp at h⟩
    .have:=E _ _ _ y B;exact⟨this.1,λh=>by have:=this.2 h;omega⟩
    .split at B
     .rw[s7]at B;subst B;exact⟨λh=>by simp at h,λh=>by simp at h⟩
     .cases B
    .have:=M _ _ _ y B;exact⟨this.1,λh=>by have:=this.2 h;omega⟩
   .split at B
    .rw[r3,r3]at B
     rcases B with(B|B)|B
     .rw[s7]at B;subst B;exact⟨λ_=>z7 _,λh=>by simp at h⟩
     .have:=E _ _ _ y B;exact⟨λh=>by have:=this.1 h;omega,λh=>by have:=this.2 h;omega⟩
     .rw[s7]at B;subst B;exact⟨λh=>by simp at h,λ_=>z7 _⟩
    .split at B
     .rw[s7]at B;subst B;exact⟨λh=>by simp at h,λh=>by simp at h⟩
     .rename_i h1 h2 h3
      rw[s7]at B;subst B
      have e:(nS p rs x).kind=if x.kind=14 then 15 else x.kind:=rfl
      refine⟨λh=>?_,λh=>?_⟩
      .rw[e]at h;split at h<;>omega
      .rw[e]at h;split at h<;>omega
  .have:=I _ _ _ y B
   exact⟨this.1,λh=>by have:=this.2 h;omega⟩
theorem Kf{b:Bk}(h:(b.len:Int)<=0):b=.nil:=by
 cases b with
 | nil=>rfl
 | cons x a b r=>exfalso;unfold Bk.len at h;omega
theorem Xy{x:bF}{r:Int}(E:qS x.kind=false)(h1:x.e=[])(B:¬ x.kind=4)(h2:x.f=[]):CQ x r=true:=by
 unfold CQ;rw[fU (by rw[E];decide),fU B,h1,h2];rfl
section
variable {p:dM}{rs:List ByteArray}{c:gp}
theorem ajd(hp:Fq p)(hc:c.aJ=rs.length)(L:List bF)(t:Bk):∀(n:Nat) (lp out loops:Int),Emb L n (fY p rs t n lp out)->n+cK t<=(L.length:Int)->t.ok loops=true->t.str->mX t->0<=loops->
  (loops≠0->n+cK t<=out/\out<=L.length)->0<=lp->lp+kY t<=c.counts->(∀x∈t.flat,StK p rs x)->ud c (jB p).length (ic (fL p)) p.locks.length L n (fY p rs t n lp out):=by
 induction t with
 | nil=>intros;exact ud.nil
 | cons x a b r Az CF NF=>
  intro n lp out loops hE hL mL NH OI hlo J RG afy gj
  have hsa:=kX a;have hsb:=kX b;have hsr:=kX r
  have hda:=xo a;have hdb:=xo b;have hdr:=xo r
  obtain⟨Ys,hs2,_,_,UT,aei,aej⟩:=NH
  have Ug:=mL
  unfold Bk.ok at Ug
  simp only[oG]at Ug
  obtain⟨⟨⟨ho1,ZM⟩,ho3⟩,ho4⟩:=Ug
  unfold Bk.Db at ho1
  rw[decide_eq_true_eq]at ho1
  have hx:StK p rs x:=gj x (by simp[Bk.flat])
  have I:cK (.cons x a b r)=(if x.kind=12 then 2+cK a else if x.kind=11 then(if 0<x.ib then 1+cK a+cK b+1 else 1+cK a+cK b)else 1)+cK r:=rfl
  have hdp:kY (.cons x a b r)=max (if x.kind=12 then max (kY a) (kY b)+1 else max (kY a) (kY b)) (kY r):=rfl
  rw[yZ]at hE |-
  have V:=NJ p rs x a b r n lp out
  have hER:=hE.right
  have B:=hE.left
  generalize hH:KY p rs x a b n lp out=H at *
  refine ud.app ?_ ?_
  .rw[<- hH]at B V |-
   unfold KY at B V |-
   by_cases zP:x.kind=11
   .rw[fV zP]at B V |-
    rw[fU cW,fV zP]at I
    rw[fU cW]at hdp
    have uh:Bk.Gb x loops=loops:=by unfold Bk.Gb;rw[fU cW]
    rw[uh]at ZM ho3
    have hA1:=B.left.left.left
    have M:=B.left.left.right
    have hA3:=B.left.right
    have U:=B.right
    have Sw:=j0 p rs a (n+1) lp out
    have Hs:vI x a n=if 0<x.ib then(n:Int)+1+cK a+1 else(n:Int)+1+cK a:=rfl
    refine ud.app (ud.app (ud.app (ud.one ?_) ?_) ?_) ?_
    .refine⟨?_,?_,λh=>by simp at h,λh=>by simp at h⟩
     .unfold vO CQ aM bM qS
      simp only[ayq hx hc (.inr (.inr (.inr (.inl zP))))]
      rfl
     .unfold Gj;rw[fV (.inr rfl)]
      show(decide ((n:Int)<vI x a n)&&decide (vI x a n<=L.length))=true
      rw[oG,decide_eq_true_eq,decide_eq_true_eq,Hs]
      split<;>(rename_i he;first|rw[fV he]at I|rw[fU he]at I)<;>omega
    .have W:Emb L (n+1) (fY p rs a ((n+1:Nat):Int) lp out):=M
     exact Az (n+1) lp out loops W (by split at I<;>omega) ZM UT OI.a hlo (λhl=>by have:=J hl;refine⟨?_,this.2⟩;split at I<;>omega) RG cW λy E=>gj y (by simp[Bk.flat,E])
    .split
     .rename_i he
      refine ud.one ⟨?_,?_,λh=>by simp at h,λh=>by simp at h⟩
      .rfl
      .unfold Gj;rw[fV (.inl rfl)]
       rw[fV he]at I Hs
       rw[oG,decide_eq_true_eq,decide_eq_true_eq]
       show((n+([(⟨12,0,0,iN rs x.e,[],vI x a n⟩:bF)]++fY p rs a (n+1) lp out).length:Nat):Int)<vI x a n+cK b/\vI x a n+cK b<=L.length
       rw[n0,n6,Hs]
       omega
     .exact ud.nil
    .by_cases he:0<x.ib
     .rw[fV he]at I Hs U |-
      have O:((n+([(⟨12,0,0,iN rs x.e,[],vI x a n⟩:bF)]++fY p rs a (n+1) lp out++[(⟨11,0,0,[],[],vI x a n+cK b⟩:bF)]).length:Nat):Int)=vI x a n:=by
       simp only[n0,n6];rw[Hs];omega
      generalize n+([(⟨12,0,0,iN rs x.e,[],vI x a n⟩:bF)]++fY p rs a (n+1) lp out++[(⟨11,0,0,[],[],vI x a n+cK b⟩:bF)]).length=m at U O |-
      rw[<- O]at U |-
      exact CF _ lp out loops U (by rw[O,Hs];omega) ho3 aei OI.b hlo (λhl=>by have:=J hl;rw[O,Hs];exact⟨cW,this.2⟩) RG cW λy E=>gj y (by simp[Bk.flat,E])
     .have Hf:=Kf (b:=b) cW
      subst Hf;exact ud.nil
   .rw[fU zP]at B V |-
    by_cases B0:x.kind=12
    .rw[fV B0]at B V |-
     rw[fV B0]at I hdp
     have uh:Bk.Gb x loops=loops+1:=by unfold Bk.Gb;rw[fV B0]
     rw[uh]at ZM
     have hA1:=B.left.left
     have M:=B.left.right
     have hA3:=B.right
     have Sw:=j0 p rs a (n+1) (lp+1) (n+2+cK a)
     have hxn:=OI.x B0
     have OS:=hA1.one
     refine ud.app (ud.app (ud.one ?_) ?_) (ud.one ?_)
     .refine⟨?_,?_,λh=>by simp at h,λh=>by simp at h⟩
      .unfold vO
       rw[Xy rfl rfl (by decide:¬ (13:Int)=4) rfl]
       have e1:aM ⟨13,lp,x.n,[],[],0⟩ c.aJ c.counts=true:=by unfold aM;rw[fV (.inl rfl)];unfold KB;rw[oG,decide_eq_true_eq,decide_eq_true_eq];exact⟨RG,by show lp<c.counts;omega⟩
       have e2:bM ⟨13,lp,x.n,[],[],0⟩ (jB p).length (ic (fL p)) p.locks.length=true:=by
        unfold bM;show(decide (1<=x.n)&&decide (x.n<=8))=true
        rw[oG,decide_eq_true_eq,decide_eq_true_eq];exact hxn
       rw[e1,e2];rfl
      .rfl
     .have W:Emb L (n+1) (fY p rs a ((n+1:Nat):Int) (lp+1) (n+2+cK a)):=M
      exact Az (n+1) (lp+1) (n+2+cK a) (loops+1) W cW ZM UT OI.a cW (λ_=>⟨cW,cW⟩) cW cW λy E=>gj y (by simp[Bk.flat,E])
     .have GB:n+([(⟨13,lp,x.n,[],[],0⟩:bF)]++fY p rs a (n+1) (lp+1) (n+2+cK a)).length=n+1+(fY p rs a (n+1) (lp+1) (n+2+cK a)).length:=by
       rw[n0,n6];omega
      rw[GB]
      have aml:∀(k:Nat) (y:bF),n+1<=k->k<n+1+(fY p rs a (n+1) (lp+1) (n+2+cK a)).length->L[k]?=some y->y∈fY p rs a (n+1) (lp+1) (n+2+cK a):=by
       intro k y h1 h2 E
       obtain⟨z,hz⟩:=gx (fY p rs a (n+1) (lp+1) (n+2+cK a)) (i:=k-(n+1)) cW
       have h3:L[n+1+(k-(n+1))]?=some z:=M _ z hz
       rw[show n+1+(k-(n+1))=k from cW,E]at h3
       obtain rfl:=qa.inj h3
       exact ld hz
      refine⟨?_,?_,λ_ k y h1 h2 E hk=>?_,λ_=>?_⟩
      .unfold vO
       rw[Xy rfl rfl (by decide:¬ (14:Int)=4) rfl]
       have e1:aM ⟨14,lp,0,[],[],n+1⟩ c.aJ c.counts=true:=by unfold aM;rw[fV (.inr rfl)];unfold KB;rw[oG,decide_eq_true_eq,decide_eq_true_eq];exact⟨RG,by show lp<c.counts;omega⟩
       have e2:bM ⟨14,lp,0,[],[],n+1⟩ (jB p).length (ic (fL p)) p.locks.length=true:=rfl
       rw[e1,e2];rfl
      .unfold Gj;rw[fU (by decide:¬ ((14:Int)=11\/(14:Int)=12)),fV rfl]
       unfold Ch
       rw[oG]
       refine⟨?_,?_⟩
       .rw[NS (y:=⟨13,lp,x.n,[],[],0⟩) (by show 1<=(n:Int)+1;omega) (by show(n:Int)+1<=_;omega) (by show L[((n:Int)+1-1).toNat]?=_;rw[show((n:Int)+1-1).toNat=n from cW];exact OS)]
        unfold oc;simp
       .rw[uw,Av]
        intro y E
        obtain⟨k,hk⟩:=pB E
        rw[List.getElem?_drop,G5]at hk
        split at hk
        .have h5:=aml _ y (by show n+1<=((n:Int)+1).toNat+k;omega) (by assumption) hk
         have h6:=(Xx p rs a _ _ _ y h5).1
         unfold oc
         rw[oG,decide_eq_true_eq,decide_eq_true_eq]
         rintro⟨q1,q2⟩
         have:=h6 q1
         have q2:y.a=lp:=q2
         omega
        .cases hk
      .have h1:(n:Int)+1<=k:=h1
       have h5:=aml k y cW h2 E
       have:=(Xx p rs a _ _ _ y h5).2 hk
       show(n:Int)+1<=y.to
       omega
      .exact⟨_,by show L[((n:Int)+1-1).toNat]?=_;rw[show((n:Int)+1-1).toNat=n from cW];exact OS,rfl⟩
    .rw[fU B0]at B V |-
     rw[fU B0,fU zP]at I
     by_cases OS:x.kind=13
     .rw[fV OS]at B V |-
      have hl0:loops≠0:=cW
      have hou:=J hl0
      refine ud.one ⟨rfl,?_,λh=>by simp at h,λh=>by simp at h⟩
      unfold Gj;rw[fV (.inl rfl)]
      rw[oG,decide_eq_true_eq,decide_eq_true_eq]
      show(n:Int)<out/\out<=L.length
      omega
     .rw[fU OS]at B V |-
      obtain⟨g1,g2,g3,g4,g5,g6⟩:=ajc (c:=c) hp hx hc zP B0 OS
      refine ud.one ⟨g1,?_,λh=>absurd h g6,λh=>absurd h g6⟩
      unfold Gj;rw[fU cW,fU g6,g2];rfl
  .have hn2:((n+H.length:Nat):Int)=n+H.length:=cW
   rw[<- hn2]at hER |-
   exact NF _ lp out loops hER cW ho4 aej OI.r hlo (λhl=>by have:=J hl;exact⟨cW,this.2⟩) RG cW λy E=>gj y (by simp[Bk.flat,E])
end
theorem ajf(t:Bk):∀n:Int,t.ok n=true->t.str->kY t<=t.depth:=by
 induction t with
 | nil=>intro n _ _;exact z7 _
 | cons x a b r Az CF NF=>
  intro n M NH
  obtain⟨Ys,hs2,_,_,UT,I,J⟩:=NH
  unfold Bk.ok at M
  simp only[oG]at M
  obtain⟨⟨⟨B,W⟩,O⟩,E⟩:=M
  unfold Bk.Db at B
  rw[decide_eq_true_eq]at B
  have h1:=Az _ W UT
  have h2:=CF _ O I
  have h3:=NF _ E J
  have hd:=Bk.vA a
  have WZ:=Bk.vA b
  have hd3:=Bk.vA r
  have e:kY (.cons x a b r)=max (if x.kind=12 then max (kY a) (kY b)+1 else max (kY a) (kY b)) (kY r):=rfl
  have e2:(Bk.cons x a b r).depth=if Bk.IN x then max (max (1+a.depth) (1+b.depth)) r.depth else r.depth:=rfl
  rw[e,e2]
  by_cases U:x.kind=11\/x.kind=12
  .have:Bk.IN x=true:=gq U
   rw[fV this]
   split<;>omega
  .have:Bk.IN x=false:=gD U
   rw[fU (by omega:¬ x.kind=12),fU (show ¬ Bk.IN x=true by rw[this];decide)]
   have V:=Kf (b:=a) cW
   have hb:=Kf (b:=b) cW
   subst V hb
   have:kY .nil=0:=rfl
   omega
section
variable {p:dM}
theorem Fq.stk(h:Fq p){t:eH}(ht:t∈kH p):∀x∈t.body,StK p t.aJ x:=by
 intro x B
 obtain⟨_,h2,_⟩:=qQ (h.pf.mv ht).2.1
 refine⟨aGT (h2 x B),(h.pf.mv ht).2.2,?_⟩
 have:=h.names t ht x B
 simpa using this
theorem RZ(h:Fq p){t:eH}(ht:t∈kH p):kP (oH p t) (jB p).length (ic (fL p)) p.locks.length=true/\CZ (oH p t):=by
 obtain⟨W,_,b,V,I,U,hb4⟩:=qQ (h.pf.mv ht).2.1
 have OM:sI t.body=some b:=by rw[V];exact sJ I
 have hq:mX b:=λx B=>by
  obtain⟨_,h2,_⟩:=qQ (h.pf.mv ht).2.1
  exact(Tt (h2 x (by rw[V];exact B))).2
 have hlen:b.len<=40:=by rw[<- Bk.dI,<- V];exact W
 have hd:=ajf b 0 U I
 have WZ:=xo b
 have AM:=h.sz.2.2.2.2.2.2.2 t ht
 have hml:=j0 p t.aJ b 0 0 0
 have oq:=kX b
 rw[Jc OM]
 have aGY:ud ⟨t.aJ.length,kY b,fY p t.aJ b 0 0 0⟩ (jB p).length (ic (fL p)) p.locks.length (fY p t.aJ b 0 0 0) 0 (fY p t.aJ b 0 0 0):=
  ajd (c:=⟨t.aJ.length,kY b,fY p t.aJ b 0 0 0⟩) h rfl (fY p t.aJ b 0 0 0) b 0 0 0 0 (λk y M=>by rw[ve];exact M) cW U I hq (z7 _) (λhh=>absurd rfl hh) (z7 _) (by show 0+kY b<=kY b;omega) (λx B=>h.stk ht x (by rw[V];exact B))
 have hG:∀(i:Nat) (x:bF),(fY p t.aJ b 0 0 0)[i]?=some x->aeg ⟨t.aJ.length,kY b,fY p t.aJ b 0 0 0⟩ (jB p).length (ic (fL p)) p.locks.length (fY p t.aJ b 0 0 0) i x:=λi x B=>by
  have:=aGY i x B;rwa [ve]at this
 refine⟨?_,?_,λx B=>?_⟩
 .unfold kP
  have e1:rO ⟨t.aJ.length,kY b,fY p t.aJ b 0 0 0⟩=false:=by
   unfold rO
   simp only[tc,decide_eq_false_iff_not]
   omega
  rw[e1,mh (f:=vP _ _ _ _) λi E=>?_,mh (f:=qn _) λi E=>?_]
  .rfl
  .obtain⟨x,B⟩:∃x,(fY p t.aJ b 0 0 0)[i]?=some x:=⟨_,nT E⟩
   have O:=hG i x B
   rw[uZ B]
   by_cases M:x.kind=14
   .rw[gq M,L1]
    refine mh λk xk=>?_
    obtain⟨y,hy⟩:∃y,(fY p t.aJ b 0 0 0)[k]?=some y:=⟨_,nT (by have E:i<(fY p t.aJ b 0 0 0).length:=E;omega)⟩
    rw[vQ hy]
    by_cases J:y.kind=14
    .rw[gq J,L1,Bool.not_eq_false',zY,decide_eq_true_eq,decide_eq_true_eq]
     by_cases h1:x.to<=k
     .exact .inl (O.nest M k y h1 xk hy J)
     by_cases h2:(k:Int)+1<x.to
     .exact .inr h2
     exfalso
     obtain⟨z,hz,hz2⟩:=O.b13 M
     rw[show(x.to-1).toNat=k from cW,hy]at hz
     obtain rfl:=qa.inj hz
     omega
    rw[gD J,ZX]
   rw[gD M,ZX]
  obtain⟨x,B⟩:∃x,(fY p t.aJ b 0 0 0)[i]?=some x:=⟨_,nT E⟩
  have O:=hG i x B
  rw[pZ (show(⟨t.aJ.length,kY b,fY p t.aJ b 0 0 0⟩:gp).l[i]?=some x from B),O.fld,O.to];rfl
 .show(fY p t.aJ b 0 0 0).length<=1000;omega
 obtain⟨i,E⟩:=pB (show x∈fY p t.aJ b 0 0 0 from B)
 have hf:=(hG i x E).fld
 unfold vO CQ at hf
 simp only[oG]at hf
 obtain⟨⟨h1,h2⟩,_⟩:=hf
 refine⟨?_,?_⟩
 .split at h1
  .unfold eJ at h1;simp only[oG,decide_eq_true_eq]at h1;omega
  simp at h1;rw[h1];simp
 split at h2
 .unfold eJ at h2;simp only[oG,decide_eq_true_eq]at h2;omega
 simp at h2;rw[h2];simp
theorem aek(a b c:Int):kP QG a b c=true/\CZ QG:=⟨rfl,dO,λx B=>by cases B⟩
theorem ayt(h:Fq p):kP (fL p).recover (jB p).length (ic (fL p)) p.locks.length=true/\CZ (fL p).recover:=by
 show kP (match p.recover[0]? with|some t=>oH p t|none=>⟨0,0,[]⟩) _ _ _=true/\CZ (match p.recover[0]? with|some t=>oH p t|none=>⟨0,0,[]⟩)
 cases hr:p.recover[0]? with
 | none=>exact aek _ _ _
 | some t=>exact RZ h (List.mem_append_right _ (ld hr))
theorem wZ(h:Fq p):iY (fL p)=true/\UZ (fL p):=by
 obtain⟨g1,g2,g3,g4,g5,g6,g7,g8⟩:=h.sz
 have r9:=h.jB
 have gj:=EJ p
 have E:=FQ p
 have F3:(fL p).cO.length=(jB p).length:=by show((jB p).map _).length=_;rw[qE]
 have V:(fL p).threads.length=p.threads.length:=by show(p.threads.map _).length=_;rw[qE]
 have GG:(fL p).cD.length=p.cD.length:=by show(p.cD.map _).length=_;rw[qE]
 have hth:∀c∈(fL p).threads,kP c (jB p).length (ic (fL p)) p.locks.length=true/\CZ c:=λc hc=>by
  obtain⟨t,ht,rfl⟩:=r5.1 (show c∈p.threads.map (oH p)from hc)
  exact RZ h (List.mem_append_left _ ht)
 have U:∀l∈(fL p).cD,eJ l (fL p).stays=true/\l.length<=40:=λl B=>by
  obtain⟨c,hc,rfl⟩:=r5.1 (show l∈p.cD.map (λc=>iN (sK p) c.e)from B)
  refine A6 (h.pf.cl c hc).2 (by simpa using h.cD c hc) ?_
  show fw p=((sK p).length:Int)
  unfold sK gv
  rw[oj,qE];omega
 have O:∀c∈jB p,0<=c.n/\c.n<=4294967296:=λc hc=>by
  unfold jB at hc
  rcases r3.1 hc with hc|hc
  .obtain⟨l,B,I⟩:=List.mem_flatten.1 hc
   have:=vD ((h.pf.lines l B).2 c I);exact⟨this.2.2.1,this.2.2.2⟩
  .have:=vD (h.pf.mu c hc);exact⟨this.2.2.1,this.2.2.2⟩
 refine⟨?_,?_⟩
 .unfold iY
  have e1:jg (fL p)=false:=by
   unfold jg
   rw[E,F3,V]
   have M:(fL p).stays=fw p:=rfl
   have J:(fL p).locks=p.locks.length:=rfl
   rw[M,J]
   simp only[tc,decide_eq_false_iff_not,not_true_eq_false,not_false_eq_true,and_true]
   omega
  have M:(fL p).cO.any ky=false:=iX λn hn=>by
   obtain⟨c,hc,rfl⟩:=r5.1 (show n∈(jB p).map dW.n from hn)
   have:=O c hc
   unfold ky
   rw[gD cW,gD cW];rfl
  have J:(rv (fL p).lines.length).any (kF (fL p))=false:=mh λi hi=>UR h cW
  have e4:(fL p).threads.any (λc=>!kP c (fL p).lines.length (ic (fL p)) (fL p).locks)=false:=iX λc hc=>by
   have:=(hth c hc).1
   rw[E]
   show(!kP c (jB p).length (ic (fL p)) p.locks.length)=false
   rw[this];rfl
  have W:(fL p).cD.any (λl=>!eJ l (fL p).stays)=false:=iX λl B=>by rw[(U l B).1];rfl
  rw[e1,M,J,e4,W,E]
  show(!false&&(!false&&!false&&!false&&!false&&kP (fL p).recover (jB p).length (ic (fL p)) p.locks.length))=true
  rw[(ayt h).1];rfl
 exact⟨cW,cW,cW,cW,λc hc=>(hth c hc).2,(ayt h).2,λl B=>by have:=(U l B).2;omega⟩
end
def hdC(g:Int->Nat)(B E:Nat)(x:cR):Nat:=
 if x.kind=11 then g 12+max (B+(if 0<x.ib then g 11 else 0)) E
 else if x.kind=12 then g 13+x.n.toNat*(B+g 14)
 else if x.kind=13 then g 11 else g (if x.kind=14 then 15 else x.kind)
def va(g:Int->Nat):Bk->Nat
 | .nil=>0
 | .cons x a b r=>hdC g (va g a) (va g b) x+va g r
def sg(x:cR)(a b r:Bk)(at_:Int):Int:=at_+(cK (.cons x a b r)-cK r)
def W(g:Int->Nat):Bk->Int->Int->List Int->Int->Nat->Nat->Option Nat
 | .nil,at_,_,_,pos,kE,_=>if pos=at_ then some kE else none
 | .cons x a b r,at_,lp,cs,pos,kE,kO=>
  if sg x a b r at_<=pos then W g r (sg x a b r at_) lp cs pos kE kO
  else if pos=at_ then(if x.kind=13 then some (g 11+kO)else some (hdC g (va g a) (va g b) x+(va g r+kE)))
  else if x.kind=11 then(if pos<vI x a at_ then W g a (at_+1) lp cs pos ((if 0<x.ib then g 11 else 0)+(va g r+kE)) kO else W g b (vI x a at_) lp cs pos (va g r+kE) kO)
  else if x.kind=12 then(if 1<=cs.getD lp.toNat 0/\cs.getD lp.toNat 0<=8 then W g a (at_+1) (lp+1) cs pos (g 14+((cs.getD lp.toNat 0).toNat-1)*(va g a+g 14)+(va g r+kE)) (va g r+kE)else none)
  else none
def UX(x:cR)(a b r:Bk)(at_:Int):at_+1<=sg x a b r at_:=by
 have h1:=kX a;have h2:=kX b
 have e:cK (.cons x a b r)=(if x.kind=12 then 2+cK a else if x.kind=11 then(if 0<x.ib then 1+cK a+cK b+1 else 1+cK a+cK b)else 1)+cK r:=rfl
 grind[sg]
section
variable {g:Int->Nat}{lp:Int}{cs:List Int}{kE kO:Nat}
theorem BR(t:Bk)(at_:Int)(h:kO<=kE):∃r,W g t at_ lp cs at_ kE kO=some r/\r<=va g t+kE:=by
 cases t with
 | nil=>simp_all[W,va]
 | cons x a b r=>
  have h1:=UX x a b r at_
  rw[show va g (.cons x a b r)=hdC g (va g a) (va g b) x+va g r from rfl]
  unfold W
  rw[fU (show ¬ sg x a b r at_<=at_ by omega),fV rfl]
  by_cases B:x.kind=13
  .rw[fV B]
   grind[hdC,va]
  .rw[fU B];grind
theorem Xz(t:Bk):∀(at_ pos:Int),pos=at_+cK t->W g t at_ lp cs pos kE kO=some kE:=by
 induction t with
 | nil=>grind[cK,W]
 | cons x a b r _ _ B=>
  intro at_ pos h
  have h1:=UX x a b r at_
  have h2:=kX r
  have e:sg x a b r at_=at_+(cK (.cons x a b r)-cK r):=rfl
  grind[W]
theorem UY{x:cR}{a b r:Bk}{at_ pos:Int}(h:sg x a b r at_<=pos):W g (.cons x a b r) at_ lp cs pos kE kO=W g r (sg x a b r at_) lp cs pos kE kO:=by
 conv=>lhs;unfold W
 grind
theorem aqS{x:cR}{a b r:Bk}{at_:Int}(h:kO<=kE):∃B,W g (.cons x a b r) at_ lp cs (sg x a b r at_) kE kO=some B/\B<=va g r+kE:=by
 rw[UY (z7 _)];exact BR r _ h
end
def Tr(x:bF)(pos:Int)(cs:List Int)(pos':Int)(cs':List Int):Prop:=
 (x.kind=11/\pos'=x.to/\cs'=cs)\/(x.kind=12/\(pos'=x.to\/pos'=pos+1)/\cs'=cs)\/(x.kind=13/\pos'=pos+1/\cs'=cs.set x.a.toNat x.b)\/
 (x.kind=14/\cs'=cs.set x.a.toNat (qj (cs.getD x.a.toNat 0-1))/\((0<qj (cs.getD x.a.toNat 0-1)/\pos'=x.to)\/(¬ 0<qj (cs.getD x.a.toNat 0-1)/\pos'=pos+1)))\/
 (¬ x.kind=11/\¬ x.kind=12/\¬ x.kind=13/\¬ x.kind=14/\pos'=pos+1/\cs'=cs)
def aqT{n:Int}(h:0<=n/\n<=8):qj n=n:=by
 obtain rfl|rfl|rfl|rfl|rfl|rfl|rfl|rfl|rfl:n=0\/n=1\/n=2\/n=3\/n=4\/n=5\/n=6\/n=7\/n=8:=cW
 all_goals decide
def Gw{cs:List Int}{i:Nat}{v:Int}(h:i<cs.length):(cs.set i v).getD i 0=v:=by
 grind
def getD_set_ne{cs:List Int}{i j:Nat}{v:Int}(h:i≠j):(cs.set i v).getD j 0=cs.getD j 0:=by
 grind
def EK{α:Type}{l1 l2:List α}{k:Int}{x:α}(h:(l1++l2)[k.toNat]?=some x)(B:k.toNat<l1.length):l1[k.toNat]?=some x:=by
 grind
def yy{α:Type}{l1 l2:List α}{k j:Int}{x:α}(h:(l1++l2)[k.toNat]?=some x)(E:l1.length<=k.toNat)(B:j.toNat=k.toNat-l1.length):l2[j.toNat]?=some x:=by
 grind
def at_one{α:Type}{y x:α}{k:Int}(h:[y][k.toNat]?=some x):x=y:=by
 grind
structure R0(g:Int->Nat)(t:Bk)(at_ lp out loops:Int)(cs cs':List Int)(pos':Int)(kE kO r c:Nat):Prop where
 low:∀j:Nat,(j:Int)<lp->cs'.getD j 0=cs.getD j 0
 len:cs'.length=cs.length
 go:(at_<=pos'/\pos'<=at_+cK t/\∃r',W g t at_ lp cs' pos' kE kO=some r'/\r'+c<=r)\/(loops≠0/\pos'=out/\kO+c<=r)
section
variable {g:Int->Nat}{p:dM}{rs:List ByteArray}
theorem ajg{x:bF}{pos pos':Int}{cs cs':List Int}(h:Tr x pos cs pos' cs')(h1:¬ x.kind=11)(h2:¬ x.kind=12)(h3:¬ x.kind=13)(h4:¬ x.kind=14):pos'=pos+1/\cs'=cs:=by
 rcases h with⟨q,_⟩|⟨q,_⟩|⟨q,_⟩|⟨q,_⟩|⟨_,_,_,_,h⟩
 .exact absurd q h1
 .exact absurd q h2
 .exact absurd q h3
 .exact absurd q h4
 exact h
theorem amm{x:bF}{pos pos':Int}{cs cs':List Int}(h:Tr x pos cs pos' cs')(h1:x.kind=11):pos'=x.to/\cs'=cs:=by
 rcases h with⟨q,h⟩|⟨q,_⟩|⟨q,_⟩|⟨q,_⟩|⟨q,_⟩
 .exact h
 all_goals omega
theorem ayv{x:bF}{pos pos':Int}{cs cs':List Int}(h:Tr x pos cs pos' cs')(h1:x.kind=12):(pos'=x.to\/pos'=pos+1)/\cs'=cs:=by
 rcases h with⟨q,_⟩|⟨q,h⟩|⟨q,_⟩|⟨q,_⟩|⟨_,q,_⟩
 .omega
 .exact h
 all_goals omega
theorem ayw{x:bF}{pos pos':Int}{cs cs':List Int}(h:Tr x pos cs pos' cs')(h1:x.kind=13):pos'=pos+1/\cs'=cs.set x.a.toNat x.b:=by
 rcases h with⟨q,_⟩|⟨q,_⟩|⟨q,h⟩|⟨q,_⟩|⟨_,_,q,_⟩
 .omega
 .omega
 .exact h
 all_goals omega
theorem ayx{x:bF}{pos pos':Int}{cs cs':List Int}(h:Tr x pos cs pos' cs')(h1:x.kind=14):cs'=cs.set x.a.toNat (qj (cs.getD x.a.toNat 0-1))/\((0<qj (cs.getD x.a.toNat 0-1)/\pos'=x.to)\/(¬ 0<qj (cs.getD x.a.toNat 0-1)/\pos'=pos+1)):=by
 rcases h with⟨q,_⟩|⟨q,_⟩|⟨q,_⟩|⟨q,h⟩|⟨_,_,_,q,_⟩
 .omega
 .omega
 .omega
 .exact h
 omega
theorem aqU(t:Bk):∀(at_ lp out loops:Int) (cs:List Int) (pos:Int) (kE kO r:Nat) (x:bF) (pos':Int) (cs':List Int),W g t at_ lp cs pos kE kO=some r->at_<=pos->pos<at_+cK t->kO<=kE->mX t->t.str->t.ok loops=true->0<=lp->lp+kY t<=cs.length->
  (fY p rs t at_ lp out)[(pos-at_).toNat]?=some x->Tr x pos cs pos' cs'->R0 g t at_ lp out loops cs cs' pos' kE kO r (g x.kind):=by
 induction t with
 | nil=>intro at_ lp out loops cs pos kE kO r x pos' cs' _ h1 h2;have:cK .nil=0:=rfl;omega
 | cons x a b B Az CF NF=>
  intro at_ lp out loops cs pos kE kO r y pos' cs' I hp1 hp2 hO OI NH mL RG afy hy hT
  have hsa:=kX a;have hsb:=kX b;have hsr:=kX B
  have hda:=xo a;have hdb:=xo b;have hdr:=xo B
  obtain⟨Ys,hs2,_,_,UT,aei,aej⟩:=NH
  unfold Bk.ok at mL
  simp only[oG]at mL
  obtain⟨⟨⟨ho1,ZM⟩,ho3⟩,ho4⟩:=mL
  unfold Bk.Db at ho1
  rw[decide_eq_true_eq]at ho1
  have oq:cK (.cons x a b B)=(if x.kind=12 then 2+cK a else if x.kind=11 then(if 0<x.ib then 1+cK a+cK b+1 else 1+cK a+cK b)else 1)+cK B:=rfl
  have hdp:kY (.cons x a b B)=max (if x.kind=12 then max (kY a) (kY b)+1 else max (kY a) (kY b)) (kY B):=rfl
  have OL:=NJ p rs x a b B at_ lp out
  have hee:sg x a b B at_=at_+(cK (.cons x a b B)-cK B):=rfl
  have hen:=UX x a b B at_
  rw[yZ]at hy
  have next:∀XA:List Int,∀c:Nat,(∀j:Nat,(j:Int)<lp->XA.getD j 0=cs.getD j 0)->XA.length=cs.length->va g B+kE+c<=r->R0 g (.cons x a b B) at_ lp out loops cs XA (sg x a b B at_) kE kO r c:=by
   intro XA c h1 h2 h3
   obtain⟨V,h4,h5⟩:=aqS (g:=g) (lp:=lp) (cs:=XA) (kE:=kE) (kO:=kO) (x:=x) (a:=a) (b:=b) (r:=B) (at_:=at_) hO
   exact⟨h1,h2,.inl ⟨cW,cW,V,h4,cW⟩⟩
  by_cases hE:sg x a b B at_<=pos
  .rw[UY hE]at I
   have hy2:=yy (j:=pos-sg x a b B at_) hy cW cW
   have E:=NF (sg x a b B at_) lp out loops cs pos kE kO r y pos' cs' I hE cW hO OI.r aej ho4 RG cW (by rw[hee,<- OL];rw[hee,<- OL]at hy2;exact hy2) hT
   refine⟨E.low,E.len,?_⟩
   rcases E.go with⟨h1,h2,V,h3,h4⟩|h1
   .exact .inl ⟨cW,cW,V,by rw[UY h1];exact h3,h4⟩
   .exact .inr h1
  .have O:=EK hy cW
   clear hy
   have U:∀(XA:List Int) (q:Int),¬ sg x a b B at_<=q->q≠at_->W g (.cons x a b B) at_ lp XA q kE kO =
     (if x.kind=11 then(if q<vI x a at_ then W g a (at_+1) lp XA q ((if 0<x.ib then g 11 else 0)+(va g B+kE)) kO else W g b (vI x a at_) lp XA q (va g B+kE) kO)
      else if x.kind=12 then(if 1<=XA.getD lp.toNat 0/\XA.getD lp.toNat 0<=8 then W g a (at_+1) (lp+1) XA q (g 14+((XA.getD lp.toNat 0).toNat-1)*(va g a+g 14)+(va g B+kE)) (va g B+kE)else none)else none):=by
    intro XA q h1 h2
    conv=>lhs;unfold W
    rw[fU h1,fU h2]
   have hWs:pos=at_->W g (.cons x a b B) at_ lp cs pos kE kO=if x.kind=13 then some (g 11+kO)else some (hdC g (va g a) (va g b) x+(va g B+kE)):=by
    intro h1
    conv=>lhs;unfold W
    rw[fU hE,fV h1]
   unfold KY at O OL
   have U1:∀j:Nat,(j:Int)<lp->cs.getD j 0=cs.getD j 0:=λ_ _=>rfl
   by_cases zP:x.kind=11
   .rw[fV zP]at O OL
    rw[fU (show ¬ x.kind=12 by omega),fV zP]at oq
    rw[fU (show ¬ x.kind=12 by omega)]at hdp
    have uh:Bk.Gb x loops=loops:=by unfold Bk.Gb;rw[fU cW]
    rw[uh]at ZM ho3
    have Sw:=j0 p rs a (at_+1) lp out
    have Kz:=j0 p rs b (vI x a at_) lp out
    have Hs:vI x a at_=if 0<x.ib then at_+1+cK a+1 else at_+1+cK a:=rfl
    have hhd:hdC g (va g a) (va g b) x=g 12+max (va g a+(if 0<x.ib then g 11 else 0)) (va g b):=by unfold hdC;rw[fV zP]
    have toB:∀c:Nat,va g b+(va g B+kE)+c<=r->R0 g (.cons x a b B) at_ lp out loops cs cs (vI x a at_) kE kO r c:=by
     intro c hc
     by_cases hz:sg x a b B at_<=vI x a at_
     .have:vI x a at_=sg x a b B at_:=by split at oq<;>(first|rw[fV (by assumption)]at Hs|rw[fU (by assumption)]at Hs)<;>omega
      rw[this];exact next cs c U1 rfl cW
     .obtain⟨V,h4,h5⟩:=BR (g:=g) (lp:=lp) (cs:=cs) (kE:=va g B+kE) (kO:=kO) b (vI x a at_) cW
      have h6:at_+1<=vI x a at_:=by rw[Hs];split<;>omega
      exact⟨U1,rfl,.inl ⟨cW,cW,V,by rw[U cs _ hz cW,fV zP,fU cW];exact h4,cW⟩⟩
    by_cases M:pos=at_
    .rw[hWs M,fU (show ¬ x.kind=13 by omega),hhd]at I
     obtain rfl:=qa.inj I
     have J:y=⟨12,0,0,iN rs x.e,[],vI x a at_⟩:=by
      rw[M,show(at_-at_).toNat=0 from cW]at O
      simpa using O.symm
     subst J
     obtain⟨hq,rfl⟩:=ayv hT rfl
     rcases hq with rfl|rfl
     .exact toB _ (by show _+g 12<=_;omega)
     .by_cases hz:sg x a b B at_<=pos+1
      .have:pos+1=sg x a b B at_:=cW
       rw[this];exact next _ _ U1 rfl (by show _+g 12<=_;omega)
      .by_cases hz2:pos+1<vI x a at_
       .obtain⟨V,h4,h5⟩:=BR (g:=g) (lp:=lp) (cs:=cs') (kE:=(if 0<x.ib then g 11 else 0)+(va g B+kE)) (kO:=kO) a (at_+1) cW
        refine⟨U1,rfl,.inl ⟨cW,cW,V,?_,by show _+g 12<=_;omega⟩⟩
        rw[U _ _ hz cW,fV zP,fV hz2,M];exact h4
       .exfalso
        split at oq
        .rename_i he;rw[fV he]at Hs;omega
        .rename_i he;rw[fU he]at Hs
         have Hf:=Kf (b:=b) cW
         subst Hf
         have:cK .nil=0:=rfl
         omega
    .rw[U cs pos hE M,fV zP]at I
     by_cases hpt:pos<vI x a at_
     .rw[fV hpt]at I
      by_cases hpe:pos<at_+1+cK a
      .have hya:(fY p rs a (at_+1) lp out)[(pos-(at_+1)).toNat]?=some y:=by
        have h1:=EK (EK O (by simp only[n0,n6];split<;>simp<;>omega)) (by simp only[n0,n6];omega)
        exact yy h1 (by simp only[n6];omega) (by simp only[n6];omega)
       have E:=Az (at_+1) lp out loops cs pos _ kO r y pos' cs' I cW hpe cW OI.a UT ZM RG cW hya hT
       rcases E.go with⟨h1,h2,V,h3,h4⟩|h1
       .by_cases hz:sg x a b B at_<=pos'
        .have e1:pos'=at_+1+cK a:=by split at oq<;>omega
         have e2:pos'=sg x a b B at_:=by split at oq<;>omega
         rw[Xz a (at_+1) pos' e1]at h3
         obtain rfl:=qa.inj h3
         rw[e2];exact next cs' _ E.low E.len cW
        .refine⟨E.low,E.len,.inl ⟨cW,cW,V,?_,h4⟩⟩
         rw[U cs' pos' hz cW,fV zP]
         by_cases hz2:pos'<vI x a at_
         .rw[fV hz2];exact h3
         .exfalso
          split at oq
          .rename_i he;rw[fV he]at Hs;omega
          .rename_i he;rw[fU he]at Hs
           have Hf:=Kf (b:=b) cW
           subst Hf
           have:cK .nil=0:=rfl
           omega
       .exact⟨E.low,E.len,.inr h1⟩
      .have ayy:0<x.ib:=by
        by_cases he:0<x.ib
        .exact he
        .rw[fU he]at Hs;omega
       rw[fV ayy]at Hs oq I
       rw[fV ayy]at O
       have e1:pos=at_+1+cK a:=cW
       rw[Xz a (at_+1) pos e1]at I
       obtain rfl:=qa.inj I
       have J:y=⟨11,0,0,[],[],vI x a at_+cK b⟩:=by
        have h1:=EK O (by simp only[n0,n6];omega)
        exact at_one (yy (j:=0) h1 (by simp only[n0,n6];omega) (by simp only[n0,n6];omega))
       subst J
       obtain⟨rfl,rfl⟩:=amm hT rfl
       have e2:vI x a at_+cK b=sg x a b B at_:=cW
       show R0 g _ at_ lp out loops cs' cs' (vI x a at_+cK b) kE kO _ (g 11)
       rw[e2];exact next _ _ U1 rfl cW
     .rw[fU hpt]at I
      have hyb:(fY p rs b (vI x a at_) lp out)[(pos-vI x a at_).toNat]?=some y:=by
       refine yy O ?_ ?_
       .simp only[n0,n6];rw[Hs]at hpt;split<;>split at hpt<;>simp<;>omega
       .simp only[n0,n6];rw[Hs];split<;>simp<;>omega
      have E:=CF (vI x a at_) lp out loops cs pos _ kO r y pos' cs' I cW (by split at oq<;>(first|rw[fV (by assumption)]at Hs|rw[fU (by assumption)]at Hs)<;>omega) cW OI.b aei ho3 RG cW hyb hT
      have h6:at_+1<=vI x a at_:=by rw[Hs];split<;>omega
      have h7:vI x a at_+cK b=sg x a b B at_:=by split at oq<;>(first|rw[fV (by assumption)]at Hs|rw[fU (by assumption)]at Hs)<;>omega
      rcases E.go with⟨h1,h2,V,h3,h4⟩|h1
      .by_cases hz:sg x a b B at_<=pos'
       .rw[Xz b _ pos' cW]at h3
        obtain rfl:=qa.inj h3
        rw[show pos'=sg x a b B at_ from cW]
        exact next cs' _ E.low E.len cW
       .refine⟨E.low,E.len,.inl ⟨cW,cW,V,?_,h4⟩⟩
        rw[U cs' pos' hz cW,fV zP,fU cW];exact h3
      .exact⟨E.low,E.len,.inr h1⟩
   .rw[fU zP]at O OL
    by_cases B0:x.kind=12
    .rw[fV B0]at O OL oq hdp
     have uh:Bk.Gb x loops=loops+1:=by unfold Bk.Gb;rw[fV B0]
     rw[uh]at ZM
     have Sw:=j0 p rs a (at_+1) (lp+1) (at_+2+cK a)
     have hxn:=OI.x B0
     have hhd:hdC g (va g a) (va g b) x=g 13+x.n.toNat*(va g a+g 14):=by unfold hdC;rw[fU zP,fV B0]
     by_cases M:pos=at_
     .rw[hWs M,fU (show ¬ x.kind=13 by omega),hhd]at I
      obtain rfl:=qa.inj I
      have J:y=⟨13,lp,x.n,[],[],0⟩:=by
       rw[M,show(at_-at_).toNat=0 from cW]at O
       simpa using O.symm
      subst J
      obtain⟨rfl,rfl⟩:=ayw hT rfl
      have hg:(cs.set lp.toNat x.n).getD lp.toNat 0=x.n:=Gw cW
      obtain⟨V,h4,h5⟩:=BR (g:=g) (lp:=lp+1) (cs:=cs.set lp.toNat x.n) (kE:=g 14+(x.n.toNat-1)*(va g a+g 14)+(va g B+kE)) (kO:=va g B+kE) a (at_+1) cW
      obtain⟨m,hm⟩:∃m,x.n.toNat=m+1:=⟨x.n.toNat-1,cW⟩
      rw[hm,HI]at h4 h5
      refine⟨λj hj=>getD_set_ne (by show lp.toNat≠j;omega),eU,.inl ⟨cW,cW,V,?_,?_⟩⟩
      .show W g _ at_ lp (cs.set lp.toNat x.n) (pos+1) kE kO=_
       rw[U _ _ cW cW,fU zP,fV B0,hg,fV hxn,hm,HI,M];exact h4
      .show V+g 13<=_
       rw[hm,Km];omega
     .rw[U cs pos hE M,fU zP,fV B0]at I
      split at I
      .rename_i hcc
       by_cases hpe:pos<at_+1+cK a
       .have hya:(fY p rs a (at_+1) (lp+1) (at_+2+cK a))[(pos-(at_+1)).toNat]?=some y:=by
         have h1:=EK O (by simp only[n0,n6];omega)
         exact yy h1 (by simp only[n6];omega) (by simp only[n6];omega)
        have E:=Az (at_+1) (lp+1) (at_+2+cK a) (loops+1) cs pos _ _ r y pos' cs' I cW hpe cW OI.a UT ZM cW cW hya hT
        have hce:cs'.getD lp.toNat 0=cs.getD lp.toNat 0:=E.low lp.toNat cW
        have Zf:∀j:Nat,(j:Int)<lp->cs'.getD j 0=cs.getD j 0:=λj hj=>E.low j cW
        rcases E.go with⟨h1,h2,V,h3,h4⟩|⟨_,h1,h2⟩
        .refine⟨Zf,E.len,.inl ⟨cW,cW,V,?_,h4⟩⟩
         rw[U cs' pos' cW cW,fU zP,fV B0,hce,fV hcc];exact h3
        .rw[show pos'=sg x a b B at_ from cW]
         exact next cs' _ Zf E.len cW
       .have e1:pos=at_+1+cK a:=cW
        rw[Xz a (at_+1) pos e1]at I
        obtain rfl:=qa.inj I
        have J:y=⟨14,lp,0,[],[],at_+1⟩:=at_one (yy (j:=0) O (by simp only[n0,n6];omega) (by simp only[n0,n6];omega))
        subst J
        obtain⟨rfl,hq⟩:=ayx hT rfl
        have hwe:qj (cs.getD lp.toNat 0-1)=cs.getD lp.toNat 0-1:=aqT cW
        have hq:(0<qj (cs.getD lp.toNat 0-1)/\pos'=at_+1)\/(¬ 0<qj (cs.getD lp.toNat 0-1)/\pos'=pos+1):=hq
        have Zf:∀j:Nat,(j:Int)<lp->(cs.set lp.toNat (qj (cs.getD lp.toNat 0-1))).getD j 0=cs.getD j 0:=λj hj=>getD_set_ne cW
        show R0 g _ at_ lp out loops cs (cs.set lp.toNat (qj (cs.getD lp.toNat 0-1))) pos' kE kO _ (g 14)
        rw[hwe]at hq Zf |-
        rcases hq with⟨q1,q2⟩|⟨q1,q2⟩
        .have hg:(cs.set lp.toNat (cs.getD lp.toNat 0-1)).getD lp.toNat 0=cs.getD lp.toNat 0-1:=Gw cW
         obtain⟨m,hm⟩:∃m,(cs.getD lp.toNat 0).toNat=m+2:=⟨(cs.getD lp.toNat 0).toNat-2,cW⟩
         obtain⟨V,h4,h5⟩:=BR (g:=g) (lp:=lp+1) (cs:=cs.set lp.toNat (cs.getD lp.toNat 0-1)) (kE:=g 14+m*(va g a+g 14)+(va g B+kE)) (kO:=va g B+kE) a (at_+1) cW
         refine⟨Zf,eU,.inl ⟨cW,cW,V,?_,?_⟩⟩
         .rw[U _ _ cW cW,fU zP,fV B0,hg,fV cW,q2,show(cs.getD lp.toNat 0-1).toNat-1=m from cW];exact h4
         .rw[hm,show m+2-1=m+1 from cW,Km];omega
        .rw[show pos'=sg x a b B at_ from cW]
         exact next _ _ Zf eU cW
      .cases I
    .rw[fU B0]at O OL
     rw[fU B0,fU zP]at oq
     have M:pos=at_:=cW
     rw[hWs M]at I
     by_cases OS:x.kind=13
     .rw[fV OS]at O I
      obtain rfl:=qa.inj I
      have J:=at_one O
      subst J
      obtain⟨rfl,rfl⟩:=amm hT rfl
      exact⟨U1,rfl,.inr ⟨cW,rfl,by show kO+g 11<=_;omega⟩⟩
     .rw[fU OS]at O I
      obtain rfl:=qa.inj I
      have J:=at_one O
      subst J
      have q7:(nS p rs x).kind=if x.kind=14 then 15 else x.kind:=rfl
      obtain⟨rfl,rfl⟩:=ajg hT (by rw[q7];split<;>omega) (by rw[q7];split<;>omega) (by rw[q7];split<;>omega) (by rw[q7];split<;>omega)
      have hhd:hdC g (va g a) (va g b) x=g (nS p rs x).kind:=by unfold hdC;rw[fU zP,fU B0,fU OS,q7]
      rw[show pos+1=sg x a b B at_ from cW]
      exact next _ _ U1 rfl cW
end
structure R2(p:dM)(c:gp)(b:Bk)(rs:List ByteArray):Prop where
 l:c.l=fY p rs b 0 0 0
 cn:c.counts=kY b
 rd:mX b
 str:b.str
 ok:b.ok 0=true
structure TW(g:Int->Nat)(p:dM)(b:Bk)(rs:List ByteArray)(t:fR)(r:Nat):Prop where
 code:R2 p t.code b rs
 cl:(t.counts.length:Int)=t.code.counts
 a0:0<=t.at_
 a1:t.at_<=cK b
 w:W g b 0 0 t.counts t.at_ 0 0=some r
section
variable {g:Int->Nat}{p:dM}{b:Bk}{rs:List ByteArray}{t t':fR}{r:Nat}
theorem TW.next{x:bF}(h:TW g p b rs t r)(B:gP t=some x)(M:Tr x t.at_ t.counts t'.at_ t'.counts)(hc:t'.code=t.code):∃E,TW g p b rs t' E/\E+g x.kind<=r:=by
 have h1:=(o9 B).2
 have V:=j0 p rs b 0 0 0
 rw[h.code.l]at h1
 have J:(fY p rs b 0 0 0)[(t.at_-0).toNat]?=some x:=by
  unfold gP at B
  rw[h.code.l]at B
  rw[fU cW]at B
  rw[Int.sub_zero];exact B
 have O:=h.code.cn
 have U:=h.cl
 have I:=aqU (g:=g) (p:=p) (rs:=rs) b 0 0 0 0 t.counts t.at_ 0 0 r x t'.at_ t'.counts h.w h.a0 cW (r4 _) h.code.rd h.code.str h.code.ok (z7 _) cW J M
 rcases I.go with⟨h3,h4,E,h5,h6⟩|⟨h3,_⟩
 .exact⟨E,⟨by rw[hc];exact h.code,by rw[I.len,hc];exact h.cl,h3,cW,h5⟩,h6⟩
 exact absurd rfl h3
theorem TW.same(h:TW g p b rs t r)(hc:t'.code=t.code)(B:t'.at_=t.at_)(E:t'.counts=t.counts):TW g p b rs t' r:=
 ⟨by rw[hc];exact h.code,by rw[E,hc];exact h.cl,by rw[B];exact h.a0,by rw[B];exact h.a1,by rw[E,B];exact h.w⟩
theorem aqV{x:bF}{e:Int}(h:(zh t x e).2=true):Tr x t.at_ t.counts (zh t x e).1.at_ (zh t x e).1.counts:=by
 by_cases h1:x.kind=1
 .rw[Rk h1];exact .inr (.inr (.inr (.inr ⟨cW,cW,cW,cW,rfl,rfl⟩)))
 by_cases M:x.kind=11
 .rw[JS M];exact .inl ⟨M,rfl,rfl⟩
 by_cases I:x.kind=12
 .by_cases B:e=0
  .rw[Em I B];exact .inr (.inl ⟨I,.inl rfl,rfl⟩)
  rw[En I B];exact .inr (.inl ⟨I,.inr rfl,rfl⟩)
 by_cases O:x.kind=13
 .rw[JT O];exact .inr (.inr (.inl ⟨O,rfl,rfl⟩))
 by_cases J:x.kind=14
 .by_cases B:0<qj (t.counts.getD x.a.toNat 0-1)
  .rw[Eo J B];exact .inr (.inr (.inr (.inl ⟨J,rfl,.inl ⟨B,rfl⟩⟩)))
  rw[Ep J B];exact .inr (.inr (.inr (.inl ⟨J,rfl,.inr ⟨B,rfl⟩⟩)))
 by_cases E:x.kind=15
 .by_cases B:e=0
  .rw[Er E B]at h;cases h
  rw[Es E B];exact .inr (.inr (.inr (.inr ⟨M,I,O,J,rfl,rfl⟩)))
 rw[JU h1 M I O J E]at h;cases h
theorem aeo{x:bF}{e:Int}(h:(zh t x e).2=false):(zh t x e).1.at_=t.at_/\(zh t x e).1.counts=t.counts/\(zh t x e).1.aJ=t.aJ:=by
 by_cases h1:x.kind=1
 .rw[Rk h1]at h;cases h
 by_cases M:x.kind=11
 .rw[JS M]at h;cases h
 by_cases I:x.kind=12
 .by_cases B:e=0
  .rw[Em I B]at h;cases h
  rw[En I B]at h;cases h
 by_cases O:x.kind=13
 .rw[JT O]at h;cases h
 by_cases J:x.kind=14
 .by_cases B:0<qj (t.counts.getD x.a.toNat 0-1)
  .rw[Eo J B]at h;cases h
  rw[Ep J B]at h;cases h
 by_cases E:x.kind=15
 .by_cases B:e=0
  .rw[Er E B];exact⟨rfl,rfl,rfl⟩
  rw[Es E B]at h;cases h
 rw[JU h1 M I O J E];exact⟨rfl,rfl,rfl⟩
theorem MD(h:(fK t).2=true):∃x,gP t=some x/\Tr x t.at_ t.counts (fK t).1.at_ (fK t).1.counts:=by
 cases hn:gP t with
 | none=>rw[yn hn]at h;cases h
 | some x=>
  refine⟨x,rfl,?_⟩
  cases he:(dE x.e t.aJ).2 with
  | false=>rw[yo hn he]at h;cases h
  | true=>
   cases hf:(dE x.f t.aJ).2 with
   | false=>rw[yp hn he hf]at h;cases h
   | true=>
    rw[lL hn he hf]at h |-
    exact aqV (t:=tF (tE t x) x) h
theorem R3(h:(fK t).2=false):(fK t).1.at_=t.at_/\(fK t).1.counts=t.counts:=by
 cases hn:gP t with
 | none=>rw[yn hn];exact⟨rfl,rfl⟩
 | some x=>
  cases he:(dE x.e t.aJ).2 with
  | false=>rw[yo hn he];exact⟨rfl,rfl⟩
  | true=>
   cases hf:(dE x.f t.aJ).2 with
   | false=>rw[yp hn he hf];exact⟨rfl,rfl⟩
   | true=>
    rw[lL hn he hf]at h |-
    have:=aeo (t:=tF (tE t x) x) h
    exact⟨this.1,this.2.1⟩
theorem TW.go:∀{N:Nat}{t t':fR}{r:Nat},TW g p b rs t r->sB N t=some t'->∃B,TW g p b rs t' B/\B<=r
 | 0,_,_,_,_,h=>by cases h
 | N+1,t,t',r,E,h=>by
  unfold sB at h
  split at h
  .rename_i hs
   obtain⟨x,J,M⟩:=MD hs
   obtain⟨r1,h1,h2⟩:=E.next J M (qW t).1
   obtain⟨I,h3,h4⟩:=TW.go h1 h
   exact⟨I,h3,cW⟩
  .rename_i hs
   cases h
   have:=R3 (by simpa using hs)
   exact⟨r,E.same (qW t).1 this.1 this.2,r4 _⟩
theorem R4:∀{n:Nat}{t:fR}{r:Nat},TW (λ_=>1) p b rs t r->r<=n->∃t',sB (n+1) t=some t'
 | n,t,r,B,J=>by
  cases hs:(fK t).2 with
  | false=>exact⟨_,by unfold sB;rw[hs];rfl⟩
  | true=>
   obtain⟨x,E,I⟩:=MD hs
   obtain⟨r1,h1,h2⟩:=B.next E I (qW t).1
   cases n with
   | zero=>exfalso;omega
   | succ n=>
    obtain⟨t',h3⟩:=R4 (n:=n) h1 cW
    exact⟨t',by unfold sB;rw[hs,fV rfl];exact h3⟩
end
def Ht(p:dM)(t:fR):Prop:=∃b rs,∀g,∃r,TW g p b rs t r
section
variable {p:dM}{t t':fR}
theorem Ht.next{x:bF}(h:Ht p t)(E:gP t=some x)(I:Tr x t.at_ t.counts t'.at_ t'.counts)(hc:t'.code=t.code):Ht p t':=by
 obtain⟨b,rs,h⟩:=h
 exact⟨b,rs,λg=>by obtain⟨r,h1⟩:=h g;obtain⟨B,h2,_⟩:=h1.next E I hc;exact⟨B,h2⟩⟩
theorem Ht.same(h:Ht p t)(hc:t'.code=t.code)(B:t'.at_=t.at_)(E:t'.counts=t.counts):Ht p t':=by
 obtain⟨b,rs,h⟩:=h
 exact⟨b,rs,λg=>by obtain⟨r,h1⟩:=h g;exact⟨r,h1.same hc B E⟩⟩
theorem Ht.go{N:Nat}(h:Ht p t)(E:sB N t=some t'):Ht p t':=by
 obtain⟨b,rs,h⟩:=h
 exact⟨b,rs,λg=>by obtain⟨r,h1⟩:=h g;obtain⟨B,h2,_⟩:=h1.go E;exact⟨B,h2⟩⟩
theorem Ht.total(h:Ht p t):∃N t',sB N t=some t':=by
 obtain⟨b,rs,h⟩:=h
 obtain⟨r,h1⟩:=h λ_=>1
 obtain⟨t',h2⟩:=R4 h1 (r4 r)
 exact⟨_,t',h2⟩
end
def Hu{p:dM}{c:gp}{b:Bk}{rs:List ByteArray}(h:R2 p c b rs)(hc:0<=c.counts)(g:Int->Nat):∃r,TW g p b rs (oR c) r/\r<=va g b:=by
 obtain⟨r,h1,h2⟩:=BR (g:=g) (lp:=0) (cs:=qU c.counts.toNat 0) (kE:=0) (kO:=0) b 0 (r4 _)
 have:=kX b
 exact⟨r,⟨h,by show((qU c.counts.toNat (0:Int)).length:Int)=c.counts;rw[xq];omega,z7 _,this.1,h1⟩,cW⟩
def Ow{p:dM}(h:Fq p){t:eH}(ht:t∈kH p):∃b,R2 p (oH p t) b t.aJ/\sI t.body=some b/\mX b:=by
 obtain⟨b,h1,h2,h3,_,h5,_,_,B,_⟩:=h.tree ht
 rw[Jc B]
 exact⟨b,⟨rfl,rfl,h5,h2,h3⟩,B,h5⟩
theorem ayz{p:dM}(h:Fq p):∃b rs,R2 p (fL p).recover b rs:=by
 show ∃b rs,R2 p (match p.recover[0]? with|some t=>oH p t|none=>⟨0,0,[]⟩) b rs
 cases hr:p.recover[0]? with
 | none=>exact⟨.nil,[],⟨rfl,rfl,λx B=>(by cases B),trivial,rfl⟩⟩
 | some t=>
  obtain⟨b,hb,_⟩:=Ow h (List.mem_append_right p.threads (ld hr))
  exact⟨b,_,hb⟩
structure PM(p:dM)(m:gQ):Prop where
 chk:Fq p
 u:m.u=fL p
 gm:GM m
 tw:∀t∈m.l,Ht p t
section
variable {p:dM}{m m2:gQ}
theorem Zg(h:Fq p):∃N t,sB N (oR (fL p).recover)=some t/\Ht p t:=by
 obtain⟨b,rs,hb⟩:=ayz h
 have B:=rY (wZ h).1
 have E:Ht p (oR (fL p).recover):=⟨b,rs,λg=>by obtain⟨r,h1,_⟩:=Hu hb B.rc.cb.1 g;exact⟨r,h1⟩⟩
 obtain⟨N,t,ht⟩:=E.total
 exact⟨N,t,ht,E.go ht⟩
theorem R5(h:Fq p):∃N mv,sU N (fL p).threads mv/\∀t∈mv,Ht p t:=by
 have U:=rY (wZ h).1
 have O:∀cs:List gp,(∀c∈cs,c∈(fL p).threads)->∃N mv,sU N cs mv/\∀t∈mv,Ht p t:=by
  intro cs
  induction cs with
  | nil=>intro _;exact⟨0,[],⟨rfl,λj c t h=>by simp at h⟩,λt ht=>by cases ht⟩
  | cons c cs ih=>
   intro I
   obtain⟨N,mv,h1,h2⟩:=ih λc hc=>I c (s8 _ hc)
   have V:=I c (uc ..)
   obtain⟨t,ht,rfl⟩:=r5.1 (show c∈p.threads.map (oH p)from V)
   obtain⟨b,hb,_⟩:=Ow h (List.mem_append_left p.recover ht)
   have W:Ht p (oR (oH p t)):=⟨b,t.aJ,λg=>by obtain⟨r,h1,_⟩:=Hu hb (U.th _ V).cb.1 g;exact⟨r,h1⟩⟩
   obtain⟨M,t',Mz⟩:=W.total
   refine⟨N+M,t'::mv,⟨by rw[sf,sf,h1.1],λj c2 J E B=>?_⟩,λJ B=>?_⟩
   .cases j with
    | zero=>
     rw[List.getElem?_cons_zero]at E B
     cases E;cases B
     rw[acR];exact Kc Mz
    | succ j=>
     rw[List.getElem?_cons_succ]at E B
     exact Kc (h1.2 j c2 J E B)
   .rcases List.mem_cons.1 B with rfl|B
    .exact W.go Mz
    .exact h2 J B
 exact O _ λc hc=>hc
theorem Kg{t:fR}{i:Int}{x:bF}:(dJ m t i x).2.1.counts=t.counts:=by
 unfold dJ loadT casT uy
 repeat' split
 all_goals rfl
theorem XB{t:fR}{i:Int}{x:bF}(h:Ht p t)(B:gP t=some x)(E:2<=x.kind/\x.kind<=10):Ht p { (dJ m t i x).2.1 with at_:=(dJ m t i x).2.1.at_+1}:=
 h.next B (.inr (.inr (.inr (.inr ⟨cW,cW,cW,cW,by show(dJ m t i x).2.1.at_+1=_;rw[Eu],Kg⟩)))) u9
theorem Ox{α:Type}{φ:α->Prop}{l:List α}{i:Nat}{x:α}(h:∀y∈l,φ y)(E:φ x):∀y∈l.set i x,φ y:=λy B=>by
 grind
theorem PM.do{N:Nat}{q:dY}{ev:bU}{e:Int}(h:PM p m)(hd:ET N m q=some (m2,ev,e)):PM p m2:=by
 refine⟨h.chk,(Ke hd).2.1.trans h.u,h.gm.do hd,?_⟩
 cases hc:ig m q with
 | some nx=>
  obtain⟨t,I,hm,_⟩:=sV hd hc
  rw[hm]
  intro t' Mz
  obtain rfl:t'=t:=by simpa using(show t'∈[t]from Mz)
  rw[h.u]at I
  obtain⟨b,rs,hb⟩:=ayz h.chk
  have V:=rY (wZ h.chk).1
  have J:Ht p (oR (fL p).recover):=⟨b,rs,λg=>by obtain⟨r,h1,_⟩:=Hu hb V.rc.cb.1 g;exact⟨r,h1⟩⟩
  exact J.go I
 | none=>
  by_cases E:(cT m).any (jo q)=true
  .by_cases W:q.kind=2
   .obtain⟨_,t,ht⟩:=tZ E
    rw[(rW hd hc E W ht).1]
    exact Ox h.tw ((h.tw t (ld ht)).same rfl rfl rfl)
   .have B:=(oS hd hc E W).1
    cases ht:m.l[q.t.toNat]? with
    | none=>unfold nM at B;rw[ht]at B;cases B
    | some t=>
     have U:=ld ht
     by_cases O:t.fault≠0
     .rw[(zo B ht O).1];exact h.tw
     .obtain⟨x,M⟩:=zp B ht O
      have q7:=(h.gm.th t U).2.1 x M cW
      by_cases J:(dJ m t q.t x).1.fault=0
      .obtain⟨t2,I,Sr,_⟩:=zq B ht O M J
       rw[Sr]
       show ∀t'∈(dJ m t q.t x).1.l.set _ _,_
       rw[J0]
       exact Ox h.tw ((XB (h.tw t U) M q7).go I)
      .rw[(zs B ht O M J).1]
       show ∀t'∈(dJ m t q.t x).1.l.set _ _,_
       rw[J0]
       exact Ox h.tw ((h.tw t U).same u9 Eu Kg)
  .rw[(pa hd hc E).1];exact h.tw
theorem aep{q:dY}(h:(cT m).any (jo q)=true)(J:¬ q.kind=2):q.kind=1/\∃t,m.l[q.t.toNat]?=some t/\zi m t=true:=by
 rw[List.any_eq_true]at h
 obtain⟨x,I,E⟩:=h
 unfold jo at E
 simp only[oG,decide_eq_true_eq]at E
 unfold cT at I
 split at I
 .cases I
 obtain⟨i,t,_,ht,B⟩:=wS I
 have h1:=Ry B
 unfold sS at B
 rw[r3]at B
 rcases B with B|B
 .split at B
  .rename_i hc
   simp at B
   subst B
   refine⟨E.1.1.1.symm,t,?_,hc⟩
   have e:q.t=(i:Int):=E.1.1.2.symm
   rw[e];exact ht
  cases B
 rw[r5]at B
 obtain⟨k,_,rfl⟩:=B
 exact absurd E.1.1.1.symm J
theorem aeq(h:PM p m)(q:dY):∃N m2 ev e,ET N m q=some (m2,ev,e)/\PM p m2:=by
 have I:∃N m2 ev e,ET N m q=some (m2,ev,e):=by
  cases hc:ig m q with
  | some nx=>
   obtain⟨N,t,ht,_⟩:=Zg h.chk
   exact⟨N,j3 (v8 m nx) [t],⟨15,0,0,wR q.cut q.cut.length,0⟩,0,by unfold ET;rw[hc];dsimp only;rw[h.u,ht];rfl⟩
  | none=>
   by_cases E:(cT m).any (jo q)=true
   .by_cases J:q.kind=2
    .obtain⟨_,t,ht⟩:=tZ E
     refine⟨0,lf m t q,oQ q.t (dK t.buf q.i),0,?_⟩
     unfold ET;rw[hc];dsimp only;rw[fV E,fV J,ht];rfl
    .obtain⟨Z5,t,ht,B⟩:=aep E J
     have O:=ld ht
     have gj:∃N r,nM N m q.t=some r:=by
      by_cases M:t.fault≠0
      .exact⟨0,_,by unfold nM;rw[ht];dsimp only;rw[fV M]⟩
      .cases hn:gP t with
       | none=>unfold zi at B;rw[hn]at B;cases B
       | some x=>
        by_cases U:(dJ m t q.t x).1.fault=0
        .have q7:=(h.gm.th t O).2.1 x hn cW
         obtain⟨N,t2,V⟩:=(XB (m:=m) (i:=q.t) (h.tw t O) hn q7).total
         exact⟨N,_,by unfold nM;rw[ht];dsimp only;rw[fU M,hn];dsimp only;rw[fV U,V];rfl⟩
        .exact⟨0,_,by unfold nM;rw[ht];dsimp only;rw[fU M,hn];dsimp only;rw[fU U]⟩
     obtain⟨N,r,W⟩:=gj
     exact⟨N,r.1,r.2,0,by unfold ET;rw[hc];dsimp only;rw[fV E,fU J,W];rfl⟩
   .exact⟨0,m,⟨0,0,0,0,0⟩,13,by unfold ET;rw[hc];dsimp only;rw[fU E]⟩
 obtain⟨N,m2,ev,e,hd⟩:=I
 exact⟨N,m2,ev,e,hd,h.do hd⟩
theorem PM.new{N:Nat}{room:Int}{mv:List fR}(h:Fq p)(hb:sU N (fL p).threads mv)(ht:∀t∈mv,Ht p t)(B:1<=room/\room<=16):PM p (j3 (jh (fL p) room) mv):=
 ⟨h,rfl,GM.new (rY (wZ h).1) (wZ h).2 hb B,ht⟩
end
def R6:dY:=⟨0,0,0,[]⟩
def oV(a:KR)(l c:List dY)(cS:Int):dY:=
 if a.kind=2 then {a.p with cut:=a.p.cut.take 22}
 else if a.kind=1/\cS<2/\0<(c.length:Int)then c.getD (wm a.n 65535 % (c.length:Int)).toNat R6
 else if 0<(l.length:Int)then l.getD (wm a.n 65535 % (l.length:Int)).toNat R6 else R6
def aqZ(I:Ar)(a:KR)(tl:List dN)(l:List dY)(E:List dN)(c:List dY)(cS:Int)(sh:dN):Prop:=
 (a.kind=2/\oV a l c cS={a.p with cut:=a.p.cut.take 22}/\∃gc:SV,sh=⟨a.p.kind,a.p.t,a.p.i,gc⟩/\∀B,eN (λ_=>True) B (j6 I.p.cut) a.p.cut->eN (λ_=>True) B (j6 gc) (a.p.cut.take 22))\/
 (∃j:Nat,tl[j]?=some sh/\l[j]?=some (oV a l c cS))\/(∃j:Nat,E[j]?=some sh/\c[j]?=some (oV a l c cS))\/(sh=⟨0,0,0,bL⟩/\oV a l c cS=R6)
theorem Hv{x y:dY}:x=y↔x.kind=y.kind/\x.t=y.t/\x.i=y.i/\x.cut=y.cut:=by
 cases x;cases y;simp
def EL{α:Type}{xs ys:List α}{k:Nat}{x y:α}(h:xs.take k=ys.take k)(E:xs[k]?=some x)(B:ys[k]?=some y)(e:x=y):xs.take (k+1)=ys.take (k+1):=by
 rw[<- ja E,<- ja B,h,e]
def amn{α:Type}{xs ys:List α}{k:Nat}{x y:α}(E:xs[k]?=some x)(B:ys[k]?=some y)(e:x≠y):xs≠ys:=λh=>by
 grind
theorem getD_some{α:Type}{xs:List α}{k:Nat}{x d:α}(h:xs[k]?=some x):xs.getD k d=x:=eS
def St.l4{w0 w w':World}{A:Nat->Prop}{L:List HP}{Φ:jj}(B:St w0 A (Fw.fB Φ::L) w)(e:Ext w w'):Φ w':=by
 obtain⟨F,h,_⟩:=B.head
 exact h.1 w' λb hb=>e.cI b (h.2 b hb) λx=>x
def C50(av W:Value)(xs ys:List Bool)(w:World)(O:eN (λ_=>True) w av xs)(hB:eN (λ_=>True) w W ys)(hn:xs.length<=1073741824):CR 50 [av,W] w (λv w'=>v=.bool (decide (xs=ys))/\Ext w w'):=by
 have B:=St.start w;refine uT Tryz.func50 (pl:=P50) ?_;refine aI vl (O.ext B.aE) (aI vl (hB.ext B.aE) (bQ (aC (λU=>⟨vb (gD λh=>by rw[h]at U;exact absurd rfl U).symm,B.aE⟩) λU=>?_)));refine⟨λV i w'=>∃k:Nat,i=jK (k:Int)/\V=xs.length-k/\k<=xs.length/\xs.take k=ys.take k/\St w aY [] w',⟨_,0,rfl,rfl,o6 _,rfl,B⟩,?_⟩;rintro V _ _ ⟨k,rfl,rfl,hk,E,B⟩ _;refine aI vl (O.ext B.aE) (aK (aC (λkn=>?_) λ_=>⟨vb (gq (by rw[mE cW,mE cW]at E;exact E)).symm,B.aE⟩))
 obtain⟨iO,J⟩:=gx xs (i:=(k:Int).toNat) cW;refine aQ vl O cW J (λ_ jS=>have B:=B.drew;aF OJ (jS.ext B.aE) ?_);obtain⟨qP,I⟩:=gx ys (i:=(k:Int).toNat) cW;exact aQ vl hB cW I (λ_ oC=>aF OJ (oC.ext B.aE) (tz Pt (aW (λM=>⟨vb (gD (amn J I (by simpa using M))).symm,B.aE⟩) λM=>aN cW ⟨_,cW,k+1,rfl,rfl,cW,EL E J I (by simpa using M),B⟩)))
def C20(av bv:Value)(xs ys:List dY)(w:World)(hA:DL w av xs)(hB:DL w bv ys)(hn:xs.length<=1073741824)(hc:∀x∈xs,x.cut.length<=1000000):CR 20 [av,bv] w (λv w'=>v=.bool (decide (xs=ys))/\Ext w w'):=by
 have B:=St.start w;refine uT Tryz.func20 (pl:=P20) ?_;obtain⟨ayB,O,amo⟩:=hA.open;have ayC:=amo.1;refine aI mq (O.ext B.aE) ?_;obtain⟨ayD,R7,U⟩:=hB.open;have hn133:=U.1;refine aI mq (R7.ext B.aE) (bQ (aC (λ_=>⟨vb (gD λh=>by rw[h]at ayC;omega).symm,B.aE⟩) λiE=>?_));refine⟨λmm i w'=>∃k:Nat,i=jK (k:Int)/\mm=xs.length-k/\k<=xs.length/\xs.take k=ys.take k/\St w aY [] w',⟨_,0,rfl,rfl,o6 _,rfl,B⟩,?_⟩;rintro mm _ _ ⟨k,rfl,rfl,hk,I,B⟩ _;refine aI mq (O.ext B.aE) (aK (aC (λkn=>?_) λ_=>⟨vb (gq (by rw[mE cW,mE cW]at I;exact I)).symm,B.aE⟩))
 obtain⟨ra,M⟩:=gx xs (i:=k) cW;obtain⟨rb,J⟩:=gx ys (i:=k) cW;refine⟨λjv w'=>jv=.bool (!decide (ra=rb))/\St w aY [] w',?_,?_⟩
 .obtain⟨iO,W⟩:=gx ayB (i:=(k:Int).toNat) cW;obtain⟨dZ,po⟩:=gx xs (i:=(k:Int).toNat) cW;obtain⟨Zh,rfl,Zi⟩:=amo.2 _ _ _ W po;refine aQ mq O cW W (λ_ jS=>bO dZ.kind nV jS rfl rfl λ_ Jn=>have B:=B.drew;aF aV (Jn.ext B.aE) ?_);obtain⟨jH,V⟩:=gx ayD (i:=(k:Int).toNat) cW;obtain⟨Gp,AQ⟩:=gx ys (i:=(k:Int).toNat) cW;obtain⟨Zj,rfl,Zk⟩:=U.2 _ _ _ V AQ;refine aQ mq R7 cW V (λ_ vz=>bO Gp.kind nV vz rfl rfl λ_ vJ=>aF aV (vJ.ext B.aE) ?_)
  have E:ra=dZ:=qa.inj (M.symm.trans po);have Mi:rb=Gp:=qa.inj (J.symm.trans AQ);have hcx:=hc _ (ld po);refine bQ (aC (λ_=>⟨vb (by rw[E,Mi];rw[gD λh=>by rw[Hv]at h;omega];rfl),B⟩) λiV=>aQ mq O cW W λ_ nf=>bO dZ.t jw nf rfl rfl λ_ AH=>aF aV (AH.ext B.aE) (aQ mq R7 cW V λ_ ya=>bO Gp.t jw ya rfl rfl λ_ rD=>aF aV (rD.ext B.aE) (bQ (aC (λ_=>⟨vb (by rw[E,Mi];rw[gD λh=>by rw[Hv]at h;omega];rfl),B⟩) λzC=>aQ mq O cW W λ_ yh=>bO dZ.i rh yh rfl rfl λ_ IX=>aF aV (IX.ext B.aE) (aQ mq R7 cW V λ_ yd=>bO Gp.i rh yd rfl rfl λ_ IE=>aF aV (IE.ext B.aE) (bQ (aC (λ_=>⟨vb (by rw[E,Mi];rw[gD λh=>by rw[Hv]at h;omega];rfl),B⟩) λvF=>aQ mq O cW W λ_ AI=>bO Zh qh AI rfl rfl λ_ D4=>aF cZ (D4.ext B.aE) ?_)))))))
  have ayE:=DL.flat Zi;refine aQ mq R7 cW V (λ_ Jo=>bO Zj qh Jo rfl rfl λ_ Qw=>aF cZ (Qw.ext B.aE) ?_);have ayF:=DL.flat Zk;exact aZ O8 B (C21 _ _ dZ.cut Gp.cut _ (ayE.ext B.aE) (ayF.ext B.aE) cW) (λ_ _ B=>bV ⟨vb (by rw[E,Mi];exact hM (λb=>!b) (hI.2 (by rw[Hv];exact⟨λh=>⟨cW,cW,cW,h⟩,λh=>h.2.2.2⟩))),B⟩)
 rintro _ _ ⟨rfl,B⟩ _;exact aW (λvu=>⟨vb (gD (amn M J (by simpa using vu))).symm,B.aE⟩) (λvu=>aN cW ⟨_,cW,k+1,rfl,rfl,cW,EL I M J (by simpa using vu),B⟩)
def C24(a:KR)(av:Ar)(lv cv:Value)(E:List dN)(l:List dY)(I:List dN)(c:List dY)(cS:Int)(w:World)(ha:py w av a)(J:eN (λ_=>True) w lv E)(hD8:jF E l w)(Yl:eN (λ_=>True) w cv I)(W:jF I c w)(hl1:l.length<=1073741824)(uQ:c.length<=1073741824):CR 24 [j6 av,lv,cv,jK cS] w (λv w'=>∃sh:dN,v=j6 sh/\Ext w w'/\aqZ av a E l I c cS sh):=by
 obtain⟨g_p_a,rfl,ayG⟩:=ha;obtain⟨U,rfl,Zl⟩:=ayG;have hn8:=hD8.1;have hn9:=W.1;have hAn:=Cy a.n (b:=65535) cW cW;have B:=St.start w;refine lx Tryz.func24 ?_;have M:=DL.flat Zl;refine cU (x:=(⟨a.kind,a.n,(⟨a.p.kind,a.p.t,a.p.i,U⟩:dN)⟩:Ar)) B (λb_a4 _ B=>aR B CA λFg w2 B=>have B:=B.enc (cs':=kp (⟨0,0,0,bL⟩:dN)) rfl;aA agX (aB (v:=jK a.n) aV B.p1.hb rfl (VO dO dO (aA Nl (aB (v:=jK a.kind) aV B.p1.hb rfl (aH (aC (λO=>?_) λO=>⟨λjv w'=>jv=.bool (decide (a.kind=1/\cS<2/\0<(c.length:Int)))/\w2=w',aA Nl (aB (v:=jK a.kind) aV B.p1.hb rfl (aH (aC (λ_=>aK (aC (λ_=>aI mq (Yl.ext B.aE) (cG ⟨uS cW,rfl⟩)) λ_=>⟨jvF cW,rfl⟩)) λ_=>⟨jvF cW,rfl⟩))),?_⟩)))))))
 .refine aA Nm (uJ (⟨a.p.kind,a.p.t,a.p.i,U⟩:dN) ot B.p1.hb rfl (aR B CA λb_p10 _ B=>have B:=B.enc (cs':=kp (⟨0,0,0,bL⟩:dN)) rfl;aO (x:=(⟨a.p.kind,a.p.t,a.p.i,U⟩:dN)) B ot rfl rfl λ_ B=>aA Nm (aA qh (aB (v:=j6 (U:SV)) cZ B.p2.hb rfl (aA Nm (aA qh (aB (v:=j6 (U:SV)) cZ B.p2.hb rfl (aI cE (M.ext B.aE) (yN (lI cE (M.ext B.aE) cW cW λQi Fp=>?_))))))))));have Tz:=Fp _ M;refine aA qh ?_
  obtain⟨V,rfl⟩:=Tz.gE;exact aS B cZ (dV rfl) (rfl) (λ_ B=>have B:=B.enc (cs':=kp (⟨a.p.kind,a.p.t,a.p.i,V⟩:dN)) rfl;aF ot B.At (aO (x:=(⟨a.p.kind,a.p.t,a.p.i,V⟩:dN)) B.p1 ot rfl rfl λ_ B=>aF ot B.At ⟨_,rfl,B.aE,.inl ⟨O,fV O,_,rfl,λw2 h=>by have h3:=Fp w2 h;have e:=YB a.p.cut 22;rw[show((22:Nat):Int)=22 from rfl]at e;rwa [e]at h3⟩⟩))
 rintro _ _ ⟨rfl,hw⟩ _;subst hw;refine aC (λkN=>?_) (λkN=>aI mq (J.ext B.aE) (cG (aC (λum=>?_) λ_=>pop (v:=j6 (⟨0,0,0,bL⟩:dN)) (by kernel_rfl) (aO (x:=(⟨0,0,0,bL⟩:dN)) B ot rfl rfl λ_ B=>aF ot B.At ⟨⟨0,0,0,bL⟩,rfl,B.aE,.inr (.inr (.inr ⟨rfl,by unfold oV;rw[fU O,fU cW,fU cW]⟩))⟩))))
 .have aG2:=abZ (wm a.n 65535) (show(I.length:Int)≠0 by omega);have aG3:=aaS (wm a.n 65535) (show(0:Int)<I.length by omega);refine aI mq (Yl.ext B.aE) (VN cW cW ?_);obtain⟨e_x47,U3⟩:=gx I (i:=((wm a.n 65535) % (I.length:Int)).toNat) cW;obtain⟨XC,JA⟩:=gx c (i:=((wm a.n 65535) % (I.length:Int)).toNat) cW;obtain⟨Zm,rfl,ash⟩:=W.2 _ _ _ U3 JA;refine aQ mq Yl cW U3 (λ_ AB=>aF ot (AB.ext B.aE) (aO (x:=(⟨XC.kind,XC.t,XC.i,Zm⟩:dN)) B ot rfl rfl λ_ B=>aF ot B.At ?_))
  have hq:oV a l c cS=XC:=by unfold oV;rw[fU O,fV cW,getD_some (by rw[<- hn9];exact JA)]
  exact⟨_,rfl,B.aE,.inr (.inr (.inl ⟨_,U3,by rw[hq];exact JA⟩))⟩
 have aG2:=abZ (wm a.n 65535) (show(E.length:Int)≠0 by omega);have aG3:=aaS (wm a.n 65535) (show(0:Int)<E.length by omega);refine aI mq (J.ext B.aE) (VN cW cW ?_);obtain⟨QJ,sN⟩:=gx E (i:=((wm a.n 65535) % (E.length:Int)).toNat) cW;obtain⟨tQ,vL⟩:=gx l (i:=((wm a.n 65535) % (E.length:Int)).toNat) cW;obtain⟨Zn,rfl,asi⟩:=hD8.2 _ _ _ sN vL;refine aQ mq J cW sN (λ_ AI=>aF ot (AI.ext B.aE) (aO (x:=(⟨tQ.kind,tQ.t,tQ.i,Zn⟩:dN)) B ot rfl rfl λ_ B=>aF ot B.At ?_))
 have hq:oV a l c cS=tQ:=by unfold oV;rw[fU O,fU cW,fV cW,getD_some (by rw[<- hn8];exact vL)]
 exact⟨_,rfl,B.aE,.inr (.inl ⟨_,sN,by rw[hq];exact vL⟩)⟩
def BS:ByteArray:=⟨#[108,105,110,101,32,97,59,32,118,111,108,32,120,59,32,108,111,99,107,32,109,59,32,116,104,114,101,97,100,32,116,32,123,32,114,101,103,32,114,59,32,115,116,111,114,101,32,97,32,61,32,49,59,32,108,111,97,100,32,114,32,61,32,97,59,32,111,112,116,32,97,59,32,116,97,107,101,32,109,59,32,125,32,116,104,114,101,97,100,32,117,32,123,32,114,101,103,32,114,59,32,108,111,97,100,32,114,32,61,32,97,59,32,99,104,101,99,107,32,114,59,32,125,32,114,101,99,111,118,101,114,32,123,32,125,32,97,108,119,97,121,115,32,97,32,61,61,32,49,59]⟩
def zU:dM:=((we BS).getD (RO,0,0)).1
def Zo:we BS=some (zU,0,0):=by decide +kernel
def MF:jL zU=0:=by decide +kernel
def Li:iz:=⟨[0,1],1,[0,0],1,[⟨1,0,[⟨3,0,0,[⟨1,1⟩],[],0⟩,⟨2,0,0,[],[],0⟩,⟨6,0,0,[],[],0⟩,⟨9,0,0,[],[],0⟩]⟩,⟨1,0,[⟨2,0,0,[],[],0⟩,⟨15,0,0,[⟨2,0⟩],[],0⟩]⟩],⟨0,0,[]⟩,[[⟨2,0⟩,⟨1,1⟩,⟨10,0⟩]]⟩
theorem EM:fL zU=Li:=by decide +kernel
def Zp:((yt BS).map λr=>decide (r.1.length<=5000)&&r.1.all λx=>decide (0<=x.at_/\x.at_<=1000000/\x.text.size<=1000000))=some true:=by decide +kernel
def aet:∀l e a,yt BS=some (l,e,a)->kz l:=by
 intro l e a h
 have:=Zp
 rw[h]at this
 simp only[F1,qa.injEq,oG,decide_eq_true_eq,Im]at this
 exact⟨this.1,λx B=>this.2 x B⟩
theorem aji:sb zU=zU:=by decide +kernel
def aq2:PZ zU:=by rw[<- aji];exact Ww _
def Oy:Fq zU:=Ja MF
def U4:List fR:=Li.threads.map λc=>(sB 20 (oR c)).getD (oR c)
def aq3:Li.threads.all (λc=>(sB 20 (oR c)).isSome)=true:=by decide +kernel
def MG:sU 20 Li.threads U4:=by
 refine⟨by unfold U4;rw[qE],λj c t hc ht=>?_⟩
 unfold U4 at ht
 rw[uO,hc,F1]at ht
 have h:=Im.1 aq3 c (ld hc)
 obtain⟨B,h2⟩:=VZ.1 h
 rw[h2]at ht
 rw[h2];exact ht
def fx0:gQ:=j3 (jh Li 2) U4
def zw(m:gQ)(q:dY):gQ×bU×Int:=(ET 20 m q).getD (m,⟨0,0,0,0,0⟩,99)
theorem pC{m:gQ}{q:dY}{ev:bU}{e:Int}(h:(zw m q).2=(ev,e))(B:e≠99):ET 20 m q=some ((zw m q).1,ev,e):=by
 unfold zw at h |-
 cases hd:ET 20 m q with
 | none=>rw[hd]at h;cases h;exact absurd rfl B
 | some r=>rw[hd]at h;show some r=some (r.1,ev,e);rw[show r=(r.1,r.2)from rfl,show r.2=(ev,e)from h]
def R8:dY:=⟨1,0,0,[]⟩
def pOt:dY:=⟨1,1,0,[]⟩
def pOu:dY:=⟨2,0,0,[]⟩
def pCr:dY:=⟨3,0,0,[1]⟩
def fx1:gQ:=(zw fx0 R8).1
def fx2:gQ:=(zw fx1 R8).1
def fx3:gQ:=(zw fx2 pOt).1
def fx4:gQ:=(zw fx3 pOu).1
def fx5:gQ:=(zw fx4 R8).1
def fx6:gQ:=(zw fx5 R8).1
def fx7:gQ:=(zw fx6 pCr).1
def fxo:gQ:=(zw fx6 pOt).1
def fd1:(zw fx0 R8).2=(⟨3,0,0,1,0⟩,0):=by decide +kernel
def fd2:(zw fx1 R8).2=(⟨2,0,0,1,0⟩,0):=by decide +kernel
def fd3:(zw fx2 pOt).2=(⟨1,1,0,0,0⟩,0):=by decide +kernel
def fd4:(zw fx3 pOu).2=(⟨12,0,0,1,0⟩,0):=by decide +kernel
def fd5:(zw fx4 R8).2=(⟨5,0,0,0,0⟩,0):=by decide +kernel
def fd6:(zw fx5 R8).2=(⟨0,0,0,0,0⟩,13):=by decide +kernel
def fd7:(zw fx6 pCr).2=(⟨15,0,0,1,0⟩,0):=by decide +kernel
def fdo:(zw fx6 pOt).2=(⟨16,1,1,0,0⟩,0):=by decide +kernel
theorem fp2:cT fx2=[R8,pOu,pOt]:=by decide +kernel
theorem ayH:wT fx7=[true]:=by decide +kernel
theorem fpo:cT fxo=[]:=by decide +kernel
theorem fco:jC fxo=[]:=by decide +kernel
theorem fro:zG fxo 0=[1]:=by decide +kernel
theorem fr2:zG fxo 2=[]:=by decide +kernel
theorem fl7:fx7.mem.l=[1,0]:=by decide +kernel
theorem fk7:fx7.mem.kept=[1]:=by decide +kernel
theorem frt:iY Jb=false:=by decide +kernel
structure A7(p:dM)(m:gQ)(n:Nat):Prop where
 pm:PM p m
 mb:MB m.mem n
 cr:m.cS<=n
def A7.do{p:dM}{m m2:gQ}{n N:Nat}{q:dY}{ev:bU}{e:Int}(h:A7 p m n)(hd:ET N m q=some (m2,ev,e)):A7 p m2 (n+1):=
 ⟨h.pm.do hd,h.mb.do hd,by have:=(Ke hd).1;have:=h.cr;omega⟩
def A7.new{p:dM}{N:Nat}{room:Int}{mv:List fR}(h:Fq p)(hb:sU N (fL p).threads mv)(ht:∀t∈mv,Ht p t)(B:1<=room/\room<=16):A7 p (j3 (jh (fL p) room) mv) 0:=
 ⟨PM.new h hb ht B,MB.new,z7 _⟩
section
variable {p:dM}{K:jj}{q:Nat}{m:gQ}{n:Nat}{w:World}
theorem ayI(h:A7 p m n)(E:Has (fN K q m) w)(I:K w)(B:∀w',Ext w w'->K w'):Calls ji 16 [(.pointer (some ⟨q,0,none⟩))].toArray w (qZ λv w'=>mr (fW v (cT m)) w w'):=C16 K q m w E I B h.pm.gm.ok
theorem ayJ(h:A7 p m n)(E:Has (fN K q m) w)(I:K w)(B:∀w',Ext w w'->K w'):Calls ji 18 [(.pointer (some ⟨q,0,none⟩))].toArray w (qZ λv w'=>v=j6 (ny m)/\Ext w w'):=C18 K q m w E I B h.pm.gm.ok
theorem ayK(h:A7 p m n)(I:n<=1000000)(E:Has (fN K q m) w)(J:K w)(B:∀w',Ext w w'->K w'):Calls ji 19 [(.pointer (some ⟨q,0,none⟩))].toArray w (qZ λv w'=>∃b,v=.pointer (some ⟨b,0,none⟩)/\mr (fN K b m) w w'):=C19 K q m w E J B h.pm.gm.ok (h.mb.mono I) (by have:=h.pm.gm.ru.lk;omega)
theorem aG7(h:A7 p m n)(E:Has (fN K q m) w)(I:K w)(B:∀w',Ext w w'->K w'):Calls ji 22 [(.pointer (some ⟨q,0,none⟩))].toArray w (qZ λv w'=>mr (bE v m.mem.l) w w'):=C22 K q m w E I B h.pm.gm.ok
theorem aG8(h:A7 p m n)(E:Has (fN K q m) w)(I:K w)(B:∀w',Ext w w'->K w'):Calls ji 23 [(.pointer (some ⟨q,0,none⟩))].toArray w (qZ λv w'=>mr (bE v m.mem.kept) w w'):=C23 K q m w E I B h.pm.gm.ok
theorem GM.rgl(h:GM m):∀t∈m.l,t.aJ.length<=4:=λt ht=>by
 have h1:=(h.th t ht).1.rg;have h2:=(h.code ht).rb;omega
theorem ayL(i:Int)(h:A7 p m n)(E:Has (fN K q m) w)(I:K w)(B:∀w',Ext w w'->K w'):Calls ji 25 [(.pointer (some ⟨q,0,none⟩)),jK i].toArray w (qZ λv w'=>mr (bE v (zG m i)) w w'):=C25 K q m i w E I B h.pm.gm.ok λt ht=>by have:=h.pm.gm.rgl t ht;omega
theorem ayM(h:A7 p m n)(J:n<=1000000)(I:(dD (r7 m.mem)).length<=1000000000)(E:Has (fN K q m) w)(M:K w)(B:∀w',Ext w w'->K w'):Calls ji 31 [(.pointer (some ⟨q,0,none⟩))].toArray w (qZ λv w'=>mr (fW v (jC m)) w w'):=C31 K q m w E M B h.pm.gm.ok (h.mb.mono J) I
theorem aG9(h:A7 p m n)(E:Has (fN K q m) w)(I:K w)(B:∀w',Ext w w'->K w'):Calls ji 49 [(.pointer (some ⟨q,0,none⟩))].toArray w (qZ λv w'=>mr (bE v (wT m)) w w'):=by
 have h1:=h.pm.gm.ru.st;have h2:=h.pm.gm.ru.fl;have h3:=h.pm.gm.mem.ll;have h4:=h.pm.gm.cO
 exact C49 K q m w E I B h.pm.gm.ok h.pm.gm.uz.cD h.pm.gm.uz.cl ⟨h1.1,by rw[h3,h4];omega⟩
theorem Lj{N:Nat}{k:dY}{gc:SV}{m2:gQ}{ev:bU}{e:Int}{F:Nat->Prop}(h:A7 p m n)(I:n<=1000000)(hd:ET N m k=some (m2,ev,e))(B:k.cut.length<=1000)(M:(fN K q m).p w F)(J:∀w',js F w w'->K w')(E:∀w',js F w w'->eN (λ_=>True) w' (j6 gc) k.cut) :
  Calls ji 17 [(.pointer (some ⟨q,0,none⟩)),j6 (⟨k.kind,k.t,k.i,gc⟩:dN)].toArray w (qZ λv w'=>v=.tuple #[j6 ev,jK e]/\pk F (fN K q m2) w w'):=
 C17 K q m N k gc m2 ev e F w M J h.pm.gm.ok (h.mb.mono I) ⟨h.pm.gm.cr,by have:=h.cr;omega⟩ (h.pm.gm.ru.rc.ok h.pm.gm.uz.rc) (by have:=h.pm.gm.ru.lk;omega) E B hd
theorem ayN(u:iz)(B:dH)(room:Int)(N:Nat)(mv:List fR)(E:py w B u)(I:UZ u)(J:iY u=true)(M:Mk N u mv)(h1:1<=room)(h2:room<=16):Calls ji 15 [j6 B,jK room].toArray w (qZ λv w'=>∃K p,v=.tuple #[.pointer (some ⟨p,0,none⟩),jK 0]/\mr (sep (fN K p (j3 (jh u room) mv)) (fB K)) w w'):=
 (C15 u B room N mv w E I λ_=>M).mono λ_ _ r=>r.mono λ_ _ h=>by
  rcases h with⟨h3,_⟩|⟨_,h3,_⟩|⟨_,_,_,h3⟩
  .rw[J]at h3;cases h3
  .omega
  .exact h3
theorem ayO(B:dH)(room:Int)(I:py w B Jb):Calls ji 15 [j6 B,jK room].toArray w (qZ λv w'=>v=.tuple #[.pointer none,jK 8]/\Ext w w'):=
 (C15 Jb B room 0 [] w I ⟨dO,dO,dO,dO,λc hc=>(by cases hc),⟨dO,λx E=>(by cases E)⟩,λl J=>(by cases J)⟩ λh=>by rw[frt]at h;cases h).mono λ_ _ r=>r.mono λ_ _ h=>by
  rcases h with⟨_,h3⟩|⟨h3,_⟩|⟨h3,_⟩
  .exact h3
  .rw[frt]at h3;cases h3
  .rw[frt]at h3;cases h3
end
def aeu{p:dM}{N:Nat}{mv:List fR}(h:Fq p)(hb:sU N (fL p).threads mv):∀t∈mv,Ht p t:=by
 intro t ht
 obtain⟨i,J⟩:=pB ht
 have U:=(l0.1 J).1
 obtain⟨c,hc⟩:∃c,(fL p).threads[i]?=some c:=⟨_,nT (by rw[<- hb.1];exact U)⟩
 have O:=hb.2 i c t hc J
 have M:=ld hc
 obtain⟨tt,B,rfl⟩:=r5.1 (show c∈p.threads.map (oH p)from M)
 obtain⟨b,E,_⟩:=Ow h (List.mem_append_left p.recover B)
 have I:=rY (wZ h).1
 have V:Ht p (oR (oH p tt)):=⟨b,tt.aJ,λg=>by obtain⟨r,h1,_⟩:=Hu E (I.th _ M).cb.1 g;exact⟨r,h1⟩⟩
 exact V.go O
def ayP:A7 zU fx0 0:=by
 have hb:sU 20 (fL zU).threads U4:=by rw[EM];exact MG
 have:=A7.new (room:=2) Oy hb (aeu Oy hb) dO
 rw[EM]at this;exact this
def ayQ:A7 zU fx1 1:=ayP.do (pC fd1 dO)
theorem ajm:A7 zU fx2 2:=ayQ.do (pC fd2 dO)
def ayR:A7 zU fx3 3:=ajm.do (pC fd3 dO)
def ayS:A7 zU fx4 4:=ayR.do (pC fd4 dO)
def ayT:A7 zU fx5 5:=ayS.do (pC fd5 dO)
def aev:A7 zU fx6 6:=ayT.do (pC fd6 dO)
def ajn:A7 zU fx7 7:=aev.do (pC fd7 dO)
def aew:A7 zU fxo 7:=aev.do (pC fdo dO)
def aHa:(dD (r7 fxo.mem)).length<=1000000000:=by decide +kernel
def Oz:iY Li=true/\UZ Li:=by have:=wZ Oy;rw[EM]at this;exact this
def ajo:Mk 20 Li U4:=Kd (rY Oz.1) Oz.2 MG
def ajp(w:World):jF [(⟨1,0,0,bL⟩:dN),⟨2,0,0,bL⟩,⟨1,1,0,bL⟩] [R8,pOu,pOt] w:=by
 have h1:jF ([]++[(⟨1,0,0,bL⟩:dN)]) ([]++[R8]) w:=jF.nil.snoc ⟨_,rfl,DL.nil w⟩
 have h2:jF ([]++[(⟨1,0,0,bL⟩:dN)]++[⟨2,0,0,bL⟩]) ([]++[R8]++[pOu]) w:=h1.snoc ⟨_,rfl,DL.nil w⟩
 exact h2.snoc ⟨_,rfl,DL.nil w⟩
theorem MH{p:dM}{m:gQ}{n:Nat}(_:A7 p m n):∀x∈cT m,x.cut=[]:=by
 intro x E
 unfold cT at E
 split at E
 .cases E
 obtain⟨i,t,_,_,B⟩:=wS E
 unfold sS at B
 rw[r3]at B
 rcases B with B|B
 .split at B
  .simp at B;rw[B]
  cases B
 rw[r5]at B;obtain⟨k,_,rfl⟩:=B;rfl
def aq5(s:ByteArray)(p:dM)(e a:Int)(w:World)(E:s.size<=1000000)(M:we s=some (p,e,a))(I:∀l e a,yt s=some (l,e,a)->kz l)(J:PZ p)(hc:jL p=0) :
  Calls ji 48 [.string s].toArray w (qZ λv w'=>∃B:dH,v=j6 B/\mr (fB λw=>py w B (fL p)) w w'):=
 (C48 s (p,e,a) w E M I J).mono λ_ _ r=>r.mono λv w' h=>by
  obtain⟨B,h1,h2⟩:=h
  refine⟨B,h1,?_⟩
  have e1:(if jL p=0 then fL p else Jb)=fL p:=fV hc
  have h3:mr (fB λw=>py w B (if jL p=0 then fL p else Jb)) w w':=h2
  rw[e1]at h3;exact h3
def ayU(w:World):Calls ji 48 [.string BS].toArray w (qZ λv w'=>∃B:dH,v=j6 B/\mr (fB λw=>py w B Li) w w'):=by
 rw[<- EM]
 exact aq5 BS zU 0 0 w (by decide +kernel) Zo aet aq2 MF
set_option maxRecDepth 100000 in
theorem C14(w:World):CR 14 [] w (λv w'=>v=.bool true/\Ext w w'):=by
 have B:=St.start w;refine amI _ _ ?_;unfold S14;refine eR aBK (ayU _) ?_;rintro _ _ ⟨aq6,rfl,J⟩;have B:=B.made J;refine eR amN (ayN Li aq6 2 20 U4 B.fB Oz.2 Oz.1 ajo dO dO) ?_;rintro _ _ ⟨K,p,rfl,J⟩;have B:=(B.made J).split;refine bD rfl (bD rfl (pop (v:=j6 (⟨bL,0,bL,0,bL,(⟨0,0,bL⟩:bY),bL⟩:dH)) (by kernel_rfl) (have B:=B.p2.drop;aZ amN B (ayO (⟨bL,0,bL,0,bL,(⟨0,0,bL⟩:bY),bL⟩:dH) 2 (show py _ (⟨bL,0,bL,0,bL,(⟨0,0,bL⟩:bY),bL⟩:dH) (⟨[],0,[],0,[],(⟨0,0,[]⟩:gp),[]⟩:iz)from⟨_,_,_,_,_,rfl,DL.nil _,DL.nil _,DL.nil _,⟨_,rfl,DL.nil _⟩,DL.nil _⟩)) λ_ O B=>bD rfl (bD rfl ?_))))
 refine⟨_,?_,λ_ _ h=>h⟩;refine z9 VP (fM (bQ ?_));intro _;refine fI dO (pop (Np _) (pop (E9 _ _) (aR B CA λaAV _ B=>have B:=B.enc (cs':=kp (⟨0,0,0,bL⟩:dN)) rfl;aR B CA λayV _ B=>have B:=B.enc (cs':=kp (⟨0,0,0,bL⟩:dN)) rfl;aO (x:=(⟨1,0,0,bL⟩:dN)) B.p1 ot rfl rfl λ_ B=>aO (x:=(⟨1,1,0,bL⟩:dN)) B.p1 ot rfl rfl λ_ B=>aF ot B.p1.At (bI KJ B.p2 (H':=λ_=>fN K p fx1) (Φ:=λv _=>v=.tuple #[j6 (⟨3,0,0,1,0⟩:bU),jK 0]) (λM I E=>?_) ?_))))
 .exact Lj (N:=20) (k:=R8) (gc:=bL) ayP dO (pC fd1 dO) dO I (λw' hc=>((E w' hc).p2).fB) (λw' _=>(eN.nil (λ_=>True) w'))
 rintro _ _ rfl B;refine bD rfl (bD rfl (aR B kV λb_a7 _ B=>aO (x:=(⟨3,0,0,1,0⟩:bU)) B eV rfl rfl λ_ B=>aF ot B.p3.At (bI KJ B.p1 (H':=λ_=>fN K p fx2) (Φ:=λv _=>v=.tuple #[j6 (⟨2,0,0,1,0⟩:bU),jK 0]) (λM I E=>?_) ?_)))
 .exact Lj (N:=20) (k:=R8) (gc:=bL) ayQ dO (pC fd2 dO) dO I (λw' hc=>((E w' hc).p3).fB) (λw' _=>(eN.nil (λ_=>True) w'))
 rintro _ _ rfl B;refine bD rfl (bD rfl (aR B kV λb_b9 _ B=>aO (x:=(⟨2,0,0,1,0⟩:bU)) B eV rfl rfl λ_ B=>dF MZ B (ayI ajm B.p1.has B.p5.fB λ_ e=>St.l4 B.p5 e) λx57 _ J B=>aF ot B.p4.At (bI KJ B.p2 (H':=λ_=>fN K p fx3) (Φ:=λv _=>v=.tuple #[j6 (⟨1,1,0,0,0⟩:bU),jK 0]) (λM I E=>?_) ?_)))
 .exact Lj (N:=20) (k:=pOt) (gc:=bL) ajm dO (pC fd3 dO) dO I (λw' hc=>((E w' hc).p5).fB) (λw' _=>(eN.nil (λ_=>True) w'))
 rintro _ _ rfl B;refine bD rfl (bD rfl (aR B kV λb_c12 _ B=>aO (x:=(⟨1,1,0,0,0⟩:bU)) B eV rfl rfl λ_ B=>pop (Np _) (bI KJ B.p1 (H':=λ_=>fN K p fx4) (Φ:=λv _=>v=.tuple #[j6 (⟨12,0,0,1,0⟩:bU),jK 0]) (λM I E=>?_) ?_)))
 .exact Lj (N:=20) (k:=pOu) (gc:=bL) ayR dO (pC fd4 dO) dO I (λw' hc=>((E w' hc).p6).fB) (λw' _=>(eN.nil (λ_=>True) w'))
 rintro _ _ rfl B;refine bD rfl (bD rfl (aR B kV λb_d14 _ B=>aO (x:=(⟨12,0,0,1,0⟩:bU)) B eV rfl rfl λ_ B=>aF ot B.p7.At (bI KJ B.p1 (H':=λ_=>fN K p fx5) (Φ:=λv _=>v=.tuple #[j6 (⟨5,0,0,0,0⟩:bU),jK 0]) (λM I E=>?_) ?_)))
 .exact Lj (N:=20) (k:=R8) (gc:=bL) ayS dO (pC fd5 dO) dO I (λw' hc=>((E w' hc).p7).fB) (λw' _=>(eN.nil (λ_=>True) w'))
 rintro _ _ rfl B;refine bD rfl (bD rfl (aF ot B.p7.At (bI KJ B (H':=λ_=>fN K p fx6) (Φ:=λv _=>v=.tuple #[j6 (⟨0,0,0,0,0⟩:bU),jK 13]) (λM I E=>?_) ?_)))
 .exact Lj (N:=20) (k:=R8) (gc:=bL) ayT dO (pC fd6 dO) dO I (λw' hc=>((E w' hc).p7).fB) (λw' _=>(eN.nil (λ_=>True) w'))
 rintro _ _ rfl B;refine bD rfl (bD rfl (aR B kV λW _ B=>aO (x:=(⟨0,0,0,0,0⟩:bU)) B eV rfl rfl λ_ B=>eR asP (ayK aev dO B.p1.has B.p9.fB λ_ e=>St.l4 B.p9 e) ?_));rintro _ _ ⟨ayW,rfl,J⟩;have B:=B.made J;refine bJ ([1]:List Int) B cE rfl rfl (dV rfl) (λs_x86 _ B=>?_);obtain⟨V,rfl⟩:=B.gE;refine pop (Fa _ _ _ _) (bI KJ B.p3 (H':=λ_=>fN K p fx7) (Φ:=λv _=>v=.tuple #[j6 (⟨15,0,0,1,0⟩:bU),jK 0]) (λM I E=>?_) ?_)
 .exact Lj (N:=20) (k:=pCr) (gc:=V) aev dO (pC fd7 dO) dO I (λw' hc=>((E w' hc).uU).fB) (λw' hc=>(E w' hc).fu)
 rintro _ _ rfl B;refine bD rfl (bD rfl (aR B kV λb_k19 _ B=>aO (x:=(⟨15,0,0,1,0⟩:bU)) B eV rfl rfl λ_ B=>have B:=B.p2.drop.p3.drop;aZ amO B (ayJ ajn B.p1.has B.uU.fB λ_ e=>St.l4 B.uU e) λ_ O B=>dF asY B (aG9 ajn B.p1.has B.uU.fB λ_ e=>St.l4 B.uU e) λx94 _ J B=>aR B E7 λb_s21 _ B=>aO (x:=(ny fx7)) B GD rfl rfl λ_ B=>z9 VP (fM (aF ot B.uU.At (bI KJ B.p4 (H':=λ_=>fN K ayW fxo) (Φ:=λv _=>v=.tuple #[j6 (⟨16,1,1,0,0⟩:bU),jK 0]) (λM I E=>?_) ?_)))))
 .exact Lj (N:=20) (k:=pOt) (gc:=bL) aev dO (pC fdo dO) dO I (λw' hc=>((E w' hc).p11).fB) (λw' _=>(eN.nil (λ_=>True) w'))
 rintro _ _ rfl B;refine bD rfl (bD rfl (aR B kV λb_v23 _ B=>aO (x:=(⟨16,1,1,0,0⟩:bU)) B eV rfl rfl λ_ B=>aZ amO B (ayJ aew B.p1.has B.p13.fB λ_ e=>St.l4 B.p13 e) λ_ O B=>aR B E7 λb_w25 _ B=>aO (x:=(ny fxo)) B GD rfl rfl λ_ B=>?_));refine⟨_,?_,λ_ _ h=>h⟩;refine aH (il dO (aF eV B.p11.At (pop (uX _ _) (nO Ik rfl rfl (show _=decide True from rfl) (il dO (aH (il dO (aF eV B.uU.At (pop (uX _ _) (nO Ik rfl rfl (show _=decide True from rfl) (il dO (aF ot B.p13.At ?_))))))))))))
 refine pop (Np _) (aF ot B.p12.At (bJ ([(⟨1,0,0,bL⟩:dN),⟨2,0,0,bL⟩,⟨1,1,0,bL⟩]) B mq rfl rfl (dV rfl) λaHb _ B=>aZ amP B (C20 _ _ (cT fx2) [R8,pOu,pOt] _ B.uU.dl (DL.of B.fu (ajp _)) (by rw[fp2];decide) λx hx=>by rw[MH ajm x hx];decide) λ_ O B=>il (gq fp2) (have B:=B.uU.drop.drop.p12.drop.uU.drop.p9.drop;aF eV B.p8.At (pop (Br _ _) (nO Ik rfl rfl (show _=decide True from rfl) (il dO (aF eV B.p7.At (pop (uX _ _) (nO Ik rfl rfl (show _=decide True from rfl) (il dO ?_))))))))))
 refine aH (il dO (aF eV B.p5.At (pop (uX _ _) (nO Ik rfl rfl (show _=decide True from rfl) (il dO (aF GD B.p3.At (pop (X8 _ _) (nO aaY rfl rfl (show _=decide True from rfl) (il dO (bJ ([true]) B vl rfl rfl (dV rfl) λaHc _ B=>aZ asZ B (C50 _ _ (wT fx7) [true] _ B.p5.fu B.fu (by rw[ayH];decide)) λ_ O B=>il (gq ayH) ?_))))))))));refine aF eV B.p2.At (pop (qL _ _ _) (nO Ik rfl rfl (show _=decide True from rfl) (il dO (aF GD B.p1.At (pop (X9 _ _) (nO aaY rfl rfl (show _=decide True from rfl) (il dO (have B:=B.drop.drop.drop.p1.drop.p1.drop.p1.drop.p2.drop.p2.drop.p2.drop;dF MZ B (ayI aew B.has B.p2.fB λ_ e=>St.l4 B.p2 e) λx170 _ J B=>?_))))))))
 obtain⟨aAW,ajq,ajr,_⟩:=B.dl;refine aI mq ajq ?_;rw[ajr];refine aH (il (by rw[fpo];rfl) (dF asU B (ayM aew dO aHa B.p1.has B.p3.fB λ_ e=>St.l4 B.p3 e) λx176 _ J B=>?_));obtain⟨aAX,U,ajt,_⟩:=B.dl;refine aI mq U ?_;rw[ajt];refine aH (il (by rw[fco];rfl) (dF afL B (ayL (0) aew B.p2.has B.p4.fB λ_ e=>St.l4 B.p4 e) λx182 _ J B=>bJ ([1]:List Int) B cE rfl rfl (dV rfl) λaHd _ B=>aZ O8 B (C21 _ _ (zG fxo (0)) ([1]:List Int) _ B.p1.fu B.fu (by rw[fro];decide)) λ_ O B=>il (gq fro) (dF afL B (ayL (2) aew B.p4.has B.p6.fB λ_ e=>St.l4 B.p6 e) λx188 _ J B=>aI cE B.fu (aH (il (by rw[fr2];rfl) (dF amQ B (aG7 ajn B.p6.has B.p7.fB λ_ e=>St.l4 B.p7 e) λx194 _ J B=>bJ ([1,0]:List Int) B cE rfl rfl (dV rfl) λaHe _ B=>aZ O8 B (C21 _ _ fx7.mem.l ([1,0]:List Int) _ B.p1.fu B.fu (by rw[fl7];decide)) λ_ O B=>?_))))))
 refine il (gq fl7) (dF asQ B (aG8 ajn B.p8.has B.p9.fB λ_ e=>St.l4 B.p9 e) λx200 _ J B=>bJ ([1]:List Int) B cE rfl rfl (dV rfl) λaHf _ B=>aZ O8 B (C21 _ _ fx7.mem.kept ([1]:List Int) _ B.p1.fu B.fu (by rw[fk7];decide)) λ_ O B=>?_);intro _;exact⟨vb (gq fk7),B.aE⟩
def A8{w:World}{g:dN}{x:dY}(h:py w g x):eN (λ_=>True) w (j6 g.cut) x.cut:=by
 obtain⟨_,rfl,h⟩:=h;exact DL.flat h
def aqZ.rd{U:Ar}{a:KR}{tl:List dN}{l:List dY}{M:List dN}{c:List dY}{cr:Int}{sh:dN}(h:aqZ U a tl l M c cr sh){O:World}(h1:jF tl l O)(h2:jF M c O) :
  ∃gc:SV,sh=⟨(oV a l c cr).kind,(oV a l c cr).t,(oV a l c cr).i,gc⟩/\∀B,eN (λ_=>True) B (j6 U.p.cut) a.p.cut->jF tl l B->jF M c B->eN (λ_=>True) B (j6 gc) (oV a l c cr).cut:=by
 rcases h with⟨_,I,gc,E,V⟩|⟨j,J,I⟩|⟨j,J,I⟩|⟨E,I⟩
 .rw[I];exact⟨gc,E,λB h _ _=>V B h⟩
 .obtain⟨gc,E,_⟩:=h1.2 j _ _ J I
  refine⟨gc,E,λB _ h3 _=>?_⟩
  have:=A8 (h3.2 j _ _ J I)
  rw[E]at this;exact this
 .obtain⟨gc,E,_⟩:=h2.2 j _ _ J I
  refine⟨gc,E,λB _ _ h3=>?_⟩
  have:=A8 (h3.2 j _ _ J I)
  rw[E]at this;exact this
 rw[I];exact⟨bL,E,λB _ _ _=>eN.nil (λ_=>True) B⟩
theorem OA{a:KR}{l c:List dY}{cr:Int}(h1:∀x∈l,x.cut.length<=1000)(h2:∀x∈c,x.cut.length<=1000):(oV a l c cr).cut.length<=1000:=by
 have B:∀(xs:List dY) (k:Nat),(∀x∈xs,x.cut.length<=1000)->(xs.getD k R6).cut.length<=1000:=by
  intro xs k E
  rw[oi]
  cases hk:xs[k]? with
  | none=>decide
  | some y=>exact E y (ld hk)
 unfold oV
 split
 .show(a.p.cut.take 22).length<=1000;rw[oj];omega
 split
 .exact B _ _ h2
 split
 .exact B _ _ h1
 decide
def xz{p:dM}{m:gQ}{n:Nat}(h:A7 p m n):∀x∈cT m,x.cut.length<=1000:=λx B=>by rw[MH h x B];decide
def FR{p:dM}{m:gQ}{n:Nat}(h:A7 p m n):(cT m).length<=1073741824:=x5 (qC h.pm.gm.ok) dO
def Zq(s:gk):vk (kp s) (kp s)=decide True:=by
 simp[vk,kp,eqV]
def aju(s:bU):vk (kp s) (kp s)=decide True:=by
 simp[vk,kp,eqV]
theorem R9{α β:Type}{l:List α}{f:α->List β}{n:Nat}(h:∀x∈l,(f x).length=n):(l.flatMap f).length=l.length*n:=by
 induction l with
 | nil=>simp
 | cons x l E=>
  rw[List.flatMap_cons,n0,E λy B=>h y (s8 _ B),h x (uc ..),sf,Km,acR]
theorem Kh:∀{ps:List Nat}{k:Nat},(∀p∈ps,p+1<=k)->(dD ps).length<=k ^ ps.length
 | [],k,_=>by simp[dD]
 | p::ps,k,h=>by
  have B:=Kh (ps:=ps) (k:=k) λq E=>h q (s8 _ E)
  have e:(dD (p::ps)).length=(p+1)*(dD ps).length:=by
   rw[dD,R9 (n:=(dD ps).length) λx _=>by rw[qE],ND]
  rw[e,sf,Nat.pow_succ,Nat.mul_comm]
  exact Nat.mul_le_mul B (h p (uc ..))
def aq8{p:dM}{m:gQ}{n:Nat}(h:A7 p m n):ie m.mem.of<=4:=by
 have hc:=h.pm.chk
 have E:=EJ p
 have h4:=hc.sz.1
 rw[h.pm.gm.of,h.pm.u]
 show ie ((fL p).lines.take (fw p).toNat)<=4
 by_cases B:(fw p).toNat=0
 .rw[B,acu];decide
 rw[A5 cW (by rw[FQ];omega),oi,EI cW]
 show n8 p (((fw p).toNat-1:Nat):Int)+1<=4
 rw[yx cW]
 have:=Ou p.lines 0 (((fw p).toNat-1:Nat):Int) cW (by show _<fw p;omega)
 omega
def ajv{m:Mem}{n:Nat}(h:MB m n):∀q∈r7 m,q<=n:=by
 intro q B
 unfold r7 AV at B
 obtain⟨i,_,rfl⟩:=r5.1 B
 exact h i
def OB{p:dM}{m:gQ}{n:Nat}(h:A7 p m n)(E:n<=100):(dD (r7 m.mem)).length<=1000000000:=by
 have h1:=Kh (ps:=r7 m.mem) (k:=101) λq B=>by have:=ajv h.mb q B;omega
 have h2:=wP m.mem
 have h3:=aq8 h
 have h4:(101:Nat) ^ (r7 m.mem).length<=101 ^ 4:=Nat.pow_le_pow_right dO cW
 have h5:(101:Nat) ^ 4<=1000000000:=dO
 omega
theorem XD(f:List Int->List Int):∀(l:List (List Int)) (s:List (List Int)×List (List Int)),∀x∈(l.foldl (λs c=>if f c∈s.2 then s else(s.1++[c],s.2++[f c])) s).1,x∈s.1\/x∈l
 | [],s,x,h=>.inl h
 | c::l,s,x,h=>by
  rw[List.foldl_cons]at h
  rcases XD f l _ x h with h1|h1
  .split at h1
   .exact .inl h1
   .rcases r3.1 h1 with h2|h2
    .exact .inl h2
    .exact .inr (by rw[s7.1 h2];exact uc ..)
  .exact .inr (s8 _ h1)
def Zr{m:Mem}{c:List Int}(h:c∈vX m):c∈dD (r7 m):=by
 have:=XD (rV m) (dD (r7 m)) ([],[]) c h
 rcases this with h1|h1
 .cases h1
 exact h1
def U5{m:Mem}(B:ux m){c:List Int}(h:c∈vX m):gW m c=some (o8 m c c.length)/\c.length<=20:=by
 have h1:=Zr h
 have h2:=qT h1
 have h3:=wP m
 have h4:=m4 B
 have h5:=B.lb
 refine⟨yl cW λk x J E=>?_,cW⟩
 have I:(r7 m)[k]?=some (m.gu k).length:=ym cW
 exact BI h1 I E
def Lk{m:gQ}{q:dY}(E:ux m.mem)(h:q∈jC m):m.fault=0/\q.kind=3/\q.t=0/\q.i=0/\q.cut.length<=20/\ig m q=some (o8 m.mem q.cut q.cut.length):=by
 unfold jC at h
 split at h
 .cases h
 rename_i hf
 obtain⟨c,hc,rfl⟩:=r5.1 h
 obtain⟨h1,h2⟩:=U5 E hc
 have B:m.fault=0:=cW
 refine⟨B,rfl,rfl,rfl,h2,?_⟩
 unfold ig;rw[fV ⟨rfl,rfl,rfl,B⟩];exact h1
def Ki{p:dM}{m:gQ}{n:Nat}(h:A7 p m n)(B:n<=100):(jC m).length<=1000000000:=by
 unfold jC
 split
 .simp
 rw[qE]
 exact x5 (El _ _) (OB h B)
def Cp{m:gQ}(E:ux m.mem):∀x∈jC m,x.cut.length<=1000:=λx B=>by
 have:=(Lk E B).2.2.2.2.1
 omega
theorem Sa{ns:List Int}{many:Int}(E:yD ns):∀{xs:List nQ}{S:List Int},yD S->(∀x∈xs,kq many x=false)->gb (Fh ns xs S).1
 | [],S,B,_=>Qk B
 | x::r,S,B,h=>by
  unfold Fh
  split
  .exact Sa E (Ql E B (h x (uc ..))) λy I=>h y (s8 _ I)
  .exact mg
def ajw{xs:List nQ}{ns:List Int}(E:yD ns):gb (runM xs ns).1:=by
 unfold runM
 split
 .rename_i h
  exact Sa E (λv B=>by cases B) (xg h).2.2
 exact mg
def Hw{xs:List nQ}{ns:List Int}(B:yD ns):gb (dE xs ns).1:=by
 unfold dE
 split
 .exact mg
 exact ajw B
def yD.set{S:List Int}(h:yD S){i:Nat}{v:Int}(B:gb v):yD (S.set i v):=λe E=>by
 rcases EP E with h1|rfl
 .exact h e h1
 .exact B
def ajx{t:fR}{x:bF}{e:Int}(h:yD t.aJ)(B:gb e):yD (zh t x e).1.aJ:=by
 unfold zh
 repeat' split
 all_goals first|exact h|exact h.set B
def oW{t:fR}(h:yD t.aJ):yD (fK t).1.aJ:=by
 unfold fK
 split
 .exact h
 split
 .split
  .exact ajx (t:=tF (tE t _) _) h (Hw h)
  exact h
 exact h
end Go.Proofs.YtnjcingfdhjfkaaGreat
