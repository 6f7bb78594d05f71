/-
  Part 5.
-/
import Derived.Test.YtnjcingfdhjfkaaGreatR6x4
set_option maxHeartbeats 8000000
set_option linter.all false
set_option maxRecDepth 100000
open Go.Fw.Flat renaming val->j6,enc->kp,sz->o4
open List renaming mem_of_getElem?->ld,getElem?_eq_some_iff->l0,take_of_length_le->mE,getElem?_eq_getElem->nT,length_append->n0,length_singleton->n6,getD_eq_getElem?_getD->oi,length_take->oj,getElem?_eq_none->o3,length_map->qE,append_assoc->qF,replicate->qU,range->rv,mem_map->r5,append_nil->r6,take_append_drop->s6,length_drop->ta,getElem?_map->uO,length_nil->u1,getElem?_append_left->u2,drop_eq_nil_of_le->vV,ext_getElem?->wj,take_add_one->xp,length_replicate->xq,getElem?_set_self->yF,map_append->yU,getElem?_cons_succ->yV,filter_append->ze,getElem?_append_right->Bu,nil_append->C5,range_succ->D3,getElem?_eq_none_iff->Eb,getElem?_take->G5,getElem_of_mem->H4,eraseIdx_eq_take_drop_succ->H5,getElem?_set_ne->JG,getElem?_range->J6,mem_flatMap->Pe,flatMap_cons->P2,getElem?_eraseIdx_of_lt->Rv,getElem?_eraseIdx_of_ge->RE,flatMap_append->Ss,length_eraseIdx_of_lt->TS,forIn_cons->W5,mem_range'->XF,nodup_cons->abI
open Option renaming bind_some->o5,some->qa,map_some->F1
open Nat renaming zero_le->o6,le_refl->r4,min_eq_left->xr,le_trans->x5,mul_le_mul_right->BO,le_of_ble_eq_true->FY,add_sub_cancel->HI,mul_one->YC,sub_zero->acQ,div_one->ac0
open Go.Fw.Deep renaming dr->py
open Go.Value renaming int->qs
open Go.Instr renaming sliceAt->rr,mapUpdate->sl,lookup->yz,makeMap->M6,checkKey->OH,findKey->Qs,findAsking->V6,keyThatStays->aaR
open Decidable renaming not_not->FE
open Classical renaming byContradiction->TY
namespace Go.Proofs.YtnjcingfdhjfkaaGreat
open Go.Fw
def C53(u:iz)(uv:dH)(w:World)(hu:py w uv u)(O:UZ u):CR 53 [j6 uv] w (λv w'=>∃uv':dH,v=j6 uv'/\mr (fB λw=>py w uv' u) w w'):=by
 obtain⟨fP,fx,V,oJ,M,rfl,gh,gC,gz,iq,iB⟩:=hu;obtain⟨W,rfl,fZ⟩:=iq;have B:=St.start w;refine uT Tryz.func53 (pl:=P53) ?_;refine cU B (λtT w1 B=>aR B Aa λmV _ B=>have B:=B.enc (cs':=kp (⟨bL,0,bL,0,bL,(⟨0,0,bL⟩:bY),bL⟩:dH)) rfl;aA iD ?_);have B:=B.drew;have hzl:=O.lines;have hzf:=O.cO;have Qu:=O.threads;have hzc:=O.cD;refine aB cZ B.p1.hb rfl ?_;have aw9:=DL.flat gh;refine aA td (aB cZ B.p1.hb rfl ?_);have axa:=DL.flat gC
 refine aA yK (uJ (⟨u.recover.aJ,u.recover.counts,W⟩:bY) og B.p1.hb rfl (dF Dk B (C70 _ _ _ (aw9.ext B.aE) cW) λx11 _ cJ B=>?_));refine⟨aG cZ (B.p2.hb.cell rfl),?_⟩;refine⟨GX (⟨u.recover.aJ,u.recover.counts,W⟩:bY) og B.p2.hb rfl,?_⟩;refine aA iD (dF Dk B (C70 _ _ _ (axa.ext B.aE) cW) λx14 _ cJ B=>?_);refine⟨GX (⟨u.recover.aJ,u.recover.counts,W⟩:bY) og B.p3.hb rfl,?_⟩;refine eR aj8 (C120 u.recover _ _ ⟨W,rfl,(fZ.ext B.aE)⟩ O.rc) ?_;rintro _ _ ⟨I,rfl,cJ⟩
 have B:=B.made cJ;obtain⟨E,rfl⟩:=B.p2.gE;refine aS B.p4 cZ (dV rfl) (rfl) (λ_ B=>have B:=B.enc (cs':=kp (⟨E,u.stays,fx,u.locks,V,(⟨u.recover.aJ,u.recover.counts,W⟩:bY),M⟩:dH)) rfl;aA td ?_);obtain⟨J,rfl⟩:=B.p2.gE;refine aS B cZ (dV rfl) (rfl) (λ_ B=>have B:=B.enc (cs':=kp (⟨E,u.stays,J,u.locks,V,(⟨u.recover.aJ,u.recover.counts,W⟩:bY),M⟩:dH)) rfl;aA yK (tx (vs:=kp I) B og rfl (dV rfl) (Flat.one _) λ_ B=>have B:=B.enc (cs':=kp (⟨E,u.stays,J,u.locks,V,I,M⟩:dH)) rfl;aA oZ (aB (v:=j6 (V:SV)) BW B.hb rfl ?_)))
 obtain⟨axb,alR,alS⟩:=gz.open;have hn119:=alS.1;refine aI wq (alR.ext B.aE) ?_;have B:=((((((B.BY (α:=gp)).p5).p3).p4).p5).p5).p5;refine⟨λm JE x w1=>∃k:Nat,x=jK (k:Int)/\m=u.threads.length-k/\k<=u.threads.length/\St w aY [fW JE (u.threads.take k),cI tT (kp (⟨E,u.stays,J,u.locks,V,I,M⟩:dH)),bE (j6 E) u.lines,bE (j6 J) u.cO,fB (λw=>py w I u.recover),cI mV (kp (⟨bL,0,bL,0,bL,(⟨0,0,bL⟩:bY),bL⟩:dH))] w1,⟨_,0,rfl,rfl,o6 _,B⟩,?_⟩;rintro m JE _ _ ⟨k,rfl,rfl,hk,B⟩ _
 refine aK (aC (λfX=>?_) λfX=>?_)
 .obtain⟨alf,yX⟩:=gx axb (i:=(k:Int).toNat) cW;obtain⟨oa,yY⟩:=gx u.threads (i:=(k:Int).toNat) cW;obtain⟨WH,rfl,ait⟩:=alS.2 _ _ _ yX yY;refine aQ wq alR cW yX (λ_ sj=>aF og (sj.ext B.aE) (aR B Nk λao2 _ B=>have B:=B.enc (cs':=kp (⟨0,0,bL⟩:bY)) rfl;aO (x:=(⟨oa.aJ,oa.counts,WH⟩:bY)) B og rfl rfl λ_ B=>aF og B.At (eR aj8 (C120 oa _ _ ⟨WH,rfl,(ait.ext B.aE)⟩ (O.th _ (ld yY))) ?_)));rintro _ _ ⟨apC,rfl,cJ⟩;have B:=B.made cJ;exact fG (s:=apC) (x:=oa) B wq dO (λ_ _ B=>have B:=B.p2;eB B wq (by rw[oj,n6];omega) dO λ_ _ B=>aN cW (have B:=B.p1.drop.p5.p5.p5.p5.p5.p5;⟨_,cW,k+1,rfl,rfl,cW,by rw[<- ja (k:=k) yY];exact B⟩))
 rw[mE cW]at B;refine aA te (aB (v:=j6 (M:SV)) KM B.p1.hb rfl ?_);obtain⟨axc,alT,alU⟩:=iB.open;have hn120:=alU.1;refine aI Ds (alT.ext B.aE) ?_;have B:=(((((((B.BY (α:=(List nQ))).p6).p6).p6).p6).p6).p6).p6;refine⟨λm WI x w1=>∃q:Nat,x=jK (q:Int)/\m=u.cD.length-q/\q<=u.cD.length/\St w aY [fW WI (u.cD.take q),fW JE u.threads,cI tT (kp (⟨E,u.stays,J,u.locks,V,I,M⟩:dH)),bE (j6 E) u.lines,bE (j6 J) u.cO,fB (λw=>py w I u.recover),cI mV (kp (⟨bL,0,bL,0,bL,(⟨0,0,bL⟩:bY),bL⟩:dH))] w1,⟨_,0,rfl,rfl,o6 _,B⟩,?_⟩
 rintro m WI _ _ ⟨q,rfl,rfl,hq,B⟩ _;refine aK (aC (λpW=>?_) λpW=>?_)
 .obtain⟨so,qA⟩:=gx axc (i:=(q:Int).toNat) cW;obtain⟨U,CT⟩:=gx u.cD (i:=(q:Int).toNat) cW;have axd:DL w (j6 so) U:=alU.2 _ _ _ qA CT;refine aQ Ds alT cW qA (λ_ tL=>aF nP (tL.ext B.aE) ?_);have axe:=DL.flat axd;have hzk:=O.cl _ (ld CT);refine dF aav B (C121 _ _ _ (axe.ext B.aE) cW) (λx43 _ cJ B=>?_);obtain⟨Fx,rfl⟩:=B.gE;have B:=B.freeze.dT (Ψ:=λw=>py w Fx U) (λ_ h=>DL.gB h);exact fG (s:=Fx) (x:=U) B Ds dO (λ_ _ B=>have B:=B.p1;eB B Ds (by rw[oj,n6];omega) dO λ_ _ B=>aN cW (have B:=B.p6.p6.p6.p6.p6.p6.p6;⟨_,cW,q+1,rfl,rfl,cW,by rw[<- ja (k:=q) CT];exact B⟩))
 rw[mE cW]at B;refine aA oZ ?_;obtain⟨wM,rfl⟩:=B.p1.nX;refine aS B.p2 BW (dV rfl) (rfl) (λ_ B=>have B:=B.enc (cs':=kp (⟨E,u.stays,J,u.locks,wM,I,M⟩:dH)) rfl;aA te ?_);obtain⟨CU,rfl⟩:=B.p1.nX;exact aS B KM (dV rfl) (rfl) (λ_ B=>have B:=B.enc (cs':=kp (⟨E,u.stays,J,u.locks,wM,I,CU⟩:dH)) rfl;aF tW B.At (aO (x:=(⟨E,u.stays,J,u.locks,wM,I,CU⟩:dH)) B.p6 tW rfl rfl λ_ B=>aF tW B.At (have B:=B.p4.freeze.p5.freeze.p1.gU.p4.mf.p1.gU.p4.p1.gU.p3.mf.p1.gU.dT (Ψ:=(λw=>py w (⟨E,u.stays,J,u.locks,wM,I,CU⟩:dH) (⟨u.lines,u.stays,u.cO,u.locks,u.threads,u.recover,u.cD⟩:iz))) (λ_ h=>⟨_,_,_,_,_,rfl,DL.gB h.1.1.1.1,DL.gB h.1.1.1.2,h.1.1.2,h.1.2,h.2⟩);have B:=B.p1.drop.p1.drop;⟨_,rfl,B.fresh⟩)))
def lZ(x y:aX):Bool:=decide (x.kind≠7/\y.kind≠7/\(x.kind=6\/y.kind=6)/\x.line≠y.line)
def right(x:aX):Bool:=decide ((x.kind=3/\0<=x.line/\0<=x.cell)\/((x.kind=5\/x.kind=6)/\0<=x.line/\x.cell=0/\x.n=0)\/(x.kind=7/\x.line=0/\x.cell=0/\x.n=0))
def C191(x y:aX)(w:World):CR 191 [j6 x,j6 y] w (λv w'=>v=.bool (lZ x y)/\Ext w w'):=by
 have B:=St.start w;refine agu _ _ _ _ ?_;unfold S191;refine cU B (λW _ B=>cU B λM _ B=>?_);refine⟨_,?_,λ_ _ h=>h⟩;refine aA iJ (aB aV B.p1.hb rfl (aH (aC (λI=>?_) λI=>?_)))
 .intro O;refine⟨_,?_,λ_ _ h=>h⟩;refine bV (fM ?_);intro E;refine⟨vb ?_,B.aE⟩;unfold lZ
  first|exact(gq cW).symm|exact(gD cW).symm|exact hI.2 cW|exact hI.2 (aX.ext_iff.trans (by dsimp only;omega))
 refine aA iJ (aB aV B.hb rfl (aH ?_));intro O;refine⟨_,?_,λ_ _ h=>h⟩
 first|refine HS ?_|refine bV ?_
 refine aC (λU=>aA iJ (aB aV B.p1.hb rfl (aH (aC (λV=>?_) λV=>aA iJ (aB aV B.hb rfl (aH (aC (λJ=>?_) λJ=>?_))))))) (λU=>?_)
 .refine aA ix (aB aV B.p1.hb rfl (aA ix (aB aV B.hb rfl (bQ ?_))));intro E;refine⟨vb ?_,B.aE⟩;unfold lZ
  first|exact(gq cW).symm|exact(gD cW).symm|exact hI.2 cW|exact hI.2 (aX.ext_iff.trans (by dsimp only;omega))
 .refine aA ix (aB aV B.p1.hb rfl (aA ix (aB aV B.hb rfl (bQ ?_))));intro E;refine⟨vb ?_,B.aE⟩;unfold lZ
  first|exact(gq cW).symm|exact(gD cW).symm|exact hI.2 cW|exact hI.2 (aX.ext_iff.trans (by dsimp only;omega))
 .intro E;refine⟨vb ?_,B.aE⟩;unfold lZ
  first|exact(gq cW).symm|exact(gD cW).symm|exact hI.2 cW|exact hI.2 (aX.ext_iff.trans (by dsimp only;omega))
 intro E;refine⟨vb ?_,B.aE⟩;unfold lZ
 first|exact(gq cW).symm|exact(gD cW).symm|exact hI.2 cW|exact hI.2 (aX.ext_iff.trans (by dsimp only;omega))
def C203(x y:aX)(w:World):CR 203 [j6 x,j6 y] w (λv w'=>v=.bool (lZ x y)/\Ext w w'):=by
 have B:=St.start w;refine agE _ _ _ _ ?_;unfold S203;refine cU B (λW _ B=>cU B λI _ B=>?_);refine⟨_,?_,λ_ _ h=>h⟩;refine aA iJ (aB aV B.p1.hb rfl (aH (aC (λM=>?_) λM=>aA iJ (aB aV B.hb rfl (aH (aC (λO=>?_) λO=>?_))))))
 .intro E;refine jt ?_;refine⟨vb ?_,B.aE⟩;unfold lZ
  first|exact(gq cW).symm|exact(gD cW).symm|exact hI.2 cW|exact hI.2 (aX.ext_iff.trans (by dsimp only;omega))
 .intro E;refine jt ?_;refine⟨vb ?_,B.aE⟩;unfold lZ
  first|exact(gq cW).symm|exact(gD cW).symm|exact hI.2 cW|exact hI.2 (aX.ext_iff.trans (by dsimp only;omega))
 refine aA ix (aB aV B.p1.hb rfl (aA ix (aB aV B.hb rfl (aH ?_))));intro E;refine aC (λU=>?_) (λU=>⟨_,aA iJ (aB aV B.p1.hb rfl (aH (aC (λV=>?_) λV=>?_))),λ_ _ h=>h⟩)
 .refine⟨vb ?_,B.aE⟩;unfold lZ
  first|exact(gq cW).symm|exact(gD cW).symm|exact hI.2 cW|exact hI.2 (aX.ext_iff.trans (by dsimp only;omega))
 .intro J;refine⟨vb ?_,B.aE⟩;unfold lZ
  first|exact(gq cW).symm|exact(gD cW).symm|exact hI.2 cW|exact hI.2 (aX.ext_iff.trans (by dsimp only;omega))
 refine aA iJ (aB aV B.hb rfl (aH ?_));intro J;refine⟨vb ?_,B.aE⟩;unfold lZ
 first|exact(gq cW).symm|exact(gD cW).symm|exact hI.2 cW|exact hI.2 (aX.ext_iff.trans (by dsimp only;omega))
def eqE(x y:aX):vk (kp x) (kp y)=decide (x=y):=by
 obtain⟨a,b,c,d⟩:=x
 obtain⟨E,b2,B,I⟩:=y
 simp[kp,vk,eqV,Bool.eq_iff_iff]
def C226(x:aX)(w:World):CR 226 [j6 x] w (λv w'=>v=.bool (right x)/\Ext w w'):=by
 have B:=St.start w;refine agL _ _ _ ?_;unfold S226;refine cU B (λYk _ B=>aA iJ (aB aV B.hb rfl (aH (aC (λuK=>⟨_,aA ix (aB aV B.hb rfl (cN (aC (λW=>?_) λW=>?_))),λ_ _ h=>h⟩) λuK=>⟨_,aH (aC (λO=>?_) λO=>?_),λ_ _ h=>h⟩))))
 .refine aA ma (aB aV B.hb rfl (cN ?_));intro V;refine⟨vb ?_,B.aE⟩;unfold right
  first|exact(gq cW).symm|exact(gD cW).symm|exact hI.2 cW|exact hI.2 (aX.ext_iff.trans (by dsimp only;omega))
 .intro V;refine⟨vb ?_,B.aE⟩;unfold right
  first|exact(gq cW).symm|exact(gD cW).symm|exact hI.2 cW|exact hI.2 (aX.ext_iff.trans (by dsimp only;omega))
 .intro U;refine aC (λI=>⟨_,aA ix (aB aV B.hb rfl (cN (aC (λJ=>aA ma (aB aV B.hb rfl (aH (aC (λM=>?_) λM=>?_)))) λJ=>?_))),λ_ _ h=>h⟩) (λI=>?_)
  .refine aA mc (aB aV B.hb rfl (aH ?_));intro E;refine⟨vb ?_,B.aE⟩;unfold right
   first|exact(gq cW).symm|exact(gD cW).symm|exact hI.2 cW|exact hI.2 (aX.ext_iff.trans (by dsimp only;omega))
  .intro E;refine⟨vb ?_,B.aE⟩;unfold right
   first|exact(gq cW).symm|exact(gD cW).symm|exact hI.2 cW|exact hI.2 (aX.ext_iff.trans (by dsimp only;omega))
  .intro E;refine⟨vb ?_,B.aE⟩;unfold right
   first|exact(gq cW).symm|exact(gD cW).symm|exact hI.2 cW|exact hI.2 (aX.ext_iff.trans (by dsimp only;omega))
  refine aF iI B.At (pop (Ie _) (nO S5 rfl rfl (eqE x ⟨7,0,0,0⟩) ?_));refine⟨vb ?_,B.aE⟩;unfold right
  first|exact(gq cW).symm|exact(gD cW).symm|exact hI.2 cW|exact hI.2 (aX.ext_iff.trans (by dsimp only;omega))
 refine aH ?_;intro U;refine aC (λI=>⟨_,aA ix (aB aV B.hb rfl (cN (aC (λJ=>aA ma (aB aV B.hb rfl (aH (aC (λM=>?_) λM=>?_)))) λJ=>?_))),λ_ _ h=>h⟩) (λI=>?_)
 .refine aA mc (aB aV B.hb rfl (aH ?_));intro E;refine⟨vb ?_,B.aE⟩;unfold right
  first|exact(gq cW).symm|exact(gD cW).symm|exact hI.2 cW|exact hI.2 (aX.ext_iff.trans (by dsimp only;omega))
 .intro E;refine⟨vb ?_,B.aE⟩;unfold right
  first|exact(gq cW).symm|exact(gD cW).symm|exact hI.2 cW|exact hI.2 (aX.ext_iff.trans (by dsimp only;omega))
 .intro E;refine⟨vb ?_,B.aE⟩;unfold right
  first|exact(gq cW).symm|exact(gD cW).symm|exact hI.2 cW|exact hI.2 (aX.ext_iff.trans (by dsimp only;omega))
 refine aF iI B.At (pop (Ie _) (nO S5 rfl rfl (eqE x ⟨7,0,0,0⟩) ?_));refine⟨vb ?_,B.aE⟩;unfold right
 first|exact(gq cW).symm|exact(gD cW).symm|exact hI.2 cW|exact hI.2 (aX.ext_iff.trans (by dsimp only;omega))
def C204(x:aX)(w:World):CR 204 [j6 x] w (λv w'=>v=.bool (right x)/\Ext w w'):=by
 have B:=St.start w;refine agF _ _ _ ?_;unfold S204;refine cU B (λYk _ B=>aA iJ (aB aV B.hb rfl (aH (aC (λTX=>⟨_,aA ix (aB aV B.hb rfl (cN (aC (λjr=>?_) λjr=>?_))),λ_ _ h=>h⟩) λTX=>⟨_,aA ma (aB aV B.hb rfl (bQ (aC (λfT=>?_) λfT=>?_))),λ_ _ h=>h⟩))))
 .refine aA ma (aB aV B.hb rfl (cN ?_));intro qk;refine⟨vb ?_,B.aE⟩;unfold right
  first|exact(gq cW).symm|exact(gD cW).symm|exact hI.2 cW|exact hI.2 (aX.ext_iff.trans (by dsimp only;omega))
 .intro qk;refine⟨vb ?_,B.aE⟩;unfold right
  first|exact(gq cW).symm|exact(gD cW).symm|exact hI.2 cW|exact hI.2 (aX.ext_iff.trans (by dsimp only;omega))
 .intro W;refine jt ?_;refine⟨vb ?_,B.aE⟩;unfold right
  first|exact(gq cW).symm|exact(gD cW).symm|exact hI.2 cW|exact hI.2 (aX.ext_iff.trans (by dsimp only;omega))
 refine aA mc (aB aV B.hb rfl (bQ ?_));intro W;refine aC (λiM=>?_) (λiM=>⟨_,aA iJ (aB aV B.hb rfl (aH (aC (λV=>aA ix (aB aV B.hb rfl (cN (aC (λO=>?_) λO=>aA iJ (aB aV B.hb rfl (aH (aC (λU=>?_) λU=>?_))))))) λV=>?_))),λ_ _ h=>h⟩)
 .refine⟨vb ?_,B.aE⟩;unfold right
  first|exact(gq cW).symm|exact(gD cW).symm|exact hI.2 cW|exact hI.2 (aX.ext_iff.trans (by dsimp only;omega))
 .intro E;refine⟨vb ?_,B.aE⟩;unfold right
  first|exact(gq cW).symm|exact(gD cW).symm|exact hI.2 cW|exact hI.2 (aX.ext_iff.trans (by dsimp only;omega))
 .refine aA ix (aB aV B.hb rfl (aH ?_));intro E;refine⟨vb ?_,B.aE⟩;unfold right
  first|exact(gq cW).symm|exact(gD cW).symm|exact hI.2 cW|exact hI.2 (aX.ext_iff.trans (by dsimp only;omega))
 .intro E;refine⟨vb ?_,B.aE⟩;unfold right
  first|exact(gq cW).symm|exact(gD cW).symm|exact hI.2 cW|exact hI.2 (aX.ext_iff.trans (by dsimp only;omega))
 refine aA iJ (aB aV B.hb rfl (aH (aC (λDK=>aA ix (aB aV B.hb rfl (cN (aC (λJ=>?_) λJ=>aA iJ (aB aV B.hb rfl (aH (aC (λI=>?_) λI=>?_))))))) λDK=>aA iJ (aB aV B.hb rfl (aH (aC (λM=>?_) λM=>?_))))))
 .intro E;refine⟨vb ?_,B.aE⟩;unfold right
  first|exact(gq cW).symm|exact(gD cW).symm|exact hI.2 cW|exact hI.2 (aX.ext_iff.trans (by dsimp only;omega))
 .refine aA ix (aB aV B.hb rfl (aH ?_));intro E;refine⟨vb ?_,B.aE⟩;unfold right
  first|exact(gq cW).symm|exact(gD cW).symm|exact hI.2 cW|exact hI.2 (aX.ext_iff.trans (by dsimp only;omega))
 .intro E;refine⟨vb ?_,B.aE⟩;unfold right
  first|exact(gq cW).symm|exact(gD cW).symm|exact hI.2 cW|exact hI.2 (aX.ext_iff.trans (by dsimp only;omega))
 .refine aA ix (aB aV B.hb rfl (aH ?_));intro E;refine⟨vb ?_,B.aE⟩;unfold right
  first|exact(gq cW).symm|exact(gD cW).symm|exact hI.2 cW|exact hI.2 (aX.ext_iff.trans (by dsimp only;omega))
 intro E;refine⟨vb ?_,B.aE⟩;unfold right
 first|exact(gq cW).symm|exact(gD cW).symm|exact hI.2 cW|exact hI.2 (aX.ext_iff.trans (by dsimp only;omega))
def uP(l:List aX)(i:Int):Bool:=decide (0<=i/\i<l.length)&&(match l[i.toNat]? with|some x=>(l.take i.toNat).all (lZ x)|none=>false)
def vR(l:List aX):List Int:=((rv l.length).map fun (k:Nat)=>(k:Int)).filter (uP l)
theorem nJ{l:List aX}{i:Int}(h:i<0\/(l.length:Int)<=i):uP l i=false:=by
 grind[uP]
theorem WJ{l:List aX}{i:Int}{x:aX}(E:0<=i)(h1:i<l.length)(B:l[i.toNat]?=some x):uP l i = !(l.take i.toNat).any λy=>!lZ x y:=by
 grind[uP,lZ]
def vS(l:List aX)(k:Nat):List Int:=((rv k).map fun (k:Nat)=>(k:Int)).filter (uP l)
def FF(l:List aX)(k:Nat):(vS l k).length<=k:=by
 grind[vS]
theorem JF{l:List aX}{k:Nat}(h:uP l k=true):vS l (k+1)=vS l k++[(k:Int)]:=by
 unfold vS;rw[D3,yU,ze];simp[h]
theorem L7{l:List aX}{k:Nat}(h:uP l k=false):vS l (k+1)=vS l k:=by
 unfold vS;rw[D3,yU,ze];simp[h]
theorem CV(l:List aX){k:Nat}(h:k=l.length):vS l k=vR l:=by subst h;rfl
def wy(w:World)(p:Nat)(room:Int)(l:List aX):Prop:=∃B,Cell w p 0 (jK room)/\Cell w p 1 B/\eN (λ_=>True) w B l
def kC(p:Nat)(room:Int)(l:List aX):HP:=uI λB=>sep (cI p [jK room,B]) (bE B l)
theorem wy.ext{w w':World}{p:Nat}{room:Int}{l:List aX}(h:wy w p room l)(e:Ext w w'):wy w' p room l:=by
 obtain⟨B,h1,h2,h3⟩:=h;exact⟨B,h1.ext e,h2.ext e,h3.ext e⟩
def kC.rd{w:World}{F:Nat->Prop}{p:Nat}{room:Int}{l:List aX}(h:(kC p room l).p w F):wy w p room l:=by
 obtain⟨B,E,I,h1,h2,_⟩:=h
 exact⟨B,h1.1.cell rfl,h1.1.cell rfl,(bE.rd h2).mono λ_ _=>trivial⟩
def C224(U fv:Value)(xs:List aX)(g:aX->Bool)(w:World)(O:eN (λ_=>True) w U xs)(hf:GF w fv g)(hn:xs.length<=1073741824):CR 224 [U,fv] w (λv w'=>v=jK (yO g xs)/\Ext w w'):=by
 obtain⟨g0,first,cap,rfl,uf,W⟩:=hf;have B:=St.start w;refine agJ _ _ _ _ ?_;unfold S224;refine aI jO (O.ext B.aE) ?_;refine⟨λm x J=>∃k:Nat,x=jK (k:Int)/\m=xs.length-k/\k<=xs.length/\(∀y∈xs.take k,g y=false)/\St w aY [] J,⟨_,0,rfl,rfl,o6 _,eU,B⟩,?_⟩;rintro m _ J ⟨k,rfl,rfl,hk,E,B⟩ _;refine aK (aC (λkG=>?_) λ_=>⟨hM (qs .i64) (mU (by rw[mE cW]at E;exact E)).symm,B.aE⟩);obtain⟨jm,I⟩:=gx xs (i:=(k:Int).toNat) cW;refine aQ jO (O.ext B.aE) cW I (λ_ V=>aF iI V (iH uf (W jm J B.aE) ?_))
 rintro _ _ ⟨rfl,he⟩;have B:=B.ext he;exact aW (λM=>⟨hM (qs .i64) (ti E I M).symm,B.aE⟩) (λM=>aN cW ⟨xs.length-(k+1),cW,k+1,rfl,rfl,cW,eY E I M,B⟩)
def C192(E fv:Value)(xs:List aX)(g:aX->Bool)(w:World)(J:eN (λ_=>True) w E xs)(I:GF w fv g)(M:xs.length<=1073741824):CR 192 [E,fv] w (λv w'=>v=.bool (xs.any g)/\Ext w w'):=by
 have B:=St.start w;refine agv _ _ _ _ ?_;unfold S192;exact aZ aue B (C224 _ _ _ _ _ (J.ext B.aE) (I.ext B.aE) cW) (λ_ _ B=>cN ⟨vb (rA _ _),B.aE⟩)
def C190(x y:aX)(p b2 b3:Nat)(i:Int)(room:Int)(l:List aX)(w:World)(h2:Cell w b2 0 (.pointer (some ⟨p,0,none⟩)))(h3:Cell w b3 0 (jK i))(hb:wy w p room l)(O:0<=i)(E:l[i.toNat]?=some x):CR 190 [j6 y,.pointer (some ⟨b2,0,none⟩),.pointer (some ⟨b3,0,none⟩)] w (λv w'=>v=.bool (!lZ x y)/\Ext w w'):=by
 obtain⟨U,W,J,M⟩:=hb;have V:=(l0.1 E).1;have B:=St.start w;refine agt _ _ _ _ _ ?_;unfold S190;exact cU B (λ_ _ B=>have B:=B.drew;aU vm (h2.ext B.aE) (aD (aA mR (aU mO (J.ext B.aE) (aU aV (h3.ext B.aE) (aQ jO (M.ext B.aE) O E λ_ I=>aF iI I (aF iI B.At (aZ atM B (C191 x y _) λ_ _ B=>bV ⟨rfl,B.aE⟩))))))))
def C124(p:Nat)(i:Int)(room:Int)(l:List aX)(w:World)(hb:wy w p room l)(hn:l.length<=1073741824):CR 124 [.pointer (some ⟨p,0,none⟩),jK i] w (λv w'=>v=.bool (uP l i)/\Ext w w'):=by
 have V:=hb;obtain⟨sv,Bj,M,O⟩:=hb;have B:=St.start w;refine af0 _ _ _ _ ?_;unfold S124;refine xF B rfl (λE U B=>xF B rfl λI _ B=>?_);refine⟨_,?_,λ_ _ h=>h⟩;have B:=B.drew;refine aB aV B.hb rfl (aK (aC (λj8=>?_) λj8=>?_))
 .intro W;exact jt ⟨vb (nJ cW).symm,B.aE⟩
 refine aB aV B.hb rfl (aB vm B.p1.hb rfl (aD (aA mR (aU mO (M.ext B.aE) (aI jO (O.ext B.aE) (cN ?_))))));intro W;refine aC (λ_=>⟨vb (nJ cW).symm,B.aE⟩) (λfT=>have B:=B.drew;aB vm B.p1.hb rfl (aD (aA mR (aU mO (M.ext B.aE) (aB aV B.hb rfl (LI jO (O.ext B.aE) cW cW λavc oC=>?_))))));obtain⟨x,J⟩:=gx l (i:=i.toNat) cW
 have PX:GF _ (.func (.func 190) [].toArray [.pointer (some ⟨E,0,none⟩),.pointer (some ⟨I,0,none⟩)].toArray) (λy=>!lZ x y):=
  ⟨190,[],_,rfl,atL,λy U e1=>C190 x y p E I i room l U ((B.p1.hb.cell rfl).ext e1) ((B.hb.cell rfl).ext e1) ((V.ext B.aE).ext e1) cW J⟩
 exact aZ atN B (C192 _ _ _ _ _ oC PX (by rw[oj];omega)) (λ_ _ B=>bV ⟨vb (WJ cW cW J).symm,B.aE⟩)
def C123(p:Nat)(room:Int)(l:List aX)(w:World)(hb:wy w p room l):CR 123 [.pointer (some ⟨p,0,none⟩)] w (λv w'=>v=.bool (decide (room<=l.length))/\Ext w w'):=by
 obtain⟨M,E,I,J⟩:=hb;have B:=St.start w;refine afZ _ _ _ ?_;unfold S123;exact aD (aA mR (have B:=B.drew;aU mO (I.ext B.aE) (aI jO (J.ext B.aE) (aD (aA Py (aU aV (E.ext B.aE) (cN ⟨rfl,B.aE⟩)))))))
def C57(p:Nat)(room:Int)(l:List aX)(w:World)(hb:wy w p room l)(hn:l.length<=1048576):CR 57 [.pointer (some ⟨p,0,none⟩)] w (λv w'=>mr (bE v (vR l)) w w'):=by
 have J:=hb;obtain⟨sv,Bj,M,O⟩:=hb;have B:=St.start w;refine am4 _ _ _ ?_;unfold S57;refine aD (aA mR (aU mO (M.ext B.aE) (aI jO (O.ext B.aE) ?_)));refine⟨λm o x I=>∃k:Nat,x=jK (k:Int)/\m=l.length-k/\k<=l.length/\St w aY [bE o (vS l k)] I,⟨_,0,rfl,rfl,o6 _,B.gA⟩,?_⟩;rintro m o _ I ⟨k,rfl,rfl,hk,B⟩ _;have GG:=FF l k;refine aK (aC (λjz=>⟨_,aZ akb B (C124 _ _ _ _ _ (J.ext B.aE) cW) (λ_ he B=>aW (λE=>?_) λE=>?_),λ_ _ h=>h⟩) λjz=>?_)
 .refine bJ ([(k:Int)]:List Int) B cE rfl rfl (dV rfl) (λW _ B=>?_);have po:=B.fu;refine bW B.p1 cE po (by simp<;>omega) dO (λU _ B=>?_);have B:=B.p1.drop;intro V;exact aN cW ⟨l.length-(k+1),cW,k+1,rfl,rfl,cW,by rw[JF E];exact B⟩
 .intro V;exact aN cW ⟨l.length-(k+1),cW,k+1,rfl,rfl,cW,by rw[L7 E];exact B⟩
 rw[CV l cW]at B;exact B.fresh
def QW(room:Int)(l:List aX)(x:aX):Int:=if right x=true then(if room<=l.length then 2 else 0)else 1
def qb(room:Int)(l:List aX)(x:aX):List aX:=if right x=true/\¬ room<=l.length then l++[x]else l
def dK(l:List aX)(i:Int):aX:=if uP l i=true then(l[i.toNat]?).getD ⟨0,0,0,0⟩else⟨0,0,0,0⟩
def AS(l:List aX)(i:Int):Int:=if 0<=i/\i<l.length then(if uP l i=true then 0 else 13)else 1
def kR(l:List aX)(i:Int):List aX:=if uP l i=true then l.eraseIdx i.toNat else l
theorem aix{l:List aX}{i:Int}(h:uP l i=true):0<=i/\i<l.length:=by
 unfold uP at h;grind
def wy.mk'{w:World}{p:Nat}{room:Int}{B:Value}{l:List aX}(h1:uE w p [jK room,B])(h2:eN (λ_=>True) w B l):wy w p room l:=
 ⟨B,h1.cell rfl,h1.cell rfl,h2⟩
def kC.shut{w0 w:World}{A:Nat->Prop}{R:List HP}{p:Nat}{room:Int}{B:Value}{l:List aX}(E:St w0 A (cI p [jK room,B]::bE B l::R) w):St w0 A (kC p room l::R) w:=
 St.fD (H:=λB=>sep (cI p [jK room,B]) (bE B l)) B (St.join E)
def Hg{w0 w:World}{A:Nat->Prop}{R:List HP}{p:Nat}{room:Int}{l:List aX}(B:St w0 A (kC p room l::R) w):wy w p room l:=by
 obtain⟨F,h,_⟩:=B.head;exact kC.rd h
def C193(v:Value)(i:Int)(xs:List aX)(F:Nat->Prop)(w:World)(hv:(bE v xs).p w F)(h0:0<=i)(E:i<xs.length)(hn:xs.length<=1073741824) :
  CR 193 [v,jK i,jK (i+1)] w (λv' w'=>True/\pk F (bE v' (xs.eraseIdx i.toNat)) w w'):=by
 obtain⟨i,rfl⟩:=Int.eq_ofNat_of_zero_le h0;replace E:i<xs.length:=cW
 rw[Int.toNat_natCast];have OI:=bE.rd hv;obtain⟨b,cap,rest,rfl,hb,I,hF⟩:=uW hv E;have hlen:(flat xs).length=xs.length*4:=dU xs;have Nd:xs.length<=cap:=I.1;replace I:=I.2
 change cap*4<=_ at I
 refine agw _ _ _ _ _ ?_;unfold S193;refine pop (Nc jO) (aa0 jO cW cW cW cW λ_=>aH (aC (λc=>absurd c cW) λ_=>pop (Nc jO) ?_))
 have W:pr ji (rr 80 (.slice (some ⟨b,0,none⟩) xs.length cap) none (some (jK (i:Int))) none)=some (.slice (some ⟨b,0,none⟩) i cap):=by
  rw[E2 jO (l:=0) (h:=i) (uV (.inl ⟨rfl,rfl⟩) (.inr ⟨_,rfl,cW,cW⟩) cW cW)];simp[ju]
 refine pop W (LJ jO OI cW cW λs25 J=>?_);rw[show((i:Int)+1).toNat=i+1 from cW]at J;have B:(xs.drop (i+1)).length=xs.length-(i+1):=eU
 obtain⟨w1,r1,b1,g1⟩:=KP (P:=ji) (R:=80) (n:=i) (cap:=cap) jO (hb.of_eq (w':=drew w) rfl) (J.ext (Ext.drew w)) cW (by rw[n0,hlen,B];change i*4+(xs.length-(i+1))*4<=_;omega);rw[B,show i+(xs.length-(i+1))=xs.length-1 from cW]at r1;refine⟨_,w1,r1,?_⟩;refine pop (Nc jO) ?_
 have O:pr ji (rr 80 (.slice (some ⟨b,0,none⟩) (xs.length-1) cap) (some (jK ((xs.length-1:Nat):Int))) (some (jK (xs.length:Int))) none)=some (.slice (some ⟨b,(xs.length-1)*4,none⟩) 1 (cap-(xs.length-1))):=by
  rw[E2 jO (l:=xs.length-1) (h:=xs.length) (uV (.inr ⟨_,rfl,cW,cW⟩) (.inr ⟨_,rfl,cW,cW⟩) cW cW),fU cW];simp[ju];omega
 refine pop O ?_;have hx:xs[i]?=some xs[i]:=by simp[E]
 have X3:=Cx hx;have M:(flat (xs.take i)).length=i*4:=by rw[dU,oj,xr cW];rfl
 have U:(flat (xs.drop (i+1))).length=(xs.length-(i+1))*4:=by rw[dU,B];rfl
 have hX:(kp xs[i]).length=4:=rfl;have hZ:(flat (qU 1 (⟨0,0,0,0⟩:aX))).length=4:=rfl
 have s1:jI (flat xs++rest) (i*o4 aX) (flat (xs.drop (i+1))) =
   flat (xs.take i)++flat (xs.drop (i+1))++((kp xs[i]++flat (xs.drop (i+1))).drop (flat (xs.drop (i+1))).length++rest):=by
  have:=nk (flat (xs.take i)) ((kp xs[i]++flat (xs.drop (i+1))).take (flat (xs.drop (i+1))).length)
   ((kp xs[i]++flat (xs.drop (i+1))).drop (flat (xs.drop (i+1))).length++rest) (flat (xs.drop (i+1))) (by rw[oj,n0];omega)
  rw[M]at this
  change jI (flat xs++rest) (i*4) _=_
  rw[<- this,X3]
  have e0:∀(a b c d:List Value) (n:Nat),a++(b++c)++d=a++(b++c).take n++((b++c).drop n++d):=λa b c d n=>by
   rw[qF a ((b++c).take n),<- qF ((b++c).take n),s6,qF a]
  exact hM (λz=>jI z (i*4) (flat (xs.drop (i+1)))) (by first|exact e0 _ _ _ _ _|(rw[<- e0];simp only[qF])|(simp only[qF];rw[<- qF (List.take _ _),s6,qF]))
 rw[s1]at b1
 obtain⟨w2,r2,b2,g2⟩:=Yb (P:=ji) (R:=0) (o:=(xs.length-1)*4) (n:=1) (c:=cap-(xs.length-1)) (z:=(⟨0,0,0,0⟩:aX)) jO tf b1
  (by simp only[n0,ta,M,U,hX];change _+1*4<=_;omega)
 refine⟨_,w2,r2,?_⟩
 have s2:=nk (flat (xs.take i)++flat (xs.drop (i+1))) ((kp xs[i]++flat (xs.drop (i+1))).drop (flat (xs.drop (i+1))).length) rest (flat (qU 1 (⟨0,0,0,0⟩:aX)))
  (by rw[ta,n0,hX,hZ];omega)
 rw[show(flat (xs.take i)++flat (xs.drop (i+1))).length=(xs.length-1)*4 from by rw[n0,M,U];omega,qF _ _ rest]at s2;rw[s2]at b2;refine⟨trivial,F,.inr ⟨b,cap,flat (qU 1 (⟨0,0,0,0⟩:aX))++rest,?_,?_,?_,hF⟩,λ_ hb=>.inl hb,((Ext.drew w).aE (A:=F)).trans (g1.trans (C:=F) g2 (λk V=>(hF k).2 V) λk _ V=>(hF k).2 V) (λ_ h=>h) λ_ _ h=>h⟩
 .rw[TS E]
 .rw[H5,kj,<- qF];exact b2
 refine⟨by rw[TS E];omega,?_⟩;rw[H5,kj]
 change cap*4<=_
 rw[n0,hlen]at I;simp only[n0,M,U,hZ];omega
def C154(M:Value)(xs:List aX)(w:World)(J:eN (λ_=>True) w M xs)(hn:xs.length<=1073741824):CR 154 [M] w (λv w'=>mr (bE v xs) w w'):=by
 have E:=J;obtain⟨a,cap,rfl,Nd,h3⟩:=J;have B:=St.start w;refine agk _ _ _ ?_;unfold S154;refine aaG (iC jO).1 (λW=>?_) ?_
 .rcases h3 with⟨h,hc⟩|⟨b,o,h,_⟩
  .exact⟨by rw[h];rfl,hc⟩
  rw[W]at h;cases h
 refine aW (λI=>?_) (λI=>?_)
 .have V:a=none:=by cases a with|none=>rfl|some _=>cases I
  have U:xs=[]:=by
   rcases h3 with⟨h,_⟩|⟨b,o,h,_⟩
   .exact h
   .rw[V]at h;cases h
  subst U;exact B.gA.fresh
 refine bJ ([]:List aX) B jO rfl rfl (dV rfl) (λNA _ B=>?_);have O:=(E.ext B.aE);exact bW B jO O (by simp<;>omega) dO (λ_ _ B=>B.fresh)
def C91(p:Nat)(room:Int)(l:List aX)(w:World)(hb:wy w p room l)(O:l.length<=1073741824):CR 91 [.pointer (some ⟨p,0,none⟩)] w (λv w'=>mr (bE v l) w w'):=by
 obtain⟨U,M,I,J⟩:=hb;have B:=St.start w;refine anv _ _ _ ?_;unfold S91;refine aD (aA mR (aU mO (I.ext B.aE) (eR ako (C154 _ _ _ (J.ext B.aE) cW) ?_)));rintro _ _ E;have B:=B.made E;exact B.fresh
theorem QX{room:Int}{l:List aX}{x:aX}(h:right x=false):QW room l x=1:=by unfold QW;rw[h];rfl
theorem QY{room:Int}{l:List aX}{x:aX}(h:right x=false):qb room l x=l:=by unfold qb;rw[h];rfl
theorem L8{room:Int}{l:List aX}{x:aX}(h:right x=true)(B:room<=l.length):QW room l x=2:=by grind[QW]
theorem L9{room:Int}{l:List aX}{x:aX}(B:room<=l.length):qb room l x=l:=by grind[qb]
theorem WK{room:Int}{l:List aX}{x:aX}(h:right x=true)(B:¬ room<=l.length):QW room l x=0:=by grind[QW]
theorem WL{room:Int}{l:List aX}{x:aX}(h:right x=true)(B:¬ room<=l.length):qb room l x=l++[x]:=by unfold qb;grind
def C196(p:Nat)(room:Int)(l:List aX)(x:aX)(F:Nat->Prop)(w:World)(V:(kC p room l).p w F)(hn:l.length<=1048576):CR 196 [.pointer (some ⟨p,0,none⟩),j6 x] w (λv w'=>v=jK (QW room l x)/\pk F (kC p room (qb room l x)) w w'):=by
 have B:=St.begin V;obtain⟨sv,B⟩:=B.fH;have B:=B.split;refine agy _ _ _ _ ?_;unfold S196;refine cU B (λW _ B=>aF iI B.At (aZ aug B (C226 _ _) λ_ U B=>bV (aW (λE=>?_) λE=>aZ aka B (C123 _ _ _ _ (wy.mk' B.p1.hb B.p2.fu)) λ_ U B=>aC (λI=>?_) λI=>?_)))
 .have B:=B.p2.p2;rw[QX (by simpa using E),QY (by simpa using E)];exact⟨rfl,(kC.shut B).mut⟩
 .have B:=B.p2.p2;rw[L8 (by simpa using E) I,L9 I];exact⟨rfl,(kC.shut B).mut⟩
 refine aD (aA mR (have B:=B.drew;aB mO B.p1.hb rfl (aF iI B.At (bJ ([x]) B jO rfl rfl (dV rfl) λM _ B=>?_))));refine⟨aG mO (B.p2.hb.cell rfl),?_⟩;have O:=B.fu;refine bW B.p3 jO O (by simp<;>omega) dO (λJ _ B=>have B:=B.p1.drop;aD (aA mR (aS B.p2 mO (dV rfl) B.fu.one λ_ B=>?_)));have B:=B.p1.p1;rw[WK (by simpa using E) I,WL (by simpa using E) I];exact⟨rfl,(kC.shut B).mut⟩
theorem u4{l:List aX}{i:Int}(h:uP l i=false):dK l i=⟨0,0,0,0⟩:=by unfold dK;rw[h];rfl
theorem u5{l:List aX}{i:Int}(h:uP l i=false):kR l i=l:=by unfold kR;rw[h];rfl
theorem BG{l:List aX}{i:Int}(h:i<0\/(l.length:Int)<=i):AS l i=1:=by unfold AS;omega
theorem QZ{l:List aX}{i:Int}(B:0<=i/\i<l.length)(h:uP l i=false):AS l i=13:=by unfold AS;grind
theorem Q0{l:List aX}{i:Int}(h:uP l i=true):AS l i=0:=by unfold AS;rw[fV (aix h),h];rfl
theorem Q1{l:List aX}{i:Int}{x:aX}(h:uP l i=true)(B:l[i.toNat]?=some x):dK l i=x:=by unfold dK;grind
theorem Q2{l:List aX}{i:Int}(h:uP l i=true):kR l i=l.eraseIdx i.toNat:=by unfold kR;rw[h];rfl
def C127(p:Nat)(room:Int)(l:List aX)(i:Int)(F:Nat->Prop)(w:World)(I:(kC p room l).p w F)(hn:l.length<=1048576):CR 127 [.pointer (some ⟨p,0,none⟩),jK i] w (λv w'=>v=.tuple #[j6 (dK l i),jK (AS l i)]/\pk F (kC p room (kR l i)) w w'):=by
 have B:=St.begin I;obtain⟨sv,B⟩:=B.fH;have B:=B.split;refine af2 _ _ _ _ ?_;unfold S127;refine aR B tf (λxZ _ B=>?_);refine⟨_,?_,λ_ _ h=>h⟩;refine aK (aC (λjr=>?_) λjr=>?_)
 .intro V;refine jt (pop Bs (aO (x:=(⟨0,0,0,0⟩:aX)) B iI rfl rfl λU B=>aF iI B.At ?_));have B:=B.p2.p2;rw[u4 (nJ cW),BG cW,u5 (nJ cW)];exact⟨rfl,(kC.shut B).mut⟩
 refine aD (aA mR (aB mO B.p1.hb rfl (aI jO B.p2.fu (cN ?_))));intro V;refine aC (λW=>?_) (λW=>aZ akb B (C124 _ _ _ _ _ (wy.mk' B.p1.hb B.p2.fu) cW) λ_ he B=>bV (aW (λE=>?_) λE=>?_))
 .refine pop Bs (aO (x:=(⟨0,0,0,0⟩:aX)) B iI rfl rfl λU B=>aF iI B.At ?_);have B:=B.p2.p2;rw[u4 (nJ cW),BG cW,u5 (nJ cW)];exact⟨rfl,(kC.shut B).mut⟩
 .refine pop Bs (aO (x:=(⟨0,0,0,0⟩:aX)) B iI rfl rfl λ_ B=>aF iI B.At ?_);have B:=B.p2.p2;rw[u4 (by simpa using E),QZ cW (by simpa using E),u5 (by simpa using E)];exact⟨rfl,(kC.shut B).mut⟩
 refine aD (aA mR (aB mO B.p1.hb rfl ?_));obtain⟨J,M⟩:=gx l (i:=(i).toNat) cW;refine cH B.p2 jO cW cW (λ_ O=>eK B.p2 iI O M (aR B tf λLa _ B=>aO (x:=J) B iI rfl rfl λ_ B=>aD (aA mR (aB mO B.p2.hb rfl (eR ako (C154 _ _ _ B.p3.fu cW) ?_)))));rintro _ _ cJ;have B:=B.made cJ;refine aN cW (tg atO B (H':=λv=>bE v (l.eraseIdx i.toNat)) (Φ:=λ_ _=>True) (λF I=>?_) ?_)
 .exact C193 _ i _ F _ I cW cW cW
 rintro x40 _ _ B;refine aD (aA mR (aS B.p3 mO (dV rfl) B.fu.one λ_ B=>aF iI B.p2.At (aO (x:=J) B.p3 iI rfl rfl λ_ B=>aF iI B.At ?_)));have B:=B.p2.p2;rw[Q1 (by simpa using E) M,Q0 (by simpa using E),Q2 (by simpa using E)];exact⟨rfl,(kC.shut B).mut⟩
def lU(l:List aX)(c:Int):Option Int:=(l.reverse.find? λx=>decide (x.kind=3/\x.cell=c)).map (·.n)
def C250(y V:Value)(b:Nat)(xs:List aX)(J:Nat->jj)(U:jj)(w:World)(hn:xs.length<=1073741824)
  (O:∀k W,J k W->Cell W b 0 V/\eN (λ_=>True) W V xs) (M:J 0 w)
  (hy:∀k x W,xs.reverse[k]?=some x->J k W->kh ji y [jK ((xs.length:Int)-1-k),j6 x] W λv W'=>(v=.bool true/\J (k+1) W')\/(v=.bool false/\U W')) :
  CR 250 [y,.pointer (some ⟨b,0,none⟩)] w (λ_ W=>J xs.length W\/U W):=by
 refine agQ _ _ _ _ ?_;unfold S250;refine aU mO (O 0 w M).1 (aI jO (O 0 w M).2 (eW cW ?_));refine⟨λm x B=>∃k:Nat,x=jK ((xs.length:Int)-1-k)/\m=xs.length-k/\k<=xs.length/\J k B,⟨_,0,eU,rfl,o6 _,M⟩,?_⟩;rintro m _ B ⟨k,rfl,rfl,hk,I⟩ _;refine cN (aC (λc=>?_) λc=>?_)
 .obtain⟨h1,h2⟩:=O k B I;have pF:k<xs.length:=cW
  have hx:xs.reverse[k]?=some (xs[xs.length-1-k]'(cW)):=by rw[List.getElem?_reverse pF,nT]
  refine aU mO h1 (aQ jO h2 cW (x:=xs[xs.length-1-k]'(cW)) (by rw[nT cW];congr 2;omega) λq hq=>?_);refine aF iI hq ?_;obtain GH:=hy k _ B hx I;refine kh.mono GH ?_;rintro v w2 (⟨rfl,E⟩|⟨rfl,CW⟩)
  .exact bV (fM (eW cW ⟨xs.length-(k+1),cW,k+1,by congr 1;omega,rfl,cW,E⟩))
  exact bV (jt (.inr CW))
 have:k=xs.length:=cW
 subst this;exact .inl I
def C225(E:Value)(w:World)(h1:vh E=true):CR 225 [E] w (λv w'=>∃b,v=.func (.func 250) [].toArray [.pointer (some ⟨b,0,none⟩)].toArray/\mr (cI b [E]) w w'):=by
 have B:=St.start w;refine agK _ _ _ ?_;unfold S225;exact xF B h1 (λb _ B=>⟨b,rfl,B.fresh⟩)
theorem Ma{α:Type}{p:α->Bool}{l:List α}{k:Nat}{x:α}(E:∀y∈l.take k,p y=false)(B:l[k]?=some x)(I:p x=true):l.find? p=some x:=by
 rw[List.find?_eq_some_iff_getElem]
 have J:=(l0.1 B)
 obtain⟨M,O⟩:=J
 refine⟨I,k,M,O,λj U=>?_⟩
 have:=E (l[j]'(cW)) (List.mem_take_iff_getElem.2 ⟨j,cW,rfl⟩)
 simp[this]
def C194(p:Nat)(c room:Int)(l:List aX)(w:World)(hb:wy w p room l)(hn:l.length<=1048576) :
  CR 194 [.pointer (some ⟨p,0,none⟩),jK c] w (λv w'=>v=.tuple #[jK ((lU l c).getD 0),.bool (lU l c).isSome]/\Ext w w'):=by
 obtain⟨sv,Bj,uQ,hL⟩:=hb;have E:=St.start w;refine agx _ _ _ _ ?_;unfold S194;refine xF E rfl (λb3 _ E=>Cw E xH rfl λb4 _ E=>Cw E akJ rfl λb5 _ E=>aD (aA mR (aU mO (uQ.ext E.aE) (eR auf (C225 sv _ hL.one) ?_))));rintro _ _ ⟨b,rfl,cJ⟩;have E:=E.made cJ
 refine aa1 (cap:=[.pointer (some ⟨b,0,none⟩)]) (xs:=(rv l.length).map fun (k:Nat)=>[qs .i64 ((l.length:Int)-1-k),j6 ((l.reverse[k]?).getD ⟨0,0,0,0⟩)]) auu E
  (λk M=>M=[cI b [sv],cI b5 [.bool false],cI b4 [jK 0],cI b3 [jK c]]/\∀y∈l.reverse.take k,decide (y.kind=3/\y.cell=c)=false)
  (λcd M=>cd=.ret/\∃x,lU l c=some x/\M=[cI b5 [.bool true],cI b4 [jK x]])
  ⟨rfl,eU⟩ eU ?_ ?_ ?_ ?_ ?_ ?_
 ·
  intro y J Jx W hJ hJe hJ0 hy;refine(C250 y sv b l J Jx W cW (λk W I=>?_) hJ0 λk x W O I=>?_).mono λ_ _ r=>r.mono λv W' h=>?_
  .obtain⟨Y,M,⟨rfl,_⟩,hS⟩:=hJ k W I;exact⟨hS.p1.hb.cell rfl,hL.ext hS.aE⟩
  .have V:=(l0.1 O).1;rw[List.length_reverse]at V;have:=hy k [qs .i64 ((l.length:Int)-1-k),j6 x] W (by rw[uO,J6 V];simp[O]) I;exact this
  simpa using h
 ·
  rintro k args Y1 Y2 B Kr M W I ⟨rfl,gG⟩ hB hN hR E
  have V:k<l.length:=by
   have:=(l0.1 I).1
   simpa using this
  obtain⟨x,O⟩:∃x,l.reverse[k]?=some x:=⟨_,nT (by simpa using V)⟩
  have ha:args=[qs .i64 ((l.length:Int)-1-k),j6 x]:=by
   rw[uO,J6 V]at I;simp[O]at I;exact I.symm
  subst ha;dsimp only[XU];refine aR E tf (λb7 _ E=>tx E iI rfl dO (by simp[vh,jI]) λ_ E=>?_);refine hB _ _ _ E.p1 (λw8 E=>?_);have e7:jI [qs IntKind.i64 0,jK 0,jK 0,jK 0] 0 [qs .i64 x.kind,jK x.line,jK x.cell,jK x.n]=kp x:=rfl;refine⟨_,?_,λ_ _ h=>h⟩;refine aA iJ (aB aV E.p1.hb rfl (aH ?_))
  have no:¬ (x.kind=3/\x.cell=c)->Kr none w8:=λU=>by
   refine hN _ _ E.p1.drop.p0 ⟨rfl,?_⟩;exact eY gG O (by simpa using U)
  refine aC (λc1=>?_) (λc1=>?_)
  .refine aA ma (aB aV E.p1.hb rfl (aB aV E.p5.hb rfl (aH ?_)));intro qk;refine aC (λc2=>aA mc (aB aV E.p1.hb rfl (aS E.p4 aV (FY rfl) rfl λ_ E=>aS E.p4 OJ (FY rfl) rfl λ_ E=>hR _ [cI b5 [.bool true],cI b4 [jK x.n]] _ E.p5.drop.p4.drop.p3.drop.p2 ⟨rfl,x.n,?_,rfl⟩))) (λc2=>no λU=>c2 U.2);unfold lU;rw[Ma gG O (by simpa using⟨c1,c2⟩)];rfl
  intro qk;exact fM (no λU=>c1 U.1)
 ·
  rintro D M W ⟨rfl,gG⟩ E;refine aS E.p3 aV (FY rfl) rfl (λ_ E=>aS E.p3 OJ (FY rfl) rfl λ_ E=>?_);refine akS E.p2 (λw15 E=>?_);refine aB aV E.p1.hb rfl (aB OJ E.hb rfl ?_)
  have:lU l c=none:=by
   unfold lU
   rw[show l.reverse.find? _=none from List.find?_eq_none.2 λy hy=>by
    have:=gG y (by rw[mE eU];exact hy);simp only[this];exact Bool.false_ne_true]
   rfl
  rw[this];exact⟨rfl,E.aE⟩
 .rintro D M W ⟨_,x,hl,rfl⟩ E;refine akS E (λw15 E=>?_);refine aB aV E.p1.hb rfl (aB OJ E.hb rfl ?_);rw[hl];exact⟨rfl,E.aE⟩
 .rintro id D M W ⟨h,_⟩;cases h
 rintro c M ⟨h,_⟩;exact .inr h
theorem N3{α:Type}(l:List α)(i:Nat):([]++l.take i)++l.drop (i+1)=l.eraseIdx i:=by
 grind
def Ef{α:Type}{xs ys:List α}{k:Nat}{e f:α}(h:xs.take k=ys.take k)(h1:xs[k]?=some e)(h2:ys[k]?=some f)(B:e=f):xs.take (k+1)=ys.take (k+1):=by
 rw[xp,xp,h,h1,h2,B]
def Mb{α:Type}{xs ys:List α}{k:Nat}{e f:α}(h1:xs[k]?=some e)(h2:ys[k]?=some f)(B:¬ e=f):¬ xs=ys:=by
 grind
theorem T4{l:List aX}{c:Int}{k:Nat}{x:aX}(I:∀y∈l.drop (k+1),¬ (y.kind=3/\y.cell=c))(E:l[k]?=some x)(J:x.kind=3/\x.cell=c):lU l c=some x.n:=by
 unfold lU
 have M:=(l0.1 E).1
 rw[Ma (k:=l.length-1-k) (x:=x) ?_ ?_ eS]
 .rfl
 .intro y B
  have:y∈l.drop (k+1):=by
   rw[List.take_reverse]at B
   grind
  grind
 grind
theorem T5{l:List aX}{c:Int}(B:∀y∈l,¬ (y.kind=3/\y.cell=c)):lU l c=none:=by
 grind[lU]
def WM{l:List aX}{c:Int}{k:Nat}{x:aX}(J:∀y∈l.drop (k+1),¬ (y.kind=3/\y.cell=c))(E:l[k]?=some x)(M:¬ (x.kind=3/\x.cell=c)):∀y∈l.drop k,¬ (y.kind=3/\y.cell=c):=by
 intro y B
 obtain⟨I,O⟩:=l0.1 E
 rw[List.drop_eq_getElem_cons I]at B
 grind
def aiy{l:List aX}{i:Int}{k:Nat}{x y:aX}(E:0<=i)(h1:i<l.length)(B:l[i.toNat]?=some x)(M:k<i.toNat)(I:l[k]?=some y)(J:lZ x y=false):uP l i=false:=by
 rw[WJ E h1 B]
 have:(l.take i.toNat).any (λy=>!lZ x y)=true:=by
  rw[List.any_eq_true]
  exact⟨y,List.mem_iff_getElem?.2 ⟨k,eS⟩,eS⟩
 grind
def ac1{l:List aX}{i:Int}{x:aX}(E:0<=i)(h1:i<l.length)(B:l[i.toNat]?=some x)(I:∀y∈l.take i.toNat,lZ x y=true):uP l i=true:=by
 grind[uP]
def C52(room:Int)(w:World):CR 52 [jK room] w (λv w'=>((room<1\/16<room)/\v=.tuple #[.pointer none,jK 1]/\Ext w w')\/(1<=room/\room<=16/\∃b,v=.tuple #[.pointer (some ⟨b,0,none⟩),jK 0]/\mr (kC b room []) w w')):=by
 have B:=St.start w;refine am3 _ _ _ ?_;unfold S52;refine⟨_,?_,λ_ _ h=>h⟩;refine aK (aC (λE=>?_) λE=>?_)
 .intro I;exact jt (.inl ⟨cW,rfl,B.aE⟩)
 refine cG ?_;intro I;exact aC (λ_=>.inl ⟨cW,rfl,B.aE⟩) (λ_=>pop (aaV _) (lC B λb _ B=>have B:=(B.gA (α:=aX)).p1;.inr ⟨cW,cW,b,rfl,(kC.shut B).fresh⟩))
def C75(room:Int)(w:World):CR 75 [jK room] w (λv w'=>((room<1\/16<room)/\v=.tuple #[.pointer none,jK 1]/\Ext w w')\/(1<=room/\room<=16/\∃b,v=.tuple #[.pointer (some ⟨b,0,none⟩),jK 0]/\mr (kC b room []) w w')):=by
 have B:=St.start w;refine anf _ _ _ ?_;unfold S75;refine⟨_,?_,λ_ _ h=>h⟩;refine aK (aC (λE=>?_) λE=>?_)
 .intro I;exact jt (.inl ⟨cW,rfl,B.aE⟩)
 refine cG ?_;intro I;exact aC (λ_=>.inl ⟨cW,rfl,B.aE⟩) (λ_=>pop (aaU _) (lC B λb _ B=>have B:=(B.gA (α:=aX)).p1;.inr ⟨cW,cW,b,rfl,(kC.shut B).fresh⟩))
def C71(p:Nat)(room:Int)(l:List aX)(w:World)(hb:wy w p room l)(hn:l.length<=1048576):CR 71 [.pointer (some ⟨p,0,none⟩)] w (λv w'=>∃b,v=.pointer (some ⟨b,0,none⟩)/\mr (kC b room l) w w'):=by
 have I:=hb;obtain⟨W,E,U,V⟩:=hb;have B:=St.start w;refine am8 _ _ _ ?_;unfold S71;refine aD (aA Py (have B:=B.drew;aU aV (E.ext B.aE) (eR anB (C91 _ _ _ _ (I.ext B.aE) cW) ?_)));rintro _ _ J;have B:=B.made J;refine⟨aG aV (E.ext B.aE),?_⟩;obtain⟨O,c8,M,_⟩:=B.fu;subst M;exact pop (S0 _ _ _ _) (lC B λb _ B=>⟨b,rfl,(kC.shut B).fresh⟩)
def C36(av U:Value)(xs ys:List aX)(w:World)(M:eN (λ_=>True) w av xs)(W:eN (λ_=>True) w U ys)(hn:xs.length<=1073741824):CR 36 [av,U] w (λv w'=>v=.bool (decide (xs=ys))/\Ext w w'):=by
 have B:=St.start w;refine amY _ _ _ _ ?_;unfold S36;refine aI jO (M.ext B.aE) (aI jO (W.ext B.aE) (bQ (aC (λ_=>⟨vb (gD (by rintro rfl;omega)).symm,B.aE⟩) λiE=>?_)));refine⟨λm x V=>∃k:Nat,x=jK (k:Int)/\m=xs.length-k/\k<=xs.length/\xs.take k=ys.take k/\St w aY [] V,⟨_,0,rfl,rfl,o6 _,rfl,B⟩,?_⟩;rintro m _ V ⟨k,rfl,rfl,hk,O,B⟩ _;refine aI jO (M.ext B.aE) (aK (aC (λkn=>?_) λ_=>⟨vb (gq (by rw[mE cW,mE cW]at O;exact O)).symm,B.aE⟩));obtain⟨iO,I⟩:=gx xs (i:=(k:Int).toNat) cW
 refine aQ jO (M.ext B.aE) cW I (λ_ jS=>have B:=B.drew;aF iI jS ?_);obtain⟨qP,E⟩:=gx ys (i:=(k:Int).toNat) cW;exact aQ jO (W.ext B.aE) cW E (λ_ oC=>aF iI oC (E6 S5 rfl rfl (eqE iO qP) (aC (λJ=>⟨vb (gD (Mb I E J)).symm,B.aE⟩) λJ=>aN cW ⟨xs.length-(k+1),cW,k+1,rfl,rfl,cW,Ef O I E (FE.1 J),B⟩)))
def C21(av U:Value)(xs ys:List Int)(w:World)(M:eN (λ_=>True) w av xs)(W:eN (λ_=>True) w U ys)(hn:xs.length<=1073741824):CR 21 [av,U] w (λv w'=>v=.bool (decide (xs=ys))/\Ext w w'):=by
 have B:=St.start w;refine amL _ _ _ _ ?_;unfold S21;refine aI cE (M.ext B.aE) (aI cE (W.ext B.aE) (bQ (aC (λ_=>⟨vb (gD (by rintro rfl;omega)).symm,B.aE⟩) λiE=>?_)));refine⟨λm x V=>∃k:Nat,x=jK (k:Int)/\m=xs.length-k/\k<=xs.length/\xs.take k=ys.take k/\St w aY [] V,⟨_,0,rfl,rfl,o6 _,rfl,B⟩,?_⟩;rintro m _ V ⟨k,rfl,rfl,hk,O,B⟩ _;refine aI cE (M.ext B.aE) (aK (aC (λkn=>?_) λ_=>⟨vb (gq (by rw[mE cW,mE cW]at O;exact O)).symm,B.aE⟩));obtain⟨iO,I⟩:=gx xs (i:=(k:Int).toNat) cW
 refine aQ cE (M.ext B.aE) cW I (λ_ jS=>have B:=B.drew;aF aV jS ?_);obtain⟨qP,E⟩:=gx ys (i:=(k:Int).toNat) cW;exact aQ cE (W.ext B.aE) cW E (λ_ oC=>aF aV oC (bQ (aC (λJ=>⟨vb (gD (Mb I E J)).symm,B.aE⟩) λJ=>aN cW ⟨xs.length-(k+1),cW,k+1,rfl,rfl,cW,Ef O I E (FE.1 J),B⟩)))
def C152(p:Nat)(c room:Int)(l:List aX)(w:World)(hb:wy w p room l)(hn:l.length<=1073741824):CR 152 [.pointer (some ⟨p,0,none⟩),jK c] w (λv w'=>v=.tuple #[jK ((lU l c).getD 0),.bool (lU l c).isSome]/\Ext w w'):=by
 obtain⟨sv,Bj,M,O⟩:=hb;have B:=St.start w;refine agi _ _ _ _ ?_;unfold S152;refine aD (aA im (aU mO (M.ext B.aE) (aI jO (O.ext B.aE) (eW cW ?_))));refine⟨λm x w1=>∃k:Nat,x=jK ((k:Int)-1)/\m=k/\k<=l.length/\(∀y∈l.drop k,¬ (y.kind=3/\y.cell=c))/\St w aY [] w1,⟨_,l.length,rfl,rfl,r4 _,eU,B⟩,?_⟩;rintro k _ w1 ⟨_,rfl,rfl,hk,J,B⟩ _;refine cN (aC (λkn=>?_) λkn=>?_)
 .refine⟨_,?_,λ_ _ h=>h⟩;refine aD (aA im (aU mO (M.ext B.aE) ?_));obtain⟨E,I⟩:=gx l (i:=((k:Int)-1).toNat) cW;refine aQ jO (O.ext B.aE) cW I (λ_ As=>bO E.kind iJ As rfl rfl λ_ oC=>aF aV oC (aH (aC (λU=>?_) λU=>?_)))
  .refine aD (aA im (aU mO (M.ext B.aE) (aQ jO (O.ext B.aE) cW I λ_ AH=>bO E.cell ma AH rfl rfl λ_ vH=>aF aV vH (aH ?_))));intro se;refine aC (λW=>?_) (λW=>eW cW ⟨k-1,cW,k-1,by congr 1;omega,rfl,cW,WM (x:=E) (by rw[show k-1+1=k from cW];exact J) (by rw[<- I];congr 1;omega) (λV=>W V.2),B⟩);refine aD (aA im (aU mO (M.ext B.aE) (aQ jO (O.ext B.aE) cW I λ_ wN=>bO E.n mc wN rfl rfl λ_ yh=>aF aV yh ?_)))
   rw[T4 (k:=k-1) (x:=E) (by rw[show k-1+1=k from cW];exact J) (by rw[<- I];congr 1;omega) ⟨U,W⟩];exact⟨rfl,B.aE⟩
  intro se;exact fM (eW cW ⟨k-1,cW,k-1,by congr 1;omega,rfl,cW,WM (x:=E) (by rw[show k-1+1=k from cW];exact J) (by rw[<- I];congr 1;omega) (λV=>U V.1),B⟩)
 rw[T5 (by rw[show k=0 from cW]at J;simpa using J)];exact⟨rfl,B.aE⟩
def C146(p:Nat)(i room:Int)(l:List aX)(w:World)(hb:wy w p room l)(hn:l.length<=1073741824):CR 146 [.pointer (some ⟨p,0,none⟩),jK i] w (λv w'=>v=.bool (uP l i)/\Ext w w'):=by
 obtain⟨sv,Bj,I,J⟩:=hb;have B:=St.start w;refine agb _ _ _ _ ?_;unfold S146;refine⟨_,?_,λ_ _ h=>h⟩;refine aK (aC (λj8=>?_) λj8=>?_)
 .intro qk;exact jt ⟨vb (nJ cW).symm,B.aE⟩
 refine aD (aA im (aU mO (I.ext B.aE) (aI jO (J.ext B.aE) (cN ?_))));intro qk;refine aC (λ_=>⟨vb (nJ cW).symm,B.aE⟩) (λfT=>?_);refine⟨λm x W=>∃k:Nat,x=jK (k:Int)/\m=i.toNat-k/\(k:Int)<=i/\(∀x y,l[i.toNat]?=some x->y∈l.take k->lZ x y=true)/\St w aY [] W,⟨_,0,rfl,rfl,cW,eU,B⟩,?_⟩;rintro m _ W ⟨k,rfl,rfl,hk,mL,B⟩ _;refine aK (aC (λgI=>?_) λgI=>⟨vb (ac1 (x:=l[i.toNat]'(cW)) cW cW (nT _) λy E=>mL _ y (nT _) (by rw[show k=i.toNat from cW];exact E)).symm,B.aE⟩)
 refine aD (aA im (have B:=B.drew;aU mO (I.ext B.aE) ?_));obtain⟨Ck,O⟩:=gx l (i:=(i).toNat) cW;refine aQ jO (J.ext B.aE) cW O (λ_ tM=>aF iI tM (aD (aA im (aU mO (I.ext B.aE) ?_))));obtain⟨yi,M⟩:=gx l (i:=(k:Int).toNat) cW;refine aQ jO (J.ext B.aE) cW M (λ_ tS=>aF iI tS (aZ atY B (C203 _ _ _) λ_ he B=>bV (aW (λU=>⟨vb (aiy cW cW O cW M (by simpa using U)).symm,B.aE⟩) λU=>aN cW ?_)));refine⟨i.toNat-(k+1),cW,k+1,rfl,rfl,cW,λx y V E=>?_,B⟩
 rw[qa.inj (V.symm.trans O)]at *;exact eY (φ:=λy=>lZ Ck y=true) (λy E=>mL _ y V E) M (by simpa using U) y E
def C84(p:Nat)(room:Int)(l:List aX)(w:World)(hb:wy w p room l)(hn:l.length<=1048576):CR 84 [.pointer (some ⟨p,0,none⟩)] w (λv w'=>mr (bE v (vR l)) w w'):=by
 have M:=hb;obtain⟨sv,Bj,U,V⟩:=hb;have B:=St.start w;refine anp _ _ _ ?_;unfold S84;refine bJ ([]:List Int) B cE rfl rfl (dV rfl) (λNA E B=>?_);refine⟨λm o x E=>∃k:Nat,x=jK (k:Int)/\m=l.length-k/\k<=l.length/\St w aY [bE o (vS l k)] E,⟨_,0,rfl,rfl,o6 _,B⟩,?_⟩;rintro m o _ E ⟨k,rfl,rfl,hk,B⟩ _;have GG:=FF l k;refine aD (aA im (aU mO (U.ext B.aE) (aI jO (V.ext B.aE) (aK (aC (λkm=>⟨_,aZ akk B (C146 _ _ _ _ _ (M.ext B.aE) cW) (λ_ he B=>aW (λI=>?_) λI=>?_),λ_ _ h=>h⟩) λkm=>?_)))))
 .refine bJ ([(k:Int)]:List Int) B cE rfl rfl (dV rfl) (λac2 _ B=>?_);have J:=B.fu;refine bW B.p1 cE J (by simp<;>omega) dO (λO _ B=>?_);have B:=B.p1.drop;intro W;exact aN cW ⟨l.length-(k+1),cW,k+1,rfl,rfl,cW,by rw[JF I];exact B⟩
 .intro W;exact aN cW ⟨l.length-(k+1),cW,k+1,rfl,rfl,cW,by rw[L7 I];exact B⟩
 rw[CV l cW]at B;exact B.fresh
def C153(p:Nat)(room:Int)(l:List aX)(x:aX)(F:Nat->Prop)(w:World)(U:(kC p room l).p w F)(hn:l.length<=1048576):CR 153 [.pointer (some ⟨p,0,none⟩),j6 x] w (λv w'=>v=jK (QW room l x)/\pk F (kC p room (qb room l x)) w w'):=by
 have B:=St.begin U;obtain⟨W,B⟩:=B.fH;have B:=B.split;refine agj _ _ _ _ ?_;unfold S153;refine cU B (λV _ B=>aF iI B.At (aZ atZ B (C204 _ _) λ_ he B=>bV (aW (λE=>?_) λE=>aD (aA im (have B:=B.drew;aB mO B.p1.hb rfl (aI jO B.p2.fu (aD (aA aaJ (aB aV B.p1.hb rfl (cN (aC (λI=>?_) λI=>?_)))))))))))
 .have B:=B.p2.p2;rw[QX (by simpa using E),QY (by simpa using E)];exact⟨rfl,(kC.shut B).mut⟩
 .have B:=B.p2.p2;rw[L8 (by simpa using E) I,L9 I];exact⟨rfl,(kC.shut B).mut⟩
 refine aD (aA im (have B:=B.drew;aB mO B.p1.hb rfl (aF iI B.At (bJ ([x]) B jO rfl rfl (dV rfl) λM _ B=>?_))));refine⟨aG mO (B.p2.hb.cell rfl),?_⟩;have J:=B.fu;refine bW B.p3 jO J (by simp<;>omega) dO (λO _ B=>have B:=B.p1.drop;aD (aA im (aS B.p2 mO (dV rfl) B.fu.one λ_ B=>?_)));have B:=B.p1.p1;rw[WK (by simpa using E) I,WL (by simpa using E) I];exact⟨rfl,(kC.shut B).mut⟩
def C147(p:Nat)(room:Int)(l:List aX)(i:Int)(F:Nat->Prop)(w:World)(hF:(kC p room l).p w F)(hn:l.length<=1048576):CR 147 [.pointer (some ⟨p,0,none⟩),jK i] w (λv w'=>v=.tuple #[j6 (dK l i),jK (AS l i)]/\pk F (kC p room (kR l i)) w w'):=by
 have B:=St.begin hF;obtain⟨sv,B⟩:=B.fH;have B:=B.split;refine agc _ _ _ _ ?_;unfold S147;refine aR B tf (λxZ _ B=>?_);refine⟨_,?_,λ_ _ h=>h⟩;refine aK (aC (λkG=>?_) λkG=>?_)
 .intro qk;refine jt (pop Bs (aO (x:=(⟨0,0,0,0⟩:aX)) B iI rfl rfl λw3 B=>aF iI B.At ?_));have B:=B.p2.p2;rw[u4 (nJ cW),BG cW,u5 (nJ cW)];exact⟨rfl,(kC.shut B).mut⟩
 refine aD (aA im (aB mO B.p1.hb rfl (aI jO B.p2.fu (cN ?_))));intro qk;refine aC (λg9=>?_) (λg9=>aZ akk B (C146 _ _ _ _ _ (wy.mk' B.p1.hb B.p2.fu) cW) λ_ he B=>bV (aW (λE=>?_) λE=>?_))
 .refine pop Bs (aO (x:=(⟨0,0,0,0⟩:aX)) B iI rfl rfl λw3 B=>aF iI B.At ?_);have B:=B.p2.p2;rw[u4 (nJ cW),BG cW,u5 (nJ cW)];exact⟨rfl,(kC.shut B).mut⟩
 .refine pop Bs (aO (x:=(⟨0,0,0,0⟩:aX)) B iI rfl rfl λ_ B=>aF iI B.At ?_);have B:=B.p2.p2;rw[u4 (by simpa using E),QZ cW (by simpa using E),u5 (by simpa using E)];exact⟨rfl,(kC.shut B).mut⟩
 refine aD (aA im (aB mO B.p1.hb rfl ?_));obtain⟨I,J⟩:=gx l (i:=(i).toNat) cW;refine cH B.p2 jO cW cW (λ_ W=>eK B.p2 iI W J (aR B tf λLa _ B=>aO (x:=I) B iI rfl rfl λ_ B=>bJ ([]:List aX) B jO rfl rfl (dV rfl) λaxj _ B=>aD (aA im (aB mO B.p3.hb rfl (LI jO B.p4.fu cW cW λab0 vw=>?_)))));have V:=vw;refine bW B jO V (by simp<;>omega) dO (λWz _ B=>aD (aA im (aB mO B.p3.hb rfl (aN cW (LJ jO B.p4.fu cW cW λalH O=>?_)))))
 have M:=O;refine bW B jO M (by simp<;>omega) dO (λU _ B=>aD (aA im (aS B.p3 mO (dV rfl) B.fu.one λ_ B=>aF iI B.p2.At (aO (x:=I) B.p3 iI rfl rfl λ_ B=>aF iI B.At ?_))));have B:=B.p2.p2;rw[Q1 (by simpa using E) J,Q0 (by simpa using E),Q2 (by simpa using E),<- N3,<- show(i+1).toNat=i.toNat+1 from cW];exact⟨rfl,(kC.shut B).mut⟩
end Go.Proofs.YtnjcingfdhjfkaaGreat
namespace Go.Fw
open Go.MapKept (Stamped IsKey)
open Go.ChangeMaps (setBlock)
def oL(w:World)(b:Nat)(ks:List Int)(vs:List Value):Prop:=
 ∃es clock,w.heap[b]?=some (.map es clock)/\Stamped es clock/\es.toList.map (·.key)=ks.map (qs .i64)/\es.toList.map (·.val)=vs
def mF:List Int->Int->Option Nat
 | [],_=>none
 | x::xs,k=>if x=k then some 0 else(mF xs k).map (· + 1)
theorem my:∀{ks:List Int}{k:Int}{j:Nat},mF ks k=some j->ks[j]?=some k
 | x::xs,k,j,h=>by
  unfold mF at h
  split at h
  .grind
  .cases hh:mF xs k with
   | none=>grind
   | some i=>rw[hh]at h;simp at h;subst h;simpa using my hh
theorem oM:∀{ks:List Int}{k:Int},mF ks k=none↔k ∉ ks
 | [],_=>by simp[mF]
 | x::xs,k=>by
  unfold mF
  by_cases e:x=k
  .simp[e]
  .rw[fU e,Option.map_eq_none_iff,oM,List.mem_cons]
   grind
theorem vT:∀{ks:List Int}{k:Int}{j:Nat},ks.Nodup->ks[j]?=some k->mF ks k=some j
 | x::xs,k,0,_,h=>by simp at h;simp[mF,h]
 | x::xs,k,j+1,hn,h=>by
  rw[yV]at h
  have B:=ld h
  have:x≠k:=λe=>(abI.1 hn).1 (e▸B)
  simp[mF,this,vT (abI.1 hn).2 h]
def look{β:Type}(ks:List Int)(vs:List β)(k:Int):Option β:=(mF ks k).bind (vs[·]?)
def rS{β:Type}(f:Int->β)(k:Int)(x:β):Int->β:=λj=>if j=k then x else f j
section
variable {P:Program}{w w0 w':World}{A:Nat->Prop}{L:List HP}{b:Nat}{ks:List Int}{vs:List Value}
theorem oL.of_eq(h:oL w b ks vs)(B:w'.heap[b]?=w.heap[b]?):oL w' b ks vs:=by
 grind[oL]
theorem oL.lt(h:oL w b ks vs):b<w.heap.size:=by obtain⟨es,c,h1,_⟩:=h;grind
theorem oL.ext(h:oL w b ks vs)(e:Ext w w'):oL w' b ks vs:=h.of_eq (e.cI b h.lt λh=>h)
theorem oL.len(h:oL w b ks vs):ks.length=vs.length:=by
 obtain⟨es,c,_,_,h3,h4⟩:=h
 have:=hM List.length h3;grind
theorem oL.nodup(h:oL w b ks vs):ks.Nodup:=by
 obtain⟨es,c,_,h2,h3,h4⟩:=h
 have:=h2.2.2
 grind
def Lb(b:Nat)(ks:List Int)(vs:List Value):HP where
 p w F:=oL w b ks vs/\∀k,F k↔k=b
 loc w w' F h hh:=⟨h.1.of_eq (hh b ((h.2 b).2 rfl)),h.2⟩
 lt w F b' h hb:=by rw[(h.2 b').1 hb];exact h.1.lt
theorem YD{es:Array MapEntry}(h3:es.toList.map (·.key)=ks.map (qs .i64)):∀x∈es.toList,IsKey (.int .i64) x.key:=by
 intro x B
 have:x.key∈es.toList.map (·.key):=r5.2 ⟨x,B,rfl⟩
 rw[h3]at this
 obtain⟨k,_,e⟩:=r5.1 this
 rw[<- e];simp[IsKey]
theorem JI{T:TypeId}{k:Int}{es:Array MapEntry}(B:P.underlying T=some (.int .i64))(E:ks.Nodup)(h3:es.toList.map (·.key)=ks.map (qs .i64)) :
  (mF ks k=none/\(Qs T (jK k) es.toList).run P w=.ok none w)\/∃j e,mF ks k=some j/\es.toList[j]?=some e/\e.key=jK k/\(Qs T (jK k) es.toList).run P w=.ok (some (j,e.val)) w:=by
 rcases MapKept.findNow_spec (d:=.int .i64) (k:=jK k) (by simp[IsKey]) es.toList 0 (YD h3)with⟨h1,h2⟩|⟨j,e,h1,h2,h4⟩
 .refine .inl ⟨oM.2 λI=>?_,MapKept.run_findKey B h1⟩
  have:qs .i64 k∈es.toList.map (·.key):=eS
  grind
 refine .inr ⟨j,e,vT E ?_,h2,h4,by rw[Nat.zero_add]at h1;exact MapKept.run_findKey B h1⟩
 have:(es.toList.map (·.key))[j]?=some (jK k):=eS
 grind
theorem sP{T J E:TypeId}{z:Value}{k:Int}(h:oL w b ks vs)(ht:P.underlying T=some (.map J E))(M:P.underlying J=some (.int .i64))(B:ug P E z) :
  (yz T (.map (some b)) (jK k) false).run P w=.ok ((look ks vs k).getD z) w:=by
 have U:=h.nodup
 obtain⟨es,c,h1,h2,h3,h4⟩:=h
 have I:(zeroValue E).run P w=.ok z w:=by
  unfold ug fC at B
  cases hi:P.info? E with
  | none=>grind
  | some i=>
   rw[hi]at B
   simp only[F1,qa.injEq]at B
   refine gK ?_ w
   unfold zeroValue;rw[cX,qH hi];simp only[o5,B];rfl
 have hc:=MapKept.run_checkKey (P:=P) (w:=w) (kt:=J) (k:=jK k) M (by simp[IsKey]) es.isEmpty 9999
 rcases JI (w:=w) (k:=k) M U h3 with⟨h5,h6⟩|⟨j,e,h5,h6,V,O⟩
 .simp[yz,run_underlying ht,MapKept.run_getObj_map h1,hc,h6,I,Result.andThen,look,h5]
 have:vs[j]?=some e.val:=eS
 simp[yz,run_underlying ht,MapKept.run_getObj_map h1,hc,O,Result.andThen,look,h5,this]
theorem oN(o:Obj)(hb:b<w.heap.size):(setBlock w b o).heap[b]?=some o:=by simp[setBlock,hb]
theorem js.setBlock(w:World)(b:Nat)(o:Obj):js (· = b) w (setBlock w b o):=
 ⟨rfl,rfl,rfl,by simp[ChangeMaps.setBlock],λk _ B=>by simp only[ChangeMaps.setBlock];grind⟩
theorem vU{es:Array MapEntry}{clock:Nat}{o:Obj}(h1:w.heap[b]?=some (.map es clock)):(setObj b o).run P w=.ok () (setBlock w b o):=by
 simp[setObj,Sem.run,h1,setBlock]
theorem WN{T O E:TypeId}{v:Value}{k:Int}(h:oL w b ks vs)(ht:P.underlying T=some (.map O E))(U:P.underlying O=some (.int .i64)) :
  ∃w',(sl T (.map (some b)) (jK k) v).run P w=.ok () w'/\js (· = b) w w'/\
   (match mF ks k with|some j=>oL w' b ks (vs.set j v)|none=>oL w' b (ks++[k]) (vs++[v])):=by
 have hn:=h.nodup
 have V:=h.lt
 obtain⟨es,c,h1,h2,h3,h4⟩:=h
 have hc:=MapKept.run_checkKey (P:=P) (w:=w) (kt:=O) (k:=jK k) U (by simp[IsKey]) false 9999
 rcases JI (w:=w) (k:=k) U hn h3 with⟨h5,h6⟩|⟨j,e,h5,h6,h7,h8⟩
 .refine⟨_,?_,js.setBlock w b (.map (es.push ⟨jK k,v,c⟩) (c+1)),?_⟩
  .simp[sl,run_underlying ht,MapKept.run_getObj_map h1,hc,h6,vU h1,Result.andThen]
  rw[h5]
  refine⟨_,_,oN _ V,MapKept.stamped_push h2 λx W e=>?_,by simp[h3],by simp[h4]⟩
  have:x.key∈es.toList.map (·.key):=r5.2 ⟨x,W,rfl⟩
  rw[h3,e]at this
  obtain⟨k',J,B⟩:=r5.1 this
  simp at B
  exact oM.1 h5 (B▸J)
 have M:es[j]?=some e:=eS
 have gj:(aaR e.key (jK k)).run P w=.ok (jK k) w:=by
  rw[h7];unfold aaR;simp[Instr.sameBits]
 refine⟨_,?_,js.setBlock w b (.map (es.modify j λe=>{e with key:=jK k,val:=v}) c),?_⟩
 .simp[sl,run_underlying ht,MapKept.run_getObj_map h1,hc,h8,vU h1,Result.andThen,M,gj]
 rw[h5]
 have J:∀B,es[j]?=some B->({B with key:=jK k,val:=v}:MapEntry).key=B.key:=λB I=>by
  grind
 refine⟨_,_,oN _ V,MapKept.stamped_modify h2 j _ (λ_ _=>rfl) (λB _ I=>J B I),?_,?_⟩
 .rw[MapKept.modify_keys j _ J,h3]
 rw[<- h4]
 apply wj
 grind
theorem aiz{T B E R:TypeId}{J:Array TypeId}{k:Int}(h:oL w b ks vs)(I:J[0]?=some T)(ht:P.underlying T=some (.map B E))(M:P.underlying B=some (.int .i64)) :
  ∃w',(Builtin.delete_ J R [.map (some b),jK k].toArray).run P w=.ok (.tuple #[]) w'/\js (· = b) w w'/\
   (match mF ks k with|some j=>oL w' b (ks.eraseIdx j) (vs.eraseIdx j)|none=>oL w' b ks vs):=by
 have W:=h.nodup
 have O:=h.lt
 obtain⟨es,c,h1,h2,h3,h4⟩:=h
 have hc:=MapKept.run_checkKey (P:=P) (w:=w) (kt:=B) (k:=jK k) M (by simp[IsKey]) es.isEmpty 9999
 rcases JI (w:=w) (k:=k) M W h3 with⟨h5,h6⟩|⟨j,e,h5,h6,h7,V⟩
 .refine⟨_,?_,js.setBlock w b (.map es c),?_⟩
  .simp[Builtin.delete_,I,run_underlying ht,MapKept.run_getObj_map h1,hc,h6,vU h1,Result.andThen]
  rw[h5]
  exact⟨_,_,oN _ O,h2,h3,h4⟩
 have hj:j<es.size:=eS
 refine⟨_,?_,js.setBlock w b (.map (es.eraseIdxIfInBounds j) c),?_⟩
 .simp[Builtin.delete_,I,run_underlying ht,MapKept.run_getObj_map h1,hc,V,vU h1,Result.andThen]
 rw[h5]
 have U:(es.eraseIdxIfInBounds j).toList=es.toList.eraseIdx j:=by
  simp_all
 refine⟨_,_,oN _ O,MapKept.stamped_erase h2 j,?_,?_⟩
 .rw[U,ChangeMaps.map_eraseIdx,h3,ChangeMaps.map_eraseIdx]
 rw[U,ChangeMaps.map_eraseIdx,h4]
theorem AT{T:TypeId}{K:Value->jj}(B:St w0 A L w)(k:∀b w',St w0 A (Lb b [] []::L) w'->K (.map (some b)) w'):nU P (M6 T none) w K:=
 ⟨_,_,rfl,k _ _ (B.new (Ext.push w (.map #[] 0)) (F:=λk=>k=w.heap.size) ⟨⟨#[],0,tu _ _,MapKept.stamped_empty 0,rfl,rfl⟩,λ_=>Iff.rfl⟩ λb hb=>by rw[hb];exact r4 _)⟩
theorem St.Eg(B:St w0 A (Lb b ks vs::L) w):oL w b ks vs:=by obtain⟨F,h,_⟩:=B.head;exact h.1
theorem j1{T J E:TypeId}{v:Value}{k:Int}{K:jj}(I:St w0 A (Lb b ks vs::L) w)(ht:P.underlying T=some (.map J E))(B:P.underlying J=some (.int .i64))(U:mF ks k=none)
  (O:∀w',St w0 A (Lb b (ks++[k]) (vs++[v])::L) w'->K w'):FW P (sl T (.map (some b)) (jK k) v) w K:=by
 obtain⟨w',h1,h2,h3⟩:=WN (P:=P) (v:=v) (k:=k) I.Eg ht B
 rw[U]at h3
 exact⟨w',h1,O w' (I.wk λF M=>⟨F,⟨h3,M.2⟩,λb hb=>.inl hb,h2.mono λk B=>(M.2 k).2 B⟩)⟩
end
section
variable {α:Type}[Flat α] {P:Program}{w w0 w':World}{A:Nat->Prop}{L:List HP}{b:Nat}{f:Int->List α}
abbrev GI(s:SV)(x:List α):HP:=bE (j6 s) x
def sq(b:Nat)(f:Int->List α):HP:=uI λks=>uI λE:List SV=>uI λB:List (List α)=>fact (f=λk=>(look ks B k).getD []) (sep (Lb b ks (E.map j6)) (iU GI E B))
def wO(w:World)(b:Nat)(f:Int->List α):Prop:=∃ks,∃B:List SV,oL w b ks (B.map j6)/\(∀(i:Nat) (k:Int) (s:SV),ks[i]?=some k->B[i]?=some s->eN (λ_=>True) w (j6 s) (f k))/\∀k,k ∉ ks->f k=[]
theorem wO.ext(h:wO w b f)(e:Ext w w'):wO w' b f:=by
 obtain⟨ks,B,h1,h2,h3⟩:=h;exact⟨ks,B,h1.ext e,λi k s a c=>(h2 i k s a c).ext e,h3⟩
theorem tn{β:Type}{ks:List Int}{xs:List β}{k:Int}{i:Nat}{x:β}(B:ks.Nodup)(h1:ks[i]?=some k)(h2:xs[i]?=some x):look ks xs k=some x:=by
 unfold look;rw[vT B h1];exact h2
theorem sQ{β:Type}{ks:List Int}{xs:List β}{k:Int}(h:k ∉ ks):look ks xs k=none:=by unfold look;rw[oM.2 h];rfl
theorem sq.rd{F:Nat->Prop}(h:(sq b f).p w F):wO w b f:=by
 obtain⟨ks,J,B,O,W,V,h1,h2,_,_⟩:=h
 refine⟨ks,J,h1.1,λi k s E M=>?_,λk E=>by rw[O];dsimp only;rw[sQ E];rfl⟩
 have hl:=Fb h2
 have U:i<B.length:=by have:=(l0.1 M).1;omega
 have I:B[i]?=some B[i]:=nT U
 have gj:St w V [iU GI J B] w:=St.begin h2
 have:=gj.anP M I (Φ:=λw=>eN (λ_=>True) w (j6 s) B[i]) λh=>(bE.rd h).mono λ_ _=>trivial
 rw[O];dsimp only
 rw[tn h1.1.nodup E I];exact this
theorem St.ac3(B:St w0 A (sq b f::L) w):wO w b f:=by obtain⟨F,h,_⟩:=B.head;exact sq.rd h
theorem wO.look{T M E:TypeId}{k:Int}(h:wO w b f)(ht:P.underlying T=some (.map M E))(V:P.underlying M=some (.int .i64))(U:ug P E (.slice none 0 0)) :
  ∃s:SV,(yz T (.map (some b)) (jK k) false).run P w=.ok (j6 s) w/\eN (λ_=>True) w (j6 s) (f k):=by
 obtain⟨ks,B,h1,h2,h3⟩:=h
 have J:=sP (P:=P) (k:=k) h1 ht V U
 cases q7:mF ks k with
 | none=>
  have:Fw.look ks (B.map j6) k=none:=by unfold Fw.look;grind
  rw[this]at J
  exact⟨bL,J,by rw[h3 k (oM.1 q7)];exact eN.nil _ _⟩
 | some j=>
  have hj:=my q7
  have W:=h1.len
  have I:j<B.length:=eS
  have O:B[j]?=some B[j]:=nT I
  have:Fw.look ks (B.map j6) k=some (j6 B[j]):=by unfold Fw.look;grind
  grind
theorem wO.axk{T M E:TypeId}{k:Int}(h:wO w0 b f)(ht:P.underlying T=some (.map M E))(V:P.underlying M=some (.int .i64))(U:ug P E (.slice none 0 0)) :
  ∃s:SV,(∀w,Ext w0 w->(yz T (.map (some b)) (jK k) false).run P w=.ok (j6 s) w)/\eN (λ_=>True) w0 (j6 s) (f k):=by
 obtain⟨ks,B,h1,h2,h3⟩:=h
 have J:∀w,Ext w0 w->_:=λw e=>sP (P:=P) (k:=k) (h1.ext e) ht V U
 cases q7:mF ks k with
 | none=>
  have:Fw.look ks (B.map j6) k=none:=by unfold Fw.look;grind
  rw[this]at J
  exact⟨bL,J,by rw[h3 k (oM.1 q7)];exact eN.nil _ _⟩
 | some j=>
  have hj:=my q7
  have W:=h1.len
  have I:j<B.length:=eS
  have O:B[j]?=some B[j]:=nT I
  have:Fw.look ks (B.map j6) k=some (j6 B[j]):=by unfold Fw.look;grind
  grind
theorem FG{T B E:TypeId}{k:Int}{K:Value->Prop}(h:wO w0 b f)(e:Ext w0 w)(ht:P.underlying T=some (.map B E))(M:P.underlying B=some (.int .i64))(I:ug P E (.slice none 0 0))
  (J:∀s:SV,eN (λ_=>True) w0 (j6 s) (f k)->K (j6 s)):Kw P (yz T (.map (some b)) (jK k) false) w K:=by
 obtain⟨s,h1,h2⟩:=h.axk (P:=P) (k:=k) ht M I;exact⟨_,h1 w e,J s h2⟩
def Q3(b:Nat)(f:Int->List α)(k:Int)(s:SV):HP:=uI λks=>uI λE:List SV=>uI λI:List (List α)=>uI λvs:List Value=>
 fact ((∀B,B≠k->f B=(look ks I B).getD [])/\look ks vs k=(mF ks k).map (λ_=>j6 s)/\(mF ks k=none->s=bL)/\vs.length=E.length/\∀(i:Nat) (B:Int),ks[i]?=some B->B≠k->vs[i]?=(E[i]?).map j6) (sep (Lb b ks vs) (iU GI E I))
theorem St.JJ{k:Int}(B:St w0 A (sq b f::L) w):∃s:SV,St w0 A (bE (j6 s) (f k)::Q3 b f k s::L) w:=by
 obtain⟨ks,B⟩:=B.fH;obtain⟨E,B⟩:=B.fH;obtain⟨I,B⟩:=B.fH;obtain⟨V,B⟩:=B.pd
 replace B:=B.split
 have hm:=B.Eg
 have hl:=hm.len
 have Kx:=B.p1.jy
 have hn:=hm.nodup
 rw[qE]at hl
 cases q7:mF ks k with
 | none=>
  refine⟨bL,?_⟩
  have hx:look ks I k=none:=by unfold look;rw[q7];rfl
  have e:f k=[]:=by rw[V];dsimp only;rw[hx];rfl
  rw[e]
  refine(St.fD ks (St.fD E (St.fD I (St.fD (E.map j6) (St.qM ⟨λU _=>by rw[V],by unfold look;rw[q7];rfl,λ_=>rfl,by rw[qE],λi U _ _=>by rw[uO]⟩ (St.join B)))))).gA
 | some j=>
  have O:=my q7
  have hjk:=(l0.1 O).1
  have J:E[j]?=some (E[j]'(cW)):=nT _
  have M:I[j]?=some (I[j]'(cW)):=nT _
  refine⟨E[j]'(cW),?_⟩
  have e:f k=I[j]'(cW):=by rw[V];dsimp only;rw[tn hn O M];rfl
  rw[e]
  have h1:=(B.p1.focus J M).p1
  have h2:=(h1.gA (α:=α)).p1
  have h3:St w0 A (GI (bL:SV) ([]:List α)::qN GI E I j::_::_::L) w:=h2.p1
  have h4:=h3.It cW Kx
  have h5:=h4.p2
  refine(St.fD ks (St.fD (E.set j bL) (St.fD (I.set j []) (St.fD (E.map j6) (St.qM ⟨λU W=>?_,by unfold look;rw[q7];simp[J],λh=>(by cases q7.symm.trans h),eU,λi U hi W=>?_⟩ (St.join h5)))))).p1
  .rw[V];dsimp only
   unfold look
   cases hq:mF ks U with
   | none=>rfl
   | some i=>
    have:j≠i:=λe=>W (by have:=my hq;rw[<- e,O]at this;exact(qa.inj this).symm)
    simp[this]
  .rw[uO,JG]
   rintro rfl
   rw[O]at hi;exact W (qa.inj hi).symm
theorem St.FH{T I E:TypeId}{k:Int}{s:SV}(B:St w0 A (Q3 b f k s::L) w)(ht:P.underlying T=some (.map I E))(M:P.underlying I=some (.int .i64))(J:ug P E (.slice none 0 0)) :
  (yz T (.map (some b)) (jK k) false).run P w=.ok (j6 s) w:=by
 obtain⟨ks,B⟩:=B.fH;obtain⟨U,B⟩:=B.fH;obtain⟨O,B⟩:=B.fH;obtain⟨vs,B⟩:=B.fH;obtain⟨⟨_,h2,h3,_⟩,B⟩:=B.pd
 have:=sP (P:=P) (k:=k) B.split.Eg ht M J
 rw[h2]at this
 cases q7:mF ks k with
 | none=>rw[q7]at this;rw[h3 q7];exact this
 | some j=>rw[q7]at this;exact this
theorem St.ac4{k:Int}{s:SV}{xs:List α}(B:St w0 A (bE (j6 s) xs::Q3 b f k s::L) w):St w0 A (sq b (rS f k xs)::L) w:=by
 replace B:=B.p1
 obtain⟨ks,B⟩:=B.fH;obtain⟨I,B⟩:=B.fH;obtain⟨J,B⟩:=B.fH;obtain⟨vs,B⟩:=B.fH;obtain⟨⟨hf,h2,h3,hvs,O⟩,B⟩:=B.pd
 replace B:=B.split
 have hm:=B.Eg
 have hl:=hm.len
 have hn:=hm.nodup
 have Kx:=B.p1.jy
 cases q7:mF ks k with
 | none=>
  have BH:=oM.1 q7
  have M:vs=I.map j6:=wj λi=>by
   cases hi:ks[i]? with
   | none=>rw[Eb]at hi;rw[o3 cW,o3 (by rw[qE];omega)]
   | some E=>rw[O i E hi (λe=>BH (e▸ld hi)),uO]
  have hx:xs=[]:=by
   obtain⟨F,h,_⟩:=B.p2.head
   rw[h3 q7]at h
   rcases h with⟨_,h,_⟩|⟨b',cap,rest,h,_⟩
   .exact h
   .cases h
  subst hx
  refine St.fD ks (St.fD I (St.fD J (St.qM ?_ (St.join ?_))))
  .funext E
   unfold rS
   by_cases e:E=k
   .subst e;rw[fV rfl,sQ BH];rfl
   .rw[fU e,hf E e]
  .rw[<- M];exact B.p2.drop
 | some j=>
  have W:=my q7
  have hjk:=(l0.1 W).1
  have U:I[j]?=some (I[j]'(cW)):=nT _
  have hxj:J[j]?=some (J[j]'(cW)):=nT _
  have V:vs[j]?=some (j6 s):=by unfold look at h2;rw[q7]at h2;exact h2
  have h6:=((B.p1.focus U hxj).drop).p2
  have h7:St w0 A (GI s xs::qN GI I J j::_::L) w:=h6.p0
  have h8:=h7.It cW Kx
  refine St.fD ks (St.fD (I.set j s) (St.fD (J.set j xs) (St.qM ?_ (St.join ?_))))
  .funext E
   unfold rS
   by_cases e:E=k
   .subst e
    rw[fV rfl,tn hn W (x:=xs) (by rw[yF cW])];rfl
   .rw[fU e,hf E e]
    unfold look
    cases hq:mF ks E with
    | none=>rfl
    | some i=>
     have:j≠i:=λe'=>e (by have:=my hq;rw[<- e',W]at this;exact(qa.inj this).symm)
     simp[this]
  .have e:(I.set j s).map j6=vs:=by
    apply wj
    intro i
    rw[uO]
    by_cases e:j=i
    .subst e;rw[yF cW,V];rfl
    .rw[JG e]
     cases hi:ks[i]? with
     | none=>rw[Eb]at hi;rw[o3 (show vs.length<=i by omega),o3 (show I.length<=i by omega)];rfl
     | some E=>rw[O i E hi λe'=>e (by rw[e']at hi;have h1:=vT hn hi;rw[q7]at h1;exact qa.inj h1)]
   rw[e];exact h8.p1
omit [Flat α]in
theorem YE{f:Int->List α}{k:Int}:rS f k (f k)=f:=by
 grind[rS]
theorem Gr{T Kt E:TypeId}{k:Int}{s s':SV}{xs:List α}{K:jj}(B:St w0 A (bE (j6 s') xs::Q3 b f k s::L) w)(ht:P.underlying T=some (.map Kt E))(hk:P.underlying Kt=some (.int .i64))
  (kk:∀w',St w0 A (sq b (rS f k xs)::L) w'->K w'):FW P (sl T (.map (some b)) (jK k) (j6 s')) w K:=by
 replace B:=B.p1
 obtain⟨ks,B⟩:=B.fH;obtain⟨M,B⟩:=B.fH;obtain⟨O,B⟩:=B.fH;obtain⟨vs,B⟩:=B.fH;obtain⟨⟨hf,h2,h3,hvs,ac5⟩,B⟩:=B.pd
 replace B:=B.split
 have hm:=B.Eg
 have hl:=hm.len
 have hn:=hm.nodup
 have Kx:=B.p1.jy
 obtain⟨w',r1,r2,U⟩:=WN (P:=P) (v:=j6 s') (k:=k) hm ht hk
 refine⟨w',r1,kk w' ?_⟩
 cases q7:mF ks k with
 | none=>
  rw[q7]at U
  have h5:St w0 A (Lb b (ks++[k]) (vs++[j6 s'])::_::_::L) w':=B.wk λF hF=>⟨F,⟨U,hF.2⟩,λb hb=>.inl hb,r2.mono λk hk=>(hF.2 k).2 hk⟩
  have BH:=oM.1 q7
  have V:vs=M.map j6:=wj λi=>by
   cases J:ks[i]? with
   | none=>rw[Eb]at J;rw[o3 cW,o3 (by rw[qE];omega)]
   | some I=>rw[ac5 i I J (λe=>BH (e▸ld J)),uO]
  have h6:=h5.p1
  have h7:St w0 A (iU GI (M++[s']) (O++[xs])::_::L) w':=St.DG (H:=GI (α:=α)) (p:=s') (x:=xs) h6.p2.p1
  refine St.fD (ks++[k]) (St.fD (M++[s']) (St.fD (O++[xs]) (St.qM ?_ (St.join ?_))))
  .funext I
   unfold rS
   by_cases e:I=k
   .subst e
    rw[fV rfl,tn (i:=ks.length) U.nodup eU (x:=xs) (by rw[Bu cW];simp[show ks.length-O.length=0 from cW])];rfl
   .rw[fU e,hf I e]
    by_cases uh:I∈ks
    .obtain⟨i,J,hik⟩:=H4 uh
     have hki:ks[i]?=some I:=by rw[nT J,hik]
     have W:O[i]?=some (O[i]'(cW)):=nT _
     rw[tn hn hki W,tn (i:=i) U.nodup (by rw[u2 J];exact hki) (by rw[u2 cW];exact W)]
    .rw[sQ uh,sQ (by simp[uh,e])]
  .have e:(M++[s']).map j6=vs++[j6 s']:=by rw[V,yU];rfl
   rw[e];exact h7.p1
 | some j=>
  rw[q7]at U
  have h5:St w0 A (Lb b ks (vs.set j (j6 s'))::_::_::L) w':=B.wk λF hF=>⟨F,⟨U,hF.2⟩,λb hb=>.inl hb,r2.mono λk hk=>(hF.2 k).2 hk⟩
  have hj:=my q7
  have hjk:=(l0.1 hj).1
  have hsj:M[j]?=some (M[j]'(cW)):=nT _
  have hxj:O[j]?=some (O[j]'(cW)):=nT _
  have h6:=((h5.p1.focus hsj hxj).drop).p2
  have h7:St w0 A (GI s' xs::qN GI M O j::_::L) w':=h6.p0
  have h8:=h7.It cW Kx
  refine St.fD ks (St.fD (M.set j s') (St.fD (O.set j xs) (St.qM ?_ (St.join ?_))))
  .funext I
   unfold rS
   by_cases e:I=k
   .subst e
    rw[fV rfl,tn hn hj (x:=xs) (by rw[yF cW])];rfl
   .rw[fU e,hf I e]
    unfold look
    cases hq:mF ks I with
    | none=>rfl
    | some i=>
     have:j≠i:=λe'=>e (by have:=my hq;rw[<- e',hj]at this;exact(qa.inj this).symm)
     simp[this]
  .have e:(M.set j s').map j6=vs.set j (j6 s'):=by
    apply wj
    intro i
    rw[uO]
    by_cases e:j=i
    .subst e;rw[yF cW,yF cW];rfl
    .rw[JG e,JG e]
     cases J:ks[i]? with
     | none=>rw[Eb]at J;rw[o3 (show vs.length<=i by omega),o3 (show M.length<=i by omega)];rfl
     | some I=>rw[ac5 i I J λe'=>e (by rw[e']at J;have h1:=vT hn J;rw[q7]at h1;exact qa.inj h1)]
   rw[e];exact h8.p1
theorem rT{T:TypeId}{K:Value->jj}(B:St w0 A L w)(k:∀b w',St w0 A (sq b (λ_=>([]:List α))::L) w'->K (.map (some b)) w'):nU P (M6 T none) w K:=
 AT B λb w' h=>k b w' (St.fD [] (St.fD [] (St.fD ([]:List (List α)) (St.qM rfl (St.join ((h.new (Ext.refl w') (H:=iU GI [] []) (F:=aY) (λ_ h=>h) λ_ h=>h.elim).p1))))))
theorem Q4{T Kt E R:TypeId}{k:Int}{A2:Array TypeId}{K:Value->jj}(B:St w0 A (sq b f::L) w)(ha:A2[0]?=some T)(ht:P.underlying T=some (.map Kt E))(W:P.underlying Kt=some (.int .i64))
  (kk:∀v w',St w0 A (sq b (rS f k [])::L) w'->K v w'):nU P (Builtin.delete_ A2 R [.map (some b),jK k].toArray) w K:=by
 obtain⟨ks,B⟩:=B.fH;obtain⟨V,B⟩:=B.fH;obtain⟨U,B⟩:=B.fH;obtain⟨hf,B⟩:=B.pd
 replace B:=B.split
 have hm:=B.Eg
 have hl:=hm.len
 have Kx:=B.p1.jy
 have hn:=hm.nodup
 rw[qE]at hl
 obtain⟨w',r1,r2,M⟩:=aiz (P:=P) (R:=R) (k:=k) hm ha ht W
 refine⟨_,w',r1,kk _ w' ?_⟩
 cases q7:mF ks k with
 | none=>
  rw[q7]at M
  have h5:St w0 A (Lb b ks (V.map j6)::_::L) w':=B.wk λF hF=>⟨F,⟨M,hF.2⟩,λb hb=>.inl hb,r2.mono λk W=>(hF.2 k).2 W⟩
  refine St.fD ks (St.fD V (St.fD U (St.qM ?_ (St.join h5))))
  funext k'
  unfold rS
  by_cases e:k'=k
  .subst e;rw[fV rfl];unfold look;rw[q7];rfl
  .rw[fU e,hf]
 | some j=>
  rw[q7]at M
  have hj:=my q7
  have hjk:=(l0.1 hj).1
  have h5:St w0 A (Lb b (ks.eraseIdx j) ((V.map j6).eraseIdx j)::_::L) w':=B.wk λF hF=>⟨F,⟨M,hF.2⟩,λb hb=>.inl hb,r2.mono λk W=>(hF.2 k).2 W⟩
  have hsj:V[j]?=some (V[j]'(cW)):=nT _
  have hxj:U[j]?=some (U[j]'(cW)):=nT _
  have h6:=(h5.p1.focus hsj hxj).drop.Yc
  dsimp only at M
  rw[<- ChangeMaps.map_eraseIdx]at h6 M
  refine St.fD (ks.eraseIdx j) (St.fD (V.eraseIdx j) (St.fD (U.eraseIdx j) (St.qM ?_ (St.join h6.p1))))
  funext k'
  unfold rS
  by_cases e:k'=k
  .subst e
   rw[fV rfl,sQ];rfl
   intro O2
   obtain⟨i,hi,I⟩:=H4 O2
   rw[List.getElem_eraseIdx]at I
   split at I
   .have:=vT (j:=i) hn (k:=k') (by rw[<- I];exact nT _);rw[q7]at this;have:=qa.inj this;omega
   .have:=vT (j:=i+1) hn (k:=k') (by rw[<- I];exact nT _);rw[q7]at this;have:=qa.inj this;omega
  .rw[fU e,hf];dsimp only
   by_cases uh:k'∈ks
   .obtain⟨i,hi,I⟩:=H4 uh
    have J:ks[i]?=some k':=by rw[nT hi,I]
    have O:U[i]?=some (U[i]'(cW)):=nT _
    have hij:i≠j:=λe'=>e (by rw[e',hj]at J;exact(qa.inj J).symm)
    rw[tn hn J O]
    by_cases pF:i<j
    .rw[tn (i:=i) M.nodup (by rw[Rv pF];exact J) (by rw[Rv pF];exact O)]
    .rw[tn (i:=i-1) M.nodup (by rw[RE cW,show i-1+1=i from cW];exact J) (by rw[RE cW,show i-1+1=i from cW];exact O)]
   .rw[sQ uh,sQ λh=>uh ((List.eraseIdx_sublist ks j).subset h)]
end
section
variable {α:Type}[Flat α] {P:Program}{w w0 w':World}{A S:Nat->Prop}{L:List HP}{xs ys:List α}
theorem JK{T T2 E M b o dn dc:Nat}{z:Option Nat}{R:TypeId}{src:Value}{cs:List Value}(ht:gg P T=some (E,o4 α,M,z))(hb:uE w b cs)(B:eN S w src ys)
  (hn:ys.length<=dn) (SP:o+ys.length*o4 α<=cs.length) :
  ∃w',(Builtin.copy_ #[T,T2] R [.slice (some ⟨b,o,none⟩) dn dc,src].toArray).run P w=.ok (jK ys.length) w'/\uE w' b (jI cs o (flat ys))/\js (· = b) w w':=by
 obtain⟨V,U,I,W,E4,_⟩:=iC ht
 have hf:=Bl (α:=α) (P:=P) (sz:=o4 α) rfl B
 have rd:=B
 obtain⟨sa,O,rfl,hsc,J⟩:=rd
 obtain⟨w',h1,h2,h3⟩:=oY (P:=P) (o:=o) (flat ys) 0 cs w hb (by rw[dU];omega) Dp
 refine⟨w',?_,cW,h3⟩
 simp[Builtin.copy_,run_underlying V,sizeOf,typeInfo,I,Builtin.lenOf,xr hn,hf,W,h1,goInt]
theorem Q5{T T2 E pj:Nat}{z:Option Nat}{R:TypeId}{v src:Value}{K:Value->jj}(M:St w0 A (bE v xs::L) w)(ht:gg P T=some (E,o4 α,pj,z))(O:eN S w src ys)(I:ys.length<=xs.length)
  (k:∀w',St w0 A (bE v (ys++xs.drop ys.length)::L) w'->K (jK ys.length) w'):nU P (Builtin.copy_ #[T,T2] R [v,src].toArray) w K:=by
 obtain⟨U,F,U',g1,g2,g3,g4,g5⟩:=M.xa
 rcases g1 with⟨rfl,rfl,hF⟩|⟨b,cap,rest,rfl,hb,V,hF⟩
 .obtain rfl:ys=[]:=by simpa using I
  obtain⟨hu,inf,hi,oq,E4,_⟩:=iC ht
  have hf:=Bl (α:=α) (P:=P) (sz:=o4 α) rfl O
  obtain⟨sa,aaF,rfl,hsc,hs3⟩:=O
  refine⟨_,w,?_,k w M⟩
  simp at hf
  simp[Builtin.copy_,run_underlying hu,sizeOf,typeInfo,hi,Builtin.lenOf,oq,hf,goInt]
 have hle:ys.length*o4 α<=xs.length*o4 α:=BO _ I
 obtain⟨w',h1,h2,h3⟩:=JK (P:=P) (o:=0) (dn:=xs.length) (dc:=cap) (T2:=T2) (R:=R) ht hb O I (by rw[n0,dU];omega)
 refine⟨_,w',h1,k w' (M.wk λF' B=>?_)⟩
 rcases B with⟨h,_⟩|⟨b',Nf,J,W,hb',hl',B⟩
 .cases h
 simp only[Value.slice.injEq,qa.injEq,Addr.mk.injEq,and_true,true_and]at W
 obtain⟨rfl,rfl⟩:=W
 refine⟨F',.inr ⟨b,cap,rest,?_,?_,?_,B⟩,λb hb=>.inl hb,h3.mono λk hk=>(B k).2 hk⟩
 .congr 1;rw[n0,ta];omega
 .have e:flat xs=[]++flat (xs.take ys.length)++flat (xs.drop ys.length):=by rw[C5,<- kj,s6]
  have:=nk [] (flat (xs.take ys.length)) (flat (xs.drop ys.length)++rest) (flat ys) (by rw[dU,dU,oj,xr I])
  rw[u1]at this
  rw[e,qF,this]at h2
  rw[kj,qF];exact h2
 have e3:(ys++xs.drop ys.length).length=xs.length:=by rw[n0,ta];omega
 exact⟨by rw[e3];exact V.1,by have:=V.2;rw[n0,dU]at this |-;rw[e3];exact this⟩
end
end Go.Fw
namespace Go.Proofs.YtnjcingfdhjfkaaGreat
open Go.Fw
structure Mem where
 of:List Int
 cO:List Int
 l:List Int
 kept:List Int
 gu:Int->List jV
def ie(of:List Int):Int:=if of.length=0 then 0 else of.getD (of.length-1) 0+1
def qc(k:List Int)(ws:List jV):List Int:=ws.foldl (λk w=>k.set w.cell.toNat w.n) k
theorem AU(ws:List jV):∀k:List Int,(qc k ws).length=k.length:=by
 induction ws with
 | nil=>intro k;rfl
 | cons x ws B=>simp_all[qc]
theorem FI(ws:List jV)(x:jV)(k:List Int):qc k (ws++[x])=(qc k ws).set x.cell.toNat x.n:=by
 unfold qc;grind
theorem Mc{ws:List jV}{j:Nat}{x:jV}{k:List Int}(B:ws[j]?=some x):qc k (ws.take (j+1))=(qc k (ws.take j)).set x.cell.toNat x.n:=by
 rw[xp,B];exact FI _ _ _
def KC(m:Mem)(cell:Int):Bool:=decide (0<=cell/\cell<m.l.length)
def gF(m:Mem)(cell n:Int):Mem:=if KC m cell=true then {m with l:=m.l.set cell.toNat n,gu:=if cell<m.of.length then rS m.gu (m.of.getD cell.toNat 0) (m.gu (m.of.getD cell.toNat 0)++[⟨cell,n⟩])else m.gu}else m
def JL(m:Mem)(line:Int):Bool:=decide (0<=line/\line<ie m.of)
def sR(m:Mem)(line:Int):Mem:=if JL m line=true then {m with kept:=qc m.kept (m.gu line),gu:=rS m.gu line []}else m
structure ux(m:Mem):Prop where
 Lc:m.of.length<=m.cO.length
 fl:m.cO.length<=20
 ll:m.l.length=m.cO.length
 kl:m.kept.length=m.of.length
 ofr:∀n∈m.of,0<=n/\n<ie m.of
 lb:ie m.of<=20
 pc:∀k,∀x∈m.gu k,0<=x.cell/\x.cell<m.of.length
def MB(m:Mem)(n:Nat):Prop:=∀k,(m.gu k).length<=n
def iw(p:Nat)(ov fv:Value)(m:Mem):HP:=uI λlv=>uI λkv=>uI λpm=>sep (cI p [ov,fv,lv,kv,.map (some pm)]) (sep (bE lv m.l) (sep (bE kv m.kept) (sq pm m.gu)))
def yj(ov fv:Value)(m:Mem)(w:World):Prop:=eN (λ_=>True) w ov m.of/\eN (λ_=>True) w fv m.cO
def zf(w:World)(p:Nat)(m:Mem):Prop:=∃ov fv lv kv pm,Cell w p 0 ov/\Cell w p 1 fv/\Cell w p 2 lv/\Cell w p 3 kv/\Cell w p 4 (.map (some pm))/\eN (λ_=>True) w ov m.of/\eN (λ_=>True) w fv m.cO/\eN (λ_=>True) w lv m.l/\eN (λ_=>True) w kv m.kept/\wO w pm m.gu
section
variable {w w' w0:World}{A F:Nat->Prop}{R:List HP}{p:Nat}{ov fv lv kv:Value}{m:Mem}{pm:Nat}
theorem zf.ext(h:zf w p m)(e:Ext w w'):zf w' p m:=by
 obtain⟨ov,fv,lv,kv,pm,c0,c1,E,B,J,I,h1,h2,h3,h4⟩:=h
 exact⟨ov,fv,lv,kv,pm,c0.ext e,c1.ext e,E.ext e,B.ext e,J.ext e,I.ext e,h1.ext e,h2.ext e,h3.ext e,h4.ext e⟩
theorem zf.mk'(h:uE w p [ov,fv,lv,kv,.map (some pm)])(B:yj ov fv m w)(h2:eN (λ_=>True) w lv m.l)(h3:eN (λ_=>True) w kv m.kept)(h4:wO w pm m.gu):zf w p m:=
 ⟨ov,fv,lv,kv,pm,h.cell rfl,h.cell rfl,h.cell rfl,h.cell rfl,h.cell rfl,B.1,B.2,h2,h3,h4⟩
theorem iw.open(B:St w0 A (iw p ov fv m::R) w):∃lv kv pm,St w0 A (cI p [ov,fv,lv,kv,.map (some pm)]::bE lv m.l::bE kv m.kept::sq pm m.gu::R) w:=by
 obtain⟨lv,B⟩:=B.fH;obtain⟨kv,B⟩:=B.fH;obtain⟨pm,B⟩:=B.fH
 have h1:=B.split
 have h2:=h1.p1.split
 have h3:=h2.p1.split
 exact⟨lv,kv,pm,h3.p2.p3⟩
theorem iw.shut(B:St w0 A (cI p [ov,fv,lv,kv,.map (some pm)]::bE lv m.l::bE kv m.kept::sq pm m.gu::R) w):St w0 A (iw p ov fv m::R) w:=by
 have h1:St w0 A (sep (bE kv m.kept) (sq pm m.gu)::cI p [ov,fv,lv,kv,.map (some pm)]::bE lv m.l::R) w:=St.join B.p3.p3
 have h2:St w0 A (sep (bE lv m.l) (sep (bE kv m.kept) (sq pm m.gu))::cI p [ov,fv,lv,kv,.map (some pm)]::R) w:=St.join h1.p2
 exact St.fD lv (St.fD kv (St.fD pm (St.join h2.p1)))
theorem N4(B:St w0 A (iw p ov fv m::R) w)(E:yj ov fv m w):zf w p m:=by
 obtain⟨lv,kv,pm,B⟩:=iw.open B
 exact zf.mk' B.hb E B.p1.fu B.p2.fu B.p3.ac3
end
def C144(p:Nat)(m:Mem)(w:World)(M:zf w p m)(E:ux m):CR 144 [(.pointer (some ⟨p,0,none⟩))] w (λv w'=>v=jK (ie m.of)/\Ext w w'):=by
 have CX:=M;obtain⟨ov,fv,lv,kv,pm,c0,c1,c2,c3,c4,J,N5,hL,V,hP⟩:=M;have Q6:=E.fl;have Ld:=E.Lc;have IG:=E.ll;have Da:=E.kl;have W:=E.lb;have B:=St.start w;refine uT Tryz.func144 (pl:=aCD) ?_;refine aD (aA xQ (aU cZ (c0.ext B.aE) (aI cE (J.ext B.aE) (aH (aC (λ_=>⟨hM (qs .i64) (by unfold ie;rw[fV cW]),B.aE⟩) λjr=>aD (aA xQ (have B:=B.drew;aU cZ (c0.ext B.aE) (aD (aA xQ (aU cZ (c0.ext B.aE) (aI cE (J.ext B.aE) (eW cW ?_))))))))))));obtain⟨iO,I⟩:=gx m.of (i:=((m.of.length:Int)-1).toNat) cW
 refine aQ cE J cW I (λ_ U=>aF aV (U.ext B.aE) ?_);have O:=E.ofr _ (ld I);exact aN cW ⟨hM (qs .i64) (by unfold ie;rw[fU cW,oi,show m.of.length-1=((m.of.length:Int)-1).toNat from cW,I];rfl),B.aE⟩
def C195(p:Nat)(m:Mem)(cell:Int)(w:World)(J:zf w p m)(hk:ux m):CR 195 [(.pointer (some ⟨p,0,none⟩)),jK cell] w (λv w'=>v=.tuple #[jK (if KC m cell=true then m.l.getD cell.toNat 0 else 0),jK (if KC m cell=true then 0 else 1)]/\Ext w w'):=by
 have CX:=J;obtain⟨ov,fv,lv,kv,pm,c0,c1,O,c3,c4,hO,N5,I,hKp,hP⟩:=J;have B:=St.start w;refine lx Tryz.func195 ?_;refine⟨λjv w'=>jv=.bool (decide (cell<0\/m.l.length<=cell))/\w=w',aK (aC (λ_=>⟨Ky cW,rfl⟩) λ_=>aD (aA vp (aU cZ (O.ext B.aE) (aI cE (I.ext B.aE) (cN ⟨uS cW,rfl⟩))))),?_⟩;rintro _ _ ⟨rfl,V⟩ _;subst V;refine aC (λW=>?_) (λW=>?_)
 .have E:KC m cell=false:=by unfold KC;rw[decide_eq_false_iff_not];omega
  rw[E];exact⟨rfl,B.aE⟩
 refine aD (aA vp (aU cZ (O.ext B.aE) ?_));obtain⟨JH,M⟩:=gx m.l (i:=cell.toNat) cW;refine aQ cE I cW M (λ_ U=>aF aV (U.ext B.aE) ?_);have E:KC m cell=true:=by unfold KC;rw[decide_eq_true_eq];omega
 rw[E,oi,M];exact⟨rfl,B.aE⟩
def C72(p:Nat)(m:Mem)(w:World)(I:zf w p m)(E:ux m):CR 72 [(.pointer (some ⟨p,0,none⟩))] w (λv w'=>mr (bE v m.l) w w'):=by
 have CX:=I;obtain⟨ov,fv,lv,kv,pm,c0,c1,O,c3,c4,V,N5,J,M,hP⟩:=I;have Q6:=E.fl;have Ld:=E.Lc;have IG:=E.ll;have W:=E.kl;have U:=E.lb;have B:=St.start w;refine lx Tryz.func72 ?_;exact aD (aA vp (aU cZ (O.ext B.aE) (dF Dk B (C70 _ _ _ (J.ext B.aE) cW) λ_ _ _ B=>B.fresh)))
def C73(p:Nat)(m:Mem)(w:World)(J:zf w p m)(E:ux m):CR 73 [(.pointer (some ⟨p,0,none⟩))] w (λv w'=>mr (bE v m.kept) w w'):=by
 have CX:=J;obtain⟨ov,fv,lv,kv,pm,c0,c1,c2,M,c4,V,N5,U,I,hP⟩:=J;have Q6:=E.fl;have Ld:=E.Lc;have IG:=E.ll;have W:=E.kl;have O:=E.lb;have B:=St.start w;refine lx Tryz.func73 ?_;exact aD (aA DC (aU cZ (M.ext B.aE) (dF Dk B (C70 _ _ _ (I.ext B.aE) cW) λ_ _ _ B=>B.fresh)))
def C137(I:Value)(xs:List jV)(w:World)(J:eN (λ_=>True) w I xs)(W:xs.length<=1000000):CR 137 [I] w (λv w'=>mr (bE v xs) w w'):=by
 have B:=St.start w;refine lx Tryz.func137 ?_;refine Bv Tryz.underlying213 (J.ext B.aE) (λp U=>aW (λE=>?_) λE=>?_)
 .have O:=U E;subst O;exact(B.gA (α:=jV)).fresh
 refine bJ ([]:List jV) B Af rfl rfl (dV rfl) (λV _ B=>?_);have M:=(J.ext B.aE);exact bW B Af M (by simp;omega) dO (λ_ _ B=>B.fresh)
def C128(p:Nat)(ov fv:Value)(m:Mem)(F:Nat->Prop)(cell n:Int)(w:World)(hF:(iw p ov fv m).p w F)(W:∀w',js F w w'->yj ov fv m w')(J:ux m)(hb:MB m 1000000):CR 128 [(.pointer (some ⟨p,0,none⟩)),jK cell,jK n] w (λv w'=>v=jK (if KC m cell=true then 0 else 1)/\pk F (iw p ov fv (gF m cell n)) w w'):=by
 have B:=St.begin hF;obtain⟨lv,kv,pm,B⟩:=iw.open B;have Q6:=J.fl;have Ld:=J.Lc;have IG:=J.ll;have Da:=J.kl;have Kz:=J.lb;refine af3 _ _ _ _ _ ?_;unfold S128;refine⟨λjv w'=>jv=.bool (decide (cell<0\/m.l.length<=cell))/\w=w',aK (aC (λ_=>⟨Ky cW,rfl⟩) λ_=>aD (aA vp (aB cZ B.hb rfl (aI cE B.p1.fu (cN ⟨uS cW,rfl⟩))))),?_⟩;rintro _ _ ⟨rfl,hw⟩ _;subst hw;refine aC (λg9=>?_) (λg9=>?_)
 .have B:=B.p3.p3.p3.p3;have I:KC m cell=false:=by unfold KC;rw[decide_eq_false_iff_not];omega
  unfold gF;rw[I];exact⟨rfl,(iw.shut B).mut⟩
 have I:KC m cell=true:=by unfold KC;rw[decide_eq_true_eq];omega
 refine aD (aA vp (aB cZ B.hb rfl ?_));obtain⟨Gi,qy⟩:=gx m.l (i:=cell.toNat) cW;refine cH B.p1 cE cW cW (λ_ vJ=>gY _ B.p1 aV vJ cW λ_ B=>⟨λw'=>St w F [iw p ov fv (gF m cell n)] w',aD (aA xQ (aB cZ B.p1.hb rfl (aI cE (W _ B.aE).1 (aK (aC (λj5=>?_) λj5=>?_))))),?_⟩)
 .refine aD (aA xQ (aB cZ B.p1.hb rfl ?_));obtain⟨M,V⟩:=gx m.of (i:=cell.toNat) cW;refine aQ cE (W _ B.aE).1 cW V (λ_ vw=>aF aV vw (aD (aA pP (have B:=B.drew;aB wI B.p1.hb rfl (aD (aA pP (aB wI B.p1.hb rfl ?_)))))));have hbx:=hb M;obtain⟨Wp,B⟩:=B.p3.JJ (k:=M);refine⟨_,B.p1.FH Tryz.underlying201 sD Bq,?_⟩;refine pop (S2 _ _) (bJ ([(⟨cell,n⟩:jV)]) B Af rfl rfl (dV rfl) λU _ B=>?_);refine⟨aG wI (B.p4.hb.cell rfl),?_⟩;refine⟨aG wI (B.p4.hb.cell rfl),?_⟩
  refine⟨B.p2.FH Tryz.underlying201 sD Bq,?_⟩;have O:=B.fu;refine bW B.p1 Af O (by simp;omega) dO (λak5 _ B=>?_);have B:=B.p1.drop;refine⟨aG wI (B.p3.hb.cell rfl),?_⟩;obtain⟨JM,rfl⟩:=B.gE;have B:=B.p1.p1;refine Gr B Tryz.underlying201 sD (λ_ B=>?_);have B:=B.p3.p2.p3;have E:gF m cell n={m with l:=m.l.set cell.toNat n,gu:=rS m.gu M (m.gu M++[⟨cell,n⟩])}:=by unfold gF;rw[fV I,fV cW,oi,V];rfl
  rw[E];exact iw.shut (m:={m with l:=_,gu:=_}) B
 .have B:=B.p3.p3.p2.p3;have E:gF m cell n={m with l:=m.l.set cell.toNat n}:=by unfold gF;rw[fV I,fU cW]
  rw[E];exact iw.shut (m:={m with l:=_,gu:=_}) B
 intro _ B _;exact⟨by rw[I];rfl,B.mut⟩
def WO(m:Mem)(cut:List Int):Bool:=decide ((cut.length:Int)=ie m.of)&&(rv cut.length).all λi=>decide (0<=cut.getD i 0/\cut.getD i 0<=(m.gu i).length)
def o8(m:Mem)(cut:List Int)(k:Nat):List Int:=(rv k).foldl (λo (i:Nat)=>qc o ((m.gu i).take (cut.getD i 0).toNat)) m.kept
def gW(m:Mem)(cut:List Int):Option (List Int):=if WO m cut=true then some (o8 m cut cut.length)else none
theorem yk(m:Mem)(cut:List Int)(k:Nat):o8 m cut (k+1)=qc (o8 m cut k) ((m.gu k).take (cut.getD k 0).toNat):=by
 unfold o8;rw[D3,List.foldl_append];rfl
theorem nK(m:Mem)(cut:List Int):∀k,(o8 m cut k).length=m.kept.length
 | 0=>rfl
 | k+1=>by rw[yk,AU,nK]
def Q7{m:Mem}{cut:List Int}{k:Nat}{c:Int}(hc:cut[k]?=some c)(h:¬ (0<=c/\c<=(m.gu k).length)):gW m cut=none:=by
 unfold gW;grind[WO,o8]
def Q8{m:Mem}{cut:List Int}(h:(cut.length:Int)≠ie m.of):gW m cut=none:=by
 unfold gW WO;grind
def yl{m:Mem}{cut:List Int}(h:(cut.length:Int)=ie m.of)(hc:∀(k:Nat) (c:Int),k<cut.length->cut[k]?=some c->0<=c/\c<=(m.gu k).length):gW m cut=some (o8 m cut cut.length):=by
 unfold gW;grind[WO,o8]
def YF:List Nat->List Int->Option (List Int)
 | p::ps,c::cs=>match YF ps cs with
  | some cs'=>some (c::cs')
  | none=>if c<p then some ((c+1)::qU cs.length 0)else none
 | _,_=>none
theorem ac6:∀{ps:List Nat}{cs:List Int}{i:Nat}{p:Nat}{c:Int},ps[i]?=some p->cs[i]?=some c->YF (ps.drop (i+1)) (cs.drop (i+1))=none->c<p->
  YF ps cs=some (cs.take i++(c+1)::qU (cs.length-(i+1)) 0)
 | E::ps,c'::cs,0,p,c,B,hc,hn,h=>by
  grind[YF]
 | E::ps,c'::cs,i+1,p,c,B,hc,hn,h=>by
  rw[yV]at B hc
  have:=ac6 B hc hn h
  simp[YF,this]
 | [],_,_,_,_,B,_,_,_=>by simp at B
 | _::_,[],_,_,_,_,hc,_,_=>by simp at hc
theorem ac7:∀{ps:List Nat}{cs:List Int}{i:Nat}{p:Nat}{c:Int},ps[i]?=some p->cs[i]?=some c->YF (ps.drop (i+1)) (cs.drop (i+1))=none->¬ c<p->YF (ps.drop i) (cs.drop i)=none
 | E::ps,c'::cs,0,p,c,B,hc,hn,h=>by
  grind[YF]
 | E::ps,c'::cs,i+1,p,c,B,hc,hn,h=>by
  rw[yV]at B hc
  have:=ac7 B hc hn h
  grind
 | [],_,_,_,_,B,_,_,_=>by simp at B
 | _::_,[],_,_,_,_,hc,_,_=>by simp at hc
def AV(m:Mem)(n:Nat):List Nat:=(rv n).map fun (i:Nat)=>(m.gu i).length
theorem ym{m:Mem}{n i:Nat}(h:i<n):(AV m n)[i]?=some (m.gu i).length:=by
 unfold AV;rw[uO,J6 h];rfl
def ac8(m:Mem)(cut:List Int):Option (List Int):=YF (AV m cut.length) cut
def rU(m:Mem)(nx:List Int):Mem:={m with kept:=nx,l:=nx++m.cO.drop nx.length,gu:=λ_=>[]}
def Eh{cs:List Int}{t:Nat}{x:Int}(h:t<cs.length):(cs.take (t+1)++qU (cs.length-(t+1)) 0).set t x=cs.take t++x::qU (cs.length-(t+1)) (0:Int):=by
 have e:cs.take (t+1)=cs.take t++[cs[t]]:=by simp_all
 rw[e,qF,List.set_append_right _ _ eS,oj,xr (Nat.le_of_lt h),Nat.sub_self]
 rfl
def ac9{cs:List Int}{t:Nat}(h:t<cs.length):cs.take t++0::qU (cs.length-(t+1)) (0:Int)=cs.take t++qU (cs.length-t) 0:=by
 rw[show cs.length-t=(cs.length-(t+1))+1 from cW,List.replicate_succ]
def C129(p:Nat)(ov fv:Value)(m:Mem)(F:Nat->Prop)(line:Int)(w:World)(hF:(iw p ov fv m).p w F)(hK:∀w',js F w w'->yj ov fv m w')(E:ux m)(hb:MB m 1000000):CR 129 [(.pointer (some ⟨p,0,none⟩)),jK line] w (λv w'=>v=jK (if JL m line=true then 0 else 1)/\pk F (iw p ov fv (sR m line)) w w'):=by
 have B:=St.begin hF;obtain⟨lv,kv,pm,B⟩:=iw.open B;have Q6:=E.fl;have Ld:=E.Lc;have IG:=E.ll;have Da:=E.kl;have Kz:=E.lb;refine uT Tryz.func129 (pl:=aCs) ?_;refine⟨λjv w'=>jv=.bool (decide (line<0\/ie m.of<=line))/\St w F [cI p [ov,fv,lv,kv,.map (some pm)],bE lv m.l,bE kv m.kept,sq pm m.gu] w',aK (aC (λ_=>⟨vb (by first|exact(gq cW).symm|exact hI.2 cW),B⟩) λ_=>aZ aax B (C144 _ m _ (zf.mk' B.hb (hK _ B.aE) B.p1.fu B.p2.fu B.p3.ac3) E) λ_ _ B=>cN ⟨vb (by first|exact(gq cW).symm|exact hI.2 cW),B⟩),?_⟩
 rintro _ _ ⟨rfl,B⟩ _;refine aC (λkn=>?_) (λkn=>?_)
 .have B:=B.p3.p3.p3.p3;have M:JL m line=false:=by unfold JL;rw[decide_eq_false_iff_not];omega
  unfold sR;rw[M];exact⟨rfl,(iw.shut B).mut⟩
 refine aD (aA pP (aB wI B.hb rfl ?_));obtain⟨I,B⟩:=B.p3.JJ (k:=line);refine⟨_,B.p1.FH Tryz.underlying201 sD Bq,?_⟩;have zV:=hb line;refine aI Af B.fu ?_;have B:=B.p3.p3.p4.p4.p4;refine⟨λV x w1=>∃k:Nat,x=jK (k:Int)/\V=(m.gu line).length-k/\k<=(m.gu line).length/\St w F [bE (j6 I) (m.gu line),Q3 pm m.gu line I,bE kv (qc m.kept ((m.gu line).take k)),cI p [ov,fv,lv,kv,.map (some pm)],bE lv m.l] w1,⟨_,0,rfl,rfl,o6 _,B⟩,?_⟩;rintro V _ _ ⟨k,rfl,rfl,xk,B⟩ _;refine aK (aC (λjR=>?_) λjR=>?_)
 .obtain⟨J,O⟩:=gx (m.gu line) (i:=(k:Int).toNat) cW;refine cH B Af cW cW (λ_ vz=>?_);have hpc:=E.pc line _ (ld O);refine eK B VU vz O (aR B VV λU _ B=>aO (x:=J) B VU rfl rfl λ_ B=>aD (aA DC (have B:=B.drew;aB cZ B.p4.hb rfl (aA PB ?_))));have W:=AU ((m.gu line).take k) m.kept;refine aB (v:=jK J.cell) aV B.hb rfl (aA PC (aB (v:=jK J.n) aV B.hb rfl ?_));obtain⟨yi,rR⟩:=gx (qc m.kept ((m.gu line).take k)) (i:=J.cell.toNat) cW
  exact cH B.p3 cE cW cW (λ_ tS=>gY _ B.p3 aV tS cW λ_ B=>aN cW (have B:=B.p1.drop.p4.p4.p2.p4.p4;⟨_,cW,k+1,rfl,rfl,cW,by rw[Mc (j:=k) O];exact B⟩))
 rw[mE cW]at B;refine aD (aA pP (aB wI B.p3.hb rfl ?_));have B:=B.p1.p1.ac4;rw[YE]at B;refine Q4 B rfl Tryz.underlying201 sD (λ_ _ B=>?_);have B:=B.p1.p3.p3;have M:JL m line=true:=by unfold JL;rw[decide_eq_true_eq];omega
 have FJ:sR m line={m with kept:=qc m.kept (m.gu line),gu:=rS m.gu line []}:=by unfold sR;rw[fV M]
 rw[FJ,M];exact⟨rfl,(iw.shut (m:={m with kept:=_,gu:=_}) B).mut⟩
def C125(p:Nat)(m:Mem)(cut:List Int)(cv:Value)(w:World)(hm:zf w p m)(I:ux m)(hb:MB m 1000000)(W:eN (λ_=>True) w cv cut)(Q9:cut.length<=1000):CR 125 [(.pointer (some ⟨p,0,none⟩)),cv] w (λv w'=>(gW m cut=none/\v=.tuple #[.slice none 0 0,jK 1]/\Ext w w')\/∃nx o,gW m cut=some nx/\v=.tuple #[o,jK 0]/\mr (bE o nx) w w'):=by
 have CX:=hm;obtain⟨ov,fv,lv,kv,pm,c0,c1,c2,c3,c4,hO,N5,hL,hKp,hP⟩:=hm;have Q6:=I.fl;have Ld:=I.Lc;have IG:=I.ll;have Da:=I.kl;have Kz:=I.lb;have B:=St.start w;refine af1 _ _ _ _ ?_;unfold S125;refine aI cE (W.ext B.aE) (aZ aax B (C144 _ m _ (CX.ext B.aE) I) λV he B=>bQ (aC (λ_=>.inl ⟨Q8 cW,rfl,B.aE⟩) λj4=>dF aap B (C73 _ m _ (CX.ext B.aE) I) λJ _ cJ B=>aI cE (W.ext B.aE) ?_));refine⟨λM x V=>∃k:Nat,x=jK (k:Int)/\M=cut.length-k/\k<=cut.length/\(∀(i:Nat) (c:Int),i<k->cut[i]?=some c->0<=c/\c<=(m.gu i).length)/\St w aY [bE J (o8 m cut k)] V,⟨_,0,rfl,rfl,o6 _,λ_ _ h=>absurd h cW,B⟩,?_⟩
 rintro M _ w3 ⟨k,rfl,rfl,xk,mL,B⟩ _;refine aK (aC (λiM=>?_) λ_=>.inr ⟨_,_,yl cW (λi c _ hc=>mL i c cW hc),rfl,by rw[show cut.length=k from cW];exact B.fresh⟩);obtain⟨E,U⟩:=gx cut (i:=(k:Int).toNat) cW;refine aQ cE W cW U (λ_ oC=>aF aV (oC.ext B.aE) ⟨λjv w'=>jv=.bool (decide (E<0\/(m.gu k).length<E))/\w3=w',aK (aC (λ_=>⟨Ky cW,rfl⟩) λ_=>aD (aA pP (aU wI (c4.ext B.aE) (FG hP B.aE Tryz.underlying201 sD Bq λ_ tS=>aI Af (tS.ext B.aE) (cG ⟨uS cW,rfl⟩))))),?_⟩)
 rintro _ _ ⟨rfl,hw⟩ _;subst hw;refine aC (λ_=>.inl ⟨Q7 (k:=k) U cW,rfl,B.aE⟩) (λrH=>aD (aA pP (aU wI (c4.ext B.aE) (FG hP B.aE Tryz.underlying201 sD Bq λabk wN=>?_))));have OM:=hb k;have Pr:((m.gu k).take E.toNat).length<=(m.gu k).length:=by rw[oj];omega
 refine lI Af (wN.ext B.aE) cW cW (λalE T1=>?_);have NX:=T1 _ wN;refine aI Af (NX.ext B.aE) ?_;refine⟨λM x V=>∃j:Nat,x=jK (j:Int)/\M=((m.gu k).take E.toNat).length-j/\j<=((m.gu k).take E.toNat).length/\St w aY [bE J (qc (o8 m cut k) (((m.gu k).take E.toNat).take j))] V,⟨_,0,rfl,rfl,o6 _,B⟩,?_⟩;rintro M _ _ ⟨j,rfl,rfl,hj,B⟩ _;refine aK (aC (λyf=>?_) λyf=>?_)
 .obtain⟨O,rL⟩:=gx ((m.gu (k:Int)).take E.toNat) (i:=(j:Int).toNat) cW;refine aQ Af NX cW rL (λ_ yd=>?_);have hpc:=I.pc k _ (List.mem_of_mem_take (ld rL));refine aF VU (yd.ext B.aE) (aR B VV λb_w10 _ B=>aO (x:=O) B VU rfl rfl λ_ B=>aA PB ?_);have hal:=AU (((m.gu k).take E.toNat).take j) (o8 m cut k);have hil:=nK m cut k;refine aB (v:=jK O.cell) aV B.hb rfl (aA PC (aB (v:=jK O.n) aV B.hb rfl ?_));obtain⟨axl,apH⟩:=gx (qc (o8 m cut k) (((m.gu k).take E.toNat).take j)) (i:=O.cell.toNat) cW
  exact cH B.p1 cE cW cW (λ_ JN=>gY _ B.p1 aV JN cW λ_ B=>aN cW (have B:=B.p1.drop;⟨_,cW,j+1,rfl,rfl,cW,by rw[Mc (j:=j) rL];exact B⟩))
 rw[mE (i:=j) cW]at B;refine aN cW ⟨_,cW,k+1,rfl,rfl,cW,λi c hi hc=>?_,?_⟩
 .by_cases e:i=k
  .subst e;obtain rfl:=qa.inj (hc.symm.trans U);omega
  exact mL i c cW hc
 rw[yk,oi,show cut[k]?=some E from U];exact B
def C145(p:Nat)(m:Mem)(cut:List Int)(cv:Value)(w:World)(hm:zf w p m)(hk:ux m)(hb:MB m 1000000)(hC:eN (λ_=>True) w cv cut)(Q9:cut.length<=1000)(Bj:∀c∈cut,0<=c):CR 145 [(.pointer (some ⟨p,0,none⟩)),cv] w (λv w'=>(ac8 m cut=none/\v=.tuple #[.slice none 0 0,.bool false]/\Ext w w')\/∃c o,ac8 m cut=some c/\v=.tuple #[o,.bool true]/\mr (bE o c) w w'):=by
 have CX:=hm;obtain⟨ov,fv,lv,kv,pm,c0,c1,c2,c3,c4,hO,N5,hL,hKp,hP⟩:=hm;have B:=St.start w;refine aga _ _ _ _ ?_;unfold S145;refine dF Dk B (C70 _ _ _ (hC.ext B.aE) cW) (λx9 w1 cJ B=>?_);have U:cut.length=cut.length:=rfl;refine aI cE B.fu (eW cW ?_);refine⟨λmm x w1=>∃t:Nat,x=jK ((t:Int)-1)/\mm=t/\t<=cut.length/\YF ((AV m cut.length).drop t) (cut.drop t)=none/\St w aY [bE x9 (cut.take t++qU (cut.length-t) 0)] w1,⟨_,cut.length,rfl,rfl,r4 _,by rw[vV (r4 _)];cases (AV m cut.length).drop cut.length<;>rfl,by simpa using B⟩,?_⟩
 rintro t _ _ ⟨_,rfl,rfl,ht,J,B⟩ _;refine cN (aC (λkn=>?_) λ_=>.inl ⟨by unfold ac8;rw[show t=0 from cW]at J;simpa using J,rfl,B.drop.aE⟩);have U:(cut.take t++qU (cut.length-t) 0).length=cut.length:=by rw[n0,oj,xq];omega
 obtain⟨W,M⟩:=gx (cut.take t++qU (cut.length-t) 0) (i:=((t:Int)-1).toNat) cW;refine cH B cE cW cW (λ_ jS=>?_);have B:=B.drew
 have E:cut[t-1]?=some W:=by
  have:=M;rw[show((t:Int)-1).toNat=t-1 from cW,u2 (by rw[oj];omega),G5,fV cW]at this;exact this
 have hx0:=Bj _ (ld E);have he:=rfl (a:=W);refine eK B aV jS M (aD (aA pP (aU wI (c4.ext B.aE) (FG hP B.aE Tryz.underlying201 sD Bq λO sj=>aI Af (sj.ext B.aE) (aK (aC (λDK=>?_) λDK=>?_))))))
 .refine cH B cE cW cW (λ_ nf=>eK B aV nf M ?_);have V:=hb ((t:Int)-1);refine aN cW (cH B cE cW cW λ_ tS=>gY _ B aV tS cW λ_ B=>?_);refine .inr ⟨_,_,ac6 (i:=t-1) (ym cW) E (by rw[show t-1+1=t from cW];exact J) (by rw[show((t-1:Nat):Int)=(t:Int)-1 from cW];omega),rfl,?_⟩;rw[he,show((t:Int)-1).toNat=t-1 from cW]at B;have gj:=Eh (cs:=cut) (t:=t-1) (x:=W+1) cW;rw[show t-1+1=t from cW]at gj |-;rw[gj]at B;exact B.fresh
 have V:=hb ((t:Int)-1);refine cH B cE cW cW (λ_ vw=>gY _ B aV vw cW λ_ B=>eW cW ?_);refine⟨_,cW,t-1,by congr 1;omega,rfl,cW,ac7 (i:=t-1) (ym cW) E (by rw[show t-1+1=t from cW];exact J) (by rw[show((t-1:Nat):Int)=(t:Int)-1 from cW];omega),?_⟩;rw[show((t:Int)-1).toNat=t-1 from cW]at B;have gj:=Eh (cs:=cut) (t:=t-1) (x:=0) cW;rw[show t-1+1=t from cW]at gj;rw[gj]at B;have I:=ac9 (cs:=cut) (t:=t-1) cW;rw[show t-1+1=t from cW]at I;rw[I]at B
 exact B
def C58(p:Nat)(ov fv:Value)(m:Mem)(F:Nat->Prop)(cut:List Int)(cv:Value)(w:World)(hF:(iw p ov fv m).p w F)(hK:∀w',js F w w'->yj ov fv m w')(I:ux m)(hb:MB m 1000000)(hC:∀w',js F w w'->eN (λ_=>True) w' cv cut)(Q9:cut.length<=1000):CR 58 [(.pointer (some ⟨p,0,none⟩)),cv] w (λv w'=>(gW m cut=none/\v=jK 1/\pk F (iw p ov fv m) w w')\/∃nx,gW m cut=some nx/\v=jK 0/\pk F (iw p ov fv (rU m nx)) w w'):=by
 have B:=St.begin hF;obtain⟨lv,kv,pm,B⟩:=iw.open B;have Q6:=I.fl;have Ld:=I.Lc;have IG:=I.ll;have W:=I.kl;have Kz:=I.lb;refine uT Tryz.func58 (pl:=P58) ?_;refine eR akc (C125 _ m cut _ _ (zf.mk' B.hb (hK _ B.aE) B.p1.fu B.p2.fu B.p3.ac3) I hb (hC _ B.aE) cW) ?_;rintro O _ U
 rcases U with⟨E,rfl,he⟩|⟨J,V,E,rfl,cJ⟩
 .have B:=B.ext he;exact bD rfl (bD rfl (bQ (il dO (have B:=B.p3.p3.p3.p3;.inl ⟨E,rfl,(iw.shut B).mut⟩))))
 have B:=B.made cJ;refine bD rfl (bD rfl (bQ (fI dO (aD (aA DC (aS B.p1 cZ (dV rfl) B.fu.one λ_ B=>aD (aA vp (have B:=B.drew;aB cZ B.hb rfl (aD (aA PA (aB cZ B.hb rfl ?_)))))))))));refine Q5 B.p2 cE (hK _ B.aE).2 cW (λ_ B=>aD (aA vp (aB cZ B.p1.hb rfl (Q5 B cE B.p2.fu (by rw[n0,ta];have M:J.length=m.of.length:=(by unfold gW at E;split at E<;>simp at E;rw[<- E,nK];exact W);omega) λ_ B=>rT (α:=jV) B λWQ _ B=>aD (aA pP (aS B.p2 wI (dV rfl) (rfl) λ_ B=>?_))))))
 have B:=B.p4.drop.p4.drop.p1.p3.p3.p3;have M:J.length=m.of.length:=by unfold gW at E;split at E<;>simp at E;rw[<- E,nK];exact W
 rw[show m.l.drop m.cO.length=[]from vV cW,r6]at B;exact .inr ⟨_,E,rfl,(iw.shut (m:=rU m J) B).mut⟩
end Go.Proofs.YtnjcingfdhjfkaaGreat
namespace Go.Fw
open Go.MapKept (Stamped IsKey)
open Go.ChangeMaps (setBlock)
section
variable {P:Program}{w w0 w':World}{A:Nat->Prop}{L:List HP}{b r:Nat}
def Md(r m since:Nat)(seen:Array Nat):HP where
 p w F:=w.heap[r]?=some (.mapIter (some m) since seen since)/\∀k,F k↔k=r
 loc w w' F h hh:=⟨(hh r ((h.2 r).2 rfl)).trans h.1,h.2⟩
 lt w F b' h hb:=eS
theorem YG{T B E:TypeId}{es:Array MapEntry}{clock:Nat}{K:Value->jj}(I:St w0 A L w)(ht:P.underlying T=some (.map B E))(hb:w.heap[b]?=some (.map es clock))
  (k:∀r w',St w0 A (Md r b clock #[]::L) w'->K (.pointer (some ⟨r,0,none⟩)) w'):nU P (Instr.range T (.map (some b))) w K:=
 ⟨_,_,run_range_map w T B E b es clock ht hb,k _ _ (I.new (Ext.push w _) (F:=λk=>k=w.heap.size) ⟨tu _ _,λ_=>Iff.rfl⟩ λb hb=>by rw[hb];exact r4 _)⟩
theorem adb{T since:Nat}{seen:Array Nat}{es:Array MapEntry}{K:Value->jj}(B:St w0 A (Md r b since seen::L) w)(hb:w.heap[b]?=some (.map es since))(hold:∀x∈es.toList,x.born<since)
  (M:(leftOf es seen).size=0->K (.tuple #[.bool false]) w)
  (J:∀e w',e∈(leftOf es seen).toList->St w0 A (Md r b since (seen.push e.born)::L) w'->K (.tuple #[.bool true,e.key,e.val]) w'):nU P (Instr.next (.pointer (some ⟨r,0,none⟩)) false T) w K:=by
 obtain⟨F,h,_⟩:=B.head
 rcases run_next_at (P:=P) w T r b since since seen es since h.1 hb hold (r4 _)with⟨h1,h2⟩|⟨e,V,I,O,h2⟩
 .exact⟨_,w,h2,M h1⟩
 have e1:St w0 A (Md r b since seen::L) I:=by
  rcases O with rfl|rfl
  .exact B
  .exact B.ext ⟨rfl,rfl,rfl,r4 _,λ_ _ _=>rfl⟩
 refine⟨_,_,h2,J e _ V (e1.wk λF E=>⟨F,⟨oN _ (vf E.1),E.2⟩,λb hb=>.inl hb,(js.setBlock I r _).mono λk U=>(E.2 k).2 U⟩)⟩
theorem YH{since:Nat}{seen:Array Nat}{es:Array MapEntry}{e:MapEntry}{K:Value->Prop}(B:St w0 A (Md r b since (seen.push e.born)::L) w)(hb:w.heap[b]?=some (.map es since))(I:e∈es.toList)(E:(es.toList.map (·.born)).Nodup)
  (k:K (.tuple #[e.key,e.val])):Kw P (Instr.entry (.pointer (some ⟨r,0,none⟩))) w K:=by
 obtain⟨F,h,_⟩:=B.head
 exact⟨_,run_entry_at w r b since seen es since e h.1 hb I E,k⟩
theorem wO.es{α:Type}[Flat α]{f:Int->List α}(h:wO w b f):∃es clock,w.heap[b]?=some (.map es clock)/\Stamped es clock/\(∀e∈es.toList,∃k,∃s:SV,e.key=jK k/\e.val=j6 s/\eN (λ_=>True) w (j6 s) (f k))/\∀k,(∀e∈es.toList,e.key≠jK k)->f k=[]:=by
 obtain⟨ks,B,⟨es,clock,h1,h2,h3,h4⟩,h5,h6⟩:=h
 have M:es.toList.length=ks.length:=by have:=hM List.length h3;grind
 have E:es.toList.length=B.length:=by have:=hM List.length h4;grind
 refine⟨es,clock,h1,h2,λe I=>?_,λk U=>h6 k λO=>?_⟩
 .obtain⟨i,J,rfl⟩:=H4 I
  refine⟨ks[i]'(cW),B[i]'(cW),?_,?_,h5 i _ _ (nT _) (nT _)⟩
  .have:=hM (·[i]?) h3
   grind
  have:=hM (·[i]?) h4
  grind
 have:qs .i64 k∈es.toList.map (·.key):=eS
 grind
theorem JO{o:Obj}(h:w.heap[b]?=some o)(e:Ext w w'):w'.heap[b]?=some o:=(e.cI b (vf h) λh=>h).trans h
theorem JP{seen:Array Nat}{x y:Nat}(h:(seen.push x).contains y=true):seen.contains y=true\/y=x:=by
 grind
theorem born_inj{es:Array MapEntry}(I:(es.toList.map (·.born)).Nodup){e B:MapEntry}(h:e∈es.toList)(E:B∈es.toList)(hb:e.born=B.born):e=B:=by
 obtain⟨i,J,rfl⟩:=H4 h
 obtain⟨j,M,rfl⟩:=H4 E
 have:=(List.getElem_inj (i:=i) (j:=j) (h₀:=by grind) (h₁:=by grind) I).1 eS
 grind
end
section
variable {P:Program}{w w0 w':World}{A:Nat->Prop}{L:List HP}{b r:Nat}
def Ra(P:Program)(n T E:Nat):Prop:=P.underlying T=some (.array n E)/\P.underlying E=some (.int .i64)/\pr P (sizeOf E)=some 1
abbrev Ei(xs:List Int):Value:=.agg (xs.map (qs .i64)).toArray
theorem Rb{β:Type}{f:Nat->β->Sem (ForInStep β)}{g:Nat->Bool}{B stop:β}:∀l:List Nat,(∀i∈l,pr P (f i B)=some (if g i=true then .yield B else .done stop))->pr P (forIn l B f)=some (if l.all g=true then B else stop)
 | [],_=>by simp[gi]
 | i::l,h=>by
  rw[W5,cX,h i eU]
  by_cases E:g i=true
  .rw[fV E]
   simp only[o5]
   rw[Rb l λj I=>h j (by simp[I])]
   simp[E]
  .rw[fU E]
   simp[E,gi]
theorem CY{E:TypeId}{xs:List Int}{i:Nat}(B:P.underlying E=some (.int .i64))(I:i<xs.length):pr P (part E (xs.map (qs .i64)).toArray i)=some (jK xs[i]):=
 Nj (n:=0) B rfl (by simp[I])
theorem aiB{n T E:Nat}{xs ys:List Int}(h:Ra P n T E)(V:xs.length=n)(hy:ys.length=n):pr P (Op.equal T (Ei xs) (Ei ys))=some (decide (xs=ys)):=by
 obtain⟨ht,I,U⟩:=h
 have e:∀x y:Int,pr P (Op.equalIn 9999 E (jK x) (jK y))=some (decide (x=y)):=λx y=>by
  rw[F4 (k:=9998) (n:=0) I rfl rfl rfl];rfl
 show pr P (Op.equalIn (9999+1) T _ _)=_
 unfold Op.equalIn
 rw[cX,dC ht]
 simp only[o5,cX,U]
 simp only[Std.Legacy.Range.forIn_eq_forIn_range',Std.Legacy.Range.size,acQ,HI,ac0,YC]
 rw[Rb (g:=λi=>decide (xs[i]?=ys[i]?)) (stop:=⟨some false,PUnit.unit⟩)]
 .by_cases B:xs=ys
  .subst B
   simp[gi]
  have:(List.range' 0 n).all (λi=>decide (xs[i]?=ys[i]?))=false:=by
   rw[List.all_eq_false]
   apply TY
   intro hc
   apply B
   apply wj
   intro i
   apply TY
   intro M
   by_cases J:i<n
   .exact hc ⟨i,by simp[XF];omega,by simpa using M⟩
   .exact M (by rw[o3 cW,o3 cW])
  simp[this,B,gi]
 intro i J
 have W:i<n:=by simp[XF]at J;omega
 simp only[cX,CY I (show i<xs.length by omega),CY I (show i<ys.length by omega),o5,e]
 rw[nT (show i<xs.length by omega),nT (show i<ys.length by omega)]
 by_cases O:xs[i]'(cW)=ys[i]'(cW)
 .simp[O,gi]
 simp[O,gi]
def T7(b n:Nat)(ks:List (List Int)):HP where
 p w F:=(∃es clock,w.heap[b]?=some (.map es clock)/\es.toList.map (·.key)=ks.map Ei/\(∀e∈es.toList,e.val=.bool true)/\∀k∈ks,k.length=n)/\∀k,F k↔k=b
 loc w w' F h hh:=by
  grind
 lt w F b' h hb:=eS
theorem Rc{T n:TypeId}{K:Value->jj}(B:St w0 A L w)(k:∀b w',St w0 A (T7 b n []::L) w'->K (.map (some b)) w'):nU P (M6 T none) w K:=
 ⟨_,_,rfl,k _ _ (B.new (Ext.push w (.map #[] 0)) (F:=λk=>k=w.heap.size) ⟨⟨#[],0,tu _ _,rfl,eU,eU⟩,λ_=>Iff.rfl⟩ λb hb=>by rw[hb];exact r4 _)⟩
theorem ade{T E n:Nat}{x:List Int}(h:Ra P n T E)(M:x.length=n):∀(es:List MapEntry) (ks:List (List Int)) (i:Nat),es.map (·.key)=ks.map Ei->(∀k∈ks,k.length=n)->(∀e∈es,e.val=.bool true)->
  (x ∉ ks/\pr P (V6 T (Ei x) es i)=some none)\/(x∈ks/\∃j,pr P (V6 T (Ei x) es i)=some (some (j,.bool true)))
 | [],ks,i,B,_,_=>by
  have:ks=[]:=by simp_all
  subst this
  exact .inl ⟨eU,rfl⟩
 | e::es,[],i,B,_,_=>by simp at B
 | e::es,k::ks,i,B,hl,hv=>by
  simp only[List.map_cons,List.cons.injEq]at B
  have I:pr P (Op.equal T (Ei x) e.key)=some (decide (x=k)):=by rw[B.1];exact aiB h M (hl k eU)
  unfold V6
  rw[cX,I]
  simp only[o5]
  by_cases J:x=k
  .subst J
   refine .inr ⟨eU,i,?_⟩
   simp[gi,hv e eU]
  .rcases ade h M es ks (i+1) B.2 (λk B=>hl k (by simp[B])) (λe I=>hv e (by simp[I]))with⟨h1,h2⟩|⟨h1,j,h2⟩
   .grind
   grind
theorem Rd{E:TypeId}{x:Int}{em:Bool}(B:P.underlying E=some (.int .i64)):pr P (OH em 9999 E (jK x))=some ():=by
 show pr P (OH em (9998+1) E _)=_
 unfold OH
 rw[cX,dC B];rfl
theorem JQ{f:Nat->PUnit->Sem (ForInStep PUnit)}:∀l:List Nat,(∀i∈l,pr P (f i ⟨⟩)=some (.yield ⟨⟩))->pr P (forIn l PUnit.unit f)=some ⟨⟩
 | [],_=>by simp[gi]
 | i::l,h=>by
  rw[W5,cX,h i eU]
  simp only[o5]
  exact JQ l λj B=>h j (by simp[B])
theorem Gs{T E n:Nat}{x:List Int}{em:Bool}(h:Ra P n T E)(M:x.length=n):pr P (OH em 10000 T (Ei x))=some ():=by
 obtain⟨ht,I,B⟩:=h
 show pr P (OH em (9999+1) T _)=_
 unfold OH
 rw[cX,dC ht]
 simp only[o5,cX,B]
 simp only[Std.Legacy.Range.forIn_eq_forIn_range',Std.Legacy.Range.size,acQ,HI,ac0,YC]
 rw[JQ]
 .rfl
 intro i J
 have O:i<n:=by simp[XF]at J;omega
 simp only[cX,B,o5,YC,CY I (show i<x.length by omega),Rd I,gi]
theorem WR{T E n:Nat}{x:List Int}{es:List MapEntry}{ks:List (List Int)}(h:Ra P n T E)(I:x.length=n)(J:es.map (·.key)=ks.map Ei)(M:∀k∈ks,k.length=n)(B:∀e∈es,e.val=.bool true) :
  (x ∉ ks/\pr P (Qs T (Ei x) es)=some none)\/(x∈ks/\∃j,pr P (Qs T (Ei x) es)=some (some (j,.bool true))):=by
 unfold Qs
 rw[cX,dC h.1]
 simp only[o5]
 cases es with
 | nil=>
  have:ks=[]:=by simp_all
  subst this
  exact .inl ⟨eU,rfl⟩
 | cons e es=>exact ade h I (e::es) ks 0 J M B
theorem aiC{T V E I n:Nat}{x:List Int}{ks:List (List Int)}{K:Value->Prop}(W:St w0 A (T7 b n ks::L) w)(ht:P.underlying T=some (.map V I))(h:Ra P n V E)(B:ug P I (.bool false))(U:x.length=n)
  (k:K (.bool (decide (x∈ks)))):Kw P (yz T (.map (some b)) (Ei x) false) w K:=by
 obtain⟨F,⟨⟨es,c,h1,h2,h3,h4⟩,h5⟩,_⟩:=W.head
 refine⟨_,?_,k⟩
 have M:(zeroValue I).run P w=.ok (.bool false) w:=by
  unfold ug fC at B
  cases hi:P.info? I with
  | none=>rw[hi]at B;cases B
  | some i=>
   rw[hi]at B
   simp only[F1,qa.injEq]at B
   refine gK ?_ w
   unfold zeroValue;rw[cX,qH hi];simp only[o5,B];rfl
 have hc:=gK (Gs (em:=es.isEmpty) h U) w
 rcases WR h U h2 h4 h3 with⟨h6,J⟩|⟨h6,j,J⟩
 .have O:=gK J w
  simp[yz,run_underlying ht,MapKept.run_getObj_map h1,hc,O,M,Result.andThen,h6]
 have O:=gK J w
 simp[yz,run_underlying ht,MapKept.run_getObj_map h1,hc,O,Result.andThen,h6]
theorem aiD{T U E Et n:Nat}{x:List Int}{ks:List (List Int)}{K:jj}(O:St w0 A (T7 b n ks::L) w)(ht:P.underlying T=some (.map U Et))(h:Ra P n U E)(J:x.length=n)(cJ:x ∉ ks)
  (k:∀w',St w0 A (T7 b n (ks++[x])::L) w'->K w'):FW P (sl T (.map (some b)) (Ei x) (.bool true)) w K:=by
 obtain⟨F,⟨⟨es,c,h1,h2,h3,h4⟩,h5⟩,_⟩:=O.head
 have hc:=gK (Gs (em:=false) h J) w
 rcases WR h J h2 h4 h3 with⟨h6,M⟩|⟨h6,j,M⟩
 .have W:=gK M w
  refine⟨setBlock w b (.map (es.push ⟨Ei x,.bool true,c⟩) (c+1)),?_,k _ (O.wk λF' V=>⟨F',⟨⟨_,_,oN _ (vf h1),by simp[h2],?_,?_⟩,V.2⟩,λb hb=>.inl hb,(js.setBlock w b _).mono λk hk=>(V.2 k).2 hk⟩)⟩
  .simp[sl,run_underlying ht,MapKept.run_getObj_map h1,hc,W,vU h1,Result.andThen]
  .intro e B;simp at B;rcases B with B|rfl
   .exact h3 e (by simpa using B)
   rfl
  intro q I;simp at I;rcases I with I|rfl
  .exact h4 q I
  exact J
 exact absurd h6 cJ
theorem bI{f:FuncId}{args:List Value}{H:HP}{H':Value->HP}{Φ:Value->jj}{K:Value->jj}(pl:Plain P f)(B:St w0 A (H::L) w)
  (hc:∀F,H.p w F->(∀w',js F w w'->St w0 A L w')->Calls P f args.toArray w (qZ λv w'=>Φ v w'/\pk F (H' v) w w')) (k:∀v w',Φ v w'->St w0 A (H' v::L) w'->K v w'):Hz P f args w K:=by
 obtain⟨U,F,J,h1,h2,h3,h4,h5⟩:=B.xa
 refine eR pl (hc F h1 λw' I=>⟨B.aE.trans I (λ_ h=>h) λb hb E=>(h2 b E).elim id λV=>cW,J,h5.loc λb hb=>I.cI b (h5.lt b hb) λE=>h3 b E hb⟩) λv w' ⟨O,M⟩=>k v w' O (B.aaZ h2 h3 h5 M)
theorem adf{g:FuncId}{args first cap:List Value}{H:HP}{H':Value->HP}{Φ:Value->jj}{K:Value->jj}(pl:Plain P g)(B:St w0 A (H::L) w)
  (hc:∀F,H.p w F->(∀w',js F w w'->St w0 A L w')->Calls P g (first++args++cap).toArray w (qZ λv w'=>Φ v w'/\pk F (H' v) w w')) (k:∀v w',Φ v w'->St w0 A (H' v::L) w'->K v w'):kh P (.func (.func g) first.toArray cap.toArray) args w K:=by
 obtain⟨U,F,J,h1,h2,h3,h4,h5⟩:=B.xa
 refine iH pl (hc F h1 λw' I=>⟨B.aE.trans I (λ_ h=>h) λb hb E=>(h2 b E).elim id λV=>cW,J,h5.loc λb hb=>I.cI b (h5.lt b hb) λE=>h3 b E hb⟩) λv w' ⟨O,M⟩=>k v w' O (B.aaZ h2 h3 h5 M)
theorem YI{T E n:Nat}{K:Value->Prop}(h:Ra P n T E)(k:K (.slice (some ⟨b,0,none⟩) n n)):eM P (rr T (.pointer (some ⟨b,0,none⟩)) none none none) K:=by
 refine⟨_,?_,k⟩
 unfold rr
 rw[cX,dC h.1]
 simp only[o5,Instr.sureAddr,cX,gi,Instr.sliceBounds,h.2.2]
 simp[ju]
theorem apJ{xs:List Int}{n:Nat}(h:xs.length<=n):jI (qU n (qs .i64 0)) 0 (flat xs)=(xs++qU (n-xs.length) 0).map (qs .i64):=by
 have B:flat xs=xs.map (qs .i64):=by
  induction xs with
  | nil=>rfl
  | cons x xs E=>rw[ly,E (by simp at h;omega)];rfl
 have I:(flat xs).length=xs.length:=by rw[B,qE]
 have:=nk [] (qU xs.length (qs .i64 0)) (qU (n-xs.length) (qs .i64 0)) (flat xs) (by rw[xq,I])
 rw[C5,C5,List.replicate_append_replicate,show xs.length+(n-xs.length)=n from cW,u1]at this
 rw[this,B,yU,List.map_replicate]
theorem Re{T T2 E J n dc:Nat}{z:Option Nat}{R:TypeId}{src:Value}{cs:List Value}{ys:List Int}{S:Nat->Prop}{K:Value->jj}(B:St w0 A (cI b cs::L) w)(ht:gg P T=some (E,o4 Int,J,z))(M:eN S w src ys)(U:ys.length<=n)(V:ys.length<=cs.length)
  (k:∀w',St w0 A (cI b (jI cs 0 (flat ys))::L) w'->K (jK ys.length) w'):nU P (Builtin.copy_ #[T,T2] R [.slice (some ⟨b,0,none⟩) n dc,src].toArray) w K:=by
 obtain⟨w',h1,h2,h3⟩:=JK (P:=P) (o:=0) (dn:=n) (dc:=dc) (T2:=T2) (R:=R) ht B.hb M U (by change 0+ys.length*1<=_;omega)
 exact⟨_,w',h1,k w' (B.wk λF I=>⟨F,⟨h2,I.2⟩,λb hb=>.inl hb,h3.mono λk O=>(I.2 k).2 O⟩)⟩
end
def Has(H:HP)(w:World):Prop:=∃F,H.p w F
def St.has{w w0:World}{A:Nat->Prop}{L:List HP}{H:HP}(B:St w0 A (H::L) w):Has H w:=by obtain⟨F,h,_⟩:=B.head;exact⟨F,h⟩
theorem Has.ext{H:HP}{w w':World}(h:Has H w)(e:Ext w w'):Has H w':=by
 obtain⟨F,h⟩:=h;exact⟨F,H.loc _ _ _ h λb hb=>e.cI b (H.lt _ _ _ h hb) λx=>x⟩
def Has.st{H:HP}{w:World}(h:Has H w):∃F,St w F [H] w:=by obtain⟨F,h⟩:=h;exact⟨F,St.begin h⟩
end Go.Fw
namespace Go.Proofs.YtnjcingfdhjfkaaGreat
open Go.Fw
def N7(of:List Int)(stays:Int)(cO:List Int):Mem:=⟨of.take stays.toNat,cO,cO,cO.take stays.toNat,λ_=>[]⟩
def dD:List Nat->List (List Int)
 | []=>[[]]
 | p::ps=>(rv (p+1)).flatMap fun (i:Nat)=>(dD ps).map λt=>(i:Int)::t
theorem zg:∀ps,(dD ps).head? = some (qU ps.length 0)
 | []=>rfl
 | p::ps=>by
  have B:=zg ps
  rw[dD,List.range_succ_eq_map,P2]
  cases h:dD ps with
  | nil=>grind
  | cons t ts=>
   grind
theorem qT:∀{ps:List Nat}{c:List Int},c∈dD ps->c.length=ps.length
 | [],c,h=>by simp[dD]at h;grind
 | p::ps,c,h=>by
  simp only[dD,Pe,r5]at h
  obtain⟨i,_,t,ht,rfl⟩:=h
  simp[qT ht]
theorem BI:∀{ps:List Nat}{c:List Int}{i p:Nat}{n:Int},c∈dD ps->ps[i]?=some p->c[i]?=some n->0<=n/\n<=p
 | [],c,i,p,n,h,B,_=>by simp at B
 | q::ps,c,i,p,n,h,B,hc=>by
  simp only[dD,Pe,r5,List.mem_range]at h
  obtain⟨j,E,t,ht,rfl⟩:=h
  cases i with
  | zero=>grind
  | succ i=>
   rw[yV]at B hc
   exact BI ht B hc
theorem xt{α β:Type}{f:α->List β}:∀{l:List α}{d:List β}{c:β}{r:List β},l.flatMap f=d++c::r->∃l1 x l2 E B,l=l1++x::l2/\f x=E++c::B/\r=B++l2.flatMap f
 | [],d,c,r,h=>by simp at h
 | x::l,d,c,r,h=>by
  rw[P2]at h
  rcases List.append_eq_append_iff.1 h with⟨O,h1,h2⟩|⟨M,h1,h2⟩
  .obtain⟨l1,y,l2,E,B,e1,J,I⟩:=xt h2
   grind
  .cases M with
   | nil=>
    obtain⟨l1,y,l2,E,B,e1,J,I⟩:=xt (f:=f) (l:=l) (d:=[]) (c:=c) (r:=r) eS
    grind
   | cons y ys=>
    simp at h2
    exact⟨[],x,l,d,ys,rfl,eS,h2.2⟩
def Rf{n:Nat}{l1 l2:List Nat}{x:Nat}(h:rv n=l1++x::l2):x<n/\l2.head? = if x+1<n then some (x+1)else none:=by
 have B:(rv n)[l1.length]?=some x:=eS
 have I:l1.length<n:=eS
 have E:x=l1.length:=eS
 refine⟨cW,?_⟩
 have h2:(rv n)[l1.length+1]?=l2.head?:=by
  rw[h,Bu cW,show l1.length+1-l1.length=1 from cW,yV]
  cases l2<;>rfl
 grind
theorem WT:∀{ps:List Nat}{d:List (List Int)}{c:List Int}{r:List (List Int)},dD ps=d++c::r->YF ps c=r.head?
 | [],d,c,r,h=>by
  simp[dD]at h
  cases d with
  | nil=>grind[YF]
  | cons x d=>simp at h
 | p::ps,d,c,r,h=>by
  rw[dD]at h
  obtain⟨l1,x,l2,d',r',e1,O,M⟩:=xt h
  obtain⟨V,E⟩:=Rf e1
  obtain⟨a,b,I,hb,hc⟩:=List.map_eq_append_iff.1 O
  obtain⟨t,ts,rfl,B,J⟩:=List.map_eq_cons_iff.1 hc
  subst B
  have U:=WT I
  rw[M,<- J]
  show(match YF ps t with|some cs'=>some ((x:Int)::cs')|none=>if (x:Int)<p then some (((x:Int)+1)::qU t.length 0)else none)=_
  rw[U]
  cases ts with
  | cons t' ts=>rfl
  | nil=>
   simp only[List.head?_nil,List.map_nil,C5]
   cases l2 with
   | nil=>
    simp_all
   | cons y l2=>
    simp only[List.head?_cons]at E
    split at E
    .obtain rfl:=qa.inj E
     rw[fV cW,P2]
     have W:t.length=ps.length:=qT (ps:=ps) eS
     have hh:=zg ps
     simp_all
    grind
def Ej(f:List Int->List Int)(l:List (List Int)):List (List Int)×List (List Int):=l.foldl (λs c=>if f c∈s.2 then s else(s.1++[c],s.2++[f c])) ([],[])
theorem vW(f:List Int->List Int)(l:List (List Int))(c:List Int):Ej f (l++[c])=if f c∈(Ej f l).2 then Ej f l else((Ej f l).1++[c],(Ej f l).2++[f c]):=by
 unfold Ej;grind
theorem Rg(f:List Int->List Int):∀(l:List (List Int)) (s:List (List Int)×List (List Int)),(l.foldl (λs c=>if f c∈s.2 then s else(s.1++[c],s.2++[f c])) s).1.length<=s.1.length+l.length
 | [],s=>r4 _
 | c::l,s=>by
  rw[List.foldl_cons]
  refine x5 (Rg f l _) ?_
  grind
def El(f:List Int->List Int)(l:List (List Int)):(Ej f l).1.length<=l.length:=by
 have h:(Ej f l).1.length<=([]:List (List Int)).length+l.length:=Rg f l ([],[])
 grind
def T8(xs:List Int):List Int:=xs++qU (20-xs.length) 0
def rV(m:Mem)(c:List Int):List Int:=T8 (o8 m c c.length)
def r7(m:Mem):List Nat:=AV m (ie m.of).toNat
def vX(m:Mem):List (List Int):=(Ej (rV m) (dD (r7 m))).1
theorem wP(m:Mem):(r7 m).length=(ie m.of).toNat:=by unfold r7 AV;simp
def m4{m:Mem}(B:ux m):0<=ie m.of:=by
 unfold ie;split
 .omega
 rename_i h
 have E:m.of.getD (m.of.length-1) 0∈m.of:=eS
 have:=(B.ofr _ E).1
 omega
def apK{m:Mem}(I:ux m){c:List Int}(h:c∈dD (r7 m)):(c.length:Int)=ie m.of/\gW m c=some (o8 m c c.length)/\(∀n∈c,0<=n):=by
 have J:=qT h
 rw[wP]at J
 have B:=m4 I
 have hb:∀(k:Nat) (n:Int),k<c.length->c[k]?=some n->0<=n/\n<=(m.gu k).length:=λk n M hc=>by
  have:=BI h (i:=k) (p:=(m.gu k).length) (by unfold r7;exact ym cW) hc
  exact this
 refine⟨cW,yl cW hb,λn B=>?_⟩
 obtain⟨i,E,rfl⟩:=H4 B
 exact(hb i _ E (nT E)).1
theorem Rh{m:Mem}{d:List (List Int)}{c:List Int}{r:List (List Int)}(h:dD (r7 m)=d++c::r):ac8 m c=r.head?:=by
 have B:c.length=(r7 m).length:=qT eS
 rw[wP]at B
 unfold ac8
 rw[B];exact WT h
def aiE(v:Value):List (List Int)->HP
 | []=>emp
 | c::_=>bE v c
def aiE.nil{w w0:World}{A:Nat->Prop}{L:List HP}{v:Value}(B:St w0 A L w):St w0 A (aiE v []::L) w:=B.new (Ext.refl w) (H:=emp) (F:=aY) (λ_ h=>h) λ_ h=>h.elim
theorem Me(ps:List Nat):dD ps=qU ps.length 0::(dD ps).tail:=by
 have:=zg ps
 cases h:dD ps with
 | nil=>grind
 | cons x xs=>grind
def T9:Ra ji 20 221 3:=⟨Tryz.underlying221,sD,(l6 aV).2⟩
def C54(of cO:List Int)(stays:Int)(av bv:Value)(w:World)(E:eN (λ_=>True) w av of)(O:eN (λ_=>True) w bv cO)(hlen:of.length=cO.length)(Q6:of.length<=20)(gj:0<=stays/\stays<=of.length)(KA:∀(k:Nat) (n:Int),(k:Int)<stays->of[k]?=some n->(n=kQ of k\/(0<k/\n=kQ of k-1))/\-10<=n/\n<=100):CR 54 [av,jK stays,bv] w (λv w'=>∃(p:Nat) (ov fv:SV),v=.tuple #[.pointer (some ⟨p,0,none⟩),jK 0]/\mr (sep (bE (j6 ov) (of.take stays.toNat)) (sep (bE (j6 fv) cO) (iw p (j6 ov) (j6 fv) (N7 of stays cO)))) w w'):=by
 have B:=St.start w;refine lx Tryz.func54 ?_;refine⟨λjv w'=>jv=.bool (decide (of.length≠cO.length\/20<of.length\/stays<0\/of.length<stays))/\w=w',aI cE (E.ext B.aE) (aI cE (O.ext B.aE) (bQ (aC (λ_=>⟨Ky cW,rfl⟩) λ_=>aI cE (E.ext B.aE) (cG (aC (λ_=>⟨Ky cW,rfl⟩) λ_=>aK (aC (λ_=>⟨Ky cW,rfl⟩) λ_=>aI cE (E.ext B.aE) (cG ⟨uS cW,rfl⟩))))))),?_⟩;rintro _ w1 ⟨rfl,hw⟩ _;subst hw;refine aC (λmW=>absurd mW cW) (λmW=>lI cE (E.ext B.aE) cW cW λs_x34 apL=>?_);have M:=apL _ E
 refine aI cE (M.ext B.aE) ?_;refine⟨λmm l x w1=>∃(k:Nat) (last:Int),l=jK last/\x=jK (k:Int)/\mm=(of.take stays.toNat).length-k/\k<=(of.take stays.toNat).length/\last=kQ of k-1/\-200<=last/\last<=200/\St w aY [] w1,⟨_,0,-1,rfl,rfl,rfl,o6 _,rfl,cW,cW,B⟩,?_⟩;rintro mm _ _ w2 ⟨k,last,rfl,rfl,rfl,xk,alP,hl7,hl8,B⟩ _;have Pr:(of.take stays.toNat).length=stays.toNat:=by rw[oj];omega
 refine aK (aC (λrH=>?_) λrH=>?_)
 .obtain⟨J,qA⟩:=gx (of.take stays.toNat) (i:=(k:Int).toNat) cW;refine aQ cE M cW qA (λ_ tL=>?_)
  have I:of[k]?=some J:=by
   have U:=qA;rw[G5]at U
   split at U
   .exact U
   .cases U
  obtain⟨hl1,Kx,hl3⟩:=KA k _ cW I;refine aF aV (tL.ext B.aE) ⟨λjv w'=>jv=.bool (decide (J≠last+1/\(k=0\/J≠last)))/\w2=w',aN cW (bQ (aC (λ_=>aH (aC (λ_=>⟨Ky cW,rfl⟩) λ_=>bQ ⟨uS cW,rfl⟩)) λ_=>⟨jvF cW,rfl⟩)),?_⟩;rintro _ _ ⟨rfl,hw⟩ _;subst hw;refine aC (λGe=>absurd Ge (by have:=KA k J cW I;simp;omega)) (λGe=>?_);have hws:kQ of (k+1)=J+1:=by unfold kQ;rw[fU cW,HI,oi,I];rfl
  exact aN cW ⟨_,cW,k+1,J,rfl,rfl,rfl,cW,cW,cW,cW,B⟩
 refine lI cE (E.ext B.aE) cW cW (λaxn apN=>?_);have apO:=apN _ E;refine dF Dk B (C70 _ _ _ (apO.ext B.aE) (by first|omega|(rw[oj];omega))) (λx59 _ cJ B=>dF Dk B (C70 _ _ _ (O.ext B.aE) (by first|omega|(rw[oj];omega))) λx61 _ cJ B=>dF Dk B (C70 _ _ _ (O.ext B.aE) (by first|omega|(rw[oj];omega))) λx63 _ cJ B=>rT (α:=jV) B λb_x64 _ B=>?_);obtain⟨V,rfl⟩:=B.p3.gE;obtain⟨NN,rfl⟩:=B.p2.gE;obtain⟨apQ,rfl⟩:=B.p1.gE;refine pop (Ij _ _ _ _ _ _ _ _ _ _) (lC B λaxo _ B=>lI cE (O.ext B.aE) cW cW λalZ W=>?_)
 have apS:=W _ O;exact dF Dk B (C70 _ _ _ (apS.ext B.aE) (by first|omega|(rw[oj];omega))) (λ_ _ _ B=>aD (aA DC (aS B.p1 cZ (dV rfl) B.fu.one λ_ B=>have B:=iw.shut (m:=N7 of stays cO) B.p4.p5.p4.p4.p5.p5;⟨axo,V,NN,rfl,(St.join (St.join B.p2).p1).fresh⟩)))
def C69(p:Nat)(m:Mem)(ov fv:SV)(w:World)(c0:Cell w p 0 (j6 ov))(c1:Cell w p 1 (j6 fv))(hm:zf w p m)(M:ux m)(hb:MB m 1000000):CR 69 [(.pointer (some ⟨p,0,none⟩))] w (λv w'=>∃b,v=.pointer (some ⟨b,0,none⟩)/\mr (iw b (j6 ov) (j6 fv) m) w w'):=by
 have W:=hm;obtain⟨ov2,fv2,lv,kv,pm,_,_,c2,c3,c4,hO,N5,hL,hKp,hP⟩:=hm;obtain⟨es,clock,U,gj,hkv,BH⟩:=hP.es;have Q6:=M.fl;have Ld:=M.Lc;have IG:=M.ll;have Da:=M.kl;have Kz:=M.lb;have B:=St.start w;refine uT Tryz.func69 (pl:=P69) ?_;refine⟨λc3 w'=>∃b J I E,c3=.pointer (some ⟨b,0,none⟩)/\St w aY [cI b [j6 ov,j6 fv,J,I,.map (some E)],bE J m.l,bE I m.kept,sq E λ_=>([]:List jV)] w',aD (aA xQ (have B:=B.drew;aU cZ (c0.ext B.aE) (aD (aA PA (aU cZ (c1.ext B.aE) ⟨dF ane B (C72 _ m _ (W.ext B.aE) M) (λx15 w1 cJ B=>⟨aG cZ (c0.ext B.aE),⟨aG cZ (c1.ext B.aE),⟨?_,⟨?_,?_⟩⟩⟩⟩),⟨?_,?_⟩⟩))))),?_⟩
 .refine dF aap B (C73 _ m _ (W.ext B.aE) M) (λx17 _ cJ B=>?_);refine⟨aG cZ (c0.ext B.aE),?_⟩;refine⟨aG cZ (c1.ext B.aE),?_⟩;refine rT (α:=jV) B (λV4 _ B=>?_);refine⟨aG cZ (c0.ext B.aE),?_⟩;refine⟨aG cZ (c1.ext B.aE),?_⟩;obtain⟨apT,rfl⟩:=B.p2.gE;obtain⟨acg,rfl⟩:=B.p1.gE;exact pop (sE _ _ _ _ _ _ _ _ _ _ _ _ _) (lC B λ_ _ B=>have B:=B.p1.p2.p3.p3;⟨_,_,_,_,rfl,B⟩)
 .refine rT (α:=jV) B (λaAn _ B=>?_);refine⟨aG cZ (c0.ext B.aE),?_⟩;refine⟨aG cZ (c1.ext B.aE),?_⟩;refine dF aap B (C73 _ m _ (W.ext B.aE) M) (λawo _ cJ B=>?_);refine⟨aG cZ (c0.ext B.aE),?_⟩;refine⟨aG cZ (c1.ext B.aE),?_⟩;obtain⟨apT,rfl⟩:=B.p2.gE;obtain⟨QN,rfl⟩:=B.gE;exact pop (sE _ _ _ _ _ _ _ _ _ _ _ _ _) (lC B λ_ _ B=>have B:=B.p2.p2.p3.p3;⟨_,_,_,_,rfl,B⟩)
 .trivial
 .refine rT (α:=jV) B (λaAo _ B=>?_);refine⟨aG cZ (c0.ext B.aE),?_⟩;refine⟨aG cZ (c1.ext B.aE),?_⟩;refine dF ane B (C72 _ m _ (W.ext B.aE) M) (λx15_1 _ cJ B=>?_);refine⟨aG cZ (c0.ext B.aE),?_⟩;refine⟨aG cZ (c1.ext B.aE),?_⟩;refine dF aap B (C73 _ m _ (W.ext B.aE) M) (λawp _ cJ B=>?_);refine⟨aG cZ (c0.ext B.aE),?_⟩;refine⟨aG cZ (c1.ext B.aE),?_⟩;obtain⟨axs,rfl⟩:=B.p1.gE;obtain⟨QO,rfl⟩:=B.gE;exact pop (sE _ _ _ _ _ _ _ _ _ _ _ _ _) (lC B λ_ _ B=>have B:=B.p3.p2.p3.p3;⟨_,_,_,_,rfl,B⟩)
 .trivial
 rintro _ _ ⟨b,J,I,E,rfl,B⟩ _;refine aD (aA pP (aU wI (c4.ext B.aE) (YG B Tryz.underlying201 (JO U B.aE) λr25 _ B=>?_)));have B:=B.p4.p4.p4.p4.p4;refine⟨λmm w1=>∃(seen:Array Nat) (done:List Int),mm=(leftOf es seen).size/\(∀e∈es.toList,seen.contains e.born=true->∃k∈done,e.key=jK k)/\St w aY [Md r25 pm clock seen,cI b [j6 ov,j6 fv,J,I,.map (some E)],bE J m.l,bE I m.kept,sq E λk=>if k∈done then m.gu k else []] w1,⟨_,#[],[],rfl,λ_ _ hc=>by simp at hc,by simpa using B⟩,?_⟩;rintro mm _ ⟨seen,done,rfl,al0,B⟩ _;refine adb B (JO U B.aE) gj.1 (λh0=>?_) (λe _ V B=>?_)
 .refine bD rfl (fM ?_);have B:=B.drop.p3.p3.p3.p3
  have hg:(λk=>if k∈done then m.gu k else [])=m.gu:=by
   funext k
   by_cases hd:k∈done
   .rw[fV hd]
   .rw[fU hd];refine(BH k λe V O=>hd ?_).symm;obtain⟨k2,xk,hk3⟩:=al0 e V (all_seen es seen h0 e V);rw[O]at hk3;cases hk3;exact xk
  rw[hg]at B;exact⟨b,rfl,(iw.shut B).fresh⟩
 obtain⟨k,sk,O,hev,hrk⟩:=hkv e (mem_left V).1;refine bD rfl (jt (YH B (JO U B.aE) (mem_left V).1 gj.2.1 ?_));rw[O,hev];refine bD rfl (bD rfl (aD (aA pP (have B:=B.drew;aB wI B.p1.hb rfl (dF ato B (C137 _ _ _ (hrk.ext B.aE) (hb k)) λx37 _ cJ B=>?_)))));refine⟨aG wI (B.p2.hb.cell rfl),?_⟩;obtain⟨s_w17,B⟩:=B.p5.JJ (k:=k);have B:=B.drop;obtain⟨sM,rfl⟩:=B.p1.gE;have B:=B.p1;refine Gr B Tryz.underlying201 sD (λ_ B=>have B:=B.p4.p4.p4.p4;⟨_,left_shrinks es seen e V,seen.push e.born,k::done,rfl,λe2 he2 hc=>?_,?_⟩)
 .rcases JP hc with h|h
  .obtain⟨k2,h1,h2⟩:=al0 e2 he2 h;exact⟨k2,List.mem_cons_of_mem _ h1,h2⟩
  obtain rfl:=born_inj gj.2.1 he2 (mem_left V).1 h;exact⟨k,List.mem_cons_self,O⟩
 have hg:rS (λk=>if k∈done then m.gu k else []) k (m.gu k)=(λk'=>if k'∈k::done then m.gu k' else []):=by
  funext k';unfold rS
  by_cases e:k'=k
  .subst e;simp
  .simp[e]
 rw[hg]at B;exact B
def C82(p:Nat)(m:Mem)(w:World)(hm:zf w p m)(E:ux m)(hb:MB m 1000000)(hC:(dD (r7 m)).length<=1000000000):CR 82 [(.pointer (some ⟨p,0,none⟩))] w (λv w'=>mr (fW v (vX m)) w w'):=by
 have CX:=hm;obtain⟨ov,fv,lv,kv,pm,c0,c1,c2,c3,c4,hO,N5,hL,hKp,hP⟩:=hm;have Q6:=E.fl;have Ld:=E.Lc;have IG:=E.ll;have Da:=E.kl;have Kz:=E.lb;have B:=St.start w;refine ann _ _ _ ?_;unfold S82;refine Rc (n:=20) B (λJ w1 B=>aZ aax B (C144 _ m _ (CX.ext B.aE) E) λ_ he B=>?_);have hnn:=m4 E;refine pI (0:Int) B cE xH cW cW dO (λaxt _ B=>?_);have B:=(((B.BY (α:=List Int)).p1).p2).p2;refine⟨λmm iW sb is6 w1=>∃(done rest:List (List Int)),dD (r7 m)=done++rest/\is6=.bool (!rest.isEmpty)/\mm=rest.length/\St w aY [fW iW (Ej (rV m) done).1,T7 J 20 (Ej (rV m) done).2,aiE sb rest] w1,⟨_,[],dD (r7 m),rfl,by rw[Me (r7 m)];rfl,rfl,by rw[Me (r7 m),wP];exact B⟩,?_⟩
 rintro mm iW sb _ _ ⟨done,rest,I,rfl,rfl,B⟩ _;refine aW (λM=>?_) (λM=>?_)
 .obtain⟨c,rest,rfl⟩:∃c r,rest=c::r:=by cases rest with|nil=>cases M|cons c r=>exact⟨c,r,rfl⟩
  change St w aY [fW iW (Ej (rV m) done).1,T7 J 20 (Ej (rV m) done).2,bE sb c] _ at B
  have Ri:c∈dD (r7 m):=by rw[I];simp
  have Ua:=apK E Ri;have GG:=Ua.1;have hdl:=El (rV m) done;have hdn:done.length<=(dD (r7 m)).length:=by rw[I];simp
  have U:(o8 m c c.length).length<=20:=by rw[nK];omega
  have uf:(rV m c).length=20:=by unfold rV T8;rw[n0,xq];omega
  refine⟨λo w'=>St w aY [fW o (Ej (rV m) (done++[c])).1,T7 J 20 (Ej (rV m) (done++[c])).2,bE sb c] w',?_,?_⟩
  .refine eR akc (C125 _ m c _ _ (CX.ext B.aE) E hb B.p2.fu cW) ?_;rintro v24 _ hh;obtain⟨nx,o24,hi,rfl,cJ⟩:=hh.resolve_left (λh=>by rw[Ua.2.1]at h;cases h.1);obtain rfl:nx=(o8 m c c.length):=qa.inj (hi.symm.trans Ua.2.1);have B:=B.made cJ;refine bD rfl (bD rfl (aR B ag5 λaFV _ B=>YI T9 (Re B cE B.p1.fu U (by simp;omega) λ_ B=>have B:=B.enc (cs':=(rV m c).map (qs .i64)) (by exact apJ (n:=20) U);vi akN B.hb (by rw[qE];exact uf) (aiC B.p3 Tryz.underlying218 T9 akJ uf ?_))))
   first|refine HS ?_|refine bV ?_
   refine aC (λW=>?_) (λW=>?_)
   .refine vi akN B.hb (by rw[qE];exact uf) (aiD B.p3 Tryz.underlying218 T9 uf W λ_ B=>dF Dk B (C70 _ _ _ B.p4.fu cW) λx38 _ cJ B=>?_);obtain⟨V,rfl⟩:=B.gE;have B:=B.freeze.dT (Ψ:=λw=>py w V c) (λ_ h=>DL.gB h);refine fG (s:=V) (x:=c) B nd dO (λWz _ B=>have B:=B.p4;eB B nd (by simp;omega) dO λav5 _ B=>?_);have B:=B.p2.drop.p2.drop.p2.p2.p2;rw[vW,fU (by simpa using W)];exact B
   have B:=B.drop.drop.p2.p2.p2;rw[vW,fV (by simpa using W)];exact B
  rintro mn _ B _;refine eR atp (C145 _ m c _ _ (CX.ext B.aE) E hb B.p2.fu cW Ua.2.2) ?_;rintro v_x18 _ apU
  rcases apU with⟨O,rfl,he⟩|⟨c2,o18,O,rfl,cJ⟩
  .have B:=B.ext he;refine bD rfl (bD rfl ?_);rw[Rh I]at O;have B:=B.p2.drop.p1.p1;obtain rfl:rest=[]:=by simpa using O
   exact⟨_,eU,done++[c],[],by rw[I];simp,rfl,rfl,(aiE.nil B).p2.p2⟩
  have B:=B.made cJ;refine bD rfl (bD rfl ?_);rw[Rh I]at O;have B:=B.p3.drop.p2.p2;obtain⟨r2,rfl⟩:∃r,rest=c2::r:=by cases rest with|nil=>cases O|cons y r=>exact⟨r,by simp at O;rw[O]⟩
  exact⟨_,eU,done++[c],c2::r2,by rw[I];simp,rfl,rfl,B⟩
 have B:=B.p1.drop.p1.drop;obtain rfl:rest=[]:=by cases rest with|nil=>rfl|cons c r=>cases M
 rw[r6]at I;unfold vX;rw[I];exact B.fresh
structure fR where
 code:gp
 at_:Int
 aJ:List Int
 counts:List Int
 fault:Int
 e:Int
 f:Int
 buf:List aX
def vY(K:jj)(B:Value)(l:List bF):Prop:=∃ts:List bN,∀w,K w->eN (λ_=>True) w B ts/\jF ts l w
def fO(K:jj)(p:Nat)(room:Int)(t:fR):HP:=uI λB:Nat=>uI λE=>uI λrg=>uI λcn=>fact (vY K E t.code.l)
 (sep (cI p [.pointer (some ⟨B,0,none⟩),jK t.code.aJ,jK t.code.counts,E,jK t.at_,rg,cn,jK t.fault,jK t.e,jK t.f]) (sep (kC B room t.buf) (sep (bE rg t.aJ) (bE cn t.counts))))
section
variable {w w0:World}{A:Nat->Prop}{R:List HP}{p:Nat}{K:jj}{room:Int}{t:fR}
theorem fO.open(B:St w0 A (fO K p room t::R) w):∃E I rg cn,vY K I t.code.l/\St w0 A (cI p [.pointer (some ⟨E,0,none⟩),jK t.code.aJ,jK t.code.counts,I,jK t.at_,rg,cn,jK t.fault,jK t.e,jK t.f]::kC E room t.buf::bE rg t.aJ::bE cn t.counts::R) w:=by
 obtain⟨E,B⟩:=B.fH;obtain⟨I,B⟩:=B.fH;obtain⟨rg,B⟩:=B.fH;obtain⟨cn,B⟩:=B.fH;obtain⟨J,B⟩:=B.pd
 have h1:=B.split
 have h2:=h1.p1.split
 have h3:=h2.p1.split
 exact⟨E,I,rg,cn,J,h3.p2.p3⟩
theorem fO.shut{B:Nat}{E rg cn:Value}(J:vY K E t.code.l)(I:St w0 A (cI p [.pointer (some ⟨B,0,none⟩),jK t.code.aJ,jK t.code.counts,E,jK t.at_,rg,cn,jK t.fault,jK t.e,jK t.f]::kC B room t.buf::bE rg t.aJ::bE cn t.counts::R) w):St w0 A (fO K p room t::R) w:=by
 have h1:=St.join I.p3.p3
 have h2:=St.join h1.p2
 exact St.fD B (St.fD E (St.fD rg (St.fD cn (St.qM J (St.join h2.p1)))))
theorem fO.rd(h:Has (fO K p room t) w):∃E I rg cn,vY K I t.code.l/\uE w p [.pointer (some ⟨E,0,none⟩),jK t.code.aJ,jK t.code.counts,I,jK t.at_,rg,cn,jK t.fault,jK t.e,jK t.f]/\wy w E room t.buf/\eN (λ_=>True) w rg t.aJ/\eN (λ_=>True) w cn t.counts:=by
 obtain⟨F,B⟩:=h.st
 obtain⟨E,I,rg,cn,J,B⟩:=fO.open B
 exact⟨E,I,rg,cn,J,B.hb,Hg B.p1,B.p2.fu,B.p3.fu⟩
end
def gP(t:fR):Option bF:=if (t.code.l.length:Int)<=t.at_ then none else t.code.l[t.at_.toNat]?
def dE(l:List nQ)(aJ:List Int):Int×Bool:=if l.length=0 then(0,true)else((runM l aJ).1,decide ((runM l aJ).2=0))
def tE(t:fR)(x:bF):fR:={t with fault:=if (dE x.e t.aJ).2=true then t.fault else 2,e:=(dE x.e t.aJ).1}
def tF(t:fR)(x:bF):fR:={t with fault:=if (dE x.f t.aJ).2=true then t.fault else 2,f:=(dE x.f t.aJ).1}
def zh(t:fR)(x:bF)(e:Int):fR×Bool:=
 if x.kind=1 then({t with aJ:=t.aJ.set x.a.toNat e,at_:=t.at_+1},true)
 else if x.kind=11 then({t with at_:=x.to},true)
 else if x.kind=12 then(if e=0 then({t with at_:=x.to},true)else({t with at_:=t.at_+1},true))
 else if x.kind=13 then({t with counts:=t.counts.set x.a.toNat x.b,at_:=t.at_+1},true)
 else if x.kind=14 then(if 0<qj (t.counts.getD x.a.toNat 0-1)then({t with counts:=t.counts.set x.a.toNat (qj (t.counts.getD x.a.toNat 0-1)),at_:=x.to},true)else({t with counts:=t.counts.set x.a.toNat (qj (t.counts.getD x.a.toNat 0-1)),at_:=t.at_+1},true))
 else if x.kind=15 then(if e=0 then({t with fault:=1},false)else({t with at_:=t.at_+1},true))
 else(t,false)
def fK(t:fR):fR×Bool:=match gP t with
 | none=>(t,false)
 | some x=>if (dE x.e t.aJ).2=true then(if (dE x.f t.aJ).2=true then zh (tF (tE t x) x) x (dE x.e t.aJ).1 else(tF (tE t x) x,false))else(tE t x,false)
def sB:Nat->fR->Option fR
 | 0,_=>none
 | n+1,t=>if (fK t).2=true then sB n (fK t).1 else some (fK t).1
structure AW(c:gp):Prop where
 len:c.l.length<=1000000
 rb:0<=c.aJ/\c.aJ<=1000
 cb:0<=c.counts/\c.counts<=1000
 ops:∀x∈c.l,x.e.length<=1000/\x.f.length<=1000/\0<=x.to/\x.to<=1000000
 set:∀x∈c.l,x.kind=1->0<=x.a/\x.a<c.aJ
 cnt:∀x∈c.l,x.kind=13\/x.kind=14->0<=x.a/\x.a<c.counts
structure JR(t:fR):Prop where
 code:AW t.code
 rg:(t.aJ.length:Int)=t.code.aJ
 cn:(t.counts.length:Int)=t.code.counts
 Sv:0<=t.at_
 bl:t.buf.length<=1000
def o9{t:fR}{x:bF}(h:gP t=some x):x∈t.code.l/\t.at_<t.code.l.length:=by
 unfold gP at h
 split at h
 .cases h
 exact⟨ld h,cW⟩
theorem apV{t:fR}{x:bF}{e:Int}(h:JR t)(B:x∈t.code.l):JR (zh t x e).1:=by
 have h1:=h.Sv;have h2:=(h.code.ops x B).2.2.1;have h3:=h.rg;have h4:=h.cn
 unfold zh
 repeat' split
 all_goals first
  | exact⟨h.code,h3,h4,h2,h.bl⟩
  | exact⟨h.code,h3,h4,h1,h.bl⟩
  | exact⟨h.code,h3,h4,(by show 0<=t.at_+1;omega),h.bl⟩
  | exact⟨h.code,(by simpa using h3),h4,(by show 0<=t.at_+1;omega),h.bl⟩
  | exact⟨h.code,h3,(by simpa using h4),(by show 0<=t.at_+1;omega),h.bl⟩
  | exact⟨h.code,h3,(by simpa using h4),h2,h.bl⟩
theorem jd{t:fR}(h:JR t):JR (fK t).1:=by
 unfold fK
 cases hn:gP t with
 | none=>exact h
 | some x=>
  have E:=(o9 hn).1
  have I:JR (tE t x):=⟨h.code,h.rg,h.cn,h.Sv,h.bl⟩
  have B:JR (tF (tE t x) x):=⟨h.code,h.rg,h.cn,h.Sv,h.bl⟩
  dsimp only
  split
  .split
   .exact apV B E
   .exact B
  .exact I
theorem Rj{n:Nat}{t B:fR}(h:sB n t=some B):∃k,n=k+1:=by
 cases n with
 | zero=>cases h
 | succ k=>exact⟨k,rfl⟩
def qB{k:Nat}{t B t':fR}(h:sB (k+1) t=some B)(E:fK t=(t',true)):sB k t'=some B:=by
 unfold sB at h;rw[E]at h;exact h
theorem tq{k:Nat}{t B t':fR}(h:sB (k+1) t=some B)(E:fK t=(t',false)):B=t':=by
 unfold sB at h;rw[E]at h;exact(qa.inj h).symm
section
variable {t:fR}{x:bF}{e:Int}
theorem Rk(h:x.kind=1):zh t x e=({t with aJ:=t.aJ.set x.a.toNat e,at_:=t.at_+1},true):=by unfold zh;rw[fV h]
theorem JS(h:x.kind=11):zh t x e=({t with at_:=x.to},true):=by unfold zh;simp[h]
theorem Em(h:x.kind=12)(B:e=0):zh t x e=({t with at_:=x.to},true):=by unfold zh;simp[h,B]
theorem En(h:x.kind=12)(B:¬ e=0):zh t x e=({t with at_:=t.at_+1},true):=by unfold zh;simp[h,B]
theorem JT(h:x.kind=13):zh t x e=({t with counts:=t.counts.set x.a.toNat x.b,at_:=t.at_+1},true):=by unfold zh;simp[h]
theorem Eo(h:x.kind=14)(B:0<qj (t.counts.getD x.a.toNat 0-1)):zh t x e=({t with counts:=t.counts.set x.a.toNat (qj (t.counts.getD x.a.toNat 0-1)),at_:=x.to},true):=by unfold zh;simp only[h,fU (show ¬ (14:Int)=1 by decide),fU (show ¬ (14:Int)=11 by decide),fU (show ¬ (14:Int)=12 by decide),fU (show ¬ (14:Int)=13 by decide),fV B,if_true]
theorem Ep(h:x.kind=14)(B:¬ 0<qj (t.counts.getD x.a.toNat 0-1)):zh t x e=({t with counts:=t.counts.set x.a.toNat (qj (t.counts.getD x.a.toNat 0-1)),at_:=t.at_+1},true):=by unfold zh;simp only[h,fU (show ¬ (14:Int)=1 by decide),fU (show ¬ (14:Int)=11 by decide),fU (show ¬ (14:Int)=12 by decide),fU (show ¬ (14:Int)=13 by decide),fU B,if_true]
theorem Er(h:x.kind=15)(B:e=0):zh t x e=({t with fault:=1},false):=by unfold zh;simp[h,B]
theorem Es(h:x.kind=15)(B:¬ e=0):zh t x e=({t with at_:=t.at_+1},true):=by unfold zh;simp[h,B]
theorem JU(h1:¬ x.kind=1)(h2:¬ x.kind=11)(h3:¬ x.kind=12)(h4:¬ x.kind=13)(h5:¬ x.kind=14)(h6:¬ x.kind=15):zh t x e=(t,false):=by unfold zh;rw[fU h1,fU h2,fU h3,fU h4,fU h5,fU h6]
theorem yn(h:gP t=none):fK t=(t,false):=by unfold fK;rw[h]
theorem yo(h:gP t=some x)(h2:(dE x.e t.aJ).2=false):fK t=(tE t x,false):=by unfold fK;rw[h];dsimp only;rw[h2];rfl
theorem yp(h:gP t=some x)(h2:(dE x.e t.aJ).2=true)(h3:(dE x.f t.aJ).2=false):fK t=(tF (tE t x) x,false):=by unfold fK;rw[h];dsimp only;rw[h2,h3];rfl
theorem lL(h:gP t=some x)(h2:(dE x.e t.aJ).2=true)(h3:(dE x.f t.aJ).2=true):fK t=zh (tF (tE t x) x) x (dE x.e t.aJ).1:=by unfold fK;rw[h];dsimp only;rw[h2,h3];rfl
end
def C65(K:jj)(p:Nat)(room:Int)(t:fR)(w:World)(hh:Has (fO K p room t) w)(M:K w)(mL:JR t):CR 65 [(.pointer (some ⟨p,0,none⟩))] w (λv w'=>(gP t=none/\v=.tuple #[j6 (⟨0,0,0,bL,bL,0⟩:bN),.bool false]/\Ext w w')\/∃x xv,gP t=some x/\(∀w,K w->py w xv x)/\v=.tuple #[j6 (xv:bN),.bool true]/\Ext w w'):=by
 obtain⟨bp,gl,rg,cn,⟨W,U⟩,O,hB,AM,Rl⟩:=fO.rd hh;have c0:=O.cell (o:=0) rfl;have c3:=O.cell (o:=3) rfl;have c4:=O.cell (o:=4) rfl;have c7:=O.cell (o:=7) rfl;have apW:True:=trivial;have E:=(U w M).1;have I:=(U w M).2;have hn0:=I.1;have GG:=mL.code.len;have aFW:=mL.Sv;have B:=St.start w;refine uT Tryz.func65 (pl:=P65) ?_;refine aR B j7 (λmV _ B=>have B:=B.enc (cs':=kp (⟨0,0,0,bL,bL,0⟩:bN)) rfl;aD (aA mP (have B:=B.drew;aU aV (c4.ext B.aE) (aD (aA Pu (aA iR (aU l7 (c3.ext B.aE) (aI jN (E.ext B.aE) (cN (aC (λ_=>pop (v:=j6 (⟨0,0,0,bL,bL,0⟩:bN)) (by kernel_rfl) (aO (x:=(⟨0,0,0,bL,bL,0⟩:bN)) B gN rfl rfl λ_ B=>aF gN B.At (.inl ⟨by unfold gP;rw[fV cW],rfl,B.drop.aE⟩))) λkn=>aD (aA Pu (aA iR (have B:=B.drew;aU l7 (c3.ext B.aE) (aD (aA mP (aU aV (c4.ext B.aE) ?_))))))))))))))))
 obtain⟨Gi,qy⟩:=gx W (i:=t.at_.toNat) cW;obtain⟨J,V⟩:=gx t.code.l (i:=t.at_.toNat) cW;obtain⟨BD,BE,rfl,NK,Wq⟩:=I.2 _ _ _ qy V;exact aQ jN E cW qy (λ_ vJ=>aF gN (vJ.ext B.aE) (aO (x:=(⟨J.kind,J.a,J.b,BD,BE,J.to⟩:bN)) B gN rfl rfl λ_ B=>aF gN B.At (.inr ⟨_,_,by unfold gP;rw[fU cW];exact V,λw M=>(U w M).2.2 _ _ _ qy V,rfl,B.drop.aE⟩)))
def C189(K:jj)(p:Nat)(room:Int)(t:fR)(F:Nat->Prop)(lv:Value)(xs:List nQ)(w:World)(U:(fO K p room t).p w F)(I:∀w',js F w w'->eN (λ_=>True) w' lv xs)(hn:xs.length<=1000):CR 189 [(.pointer (some ⟨p,0,none⟩)),lv] w (λv w'=>v=.tuple #[jK (dE xs t.aJ).1,.bool (dE xs t.aJ).2]/\pk F (fO K p room {t with fault:=if (dE xs t.aJ).2=true then t.fault else 2}) w w'):=by
 have B:=St.begin U;refine ags _ _ _ _ ?_;unfold S189;refine aI lD (I _ B.aE) (aH (aC (λM=>?_) λM=>?_))
 .have E:dE xs t.aJ=(0,true):=by unfold dE;rw[fV cW]
  rw[E];exact⟨rfl,B.mut⟩
 have E:dE xs t.aJ=((runM xs t.aJ).1,decide ((runM xs t.aJ).2=0)):=by unfold dE;rw[fU cW]
 obtain⟨V,W,rg,cn,J,B⟩:=fO.open B;refine aD (aA tC (aB cZ B.hb rfl (aZ aj6 B (C110 _ _ xs _ _ (I _ B.aE) B.p2.fu cW) λ_ he B=>bD rfl (bD rfl ⟨λw'=>St w F [fO K p room {t with fault:=if (dE xs t.aJ).2=true then t.fault else 2}] w',bQ (aC (λO=>?_) λO=>?_),?_⟩))))
 .refine aD (aA xJ (aS B aV (dV rfl) (rfl) λ_ B=>?_));have B:=fO.shut (t:=(⟨t.code,t.at_,t.aJ,t.counts,2,t.e,t.f,t.buf⟩:fR)) J B.p3.p3.p3.p3;have ht:(⟨t.code,t.at_,t.aJ,t.counts,2,t.e,t.f,t.buf⟩:fR)={t with fault:=if (dE xs t.aJ).2=true then t.fault else 2}:=by rw[E];dsimp only;rw[gD cW];rfl
  rw[ht]at B;exact B
 .have B:=fO.shut (t:=(⟨t.code,t.at_,t.aJ,t.counts,t.fault,t.e,t.f,t.buf⟩:fR)) J B.p3.p3.p3.p3;have ht:(⟨t.code,t.at_,t.aJ,t.counts,t.fault,t.e,t.f,t.buf⟩:fR)={t with fault:=if (dE xs t.aJ).2=true then t.fault else 2}:=by rw[E];dsimp only;rw[gq cW];rfl
  rw[ht]at B;exact B
 intro _ B _;refine aH ?_;refine⟨?_,B.mut⟩;rw[E]
def C122(K:jj)(p:Nat)(room:Int)(t:fR)(tR:fR)(n:Nat)(F:Nat->Prop)(w:World)(hF:(fO K p room t).p w F)(hK:∀w',js F w w'->K w')(mL:JR t)(hg:sB n t=some tR):CR 122 [(.pointer (some ⟨p,0,none⟩))] w (λv w'=>v=.tuple #[]/\pk F (fO K p room tR) w w'):=by
 have E:=St.begin hF;refine afY _ _ _ ?_;unfold S122;refine⟨λmm w'=>∃B:fR,sB mm B=some tR/\JR B/\St w F [fO K p room B] w',⟨n,t,hg,mL,E⟩,?_⟩;rintro mm _ ⟨B,O,J,E⟩ _;obtain⟨k,rfl⟩:=Rj O;refine eR afO (C65 K p room B _ E.has (hK _ E.aE) J) ?_;rintro v_x8 _ axu
 rcases axu with⟨M,rfl,he⟩|⟨x,xv,M,hxv,rfl,he⟩
 .have E:=E.ext he;refine bD rfl (bD rfl (aR E j7 λmV w3 E=>have E:=E.enc (cs':=kp (⟨0,0,0,bL,bL,0⟩:bN)) rfl;aO (x:=(⟨0,0,0,bL,bL,0⟩:bN)) E gN rfl rfl λw4 E=>bV (jt ?_)));have E:=E.drop;rw[tq O (yn M)];exact⟨rfl,E.mut⟩
 have E:=E.ext he;have Le:=o9 M;obtain⟨hxe,hxf,aFX,aFY⟩:=J.code.ops x Le.1;have adj:=J.code.set x Le.1;have Rm:=J.code.cnt x Le.1;have aFZ:=J.rg;have adk:=J.cn;have aF0:=J.code.len;have axx:=J.Sv;obtain⟨ge,gf,rfl,_,_⟩:=hxv _ (hK _ E.aE)
 have hxE:∀w,K w->eN (λ_=>True) w (j6 ge) x.e:=λw hw=>by
  obtain⟨ge',gf',hh,h1,_⟩:=hxv w hw;cases hh;exact DL.flat h1
 have hxF:∀w,K w->eN (λ_=>True) w (j6 gf) x.f:=λw hw=>by
  obtain⟨ge',gf',hh,_,h2⟩:=hxv w hw;cases hh;exact DL.flat h2
 refine bD rfl (bD rfl (aR E j7 λmV w3 E=>have E:=E.enc (cs':=kp (⟨0,0,0,bL,bL,0⟩:bN)) rfl;aO (x:=(⟨x.kind,x.a,x.b,ge,gf,x.to⟩:bN)) E gN rfl rfl λw4 E=>bV (fM (aA ou (aB (v:=j6 (ge:SV)) nP E.hb rfl (bI akt E.p1 (H':=λ_=>fO K p room {B with fault:=if (dE x.e B.aJ).2=true then B.fault else 2}) (Φ:=λv _=>v=.tuple #[jK (dE x.e B.aJ).1,.bool (dE x.e B.aJ).2]) (λF2 fz eO=>?_) ?_))))))
 .exact C189 K p room B F2 _ x.e _ fz (λw' hc=>hxE w' (hK w' (eO w' hc).aE)) hxe
 rintro _ _ rfl E;refine bD rfl (bD rfl ?_);obtain⟨bp,gl,rg,cn,U,E⟩:=fO.open E
 change St _ _ (cI p [.pointer (some ⟨bp,0,none⟩),jK B.code.aJ,jK B.code.counts,gl,jK B.at_,rg,cn,jK (if (dE x.e B.aJ).2=true then B.fault else 2),jK B.e,jK B.f]::kC bp room B.buf::bE rg B.aJ::bE cn B.counts::_) _ at E
 refine aD (aA xK (aS E aV (dV rfl) (rfl) λ_ E=>bV (aW (λV=>?_) λV=>?_)))
 .have E:=fO.shut (t:=(⟨B.code,B.at_,B.aJ,B.counts,(if (dE x.e B.aJ).2=true then B.fault else 2),(dE x.e B.aJ).1,B.f,B.buf⟩:fR)) U E.p3.p3.p3.p3;have E:=E.p1.drop;rw[tq O (yo M (by simpa using V))];exact⟨rfl,E.mut⟩
 have E:=fO.shut (t:=(⟨B.code,B.at_,B.aJ,B.counts,(if (dE x.e B.aJ).2=true then B.fault else 2),(dE x.e B.aJ).1,B.f,B.buf⟩:fR)) U E.p3.p3.p3.p3
 change St w F (fO K p room (tE B x)::_) _ at E
 refine aA iZ (aB (v:=j6 (gf:SV)) nP E.p1.hb rfl (bI akt E (H':=λ_=>fO K p room { (tE B x)with fault:=if (dE x.f (tE B x).aJ).2=true then(tE B x).fault else 2}) (Φ:=λv _=>v=.tuple #[jK (dE x.f B.aJ).1,.bool (dE x.f B.aJ).2]) (λF2 fz eO=>?_) ?_))
 .exact C189 K p room (tE B x) F2 _ x.f _ fz (λw' hc=>hxF w' (hK w' (eO w' hc).aE)) hxf
 rintro _ _ rfl E;refine bD rfl (bD rfl ?_);obtain⟨bp,gl,rg,cn,U,E⟩:=fO.open E
 change St _ _ (cI p [.pointer (some ⟨bp,0,none⟩),jK B.code.aJ,jK B.code.counts,gl,jK B.at_,rg,cn,jK (if (dE x.f B.aJ).2=true then(tE B x).fault else 2),jK (dE x.e B.aJ).1,jK B.f]::kC bp room B.buf::bE rg B.aJ::bE cn B.counts::_) _ at E
 refine aD (aA HX (aS E aV (dV rfl) (rfl) λ_ E=>bV (aW (λnh=>?_) λnh=>?_)))
 .have E:=fO.shut (t:=(⟨B.code,B.at_,B.aJ,B.counts,(if (dE x.f B.aJ).2=true then(tE B x).fault else 2),(dE x.e B.aJ).1,(dE x.f B.aJ).1,B.buf⟩:fR)) U E.p3.p3.p3.p3;have E:=E.p1.drop;rw[tq O (yp M (by simpa using V) (by simpa using nh))];exact⟨rfl,E.mut⟩
 refine aD (aA mP (aB aV E.hb rfl (aN cW ?_)));refine⟨_,?_,λ_ _ h=>h⟩;refine aA eA (aB (v:=jK x.kind) aV E.p4.hb rfl (aH (aC (λgO=>?_) λgO=>aH (aC (λzB=>?_) λzB=>aH (aC (λtK=>aD (aA xK (aB aV E.hb rfl (aH (aC (λvu=>?_) λvu=>?_))))) λtK=>?_)))))
 .have hx1:=adj gO;refine aD (aA tC (have E:=E.drew;aB cZ E.hb rfl (aA gr (aB (v:=jK x.a) aV E.p4.hb rfl (aD (aA xK (aB aV E.hb rfl ?_)))))));obtain⟨axl,apH⟩:=gx B.aJ (i:=x.a.toNat) cW;refine cH E.p2 cE cW cW (λ_ JN=>gY _ E.p2 aV JN cW λ_ E=>?_);intro se;refine aD (aA mP (aS E.p1 aV (dV rfl) (rfl) λON E=>?_));have E:=fO.shut (t:=(⟨B.code,(B.at_+1),(B.aJ.set x.a.toNat (dE x.e B.aJ).1),B.counts,(if (dE x.f B.aJ).2=true then(tE B x).fault else 2),(dE x.e B.aJ).1,(dE x.f B.aJ).1,B.buf⟩:fR)) U E.p3.p2.p3.p3
  have E:=E.p1.drop
  have gj:fK B=((⟨B.code,(B.at_+1),(B.aJ.set x.a.toNat (dE x.e B.aJ).1),B.counts,(if (dE x.f B.aJ).2=true then(tE B x).fault else 2),(dE x.e B.aJ).1,(dE x.f B.aJ).1,B.buf⟩:fR),true):=by
   rw[lL M (by simpa using V) (by simpa using nh),Rk gO]
   try rw[show(tF (tE B x) x).counts.getD x.a.toNat 0=I from W]
   try rfl
  exact⟨k,cW,_,qB O gj,by have:=jd J;rw[gj]at this;exact this,E⟩
 .refine aA gS (aB (v:=jK x.to) aV E.p4.hb rfl ?_);intro se;refine aD (aA mP (aS E aV (dV rfl) (rfl) λON E=>?_));have E:=fO.shut (t:=(⟨B.code,x.to,B.aJ,B.counts,(if (dE x.f B.aJ).2=true then(tE B x).fault else 2),(dE x.e B.aJ).1,(dE x.f B.aJ).1,B.buf⟩:fR)) U E.p3.p3.p3.p3;have E:=E.p1.drop
  have gj:fK B=((⟨B.code,x.to,B.aJ,B.counts,(if (dE x.f B.aJ).2=true then(tE B x).fault else 2),(dE x.e B.aJ).1,(dE x.f B.aJ).1,B.buf⟩:fR),true):=by
   rw[lL M (by simpa using V) (by simpa using nh),JS zB]
   try rw[show(tF (tE B x) x).counts.getD x.a.toNat 0=I from W]
   try rfl
  exact⟨k,cW,_,qB O gj,by have:=jd J;rw[gj]at this;exact this,E⟩
 .refine aA gS (aB (v:=jK x.to) aV E.p4.hb rfl ?_);intro se;refine aD (aA mP (aS E aV (dV rfl) (rfl) λON E=>?_));have E:=fO.shut (t:=(⟨B.code,x.to,B.aJ,B.counts,(if (dE x.f B.aJ).2=true then(tE B x).fault else 2),(dE x.e B.aJ).1,(dE x.f B.aJ).1,B.buf⟩:fR)) U E.p3.p3.p3.p3;have E:=E.p1.drop
  have gj:fK B=((⟨B.code,x.to,B.aJ,B.counts,(if (dE x.f B.aJ).2=true then(tE B x).fault else 2),(dE x.e B.aJ).1,(dE x.f B.aJ).1,B.buf⟩:fR),true):=by
   rw[lL M (by simpa using V) (by simpa using nh),Em tK vu]
   try rw[show(tF (tE B x) x).counts.getD x.a.toNat 0=I from W]
   try rfl
  exact⟨k,cW,_,qB O gj,by have:=jd J;rw[gj]at this;exact this,E⟩
 .intro se;refine aD (aA mP (aS E aV (dV rfl) (rfl) λON E=>?_));have E:=fO.shut (t:=(⟨B.code,(B.at_+1),B.aJ,B.counts,(if (dE x.f B.aJ).2=true then(tE B x).fault else 2),(dE x.e B.aJ).1,(dE x.f B.aJ).1,B.buf⟩:fR)) U E.p3.p3.p3.p3;have E:=E.p1.drop
  have gj:fK B=((⟨B.code,(B.at_+1),B.aJ,B.counts,(if (dE x.f B.aJ).2=true then(tE B x).fault else 2),(dE x.e B.aJ).1,(dE x.f B.aJ).1,B.buf⟩:fR),true):=by
   rw[lL M (by simpa using V) (by simpa using nh),En tK vu]
   try rw[show(tF (tE B x) x).counts.getD x.a.toNat 0=I from W]
   try rfl
  exact⟨k,cW,_,qB O gj,by have:=jd J;rw[gj]at this;exact this,E⟩
 refine aH (aC (λrJ=>?_) λrJ=>aH (aC (λGf=>?_) λGf=>aH (aC (λFs=>aD (aA xK (aB aV E.hb rfl (aH (aC (λC0=>?_) λC0=>?_))))) λFs=>?_)))
 .have hx1:=Rm (.inl rJ);refine aD (aA Ab (have E:=E.drew;aB cZ E.hb rfl (aA gr (aB (v:=jK x.a) aV E.p4.hb rfl (aA dS (aB (v:=jK x.b) aV E.p4.hb rfl ?_))))));obtain⟨JV,JW⟩:=gx B.counts (i:=x.a.toNat) cW;refine cH E.p3 cE cW cW (λ_ adm=>gY _ E.p3 aV adm cW λ_ E=>?_);intro se;refine aD (aA mP (aS E.p1 aV (dV rfl) (rfl) λON E=>?_));have E:=fO.shut (t:=(⟨B.code,(B.at_+1),B.aJ,(B.counts.set x.a.toNat x.b),(if (dE x.f B.aJ).2=true then(tE B x).fault else 2),(dE x.e B.aJ).1,(dE x.f B.aJ).1,B.buf⟩:fR)) U E.p1.p3.p3.p3
  have E:=E.p1.drop
  have gj:fK B=((⟨B.code,(B.at_+1),B.aJ,(B.counts.set x.a.toNat x.b),(if (dE x.f B.aJ).2=true then(tE B x).fault else 2),(dE x.e B.aJ).1,(dE x.f B.aJ).1,B.buf⟩:fR),true):=by
   rw[lL M (by simpa using V) (by simpa using nh),JT rJ]
   try rw[show(tF (tE B x) x).counts.getD x.a.toNat 0=I from W]
   try rfl
  exact⟨k,cW,_,qB O gj,by have:=jd J;rw[gj]at this;exact this,E⟩
 .have hx1:=Rm (.inr Gf);refine aD (aA Ab (have E:=E.drew;aB cZ E.hb rfl (aA gr (aB (v:=jK x.a) aV E.p4.hb rfl ?_))));obtain⟨I,JX⟩:=gx B.counts (i:=x.a.toNat) cW;refine cH E.p3 cE cW cW (λ_ Rn=>?_);have W:B.counts.getD x.a.toNat 0=I:=by rw[oi,JX];rfl
  refine eK E.p3 aV Rn JX (xU (cH E.p3 cE cW cW λ_ abP=>gY _ E.p3 aV abP cW λ_ E=>aD (aA Ab (have E:=E.drew;aB cZ E.p1.hb rfl ?_))));have Nz:(B.counts.set x.a.toNat (qj (I-1))).length=B.counts.length:=List.length_set;refine aA gr (aB (v:=jK x.a) aV E.p4.hb rfl ?_);obtain⟨axC,Ub⟩:=gx (B.counts.set x.a.toNat (qj (I-1))) (i:=x.a.toNat) cW;refine cH E cE cW cW (λ_ adn=>?_);have h99:axC=qj (I-1):=by rw[yF cW]at Ub;exact(qa.inj Ub).symm
  refine eK E aV adn Ub (cG (aC (λNG=>?_) λNG=>?_))
  .refine aA gS (aB (v:=jK x.to) aV E.p4.hb rfl ?_);intro se;refine aD (aA mP (aS E.p1 aV (dV rfl) (rfl) λON E=>?_));have E:=fO.shut (t:=(⟨B.code,x.to,B.aJ,(B.counts.set x.a.toNat (qj (I-1))),(if (dE x.f B.aJ).2=true then(tE B x).fault else 2),(dE x.e B.aJ).1,(dE x.f B.aJ).1,B.buf⟩:fR)) U E.p1.p3.p3.p3;have E:=E.p1.drop
   have gj:fK B=((⟨B.code,x.to,B.aJ,(B.counts.set x.a.toNat (qj (I-1))),(if (dE x.f B.aJ).2=true then(tE B x).fault else 2),(dE x.e B.aJ).1,(dE x.f B.aJ).1,B.buf⟩:fR),true):=by
    rw[lL M (by simpa using V) (by simpa using nh),Eo Gf (by rw[show(tF (tE B x) x).counts.getD x.a.toNat 0=I from W];omega)]
    try rw[show(tF (tE B x) x).counts.getD x.a.toNat 0=I from W]
    try rfl
   exact⟨k,cW,_,qB O gj,by have:=jd J;rw[gj]at this;exact this,E⟩
  intro se;refine aD (aA mP (aS E.p1 aV (dV rfl) (rfl) λON E=>?_));have E:=fO.shut (t:=(⟨B.code,(B.at_+1),B.aJ,(B.counts.set x.a.toNat (qj (I-1))),(if (dE x.f B.aJ).2=true then(tE B x).fault else 2),(dE x.e B.aJ).1,(dE x.f B.aJ).1,B.buf⟩:fR)) U E.p1.p3.p3.p3;have E:=E.p1.drop
  have gj:fK B=((⟨B.code,(B.at_+1),B.aJ,(B.counts.set x.a.toNat (qj (I-1))),(if (dE x.f B.aJ).2=true then(tE B x).fault else 2),(dE x.e B.aJ).1,(dE x.f B.aJ).1,B.buf⟩:fR),true):=by
   rw[lL M (by simpa using V) (by simpa using nh),Ep Gf (by rw[show(tF (tE B x) x).counts.getD x.a.toNat 0=I from W];omega)]
   try rw[show(tF (tE B x) x).counts.getD x.a.toNat 0=I from W]
   try rfl
  exact⟨k,cW,_,qB O gj,by have:=jd J;rw[gj]at this;exact this,E⟩
 .refine aD (aA xJ (aS E aV (dV rfl) (rfl) λ_ E=>?_));have E:=fO.shut (t:=(⟨B.code,B.at_,B.aJ,B.counts,1,(dE x.e B.aJ).1,(dE x.f B.aJ).1,B.buf⟩:fR)) U E.p3.p3.p3.p3;have E:=E.p1.drop
  have gj:fK B=((⟨B.code,B.at_,B.aJ,B.counts,1,(dE x.e B.aJ).1,(dE x.f B.aJ).1,B.buf⟩:fR),false):=by
   rw[lL M (by simpa using V) (by simpa using nh),Er Fs C0]
   try rw[show(tF (tE B x) x).counts.getD x.a.toNat 0=I from W]
   try rfl
  rw[tq O gj];exact⟨rfl,E.mut⟩
 .intro se;refine aD (aA mP (aS E aV (dV rfl) (rfl) λON E=>?_));have E:=fO.shut (t:=(⟨B.code,(B.at_+1),B.aJ,B.counts,(if (dE x.f B.aJ).2=true then(tE B x).fault else 2),(dE x.e B.aJ).1,(dE x.f B.aJ).1,B.buf⟩:fR)) U E.p3.p3.p3.p3;have E:=E.p1.drop
  have gj:fK B=((⟨B.code,(B.at_+1),B.aJ,B.counts,(if (dE x.f B.aJ).2=true then(tE B x).fault else 2),(dE x.e B.aJ).1,(dE x.f B.aJ).1,B.buf⟩:fR),true):=by
   rw[lL M (by simpa using V) (by simpa using nh),Es Fs C0]
   try rw[show(tF (tE B x) x).counts.getD x.a.toNat 0=I from W]
   try rfl
  exact⟨k,cW,_,qB O gj,by have:=jd J;rw[gj]at this;exact this,E⟩
 have E:=fO.shut (t:=(⟨B.code,B.at_,B.aJ,B.counts,(if (dE x.f B.aJ).2=true then(tE B x).fault else 2),(dE x.e B.aJ).1,(dE x.f B.aJ).1,B.buf⟩:fR)) U E.p3.p3.p3.p3;have E:=E.p1.drop
 have gj:fK B=((⟨B.code,B.at_,B.aJ,B.counts,(if (dE x.f B.aJ).2=true then(tE B x).fault else 2),(dE x.e B.aJ).1,(dE x.f B.aJ).1,B.buf⟩:fR),false):=by
  rw[lL M (by simpa using V) (by simpa using nh),JU gO zB tK rJ Gf Fs]
  try rw[show(tF (tE B x) x).counts.getD x.a.toNat 0=I from W]
  try rfl
 rw[tq O gj];exact⟨rfl,E.mut⟩
structure gQ where
 u:iz
 room:Int
 mem:Mem
 locks:List Int
 l:List fR
 cS:Int
 fault:Int
 iP:Int
structure MA where
 lnv:SV
 fsv:SV
 thv:SV
 ZT:SV
 clv:SV
 q:Nat
 ov:Value
 fv:Value
 lk:Value
 ll:Value
 ps:List Ptr
@[reducible] def mz(a:MA)(m:gQ):List Value:=[j6 a.lnv,.int .i64 m.u.stays,j6 a.fsv,.int .i64 m.u.locks,j6 a.thv,.int .i64 m.u.recover.aJ,.int .i64 m.u.recover.counts,j6 a.ZT,j6 a.clv,.int .i64 m.room,.pointer (some ⟨a.q,0,none⟩),a.lk,a.ll,.int .i64 m.cS,.int .i64 m.fault,.int .i64 m.iP]
structure UK(K:jj)(a:MA)(m:gQ):Prop where
 ln:∀w,K w->eN (λ_=>True) w (j6 a.lnv) m.u.lines
 cl:∀w,K w->DL w (j6 a.clv) m.u.cD
 rc:vY K (j6 a.ZT) m.u.recover.l
 mem:∀w,K w->yj a.ov a.fv m.mem w
abbrev tY(K:jj)(room:Int)(s:Ptr)(t:fR):HP:=fO K s.b room t
def fN(K:jj)(p:Nat)(m:gQ):HP:=uI λa:MA=>fact (UK K a m) (sep (cI p (mz a m)) (sep (iw a.q a.ov a.fv m.mem) (sep (bE a.lk m.locks) (sep (bE a.ll a.ps) (iU (tY K m.room) a.ps m.l)))))
def m7(K:jj)(p:Nat)(m:gQ)(i:Nat)(tp:Ptr):HP:=uI λa:MA=>fact (UK K a m/\a.ps[i]?=some tp/\a.ps.length=m.l.length/\i<m.l.length) (sep (cI p (mz a m)) (sep (iw a.q a.ov a.fv m.mem) (sep (bE a.lk m.locks) (sep (bE a.ll a.ps) (qN (tY K m.room) a.ps m.l i)))))
section
variable {w w' w0:World}{A:Nat->Prop}{R:List HP}{p:Nat}{K:jj}{m:gQ}{a:MA}{i:Nat}{tp:Ptr}{t:fR}
theorem BJ{H1 H2 E I B:HP}(J:St w0 A (sep H1 (sep H2 (sep E (sep I B)))::R) w):St w0 A (H1::H2::E::I::B::R) w:=by
 have h1:=J.split
 have h2:=h1.p1.split
 have h3:=h2.p1.split
 have h4:=h3.p1.split
 exact h4.p2.p3.p4
theorem BK{H1 H2 E I B:HP}(J:St w0 A (H1::H2::E::I::B::R) w):St w0 A (sep H1 (sep H2 (sep E (sep I B)))::R) w:=by
 have h4:=St.join J.p4.p4
 have h3:=St.join h4.p3
 have h2:=St.join h3.p2
 exact St.join h2.p1
theorem fN.open(B:St w0 A (fN K p m::R) w):∃a,UK K a m/\St w0 A (cI p (mz a m)::iw a.q a.ov a.fv m.mem::bE a.lk m.locks::bE a.ll a.ps::iU (tY K m.room) a.ps m.l::R) w:=by
 obtain⟨a,B⟩:=B.fH;obtain⟨E,B⟩:=B.pd;exact⟨a,E,BJ B⟩
theorem fN.shut(B:UK K a m)(E:St w0 A (cI p (mz a m)::iw a.q a.ov a.fv m.mem::bE a.lk m.locks::bE a.ll a.ps::iU (tY K m.room) a.ps m.l::R) w):St w0 A (fN K p m::R) w:=
 St.fD a (St.qM B (BK E))
theorem m7.open(B:St w0 A (m7 K p m i tp::R) w):∃a,(UK K a m/\a.ps[i]?=some tp/\a.ps.length=m.l.length/\i<m.l.length)/\St w0 A (cI p (mz a m)::iw a.q a.ov a.fv m.mem::bE a.lk m.locks::bE a.ll a.ps::qN (tY K m.room) a.ps m.l i::R) w:=by
 obtain⟨a,B⟩:=B.fH;obtain⟨E,B⟩:=B.pd;exact⟨a,E,BJ B⟩
theorem m7.shut(B:UK K a m/\a.ps[i]?=some tp/\a.ps.length=m.l.length/\i<m.l.length)(E:St w0 A (cI p (mz a m)::iw a.q a.ov a.fv m.mem::bE a.lk m.locks::bE a.ll a.ps::qN (tY K m.room) a.ps m.l i::R) w):St w0 A (m7 K p m i tp::R) w:=
 St.fD a (St.qM B (BK E))
structure axD(K:jj)(w:World)(p:Nat)(m:gQ)(a:MA):Prop where
 uk:UK K a m
 b:uE w p (mz a m)
 mem:zf w a.q m.mem
 c0:Cell w a.q 0 a.ov
 c1:Cell w a.q 1 a.fv
 lk:eN (λ_=>True) w a.lk m.locks
 ll:eN (λ_=>True) w a.ll a.ps
 th:∀(i:Nat) (s:Ptr) (t:fR),a.ps[i]?=some s->m.l[i]?=some t->Has (fO K s.b m.room t) w
 len:a.ps.length=m.l.length
theorem fN.rd(h:Has (fN K p m) w)(I:K w):∃a,axD K w p m a:=by
 obtain⟨F,B⟩:=h.st
 obtain⟨a,E,B⟩:=fN.open B
 have hc:Cell w a.q 0 a.ov/\Cell w a.q 1 a.fv:=by
  obtain⟨lv,kv,pm,h⟩:=iw.open B.p1;exact⟨h.hb.cell rfl,h.hb.cell rfl⟩
 exact⟨a,E,B.hb,N4 B.p1 (E.mem _ I),hc.1,hc.2,B.p2.fu,B.p3.fu,λi s t h1 h2=>B.p4.anP h1 h2 (Φ:=λw=>Has (fO K s.b m.room t) w) λh=>⟨_,h⟩,B.p4.jy⟩
theorem ado{ps:List Ptr}(E:St w0 A (iU (tY K m.room) ps m.l::R) w)(B:ps[i]?=some tp)(ht:m.l[i]?=some t):St w0 A (fO K tp.b m.room t::qN (tY K m.room) ps m.l i::R) w:=E.focus B ht
theorem Ro(E:St w0 A (fO K tp.b m.room t::m7 K p m i tp::R) w):St w0 A (fN K p {m with l:=m.l.set i t}::R) w:=by
 obtain⟨a,⟨B,J,M,I⟩,E⟩:=m7.open E.p1
 have h1:St w0 A (tY K m.room tp t::qN (tY K m.room) a.ps m.l i::_) w:=E.p4.p5
 have h2:=h1.nY I M J
 have h3:=h2.p4.p4.p4.p4
 exact fN.shut (m:={m with l:=m.l.set i t}) ⟨B.ln,B.cl,B.rc,B.mem⟩ h3
end
def zi(m:gQ)(t:fR):Bool:=match gP t with
 | none=>false
 | some x=>if t.fault≠0 then true else if x.kind=3\/x.kind=5\/x.kind=6\/x.kind=7 then !decide (m.room<=t.buf.length)else if x.kind=4\/x.kind=8\/x.kind=10 then decide (t.buf.length=0)else if x.kind=9 then decide (t.buf.length=0)&&decide (m.locks.getD x.b.toNat 0 = -1)else true
def sS(m:gQ)(i:Nat)(t:fR):List dY:=(if zi m t=true then [⟨1,i,0,[]⟩]else [])++(vR t.buf).map λk=>⟨2,i,k,[]⟩
def kf(m:gQ)(k:Nat):List dY:=(rv k).flatMap λi=>match m.l[i]? with|some t=>sS m i t|none=>[]
def cT(m:gQ):List dY:=if m.fault≠0 then []else kf m m.l.length
def jC(m:gQ):List dY:=if m.fault≠0 then []else(vX m.mem).map λc=>⟨3,0,0,c⟩
theorem zj{m:gQ}{k:Nat}{t:fR}(h:m.l[k]?=some t):kf m (k+1)=kf m k++sS m k t:=by
 unfold kf;rw[D3,Ss];simp[h]
structure nL(m:gQ):Prop where
 mem:ux m.mem
 th:∀t∈m.l,JR t
 tl:m.l.length<=1000
 lk:(m.locks.length:Int)=m.u.locks
 lkb:∀t∈m.l,∀x∈t.code.l,x.kind=9\/x.kind=10->0<=x.b/\x.b<m.u.locks
 lnb:∀t∈m.l,∀x∈t.code.l,x.kind=3->0<=x.b/\x.b<m.u.lines.length
 al2:∀t∈m.l,∀x∈t.code.l,x.kind=2\/x.kind=4->0<=x.a/\x.a<t.code.aJ
 rm:1<=m.room/\m.room<=16
 st:∀t∈m.l,∀x,gP t=some x->t.fault=0->2<=x.kind/\x.kind<=10
 nl:∀n∈m.u.lines,-1<=n/\n<=1000
def FK(l:List aX):(vR l).length<=l.length:=by have:=FF l l.length;rw[CV l rfl]at this;exact this
def C66(K:jj)(p:Nat)(room:Int)(t:fR)(w:World)(M:Has (fO K p room t) w)(zV:t.buf.length<=1000):CR 66 [(.pointer (some ⟨p,0,none⟩))] w (λv w'=>v=.bool (decide (t.buf.length=0))/\Ext w w'):=by
 obtain⟨O,gl,rg,cn,⟨V,B4⟩,I,U,AM,W⟩:=fO.rd M;have E:=I.cell (o:=0) rfl;have J:=I.cell (o:=7) rfl;have B:=St.start w;refine lx Tryz.func66 ?_;exact aD (aA pL (aU vm (E.ext B.aE) (dF anB B (C91 O _ _ _ (U.ext B.aE) cW) λ_ _ _ B=>aI jO B.fu (aH ⟨vb (hI.2 cW),B.drop.aE⟩))))
def C56(K:jj)(p:Nat)(m:gQ)(q:Nat)(t:fR)(w:World)(hm:Has (fN K p m) w)(hw:K w)(om:∀w',Ext w w'->K w')(iS:nL m)(V:Has (fO K q m.room t) w)(wQ:t∈m.l):CR 56 [(.pointer (some ⟨p,0,none⟩)),(.pointer (some ⟨q,0,none⟩))] w (λv w'=>v=.bool (zi m t)/\Ext w w'):=by
 obtain⟨a,E⟩:=fN.rd hm hw;have Rp:=E.b.cell (o:=8) rfl;have cm0:=E.b.cell (o:=0) rfl;have Rq:=E.b.cell (o:=1) rfl;have WU:=E.b.cell (o:=3) rfl;have OO:=E.b.cell (o:=9) rfl;have yq:=E.b.cell (o:=10) rfl;have zm:=E.b.cell (o:=11) rfl;have wz:=E.b.cell (o:=12) rfl;have vZ:=E.b.cell (o:=13) rfl;have sT:=E.b.cell (o:=14) rfl;have zR:=E.b.cell (o:=15) rfl;have mL:=iS.th t wQ;have zV:=mL.bl;obtain⟨bp,gl,rg,cn,⟨ts0,B4⟩,kS,hB,AM,Rl⟩:=fO.rd V;have ct0:=kS.cell (o:=0) rfl;have ct7:=kS.cell (o:=7) rfl;have hK:∀w',Ext w w'->K w':=om;have B:=St.start w;refine uT Tryz.func56 (pl:=P56) ?_
 refine eR afO (C65 K q m.room t _ (V.ext B.aE) (hK _ B.aE) mL) ?_;rintro v_x9 _ axE
 rcases axE with⟨I,rfl,M⟩|⟨x,xv,I,hxv,rfl,M⟩
 .have B:=B.ext M;refine bD rfl (bD rfl (aR B j7 λW w2 B=>have B:=B.enc (cs':=kp (⟨0,0,0,bL,bL,0⟩:bN)) rfl;aO (x:=(⟨0,0,0,bL,bL,0⟩:bN)) B gN rfl rfl λw3 B=>bV (jt ?_)));refine⟨vb ?_,(by first|exact B.aE|exact B.drop.aE)⟩;unfold zi;rw[I]
 have B:=B.ext M;have Le:=o9 I;obtain⟨ge,gf,rfl,_,_⟩:=hxv _ (hK _ B.aE);refine bD rfl (bD rfl (aR B j7 λW w2 B=>have B:=B.enc (cs':=kp (⟨0,0,0,bL,bL,0⟩:bN)) rfl;aO (x:=(⟨x.kind,x.a,x.b,ge,gf,x.to⟩:bN)) B gN rfl rfl λw3 B=>bV (fM (aD (aA xJ (aU aV (ct7.ext B.aE) (bQ (aC (λJ=>?_) λJ=>aA eA (aB (v:=jK x.kind) aV B.hb rfl ⟨λO w'=>O=.bool (decide (x.kind=3\/x.kind=5\/x.kind=6\/x.kind=7))/\St w aY [cI W (kp (⟨x.kind,x.a,x.b,ge,gf,x.to⟩:bN))] w',aH (aC (λ_=>⟨vb eS,B⟩) λ_=>aH (aC (λ_=>⟨vb eS,B⟩) λ_=>aH (aC (λ_=>⟨vb eS,B⟩) λ_=>aH ⟨vb eS,B⟩))),?_⟩)))))))))
 .refine⟨vb ?_,(by first|exact B.aE|exact B.drop.aE)⟩;unfold zi;rw[I];dsimp only;rw[fV J]
 rintro _ _ ⟨rfl,B⟩ _;refine aW (λU=>?_) (λU=>⟨λO w'=>O=.bool (decide (x.kind=4\/x.kind=8\/x.kind=10))/\St w aY [cI W (kp (⟨x.kind,x.a,x.b,ge,gf,x.to⟩:bN))] w',aH (aC (λ_=>⟨vb eS,B⟩) λ_=>aH (aC (λ_=>⟨vb eS,B⟩) λ_=>aH ⟨vb eS,B⟩)),?_⟩)
 .refine aD (aA pL (aU vm (ct0.ext B.aE) (aZ aka B (C123 bp _ _ _ (hB.ext B.aE)) λ_ M B=>bV ?_)));refine⟨vb ?_,(by first|exact B.aE|exact B.drop.aE)⟩;unfold zi;rw[I];dsimp only;rw[fU (by simpa using J),fV (by simpa using U)]
 rintro _ _ ⟨rfl,B⟩ _;refine aW (λjG=>?_) (λjG=>aH (aC (λkN=>?_) λkN=>?_))
 .refine aZ anc B (C66 K q m.room t _ (V.ext B.aE) zV) (λ_ M B=>?_);refine⟨vb ?_,(by first|exact B.aE|exact B.drop.aE)⟩;unfold zi;rw[I];dsimp only;rw[fU (by simpa using J),fU (by simpa using U),fV (by simpa using jG)]
 .have Uc:=iS.lkb t wQ x Le.1 (.inl kN);have Ln:=iS.lk;refine⟨λO w'=>O=.bool (decide (t.buf.length=0)&&decide (m.locks.getD x.b.toNat 0 = -1))/\St w aY [cI W (kp (⟨x.kind,x.a,x.b,ge,gf,x.to⟩:bN))] w',have B:=B.drew;aZ anc B (C66 K q m.room t _ (V.ext B.aE) zV) (λ_ M B=>aW (λzA=>?_) λzA=>⟨vb (by rw[zA];rfl),B⟩),?_⟩
  .refine aD (aA ri (aU cZ (zm.ext B.aE) (aA dS (aB (v:=jK x.b) aV B.hb rfl ?_))));obtain⟨avQ,AJ⟩:=gx m.locks (i:=x.b.toNat) cW;exact aQ cE E.lk cW AJ (λ_ IF=>aF aV (IF.ext B.aE) (aH ⟨vb (by rw[zA,oi,AJ];rfl),B⟩))
  rintro _ _ ⟨rfl,B⟩ _;refine⟨vb ?_,(by first|exact B.aE|exact B.drop.aE)⟩;unfold zi;rw[I];dsimp only;rw[fU (by simpa using J),fU (by simpa using U),fU (by simpa using jG),fV kN]
 refine⟨vb ?_,(by first|exact B.aE|exact B.drop.aE)⟩;unfold zi;rw[I];dsimp only;rw[fU (by simpa using J),fU (by simpa using U),fU (by simpa using jG),fU kN]
def Ud(m:gQ)(i:Nat)(t:fR):(sS m i t).length<=1+t.buf.length:=by
 have:=FK t.buf
 unfold sS;split<;>simp<;>omega
theorem tU{m:gQ}(h:nL m):∀k,(kf m k).length<=k*1001
 | 0=>by simp[kf]
 | k+1=>by
  have B:=tU h k
  cases ht:m.l[k]? with
  | none=>
   have e:kf m (k+1)=kf m k:=by unfold kf;rw[D3,Ss];simp[ht]
   rw[e];exact x5 B (BO 1001 (Nat.le_succ k))
  | some t=>
   rw[zj ht,n0]
   have:=Ud m k t
   have:=(h.th t (ld ht)).bl
   omega
def zG(m:gQ)(i:Int):List Int:=if 0<=i then(match m.l[i.toNat]? with|some t=>t.aJ|none=>[])else []
def Rr(m:gQ)(i:Int):List aX:=if 0<=i then(match m.l[i.toNat]? with|some t=>t.buf|none=>[])else []
theorem Rs{m:gQ}{i:Int}{t:fR}(B:0<=i)(h:m.l[i.toNat]?=some t):zG m i=t.aJ:=by unfold zG;rw[fV B,h]
theorem WV{m:gQ}{i:Int}{t:fR}(B:0<=i)(h:m.l[i.toNat]?=some t):Rr m i=t.buf:=by unfold Rr;rw[fV B,h]
theorem Mf{m:gQ}{i:Int}(h:i<0\/m.l.length<=i):zG m i=[]:=by
 unfold zG;split
 .rw[o3 cW]
 rfl
theorem Rt{m:gQ}{i:Int}(h:i<0\/m.l.length<=i):Rr m i=[]:=by
 unfold Rr;split
 .rw[o3 cW]
 rfl
def aiJ:List Int->Int->Int
 | [],n=>n
 | c::cs,n=>aiJ cs (qj (qj (n*10000)+c))
def wR(l:List Int)(k:Nat):Int:=aiJ (l.take k) 0
theorem Mg:∀(l:List Int) (c n:Int),aiJ (l++[c]) n=qj (qj (aiJ l n*10000)+c)
 | [],_,_=>rfl
 | x::l,c,n=>Mg l c _
theorem JY{l:List Int}{k:Nat}{c:Int}(h:l[k]?=some c):wR l (k+1)=qj (qj (wR l k*10000)+c):=by
 unfold wR;rw[xp,h];exact Mg _ _ _
def jo(p q:dY):Bool:=decide (q.kind=p.kind)&&decide (q.t=p.t)&&decide (q.i=p.i)&&decide (p.cut.length=0)
def pk3(s:SV):dN:=⟨3,0,0,s⟩
theorem WW{w:World}{B:List SV}{cs:List (List Int)}(h:jF B cs w):jF (B.map pk3) (cs.map λc=>(⟨3,0,0,c⟩:dY)) w:=by
 refine⟨by simp[h.1],λi t x a b=>?_⟩
 rw[uO]at a b
 cases hs:B[i]? with
 | none=>rw[hs]at a;cases a
 | some s=>
  cases hc:cs[i]? with
  | none=>rw[hc]at b;cases b
  | some c=>
   rw[hs]at a;rw[hc]at b
   simp at a b;subst a b
   exact⟨s,rfl,h.2 i s c hs hc⟩
def C16(K:jj)(p:Nat)(m:gQ)(w:World)(hm:Has (fN K p m) w)(hw:K w)(om:∀w',Ext w w'->K w')(J:nL m):CR 16 [(.pointer (some ⟨p,0,none⟩))] w (λv w'=>mr (fW v (cT m)) w w'):=by
 obtain⟨a,E⟩:=fN.rd hm hw;have Rp:=E.b.cell (o:=8) rfl;have cm0:=E.b.cell (o:=0) rfl;have Rq:=E.b.cell (o:=1) rfl;have WU:=E.b.cell (o:=3) rfl;have OO:=E.b.cell (o:=9) rfl;have yq:=E.b.cell (o:=10) rfl;have zm:=E.b.cell (o:=11) rfl;have wz:=E.b.cell (o:=12) rfl;have vZ:=E.b.cell (o:=13) rfl;have sT:=E.b.cell (o:=14) rfl;have zR:=E.b.cell (o:=15) rfl;have B:=St.start w;refine amJ _ _ _ ?_;unfold S16;refine aD (aA rj (aU aV (sT.ext B.aE) (bQ (aC (λW=>?_) λW=>?_))))
 .have YJ:cT m=[]:=by unfold cT;rw[fV W]
  rw[YJ];exact B.BY.fresh
 refine aD (aA lE (aU tB (wz.ext B.aE) (aI ui (E.ll.ext B.aE) ?_)));have B:=B.BY (α:=dY);refine⟨λI o x O=>∃k:Nat,x=jK (k:Int)/\I=a.ps.length-k/\k<=a.ps.length/\St w aY [fW o (kf m k)] O,⟨_,0,rfl,rfl,o6 _,B⟩,?_⟩;rintro I iW _ O ⟨k,rfl,rfl,hk,B⟩ _;refine aK (aC (λgI=>?_) λgI=>?_)
 .obtain⟨adq,zn⟩:=gx a.ps (i:=(k:Int).toNat) cW;refine aQ ui E.ll cW zn (λ_ vx=>?_);obtain⟨t,ht⟩:∃t,m.l[k]?=some t:=⟨_,nT (by have:=E.len;omega)⟩;have wQ:=ld ht;have zV:=(J.th t wQ).bl;have uf:=tU J k;have GG:=FK t.buf;have Da:=E.len;have Pr:=J.tl;refine aF Dy (vx.ext B.aE) ⟨λo w'=>St w aY [fW o (kf m k++(if zi m t=true then [(⟨1,(k:Int),0,[]⟩:dY)]else []))] w',aZ aBO B (C56 K p m adq.b t _ (hm.ext B.aE) (om _ B.aE) (λ_ e=>om _ (Ext.trans B.aE e)) J ((E.th k _ _ zn ht).ext B.aE) wQ) (λw2 he B=>aW (λfX=>?_) λfX=>?_),?_⟩
  .refine pop (E9 _ _) (have B:=B.iK (Φ:=(λw=>py w (⟨1,(k:Int),0,bL⟩:dN) (⟨1,(k:Int),0,[]⟩:dY))) (λ_=>⟨_,rfl,DL.nil _⟩);fG (s:=(⟨1,(k:Int),0,bL⟩:dN)) (x:=(⟨1,(k:Int),0,[]⟩:dY)) B mq dO λalj _ B=>have B:=B.p1;eB B mq (by simp;omega) dO λWX _ B=>?_);rw[fX,fV rfl];exact B
  .rw[fX,fU dO,r6];exact B
  intro mn _ B _;obtain⟨bp,gl,rg,cn,_,V,hB,AM,Rl⟩:=fO.rd (E.th k _ _ zn ht);have ct0:=V.cell (o:=0) rfl;have ct5:=V.cell (o:=5) rfl;have Mh:=V.cell (o:=6) rfl;refine aD (aA pL (aU vm (ct0.ext B.aE) (dF aBP B (C57 bp _ _ _ (hB.ext B.aE) cW) λU _ cJ B=>?_)));have hxx:=trivial;refine aI cE B.fu ?_;have B:=B.p1.p1;refine⟨λI o x O=>∃j:Nat,x=jK (j:Int)/\I=(vR t.buf).length-j/\j<=(vR t.buf).length/\St w aY [bE U (vR t.buf),fW o ((kf m k++(if zi m t=true then [(⟨1,(k:Int),0,[]⟩:dY)]else []))++((vR t.buf).take j).map λi=>(⟨2,(k:Int),i,[]⟩:dY))] O,⟨_,0,rfl,rfl,o6 _,by simpa using B⟩,?_⟩
  rintro I Cu _ _ ⟨j,rfl,rfl,hj,B⟩ _;refine aK (aC (λpW=>?_) λpW=>?_)
  .obtain⟨M,qA⟩:=gx (vR t.buf) (i:=(j:Int).toNat) cW;refine cH B cE cW cW (λ_ tL=>eK B aV tL qA (pop (F6 _ _ _) (have B:=B.iK (Φ:=(λw=>py w (⟨2,(k:Int),M,bL⟩:dN) (⟨2,(k:Int),M,[]⟩:dY))) (λ_=>⟨_,rfl,DL.nil _⟩);fG (s:=(⟨2,(k:Int),M,bL⟩:dN)) (x:=(⟨2,(k:Int),M,[]⟩:dY)) B mq dO λalE _ B=>have B:=B.p2;eB B mq (by simp only[n0,qE,oj,n6];split<;>simp<;>omega) dO λawZ _ B=>aN cW ?_)))
   have B:=B.p1;refine⟨_,cW,j+1,rfl,rfl,cW,?_⟩;rw[qF,jb (k:=j) qA]at B;exact B
  refine aN cW ?_;have B:=B.drop;refine⟨_,cW,k+1,rfl,rfl,cW,?_⟩;rw[zj ht];unfold sS;rw[mE cW,qF]at B;exact B
 have YJ:cT m=kf m a.ps.length:=by unfold cT;rw[fU W,E.len]
 rw[YJ,show a.ps.length=k from cW];exact B.fresh
def C31(K:jj)(p:Nat)(m:gQ)(w:World)(hm:Has (fN K p m) w)(hw:K w)(om:∀w',Ext w w'->K w')(iS:nL m)(hb:MB m.mem 1000000)(hC:(dD (r7 m.mem)).length<=1000000000):CR 31 [(.pointer (some ⟨p,0,none⟩))] w (λv w'=>mr (fW v (jC m)) w w'):=by
 obtain⟨a,E⟩:=fN.rd hm hw;have Rp:=E.b.cell (o:=8) rfl;have cm0:=E.b.cell (o:=0) rfl;have Rq:=E.b.cell (o:=1) rfl;have WU:=E.b.cell (o:=3) rfl;have OO:=E.b.cell (o:=9) rfl;have yq:=E.b.cell (o:=10) rfl;have zm:=E.b.cell (o:=11) rfl;have wz:=E.b.cell (o:=12) rfl;have vZ:=E.b.cell (o:=13) rfl;have sT:=E.b.cell (o:=14) rfl;have zR:=E.b.cell (o:=15) rfl;have B:=St.start w;refine lx Tryz.func31 ?_;refine aD (aA rj (aU aV (sT.ext B.aE) (bQ (aC (λO=>?_) λO=>?_))))
 .have M:jC m=[]:=by unfold jC;rw[fV O]
  rw[M];exact B.BY.fresh
 refine aD (aA l8 (aU wF (yq.ext B.aE) (eR aB7 (C82 a.q m.mem _ (E.mem.ext B.aE) iS.mem hb hC) ?_)));rintro J W cJ;have B:=B.made cJ;obtain⟨I,B⟩:=B.wK;have Nz:=B.Tb;have hdl:=El (rV m.mem) (dD (r7 m.mem));have Ri:(vX m.mem).length=(Ej (rV m.mem) (dD (r7 m.mem))).1.length:=rfl;refine aI nd B.fu ?_;have B:=(((B.gA (α:=dN)).p2).p2).p2;refine⟨λU o x W=>∃k:Nat,x=jK (k:Int)/\U=I.length-k/\k<=I.length/\St w aY [bE o ((I.take k).map pk3),bE J I,fB (jF I (vX m.mem))] W,⟨_,0,rfl,rfl,o6 _,B⟩,?_⟩;rintro U iW _ _ ⟨k,rfl,rfl,hk,B⟩ _
 refine aK (aC (λg9=>?_) λg9=>?_)
 .obtain⟨iO,V⟩:=gx I (i:=(k:Int).toNat) cW;refine cH B.p1 nd cW cW (λ_ jS=>eK B.p1 cZ jS V (pop (v:=j6 (pk3 iO)) (Fa _ _ _ _) (bJ ([pk3 iO]) B mq rfl rfl (dV rfl) λaxi _ B=>?_)));have qz:=B.fu;exact bW B.p1 mq qz (by simp;omega) dO (λ_ _ B=>have B:=B.p1.drop;aN cW (have B:=B.p2.p2.p2;⟨_,cW,k+1,rfl,rfl,cW,by rw[<- jb (k:=k) V];exact B⟩))
 have B:=B.p1.drop.p1;have M:jC m=(vX m.mem).map λc=>(⟨3,0,0,c⟩:dY):=by unfold jC;rw[fU O]
 rw[mE cW]at B;rw[M];exact(St.An (B.dT λ_ h=>WW h).p1).fresh
def C59(cv:Value)(cut:List Int)(w:World)(O:eN (λ_=>True) w cv cut)(W:cut.length<=1000000):CR 59 [cv] w (λv w'=>v=jK (wR cut cut.length)/\Ext w w'):=by
 have B:=St.start w;refine am5 _ _ _ ?_;unfold S59;refine aI cE (O.ext B.aE) ?_;refine⟨λJ n x M=>∃k:Nat,n=jK (wR cut k)/\x=jK (k:Int)/\J=cut.length-k/\k<=cut.length/\St w aY [] M,⟨_,0,rfl,rfl,rfl,o6 _,B⟩,?_⟩;rintro J _ _ M ⟨k,rfl,rfl,rfl,hk,B⟩ _;refine aK (aC (λV=>?_) λ_=>⟨by rw[show cut.length=k from cW],B.aE⟩);obtain⟨I,E⟩:=gx cut (i:=(k:Int).toNat) cW;exact aQ cE O cW E (λ_ U=>aF aV (U.ext B.aE) (Am (DF (aN cW ⟨_,cW,k+1,by rw[JY (k:=k) E],rfl,rfl,cW,B⟩))))
def C60(q x:dY)(qv:dN)(b:Nat)(xv:dN)(w:World)(hq:py w qv q)(E:At (λ_=>True) w (.pointer (some ⟨b,0,none⟩)) xv)(M:py w xv x):CR 60 [j6 qv,(.pointer (some ⟨b,0,none⟩))] w (λv w'=>v=.bool (jo x q)/\Ext w w'):=by
 obtain⟨WY,rfl,aiK⟩:=hq;obtain⟨U,rfl,I⟩:=M;have B:=St.start w;refine lx Tryz.func60 ?_;refine cU B (λJ _ B=>⟨λjv w'=>jv=.bool (jo x q)/\St w aY [cI J (kp (⟨q.kind,q.t,q.i,WY⟩:dN))] w',?_,?_⟩)
 .refine aA nV (aB (v:=jK q.kind) aV B.hb rfl (bO x.kind nV E rfl rfl λ_ V=>aF aV (V.ext B.aE) (aH (aC (λjr=>aA jw (aB (v:=jK q.t) aV B.hb rfl (bO x.t jw E rfl rfl λ_ O=>aF aV (O.ext B.aE) (aH (aC (λkn=>aA rh (aB (v:=jK q.i) aV B.hb rfl (bO x.i rh E rfl rfl λ_ jS=>aF aV (jS.ext B.aE) (aH (aC (λiM=>?_) λ_=>⟨vb (by unfold jo;first|(simp_all;done)|grind),B⟩))))) λ_=>⟨vb (by unfold jo;first|(simp_all;done)|grind),B⟩))))) λ_=>⟨vb (by unfold jo;first|(simp_all;done)|grind),B⟩))))
  refine bO U qh E rfl rfl (λ_ vz=>aF cZ (vz.ext B.aE) ?_);have W:=DL.flat I;exact aI cE (W.ext B.aE) (aH ⟨vb (by unfold jo;first|(simp_all;done)|grind),B⟩)
 rintro _ _ ⟨rfl,B⟩ _;exact⟨rfl,B.drop.aE⟩
def C126(sv fv:Value)(xs:List dY)(φ:dY->Prop)(g:dY->Bool)(w:World)(hL:DL w sv xs)(hf:rz ji w fv φ g)(hφ:∀x∈xs,φ x)(hn:xs.length<=1073741824):CR 126 [sv,fv] w (λv w'=>v=jK (yO g xs)/\Ext w w'):=by
 obtain⟨g0,first,cap,rfl,uf,oo⟩:=hf;have B:=St.start w;refine lx Tryz.func126 ?_;obtain⟨U,E,I⟩:=hL.open;have O:=I.1;refine aI mq (E.ext B.aE) ?_;refine⟨λm x V=>∃k:Nat,x=jK (k:Int)/\m=xs.length-k/\k<=xs.length/\(∀y∈xs.take k,g y=false)/\St w aY [] V,⟨_,0,rfl,rfl,o6 _,eU,B⟩,?_⟩;rintro m _ V ⟨k,rfl,rfl,hk,J,B⟩ _;refine aK (aC (λkG=>?_) λ_=>⟨hM (qs .i64) (mU (by rw[mE cW]at J;exact J)).symm,B.aE⟩);obtain⟨jm,cP⟩:=gx U (i:=(k:Int).toNat) cW;obtain⟨Gn,M⟩:=gx xs (i:=(k:Int).toNat) cW
 obtain⟨YK,rfl,YL⟩:=I.2 _ _ _ cP M;refine aQ mq E cW cP (λ_ kr=>aF ot (kr.ext B.aE) (iH uf (oo _ Gn V B.aE ⟨YK,rfl,(YL.ext B.aE)⟩ (hφ _ (ld M))) ?_));rintro _ _ ⟨rfl,he⟩;have B:=B.ext he;exact aW (λW=>⟨hM (qs .i64) (ti J M W).symm,B.aE⟩) (λW=>aN cW ⟨_,cW,k+1,rfl,rfl,cW,eY J M W,B⟩)
def C61(E fv:Value)(xs:List dY)(φ:dY->Prop)(g:dY->Bool)(w:World)(M:DL w E xs)(J:rz ji w fv φ g)(I:∀x∈xs,φ x)(O:xs.length<=1073741824):CR 61 [E,fv] w (λv w'=>v=.bool (xs.any g)/\Ext w w'):=by
 have B:=St.start w;refine lx Tryz.func61 ?_;exact aZ ath B (C126 _ _ _ _ _ _ (M.ext B.aE) (J.ext B.aE) I cW) (λ_ _ B=>cN ⟨vb (rA _ _),B.aE⟩)
def C22(K:jj)(p:Nat)(m:gQ)(w:World)(J:Has (fN K p m) w)(M:K w)(om:∀w',Ext w w'->K w')(I:nL m):CR 22 [(.pointer (some ⟨p,0,none⟩))] w (λv w'=>mr (bE v m.mem.l) w w'):=by
 obtain⟨a,B⟩:=fN.rd J M;have Rp:=B.b.cell (o:=8) rfl;have U:=B.b.cell (o:=0) rfl;have Rq:=B.b.cell (o:=1) rfl;have W:=B.b.cell (o:=3) rfl;have OO:=B.b.cell (o:=9) rfl;have O:=B.b.cell (o:=10) rfl;have V:=B.b.cell (o:=11) rfl;have wz:=B.b.cell (o:=12) rfl;have vZ:=B.b.cell (o:=13) rfl;have sT:=B.b.cell (o:=14) rfl;have zR:=B.b.cell (o:=15) rfl;have E:=St.start w;refine lx Tryz.func22 ?_;exact aD (aA l8 (aU wF (O.ext E.aE) (dF ane E (C72 a.q m.mem _ (B.mem.ext E.aE) I.mem) λ_ _ _ E=>E.fresh)))
def C23(K:jj)(p:Nat)(m:gQ)(w:World)(J:Has (fN K p m) w)(M:K w)(om:∀w',Ext w w'->K w')(I:nL m):CR 23 [(.pointer (some ⟨p,0,none⟩))] w (λv w'=>mr (bE v m.mem.kept) w w'):=by
 obtain⟨a,B⟩:=fN.rd J M;have Rp:=B.b.cell (o:=8) rfl;have U:=B.b.cell (o:=0) rfl;have Rq:=B.b.cell (o:=1) rfl;have W:=B.b.cell (o:=3) rfl;have OO:=B.b.cell (o:=9) rfl;have O:=B.b.cell (o:=10) rfl;have V:=B.b.cell (o:=11) rfl;have wz:=B.b.cell (o:=12) rfl;have vZ:=B.b.cell (o:=13) rfl;have sT:=B.b.cell (o:=14) rfl;have zR:=B.b.cell (o:=15) rfl;have E:=St.start w;refine lx Tryz.func23 ?_;exact aD (aA l8 (aU wF (O.ext E.aE) (dF aap E (C73 a.q m.mem _ (B.mem.ext E.aE) I.mem) λ_ _ _ E=>E.fresh)))
def C25(K:jj)(p:Nat)(m:gQ)(i:Int)(w:World)(hm:Has (fN K p m) w)(J:K w)(om:∀w',Ext w w'->K w')(O:nL m)(Mi:∀t∈m.l,t.aJ.length<=1000000):CR 25 [(.pointer (some ⟨p,0,none⟩)),jK i] w (λv w'=>mr (bE v (zG m i)) w w'):=by
 obtain⟨a,B⟩:=fN.rd hm J;have Rp:=B.b.cell (o:=8) rfl;have cm0:=B.b.cell (o:=0) rfl;have Rq:=B.b.cell (o:=1) rfl;have WU:=B.b.cell (o:=3) rfl;have OO:=B.b.cell (o:=9) rfl;have yq:=B.b.cell (o:=10) rfl;have zm:=B.b.cell (o:=11) rfl;have U:=B.b.cell (o:=12) rfl;have vZ:=B.b.cell (o:=13) rfl;have sT:=B.b.cell (o:=14) rfl;have zR:=B.b.cell (o:=15) rfl;have E:=St.start w;refine lx Tryz.func25 ?_;refine⟨λjv w'=>jv=.bool (decide (i<0\/a.ps.length<=i))/\w=w',aK (aC (λ_=>⟨Ky cW,rfl⟩) λ_=>aD (aA lE (aU tB (U.ext E.aE) (aI ui (B.ll.ext E.aE) (cN ⟨uS cW,rfl⟩))))),?_⟩
 rintro _ _ ⟨rfl,J⟩ _;subst J;refine aC (λj4=>?_) (λj4=>?_)
 .rw[Mf (by have:=B.len;omega)];exact(E.gA (α:=Int)).fresh
 refine aD (aA lE (aU tB (U.ext E.aE) ?_));obtain⟨adq,V⟩:=gx a.ps (i:=(i).toNat) cW;refine aQ ui B.ll cW V (λ_ vx=>aF Dy (vx.ext E.aE) ?_);obtain⟨t,ht⟩:∃t,m.l[i.toNat]?=some t:=⟨_,nT (by have:=B.len;omega)⟩;have zV:=(O.th t (ld ht)).bl;have axI:=(O.th t (ld ht)).rg;obtain⟨bp,gl,rg,cn,_,M,hB,AM,Rl⟩:=fO.rd (B.th i.toNat _ _ V ht);have W:=M.cell (o:=0) rfl;have I:=M.cell (o:=5) rfl;have Mh:=M.cell (o:=6) rfl;refine aD (aA tC (aU cZ (I.ext E.aE) (dF Dk E (C70 _ _ _ (AM.ext E.aE) (Mi t (ld ht))) λx26 _ cJ E=>?_)))
 rw[Rs cW ht];exact E.fresh
def C35(K:jj)(p:Nat)(m:gQ)(i:Int)(w:World)(hm:Has (fN K p m) w)(J:K w)(om:∀w',Ext w w'->K w')(O:nL m):CR 35 [(.pointer (some ⟨p,0,none⟩)),jK i] w (λv w'=>mr (bE v (Rr m i)) w w'):=by
 obtain⟨a,B⟩:=fN.rd hm J;have Rp:=B.b.cell (o:=8) rfl;have cm0:=B.b.cell (o:=0) rfl;have Rq:=B.b.cell (o:=1) rfl;have WU:=B.b.cell (o:=3) rfl;have OO:=B.b.cell (o:=9) rfl;have yq:=B.b.cell (o:=10) rfl;have zm:=B.b.cell (o:=11) rfl;have U:=B.b.cell (o:=12) rfl;have vZ:=B.b.cell (o:=13) rfl;have sT:=B.b.cell (o:=14) rfl;have zR:=B.b.cell (o:=15) rfl;have E:=St.start w;refine lx Tryz.func35 ?_;refine⟨λjv w'=>jv=.bool (decide (i<0\/a.ps.length<=i))/\w=w',aK (aC (λ_=>⟨Ky cW,rfl⟩) λ_=>aD (aA lE (aU tB (U.ext E.aE) (aI ui (B.ll.ext E.aE) (cN ⟨uS cW,rfl⟩))))),?_⟩
 rintro _ _ ⟨rfl,J⟩ _;subst J;refine aC (λj4=>?_) (λj4=>?_)
 .rw[Rt (by have:=B.len;omega)];exact(E.gA (α:=aX)).fresh
 refine aD (aA lE (aU tB (U.ext E.aE) ?_));obtain⟨adq,V⟩:=gx a.ps (i:=(i).toNat) cW;refine aQ ui B.ll cW V (λ_ vx=>aF Dy (vx.ext E.aE) ?_);obtain⟨t,ht⟩:∃t,m.l[i.toNat]?=some t:=⟨_,nT (by have:=B.len;omega)⟩;have zV:=(O.th t (ld ht)).bl;have axI:=(O.th t (ld ht)).rg;obtain⟨bp,gl,rg,cn,_,M,hB,AM,Rl⟩:=fO.rd (B.th i.toNat _ _ V ht);have I:=M.cell (o:=0) rfl;have ct5:=M.cell (o:=5) rfl;have Mh:=M.cell (o:=6) rfl;refine aD (aA pL (aU vm (I.ext E.aE) (dF anB E (C91 bp _ _ _ (hB.ext E.aE) cW) λW _ cJ E=>?_)))
 rw[WV cW ht];exact E.fresh
end Go.Proofs.YtnjcingfdhjfkaaGreat
