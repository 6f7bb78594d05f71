/-
  Part 7.
-/
import Derived.Test.YtpdlpabnlkofmaaGreatDoorR10x6
set_option maxHeartbeats 8000000
set_option linter.all false
set_option maxRecDepth 100000
open Go.Fw.Flat renaming val->hM,enc->ia
open List renaming getElem?_eq_some_iff->ir,mem_of_getElem?->j0,take_of_length_le->kp,getElem?_eq_getElem->kE,length_append->kH,length_singleton->lH,length_take->lQ,length_map->mv,getElem?_eq_none->mC,append_assoc->mX,getD_eq_getElem?_getD->n0,mem_map->n4,length_cons->n5,mem_cons_self->ob,getElem?_map->og,mem_append->oi,append_nil->oj,length_drop->pd,replicate->po,drop_eq_nil_of_le->pC,length_eq_zero_iff->qa,drop_eq_getElem_cons->qH,drop_drop->sm,mem_singleton->sM,getElem?_append_left->s4,take_add_one->tK,mem_of_mem_take->uS,map_append->u1,any_eq_true->u4,range->v7,ext_getElem?->wx,nil_append->x6,filter_append->yf,map_congr_left->yX,getElem?_set_self->AS,length_replicate->Ce,drop_left->DB,getElem?_set_ne->E6,length_set->FX,getElem?_range->Gj,map_map->GG,take_left->L3,length_range->Po,filter_filter->R3,drop_take->XH,replicate_succ'->Zp,filter->abx
open Nat renaming zero_le->kO,le_trans->tx,mul_le_mul_right->zC,lt_or_ge->O7,not_lt_zero->U2
open Go.Instr renaming build->l0
open Go.Value renaming int->mn,tuple->Be
open Go.Fw.Deep renaming dr->mL
open Option renaming some->n3,toList_some->IU,isSome_iff_exists->MV
open Int renaming toNat_natCast->o6
open Decidable renaming not_not->u3
namespace Go.Proofs.YtpdlpabnlkofmaaGreatDoor
open Go.Fw
theorem xp.ext{w w':World}{p:Nat}{m:Mem}(h:xp w p m)(e:Ext w w'):xp w' p m:=by
 obtain⟨ov,fv,lv,kv,wv,ws,h1,h2,h3,h4,h5,h6,u⟩:=h.ex
 exact⟨ov,fv,lv,kv,wv,ws,h1,h2.of_eq (e.bZ _ h2.lt λx=>x),h3.ext e,h4.ext e,h5.ext e,h6.ext e,u.ext e⟩
def NL{w:World}{p:Nat}{m:Mem}{ov fv lv kv wv:Value}{ws:List mK}(h1:pb ws m)(h2:qx w p [ov,fv,lv,kv,wv])(h3:dz (λ_=>True) w ov m.of)(h4:dz (λ_=>True) w fv m.dY)
  (h5:dz (λ_=>True) w lv m.l) (h6:dz (λ_=>True) w kv m.kept) (u:dz (λ_=>True) w wv ws):xp w p m:=⟨ov,fv,lv,kv,wv,ws,h1,h2,h3,h4,h5,h6,u⟩
section
variable {ws:List mK}{m:Mem}{x:mK}{L:Nat}
theorem rz(E:pb ws m)(u:uR m)(B:x∈ws):0<=x.line/\x.line<fR m.of/\0<=x.cell/\x.cell<m.of.length:=by
 obtain⟨G,h1⟩:=E.2 x B
 have h2:=u.ofr _ (j0 h1)
 grind
theorem HV(f:mK->Bool):∀l:List mK,l.length=(l.filter f).length+(l.filter λx=>!f x).length
 | []=>rfl
 | x::l=>by
  have u:=HV f l
  grind
theorem NM(N:Nat):∀(L:Nat) (ws:List mK),(∀x∈ws,0<=x.line/\x.line<L)->(∀n:Int,(ws.filter λx=>decide (x.line=n)).length<=N)->ws.length<=L*N
 | 0,ws,h,_=>by
  cases ws with
  | nil=>simp
  | cons x r=>have:=h x (ob ..);omega
 | L+1,ws,h,u=>by
  have E:=NM N L (ws.filter λx=>!decide (x.line=(L:Int))) (λx B=>by
   grind) (λn=>by
   refine tx ?_ (u n)
   have e:∀p q:mK->Bool,(ws.filter q).filter p=(ws.filter p).filter q:=λp q=>by
    rw[R3,R3]
    grind
   grind)
  have e:=HV (λx=>decide (x.line=(L:Int))) ws
  have:=u L
  grind
theorem Bc{N:Nat}(B:pb ws m)(u:uR m)(hb:MB m N):ws.length<=20*N:=by
 have h1:=NM N (fR m.of).toNat ws (λx E=>by have:=rz B u E;omega) λn=>by
  have:=hb n
  rw[B.1,mv]at this
  exact this
 have:=u.lb
 exact tx h1 (zC _ bL)
def zG(ws:List mK)(L:Nat):List Int:=(v7 L).map fun (i:Nat)=>(((ws.filter λx=>decide (x.line=(i:Int))).length:Nat):Int)
theorem xq:(zG ws L).length=L:=by simp[zG]
theorem aaC(L:Nat):po L (0:Int)=zG [] L:=by
 unfold zG
 simp[List.map_const']
theorem DG{i:Nat}(h:i<L):(zG ws L)[i]?=some (((ws.filter λx=>decide (x.line=(i:Int))).length:Nat):Int):=by
 unfold zG;rw[og,Gj h];rfl
theorem alg{i:Nat}{e:Int}(h:(zG ws L)[i]?=some e):0<=e/\e<=ws.length:=by
 have hi:i<L:=by have:=(ir.1 h).1;rwa [xq]at this
 rw[DG hi]at h
 grind
theorem Vo{k:Nat}{e:Int}(E:ws[k]?=some x)(G:0<=x.line)(h1:x.line<L)(B:(zG (ws.take k) L)[x.line.toNat]?=some e) :
  (zG (ws.take k) L).set x.line.toNat (e+1)=zG (ws.take (k+1)) L:=by
 have ht:ws.take (k+1)=ws.take k++[x]:=by rw[tK,E];rfl
 apply wx
 intro i
 by_cases hi:i<L
 .rw[DG hi,ht,yf,kH]
  by_cases u:i=x.line.toNat
  .subst u
   rw[AS (by rw[xq];exact hi)]
   rw[DG hi]at B
   have I:([x].filter λx=>decide (x.line=((x.line.toNat:Nat):Int)))=[x]:=by
    have:((x.line.toNat:Nat):Int)=x.line:=bL
    simp[abx,this]
   have:((x.line.toNat:Nat):Int)=x.line:=bL
   simp only[this]at B |-
   simp only[n3.injEq]at B
   simp[abx,B]
  rw[E6 (Ne.symm u),DG hi]
  have:¬ x.line=(i:Int):=bL
  simp[abx,this]
 rw[mC (by rw[FX,xq];omega),mC (by rw[xq];omega)]
def tE(m:Mem):List Int:=(vT m).map fun (k:Nat)=>(k:Int)
theorem aaD(u:pb ws m):zG ws (fR m.of).toNat=tE m:=by
 unfold zG tE vT Fi
 rw[GG]
 refine yX λi _=>?_
 simp[u.1]
theorem HW:(tE m).length=(fR m.of).toNat:=by unfold tE;rw[mv,Dt]
end
section
variable {ws:List mK}{m:Mem}{x:mK}
theorem QT{cell n u:Int}{l:List Int}(B:pb ws m)(G:0<=cell)(h1:m.of[cell.toNat]?=some u) :
  pb (ws++[⟨u,cell,n⟩]) {m with l:=l,fC:=px m.fC u (m.fC u++[⟨cell,n⟩])}:=by
 refine⟨λk=>?_,λx E=>?_⟩
 .show px m.fC u (m.fC u++[⟨cell,n⟩]) k=_
  rw[yf,u1,<- B.1]
  unfold px
  grind
 rcases oi.1 E with h|h
 .exact B.2 x h
 grind
def nR(line:Int)(ws:List mK):List j4:=(ws.filter λx=>decide (x.line=line)).map λx=>⟨x.cell,x.n⟩
def C4(line:Int)(ws:List mK):List mK:=ws.filter λx=>!decide (x.line=line)
theorem aaE{k:Nat}{line:Int}(h:ws[k]?=some x)(u:x.line=line):nR line (ws.take (k+1))=nR line (ws.take k)++[⟨x.cell,x.n⟩]:=by
 unfold nR;rw[tK,h,IU,yf,u1];grind
theorem ae3{k:Nat}{line:Int}(h:ws[k]?=some x)(u:¬ x.line=line):nR line (ws.take (k+1))=nR line (ws.take k):=by
 unfold nR;rw[tK,h,IU,yf,u1];grind
theorem aaF{k:Nat}{line:Int}(h:ws[k]?=some x)(u:x.line=line):C4 line (ws.take (k+1))=C4 line (ws.take k):=by
 unfold C4;rw[tK,h,IU,yf];grind
theorem ae4{k:Nat}{line:Int}(h:ws[k]?=some x)(u:¬ x.line=line):C4 line (ws.take (k+1))=C4 line (ws.take k)++[x]:=by
 unfold C4;rw[tK,h,IU,yf];grind
theorem aaG{k:Nat}{line:Int}:(C4 line (ws.take k)).length<=ws.length:=tx (List.length_filter_le ..) cH
theorem aaH{line:Int}{G:List Int}(u:pb ws m):pb (C4 line ws) {m with kept:=G,fC:=px m.fC line []}:=by
 refine⟨λk=>?_,λx E=>u.2 x (List.mem_filter.1 E).1⟩
 show px m.fC line [] k=_
 unfold px C4
 rw[R3]
 by_cases B:k=line
 .simp_all
 rw[eb B,u.1]
 grind
theorem HX(u:pb ws m)(line:Int):nR line ws=m.fC line:=(u.1 line).symm
end
def alh{k:List Int}{a:List j4}:(nA k a).length=k.length:=wX a k
def C77(p:Nat)(m:Mem)(w:World)(M:xp w p m)(B:uR m):CR 77 [(.pointer (some ⟨p,0,none⟩))] w (λv w'=>v=hH (fR m.of)/\Ext w w'):=by
 have Hn:=M;obtain⟨ov,fv,lv,kv,wv,ws,jY,G,E,U,Y,Vp,W⟩:=M.ex;have I:=G.cell (o:=0) rfl;have q1:=G.cell (o:=1) rfl;have q2:=G.cell (o:=2) rfl;have q3:=G.cell (o:=3) rfl;have q4:=G.cell (o:=4) rfl;have J7:=B.fl;have I4:=B.J6;have Z:=B.ll;have Ep:=B.kl;have Ly:=B.lb;have F3:=mM B;have u:=St.start w;refine pJ Tryz.func77 (pl:=P77) ?_;refine aD (aA ug (bU eP (I.ext u.aF) (aH cQ (E.ext u.aF) (aG (aC (λ_=>⟨ez (mn .i64) (by unfold fR;rw[ee bL]),u.aF⟩) λfN=>aD (aA ug (have u:=u.drew;bU eP (I.ext u.aF) (aD (aA ug (bU eP (I.ext u.aF) (aH cQ (E.ext u.aF) (fk bL ?_))))))))))))
 obtain⟨lP,J⟩:=gx m.of (i:=((m.of.length:Int)-1).toNat) bL;refine aM cQ E bL J (λ_ V=>aE bO (V.ext u.aF) ?_);have O:=B.ofr _ (j0 J);exact aJ bL ⟨ez (mn .i64) (by unfold fR;rw[eb bL,n0,show m.of.length-1=((m.of.length:Int)-1).toNat from bL,J];rfl),u.aF⟩
def C17(p:Nat)(m:Mem)(w:World)(W:xp w p m)(B:uR m)(hb:MB m 1000000):CR 17 [(.pointer (some ⟨p,0,none⟩))] w (λv w'=>kZ (bF v (tE m)) w w'):=by
 have Hn:=W;obtain⟨ov,fv,lv,kv,wv,ws,J,G,hmo,hmf,KH,Vp,E⟩:=W.ex;have q0:=G.cell (o:=0) rfl;have q1:=G.cell (o:=1) rfl;have q2:=G.cell (o:=2) rfl;have q3:=G.cell (o:=3) rfl;have Z:=G.cell (o:=4) rfl;have J7:=B.fl;have I4:=B.J6;have BG:=B.ll;have Ep:=B.kl;have Ly:=B.lb;have F3:=mM B;have hwl:=Bc J B hb;have u:=St.start w;refine eU Tryz.func17 ?_;refine aS amY u (C77 _ m _ (Hn.ext u.aF) B) (λU he u=>v9 (0:Int) u cQ ue bL bL cZ λI _ u=>?_);refine⟨λV x U=>∃k:Nat,x=hH (k:Int)/\V=ws.length-k/\k<=ws.length/\St w aY [bF I (zG (ws.take k) (fR m.of).toNat)] U,⟨_,0,rfl,rfl,kO _,by rw[aaC]at u;exact u⟩,?_⟩
 rintro V _ _ ⟨k,rfl,rfl,hkw,u⟩ _;refine aD (aA ku (bU sY (Z.ext u.aF) (aH sZ (E.ext u.aF) (aO (aC (λjd=>?_) λjd=>?_)))))
 .refine aD (aA ku (bU sY (Z.ext u.aF) ?_));obtain⟨Y,M⟩:=gx ws (i:=(k:Int).toNat) bL;refine aM sZ E bL M (λ_ qh=>bW Y.line wi qh rfl rfl λ_ Ax=>aE bO (Ax.ext u.aF) ?_);have oy:=rz J B (j0 M);have EO:(zG (ws.take k) (fR m.of).toNat).length=(fR m.of).toNat:=xq;obtain⟨qK,O⟩:=gx (zG (ws.take k) (fR m.of).toNat) (i:=Y.line.toNat) bL;refine dJ u cQ bL bL (λ_ mf=>fV u bO mf O ?_);have hcb:=alg O;have Hb:(ws.take k).length<=ws.length:=by rw[lQ];omega
  refine aJ bL (dJ u cQ bL bL λ_ qM=>jj _ u bO qM bL λ_ u=>aJ bL ?_);exact⟨_,bL,k+1,rfl,rfl,bL,by rw[<- Vo (k:=k) M oy.1 bL O];exact u⟩
 .rw[kp bL,aaD J]at u;exact u.fresh
def C166(p:Nat)(m:Mem)(F:Nat->Prop)(cell n:Int)(w:World)(W:(gm p m).p w F)(E:uR m)(hb:MB m 1000000):CR 166 [(.pointer (some ⟨p,0,none⟩)),hH cell,hH n] w (λv w'=>v=hH (if Gk m cell=true then 0 else 1)/\mH F (gm p (fe m cell n)) w w'):=by
 have u:=St.begin W;obtain⟨ov,fv,lv,kv,wv,ws,I,u⟩:=gm.open u;have J7:=E.fl;have I4:=E.J6;have BG:=E.ll;have Ep:=E.kl;have Ly:=E.lb;have F3:=mM E;have Y:=Bc I E hb;refine pJ Tryz.func166 (pl:=avc) ?_;refine⟨λV w'=>V=.bool (decide (cell<0\/m.l.length<=cell))/\w=w',aO (aC (λ_=>⟨Ko bL,rfl⟩) λ_=>aD (aA wh (aB eP u.hb rfl (aH cQ u.p3.dQ (cR ⟨xB bL,rfl⟩))))),?_⟩;rintro _ _ ⟨rfl,U⟩ _;subst U;refine aC (λZ=>?_) (λZ=>?_)
 .have u:=u.p5.p5.p5.p5.p5.p5;have G:Gk m cell=false:=by unfold Gk;rw[decide_eq_false_iff_not];omega
  unfold fe;rw[G];exact⟨rfl,(gm.shut I u).mut⟩
 have G:Gk m cell=true:=by unfold Gk;rw[decide_eq_true_eq];omega
 refine aD (aA wh (aB eP u.hb rfl ?_));obtain⟨iH,mc⟩:=gx m.l (i:=cell.toNat) bL;refine dJ u.p3 cQ bL bL (λ_ Ax=>jj _ u.p3 bO Ax bL λ_ u=>⟨λw'=>St w F [gm p (fe m cell n)] w',aD (aA ug (aB eP u.p1.hb rfl (aH cQ u.p2.dQ (aO (aC (λlO=>?_) λlO=>?_))))),?_⟩)
 .refine aD (aA ku (have u:=u.drew;aB sY u.p1.hb rfl (aD (aA ug (aB eP u.p1.hb rfl ?_)))));obtain⟨J,M⟩:=gx m.of (i:=cell.toNat) bL;refine dJ u.p2 cQ bL bL (λ_ Nj=>fV u.p2 bO Nj M (pop (IL _ _ _) (aW ([(⟨J,cell,n⟩:mK)]) u sZ rfl rfl (dM rfl) λaq6 _ u=>?_)));refine⟨aI sY (u.p2.hb.cell rfl),?_⟩;have O:=u.dQ;refine bJ u.p6 sZ O (by simp;omega) cZ (λaq7 _ u=>have u:=u.p1.drop;aD (aA ku (aV u.p2 sY (dM rfl) u.dQ.one λ_ u=>?_)))
  have u:=u.p5.p2.p3.p5.p5.p5.p4.p5.p5.p5.p5.p5;have B:fe m cell n={m with l:=m.l.set cell.toNat n,fC:=px m.fC J (m.fC J++[⟨cell,n⟩])}:=by unfold fe;rw[ee G,ee bL,n0,M];rfl
  rw[B];exact gm.shut (m:={m with l:=_,fC:=_}) (QT I bL M) u
 .have u:=u.p5.p5.p2.p5.p5.p5;have B:fe m cell n={m with l:=m.l.set cell.toNat n}:=by unfold fe;rw[ee G,eb bL]
  rw[B];exact gm.shut (m:={m with l:=_}) I u
 intro _ u _;exact⟨by rw[G];rfl,u.mut⟩
def C167(p:Nat)(m:Mem)(F:Nat->Prop)(line:Int)(w:World)(hF:(gm p m).p w F)(B:uR m)(hb:MB m 1000000):CR 167 [(.pointer (some ⟨p,0,none⟩)),hH line] w (λv w'=>v=hH (if Ff m line=true then 0 else 1)/\mH F (gm p (nQ m line)) w w'):=by
 have u:=St.begin hF;obtain⟨ov,fv,lv,kv,wv,ws,G,u⟩:=gm.open u;have J7:=B.fl;have I4:=B.J6;have BG:=B.ll;have Ep:=B.kl;have Ly:=B.lb;have F3:=mM B;have hwl:=Bc G B hb;refine pJ Tryz.func167 (pl:=avd) ?_;refine⟨λZ w'=>Z=.bool (decide (line<0\/fR m.of<=line))/\St w F [bZ p [ov,fv,lv,kv,wv],bF ov m.of,bF fv m.dY,bF lv m.l,bF kv m.kept,bF wv ws] w',aO (aC (λ_=>⟨vb (by first|exact(ei bL).symm|exact ew.2 bL),u⟩) λ_=>aS amY u (C77 _ m _ (NL G u.hb u.p1.dQ u.p2.dQ u.p3.dQ u.p4.dQ u.p5.dQ) B) λ_ _ u=>cR ⟨vb (by first|exact(ei bL).symm|exact ew.2 bL),u⟩),?_⟩
 rintro _ _ ⟨rfl,u⟩ _;refine aC (λjC=>?_) (λjC=>?_)
 .have u:=u.p5.p5.p5.p5.p5.p5;have M:Ff m line=false:=by unfold Ff;rw[decide_eq_false_iff_not];omega
  unfold nQ;rw[M];exact⟨rfl,(gm.shut G u).mut⟩
 refine aW ([]:List mK) u sZ rfl rfl (dM rfl) (λahu _ u=>?_);have u:=u.p6.p6.p6.p6.p6.p6.p6;refine⟨λV o x Y=>∃k:Nat,x=hH (k:Int)/\V=ws.length-k/\k<=ws.length/\St w F [bF o (C4 line (ws.take k)),bZ p [ov,fv,lv,kv,wv],bF ov m.of,bF fv m.dY,bF lv m.l,bF kv (nA m.kept (nR line (ws.take k))),bF wv ws] Y,⟨_,0,rfl,rfl,kO _,u⟩,?_⟩;rintro V l5 _ _ ⟨k,rfl,rfl,hkw,u⟩ _;refine aD (aA ku (aB sY u.p1.hb rfl (aH sZ u.p6.dQ (aO (aC (λik=>⟨λo w'=>St w F [bF o (C4 line (ws.take (k+1))),bZ p [ov,fv,lv,kv,wv],bF ov m.of,bF fv m.dY,bF lv m.l,bF kv (nA m.kept (nR line (ws.take (k+1)))),bF wv ws] w',?_,?_⟩) λik=>?_)))))
 .refine aD (aA ku (aB sY u.p1.hb rfl ?_));obtain⟨J,E⟩:=gx ws (i:=(k:Int).toNat) bL;refine dJ u.p6 sZ bL bL (λ_ mf=>l8 wi mf λ_ ux=>nt J.line u.p6 bO ux E rfl (aG (aC (λI=>?_) λI=>?_)))
  .refine aD (aA Ac (have u:=u.drew;aB eP u.p1.hb rfl (aD (aA ku (aB sY u.p1.hb rfl (dJ u.p6 sZ bL bL λ_ wW=>l8 KT wW λ_ Lz=>nt J.cell u.p6 bO Lz E rfl (aD (aA ku (aB sY u.p1.hb rfl (dJ u.p6 sZ bL bL λ_ Ym=>?_))))))))));refine l8 KU Ym (λ_ O=>nt J.n u.p6 bO O E rfl ?_);have oy:=rz G B (j0 E);have Xw:(nA m.kept (nR line (ws.take k))).length=m.kept.length:=alh;obtain⟨Xh,OT⟩:=gx (nA m.kept (nR line (ws.take k))) (i:=J.cell.toNat) bL
   refine dJ u.p5 cQ bL bL (λ_ Ay=>jj _ u.p5 bO Ay bL λ_ u=>?_);have u:=u.p6.p1.p6.p6.p6.p6.p6;rw[aaF (k:=k) E I,aaE (k:=k) E I,B3];exact u
  refine aD (aA ku (aB sY u.p1.hb rfl (dJ u.p6 sZ bL bL λ_ Mj=>fV u.p6 WC Mj E (aW ([J]) u sZ rfl rfl (dM rfl) λar0 _ u=>?_))));have TO:(C4 line (ws.take k)).length<=ws.length:=aaG;have U:=u.dQ;refine bJ u.p1 sZ U (by simp;omega) cZ (λar1 _ u=>?_);have u:=u.p1.drop.p6.p6.p6.p6.p6.p6.p6;rw[ae4 (k:=k) E I,ae3 (k:=k) E I];exact u
 .rintro W _ u _;exact aJ bL (have u:=u.p6.p6.p6.p6.p6.p6.p6;⟨_,bL,k+1,rfl,rfl,bL,u⟩)
 refine aD (aA ku (aV u.p1 sY (dM rfl) u.dQ.one λ_ u=>?_));have u:=u.p6.drop.p1.p5.p5.p5.p5.p5;have M:Ff m line=true:=by unfold Ff;rw[decide_eq_true_eq];omega
 have Qc:nQ m line={m with kept:=nA m.kept (m.fC line),fC:=px m.fC line []}:=by unfold nQ;rw[ee M]
 rw[kp bL,HX G]at u;rw[Qc,M];exact⟨rfl,(gm.shut (m:={m with kept:=_,fC:=_}) (aaH G) u).mut⟩
section
variable {ws:List mK}{m:Mem}{x:mK}{cut:List Int}
def qU(m:Mem)(us:List mK):Mem:={m with fC:=λi=>nR i us}
theorem Vq(u:pb ws m):qU m ws=m:=by
 unfold qU
 have:(λi=>nR i ws)=m.fC:=funext λi=>HX u i
 rw[this]
theorem HY{j:Nat}{v:Int}:∀(us:List j4) (k:List Int),(∀u∈us,u.cell.toNat≠j)->nA (k.set j v) us=(nA k us).set j v
 | [],k,_=>rfl
 | u::us,k,h=>by
  show nA ((k.set j v).set u.cell.toNat u.n) us=(nA (k.set u.cell.toNat u.n) us).set j v
  rw[List.set_comm _ _ (h u (ob ..)).symm,HY us _ λw B=>h w (List.mem_cons_of_mem _ B)]
theorem HZ(i:Int)(us:List mK)(x:mK):nR i (us++[x])=if x.line=i then nR i us++[⟨x.cell,x.n⟩]else nR i us:=by
 unfold nR;grind
theorem NN{us:List mK}(M:∀y∈us,0<=y.cell/\m.of[y.cell.toNat]?=some y.line)(J:0<=x.cell/\m.of[x.cell.toNat]?=some x.line)(V:0<=x.line)(K:Nat) :
  oo (qU m (us++[x])) cut K=if x.line<K/\((nR x.line us).length:Int)<cut.getD x.line.toNat 0 then(oo (qU m us) cut K).set x.cell.toNat x.n else oo (qU m us) cut K:=by
 induction K with
 | zero=>rw[eb bL];rfl
 | succ K I=>
  rw[uF,uF,I]
  show nA _ ((nR (K:Int) (us++[x])).take _)=if _ then(nA _ ((nR (K:Int) us).take _)).set _ _ else nA _ ((nR (K:Int) us).take _)
  rw[HZ]
  by_cases G:x.line=(K:Int)
  .have E:x.line.toNat=K:=bL
   rw[ee G,eb bL,<- E,show((x.line.toNat:Nat):Int)=x.line from bL]
   by_cases hc:((nR x.line us).length:Int)<cut.getD x.line.toNat 0
   .rw[ee ⟨bL,hc⟩,kp cH,B3,kp bL]
   grind
  .rw[eb G]
   by_cases hc:x.line<(K:Int)/\((nR x.line us).length:Int)<cut.getD x.line.toNat 0
   .rw[ee hc,ee ⟨bL,hc.2⟩,HY]
    intro u B O
    obtain⟨y,U,rfl⟩:=n4.1 (uS B)
    grind
   grind
def oW(us:List mK)(cut:List Int):List Int:=(v7 cut.length).map fun (i:Nat)=>max 0 (cut.getD i 0-((nR i us).length:Int))
theorem uO{us:List mK}:(oW us cut).length=cut.length:=by simp[oW]
theorem Bd{us:List mK}{i:Nat}(h:i<cut.length):(oW us cut)[i]?=some (max 0 (cut.getD i 0-((nR i us).length:Int))):=by
 grind[oW,nR]
theorem Vr(h:∀(i:Nat) (c:Int),cut[i]?=some c->0<=c):cut=oW [] cut:=by
 apply wx
 intro i
 by_cases hi:i<cut.length
 .rw[Bd hi,kE hi]
  grind[nR]
 grind[oW]
theorem JY{us:List mK}{l e:Int}(E:0<=l)(u:(oW us cut)[l.toNat]?=some e):l.toNat<cut.length/\e=max 0 (cut.getD l.toNat 0-((nR l us).length:Int)):=by
 have B:l.toNat<cut.length:=by have:=(ir.1 u).1;rwa [uO]at this
 rw[Bd B,show((l.toNat:Nat):Int)=l from bL]at u
 grind
theorem FQ{us:List mK}(B:0<=x.line)(E:x.line.toNat<cut.length):oW (us++[x]) cut=(oW us cut).set x.line.toNat (max 0 (cut.getD x.line.toNat 0-((nR x.line us).length:Int)-1)):=by
 apply wx
 intro i
 by_cases hi:i<cut.length
 .rw[Bd hi,HZ]
  by_cases u:i=x.line.toNat
  .subst u
   rw[AS (by rw[uO];exact hi),ee bL,kH,lH,show((x.line.toNat:Nat):Int)=x.line from bL]
   congr 1;omega
  rw[E6 (Ne.symm u),Bd hi,eb bL]
 rw[mC (by rw[uO];omega),mC (by rw[FX,uO];omega)]
theorem sG{α:Type}{l:List α}{k:Nat}{y:α}(h:l[k]?=some y):l.take (k+1)=l.take k++[y]:=by rw[tK,h];rfl
theorem Tw{k:Nat}{e:Int}(u:pb ws m)(G:uR m)(M:(cut.length:Int)=fR m.of)(h:ws[k]?=some x)(I:(oW (ws.take k) cut)[x.line.toNat]?=some e)(h1:0<e) :
  (oW (ws.take k) cut).set x.line.toNat (e-1)=oW (ws.take (k+1)) cut/\(oo (qU m (ws.take k)) cut cut.length).set x.cell.toNat x.n=oo (qU m (ws.take (k+1))) cut cut.length:=by
 have E:=j0 h
 have B:=rz u G E
 obtain⟨h2,h3⟩:=JY B.1 I
 rw[sG h,FQ B.1 h2,NN (λy J=>u.2 y (uS J)) (u.2 x E) B.1,ee ⟨bL,bL⟩]
 grind
theorem Tx{k:Nat}{e:Int}(u:pb ws m)(I:uR m)(h:ws[k]?=some x)(G:(oW (ws.take k) cut)[x.line.toNat]?=some e)(h1:¬ 0<e) :
  oW (ws.take k) cut=oW (ws.take (k+1)) cut/\oo (qU m (ws.take k)) cut cut.length=oo (qU m (ws.take (k+1))) cut cut.length:=by
 have E:=j0 h
 have B:=rz u I E
 have M:=G
 obtain⟨h2,h3⟩:=JY B.1 G
 rw[sG h,FQ B.1 h2,NN (λy J=>u.2 y (uS J)) (u.2 x E) B.1,eb bL]
 refine⟨?_,rfl⟩
 rw[show max 0 (cut.getD x.line.toNat 0-((nR x.line (ws.take k)).length:Int)-1)=e from bL]
 apply wx
 grind
theorem NP{k:Nat}{e:Int}(u:(tE m)[k]?=some e):e=(m.fC k).length:=by
 unfold tE vT at u
 rw[og]at u
 have B:k<(fR m.of).toNat:=by
  cases h:(Fi m (fR m.of).toNat)[k]? with
  | none=>grind
  | some y=>have:=(ir.1 h).1;unfold Fi at this;grind
 rw[Fj B]at u
 grind
theorem Vs(m:Mem)(cut:List Int):m.kept=oo (qU m []) cut cut.length:=by
 have:∀K,oo (qU m []) cut K=m.kept:=λK=>by
  induction K with
  | zero=>rfl
  | succ K u=>rw[uF,u];simp[qU,nR,nA]
 grind
theorem QU(u:List Int):pb [] (mr m u):=⟨λ_=>rfl,λx h=>by cases h⟩
end
def C92(p:Nat)(m:Mem)(cut:List Int)(cv:Value)(w:World)(hm:xp w p m)(B:uR m)(hb:MB m 1000000)(O:dz (λ_=>True) w cv cut)(Qd:cut.length<=1000):CR 92 [(.pointer (some ⟨p,0,none⟩)),cv] w (λv w'=>(fh m cut=none/\v=.tuple #[.slice none 0 0,hH 1]/\Ext w w')\/∃kK o,fh m cut=some kK/\v=.tuple #[o,hH 0]/\kZ (bF o kK) w w'):=by
 have Hn:=hm;obtain⟨ov,fv,lv,kv,wv,ws,I,Z,hmo,hmf,KH,Vp,V⟩:=hm.ex;have q0:=Z.cell (o:=0) rfl;have q1:=Z.cell (o:=1) rfl;have q2:=Z.cell (o:=2) rfl;have G:=Z.cell (o:=3) rfl;have q4:=Z.cell (o:=4) rfl;have J7:=B.fl;have I4:=B.J6;have BG:=B.ll;have Ep:=B.kl;have Ly:=B.lb;have F3:=mM B;have hwl:=Bc I B hb;have hpil:=HW (m:=m);have u:=St.start w;refine ahW _ _ _ _ ?_;unfold S92;refine ef ahT u (C17 _ m _ (Hn.ext u.aF) B hb) (λx13 w1 cM u=>aH cQ (O.ext u.aF) (aH cQ u.dQ (bT (aC (λ_=>.inl ⟨MI bL,rfl,u.aF⟩) λlz=>?_))))
 refine⟨λmm x w1=>∃k:Nat,x=hH (k:Int)/\mm=cut.length-k/\k<=cut.length/\(∀(i:Nat) (c:Int),i<k->cut[i]?=some c->0<=c/\c<=(m.fC i).length)/\St w aY [bF x13 (tE m)] w1,⟨_,0,rfl,rfl,kO _,λ_ _ h=>absurd h bL,u⟩,?_⟩;rintro mm _ _ ⟨k,rfl,rfl,u9,jK,u⟩ _;refine aH cQ u.dQ (aO (aC (λik=>?_) λik=>?_))
 .obtain⟨Fe,pD⟩:=gx cut (i:=(k:Int).toNat) bL;refine⟨λjv w'=>jv=.bool (decide (Fe<0\/((m.fC k).length:Int)<Fe))/\St w aY [bF x13 (tE m)] w',aM cQ O bL pD (λ_ rV=>have u:=u.drew;aE bO (rV.ext u.aF) (aO (aC (λ_=>⟨vb (by first|exact(ei bL).symm|exact ew.2 bL),u⟩) λagX=>?_))),?_⟩
  .refine aM cQ O bL pD (λ_ qM=>aE bO (qM.ext u.aF) ?_);obtain⟨e_x37,aaI⟩:=gx (tE m) (i:=(k:Int).toNat) bL;refine dJ u cQ bL bL (λ_ AG=>fV u bO AG aaI (cP ?_));have Bj:=NP (k:=k) aaI;exact⟨vb (by first|exact(ei bL).symm|exact ew.2 bL),u⟩
  rintro _ _ ⟨rfl,u⟩ _;refine aC (λ_=>.inl ⟨MH (k:=k) pD bL,rfl,u.aF⟩) (λwE=>aJ bL ?_);refine⟨_,bL,k+1,rfl,rfl,bL,λi c hi hc=>?_,u⟩
  by_cases e:i=k
  .subst e;obtain rfl:=n3.inj (hc.symm.trans pD);omega
  exact jK i c bL hc
 have M:(cut.length:Int)=fR m.of:=bL
 refine⟨λa b w'=>St w aY [bF a cut,bF b m.kept] w',aD (aA Ac (have u:=u.drew;bU eP (G.ext u.aF) ⟨aW ([]:List Int) u cQ rfl rfl (dM rfl) (λarZ _ u=>⟨aI eP (G.ext u.aF),⟨?_,⟨?_,?_⟩⟩⟩),⟨?_,?_⟩⟩)),?_⟩
 .have alm:=(O.ext u.aF);refine bJ u cQ alm (by simp<;>omega) cZ (λagW _ u=>?_);refine⟨aI eP (G.ext u.aF),?_⟩;refine aW ([]:List Int) u cQ rfl rfl (dM rfl) (λs_x44 _ u=>?_);refine⟨aI eP (G.ext u.aF),?_⟩;have QL:=(Vp.ext u.aF);exact bJ u cQ QL (by simp<;>omega) cZ (λ_ _ u=>have u:=u.p2.drop.p1;u)
 .refine aW ([]:List Int) u cQ rfl rfl (dM rfl) (λaud _ u=>?_);refine⟨aI eP (G.ext u.aF),?_⟩;have aaK:=(O.ext u.aF);refine bJ u.p1 cQ aaK (by simp<;>omega) cZ (λaue _ u=>?_);refine⟨aI eP (G.ext u.aF),?_⟩;have aaL:=(Vp.ext u.aF);exact bJ u.p1 cQ aaL (by simp<;>omega) cZ (λ_ _ u=>have u:=u.p2.drop.p1;u)
 .trivial
 .refine aW ([]:List Int) u cQ rfl rfl (dM rfl) (λauf _ u=>?_);refine⟨aI eP (G.ext u.aF),?_⟩;refine aW ([]:List Int) u cQ rfl rfl (dM rfl) (λaug _ u=>?_);refine⟨aI eP (G.ext u.aF),?_⟩;have aaM:=(O.ext u.aF);refine bJ u cQ aaM (by simp<;>omega) cZ (λauh _ u=>?_);refine⟨aI eP (G.ext u.aF),?_⟩;have aaN:=(Vp.ext u.aF);exact bJ u.p1 cQ aaN (by simp<;>omega) cZ (λ_ _ u=>have u:=u.p2.drop.p1;u)
 .trivial
 rintro GD Ir _ u _;have u:=u.p1.p1;refine⟨λmm x w1=>∃j:Nat,x=hH (j:Int)/\mm=ws.length-j/\j<=ws.length/\St w aY [bF GD (oW (ws.take j) cut),bF Ir (oo (qU m (ws.take j)) cut cut.length)] w1,⟨_,0,rfl,rfl,kO _,by rw[Vr (λi c hc=>(jK i c (by have:=(ir.1 hc).1;omega) hc).1),Vs m cut]at u;simpa using u⟩,?_⟩;rintro mm _ _ ⟨j,rfl,rfl,hj,u⟩ _;refine aD (aA ku (bU sY (q4.ext u.aF) (aH sZ (V.ext u.aF) (aO (aC (λagQ=>⟨λw'=>St w aY [bF GD (oW (ws.take (j+1)) cut),bF Ir (oo (qU m (ws.take (j+1))) cut cut.length)] w',?_,?_⟩) λagQ=>?_)))))
 .refine aD (aA ku (bU sY (q4.ext u.aF) ?_));obtain⟨E,U⟩:=gx ws (i:=(j:Int).toNat) bL;refine aM sZ V bL U (λ_ ED=>aE WC (ED.ext u.aF) (aQ u acA λb_w11 _ u=>aK (x:=E) u WC rfl rfl λ_ u=>aA wi (aB (v:=hH E.line) bO u.hb rfl ?_)));have oy:=rz I B (j0 U);have hlw:(oW (ws.take j) cut).length=cut.length:=uO;obtain⟨e_x69,J⟩:=gx (oW (ws.take j) cut) (i:=E.line.toNat) bL;refine dJ u.p1 cQ bL bL (λ_ Md=>fV u.p1 bO Md J ?_)
  have hlb2:=(JY oy.1 J).2
  have hcg:cut.getD E.line.toNat 0<=1000000:=by
   have Y:E.line.toNat<cut.length:=bL
   rw[n0,kE Y];have h1:=jK _ _ bL (kE Y);have h2:=hb ((E.line.toNat:Nat):Int);simp only[Option.getD_some];omega
  refine cP (aC (λW=>?_) λW=>?_)
  .refine aA wi (have u:=u.drew;aB (v:=hH E.line) bO u.hb rfl (aA wi (aB (v:=hH E.line) bO u.hb rfl (dJ u.p1 cQ bL bL λ_ Nk=>fV u.p1 bO Nk J (fk bL (dJ u.p1 cQ bL bL λ_ asp=>jj _ u.p1 bO asp bL λ_ u=>aA KT (aB (v:=hH E.cell) bO u.p1.hb rfl (aA KU (aB (v:=hH E.n) bO u.p1.hb rfl ?_)))))))));have hil:(oo (qU m (ws.take j)) cut cut.length).length=m.kept.length:=mq _ _ _;obtain⟨e_x87,azc⟩:=gx (oo (qU m (ws.take j)) cut cut.length) (i:=E.cell.toNat) bL
   refine dJ u.p2 cQ bL bL (λ_ asq=>jj _ u.p2 bO asq bL λ_ u=>?_);have u:=u.p2.drop.p1;rw[<- (Tw (k:=j) I B M U J W).1,<- (Tw (k:=j) I B M U J W).2];exact u
  have u:=u.drop.p1.p1;rw[<- (Tx (k:=j) I B U J W).1,<- (Tx (k:=j) I B U J W).2];exact u
 .rintro _ u _;exact aJ bL (have u:=u.p1.p1;⟨_,bL,j+1,rfl,rfl,bL,u⟩)
 have u:=u.drop;rw[kp bL,Vq I]at u;exact .inr ⟨_,_,xU M (λi c _ hc=>jK i c bL hc),rfl,u.fresh⟩
def C93(p:Nat)(m:Mem)(F:Nat->Prop)(cut:List Int)(cv:Value)(w:World)(hF:(gm p m).p w F)(E:uR m)(hb:MB m 1000000)(hC:∀w',gC F w w'->dz (λ_=>True) w' cv cut)(Qd:cut.length<=1000):CR 93 [(.pointer (some ⟨p,0,none⟩)),cv] w (λv w'=>(fh m cut=none/\v=hH 1/\mH F (gm p m) w w')\/∃Y,fh m cut=some Y/\v=hH 0/\mH F (gm p (mr m Y)) w w'):=by
 have u:=St.begin hF;obtain⟨ov,fv,lv,kv,wv,ws,Z,u⟩:=gm.open u;have J7:=E.fl;have I4:=E.J6;have BG:=E.ll;have M:=E.kl;have Ly:=E.lb;have F3:=mM E;refine pJ Tryz.func93 (pl:=P93) ?_;refine dO ahY (C92 _ m cut _ _ (NL Z u.hb u.p1.dQ u.p2.dQ u.p3.dQ u.p4.dQ u.p5.dQ) E hb (hC _ u.aF) bL) ?_;rintro O _ V
 rcases V with⟨B,rfl,he⟩|⟨G,W,B,rfl,cM⟩
 .have u:=u.ext he;exact aN rfl (aN rfl (bT (lL cZ (have u:=u.p5.p5.p5.p5.p5.p5;.inl ⟨B,rfl,(gm.shut Z u).mut⟩))))
 have u:=u.made cM;refine aN rfl (aN rfl (bT (fF cZ (aW ([]:List Int) u cQ rfl rfl (dM rfl) λU _ u=>?_))));have nL:=u.p1.dQ;refine bJ u cQ nL (by have I:G.length=m.of.length:=(by unfold fh at B;split at B<;>simp at B;rw[<- B,mq];exact M);simp;omega) cZ (λX6 _ u=>aD (aA WB (have u:=u.drew;aB eP u.p2.hb rfl (aD (aA ug (aB eP u.p2.hb rfl (aH cQ u.p3.dQ (yW cQ u.p4.dQ bL bL λasr J=>?_))))))));have QV:=(J _ u.p4.dQ);refine bJ u cQ QV (by have I:G.length=m.of.length:=(by unfold fh at B;split at B<;>simp at B;rw[<- B,mq];exact M);simp;omega) cZ (λYv _ u=>aD (aA wh (aV u.p2 eP (dM rfl) u.dQ.one λ_ u=>aD (aA Ac (aV u eP (dM rfl) u.p2.dQ.one λ_ u=>aD (aA ku (aV u sY (dM rfl) (rfl) λ_ u=>?_)))))))
 have u:=(((((((((((u.eW (α:=mK)).p6).drop).p6).drop).p6).drop).p3).p3).p5).p5).p5;have I:G.length=m.of.length:=by unfold fh at B;split at B<;>simp at B;rw[<- B,mq];exact M
 rw[show(m.of.length:Int).toNat=G.length from bL,x6]at u;exact .inr ⟨_,B,rfl,(gm.shut (m:=mr m G) (QU _) u).mut⟩
def sH(ps:List Nat)(hd:List Int):List (List Int):=(ek (ps.drop hd.length)).map λt=>hd++t
def vr(ps:List Nat)(hd:List Int)(n:Nat):List (List Int):=(v7 n).flatMap fun (i:Nat)=>sH ps (hd++[(i:Int)])
section
variable {ps:List Nat}{hd:List Int}{P n:Nat}
theorem Vt(h:hd.length=ps.length):sH ps hd=[hd]:=by
 unfold sH;rw[h,List.drop_length];simp[ek]
theorem Vu(ps:List Nat):sH ps []=ek ps:=by unfold sH;simp
theorem Cd:(sH ps hd).length=(ek (ps.drop hd.length)).length:=by unfold sH;rw[mv]
theorem xr:vr ps hd (n+1)=vr ps hd n++sH ps (hd++[(n:Int)]):=by
 unfold vr;rw[List.range_succ,List.flatMap_append];simp
theorem ae5(h:ps[hd.length]?=some P):ps.drop hd.length=P::ps.drop (hd.length+1):=by
 obtain⟨h1,h2⟩:=ir.1 h
 rw[qH h1,h2]
theorem FR(h:ps[hd.length]?=some P):vr ps hd (P+1)=sH ps hd:=by
 unfold vr sH
 rw[ae5 h,ek,List.map_flatMap]
 congr 1
 funext i
 rw[kH,lH,GG]
 refine yX λt _=>?_
 simp
theorem zI:∀n:Nat,(vr ps hd n).length=n*(ek (ps.drop (hd.length+1))).length
 | 0=>by simp[vr]
 | n+1=>by rw[xr,kH,zI n,Cd,kH,lH,Nat.add_mul,Nat.one_mul]
theorem aaO(h:ps[hd.length]?=some P)(u:n<=P):(vr ps hd n).length+(sH ps (hd++[(n:Int)])).length<=(ek (ps.drop hd.length)).length:=by
 rw[<- kH,<- xr,<- Cd,<- FR h,zI,zI]
 exact zC _ bL
theorem Vv(h:ps[hd.length]?=some P):(ek (ps.drop (hd.length+1))).length<=(ek (ps.drop hd.length)).length:=by
 have:=aaO (n:=0) h (kO _)
 rw[Cd,kH,lH]at this
 omega
end
def ot(m:Mem)(c:List Int):List Int:=oo m c c.length
def xt(m:Mem)(k:Nat):List (List Int)×List (List Int):=Gl (ot m) ((ek (vT m)).take k)
section
variable {m:Mem}{k:Nat}{a:List Int}
theorem ae6(h:(ek (vT m))[k]?=some a)(hi:ot m a∈(xt m k).2):xt m (k+1)=xt m k:=by
 unfold xt at *;rw[sG h,wZ,ee hi]
theorem alp(h:(ek (vT m))[k]?=some a)(hi:¬ ot m a∈(xt m k).2):xt m (k+1)=((xt m k).1++[a],(xt m k).2++[ot m a]):=by
 unfold xt at *;rw[sG h,wZ,eb hi]
theorem Ty{α:Type}{p:List α->Prop}(B:p [])(h1:∀l a,p l->p (l++[a]))(l:List α):p l:=by
 have h:∀l:List α,p l.reverse:=λl=>by
  induction l with
  | nil=>exact B
  | cons a l u=>rw[List.reverse_cons];exact h1 _ _ u
 have:=h l.reverse
 rwa [List.reverse_reverse]at this
theorem aaP{x y:List Int}(h:x.length=y.length)(e:UD x=UD y):x=y:=(List.append_inj e h).1
theorem Tz(m:Mem)(l:List (List Int)):Gl (ML m) l=((Gl (ot m) l).1,(Gl (ot m) l).2.map UD)/\∀y∈(Gl (ot m) l).2,y.length=m.kept.length:=by
 refine Ty (p:=λl=>Gl (ML m) l=((Gl (ot m) l).1,(Gl (ot m) l).2.map UD)/\∀y∈(Gl (ot m) l).2,y.length=m.kept.length) ⟨rfl,λy h=>by cases h⟩ (λl c J=>?_) l
 obtain⟨G,B⟩:=J
 rw[wZ,wZ,G]
 have hc:ML m c=UD (ot m c):=rfl
 have E:(ot m c).length=m.kept.length:=mq _ _ _
 by_cases h:ot m c∈(Gl (ot m) l).2
 .rw[ee h,ee (by rw[hc];exact List.mem_map_of_mem h)];exact⟨rfl,B⟩
 rw[eb h,eb (λI=>by
  obtain⟨y,u,e⟩:=n4.1 I
  rw[hc]at e
  exact h (by rw[<- aaP (by rw[B y u,E]) e];exact u))]
 refine⟨by rw[hc,u1];rfl,λy u=>?_⟩
 rcases oi.1 u with u|u
 .exact B y u
 rw[sM.1 u];exact E
theorem ae7(h:(ek (vT m)).length<=k):(xt m k).1=AX m:=by
 unfold xt AX;rw[kp h,(Tz m _).1]
theorem aaQ:(xt m k).1.length<=(ek (vT m)).length:=by
 unfold xt;exact tx (Ju _ _) (by rw[lQ];omega)
theorem aaR:(xt m k).2.length=(xt m k).1.length:=by
 unfold xt
 generalize (ek (vT m)).take k=l
 exact Ty (p:=λl=>(Gl (ot m) l).2.length=(Gl (ot m) l).1.length) rfl (λl c u=>by rw[wZ];split<;>simp[u]) l
theorem ae8{a:List Int}(h:a∈ek (vT m))(u:uR m):fh m a=some (ot m a)/\a.length<=1000:=by
 have B:=wY h
 rw[Dt]at B
 have E:=mM u
 have:=u.lb
 refine⟨xU bL λi c hi hc=>B4 h (i:=i) (p:=(m.fC i).length) (by unfold vT;exact Fj bL) hc,bL⟩
theorem any_succ{α:Type}{l:List α}{j:Nat}{b:α}{f:α->Bool}(h:l[j]?=some b):(l.take (j+1)).any f=((l.take j).any f||f b):=by rw[sG h,List.any_append];simp
end
theorem C147(ps:List Nat)(hd:List Int)(pv:Value)(E:SV)(N:Nat)(w:World)(O:dz (λ_=>True) w pv (ps.map fun (k:Nat)=>(k:Int)))(U:dz (λ_=>True) w (hM E) hd)(hlen:hd.length<=ps.length)(J:ps.length<=1000)(hC:(ek (ps.drop hd.length)).length<=1000000000)(G:∀q∈ps,q<=1000000)(hN:ps.length-hd.length<N):CR 147 [pv,hM E] w (λv w'=>∃I:List SV,kZ (sep (bF v I) (eH λw'=>dz (λ_=>True) w' (hM E) hd->gu I (sH ps hd) w')) w w'):=by
 have hpml:(ps.map fun (k:Nat)=>(k:Int)).length=ps.length:=mv ..;have u:=St.start w;refine eU Tryz.func147 ?_;refine aH cQ (U.ext u.aF) (aH cQ (O.ext u.aF) (aG (aC (λ_=>aW ([E]) u mO rfl rfl (dM rfl) λ_ _ u=>have u:=u.gz (Φ:=λw'=>dz (λ_=>True) w' (hM E) hd->gu [E] (sH ps hd) w') (λ_ h=>by rw[Vt bL];exact gu.nil.snoc (DL.j3 h));⟨_,(St.join u.p1).fresh⟩) λkB=>n7 (α:=(List Int)) u mO λahu _ u=>?_)));obtain⟨P,B⟩:=gx ps (i:=hd.length) bL;have hPb:=G P (j0 B);have M:=Vv B
 refine⟨λY o x w1=>∃n:Nat,x=hH (n:Int)/\Y=P+1-n/\n<=P+1/\St w aY [fG o (vr ps hd n)] w1,⟨_,0,rfl,rfl,kO _,u⟩,?_⟩;rintro Y ub _ _ ⟨n,rfl,rfl,hn,u⟩ _;refine aH cQ (U.ext u.aF) ?_;obtain⟨Su,m4⟩:=gx (ps.map fun (k:Nat)=>(k:Int)) (i:=(hd.length:Int).toNat) bL;refine aM cQ O bL m4 (λ_ Mg=>aE bO (Mg.ext u.aF) ?_)
 have hex:Su=(P:Int):=by
  have Z:=m4;rw[og,show(hd.length:Int).toNat=hd.length from bL,B]at Z;exact(n3.inj Z).symm
 refine ga (aC (λik=>?_) λik=>?_)
 .refine aW ([]:List Int) u cQ rfl rfl (dM rfl) (λaq4 _ u=>?_);have V:=(U.ext u.aF);refine bJ u cQ V (by simp;omega) cZ (λaok _ u=>aW ([(n:Int)]) u cQ rfl rfl (dM rfl) λasr _ u=>?_);have QV:=u.dQ;refine bJ u.p1 cQ QV (by simp;omega) cZ (λYv _ u=>?_);have u:=u.p1.drop;obtain⟨JN,rfl⟩:=u.fQ;refine dO afR (C147 ps (hd++[(n:Int)]) _ JN (N-1) _ (O.ext u.aF) u.dQ (by simp;omega) J (by rw[kH,lH];exact tx M hC) G (by simp;omega)) ?_;rintro x35 _ ⟨W,cM⟩;have u:=((((((u.made cM).split).p2).freeze).p2).fZ).dD (Ψ:=gu W (sH ps (hd++[(n:Int)]))) (λ_ h=>h.1 h.2)
  have u:=u.p1.yw.p1;exact gd u mO (by have:=aaO (n:=n) B bL;omega) cZ (λ_ _ u=>aJ bL ⟨_,bL,n+1,rfl,rfl,bL,by rw[xr];exact u⟩)
 obtain rfl:n=P+1:=bL
 rw[FR B]at u;obtain⟨I,u⟩:=u.Ap;have u:=u.p1.dD (Ψ:=λw'=>dz (λ_=>True) w' (hM E) hd->gu I (sH ps hd) w') (λ_ h _=>h);exact⟨I,(St.join u.p1).fresh⟩
termination_by N
decreasing_by all_goals omega
def azd(p:Nat)(m:Mem)(cut:List Int)(cv:Value)(w:World)(G:xp w p m)(E:uR m)(hb:MB m 1000000)(J:dz (λ_=>True) w cv cut)(I:cut.length<=1000){B:List Int}(hi:fh m cut=some B) :
  Calls g6 92 [(.pointer (some ⟨p,0,none⟩)),cv].toArray w (sK λv w'=>∃o,v=.tuple #[o,hH 0]/\kZ (bF o B) w w'):=
 an3 (C92 p m cut cv w G E hb J I) λv w' h=>by
  rcases h with⟨h1,_⟩|⟨u,o,h1,h2,h3⟩
  .rw[hi]at h1;cases h1
  .rw[hi]at h1;cases h1;exact⟨o,h2,h3⟩
def C78(p:Nat)(m:Mem)(w:World)(hm:xp w p m)(J:uR m)(hb:MB m 1000000)(hC:(ek (vT m)).length<=1000000000):CR 78 [(.pointer (some ⟨p,0,none⟩))] w (λv w'=>kZ (fG v (AX m)) w w'):=by
 have Hn:=hm;obtain⟨ov,fv,lv,kv,wv,ws,jY,oq,hmo,hmf,KH,Vp,hmw⟩:=hm.ex;have q0:=oq.cell (o:=0) rfl;have q1:=oq.cell (o:=1) rfl;have q2:=oq.cell (o:=2) rfl;have q3:=oq.cell (o:=3) rfl;have q4:=oq.cell (o:=4) rfl;have J7:=J.fl;have I4:=J.J6;have BG:=J.ll;have Ep:=J.kl;have Ly:=J.lb;have F3:=mM J;have hpsl:=Dt m;have hpb:∀q∈vT m,q<=1000000:=λ_ hq=>by obtain⟨i,_,rfl⟩:=n4.1 hq;exact hb _
 have u:=St.start w;refine ahS _ _ _ ?_;unfold S78;refine ef ahT u (C17 _ m _ (Hn.ext u.aF) J hb) (λx12 w1 cM u=>aW ([]:List Int) u cQ rfl rfl (dM rfl) λs_x13 _ u=>?_);obtain⟨alr,rfl⟩:=u.fQ;refine dO afR (C147 (vT m) [] _ alr ((vT m).length+1) _ u.p1.dQ u.dQ (kO _) bL hC hpb ea) ?_;rintro M _ ⟨B,cM⟩;have u:=((((((u.made cM).split).p2).freeze).p2).fZ).dD (Ψ:=gu B (ek (vT m))) (λ_ h=>by have Y:=h.1 h.2;rwa [Vu]at Y);have u:=u.p1;have R7:=u.T3;refine aW (@List.nil SV) u mO rfl rfl (dM rfl) (λahu _ u=>n7 (α:=(List Int)) u mO λaqI _ u=>?_)
 have u:=u.p4.drop.p3.p3.p2.p3;refine⟨λmm o h x w1=>∃(k:Nat) (os:List SV),x=hH (k:Int)/\mm=(ek (vT m)).length-k/\k<=(ek (vT m)).length/\(∀w',gu B (ek (vT m)) w'->gu os (xt m k).1 w')/\St w aY [bF o os,fG h (xt m k).2,bF M B,eH (gu B (ek (vT m)))] w1,⟨_,0,[],rfl,rfl,kO _,λ_ _=>gu.nil,u⟩,?_⟩;rintro mm Gc Oz _ _ ⟨k,os,rfl,rfl,u9,I,u⟩ _;refine aH mO u.p2.dQ (aO (aC (λmQ=>?_) λmQ=>?_))
 .obtain⟨a,ha⟩:=gx (ek (vT m)) (i:=(k:Int).toNat) bL;have ha2:a∈ek (vT m):=j0 ha;have hco:=ae8 ha2 J;have hl1:=aaQ (m:=m) (k:=k);have Ga:=aaR (m:=m) (k:=k);have hil:(ot m a).length=m.kept.length:=mq _ _ _;obtain⟨Fe,pD⟩:=gx B (i:=(k:Int).toNat) bL;refine⟨λo h w'=>∃E:List SV,(∀w',gu B (ek (vT m)) w'->gu E (xt m (k+1)).1 w')/\St w aY [bF o E,fG h (xt m (k+1)).2,bF M B,eH (gu B (ek (vT m)))] w',?_,?_⟩
  .refine dJ u.p2 mO bL bL (λ_ rV=>fV u.p2 eP rV pD (dO ahY (azd _ m a _ _ (Hn.ext u.aF) J hb (DL.flat (u.p3.eH.2 _ _ _ pD ha)) hco.2 hco.1) ?_));rintro x29 _ ⟨Z,rfl,cM⟩;have u:=u.made cM;refine aN rfl (aN rfl ?_);have u:=u.p2;obtain⟨U,u⟩:=u.Ap;have hhl:=u.T3;have u:=u.p5.p5.p5.p4.p4.p5;refine⟨λmm b x w1=>∃j:Nat,b=.bool ((((xt m k).2).take j).any λy=>decide (y=ot m a))/\x=hH (j:Int)/\mm=((xt m k).2).length-j/\j<=((xt m k).2).length/\St w aY [bF Z (ot m a),bF Oz U,eH (gu U ((xt m k).2)),bF Gc os,bF M B,eH (gu B (ek (vT m)))] w1,⟨_,0,rfl,rfl,rfl,kO _,u⟩,?_⟩
   rintro mm _ _ _ ⟨j,rfl,rfl,rfl,hj,u⟩ _;refine aH mO u.p1.dQ (aO (aC (λkS=>?_) λkS=>?_))
   .obtain⟨V,G⟩:=gx ((xt m k).2) (i:=(j:Int).toNat) bL;obtain⟨Fs,qG⟩:=gx U (i:=(j:Int).toNat) bL;refine⟨λjv w'=>jv=.bool ((((xt m k).2).take (j+1)).any λy=>decide (y=ot m a))/\St w aY [bF Z (ot m a),bF Oz U,eH (gu U ((xt m k).2)),bF Gc os,bF M B,eH (gu B (ek (vT m)))] w',aX (λO=>have u:=u.p5.p5.p5.p5.p5.p5;⟨vb (by rw[any_succ (j:=j) G,O];rfl),u⟩) (λO=>dJ u.p1 mO bL bL λ_ Nj=>fV u.p1 eP Nj qG (aS auS u (C71 _ _ V (ot m a) _ (DL.flat (u.p2.eH.2 _ _ _ qG G)) u.dQ (by have Y:=(Tz m ((ek (vT m)).take k)).2 V (show V∈(xt m k).2 from j0 G);omega)) λ_ _ u=>have u:=u.p5.p5.p5.p5.p5.p5;⟨vb (by rw[any_succ (j:=j) G,show((((xt m k).2).take j).any λy=>decide (y=ot m a))=false from O];rfl),u⟩)),?_⟩
    rintro _ _ ⟨rfl,u⟩ _;exact aJ bL (have u:=u.p5.p5.p5.p5.p5.p5;⟨_,bL,j+1,rfl,rfl,rfl,bL,u⟩)
   have Co:((xt m k).2.take j)=(xt m k).2:=kp bL;have u:=u.p2.p2.yw;refine bP (aX (λW=>?_) λW=>?_)
   .obtain⟨NQ,rfl⟩:=u.p1.fQ;have u:=u.p1.freeze.dD (Ψ:=λw=>mL w NQ (ot m a)) (λ_ h=>DL.j3 h);refine gF (s:=NQ) (x:=(ot m a)) u mO cZ (λs_x51 _ u=>have u:=u.p1;gd u mO (by simp;omega) cZ λs_x52 _ u=>dJ u.p2 mO bL bL λ_ MJ=>fV u.p2 eP MJ pD (aW ([Fe]) u mO rfl rfl (dM rfl) λaq9 _ u=>?_));have als:=u.dQ;refine bJ u.p2 mO als (by simp;have:=(I _ u.p4.eH).1;omega) cZ (λaov _ u=>?_);have u:=u.p1.drop.p3.p3.p3.p3
    have hni:¬ ot m a∈(xt m k).2:=λU=>by
     have Y:((xt m k).2.any λy=>decide (y=ot m a))=true:=u4.2 ⟨_,U,ei rfl⟩;rw[Co]at W;rw[Y]at W;cases W
    rw[alp (k:=k) ha hni];exact⟨os++[Fe],λw' h=>(I w' h).snoc (h.2 _ _ _ pD ha),u⟩
   have u:=u.p1.drop.p3.p3.p2.p3
   have hyi:ot m a∈(xt m k).2:=by
    rw[Co]at W;have Y:((xt m k).2.any λy=>decide (y=ot m a))=true:=by simpa using W
    obtain⟨y,h1,h2⟩:=u4.1 Y;rw[<- fK h2];exact h1
   rw[ae6 (k:=k) ha hyi];exact⟨os,I,u⟩
  rintro Ip Wg _ ⟨E,azf,u⟩ _;exact aJ bL (have u:=u.p3.p3.p3.p3;⟨_,bL,k+1,E,rfl,rfl,bL,azf,u⟩)
 have u:=(u.p1.drop.p1.drop.p1.p1.p1.dD λw h=>I w h).p1.yw;rw[ae7 bL]at u;exact u.fresh
structure DoK(K:g7)(d:oY)(q:Dq):Prop where
 x:∀w,K w->mL w d.x q.1
 a:∃ra,∀w,qQ K d.body ra q.2.1.flat w
 b:∃rb,∀w,qQ K d.eo rb q.2.2.1.flat w
 e:d.in_=q.2.2.2
def kQ(K:g7)(ds:List oY)(qs:List Dq):Prop:=ds.length=qs.length/\∀(j:Nat) (d:oY) (q:Dq),ds[j]?=some d->qs[j]?=some q->DoK K d q
section
variable {K K2:g7}{ds es:List oY}{qs rs:List Dq}{d:oY}{q:Dq}
theorem kQ.nil:kQ K [] []:=⟨rfl,λj d q h=>by cases h⟩
theorem kQ.cons(h:DoK K d q)(u:kQ K ds qs):kQ K (d::ds) (q::qs):=by
 refine⟨by simp[u.1],λj e r h1 h2=>?_⟩
 cases j with
 | zero=>cases h1;cases h2;exact h
 | succ j=>exact u.2 j e r h1 h2
theorem kQ.head(h:kQ K ds (q::qs)):∃d es,ds=d::es/\DoK K d q/\kQ K es qs:=by
 cases ds with
 | nil=>have:=h.1;grind
 | cons d es=>exact⟨d,es,rfl,h.2 0 d q rfl rfl,by have:=h.1;grind,λj e r h1 h2=>h.2 (j+1) e r h1 h2⟩
theorem kQ.append(h:kQ K ds qs)(u:kQ K es rs):kQ K (ds++es) (qs++rs):=by
 refine⟨by simp[h.1,u.1],λj d q h1 h2=>?_⟩
 have E:=h.1
 by_cases B:j<ds.length
 .rw[s4 B]at h1
  rw[s4 bL]at h2
  exact h.2 j d q h1 h2
 rw[List.getElem?_append_right bL]at h1 h2
 rw[<- E]at h2
 exact u.2 _ d q h1 h2
theorem kQ.drop(h:kQ K ds qs)(k:Nat):kQ K (ds.drop k) (qs.drop k):=by
 refine⟨by simp[h.1],λj d q h1 h2=>?_⟩
 rw[List.getElem?_drop]at h1 h2
 exact h.2 _ d q h1 h2
end
@[reducible] def yd(lv:Value)(B:SV)(rg:Value)(u:Nat)(f:Int):List Value:=[lv,hM B,rg,.pointer (some ⟨u,0,none⟩),.int .i64 f]
def mB(K:g7)(p:Nat)(room:Int)(t:jJ):HP:=pZ λu:Nat=>pZ λB:SV=>pZ λrg=>pZ λlv=>pZ λds:List oY=>fact ((∀w,K w->dz (λ_=>True) w (hM B) t.names)/\kQ K ds (yc t.cC)/\FH t.cC)
 (sep (bZ p (yd lv B rg u t.fault)) (sep (iX u room t.buf) (sep (bF rg t.dN) (eH λw=>dz (λ_=>True) w lv ds))))
abbrev RTK(K:g7)(u:SV)(ds:List oY)(t:jJ):Prop:=(∀w,K w->dz (λ_=>True) w (hM u) t.names)/\kQ K ds (yc t.cC)/\FH t.cC
section
variable {w w0:World}{A:Nat->Prop}{R:List HP}{p:Nat}{K:g7}{room:Int}{t:jJ}
theorem QW{H1 H2 B u:HP}(E:St w0 A (sep H1 (sep H2 (sep B u))::R) w):St w0 A (H1::H2::B::u::R) w:=by
 have h1:=E.split
 have h2:=h1.p1.split
 have h3:=h2.p1.split
 exact h3.p2.p3
theorem QX{H1 H2 B u:HP}(E:St w0 A (H1::H2::B::u::R) w):St w0 A (sep H1 (sep H2 (sep B u))::R) w:=by
 have h3:=St.join E.p3.p3
 have h2:=St.join h3.p2
 exact St.join h2.p1
theorem mB.open(u:St w0 A (mB K p room t::R) w):∃B E rg lv ds,RTK K E ds t/\
  St w0 A (bZ p (yd lv E rg B t.fault)::iX B room t.buf::bF rg t.dN::eH (λw=>dz (λ_=>True) w lv ds)::R) w:=by
 obtain⟨B,u⟩:=u.ep;obtain⟨E,u⟩:=u.ep;obtain⟨rg,u⟩:=u.ep;obtain⟨lv,u⟩:=u.ep;obtain⟨ds,u⟩:=u.ep;obtain⟨G,u⟩:=u.l6
 exact⟨B,E,rg,lv,ds,G,QW u⟩
theorem mB.shut{u:Nat}{B:SV}{rg lv:Value}{ds:List oY}(E:RTK K B ds t)
  (G:St w0 A (bZ p (yd lv B rg u t.fault)::iX u room t.buf::bF rg t.dN::eH (λw=>dz (λ_=>True) w lv ds)::R) w):St w0 A (mB K p room t::R) w:=
 St.er u (St.er B (St.er rg (St.er lv (St.er ds (St.nZ E (QX G))))))
theorem mB.rd(h:Has (mB K p room t) w):∃B E rg lv ds,RTK K E ds t/\qx w p (yd lv E rg B t.fault)/\tO w B room t.buf/\dz (λ_=>True) w rg t.dN/\dz (λ_=>True) w lv ds:=by
 obtain⟨F,u⟩:=h.st
 obtain⟨B,E,rg,lv,ds,G,u⟩:=mB.open u
 exact⟨B,E,rg,lv,ds,G,u.hb,Ds u.p1,u.p2.dQ,u.p3.eH⟩
end
structure RA where
 pv:bM
 q:Nat
 ow:Value
 ll:Value
 ps:List Ptr
@[reducible] def oX(a:RA)(s:fY):List Value:=[hM a.pv.lines,hM a.pv.iJ,hM a.pv.eE,hM a.pv.threads,hM a.pv.recover,hM a.pv.dX,.int .i64 s.room,.int .i64 s.dC,.pointer (some ⟨a.q,0,none⟩),a.ow,a.ll,.int .i64 s.fault,.int .i64 s.ke]
structure RSK(K:g7)(a:RA)(s:fY):Prop where
 pr:∀w,K w->mL w a.pv s.p
 rc:∃vj,(∀w,K w->dz (λ_=>True) w (hM a.pv.recover) vj)/\C0 K vj s.p.recover
abbrev NR(K:g7)(room:Int)(s:Ptr)(t:jJ):HP:=mB K s.b room t
def qw(K:g7)(p:Nat)(m:fY):HP:=pZ λa:RA=>fact (RSK K a m) (sep (bZ p (oX a m)) (sep (gm a.q m.mem) (sep (bF a.ow m.eQ) (sep (bF a.ll a.ps) (gY (NR K m.room) a.ps m.l)))))
section
variable {w w' w0:World}{A:Nat->Prop}{R:List HP}{p:Nat}{K:g7}{m:fY}{a:RA}{i:Nat}{tp:Ptr}{t:jJ}
theorem qw.open(u:St w0 A (qw K p m::R) w):∃a,RSK K a m/\St w0 A (bZ p (oX a m)::gm a.q m.mem::bF a.ow m.eQ::bF a.ll a.ps::gY (NR K m.room) a.ps m.l::R) w:=by
 obtain⟨a,u⟩:=u.ep;obtain⟨B,u⟩:=u.l6;exact⟨a,B,su u⟩
theorem qw.shut(u:RSK K a m)(B:St w0 A (bZ p (oX a m)::gm a.q m.mem::bF a.ow m.eQ::bF a.ll a.ps::gY (NR K m.room) a.ps m.l::R) w):St w0 A (qw K p m::R) w:=
 St.er a (St.nZ u (sw B))
structure azh(K:g7)(w:World)(p:Nat)(m:fY)(a:RA):Prop where
 uk:RSK K a m
 b:qx w p (oX a m)
 mem:xp w a.q m.mem
 ow:dz (λ_=>True) w a.ow m.eQ
 ll:dz (λ_=>True) w a.ll a.ps
 th:∀(i:Nat) (s:Ptr) (t:jJ),a.ps[i]?=some s->m.l[i]?=some t->Has (mB K s.b m.room t) w
 len:a.ps.length=m.l.length
theorem qw.rd(h:Has (qw K p m) w):∃a,azh K w p m a:=by
 obtain⟨F,u⟩:=h.st
 obtain⟨a,B,u⟩:=qw.open u
 exact⟨a,B,u.hb,FL (St.has u.p1),u.p2.dQ,u.p3.dQ,λi s t h1 h2=>u.p4.aif h1 h2 (Φ:=λw=>Has (mB K s.b m.room t) w) λh=>⟨_,h⟩,u.p4.iP⟩
end
variable (w:World) (K:Value->g7)
def S221(B G I E:Value):Prop:=
 iA 82 B G λa=>lA 164 a w λb=>aL 164 w λc d=>sA 164 c b d λe=>fA 164 c 0 λf=>lA 3 f e λg=>bB .eql 3 g (i 1) λh=>cV h (fA 164 c 1 λj=>lA 3 j e λk=>
 K (.tuple #[k,(i 0)]) e) (fA 164 c 0 λl=>lA 3 l e λn=>bB .eql 3 n (i 2) λo=>cV o (fA 164 c 2 λp=>lA 9 p e λq=>cF 123 [I,q] e λr s=>iA 41 E r λt=>
 lA 3 t s λu=>K (.tuple #[u,(i 0)]) s) (bB .add 3 G (i 1) λv=>cF 221 [B,v,I,E] e λx y=>xT x 0 λz=>xT x 1 λZ=>bB .neq 31 Z (i 0) λab=>cV ab (
 K (.tuple #[(i 0),Z]) y) (fA 164 c 0 λac=>lA 3 ac y λad=>cF 273 [ad] y λae O=>bB .eql 3 ae (i 1) λag=>cV ag (fA 164 c 0 λah=>lA 3 ah O λai=>cF 274 [ai,z] O λW ak=>
 xT W 0 λal=>xT W 1 λam=>K (.tuple #[al,am]) ak) (bB .add 3 G (i 1) λan=>cF 251 [B,an] O λao ap=>cF 221 [B,ao,I,E] ap λV J=>xT V 0 λM=>
 xT V 1 λU=>bB .neq 31 U (i 0) λav=>cV av (K (.tuple #[(i 0),U]) J) (fA 164 c 0 λaw=>lA 3 aw J λax=>cF 275 [ax,z,M] J λY az=>xT Y 0 λa0=>xT Y 1 λa1=>
 K (.tuple #[a0,a1]) az)))))
theorem afa(E B G u:Value)(h:S221 w K E B G u):CR 221 [E,B,G,u] w K:=
 qu 77 (λ_=>.nil) 768 [.tmp 8,.tmp 9] Tryz.func221 h
theorem ast:PL 146:=dG Tryz.func146
theorem aaT:PL 221:=dG Tryz.func221
end Go.Proofs.YtpdlpabnlkofmaaGreatDoor
namespace Go.Proofs.YtpdlpabnlkofmaaGreatDoor
open Go.Fw
theorem Ex.TA{t:Ex}(h:t.wf)(u:kids t.root.op=0):t=.leaf t.root:=by
 have:=Ex.oN h
 cases t with
 | leaf x=>rfl
 | un x a=>rw[u]at this;cases this
 | bin x a b=>rw[u]at this;cases this
theorem Ex.ahw{t:Ex}(h:t.wf)(u:kids t.root.op=1):∃a,t=.un t.root a:=by
 have:=Ex.oN h
 cases t with
 | leaf x=>rw[u]at this;cases this
 | un x a=>exact⟨a,rfl⟩
 | bin x a b=>rw[u]at this;cases this
theorem Ex.aaU{t:Ex}(h:t.wf)(u:kids t.root.op=2):∃a b,t=.bin t.root a b:=by
 have:=Ex.oN h
 cases t with
 | leaf x=>rw[u]at this;cases this
 | un x a=>rw[u]at this;cases this
 | bin x a b=>exact⟨a,b,rfl⟩
theorem alw{k:Int}(h:kids k=1):Gh k=0:=by
 unfold kids at h;grind[Gh]
def Bn.NS{xs:List bY}{i:Int}{t:Ex}(h:Bn xs i t){y:bY}(u:y∈t.flat):y∈xs:=by
 obtain⟨_,_,r,h⟩:=h
 exact List.mem_of_mem_drop (show y∈xs.drop i.toNat by grind)
theorem C221(lv nv uv:Value)(xs:List bY)(ns:List ByteArray)(nums:List Int)(i:Int)(t:Ex)(N:Nat)(w:World)(hL:dz (λ_=>True) w lv xs)(hN:dz (λ_=>True) w nv ns)(hU:dz (λ_=>True) w uv nums)(hn:xs.length<=1048576)(Bm:ns.length<=1048576)(Z:ns.length=nums.length)(jK:yi nums)(U:∀y∈xs,y.op=2->0<=cU ns y.name)(J:∀y∈xs,eS y.n)(O:Bn xs i t)(hNt:t.size<N) :
   CR 221 [lv,hH i,nv,uv] w (λv w'=>v=.tuple #[hH (t.val ns nums).1,hH (t.val ns nums).2]/\Ext w w'):=by
 obtain⟨e,G⟩:∃e,e=t.root:=⟨_,rfl⟩;have hxe:xs[i.toNat]?=some e:=by rw[G];exact O.root.1
 have hem:=j0 hxe;have hri:=O.root.2;have hie:=O.end;have OV:=Ex.oN O.2.1;rw[<- G]at OV;have Xs:=tI e.op;have hi0:=O.1;have E:=O.2.1;have B:=St.start w;refine afa _ _ _ _ _ _ ?_;unfold S221;refine aM gV (hL.ext B.aF) bL hxe (λq hq=>aE rI hq (aQ B xH λb _ B=>aK (x:=e) B rI rfl rfl λ_ B=>aA eX (aB bO B.hb rfl (aG (aC (λc1=>?_) λc1=>?_)))))
 .refine aA ja (aB bO B.hb rfl ?_);have ht:=Ex.TA E (by rw[<- G,c1];rfl);rw[ht,<- G];refine⟨?_,B.drop.aF⟩;show _=Be #[hH (if e.op=2 then _ else e.n),hH 0];rw[eb bL]
 refine aA eX (aB bO B.hb rfl (aG (aC (λc2=>?_) λc2=>?_)))
 .refine aA gh (aB gn B.hb rfl (aS rB B (C123 _ ns _ _ (hN.ext B.aF) Bm) λ_ W B=>?_));obtain⟨j,hj,BR,_⟩:=lE (dI.1 (U e hem c2));have Co:=(ir.1 BR).1;obtain⟨u,hu⟩:=gx nums (i:=(cU ns e.name).toNat) bL;refine aM cQ (hU.ext B.aF) bL hu (λq2 PU=>aE bO PU ?_);have ht:=Ex.TA E (by rw[<- G,c2];rfl);rw[ht,<- G];refine⟨?_,B.drop.aF⟩;show _=Be #[hH (if e.op=2 then nums.getD (cU ns e.name).toNat 0 else e.n),hH 0];rw[ee c2,n0,hu];rfl
 have hk0:kids e.op=1\/kids e.op=2:=by
  have:kids e.op≠0:=λh=>by unfold kids at h;split at h;omega;split at h;omega;split at h;omega;omega
  omega
 obtain⟨a,I⟩:=gx t.eu (i:=0) bL;have hka:=Ex.tJ E (j0 I);have M:=O.kid I;have VL:=M.end;rw[show i+1+((qe t.eu 0:Nat):Int)=i+1 by simp[qe]]at M VL;refine aJ bL (aS aaT B (C221 lv nv uv xs ns nums _ a (N-1) _ (hL.ext B.aF) (hN.ext B.aF) (hU.ext B.aF) hn Bm Z jK U J M bL) λ_ W B=>aN rfl (aN rfl (bT (aC (λY=>?_) λY=>?_))))
 .refine⟨?_,B.drop.aF⟩
  rcases hk0 with h|h
  .obtain⟨a2,ht⟩:=Ex.ahw E (by rw[<- G];exact h);rw[ht]at I |-;cases I
   rw[Ex.FE,eb Y]
  obtain⟨a2,b2,ht⟩:=Ex.aaU E (by rw[<- G];exact h);rw[ht]at I |-;cases I
  rw[Ex.Ba,eb Y]
 have hao:=Ex.QR (ns:=ns) jK a (λy hy=>J y (M.NS hy));refine aA eX (aB bO B.hb rfl (aS Ky B (C273 _ _) λ_ W B=>aG (aC (λc4=>?_) λc4=>?_)))
 .refine aA eX (aB bO B.hb rfl (aS anz B (C274 _ _ _) λ_ W B=>aN rfl (aN rfl ?_)));refine⟨?_,B.drop.aF⟩;obtain⟨a2,ht⟩:=Ex.ahw E (by rw[<- G];exact c4);rw[ht]at I |-;cases I
  rw[Ex.FE,ee (u3.1 Y),<- G,alw c4]
 have u9:kids e.op=2:=bL
 refine aJ bL (aS Kw B (C251 _ _ _ (xs.length+1) _ (hL.ext B.aF) bL bL bL) λ_ W B=>?_);rw[VL.1];obtain⟨b',hb⟩:∃b,t.eu[1]?=some b:=⟨_,kE bL⟩;have hkb':=Ex.tJ E (j0 hb);have V:=O.kid hb;rw[uu I,show i+1+((qe t.eu 0+a.size:Nat):Int)=i+1+(a.size:Int)by simp[qe]]at V;refine aS aaT B (C221 lv nv uv xs ns nums _ b' (N-1) _ (hL.ext B.aF) (hN.ext B.aF) (hU.ext B.aF) hn Bm Z jK U J V bL) (λ_ W B=>aN rfl (aN rfl ?_));obtain⟨a2,b2,ht⟩:=Ex.aaU E (by rw[<- G];exact u9);rw[ht]at I hb |-
 cases I;cases hb
 rw[Ex.Ba,ee (u3.1 Y),<- G];refine bT (aC (λc5=>?_) λc5=>?_)
 .refine⟨?_,B.drop.aF⟩;rw[eb c5]
 have hbo:=Ex.QR (ns:=ns) jK b' (λy hy=>J y (V.NS hy));refine aA eX (aB bO B.hb rfl (aS anA B (C275 _ _ _ _ hao hbo) λ_ W B=>aN rfl (aN rfl ?_)));refine⟨?_,B.drop.aF⟩;rw[ee (u3.1 c5)]
termination_by N
decreasing_by all_goals omega
def C146(lv G J:Value)(xs:List bY)(ns:List ByteArray)(nums:List Int)(w:World)(Z:dz (λ_=>True) w lv xs)(I:dz (λ_=>True) w G ns)(V:dz (λ_=>True) w J nums)(W:xs.length<=1048576)(Y:ns.length<=1048576)(R6:∀x∈xs,x.name.size<=1048576)(jK:yi nums) :
  CR 146 [lv,G,J] w (λv w'=>v=.tuple #[hH (qA ns nums xs).1,hH (qA ns nums xs).2]/\Ext w w'):=by
 have u:=St.start w;refine eU Tryz.func146 ?_;refine aH ix I (aH cQ V (bT (aC (λc1=>?_) λc1=>?_)))
 .have B:qA ns nums xs=(0,1):=by unfold qA;rw[eb bL]
  rw[B];exact⟨rfl,u.aF⟩
 refine dO ani (C220 _ _ xs ns _ Z I W Y R6) ?_;rintro _ _ ⟨s,rfl,cM⟩;have u:=(u.made cM).drop;refine aN rfl (aN rfl (bT (aC (λU=>?_) λU=>?_)))
 .have B:qA ns nums xs=(0,kG ns xs):=by unfold qA;rw[ee bL,eb U]
  rw[B];exact⟨rfl,u.aF⟩
 have O:kG ns xs=0:=u3.1 U;obtain⟨t,hT,B,E,M⟩:=Vk (nums:=nums) O bL;refine aS aaT u (C221 lv G J xs ns nums _ t (t.size+1) _ (Z.ext u.aF) (I.ext u.aF) (V.ext u.aF) W Y bL jK E M hT bL) (λ_ he u=>aN rfl (aN rfl ?_));rw[B];exact⟨rfl,u.aF⟩
def Bk.azi{L:List bK}{k:Nat}{x:bK}{a c r:Bk}(h:L.drop k=(Bk.cons x a c r).flat)(B:(Bk.cons x a c r).str){i j e:Int}(hi:i=k+1)(U:j=k+1+x.body)(V:e=k+1+x.body+x.eo) :
  L[k]?=some x/\(L.take j.toNat).drop i.toNat=a.flat/\(L.take e.toNat).drop j.toNat=c.flat/\L.drop e.toNat=r.flat/\e.toNat<=L.length:=by
 obtain⟨M,O,_⟩:=B
 have Y:=a.cY
 have W:=c.cY
 have h1:L.drop (k+1)=a.flat++(c.flat++r.flat):=by rw[<- sm,h];rfl
 have h2:L.drop (k+1+a.flat.length)=c.flat++r.flat:=by rw[<- sm,h1,DB]
 have h3:L.drop (k+1+a.flat.length+c.flat.length)=r.flat:=by rw[<- sm,h2,DB]
 have I:=ez List.length h
 have E:(Bk.cons x a c r).flat.length=1+(a.flat.length+(c.flat.length+r.flat.length)):=by simp[Bk.flat];omega
 rw[E,pd]at I
 have J:i.toNat=k+1:=bL
 have u:j.toNat=k+1+a.flat.length:=bL
 have G:e.toNat=k+1+a.flat.length+c.flat.length:=bL
 refine⟨?_,?_,?_,cH,bL⟩
 .have:(L.drop k)[0]?=some x:=by rw[h];rfl
  grind
 .rw[XH,J,u,h1,show k+1+a.flat.length-(k+1)=a.flat.length by omega,L3]
 rw[XH,u,G,h2,show k+1+a.flat.length+c.flat.length-(k+1+a.flat.length)=c.flat.length by omega,L3]
theorem C128(K:g7)(sv:SV)(rows:List aZ)(b:Bk)(w:World)(G:∀w',Ext w w'->K w')(hb:b.str)(R7:∀w,qQ K sv rows b.flat w)(GW:b.flat.length<=100000) :
   CR 128 [hM sv] w (λv w'=>∃ds,kQ K ds (F5 false b)/\kZ (bF v ds) w w'):=by
 have u:=St.start w;refine aeT _ _ _ ?_;unfold S128;have I:∀w',K w'->dz (λ_=>True) w' (hM sv) rows:=λw' h=>(R7 w').2 h;have Z:∀w',K w'->gu rows b.flat w':=λw' h=>(R7 w').1 w' h;have Gm:rows.length=b.flat.length:=(Z _ (G _ (Ext.refl _))).1;refine aW ([]:List oY) u nY rfl rfl (dM rfl) (λs8 O u=>?_);refine⟨λmm o y w'=>∃(k:Nat) (ds:List oY) (qs:List Dq) (r:Bk),y=hH (k:Int)/\mm=b.flat.length-k/\r.str/\b.flat.drop k=r.flat/\F5 false b=qs++F5 false r/\kQ K ds qs/\ds.length<=k/\k<=b.flat.length/\St w aY [bF o ds] w',⟨_,0,[],[],b,rfl,rfl,hb,rfl,rfl,kQ.nil,Nat.le_refl _,kO _,u⟩,?_⟩
 rintro mm o _ _ ⟨k,ds,qs,r,rfl,rfl,hr,PK,Gd,Y,O0,hk,u⟩ _;refine aH fj (I _ (G _ u.aF)) (aO (aC (λc=>?_) λc=>?_));rotate_left
 .have h0:r.flat.length=0:=by rw[<- PK,pd];omega
  have hrn:r=.nil:=by
   cases r with
   | nil=>rfl
   | cons _ _ _ _=>simp[Bk.flat]at h0
  subst hrn;exact⟨ds,by rw[Gd];show kQ K ds (qs++[]);rw[oj];exact Y,u.fresh⟩
 obtain⟨x,a,c',r',rfl⟩:=Bk.Dl (t:=r) (by rw[<- PK,pd];omega);obtain⟨g1,g2,g3,g4,sa,sc,sr⟩:=id hr;obtain⟨e1,e2,e3,e4,e5⟩:=Bk.azi PK hr (i:=(k:Int)+1) (j:=(k:Int)+1+x.body) (e:=(k:Int)+1+x.body+x.eo) rfl rfl rfl;obtain⟨t0,UL⟩:∃t0,rows[k]?=some t0:=⟨_,kE (by have:=(ir.1 e1).1;omega)⟩;have V:∀w',K w'->mL w' t0 x:=λw' h=>(Z w' h).2 k t0 x UL e1;obtain⟨J,M,rfl,_,_⟩:=iU (V _ (G _ u.aF));refine aM fj (I _ (G _ u.aF)) bL (by rw[o6];exact UL) (λq hq=>aE eG hq (aQ u jk λb5 _ u=>aK (x:=(⟨x.kind,x.eB,x.name,J,M,x.n,x.body,x.eo,x.at_⟩:aZ)) u eG rfl rfl λ_ u=>aJ bL (aA iO (aB (v:=hH x.body) bO u.hb rfl (aJ bL (aA iz (aB (v:=hH x.eo) bO u.hb rfl (aJ bL (have u:=u.drew;aE (x:=(⟨x.kind,x.eB,x.name,J,M,x.n,x.body,x.eo,x.at_⟩:aZ)) eG u.At (aJ bL ?_))))))))))
 refine n6 fj (I _ (G _ u.aF)) bL bL bL (λs32 U=>?_);obtain⟨B,rfl⟩:=(U _ (I _ (G _ u.aF))).fQ;refine n6 fj (I _ (G _ u.aF)) bL bL bL (λs36 W=>?_);obtain⟨E,rfl⟩:=(W _ (I _ (G _ u.aF))).fQ;refine pop (JW x.kind x.eB x.name J.a J.n J.cap M.a M.n M.cap x.n x.body x.eo x.at_ B.a B.n B.cap E.a E.n E.cap) (aW ([⟨(⟨x.kind,x.eB,x.name,J,M,x.n,x.body,x.eo,x.at_⟩:aZ),B,E,false⟩]:List oY) u nY rfl rfl (dM rfl) λs38 _ u=>?_);have azj:=u.dQ;refine bJ u.p2 nY azj (by rw[lH];omega) cZ (λs39 _ u=>⟨_,?_,((k:Int)+1+x.body+x.eo).toNat,ds++[⟨(⟨x.kind,x.eB,x.name,J,M,x.n,x.body,x.eo,x.at_⟩:aZ),B,E,false⟩],qs++[(x,a,c',false)],r',ez (mn .i64) bL,rfl,sr,e4,by rw[Gd];simp[F5],Y.append (kQ.cons ⟨V,⟨_,λO=>⟨λw' h=>?_,λh=>U O (I O h)⟩⟩,⟨_,λO=>⟨λw' h=>?_,λh=>W O (I O h)⟩⟩,rfl⟩ kQ.nil),?_,e5,u.p1.drop.p1.drop⟩)
 .omega
 .have:=gu.cut (i:=((k:Int)+1).toNat) (j:=((k:Int)+1+x.body).toNat) (Z w' h);rw[e2]at this;exact this
 .have:=gu.cut (i:=((k:Int)+1+x.body).toNat) (j:=((k:Int)+1+x.body+x.eo).toNat) (Z w' h);rw[e3]at this;exact this
 rw[kH,lH];omega
def C203(p:Nat)(t:jJ)(QY:Value)(J:SV)(rg:Value)(W:Nat)(lv:Value)(xs:List bY)(w:World)(O:qx w p (yd QY J rg W t.fault))(R6:dz (λ_=>True) w (hM J) t.names)(V:dz (λ_=>True) w rg t.dN)(M:dz (λ_=>True) w lv xs)
  (Y:xs.length<=1048576) (Z:t.names.length<=1048576) (E:∀x∈xs,x.name.size<=1000) (U:yi t.dN):CR 203 [.pointer (some ⟨p,0,none⟩),lv] w (λv w'=>v=.tuple #[hH (eD t xs).1,.bool (eD t xs).2]/\Ext w w'):=by
 have G:=O.cell (o:=1) rfl;have B:=O.cell (o:=2) rfl;have u:=St.start w;refine pJ Tryz.func203 (pl:=ay3) ?_;refine aH gV M (aG (aC (λc=>?_) λc=>?_))
 .have I:eD t xs=(0,true):=by unfold eD;rw[ee bL]
  rw[I];exact⟨rfl,u.aF⟩
 have I:eD t xs=((qA t.names t.dN xs).1,decide ((qA t.names t.dN xs).2=0)):=by unfold eD;rw[eb bL]
 have u:=u.drew;refine aD (aA KV (bU iW (G.ext u.aF) (aD (aA KW (bU eP (B.ext u.aF) (aS ast u (C146 _ _ _ xs t.names t.dN _ (M.ext u.aF) (R6.ext u.aF) (V.ext u.aF) Y Z (λx h=>tx (E x h) cZ) U) λ_ he u=>aN rfl (aN rfl (aG ?_))))))));rw[I];exact⟨rfl,u.aF⟩
def C204(K:g7)(p:Nat)(room:Int)(t:jJ)(F:Nat->Prop)(s:ByteArray)(n:Int)(w:World)(I:(mB K p room t).p w F)(E:∀w',gC F w w'->K w')(G:0<=cU t.names s)(M:t.dN.length=t.names.length)(Z:t.names.length<=1000) :
   CR 204 [.pointer (some ⟨p,0,none⟩),.string s,hH n] w (λv w'=>v=.tuple #[]/\mH F (mB K p room (oS t s n)) w w'):=by
 obtain⟨j,Y,J,_⟩:=lE (dI.1 G);have U:=(ir.1 J).1;have u:=St.begin I;refine eU Tryz.func204 ?_;obtain⟨O,V,rg,W,ds,B,u⟩:=mB.open u;exact aD (aA KV (aB iW u.hb rfl (aS rB u (C123 _ t.names s _ (B.1 _ (E _ u.aF)) bL) λ_ _ u=>aD (aA KW (aB eP u.hb rfl (dJ u.p2 cQ bL bL λ_ h=>jj (n:Int) u.p2 bO h bL λ_ u=>have u:=mB.shut (t:=oS t s n) B u.p3.p1.p3.p3;⟨rfl,u.mut⟩))))))
def C171(K:g7)(p:Nat)(room:Int)(t:jJ)(F:Nat->Prop)(lv:Value)(es:List oY)(qs rest:List Dq)(V:Dq)(p2:PD)(w:World)(hF:(mB K p room t).p w F)(hK:∀w',gC F w w'->K w')(hL:∀w',gC F w w'->dz (λ_=>True) w' lv es)(VK:kQ K es qs)(tG:yc t.cC=V::rest)(O:yc p2=qs++rest)(Z:FH p2)(Lg:es.length<=100000)(Gm:rest.length<=100000) :
   CR 171 [.pointer (some ⟨p,0,none⟩),lv] w (λv w'=>v=.tuple #[]/\mH F (mB K p room {t with cC:=p2}) w w'):=by
 have u:=St.begin hF;refine eU Tryz.func171 ?_;obtain⟨bp,nv,rg,QY,ds,M,u⟩:=mB.open u;have J:=M.2.1;rw[tG]at J;obtain⟨W,I,rfl,_,B⟩:=J.head;have O0:=B.1;refine aW ([]:List oY) u nY rfl rfl (dM rfl) (λs5 _ u=>bJ u nY (hL _ u.aF) (by simp;omega) cZ λs7 _ u=>aD (aA lg (aB vv u.p1.hb rfl (BA nY u.p4.eH bL (by rw[n5];omega) λY G=>bJ u nY G (by simp;omega) cZ λU _ u=>aD (aA lg (aV u.p1 vv (dM rfl) u.dQ.one λ_ u=>?_))))));have u:=u.p4.drop.p1.freeze.p3.p3.p3
 have e:([]++es++(W::I).drop (1:Int).toNat)=es++I:=rfl;rw[e]at u;have E:RTK K nv (es++I) {t with cC:=p2}:=⟨M.1,by rw[O];exact VK.append B,Z⟩;exact⟨rfl,(mB.shut (t:={t with cC:=p2}) E u).mut⟩
theorem Cf{b:Bk}{n:Nat}(h:b.len<=n):∀{e:Bool},(F5 e b).length<=n:=by
 intro e
 have:∀(b:Bk) (e:Bool),(F5 e b).length<=b.len:=by
  intro b
  induction b with
  | nil=>intro e;exact kO _
  | cons x a c r _ _ u=>intro e;have:=u false;simp only[F5,n5,Bk.len];omega
 grind
theorem C129(K:g7)(p:Nat)(room:Int)(t tR:jJ)(n:Nat)(cs ls:List ByteArray)(F:Nat->Prop)(w:World)(hF:(mB K p room t).p w F)(O:∀w',gC F w w'->K w')(jK:xV cs ls t)(hto:Bp t)(hg:sP n t=some tR) :
   CR 129 [.pointer (some ⟨p,0,none⟩)] w (λv w'=>v=.tuple #[]/\mH F (mB K p room tR) w w'):=by
 have u:=St.begin hF;refine aeU _ _ _ ?_;unfold S129;refine⟨λmm w'=>∃B:jJ,sP mm B=some tR/\xV cs ls B/\Bp B/\St w F [mB K p room B] w',⟨n,t,hg,jK,hto,u⟩,?_⟩;rintro mm w1 ⟨B,Bo,xe,alx,u⟩ _;obtain⟨k,rfl⟩:=Hu Bo;have EO:=xe.cl;have ZB:=xe.nb;have Gm:=xe.rl;have hfc:=FI B.cC;obtain⟨bp,nv,rg,QY,ds,E,u⟩:=mB.open u;have O0:=E.2.1.1;refine aD (aA lg (aB vv u.hb rfl (aH nY u.p3.eH (cP (aC (λc0=>?_) λc0=>?_)))));rotate_left
 .have ey:oR B.cC=none:=by
   cases h:oR B.cC with
   | none=>rfl
   | some q=>obtain⟨x,a,b⟩:=q;obtain⟨e,h2⟩:=Bb h;rw[h2,n5]at O0;omega
  rw[oT Bo (Zu ey)];exact⟨rfl,(mB.shut E u).mut⟩
 obtain⟨x,a,b,vE⟩:∃x a b,oR B.cC=some (x,a,b):=by
  cases h:oR B.cC with
  | none=>have h2:=Hs xe.p h;have h3:(yc B.cC).length=0:=(by rw[h2];rfl);omega
  | some q=>exact⟨q.1,q.2.1,q.2.2,rfl⟩
 obtain⟨en,tG⟩:=Bb vE;have QZ:(yc (gy B.cC)).length<=100000:=by rw[tG,n5]at hfc;omega
 have u9:=E.2.1;rw[tG]at u9;obtain⟨d0,pI,rfl,AU,hds⟩:=u9.head;have hKn:K w1:=O _ u.aF;obtain⟨dx,G,U,dn⟩:=d0;obtain⟨I,J,rfl,_,_⟩:=iU (AU.x _ hKn);have zO:∀w,K w->mL w (⟨x.kind,x.eB,x.name,I,J,x.n,x.body,x.eo,x.at_⟩:aZ) x:=AU.x
 have Qi:∀w,K w->dz (λ_=>True) w (hM I) x.e/\dz (λ_=>True) w (hM J) x.f:=λw hw=>by
  obtain⟨_,_,h4,h5,h6⟩:=iU (zO w hw);cases h4
  exact⟨h5,h6⟩
 obtain⟨ra,hda⟩:=AU.a;obtain⟨rb,Ue⟩:=AU.b;obtain⟨hx,sa,sb,aa,ab,J5,hb2,Xw,r,e,p',Bj,sr,ar⟩:=xe.top vE;have iS:(Bk.cons x a b r).str:=xe.p.st _ (by rw[Bj];exact ob ..);have GW:b.len<=40:=iS.2.2.2.1;have hxe:=hx.e;have hxn:=hx.nm;refine aD (aA lg (aB vv u.hb rfl (aM nY u.p3.eH bL rfl λq hq=>aE KY hq (aQ u RM λb2 _ u=>aK (x:=(⟨⟨x.kind,x.eB,x.name,I,J,x.n,x.body,x.eo,x.at_⟩,G,U,dn⟩:oY)) u KY rfl rfl λ_ u=>aA oE (aA iN (aB (v:=hM I) jy u.hb rfl (aS NK u (C203 p B QY nv rg bp _ x.e _ u.p1.hb (E.1 _ (O _ u.aF)) u.p3.dQ (Qi _ (O _ u.aF)).1 bL bL hxn.1 alx.r) λ_ he u=>aN rfl (aN rfl ?_))))))))
 refine aA oE (aA jS (aB (v:=hM J) jy u.hb rfl (aS NK u (C203 p B QY nv rg bp _ x.f _ u.p1.hb (E.1 _ (O _ u.aF)) u.p3.dQ (Qi _ (O _ u.aF)).2 bL bL hxn.2 alx.r) λw5 he u=>aN rfl (aN rfl ?_))));refine⟨λjv w'=>jv=.bool (!((eD B x.e).2&&(eD B x.f).2))/\w'=w5,?_,?_⟩
 .exact bP (aX (λc=>⟨vb (by rw[Bool.not_eq_true']at c;rw[c];rfl),rfl⟩) λc=>bP ⟨vb (by rw[Bool.not_eq_false']at c;rw[c];rfl),rfl⟩)
 rintro _ w6 ⟨rfl,rfl⟩ _;refine aX (λc1=>?_) (λc1=>?_)
 .refine aD (aA wj (aV u.p1 bO (dM rfl) rfl λw7 u=>?_))
  have Wu:qp B=({B with fault:=2},false):=by
   cases h1:(eD B x.e).2 with
   | false=>exact Zv vE h1
   | true=>exact Zw vE (by rw[h1]at c1;simpa using c1)
  rw[oT Bo Wu];have u:=u.p1.drop;exact⟨rfl,(mB.shut (t:={B with fault:=2}) E u).mut⟩
 have Uu:(eD B x.e).2=true/\(eD B x.f).2=true:=by simpa using c1
 have hgk:=Zx vE Uu.1 Uu.2
 have vF:∀(t2:jJ) (w':World),qo B x a b (eD B x.e).1=(t2,true)->St w F [mB K p room t2,bZ b2 (ia (⟨⟨x.kind,x.eB,x.name,I,J,x.n,x.body,x.eo,x.at_⟩,G,U,dn⟩:oY))] w'->∃m',m'<k+1/\∃B:jJ,sP m' B=some tR/\xV cs ls B/\Bp B/\St w F [mB K p room B] w':=λt2 w' h3 h4=>by
  have h5:=hgk.trans h3;obtain⟨h6,h7,_⟩:=Dv xe;have h8:=alx.goS;rw[h5]at h6 h7 h8;exact⟨k,Nat.lt_succ_self k,t2,SQ Bo h5,h6,h8,h4.p1.drop⟩
 have CZ:=E.2.2.pop;refine aA oE (aA dK (aB (v:=hH x.kind) bO u.hb rfl (aG (aC (λk1=>?_) λk1=>?_))))
 .refine aA oE (aA iy (aB (v:=.string x.eB) gn u.hb rfl (have u:=mB.shut (t:=B) E u.p4.p4.p4.p4;bD ahq u (H':=λ_=>mB K p room (oS B x.eB (eD B x.e).1)) (Φ:=λ_ _=>True) (λV Z M=>?_) ?_)))
  .exact(C204 K p room B V x.eB _ _ Z (λw' hc=>O w' (M w' hc).aF) (hx.rg (.inl k1)) Gm ZB).mono λ_ _ r=>r.mono λ_ _ h=>⟨trivial,h.2⟩
  rintro _ w8 _ u;refine bD HU u (H':=λ_=>mB K p room {oS B x.eB (eD B x.e).1 with cC:=(gy B.cC)}) (Φ:=λ_ _=>True) (λV Z M=>?_) ?_
  .exact(C171 K p room (oS B x.eB (eD B x.e).1) V (.slice none 0 0) [] [] _ _ (gy B.cC) _ Z (λw' hc=>O w' (M w' hc).aF) (λ_ _=>dz.nil _ _) kQ.nil tG rfl CZ (kO _) QZ).mono λ_ _ r=>r.mono λ_ _ h=>⟨trivial,h.2⟩
  rintro _ w9 _ u;exact vF _ _ (Zt k1) u
 refine aG (aC (λk2=>?_) λk2=>?_)
 .refine bT (aC (λc=>?_) λc=>?_)
  .refine aA KZ (aB (v:=hM G) jA u.hb rfl (have u:=mB.shut (t:=B) E u.p4.p4.p4.p4;dO NJ (C128 K G _ a _ (λ_ e=>O _ (u.aF.then e)) sa hda (by have:=Bk.cY a;omega)) ?_));rintro s20 w8 ⟨W,aaY,cM⟩;have u:=u.made cM;have azm:W.length<=40:=by have:=aaY.1;have:=Cf (b:=a) (n:=40) bL (e:=false);omega
   have u:=u.p1;refine bD HU u (H':=λ_=>mB K p room {B with cC:=(jh a false (gy B.cC))}) (Φ:=λ_ _=>True) (λV Z M=>?_) ?_
   .exact(C171 K p room B V s20 W (F5 false a) _ _ (jh a false (gy B.cC)) _ Z (λw' hc=>O w' (M w' hc).aF) (λw' hc=>(M w' hc).dQ) aaY tG uN CZ.push bL QZ).mono λ_ _ r=>r.mono λ_ _ h=>⟨trivial,h.2⟩
   rintro _ w9 _ u;exact vF _ _ (by rw[Jv k2,eb c]) u.p1.drop
  refine aA WL (aB (v:=hM U) jA u.hb rfl (have u:=mB.shut (t:=B) E u.p4.p4.p4.p4;dO NJ (C128 K U _ b _ (λ_ e=>O _ (u.aF.then e)) sb Ue (by have:=Bk.cY b;omega)) ?_));rintro s20 w8 ⟨W,aaY,cM⟩;have u:=u.made cM;have azm:W.length<=40:=by have:=aaY.1;have:=Cf (b:=b) (n:=40) bL (e:=false);omega
  have u:=u.p1;refine bD HU u (H':=λ_=>mB K p room {B with cC:=(jh b false (gy B.cC))}) (Φ:=λ_ _=>True) (λV Z M=>?_) ?_
  .exact(C171 K p room B V s20 W (F5 false b) _ _ (jh b false (gy B.cC)) _ Z (λw' hc=>O w' (M w' hc).aF) (λw' hc=>(M w' hc).dQ) aaY tG uN CZ.push bL QZ).mono λ_ _ r=>r.mono λ_ _ h=>⟨trivial,h.2⟩
  rintro _ w9 _ u;exact vF _ _ (by rw[Jv k2,ee (u3.1 c)]) u.p1.drop
 refine aG (aC (λk3=>?_) λk3=>?_)
 .have hxn0:=hx.n k3
  have Zn:b=.nil:=by
   have h1:b.len=0:=by have:=hx.el bL;omega
   cases b with
   | nil=>rfl
   | cons _ _ _ _=>simp[Bk.len]at h1
  refine aW ([]:List oY) u nY rfl rfl (dM rfl) (λs76 _ u=>?_);refine⟨λlv7 w'=>∃(Y:List oY) (qs7:List Dq),kQ K Y qs7/\Y.length<=41/\yc (mu x a B.cC)=qs7++yc (gy B.cC)/\St w F [bF lv7 Y,bZ b2 (ia (⟨⟨x.kind,x.eB,x.name,I,J,x.n,x.body,x.eo,x.at_⟩,G,U,dn⟩:oY)),bZ p (yd QY nv rg bp B.fault),iX bp room B.buf,bF rg B.dN,eH λw=>dz (λ_=>True) w QY ((⟨⟨x.kind,x.eB,x.name,I,J,x.n,x.body,x.eo,x.at_⟩,G,U,dn⟩:oY)::pI)] w',?_,?_⟩
  .refine aA oE (aA jB (aB (v:=hH x.n) bO u.p1.hb rfl (cP (aC (λc=>?_) λc=>?_))));rotate_left
   .exact⟨[],[],kQ.nil,kO _,by unfold mu;rw[ee bL];rfl,u⟩
   refine aE (x:=(⟨⟨x.kind,x.eB,x.name,I,J,x.n,x.body,x.eo,x.at_⟩,G,U,dn⟩:oY)) KY u.p1.At (aQ u RM λb8 w15 u=>aK (x:=(⟨⟨x.kind,x.eB,x.name,I,J,x.n,x.body,x.eo,x.at_⟩,G,U,dn⟩:oY)) u KY rfl rfl λw16 u=>aA oE (aA jB (aB (v:=hH x.n) bO u.p2.hb rfl (fk bL (aA oE (aA jB (aV u bO (dM rfl) rfl λ_ u=>aA La (aV u Gf (dM rfl) rfl λ_ u=>have u:=u.enc (cs':=ia (⟨⟨x.kind,x.eB,x.name,I,J,x.n-1,x.body,x.eo,x.at_⟩,G,U,true⟩:oY)) rfl;aA KZ ?_))))))))
   refine aB (v:=hM G) jA u.p2.hb rfl (dO NJ (C128 K G _ a _ (λ_ e=>O _ (u.aF.then e)) sa hda (by have:=Bk.cY a;omega)) ?_);rintro s92 _ ⟨azo,asx,cM⟩;have u:=u.made cM;have s92l:azo.length<=40:=by have:=asx.1;have:=Cf (b:=a) (n:=40) bL (e:=false);omega
   have azp:=u.dQ;refine bJ u.p2 nY azp (by simp;omega) cZ (λs93 _ u=>aE (x:=(⟨⟨x.kind,x.eB,x.name,I,J,x.n-1,x.body,x.eo,x.at_⟩,G,U,true⟩:oY)) KY u.p2.At (aW ([(⟨⟨x.kind,x.eB,x.name,I,J,x.n-1,x.body,x.eo,x.at_⟩,G,U,true⟩:oY)]:List oY) u nY rfl rfl (dM rfl) λs96 _ u=>?_));have azq:=u.dQ;refine bJ u.p1 nY azq (by simp;omega) cZ (λs97 _ u=>have u:=u.p1.drop.p1.drop.p1.drop;⟨_,F5 false a++[({x with n:=x.n-1},a,.nil,true)],(kQ.append (kQ.append kQ.nil asx) (kQ.cons (d:=(⟨⟨x.kind,x.eB,x.name,I,J,x.n-1,x.body,x.eo,x.at_⟩,G,U,true⟩:oY)) (q:=({x with n:=x.n-1},a,.nil,true)) ⟨λw hw=>?_,⟨ra,hda⟩,⟨rb,by rw[<- Zn];exact Ue⟩,rfl⟩ kQ.nil)),by simp;omega,?_,u⟩)
   .obtain⟨_,_,h4,h5,h6⟩:=zO w hw;cases h4
    exact⟨I,J,rfl,h5,h6⟩
   rw[Vl bL];simp
  rintro lv7 _ ⟨Y,qs7,h71,h72,h73,u⟩ _;have u:=((mB.shut (t:=B) E u.p5.p5.p5.p5).p1).p1;refine bD HU u (H':=λ_=>mB K p room {B with cC:=(mu x a B.cC)}) (Φ:=λ_ _=>True) (λV Z M=>?_) ?_
  .exact(C171 K p room B V lv7 Y qs7 _ _ (mu x a B.cC) _ Z (λw' hc=>O w' (M w' hc).aF) (λw' hc=>(M w' hc).dQ) h71 tG h73 E.2.2.round bL QZ).mono λ_ _ r=>r.mono λ_ _ h=>⟨trivial,h.2⟩
  rintro _ _ _ u;exact vF _ _ (SS k3) u.p1.drop
 refine aG (aC (λk4=>?_) λk4=>?_)
 .obtain⟨D,hD⟩:∃D,D=(⟨⟨x.kind,x.eB,x.name,I,J,x.n,x.body,x.eo,x.at_⟩,G,U,dn⟩:oY)::pI:=⟨_,rfl⟩;have hDK:kQ K D (yc B.cC):=by rw[hD];exact E.2.1
  have hDl:D.length=(yc B.cC).length:=hDK.1;rw[<- hD]at u;refine⟨λmm y w'=>∃j:Nat,y=hH (j:Int)/\mm=D.length-j/\j<=D.length/\(∀(i:Nat) (q:Dq),i<j->(yc B.cC)[i]?=some q->q.2.2.2=false)/\w'=w6,⟨_,0,rfl,rfl,kO _,λ_ _ h=>absurd h (U2 _),rfl⟩,?_⟩;rintro mm _ w7 ⟨j,rfl,rfl,hj,hjn,rfl⟩ _;refine⟨λjv w'=>jv=.bool (match D[j]? with|some d=>!d.in_|none=>false)/\w'=w7,?_,?_⟩
  .refine aD (aA lg (aB vv u.p1.hb rfl (aH nY u.p4.eH (aO (aC (λc=>?_) λc=>⟨vb (by rw[mC bL]),rfl⟩)))));obtain⟨d,hd⟩:=gx D (i:=((j:Nat):Int).toNat) bL;refine aD (aA lg (aB vv u.p1.hb rfl (aM nY u.p4.eH bL hd λq hq=>bW d.in_ La hq rfl rfl λq2 PU=>aE Gf PU (bP ?_))));rw[o6]at hd;exact⟨vb (by rw[hd]),rfl⟩
  rintro _ w8 ⟨rfl,rfl⟩ _;refine aX (λc=>?_) (λc=>?_)
  .have Co:j<D.length:=by
    rcases O7 j D.length with h|h
    .exact h
    .rw[mC h]at c;cases c
   refine aJ bL ?_;refine⟨_,bL,j+1,rfl,rfl,bL,λi q hi hq=>?_,rfl⟩
   by_cases e:i=j
   .subst e;rw[kE Co]at c;have:=(hDK.2 i _ q (kE Co) hq).e;rw[<- this];simpa using c
   exact hjn i q bL hq
  have hdi:tX (yc B.cC)=(yc B.cC).drop (j+1):=HT _ j hjn (λq hq=>by
   have Co:j<D.length:=by have:=(ir.1 hq).1;omega
   rw[kE Co]at c;have:=(hDK.2 j _ q (kE Co) hq).e;rw[<- this];simpa using c) bL
  have u:=u.drew;refine aD (aA lg (aB vv u.p1.hb rfl (aJ bL (aD (aA lg (aB vv u.p1.hb rfl (aH nY u.p4.eH (tf (yW nY u.p4.eH bL bL λazr asy=>?_)))))))));have asz:=asy _ u.p4.eH;refine aD (aA lg (aV u.p1 vv (dM rfl) asz.one λ_ u=>?_));have u:=u.p4.dD (Ψ:=λw=>dz (λ_=>True) w azr (D.drop (min ((j:Int)+1) (D.length:Int)).toNat)) (λw h=>asy w h)
  have ed:D.drop (min ((j:Int)+1) (D.length:Int)).toNat=D.drop (j+1):=by
   rcases O7 j D.length with h|h
   .congr 1;omega
   .rw[pC bL,pC bL]
  rw[ed]at u;have hk9:RTK K nv (D.drop (j+1)) {B with cC:=kc B.cC}:=⟨E.1,by show kQ K _ (yc (kc B.cC));rw[HS E.2.2,hdi];exact hDK.drop _,E.2.2.leave⟩;have u:=((mB.shut (t:={B with cC:=kc B.cC}) hk9 u.p4.p4.p3).p1).p1;exact vF _ _ (SU k4) u
 refine aG (aC (λk5=>?_) λk5=>?_)
 .refine aG (aC (λc=>?_) λc=>?_)
  .refine aD (aA wj (aV u.p1 bO (dM rfl) rfl λw15 u=>?_));have u:=mB.shut (t:={B with fault:=1}) E u.p4.p4.p4.p3;rw[oT Bo (hgk.trans (MP k5 c))];have u:=u.p1.p1;exact⟨rfl,u.p1.drop.mut⟩
  have u:=u.p4;have u:=((mB.shut (t:=B) E u.p4.p4.p4).p1).p1;refine bD HU u (H':=λ_=>mB K p room {B with cC:=(gy B.cC)}) (Φ:=λ_ _=>True) (λV Z M=>?_) ?_
  .exact(C171 K p room B V (.slice none 0 0) [] [] _ _ (gy B.cC) _ Z (λw' hc=>O w' (M w' hc).aF) (λ_ _=>dz.nil _ _) kQ.nil tG rfl CZ (kO _) QZ).mono λ_ _ r=>r.mono λ_ _ h=>⟨trivial,h.2⟩
  rintro _ w16 _ u;exact vF _ _ (MQ k5 c) u
 rw[oT Bo (hgk.trans (SW k1 k2 k3 k4 k5))];have u:=((mB.shut (t:=B) E u.p4.p4.p4.p4).p1).p1;exact⟨rfl,u.p1.drop.mut⟩
theorem C80(K:g7)(p:Nat)(m:fY)(q:Nat)(t:jJ)(w:World)(hm:Has (qw K p m) w)(hw:∀w',Ext w w'->K w')(W:my m)(hh:Has (mB K q m.room t) w)(B6:t∈m.l):CR 80 [.pointer (some ⟨p,0,none⟩),.pointer (some ⟨q,0,none⟩)] w (λv w'=>v=.bool (sy m t)/\Ext w w'):=by
 obtain⟨a,V⟩:=qw.rd hm;have Z:=V.b.cell (o:=6) rfl;have B:=V.b.cell (o:=9) rfl;have jK:=W.th t B6;have GW:=jK.bl;have aj1:(cK m.p).length<=500:=by unfold cK;rw[mv];exact W.pz.eE
 obtain⟨bp,nv,rg,lv,ds,hk,uG,hB,Dx,J⟩:=mB.rd hh;obtain⟨bsv,CQ,vf,I⟩:=hB;have M:=uG.cell (o:=0) rfl;have U:=uG.cell (o:=3) rfl;have ct4:=uG.cell (o:=4) rfl;have O0:=hk.2.1.1;have u:=St.start w;refine pJ Tryz.func80 (pl:=P80) ?_;refine aD (aA lg (bU vv (M.ext u.aF) (aH nY (J.ext u.aF) (aG (aC (λc0=>?_) λc0=>?_)))))
 .have ey:oR t.cC=none:=by
   cases h:oR t.cC with
   | none=>rfl
   | some q=>obtain⟨x,a,b⟩:=q;obtain⟨e,h2⟩:=Bb h;rw[h2,n5]at O0;omega
  exact⟨vb (by unfold sy;rw[ey]),u.aF⟩
 obtain⟨x,xa,xb,vE⟩:∃x a b,oR t.cC=some (x,a,b):=by
  cases h:oR t.cC with
  | none=>have h2:=Hs jK.p h;have h3:(yc t.cC).length=0:=(by rw[h2];rfl);omega
  | some q=>exact⟨q.1,q.2.1,q.2.2,rfl⟩
 obtain⟨en,tG⟩:=Bb vE;have u9:=hk.2.1;rw[tG]at u9;obtain⟨d0,pI,rfl,AU,hds⟩:=u9.head;obtain⟨dx,db,de,dn⟩:=d0;obtain⟨ge,gf,rfl,_,_⟩:=iU (AU.x _ (hw _ u.aF));have hx:=(jK.top vE).1;have E:sy m t=(if t.fault≠0\/x.kind=2 then true else if x.kind=3\/x.kind=5\/x.kind=6\/x.kind=7 then !decide (m.room<=t.buf.length)else if x.kind=9/\m.eQ.getD (cU (cK m.p) x.name).toNat 0≠-1 then false else decide (t.buf.length=0)):=by unfold sy;rw[vE]
 refine aD (aA lg (bU vv (M.ext u.aF) (aM nY (J.ext u.aF) bL rfl λq1 h1=>Lf (⟨x.kind,x.eB,x.name,ge,gf,x.n,x.body,x.eo,x.at_⟩:aZ) oE h1 rfl λq2 h2=>aE eG h2 (aQ u jk λb5 _ u=>aK (x:=(⟨x.kind,x.eB,x.name,ge,gf,x.n,x.body,x.eo,x.at_⟩:aZ)) u eG rfl rfl λw2 u=>?_))));refine⟨λO w'=>O=.bool (decide (t.fault≠0\/x.kind=2))/\w'=w2,?_,?_⟩
 .exact aD (aA wj (bU bO (ct4.ext u.aF) (bT (aC (λ_=>⟨vb (ei bL).symm,rfl⟩) λ_=>aA dK (aB (v:=hH x.kind) bO u.hb rfl (aG ⟨vb (ew.2 bL),rfl⟩))))))
 rintro _ w4 ⟨rfl,rfl⟩ _;refine aC (λY=>?_) (λY=>?_)
 .exact⟨vb (by rw[E,ee Y]),u.drop.aF⟩
 rw[eb Y]at E;refine⟨λO w'=>O=.bool (decide (x.kind=3\/x.kind=5\/x.kind=6\/x.kind=7))/\w'=w4,?_,?_⟩
 .refine aA dK (aB (v:=hH x.kind) bO u.hb rfl ?_);exact aG (aC (λ_=>⟨vb (ei bL).symm,rfl⟩) λ_=>aA dK (aB (v:=hH x.kind) bO u.hb rfl (aG (aC (λ_=>⟨vb (ei bL).symm,rfl⟩) λ_=>aA dK (aB (v:=hH x.kind) bO u.hb rfl (aG (aC (λ_=>⟨vb (ei bL).symm,rfl⟩) λ_=>aA dK (aB (v:=hH x.kind) bO u.hb rfl (aG ⟨vb (ew.2 bL),rfl⟩)))))))))
 rintro _ _ ⟨rfl,rfl⟩ _;refine aC (λc2=>?_) (λc2=>?_)
 .have u:=u.drew;refine aD (aA oB (bU Aa (U.ext u.aF) (aD (aA iB (bU iM (vf.ext u.aF) (aH fS (I.ext u.aF) (aD (aA RF (bU bO (Z.ext u.aF) (aO ?_))))))))));refine⟨vb ?_,u.drop.aF⟩;rw[E,ee c2,<- decide_not];exact ew.2 bL
 rw[eb c2]at E;refine⟨λO w'=>O=.bool (sy m t)/\Ext w w',?_,?_⟩;rotate_left
 .rintro _ _ h _;exact h
 have u:=u.drew;refine aD (aA oB (bU Aa (U.ext u.aF) (aD (aA iB (bU iM (vf.ext u.aF) (aH fS (I.ext u.aF) (aG (aC (λc3=>?_) λc3=>?_))))))));rotate_left
 .refine⟨vb ?_,u.drop.aF⟩;rw[E];split
  .rfl
  exact(ej bL).symm
 refine aA dK (aB (v:=hH x.kind) bO u.hb rfl (bT (aC (λc4=>?_) λc4=>?_)))
 .exact⟨vb (by rw[E,eb (λh=>c4 h.1),ei bL]),u.drop.aF⟩
 have G:x.kind=9:=u3.1 c4;obtain⟨j,hj,BR,_⟩:=lE (dI.1 (hx.lk (.inl G)));have Co:=(ir.1 BR).1;have how:=W.ow;refine aD (aA uV (bU eP (B.ext u.aF) (aD (aA xE (xJ a.pv eN (qx.ext V.b u.aF) rfl (aA fX (aB (v:=.string x.name) gn u.hb rfl (ef Ro u (C125 m.p a.pv _ (V.uk.pr _ (hw _ u.aF)) W.pz) λx82 _ cM u=>?_))))))));refine⟨aI eP (B.ext u.aF),?_⟩;refine⟨aI gn (u.p1.hb.cell (v:=.string x.name) rfl),?_⟩;refine aS rB u (C123 _ (cK m.p) x.name _ u.dQ bL) (λ_ he u=>?_)
 refine⟨aI eP (B.ext u.aF),?_⟩;obtain⟨ov,ZO⟩:=gx m.eQ (i:=(cU (cK m.p) x.name).toNat) bL;refine aM cQ (V.ow.ext u.aF) bL ZO (λq71 h71=>aE bO h71 (aG ?_));refine⟨vb ?_,u.drop.drop.aF⟩;rw[E,n0,ZO];show _=if x.kind=9/\ov≠-1 then false else decide (t.buf.length=0)
 by_cases e:ov = -1
 .rw[eb (λh=>h.2 e),ei e,ei bL]
 rw[ee ⟨G,e⟩,ej e]
def C22(K:g7)(p:Nat)(m:fY)(w:World)(hm:Has (qw K p m) w)(hw:∀w',Ext w w'->K w')(J:my m):CR 22 [.pointer (some ⟨p,0,none⟩)] w (λv w'=>kZ (fG v (fx m)) w w'):=by
 obtain⟨a,B⟩:=qw.rd hm;have V:=B.b.cell (o:=10) rfl;have Qj:=B.b.cell (o:=11) rfl;have hlen:=B.len;have OD:=J.tl;have u:=St.start w;refine eU Tryz.func22 ?_;refine n7 (α:=bV) u jL (λs7 I u=>?_);refine⟨λE o y I=>∃k:Nat,y=hH (k:Int)/\E=a.ps.length-k/\k<=a.ps.length/\(m.fault≠0->k=0)/\St w aY [fG o (g9 m k)] I,⟨_,0,rfl,rfl,kO _,λ_=>rfl,u⟩,?_⟩;rintro E o _ w2 ⟨k,rfl,rfl,Oq,U,u⟩ _;refine⟨λjv w'=>jv=.bool (decide (k<a.ps.length/\m.fault=0))/\w'=w2,?_,?_⟩
 .exact aD (aA sV (bU KO (V.ext u.aF) (aH OF (B.ll.ext u.aF) (aO (aC (λ_=>aD (aA Db (bU bO (Qj.ext u.aF) (aG ⟨vb (ew.2 bL),rfl⟩)))) λ_=>⟨vb (ej bL).symm,rfl⟩)))))
 rintro _ _ ⟨rfl,rfl⟩ _;refine aC (λZ=>?_) (λZ=>?_);rotate_left
 .have ZC:fx m=g9 m k:=by
   unfold fx
   by_cases hf:m.fault=0
   .rw[eb bL,show k=m.l.length from bL]
   .rw[ee hf,U hf];rfl
  rw[ZC];exact u.fresh
 obtain⟨c2,c3⟩:=Z;obtain⟨t,ht⟩:=gx m.l (i:=k) bL;obtain⟨e,Y⟩:=gx a.ps (i:=((k:Nat):Int).toNat) bL;have B6:=j0 ht;have hth:=B.th k e t (by rw[<- o6 k];exact Y) ht;have GW:=(J.th t B6).bl;have oy:=rh J k;have azt:k*1001<=1001000:=zC 1001 (show k<=1000 by omega);obtain⟨bp,nv,rg,lv,ds,hk,uG,hB,Dx,hlr⟩:=mB.rd hth;have O:=uG.cell (o:=3) rfl;refine⟨λo w'=>St w aY [fG o (g9 m k++(if sy m t=true then [(⟨1,k,0,[]⟩:bV)]else []))] w',?_,?_⟩
 .refine aD (aA sV (bU KO (V.ext u.aF) (aM OF (B.ll.ext u.aF) bL Y λq G=>aE RK G (aS ay6 u (C80 K p m e.b t _ (hm.ext u.aF) (λ_ e=>hw _ (u.aF.then e)) J (hth.ext u.aF) B6) λ_ Ms u=>aX (λW=>?_) λW=>?_))))
  .refine pop (B5 1 (k:Int)) (have u:=u.gz (Φ:=λw=>mL w (⟨1,(k:Int),0,cI⟩:bN) (⟨1,(k:Int),0,[]⟩:bV)) (λw=>⟨cI,rfl,DL.nil w⟩);gF (x:=(⟨1,(k:Int),0,[]⟩:bV)) (s:=(⟨1,(k:Int),0,cI⟩:bN)) u jL cZ λs45 _ u=>gd u.p1 jL (by simp;omega) cZ λs46 _ u=>?_);rw[W,ee rfl];exact u
  rw[W,eb cZ,oj];exact u
 rintro o2 _ u _;refine aD (aA sV (bU KO (V.ext u.aF) (aM OF (B.ll.ext u.aF) bL Y λq G=>aE RK G (aD (aA oB (bU Aa (O.ext u.aF) (ef auY u (C81 bp _ _ _ (hB.ext u.aF) bL) λM _ cM u=>?_)))))));have EO:=zz t.buf;refine⟨λE o y I=>∃j:Nat,y=hH (j:Int)/\E=(o8 t.buf).length-j/\j<=(o8 t.buf).length/\St w aY [fG o (g9 m k++(if sy m t=true then [(⟨1,k,0,[]⟩:bV)]else [])++((o8 t.buf).take j).map λi=>(⟨2,k,i,[]⟩:bV)),bF M (o8 t.buf)] I,⟨_,0,rfl,rfl,kO _,by rw[List.take_zero,List.map_nil,oj];exact u.p1⟩,?_⟩
 rintro E o3 _ _ ⟨j,rfl,rfl,hj,u⟩ _;refine aH cQ u.p1.dQ (aO (aC (λc5=>?_) λc5=>?_))
 .obtain⟨y,hy⟩:=gx (o8 t.buf) (i:=((j:Nat):Int).toNat) bL;exact aM cQ u.p1.dQ bL hy (λ_ G=>aE bO G (pop (CG 2 (k:Int) y) (have u:=u.gz (Φ:=λw=>mL w (⟨2,(k:Int),y,cI⟩:bN) (⟨2,(k:Int),y,[]⟩:bV)) (λw=>⟨cI,rfl,DL.nil w⟩);gF (x:=(⟨2,(k:Int),y,[]⟩:bV)) (s:=(⟨2,(k:Int),y,cI⟩:bN)) u jL cZ λ_ _ u=>gd u.p1 jL (by simp only[kH,mv,lQ,lH];split<;>simp<;>omega) cZ λ_ _ u=>aJ bL ⟨_,bL,j+1,rfl,rfl,bL,by rw[<- gI (k:=j) hy,<- mX];exact u⟩)))
 rw[kp bL]at u;refine aJ bL ?_;refine⟨_,bL,k+1,rfl,rfl,bL,λh=>absurd c3 h,?_⟩;rw[tQ ht];unfold rf;rw[<- mX];exact u.p1.drop
def C18(K:g7)(p:Nat)(m:fY)(w:World)(hm:Has (qw K p m) w)(hw:∀w',Ext w w'->K w')(jO:my m)(oq:MB m.mem 1000000)(hC:(ek (vT m.mem)).length<=1000000000):CR 18 [.pointer (some ⟨p,0,none⟩)] w (λv w'=>kZ (fG v (kL m)) w w'):=by
 obtain⟨a,I⟩:=qw.rd hm;have G:=I.b.cell (o:=8) rfl;have Qj:=I.b.cell (o:=11) rfl;have EO:(AX m.mem).length<=1000000000:=tx (Ju _ _) hC;have u:=St.start w;refine eU Tryz.func18 ?_;refine aW ([]:List bN) u jL rfl rfl (dM rfl) (λs6 U u=>aD (aA sU (bU KN (G.ext u.aF) (ef auT u (C78 a.q m.mem _ (I.mem.ext u.aF) jO.mem oq hC) λJ _ cM u=>?_))));obtain⟨B,u⟩:=u.Ap;have R7:=u.p1.eH.1;refine⟨λV o y U=>∃k:Nat,y=hH (k:Int)/\V=B.length-k/\k<=B.length/\(m.fault≠0->k=0)/\St w aY [bF o ((B.take k).map pk3),bF J B,eH (gu B (AX m.mem))] U,⟨_,0,rfl,rfl,kO _,λ_=>rfl,u.p2⟩,?_⟩
 rintro V o _ w3 ⟨k,rfl,rfl,hk,E,u⟩ _;refine⟨λjv w'=>jv=.bool (decide (k<B.length/\m.fault=0))/\w'=w3,?_,?_⟩
 .exact aH mO u.p1.dQ (aO (aC (λ_=>aD (aA Db (bU bO (Qj.ext u.aF) (aG ⟨vb (ew.2 bL),rfl⟩)))) λ_=>⟨vb (ej bL).symm,rfl⟩))
 rintro _ _ ⟨rfl,rfl⟩ _;refine aC (λW=>?_) (λW=>?_)
 .obtain⟨e,Z⟩:=gx B (i:=((k:Nat):Int).toNat) bL;refine aM mO u.p1.dQ bL Z (λq hq=>aE eP hq (pop (Hv 3 e.a e.n e.cap) (aW ([pk3 e]:List bN) u jL rfl rfl (dM rfl) λs24 _ u=>?_)));have O:=u.dQ;exact bJ u.p1 jL O (by rw[mv,lQ,lH];omega) cZ (λ_ _ u=>aJ bL ⟨_,bL,k+1,rfl,rfl,bL,λh=>absurd W.2 h,by rw[<- gI (k:=k) Z];exact u.p1.drop⟩)
 by_cases Y:m.fault=0
 .have M:kL m=(AX m.mem).map λc=>(⟨3,0,0,c⟩:bV):=by unfold kL;rw[eb bL]
  rw[M];rw[kp bL]at u;exact(St.yw (u.p1.drop.p1.dD λ_ h=>aeg h).p1).fresh
 have M:kL m=[]:=by unfold kL;rw[ee Y]
 rw[M];rw[E Y]at u;exact(St.yw (u.p1.drop.p1.dD (Ψ:=gu ([]:List bN) ([]:List bV)) λ_ _=>gu.nil).p1).fresh
def C168(K:g7)(p:Nat)(m:fY)(i kind:Int)(F:Nat->Prop)(w:World)(E:(qw K p m).p w F):CR 168 [.pointer (some ⟨p,0,none⟩),hH i,hH kind] w (λv w'=>v=hM (⟨16,i,kind,0,0⟩:bX)/\mH F (qw K p {m with fault:=kind,ke:=i}) w w'):=by
 have u:=St.begin E;refine eU Tryz.func168 ?_;obtain⟨a,B,u⟩:=qw.open u;exact aQ u nI (λ_ _ u=>have u:=u.enc (cs':=ia (⟨0,0,0,0,0⟩:bX)) rfl;aD (aA Db (aV u.p1 bO (dM rfl) rfl λ_ u=>aD (aA acv (aV u bO (dM rfl) rfl λ_ u=>pop (tn 16 i kind) (aK (x:=(⟨16,i,kind,0,0⟩:bX)) u.p1 fg rfl rfl λ_ u=>aE fg u.At ⟨rfl,(qw.shut (m:={m with fault:=kind,ke:=i}) ⟨B.pr,B.rc⟩ u.drop).mut⟩))))))
def CJ(K:g7)(p:Nat)(m:fY)(i:Nat)(tp:Ptr):HP:=pZ λa:RA=>fact (RSK K a m/\a.ps[i]?=some tp/\a.ps.length=m.l.length/\i<m.l.length) (sep (bZ p (oX a m)) (sep (gm a.q m.mem) (sep (bF a.ow m.eQ) (sep (bF a.ll a.ps) (nw (NR K m.room) a.ps m.l i)))))
section
variable {w w' w0:World}{A:Nat->Prop}{R:List HP}{p:Nat}{K:g7}{m:fY}{a:RA}{i:Nat}{tp:Ptr}{t:jJ}
theorem CJ.open(u:St w0 A (CJ K p m i tp::R) w):∃a,(RSK K a m/\a.ps[i]?=some tp/\a.ps.length=m.l.length/\i<m.l.length)/\St w0 A (bZ p (oX a m)::gm a.q m.mem::bF a.ow m.eQ::bF a.ll a.ps::nw (NR K m.room) a.ps m.l i::R) w:=by
 obtain⟨a,u⟩:=u.ep;obtain⟨B,u⟩:=u.l6;exact⟨a,B,su u⟩
theorem CJ.shut(u:RSK K a m/\a.ps[i]?=some tp/\a.ps.length=m.l.length/\i<m.l.length)(B:St w0 A (bZ p (oX a m)::gm a.q m.mem::bF a.ow m.eQ::bF a.ll a.ps::nw (NR K m.room) a.ps m.l i::R) w):St w0 A (CJ K p m i tp::R) w:=
 St.er a (St.nZ u (sw B))
theorem aaZ{ps:List Ptr}(u:St w0 A (gY (NR K m.room) ps m.l::R) w)(B:ps[i]?=some tp)(ht:m.l[i]?=some t):St w0 A (mB K tp.b m.room t::nw (NR K m.room) ps m.l i::R) w:=u.focus B ht
theorem xu(u:St w0 A (mB K tp.b m.room t::CJ K p m i tp::R) w):St w0 A (qw K p {m with l:=m.l.set i t}::R) w:=by
 obtain⟨a,⟨B,E,G,hi⟩,u⟩:=CJ.open u.p1
 have h1:St w0 A (NR K m.room tp t::nw (NR K m.room) a.ps m.l i::_) w:=u.p4.p5
 have h2:=h1.Df hi G E
 have h3:=h2.p4.p4.p4.p4
 exact qw.shut (m:={m with l:=m.l.set i t}) ⟨B.pr,B.rc⟩ h3
end
section
variable {m:fY}{t:jJ}{i:Int}{x:bK}
theorem aa0(h:x.kind=2):dU m t i x=(m,oS t x.eB (hG m t (dL m x)),xh m t x):=by unfold dU;grind
theorem aa1(h:x.kind=3):dU m t i x=(m,pF m t ⟨3,fu m x,dL m x,(eD t x.e).1⟩,⟨3,0,dL m x,(eD t x.e).1,0⟩):=by unfold dU;grind
theorem aa2(h:x.kind=5):dU m t i x=(m,pF m t ⟨5,fu m x,0,0⟩,⟨4,0,fu m x,0,0⟩):=by grind[dU,pF,fu]
theorem aa3(h:x.kind=6):dU m t i x=(m,pF m t ⟨6,fu m x,0,0⟩,⟨5,0,fu m x,0,0⟩):=by grind[dU,pF,fu]
theorem aa4(h:x.kind=7):dU m t i x=(m,pF m t ⟨7,0,0,0⟩,⟨6,0,0,0,0⟩):=by grind[dU,pF]
theorem aly(h:x.kind=8):dU m t i x=(m,t,⟨7,0,0,0,0⟩):=by grind[dU]
theorem alz(h:x.kind=4):dU m t i x=(ri m t x,oS t x.eB (js m.mem (dL m x)),tu m t x):=by unfold dU;grind
theorem alA(h:x.kind=9):dU m t i x=(o9 m x i,t,⟨10,0,fz m x,0,0⟩):=by grind[dU,o9,fz]
theorem afb(h:x.kind=10):dU m t i x=(o9 m x (-1),t,⟨11,0,fz m x,0,0⟩):=by grind[dU,o9,fz]
theorem aa5{a b:Bk}(h:sy m t=true)(B:t.fault=0)(ht:oR t.cC=some (x,a,b))(u:x.kind=4):t.buf=[]:=by
 unfold sy at h
 grind
theorem aa6{u:Mem}{c e:Int}(B:0<=c)(h:u.l[c.toNat]?=some e):js u c=e:=by
 have:=(ir.1 h).1
 unfold js
 rw[ee (by unfold Gk;rw[decide_eq_true_eq];omega),n0,h];rfl
end
def C170(K:g7)(sv:Value)(m:fY)(i:Int)(tp:Ptr)(t:jJ)(x:bK)(xv:aZ)(F:Nat->Prop)(w:World)(hF:(mB K tp.b m.room t).p w F)(J:∀w',gC F w w'->K w')(M:xV (cX m.p) (cK m.p) t)(W:Bp t)(zO:∀w,K w->mL w xv x)(hx:UJ (cX m.p) (cK m.p) t.names x)(hkd:x.kind=3\/x.kind=5\/x.kind=6\/x.kind=7) :
   CR 170 [sv,.pointer (some ⟨tp.b,0,none⟩),hM xv,hH (dL m x),hH (fu m x)] w (λv w'=>v=hM (dU m t i x).2.2/\mH F (mB K tp.b m.room (dU m t i x).2.1) w w'):=by
 have u:=St.begin hF;obtain⟨O,gf,rfl,_,_⟩:=iU (zO _ (J _ u.aF))
 have Qi:∀w,K w->dz (λ_=>True) w (hM O) x.e/\dz (λ_=>True) w (hM gf) x.f:=λw hw=>by
  obtain⟨_,_,h4,h5,h6⟩:=iU (zO w hw);cases h4
  exact⟨h5,h6⟩
 have hxe:=hx.e;have V:=hx.nm;have ZB:=M.nb;have Gm:=M.rl;have GW:=M.bl;refine eU Tryz.func170 ?_;refine cJ (x:=(⟨x.kind,x.eB,x.name,O,gf,x.n,x.body,x.eo,x.at_⟩:aZ)) u (λb7 _ u=>aQ u nI λb10 _ u=>?_);have u:=(u.enc (cs':=ia (⟨0,0,0,0,0⟩:bX)) rfl).p2;obtain⟨B,nv,rg,QY,ds,I,u⟩:=mB.open u;refine aA iN (aB (v:=hM O) jy u.p5.hb rfl (aS NK u (C203 tp.b t QY nv rg B _ x.e _ u.hb (I.1 _ (J _ u.aF)) u.p2.dQ (Qi _ (J _ u.aF)).1 bL bL V.1 W.r) λ_ he u=>aN rfl (aN rfl (aA dK (aB (v:=hH x.kind) bO u.p5.hb rfl (aG (aC (λY=>?_) λY=>?_)))))))
 .refine aD (aA oB (aB Aa u.hb rfl (pop (xf 3 (fu m x) (dL m x) (eD t x.e).1) (have u:=u.p1;bD Rv u (H':=λ_=>iX B m.room (sj m.room t.buf (⟨3,fu m x,dL m x,(eD t x.e).1⟩:bG))) (Φ:=λ_ _=>True) (λE G U=>?_) ?_))))
  .exact(C230 B m.room t.buf (⟨3,fu m x,dL m x,(eD t x.e).1⟩:bG) E _ G bL).mono λ_ _ r=>r.mono λ_ _ h=>⟨trivial,h.2⟩
  rintro _ _ _ u;refine pop (mw 3 (dL m x) (eD t x.e).1) (aK (x:=(⟨3,0,dL m x,(eD t x.e).1,0⟩:bX)) u.p4 fg rfl rfl λw30' u=>aE (x:=(⟨3,0,dL m x,(eD t x.e).1,0⟩:bX)) fg u.At ?_);have u:=mB.shut (t:=pF m t (⟨3,fu m x,dL m x,(eD t x.e).1⟩:bG)) I u.drop.p4.drop.p3.p3.p2.p3;rw[aa1 Y];exact⟨rfl,u.mut⟩
 refine aG (aC (λk5=>?_) λk5=>?_)
 .refine aD (aA oB (aB Aa u.hb rfl (pop (vi 5 (fu m x)) (have u:=u.p1;bD Rv u (H':=λ_=>iX B m.room (sj m.room t.buf (⟨5,fu m x,0,0⟩:bG))) (Φ:=λ_ _=>True) (λE G U=>?_) ?_))))
  .exact(C230 B m.room t.buf (⟨5,fu m x,0,0⟩:bG) E _ G bL).mono λ_ _ r=>r.mono λ_ _ h=>⟨trivial,h.2⟩
  rintro _ _ _ u;refine pop (oc 4 (fu m x)) (aK (x:=(⟨4,0,fu m x,0,0⟩:bX)) u.p4 fg rfl rfl λZ u=>aE (x:=(⟨4,0,fu m x,0,0⟩:bX)) fg u.At ?_);have u:=mB.shut (t:=pF m t (⟨5,fu m x,0,0⟩:bG)) I u.drop.p4.drop.p3.p3.p2.p3;rw[aa2 k5];exact⟨rfl,u.mut⟩
 refine aG (aC (λk6=>?_) λk6=>?_)
 .refine aD (aA oB (aB Aa u.hb rfl (pop (vi 6 (fu m x)) (have u:=u.p1;bD Rv u (H':=λ_=>iX B m.room (sj m.room t.buf (⟨6,fu m x,0,0⟩:bG))) (Φ:=λ_ _=>True) (λE G U=>?_) ?_))))
  .exact(C230 B m.room t.buf (⟨6,fu m x,0,0⟩:bG) E _ G bL).mono λ_ _ r=>r.mono λ_ _ h=>⟨trivial,h.2⟩
  rintro _ _ _ u;refine pop (oc 5 (fu m x)) (aK (x:=(⟨5,0,fu m x,0,0⟩:bX)) u.p4 fg rfl rfl λw60' u=>aE (x:=(⟨5,0,fu m x,0,0⟩:bX)) fg u.At ?_);have u:=mB.shut (t:=pF m t (⟨6,fu m x,0,0⟩:bG)) I u.drop.p4.drop.p3.p3.p2.p3;rw[aa3 k6];exact⟨rfl,u.mut⟩
 refine aD (aA oB (aB Aa u.hb rfl (pop (Aj 7) (have u:=u.p1;bD Rv u (H':=λ_=>iX B m.room (sj m.room t.buf (⟨7,0,0,0⟩:bG))) (Φ:=λ_ _=>True) (λE G U=>?_) ?_))))
 .exact(C230 B m.room t.buf (⟨7,0,0,0⟩:bG) E _ G bL).mono λ_ _ r=>r.mono λ_ _ h=>⟨trivial,h.2⟩
 rintro _ _ _ u;refine pop (JA 6) (aK (x:=(⟨6,0,0,0,0⟩:bX)) u.p4 fg rfl rfl λw70' u=>aE (x:=(⟨6,0,0,0,0⟩:bX)) fg u.At ?_);have u:=mB.shut (t:=pF m t (⟨7,0,0,0⟩:bG)) I u.drop.p4.drop.p3.p3.p2.p3;rw[aa4 bL];exact⟨rfl,u.mut⟩
def C169(K:g7)(p:Nat)(m:fY)(i:Int)(n:Nat)(tp:Ptr)(t:jJ)(x:bK)(xv:aZ)(F:Nat->Prop)(w:World)(hF:(sep (mB K tp.b m.room t) (CJ K p m n tp)).p w F)(I:∀w',gC F w w'->K w')(jK:xV (cX m.p) (cK m.p) t)(U:Bp t)(zO:∀w,K w->mL w xv x)(hx:UJ (cX m.p) (cK m.p) t.names x)(hmm:uR m.mem)(oq:MB m.mem 1000000)(hkd:x.kind=2\/x.kind=4)(hb4:x.kind=4->t.buf=[])(EO:0<=dL m x/\dL m x<m.mem.l.length) :
   CR 169 [.pointer (some ⟨p,0,none⟩),.pointer (some ⟨tp.b,0,none⟩),hM xv,hH (dL m x)] w (λv w'=>v=hM (dU m t i x).2.2/\mH F (sep (mB K tp.b m.room (dU m t i x).2.1) (CJ K p (dU m t i x).1 n tp)) w w'):=by
 have u:=(St.begin hF).split;obtain⟨Z,gf,rfl,_,_⟩:=iU (zO _ (I _ u.aF))
 have Qi:∀w,K w->dz (λ_=>True) w (hM Z) x.e/\dz (λ_=>True) w (hM gf) x.f:=λw hw=>by
  obtain⟨_,_,h4,h5,h6⟩:=iU (zO w hw);cases h4
  exact⟨h5,h6⟩
 have hxe:=hx.e;have O:=hx.nm;have ZB:=jK.nb;have Gm:=jK.rl;have GW:=jK.bl;have Dx:=hx.rg bL;obtain⟨c,hc⟩:∃c,c=dL m x:=⟨_,rfl⟩;refine aeV _ _ _ _ _ _ ?_;unfold S169;refine cJ (x:=(⟨x.kind,x.eB,x.name,Z,gf,x.n,x.body,x.eo,x.at_⟩:aZ)) u (λb6 _ u=>aQ u nI λb8 _ u=>?_);have u:=(u.enc (cs':=ia (⟨0,0,0,0,0⟩:bX)) rfl).p2;obtain⟨W,nv,rg,QY,ds,Y,u⟩:=mB.open u;refine aA iN (aB (v:=hM Z) jy u.p5.hb rfl (aS NK u (C203 tp.b t QY nv rg W _ x.e _ u.hb (Y.1 _ (I _ u.aF)) u.p2.dQ (Qi _ (I _ u.aF)).1 bL bL O.1 U.r) λ_ M u=>aN rfl (aN rfl (aA jS (aB (v:=hM gf) jy u.p5.hb rfl (aS NK u (C203 tp.b t QY nv rg W _ x.f _ u.hb (Y.1 _ (I _ u.aF)) u.p2.dQ (Qi _ (I _ u.aF)).2 bL bL O.2 U.r) λ_ M u=>aN rfl (aN rfl (aD (aA oB (aB Aa u.hb rfl ?_))))))))))
 refine aS ann u (C229 W (dL m x) m.room t.buf _ (Ds u.p1) bL) (λw5 M u=>aN rfl (aN rfl ?_));have u:=u.p6;obtain⟨a,G,u⟩:=CJ.open u;refine⟨λjv w'=>jv=hH (hG m t (dL m x))/\w'=w5,?_,?_⟩
 .refine bP (aX (λB=>?_) λB=>?_);rotate_left
  .have h1:(kV t.buf (dL m x)).isSome=true:=by simpa using B
   exact⟨ez (mn .i64) (by unfold hG;rw[ee h1]),rfl⟩
  have h1:(kV t.buf (dL m x)).isSome=false:=by simpa using B
  refine aD (aA sU (aB KN u.hb rfl ?_));obtain⟨ov,fv,lv,kv,wv,ws,jY,azv,hmo,hmf,KH,hmk5,hmw⟩:=(FL u.p1.has).ex;refine aD (aA wh (bU eP (azv.cell (o:=2) rfl) ?_));obtain⟨e,M⟩:=gx m.mem.l (i:=(dL m x).toNat) bL;exact aM cQ KH EO.1 M (λ_ hq=>aE bO hq ⟨ez (mn .i64) (by unfold hG;rw[eb (by rw[h1];decide),aa6 EO.1 M]),rfl⟩)
 rintro _ _ ⟨rfl,rfl⟩ _;refine aA iy (aB (v:=.string x.eB) gn u.p10.hb rfl (have u:=mB.shut (t:=t) Y u.p8.p8.p8.p8;bD ahq u (H':=λ_=>mB K tp.b m.room (oS t x.eB (hG m t (dL m x)))) (Φ:=λ_ _=>True) (λV dZ dV=>?_) ?_))
 .exact(C204 K tp.b m.room t V x.eB _ _ dZ (λw' hc=>I w' (dV w' hc).aF) Dx Gm ZB).mono λ_ _ r=>r.mono λ_ _ h=>⟨trivial,h.2⟩
 rintro _ _ _ u;refine aA dK (aB (v:=hH x.kind) bO u.p7.hb rfl (aG (aC (λk2=>?_) λk2=>?_)))
 .have J:xh m t x=⟨if (kV t.buf (dL m x)).isSome=true then 2 else 1,0,dL m x,hG m t (dL m x),0⟩:=rfl;refine aX (λB=>?_) (λB=>?_)
  .refine pop (mw 2 (dL m x) (hG m t (dL m x))) (aK (x:=(⟨2,0,dL m x,hG m t (dL m x),0⟩:bX)) u.p6 fg rfl rfl λw8 u=>aE (x:=(⟨2,0,dL m x,hG m t (dL m x),0⟩:bX)) fg u.At ?_);have u:=(CJ.shut (m:=m) G u.drop.p6.drop.p5.p5.p5.p5.p5).p1;rw[aa0 k2];show hM _=hM (xh m t x)/\_;rw[J,ee B];exact⟨rfl,(St.join u).mut⟩
  refine pop (mw 1 (dL m x) (hG m t (dL m x))) (aK (x:=(⟨1,0,dL m x,hG m t (dL m x),0⟩:bX)) u.p6 fg rfl rfl λw8 u=>aE (x:=(⟨1,0,dL m x,hG m t (dL m x),0⟩:bX)) fg u.At ?_);have u:=(CJ.shut (m:=m) G u.drop.p6.drop.p5.p5.p5.p5.p5).p1;rw[aa0 k2];show hM _=hM (xh m t x)/\_;rw[J,eb (by rw[B];decide)];exact⟨rfl,(St.join u).mut⟩
 have k4:x.kind=4:=bL
 have hld:hG m t (dL m x)=js m.mem (dL m x):=by unfold hG;rw[hb4 k4];rfl
 rw[hld]at u |-;rw[alz k4];refine bT (aC (λB=>?_) λB=>?_)
 .have E:ri m t x=m:=by unfold ri;rw[eb B]
  have zy:tu m t x=⟨9,0,dL m x,js m.mem (dL m x),0⟩:=by unfold tu;rw[eb B]
  refine pop (mw 9 (dL m x) (js m.mem (dL m x))) (aK (x:=(⟨9,0,dL m x,js m.mem (dL m x),0⟩:bX)) u.p6 fg rfl rfl λw8 u=>aE (x:=(⟨9,0,dL m x,js m.mem (dL m x),0⟩:bX)) fg u.At ?_);have u:=(CJ.shut (m:=m) G u.drop.p6.drop.p5.p5.p5.p5.p5).p1;rw[E,zy];exact⟨rfl,(St.join u).mut⟩
 have E:ri m t x={m with mem:=fe m.mem (dL m x) (eD t x.f).1}:=by unfold ri;rw[ee (by simpa using B)]
 have zy:tu m t x=⟨8,0,dL m x,js m.mem (dL m x),(eD t x.f).1⟩:=by unfold tu;rw[ee (by simpa using B)]
 refine aD (aA sU (aB KN u.p1.hb rfl (have u:=u.p2;bD afW u (H':=λ_=>gm a.q (fe m.mem (dL m x) (eD t x.f).1)) (Φ:=λ_ _=>True) (λV dZ dV=>?_) ?_)))
 .exact(C166 a.q m.mem V (dL m x) _ _ dZ hmm oq).mono λ_ _ r=>r.mono λ_ _ h=>⟨trivial,h.2⟩
 rintro _ _ _ u;refine pop (yH 8 (dL m x) (js m.mem (dL m x)) (eD t x.f).1) (aK (x:=(⟨8,0,dL m x,js m.mem (dL m x),(eD t x.f).1⟩:bX)) u.p6 fg rfl rfl λ_ u=>aE (x:=(⟨8,0,dL m x,js m.mem (dL m x),(eD t x.f).1⟩:bX)) fg u.At ?_);have u:=CJ.shut (m:={m with mem:=fe m.mem (dL m x) (eD t x.f).1}) (⟨⟨G.1.pr,G.1.rc⟩,G.2⟩) u.drop.p6.drop.p5.p5.p5.p3.p5;have u:=u.p1;rw[E,zy];exact⟨rfl,(St.join u).mut⟩
def C95(K:g7)(p:Nat)(m:fY)(q:bV)(i k:Int)(V:q.t=i)(W:q.i=k)(t:jJ)(F:Nat->Prop)(w:World)(hF:(qw K p m).p w F)(Y:my m)(oq:MB m.mem 1000000)(h0:0<=i)(ht:m.l[i.toNat]?=some t) :
   CR 95 [.pointer (some ⟨p,0,none⟩),hH i,hH k] w (λv w'=>v=hM (sO i (dB t.buf k))/\mH F (qw K p (sQ m t q)) w w'):=by
 subst V W;have u:=St.begin hF;have B6:=j0 ht;have jK:=Y.th t B6;have nB:=(ir.1 ht).1;have GW:=jK.bl;refine pJ Tryz.func95 (pl:=P95) ?_;refine aQ u nI (λb6 _ u=>?_);have u:=(u.enc (cs':=ia (⟨0,0,0,0,0⟩:bX)) rfl).p1;obtain⟨a,E,u⟩:=qw.open u;have Z:=u.p4.iP;obtain⟨e,O⟩:=gx a.ps (i:=q.t.toNat) bL;refine aD (aA sV (aB KO u.hb rfl (aM OF u.p3.dQ h0 O λq0 hq=>aE RK hq ?_)));have u:=aaZ u.p4 O ht;obtain⟨bp,nv,rg,QY,ds,hk,u⟩:=mB.open u;refine aD (aA oB (aB Aa u.hb rfl (have u:=u.p1;bD anc u (H':=λ_=>iX bp m.room (jF t.buf q.i)) (Φ:=λv _=>v=.tuple #[hM (dB t.buf q.i),hH (wV t.buf q.i)]) (λG J dV=>?_) ?_)))
 .exact C165 bp m.room t.buf q.i G _ J bL
 rintro _ _ rfl u;refine aN rfl (aN rfl (aQ u qY λb7 _ u=>aK (x:=(dB t.buf q.i)) u ij rfl rfl λ_ u=>have u:=(((((mB.shut (t:={t with buf:=jF t.buf q.i}) hk u.p4.p4.p3.p4).p2).p6).p6).p6).p6;have u:=u.p5.p7.p7;aA gE (aB (v:=hH (dB t.buf q.i).kind) bO u.hb rfl (aG (aC (λc=>?_) λc=>?_)))))
 .have u:=u.drew;refine aD (aA sU (aB KN u.p3.hb rfl (aA l4 (aB (v:=hH (dB t.buf q.i).cell) bO u.hb rfl (aA oF (aB (v:=hH (dB t.buf q.i).n) bO u.hb rfl (have u:=u.p4;bD afW u (H':=λ_=>gm a.q (fe m.mem (dB t.buf q.i).cell (dB t.buf q.i).n)) (Φ:=λ_ _=>True) (λG J dV=>?_) ?_)))))))
  .exact(C166 a.q m.mem G _ _ _ J Y.mem oq).mono λ_ _ r=>r.mono λ_ _ h=>⟨trivial,h.2⟩
  rintro _ _ _ u;refine aA l4 (aB (v:=hH (dB t.buf q.i).cell) bO u.p1.hb rfl (aA oF (aB (v:=hH (dB t.buf q.i).n) bO u.p1.hb rfl (pop (yG 12 q.t (dB t.buf q.i).cell (dB t.buf q.i).n) (aK (x:=(⟨12,q.t,(dB t.buf q.i).cell,(dB t.buf q.i).n,0⟩:bX)) u.p2 fg rfl rfl λ_ u=>aE (x:=(⟨12,q.t,(dB t.buf q.i).cell,(dB t.buf q.i).n,0⟩:bX)) fg u.At ?_)))));have u:=u.drop.p1.drop;have M:jG m.mem (dB t.buf q.i)=fe m.mem (dB t.buf q.i).cell (dB t.buf q.i).n:=by unfold jG;rw[ee c]
  have B:sO q.t (dB t.buf q.i)=⟨12,q.t,(dB t.buf q.i).cell,(dB t.buf q.i).n,0⟩:=by unfold sO;rw[ee c]
  have u:=CJ.shut (m:={m with mem:=fe m.mem (dB t.buf q.i).cell (dB t.buf q.i).n}) (i:=q.t.toNat) (tp:=e) ⟨⟨E.pr,E.rc⟩,O,Z,by show q.t.toNat<m.l.length;omega⟩ u.p5.p5.p5.p3.p5;have u:=xu (m:={m with mem:=fe m.mem (dB t.buf q.i).cell (dB t.buf q.i).n}) (tp:=e) (t:={t with buf:=jF t.buf q.i}) u.p1;have I:sQ m t q={ {m with mem:=fe m.mem (dB t.buf q.i).cell (dB t.buf q.i).n}with l:=m.l.set q.t.toNat ({t with buf:=jF t.buf q.i})}:=by unfold sQ;rw[M]
  rw[I,B];exact⟨rfl,u.mut⟩
 refine aA gE (aB (v:=hH (dB t.buf q.i).kind) bO u.hb rfl (aG (aC (λU=>?_) λU=>?_)))
 .refine pop (Hw 14 q.t) (aK (x:=(⟨14,q.t,0,0,0⟩:bX)) u.p1 fg rfl rfl λ_ u=>aE (x:=(⟨14,q.t,0,0,0⟩:bX)) fg u.At ?_);have u:=u.drop.drop;have M:jG m.mem (dB t.buf q.i)=m.mem:=by unfold jG;rw[eb c,ee U]
  have B:sO q.t (dB t.buf q.i)=⟨14,q.t,0,0,0⟩:=by unfold sO;rw[eb c,ee U]
  have u:=CJ.shut (m:={m with mem:=m.mem}) (i:=q.t.toNat) (tp:=e) ⟨⟨E.pr,E.rc⟩,O,Z,by show q.t.toNat<m.l.length;omega⟩ u.p5.p5.p5.p5.p5;have u:=xu (m:={m with mem:=m.mem}) (tp:=e) (t:={t with buf:=jF t.buf q.i}) u.p1;have I:sQ m t q={ {m with mem:=m.mem}with l:=m.l.set q.t.toNat ({t with buf:=jF t.buf q.i})}:=by unfold sQ;rw[M]
  rw[I,B];exact⟨rfl,u.mut⟩
 have u:=u.drew;refine aD (aA sU (aB KN u.p3.hb rfl (aA gX (aB (v:=hH (dB t.buf q.i).line) bO u.hb rfl (have u:=u.p4;bD ane u (H':=λ_=>gm a.q (nQ m.mem (dB t.buf q.i).line)) (Φ:=λ_ _=>True) (λG J dV=>?_) ?_)))))
 .exact(C167 a.q m.mem G _ _ J Y.mem oq).mono λ_ _ r=>r.mono λ_ _ h=>⟨trivial,h.2⟩
 rintro _ _ _ u;refine aA gX (aB (v:=hH (dB t.buf q.i).line) bO u.p1.hb rfl (pop (tn 13 q.t (dB t.buf q.i).line) (aK (x:=(⟨13,q.t,(dB t.buf q.i).line,0,0⟩:bX)) u.p2 fg rfl rfl λ_ u=>aE (x:=(⟨13,q.t,(dB t.buf q.i).line,0,0⟩:bX)) fg u.At ?_)));have u:=u.drop.p1.drop;have M:jG m.mem (dB t.buf q.i)=nQ m.mem (dB t.buf q.i).line:=by unfold jG;rw[eb c,eb U]
 have B:sO q.t (dB t.buf q.i)=⟨13,q.t,(dB t.buf q.i).line,0,0⟩:=by unfold sO;rw[eb c,eb U]
 have u:=CJ.shut (m:={m with mem:=nQ m.mem (dB t.buf q.i).line}) (i:=q.t.toNat) (tp:=e) ⟨⟨E.pr,E.rc⟩,O,Z,by show q.t.toNat<m.l.length;omega⟩ u.p5.p5.p5.p3.p5;have u:=xu (m:={m with mem:=nQ m.mem (dB t.buf q.i).line}) (tp:=e) (t:={t with buf:=jF t.buf q.i}) u.p1;have I:sQ m t q={ {m with mem:=nQ m.mem (dB t.buf q.i).line}with l:=m.l.set q.t.toNat ({t with buf:=jF t.buf q.i})}:=by unfold sQ;rw[M]
 rw[I,B];exact⟨rfl,u.mut⟩
def asB:PL 60:=dG Tryz.func60
def C96(K:g7)(p:Nat)(m:fY)(i:Int)(t:jJ)(F:Nat->Prop)(w:World)(hF:(qw K p m).p w F)(U:∀w',gC F w w'->K w')(E:my m)(hvo:NH m)(oq:MB m.mem 1000000)(h0:0<=i)(ht:m.l[i.toNat]?=some t)(tT:sy m t=true)(NT:m.mem.dY=fo m.p) :
   CR 96 [.pointer (some ⟨p,0,none⟩),hH i] w (λv w'=>v=hM (il m i).2/\mH F (qw K p (il m i).1) w w'):=by
 have u:=St.begin hF;have B6:=j0 ht;have jK:=E.th t B6;have W:=hvo.th t B6;have nB:=(ir.1 ht).1;have ZB:=jK.nb;have how:=E.ow;have aj1:(cK m.p).length<=500:=by unfold cK;rw[mv];exact E.pz.eE
 have azw:(cX m.p).length<=250500:=ml E.pz.toPS;have KH:m.mem.l.length=(cX m.p).length:=by rw[E.mem.ll,NT];unfold fo cX;rw[mv,mv]
 have ar7:=jK.cl;have hfc:=FI t.cC;refine ak6 _ _ _ _ ?_;unfold S96;refine aQ u nI (λb4 _ u=>?_);have u:=(u.enc (cs':=ia (⟨0,0,0,0,0⟩:bX)) rfl).p1;obtain⟨a,hu,u⟩:=qw.open u;have pe:=u.p4.iP;refine aD (aA sV (aB KO u.hb rfl ?_));obtain⟨e,he⟩:=gx a.ps (i:=i.toNat) bL;refine aM OF u.p3.dQ h0 he (λq hq=>aE RK hq ?_);have u:=aaZ u.p4 he ht;obtain⟨bp,nv,rg,QY,ds,hk,u⟩:=mB.open u;have O0:=hk.2.1.1;refine aD (aA wj (aB bO u.hb rfl (bT (aC (λc=>?_) λc=>?_))))
 .have hse:il m i=({m with fault:=t.fault,ke:=i},⟨16,i,t.fault,0,0⟩):=by unfold il;rw[ht];dsimp only;rw[ee c]
  refine aD (aA wj (aB bO u.hb rfl ?_));have u:=St.Df (H:=NR K m.room) (x:=t) (((mB.shut (t:=t) hk u.p3.p3.p3.p3).p1).p1) bL pe he;rw[mI ht]at u;have u:=qw.shut (m:=m) hu u.p4.p4.p4.p4;refine bD ahs u (H':=λ_=>qw K p {m with fault:=t.fault,ke:=i}) (Φ:=λv _=>v=hM (⟨16,i,t.fault,0,0⟩:bX)) (λB I J=>?_) ?_
  .exact C168 K p m i t.fault B _ I
  rintro _ _ rfl u;refine aK (x:=(⟨16,i,t.fault,0,0⟩:bX)) u.p1 fg rfl rfl (λ_ u=>aE (x:=(⟨16,i,t.fault,0,0⟩:bX)) fg u.At ?_);rw[hse];exact⟨rfl,u.drop.mut⟩
 have hf0:t.fault=0:=bL
 obtain⟨x,xa,xb,vE⟩:=FC tT;obtain⟨en,tG⟩:=Bb vE;have QZ:(yc (gy t.cC)).length<=100000:=by rw[tG,n5]at hfc;omega
 have u9:=hk.2.1;rw[tG]at u9;obtain⟨d0,pI,rfl,AU,hds⟩:=u9.head;obtain⟨dx,db,de,dn⟩:=d0;obtain⟨M,O,rfl,_,_⟩:=iU (AU.x _ (U _ u.aF));have zO:∀w,K w->mL w (⟨x.kind,x.eB,x.name,M,O,x.n,x.body,x.eo,x.at_⟩:aZ) x:=AU.x;obtain⟨⟨Oq,hk3⟩,hv1,hv2⟩:=E.st t B6 hf0 _ _ _ vE;obtain⟨hx,_,_,_,_,_,_,_,r,en',p',Bj,sr,ar⟩:=jK.top vE;refine aD (aA lg (aB vv u.hb rfl (aM nY u.p3.eH bL rfl λq1 h1=>Lf (⟨x.kind,x.eB,x.name,M,O,x.n,x.body,x.eo,x.at_⟩:aZ) oE h1 rfl λq2 h2=>aE eG h2 (pop Jz (have u:=mB.shut (t:=t) hk u.p3.p3.p3.p3;aQ u jk λb6 _ u=>aQ u nI λb7 _ u=>aK (x:=(⟨x.kind,x.eB,x.name,M,O,x.n,x.body,x.eo,x.at_⟩:aZ)) u.p1 eG rfl rfl λ_ u=>aK (x:=(⟨0,0,0,0,0⟩:bX)) u.p1 fg rfl rfl λ_ u=>have u:=u.drew;aD (aA xE ?_))))))
 refine xJ a.pv eN u.p4.hb rfl (aA fX (aB (v:=.string x.name) gn u.p1.hb rfl (aD (aA xE (xJ a.pv eN u.p4.hb rfl (aA fX (aB (v:=.string x.name) gn u.p1.hb rfl (ef Rn u (C124 m.p a.pv _ (hu.pr _ (U _ u.aF)) E.pz) λx41 _ cM u=>?_))))))));refine⟨aI gn (u.p2.hb.cell (v:=.string x.name) rfl),?_⟩;refine⟨RT a.pv eN u.p5.hb rfl,?_⟩;refine⟨aI gn (u.p2.hb.cell (v:=.string x.name) rfl),?_⟩;refine aS rB u (C123 _ (cX m.p) x.name _ u.dQ bL) (λ_ Ms u=>?_);refine⟨RT a.pv eN u.p5.hb rfl,?_⟩;refine⟨aI gn (u.p2.hb.cell (v:=.string x.name) rfl),?_⟩
 refine ef Ro u (C125 m.p a.pv _ (hu.pr _ (U _ u.aF)) E.pz) (λx49 _ cM u=>?_);refine⟨aI gn (u.p3.hb.cell (v:=.string x.name) rfl),?_⟩;refine aS rB u (C123 _ (cK m.p) x.name _ u.dQ bL) (λw11 Ms u=>?_);have u:=CJ.shut (m:=m) (i:=i.toNat) (tp:=e) ⟨hu,he,pe,bL⟩ u.drop.drop.p3.p7.p7.p7.p7;have u:=u.p3.p4.p4.p4;have NU:il m i=(if x.kind=10/\m.eQ.getD (fz m x).toNat 0≠i then({m with fault:=3,ke:=i},⟨16,i,3,0,0⟩)else({ (dU m t i x).1 with l:=m.l.set i.toNat (tS m t i x)},{ (dU m t i x).2.2 with t:=i})):=by unfold il;rw[ht];dsimp only;rw[eb bL,vE]
 refine⟨λw'=>¬ (x.kind=10/\m.eQ.getD (fz m x).toNat 0≠i)/\St w F [bZ b7 (ia ((dU m t i x).2.2)),bZ b6 (ia (⟨x.kind,x.eB,x.name,M,O,x.n,x.body,x.eo,x.at_⟩:aZ)),bZ b4 (ia (⟨0,0,0,0,0⟩:bX)),mB K e.b m.room (dU m t i x).2.1,CJ K p (dU m t i x).1 i.toNat e] w',?_,?_⟩
 .refine aA dK (aB (v:=hH x.kind) bO u.p1.hb rfl ?_);refine⟨λjv w'=>jv=.bool (decide (x.kind=2\/x.kind=4))/\w'=w11,?_,?_⟩
  .exact aG (aC (λc=>⟨vb (by rw[ei c,ei (Or.inl c)]),rfl⟩) λ_=>aG ⟨vb (ew.2 bL),rfl⟩)
  rintro _ _ ⟨rfl,rfl⟩ qy;refine aC (λk24=>?_) (λk24=>?_)
  .have V:¬ (x.kind=10/\m.eQ.getD (fz m x).toNat 0≠i):=bL
   obtain⟨jc,hjc,azx,_⟩:=lE (dI.1 (hx.cl bL));have hjcl:=(ir.1 azx).1;have hcc:dL m x=(jc:Int):=hjc;refine aE (x:=(⟨x.kind,x.eB,x.name,M,O,x.n,x.body,x.eo,x.at_⟩:aZ)) eG u.p1.At (have u:=St.join u.p4.p4;bD asj u (H':=λ_=>sep (mB K e.b m.room (dU m t i x).2.1) (CJ K p (dU m t i x).1 i.toNat e)) (Φ:=λv _=>v=hM (dU m t i x).2.2) (λB I J=>?_) ?_)
   .exact C169 K p m i i.toNat e t x (⟨x.kind,x.eB,x.name,M,O,x.n,x.body,x.eo,x.at_⟩:aZ) B _ I (λw' hc=>U w' (J w' hc).aF) jK W zO hx E.mem oq k24 (λh=>aa5 tT hf0 vE h) bL
   rintro _ _ rfl u;have u:=u.split;exact aK (x:=((dU m t i x).2.2:bX)) u.p2 fg rfl rfl (λ_ u=>have u:=u.p2.p2.p4.p4.p4;⟨V,u⟩)
  refine aG (aC (λk8=>?_) λk8=>?_)
  .have V:¬ (x.kind=10/\m.eQ.getD (fz m x).toNat 0≠i):=bL
   refine aA acy (aV u bO (dM rfl) rfl λ_ u=>?_);have u:=(((((u.enc (cs':=ia (⟨7,0,0,0,0⟩:bX)) rfl).p4).p4).p4).p4).p4;rw[aly k8];exact⟨V,u⟩
  refine aG (aC (λk9=>?_) λk9=>?_)
  .have V:¬ (x.kind=10/\m.eQ.getD (fz m x).toNat 0≠i):=bL
   have aa8:x.kind=9\/x.kind=10:=bL
   obtain⟨j,hj,BR,_⟩:=lE (dI.1 (hx.lk aa8));have Co:=(ir.1 BR).1;have hjk:fz m x=(j:Int):=hj;have u:=u.p4;obtain⟨a,G,u⟩:=CJ.open u;refine aD (aA uV (aB eP u.hb rfl (dJ u.p2 cQ (show 0<=fz m x by omega) (show fz m x<_ by omega) λ_ azy=>jj (i:Int) u.p2 bO azy bL λ_ u=>pop (oc 10 (fz m x)) (have u:=CJ.shut (m:=o9 m x i) (⟨⟨G.1.pr,G.1.rc⟩,G.2⟩) u.p4.p4.p2.p4.p4;aK (x:=(⟨10,0,fz m x,0,0⟩:bX)) u.p1 fg rfl rfl λ_ u=>?_))));have u:=u.p1.p4.p4.p4.p4;rw[alA k9];exact⟨V,u⟩
  refine aG (aC (λZ=>?_) λZ=>?_)
  .have aa8:x.kind=9\/x.kind=10:=bL
   obtain⟨j,hj,BR,_⟩:=lE (dI.1 (hx.lk aa8));have Co:=(ir.1 BR).1;have hjk:fz m x=(j:Int):=hj;have u:=u.p4;obtain⟨a,G,u⟩:=CJ.open u;have hwl:=u.p2.dQ;obtain⟨ov,ZO⟩:=gx m.eQ (i:=(fz m x).toNat) bL;have hgd:m.eQ.getD (fz m x).toNat 0=ov:=by rw[n0,ZO];rfl
   refine aD (aA uV (aB eP u.hb rfl (aM cQ hwl (show 0<=fz m x by omega) ZO λq69 h69=>aE bO h69 (bT (aC (λY=>?_) λY=>?_)))))
   .have u:=u.p4;have u:=xu ((CJ.shut (m:=m) G u.p4.p4.p4.p4).p4);rw[mI ht]at u;refine bD ahs u (H':=λ_=>qw K p {m with fault:=3,ke:=i}) (Φ:=λv _=>v=hM (⟨16,i,3,0,0⟩:bX)) (λB I J=>?_) ?_
    .exact C168 K p m i 3 B _ I
    rintro _ _ rfl u;refine aK (x:=(⟨16,i,3,0,0⟩:bX)) u.p3 fg rfl rfl (λ_ u=>aE (x:=(⟨16,i,3,0,0⟩:bX)) fg u.At ?_);have u:=u.drop.p1.drop.p1.drop;rw[NU,ee ⟨Z,by rw[hgd];exact Y⟩];exact⟨rfl,u.mut⟩
   refine aD (aA uV (aB eP u.hb rfl (dJ u.p2 cQ (show 0<=fz m x by omega) (show fz m x<_ by omega) λ_ alC=>jj (-1:Int) u.p2 bO alC bL λ_ u=>pop (oc 11 (fz m x)) (have u:=CJ.shut (m:=o9 m x (-1)) (⟨⟨G.1.pr,G.1.rc⟩,G.2⟩) u.p4.p4.p2.p4.p4;aK (x:=(⟨11,0,fz m x,0,0⟩:bX)) u.p1 fg rfl rfl λ_ u=>?_))));have u:=u.p1.p4.p4.p4.p4;rw[afb Z];exact⟨by rw[hgd];exactλh=>Y h.2,u⟩
  have V:¬ (x.kind=10/\m.eQ.getD (fz m x).toNat 0≠i):=bL
  have u:=u.drew;refine aE (x:=(⟨x.kind,x.eB,x.name,M,O,x.n,x.body,x.eo,x.at_⟩:aZ)) eG u.p1.At ?_;have u:=u.p4;obtain⟨a,G,u⟩:=CJ.open u;refine aD (aA xE (xJ a.pv eN u.hb rfl (aS asB u (C60 m.p a.pv (dL m x) _ (G.1.pr _ (U _ u.aF)) E.pz) λ_ Ms u=>?_)));refine⟨fm (x:=(⟨x.kind,x.eB,x.name,M,O,x.n,x.body,x.eo,x.at_⟩:aZ)) eG u.p6.At,?_⟩;have u:=(CJ.shut (m:=m) G u.p4.p4.p4.p4.p4).p4
  have ha1:(dU m t i x).1=m:=by
   rcases(show x.kind=3\/x.kind=5\/x.kind=6\/x.kind=7 by omega)with h|h|h|h
   .rw[aa1 h]
   .rw[aa2 h]
   .rw[aa3 h]
   .rw[aa4 h]
  refine bD asi u (H':=λ_=>mB K e.b m.room (dU m t i x).2.1) (Φ:=λv _=>v=hM (dU m t i x).2.2) (λB I J=>?_) ?_
  .exact C170 K _ m i e t x (⟨x.kind,x.eB,x.name,M,O,x.n,x.body,x.eo,x.at_⟩:aZ) B _ I (λw' hc=>U w' (J w' hc).aF) jK W zO hx bL
  rintro _ _ rfl u;refine aK (x:=((dU m t i x).2.2:bX)) u.p2 fg rfl rfl (λ_ u=>?_);have u:=u.p2.p2.p4.p4.p4;rw[ha1];exact⟨V,u⟩
 rintro _ ⟨aa9,u⟩ qy;have yq:=Cb (m:=m) (t:=t) (i:=i) (x:=x);have alD:sq (UJ (cX m.p) (cK m.p) t.names) (dU m t i x).2.1:=JP jK E.rm.2
 have aba:xV (cX m.p) (cK m.p) { (dU m t i x).2.1 with cC:=gy (dU m t i x).2.1.cC}:=by
  show sq (UJ _ _ (dU m t i x).2.1.names) _;rw[vp];exact JQ alD
 have asE:=(aaz (i:=i) (x:=x) hvo.mem W).1;have azA:Bp { (dU m t i x).2.1 with cC:=gy (dU m t i x).2.1.cC}:=⟨asE.r,asE.b⟩;have hap:=Cc (m:=m) (t:=t) (i:=i) (x:=x);refine aA RG (aV u bO (dM rfl) rfl λ_ u=>have u:=(u.enc (cs':=ia ({ (dU m t i x).2.2 with t:=i}:bX)) rfl).p3;bD HU u (H':=λ_=>mB K e.b m.room { (dU m t i x).2.1 with cC:=gy (dU m t i x).2.1.cC}) (Φ:=λ_ _=>True) (λB I J=>?_) ?_)
 .exact(C171 K e.b m.room (dU m t i x).2.1 B (.slice none 0 0) [] [] (yc (gy t.cC)) _ (gy (dU m t i x).2.1.cC) _ I (λw' hc=>U w' (J w' hc).aF) (λ_ _=>dz.nil _ _) kQ.nil (by rw[hap];exact tG) (by rw[hap];rfl) (by rw[hap];exact hk.2.2.pop) (kO _) QZ).mono λ_ _ r=>r.mono λ_ _ h=>⟨trivial,h.2⟩
 rintro _ _ _ u;refine bD ahr u (H':=λ_=>mB K e.b m.room (tS m t i x)) (Φ:=λ_ _=>True) (λB I J=>?_) ?_
 .exact(C129 K e.b m.room { (dU m t i x).2.1 with cC:=gy (dU m t i x).2.1.cC} (tS m t i x) _ _ _ B _ I (λw' hc=>U w' (J w' hc).aF) aba azA (qq aba).1).mono λ_ _ r=>r.mono λ_ _ h=>⟨trivial,h.2⟩
 rintro _ _ _ u;refine aE (x:=({ (dU m t i x).2.2 with t:=i}:bX)) fg u.p1.At (aK (x:=({ (dU m t i x).2.2 with t:=i}:bX)) u.p3 fg rfl rfl λ_ u=>aE (x:=({ (dU m t i x).2.2 with t:=i}:bX)) fg u.At ?_);have u:=u.drop.p1.drop.p1.drop.p1.p1;rw[<- yq]at u;have u:=xu u;rw[aap]at u;rw[NU,eb aa9];exact⟨rfl,u.mut⟩
def C91(K:g7)(p:Nat)(m:fY)(i:Int)(t:jJ)(F:Nat->Prop)(w:World)(hF:(gR K p m).p w F)(V:∀w',gC F w w'->K w')(Z:my m)(oq:MB m.mem 1000000)(h0:0<=i)(ht:m.l[i.toNat]?=some t)(azB:t.fault=0->∃x a b,oR t.cC=some (x,a,b)) :
   CR 91 [.pointer (some ⟨p,0,none⟩),hH i] w (λv w'=>v=hM (il m i).2/\mH F (gR K p (il m i).1) w w'):=by
 have u:=St.begin hF;have B6:=j0 ht;have U:=Z.th t B6;have nB:=(ir.1 ht).1;have oy:=Du U.p;have EO:=U.cl;have GW:=U.bl;have ZB:=U.nb;have Gm:=U.rl;have how:=Z.ow;have aj1:(cK m.p).length<=500:=by unfold cK;rw[mv];exact Z.pz.eE
 have azw:(cX m.p).length<=250500:=ml Z.pz.toPS;refine ajV _ _ _ _ ?_;unfold S91;refine aQ u nI (λb4 _ u=>?_);have u:=(u.enc (cs':=ia (⟨0,0,0,0,0⟩:bX)) rfl).p1;obtain⟨a,hu,u⟩:=gR.open u;have pe:=u.p4.iP;refine aD (aA uY (aB IF u.hb rfl ?_));obtain⟨e,he⟩:=gx a.ps (i:=i.toNat) bL;refine aM KQ u.p3.dQ h0 he (λq hq=>aE GP hq ?_);have u:=ZM u.p4 he ht;obtain⟨O,nv,rg,pl,es,W,u⟩:=eK.open u;refine aD (aA wk (aB bO u.hb rfl (bT (aC (λc=>?_) λc=>?_))))
 .have hse:il m i=({m with fault:=t.fault,ke:=i},⟨16,i,t.fault,0,0⟩):=by unfold il;rw[ht];dsimp only;rw[ee c]
  refine aD (aA wk (aB bO u.hb rfl ?_));have u:=eK.shut (Φ:=λ_=>True) (t:=t) W u.p4.p4.p4.p4.p4;have u:=St.Df (H:=yl K m.room) (x:=t) u.p1.p1 bL pe he;rw[mI ht]at u;have u:=gR.shut (m:=m) hu u.p4.p4.p4.p4;refine bD ahi u (H':=λ_=>gR K p {m with fault:=t.fault,ke:=i}) (Φ:=λv _=>v=hM (⟨16,i,t.fault,0,0⟩:bX)) (λB E I=>?_) ?_
  .exact C158 K p m i t.fault B _ E
  rintro _ _ rfl u;refine aK (x:=(⟨16,i,t.fault,0,0⟩:bX)) u.p1 fg rfl rfl (λ_ u=>aE fg u.At ?_);rw[hse];exact⟨rfl,u.drop.mut⟩
 have hf0:t.fault=0:=bL
 refine dO Zz (C137 K e.b t O nv rg pl es _ _ u.hb u.p3.dQ u.p4.eH.1 (λ_ e=>V _ (u.aF.then e)) U.p bL) ?_;rintro v _ ⟨hex,hv⟩;have u:=u.ext hex
 rcases hv with⟨ey,_⟩|⟨x,xa,xb,xv,av,bv,ra,rb,vE,rfl,zO,_⟩
 .obtain⟨_,_,_,h⟩:=azB hf0;rw[ey]at h;cases h
 obtain⟨ge,gf,rfl,_,_⟩:=iU (zO _ (V _ u.aF))
 have Qi:∀w,K w->dz (λ_=>True) w (hM ge) x.e/\dz (λ_=>True) w (hM gf) x.f:=λw hw=>by
  obtain⟨_,_,h4,h5,h6⟩:=iU (zO w hw);cases h4
  exact⟨h5,h6⟩
 obtain⟨⟨Oq,u9⟩,hv1,hv2⟩:=Z.st t B6 hf0 _ _ _ vE;obtain⟨hx,_,_,_,_,_,_,_,r,en,p',Bj,sr,ar⟩:=U.top vE;have iS:(Bk.cons x xa xb r).str:=U.p.st _ (by rw[Bj];exact ob ..);have hxe:=hx.e;have ht1:{t with fault:=if (eD t x.e).2=true then t.fault else 2}=t:=by rw[hv1];rfl
 refine aN rfl (aN rfl (aN rfl (aN rfl (have u:=eK.shut (Φ:=λ_=>True) (t:=t) W u.p4.p4.p4.p4.p4;aQ u jk λb6 _ u=>aK (x:=(⟨x.kind,x.eB,x.name,ge,gf,x.n,x.body,x.eo,x.at_⟩:aZ)) u eG rfl rfl λ_ u=>have u:=u.drew;aD (aA IG (aB iW u.p3.hb rfl (aA fX (aB (v:=.string x.name) gn u.hb rfl (aD (aA IH ?_))))))))));refine aB iW u.p3.hb rfl (aA fX (aB (v:=.string x.name) gn u.hb rfl (aS Ha u (C159 _ (cX m.p) x.name _ (hu.cs _ (V _ u.aF)) bL) λ_ Ms u=>?_)));refine⟨aI iW (u.p3.hb.cell rfl),?_⟩
 refine⟨aI gn (u.hb.cell rfl),?_⟩;refine aS Ha u (C159 _ (cK m.p) x.name _ (hu.ks _ (V _ u.aF)) bL) (λ_ Ms u=>aD (aA Dd (xJ a.pv eN u.p3.hb rfl (aS aqx u (C52 m.p a.pv _ _ (hu.pr _ (V _ u.aF)) Z.pz) λ_ Ms u=>aQ u nI λb13 _ u=>?_))));have u:=mN.shut (m:=m) (⟨hu,he,pe,bL⟩) ((((((u.enc (cs':=ia (⟨0,0,0,0,0⟩:bX)) rfl).p3).p7).p7).p7).p7);obtain⟨c,hc⟩:∃c,c=dL m x:=⟨_,rfl⟩;obtain⟨lk,hlk⟩:∃lk,lk=fz m x:=⟨_,rfl⟩;obtain⟨ln,F3⟩:∃ln,ln=fu m x:=⟨_,rfl⟩;have u:=u.p3.p4.p4.p4;have NU:il m i=(if x.kind=10/\m.eQ.getD (fz m x).toNat 0≠i then({m with fault:=3,ke:=i},⟨16,i,3,0,0⟩)else({ (dU m t i x).1 with l:=m.l.set i.toNat (tS m t i x)},{ (dU m t i x).2.2 with t:=i})):=by unfold il;rw[ht];dsimp only;rw[eb bL,vE]
 refine⟨λw'=>¬ (x.kind=10/\m.eQ.getD (fz m x).toNat 0≠i)/\St w F [bZ b13 (ia ((dU m t i x).2.2)),bZ b6 (ia (⟨x.kind,x.eB,x.name,ge,gf,x.n,x.body,x.eo,x.at_⟩:aZ)),bZ b4 (ia (⟨0,0,0,0,0⟩:bX)),re K e.b m.room (dU m t i x).2.1,mN K p (dU m t i x).1 i.toNat e] w',?_,?_⟩
 .refine aA dK (aB (v:=hH x.kind) bO u.p1.hb rfl (aG (aC (λY=>?_) λY=>?_)))
  .have G:(dU m t i x)=(m,oS t x.eB (hG m t (dL m x)),xh m t x):=by unfold dU;rw[ee Y]
   have J:¬ (x.kind=10/\m.eQ.getD (fz m x).toNat 0≠i):=bL
   refine aE eG u.p1.At (have u:=St.join u.p4.p4;bD arq u (H':=λ_=>sep (re K e.b m.room (oS t x.eB (hG m t (dL m x)))) (mN K p m i.toNat e)) (Φ:=λv _=>v=hM (xh m t x)) (λB E I=>?_) ?_)
   .exact C160 K p m i.toNat e t x ⟨x.kind,x.eB,x.name,ge,gf,x.n,x.body,x.eo,x.at_⟩ B (dL m x) _ E (λw' hc=>V w' (I w' hc).aF) U Z.mem zO (hx.rg bL)
   rintro _ _ rfl u;have u:=u.split;refine aK (x:=(xh m t x:bX)) u.p2 fg rfl rfl (λ_ u=>?_);have u:=u.p2.p2.p4.p4.p4;rw[G];exact⟨J,u⟩
  refine aG (aC (λk3=>?_) λk3=>?_)
  .have G:(dU m t i x)=(m,pF m t ⟨3,fu m x,dL m x,(eD t x.e).1⟩,⟨3,0,dL m x,(eD t x.e).1,0⟩):=by unfold dU;rw[eb Y,ee k3]
   have J:¬ (x.kind=10/\m.eQ.getD (fz m x).toNat 0≠i):=bL
   refine aA iN (aB (v:=hM ge) jy u.p1.hb rfl (have u:=u.p3;bD MT u (H':=λ_=>re K e.b m.room t) (Φ:=λv _=>v=.tuple #[hH (eD t x.e).1,.bool (eD t x.e).2]) (λB E I=>?_) ?_))
   .have:=C161 K _ e.b m.room t B _ x.e _ E (λw' hc=>V w' (I w' hc).aF) (Qi _ (V _ u.aF)).1 bL bL;rw[ht1]at this;exact this
   rintro _ _ rfl u;refine aN rfl (aN rfl ?_);obtain⟨O,nv,rg,pl,es,W,u⟩:=eK.open u;refine aD (aA oC (aB z9 u.hb rfl (pop (xf 3 (fu m x) (dL m x) (eD t x.e).1) (have u:=u.p1;bD Rr u (H':=λ_=>iX O m.room (sj m.room t.buf (⟨3,fu m x,dL m x,(eD t x.e).1⟩:bG))) (Φ:=λ_ _=>True) (λB E I=>?_) ?_))))
   .exact(C162 O m.room t.buf (⟨3,fu m x,dL m x,(eD t x.e).1⟩:bG) B _ E bL).mono λ_ _ r=>r.mono λ_ _ h=>⟨trivial,h.2⟩
   rintro _ _ _ u;refine pop (mw 3 (dL m x) (eD t x.e).1) (have u:=eK.shut (Φ:=λ_=>True) (t:=pF m t (⟨3,fu m x,dL m x,(eD t x.e).1⟩:bG)) W u.p4.p4.p4.p3.p4;aK (x:=(⟨3,0,dL m x,(eD t x.e).1,0⟩:bX)) u.p1 fg rfl rfl λw14' u=>?_);have u:=u.p4.p2.p4.p4.p4;rw[G];exact⟨J,u⟩
  refine aG (aC (λk5=>?_) λk5=>?_)
  .have G:(dU m t i x)=(m,pF m t ⟨5,fu m x,0,0⟩,⟨4,0,fu m x,0,0⟩):=by unfold dU;rw[eb Y,eb k3,ee k5]
   have J:¬ (x.kind=10/\m.eQ.getD (fz m x).toNat 0≠i):=bL
   have u:=u.p3;obtain⟨O,nv,rg,pl,es,W,u⟩:=eK.open u;refine aD (aA oC (aB z9 u.hb rfl (pop (vi 5 (fu m x)) (have u:=u.p1;bD Rr u (H':=λ_=>iX O m.room (sj m.room t.buf (⟨5,fu m x,0,0⟩:bG))) (Φ:=λ_ _=>True) (λB E I=>?_) ?_))))
   .exact(C162 O m.room t.buf (⟨5,fu m x,0,0⟩:bG) B _ E bL).mono λ_ _ r=>r.mono λ_ _ h=>⟨trivial,h.2⟩
   rintro _ _ _ u;refine pop (oc 4 (fu m x)) (have u:=eK.shut (Φ:=λ_=>True) (t:=pF m t (⟨5,fu m x,0,0⟩:bG)) W u.p4.p4.p4.p3.p4;aK (x:=(⟨4,0,fu m x,0,0⟩:bX)) u.p1 fg rfl rfl λw16' u=>?_);have u:=u.p4.p2.p4.p4.p4;rw[G];exact⟨J,u⟩
  refine aG (aC (λk6=>?_) λk6=>?_)
  .have G:(dU m t i x)=(m,pF m t ⟨6,fu m x,0,0⟩,⟨5,0,fu m x,0,0⟩):=by unfold dU;rw[eb Y,eb k3,eb k5,ee k6]
   have J:¬ (x.kind=10/\m.eQ.getD (fz m x).toNat 0≠i):=bL
   have u:=u.p3;obtain⟨O,nv,rg,pl,es,W,u⟩:=eK.open u;refine aD (aA oC (aB z9 u.hb rfl (pop (vi 6 (fu m x)) (have u:=u.p1;bD Rr u (H':=λ_=>iX O m.room (sj m.room t.buf (⟨6,fu m x,0,0⟩:bG))) (Φ:=λ_ _=>True) (λB E I=>?_) ?_))))
   .exact(C162 O m.room t.buf (⟨6,fu m x,0,0⟩:bG) B _ E bL).mono λ_ _ r=>r.mono λ_ _ h=>⟨trivial,h.2⟩
   rintro _ _ _ u;refine pop (oc 5 (fu m x)) (have u:=eK.shut (Φ:=λ_=>True) (t:=pF m t (⟨6,fu m x,0,0⟩:bG)) W u.p4.p4.p4.p3.p4;aK (x:=(⟨5,0,fu m x,0,0⟩:bX)) u.p1 fg rfl rfl λw18' u=>?_);have u:=u.p4.p2.p4.p4.p4;rw[G];exact⟨J,u⟩
  refine aG (aC (λk7=>?_) λk7=>?_)
  .have G:(dU m t i x)=(m,pF m t ⟨7,0,0,0⟩,⟨6,0,0,0,0⟩):=by unfold dU;rw[eb Y,eb k3,eb k5,eb k6,ee k7]
   have J:¬ (x.kind=10/\m.eQ.getD (fz m x).toNat 0≠i):=bL
   have u:=u.p3;obtain⟨O,nv,rg,pl,es,W,u⟩:=eK.open u;refine aD (aA oC (aB z9 u.hb rfl (pop (Aj 7) (have u:=u.p1;bD Rr u (H':=λ_=>iX O m.room (sj m.room t.buf (⟨7,0,0,0⟩:bG))) (Φ:=λ_ _=>True) (λB E I=>?_) ?_))))
   .exact(C162 O m.room t.buf (⟨7,0,0,0⟩:bG) B _ E bL).mono λ_ _ r=>r.mono λ_ _ h=>⟨trivial,h.2⟩
   rintro _ _ _ u;refine pop (JA 6) (have u:=eK.shut (Φ:=λ_=>True) (t:=pF m t (⟨7,0,0,0⟩:bG)) W u.p4.p4.p4.p3.p4;aK (x:=(⟨6,0,0,0,0⟩:bX)) u.p1 fg rfl rfl λw20' u=>?_);have u:=u.p4.p2.p4.p4.p4;rw[G];exact⟨J,u⟩
  refine aG (aC (λk8=>?_) λk8=>?_)
  .have G:(dU m t i x)=(m,t,⟨7,0,0,0,0⟩):=by unfold dU;rw[eb Y,eb k3,eb k5,eb k6,eb k7,ee k8]
   have J:¬ (x.kind=10/\m.eQ.getD (fz m x).toNat 0≠i):=bL
   refine pop (JA 7) (aK (x:=(⟨7,0,0,0,0⟩:bX)) u fg rfl rfl λ_ u=>?_);have u:=u.p4.p4.p4.p4.p4;rw[G];exact⟨J,u⟩
  refine aG (aC (λk4=>?_) λk4=>?_)
  .have G:(dU m t i x)=(ri m t x,oS t x.eB (js m.mem (dL m x)),tu m t x):=by unfold dU;rw[eb Y,eb k3,eb k5,eb k6,eb k7,eb k8,ee k4]
   have J:¬ (x.kind=10/\m.eQ.getD (fz m x).toNat 0≠i):=bL
   refine aE eG u.p1.At (have u:=St.join u.p4.p4;bD ars u (H':=λ_=>sep (re K e.b m.room (oS t x.eB (js m.mem (dL m x)))) (mN K p (ri m t x) i.toNat e)) (Φ:=λv _=>v=hM (tu m t x)) (λB E I=>?_) ?_)
   .exact C163 K p m i.toNat e t x ⟨x.kind,x.eB,x.name,ge,gf,x.n,x.body,x.eo,x.at_⟩ B _ E (λw' hc=>V w' (I w' hc).aF) U Z.mem zO (hx.rg bL) oq hxe hv1 hv2
   rintro _ _ rfl u;have u:=u.split;refine aK (x:=(tu m t x:bX)) u.p2 fg rfl rfl (λ_ u=>?_);have u:=u.p2.p2.p4.p4.p4;rw[G];exact⟨J,u⟩
  have aa8:x.kind=9\/x.kind=10:=bL
  obtain⟨j,hj,BR,_⟩:=lE (dI.1 (hx.lk aa8));have Co:=(ir.1 BR).1;have hjk:fz m x=(j:Int):=hj;refine aG (aC (λk9=>?_) λk9=>?_)
  .have G:(dU m t i x)=(o9 m x i,t,⟨10,0,fz m x,0,0⟩):=by unfold dU;rw[eb Y,eb k3,eb k5,eb k6,eb k7,eb k8,eb k4,ee k9]
   have J:¬ (x.kind=10/\m.eQ.getD (fz m x).toNat 0≠i):=bL
   have u:=u.p4;obtain⟨a,M,u⟩:=mN.open u;refine aD (aA uX (aB eP u.hb rfl (dJ u.p2 cQ (show 0<=fz m x by omega) (show fz m x<_ by omega) λ_ asF=>jj (i:Int) u.p2 bO asF bL λ_ u=>pop (oc 10 (fz m x)) (have u:=mN.shut (m:=o9 m x i) (⟨⟨M.1.pr,M.1.cs,M.1.ks,M.1.mem,M.1.rc⟩,M.2⟩) u.p4.p4.p2.p4.p4;aK (x:=(⟨10,0,fz m x,0,0⟩:bX)) u.p1 fg rfl rfl λ_ u=>?_))));have u:=u.p1.p4.p4.p4.p4;rw[G];exact⟨J,u⟩
  have G:(dU m t i x)=(o9 m x (-1),t,⟨11,0,fz m x,0,0⟩):=by unfold dU;rw[eb Y,eb k3,eb k5,eb k6,eb k7,eb k8,eb k4,eb k9]
  have u:=u.p4;obtain⟨a,M,u⟩:=mN.open u;have hwl:=u.p2.dQ;obtain⟨ov,ZO⟩:=gx m.eQ (i:=(fz m x).toNat) bL;have hgd:m.eQ.getD (fz m x).toNat 0=ov:=by rw[n0,ZO];rfl
  refine aD (aA uX (aB eP u.hb rfl (aM cQ hwl (show 0<=fz m x by omega) ZO λq69 h69=>aE bO h69 (bT (aC (λc72=>?_) λc72=>?_)))))
  .have u:=u.p4;have u:=xg ((mN.shut (m:=m) M u.p4.p4.p4.p4).p4);rw[mI ht]at u;refine bD ahi u (H':=λ_=>gR K p {m with fault:=3,ke:=i}) (Φ:=λv _=>v=hM (⟨16,i,3,0,0⟩:bX)) (λB E I=>?_) ?_
   .exact C158 K p m i 3 B _ E
   rintro _ _ rfl u;refine aK (x:=(⟨16,i,3,0,0⟩:bX)) u.p3 fg rfl rfl (λ_ u=>aE fg u.At ?_);have u:=u.drop.p1.drop.p1.drop;rw[NU,ee ⟨bL,by rw[hgd];exact c72⟩];exact⟨rfl,u.mut⟩
  refine aD (aA uX (aB eP u.hb rfl (dJ u.p2 cQ (show 0<=fz m x by omega) (show fz m x<_ by omega) λ_ alC=>jj (-1:Int) u.p2 bO alC bL λ_ u=>pop (oc 11 (fz m x)) (have u:=mN.shut (m:=o9 m x (-1)) (⟨⟨M.1.pr,M.1.cs,M.1.ks,M.1.mem,M.1.rc⟩,M.2⟩) u.p4.p4.p2.p4.p4;aK (x:=(⟨11,0,fz m x,0,0⟩:bX)) u.p1 fg rfl rfl λ_ u=>?_))));have u:=u.p1.p4.p4.p4.p4;rw[G];exact⟨by rw[hgd];exactλh=>c72 h.2,u⟩
 rintro _ ⟨aa9,u⟩ _;have azD:(dU m t i x).2.1.cC=(.cons x xa xb r,en)::p':=by rw[Cc];exact Bj
 have yq:=Cb (m:=m) (t:=t) (i:=i) (x:=x);have alD:sq (UJ (cX m.p) (cK m.p) t.names) (dU m t i x).2.1:=JP U Z.rm.2
 have aba:xV (cX m.p) (cK m.p) { (dU m t i x).2.1 with cC:=gy (dU m t i x).2.1.cC}:=by
  show sq (UJ _ _ (dU m t i x).2.1.names) _;rw[vp];exact JQ alD
 refine aA RG (aV u bO (dM rfl) rfl λ_ u=>have u:=(u.enc (cs':=ia ({ (dU m t i x).2.2 with t:=i}:bX)) rfl).p3;bD MS u (H':=λ_=>re K e.b m.room { (dU m t i x).2.1 with cC:=gy (dU m t i x).2.1.cC}) (Φ:=λ_ _=>True) (λB E I=>?_) ?_)
 .exact(C164 K _ e.b m.room (dU m t i x).2.1 B x xa xb r en p' _ E (λw' hc=>V w' (I w' hc).aF) azD iS (by rw[Cc];omega)).mono λ_ _ r=>r.mono λ_ _ h=>⟨trivial,h.2⟩
 rintro _ _ _ u;refine bD ahe u (H':=λ_=>re K e.b m.room (tS m t i x)) (Φ:=λ_ _=>True) (λB E I=>?_) ?_
 .exact(C117 K e.b m.room { (dU m t i x).2.1 with cC:=gy (dU m t i x).2.1.cC} (tS m t i x) _ _ _ B _ E (λw' hc=>V w' (I w' hc).aF) aba (qq aba).1).mono λ_ _ r=>r.mono λ_ _ h=>⟨trivial,h.2⟩
 rintro _ _ _ u;refine aE (x:=({ (dU m t i x).2.2 with t:=i}:bX)) fg u.p1.At (aK (x:=({ (dU m t i x).2.2 with t:=i}:bX)) u.p3 fg rfl rfl λ_ u=>aE fg u.At ?_);have u:=u.drop.p1.drop.p1.drop.p1.p1;rw[<- yq]at u;have u:=xg u;rw[aap]at u;rw[NU,eb aa9];exact⟨rfl,u.mut⟩
def C90(K:g7)(p:Nat)(m:fY)(q:bV)(gc:SV)(t:jJ)(F:Nat->Prop)(w:World)(hF:(gR K p m).p w F)(hK:∀w',gC F w w'->K w')(jO:my m)(oq:MB m.mem 1000000)(h0:0<=q.t)(ht:m.l[q.t.toNat]?=some t) :
   CR 90 [.pointer (some ⟨p,0,none⟩),hM (⟨q.kind,q.t,q.i,gc⟩:bN)] w (λv w'=>v=hM (sO q.t (dB t.buf q.i))/\mH F (gR K p (sQ m t q)) w w'):=by
 have u:=St.begin hF;have B6:=j0 ht;have jK:=jO.th t B6;have nB:=(ir.1 ht).1;have GW:=jK.bl;refine pJ Tryz.func90 (pl:=P90) ?_;refine cJ (x:=(⟨q.kind,q.t,q.i,gc⟩:bN)) u (λb3 _ u=>aQ u nI λb4 _ u=>?_);have u:=(u.enc (cs':=ia (⟨0,0,0,0,0⟩:bX)) rfl).p2;obtain⟨a,hu,u⟩:=gR.open u;have pe:=u.p4.iP;obtain⟨e,M⟩:=gx a.ps (i:=q.t.toNat) bL;refine⟨λx5 w'=>∃J,x5=.pointer (some ⟨J,0,none⟩)/\St w F [bZ J (ia (dB t.buf q.i)),bZ b4 (ia (⟨0,0,0,0,0⟩:bX)),bZ b3 (ia (⟨q.kind,q.t,q.i,gc⟩:bN)),re K e.b m.room ({t with buf:=jF t.buf q.i}),mN K p m q.t.toNat e] w',?_,?_⟩
 .have u:=u.drew;refine aD (aA uY (aB IF u.hb rfl (aA mG (aB (v:=hH q.t) bO u.p6.hb rfl (dJ u.p3 KQ h0 (by have:=pe;omega) λq14 Xv=>fV u.p3 GP Xv M ?_)))));have u:=ZM u.p4 M ht;obtain⟨Y,nv,rg,pl,es,hk,u⟩:=eK.open u;refine aD (aA oC (aB z9 u.hb rfl (aA sW (aB (v:=hH q.i) bO u.p11.hb rfl ⟨?_,?_,trivial⟩))))
  .have u:=u.p1;refine bD afU u (H':=λ_=>iX Y m.room (jF t.buf q.i)) (Φ:=λv _=>v=.tuple #[hM (dB t.buf q.i),hH (wV t.buf q.i)]) (λG I U=>?_) ?_
   .exact C155 Y m.room t.buf q.i G _ I bL
   rintro _ _ rfl u;refine aN rfl (aN rfl (aQ u qY λJ _ u=>?_));refine⟨aI IF (u.p7.hb.cell rfl),?_⟩;refine⟨aI bO (u.p12.hb.cell (v:=hH q.t) rfl),?_⟩;refine⟨RR u.p10 GP Xv M,?_⟩;refine⟨aI z9 (u.p2.hb.cell rfl),?_⟩;refine⟨aI bO (u.p12.hb.cell (v:=hH q.i) rfl),?_⟩;exact aK (x:=(dB t.buf q.i)) u ij rfl rfl (λ_ u=>have u:=eK.shut (Φ:=λ_=>True) (t:={t with buf:=jF t.buf q.i}) hk u.p5.p5.p5.p4.p5;have u:=mN.shut (m:=m) ⟨hu,M,pe,bL⟩ u.p2.p6.p6.p6.p6;have u:=u.p1.p4.p4.p4;⟨J,rfl,u⟩)
  refine aQ u qY (λJ _ u=>?_);refine⟨aI IF (u.p7.hb.cell rfl),?_⟩;refine⟨aI bO (u.p12.hb.cell (v:=hH q.t) rfl),?_⟩;refine⟨RR u.p10 GP Xv M,?_⟩;refine⟨aI z9 (u.p1.hb.cell rfl),?_⟩;refine⟨aI bO (u.p12.hb.cell (v:=hH q.i) rfl),?_⟩;have u:=u.p2;refine bD afU u (H':=λ_=>iX Y m.room (jF t.buf q.i)) (Φ:=λv _=>v=.tuple #[hM (dB t.buf q.i),hH (wV t.buf q.i)]) (λG I U=>?_) ?_
  .exact C155 Y m.room t.buf q.i G _ I bL
  rintro _ _ rfl u;exact aN rfl (aN rfl (aK (x:=(dB t.buf q.i)) u.p1 ij rfl rfl λ_ u=>have u:=eK.shut (Φ:=λ_=>True) (t:={t with buf:=jF t.buf q.i}) hk u.p5.p5.p5.p4.p5;have u:=mN.shut (m:=m) ⟨hu,M,pe,bL⟩ u.p2.p6.p6.p6.p6;have u:=u.p1.p4.p4.p4;⟨J,rfl,u⟩))
 rintro _ _ ⟨J,rfl,u⟩ _;refine aA gE (aB (v:=hH (dB t.buf q.i).kind) bO u.hb rfl (aG (aC (λc=>?_) λc=>?_)))
 .have u:=u.p4;obtain⟨a,B,u⟩:=mN.open u;have u:=u.drew;refine aD (aA sX (aB KP u.hb rfl (aA l4 (aB (v:=hH (dB t.buf q.i).cell) bO u.p5.hb rfl (aA oF (aB (v:=hH (dB t.buf q.i).n) bO u.p5.hb rfl (have u:=u.p1;bD afV u (H':=λ_=>iE a.q a.ov a.fv (fe m.mem (dB t.buf q.i).cell (dB t.buf q.i).n)) (Φ:=λ_ _=>True) (λG I U=>?_) ?_)))))))
  .exact(C156 a.q a.ov a.fv m.mem G _ _ _ I (λw' hc=>B.1.mem _ (hK w' (U w' hc).aF)) jO.mem oq).mono λ_ _ r=>r.mono λ_ _ h=>⟨trivial,h.2⟩
  rintro _ _ _ u;refine aA mG (aB (v:=hH q.t) bO u.p7.hb rfl (aA l4 (aB (v:=hH (dB t.buf q.i).cell) bO u.p5.hb rfl (aA oF (aB (v:=hH (dB t.buf q.i).n) bO u.p5.hb rfl (pop (yG 12 q.t (dB t.buf q.i).cell (dB t.buf q.i).n) (aK (x:=(⟨12,q.t,(dB t.buf q.i).cell,(dB t.buf q.i).n,0⟩:bX)) u.p6 fg rfl rfl λ_ u=>aE fg u.At ?_)))))));have V:jG m.mem (dB t.buf q.i)=fe m.mem (dB t.buf q.i).cell (dB t.buf q.i).n:=by unfold jG;rw[ee c]
  have E:sO q.t (dB t.buf q.i)=⟨12,q.t,(dB t.buf q.i).cell,(dB t.buf q.i).n,0⟩:=by unfold sO;rw[ee c]
  have u:=mN.shut (m:={m with mem:=fe m.mem (dB t.buf q.i).cell (dB t.buf q.i).n}) ⟨⟨B.1.pr,B.1.cs,B.1.ks,λw Z=>(B.1.mem w Z).write,B.1.rc⟩,B.2⟩ u.drop.p6.drop.p5.drop.p4.p4.p4.p3.p4;have u:=xg (m:={m with mem:=fe m.mem (dB t.buf q.i).cell (dB t.buf q.i).n}) (tp:=e) (t:={t with buf:=jF t.buf q.i}) u.p1;have O:sQ m t q={ {m with mem:=fe m.mem (dB t.buf q.i).cell (dB t.buf q.i).n}with l:=m.l.set q.t.toNat ({t with buf:=jF t.buf q.i})}:=by unfold sQ;rw[V]
  rw[O,E];exact⟨rfl,u.mut⟩
 refine aG (aC (λW=>?_) λW=>?_)
 .refine aA mG (aB (v:=hH q.t) bO u.p2.hb rfl (pop (Hw 14 q.t) (aK (x:=(⟨14,q.t,0,0,0⟩:bX)) u.p1 fg rfl rfl λ_ u=>aE fg u.At ?_)));have u:=u.p4;obtain⟨a,B,u⟩:=mN.open u;have V:jG m.mem (dB t.buf q.i)=m.mem:=by unfold jG;rw[eb c,ee W]
  have E:sO q.t (dB t.buf q.i)=⟨14,q.t,0,0,0⟩:=by unfold sO;rw[eb c,ee W]
  have u:=mN.shut (m:={m with mem:=m.mem}) B u.p5.drop.p6.drop.p5.drop.p4.p4.p4.p4.p4;have u:=xg (m:={m with mem:=m.mem}) (tp:=e) (t:={t with buf:=jF t.buf q.i}) u.p1;have O:sQ m t q={ {m with mem:=m.mem}with l:=m.l.set q.t.toNat ({t with buf:=jF t.buf q.i})}:=by unfold sQ;rw[V]
  rw[O,E];exact⟨rfl,u.mut⟩
 have u:=u.p4;obtain⟨a,B,u⟩:=mN.open u;have u:=u.drew;refine aD (aA sX (aB KP u.hb rfl (aA gX (aB (v:=hH (dB t.buf q.i).line) bO u.p5.hb rfl (have u:=u.p1;bD anb u (H':=λ_=>iE a.q a.ov a.fv (nQ m.mem (dB t.buf q.i).line)) (Φ:=λ_ _=>True) (λG I U=>?_) ?_)))))
 .exact(C157 a.q a.ov a.fv m.mem G _ _ I (λw' hc=>B.1.mem _ (hK w' (U w' hc).aF)) jO.mem oq).mono λ_ _ r=>r.mono λ_ _ h=>⟨trivial,h.2⟩
 rintro _ _ _ u;refine aA mG (aB (v:=hH q.t) bO u.p7.hb rfl (aA gX (aB (v:=hH (dB t.buf q.i).line) bO u.p5.hb rfl (pop (tn 13 q.t (dB t.buf q.i).line) (aK (x:=(⟨13,q.t,(dB t.buf q.i).line,0,0⟩:bX)) u.p6 fg rfl rfl λ_ u=>aE fg u.At ?_)))));have V:jG m.mem (dB t.buf q.i)=nQ m.mem (dB t.buf q.i).line:=by unfold jG;rw[eb c,eb W]
 have E:sO q.t (dB t.buf q.i)=⟨13,q.t,(dB t.buf q.i).line,0,0⟩:=by unfold sO;rw[eb c,eb W]
 have u:=mN.shut (m:={m with mem:=nQ m.mem (dB t.buf q.i).line}) ⟨⟨B.1.pr,B.1.cs,B.1.ks,λw Z=>(B.1.mem w Z).out,B.1.rc⟩,B.2⟩ u.drop.p6.drop.p5.drop.p4.p4.p4.p3.p4;have u:=xg (m:={m with mem:=nQ m.mem (dB t.buf q.i).line}) (tp:=e) (t:={t with buf:=jF t.buf q.i}) u.p1;have O:sQ m t q={ {m with mem:=nQ m.mem (dB t.buf q.i).line}with l:=m.l.set q.t.toNat ({t with buf:=jF t.buf q.i})}:=by unfold sQ;rw[V]
 rw[O,E];exact⟨rfl,u.mut⟩
def C56(K:g7)(p:Nat)(m:fY)(qB:List cL)(lv:Value)(U:List cD)(F:Nat->Prop)(w:World)(hF:(gR K p m).p w F)(V:∀w',gC F w w'->K w')(hrm:1<=m.room/\m.room<=16)(hlk:(cK m.p).length<=1000)(hl:∀w',gC F w w'->dz (λ_=>True) w' lv U)(O:C0 K U qB)
   (jK:∀t∈qB,xV (cX m.p) (cK m.p) (vP t)/\t.body=(Hy t.body).flat) (hn:qB.length<=1000) :
   CR 56 [.pointer (some ⟨p,0,none⟩),lv] w (λv w'=>v=.tuple #[]/\mH F (gR K p (qD m qB)) w w'):=by
 have u:=St.begin hF;have OD:=O.1;refine pJ Tryz.func56 (pl:=P56) ?_;obtain⟨a,I,u⟩:=gR.open u;have pe:=u.p4.iP;refine aD (aA uY (aV u IF (dM rfl) rfl λ_ u=>aD (aA uX (aV u eP (dM rfl) rfl λ_ u=>aD (aA IH (aB iW u.hb rfl (aH ix (I.ks _ (V _ u.aF)) ?_)))))));have u:=(((u.p2.drop.p2.drop.p2.drop.eW (α:=Int)).p2).p1).p2;refine⟨λM x w'=>∃(k:Nat) (ov:Value),x=hH (k:Int)/\M=(cK m.p).length-k/\k<=(cK m.p).length/\St w F [bZ p (qC {a with ow:=ov,ll:=.slice none 0 0} m),bF ov (po k (-1:Int)),iE a.q a.ov a.fv m.mem] w',⟨_,0,_,rfl,rfl,kO _,u⟩,?_⟩
 rintro M _ _ ⟨k,ov,rfl,rfl,Oq,u⟩ _;refine aO (aC (λc=>?_) λc=>?_)
 .refine aD (aA uX (aB eP u.hb rfl (aW ([-1]:List Int) u cQ rfl rfl (dM rfl) λs27 _ u=>?_)));have alF:=u.dQ;exact bJ u.p2 cQ alF (by rw[Ce,lH];omega) cZ (λZ _ u=>have u:=u.p1.drop;aD (aA uX (aV u.p1 eP (dM rfl) u.dQ.one λ_ u=>aJ bL ⟨_,bL,k+1,Z,rfl,rfl,bL,by rw[Zp];exact u⟩)))
 refine aH fr (hl _ u.aF) ?_;rw[show k=(cK m.p).length from bL]at u;have u:=((((((u.Aq (H:=yl K m.room)).eW (α:=Ptr)).p4).p4).p3).p3).p4;refine⟨λM x w'=>∃(j:Nat) (B:Value) (ps:List Ptr),x=hH (j:Int)/\M=U.length-j/\j<=U.length/\St w F [bZ p (qC {a with ow:=ov,ll:=B} m),bF B ps,gY (yl K m.room) ps ((qB.take j).map UN),bF ov (po (cK m.p).length (-1:Int)),iE a.q a.ov a.fv m.mem] w',⟨_,0,_,_,rfl,rfl,kO _,u⟩,?_⟩;rintro M _ _ ⟨j,B,ps,rfl,rfl,hj1,u⟩ _;refine aO (aC (λc2=>?_) λc2=>?_);rotate_left
 .rw[kp bL]at u;have u:=u.p2.p2.p3.p4.p4;exact⟨rfl,(gR.shut (m:=qD m qB) (a:={a with ow:=ov,ll:=B,ps:=ps}) ⟨I.pr,I.cs,I.ks,I.mem,I.rc⟩ u).mut⟩
 obtain⟨tv,Q0⟩:=gx U (i:=((j:Nat):Int).toNat) bL;obtain⟨t,ht⟩:=gx qB (i:=j) bL;obtain⟨G,gb,rows,rfl,J,hgb⟩:=O.2 j _ _ Q0 ht;obtain⟨NV,hbk⟩:=jK t (j0 ht);have Gm:t.dN.length<=1000:=NV.nb;refine aM fr (hl _ u.aF) bL Q0 (λq36 h36=>aE mP h36 (aQ u tc λb5 _ u=>aK (x:=(⟨t.name,G,gb,t.at_⟩:cD)) u mP rfl rfl λ_ u=>aD (aA acz (aB bO u.p1.hb rfl (dO amW (C49 m.room _) ?_)))));rintro v43 _ hh;obtain⟨_,_,W,rfl,cM⟩:=hh.resolve_left (λ_=>bL);have u:=u.made cM;refine aN rfl (aN rfl (have u:=u.drew;aA fP (aB (v:=hM G) iW u.p1.hb rfl (aA fP (aB (v:=hM G) iW u.p1.hb rfl (aH ix (J _ (V _ u.aF)) (v9 (0:Int) u cQ ue bL bL cZ λs52 _ u=>?_)))))))
 rw[o6]at u;refine⟨aI iW (u.p2.hb.cell (v:=hM G) rfl),?_⟩;obtain⟨FT,rfl⟩:=u.fQ;refine pop (JC (some ⟨W,0,none⟩) G.a G.n G.cap FT.a FT.n FT.cap) (nf u λE _ u=>have u:=(u.eW (α:=xd)).gz (Φ:=λw=>Dw K w [] []/\True) (λ_=>⟨trivial,trivial⟩);have u:=eK.shut (Φ:=λ_=>True) (t:=(⟨t.dN,po t.dN.length 0,[],0,[]⟩:jJ)) (es:=[]) J u.p1.p3.p4.p4;aA lh (aB (v:=hM gb) jA u.p1.hb rfl (bD MR u (H':=λ_=>re K E m.room (vP t)) (Φ:=λ_ _=>True) (λY dZ dV=>?_) ?_)))
 .exact(C116 K _ E m.room ⟨t.dN,po t.dN.length 0,[],0,[]⟩ Y gb rows (Hy t.body) false _ dZ (λw' hc=>V w' (dV w' hc).aF) (λw _=>by rw[<- hbk];exact hgb w) (show(0:Nat)<=100000 by decide)).mono λ_ _ r=>r.mono λ_ _ h=>⟨trivial,h.2⟩
 rintro _ _ _ u;refine bD ahe u (H':=λ_=>re K E m.room (UN t)) (Φ:=λ_ _=>True) (λY dZ dV=>?_) ?_
 .exact(C117 K E m.room (vP t) (UN t) _ _ _ Y _ dZ (λw' hc=>V w' (dV w' hc).aF) NV (qq NV).1).mono λ_ _ r=>r.mono λ_ _ h=>⟨trivial,h.2⟩
 rintro _ _ _ u;refine aD (aA uY ?_);have oy:=u.p4.iP;rw[mv,lQ]at oy;refine aB IF u.p2.hb rfl (aW ([(⟨E⟩:Ptr)]) u KQ rfl rfl (dM rfl) λs67 _ u=>?_);have abc:=u.dQ;exact bJ u.p4 KQ abc (by simp;omega) cZ (λs68 _ u=>have u:=u.p1.drop;aD (aA uY (aV u.p3 IF (dM rfl) u.dQ.one λ_ u=>have u:=(((St.Ee (H:=yl K m.room) (p:=⟨E⟩) (x:=UN t) u.p3.drop.p2.p3).p4).p4).p2;have u:=u.p4.p4;aJ bL ⟨_,bL,j+1,s68,ps++[⟨E⟩],rfl,rfl,bL,by rw[<- gI (k:=j) ht];exact u⟩)))
def ThK.mono{K K2:g7}{E:cD}{t:cL}(h:ThK K E t)(B:∀w,K2 w->K w):ThK K2 E t:=by
 obtain⟨I,G,rows,e,h1,h2⟩:=h
 exact⟨I,G,rows,e,λw u=>h1 w (B w u),λw=>⟨λw' u=>(h2 w).1 w' (B w' u),λu=>(h2 w).2 (B w u)⟩⟩
def C0.mono{K K2:g7}{u:List cD}{qB:List cL}(h:C0 K u qB)(E:∀w,K2 w->K w):C0 K2 u qB:=⟨h.1,λj B t h1 h2=>(h.2 j B t h1 h2).mono E⟩
def DH{p:cE}(hc:FA p){t:cL}(ht:t∈gj p):t.body=(Hy t.body).flat:=by
 obtain⟨_,h2,_⟩:=hc.f.qB ht
 obtain⟨_,_,b,h5,h6,_⟩:=kU h2
 rw[h5,ND h6]
def Bf(K:g7)(lv:SV)(qB:List cL):Prop:=∃u,(∀w,K w->dz (λ_=>True) w (hM lv) u)/\C0 K u qB
structure NX(K:g7)(pv:bM)(p:cE):Prop where
 pr:∀w,K w->mL w pv p
 th:Bf K pv.threads p.threads
 rc:Bf K pv.recover p.recover
def crD(m:fY)(q:bV):fY:=match fW m q with|some u=>{m with mem:=mr m.mem u}|none=>m
def DI(m:Mem)(cut:List Int)(v:Value)(B:Mem):Prop:=(fh m cut=none/\B=m/\v=hH 1)\/∃u,fh m cut=some u/\B=mr m u/\v=hH 0
def Q1{m:Mem}{cut:List Int}{v:Value}{p:Nat}{ov fv:Value}{F:Nat->Prop}{w w':World}
  (h:(fh m cut=none/\v=hH 1/\mH F (iE p ov fv m) w w')\/∃u,fh m cut=some u/\v=hH 0/\mH F (iE p ov fv (mr m u)) w w') :
  True/\mH F (pZ λE=>fact (DI m cut v E) (iE p ov fv E)) w w':=by
 refine⟨trivial,?_⟩
 rcases h with⟨h1,h2,B,h3,h4,h5⟩|⟨u,h1,h2,B,h3,h4,h5⟩
 .exact⟨B,⟨m,.inl ⟨h1,rfl,h2⟩,h3⟩,h4,h5⟩
 exact⟨B,⟨mr m u,.inr ⟨u,h1,rfl,h2⟩,h3⟩,h4,h5⟩
theorem ahx(K:g7):C0 K [(⟨⟨#[]⟩,cI,cI,0⟩:cD)] [⟨⟨#[]⟩,[],[],0⟩]:=by
 refine⟨rfl,λj u t h1 h2=>?_⟩
 cases j with
 | zero=>
  cases h1;cases h2
  exact⟨cI,cI,[],rfl,λw _=>dz.nil _ w,λw=>⟨λ_ _=>gu.nil,λ_=>dz.nil _ w⟩⟩
 | succ j=>simp at h1
def azF:PL 89:=dG Tryz.func89
def C12(K:g7)(p:cE)(pv:bM)(room:Int)(w:World)(J:∀w',Ext w w'->K w')(I:NX K pv p)(O:PZ p):CR 12 [hM pv,hH room] w (λv w'=>(fc p≠0/\v=.tuple #[.pointer none,hH (fc p)]/\Ext w w')\/(fc p=0/\(room<1\/16<room)/\v=.tuple #[.pointer none,hH 1]/\Ext w w')\/
  (fc p=0/\(1<=room/\room<=16)/\∃(b:Nat) (X:g7),v=.tuple #[.pointer (some ⟨b,0,none⟩),hH 0]/\kZ (sep (gR (λw=>K w/\X w) b (gB p room)) (eH X)) w w')):=by
 have u:=St.start w;refine ajX _ _ _ _ ?_;unfold S12;refine cJ (x:=pv) u (λbp w1 u=>aE eN u.At (dO axI (C48 p pv _ (I.pr _ (J _ u.aF)) O) ?_));rintro _ _ ⟨aa,rfl,W⟩;have u:=u.ext W;refine aN rfl (aN rfl (bT (aC (λc=>?_) λc=>?_)))
 .exact .inl ⟨c,rfl,u.drop.aF⟩
 have zy:fc p=0:=bL
 have Z:=pR zy;have J7:=aat Z;have EO:=A9 p;refine dO amW (C49 room _) ?_;rintro v3 _ hh
 rcases hh with⟨hrb,rfl,W⟩|⟨Gb,FY,b3,rfl,V⟩
 .have u:=u.ext W;exact aN rfl (aN rfl (bT (lL cZ (.inr (.inl ⟨zy,hrb,rfl,u.drop.aF⟩)))))
 have u:=(u.made V).drop;refine aN rfl (aN rfl (bT (fF cZ (have u:=u.drew;aE eN u.At (aE eN u.At (aE eN u.At (ef axl u (C50 p pv _ (I.pr _ (J _ u.aF)) O) λx31 _ V u=>?_)))))));refine⟨fm eN u.p1.At,?_⟩;refine⟨fm eN u.p1.At,?_⟩;refine ef axm u (C51 p pv _ (I.pr _ (J _ u.aF)) O) (λx33 _ V u=>?_);refine⟨fm eN u.p2.At,?_⟩;obtain⟨E,rfl⟩:=u.fQ;obtain⟨G,rfl⟩:=u.p1.fQ;refine pop (Gn _ _ _ _ _ _ _ _ _ _ _ _ _ _ _ _ _ _ _ _ _ _ _ _ _) (nf u λB w6 u=>aD (aA IG (aB iW u.hb rfl (aH ix u.p2.dQ ?_))))
 have u:=u.eW (α:=Int);have hcs:St w aY [bF (.slice none 0 0) ([]:List Int),bZ B (qC ⟨pv,G,E,0,.slice none 0 0,.slice none 0 0,.slice none 0 0,.slice none 0 0,[]⟩ (xi p room) |>.set 9 (.pointer none)),bF (hM E) (cK p),bF (hM G) (cX p),bZ bp (ia pv)] w6:=u;refine⟨λmm o y w1=>∃k:Nat,y=hH (k:Int)/\mm=(cX p).length-k/\k<=(cX p).length/\St w aY [bF o ((AZ p).take k),bZ B (qC ⟨pv,G,E,0,.slice none 0 0,.slice none 0 0,.slice none 0 0,.slice none 0 0,[]⟩ (xi p room) |>.set 9 (.pointer none)),bF (hM E) (cK p),bF (hM G) (cX p),bZ bp (ia pv)] w1,⟨_,0,rfl,rfl,kO _,hcs⟩,?_⟩
 rintro mm o _ _ ⟨k,rfl,rfl,hk,u⟩ _;have I4:(AZ p).length=(cX p).length:=by unfold AZ;rw[mv,Po]
 refine aO (aC (λc1=>?_) λc1=>?_)
 .refine aE eN u.p4.At (aS aqx u (C52 p pv (k:Int) _ (I.pr _ (J _ u.aF)) O) λ_ W u=>aW ([o7 p (k:Int)]:List Int) u cQ rfl rfl (dM rfl) λs49 _ u=>?_);have alG:=u.dQ;exact bJ u.p1 cQ alG (by rw[lQ,lH];omega) cZ (λ_ _ u=>aJ bL ⟨_,bL,k+1,rfl,rfl,bL,by rw[<- gG (JT (p:=p) (i:=k) bL)];exact u.p1.drop⟩)
 rw[kp bL]at u;have u:=u.drew;refine aE eN u.p4.At (aE eN u.p4.At (aS YR u (C54 p pv _ (I.pr _ (J _ u.aF)) O) λ_ W u=>?_));refine⟨fm eN u.p4.At,?_⟩;refine ef axn u (C55 p pv _ (I.pr _ (J _ u.aF)) O) (λx58 _ V u=>?_);have iS:=uK p;have tG:(fo p).length=(iQ p).length:=by unfold fo;rw[mv]
 refine dO ayi (C53 (AZ p) (fo p) (eJ p) _ _ _ u.p1.dQ u.dQ bL bL bL λk n h1 h2=>?_) ?_
 .have h3:=QP Z h1 h2;have h4:=(ir.1 h2).1;exact⟨h3.1,bL,bL⟩
 rintro v59 _ ⟨q,ov,fv,rfl,V⟩;have u:=((u.made V).split).p1.split;refine aN rfl (aN rfl (aD (aA sX (aV u.p5 KP (dM rfl) rfl λM u=>aA kj (aB (v:=hM pv.threads) im u.p8.hb rfl ?_)))));have u:=u.p8.drop.p5.drop.p4.drop.p3.freeze.p2.freeze.fZ.p3.freeze.fZ.p3.freeze.fZ;obtain⟨U,u,Y⟩:=u.Hq;have u:=u.Aq (H:=yl (λw=>K w/\m8 U M w) room);have u:=(u.eW (α:=Ptr)).eW (α:=Int)
 have u:St w aY (bZ B (qC ⟨pv,G,E,q,hM ov,hM fv,.slice none 0 0,.slice none 0 0,[]⟩ (xi p room))::iE q (hM ov) (hM fv) (Jt (AZ p) (eJ p) (fo p))::bF (.slice none 0 0) ([]:List Int)::bF (.slice none 0 0) ([]:List Ptr)::gY (yl (λw=>K w/\m8 U M w) room) [] []::eH (m8 U M)::[]) M:=by
  have h1:=u.p5.p5;exact h1
 obtain⟨vj,ht1,ht2⟩:=I.th;obtain⟨VV,Qw,hr4⟩:=I.rc;have u:=gR.shut (K:=(λw=>K w/\m8 U M w)) (m:=xi p room) ⟨λw' h=>I.pr w' h.1,λw' h=>?_,λw' h=>?_,λw' h=>⟨?_,?_⟩,⟨VV,λw' h=>Qw w' h.1,hr4.mono λ_ h=>h.1⟩⟩ u;rotate_left
 .have:=Y w' h.2;first|exact this.1|exact this.2|exact this.2.1|exact this.2.2|exact this.2.2.1|exact this.2.2.2
 .have:=Y w' h.2;first|exact this.1|exact this.2|exact this.2.1|exact this.2.2|exact this.2.2.1|exact this.2.2.2
 .have:=Y w' h.2;first|exact this.1|exact this.2|exact this.2.1|exact this.2.2|exact this.2.2.1|exact this.2.2.2
 .have:=Y w' h.2;first|exact this.1|exact this.2|exact this.2.1|exact this.2.2|exact this.2.2.1|exact this.2.2.2
 refine bD art u (H':=λ_=>gR (λw=>K w/\m8 U M w) B (gB p room)) (Φ:=λ_ _=>True) (λF2 dZ dV=>?_) ?_
 .exact(C56 (λw=>K w/\m8 U M w) B (xi p room) p.threads _ vj F2 _ dZ (λw' hc=>⟨J _ (dV w' hc).aF,(dV w' hc).eH⟩) ⟨Gb,FY⟩ (by have:=O.eE;show(cK p).length<=_;unfold cK;rw[mv];omega) (λw' hc=>ht1 w' (J _ (dV w' hc).aF)) (ht2.mono λ_ h=>h.1)
   (λ_ ht=>⟨DF Z (List.mem_append_left _ ht),DH Z (List.mem_append_left _ ht)⟩) (by have:=O.threads;omega)).mono λ_ _ r=>r.mono λ_ _ h=>⟨trivial,h.2⟩
 rintro _ _ _ u;exact .inr (.inr ⟨zy,⟨Gb,FY⟩,B,m8 U M,rfl,(St.join u).fresh⟩)
theorem C24(K:g7)(p:Nat)(m:fY)(q:bV)(E:SV)(F:Nat->Prop)(w:World)(hF:(gR K p m).p w F)(W:∀w',gC F w w'->K w')(U:my m)(Cg:FA m.p)(oq:MB m.mem 1000000)(hcb:0<=m.dC/\m.dC<=1000000)(NY:∀w',gC F w w'->dz (λ_=>True) w' (hM E) q.cut)(hql:q.cut.length<=1000) :
   CR 24 [.pointer (some ⟨p,0,none⟩),hM (⟨q.kind,q.t,q.i,E⟩:bN)] w (λv w'=>v=.tuple #[hM (od m q).2.1,hH (od m q).2.2]/\mH F (gR K p (od m q).1) w w'):=by
 have u:=St.begin hF;refine pJ Tryz.func24 (pl:=P24) ?_;refine cJ (x:=(⟨q.kind,q.t,q.i,E⟩:bN)) u (λb3 w1 u=>aQ u nI λb4 _ u=>?_);have u:=u.enc (cs':=ia (⟨0,0,0,0,0⟩:bX)) rfl;refine⟨λjv w'=>jv=.bool (fW m q).isSome/\St w F [gR K p (crD m q),bZ b4 (ia (⟨0,0,0,0,0⟩:bX)),bZ b3 (ia (⟨q.kind,q.t,q.i,E⟩:bN))] w',?_,?_⟩
 .have u:=u.drew
  have ey:∀w',fW m q=none->St w F [gR K p m,bZ b4 (ia (⟨0,0,0,0,0⟩:bX)),bZ b3 (ia (⟨q.kind,q.t,q.i,E⟩:bN))] w'->(Value.bool false=.bool (fW m q).isSome/\St w F [gR K p (crD m q),bZ b4 (ia (⟨0,0,0,0,0⟩:bX)),bZ b3 (ia (⟨q.kind,q.t,q.i,E⟩:bN))] w'):=λw' h1 h2=>by
   have e:crD m q=m:=by unfold crD;rw[h1]
   rw[h1,e];exact⟨rfl,h2⟩
  have VQ:fW m q=(if q.kind=3/\q.t=0/\q.i=0/\m.fault=0 then fh m.mem q.cut else none):=rfl;refine aA qX (aB (v:=hH q.kind) bO u.p1.hb rfl (aG (aC (λc1=>?_) λ_=>ey _ (by rw[VQ,eb bL]) u.p2)));refine aA mG (aB (v:=hH q.t) bO u.p1.hb rfl (aG (aC (λZ=>?_) λ_=>ey _ (by rw[VQ,eb bL]) u.p2)));refine aA sW (aB (v:=hH q.i) bO u.p1.hb rfl (aG (aC (λc3=>?_) λ_=>ey _ (by rw[VQ,eb bL]) u.p2)));have u:=u.p2;obtain⟨a,B,u⟩:=gR.open u;have pe:=u.p4.iP;refine aD (aA xG (aB bO u.hb rfl (aG (aC (λc4=>?_) λ_=>ey _ (by rw[VQ,eb bL]) (gR.shut B u)))))
  have hpi:fW m q=fh m.mem q.cut:=by rw[VQ,ee ⟨c1,Z,c3,c4⟩]
  refine aD (aA sX (aB KP u.hb rfl (aA uW (aB (v:=hM (E:SV)) eP u.p6.hb rfl (have u:=u.p1;bD auZ u (H':=λv=>pZ λm2=>fact (DI m.mem q.cut v m2) (iE a.q a.ov a.fv m2)) (Φ:=λ_ _=>True) (λO Y G=>?_) ?_)))))
  .exact(C86 a.q a.ov a.fv m.mem O q.cut _ _ Y (λw' hc=>B.mem _ (W w' (G w' hc).aF)) U.mem oq (λw' hc=>NY w' (G w' hc).aF) hql).mono λ_ _ r=>r.mono λ_ _ h=>Q1 h
  rintro v34 _ _ wU;obtain⟨m2c,yI⟩:=wU.ep
  clear wU
  obtain⟨hcf,DD⟩:=yI.l6
  clear yI
  rcases hcf with⟨V,rfl,rfl⟩|⟨I,V,rfl,rfl⟩
  .have u:=DD;exact aG (have u:=u.p4.p4.p4.p3.p4;ey _ (hpi.trans V) (gR.shut B u))
  have u:=DD;refine aG ?_;have M:=hpi.trans V;have e:crD m q={m with mem:=mr m.mem I}:=by unfold crD;rw[M]
  rw[M,e];have u:=u.p4.p4.p4.p3.p4;exact⟨rfl,gR.shut (m:={m with mem:=mr m.mem I}) ⟨B.pr,B.cs,B.ks,B.mem,B.rc⟩ u⟩
 rintro _ _ ⟨rfl,u⟩ _;refine aX (λc=>?_) (λc=>?_)
 .obtain⟨I,M⟩:=MV.1 c;have e:crD m q={m with mem:=mr m.mem I}:=by unfold crD;rw[M]
  have J:od m q=(qD (oU m I) (uH m),⟨15,0,0,qn q.cut q.cut.length,0⟩,0):=by unfold od;rw[M]
  rw[e]at u;rw[J];obtain⟨a,B,u⟩:=gR.open u;have pe:=u.p4.iP;refine aD (aA II (aB bO u.hb rfl (aJ (show -9223372036854775808<=m.dC+1/\m.dC+1<=9223372036854775807 by omega) (aD (aA II (aV u bO (dM rfl) rfl λ_ u=>?_))))));obtain⟨VV,Qw,hr4⟩:=id B.rc;have Gm:=hr4.1;refine aD (aA Dd (aA oA (aB im u.hb rfl ?_)));have u:=(gR.shut (m:=oU m I) ⟨B.pr,B.cs,B.ks,B.mem,B.rc⟩ u.p4.p4.p4.p4.p4).p2;have u:=u.p2.p2;refine⟨λjv w'=>∃vj,C0 K vj (uH m)/\St w F [eH (λw=>K w->dz (λ_=>True) w jv vj),gR K p (oU m I),bZ b4 (ia (⟨0,0,0,0,0⟩:bX)),bZ b3 (ia (⟨q.kind,q.t,q.i,E⟩:bN))] w',?_,?_⟩
  .refine aH fr (Qw _ (W _ u.aF)) (aG (aC (λZ=>?_) λZ=>?_))
   .refine pop (v:=hM (⟨⟨#[]⟩,cI,cI,0⟩:cD)) (by kernel_rfl) (aW ([⟨⟨#[]⟩,cI,cI,0⟩]:List cD) u fr rfl rfl (dM rfl) λs54 _ u=>?_);refine⟨_,?_,u.freeze.dD (Ψ:=λw=>K w->dz (λ_=>True) w s54 [(⟨⟨#[]⟩,cI,cI,0⟩:cD)]) λ_ h _=>h⟩;have VI:uH m=[⟨⟨#[]⟩,[],[],0⟩]:=by unfold uH;rw[ee (by have:VV.length=m.p.recover.length:=Gm;omega)]
    rw[VI];exact ahx K
   have VI:uH m=m.p.recover:=by unfold uH;rw[eb (by have:VV.length=m.p.recover.length:=Gm;omega)]
   exact⟨VV,by rw[VI];exact hr4,u.gz λw h=>Qw w h⟩
  rintro rv _ ⟨vj,htv,u⟩ _;obtain⟨azI,alH⟩:=JS Cg;refine bD art u.p1 (H':=λ_=>gR K p (qD (oU m I) (uH m))) (Φ:=λ_ _=>True) (λO Y G=>?_) ?_
  .refine(C56 K p (oU m I) (uH m) _ vj O _ Y (λw' hc=>W w' (G w' hc).aF) U.rm (by have:=U.pz.eE;show(cK m.p).length<=_;unfold cK;rw[mv];omega) (λw' hc=>(G w' hc).eH (W w' (G w' hc).aF)) htv (λt ht=>⟨alH t ht,?_⟩) bL).mono λ_ _ r=>r.mono λ_ _ h=>⟨trivial,h.2⟩;unfold uH at ht
   split at ht
   .rw[sM.1 ht];rfl
   exact DH Cg (List.mem_append_right _ ht)
  rintro _ _ _ u;exact aA uW (aB (v:=hM (E:SV)) eP u.p3.hb rfl (aS ayf u (C87 _ q.cut _ (NY _ u.aF) bL) λ_ _ u=>pop (Hx 15 (qn q.cut q.cut.length)) (aK (x:=(⟨15,0,0,qn q.cut q.cut.length,0⟩:bX)) u.p2 fg rfl rfl λ_ u=>aE fg u.At ⟨rfl,u.p3.drop.drop.p1.drop.mut⟩)))
 have M:fW m q=none:=by
  cases h:fW m q with
  | none=>rfl
  | some I=>rw[h]at c;cases c
 have e:crD m q=m:=by unfold crD;rw[M]
 have J:od m q=(if (fx m).any (lR q)=true then(if q.kind=2 then(match m.l[q.t.toNat]? with|some t=>((sQ m t q,sO q.t (dB t.buf q.i),0):fY×bX×Int)|none=>(m,⟨0,0,0,0,0⟩,13))else((il m q.t).1,(il m q.t).2,0))else(m,⟨0,0,0,0,0⟩,13)):=by unfold od;rw[M];rfl
 rw[e]at u;refine ef arp u (C67 K p m _ u.has (λ_ e=>W _ (u.aF.then e)) U) (λx64 _ cM u=>?_);have hpk:=u.p3.At
 have hfn:tg g6 _ (.func (.func 88) [].toArray [.pointer (some ⟨b3,0,none⟩)].toArray) (λ_:bV=>True) (lR q):=
  ⟨88,[],_,rfl,ayc,λsx y w1 e1 hd2 _=>C88 y q sx b3 (⟨q.kind,q.t,q.i,E⟩:bN) w1 hd2 (hpk.ext e1) ⟨E,rfl,DL.j3 (NY _ (u.aF.then e1))⟩⟩
 refine aS azF u (C89 _ _ _ (λ_=>True) _ _ u.dl hfn (λ_ _=>trivial) (by have:=zA U;omega)) (λ_ he u=>have u:=u.drop;bP (aX (λZ=>?_) λZ=>?_))
 .rw[J,eb (by simpa using Z)];exact pop Jz (aK (x:=(⟨0,0,0,0,0⟩:bX)) u.p1 fg rfl rfl λ_ u=>aE fg u.At ⟨rfl,u.drop.p1.drop.mut⟩)
 have vU:(fx m).any (lR q)=true:=by simpa using Z
 obtain⟨hf0,h0,_,t,ht,hkd⟩:=aeP vU;rw[J,ee vU];refine aA qX (aB (v:=hH q.kind) bO u.p2.hb rfl (aG (aC (λc3=>?_) λc3=>?_)))
 .rw[ee c3,ht];refine aE rF u.p2.At (bD aya u (H':=λ_=>gR K p (sQ m t q)) (Φ:=λv _=>v=hM (sO q.t (dB t.buf q.i))) (λO Y G=>?_) ?_)
  .exact C90 K p m q E t O _ Y (λw' hc=>W w' (G w' hc).aF) U oq h0 ht
  rintro _ _ rfl u;exact aK (x:=sO q.t (dB t.buf q.i)) u.p1 fg rfl rfl (λ_ u=>aE fg u.At ⟨rfl,u.drop.p1.drop.mut⟩)
 rw[eb c3]
 have tT:sy m t=true:=by
  rcases hkd with h|h
  .exact h.2
  .exact absurd h.1 c3
 refine aA mG (aB (v:=hH q.t) bO u.p2.hb rfl (bD ax9 u (H':=λ_=>gR K p (il m q.t).1) (Φ:=λv _=>v=hM (il m q.t).2) (λO Y G=>?_) ?_))
 .exact C91 K p m q.t t O _ Y (λw' hc=>W w' (G w' hc).aF) U oq h0 ht (λ_=>FC tT)
 rintro _ _ rfl u;exact aK (x:=(il m q.t).2) u.p1 fg rfl rfl (λ_ u=>aE fg u.At ⟨rfl,u.drop.p1.drop.mut⟩)
theorem C64(K:g7)(p:Nat)(m:fY)(qB:List cL)(lv:Value)(vj:List cD)(F:Nat->Prop)(w:World)(hF:(qw K p m).p w F)(hK:∀w',gC F w w'->K w')(hrm:1<=m.room/\m.room<=16)(hlk:(cK m.p).length<=1000)(hl:∀w',gC F w w'->dz (λ_=>True) w' lv vj)(htv:C0 K vj qB)
   (jK:∀t∈qB,xV (cX m.p) (cK m.p) (vP t)/\t.body=(Hy t.body).flat) (hbz:∀t∈qB,t.body.length<=100000) (hn:qB.length<=1000) :
   CR 64 [.pointer (some ⟨p,0,none⟩),lv] w (λv w'=>v=.tuple #[]/\mH F (qw K p (qD m qB)) w w'):=by
 have u:=St.begin hF;have OD:=htv.1;refine ak7 _ _ _ _ ?_;unfold S64;obtain⟨a,hu,u⟩:=qw.open u;have pe:=u.p4.iP
 have hlr:∀w,K w->dz (λ_=>True) w (hM a.pv.eE) m.p.eE:=λw hw=>by
  obtain⟨g0,g1,g2,g3,g4,g5,e,_,_,h2,_⟩:=hu.pr w hw;rw[e];exact DL.flat h2
 have BG:(cK m.p).length=m.p.eE.length:=by unfold cK;rw[mv]
 refine aD (aA sV (aV u KO (dM rfl) rfl λ_ u=>aD (aA uV (aV u eP (dM rfl) rfl λ_ u=>?_))));have u:=(((u.p2.drop.p2.drop.p2.drop.eW (α:=Int)).p2).p1).p2;refine⟨λmm x w'=>∃(k:Nat) (ov:Value),x=hH (k:Int)/\mm=(cK m.p).length-k/\k<=(cK m.p).length/\St w F [bZ p (oX {a with ow:=ov,ll:=.slice none 0 0} m),bF ov (po k (-1:Int)),gm a.q m.mem] w',⟨_,0,_,rfl,rfl,kO _,u⟩,?_⟩;rintro mm _ _ ⟨k,ov,rfl,rfl,Oq,u⟩ _;refine aD (aA xE (aA nD (aB jw u.hb rfl (aH ie (hlr _ (hK _ u.aF)) (aO (aC (λc=>?_) λc=>?_))))))
 .refine aD (aA uV (aB eP u.hb rfl (aW ([-1]:List Int) u cQ rfl rfl (dM rfl) λs27 _ u=>?_)));have alF:=u.dQ;exact bJ u.p2 cQ alF (by rw[Ce,lH];omega) cZ (λs28 _ u=>have u:=u.p1.drop;aD (aA uV (aV u.p1 eP (dM rfl) u.dQ.one λ_ u=>aJ bL ⟨_,bL,k+1,s28,rfl,rfl,bL,by rw[Zp];exact u⟩)))
 rw[show k=(cK m.p).length from bL]at u;have u:=((((((u.Aq (H:=NR K m.room)).eW (α:=Ptr)).p4).p4).p3).p3).p4;refine⟨λmm x w'=>∃(j:Nat) (E:Value) (ps:List Ptr),x=hH (j:Int)/\mm=vj.length-j/\j<=vj.length/\St w F [bZ p (oX {a with ow:=ov,ll:=E} m),bF E ps,gY (NR K m.room) ps ((qB.take j).map UN),bF ov (po (cK m.p).length (-1:Int)),gm a.q m.mem] w',⟨_,0,_,_,rfl,rfl,kO _,u⟩,?_⟩;rintro mm _ _ ⟨j,E,ps,rfl,rfl,hj1,u⟩ _;refine aH fr (hl _ u.aF) (aO (aC (λc2=>?_) λc2=>?_));rotate_left
 .rw[kp bL]at u;have u:=u.p2.p2.p3.p4.p4;exact⟨rfl,(qw.shut (m:=qD m qB) (a:={a with ow:=ov,ll:=E,ps:=ps}) ⟨hu.pr,hu.rc⟩ u).mut⟩
 obtain⟨tv,Q0⟩:=gx vj (i:=((j:Nat):Int).toNat) bL;obtain⟨t,ht⟩:=gx qB (i:=j) bL;obtain⟨B,gb,rows,rfl,J,hgb⟩:=htv.2 j _ _ Q0 ht;obtain⟨NV,Z⟩:=jK t (j0 ht);have Gm:t.dN.length<=1000:=NV.nb;have hpo:=NV.p
 have asI:(Hy t.body).str:=by
  have h2:F4 (UJ (cX m.p) (cK m.p) t.dN) (jh (Hy t.body) false []):=hpo;cases hb:Hy t.body with
  | nil=>trivial
  | cons x c d r=>rw[hb]at h2;exact h2.st _ (ob ..)
 have asJ:(Hy t.body).flat.length<=100000:=by rw[<- Z];exact hbz t (j0 ht)
 refine⟨_,?_,λ_ h=>h⟩;refine aD (aA RF (aB bO u.hb rfl (dO amX (C58 m.room _) ?_)));rintro v43 _ hh;obtain⟨_,_,b43,rfl,cM⟩:=hh.resolve_left (λ_=>bL);have u:=u.made cM;refine aN rfl (aN rfl ?_);refine⟨λt8 w'=>∃tb,t8=.pointer (some ⟨tb,0,none⟩)/\St w F [mB K tb m.room (vP t),bZ p (oX {a with ow:=ov,ll:=E} m),bF E ps,gY (NR K m.room) ps ((qB.take j).map UN),bF ov (po (cK m.p).length (-1:Int)),gm a.q m.mem] w',?_,?_⟩
 .refine FK (Wd:=λw'=>gC F w w') fr hl u.aF bL Q0 (λq50 h50=>FM gb lh h50 u.aF rfl rfl λq51 V=>have u:=u.drew;aE (x:=gb) jA (V _ u.aF) (FK (Wd:=λw'=>gC F w w') fr hl u.aF bL Q0 λq56 h56=>FM B fP h56 u.aF rfl rfl λq57 G=>aE (x:=B) iW (G _ u.aF) (FK (Wd:=λw'=>gC F w w') fr hl u.aF bL Q0 λq61 h61=>FM B fP h61 u.aF rfl rfl λq62 U=>aE (x:=B) iW (U _ u.aF) (aH ix (J _ (hK _ u.aF)) ⟨?_,?_,trivial⟩))))
  .refine dO NJ (C128 K gb rows (Hy t.body) _ (λ_ e=>hK _ (u.aF.then e)) asI (λw=>by rw[<- Z];exact hgb w) asJ) ?_;rintro s53 w9 ⟨ds,O,cM⟩;have u:=u.made cM;refine⟨fm (x:=B) iW (G _ u.aF),?_⟩;refine⟨fm (x:=B) iW (U _ u.aF),?_⟩;refine v9 (0:Int) u cQ ue bL bL cZ (λs52 w11 u=>?_);rw[o6]at u;refine⟨fm (x:=gb) jA (V _ u.aF),?_⟩;refine⟨fm (x:=B) iW (G _ u.aF),?_⟩;obtain⟨Y,rfl⟩:=u.fQ;obtain⟨W,rfl⟩:=u.p1.fQ;refine pop (xo W.a W.n W.cap B.a B.n B.cap Y.a Y.n Y.cap (some ⟨b43,0,none⟩)) (nf u λI w12 u=>?_)
   have u:=u.p2.freeze.p2.p3.p3;have M:RTK K B ds (vP t):=⟨J,by show kQ K ds (yc (jh (Hy t.body) false []));rw[uN];show kQ K ds (F5 false (Hy t.body)++[]);rw[oj];exact O,FH.push λ_ h=>by cases h⟩;exact⟨I,rfl,mB.shut (t:=vP t) M u⟩
  refine v9 (0:Int) u cQ ue bL bL cZ (λs52 w11 u=>?_);rw[o6]at u;refine⟨fm (x:=gb) jA (V _ u.aF),?_⟩;refine⟨fm (x:=B) iW (G _ u.aF),?_⟩;refine dO NJ (C128 K gb rows (Hy t.body) _ (λ_ e=>hK _ (u.aF.then e)) asI (λw=>by rw[<- Z];exact hgb w) asJ) ?_;rintro s53 w9 ⟨ds,O,cM⟩;have u:=u.made cM;refine⟨fm (x:=B) iW (G _ u.aF),?_⟩;refine⟨fm (x:=B) iW (U _ u.aF),?_⟩;obtain⟨Y,rfl⟩:=u.p1.fQ;obtain⟨W,rfl⟩:=u.fQ;refine pop (xo W.a W.n W.cap B.a B.n B.cap Y.a Y.n Y.cap (some ⟨b43,0,none⟩)) (nf u λI w12 u=>?_)
  have u:=u.p1.freeze.p2.p3.p3;have M:RTK K B ds (vP t):=⟨J,by show kQ K ds (yc (jh (Hy t.body) false []));rw[uN];show kQ K ds (F5 false (Hy t.body)++[]);rw[oj];exact O,FH.push λ_ h=>by cases h⟩;exact⟨I,rfl,mB.shut (t:=vP t) M u⟩
 rintro _ _ ⟨I,rfl,u⟩ _;have azL:Bp (vP t):=⟨λ_ hv=>by rw[(List.mem_replicate.1 hv).2];exact iv,λ_ hy=>by cases hy⟩;refine bD ahr u (H':=λ_=>mB K I m.room (UN t)) (Φ:=λ_ _=>True) (λF2 dZ dV=>?_) ?_
 .exact(C129 K I m.room (vP t) (UN t) _ _ _ F2 _ dZ (λw' hc=>hK w' (dV w' hc).aF) NV azL (qq NV).1).mono λ_ _ r=>r.mono λ_ _ h=>⟨trivial,h.2⟩
 rintro _ _ _ u;refine aD (aA sV ?_);have oy:=u.p3.iP;rw[mv,lQ]at oy;refine aB KO u.p1.hb rfl (aW ([(⟨I⟩:Ptr)]) u OF rfl rfl (dM rfl) λs67 _ u=>?_);have abc:=u.dQ;refine bJ u.p3 OF abc (by simp;omega) cZ (λs68 _ u=>have u:=u.p1.drop;aD (aA sV (aV u.p2 KO (dM rfl) u.dQ.one λ_ u=>?_)));have u:=(((((St.Ee (H:=NR K m.room) (p:=⟨I⟩) (x:=UN t) u.p2.p3).p4).p4).p2).p4).p4;intro _;exact aJ bL ⟨_,bL,j+1,s68,ps++[⟨I⟩],rfl,rfl,bL,by rw[<- gI (k:=j) ht];exact u⟩
def yJ:List Int->Int->Int
 | [],n=>n
 | c::r,n=>if n<=100 then yJ r (n*(c+1))else n
def NZ(l:List Int):Int:=yJ l 1
def Q3{l:List Int}{k:Nat}{c n:Int}(h:l[k]?=some c)(u:n<=100):yJ (l.drop k) n=yJ (l.drop (k+1)) (n*(c+1)):=by
 obtain⟨h1,h2⟩:=ir.1 h
 rw[qH h1,h2,yJ,ee u]
theorem Vw{l:List Int}{k:Nat}{n:Int}(h:l.length<=k\/¬ n<=100):yJ (l.drop k) n=n:=by
 rcases h with h|h
 .rw[pC h];rfl
 cases l.drop k with
 | nil=>rfl
 | cons c r=>rw[yJ,eb h]
theorem Vx{l:List Int}{k:Nat}{c:Int}(h:l[k]?=some c):qn l (k+1)=Bl (Bl (10000*qn l k)+c):=by rw[Fk h,Int.mul_comm]
def alI{n c:Int}(u:0<=n)(h1:n<=100)(h2:0<=c)(h3:c<=1000000):0<=n*(c+1)/\n*(c+1)<=100*1000001:=
 ⟨Int.mul_nonneg u bL,Int.mul_le_mul h1 bL bL bL⟩
def C16(lv:Value)(l:List Int)(w:World)(V:dz (λ_=>True) w lv l)(hn:l.length<=1000)(hl:∀c∈l,0<=c/\c<=1000000):CR 16 [lv] w (λv w'=>v=hH (NZ l)/\Ext w w'):=by
 have u:=St.start w;refine eU Tryz.func16 ?_;refine⟨λO y x I=>∃(k:Nat) (n:Int),y=hH n/\x=hH (k:Int)/\O=l.length-k/\k<=l.length/\0<=n/\NZ l=yJ (l.drop k) n/\St w aY [] I,⟨_,0,1,rfl,rfl,rfl,kO _,bL,rfl,u⟩,?_⟩;rintro O _ _ I ⟨k,n,rfl,rfl,rfl,hk,h0,B,u⟩ _;refine⟨λY w'=>Y=.bool (decide (k<l.length/\n<=100))/\I=w',aH cQ (V.ext u.aF) (aO (aC (λ_=>ga ⟨xB bL,rfl⟩) λ_=>⟨Wf bL,rfl⟩)),?_⟩;rintro _ _ ⟨rfl,W⟩ _;subst W;refine aC (λJ=>?_) (λJ=>?_)
 .have G:k<l.length/\n<=100:=by simpa using J
  obtain⟨qd,M⟩:=gx l (i:=(k:Int).toNat) bL;refine aM cQ V bL M (λ_ Z=>aE bO (Z.ext u.aF) ?_);have E:=hl _ (j0 M);refine aJ bL ?_;have oq:=alI h0 G.2 E.1 E.2;exact Da bL (aJ bL ⟨_,bL,k+1,_,rfl,rfl,rfl,bL,oq.1,by rw[B];exact Q3 M G.2,u⟩)
 have U:¬ (k<l.length/\n<=100):=by simpa using J
 rw[B,Vw bL];exact⟨rfl,u.aF⟩
def C94(cv:Value)(cut:List Int)(w:World)(I:dz (λ_=>True) w cv cut)(O:cut.length<=1000000):CR 94 [cv] w (λv w'=>v=hH (qn cut cut.length)/\Ext w w'):=by
 have u:=St.start w;refine ahX _ _ _ ?_;unfold S94;refine⟨λE n x B=>∃k:Nat,n=hH (qn cut k)/\x=hH (k:Int)/\E=cut.length-k/\k<=cut.length/\St w aY [] B,⟨_,0,rfl,rfl,rfl,kO _,u⟩,?_⟩;rintro E _ _ B ⟨k,rfl,rfl,rfl,M,u⟩ _;refine aH cQ (I.ext u.aF) (aO (aC (λU=>?_) λ_=>⟨by rw[show cut.length=k from bL],u.aF⟩));refine wz ?_;obtain⟨V,G⟩:=gx cut (i:=(k:Int).toNat) bL;exact aM cQ I bL G (λ_ J=>aE bO (J.ext u.aF) (uo (aJ bL ⟨_,bL,k+1,by rw[Vx (k:=k) G],rfl,rfl,bL,u⟩)))
def N0{p:cE}(hc:FA p){t:cL}(ht:t∈gj p):t.body.length<=40:=by
 obtain⟨_,h2,_⟩:=hc.f.qB ht
 exact(kU h2).1
def Q4{m:Mem}{cut:List Int}{v:Value}{p:Nat}{F:Nat->Prop}{w w':World}
  (h:(fh m cut=none/\v=hH 1/\mH F (gm p m) w w')\/∃u,fh m cut=some u/\v=hH 0/\mH F (gm p (mr m u)) w w') :
  True/\mH F (pZ λE=>fact (DI m cut v E) (gm p E)) w w':=by
 refine⟨trivial,?_⟩
 rcases h with⟨h1,h2,B,h3,h4,h5⟩|⟨u,h1,h2,B,h3,h4,h5⟩
 .exact⟨B,⟨m,.inl ⟨h1,rfl,h2⟩,h3⟩,h4,h5⟩
 exact⟨B,⟨mr m u,.inr ⟨u,h1,rfl,h2⟩,h3⟩,h4,h5⟩
theorem afd{m:fY}{q:bV}(h:q.kind=3):(fx m).any (lR q)=false:=by
 cases ha:(fx m).any (lR q)with
 | false=>rfl
 | true=>obtain⟨_,_,_,t,_,h2⟩:=aeP ha;omega
theorem Q5{m:fY}{q:bV}(h:fW m q=none)(u:(fx m).any (lR q)=false):od m q=(m,⟨0,0,0,0,0⟩,13):=by
 grind[od]
def abd{K:g7}{m:fY}{u:List cD}(hc:FA m.p)(E:C0 K u m.p.recover):C0 K ((u++[(⟨⟨#[]⟩,cI,cI,0⟩:cD)]).take 1) (uH m):=by
 have h1:=hc.f.one
 have B:=E.1
 unfold uH
 split
 .have G:m.p.recover=[]:=qa.1 (by assumption)
  rw[G]at B
  have:u=[]:=qa.1 B
  subst this
  exact ahx _
 grind
def azM:PL 63:=dG Tryz.func63
def C13(K:g7)(p:cE)(pv:bM)(room:Int)(w:World)(G:∀w',Ext w w'->K w')(E:NX K pv p)(I:PZ p):CR 13 [hM pv,hH room] w (λv w'=>(fc p≠0/\v=.tuple #[.pointer none,hH (fc p)]/\Ext w w')\/(fc p=0/\(room<1\/16<room)/\v=.tuple #[.pointer none,hH 1]/\Ext w w')\/
  (fc p=0/\(1<=room/\room<=16)/\∃b:Nat,v=.tuple #[.pointer (some ⟨b,0,none⟩),hH 0]/\kZ (qw K b (gB p room)) w w')):=by
 have u:=St.start w;refine ak5 _ _ _ _ ?_;unfold S13;refine cJ (x:=pv) u (λbp w1 u=>aE eN u.At (dO auP (C57 p pv _ (E.pr _ (G _ u.aF)) I) ?_));rintro _ _ ⟨aa,rfl,O⟩;have u:=u.ext O;refine aN rfl (aN rfl (bT (aC (λc=>?_) λc=>?_)))
 .exact .inl ⟨c,rfl,u.drop.aF⟩
 have W:fc p=0:=bL
 have M:=pR W;have J7:=aat M;have EO:=A9 p;refine dO amX (C58 room _) ?_;rintro v3 _ hh
 rcases hh with⟨hrb,rfl,O⟩|⟨Gb,FY,b3,rfl,J⟩
 .have u:=u.ext O;exact aN rfl (aN rfl (bT (lL cZ (.inr (.inl ⟨W,hrb,rfl,u.drop.aF⟩)))))
 have u:=(u.made J).drop;refine aN rfl (aN rfl (bT (fF cZ (aW ([]:List Int) u cQ rfl rfl (dM rfl) λs31 _ u=>?_))));refine⟨λmm o y w1=>∃k:Nat,y=hH (k:Int)/\mm=(iQ p).length-k/\k<=(iQ p).length/\St w aY [bF o ((AZ p).take k),bZ bp (ia pv)] w1,⟨_,0,rfl,rfl,kO _,u⟩,?_⟩;rintro mm o _ _ ⟨k,rfl,rfl,hk,u⟩ _;have I4:(AZ p).length=(cX p).length:=by unfold AZ;rw[mv,Po]
 refine aE eN u.p1.At (ef TS u (C59 p pv _ (E.pr _ (G _ u.aF)) I.toPS) λx34 _ J u=>aH ie u.dQ (have u:=u.drop;aO (aC (λc1=>?_) λc1=>?_)))
 .refine aE eN u.p1.At (aS asB u (C60 p pv (k:Int) _ (E.pr _ (G _ u.aF)) I) λ_ O u=>aW ([o7 p (k:Int)]:List Int) u cQ rfl rfl (dM rfl) λs49 _ u=>?_);have V:=u.dQ;exact bJ u.p1 cQ V (by rw[lQ,lH];omega) cZ (λ_ _ u=>aJ bL ⟨_,bL,k+1,rfl,rfl,bL,by rw[<- gG (JT (p:=p) (i:=k) bL)];exact u.p1.drop⟩)
 rw[kp bL]at u;have u:=u.drew;refine aE eN u.p1.At (aE eN u.p1.At (aS ahV u (C62 p pv _ (E.pr _ (G _ u.aF)) I) λ_ O u=>?_));refine⟨fm eN u.p1.At,?_⟩;refine ef azM u (C63 p pv _ (E.pr _ (G _ u.aF)) I) (λx58 _ J u=>?_);have iS:=uK p;have tG:(fo p).length=(iQ p).length:=by unfold fo;rw[mv]
 refine dO auQ (C61 (AZ p) (fo p) (eJ p) _ _ _ u.p1.dQ u.dQ bL bL bL λk n h1 h2=>?_) ?_
 .have h3:=QP M h1 h2;have h4:=(ir.1 h2).1;exact⟨h3.1,bL,bL⟩
 rintro v59 _ ⟨q,rfl,J⟩;have u:=((u.made J).p1.drop).p1.drop;refine aN rfl (aN rfl (aE (x:=pv) eN u.p1.At (pop (NI _ _ _ _ _ _ _ _ _ _ _ _ _ _ _ _ _ _ _ _) (nf u λB SD u=>aA kj (aB (v:=hM pv.threads) im u.p2.hb rfl ?_)))));have u:=((u.p2.drop.Aq (H:=NR K room)).eW (α:=Ptr)).eW (α:=Int)
 have u:St w aY (bZ B (oX ⟨pv,q,.slice none 0 0,.slice none 0 0,[]⟩ (xi p room))::gm q (Jt (AZ p) (eJ p) (fo p))::bF (.slice none 0 0) ([]:List Int)::bF (.slice none 0 0) ([]:List Ptr)::gY (NR K room) [] []::[]) SD:=by
  have h1:=u.p4.p4
  first|exact h1|exact u.p3.p4|exact u.p4.p4
 obtain⟨vj,Z,U⟩:=E.th;obtain⟨VV,Qw,Y⟩:=E.rc;have u:=qw.shut (K:=K) (m:=xi p room) ⟨E.pr,⟨VV,Qw,Y⟩⟩ u;refine bD asl u (H':=λ_=>qw K B (gB p room)) (Φ:=λ_ _=>True) (λF2 dZ dV=>?_) ?_
 .exact(C64 K B (xi p room) p.threads _ vj F2 _ dZ (λw' hc=>G _ (dV w' hc).aF) ⟨Gb,FY⟩ (by have:=I.eE;show(cK p).length<=_;unfold cK;rw[mv];omega) (λw' hc=>Z w' (G _ (dV w' hc).aF)) U
   (λ_ ht=>⟨DF M (List.mem_append_left _ ht),DH M (List.mem_append_left _ ht)⟩) (λ_ ht=>tx (N0 M (List.mem_append_left _ ht)) cZ) (by have:=I.threads;omega)).mono λ_ _ r=>r.mono λ_ _ h=>⟨trivial,h.2⟩
 rintro _ _ _ u;exact .inr (.inr ⟨W,⟨Gb,FY⟩,B,rfl,u.fresh⟩)
theorem C25(K:g7)(p:Nat)(m:fY)(q:bV)(M:SV)(F:Nat->Prop)(w:World)(hF:(qw K p m).p w F)(hK:∀w',gC F w w'->K w')(O:my m)(hvo:NH m)(Cg:FA m.p)(oq:MB m.mem 1000000)(hcb:0<=m.dC/\m.dC<=1000000)(NT:m.mem.dY=fo m.p)(hKx:∀w1,gC F w w1->∀w2,Ext w1 w2->K w2)(NY:∀w',gC F w w'->dz (λ_=>True) w' (hM M) q.cut)(hql:q.cut.length<=1000) :
   CR 25 [.pointer (some ⟨p,0,none⟩),hM (⟨q.kind,q.t,q.i,M⟩:bN)] w (λv w'=>v=.tuple #[hM (od m q).2.1,hH (od m q).2.2]/\mH F (qw K p (od m q).1) w w'):=by
 have u:=St.begin hF;refine pJ Tryz.func25 (pl:=P25) ?_;refine cJ (x:=(⟨q.kind,q.t,q.i,M⟩:bN)) u (λb3 w1 u=>aQ u nI λb4 w2 u=>?_);have u:=u.enc (cs':=ia (⟨0,0,0,0,0⟩:bX)) rfl;have VQ:fW m q=(if q.kind=3/\q.t=0/\q.i=0/\m.fault=0 then fh m.mem q.cut else none):=rfl;refine aA qX (aB (v:=hH q.kind) bO u.p1.hb rfl (aG (aC (λc1=>?_) λc1=>?_)))
 .have u:=u.drew;have u:=u.p2;obtain⟨a,hu,u⟩:=qw.open u;have pe:=u.p4.iP;refine aD (aA sU (aB KN u.hb rfl (aA uW (aB (v:=hM (M:SV)) eP u.p6.hb rfl (dO ahY ((C92 a.q m.mem q.cut _ _ (FL u.p1.has) O.mem oq (NY _ u.aF) hql).mono (R':=sK λv w'=>∃(o:Value) (e:Int),v=.tuple #[o,hH e]/\(e=0↔(fh m.mem q.cut).isSome=true)/\Ext (drew w2) w') λ_ _ r=>r.mono λv w' h=>?_) ?_)))))
  .rcases h with⟨h1,rfl,h3⟩|⟨E,o,h1,rfl,h3⟩
   .exact⟨_,_,rfl,by rw[h1];decide,h3⟩
   obtain⟨_,_,_,h4⟩:=h3;exact⟨_,_,rfl,by rw[h1];exact⟨λ_=>rfl,λ_=>rfl⟩,h4⟩
  rintro _ w3 ⟨o21,e23,rfl,hee,he⟩;have u:=u.ext he;refine aN rfl (aN rfl ?_);refine⟨λjv w'=>jv=.bool (!(fW m q).isSome)/\w'=w3,?_,?_⟩
  .have ey:¬ (q.t=0/\q.i=0/\m.fault=0/\e23=0)->(fW m q).isSome=false:=λh=>by
    rw[VQ];split
    .rename_i h2
     cases hi:(fh m.mem q.cut).isSome with
     | false=>rfl
     | true=>exact absurd ⟨h2.2.1,h2.2.2.1,h2.2.2.2,hee.2 hi⟩ h
    .rfl
   refine aA mG (aB (v:=hH q.t) bO u.p6.hb rfl (bT (aC (λc2=>⟨vb (by rw[ey bL];rfl),rfl⟩) λc2=>aA sW (aB (v:=hH q.i) bO u.p6.hb rfl (bT (aC (λI=>⟨vb (by rw[ey bL];rfl),rfl⟩) λI=>bT (aC (λG=>⟨vb (by rw[ey bL];rfl),rfl⟩) λG=>aD (aA Db (aB bO u.hb rfl ?_)))))))));refine bT ?_;refine⟨vb ?_,rfl⟩
   by_cases hf:m.fault=0
   .rw[VQ,ee ⟨c1,bL,bL,hf⟩,hee.1 bL,ej bL];rfl
   rw[ey bL,ei hf];rfl
  rintro _ w4 ⟨rfl,rfl⟩ qy;refine aX (λc=>?_) (λc=>?_)
  .have B:fW m q=none:=by
    cases h:fW m q with
    | none=>rfl
    | some E=>rw[h]at c;cases c
   rw[Q5 B (afd c1)];exact pop Jz (aK (x:=(⟨0,0,0,0,0⟩:bX)) u.p5 fg rfl rfl λw5 u=>aE (x:=(⟨0,0,0,0,0⟩:bX)) fg u.At (have u:=u.drop.p5.drop.p4.p4.p4.p4.p4;⟨rfl,(qw.shut hu u).mut⟩))
  obtain⟨E,B⟩:∃E,fW m q=some E:=MV.1 (by simpa using c);have VN:fh m.mem q.cut=some E:=by rw[VQ]at B;split at B;exact B;cases B
  have Z:od m q=(qD (oU m E) (uH m),⟨15,0,0,qn q.cut q.cut.length,0⟩,0):=by unfold od;rw[B]
  rw[Z];have u:=u.drew;refine aD (aA sU (aB KN u.hb rfl (aA uW (aB (v:=hM (M:SV)) eP u.p6.hb rfl (have u:=u.p1;bD au0 u (H':=λv=>pZ λm2=>fact (DI m.mem q.cut v m2) (gm a.q m2)) (Φ:=λ_ _=>True) (λU dZ V=>?_) ?_)))))
  .exact(C93 a.q m.mem U q.cut _ _ dZ O.mem oq (λw' hc=>NY w' (V w' hc).aF) hql).mono λ_ _ r=>r.mono λ_ _ h=>Q4 h
  rintro v34 w6 _ wU;obtain⟨m2c,yI⟩:=wU.ep
  clear wU
  obtain⟨hcf,u⟩:=yI.l6
  clear yI
  obtain⟨J,_⟩|⟨azN,J,rfl,rfl⟩:=hcf
  .rw[VN]at J;cases J
  obtain rfl:E=azN:=n3.inj (VN.symm.trans J);refine aD (aA IB (aB bO u.p1.hb rfl (aJ (show -9223372036854775808<=m.dC+1/\m.dC+1<=9223372036854775807 by omega) (aD (aA IB (aV u.p1 bO (dM rfl) rfl λw7 u=>?_))))));obtain⟨VV,Qw,hr4⟩:=id hu.rc;have Gm:=hr4.1;have Gb:m.p.recover.length<=1:=Cg.f.one;refine aW ([]:List cD) u fr rfl rfl (dM rfl) (λs59 w8 u=>aD (aA xE (aA oA (aB im u.p1.hb rfl (bJ u fr (Qw _ (hK _ u.aF)) (by simp;omega) cZ λs65 w9 u=>pop (v:=hM (⟨⟨#[]⟩,cI,cI,0⟩:cD)) (by kernel_rfl) (aW ([⟨⟨#[]⟩,cI,cI,0⟩]:List cD) u fr rfl rfl (dM rfl) λs68 w10 u=>?_))))))
  have abc:=u.dQ;refine bJ u.p1 fr abc (by simp;omega) cZ (λs69 w11 u=>?_);have u:=u.p1.drop;rw[x6]at u;refine j1 fr u.dQ bL (by simp;omega) (λs72 h72=>?_);have u:=((qw.shut (m:=oU m E) ⟨hu.pr,hu.rc⟩ u.p5.p5.p5.p5.p5).p1).p1;obtain⟨azI,alH⟩:=JS Cg;refine bD asl u (H':=λ_=>qw K p (qD (oU m E) (uH m))) (Φ:=λ_ _=>True) (λU dZ V=>?_) ?_
  .refine(C64 K p (oU m E) (uH m) _ _ U _ dZ (λw' hc=>hK w' (V w' hc).aF) O.rm (by have:=O.pz.eE;show(cK m.p).length<=_;unfold cK;rw[mv];omega) (λw' hc=>h72 w' (V w' hc).dQ) (abd Cg hr4) (λt ht=>⟨alH t ht,?_⟩) (λt ht=>?_) bL).mono λ_ _ r=>r.mono λ_ _ h=>⟨trivial,h.2⟩
   .unfold uH at ht
    split at ht
    .rw[sM.1 ht];rfl
    exact DH Cg (List.mem_append_right _ ht)
   unfold uH at ht
   split at ht
   .rw[sM.1 ht];exact kO _
   exact tx (N0 Cg (List.mem_append_right _ ht)) cZ
  rintro _ w12 _ u;exact aA uW (aB (v:=hM (M:SV)) eP u.p3.hb rfl (aS au1 u (C94 _ q.cut _ (NY _ u.aF) bL) λw13 he u=>pop (Hx 15 (qn q.cut q.cut.length)) (aK (x:=(⟨15,0,0,qn q.cut q.cut.length,0⟩:bX)) u.p2 fg rfl rfl λSD u=>aE (x:=(⟨15,0,0,qn q.cut q.cut.length,0⟩:bX)) fg u.At (have u:=u.drop.p2.drop.p1.drop;⟨rfl,u.mut⟩))))
 have B:fW m q=none:=by rw[VQ,eb λh=>c1 h.1]
 have u:=u.p1.p1.p2;refine ef ash u (C22 K p m _ u.has (λw' e=>hKx _ u.aF _ e) O) (λx79 w15 cM u=>?_);obtain⟨Y,u⟩:=u.Ap;have R7:=u.p1.eH.1;have oy:=zA O;have u:=u.p1.p1.p4.p4.p4;refine⟨λmm y w'=>∃k:Nat,y=hH (k:Int)/\mm=Y.length-k/\k<=Y.length/\(∀(j:Nat) (x:bV),j<k->(fx m)[j]?=some x->lR q x=false)/\St w F [qw K p m,bZ b4 (ia (⟨0,0,0,0,0⟩:bX)),bZ b3 (ia (⟨q.kind,q.t,q.i,M⟩:bN)),bF x79 Y,eH (gu Y (fx m))] w',⟨_,0,rfl,rfl,kO _,λj x h=>absurd h (U2 _),u⟩,?_⟩;rintro mm _ w16 ⟨k,rfl,rfl,hk,ey,u⟩ vS
 refine aH jL u.p3.dQ (aO (aC (λc2=>?_) λc2=>?_));rotate_left
 .have vU:(fx m).any (lR q)=false:=by
   rw[List.any_eq_false];intro x hx;obtain⟨j,hj⟩:=List.mem_iff_getElem?.1 hx;have:=(ir.1 hj).1;rw[ey j x bL hj];decide
  rw[Q5 B vU];exact pop Jz (aK (x:=(⟨0,0,0,0,0⟩:bX)) u.p1 fg rfl rfl λw22 u=>aE (x:=(⟨0,0,0,0,0⟩:bX)) fg u.At (have u:=u.drop.p1.drop.p1.drop.p1.drop;⟨rfl,u.mut⟩))
 obtain⟨s,YS⟩:=gx Y (i:=((k:Nat):Int).toNat) bL;obtain⟨x,W⟩:=gx (fx m) (i:=k) bL;obtain⟨gx,rfl,_⟩:=u.p4.eH.2 k s x (by rw[<- o6 k];exact YS) W;refine⟨λjv w'=>jv=.bool (lR q x)/\St w F [qw K p m,bZ b4 (ia (⟨0,0,0,0,0⟩:bX)),bZ b3 (ia (⟨q.kind,q.t,q.i,M⟩:bN)),bF x79 Y,eH (gu Y (fx m))] w',?_,?_⟩
 .have Gd:lR q x=(decide (x.kind=q.kind)&&decide (x.t=q.t)&&decide (x.i=q.i)&&decide (q.cut.length=0)):=by unfold lR;first|rfl|(simp only[eq_comm])
  have u:=u.drew;refine aM jL u.p3.dQ bL YS (λq0 h0=>bW x.kind qX h0 rfl rfl λr0 g0=>aE (x:=x.kind) bO g0 (aA qX (aB (v:=hH q.kind) bO u.p2.hb rfl (aG (aC (λI=>?_) λI=>⟨vb (by rw[Gd,ej I];simp),u⟩)))));refine aM jL u.p3.dQ bL YS (λq1 h1=>bW x.t mG h1 rfl rfl λr1 g1=>aE (x:=x.t) bO g1 (aA mG (aB (v:=hH q.t) bO u.p2.hb rfl ?_)));exact aG (aC (λG=>aM jL u.p3.dQ bL YS λq2 h2=>bW x.i sW h2 rfl rfl λr2 g2=>aE (x:=x.i) bO g2 (aA sW (aB (v:=hH q.i) bO u.p2.hb rfl (aG (aC (λc5=>aA uW (aB (v:=hM (M:SV)) eP u.p2.hb rfl (aH cQ (NY _ u.aF) (aG ⟨vb (by rw[Gd,ei I,ei G,ei c5];exact ew.2 bL),u⟩)))) λc5=>⟨vb (by rw[Gd,ej c5];simp),u⟩))))) λG=>⟨vb (by rw[Gd,ej G];simp),u⟩)
 rintro _ w17 ⟨rfl,u⟩ xM;refine aX (λI=>?_) (λI=>?_);rotate_left
 .refine aJ bL ?_;refine⟨_,bL,k+1,rfl,rfl,bL,λj x' hj hx'=>?_,u⟩
  by_cases e:j=k
  .subst e;rw[W]at hx';cases hx';exact I
  exact ey j x' bL hx'
 have vU:(fx m).any (lR q)=true:=u4.2 ⟨x,j0 W,I⟩;obtain⟨hf0,h0,_,t,ht,hkd⟩:=aeP vU;have Z:od m q=(if (fx m).any (lR q)=true then(if q.kind=2 then(match m.l[q.t.toNat]? with|some t=>((sQ m t q,sO q.t (dB t.buf q.i),0):fY×bX×Int)|none=>(m,⟨0,0,0,0,0⟩,13))else((il m q.t).1,(il m q.t).2,0))else(m,⟨0,0,0,0,0⟩,13)):=by unfold od;rw[B];rfl
 rw[Z,ee vU];refine aA qX (aB (v:=hH q.kind) bO u.p2.hb rfl (aG (aC (λG=>?_) λG=>?_)))
 .rw[ee G,ht];refine aA mG (aB (v:=hH q.t) bO u.p2.hb rfl (aA sW (aB (v:=hH q.i) bO u.p2.hb rfl (bD ay9 u (H':=λ_=>qw K p (sQ m t q)) (Φ:=λv _=>v=hM (sO q.t (dB t.buf q.i))) (λU dZ V=>?_) ?_))))
  .exact C95 K p m q q.t q.i rfl rfl t U _ dZ O oq h0 ht
  rintro _ w18 rfl u;exact aK (x:=sO q.t (dB t.buf q.i)) u.p1 fg rfl rfl (λw19 u=>aE (x:=sO q.t (dB t.buf q.i)) fg u.At (have u:=u.drop.p1.drop.p1.drop.p1.drop;⟨rfl,u.mut⟩))
 rw[eb G]
 have tT:sy m t=true:=by
  rcases hkd with h|h
  .exact h.2
  .exact absurd h.1 G
 refine aA mG (aB (v:=hH q.t) bO u.p2.hb rfl (bD ay8 u (H':=λ_=>qw K p (il m q.t).1) (Φ:=λv _=>v=hM (il m q.t).2) (λU dZ V=>?_) ?_))
 .exact C96 K p m q.t t U _ dZ (λw' hc=>hK w' (V w' hc).aF) O hvo oq h0 ht tT NT
 rintro _ w20 rfl u;exact aK (x:=(il m q.t).2) u.p1 fg rfl rfl (λw21 u=>aE (x:=(il m q.t).2) fg u.At (have u:=u.drop.p1.drop.p1.drop.p1.drop;⟨rfl,u.mut⟩))
def C217(V:Value)(ps:List Ptr)(G:Nat)(first cap:List Value)(g:Nat->Bool)(w:World)(O:dz (λ_=>True) w V ps)(Y:Plain g6 G)(W:∀(i:Nat) (s:Ptr) (B:World),ps[i]?=some s->Ext w B->Calls g6 G (first++[hM s]++cap).toArray B (sK λv M=>v=.bool (g i)/\Ext B M))(hn:ps.length<=1073741824):CR 217 [V,(.func (.func G) first.toArray cap.toArray)] w (λv w'=>v=hH (rS g (v7 ps.length))/\Ext w w'):=by
 have u:=St.start w;refine eU Tryz.func217 ?_;refine aH KQ (O.ext u.aF) ?_;refine⟨λJ y B=>∃k:Nat,y=hH (k:Int)/\J=ps.length-k/\k<=ps.length/\(∀y∈(v7 ps.length).take k,g y=false)/\St w aY [] B,⟨_,0,rfl,rfl,kO _,ea,u⟩,?_⟩;rintro J _ B ⟨k,rfl,rfl,hk,E,u⟩ _;refine aO (aC (λc1=>?_) λ_=>⟨ez (mn .i64) (iT (by rw[kp (by rw[Po];omega)]at E;exact E)).symm,u.aF⟩);obtain⟨e,U⟩:=gx ps (i:=((k:Nat):Int).toNat) bL;refine aM KQ (O.ext u.aF) bL U (λq Z=>aE GP Z (gS Y (W k e B U u.aF) ?_))
 rintro _ M ⟨rfl,h2⟩;have u:=u.ext h2;exact aX (λI=>⟨ez (mn .i64) (lM E (Gj bL) I).symm,u.aF⟩) (λI=>aJ bL ⟨_,bL,k+1,rfl,rfl,bL,dS E (Gj bL) I,u⟩)
def C142(G:Value)(ps:List Ptr)(E:Nat)(first cap:List Value)(g:Nat->Bool)(w:World)(U:dz (λ_=>True) w G ps)(J:Plain g6 E)(I:∀(i:Nat) (s:Ptr) (u:World),ps[i]?=some s->Ext w u->Calls g6 E (first++[hM s]++cap).toArray u (sK λv O=>v=.bool (g i)/\Ext u O))(M:ps.length<=1073741824):CR 142 [G,(.func (.func E) first.toArray cap.toArray)] w (λv w'=>v=.bool ((v7 ps.length).any g)/\Ext w w'):=by
 have B:=St.start w;refine eU Tryz.func142 ?_;exact aS arx B (C217 _ ps E first cap g _ (U.ext B.aF) J (λi s u h e=>I i s u h (B.aF.then e)) M) (λ_ _ B=>cR ⟨vb (kD _ _),B.aF⟩)
def C140(K Φ:g7)(p:Nat)(room:Int)(t:jJ)(w:World)(E:Has (eK K Φ p room t) w)(G:K w)(O:t.buf.length<=1000):CR 140 [.pointer (some ⟨p,0,none⟩)] w (λv w'=>v=.bool (!vk t)/\Ext w w'):=by
 obtain⟨Z,nv,rg,pl,es,Y,U,hB,W,M,J,_⟩:=eK.rd E;have B:=U.cell (o:=3) rfl;have V:=J.len;have Bj:=q9 es;have u:=St.start w;refine eU Tryz.func140 ?_;refine⟨λI w'=>I=.bool (!vk t)/\Ext w w',?_,?_⟩
 .exact aD (aA jz (bU rG (B.ext u.aF) (aH uh (M.ext u.aF) (cP (aC (λ_=>⟨vb (by unfold vk;rw[ej (show ¬ t.cC.length=0 from bL)];rfl),u.aF⟩) λ_=>aS ahf u (C141 K Φ p room t _ (E.ext u.aF) O) λ_ _ u=>bP ⟨vb (by unfold vk;rw[ei (show t.cC.length=0 from bL),Bool.true_and]),u.aF⟩)))))
 rintro _ _ h _;exact h
def C68(K:g7)(p:Nat)(m:fY)(w:World)(hm:Has (gR K p m) w)(U:∀w',Ext w w'->K w')(W:my m):CR 68 [.pointer (some ⟨p,0,none⟩)] w (λv w'=>v=hM (rj m)/\Ext w w'):=by
 obtain⟨a,B⟩:=gR.rd hm (U _ (Ext.refl _));have Qj:=B.b.cell (o:=11) rfl;have I:=B.b.cell (o:=12) rfl;have M:=B.b.cell (o:=13) rfl;have J:=B.b.cell (o:=14) rfl;have hlen:=B.len;have OD:=W.tl;have u:=St.start w;refine pJ Tryz.func68 (pl:=P68) ?_;refine aQ u IJ (λb2 w1 u=>have u:=(u.enc (cs':=ia (⟨0,0,0,false,false⟩:mJ)) rfl).drew;aD (aA II (bU bO (I.ext u.aF) (aD (aA xG (bU bO (M.ext u.aF) (aD (aA RJ (bU bO (J.ext u.aF) (pop (JB m.dC m.fault m.ke) (aQ u IJ λb4 _ u=>?_)))))))))))
 refine⟨aI bO (I.ext u.aF),?_⟩;refine⟨aI bO (M.ext u.aF),?_⟩;refine⟨aI bO (J.ext u.aF),?_⟩;refine aK (x:=(⟨m.dC,m.fault,m.ke,false,false⟩:mJ)) u KR rfl rfl (λ_ u=>?_);refine⟨λw'=>St w aY [bZ b4 (ia (⟨m.dC,m.fault,m.ke,oe m,false⟩:mJ)),bZ b2 (ia (⟨0,0,0,false,false⟩:mJ))] w',?_,?_⟩
 .refine aD (aA xG (bU bO (M.ext u.aF) (aG (aC (λE=>?_) λE=>?_))))
  .refine aD (aA uY (bU IF (Qj.ext u.aF) ?_))
   refine aS arw u (C142 _ a.ps 140 [] [] (λi=>match m.l[i]? with|some t=>!vk t|none=>false) _ (B.ll.ext u.aF) arv (λi s w1 h e=>by
    obtain⟨t,ht⟩:∃t,m.l[i]?=some t:=⟨_,kE (by have:=(ir.1 h).1;omega)⟩;rw[ht];exact C140 K _ s.b m.room t w1 ((B.th i s t h ht).ext (u.aF.then e)) (U _ (u.aF.then e)) (W.th t (j0 ht)).bl) bL) (λ_ he u=>?_)
   refine bP (aA wg (aV u Gf (dM rfl) rfl λw5 u=>?_));have G:oe m = !((v7 a.ps.length).any λi=>match m.l[i]? with|some t=>!vk t|none=>false):=by unfold oe;rw[ei E,B.len];rfl
   rw[G];exact u
  refine aA wg (aV u Gf (dM rfl) rfl λw5 u=>?_);have G:oe m=false:=by unfold oe;rw[ej E];rfl
  rw[G];exact u
 intro _ u _
 have O:∀(b:Bool) (w':World),pG m=b->St w aY [bZ b4 (ia (⟨m.dC,m.fault,m.ke,oe m,b⟩:mJ)),bZ b2 (ia (⟨0,0,0,false,false⟩:mJ))] w'->St w aY [bZ b4 (ia (rj m)),bZ b2 (ia (⟨0,0,0,false,false⟩:mJ))] w':=λb w' h1 h2=>by
  subst h1;exact h2
 refine⟨λw'=>St w aY [bZ b4 (ia (rj m)),bZ b2 (ia (⟨0,0,0,false,false⟩:mJ))] w',?_,?_⟩
 .refine aD (aA xG (bU bO (M.ext u.aF) (aG (aC (λE=>?_) λE=>?_))));rotate_left
  .exact aA Ab (aV u Gf (dM rfl) rfl λ_ u=>O false _ (by unfold pG;rw[ej E];rfl) u)
  refine aA wg (aB (v:=.bool (oe m)) Gf u.hb rfl (bP (aX (λc2=>?_) λc2=>?_)));rotate_left
  .exact aA Ab (aV u Gf (dM rfl) rfl λ_ u=>O false _ (by unfold pG;rw[show oe m=true from by simpa using c2];simp) u)
  refine ef arp u (C67 K p m _ (hm.ext u.aF) (λ_ e=>U _ (u.aF.then e)) W) (λx45 w7 cM u=>?_);obtain⟨Z,V,Y⟩:=u.dl;refine aH jL V ?_;rw[show Z.length=(fx m).length from Y.1];exact aG (have u:=u.drop;aA Ab (aV u Gf (dM rfl) rfl λ_ u=>O (decide (((fx m).length:Int)=0)) _ (by unfold pG;rw[ei E,show oe m=false from by simpa using c2];rfl) u))
 intro _ u _;exact aE (x:=rj m) KR u.At (aK (x:=rj m) u.p1 KR rfl rfl λ_ u=>aE KR u.At ⟨rfl,u.drop.drop.aF⟩)
variable (w:World) (K:Value->g7)
def azQ:dH:=λi=>match i with
 | 2=>(.op 0 [] (.op 1 [] (.op 2 [] (.op 4 [] (.alt 3 [1,4] (.alt 5 [1] (.of [(6,[]),(7,[]),(8,[1,4]),(9,[])]) (.alt 8 [1,4] (.of [(5,[1]),(6,[]),(7,[]),(9,[])]) .stop)) (.alt 8 [1,4] (.of [(3,[1,4]),(5,[1]),(6,[]),(7,[]),(9,[])]) .stop))))))
 | 5=>(.of [(0,[]),(1,[]),(2,[]),(3,[1]),(4,[]),(5,[])])
 | _=>.nil
theorem Gs:PL 40:=dG Tryz.func40
theorem azR:PL 42:=dG Tryz.func42
theorem ahz:PL 101:=dG Tryz.func101
theorem asQ:PL 102:=dG Tryz.func102
theorem asR:PL 172:=dG Tryz.func172
end Go.Proofs.YtpdlpabnlkofmaaGreatDoor
namespace Go.Proofs.YtpdlpabnlkofmaaGreatDoor
open Go.Fw
def abe:pr g6 (l0 63 [].toArray)=some (.agg [hH 0,hH 0,hH 0,.slice none 0 0].toArray):=by kernel_rfl
def Ch(G:Int)(B:Option Addr)(u E:Nat):pr g6 (l0 63 [(2,hH G),(3,.slice B u E)].toArray)=some (.agg [hH 0,hH 0,hH G,.slice B u E].toArray):=by kernel_rfl
end Go.Proofs.YtpdlpabnlkofmaaGreatDoor
