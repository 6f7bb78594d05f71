/-
  Part 7.
-/
import Derived.Test.YtpdlpabnlkofmaaGreatDoorR8x6
set_option maxHeartbeats 8000000
set_option linter.all false
set_option maxRecDepth 100000
open Go.Fw.Flat renaming val->ia,enc->j0
open List renaming getElem?_eq_some_iff->kp,mem_of_getElem?->kE,take_of_length_le->kO,getElem?_eq_getElem->kX,length_append->la,length_take->l0,length_singleton->mv,getElem?_eq_none->m4,length_map->n0,append_assoc->n3,getD_eq_getElem?_getD->og,length_cons->oE,mem_cons_self->o1,getElem?_map->pd,append_nil->pL,length_drop->qb,replicate->r6,drop_drop->sZ,nil_append->s4,take_add_one->ta,getElem?_append_left->ub,length_eq_zero_iff->uX,range->u3,mem_singleton->vx,map_append->vA,drop_eq_nil_of_le->vF,mem_of_mem_take->wF,ext_getElem?->wM,filter_append->zM,getElem?_set_self->AY,length_replicate->BO,drop_left->Eu,getElem?_set_ne->F1,length_set->GR,getElem?_range->H3,take_left->Lw,filter_filter->Qi,length_range->RV,drop_take->Uk,replicate_succ'->Us,filter->aaE
open Nat renaming zero_le->l1,le_trans->wS,mul_le_mul_right->Cs,not_lt_zero->M9,lt_or_ge->Po
open Go.Instr renaming build->l4
open Go.Fw.Deep renaming dr->mh,ext->Lv
open Go.Value renaming int->ni,tuple->Bv
open Option renaming some->oi,toList_some->Ix,isSome_iff_exists->MY
open Int renaming toNat_natCast->qa,le_refl->NI
open Decidable renaming not_not->vh
open Bool renaming true_and->yU,false_and->P7
namespace Go.Proofs.YtpdlpabnlkofmaaGreatDoor
open Go.Fw
theorem Bs.ext{w w':World}{p:Nat}{m:Mem}(h:Bs w p m)(e:Ext w w'):Bs w' p m:=by
 obtain⟨ov,fv,lv,kv,wv,ws,h1,h2,h3,h4,h5,h6,u⟩:=h.ex
 exact⟨ov,fv,lv,kv,wv,ws,h1,h2.of_eq (e.bY _ h2.lt λx=>x),h3.ext e,h4.ext e,h5.ext e,h6.ext e,u.ext e⟩
def NQ{w:World}{p:Nat}{m:Mem}{ov fv lv kv wv:Value}{ws:List mZ}(h1:pG ws m)(h2:mT w p [ov,fv,lv,kv,wv])(h3:dC (λ_=>True) w ov m.of)(h4:dC (λ_=>True) w fv m.dU)
  (h5:dC (λ_=>True) w lv m.l) (h6:dC (λ_=>True) w kv m.kept) (u:dC (λ_=>True) w wv ws):Bs w p m:=⟨ov,fv,lv,kv,wv,ws,h1,h2,h3,h4,h5,h6,u⟩
section
variable {ws:List mZ}{m:Mem}{x:mZ}{L:Nat}
theorem rS(u:pG ws m)(B:wB m)(E:x∈ws):0<=x.line/\x.line<fV m.of/\0<=x.cell/\x.cell<m.of.length:=by
 obtain⟨G,h1⟩:=u.2 x E
 have h2:=B.ofr _ (kE h1)
 grind
theorem Ii(f:mZ->Bool):∀l:List mZ,l.length=(l.filter f).length+(l.filter λx=>!f x).length
 | []=>rfl
 | x::l=>by
  have u:=Ii f l
  grind
theorem NR(N:Nat):∀(L:Nat) (ws:List mZ),(∀x∈ws,0<=x.line/\x.line<L)->(∀n:Int,(ws.filter λx=>decide (x.line=n)).length<=N)->ws.length<=L*N
 | 0,ws,h,_=>by
  cases ws with
  | nil=>simp
  | cons x r=>have:=h x (o1 ..);omega
 | L+1,ws,h,u=>by
  have B:=NR N L (ws.filter λx=>!decide (x.line=(L:Int))) (λx E=>by
   grind) (λn=>by
   refine wS ?_ (u n)
   have e:∀p q:mZ->Bool,(ws.filter q).filter p=(ws.filter p).filter q:=λp q=>by
    rw[Qi,Qi]
    grind
   grind)
  have e:=Ii (λx=>decide (x.line=(L:Int))) ws
  have:=u L
  grind
theorem Bt{N:Nat}(u:pG ws m)(B:wB m)(hb:MB m N):ws.length<=20*N:=by
 have h1:=NR N (fV m.of).toNat ws (λx E=>by have:=rS u B E;omega) λn=>by
  have:=hb n
  rw[u.1,n0]at this
  exact this
 have:=B.lb
 exact wS h1 (Cs _ cK)
def zV(ws:List mZ)(L:Nat):List Int:=(u3 L).map fun (i:Nat)=>(((ws.filter λx=>decide (x.line=(i:Int))).length:Nat):Int)
theorem xO:(zV ws L).length=L:=by simp[zV]
theorem aan(L:Nat):r6 L (0:Int)=zV [] L:=by
 unfold zV
 simp[List.map_const']
theorem DV{i:Nat}(h:i<L):(zV ws L)[i]?=some (((ws.filter λx=>decide (x.line=(i:Int))).length:Nat):Int):=by
 unfold zV;rw[pd,H3 h];rfl
theorem akZ{i:Nat}{e:Int}(h:(zV ws L)[i]?=some e):0<=e/\e<=ws.length:=by
 have hi:i<L:=by have:=(kp.1 h).1;rwa [xO]at this
 rw[DV hi]at h
 grind
theorem Vd{k:Nat}{e:Int}(E:ws[k]?=some x)(G:0<=x.line)(h1:x.line<L)(B:(zV (ws.take k) L)[x.line.toNat]?=some e) :
  (zV (ws.take k) L).set x.line.toNat (e+1)=zV (ws.take (k+1)) L:=by
 have ht:ws.take (k+1)=ws.take k++[x]:=by rw[ta,E];rfl
 apply wM
 intro i
 by_cases hi:i<L
 .rw[DV hi,ht,zM,la]
  by_cases u:i=x.line.toNat
  .subst u
   rw[AY (by rw[xO];exact hi)]
   rw[DV hi]at B
   have I:([x].filter λx=>decide (x.line=((x.line.toNat:Nat):Int)))=[x]:=by
    have:((x.line.toNat:Nat):Int)=x.line:=cK
    simp[aaE,this]
   have:((x.line.toNat:Nat):Int)=x.line:=cK
   simp only[this]at B |-
   simp only[oi.injEq]at B
   simp[aaE,B]
  rw[F1 (Ne.symm u),DV hi]
  have:¬ x.line=(i:Int):=cK
  simp[aaE,this]
 rw[m4 (by rw[GR,xO];omega),m4 (by rw[xO];omega)]
def za(m:Mem):List Int:=(psM m).map fun (k:Nat)=>(k:Int)
theorem aao(u:pG ws m):zV ws (fV m.of).toNat=za m:=by
 unfold zV za psM Fx
 rw[List.map_map]
 refine List.map_congr_left λi _=>?_
 simp[u.1]
theorem Ve:(za m).length=(fV m.of).toNat:=by unfold za;rw[n0,ad2]
end
section
variable {ws:List mZ}{m:Mem}{x:mZ}
theorem QP{cell n u:Int}{l:List Int}(B:pG ws m)(G:0<=cell)(h1:m.of[cell.toNat]?=some u) :
  pG (ws++[⟨u,cell,n⟩]) {m with l:=l,fK:=pP m.fK u (m.fK u++[⟨cell,n⟩])}:=by
 refine⟨λk=>?_,λx E=>?_⟩
 .show pP m.fK u (m.fK u++[⟨cell,n⟩]) k=_
  rw[zM,vA,<- B.1]
  unfold pP
  grind
 rcases List.mem_append.1 E with h|h
 .exact B.2 x h
 grind
def oe(line:Int)(ws:List mZ):List km:=(ws.filter λx=>decide (x.line=line)).map λx=>⟨x.cell,x.n⟩
def De(line:Int)(ws:List mZ):List mZ:=ws.filter λx=>!decide (x.line=line)
theorem aap{k:Nat}{line:Int}(h:ws[k]?=some x)(u:x.line=line):oe line (ws.take (k+1))=oe line (ws.take k)++[⟨x.cell,x.n⟩]:=by
 unfold oe;rw[ta,h,Ix,zM,vA];grind
theorem aeR{k:Nat}{line:Int}(h:ws[k]?=some x)(u:¬ x.line=line):oe line (ws.take (k+1))=oe line (ws.take k):=by
 unfold oe;rw[ta,h,Ix,zM,vA];grind
theorem aaq{k:Nat}{line:Int}(h:ws[k]?=some x)(u:x.line=line):De line (ws.take (k+1))=De line (ws.take k):=by
 unfold De;rw[ta,h,Ix,zM];grind
theorem aeS{k:Nat}{line:Int}(h:ws[k]?=some x)(u:¬ x.line=line):De line (ws.take (k+1))=De line (ws.take k)++[x]:=by
 unfold De;rw[ta,h,Ix,zM];grind
theorem aar{k:Nat}{line:Int}:(De line (ws.take k)).length<=ws.length:=wS (List.length_filter_le ..) dD
theorem aas{line:Int}{G:List Int}(u:pG ws m):pG (De line ws) {m with kept:=G,fK:=pP m.fK line []}:=by
 refine⟨λk=>?_,λx E=>u.2 x (List.mem_filter.1 E).1⟩
 show pP m.fK line [] k=_
 unfold pP De
 rw[Qi]
 by_cases B:k=line
 .simp_all
 rw[ej B,u.1]
 grind
theorem Ij(u:pG ws m)(line:Int):oe line ws=m.fK line:=(u.1 line).symm
end
def ak0{k:List Int}{a:List km}:(nN k a).length=k.length:=xA a k
def C77(p:Nat)(m:Mem)(w:World)(M:Bs w p m)(E:wB m):CR 77 [(.pointer (some ⟨p,0,none⟩))] w (λv w'=>v=hZ (fV m.of)/\Ext w w'):=by
 have ML:=M;obtain⟨ov,fv,lv,kv,wv,ws,jZ,G,B,O,CB,V,Y⟩:=M.ex;have J:=G.cell (o:=0) rfl;have q1:=G.cell (o:=1) rfl;have q2:=G.cell (o:=2) rfl;have q3:=G.cell (o:=3) rfl;have q4:=G.cell (o:=4) rfl;have Z:=E.fl;have Kk:=E.MK;have BC:=E.ll;have BV:=E.kl;have Ob:=E.lb;have Gs:=rR E;have u:=St.start w;refine oM Tryz.func77 (pl:=P77) ?_;refine aE (aA uC (bO eg (J.ext u.aG) (aK cS (B.ext u.aG) (aH (aC (λ_=>⟨gO (ni .i64) (by unfold fV;rw[ew cK]),u.aG⟩) λgE=>aE (aA uC (have u:=u.drew;bO eg (J.ext u.aG) (aE (aA uC (bO eg (J.ext u.aG) (aK cS (B.ext u.aG) (fh cK ?_))))))))))))
 obtain⟨lW,I⟩:=gx m.of (i:=((m.of.length:Int)-1).toNat) cK;refine aQ cS B cK I (λ_ U=>aD bM (U.ext u.aG) ?_);have W:=E.ofr _ (kE I);exact aN cK ⟨gO (ni .i64) (by unfold fV;rw[ej cK,og,show m.of.length-1=((m.of.length:Int)-1).toNat from cK,I];rfl),u.aG⟩
def C17(p:Nat)(m:Mem)(w:World)(Z:Bs w p m)(B:wB m)(hb:MB m 1000000):CR 17 [(.pointer (some ⟨p,0,none⟩))] w (λv w'=>lh (bH v (za m)) w w'):=by
 have ML:=Z;obtain⟨ov,fv,lv,kv,wv,ws,I,E,hmo,hmf,CB,aat,G⟩:=Z.ex;have q0:=E.cell (o:=0) rfl;have q1:=E.cell (o:=1) rfl;have q2:=E.cell (o:=2) rfl;have q3:=E.cell (o:=3) rfl;have U:=E.cell (o:=4) rfl;have MM:=B.fl;have Kk:=B.MK;have BC:=B.ll;have BV:=B.kl;have Ob:=B.lb;have Gs:=rR B;have YY:=Bt I B hb;have u:=St.start w;refine fg Tryz.func17 ?_;refine aV amH u (C77 _ m _ (ML.ext u.aG) B) (λY he u=>wL (0:Int) u cS uA cK cK ee λM _ u=>?_);refine⟨λW x Y=>∃k:Nat,x=hZ (k:Int)/\W=ws.length-k/\k<=ws.length/\St w aZ [bH M (zV (ws.take k) (fV m.of).toNat)] Y,⟨_,0,rfl,rfl,l1 _,by rw[aan]at u;exact u⟩,?_⟩
 rintro W _ _ ⟨k,rfl,rfl,hkw,u⟩ _;refine aE (aA kN (bO tA (U.ext u.aG) (aK tB (G.ext u.aG) (aR (aC (λjr=>?_) λjr=>?_)))))
 .refine aE (aA kN (bO tA (U.ext u.aG) ?_));obtain⟨V,J⟩:=gx ws (i:=(k:Int).toNat) cK;refine aQ tB G cK J (λ_ qC=>bW V.line wN qC rfl rfl λ_ wY=>aD bM (wY.ext u.aG) ?_);have oG:=rS I B (kE J);have EZ:(zV (ws.take k) (fV m.of).toNat).length=(fV m.of).toNat:=xO;obtain⟨q9,O⟩:=gx (zV (ws.take k) (fV m.of).toNat) (i:=V.line.toNat) cK;refine dR u cS cK cK (λ_ mC=>gM u bM mC O ?_);have hcb:=akZ O;have Hq:(ws.take k).length<=ws.length:=by rw[l0];omega
  refine aN cK (dR u cS cK cK λ_ rh=>ju _ u bM rh cK λ_ u=>aN cK ?_);exact⟨_,cK,k+1,rfl,rfl,cK,by rw[<- Vd (k:=k) J oG.1 cK O];exact u⟩
 .rw[kO cK,aao I]at u;exact u.fresh
def C166(p:Nat)(m:Mem)(F:Nat->Prop)(cell n:Int)(w:World)(hF:(gu p m).p w F)(E:wB m)(hb:MB m 1000000):CR 166 [(.pointer (some ⟨p,0,none⟩)),hZ cell,hZ n] w (λv w'=>v=hZ (if Gv m cell=true then 0 else 1)/\mR F (gu p (fo m cell n)) w w'):=by
 have u:=St.begin hF;obtain⟨ov,fv,lv,kv,wv,ws,I,u⟩:=gu.open u;have MM:=E.fl;have Kk:=E.MK;have BC:=E.ll;have BV:=E.kl;have Ob:=E.lb;have Gs:=rR E;have YY:=Bt I E hb;refine oM Tryz.func166 (pl:=auI) ?_;refine⟨λU w'=>U=.bool (decide (cell<0\/m.l.length<=cell))/\w=w',aR (aC (λ_=>⟨N7 cK,rfl⟩) λ_=>aE (aA rX (aB eg u.hb rfl (aK cS u.p3.dX (cR ⟨yF cK,rfl⟩))))),?_⟩;rintro _ _ ⟨rfl,W⟩ _;subst W;refine aC (λke=>?_) (λke=>?_)
 .have u:=u.p5.p5.p5.p5.p5.p5;have G:Gv m cell=false:=by unfold Gv;rw[decide_eq_false_iff_not];omega
  unfold fo;rw[G];exact⟨rfl,(gu.shut I u).mut⟩
 have G:Gv m cell=true:=by unfold Gv;rw[decide_eq_true_eq];omega
 refine aE (aA rX (aB eg u.hb rfl ?_));obtain⟨iK,jS⟩:=gx m.l (i:=cell.toNat) cK;refine dR u.p3 cS cK cK (λ_ Y=>ju _ u.p3 bM Y cK λ_ u=>⟨λw'=>St w F [gu p (fo m cell n)] w',aE (aA uC (aB eg u.p1.hb rfl (aK cS u.p2.dX (aR (aC (λmf=>?_) λmf=>?_))))),?_⟩)
 .refine aE (aA kN (have u:=u.drew;aB tA u.p1.hb rfl (aE (aA uC (aB eg u.p1.hb rfl ?_)))));obtain⟨J,M⟩:=gx m.of (i:=cell.toNat) cK;refine dR u.p2 cS cK cK (λ_ V=>gM u.p2 bM V M (pop (IX _ _ _) (bD ([(⟨J,cell,n⟩:mZ)]) u tB rfl rfl (dL rfl) λZ _ u=>?_)));refine⟨aF tA (u.p2.hb.cell rfl),?_⟩;have Qa:=u.dX;refine bJ u.p6 tB Qa (by simp;omega) ee (λO _ u=>have u:=u.p1.drop;aE (aA kN (aT u.p2 tA (dL rfl) u.dX.one λ_ u=>?_)))
  have u:=u.p5.p2.p3.p5.p5.p5.p4.p5.p5.p5.p5.p5;have B:fo m cell n={m with l:=m.l.set cell.toNat n,fK:=pP m.fK J (m.fK J++[⟨cell,n⟩])}:=by unfold fo;rw[ew G,ew cK,og,M];rfl
  rw[B];exact gu.shut (m:={m with l:=_,fK:=_}) (QP I cK M) u
 .have u:=u.p5.p5.p2.p5.p5.p5;have B:fo m cell n={m with l:=m.l.set cell.toNat n}:=by unfold fo;rw[ew G,ej cK]
  rw[B];exact gu.shut (m:={m with l:=_}) I u
 intro _ u _;exact⟨by rw[G];rfl,u.mut⟩
def C167(p:Nat)(m:Mem)(F:Nat->Prop)(line:Int)(w:World)(hF:(gu p m).p w F)(B:wB m)(hb:MB m 1000000):CR 167 [(.pointer (some ⟨p,0,none⟩)),hZ line] w (λv w'=>v=hZ (if Ft m line=true then 0 else 1)/\mR F (gu p (n7 m line)) w w'):=by
 have u:=St.begin hF;obtain⟨ov,fv,lv,kv,wv,ws,G,u⟩:=gu.open u;have MM:=B.fl;have Kk:=B.MK;have BC:=B.ll;have BV:=B.kl;have Ob:=B.lb;have Gs:=rR B;have YY:=Bt G B hb;refine oM Tryz.func167 (pl:=auJ) ?_;refine⟨λjv w'=>jv=.bool (decide (line<0\/fV m.of<=line))/\St w F [bY p [ov,fv,lv,kv,wv],bH ov m.of,bH fv m.dU,bH lv m.l,bH kv m.kept,bH wv ws] w',aR (aC (λ_=>⟨vb (by first|exact(ez cK).symm|exact ga.2 cK),u⟩) λ_=>aV amH u (C77 _ m _ (NQ G u.hb u.p1.dX u.p2.dX u.p3.dX u.p4.dX u.p5.dX) B) λ_ _ u=>cR ⟨vb (by first|exact(ez cK).symm|exact ga.2 cK),u⟩),?_⟩
 rintro _ _ ⟨rfl,u⟩ _;refine aC (λjF=>?_) (λjF=>?_)
 .have u:=u.p5.p5.p5.p5.p5.p5;have M:Ft m line=false:=by unfold Ft;rw[decide_eq_false_iff_not];omega
  unfold n7;rw[M];exact⟨rfl,(gu.shut G u).mut⟩
 refine bD ([]:List mZ) u tB rfl rfl (dL rfl) (λO _ u=>?_);have u:=u.p6.p6.p6.p6.p6.p6.p6;refine⟨λW o x w1=>∃k:Nat,x=hZ (k:Int)/\W=ws.length-k/\k<=ws.length/\St w F [bH o (De line (ws.take k)),bY p [ov,fv,lv,kv,wv],bH ov m.of,bH fv m.dU,bH lv m.l,bH kv (nN m.kept (oe line (ws.take k))),bH wv ws] w1,⟨_,0,rfl,rfl,l1 _,u⟩,?_⟩;rintro W l5 _ _ ⟨k,rfl,rfl,hkw,u⟩ _;refine aE (aA kN (aB tA u.p1.hb rfl (aK tB u.p6.dX (aR (aC (λZ=>⟨λo w'=>St w F [bH o (De line (ws.take (k+1))),bY p [ov,fv,lv,kv,wv],bH ov m.of,bH fv m.dU,bH lv m.l,bH kv (nN m.kept (oe line (ws.take (k+1)))),bH wv ws] w',?_,?_⟩) λZ=>?_)))))
 .refine aE (aA kN (aB tA u.p1.hb rfl ?_));obtain⟨J,E⟩:=gx ws (i:=(k:Int).toNat) cK;refine dR u.p6 tB cK cK (λ_ mC=>mA wN mC λ_ sw=>nG J.line u.p6 bM sw E rfl (aH (aC (λI=>?_) λI=>?_)))
  .refine aE (aA Au (have u:=u.drew;aB eg u.p1.hb rfl (aE (aA kN (aB tA u.p1.hb rfl (dR u.p6 tB cK cK λ_ uY=>mA Lc uY λ_ EK=>nG J.cell u.p6 bM EK E rfl (aE (aA kN (aB tA u.p1.hb rfl (dR u.p6 tB cK cK λ_ X1=>?_))))))))));refine mA Ld X1 (λ_ V=>nG J.n u.p6 bM V E rfl ?_);have oG:=rS G B (kE E);have T0:(nN m.kept (oe line (ws.take k))).length=m.kept.length:=ak0;obtain⟨WW,OV⟩:=gx (nN m.kept (oe line (ws.take k))) (i:=J.cell.toNat) cK
   refine dR u.p5 cS cK cK (λ_ AM=>ju _ u.p5 bM AM cK λ_ u=>?_);have u:=u.p6.p1.p6.p6.p6.p6.p6;rw[aaq (k:=k) E I,aap (k:=k) E I,Ci];exact u
  refine aE (aA kN (aB tA u.p1.hb rfl (dR u.p6 tB cK cK λ_ Fg=>gM u.p6 Wm Fg E (bD ([J]) u tB rfl rfl (dL rfl) λarE _ u=>?_))));have Kh:(De line (ws.take k)).length<=ws.length:=aar;have U:=u.dX;refine bJ u.p1 tB U (by simp;omega) ee (λarF _ u=>?_);have u:=u.p1.drop.p6.p6.p6.p6.p6.p6.p6;rw[aeS (k:=k) E I,aeR (k:=k) E I];exact u
 .rintro Y _ u _;exact aN cK (have u:=u.p6.p6.p6.p6.p6.p6.p6;⟨_,cK,k+1,rfl,rfl,cK,u⟩)
 refine aE (aA kN (aT u.p1 tA (dL rfl) u.dX.one λ_ u=>?_));have u:=u.p6.drop.p1.p5.p5.p5.p5.p5;have M:Ft m line=true:=by unfold Ft;rw[decide_eq_true_eq];omega
 have Qb:n7 m line={m with kept:=nN m.kept (m.fK line),fK:=pP m.fK line []}:=by unfold n7;rw[ew M]
 rw[kO cK,Ij G]at u;rw[Qb,M];exact⟨rfl,(gu.shut (m:={m with kept:=_,fK:=_}) (aas G) u).mut⟩
section
variable {ws:List mZ}{m:Mem}{x:mZ}{cut:List Int}
def ry(m:Mem)(us:List mZ):Mem:={m with fK:=λi=>oe i us}
theorem Vf(u:pG ws m):ry m ws=m:=by
 unfold ry
 have:(λi=>oe i ws)=m.fK:=funext λi=>Ij u i
 rw[this]
theorem Ik{j:Nat}{v:Int}:∀(us:List km) (k:List Int),(∀u∈us,u.cell.toNat≠j)->nN (k.set j v) us=(nN k us).set j v
 | [],k,_=>rfl
 | u::us,k,h=>by
  show nN ((k.set j v).set u.cell.toNat u.n) us=(nN (k.set u.cell.toNat u.n) us).set j v
  rw[List.set_comm _ _ (h u (o1 ..)).symm,Ik us _ λw B=>h w (List.mem_cons_of_mem _ B)]
theorem Il(i:Int)(us:List mZ)(x:mZ):oe i (us++[x])=if x.line=i then oe i us++[⟨x.cell,x.n⟩]else oe i us:=by
 unfold oe;grind
theorem NS{us:List mZ}(U:∀y∈us,0<=y.cell/\m.of[y.cell.toNat]?=some y.line)(V:0<=x.cell/\m.of[x.cell.toNat]?=some x.line)(O:0<=x.line)(K:Nat) :
  pX (ry m (us++[x])) cut K=if x.line<K/\((oe x.line us).length:Int)<cut.getD x.line.toNat 0 then(pX (ry m us) cut K).set x.cell.toNat x.n else pX (ry m us) cut K:=by
 induction K with
 | zero=>rw[ej cK];rfl
 | succ K I=>
  rw[u0,u0,I]
  show nN _ ((oe (K:Int) (us++[x])).take _)=if _ then(nN _ ((oe (K:Int) us).take _)).set _ _ else nN _ ((oe (K:Int) us).take _)
  rw[Il]
  by_cases G:x.line=(K:Int)
  .have E:x.line.toNat=K:=cK
   rw[ew G,ej cK,<- E,show((x.line.toNat:Nat):Int)=x.line from cK]
   by_cases hc:((oe x.line us).length:Int)<cut.getD x.line.toNat 0
   .rw[ew ⟨cK,hc⟩,kO dD,Ci,kO cK]
   grind
  .rw[ej G]
   by_cases hc:x.line<(K:Int)/\((oe x.line us).length:Int)<cut.getD x.line.toNat 0
   .rw[ew hc,ew ⟨cK,hc.2⟩,Ik]
    intro u B M
    obtain⟨y,J,rfl⟩:=List.mem_map.1 (wF B)
    grind
   grind
def pq(us:List mZ)(cut:List Int):List Int:=(u3 cut.length).map fun (i:Nat)=>max 0 (cut.getD i 0-((oe i us).length:Int))
theorem vd{us:List mZ}:(pq us cut).length=cut.length:=by simp[pq]
theorem Bu{us:List mZ}{i:Nat}(h:i<cut.length):(pq us cut)[i]?=some (max 0 (cut.getD i 0-((oe i us).length:Int))):=by
 grind[pq,oe]
theorem Vg(h:∀(i:Nat) (c:Int),cut[i]?=some c->0<=c):cut=pq [] cut:=by
 apply wM
 intro i
 by_cases hi:i<cut.length
 .rw[Bu hi,kX hi]
  grind[oe]
 grind[pq]
theorem J7{us:List mZ}{l e:Int}(E:0<=l)(u:(pq us cut)[l.toNat]?=some e):l.toNat<cut.length/\e=max 0 (cut.getD l.toNat 0-((oe l us).length:Int)):=by
 have B:l.toNat<cut.length:=by have:=(kp.1 u).1;rwa [vd]at this
 rw[Bu B,show((l.toNat:Nat):Int)=l from cK]at u
 grind
theorem F5{us:List mZ}(E:0<=x.line)(B:x.line.toNat<cut.length):pq (us++[x]) cut=(pq us cut).set x.line.toNat (max 0 (cut.getD x.line.toNat 0-((oe x.line us).length:Int)-1)):=by
 apply wM
 intro i
 by_cases hi:i<cut.length
 .rw[Bu hi,Il]
  by_cases u:i=x.line.toNat
  .subst u
   rw[AY (by rw[vd];exact hi),ew cK,la,mv,show((x.line.toNat:Nat):Int)=x.line from cK]
   congr 1;omega
  rw[F1 (Ne.symm u),Bu hi,ej cK]
 rw[m4 (by rw[vd];omega),m4 (by rw[GR,vd];omega)]
theorem F6{α:Type}{l:List α}{k:Nat}{y:α}(h:l[k]?=some y):l.take (k+1)=l.take k++[y]:=by rw[ta,h];rfl
theorem Tp{k:Nat}{e:Int}(B:pG ws m)(J:wB m)(M:(cut.length:Int)=fV m.of)(h:ws[k]?=some x)(I:(pq (ws.take k) cut)[x.line.toNat]?=some e)(h1:0<e) :
  (pq (ws.take k) cut).set x.line.toNat (e-1)=pq (ws.take (k+1)) cut/\(pX (ry m (ws.take k)) cut cut.length).set x.cell.toNat x.n=pX (ry m (ws.take (k+1))) cut cut.length:=by
 have E:=kE h
 have u:=rS B J E
 obtain⟨h2,h3⟩:=J7 u.1 I
 rw[F6 h,F5 u.1 h2,NS (λy G=>B.2 y (wF G)) (B.2 x E) u.1,ew ⟨cK,cK⟩]
 grind
theorem Tq{k:Nat}{e:Int}(B:pG ws m)(J:wB m)(h:ws[k]?=some x)(E:(pq (ws.take k) cut)[x.line.toNat]?=some e)(h1:¬ 0<e) :
  pq (ws.take k) cut=pq (ws.take (k+1)) cut/\pX (ry m (ws.take k)) cut cut.length=pX (ry m (ws.take (k+1))) cut cut.length:=by
 have G:=kE h
 have u:=rS B J G
 have M:=E
 obtain⟨h2,h3⟩:=J7 u.1 E
 rw[F6 h,F5 u.1 h2,NS (λy I=>B.2 y (wF I)) (B.2 x G) u.1,ej cK]
 refine⟨?_,rfl⟩
 rw[show max 0 (cut.getD x.line.toNat 0-((oe x.line (ws.take k)).length:Int)-1)=e from cK]
 apply wM
 grind
theorem aau{k:Nat}{e:Int}(u:(za m)[k]?=some e):e=(m.fK k).length:=by
 unfold za psM at u
 rw[pd]at u
 have B:k<(fV m.of).toNat:=by
  cases h:(Fx m (fV m.of).toNat)[k]? with
  | none=>grind
  | some y=>have:=(kp.1 h).1;unfold Fx at this;grind
 rw[Y6 B]at u
 grind
theorem Vh(m:Mem)(cut:List Int):m.kept=pX (ry m []) cut cut.length:=by
 have:∀K,pX (ry m []) cut K=m.kept:=λK=>by
  induction K with
  | zero=>rfl
  | succ K u=>rw[u0,u];simp[ry,oe,nN]
 grind
theorem QQ(u:List Int):pG [] (mJ m u):=⟨λ_=>rfl,λx h=>by cases h⟩
end
def C92(p:Nat)(m:Mem)(cut:List Int)(cv:Value)(w:World)(hm:Bs w p m)(B:wB m)(hb:MB m 1000000)(U:dC (λ_=>True) w cv cut)(Y7:cut.length<=1000):CR 92 [(.pointer (some ⟨p,0,none⟩)),cv] w (λv w'=>(fD m cut=none/\v=.tuple #[.slice none 0 0,hZ 1]/\Ext w w')\/∃lz o,fD m cut=some lz/\v=.tuple #[o,hZ 0]/\lh (bH o lz) w w'):=by
 have ML:=hm;obtain⟨ov,fv,lv,kv,wv,ws,J,Y,hmo,hmf,CB,O,Z⟩:=hm.ex;have q0:=Y.cell (o:=0) rfl;have q1:=Y.cell (o:=1) rfl;have q2:=Y.cell (o:=2) rfl;have G:=Y.cell (o:=3) rfl;have q4:=Y.cell (o:=4) rfl;have MM:=B.fl;have Kk:=B.MK;have BC:=B.ll;have BV:=B.kl;have Ob:=B.lb;have Gs:=rR B;have YY:=Bt J B hb;have hpil:=Ve (m:=m);have u:=St.start w;refine ahE _ _ _ _ ?_;unfold S92;refine dY aul u (C17 _ m _ (ML.ext u.aG) B hb) (λx13 w1 cL u=>aK cS (U.ext u.aG) (aK cS u.dX (bV (aC (λ_=>.inl ⟨MO cK,rfl,u.aG⟩) λlR=>?_))))
 refine⟨λW x w1=>∃k:Nat,x=hZ (k:Int)/\W=cut.length-k/\k<=cut.length/\(∀(i:Nat) (c:Int),i<k->cut[i]?=some c->0<=c/\c<=(m.fK i).length)/\St w aZ [bH x13 (za m)] w1,⟨_,0,rfl,rfl,l1 _,λ_ _ h=>absurd h cK,u⟩,?_⟩;rintro W _ _ ⟨k,rfl,rfl,xl,kC,u⟩ _;refine aK cS u.dX (aR (aC (λiP=>?_) λiP=>?_))
 .obtain⟨SF,xz⟩:=gx cut (i:=(k:Int).toNat) cK;refine⟨λjv w'=>jv=.bool (decide (SF<0\/((m.fK k).length:Int)<SF))/\St w aZ [bH x13 (za m)] w',aQ cS U cK xz (λ_ uN=>have u:=u.drew;aD bM (uN.ext u.aG) (aR (aC (λ_=>⟨vb (by first|exact(ez cK).symm|exact ga.2 cK),u⟩) λagB=>?_))),?_⟩
  .refine aQ cS U cK xz (λ_ rh=>aD bM (rh.ext u.aG) ?_);obtain⟨e_x37,aav⟩:=gx (za m) (i:=(k:Int).toNat) cK;refine dR u cS cK cK (λ_ xk=>gM u bM xk aav (cO ?_));have Bz:=aau (k:=k) aav;exact⟨vb (by first|exact(ez cK).symm|exact ga.2 cK),u⟩
  rintro _ _ ⟨rfl,u⟩ _;refine aC (λ_=>.inl ⟨MN (k:=k) xz cK,rfl,u.aG⟩) (λxe=>aN cK ?_);refine⟨_,cK,k+1,rfl,rfl,cK,λi c hi hc=>?_,u⟩
  by_cases e:i=k
  .subst e;obtain rfl:=oi.inj (hc.symm.trans xz);omega
  exact kC i c cK hc
 have M:(cut.length:Int)=fV m.of:=cK
 refine⟨λa b w'=>St w aZ [bH a cut,bH b m.kept] w',aE (aA Au (have u:=u.drew;bO eg (G.ext u.aG) ⟨bD ([]:List Int) u cS rfl rfl (dL rfl) (λarD _ u=>⟨aF eg (G.ext u.aG),⟨?_,⟨?_,?_⟩⟩⟩),⟨?_,?_⟩⟩)),?_⟩
 .have ak2:=(U.ext u.aG);refine bJ u cS ak2 (by simp<;>omega) ee (λagA _ u=>?_);refine⟨aF eg (G.ext u.aG),?_⟩;refine bD ([]:List Int) u cS rfl rfl (dL rfl) (λs_x44 _ u=>?_);refine⟨aF eg (G.ext u.aG),?_⟩;have QG:=(O.ext u.aG);exact bJ u cS QG (by simp<;>omega) ee (λ_ _ u=>have u:=u.p2.drop.p1;u)
 .refine bD ([]:List Int) u cS rfl rfl (dL rfl) (λatJ _ u=>?_);refine⟨aF eg (G.ext u.aG),?_⟩;have aax:=(U.ext u.aG);refine bJ u.p1 cS aax (by simp<;>omega) ee (λatK _ u=>?_);refine⟨aF eg (G.ext u.aG),?_⟩;have aay:=(O.ext u.aG);exact bJ u.p1 cS aay (by simp<;>omega) ee (λ_ _ u=>have u:=u.p2.drop.p1;u)
 .trivial
 .refine bD ([]:List Int) u cS rfl rfl (dL rfl) (λatL _ u=>?_);refine⟨aF eg (G.ext u.aG),?_⟩;refine bD ([]:List Int) u cS rfl rfl (dL rfl) (λatM _ u=>?_);refine⟨aF eg (G.ext u.aG),?_⟩;have aaz:=(U.ext u.aG);refine bJ u cS aaz (by simp<;>omega) ee (λatO _ u=>?_);refine⟨aF eg (G.ext u.aG),?_⟩;have aaA:=(O.ext u.aG);exact bJ u.p1 cS aaA (by simp<;>omega) ee (λ_ _ u=>have u:=u.p2.drop.p1;u)
 .trivial
 rintro GP V4 _ u _;have u:=u.p1.p1;refine⟨λW x w1=>∃j:Nat,x=hZ (j:Int)/\W=ws.length-j/\j<=ws.length/\St w aZ [bH GP (pq (ws.take j) cut),bH V4 (pX (ry m (ws.take j)) cut cut.length)] w1,⟨_,0,rfl,rfl,l1 _,by rw[Vg (λi c hc=>(kC i c (by have:=(kp.1 hc).1;omega) hc).1),Vh m cut]at u;simpa using u⟩,?_⟩;rintro W _ _ ⟨j,rfl,rfl,hj,u⟩ _;refine aE (aA kN (bO tA (q4.ext u.aG) (aK tB (Z.ext u.aG) (aR (aC (λagv=>⟨λw'=>St w aZ [bH GP (pq (ws.take (j+1)) cut),bH V4 (pX (ry m (ws.take (j+1))) cut cut.length)] w',?_,?_⟩) λagv=>?_)))))
 .refine aE (aA kN (bO tA (q4.ext u.aG) ?_));obtain⟨E,V⟩:=gx ws (i:=(j:Int).toNat) cK;refine aQ tB Z cK V (λ_ EM=>aD Wm (EM.ext u.aG) (aM u acm λb_w11 _ u=>aI (x:=E) u Wm rfl rfl λ_ u=>aA wN (aB (v:=hZ E.line) bM u.hb rfl ?_)));have oG:=rS J B (kE V);have hlw:(pq (ws.take j) cut).length=cut.length:=vd;obtain⟨e_x69,I⟩:=gx (pq (ws.take j) cut) (i:=E.line.toNat) cK;refine dR u.p1 cS cK cK (λ_ Mi=>gM u.p1 bM Mi I ?_)
  have hlb2:=(J7 oG.1 I).2
  have hcg:cut.getD E.line.toNat 0<=1000000:=by
   have hl9:E.line.toNat<cut.length:=cK
   rw[og,kX hl9];have h1:=kC _ _ cK (kX hl9);have h2:=hb ((E.line.toNat:Nat):Int);simp only[Option.getD_some];omega
  refine cO (aC (λHg=>?_) λHg=>?_)
  .refine aA wN (have u:=u.drew;aB (v:=hZ E.line) bM u.hb rfl (aA wN (aB (v:=hZ E.line) bM u.hb rfl (dR u.p1 cS cK cK λ_ Nm=>gM u.p1 bM Nm I (fh cK (dR u.p1 cS cK cK λ_ ar6=>ju _ u.p1 bM ar6 cK λ_ u=>aA Lc (aB (v:=hZ E.cell) bM u.p1.hb rfl (aA Ld (aB (v:=hZ E.n) bM u.p1.hb rfl ?_)))))))));have hil:(pX (ry m (ws.take j)) cut cut.length).length=m.kept.length:=pe _ _ _;obtain⟨e_x87,ayN⟩:=gx (pX (ry m (ws.take j)) cut cut.length) (i:=E.cell.toNat) cK
   refine dR u.p2 cS cK cK (λ_ ar7=>ju _ u.p2 bM ar7 cK λ_ u=>?_);have u:=u.p2.drop.p1;rw[<- (Tp (k:=j) J B M V I Hg).1,<- (Tp (k:=j) J B M V I Hg).2];exact u
  have u:=u.drop.p1.p1;rw[<- (Tq (k:=j) J B V I Hg).1,<- (Tq (k:=j) J B V I Hg).2];exact u
 .rintro _ u _;exact aN cK (have u:=u.p1.p1;⟨_,cK,j+1,rfl,rfl,cK,u⟩)
 have u:=u.drop;rw[kO cK,Vf J]at u;exact .inr ⟨_,_,HD M (λi c _ hc=>kC i c cK hc),rfl,u.fresh⟩
def C93(p:Nat)(m:Mem)(F:Nat->Prop)(cut:List Int)(cv:Value)(w:World)(hF:(gu p m).p w F)(E:wB m)(hb:MB m 1000000)(hC:∀w',gv F w w'->dC (λ_=>True) w' cv cut)(Y7:cut.length<=1000):CR 93 [(.pointer (some ⟨p,0,none⟩)),cv] w (λv w'=>(fD m cut=none/\v=hZ 1/\mR F (gu p m) w w')\/∃lz,fD m cut=some lz/\v=hZ 0/\mR F (gu p (mJ m lz)) w w'):=by
 have u:=St.begin hF;obtain⟨ov,fv,lv,kv,wv,ws,jZ,u⟩:=gu.open u;have MM:=E.fl;have Kk:=E.MK;have BC:=E.ll;have Z:=E.kl;have Ob:=E.lb;have Gs:=rR E;refine oM Tryz.func93 (pl:=P93) ?_;refine dO amI (C92 _ m cut _ _ (NQ jZ u.hb u.p1.dX u.p2.dX u.p3.dX u.p4.dX u.p5.dX) E hb (hC _ u.aG) cK) ?_;rintro U _ M
 rcases M with⟨B,rfl,he⟩|⟨G,V,B,rfl,cL⟩
 .have u:=u.ext he;exact aO rfl (aO rfl (bV (j8 ee (have u:=u.p5.p5.p5.p5.p5.p5;.inl ⟨B,rfl,(gu.shut jZ u).mut⟩))))
 have u:=u.made cL;refine aO rfl (aO rfl (bV (fx ee (bD ([]:List Int) u cS rfl rfl (dL rfl) λJ _ u=>?_))));have lG:=u.p1.dX;refine bJ u cS lG (by have I:G.length=m.of.length:=(by unfold fD at B;split at B<;>simp at B;rw[<- B,pe];exact Z);simp;omega) ee (λXK _ u=>aE (aA Wl (have u:=u.drew;aB eg u.p2.hb rfl (aE (aA uC (aB eg u.p2.hb rfl (aK cS u.p3.dX (zu cS u.p4.dX cK cK λO Y=>?_))))))));have W:=(Y _ u.p4.dX);refine bJ u cS W (by have I:G.length=m.of.length:=(by unfold fD at B;split at B<;>simp at B;rw[<- B,pe];exact Z);simp;omega) ee (λagD _ u=>aE (aA rX (aT u.p2 eg (dL rfl) u.dX.one λ_ u=>aE (aA Au (aT u eg (dL rfl) u.p2.dX.one λ_ u=>aE (aA kN (aT u tA (dL rfl) (rfl) λ_ u=>?_)))))))
 have u:=(((((((((((u.eL (α:=mZ)).p6).drop).p6).drop).p6).drop).p3).p3).p5).p5).p5;have I:G.length=m.of.length:=by unfold fD at B;split at B<;>simp at B;rw[<- B,pe];exact Z
 rw[show(m.of.length:Int).toNat=G.length from cK,s4]at u;exact .inr ⟨_,B,rfl,(gu.shut (m:=mJ m G) (QQ _) u).mut⟩
structure DoK(K:hM)(d:pB)(q:Dq):Prop where
 x:∀w,K w->mh w d.x q.1
 a:∃ra,∀w,rn K d.body ra q.2.1.flat w
 b:∃rb,∀w,rn K d.eu rb q.2.2.1.flat w
 e:d.in_=q.2.2.2
def lq(K:hM)(ds:List pB)(qs:List Dq):Prop:=ds.length=qs.length/\∀(j:Nat) (d:pB) (q:Dq),ds[j]?=some d->qs[j]?=some q->DoK K d q
section
variable {K K2:hM}{ds es:List pB}{qs rs:List Dq}{d:pB}{q:Dq}
theorem lq.nil:lq K [] []:=⟨rfl,λj d q h=>by cases h⟩
theorem lq.cons(h:DoK K d q)(u:lq K ds qs):lq K (d::ds) (q::qs):=by
 refine⟨by simp[u.1],λj e r h1 h2=>?_⟩
 cases j with
 | zero=>cases h1;cases h2;exact h
 | succ j=>exact u.2 j e r h1 h2
theorem lq.head(h:lq K ds (q::qs)):∃d es,ds=d::es/\DoK K d q/\lq K es qs:=by
 cases ds with
 | nil=>have:=h.1;grind
 | cons d es=>exact⟨d,es,rfl,h.2 0 d q rfl rfl,by have:=h.1;grind,λj e r h1 h2=>h.2 (j+1) e r h1 h2⟩
theorem lq.append(h:lq K ds qs)(u:lq K es rs):lq K (ds++es) (qs++rs):=by
 refine⟨by simp[h.1,u.1],λj d q h1 h2=>?_⟩
 have B:=h.1
 by_cases E:j<ds.length
 .rw[ub E]at h1
  rw[ub cK]at h2
  exact h.2 j d q h1 h2
 rw[List.getElem?_append_right cK]at h1 h2
 rw[<- B]at h2
 exact u.2 _ d q h1 h2
theorem lq.drop(h:lq K ds qs)(k:Nat):lq K (ds.drop k) (qs.drop k):=by
 refine⟨by simp[h.1],λj d q h1 h2=>?_⟩
 rw[List.getElem?_drop]at h1 h2
 exact h.2 _ d q h1 h2
end
@[reducible] def yt(lv:Value)(B:SV)(rg:Value)(u:Nat)(f:Int):List Value:=[lv,ia B,rg,.pointer (some ⟨u,0,none⟩),.int .i64 f]
def mj(K:hM)(p:Nat)(room:Int)(t:jY):HP:=pK λu:Nat=>pK λB:SV=>pK λrg=>pK λlv=>pK λds:List pB=>fact ((∀w,K w->dC (λ_=>True) w (ia B) t.names)/\lq K ds (we t.cG)/\FT t.cG)
 (sep (bY p (yt lv B rg u t.fault)) (sep (jl u room t.buf) (sep (bH rg t.dQ) (eD λw=>dC (λ_=>True) w lv ds))))
abbrev RTK(K:hM)(u:SV)(ds:List pB)(t:jY):Prop:=(∀w,K w->dC (λ_=>True) w (ia u) t.names)/\lq K ds (we t.cG)/\FT t.cG
section
variable {w w0:World}{A:Nat->Prop}{R:List HP}{p:Nat}{K:hM}{room:Int}{t:jY}
theorem QR{H1 H2 u B:HP}(E:St w0 A (sep H1 (sep H2 (sep u B))::R) w):St w0 A (H1::H2::u::B::R) w:=by
 have h1:=E.split
 have h2:=h1.p1.split
 have h3:=h2.p1.split
 exact h3.p2.p3
theorem QS{H1 H2 u B:HP}(E:St w0 A (H1::H2::u::B::R) w):St w0 A (sep H1 (sep H2 (sep u B))::R) w:=by
 have h3:=St.join E.p3.p3
 have h2:=St.join h3.p2
 exact St.join h2.p1
theorem mj.open(u:St w0 A (mj K p room t::R) w):∃B E rg lv ds,RTK K E ds t/\
  St w0 A (bY p (yt lv E rg B t.fault)::jl B room t.buf::bH rg t.dQ::eD (λw=>dC (λ_=>True) w lv ds)::R) w:=by
 obtain⟨B,u⟩:=u.eh;obtain⟨E,u⟩:=u.eh;obtain⟨rg,u⟩:=u.eh;obtain⟨lv,u⟩:=u.eh;obtain⟨ds,u⟩:=u.eh;obtain⟨G,u⟩:=u.mz
 exact⟨B,E,rg,lv,ds,G,QR u⟩
theorem mj.shut{u:Nat}{B:SV}{rg lv:Value}{ds:List pB}(G:RTK K B ds t)
  (E:St w0 A (bY p (yt lv B rg u t.fault)::jl u room t.buf::bH rg t.dQ::eD (λw=>dC (λ_=>True) w lv ds)::R) w):St w0 A (mj K p room t::R) w:=
 St.ek u (St.ek B (St.ek rg (St.ek lv (St.ek ds (St.oy G (QS E))))))
theorem mj.rd(h:Has (mj K p room t) w):∃B E rg lv ds,RTK K E ds t/\mT w p (yt lv E rg B t.fault)/\uf w B room t.buf/\dC (λ_=>True) w rg t.dQ/\dC (λ_=>True) w lv ds:=by
 obtain⟨F,u⟩:=h.st
 obtain⟨B,E,rg,lv,ds,G,u⟩:=mj.open u
 exact⟨B,E,rg,lv,ds,G,u.hb,DE u.p1,u.p2.dX,u.p3.eD⟩
end
structure RA where
 pv:bP
 q:Nat
 ow:Value
 ll:Value
 ps:List Ptr
@[reducible] def pw(a:RA)(s:gN):List Value:=[ia a.pv.lines,ia a.pv.iR,ia a.pv.eJ,ia a.pv.threads,ia a.pv.recover,ia a.pv.dS,.int .i64 s.room,.int .i64 s.bZ,.pointer (some ⟨a.q,0,none⟩),a.ow,a.ll,.int .i64 s.fault,.int .i64 s.jd]
structure RSK(K:hM)(a:RA)(s:gN):Prop where
 pr:∀w,K w->mh w a.pv s.p
 rc:∃vD,(∀w,K w->dC (λ_=>True) w (ia a.pv.recover) vD)/\C9 K vD s.p.recover
abbrev NT(K:hM)(room:Int)(s:Ptr)(t:jY):HP:=mj K s.b room t
def qP(K:hM)(p:Nat)(m:gN):HP:=pK λa:RA=>fact (RSK K a m) (sep (bY p (pw a m)) (sep (gu a.q m.mem) (sep (bH a.ow m.eV) (sep (bH a.ll a.ps) (g9 (NT K m.room) a.ps m.l)))))
section
variable {w w' w0:World}{A:Nat->Prop}{R:List HP}{p:Nat}{K:hM}{m:gN}{a:RA}{i:Nat}{tp:Ptr}{t:jY}
theorem qP.open(u:St w0 A (qP K p m::R) w):∃a,RSK K a m/\St w0 A (bY p (pw a m)::gu a.q m.mem::bH a.ow m.eV::bH a.ll a.ps::g9 (NT K m.room) a.ps m.l::R) w:=by
 obtain⟨a,u⟩:=u.eh;obtain⟨B,u⟩:=u.mz;exact⟨a,B,sM u⟩
theorem qP.shut(B:RSK K a m)(u:St w0 A (bY p (pw a m)::gu a.q m.mem::bH a.ow m.eV::bH a.ll a.ps::g9 (NT K m.room) a.ps m.l::R) w):St w0 A (qP K p m::R) w:=
 St.ek a (St.oy B (sN u))
structure ayP(K:hM)(w:World)(p:Nat)(m:gN)(a:RA):Prop where
 uk:RSK K a m
 b:mT w p (pw a m)
 mem:Bs w a.q m.mem
 ow:dC (λ_=>True) w a.ow m.eV
 ll:dC (λ_=>True) w a.ll a.ps
 th:∀(i:Nat) (s:Ptr) (t:jY),a.ps[i]?=some s->m.l[i]?=some t->Has (mj K s.b m.room t) w
 len:a.ps.length=m.l.length
theorem qP.rd(h:Has (qP K p m) w):∃a,ayP K w p m a:=by
 obtain⟨F,u⟩:=h.st
 obtain⟨a,B,u⟩:=qP.open u
 exact⟨a,B,u.hb,FY (St.has u.p1),u.p2.dX,u.p3.dX,λi s t h1 h2=>u.p4.ahV h1 h2 (Φ:=λw=>Has (mj K s.b m.room t) w) λh=>⟨_,h⟩,u.p4.iZ⟩
end
variable (w:World) (K:Value->hM)
def S221(B G M O:Value):Prop:=
 iA 82 B G λa=>lA 164 a w λb=>aL 164 w λc d=>sA 164 c b d λe=>fA 164 c 0 λf=>lA 3 f e λg=>bB .eql 3 g (i 1) λh=>cV h (fA 164 c 1 λj=>lA 3 j e λk=>
 K (.tuple #[k,(i 0)]) e) (fA 164 c 0 λl=>lA 3 l e λn=>bB .eql 3 n (i 2) λo=>cV o (fA 164 c 2 λp=>lA 9 p e λq=>cF 123 [M,q] e λr s=>iA 41 O r λt=>
 lA 3 t s λu=>K (.tuple #[u,(i 0)]) s) (bB .add 3 G (i 1) λv=>cF 221 [B,v,M,O] e λx y=>xT x 0 λz=>xT x 1 λW=>bB .neq 31 W (i 0) λab=>cV ab (
 K (.tuple #[(i 0),W]) y) (fA 164 c 0 λac=>lA 3 ac y λad=>cF 273 [ad] y λae J=>bB .eql 3 ae (i 1) λag=>cV ag (fA 164 c 0 λah=>lA 3 ah J λai=>cF 274 [ai,z] J λU ak=>
 xT U 0 λal=>xT U 1 λam=>K (.tuple #[al,am]) ak) (bB .add 3 G (i 1) λan=>cF 251 [B,an] J λao ap=>cF 221 [B,ao,M,O] ap λY I=>xT Y 0 λE=>
 xT Y 1 λZ=>bB .neq 31 Z (i 0) λav=>cV av (K (.tuple #[(i 0),Z]) I) (fA 164 c 0 λaw=>lA 3 aw I λax=>cF 275 [ax,z,E] I λV az=>xT V 0 λa0=>xT V 1 λa1=>
 K (.tuple #[a0,a1]) az)))))
theorem aeV(B u E G:Value)(h:S221 w K B u E G):CR 221 [B,u,E,G] w K:=
 qm 77 (λ_=>.nil) 768 [.tmp 8,.tmp 9] Tryz.func221 h
theorem ahc:PL 146:=dK Tryz.func146
theorem aaB:PL 221:=dK Tryz.func221
end Go.Proofs.YtpdlpabnlkofmaaGreatDoor
namespace Go.Proofs.YtpdlpabnlkofmaaGreatDoor
open Go.Fw
theorem Ex.Tr{t:Ex}(h:t.wf)(u:kids t.root.op=0):t=.leaf t.root:=by
 have:=Ex.o8 h
 cases t with
 | leaf x=>rfl
 | un x a=>rw[u]at this;cases this
 | bin x a b=>rw[u]at this;cases this
theorem Ex.ahd{t:Ex}(h:t.wf)(u:kids t.root.op=1):∃a,t=.un t.root a:=by
 have:=Ex.o8 h
 cases t with
 | leaf x=>rw[u]at this;cases this
 | un x a=>exact⟨a,rfl⟩
 | bin x a b=>rw[u]at this;cases this
theorem Ex.aaC{t:Ex}(h:t.wf)(u:kids t.root.op=2):∃a b,t=.bin t.root a b:=by
 have:=Ex.o8 h
 cases t with
 | leaf x=>rw[u]at this;cases this
 | un x a=>rw[u]at this;cases this
 | bin x a b=>exact⟨a,b,rfl⟩
theorem ak8{k:Int}(h:kids k=1):Gq k=0:=by
 unfold kids at h;grind[Gq]
def BE.NU{xs:List cA}{i:Int}{t:Ex}(h:BE xs i t){y:cA}(u:y∈t.flat):y∈xs:=by
 obtain⟨_,_,r,h⟩:=h
 exact List.mem_of_mem_drop (show y∈xs.drop i.toNat by grind)
theorem C221(lv nv uv:Value)(xs:List cA)(ns:List ByteArray)(nums:List Int)(i:Int)(t:Ex)(N:Nat)(w:World)(hL:dC (λ_=>True) w lv xs)(hN:dC (λ_=>True) w nv ns)(hU:dC (λ_=>True) w uv nums)(hn:xs.length<=1048576)(BB:ns.length<=1048576)(Y:ns.length=nums.length)(kC:yy nums)(U:∀y∈xs,y.op=2->0<=cU ns y.name)(M:∀y∈xs,eZ y.n)(O:BE xs i t)(hNt:t.size<N) :
   CR 221 [lv,hZ i,nv,uv] w (λv w'=>v=.tuple #[hZ (t.val ns nums).1,hZ (t.val ns nums).2]/\Ext w w'):=by
 obtain⟨e,G⟩:∃e,e=t.root:=⟨_,rfl⟩;have Z:xs[i.toNat]?=some e:=by rw[G];exact O.root.1
 have hem:=kE Z;have hri:=O.root.2;have hie:=O.end;have Oa:=Ex.o8 O.2.1;rw[<- G]at Oa;have W9:=tZ e.op;have hi0:=O.1;have E:=O.2.1;have B:=St.start w;refine aeV _ _ _ _ _ _ ?_;unfold S221;refine aQ gX (hL.ext B.aG) cK Z (λq hq=>aD r7 hq (aM B yc λb _ B=>aI (x:=e) B r7 rfl rfl λ_ B=>aA fa (aB bM B.hb rfl (aH (aC (λc1=>?_) λc1=>?_)))))
 .refine aA jo (aB bM B.hb rfl ?_);have ht:=Ex.Tr E (by rw[<- G,c1];rfl);rw[ht,<- G];refine⟨?_,B.drop.aG⟩;show _=Bv #[hZ (if e.op=2 then _ else e.n),hZ 0];rw[ej cK]
 refine aA fa (aB bM B.hb rfl (aH (aC (λc2=>?_) λc2=>?_)))
 .refine aA gk (aB gw B.hb rfl (aV rT B (C123 _ ns _ _ (hN.ext B.aG) BB) λ_ W B=>?_));obtain⟨j,hj,B7,_⟩:=lX (dJ.1 (U e hem c2));have D3:=(kp.1 B7).1;obtain⟨u,hu⟩:=gx nums (i:=(cU ns e.name).toNat) cK;refine aQ cS (hU.ext B.aG) cK hu (λq2 Gc=>aD bM Gc ?_);have ht:=Ex.Tr E (by rw[<- G,c2];rfl);rw[ht,<- G];refine⟨?_,B.drop.aG⟩;show _=Bv #[hZ (if e.op=2 then nums.getD (cU ns e.name).toNat 0 else e.n),hZ 0];rw[ew c2,og,hu];rfl
 have hk0:kids e.op=1\/kids e.op=2:=by
  have:kids e.op≠0:=λh=>by unfold kids at h;split at h;omega;split at h;omega;split at h;omega;omega
  omega
 obtain⟨a,I⟩:=gx t.eC (i:=0) cK;have hka:=Ex.ua E (kE I);have J:=O.kid I;have Vv:=J.end;rw[show i+1+((qz t.eC 0:Nat):Int)=i+1 by simp[qz]]at J Vv;refine aN cK (aV aaB B (C221 lv nv uv xs ns nums _ a (N-1) _ (hL.ext B.aG) (hN.ext B.aG) (hU.ext B.aG) hn BB Y kC U M J cK) λ_ W B=>aO rfl (aO rfl (bV (aC (λc3=>?_) λc3=>?_))))
 .refine⟨?_,B.drop.aG⟩
  rcases hk0 with h|h
  .obtain⟨a2,ht⟩:=Ex.ahd E (by rw[<- G];exact h);rw[ht]at I |-;cases I
   rw[Ex.FQ,ej c3]
  obtain⟨a2,b2,ht⟩:=Ex.aaC E (by rw[<- G];exact h);rw[ht]at I |-;cases I
  rw[Ex.Bq,ej c3]
 have hao:=Ex.QN (ns:=ns) kC a (λy hy=>M y (J.NU hy));refine aA fa (aB bM B.hb rfl (aV KL B (C273 _ _) λ_ W B=>aH (aC (λc4=>?_) λc4=>?_)))
 .refine aA fa (aB bM B.hb rfl (aV ang B (C274 _ _ _) λ_ W B=>aO rfl (aO rfl ?_)));refine⟨?_,B.drop.aG⟩;obtain⟨a2,ht⟩:=Ex.ahd E (by rw[<- G];exact c4);rw[ht]at I |-;cases I
  rw[Ex.FQ,ew (vh.1 c3),<- G,ak8 c4]
 have xl:kids e.op=2:=cK
 refine aN cK (aV KJ B (C251 _ _ _ (xs.length+1) _ (hL.ext B.aG) cK cK cK) λ_ W B=>?_);rw[Vv.1];obtain⟨b',hb⟩:∃b,t.eC[1]?=some b:=⟨_,kX cK⟩;have hkb':=Ex.ua E (kE hb);have V:=O.kid hb;rw[uM I,show i+1+((qz t.eC 0+a.size:Nat):Int)=i+1+(a.size:Int)by simp[qz]]at V;refine aV aaB B (C221 lv nv uv xs ns nums _ b' (N-1) _ (hL.ext B.aG) (hN.ext B.aG) (hU.ext B.aG) hn BB Y kC U M V cK) (λ_ W B=>aO rfl (aO rfl ?_));obtain⟨a2,b2,ht⟩:=Ex.aaC E (by rw[<- G];exact xl);rw[ht]at I hb |-
 cases I;cases hb
 rw[Ex.Bq,ew (vh.1 c3),<- G];refine bV (aC (λc5=>?_) λc5=>?_)
 .refine⟨?_,B.drop.aG⟩;rw[ej c5]
 have hbo:=Ex.QN (ns:=ns) kC b' (λy hy=>M y (V.NU hy));refine aA fa (aB bM B.hb rfl (aV anh B (C275 _ _ _ _ hao hbo) λ_ W B=>aO rfl (aO rfl ?_)));refine⟨?_,B.drop.aG⟩;rw[ew (vh.1 c5)]
termination_by N
decreasing_by all_goals omega
def C146(lv G I:Value)(xs:List cA)(ns:List ByteArray)(nums:List Int)(w:World)(W:dC (λ_=>True) w lv xs)(M:dC (λ_=>True) w G ns)(V:dC (λ_=>True) w I nums)(Z:xs.length<=1048576)(Y:ns.length<=1048576)(RY:∀x∈xs,x.name.size<=1048576)(kC:yy nums) :
  CR 146 [lv,G,I] w (λv w'=>v=.tuple #[hZ (pR ns nums xs).1,hZ (pR ns nums xs).2]/\Ext w w'):=by
 have u:=St.start w;refine fg Tryz.func146 ?_;refine aK iC M (aK cS V (bV (aC (λc1=>?_) λc1=>?_)))
 .have B:pR ns nums xs=(0,1):=by unfold pR;rw[ej cK]
  rw[B];exact⟨rfl,u.aG⟩
 refine dO am1 (C220 _ _ xs ns _ W M Z Y RY) ?_;rintro _ _ ⟨s,rfl,cL⟩;have u:=(u.made cL).drop;refine aO rfl (aO rfl (bV (aC (λU=>?_) λU=>?_)))
 .have B:pR ns nums xs=(0,kW ns xs):=by unfold pR;rw[ew cK,ej U]
  rw[B];exact⟨rfl,u.aG⟩
 have O:kW ns xs=0:=vh.1 U;obtain⟨t,hT,B,E,J⟩:=U9 (nums:=nums) O cK;refine aV aaB u (C221 lv G I xs ns nums _ t (t.size+1) _ (W.ext u.aG) (M.ext u.aG) (V.ext u.aG) Z Y cK kC E J hT cK) (λ_ he u=>aO rfl (aO rfl ?_));rw[B];exact⟨rfl,u.aG⟩
def Bk.ayQ{L:List bQ}{k:Nat}{x:bQ}{a c r:Bk}(h:L.drop k=(Bk.cons x a c r).flat)(E:(Bk.cons x a c r).str){i j e:Int}(hi:i=k+1)(Y:j=k+1+x.body)(M:e=k+1+x.body+x.eu) :
  L[k]?=some x/\(L.take j.toNat).drop i.toNat=a.flat/\(L.take e.toNat).drop j.toNat=c.flat/\L.drop e.toNat=r.flat/\e.toNat<=L.length:=by
 obtain⟨U,O,_⟩:=E
 have V:=a.cY
 have W:=c.cY
 have h1:L.drop (k+1)=a.flat++(c.flat++r.flat):=by rw[<- sZ,h];rfl
 have h2:L.drop (k+1+a.flat.length)=c.flat++r.flat:=by rw[<- sZ,h1,Eu]
 have h3:L.drop (k+1+a.flat.length+c.flat.length)=r.flat:=by rw[<- sZ,h2,Eu]
 have B:=gO List.length h
 have I:(Bk.cons x a c r).flat.length=1+(a.flat.length+(c.flat.length+r.flat.length)):=by simp[Bk.flat];omega
 rw[I,qb]at B
 have J:i.toNat=k+1:=cK
 have u:j.toNat=k+1+a.flat.length:=cK
 have G:e.toNat=k+1+a.flat.length+c.flat.length:=cK
 refine⟨?_,?_,?_,dD,cK⟩
 .have:(L.drop k)[0]?=some x:=by rw[h];rfl
  grind
 .rw[Uk,J,u,h1,show k+1+a.flat.length-(k+1)=a.flat.length by omega,Lw]
 rw[Uk,u,G,h2,show k+1+a.flat.length+c.flat.length-(k+1+a.flat.length)=c.flat.length by omega,Lw]
theorem C128(K:hM)(sv:SV)(rows:List bE)(b:Bk)(w:World)(G:∀w',Ext w w'->K w')(hb:b.str)(O0:∀w,rn K sv rows b.flat w)(Hc:b.flat.length<=100000) :
   CR 128 [ia sv] w (λv w'=>∃ds,lq K ds (DU false b)/\lh (bH v ds) w w'):=by
 have u:=St.start w;refine aeH _ _ _ ?_;unfold S128;have I:∀w',K w'->dC (λ_=>True) w' (ia sv) rows:=λw' h=>(O0 w').2 h;have yW:∀w',K w'->iq rows b.flat w':=λw' h=>(O0 w').1 w' h;have Gw:rows.length=b.flat.length:=(yW _ (G _ (Ext.refl _))).1;refine bD ([]:List pB) u nz rfl rfl (dL rfl) (λs8 O u=>?_);refine⟨λmm o y w'=>∃(k:Nat) (ds:List pB) (qs:List Dq) (r:Bk),y=hZ (k:Int)/\mm=b.flat.length-k/\r.str/\b.flat.drop k=r.flat/\DU false b=qs++DU false r/\lq K ds qs/\ds.length<=k/\k<=b.flat.length/\St w aZ [bH o ds] w',⟨_,0,[],[],b,rfl,rfl,hb,rfl,rfl,lq.nil,Nat.le_refl _,l1 _,u⟩,?_⟩
 rintro mm o _ _ ⟨k,ds,qs,r,rfl,rfl,hr,PK,Gl,Y,Hh,hk,u⟩ _;refine aK fq (I _ (G _ u.aG)) (aR (aC (λc=>?_) λc=>?_));rotate_left
 .have h0:r.flat.length=0:=by rw[<- PK,qb];omega
  have hrn:r=.nil:=by
   cases r with
   | nil=>rfl
   | cons _ _ _ _=>simp[Bk.flat]at h0
  subst hrn;exact⟨ds,by rw[Gl];show lq K ds (qs++[]);rw[pL];exact Y,u.fresh⟩
 obtain⟨x,a,c',r',rfl⟩:=Bk.Dy (t:=r) (by rw[<- PK,qb];omega);obtain⟨g1,g2,g3,g4,sa,sc,sr⟩:=id hr;obtain⟨e1,e2,e3,e4,e5⟩:=Bk.ayQ PK hr (i:=(k:Int)+1) (j:=(k:Int)+1+x.body) (e:=(k:Int)+1+x.body+x.eu) rfl rfl rfl;obtain⟨Z,Uy⟩:∃Z,rows[k]?=some Z:=⟨_,kX (by have:=(kp.1 e1).1;omega)⟩;have V:∀w',K w'->mh w' Z x:=λw' h=>(yW w' h).2 k Z x Uy e1;obtain⟨J,M,rfl,_,_⟩:=ji (V _ (G _ u.aG));refine aQ fq (I _ (G _ u.aG)) cK (by rw[qa];exact Uy) (λq hq=>aD eM hq (aM u jy λb5 _ u=>aI (x:=(⟨x.kind,x.eF,x.name,J,M,x.n,x.body,x.eu,x.at_⟩:bE)) u eM rfl rfl λ_ u=>aN cK (aA iY (aB (v:=hZ x.body) bM u.hb rfl (aN cK (aA iI (aB (v:=hZ x.eu) bM u.hb rfl (aN cK (have u:=u.drew;aD (x:=(⟨x.kind,x.eF,x.name,J,M,x.n,x.body,x.eu,x.at_⟩:bE)) eM u.At (aN cK ?_))))))))))
 refine oz fq (I _ (G _ u.aG)) cK cK cK (λs32 U=>?_);obtain⟨E,rfl⟩:=(U _ (I _ (G _ u.aG))).fJ;refine oz fq (I _ (G _ u.aG)) cK cK cK (λs36 W=>?_);obtain⟨B,rfl⟩:=(W _ (I _ (G _ u.aG))).fJ;refine pop (J5 x.kind x.eF x.name J.a J.n J.cap M.a M.n M.cap x.n x.body x.eu x.at_ E.a E.n E.cap B.a B.n B.cap) (bD ([⟨(⟨x.kind,x.eF,x.name,J,M,x.n,x.body,x.eu,x.at_⟩:bE),E,B,false⟩]:List pB) u nz rfl rfl (dL rfl) λs38 _ u=>?_);have ayR:=u.dX;refine bJ u.p2 nz ayR (by rw[mv];omega) ee (λs39 _ u=>⟨_,?_,((k:Int)+1+x.body+x.eu).toNat,ds++[⟨(⟨x.kind,x.eF,x.name,J,M,x.n,x.body,x.eu,x.at_⟩:bE),E,B,false⟩],qs++[(x,a,c',false)],r',gO (ni .i64) cK,rfl,sr,e4,by rw[Gl];simp[DU],Y.append (lq.cons ⟨V,⟨_,λO=>⟨λw' h=>?_,λh=>U O (I O h)⟩⟩,⟨_,λO=>⟨λw' h=>?_,λh=>W O (I O h)⟩⟩,rfl⟩ lq.nil),?_,e5,u.p1.drop.p1.drop⟩)
 .omega
 .have:=iq.cut (i:=((k:Int)+1).toNat) (j:=((k:Int)+1+x.body).toNat) (yW w' h);rw[e2]at this;exact this
 .have:=iq.cut (i:=((k:Int)+1+x.body).toNat) (j:=((k:Int)+1+x.body+x.eu).toNat) (yW w' h);rw[e3]at this;exact this
 rw[la,mv];omega
def C203(p:Nat)(t:jY)(QT:Value)(J:SV)(rg:Value)(U:Nat)(lv:Value)(xs:List cA)(w:World)(M:mT w p (yt QT J rg U t.fault))(RY:dC (λ_=>True) w (ia J) t.names)(V:dC (λ_=>True) w rg t.dQ)(O:dC (λ_=>True) w lv xs)
  (Z:xs.length<=1048576) (Y:t.names.length<=1048576) (G:∀x∈xs,x.name.size<=1000) (W:yy t.dQ):CR 203 [.pointer (some ⟨p,0,none⟩),lv] w (λv w'=>v=.tuple #[hZ (eI t xs).1,.bool (eI t xs).2]/\Ext w w'):=by
 have I:=M.cell (o:=1) rfl;have B:=M.cell (o:=2) rfl;have u:=St.start w;refine oM Tryz.func203 (pl:=ayD) ?_;refine aK gX O (aH (aC (λc=>?_) λc=>?_))
 .have E:eI t xs=(0,true):=by unfold eI;rw[ew cK]
  rw[E];exact⟨rfl,u.aG⟩
 have E:eI t xs=((pR t.names t.dQ xs).1,decide ((pR t.names t.dQ xs).2=0)):=by unfold eI;rw[ej cK]
 have u:=u.drew;refine aE (aA Le (bO jk (I.ext u.aG) (aE (aA Lf (bO eg (B.ext u.aG) (aV ahc u (C146 _ _ _ xs t.names t.dQ _ (O.ext u.aG) (RY.ext u.aG) (V.ext u.aG) Z Y (λx h=>wS (G x h) ee) W) λ_ he u=>aO rfl (aO rfl (aH ?_))))))));rw[E];exact⟨rfl,u.aG⟩
def C204(K:hM)(p:Nat)(room:Int)(t:jY)(F:Nat->Prop)(s:ByteArray)(n:Int)(w:World)(J:(mj K p room t).p w F)(E:∀w',gv F w w'->K w')(G:0<=cU t.names s)(W:t.dQ.length=t.names.length)(M:t.names.length<=1000) :
   CR 204 [.pointer (some ⟨p,0,none⟩),.string s,hZ n] w (λv w'=>v=.tuple #[]/\mR F (mj K p room (pg t s n)) w w'):=by
 obtain⟨j,Z,I,_⟩:=lX (dJ.1 G);have O:=(kp.1 I).1;have u:=St.begin J;refine fg Tryz.func204 ?_;obtain⟨U,V,rg,Y,ds,B,u⟩:=mj.open u;exact aE (aA Le (aB jk u.hb rfl (aV rT u (C123 _ t.names s _ (B.1 _ (E _ u.aG)) cK) λ_ _ u=>aE (aA Lf (aB eg u.hb rfl (dR u.p2 cS cK cK λ_ h=>ju (n:Int) u.p2 bM h cK λ_ u=>have u:=mj.shut (t:=pg t s n) B u.p3.p1.p3.p3;⟨rfl,u.mut⟩))))))
def C171(K:hM)(p:Nat)(room:Int)(t:jY)(F:Nat->Prop)(lv:Value)(es:List pB)(qs rest:List Dq)(q0:Dq)(p2:PD)(w:World)(hF:(mj K p room t).p w F)(hK:∀w',gv F w w'->K w')(hL:∀w',gv F w w'->dC (λ_=>True) w' lv es)(W:lq K es qs)(Z:we t.cG=q0::rest)(G:we p2=qs++rest)(Mv:FT p2)(Lp:es.length<=100000)(Gw:rest.length<=100000) :
   CR 171 [.pointer (some ⟨p,0,none⟩),lv] w (λv w'=>v=.tuple #[]/\mR F (mj K p room {t with cG:=p2}) w w'):=by
 have u:=St.begin hF;refine fg Tryz.func171 ?_;obtain⟨bp,V,rg,QT,ds,M,u⟩:=mj.open u;have O:=M.2.1;rw[Z]at O;obtain⟨U,E,rfl,_,B⟩:=O.head;have Hh:=B.1;refine bD ([]:List pB) u nz rfl rfl (dL rfl) (λs5 _ u=>bJ u nz (hL _ u.aG) (by simp;omega) ee λs7 _ u=>aE (aA kP (aB uD u.p1.hb rfl (BP nz u.p4.eD cK (by rw[oE];omega) λY J=>bJ u nz J (by simp;omega) ee λs14 _ u=>aE (aA kP (aT u.p1 uD (dL rfl) u.dX.one λ_ u=>?_))))));have u:=u.p4.drop.p1.freeze.p3.p3.p3
 have e:([]++es++(U::E).drop (1:Int).toNat)=es++E:=rfl;rw[e]at u;have I:RTK K V (es++E) {t with cG:=p2}:=⟨M.1,by rw[G];exact W.append B,Mv⟩;exact⟨rfl,(mj.shut (t:={t with cG:=p2}) I u).mut⟩
theorem Ct{b:Bk}{n:Nat}(h:b.len<=n):∀{e:Bool},(DU e b).length<=n:=by
 intro e
 have:∀(b:Bk) (e:Bool),(DU e b).length<=b.len:=by
  intro b
  induction b with
  | nil=>intro e;exact l1 _
  | cons x a c r _ _ u=>intro e;have:=u false;simp only[DU,oE,Bk.len];omega
 grind
theorem C129(K:hM)(p:Nat)(room:Int)(t tR:jY)(n:Nat)(cs ls:List ByteArray)(F:Nat->Prop)(w:World)(hF:(mj K p room t).p w F)(O:∀w',gv F w w'->K w')(kC:ym cs ls t)(hto:BG t)(hg:te n t=some tR) :
   CR 129 [.pointer (some ⟨p,0,none⟩)] w (λv w'=>v=.tuple #[]/\mR F (mj K p room tR) w w'):=by
 have u:=St.begin hF;refine aeI _ _ _ ?_;unfold S129;refine⟨λmm w'=>∃B:jY,te mm B=some tR/\ym cs ls B/\BG B/\St w F [mj K p room B] w',⟨n,t,hg,kC,hto,u⟩,?_⟩;rintro mm w1 ⟨B,BF,xD,ak9,u⟩ _;obtain⟨k,rfl⟩:=HK BF;have EZ:=xD.cl;have Zj:=xD.nb;have Gw:=xD.rl;have hfc:=FU B.cG;obtain⟨bp,nv,rg,QT,ds,E,u⟩:=mj.open u;have Hh:=E.2.1.1;refine aE (aA kP (aB uD u.hb rfl (aK nz u.p3.eD (cO (aC (λc0=>?_) λc0=>?_)))));rotate_left
 .have eG:pf B.cG=none:=by
   cases h:pf B.cG with
   | none=>rfl
   | some q=>obtain⟨x,a,b⟩:=q;obtain⟨e,h2⟩:=Br h;rw[h2,oE]at Hh;omega
  rw[ph BF (Zc eG)];exact⟨rfl,(mj.shut E u).mut⟩
 obtain⟨x,a,b,Cj⟩:∃x a b,pf B.cG=some (x,a,b):=by
  cases h:pf B.cG with
  | none=>have h2:=HI xD.p h;have h3:(we B.cG).length=0:=(by rw[h2];rfl);omega
  | some q=>exact⟨q.1,q.2.1,q.2.2,rfl⟩
 obtain⟨en,tX⟩:=Br Cj;have QU:(we (gB B.cG)).length<=100000:=by rw[tX,oE]at hfc;omega
 have xl:=E.2.1;rw[tX]at xl;obtain⟨d0,qe,rfl,yW,hds⟩:=xl.head;have hKn:K w1:=O _ u.aG;obtain⟨dx,J,U,dn⟩:=d0;obtain⟨I,G,rfl,_,_⟩:=ji (yW.x _ hKn);have z9:∀w,K w->mh w (⟨x.kind,x.eF,x.name,I,G,x.n,x.body,x.eu,x.at_⟩:bE) x:=yW.x
 have Qf:∀w,K w->dC (λ_=>True) w (ia I) x.e/\dC (λ_=>True) w (ia G) x.f:=λw hw=>by
  obtain⟨_,_,h4,h5,h6⟩:=ji (z9 w hw);cases h4
  exact⟨h5,h6⟩
 obtain⟨ra,hda⟩:=yW.a;obtain⟨rb,TZ⟩:=yW.b;obtain⟨hx,sa,sb,aa,ab,Kj,hb2,T0,r,e,p',Bz,sr,ar⟩:=xD.top Cj;have iV:(Bk.cons x a b r).str:=xD.p.st _ (by rw[Bz];exact o1 ..);have Hc:b.len<=40:=iV.2.2.2.1;have hxe:=hx.e;have hxn:=hx.nm;refine aE (aA kP (aB uD u.hb rfl (aQ nz u.p3.eD cK rfl λq hq=>aD Lh hq (aM u RH λb2 _ u=>aI (x:=(⟨⟨x.kind,x.eF,x.name,I,G,x.n,x.body,x.eu,x.at_⟩,J,U,dn⟩:pB)) u Lh rfl rfl λ_ u=>aA oV (aA iX (aB (v:=ia I) jx u.hb rfl (aV NP u (C203 p B QT nv rg bp _ x.e _ u.p1.hb (E.1 _ (O _ u.aG)) u.p3.dX (Qf _ (O _ u.aG)).1 cK cK hxn.1 ak9.r) λ_ he u=>aO rfl (aO rfl ?_))))))))
 refine aA oV (aA j6 (aB (v:=ia G) jx u.hb rfl (aV NP u (C203 p B QT nv rg bp _ x.f _ u.p1.hb (E.1 _ (O _ u.aG)) u.p3.dX (Qf _ (O _ u.aG)).2 cK cK hxn.2 ak9.r) λw5 he u=>aO rfl (aO rfl ?_))));refine⟨λjv w'=>jv=.bool (!((eI B x.e).2&&(eI B x.f).2))/\w'=w5,?_,?_⟩
 .exact bR (aY (λc=>⟨vb (by rw[Bool.not_eq_true']at c;rw[c];rfl),rfl⟩) λc=>bR ⟨vb (by rw[Bool.not_eq_false']at c;rw[c];rfl),rfl⟩)
 rintro _ w6 ⟨rfl,rfl⟩ _;refine aY (λc1=>?_) (λc1=>?_)
 .refine aE (aA wO (aT u.p1 bM (dL rfl) rfl λw7 u=>?_))
  have OC:qK B=({B with fault:=2},false):=by
   cases h1:(eI B x.e).2 with
   | false=>exact Zd Cj h1
   | true=>exact Ze Cj (by rw[h1]at c1;simpa using c1)
  rw[ph BF OC];have u:=u.p1.drop;exact⟨rfl,(mj.shut (t:={B with fault:=2}) E u).mut⟩
 have Ui:(eI B x.e).2=true/\(eI B x.f).2=true:=by simpa using c1
 have hgk:=Zf Cj Ui.1 Ui.2
 have vZ:∀(t2:jY) (w':World),qJ B x a b (eI B x.e).1=(t2,true)->St w F [mj K p room t2,bY b2 (j0 (⟨⟨x.kind,x.eF,x.name,I,G,x.n,x.body,x.eu,x.at_⟩,J,U,dn⟩:pB))] w'->∃m',m'<k+1/\∃B:jY,te m' B=some tR/\ym cs ls B/\BG B/\St w F [mj K p room B] w':=λt2 w' h3 h4=>by
  have h5:=hgk.trans h3;obtain⟨h6,h7,_⟩:=DG xD;have h8:=ak9.goS;rw[h5]at h6 h7 h8;exact⟨k,Nat.lt_succ_self k,t2,SJ BF h5,h6,h8,h4.p1.drop⟩
 have C7:=E.2.2.pop;refine aA oV (aA dM (aB (v:=hZ x.kind) bM u.hb rfl (aH (aC (λk1=>?_) λk1=>?_))))
 .refine aA oV (aA iH (aB (v:=.string x.eF) gw u.hb rfl (have u:=mj.shut (t:=B) E u.p4.p4.p4.p4;bF ag8 u (H':=λ_=>mj K p room (pg B x.eF (eI B x.e).1)) (Φ:=λ_ _=>True) (λV Z M=>?_) ?_)))
  .exact(C204 K p room B V x.eF _ _ Z (λw' hc=>O w' (M w' hc).aG) (hx.rg (.inl k1)) Gw Zj).mono λ_ _ r=>r.mono λ_ _ h=>⟨trivial,h.2⟩
  rintro _ w8 _ u;refine bF Ih u (H':=λ_=>mj K p room {pg B x.eF (eI B x.e).1 with cG:=(gB B.cG)}) (Φ:=λ_ _=>True) (λV Z M=>?_) ?_
  .exact(C171 K p room (pg B x.eF (eI B x.e).1) V (.slice none 0 0) [] [] _ _ (gB B.cG) _ Z (λw' hc=>O w' (M w' hc).aG) (λ_ _=>dC.nil _ _) lq.nil tX rfl C7 (l1 _) QU).mono λ_ _ r=>r.mono λ_ _ h=>⟨trivial,h.2⟩
  rintro _ w9 _ u;exact vZ _ _ (Zb k1) u
 refine aH (aC (λk2=>?_) λk2=>?_)
 .refine bV (aC (λc=>?_) λc=>?_)
  .refine aA Li (aB (v:=ia J) jP u.hb rfl (have u:=mj.shut (t:=B) E u.p4.p4.p4.p4;dO NN (C128 K J _ a _ (λ_ e=>O _ (u.aG.then e)) sa hda (by have:=Bk.cY a;omega)) ?_));rintro s20 w8 ⟨Y,W,cL⟩;have u:=u.made cL;have ayU:Y.length<=40:=by have:=W.1;have:=Ct (b:=a) (n:=40) cK (e:=false);omega
   have u:=u.p1;refine bF Ih u (H':=λ_=>mj K p room {B with cG:=(jt a false (gB B.cG))}) (Φ:=λ_ _=>True) (λV Z M=>?_) ?_
   .exact(C171 K p room B V s20 Y (DU false a) _ _ (jt a false (gB B.cG)) _ Z (λw' hc=>O w' (M w' hc).aG) (λw' hc=>(M w' hc).dX) W tX vc C7.push cK QU).mono λ_ _ r=>r.mono λ_ _ h=>⟨trivial,h.2⟩
   rintro _ w9 _ u;exact vZ _ _ (by rw[JD k2,ej c]) u.p1.drop
  refine aA Wu (aB (v:=ia U) jP u.hb rfl (have u:=mj.shut (t:=B) E u.p4.p4.p4.p4;dO NN (C128 K U _ b _ (λ_ e=>O _ (u.aG.then e)) sb TZ (by have:=Bk.cY b;omega)) ?_));rintro s20 w8 ⟨Y,W,cL⟩;have u:=u.made cL;have ayU:Y.length<=40:=by have:=W.1;have:=Ct (b:=b) (n:=40) cK (e:=false);omega
  have u:=u.p1;refine bF Ih u (H':=λ_=>mj K p room {B with cG:=(jt b false (gB B.cG))}) (Φ:=λ_ _=>True) (λV Z M=>?_) ?_
  .exact(C171 K p room B V s20 Y (DU false b) _ _ (jt b false (gB B.cG)) _ Z (λw' hc=>O w' (M w' hc).aG) (λw' hc=>(M w' hc).dX) W tX vc C7.push cK QU).mono λ_ _ r=>r.mono λ_ _ h=>⟨trivial,h.2⟩
  rintro _ w9 _ u;exact vZ _ _ (by rw[JD k2,ew (vh.1 c)]) u.p1.drop
 refine aH (aC (λk3=>?_) λk3=>?_)
 .have hxn0:=hx.n k3
  have Y0:b=.nil:=by
   have h1:b.len=0:=by have:=hx.el cK;omega
   cases b with
   | nil=>rfl
   | cons _ _ _ _=>simp[Bk.len]at h1
  refine bD ([]:List pB) u nz rfl rfl (dL rfl) (λs76 _ u=>?_);refine⟨λlv7 w'=>∃(es7:List pB) (qs7:List Dq),lq K es7 qs7/\es7.length<=41/\we (mK x a B.cG)=qs7++we (gB B.cG)/\St w F [bH lv7 es7,bY b2 (j0 (⟨⟨x.kind,x.eF,x.name,I,G,x.n,x.body,x.eu,x.at_⟩,J,U,dn⟩:pB)),bY p (yt QT nv rg bp B.fault),jl bp room B.buf,bH rg B.dQ,eD λw=>dC (λ_=>True) w QT ((⟨⟨x.kind,x.eF,x.name,I,G,x.n,x.body,x.eu,x.at_⟩,J,U,dn⟩:pB)::qe)] w',?_,?_⟩
  .refine aA oV (aA jQ (aB (v:=hZ x.n) bM u.p1.hb rfl (cO (aC (λc=>?_) λc=>?_))));rotate_left
   .exact⟨[],[],lq.nil,l1 _,by unfold mK;rw[ew cK];rfl,u⟩
   refine aD (x:=(⟨⟨x.kind,x.eF,x.name,I,G,x.n,x.body,x.eu,x.at_⟩,J,U,dn⟩:pB)) Lh u.p1.At (aM u RH λb8 w15 u=>aI (x:=(⟨⟨x.kind,x.eF,x.name,I,G,x.n,x.body,x.eu,x.at_⟩,J,U,dn⟩:pB)) u Lh rfl rfl λw16 u=>aA oV (aA jQ (aB (v:=hZ x.n) bM u.p2.hb rfl (fh cK (aA oV (aA jQ (aT u bM (dL rfl) rfl λ_ u=>aA Lj (aT u Ap (dL rfl) rfl λ_ u=>have u:=u.enc (cs':=j0 (⟨⟨x.kind,x.eF,x.name,I,G,x.n-1,x.body,x.eu,x.at_⟩,J,U,true⟩:pB)) rfl;aA Li ?_))))))))
   refine aB (v:=ia J) jP u.p2.hb rfl (dO NN (C128 K J _ a _ (λ_ e=>O _ (u.aG.then e)) sa hda (by have:=Bk.cY a;omega)) ?_);rintro s92 _ ⟨ayW,asb,cL⟩;have u:=u.made cL;have s92l:ayW.length<=40:=by have:=asb.1;have:=Ct (b:=a) (n:=40) cK (e:=false);omega
   have ayX:=u.dX;refine bJ u.p2 nz ayX (by simp;omega) ee (λs93 _ u=>aD (x:=(⟨⟨x.kind,x.eF,x.name,I,G,x.n-1,x.body,x.eu,x.at_⟩,J,U,true⟩:pB)) Lh u.p2.At (bD ([(⟨⟨x.kind,x.eF,x.name,I,G,x.n-1,x.body,x.eu,x.at_⟩,J,U,true⟩:pB)]:List pB) u nz rfl rfl (dL rfl) λs96 _ u=>?_));have ayY:=u.dX;refine bJ u.p1 nz ayY (by simp;omega) ee (λs97 _ u=>have u:=u.p1.drop.p1.drop.p1.drop;⟨_,DU false a++[({x with n:=x.n-1},a,.nil,true)],(lq.append (lq.append lq.nil asb) (lq.cons (d:=(⟨⟨x.kind,x.eF,x.name,I,G,x.n-1,x.body,x.eu,x.at_⟩,J,U,true⟩:pB)) (q:=({x with n:=x.n-1},a,.nil,true)) ⟨λw hw=>?_,⟨ra,hda⟩,⟨rb,by rw[<- Y0];exact TZ⟩,rfl⟩ lq.nil)),by simp;omega,?_,u⟩)
   .obtain⟨_,_,h4,h5,h6⟩:=z9 w hw;cases h4
    exact⟨I,G,rfl,h5,h6⟩
   rw[Va cK];simp
  rintro lv7 _ ⟨es7,qs7,h71,h72,h73,u⟩ _;have u:=((mj.shut (t:=B) E u.p5.p5.p5.p5).p1).p1;refine bF Ih u (H':=λ_=>mj K p room {B with cG:=(mK x a B.cG)}) (Φ:=λ_ _=>True) (λV Z M=>?_) ?_
  .exact(C171 K p room B V lv7 es7 qs7 _ _ (mK x a B.cG) _ Z (λw' hc=>O w' (M w' hc).aG) (λw' hc=>(M w' hc).dX) h71 tX h73 E.2.2.round cK QU).mono λ_ _ r=>r.mono λ_ _ h=>⟨trivial,h.2⟩
  rintro _ _ _ u;exact vZ _ _ (SL k3) u.p1.drop
 refine aH (aC (λk4=>?_) λk4=>?_)
 .obtain⟨D,hD⟩:∃D,D=(⟨⟨x.kind,x.eF,x.name,I,G,x.n,x.body,x.eu,x.at_⟩,J,U,dn⟩:pB)::qe:=⟨_,rfl⟩;have hDK:lq K D (we B.cG):=by rw[hD];exact E.2.1
  have hDl:D.length=(we B.cG).length:=hDK.1;rw[<- hD]at u;refine⟨λmm y w'=>∃j:Nat,y=hZ (j:Int)/\mm=D.length-j/\j<=D.length/\(∀(i:Nat) (q:Dq),i<j->(we B.cG)[i]?=some q->q.2.2.2=false)/\w'=w6,⟨_,0,rfl,rfl,l1 _,λ_ _ h=>absurd h (M9 _),rfl⟩,?_⟩;rintro mm _ w7 ⟨j,rfl,rfl,hj,hjn,rfl⟩ _;refine⟨λjv w'=>jv=.bool (match D[j]? with|some d=>!d.in_|none=>false)/\w'=w7,?_,?_⟩
  .refine aE (aA kP (aB uD u.p1.hb rfl (aK nz u.p4.eD (aR (aC (λc=>?_) λc=>⟨vb (by rw[m4 cK]),rfl⟩)))));obtain⟨d,hd⟩:=gx D (i:=((j:Nat):Int).toNat) cK;refine aE (aA kP (aB uD u.p1.hb rfl (aQ nz u.p4.eD cK hd λq hq=>bW d.in_ Lj hq rfl rfl λq2 Gc=>aD Ap Gc (bR ?_))));rw[qa]at hd;exact⟨vb (by rw[hd]),rfl⟩
  rintro _ w8 ⟨rfl,rfl⟩ _;refine aY (λc=>?_) (λc=>?_)
  .have D3:j<D.length:=by
    rcases Po j D.length with h|h
    .exact h
    .rw[m4 h]at c;cases c
   refine aN cK ?_;refine⟨_,cK,j+1,rfl,rfl,cK,λi q hi hq=>?_,rfl⟩
   by_cases e:i=j
   .subst e;rw[kX D3]at c;have:=(hDK.2 i _ q (kX D3) hq).e;rw[<- this];simpa using c
   exact hjn i q cK hq
  have hdi:uq (we B.cG)=(we B.cG).drop (j+1):=Ig _ j hjn (λq hq=>by
   have D3:j<D.length:=by have:=(kp.1 hq).1;omega
   rw[kX D3]at c;have:=(hDK.2 j _ q (kX D3) hq).e;rw[<- this];simpa using c) cK
  have u:=u.drew;refine aE (aA kP (aB uD u.p1.hb rfl (aN cK (aE (aA kP (aB uD u.p1.hb rfl (aK nz u.p4.eD (rB (zu nz u.p4.eD cK cK λayZ asc=>?_)))))))));have asd:=asc _ u.p4.eD;refine aE (aA kP (aT u.p1 uD (dL rfl) asd.one λ_ u=>?_));have u:=u.p4.dN (Ψ:=λw=>dC (λ_=>True) w ayZ (D.drop (min ((j:Int)+1) (D.length:Int)).toNat)) (λw h=>asc w h)
  have ed:D.drop (min ((j:Int)+1) (D.length:Int)).toNat=D.drop (j+1):=by
   rcases Po j D.length with h|h
   .congr 1;omega
   .rw[vF cK,vF cK]
  rw[ed]at u;have hk9:RTK K nv (D.drop (j+1)) {B with cG:=ky B.cG}:=⟨E.1,by show lq K _ (we (ky B.cG));rw[Ie E.2.2,hdi];exact hDK.drop _,E.2.2.leave⟩;have u:=((mj.shut (t:={B with cG:=ky B.cG}) hk9 u.p4.p4.p3).p1).p1;exact vZ _ _ (SM k4) u
 refine aH (aC (λk5=>?_) λk5=>?_)
 .refine aH (aC (λc=>?_) λc=>?_)
  .refine aE (aA wO (aT u.p1 bM (dL rfl) rfl λw15 u=>?_));have u:=mj.shut (t:={B with fault:=1}) E u.p4.p4.p4.p3;rw[ph BF (hgk.trans (MS k5 c))];have u:=u.p1.p1;exact⟨rfl,u.p1.drop.mut⟩
  have u:=u.p4;have u:=((mj.shut (t:=B) E u.p4.p4.p4).p1).p1;refine bF Ih u (H':=λ_=>mj K p room {B with cG:=(gB B.cG)}) (Φ:=λ_ _=>True) (λV Z M=>?_) ?_
  .exact(C171 K p room B V (.slice none 0 0) [] [] _ _ (gB B.cG) _ Z (λw' hc=>O w' (M w' hc).aG) (λ_ _=>dC.nil _ _) lq.nil tX rfl C7 (l1 _) QU).mono λ_ _ r=>r.mono λ_ _ h=>⟨trivial,h.2⟩
  rintro _ w16 _ u;exact vZ _ _ (MT k5 c) u
 rw[ph BF (hgk.trans (SN k1 k2 k3 k4 k5))];have u:=((mj.shut (t:=B) E u.p4.p4.p4.p4).p1).p1;exact⟨rfl,u.p1.drop.mut⟩
theorem C80(K:hM)(p:Nat)(m:gN)(q:Nat)(t:jY)(w:World)(hm:Has (qP K p m) w)(hw:∀w',Ext w w'->K w')(W:oK m)(hh:Has (mj K q m.room t) w)(Cl:t∈m.l):CR 80 [.pointer (some ⟨p,0,none⟩),.pointer (some ⟨q,0,none⟩)] w (λv w'=>v=.bool (sP m t)/\Ext w w'):=by
 obtain⟨a,U⟩:=qP.rd hm;have Y:=U.b.cell (o:=6) rfl;have B:=U.b.cell (o:=9) rfl;have kC:=W.th t Cl;have Hc:=kC.bl;have ajH:(cM m.p).length<=500:=by unfold cM;rw[n0];exact W.pz.eJ
 obtain⟨bp,nv,rg,lv,ds,hk,sO,hB,Da,O⟩:=mj.rd hh;obtain⟨bsv,Cz,uW,V⟩:=hB;have J:=sO.cell (o:=0) rfl;have G:=sO.cell (o:=3) rfl;have ct4:=sO.cell (o:=4) rfl;have Hh:=hk.2.1.1;have u:=St.start w;refine oM Tryz.func80 (pl:=P80) ?_;refine aE (aA kP (bO uD (J.ext u.aG) (aK nz (O.ext u.aG) (aH (aC (λc0=>?_) λc0=>?_)))))
 .have eG:pf t.cG=none:=by
   cases h:pf t.cG with
   | none=>rfl
   | some q=>obtain⟨x,a,b⟩:=q;obtain⟨e,h2⟩:=Br h;rw[h2,oE]at Hh;omega
  exact⟨vb (by unfold sP;rw[eG]),u.aG⟩
 obtain⟨x,xa,xb,Z⟩:∃x a b,pf t.cG=some (x,a,b):=by
  cases h:pf t.cG with
  | none=>have h2:=HI kC.p h;have h3:(we t.cG).length=0:=(by rw[h2];rfl);omega
  | some q=>exact⟨q.1,q.2.1,q.2.2,rfl⟩
 obtain⟨en,tX⟩:=Br Z;have xl:=hk.2.1;rw[tX]at xl;obtain⟨d0,qe,rfl,yW,hds⟩:=xl.head;obtain⟨dx,db,de,dn⟩:=d0;obtain⟨ge,gf,rfl,_,_⟩:=ji (yW.x _ (hw _ u.aG));have hx:=(kC.top Z).1;have E:sP m t=(if t.fault≠0\/x.kind=2 then true else if x.kind=3\/x.kind=5\/x.kind=6\/x.kind=7 then !decide (m.room<=t.buf.length)else if x.kind=9/\m.eV.getD (cU (cM m.p) x.name).toNat 0≠-1 then false else decide (t.buf.length=0)):=by unfold sP;rw[Z]
 refine aE (aA kP (bO uD (J.ext u.aG) (aQ nz (O.ext u.aG) cK rfl λq1 h1=>Lo (⟨x.kind,x.eF,x.name,ge,gf,x.n,x.body,x.eu,x.at_⟩:bE) oV h1 rfl λq2 h2=>aD eM h2 (aM u jy λb5 _ u=>aI (x:=(⟨x.kind,x.eF,x.name,ge,gf,x.n,x.body,x.eu,x.at_⟩:bE)) u eM rfl rfl λw2 u=>?_))));refine⟨λM w'=>M=.bool (decide (t.fault≠0\/x.kind=2))/\w'=w2,?_,?_⟩
 .exact aE (aA wO (bO bM (ct4.ext u.aG) (bV (aC (λ_=>⟨vb (ez cK).symm,rfl⟩) λ_=>aA dM (aB (v:=hZ x.kind) bM u.hb rfl (aH ⟨vb (ga.2 cK),rfl⟩))))))
 rintro _ w4 ⟨rfl,rfl⟩ _;refine aC (λc1=>?_) (λc1=>?_)
 .exact⟨vb (by rw[E,ew c1]),u.drop.aG⟩
 rw[ej c1]at E;refine⟨λM w'=>M=.bool (decide (x.kind=3\/x.kind=5\/x.kind=6\/x.kind=7))/\w'=w4,?_,?_⟩
 .refine aA dM (aB (v:=hZ x.kind) bM u.hb rfl ?_);exact aH (aC (λ_=>⟨vb (ez cK).symm,rfl⟩) λ_=>aA dM (aB (v:=hZ x.kind) bM u.hb rfl (aH (aC (λ_=>⟨vb (ez cK).symm,rfl⟩) λ_=>aA dM (aB (v:=hZ x.kind) bM u.hb rfl (aH (aC (λ_=>⟨vb (ez cK).symm,rfl⟩) λ_=>aA dM (aB (v:=hZ x.kind) bM u.hb rfl (aH ⟨vb (ga.2 cK),rfl⟩)))))))))
 rintro _ _ ⟨rfl,rfl⟩ _;refine aC (λc2=>?_) (λc2=>?_)
 .have u:=u.drew;refine aE (aA nA (bO yK (G.ext u.aG) (aE (aA gZ (bO iO (uW.ext u.aG) (aK fT (V.ext u.aG) (aE (aA Rz (bO bM (Y.ext u.aG) (aR ?_))))))))));refine⟨vb ?_,u.drop.aG⟩;rw[E,ew c2,<- decide_not];exact ga.2 cK
 rw[ej c2]at E;refine⟨λM w'=>M=.bool (sP m t)/\Ext w w',?_,?_⟩;rotate_left
 .rintro _ _ h _;exact h
 have u:=u.drew;refine aE (aA nA (bO yK (G.ext u.aG) (aE (aA gZ (bO iO (uW.ext u.aG) (aK fT (V.ext u.aG) (aH (aC (λc3=>?_) λc3=>?_))))))));rotate_left
 .refine⟨vb ?_,u.drop.aG⟩;rw[E];split
  .rfl
  exact(fN cK).symm
 refine aA dM (aB (v:=hZ x.kind) bM u.hb rfl (bV (aC (λc4=>?_) λc4=>?_)))
 .exact⟨vb (by rw[E,ej (λh=>c4 h.1),ez cK]),u.drop.aG⟩
 have I:x.kind=9:=vh.1 c4;obtain⟨j,hj,B7,_⟩:=lX (dJ.1 (hx.lk (.inl I)));have D3:=(kp.1 B7).1;have how:=W.ow;refine aE (aA vk (bO eg (B.ext u.aG) (aE (aA oR (qi a.pv er (mT.ext U.b u.aG) rfl (aA fZ (aB (v:=.string x.name) gw u.hb rfl (dY Rk u (C125 m.p a.pv _ (U.uk.pr _ (hw _ u.aG)) W.pz) λx82 _ cL u=>?_))))))));refine⟨aF eg (B.ext u.aG),?_⟩;refine⟨aF gw (u.p1.hb.cell (v:=.string x.name) rfl),?_⟩;refine aV rT u (C123 _ (cM m.p) x.name _ u.dX cK) (λ_ he u=>?_)
 refine⟨aF eg (B.ext u.aG),?_⟩;obtain⟨ov,Zv⟩:=gx m.eV (i:=(cU (cM m.p) x.name).toNat) cK;refine aQ cS (U.ow.ext u.aG) cK Zv (λq71 h71=>aD bM h71 (aH ?_));refine⟨vb ?_,u.drop.drop.aG⟩;rw[E,og,Zv];show _=if x.kind=9/\ov≠-1 then false else decide (t.buf.length=0)
 by_cases e:ov = -1
 .rw[ej (λh=>h.2 e),ez e,ez cK]
 rw[ew ⟨I,e⟩,fN e]
def C22(K:hM)(p:Nat)(m:gN)(w:World)(hm:Has (qP K p m) w)(hw:∀w',Ext w w'->K w')(I:oK m):CR 22 [.pointer (some ⟨p,0,none⟩)] w (λv w'=>lh (fU v (gU m)) w w'):=by
 obtain⟨a,B⟩:=qP.rd hm;have M:=B.b.cell (o:=10) rfl;have FD:=B.b.cell (o:=11) rfl;have hlen:=B.len;have N9:=I.tl;have u:=St.start w;refine fg Tryz.func22 ?_;refine tF (α:=aS) u gg (λs7 J u=>?_);refine⟨λE o y J=>∃k:Nat,y=hZ (k:Int)/\E=a.ps.length-k/\k<=a.ps.length/\(m.fault≠0->k=0)/\St w aZ [fU o (ij m k)] J,⟨_,0,rfl,rfl,l1 _,λ_=>rfl,u⟩,?_⟩;rintro E o _ w2 ⟨k,rfl,rfl,Rh,W,u⟩ _;refine⟨λjv w'=>jv=.bool (decide (k<a.ps.length/\m.fault=0))/\w'=w2,?_,?_⟩
 .exact aE (aA oS (bO Ed (M.ext u.aG) (aK Gn (B.ll.ext u.aG) (aR (aC (λ_=>aE (aA xZ (bO bM (FD.ext u.aG) (aH ⟨vb (ga.2 cK),rfl⟩)))) λ_=>⟨vb (fN cK).symm,rfl⟩)))))
 rintro _ _ ⟨rfl,rfl⟩ _;refine aC (λc1=>?_) (λc1=>?_);rotate_left
 .have O:gU m=ij m k:=by
   unfold gU
   by_cases hf:m.fault=0
   .rw[ej cK,show k=m.l.length from cK]
   .rw[ew hf,W hf];rfl
  rw[O];exact u.fresh
 obtain⟨c2,c3⟩:=c1;obtain⟨t,ht⟩:=gx m.l (i:=k) cK;obtain⟨e,U⟩:=gx a.ps (i:=((k:Nat):Int).toNat) cK;have Cl:=kE ht;have Vy:=B.th k e t (by rw[<- qa k];exact U) ht;have Hc:=(I.th t Cl).bl;have oG:=rI I k;have ay0:k*1001<=1001000:=Cs 1001 (show k<=1000 by omega);obtain⟨bp,nv,rg,lv,ds,hk,sO,hB,Da,hlr⟩:=mj.rd Vy;have V:=sO.cell (o:=3) rfl;refine⟨λo w'=>St w aZ [fU o (ij m k++(if sP m t=true then [(⟨1,k,0,[]⟩:aS)]else []))] w',?_,?_⟩
 .refine aE (aA oS (bO Ed (M.ext u.aG) (aQ Gn (B.ll.ext u.aG) cK U λq G=>aD G3 G (aV ayG u (C80 K p m e.b t _ (hm.ext u.aG) (λ_ e=>hw _ (u.aG.then e)) I (Vy.ext u.aG) Cl) λ_ Mv u=>aY (λZ=>?_) λZ=>?_))))
  .refine pop (Ck 1 (k:Int)) (have u:=u.fu (Φ:=λw=>mh w (⟨1,(k:Int),0,bX⟩:aJ) (⟨1,(k:Int),0,[]⟩:aS)) (λw=>⟨bX,rfl,DL.nil w⟩);gh (x:=(⟨1,(k:Int),0,[]⟩:aS)) (s:=(⟨1,(k:Int),0,bX⟩:aJ)) u gg ee λs45 _ u=>gi u.p1 gg (by simp;omega) ee λs46 _ u=>?_);rw[Z,ew rfl];exact u
  rw[Z,ej ee,pL];exact u
 rintro o2 _ u _;refine aE (aA oS (bO Ed (M.ext u.aG) (aQ Gn (B.ll.ext u.aG) cK U λq G=>aD G3 G (aE (aA nA (bO yK (V.ext u.aG) (dY aut u (C81 bp _ _ _ (hB.ext u.aG) cK) λY _ cL u=>?_)))))));have EZ:=zR t.buf;refine⟨λE o y J=>∃j:Nat,y=hZ (j:Int)/\E=(pD t.buf).length-j/\j<=(pD t.buf).length/\St w aZ [fU o (ij m k++(if sP m t=true then [(⟨1,k,0,[]⟩:aS)]else [])++((pD t.buf).take j).map λi=>(⟨2,k,i,[]⟩:aS)),bH Y (pD t.buf)] J,⟨_,0,rfl,rfl,l1 _,by rw[List.take_zero,List.map_nil,pL];exact u.p1⟩,?_⟩
 rintro E o3 _ _ ⟨j,rfl,rfl,hj,u⟩ _;refine aK cS u.p1.dX (aR (aC (λc5=>?_) λc5=>?_))
 .obtain⟨y,hy⟩:=gx (pD t.buf) (i:=((j:Nat):Int).toNat) cK;exact aQ cS u.p1.dX cK hy (λ_ G=>aD bM G (pop (CN 2 (k:Int) y) (have u:=u.fu (Φ:=λw=>mh w (⟨2,(k:Int),y,bX⟩:aJ) (⟨2,(k:Int),y,[]⟩:aS)) (λw=>⟨bX,rfl,DL.nil w⟩);gh (x:=(⟨2,(k:Int),y,[]⟩:aS)) (s:=(⟨2,(k:Int),y,bX⟩:aJ)) u gg ee λ_ _ u=>gi u.p1 gg (by simp only[la,n0,l0,mv];split<;>simp<;>omega) ee λ_ _ u=>aN cK ⟨_,cK,j+1,rfl,rfl,cK,by rw[<- gd (k:=j) hy,<- n3];exact u⟩)))
 rw[kO cK]at u;refine aN cK ?_;refine⟨_,cK,k+1,rfl,rfl,cK,λh=>absurd c3 h,?_⟩;rw[uh ht];unfold rH;rw[<- n3];exact u.p1.drop
def C168(K:hM)(p:Nat)(m:gN)(i kind:Int)(F:Nat->Prop)(w:World)(E:(qP K p m).p w F):CR 168 [.pointer (some ⟨p,0,none⟩),hZ i,hZ kind] w (λv w'=>v=ia (⟨16,i,kind,0,0⟩:cB)/\mR F (qP K p {m with fault:=kind,jd:=i}) w w'):=by
 have u:=St.begin E;refine fg Tryz.func168 ?_;obtain⟨a,B,u⟩:=qP.open u;exact aM u mu (λ_ _ u=>have u:=u.enc (cs':=j0 (⟨0,0,0,0,0⟩:cB)) rfl;aE (aA xZ (aT u.p1 bM (dL rfl) rfl λ_ u=>aE (aA RB (aT u bM (dL rfl) rfl λ_ u=>pop (tK 16 i kind) (aI (x:=(⟨16,i,kind,0,0⟩:cB)) u.p1 fj rfl rfl λ_ u=>aD fj u.At ⟨rfl,(qP.shut (m:={m with fault:=kind,jd:=i}) ⟨B.pr,B.rc⟩ u.drop).mut⟩))))))
def CQ(K:hM)(p:Nat)(m:gN)(i:Nat)(tp:Ptr):HP:=pK λa:RA=>fact (RSK K a m/\a.ps[i]?=some tp/\a.ps.length=m.l.length/\i<m.l.length) (sep (bY p (pw a m)) (sep (gu a.q m.mem) (sep (bH a.ow m.eV) (sep (bH a.ll a.ps) (nI (NT K m.room) a.ps m.l i)))))
section
variable {w w' w0:World}{A:Nat->Prop}{R:List HP}{p:Nat}{K:hM}{m:gN}{a:RA}{i:Nat}{tp:Ptr}{t:jY}
theorem CQ.open(u:St w0 A (CQ K p m i tp::R) w):∃a,(RSK K a m/\a.ps[i]?=some tp/\a.ps.length=m.l.length/\i<m.l.length)/\St w0 A (bY p (pw a m)::gu a.q m.mem::bH a.ow m.eV::bH a.ll a.ps::nI (NT K m.room) a.ps m.l i::R) w:=by
 obtain⟨a,u⟩:=u.eh;obtain⟨B,u⟩:=u.mz;exact⟨a,B,sM u⟩
theorem CQ.shut(B:RSK K a m/\a.ps[i]?=some tp/\a.ps.length=m.l.length/\i<m.l.length)(u:St w0 A (bY p (pw a m)::gu a.q m.mem::bH a.ow m.eV::bH a.ll a.ps::nI (NT K m.room) a.ps m.l i::R) w):St w0 A (CQ K p m i tp::R) w:=
 St.ek a (St.oy B (sN u))
theorem aaH{ps:List Ptr}(B:St w0 A (g9 (NT K m.room) ps m.l::R) w)(u:ps[i]?=some tp)(ht:m.l[i]?=some t):St w0 A (mj K tp.b m.room t::nI (NT K m.room) ps m.l i::R) w:=B.focus u ht
theorem xP(u:St w0 A (mj K tp.b m.room t::CQ K p m i tp::R) w):St w0 A (qP K p {m with l:=m.l.set i t}::R) w:=by
 obtain⟨a,⟨B,G,E,hi⟩,u⟩:=CQ.open u.p1
 have h1:St w0 A (NT K m.room tp t::nI (NT K m.room) a.ps m.l i::_) w:=u.p4.p5
 have h2:=h1.Ds hi E G
 have h3:=h2.p4.p4.p4.p4
 exact qP.shut (m:={m with l:=m.l.set i t}) ⟨B.pr,B.rc⟩ h3
end
section
variable {m:gN}{t:jY}{i:Int}{x:bQ}
theorem aaI(h:x.kind=2):eb m t i x=(m,pg t x.eF (ik m t (dP m x)),xG m t x):=by unfold eb;grind
theorem aaJ(h:x.kind=3):eb m t i x=(m,pZ m t ⟨3,fB m x,dP m x,(eI t x.e).1⟩,⟨3,0,dP m x,(eI t x.e).1,0⟩):=by unfold eb;grind
theorem aaK(h:x.kind=5):eb m t i x=(m,pZ m t ⟨5,fB m x,0,0⟩,⟨4,0,fB m x,0,0⟩):=by grind[eb,pZ,fB]
theorem aaL(h:x.kind=6):eb m t i x=(m,pZ m t ⟨6,fB m x,0,0⟩,⟨5,0,fB m x,0,0⟩):=by grind[eb,pZ,fB]
theorem aaM(h:x.kind=7):eb m t i x=(m,pZ m t ⟨7,0,0,0⟩,⟨6,0,0,0,0⟩):=by grind[eb,pZ]
theorem ala(h:x.kind=8):eb m t i x=(m,t,⟨7,0,0,0,0⟩):=by grind[eb]
theorem alb(h:x.kind=4):eb m t i x=(rJ m t x,pg t x.eF (jH m.mem (dP m x)),tL m t x):=by unfold eb;grind
theorem alc(h:x.kind=9):eb m t i x=(pE m x i,t,⟨10,0,fF m x,0,0⟩):=by grind[eb,pE,fF]
theorem aeW(h:x.kind=10):eb m t i x=(pE m x (-1),t,⟨11,0,fF m x,0,0⟩):=by grind[eb,pE,fF]
theorem aaN{a b:Bk}(h:sP m t=true)(u:t.fault=0)(ht:pf t.cG=some (x,a,b))(B:x.kind=4):t.buf=[]:=by
 unfold sP at h
 grind
theorem aaO{u:Mem}{c e:Int}(B:0<=c)(h:u.l[c.toNat]?=some e):jH u c=e:=by
 have:=(kp.1 h).1
 unfold jH
 rw[ew (by unfold Gv;rw[decide_eq_true_eq];omega),og,h];rfl
end
def C170(K:hM)(sv:Value)(m:gN)(i:Int)(tp:Ptr)(t:jY)(x:bQ)(xv:bE)(F:Nat->Prop)(w:World)(hF:(mj K tp.b m.room t).p w F)(O:∀w',gv F w w'->K w')(W:ym (cT m.p) (cM m.p) t)(U:BG t)(z9:∀w,K w->mh w xv x)(hx:Uw (cT m.p) (cM m.p) t.names x)(hkd:x.kind=3\/x.kind=5\/x.kind=6\/x.kind=7) :
   CR 170 [sv,.pointer (some ⟨tp.b,0,none⟩),ia xv,hZ (dP m x),hZ (fB m x)] w (λv w'=>v=ia (eb m t i x).2.2/\mR F (mj K tp.b m.room (eb m t i x).2.1) w w'):=by
 have u:=St.begin hF;obtain⟨J,Y,rfl,_,_⟩:=ji (z9 _ (O _ u.aG))
 have Qf:∀w,K w->dC (λ_=>True) w (ia J) x.e/\dC (λ_=>True) w (ia Y) x.f:=λw hw=>by
  obtain⟨_,_,h4,h5,h6⟩:=ji (z9 w hw);cases h4
  exact⟨h5,h6⟩
 have hxe:=hx.e;have M:=hx.nm;have Zj:=W.nb;have Gw:=W.rl;have Hc:=W.bl;refine fg Tryz.func170 ?_;refine cI (x:=(⟨x.kind,x.eF,x.name,J,Y,x.n,x.body,x.eu,x.at_⟩:bE)) u (λb7 _ u=>aM u mu λb10 _ u=>?_);have u:=(u.enc (cs':=j0 (⟨0,0,0,0,0⟩:cB)) rfl).p2;obtain⟨B,nv,rg,QT,ds,I,u⟩:=mj.open u;refine aA iX (aB (v:=ia J) jx u.p5.hb rfl (aV NP u (C203 tp.b t QT nv rg B _ x.e _ u.hb (I.1 _ (O _ u.aG)) u.p2.dX (Qf _ (O _ u.aG)).1 cK cK M.1 U.r) λ_ he u=>aO rfl (aO rfl (aA dM (aB (v:=hZ x.kind) bM u.p5.hb rfl (aH (aC (λZ=>?_) λZ=>?_)))))))
 .refine aE (aA nA (aB yK u.hb rfl (pop (xE 3 (fB m x) (dP m x) (eI t x.e).1) (have u:=u.p1;bF Rr u (H':=λ_=>jl B m.room (sH m.room t.buf (⟨3,fB m x,dP m x,(eI t x.e).1⟩:bI))) (Φ:=λ_ _=>True) (λE G V=>?_) ?_))))
  .exact(C230 B m.room t.buf (⟨3,fB m x,dP m x,(eI t x.e).1⟩:bI) E _ G cK).mono λ_ _ r=>r.mono λ_ _ h=>⟨trivial,h.2⟩
  rintro _ _ _ u;refine pop (mL 3 (dP m x) (eI t x.e).1) (aI (x:=(⟨3,0,dP m x,(eI t x.e).1,0⟩:cB)) u.p4 fj rfl rfl λw30' u=>aD (x:=(⟨3,0,dP m x,(eI t x.e).1,0⟩:cB)) fj u.At ?_);have u:=mj.shut (t:=pZ m t (⟨3,fB m x,dP m x,(eI t x.e).1⟩:bI)) I u.drop.p4.drop.p3.p3.p2.p3;rw[aaJ Z];exact⟨rfl,u.mut⟩
 refine aH (aC (λk5=>?_) λk5=>?_)
 .refine aE (aA nA (aB yK u.hb rfl (pop (vC 5 (fB m x)) (have u:=u.p1;bF Rr u (H':=λ_=>jl B m.room (sH m.room t.buf (⟨5,fB m x,0,0⟩:bI))) (Φ:=λ_ _=>True) (λE G V=>?_) ?_))))
  .exact(C230 B m.room t.buf (⟨5,fB m x,0,0⟩:bI) E _ G cK).mono λ_ _ r=>r.mono λ_ _ h=>⟨trivial,h.2⟩
  rintro _ _ _ u;refine pop (oD 4 (fB m x)) (aI (x:=(⟨4,0,fB m x,0,0⟩:cB)) u.p4 fj rfl rfl λw50' u=>aD (x:=(⟨4,0,fB m x,0,0⟩:cB)) fj u.At ?_);have u:=mj.shut (t:=pZ m t (⟨5,fB m x,0,0⟩:bI)) I u.drop.p4.drop.p3.p3.p2.p3;rw[aaK k5];exact⟨rfl,u.mut⟩
 refine aH (aC (λk6=>?_) λk6=>?_)
 .refine aE (aA nA (aB yK u.hb rfl (pop (vC 6 (fB m x)) (have u:=u.p1;bF Rr u (H':=λ_=>jl B m.room (sH m.room t.buf (⟨6,fB m x,0,0⟩:bI))) (Φ:=λ_ _=>True) (λE G V=>?_) ?_))))
  .exact(C230 B m.room t.buf (⟨6,fB m x,0,0⟩:bI) E _ G cK).mono λ_ _ r=>r.mono λ_ _ h=>⟨trivial,h.2⟩
  rintro _ _ _ u;refine pop (oD 5 (fB m x)) (aI (x:=(⟨5,0,fB m x,0,0⟩:cB)) u.p4 fj rfl rfl λw60' u=>aD (x:=(⟨5,0,fB m x,0,0⟩:cB)) fj u.At ?_);have u:=mj.shut (t:=pZ m t (⟨6,fB m x,0,0⟩:bI)) I u.drop.p4.drop.p3.p3.p2.p3;rw[aaL k6];exact⟨rfl,u.mut⟩
 refine aE (aA nA (aB yK u.hb rfl (pop (AB 7) (have u:=u.p1;bF Rr u (H':=λ_=>jl B m.room (sH m.room t.buf (⟨7,0,0,0⟩:bI))) (Φ:=λ_ _=>True) (λE G V=>?_) ?_))))
 .exact(C230 B m.room t.buf (⟨7,0,0,0⟩:bI) E _ G cK).mono λ_ _ r=>r.mono λ_ _ h=>⟨trivial,h.2⟩
 rintro _ _ _ u;refine pop (JI 6) (aI (x:=(⟨6,0,0,0,0⟩:cB)) u.p4 fj rfl rfl λw70' u=>aD (x:=(⟨6,0,0,0,0⟩:cB)) fj u.At ?_);have u:=mj.shut (t:=pZ m t (⟨7,0,0,0⟩:bI)) I u.drop.p4.drop.p3.p3.p2.p3;rw[aaM cK];exact⟨rfl,u.mut⟩
def C169(K:hM)(p:Nat)(m:gN)(i:Int)(n:Nat)(tp:Ptr)(t:jY)(x:bQ)(xv:bE)(F:Nat->Prop)(w:World)(hF:(sep (mj K tp.b m.room t) (CQ K p m n tp)).p w F)(G:∀w',gv F w w'->K w')(Y:ym (cT m.p) (cM m.p) t)(O:BG t)(z9:∀w,K w->mh w xv x)(hx:Uw (cT m.p) (cM m.p) t.names x)(hmm:wB m.mem)(rp:MB m.mem 1000000)(hkd:x.kind=2\/x.kind=4)(hb4:x.kind=4->t.buf=[])(EZ:0<=dP m x/\dP m x<m.mem.l.length) :
   CR 169 [.pointer (some ⟨p,0,none⟩),.pointer (some ⟨tp.b,0,none⟩),ia xv,hZ (dP m x)] w (λv w'=>v=ia (eb m t i x).2.2/\mR F (sep (mj K tp.b m.room (eb m t i x).2.1) (CQ K p (eb m t i x).1 n tp)) w w'):=by
 have u:=(St.begin hF).split;obtain⟨Z,V,rfl,_,_⟩:=ji (z9 _ (G _ u.aG))
 have Qf:∀w,K w->dC (λ_=>True) w (ia Z) x.e/\dC (λ_=>True) w (ia V) x.f:=λw hw=>by
  obtain⟨_,_,h4,h5,h6⟩:=ji (z9 w hw);cases h4
  exact⟨h5,h6⟩
 have hxe:=hx.e;have M:=hx.nm;have Zj:=Y.nb;have Gw:=Y.rl;have Hc:=Y.bl;have Da:=hx.rg cK;obtain⟨c,hc⟩:∃c,c=dP m x:=⟨_,rfl⟩;refine aeJ _ _ _ _ _ _ ?_;unfold S169;refine cI (x:=(⟨x.kind,x.eF,x.name,Z,V,x.n,x.body,x.eu,x.at_⟩:bE)) u (λb6 _ u=>aM u mu λb8 _ u=>?_);have u:=(u.enc (cs':=j0 (⟨0,0,0,0,0⟩:cB)) rfl).p2;obtain⟨bp,nv,rg,QT,ds,hk,u⟩:=mj.open u;refine aA iX (aB (v:=ia Z) jx u.p5.hb rfl (aV NP u (C203 tp.b t QT nv rg bp _ x.e _ u.hb (hk.1 _ (G _ u.aG)) u.p2.dX (Qf _ (G _ u.aG)).1 cK cK M.1 O.r) λ_ U u=>aO rfl (aO rfl (aA j6 (aB (v:=ia V) jx u.p5.hb rfl (aV NP u (C203 tp.b t QT nv rg bp _ x.f _ u.hb (hk.1 _ (G _ u.aG)) u.p2.dX (Qf _ (G _ u.aG)).2 cK cK M.2 O.r) λ_ U u=>aO rfl (aO rfl (aE (aA nA (aB yK u.hb rfl ?_))))))))))
 refine aV am6 u (C229 bp (dP m x) m.room t.buf _ (DE u.p1) cK) (λw5 U u=>aO rfl (aO rfl ?_));have u:=u.p6;obtain⟨a,I,u⟩:=CQ.open u;refine⟨λjv w'=>jv=hZ (ik m t (dP m x))/\w'=w5,?_,?_⟩
 .refine bR (aY (λB=>?_) λB=>?_);rotate_left
  .have h1:(ly t.buf (dP m x)).isSome=true:=by simpa using B
   exact⟨gO (ni .i64) (by unfold ik;rw[ew h1]),rfl⟩
  have h1:(ly t.buf (dP m x)).isSome=false:=by simpa using B
  refine aE (aA tm (aB qn u.hb rfl ?_));obtain⟨ov,fv,lv,kv,wv,ws,jZ,sV,hmo,hmf,CB,asf,hmw⟩:=(FY u.p1.has).ex;refine aE (aA rX (bO eg (sV.cell (o:=2) rfl) ?_));obtain⟨e,U⟩:=gx m.mem.l (i:=(dP m x).toNat) cK;exact aQ cS CB EZ.1 U (λ_ hq=>aD bM hq ⟨gO (ni .i64) (by unfold ik;rw[ej (by rw[h1];decide),aaO EZ.1 U]),rfl⟩)
 rintro _ _ ⟨rfl,rfl⟩ _;refine aA iH (aB (v:=.string x.eF) gw u.p10.hb rfl (have u:=mj.shut (t:=t) hk u.p8.p8.p8.p8;bF ag8 u (H':=λ_=>mj K tp.b m.room (pg t x.eF (ik m t (dP m x)))) (Φ:=λ_ _=>True) (λW ef dW=>?_) ?_))
 .exact(C204 K tp.b m.room t W x.eF _ _ ef (λw' hc=>G w' (dW w' hc).aG) Da Gw Zj).mono λ_ _ r=>r.mono λ_ _ h=>⟨trivial,h.2⟩
 rintro _ _ _ u;refine aA dM (aB (v:=hZ x.kind) bM u.p7.hb rfl (aH (aC (λk2=>?_) λk2=>?_)))
 .have J:xG m t x=⟨if (ly t.buf (dP m x)).isSome=true then 2 else 1,0,dP m x,ik m t (dP m x),0⟩:=rfl;refine aY (λB=>?_) (λB=>?_)
  .refine pop (mL 2 (dP m x) (ik m t (dP m x))) (aI (x:=(⟨2,0,dP m x,ik m t (dP m x),0⟩:cB)) u.p6 fj rfl rfl λw8 u=>aD (x:=(⟨2,0,dP m x,ik m t (dP m x),0⟩:cB)) fj u.At ?_);have u:=(CQ.shut (m:=m) I u.drop.p6.drop.p5.p5.p5.p5.p5).p1;rw[aaI k2];show ia _=ia (xG m t x)/\_;rw[J,ew B];exact⟨rfl,(St.join u).mut⟩
  refine pop (mL 1 (dP m x) (ik m t (dP m x))) (aI (x:=(⟨1,0,dP m x,ik m t (dP m x),0⟩:cB)) u.p6 fj rfl rfl λw8 u=>aD (x:=(⟨1,0,dP m x,ik m t (dP m x),0⟩:cB)) fj u.At ?_);have u:=(CQ.shut (m:=m) I u.drop.p6.drop.p5.p5.p5.p5.p5).p1;rw[aaI k2];show ia _=ia (xG m t x)/\_;rw[J,ej (by rw[B];decide)];exact⟨rfl,(St.join u).mut⟩
 have k4:x.kind=4:=cK
 have hld:ik m t (dP m x)=jH m.mem (dP m x):=by unfold ik;rw[hb4 k4];rfl
 rw[hld]at u |-;rw[alb k4];refine bV (aC (λB=>?_) λB=>?_)
 .have E:rJ m t x=m:=by unfold rJ;rw[ej B]
  have zP:tL m t x=⟨9,0,dP m x,jH m.mem (dP m x),0⟩:=by unfold tL;rw[ej B]
  refine pop (mL 9 (dP m x) (jH m.mem (dP m x))) (aI (x:=(⟨9,0,dP m x,jH m.mem (dP m x),0⟩:cB)) u.p6 fj rfl rfl λw8 u=>aD (x:=(⟨9,0,dP m x,jH m.mem (dP m x),0⟩:cB)) fj u.At ?_);have u:=(CQ.shut (m:=m) I u.drop.p6.drop.p5.p5.p5.p5.p5).p1;rw[E,zP];exact⟨rfl,(St.join u).mut⟩
 have E:rJ m t x={m with mem:=fo m.mem (dP m x) (eI t x.f).1}:=by unfold rJ;rw[ew (by simpa using B)]
 have zP:tL m t x=⟨8,0,dP m x,jH m.mem (dP m x),(eI t x.f).1⟩:=by unfold tL;rw[ew (by simpa using B)]
 refine aE (aA tm (aB qn u.p1.hb rfl (have u:=u.p2;bF afB u (H':=λ_=>gu a.q (fo m.mem (dP m x) (eI t x.f).1)) (Φ:=λ_ _=>True) (λW ef dW=>?_) ?_)))
 .exact(C166 a.q m.mem W (dP m x) _ _ ef hmm rp).mono λ_ _ r=>r.mono λ_ _ h=>⟨trivial,h.2⟩
 rintro _ _ _ u;refine pop (yZ 8 (dP m x) (jH m.mem (dP m x)) (eI t x.f).1) (aI (x:=(⟨8,0,dP m x,jH m.mem (dP m x),(eI t x.f).1⟩:cB)) u.p6 fj rfl rfl λ_ u=>aD (x:=(⟨8,0,dP m x,jH m.mem (dP m x),(eI t x.f).1⟩:cB)) fj u.At ?_);have u:=CQ.shut (m:={m with mem:=fo m.mem (dP m x) (eI t x.f).1}) (⟨⟨I.1.pr,I.1.rc⟩,I.2⟩) u.drop.p6.drop.p5.p5.p5.p3.p5;have u:=u.p1;rw[E,zP];exact⟨rfl,(St.join u).mut⟩
def C95(K:hM)(p:Nat)(m:gN)(q:aS)(i k:Int)(V:q.t=i)(Z:q.i=k)(t:jY)(F:Nat->Prop)(w:World)(hF:(qP K p m).p w F)(W:oK m)(rp:MB m.mem 1000000)(h0:0<=i)(ht:m.l[i.toNat]?=some t) :
   CR 95 [.pointer (some ⟨p,0,none⟩),hZ i,hZ k] w (λv w'=>v=ia (td i (dH t.buf k))/\mR F (qP K p (tf m t q)) w w'):=by
 subst V Z;have u:=St.begin hF;have Cl:=kE ht;have kC:=W.th t Cl;have nP:=(kp.1 ht).1;have Hc:=kC.bl;refine oM Tryz.func95 (pl:=P95) ?_;refine aM u mu (λb6 _ u=>?_);have u:=(u.enc (cs':=j0 (⟨0,0,0,0,0⟩:cB)) rfl).p1;obtain⟨a,E,u⟩:=qP.open u;have Y:=u.p4.iZ;obtain⟨e,I⟩:=gx a.ps (i:=q.t.toNat) cK;refine aE (aA oS (aB Ed u.hb rfl (aQ Gn u.p3.dX h0 I λq0 hq=>aD G3 hq ?_)));have u:=aaH u.p4 I ht;obtain⟨bp,nv,rg,QT,ds,hk,u⟩:=mj.open u;refine aE (aA nA (aB yK u.hb rfl (have u:=u.p1;bF amW u (H':=λ_=>jl bp m.room (jU t.buf q.i)) (Φ:=λv _=>v=.tuple #[ia (dH t.buf q.i),hZ (xy t.buf q.i)]) (λG O dW=>?_) ?_)))
 .exact C165 bp m.room t.buf q.i G _ O cK
 rintro _ _ rfl u;refine aO rfl (aO rfl (aM u rA λb7 _ u=>aI (x:=(dH t.buf q.i)) u iw rfl rfl λ_ u=>have u:=(((((mj.shut (t:={t with buf:=jU t.buf q.i}) hk u.p4.p4.p3.p4).p2).p6).p6).p6).p6;have u:=u.p5.p7.p7;aA gH (aB (v:=hZ (dH t.buf q.i).kind) bM u.hb rfl (aH (aC (λc=>?_) λc=>?_)))))
 .have u:=u.drew;refine aE (aA tm (aB qn u.p3.hb rfl (aA my (aB (v:=hZ (dH t.buf q.i).cell) bM u.hb rfl (aA oW (aB (v:=hZ (dH t.buf q.i).n) bM u.hb rfl (have u:=u.p4;bF afB u (H':=λ_=>gu a.q (fo m.mem (dH t.buf q.i).cell (dH t.buf q.i).n)) (Φ:=λ_ _=>True) (λG O dW=>?_) ?_)))))))
  .exact(C166 a.q m.mem G _ _ _ O W.mem rp).mono λ_ _ r=>r.mono λ_ _ h=>⟨trivial,h.2⟩
  rintro _ _ _ u;refine aA my (aB (v:=hZ (dH t.buf q.i).cell) bM u.p1.hb rfl (aA oW (aB (v:=hZ (dH t.buf q.i).n) bM u.p1.hb rfl (pop (yY 12 q.t (dH t.buf q.i).cell (dH t.buf q.i).n) (aI (x:=(⟨12,q.t,(dH t.buf q.i).cell,(dH t.buf q.i).n,0⟩:cB)) u.p2 fj rfl rfl λ_ u=>aD (x:=(⟨12,q.t,(dH t.buf q.i).cell,(dH t.buf q.i).n,0⟩:cB)) fj u.At ?_)))));have u:=u.drop.p1.drop;have J:jV m.mem (dH t.buf q.i)=fo m.mem (dH t.buf q.i).cell (dH t.buf q.i).n:=by unfold jV;rw[ew c]
  have B:td q.t (dH t.buf q.i)=⟨12,q.t,(dH t.buf q.i).cell,(dH t.buf q.i).n,0⟩:=by unfold td;rw[ew c]
  have u:=CQ.shut (m:={m with mem:=fo m.mem (dH t.buf q.i).cell (dH t.buf q.i).n}) (i:=q.t.toNat) (tp:=e) ⟨⟨E.pr,E.rc⟩,I,Y,by show q.t.toNat<m.l.length;omega⟩ u.p5.p5.p5.p3.p5;have u:=xP (m:={m with mem:=fo m.mem (dH t.buf q.i).cell (dH t.buf q.i).n}) (tp:=e) (t:={t with buf:=jU t.buf q.i}) u.p1;have M:tf m t q={ {m with mem:=fo m.mem (dH t.buf q.i).cell (dH t.buf q.i).n}with l:=m.l.set q.t.toNat ({t with buf:=jU t.buf q.i})}:=by unfold tf;rw[J]
  rw[M,B];exact⟨rfl,u.mut⟩
 refine aA gH (aB (v:=hZ (dH t.buf q.i).kind) bM u.hb rfl (aH (aC (λU=>?_) λU=>?_)))
 .refine pop (HL 14 q.t) (aI (x:=(⟨14,q.t,0,0,0⟩:cB)) u.p1 fj rfl rfl λ_ u=>aD (x:=(⟨14,q.t,0,0,0⟩:cB)) fj u.At ?_);have u:=u.drop.drop;have J:jV m.mem (dH t.buf q.i)=m.mem:=by unfold jV;rw[ej c,ew U]
  have B:td q.t (dH t.buf q.i)=⟨14,q.t,0,0,0⟩:=by unfold td;rw[ej c,ew U]
  have u:=CQ.shut (m:={m with mem:=m.mem}) (i:=q.t.toNat) (tp:=e) ⟨⟨E.pr,E.rc⟩,I,Y,by show q.t.toNat<m.l.length;omega⟩ u.p5.p5.p5.p5.p5;have u:=xP (m:={m with mem:=m.mem}) (tp:=e) (t:={t with buf:=jU t.buf q.i}) u.p1;have M:tf m t q={ {m with mem:=m.mem}with l:=m.l.set q.t.toNat ({t with buf:=jU t.buf q.i})}:=by unfold tf;rw[J]
  rw[M,B];exact⟨rfl,u.mut⟩
 have u:=u.drew;refine aE (aA tm (aB qn u.p3.hb rfl (aA g8 (aB (v:=hZ (dH t.buf q.i).line) bM u.hb rfl (have u:=u.p4;bF amX u (H':=λ_=>gu a.q (n7 m.mem (dH t.buf q.i).line)) (Φ:=λ_ _=>True) (λG O dW=>?_) ?_)))))
 .exact(C167 a.q m.mem G _ _ O W.mem rp).mono λ_ _ r=>r.mono λ_ _ h=>⟨trivial,h.2⟩
 rintro _ _ _ u;refine aA g8 (aB (v:=hZ (dH t.buf q.i).line) bM u.p1.hb rfl (pop (tK 13 q.t (dH t.buf q.i).line) (aI (x:=(⟨13,q.t,(dH t.buf q.i).line,0,0⟩:cB)) u.p2 fj rfl rfl λ_ u=>aD (x:=(⟨13,q.t,(dH t.buf q.i).line,0,0⟩:cB)) fj u.At ?_)));have u:=u.drop.p1.drop;have J:jV m.mem (dH t.buf q.i)=n7 m.mem (dH t.buf q.i).line:=by unfold jV;rw[ej c,ej U]
 have B:td q.t (dH t.buf q.i)=⟨13,q.t,(dH t.buf q.i).line,0,0⟩:=by unfold td;rw[ej c,ej U]
 have u:=CQ.shut (m:={m with mem:=n7 m.mem (dH t.buf q.i).line}) (i:=q.t.toNat) (tp:=e) ⟨⟨E.pr,E.rc⟩,I,Y,by show q.t.toNat<m.l.length;omega⟩ u.p5.p5.p5.p3.p5;have u:=xP (m:={m with mem:=n7 m.mem (dH t.buf q.i).line}) (tp:=e) (t:={t with buf:=jU t.buf q.i}) u.p1;have M:tf m t q={ {m with mem:=n7 m.mem (dH t.buf q.i).line}with l:=m.l.set q.t.toNat ({t with buf:=jU t.buf q.i})}:=by unfold tf;rw[J]
 rw[M,B];exact⟨rfl,u.mut⟩
def asg:PL 60:=dK Tryz.func60
def C96(K:hM)(p:Nat)(m:gN)(i:Int)(t:jY)(F:Nat->Prop)(w:World)(hF:(qP K p m).p w F)(U:∀w',gv F w w'->K w')(E:oK m)(hvo:J4 m)(rp:MB m.mem 1000000)(h0:0<=i)(ht:m.l[i.toNat]?=some t)(uj:sP m t=true)(Df:m.mem.dU=eW m.p) :
   CR 96 [.pointer (some ⟨p,0,none⟩),hZ i] w (λv w'=>v=ia (iy m i).2/\mR F (qP K p (iy m i).1) w w'):=by
 have u:=St.begin hF;have Cl:=kE ht;have kC:=E.th t Cl;have hto:=hvo.th t Cl;have nP:=(kp.1 ht).1;have Zj:=kC.nb;have how:=E.ow;have ajH:(cM m.p).length<=500:=by unfold cM;rw[n0];exact E.pz.eJ
 have ay1:(cT m.p).length<=250500:=mH E.pz.toPS;have CB:m.mem.l.length=(cT m.p).length:=by rw[E.mem.ll,Df];unfold eW cT;rw[n0,n0]
 have arL:=kC.cl;have hfc:=FU t.cG;refine akO _ _ _ _ ?_;unfold S96;refine aM u mu (λb4 _ u=>?_);have u:=(u.enc (cs':=j0 (⟨0,0,0,0,0⟩:cB)) rfl).p1;obtain⟨a,hu,u⟩:=qP.open u;have pH:=u.p4.iZ;refine aE (aA oS (aB Ed u.hb rfl ?_));obtain⟨e,he⟩:=gx a.ps (i:=i.toNat) cK;refine aQ Gn u.p3.dX h0 he (λq hq=>aD G3 hq ?_);have u:=aaH u.p4 he ht;obtain⟨bp,nv,rg,QT,ds,hk,u⟩:=mj.open u;have Hh:=hk.2.1.1;refine aE (aA wO (aB bM u.hb rfl (bV (aC (λc=>?_) λc=>?_))))
 .have VI:iy m i=({m with fault:=t.fault,jd:=i},⟨16,i,t.fault,0,0⟩):=by unfold iy;rw[ht];dsimp only;rw[ew c]
  refine aE (aA wO (aB bM u.hb rfl ?_));have u:=St.Ds (H:=NT K m.room) (x:=t) (((mj.shut (t:=t) hk u.p3.p3.p3.p3).p1).p1) cK pH he;rw[mY ht]at u;have u:=qP.shut (m:=m) hu u.p4.p4.p4.p4;refine bF aha u (H':=λ_=>qP K p {m with fault:=t.fault,jd:=i}) (Φ:=λv _=>v=ia (⟨16,i,t.fault,0,0⟩:cB)) (λB G M=>?_) ?_
  .exact C168 K p m i t.fault B _ G
  rintro _ _ rfl u;refine aI (x:=(⟨16,i,t.fault,0,0⟩:cB)) u.p1 fj rfl rfl (λ_ u=>aD (x:=(⟨16,i,t.fault,0,0⟩:cB)) fj u.At ?_);rw[VI];exact⟨rfl,u.drop.mut⟩
 have hf0:t.fault=0:=cK
 obtain⟨x,xa,xb,Cj⟩:=NH uj;obtain⟨en,tX⟩:=Br Cj;have QU:(we (gB t.cG)).length<=100000:=by rw[tX,oE]at hfc;omega
 have xl:=hk.2.1;rw[tX]at xl;obtain⟨d0,qe,rfl,yW,hds⟩:=xl.head;obtain⟨dx,db,de,dn⟩:=d0;obtain⟨O,J,rfl,_,_⟩:=ji (yW.x _ (U _ u.aG));have z9:∀w,K w->mh w (⟨x.kind,x.eF,x.name,O,J,x.n,x.body,x.eu,x.at_⟩:bE) x:=yW.x;obtain⟨⟨Rh,hk3⟩,hv1,hv2⟩:=E.st t Cl hf0 _ _ _ Cj;obtain⟨hx,_,_,_,_,_,_,_,r,en',p',Bz,sr,ar⟩:=kC.top Cj;refine aE (aA kP (aB uD u.hb rfl (aQ nz u.p3.eD cK rfl λq1 h1=>Lo (⟨x.kind,x.eF,x.name,O,J,x.n,x.body,x.eu,x.at_⟩:bE) oV h1 rfl λq2 h2=>aD eM h2 (pop JH (have u:=mj.shut (t:=t) hk u.p3.p3.p3.p3;aM u jy λb6 _ u=>aM u mu λb7 _ u=>aI (x:=(⟨x.kind,x.eF,x.name,O,J,x.n,x.body,x.eu,x.at_⟩:bE)) u.p1 eM rfl rfl λ_ u=>aI (x:=(⟨0,0,0,0,0⟩:cB)) u.p1 fj rfl rfl λ_ u=>have u:=u.drew;aE (aA oR ?_))))))
 refine qi a.pv er u.p4.hb rfl (aA fZ (aB (v:=.string x.name) gw u.p1.hb rfl (aE (aA oR (qi a.pv er u.p4.hb rfl (aA fZ (aB (v:=.string x.name) gw u.p1.hb rfl (dY KF u (C124 m.p a.pv _ (hu.pr _ (U _ u.aG)) E.pz) λx41 _ cL u=>?_))))))));refine⟨aF gw (u.p2.hb.cell (v:=.string x.name) rfl),?_⟩;refine⟨jz a.pv er u.p5.hb rfl,?_⟩;refine⟨aF gw (u.p2.hb.cell (v:=.string x.name) rfl),?_⟩;refine aV rT u (C123 _ (cT m.p) x.name _ u.dX cK) (λ_ Mv u=>?_);refine⟨jz a.pv er u.p5.hb rfl,?_⟩;refine⟨aF gw (u.p2.hb.cell (v:=.string x.name) rfl),?_⟩
 refine dY Rk u (C125 m.p a.pv _ (hu.pr _ (U _ u.aG)) E.pz) (λx49 _ cL u=>?_);refine⟨aF gw (u.p3.hb.cell (v:=.string x.name) rfl),?_⟩;refine aV rT u (C123 _ (cM m.p) x.name _ u.dX cK) (λw11 Mv u=>?_);have u:=CQ.shut (m:=m) (i:=i.toNat) (tp:=e) ⟨hu,he,pH,cK⟩ u.drop.drop.p3.p7.p7.p7.p7;have u:=u.p3.p4.p4.p4;have NV:iy m i=(if x.kind=10/\m.eV.getD (fF m x).toNat 0≠i then({m with fault:=3,jd:=i},⟨16,i,3,0,0⟩)else({ (eb m t i x).1 with l:=m.l.set i.toNat (ui m t i x)},{ (eb m t i x).2.2 with t:=i})):=by unfold iy;rw[ht];dsimp only;rw[ej cK,Cj]
 refine⟨λw'=>¬ (x.kind=10/\m.eV.getD (fF m x).toNat 0≠i)/\St w F [bY b7 (j0 ((eb m t i x).2.2)),bY b6 (j0 (⟨x.kind,x.eF,x.name,O,J,x.n,x.body,x.eu,x.at_⟩:bE)),bY b4 (j0 (⟨0,0,0,0,0⟩:cB)),mj K e.b m.room (eb m t i x).2.1,CQ K p (eb m t i x).1 i.toNat e] w',?_,?_⟩
 .refine aA dM (aB (v:=hZ x.kind) bM u.p1.hb rfl ?_);refine⟨λjv w'=>jv=.bool (decide (x.kind=2\/x.kind=4))/\w'=w11,?_,?_⟩
  .exact aH (aC (λc=>⟨vb (by rw[ez c,ez (Or.inl c)]),rfl⟩) λ_=>aH ⟨vb (ga.2 cK),rfl⟩)
  rintro _ _ ⟨rfl,rfl⟩ sY;refine aC (λk24=>?_) (λk24=>?_)
  .have W:¬ (x.kind=10/\m.eV.getD (fF m x).toNat 0≠i):=cK
   obtain⟨jc,hjc,ay2,_⟩:=lX (dJ.1 (hx.cl cK));have hjcl:=(kp.1 ay2).1;have hcc:dP m x=(jc:Int):=hjc;refine aD (x:=(⟨x.kind,x.eF,x.name,O,J,x.n,x.body,x.eu,x.at_⟩:bE)) eM u.p1.At (have u:=St.join u.p4.p4;bF ar1 u (H':=λ_=>sep (mj K e.b m.room (eb m t i x).2.1) (CQ K p (eb m t i x).1 i.toNat e)) (Φ:=λv _=>v=ia (eb m t i x).2.2) (λB G M=>?_) ?_)
   .exact C169 K p m i i.toNat e t x (⟨x.kind,x.eF,x.name,O,J,x.n,x.body,x.eu,x.at_⟩:bE) B _ G (λw' hc=>U w' (M w' hc).aG) kC hto z9 hx E.mem rp k24 (λh=>aaN uj hf0 Cj h) cK
   rintro _ _ rfl u;have u:=u.split;exact aI (x:=((eb m t i x).2.2:cB)) u.p2 fj rfl rfl (λ_ u=>have u:=u.p2.p2.p4.p4.p4;⟨W,u⟩)
  refine aH (aC (λk8=>?_) λk8=>?_)
  .have W:¬ (x.kind=10/\m.eV.getD (fF m x).toNat 0≠i):=cK
   refine aA acj (aT u bM (dL rfl) rfl λ_ u=>?_);have u:=(((((u.enc (cs':=j0 (⟨7,0,0,0,0⟩:cB)) rfl).p4).p4).p4).p4).p4;rw[ala k8];exact⟨W,u⟩
  refine aH (aC (λk9=>?_) λk9=>?_)
  .have W:¬ (x.kind=10/\m.eV.getD (fF m x).toNat 0≠i):=cK
   have Z:x.kind=9\/x.kind=10:=cK
   obtain⟨j,hj,B7,_⟩:=lX (dJ.1 (hx.lk Z));have D3:=(kp.1 B7).1;have hjk:fF m x=(j:Int):=hj;have u:=u.p4;obtain⟨a,I,u⟩:=CQ.open u;refine aE (aA vk (aB eg u.hb rfl (dR u.p2 cS (show 0<=fF m x by omega) (show fF m x<_ by omega) λ_ ay3=>ju (i:Int) u.p2 bM ay3 cK λ_ u=>pop (oD 10 (fF m x)) (have u:=CQ.shut (m:=pE m x i) (⟨⟨I.1.pr,I.1.rc⟩,I.2⟩) u.p4.p4.p2.p4.p4;aI (x:=(⟨10,0,fF m x,0,0⟩:cB)) u.p1 fj rfl rfl λ_ u=>?_))));have u:=u.p1.p4.p4.p4.p4;rw[alc k9];exact⟨W,u⟩
  refine aH (aC (λk10=>?_) λk10=>?_)
  .have Z:x.kind=9\/x.kind=10:=cK
   obtain⟨j,hj,B7,_⟩:=lX (dJ.1 (hx.lk Z));have D3:=(kp.1 B7).1;have hjk:fF m x=(j:Int):=hj;have u:=u.p4;obtain⟨a,I,u⟩:=CQ.open u;have YY:=u.p2.dX;obtain⟨ov,Zv⟩:=gx m.eV (i:=(fF m x).toNat) cK;have hgd:m.eV.getD (fF m x).toNat 0=ov:=by rw[og,Zv];rfl
   refine aE (aA vk (aB eg u.hb rfl (aQ cS YY (show 0<=fF m x by omega) Zv λq69 h69=>aD bM h69 (bV (aC (λV=>?_) λV=>?_)))))
   .have u:=u.p4;have u:=xP ((CQ.shut (m:=m) I u.p4.p4.p4.p4).p4);rw[mY ht]at u;refine bF aha u (H':=λ_=>qP K p {m with fault:=3,jd:=i}) (Φ:=λv _=>v=ia (⟨16,i,3,0,0⟩:cB)) (λB G M=>?_) ?_
    .exact C168 K p m i 3 B _ G
    rintro _ _ rfl u;refine aI (x:=(⟨16,i,3,0,0⟩:cB)) u.p3 fj rfl rfl (λ_ u=>aD (x:=(⟨16,i,3,0,0⟩:cB)) fj u.At ?_);have u:=u.drop.p1.drop.p1.drop;rw[NV,ew ⟨k10,by rw[hgd];exact V⟩];exact⟨rfl,u.mut⟩
   refine aE (aA vk (aB eg u.hb rfl (dR u.p2 cS (show 0<=fF m x by omega) (show fF m x<_ by omega) λ_ ale=>ju (-1:Int) u.p2 bM ale cK λ_ u=>pop (oD 11 (fF m x)) (have u:=CQ.shut (m:=pE m x (-1)) (⟨⟨I.1.pr,I.1.rc⟩,I.2⟩) u.p4.p4.p2.p4.p4;aI (x:=(⟨11,0,fF m x,0,0⟩:cB)) u.p1 fj rfl rfl λ_ u=>?_))));have u:=u.p1.p4.p4.p4.p4;rw[aeW k10];exact⟨by rw[hgd];exactλh=>V h.2,u⟩
  have W:¬ (x.kind=10/\m.eV.getD (fF m x).toNat 0≠i):=cK
  have u:=u.drew;refine aD (x:=(⟨x.kind,x.eF,x.name,O,J,x.n,x.body,x.eu,x.at_⟩:bE)) eM u.p1.At ?_;have u:=u.p4;obtain⟨a,I,u⟩:=CQ.open u;refine aE (aA oR (qi a.pv er u.hb rfl (aV asg u (C60 m.p a.pv (dP m x) _ (I.1.pr _ (U _ u.aG)) E.pz) λ_ Mv u=>?_)));refine⟨eN (x:=(⟨x.kind,x.eF,x.name,O,J,x.n,x.body,x.eu,x.at_⟩:bE)) eM u.p6.At,?_⟩;have u:=(CQ.shut (m:=m) I u.p4.p4.p4.p4.p4).p4
  have ha1:(eb m t i x).1=m:=by
   rcases(show x.kind=3\/x.kind=5\/x.kind=6\/x.kind=7 by omega)with h|h|h|h
   .rw[aaJ h]
   .rw[aaK h]
   .rw[aaL h]
   .rw[aaM h]
  refine bF ar0 u (H':=λ_=>mj K e.b m.room (eb m t i x).2.1) (Φ:=λv _=>v=ia (eb m t i x).2.2) (λB G M=>?_) ?_
  .exact C170 K _ m i e t x (⟨x.kind,x.eF,x.name,O,J,x.n,x.body,x.eu,x.at_⟩:bE) B _ G (λw' hc=>U w' (M w' hc).aG) kC hto z9 hx cK
  rintro _ _ rfl u;refine aI (x:=((eb m t i x).2.2:cB)) u.p2 fj rfl rfl (λ_ u=>?_);have u:=u.p2.p2.p4.p4.p4;rw[ha1];exact⟨W,u⟩
 rintro _ ⟨aaR,u⟩ sY;have yI:=Cq (m:=m) (t:=t) (i:=i) (x:=x);have alf:sL (Uw (cT m.p) (cM m.p) t.names) (eb m t i x).2.1:=JW kC E.rm.2
 have aaS:ym (cT m.p) (cM m.p) { (eb m t i x).2.1 with cG:=gB (eb m t i x).2.1.cG}:=by
  show sL (Uw _ _ (eb m t i x).2.1.names) _;rw[vJ];exact JX alf
 have asi:=(aak (i:=i) (x:=x) hvo.mem hto).1;have ay6:BG { (eb m t i x).2.1 with cG:=gB (eb m t i x).2.1.cG}:=⟨asi.r,asi.b⟩;have Y:=Cr (m:=m) (t:=t) (i:=i) (x:=x);refine aA RC (aT u bM (dL rfl) rfl λ_ u=>have u:=(u.enc (cs':=j0 ({ (eb m t i x).2.2 with t:=i}:cB)) rfl).p3;bF Ih u (H':=λ_=>mj K e.b m.room { (eb m t i x).2.1 with cG:=gB (eb m t i x).2.1.cG}) (Φ:=λ_ _=>True) (λB G M=>?_) ?_)
 .exact(C171 K e.b m.room (eb m t i x).2.1 B (.slice none 0 0) [] [] (we (gB t.cG)) _ (gB (eb m t i x).2.1.cG) _ G (λw' hc=>U w' (M w' hc).aG) (λ_ _=>dC.nil _ _) lq.nil (by rw[Y];exact tX) (by rw[Y];rfl) (by rw[Y];exact hk.2.2.pop) (l1 _) QU).mono λ_ _ r=>r.mono λ_ _ h=>⟨trivial,h.2⟩
 rintro _ _ _ u;refine bF ag9 u (H':=λ_=>mj K e.b m.room (ui m t i x)) (Φ:=λ_ _=>True) (λB G M=>?_) ?_
 .exact(C129 K e.b m.room { (eb m t i x).2.1 with cG:=gB (eb m t i x).2.1.cG} (ui m t i x) _ _ _ B _ G (λw' hc=>U w' (M w' hc).aG) aaS ay6 (qL aaS).1).mono λ_ _ r=>r.mono λ_ _ h=>⟨trivial,h.2⟩
 rintro _ _ _ u;refine aD (x:=({ (eb m t i x).2.2 with t:=i}:cB)) fj u.p1.At (aI (x:=({ (eb m t i x).2.2 with t:=i}:cB)) u.p3 fj rfl rfl λ_ u=>aD (x:=({ (eb m t i x).2.2 with t:=i}:cB)) fj u.At ?_);have u:=u.drop.p1.drop.p1.drop.p1.p1;rw[<- yI]at u;have u:=xP u;rw[Z9]at u;rw[NV,ej aaR];exact⟨rfl,u.mut⟩
def C91(K:hM)(p:Nat)(m:gN)(i:Int)(t:jY)(F:Nat->Prop)(w:World)(hF:(gp K p m).p w F)(V:∀w',gv F w w'->K w')(iL:oK m)(rp:MB m.mem 1000000)(h0:0<=i)(ht:m.l[i.toNat]?=some t)(ay7:t.fault=0->∃x a b,pf t.cG=some (x,a,b)) :
   CR 91 [.pointer (some ⟨p,0,none⟩),hZ i] w (λv w'=>v=ia (iy m i).2/\mR F (gp K p (iy m i).1) w w'):=by
 have u:=St.begin hF;have Cl:=kE ht;have U:=iL.th t Cl;have nP:=(kp.1 ht).1;have oG:=DF U.p;have EZ:=U.cl;have Hc:=U.bl;have Zj:=U.nb;have Gw:=U.rl;have how:=iL.ow;have ajH:(cM m.p).length<=500:=by unfold cM;rw[n0];exact iL.pz.eJ
 have ay1:(cT m.p).length<=250500:=mH iL.pz.toPS;refine ajy _ _ _ _ ?_;unfold S91;refine aM u mu (λb4 _ u=>?_);have u:=(u.enc (cs':=j0 (⟨0,0,0,0,0⟩:cB)) rfl).p1;obtain⟨a,hu,u⟩:=gp.open u;have pH:=u.p4.iZ;refine aE (aA vn (aB IS u.hb rfl ?_));obtain⟨e,he⟩:=gx a.ps (i:=i.toNat) cK;refine aQ La u.p3.dX h0 he (λq hq=>aD G4 hq ?_);have u:=Zt u.p4 he ht;obtain⟨O,nv,rg,pl,es,Y,u⟩:=eR.open u;refine aE (aA wP (aB bM u.hb rfl (bV (aC (λc=>?_) λc=>?_))))
 .have VI:iy m i=({m with fault:=t.fault,jd:=i},⟨16,i,t.fault,0,0⟩):=by unfold iy;rw[ht];dsimp only;rw[ew c]
  refine aE (aA wP (aB bM u.hb rfl ?_));have u:=eR.shut (Φ:=λ_=>True) (t:=t) Y u.p4.p4.p4.p4.p4;have u:=St.Ds (H:=yB K m.room) (x:=t) u.p1.p1 cK pH he;rw[mY ht]at u;have u:=gp.shut (m:=m) hu u.p4.p4.p4.p4;refine bF agX u (H':=λ_=>gp K p {m with fault:=t.fault,jd:=i}) (Φ:=λv _=>v=ia (⟨16,i,t.fault,0,0⟩:cB)) (λB E I=>?_) ?_
  .exact C158 K p m i t.fault B _ E
  rintro _ _ rfl u;refine aI (x:=(⟨16,i,t.fault,0,0⟩:cB)) u.p1 fj rfl rfl (λ_ u=>aD fj u.At ?_);rw[VI];exact⟨rfl,u.drop.mut⟩
 have hf0:t.fault=0:=cK
 refine dO Zh (C137 K e.b t O nv rg pl es _ _ u.hb u.p3.dX u.p4.eD.1 (λ_ e=>V _ (u.aG.then e)) U.p cK) ?_;rintro v _ ⟨hex,hv⟩;have u:=u.ext hex
 rcases hv with⟨eG,_⟩|⟨x,xa,xb,xv,av,bv,ra,rb,Cj,rfl,z9,_⟩
 .obtain⟨_,_,_,h⟩:=ay7 hf0;rw[eG]at h;cases h
 obtain⟨ge,gf,rfl,_,_⟩:=ji (z9 _ (V _ u.aG))
 have Qf:∀w,K w->dC (λ_=>True) w (ia ge) x.e/\dC (λ_=>True) w (ia gf) x.f:=λw hw=>by
  obtain⟨_,_,h4,h5,h6⟩:=ji (z9 w hw);cases h4
  exact⟨h5,h6⟩
 obtain⟨⟨Rh,xl⟩,hv1,hv2⟩:=iL.st t Cl hf0 _ _ _ Cj;obtain⟨hx,_,_,_,_,_,_,_,r,en,p',Bz,sr,ar⟩:=U.top Cj;have iV:(Bk.cons x xa xb r).str:=U.p.st _ (by rw[Bz];exact o1 ..);have hxe:=hx.e;have ht1:{t with fault:=if (eI t x.e).2=true then t.fault else 2}=t:=by rw[hv1];rfl
 refine aO rfl (aO rfl (aO rfl (aO rfl (have u:=eR.shut (Φ:=λ_=>True) (t:=t) Y u.p4.p4.p4.p4.p4;aM u jy λb6 _ u=>aI (x:=(⟨x.kind,x.eF,x.name,ge,gf,x.n,x.body,x.eu,x.at_⟩:bE)) u eM rfl rfl λ_ u=>have u:=u.drew;aE (aA IT (aB jk u.p3.hb rfl (aA fZ (aB (v:=.string x.name) gw u.hb rfl (aE (aA IU ?_))))))))));refine aB jk u.p3.hb rfl (aA fZ (aB (v:=.string x.name) gw u.hb rfl (aV Hp u (C159 _ (cT m.p) x.name _ (hu.cs _ (V _ u.aG)) cK) λ_ Mv u=>?_)));refine⟨aF jk (u.p3.hb.cell rfl),?_⟩
 refine⟨aF gw (u.hb.cell rfl),?_⟩;refine aV Hp u (C159 _ (cM m.p) x.name _ (hu.ks _ (V _ u.aG)) cK) (λ_ Mv u=>aE (aA Dp (qi a.pv er u.p3.hb rfl (aV aqa u (C52 m.p a.pv _ _ (hu.pr _ (V _ u.aG)) iL.pz) λ_ Mv u=>aM u mu λb13 _ u=>?_))));have u:=m6.shut (m:=m) (⟨hu,he,pH,cK⟩) ((((((u.enc (cs':=j0 (⟨0,0,0,0,0⟩:cB)) rfl).p3).p7).p7).p7).p7);obtain⟨c,hc⟩:∃c,c=dP m x:=⟨_,rfl⟩;obtain⟨lk,hlk⟩:∃lk,lk=fF m x:=⟨_,rfl⟩;obtain⟨ln,Gs⟩:∃ln,ln=fB m x:=⟨_,rfl⟩;have u:=u.p3.p4.p4.p4;have NV:iy m i=(if x.kind=10/\m.eV.getD (fF m x).toNat 0≠i then({m with fault:=3,jd:=i},⟨16,i,3,0,0⟩)else({ (eb m t i x).1 with l:=m.l.set i.toNat (ui m t i x)},{ (eb m t i x).2.2 with t:=i})):=by unfold iy;rw[ht];dsimp only;rw[ej cK,Cj]
 refine⟨λw'=>¬ (x.kind=10/\m.eV.getD (fF m x).toNat 0≠i)/\St w F [bY b13 (j0 ((eb m t i x).2.2)),bY b6 (j0 (⟨x.kind,x.eF,x.name,ge,gf,x.n,x.body,x.eu,x.at_⟩:bE)),bY b4 (j0 (⟨0,0,0,0,0⟩:cB)),rG K e.b m.room (eb m t i x).2.1,m6 K p (eb m t i x).1 i.toNat e] w',?_,?_⟩
 .refine aA dM (aB (v:=hZ x.kind) bM u.p1.hb rfl (aH (aC (λW=>?_) λW=>?_)))
  .have G:(eb m t i x)=(m,pg t x.eF (ik m t (dP m x)),xG m t x):=by unfold eb;rw[ew W]
   have J:¬ (x.kind=10/\m.eV.getD (fF m x).toNat 0≠i):=cK
   refine aD eM u.p1.At (have u:=St.join u.p4.p4;bF aq0 u (H':=λ_=>sep (rG K e.b m.room (pg t x.eF (ik m t (dP m x)))) (m6 K p m i.toNat e)) (Φ:=λv _=>v=ia (xG m t x)) (λB E I=>?_) ?_)
   .exact C160 K p m i.toNat e t x ⟨x.kind,x.eF,x.name,ge,gf,x.n,x.body,x.eu,x.at_⟩ B (dP m x) _ E (λw' hc=>V w' (I w' hc).aG) U iL.mem z9 (hx.rg cK)
   rintro _ _ rfl u;have u:=u.split;refine aI (x:=(xG m t x:cB)) u.p2 fj rfl rfl (λ_ u=>?_);have u:=u.p2.p2.p4.p4.p4;rw[G];exact⟨J,u⟩
  refine aH (aC (λZ=>?_) λZ=>?_)
  .have G:(eb m t i x)=(m,pZ m t ⟨3,fB m x,dP m x,(eI t x.e).1⟩,⟨3,0,dP m x,(eI t x.e).1,0⟩):=by unfold eb;rw[ej W,ew Z]
   have J:¬ (x.kind=10/\m.eV.getD (fF m x).toNat 0≠i):=cK
   refine aA iX (aB (v:=ia ge) jx u.p1.hb rfl (have u:=u.p3;bF MW u (H':=λ_=>rG K e.b m.room t) (Φ:=λv _=>v=.tuple #[hZ (eI t x.e).1,.bool (eI t x.e).2]) (λB E I=>?_) ?_))
   .have:=C161 K _ e.b m.room t B _ x.e _ E (λw' hc=>V w' (I w' hc).aG) (Qf _ (V _ u.aG)).1 cK cK;rw[ht1]at this;exact this
   rintro _ _ rfl u;refine aO rfl (aO rfl ?_);obtain⟨O,nv,rg,pl,es,Y,u⟩:=eR.open u;refine aE (aA oT (aB Aq u.hb rfl (pop (xE 3 (fB m x) (dP m x) (eI t x.e).1) (have u:=u.p1;bF Rn u (H':=λ_=>jl O m.room (sH m.room t.buf (⟨3,fB m x,dP m x,(eI t x.e).1⟩:bI))) (Φ:=λ_ _=>True) (λB E I=>?_) ?_))))
   .exact(C162 O m.room t.buf (⟨3,fB m x,dP m x,(eI t x.e).1⟩:bI) B _ E cK).mono λ_ _ r=>r.mono λ_ _ h=>⟨trivial,h.2⟩
   rintro _ _ _ u;refine pop (mL 3 (dP m x) (eI t x.e).1) (have u:=eR.shut (Φ:=λ_=>True) (t:=pZ m t (⟨3,fB m x,dP m x,(eI t x.e).1⟩:bI)) Y u.p4.p4.p4.p3.p4;aI (x:=(⟨3,0,dP m x,(eI t x.e).1,0⟩:cB)) u.p1 fj rfl rfl λw14' u=>?_);have u:=u.p4.p2.p4.p4.p4;rw[G];exact⟨J,u⟩
  refine aH (aC (λk5=>?_) λk5=>?_)
  .have G:(eb m t i x)=(m,pZ m t ⟨5,fB m x,0,0⟩,⟨4,0,fB m x,0,0⟩):=by unfold eb;rw[ej W,ej Z,ew k5]
   have J:¬ (x.kind=10/\m.eV.getD (fF m x).toNat 0≠i):=cK
   have u:=u.p3;obtain⟨O,nv,rg,pl,es,Y,u⟩:=eR.open u;refine aE (aA oT (aB Aq u.hb rfl (pop (vC 5 (fB m x)) (have u:=u.p1;bF Rn u (H':=λ_=>jl O m.room (sH m.room t.buf (⟨5,fB m x,0,0⟩:bI))) (Φ:=λ_ _=>True) (λB E I=>?_) ?_))))
   .exact(C162 O m.room t.buf (⟨5,fB m x,0,0⟩:bI) B _ E cK).mono λ_ _ r=>r.mono λ_ _ h=>⟨trivial,h.2⟩
   rintro _ _ _ u;refine pop (oD 4 (fB m x)) (have u:=eR.shut (Φ:=λ_=>True) (t:=pZ m t (⟨5,fB m x,0,0⟩:bI)) Y u.p4.p4.p4.p3.p4;aI (x:=(⟨4,0,fB m x,0,0⟩:cB)) u.p1 fj rfl rfl λw16' u=>?_);have u:=u.p4.p2.p4.p4.p4;rw[G];exact⟨J,u⟩
  refine aH (aC (λk6=>?_) λk6=>?_)
  .have G:(eb m t i x)=(m,pZ m t ⟨6,fB m x,0,0⟩,⟨5,0,fB m x,0,0⟩):=by unfold eb;rw[ej W,ej Z,ej k5,ew k6]
   have J:¬ (x.kind=10/\m.eV.getD (fF m x).toNat 0≠i):=cK
   have u:=u.p3;obtain⟨O,nv,rg,pl,es,Y,u⟩:=eR.open u;refine aE (aA oT (aB Aq u.hb rfl (pop (vC 6 (fB m x)) (have u:=u.p1;bF Rn u (H':=λ_=>jl O m.room (sH m.room t.buf (⟨6,fB m x,0,0⟩:bI))) (Φ:=λ_ _=>True) (λB E I=>?_) ?_))))
   .exact(C162 O m.room t.buf (⟨6,fB m x,0,0⟩:bI) B _ E cK).mono λ_ _ r=>r.mono λ_ _ h=>⟨trivial,h.2⟩
   rintro _ _ _ u;refine pop (oD 5 (fB m x)) (have u:=eR.shut (Φ:=λ_=>True) (t:=pZ m t (⟨6,fB m x,0,0⟩:bI)) Y u.p4.p4.p4.p3.p4;aI (x:=(⟨5,0,fB m x,0,0⟩:cB)) u.p1 fj rfl rfl λw18' u=>?_);have u:=u.p4.p2.p4.p4.p4;rw[G];exact⟨J,u⟩
  refine aH (aC (λk7=>?_) λk7=>?_)
  .have G:(eb m t i x)=(m,pZ m t ⟨7,0,0,0⟩,⟨6,0,0,0,0⟩):=by unfold eb;rw[ej W,ej Z,ej k5,ej k6,ew k7]
   have J:¬ (x.kind=10/\m.eV.getD (fF m x).toNat 0≠i):=cK
   have u:=u.p3;obtain⟨O,nv,rg,pl,es,Y,u⟩:=eR.open u;refine aE (aA oT (aB Aq u.hb rfl (pop (AB 7) (have u:=u.p1;bF Rn u (H':=λ_=>jl O m.room (sH m.room t.buf (⟨7,0,0,0⟩:bI))) (Φ:=λ_ _=>True) (λB E I=>?_) ?_))))
   .exact(C162 O m.room t.buf (⟨7,0,0,0⟩:bI) B _ E cK).mono λ_ _ r=>r.mono λ_ _ h=>⟨trivial,h.2⟩
   rintro _ _ _ u;refine pop (JI 6) (have u:=eR.shut (Φ:=λ_=>True) (t:=pZ m t (⟨7,0,0,0⟩:bI)) Y u.p4.p4.p4.p3.p4;aI (x:=(⟨6,0,0,0,0⟩:cB)) u.p1 fj rfl rfl λw20' u=>?_);have u:=u.p4.p2.p4.p4.p4;rw[G];exact⟨J,u⟩
  refine aH (aC (λk8=>?_) λk8=>?_)
  .have G:(eb m t i x)=(m,t,⟨7,0,0,0,0⟩):=by unfold eb;rw[ej W,ej Z,ej k5,ej k6,ej k7,ew k8]
   have J:¬ (x.kind=10/\m.eV.getD (fF m x).toNat 0≠i):=cK
   refine pop (JI 7) (aI (x:=(⟨7,0,0,0,0⟩:cB)) u fj rfl rfl λ_ u=>?_);have u:=u.p4.p4.p4.p4.p4;rw[G];exact⟨J,u⟩
  refine aH (aC (λk4=>?_) λk4=>?_)
  .have G:(eb m t i x)=(rJ m t x,pg t x.eF (jH m.mem (dP m x)),tL m t x):=by unfold eb;rw[ej W,ej Z,ej k5,ej k6,ej k7,ej k8,ew k4]
   have J:¬ (x.kind=10/\m.eV.getD (fF m x).toNat 0≠i):=cK
   refine aD eM u.p1.At (have u:=St.join u.p4.p4;bF aq1 u (H':=λ_=>sep (rG K e.b m.room (pg t x.eF (jH m.mem (dP m x)))) (m6 K p (rJ m t x) i.toNat e)) (Φ:=λv _=>v=ia (tL m t x)) (λB E I=>?_) ?_)
   .exact C163 K p m i.toNat e t x ⟨x.kind,x.eF,x.name,ge,gf,x.n,x.body,x.eu,x.at_⟩ B _ E (λw' hc=>V w' (I w' hc).aG) U iL.mem z9 (hx.rg cK) rp hxe hv1 hv2
   rintro _ _ rfl u;have u:=u.split;refine aI (x:=(tL m t x:cB)) u.p2 fj rfl rfl (λ_ u=>?_);have u:=u.p2.p2.p4.p4.p4;rw[G];exact⟨J,u⟩
  have aaQ:x.kind=9\/x.kind=10:=cK
  obtain⟨j,hj,B7,_⟩:=lX (dJ.1 (hx.lk aaQ));have D3:=(kp.1 B7).1;have hjk:fF m x=(j:Int):=hj;refine aH (aC (λk9=>?_) λk9=>?_)
  .have G:(eb m t i x)=(pE m x i,t,⟨10,0,fF m x,0,0⟩):=by unfold eb;rw[ej W,ej Z,ej k5,ej k6,ej k7,ej k8,ej k4,ew k9]
   have J:¬ (x.kind=10/\m.eV.getD (fF m x).toNat 0≠i):=cK
   have u:=u.p4;obtain⟨a,M,u⟩:=m6.open u;refine aE (aA vm (aB eg u.hb rfl (dR u.p2 cS (show 0<=fF m x by omega) (show fF m x<_ by omega) λ_ asj=>ju (i:Int) u.p2 bM asj cK λ_ u=>pop (oD 10 (fF m x)) (have u:=m6.shut (m:=pE m x i) (⟨⟨M.1.pr,M.1.cs,M.1.ks,M.1.mem,M.1.rc⟩,M.2⟩) u.p4.p4.p2.p4.p4;aI (x:=(⟨10,0,fF m x,0,0⟩:cB)) u.p1 fj rfl rfl λ_ u=>?_))));have u:=u.p1.p4.p4.p4.p4;rw[G];exact⟨J,u⟩
  have G:(eb m t i x)=(pE m x (-1),t,⟨11,0,fF m x,0,0⟩):=by unfold eb;rw[ej W,ej Z,ej k5,ej k6,ej k7,ej k8,ej k4,ej k9]
  have u:=u.p4;obtain⟨a,M,u⟩:=m6.open u;have YY:=u.p2.dX;obtain⟨ov,Zv⟩:=gx m.eV (i:=(fF m x).toNat) cK;have hgd:m.eV.getD (fF m x).toNat 0=ov:=by rw[og,Zv];rfl
  refine aE (aA vm (aB eg u.hb rfl (aQ cS YY (show 0<=fF m x by omega) Zv λq69 h69=>aD bM h69 (bV (aC (λc72=>?_) λc72=>?_)))))
  .have u:=u.p4;have u:=xF ((m6.shut (m:=m) M u.p4.p4.p4.p4).p4);rw[mY ht]at u;refine bF agX u (H':=λ_=>gp K p {m with fault:=3,jd:=i}) (Φ:=λv _=>v=ia (⟨16,i,3,0,0⟩:cB)) (λB E I=>?_) ?_
   .exact C158 K p m i 3 B _ E
   rintro _ _ rfl u;refine aI (x:=(⟨16,i,3,0,0⟩:cB)) u.p3 fj rfl rfl (λ_ u=>aD fj u.At ?_);have u:=u.drop.p1.drop.p1.drop;rw[NV,ew ⟨cK,by rw[hgd];exact c72⟩];exact⟨rfl,u.mut⟩
  refine aE (aA vm (aB eg u.hb rfl (dR u.p2 cS (show 0<=fF m x by omega) (show fF m x<_ by omega) λ_ ale=>ju (-1:Int) u.p2 bM ale cK λ_ u=>pop (oD 11 (fF m x)) (have u:=m6.shut (m:=pE m x (-1)) (⟨⟨M.1.pr,M.1.cs,M.1.ks,M.1.mem,M.1.rc⟩,M.2⟩) u.p4.p4.p2.p4.p4;aI (x:=(⟨11,0,fF m x,0,0⟩:cB)) u.p1 fj rfl rfl λ_ u=>?_))));have u:=u.p1.p4.p4.p4.p4;rw[G];exact⟨by rw[hgd];exactλh=>c72 h.2,u⟩
 rintro _ ⟨aaR,u⟩ _;have ay8:(eb m t i x).2.1.cG=(.cons x xa xb r,en)::p':=by rw[Cr];exact Bz
 have yI:=Cq (m:=m) (t:=t) (i:=i) (x:=x);have alf:sL (Uw (cT m.p) (cM m.p) t.names) (eb m t i x).2.1:=JW U iL.rm.2
 have aaS:ym (cT m.p) (cM m.p) { (eb m t i x).2.1 with cG:=gB (eb m t i x).2.1.cG}:=by
  show sL (Uw _ _ (eb m t i x).2.1.names) _;rw[vJ];exact JX alf
 refine aA RC (aT u bM (dL rfl) rfl λ_ u=>have u:=(u.enc (cs':=j0 ({ (eb m t i x).2.2 with t:=i}:cB)) rfl).p3;bF MV u (H':=λ_=>rG K e.b m.room { (eb m t i x).2.1 with cG:=gB (eb m t i x).2.1.cG}) (Φ:=λ_ _=>True) (λB E I=>?_) ?_)
 .exact(C164 K _ e.b m.room (eb m t i x).2.1 B x xa xb r en p' _ E (λw' hc=>V w' (I w' hc).aG) ay8 iV (by rw[Cr];omega)).mono λ_ _ r=>r.mono λ_ _ h=>⟨trivial,h.2⟩
 rintro _ _ _ u;refine bF agT u (H':=λ_=>rG K e.b m.room (ui m t i x)) (Φ:=λ_ _=>True) (λB E I=>?_) ?_
 .exact(C117 K e.b m.room { (eb m t i x).2.1 with cG:=gB (eb m t i x).2.1.cG} (ui m t i x) _ _ _ B _ E (λw' hc=>V w' (I w' hc).aG) aaS (qL aaS).1).mono λ_ _ r=>r.mono λ_ _ h=>⟨trivial,h.2⟩
 rintro _ _ _ u;refine aD (x:=({ (eb m t i x).2.2 with t:=i}:cB)) fj u.p1.At (aI (x:=({ (eb m t i x).2.2 with t:=i}:cB)) u.p3 fj rfl rfl λ_ u=>aD fj u.At ?_);have u:=u.drop.p1.drop.p1.drop.p1.p1;rw[<- yI]at u;have u:=xF u;rw[Z9]at u;rw[NV,ej aaR];exact⟨rfl,u.mut⟩
def C90(K:hM)(p:Nat)(m:gN)(q:aS)(gc:SV)(t:jY)(F:Nat->Prop)(w:World)(hF:(gp K p m).p w F)(hK:∀w',gv F w w'->K w')(Z:oK m)(rp:MB m.mem 1000000)(h0:0<=q.t)(ht:m.l[q.t.toNat]?=some t) :
   CR 90 [.pointer (some ⟨p,0,none⟩),ia (⟨q.kind,q.t,q.i,gc⟩:aJ)] w (λv w'=>v=ia (td q.t (dH t.buf q.i))/\mR F (gp K p (tf m t q)) w w'):=by
 have u:=St.begin hF;have Cl:=kE ht;have kC:=Z.th t Cl;have nP:=(kp.1 ht).1;have Hc:=kC.bl;refine oM Tryz.func90 (pl:=P90) ?_;refine cI (x:=(⟨q.kind,q.t,q.i,gc⟩:aJ)) u (λb3 _ u=>aM u mu λb4 _ u=>?_);have u:=(u.enc (cs':=j0 (⟨0,0,0,0,0⟩:cB)) rfl).p2;obtain⟨a,hu,u⟩:=gp.open u;have pH:=u.p4.iZ;obtain⟨e,M⟩:=gx a.ps (i:=q.t.toNat) cK;refine⟨λx5 w'=>∃I,x5=.pointer (some ⟨I,0,none⟩)/\St w F [bY I (j0 (dH t.buf q.i)),bY b4 (j0 (⟨0,0,0,0,0⟩:cB)),bY b3 (j0 (⟨q.kind,q.t,q.i,gc⟩:aJ)),rG K e.b m.room ({t with buf:=jU t.buf q.i}),m6 K p m q.t.toNat e] w',?_,?_⟩
 .have u:=u.drew;refine aE (aA vn (aB IS u.hb rfl (aA lE (aB (v:=hZ q.t) bM u.p6.hb rfl (dR u.p3 La h0 (by have:=pH;omega) λq14 Xc=>gM u.p3 G4 Xc M ?_)))));have u:=Zt u.p4 M ht;obtain⟨Y,nv,rg,pl,es,hk,u⟩:=eR.open u;refine aE (aA oT (aB Aq u.hb rfl (aA qg (aB (v:=hZ q.i) bM u.p11.hb rfl ⟨?_,?_,trivial⟩))))
  .have u:=u.p1;refine bF afz u (H':=λ_=>jl Y m.room (jU t.buf q.i)) (Φ:=λv _=>v=.tuple #[ia (dH t.buf q.i),hZ (xy t.buf q.i)]) (λG J O=>?_) ?_
   .exact C155 Y m.room t.buf q.i G _ J cK
   rintro _ _ rfl u;refine aO rfl (aO rfl (aM u rA λI _ u=>?_));refine⟨aF IS (u.p7.hb.cell rfl),?_⟩;refine⟨aF bM (u.p12.hb.cell (v:=hZ q.t) rfl),?_⟩;refine⟨RM u.p10 G4 Xc M,?_⟩;refine⟨aF Aq (u.p2.hb.cell rfl),?_⟩;refine⟨aF bM (u.p12.hb.cell (v:=hZ q.i) rfl),?_⟩;exact aI (x:=(dH t.buf q.i)) u iw rfl rfl (λ_ u=>have u:=eR.shut (Φ:=λ_=>True) (t:={t with buf:=jU t.buf q.i}) hk u.p5.p5.p5.p4.p5;have u:=m6.shut (m:=m) ⟨hu,M,pH,cK⟩ u.p2.p6.p6.p6.p6;have u:=u.p1.p4.p4.p4;⟨I,rfl,u⟩)
  refine aM u rA (λI _ u=>?_);refine⟨aF IS (u.p7.hb.cell rfl),?_⟩;refine⟨aF bM (u.p12.hb.cell (v:=hZ q.t) rfl),?_⟩;refine⟨RM u.p10 G4 Xc M,?_⟩;refine⟨aF Aq (u.p1.hb.cell rfl),?_⟩;refine⟨aF bM (u.p12.hb.cell (v:=hZ q.i) rfl),?_⟩;have u:=u.p2;refine bF afz u (H':=λ_=>jl Y m.room (jU t.buf q.i)) (Φ:=λv _=>v=.tuple #[ia (dH t.buf q.i),hZ (xy t.buf q.i)]) (λG J O=>?_) ?_
  .exact C155 Y m.room t.buf q.i G _ J cK
  rintro _ _ rfl u;exact aO rfl (aO rfl (aI (x:=(dH t.buf q.i)) u.p1 iw rfl rfl λ_ u=>have u:=eR.shut (Φ:=λ_=>True) (t:={t with buf:=jU t.buf q.i}) hk u.p5.p5.p5.p4.p5;have u:=m6.shut (m:=m) ⟨hu,M,pH,cK⟩ u.p2.p6.p6.p6.p6;have u:=u.p1.p4.p4.p4;⟨I,rfl,u⟩))
 rintro _ _ ⟨I,rfl,u⟩ _;refine aA gH (aB (v:=hZ (dH t.buf q.i).kind) bM u.hb rfl (aH (aC (λc=>?_) λc=>?_)))
 .have u:=u.p4;obtain⟨a,B,u⟩:=m6.open u;have u:=u.drew;refine aE (aA tu (aB KZ u.hb rfl (aA my (aB (v:=hZ (dH t.buf q.i).cell) bM u.p5.hb rfl (aA oW (aB (v:=hZ (dH t.buf q.i).n) bM u.p5.hb rfl (have u:=u.p1;bF afA u (H':=λ_=>iN a.q a.ov a.fv (fo m.mem (dH t.buf q.i).cell (dH t.buf q.i).n)) (Φ:=λ_ _=>True) (λG J O=>?_) ?_)))))))
  .exact(C156 a.q a.ov a.fv m.mem G _ _ _ J (λw' hc=>B.1.mem _ (hK w' (O w' hc).aG)) Z.mem rp).mono λ_ _ r=>r.mono λ_ _ h=>⟨trivial,h.2⟩
  rintro _ _ _ u;refine aA lE (aB (v:=hZ q.t) bM u.p7.hb rfl (aA my (aB (v:=hZ (dH t.buf q.i).cell) bM u.p5.hb rfl (aA oW (aB (v:=hZ (dH t.buf q.i).n) bM u.p5.hb rfl (pop (yY 12 q.t (dH t.buf q.i).cell (dH t.buf q.i).n) (aI (x:=(⟨12,q.t,(dH t.buf q.i).cell,(dH t.buf q.i).n,0⟩:cB)) u.p6 fj rfl rfl λ_ u=>aD fj u.At ?_)))))));have U:jV m.mem (dH t.buf q.i)=fo m.mem (dH t.buf q.i).cell (dH t.buf q.i).n:=by unfold jV;rw[ew c]
  have E:td q.t (dH t.buf q.i)=⟨12,q.t,(dH t.buf q.i).cell,(dH t.buf q.i).n,0⟩:=by unfold td;rw[ew c]
  have u:=m6.shut (m:={m with mem:=fo m.mem (dH t.buf q.i).cell (dH t.buf q.i).n}) ⟨⟨B.1.pr,B.1.cs,B.1.ks,λw hw=>(B.1.mem w hw).write,B.1.rc⟩,B.2⟩ u.drop.p6.drop.p5.drop.p4.p4.p4.p3.p4;have u:=xF (m:={m with mem:=fo m.mem (dH t.buf q.i).cell (dH t.buf q.i).n}) (tp:=e) (t:={t with buf:=jU t.buf q.i}) u.p1;have V:tf m t q={ {m with mem:=fo m.mem (dH t.buf q.i).cell (dH t.buf q.i).n}with l:=m.l.set q.t.toNat ({t with buf:=jU t.buf q.i})}:=by unfold tf;rw[U]
  rw[V,E];exact⟨rfl,u.mut⟩
 refine aH (aC (λW=>?_) λW=>?_)
 .refine aA lE (aB (v:=hZ q.t) bM u.p2.hb rfl (pop (HL 14 q.t) (aI (x:=(⟨14,q.t,0,0,0⟩:cB)) u.p1 fj rfl rfl λ_ u=>aD fj u.At ?_)));have u:=u.p4;obtain⟨a,B,u⟩:=m6.open u;have U:jV m.mem (dH t.buf q.i)=m.mem:=by unfold jV;rw[ej c,ew W]
  have E:td q.t (dH t.buf q.i)=⟨14,q.t,0,0,0⟩:=by unfold td;rw[ej c,ew W]
  have u:=m6.shut (m:={m with mem:=m.mem}) B u.p5.drop.p6.drop.p5.drop.p4.p4.p4.p4.p4;have u:=xF (m:={m with mem:=m.mem}) (tp:=e) (t:={t with buf:=jU t.buf q.i}) u.p1;have V:tf m t q={ {m with mem:=m.mem}with l:=m.l.set q.t.toNat ({t with buf:=jU t.buf q.i})}:=by unfold tf;rw[U]
  rw[V,E];exact⟨rfl,u.mut⟩
 have u:=u.p4;obtain⟨a,B,u⟩:=m6.open u;have u:=u.drew;refine aE (aA tu (aB KZ u.hb rfl (aA g8 (aB (v:=hZ (dH t.buf q.i).line) bM u.p5.hb rfl (have u:=u.p1;bF amV u (H':=λ_=>iN a.q a.ov a.fv (n7 m.mem (dH t.buf q.i).line)) (Φ:=λ_ _=>True) (λG J O=>?_) ?_)))))
 .exact(C157 a.q a.ov a.fv m.mem G _ _ J (λw' hc=>B.1.mem _ (hK w' (O w' hc).aG)) Z.mem rp).mono λ_ _ r=>r.mono λ_ _ h=>⟨trivial,h.2⟩
 rintro _ _ _ u;refine aA lE (aB (v:=hZ q.t) bM u.p7.hb rfl (aA g8 (aB (v:=hZ (dH t.buf q.i).line) bM u.p5.hb rfl (pop (tK 13 q.t (dH t.buf q.i).line) (aI (x:=(⟨13,q.t,(dH t.buf q.i).line,0,0⟩:cB)) u.p6 fj rfl rfl λ_ u=>aD fj u.At ?_)))));have U:jV m.mem (dH t.buf q.i)=n7 m.mem (dH t.buf q.i).line:=by unfold jV;rw[ej c,ej W]
 have E:td q.t (dH t.buf q.i)=⟨13,q.t,(dH t.buf q.i).line,0,0⟩:=by unfold td;rw[ej c,ej W]
 have u:=m6.shut (m:={m with mem:=n7 m.mem (dH t.buf q.i).line}) ⟨⟨B.1.pr,B.1.cs,B.1.ks,λw hw=>(B.1.mem w hw).out,B.1.rc⟩,B.2⟩ u.drop.p6.drop.p5.drop.p4.p4.p4.p3.p4;have u:=xF (m:={m with mem:=n7 m.mem (dH t.buf q.i).line}) (tp:=e) (t:={t with buf:=jU t.buf q.i}) u.p1;have V:tf m t q={ {m with mem:=n7 m.mem (dH t.buf q.i).line}with l:=m.l.set q.t.toNat ({t with buf:=jU t.buf q.i})}:=by unfold tf;rw[U]
 rw[V,E];exact⟨rfl,u.mut⟩
def C56(K:hM)(p:Nat)(m:gN)(qS:List cN)(lv:Value)(O:List cH)(F:Nat->Prop)(w:World)(hF:(gp K p m).p w F)(V:∀w',gv F w w'->K w')(hrm:1<=m.room/\m.room<=16)(hlk:(cM m.p).length<=1000)(hl:∀w',gv F w w'->dC (λ_=>True) w' lv O)(U:C9 K O qS)
   (kC:∀t∈qS,ym (cT m.p) (cM m.p) (wq t)/\t.body=(HN t.body).flat) (hn:qS.length<=1000) :
   CR 56 [.pointer (some ⟨p,0,none⟩),lv] w (λv w'=>v=.tuple #[]/\mR F (gp K p (qU m qS)) w w'):=by
 have u:=St.begin hF;have N9:=U.1;refine oM Tryz.func56 (pl:=P56) ?_;obtain⟨a,I,u⟩:=gp.open u;have pH:=u.p4.iZ;refine aE (aA vn (aT u IS (dL rfl) rfl λ_ u=>aE (aA vm (aT u eg (dL rfl) rfl λ_ u=>aE (aA IU (aB jk u.hb rfl (aK iC (I.ks _ (V _ u.aG)) ?_)))))));have u:=(((u.p2.drop.p2.drop.p2.drop.eL (α:=Int)).p2).p1).p2;refine⟨λJ x w'=>∃(k:Nat) (ov:Value),x=hZ (k:Int)/\J=(cM m.p).length-k/\k<=(cM m.p).length/\St w F [bY p (qT {a with ow:=ov,ll:=.slice none 0 0} m),bH ov (r6 k (-1:Int)),iN a.q a.ov a.fv m.mem] w',⟨_,0,_,rfl,rfl,l1 _,u⟩,?_⟩
 rintro J _ _ ⟨k,ov,rfl,rfl,Rh,u⟩ _;refine aR (aC (λc=>?_) λc=>?_)
 .refine aE (aA vm (aB eg u.hb rfl (bD ([-1]:List Int) u cS rfl rfl (dL rfl) λs27 _ u=>?_)));have alh:=u.dX;exact bJ u.p2 cS alh (by rw[BO,mv];omega) ee (λs28 _ u=>have u:=u.p1.drop;aE (aA vm (aT u.p1 eg (dL rfl) u.dX.one λ_ u=>aN cK ⟨_,cK,k+1,s28,rfl,rfl,cK,by rw[Us];exact u⟩)))
 refine aK fy (hl _ u.aG) ?_;rw[show k=(cM m.p).length from cK]at u;have u:=((((((u.AH (H:=yB K m.room)).eL (α:=Ptr)).p4).p4).p3).p3).p4;refine⟨λJ x w'=>∃(j:Nat) (B:Value) (ps:List Ptr),x=hZ (j:Int)/\J=O.length-j/\j<=O.length/\St w F [bY p (qT {a with ow:=ov,ll:=B} m),bH B ps,g9 (yB K m.room) ps ((qS.take j).map UA),bH ov (r6 (cM m.p).length (-1:Int)),iN a.q a.ov a.fv m.mem] w',⟨_,0,_,_,rfl,rfl,l1 _,u⟩,?_⟩;rintro J _ _ ⟨j,B,ps,rfl,rfl,hj1,u⟩ _;refine aR (aC (λc2=>?_) λc2=>?_);rotate_left
 .rw[kO cK]at u;have u:=u.p2.p2.p3.p4.p4;exact⟨rfl,(gp.shut (m:=qU m qS) (a:={a with ow:=ov,ll:=B,ps:=ps}) ⟨I.pr,I.cs,I.ks,I.mem,I.rc⟩ u).mut⟩
 obtain⟨tv,QV⟩:=gx O (i:=((j:Nat):Int).toNat) cK;obtain⟨t,ht⟩:=gx qS (i:=j) cK;obtain⟨E,gb,rows,rfl,M,hgb⟩:=U.2 j _ _ QV ht;obtain⟨Z,hbk⟩:=kC t (kE ht);have Gw:t.dQ.length<=1000:=Z.nb;refine aQ fy (hl _ u.aG) cK QV (λq36 h36=>aD m7 h36 (aM u tC λb5 _ u=>aI (x:=(⟨t.name,E,gb,t.at_⟩:cH)) u m7 rfl rfl λ_ u=>aE (aA ack (aB bM u.p1.hb rfl (dO amE (C49 m.room _) ?_)))));rintro v43 _ hh;obtain⟨_,_,b43,rfl,cL⟩:=hh.resolve_left (λ_=>cK);have u:=u.made cL;refine aO rfl (aO rfl (have u:=u.drew;aA fS (aB (v:=ia E) jk u.p1.hb rfl (aA fS (aB (v:=ia E) jk u.p1.hb rfl (aK iC (M _ (V _ u.aG)) (wL (0:Int) u cS uA cK cK ee λs52 _ u=>?_)))))))
 rw[qa]at u;refine⟨aF jk (u.p2.hb.cell (v:=ia E) rfl),?_⟩;obtain⟨F7,rfl⟩:=u.fJ;refine pop (JK (some ⟨b43,0,none⟩) E.a E.n E.cap F7.a F7.n F7.cap) (ny u λG _ u=>have u:=(u.eL (α:=xC)).fu (Φ:=λw=>DH K w [] []/\True) (λ_=>⟨trivial,trivial⟩);have u:=eR.shut (Φ:=λ_=>True) (t:=(⟨t.dQ,r6 t.dQ.length 0,[],0,[]⟩:jY)) (es:=[]) M u.p1.p3.p4.p4;aA lK (aB (v:=ia gb) jP u.p1.hb rfl (bF MU u (H':=λ_=>rG K G m.room (wq t)) (Φ:=λ_ _=>True) (λW ef Y=>?_) ?_)))
 .exact(C116 K _ G m.room ⟨t.dQ,r6 t.dQ.length 0,[],0,[]⟩ W gb rows (HN t.body) false _ ef (λw' hc=>V w' (Y w' hc).aG) (λw _=>by rw[<- hbk];exact hgb w) (show(0:Nat)<=100000 by decide)).mono λ_ _ r=>r.mono λ_ _ h=>⟨trivial,h.2⟩
 rintro _ _ _ u;refine bF agT u (H':=λ_=>rG K G m.room (UA t)) (Φ:=λ_ _=>True) (λW ef Y=>?_) ?_
 .exact(C117 K G m.room (wq t) (UA t) _ _ _ W _ ef (λw' hc=>V w' (Y w' hc).aG) Z (qL Z).1).mono λ_ _ r=>r.mono λ_ _ h=>⟨trivial,h.2⟩
 rintro _ _ _ u;refine aE (aA vn ?_);have oG:=u.p4.iZ;rw[n0,l0]at oG;refine aB IS u.p2.hb rfl (bD ([(⟨G⟩:Ptr)]) u La rfl rfl (dL rfl) λs67 _ u=>?_);have aaU:=u.dX;exact bJ u.p4 La aaU (by simp;omega) ee (λs68 _ u=>have u:=u.p1.drop;aE (aA vn (aT u.p3 IS (dL rfl) u.dX.one λ_ u=>have u:=(((St.Ep (H:=yB K m.room) (p:=⟨G⟩) (x:=UA t) u.p3.drop.p2.p3).p4).p4).p2;have u:=u.p4.p4;aN cK ⟨_,cK,j+1,s68,ps++[⟨G⟩],rfl,rfl,cK,by rw[<- gd (k:=j) ht];exact u⟩)))
def ThK.mono{K K2:hM}{E:cH}{t:cN}(h:ThK K E t)(B:∀w,K2 w->K w):ThK K2 E t:=by
 obtain⟨G,I,rows,e,h1,h2⟩:=h
 exact⟨G,I,rows,e,λw u=>h1 w (B w u),λw=>⟨λw' u=>(h2 w).1 w' (B w' u),λu=>(h2 w).2 (B w u)⟩⟩
def C9.mono{K K2:hM}{u:List cH}{qS:List cN}(h:C9 K u qS)(E:∀w,K2 w->K w):C9 K2 u qS:=⟨h.1,λj B t h1 h2=>(h.2 j B t h1 h2).mono E⟩
def DW{p:cE}(hc:GC p){t:cN}(ht:t∈gm p):t.body=(HN t.body).flat:=by
 obtain⟨_,h2,_⟩:=hc.f.qS ht
 obtain⟨_,_,b,h5,h6,_⟩:=lx h2
 rw[h5,NG h6]
def Bw(K:hM)(lv:SV)(qS:List cN):Prop:=∃u,(∀w,K w->dC (λ_=>True) w (ia lv) u)/\C9 K u qS
structure Io(K:hM)(pv:bP)(p:cE):Prop where
 pr:∀w,K w->mh w pv p
 th:Bw K pv.threads p.threads
 rc:Bw K pv.recover p.recover
def crD(m:gN)(q:aS):gN:=match iT m q with|some u=>{m with mem:=mJ m.mem u}|none=>m
def DX(m:Mem)(cut:List Int)(v:Value)(B:Mem):Prop:=(fD m cut=none/\B=m/\v=hZ 1)\/∃u,fD m cut=some u/\B=mJ m u/\v=hZ 0
def QW{m:Mem}{cut:List Int}{v:Value}{p:Nat}{ov fv:Value}{F:Nat->Prop}{w w':World}
  (h:(fD m cut=none/\v=hZ 1/\mR F (iN p ov fv m) w w')\/∃u,fD m cut=some u/\v=hZ 0/\mR F (iN p ov fv (mJ m u)) w w') :
  True/\mR F (pK λE=>fact (DX m cut v E) (iN p ov fv E)) w w':=by
 refine⟨trivial,?_⟩
 rcases h with⟨h1,h2,B,h3,h4,h5⟩|⟨u,h1,h2,B,h3,h4,h5⟩
 .exact⟨B,⟨m,.inl ⟨h1,rfl,h2⟩,h3⟩,h4,h5⟩
 exact⟨B,⟨mJ m u,.inr ⟨u,h1,rfl,h2⟩,h3⟩,h4,h5⟩
theorem ahh(K:hM):C9 K [(⟨⟨#[]⟩,bX,bX,0⟩:cH)] [⟨⟨#[]⟩,[],[],0⟩]:=by
 refine⟨rfl,λj u t h1 h2=>?_⟩
 cases j with
 | zero=>
  cases h1;cases h2
  exact⟨bX,bX,[],rfl,λw _=>dC.nil _ w,λw=>⟨λ_ _=>iq.nil,λ_=>dC.nil _ w⟩⟩
 | succ j=>simp at h1
def aza:PL 89:=dK Tryz.func89
def C12(K:hM)(p:cE)(pv:bP)(room:Int)(w:World)(J:∀w',Ext w w'->K w')(I:Io K pv p)(O:PZ p):CR 12 [ia pv,hZ room] w (λv w'=>(fm p≠0/\v=.tuple #[.pointer none,hZ (fm p)]/\Ext w w')\/(fm p=0/\(room<1\/16<room)/\v=.tuple #[.pointer none,hZ 1]/\Ext w w')\/
  (fm p=0/\(1<=room/\room<=16)/\∃(b:Nat) (X:hM),v=.tuple #[.pointer (some ⟨b,0,none⟩),hZ 0]/\lh (sep (gp (λw=>K w/\X w) b (gY p room)) (eD X)) w w')):=by
 have u:=St.start w;refine ajC _ _ _ _ ?_;unfold S12;refine cI (x:=pv) u (λbp w1 u=>aD er u.At (dO axh (C48 p pv _ (I.pr _ (J _ u.aG)) O) ?_));rintro _ _ ⟨aa,rfl,W⟩;have u:=u.ext W;refine aO rfl (aO rfl (bV (aC (λc=>?_) λc=>?_)))
 .exact .inl ⟨c,rfl,u.drop.aG⟩
 have zP:fm p=0:=cK
 have Z:=vK zP;have MM:=aad Z;have EZ:=Bo p;refine dO amE (C49 room _) ?_;rintro v3 _ hh
 rcases hh with⟨hrb,rfl,W⟩|⟨z6,Dl,b3,rfl,V⟩
 .have u:=u.ext W;exact aO rfl (aO rfl (bV (j8 ee (.inr (.inl ⟨zP,hrb,rfl,u.drop.aG⟩)))))
 have u:=(u.made V).drop;refine aO rfl (aO rfl (bV (fx ee (have u:=u.drew;aD er u.At (aD er u.At (aD er u.At (dY awT u (C50 p pv _ (I.pr _ (J _ u.aG)) O) λx31 _ V u=>?_)))))));refine⟨eN er u.p1.At,?_⟩;refine⟨eN er u.p1.At,?_⟩;refine dY awU u (C51 p pv _ (I.pr _ (J _ u.aG)) O) (λx33 _ V u=>?_);refine⟨eN er u.p2.At,?_⟩;obtain⟨E,rfl⟩:=u.fJ;obtain⟨G,rfl⟩:=u.p1.fJ;refine pop (Gx _ _ _ _ _ _ _ _ _ _ _ _ _ _ _ _ _ _ _ _ _ _ _ _ _) (ny u λB w6 u=>aE (aA IT (aB jk u.hb rfl (aK iC u.p2.dX ?_))))
 have u:=u.eL (α:=Int);have Vs:St w aZ [bH (.slice none 0 0) ([]:List Int),bY B (qT ⟨pv,G,E,0,.slice none 0 0,.slice none 0 0,.slice none 0 0,.slice none 0 0,[]⟩ (xH p room) |>.set 9 (.pointer none)),bH (ia E) (cM p),bH (ia G) (cT p),bY bp (j0 pv)] w6:=u;refine⟨λmm o y w1=>∃k:Nat,y=hZ (k:Int)/\mm=(cT p).length-k/\k<=(cT p).length/\St w aZ [bH o ((Be p).take k),bY B (qT ⟨pv,G,E,0,.slice none 0 0,.slice none 0 0,.slice none 0 0,.slice none 0 0,[]⟩ (xH p room) |>.set 9 (.pointer none)),bH (ia E) (cM p),bH (ia G) (cT p),bY bp (j0 pv)] w1,⟨_,0,rfl,rfl,l1 _,Vs⟩,?_⟩
 rintro mm o _ _ ⟨k,rfl,rfl,hk,u⟩ _;have Kk:(Be p).length=(cT p).length:=by unfold Be;rw[n0,RV]
 refine aR (aC (λc1=>?_) λc1=>?_)
 .refine aD er u.p4.At (aV aqa u (C52 p pv (k:Int) _ (I.pr _ (J _ u.aG)) O) λ_ W u=>bD ([pC p (k:Int)]:List Int) u cS rfl rfl (dL rfl) λs49 _ u=>?_);have ali:=u.dX;exact bJ u.p1 cS ali (by rw[l0,mv];omega) ee (λ_ _ u=>aN cK ⟨_,cK,k+1,rfl,rfl,cK,by rw[<- gJ (J1 (p:=p) (i:=k) cK)];exact u.p1.drop⟩)
 rw[kO cK]at u;have u:=u.drew;refine aD er u.p4.At (aD er u.p4.At (aV Yv u (C54 p pv _ (I.pr _ (J _ u.aG)) O) λ_ W u=>?_));refine⟨eN er u.p4.At,?_⟩;refine dY awV u (C55 p pv _ (I.pr _ (J _ u.aG)) O) (λx58 _ V u=>?_);have iV:=qN p;have tX:(eW p).length=(iu p).length:=by unfold eW;rw[n0]
 refine dO axR (C53 (Be p) (eW p) (ey p) _ _ _ u.p1.dX u.dX cK cK cK λk n h1 h2=>?_) ?_
 .have h3:=QL Z h1 h2;have h4:=(kp.1 h2).1;exact⟨h3.1,cK,cK⟩
 rintro v59 _ ⟨q,ov,fv,rfl,V⟩;have u:=((u.made V).split).p1.split;refine aO rfl (aO rfl (aE (aA tu (aT u.p5 KZ (dL rfl) rfl λM u=>aA kG (aB (v:=ia pv.threads) iB u.p8.hb rfl ?_)))));have u:=u.p8.drop.p5.drop.p4.drop.p3.freeze.p2.freeze.gR.p3.freeze.gR.p3.freeze.gR;obtain⟨U,u,Y⟩:=u.HG;have u:=u.AH (H:=yB (λw=>K w/\nO U M w) room);have u:=(u.eL (α:=Ptr)).eL (α:=Int)
 have u:St w aZ (bY B (qT ⟨pv,G,E,q,ia ov,ia fv,.slice none 0 0,.slice none 0 0,[]⟩ (xH p room))::iN q (ia ov) (ia fv) (JC (Be p) (ey p) (eW p))::bH (.slice none 0 0) ([]:List Int)::bH (.slice none 0 0) ([]:List Ptr)::g9 (yB (λw=>K w/\nO U M w) room) [] []::eD (nO U M)::[]) M:=by
  have h1:=u.p5.p5;exact h1
 obtain⟨vD,ht1,ht2⟩:=I.th;obtain⟨VJ,Nl,Vi⟩:=I.rc;have u:=gp.shut (K:=(λw=>K w/\nO U M w)) (m:=xH p room) ⟨λw' h=>I.pr w' h.1,λw' h=>?_,λw' h=>?_,λw' h=>⟨?_,?_⟩,⟨VJ,λw' h=>Nl w' h.1,Vi.mono λ_ h=>h.1⟩⟩ u;rotate_left
 .have:=Y w' h.2;first|exact this.1|exact this.2|exact this.2.1|exact this.2.2|exact this.2.2.1|exact this.2.2.2
 .have:=Y w' h.2;first|exact this.1|exact this.2|exact this.2.1|exact this.2.2|exact this.2.2.1|exact this.2.2.2
 .have:=Y w' h.2;first|exact this.1|exact this.2|exact this.2.1|exact this.2.2|exact this.2.2.1|exact this.2.2.2
 .have:=Y w' h.2;first|exact this.1|exact this.2|exact this.2.1|exact this.2.2|exact this.2.2.1|exact this.2.2.2
 refine bF aq2 u (H':=λ_=>gp (λw=>K w/\nO U M w) B (gY p room)) (Φ:=λ_ _=>True) (λF2 ef dW=>?_) ?_
 .exact(C56 (λw=>K w/\nO U M w) B (xH p room) p.threads _ vD F2 _ ef (λw' hc=>⟨J _ (dW w' hc).aG,(dW w' hc).eD⟩) ⟨z6,Dl⟩ (by have:=O.eJ;show(cM p).length<=_;unfold cM;rw[n0];omega) (λw' hc=>ht1 w' (J _ (dW w' hc).aG)) (ht2.mono λ_ h=>h.1)
   (λ_ ht=>⟨DP Z (List.mem_append_left _ ht),DW Z (List.mem_append_left _ ht)⟩) (by have:=O.threads;omega)).mono λ_ _ r=>r.mono λ_ _ h=>⟨trivial,h.2⟩
 rintro _ _ _ u;exact .inr (.inr ⟨zP,⟨z6,Dl⟩,B,nO U M,rfl,(St.join u).fresh⟩)
theorem C24(K:hM)(p:Nat)(m:gN)(q:aS)(E:SV)(F:Nat->Prop)(w:World)(hF:(gp K p m).p w F)(Z:∀w',gv F w w'->K w')(W:oK m)(zX:GC m.p)(rp:MB m.mem 1000000)(hcb:0<=m.bZ/\m.bZ<=1000000)(NY:∀w',gv F w w'->dC (λ_=>True) w' (ia E) q.cut)(hql:q.cut.length<=1000) :
   CR 24 [.pointer (some ⟨p,0,none⟩),ia (⟨q.kind,q.t,q.i,E⟩:aJ)] w (λv w'=>v=.tuple #[ia (n8 m q).2.1,hZ (n8 m q).2.2]/\mR F (gp K p (n8 m q).1) w w'):=by
 have u:=St.begin hF;refine oM Tryz.func24 (pl:=P24) ?_;refine cI (x:=(⟨q.kind,q.t,q.i,E⟩:aJ)) u (λb3 w1 u=>aM u mu λb4 _ u=>?_);have u:=u.enc (cs':=j0 (⟨0,0,0,0,0⟩:cB)) rfl;refine⟨λjv w'=>jv=.bool (iT m q).isSome/\St w F [gp K p (crD m q),bY b4 (j0 (⟨0,0,0,0,0⟩:cB)),bY b3 (j0 (⟨q.kind,q.t,q.i,E⟩:aJ))] w',?_,?_⟩
 .have u:=u.drew
  have eG:∀w',iT m q=none->St w F [gp K p m,bY b4 (j0 (⟨0,0,0,0,0⟩:cB)),bY b3 (j0 (⟨q.kind,q.t,q.i,E⟩:aJ))] w'->(Value.bool false=.bool (iT m q).isSome/\St w F [gp K p (crD m q),bY b4 (j0 (⟨0,0,0,0,0⟩:cB)),bY b3 (j0 (⟨q.kind,q.t,q.i,E⟩:aJ))] w'):=λw' h1 h2=>by
   have e:crD m q=m:=by unfold crD;rw[h1]
   rw[h1,e];exact⟨rfl,h2⟩
  have VD:iT m q=(if q.kind=3/\q.t=0/\q.i=0/\m.fault=0 then fD m.mem q.cut else none):=rfl;refine aA mW (aB (v:=hZ q.kind) bM u.p1.hb rfl (aH (aC (λc1=>?_) λ_=>eG _ (by rw[VD,ej cK]) u.p2)));refine aA lE (aB (v:=hZ q.t) bM u.p1.hb rfl (aH (aC (λV=>?_) λ_=>eG _ (by rw[VD,ej cK]) u.p2)));refine aA qg (aB (v:=hZ q.i) bM u.p1.hb rfl (aH (aC (λc3=>?_) λ_=>eG _ (by rw[VD,ej cK]) u.p2)));have u:=u.p2;obtain⟨a,B,u⟩:=gp.open u;have pH:=u.p4.iZ;refine aE (aA ya (aB bM u.hb rfl (aH (aC (λc4=>?_) λ_=>eG _ (by rw[VD,ej cK]) (gp.shut B u)))))
  have hpi:iT m q=fD m.mem q.cut:=by rw[VD,ew ⟨c1,V,c3,c4⟩]
  refine aE (aA tu (aB KZ u.hb rfl (aA ma (aB (v:=ia (E:SV)) eg u.p6.hb rfl (have u:=u.p1;bF auu u (H':=λv=>pK λm2=>fact (DX m.mem q.cut v m2) (iN a.q a.ov a.fv m2)) (Φ:=λ_ _=>True) (λO Y G=>?_) ?_)))))
  .exact(C86 a.q a.ov a.fv m.mem O q.cut _ _ Y (λw' hc=>B.mem _ (Z w' (G w' hc).aG)) W.mem rp (λw' hc=>NY w' (G w' hc).aG) hql).mono λ_ _ r=>r.mono λ_ _ h=>QW h
  rintro v34 _ _ xw;obtain⟨m2c,y9⟩:=xw.eh
  clear xw
  obtain⟨hcf,DN⟩:=y9.mz
  clear y9
  rcases hcf with⟨U,rfl,rfl⟩|⟨I,U,rfl,rfl⟩
  .have u:=DN;exact aH (have u:=u.p4.p4.p4.p3.p4;eG _ (hpi.trans U) (gp.shut B u))
  have u:=DN;refine aH ?_;have M:=hpi.trans U;have e:crD m q={m with mem:=mJ m.mem I}:=by unfold crD;rw[M]
  rw[M,e];have u:=u.p4.p4.p4.p3.p4;exact⟨rfl,gp.shut (m:={m with mem:=mJ m.mem I}) ⟨B.pr,B.cs,B.ks,B.mem,B.rc⟩ u⟩
 rintro _ _ ⟨rfl,u⟩ _;refine aY (λc=>?_) (λc=>?_)
 .obtain⟨I,M⟩:=MY.1 c;have e:crD m q={m with mem:=mJ m.mem I}:=by unfold crD;rw[M]
  have J:n8 m q=(qU (pj m I) (u5 m),⟨15,0,0,qI q.cut q.cut.length,0⟩,0):=by unfold n8;rw[M]
  rw[e]at u;rw[J];obtain⟨a,B,u⟩:=gp.open u;have pH:=u.p4.iZ;refine aE (aA IV (aB bM u.hb rfl (aN (show -9223372036854775808<=m.bZ+1/\m.bZ+1<=9223372036854775807 by omega) (aE (aA IV (aT u bM (dL rfl) rfl λ_ u=>?_))))));obtain⟨VJ,Nl,Vi⟩:=id B.rc;have Gw:=Vi.1;refine aE (aA Dp (aA oQ (aB iB u.hb rfl ?_)));have u:=(gp.shut (m:=pj m I) ⟨B.pr,B.cs,B.ks,B.mem,B.rc⟩ u.p4.p4.p4.p4.p4).p2;have u:=u.p2.p2;refine⟨λjv w'=>∃vD,C9 K vD (u5 m)/\St w F [eD (λw=>K w->dC (λ_=>True) w jv vD),gp K p (pj m I),bY b4 (j0 (⟨0,0,0,0,0⟩:cB)),bY b3 (j0 (⟨q.kind,q.t,q.i,E⟩:aJ))] w',?_,?_⟩
  .refine aK fy (Nl _ (Z _ u.aG)) (aH (aC (λV=>?_) λV=>?_))
   .refine pop (v:=ia (⟨⟨#[]⟩,bX,bX,0⟩:cH)) (by kernel_rfl) (bD ([⟨⟨#[]⟩,bX,bX,0⟩]:List cH) u fy rfl rfl (dL rfl) λs54 _ u=>?_);refine⟨_,?_,u.freeze.dN (Ψ:=λw=>K w->dC (λ_=>True) w s54 [(⟨⟨#[]⟩,bX,bX,0⟩:cH)]) λ_ h _=>h⟩;have Vq:u5 m=[⟨⟨#[]⟩,[],[],0⟩]:=by unfold u5;rw[ew (by have:VJ.length=m.p.recover.length:=Gw;omega)]
    rw[Vq];exact ahh K
   have Vq:u5 m=m.p.recover:=by unfold u5;rw[ej (by have:VJ.length=m.p.recover.length:=Gw;omega)]
   exact⟨VJ,by rw[Vq];exact Vi,u.fu λw h=>Nl w h⟩
  rintro rv _ ⟨vD,htv,u⟩ _;obtain⟨azc,alj⟩:=JZ zX;refine bF aq2 u.p1 (H':=λ_=>gp K p (qU (pj m I) (u5 m))) (Φ:=λ_ _=>True) (λO Y G=>?_) ?_
  .refine(C56 K p (pj m I) (u5 m) _ vD O _ Y (λw' hc=>Z w' (G w' hc).aG) W.rm (by have:=W.pz.eJ;show(cM m.p).length<=_;unfold cM;rw[n0];omega) (λw' hc=>(G w' hc).eD (Z w' (G w' hc).aG)) htv (λt ht=>⟨alj t ht,?_⟩) cK).mono λ_ _ r=>r.mono λ_ _ h=>⟨trivial,h.2⟩;unfold u5 at ht
   split at ht
   .rw[vx.1 ht];rfl
   exact DW zX (List.mem_append_right _ ht)
  rintro _ _ _ u;exact aA ma (aB (v:=ia (E:SV)) eg u.p3.hb rfl (aV axO u (C87 _ q.cut _ (NY _ u.aG) cK) λ_ _ u=>pop (HM 15 (qI q.cut q.cut.length)) (aI (x:=(⟨15,0,0,qI q.cut q.cut.length,0⟩:cB)) u.p2 fj rfl rfl λ_ u=>aD fj u.At ⟨rfl,u.p3.drop.drop.p1.drop.mut⟩)))
 have M:iT m q=none:=by
  cases h:iT m q with
  | none=>rfl
  | some I=>rw[h]at c;cases c
 have e:crD m q=m:=by unfold crD;rw[M]
 have J:n8 m q=(if (gU m).any (nd q)=true then(if q.kind=2 then(match m.l[q.t.toNat]? with|some t=>((tf m t q,td q.t (dH t.buf q.i),0):gN×cB×Int)|none=>(m,⟨0,0,0,0,0⟩,13))else((iy m q.t).1,(iy m q.t).2,0))else(m,⟨0,0,0,0,0⟩,13)):=by unfold n8;rw[M];rfl
 rw[e]at u;refine dY aqZ u (C67 K p m _ u.has (λ_ e=>Z _ (u.aG.then e)) W) (λx64 _ cL u=>?_);have VA:=u.p3.At
 have hfn:tG hH _ (.func (.func 88) [].toArray [.pointer (some ⟨b3,0,none⟩)].toArray) (λ_:aS=>True) (nd q):=
  ⟨88,[],_,rfl,axM,λsx y w1 e1 VH _=>C88 y q sx b3 (⟨q.kind,q.t,q.i,E⟩:aJ) w1 VH (VA.ext e1) ⟨E,rfl,DL.j1 (NY _ (u.aG.then e1))⟩⟩
 refine aV aza u (C89 _ _ _ (λ_=>True) _ _ u.dl hfn (λ_ _=>trivial) (by have:=FC W;omega)) (λ_ he u=>have u:=u.drop;bR (aY (λV=>?_) λV=>?_))
 .rw[J,ej (by simpa using V)];exact pop JH (aI (x:=(⟨0,0,0,0,0⟩:cB)) u.p1 fj rfl rfl λ_ u=>aD fj u.At ⟨rfl,u.drop.p1.drop.mut⟩)
 have wC:(gU m).any (nd q)=true:=by simpa using V
 obtain⟨hf0,h0,_,t,ht,hkd⟩:=akI wC;rw[J,ew wC];refine aA mW (aB (v:=hZ q.kind) bM u.p2.hb rfl (aH (aC (λc3=>?_) λc3=>?_)))
 .rw[ew c3,ht];refine aD kF u.p2.At (bF axL u (H':=λ_=>gp K p (tf m t q)) (Φ:=λv _=>v=ia (td q.t (dH t.buf q.i))) (λO Y G=>?_) ?_)
  .exact C90 K p m q E t O _ Y (λw' hc=>Z w' (G w' hc).aG) W rp h0 ht
  rintro _ _ rfl u;exact aI (x:=td q.t (dH t.buf q.i)) u.p1 fj rfl rfl (λ_ u=>aD fj u.At ⟨rfl,u.drop.p1.drop.mut⟩)
 rw[ej c3]
 have uj:sP m t=true:=by
  rcases hkd with h|h
  .exact h.2
  .exact absurd h.1 c3
 refine aA lE (aB (v:=hZ q.t) bM u.p2.hb rfl (bF axK u (H':=λ_=>gp K p (iy m q.t).1) (Φ:=λv _=>v=ia (iy m q.t).2) (λO Y G=>?_) ?_))
 .exact C91 K p m q.t t O _ Y (λw' hc=>Z w' (G w' hc).aG) W rp h0 ht (λ_=>NH uj)
 rintro _ _ rfl u;exact aI (x:=(iy m q.t).2) u.p1 fj rfl rfl (λ_ u=>aD fj u.At ⟨rfl,u.drop.p1.drop.mut⟩)
theorem C64(K:hM)(p:Nat)(m:gN)(qS:List cN)(lv:Value)(vD:List cH)(F:Nat->Prop)(w:World)(hF:(qP K p m).p w F)(hK:∀w',gv F w w'->K w')(hrm:1<=m.room/\m.room<=16)(hlk:(cM m.p).length<=1000)(hl:∀w',gv F w w'->dC (λ_=>True) w' lv vD)(htv:C9 K vD qS)
   (kC:∀t∈qS,ym (cT m.p) (cM m.p) (wq t)/\t.body=(HN t.body).flat) (hbz:∀t∈qS,t.body.length<=100000) (hn:qS.length<=1000) :
   CR 64 [.pointer (some ⟨p,0,none⟩),lv] w (λv w'=>v=.tuple #[]/\mR F (qP K p (qU m qS)) w w'):=by
 have u:=St.begin hF;have N9:=htv.1;refine akQ _ _ _ _ ?_;unfold S64;obtain⟨a,hu,u⟩:=qP.open u;have pH:=u.p4.iZ
 have hlr:∀w,K w->dC (λ_=>True) w (ia a.pv.eJ) m.p.eJ:=λw hw=>by
  obtain⟨g0,g1,g2,g3,g4,g5,e,_,_,h2,_⟩:=hu.pr w hw;rw[e];exact DL.flat h2
 have BC:(cM m.p).length=m.p.eJ.length:=by unfold cM;rw[n0]
 refine aE (aA oS (aT u Ed (dL rfl) rfl λ_ u=>aE (aA vk (aT u eg (dL rfl) rfl λ_ u=>?_))));have u:=(((u.p2.drop.p2.drop.p2.drop.eL (α:=Int)).p2).p1).p2;refine⟨λmm x w'=>∃(k:Nat) (ov:Value),x=hZ (k:Int)/\mm=(cM m.p).length-k/\k<=(cM m.p).length/\St w F [bY p (pw {a with ow:=ov,ll:=.slice none 0 0} m),bH ov (r6 k (-1:Int)),gu a.q m.mem] w',⟨_,0,_,rfl,rfl,l1 _,u⟩,?_⟩;rintro mm _ _ ⟨k,ov,rfl,rfl,Rh,u⟩ _;refine aE (aA oR (aA nQ (aB jM u.hb rfl (aK im (hlr _ (hK _ u.aG)) (aR (aC (λc=>?_) λc=>?_))))))
 .refine aE (aA vk (aB eg u.hb rfl (bD ([-1]:List Int) u cS rfl rfl (dL rfl) λs27 _ u=>?_)));have alh:=u.dX;exact bJ u.p2 cS alh (by rw[BO,mv];omega) ee (λs28 _ u=>have u:=u.p1.drop;aE (aA vk (aT u.p1 eg (dL rfl) u.dX.one λ_ u=>aN cK ⟨_,cK,k+1,s28,rfl,rfl,cK,by rw[Us];exact u⟩)))
 rw[show k=(cM m.p).length from cK]at u;have u:=((((((u.AH (H:=NT K m.room)).eL (α:=Ptr)).p4).p4).p3).p3).p4;refine⟨λmm x w'=>∃(j:Nat) (E:Value) (ps:List Ptr),x=hZ (j:Int)/\mm=vD.length-j/\j<=vD.length/\St w F [bY p (pw {a with ow:=ov,ll:=E} m),bH E ps,g9 (NT K m.room) ps ((qS.take j).map UA),bH ov (r6 (cM m.p).length (-1:Int)),gu a.q m.mem] w',⟨_,0,_,_,rfl,rfl,l1 _,u⟩,?_⟩;rintro mm _ _ ⟨j,E,ps,rfl,rfl,hj1,u⟩ _;refine aK fy (hl _ u.aG) (aR (aC (λc2=>?_) λc2=>?_));rotate_left
 .rw[kO cK]at u;have u:=u.p2.p2.p3.p4.p4;exact⟨rfl,(qP.shut (m:=qU m qS) (a:={a with ow:=ov,ll:=E,ps:=ps}) ⟨hu.pr,hu.rc⟩ u).mut⟩
 obtain⟨tv,QV⟩:=gx vD (i:=((j:Nat):Int).toNat) cK;obtain⟨t,ht⟩:=gx qS (i:=j) cK;obtain⟨B,gb,rows,rfl,U,hgb⟩:=htv.2 j _ _ QV ht;obtain⟨NW,V⟩:=kC t (kE ht);have Gw:t.dQ.length<=1000:=NW.nb;have hpo:=NW.p
 have asn:(HN t.body).str:=by
  have h2:Fz (Uw (cT m.p) (cM m.p) t.dQ) (jt (HN t.body) false []):=hpo;cases hb:HN t.body with
  | nil=>trivial
  | cons x c d r=>rw[hb]at h2;exact h2.st _ (o1 ..)
 have aso:(HN t.body).flat.length<=100000:=by rw[<- V];exact hbz t (kE ht)
 refine⟨_,?_,λ_ h=>h⟩;refine aE (aA Rz (aB bM u.hb rfl (dO amF (C58 m.room _) ?_)));rintro v43 _ hh;obtain⟨_,_,b43,rfl,cL⟩:=hh.resolve_left (λ_=>cK);have u:=u.made cL;refine aO rfl (aO rfl ?_);refine⟨λt8 w'=>∃tb,t8=.pointer (some ⟨tb,0,none⟩)/\St w F [mj K tb m.room (wq t),bY p (pw {a with ow:=ov,ll:=E} m),bH E ps,g9 (NT K m.room) ps ((qS.take j).map UA),bH ov (r6 (cM m.p).length (-1:Int)),gu a.q m.mem] w',?_,?_⟩
 .refine FX (Wd:=λw'=>gv F w w') fy hl u.aG cK QV (λq50 h50=>FZ gb lK h50 u.aG rfl rfl λq51 W=>have u:=u.drew;aD (x:=gb) jP (W _ u.aG) (FX (Wd:=λw'=>gv F w w') fy hl u.aG cK QV λq56 h56=>FZ B fS h56 u.aG rfl rfl λq57 G=>aD (x:=B) jk (G _ u.aG) (FX (Wd:=λw'=>gv F w w') fy hl u.aG cK QV λq61 h61=>FZ B fS h61 u.aG rfl rfl λq62 O=>aD (x:=B) jk (O _ u.aG) (aK iC (U _ (hK _ u.aG)) ⟨?_,?_,trivial⟩))))
  .refine dO NN (C128 K gb rows (HN t.body) _ (λ_ e=>hK _ (u.aG.then e)) asn (λw=>by rw[<- V];exact hgb w) aso) ?_;rintro s53 w9 ⟨ds,Y,cL⟩;have u:=u.made cL;refine⟨eN (x:=B) jk (G _ u.aG),?_⟩;refine⟨eN (x:=B) jk (O _ u.aG),?_⟩;refine wL (0:Int) u cS uA cK cK ee (λs52 w11 u=>?_);rw[qa]at u;refine⟨eN (x:=gb) jP (W _ u.aG),?_⟩;refine⟨eN (x:=B) jk (G _ u.aG),?_⟩;obtain⟨Z,rfl⟩:=u.fJ;obtain⟨J,rfl⟩:=u.p1.fJ;refine pop (xN J.a J.n J.cap B.a B.n B.cap Z.a Z.n Z.cap (some ⟨b43,0,none⟩)) (ny u λI w12 u=>?_)
   have u:=u.p2.freeze.p2.p3.p3;have M:RTK K B ds (wq t):=⟨U,by show lq K ds (we (jt (HN t.body) false []));rw[vc];show lq K ds (DU false (HN t.body)++[]);rw[pL];exact Y,FT.push λ_ h=>by cases h⟩;exact⟨I,rfl,mj.shut (t:=wq t) M u⟩
  refine wL (0:Int) u cS uA cK cK ee (λs52 w11 u=>?_);rw[qa]at u;refine⟨eN (x:=gb) jP (W _ u.aG),?_⟩;refine⟨eN (x:=B) jk (G _ u.aG),?_⟩;refine dO NN (C128 K gb rows (HN t.body) _ (λ_ e=>hK _ (u.aG.then e)) asn (λw=>by rw[<- V];exact hgb w) aso) ?_;rintro s53 w9 ⟨ds,Y,cL⟩;have u:=u.made cL;refine⟨eN (x:=B) jk (G _ u.aG),?_⟩;refine⟨eN (x:=B) jk (O _ u.aG),?_⟩;obtain⟨Z,rfl⟩:=u.p1.fJ;obtain⟨J,rfl⟩:=u.fJ;refine pop (xN J.a J.n J.cap B.a B.n B.cap Z.a Z.n Z.cap (some ⟨b43,0,none⟩)) (ny u λI w12 u=>?_)
  have u:=u.p1.freeze.p2.p3.p3;have M:RTK K B ds (wq t):=⟨U,by show lq K ds (we (jt (HN t.body) false []));rw[vc];show lq K ds (DU false (HN t.body)++[]);rw[pL];exact Y,FT.push λ_ h=>by cases h⟩;exact⟨I,rfl,mj.shut (t:=wq t) M u⟩
 rintro _ _ ⟨I,rfl,u⟩ _;have azf:BG (wq t):=⟨λ_ hv=>by rw[(List.mem_replicate.1 hv).2];exact iF,λ_ hy=>by cases hy⟩;refine bF ag9 u (H':=λ_=>mj K I m.room (UA t)) (Φ:=λ_ _=>True) (λF2 ef dW=>?_) ?_
 .exact(C129 K I m.room (wq t) (UA t) _ _ _ F2 _ ef (λw' hc=>hK w' (dW w' hc).aG) NW azf (qL NW).1).mono λ_ _ r=>r.mono λ_ _ h=>⟨trivial,h.2⟩
 rintro _ _ _ u;refine aE (aA oS ?_);have oG:=u.p3.iZ;rw[n0,l0]at oG;refine aB Ed u.p1.hb rfl (bD ([(⟨I⟩:Ptr)]) u Gn rfl rfl (dL rfl) λs67 _ u=>?_);have aaU:=u.dX;refine bJ u.p3 Gn aaU (by simp;omega) ee (λs68 _ u=>have u:=u.p1.drop;aE (aA oS (aT u.p2 Ed (dL rfl) u.dX.one λ_ u=>?_)));have u:=(((((St.Ep (H:=NT K m.room) (p:=⟨I⟩) (x:=UA t) u.p2.p3).p4).p4).p2).p4).p4;intro _;exact aN cK ⟨_,cK,j+1,s68,ps++[⟨I⟩],rfl,rfl,cK,by rw[<- gd (k:=j) ht];exact u⟩
theorem Vj{l:List Int}{k:Nat}{c:Int}(h:l[k]?=some c):qI l (k+1)=BA (BA (10000*qI l k)+c):=by rw[Fy h,Int.mul_comm]
def C94(cv:Value)(cut:List Int)(w:World)(G:dC (λ_=>True) w cv cut)(M:cut.length<=1000000):CR 94 [cv] w (λv w'=>v=hZ (qI cut cut.length)/\Ext w w'):=by
 have u:=St.start w;refine ahF _ _ _ ?_;unfold S94;refine⟨λB n x E=>∃k:Nat,n=hZ (qI cut k)/\x=hZ (k:Int)/\B=cut.length-k/\k<=cut.length/\St w aZ [] E,⟨_,0,rfl,rfl,rfl,l1 _,u⟩,?_⟩;rintro B _ _ E ⟨k,rfl,rfl,rfl,V,u⟩ _;refine aK cS (G.ext u.aG) (aR (aC (λU=>?_) λ_=>⟨by rw[show cut.length=k from cK],u.aG⟩));refine wV ?_;obtain⟨O,I⟩:=gx cut (i:=(k:Int).toNat) cK;exact aQ cS G cK I (λ_ J=>aD bM (J.ext u.aG) (uI (aN cK ⟨_,cK,k+1,by rw[Vj (k:=k) I],rfl,rfl,cK,u⟩)))
def NZ{p:cE}(hc:GC p){t:cN}(ht:t∈gm p):t.body.length<=40:=by
 obtain⟨_,h2,_⟩:=hc.f.qS ht
 exact(lx h2).1
def QY{m:Mem}{cut:List Int}{v:Value}{p:Nat}{F:Nat->Prop}{w w':World}
  (h:(fD m cut=none/\v=hZ 1/\mR F (gu p m) w w')\/∃u,fD m cut=some u/\v=hZ 0/\mR F (gu p (mJ m u)) w w') :
  True/\mR F (pK λE=>fact (DX m cut v E) (gu p E)) w w':=by
 refine⟨trivial,?_⟩
 rcases h with⟨h1,h2,B,h3,h4,h5⟩|⟨u,h1,h2,B,h3,h4,h5⟩
 .exact⟨B,⟨m,.inl ⟨h1,rfl,h2⟩,h3⟩,h4,h5⟩
 exact⟨B,⟨mJ m u,.inr ⟨u,h1,rfl,h2⟩,h3⟩,h4,h5⟩
theorem aeX{m:gN}{q:aS}(h:q.kind=3):(gU m).any (nd q)=false:=by
 cases ha:(gU m).any (nd q)with
 | false=>rfl
 | true=>obtain⟨_,_,_,t,_,h2⟩:=akI ha;omega
theorem aaV{m:gN}{q:aS}(h:iT m q=none)(u:(gU m).any (nd q)=false):n8 m q=(m,⟨0,0,0,0,0⟩,13):=by
 grind[n8]
def aaW{K:hM}{m:gN}{u:List cH}(hc:GC m.p)(G:C9 K u m.p.recover):C9 K ((u++[(⟨⟨#[]⟩,bX,bX,0⟩:cH)]).take 1) (u5 m):=by
 have h1:=hc.f.one
 have B:=G.1
 unfold u5
 split
 .have E:m.p.recover=[]:=uX.1 (by assumption)
  rw[E]at B
  have:u=[]:=uX.1 B
  subst this
  exact ahh _
 grind
def azg:PL 63:=dK Tryz.func63
def C13(K:hM)(p:cE)(pv:bP)(room:Int)(w:World)(G:∀w',Ext w w'->K w')(E:Io K pv p)(I:PZ p):CR 13 [ia pv,hZ room] w (λv w'=>(fm p≠0/\v=.tuple #[.pointer none,hZ (fm p)]/\Ext w w')\/(fm p=0/\(room<1\/16<room)/\v=.tuple #[.pointer none,hZ 1]/\Ext w w')\/
  (fm p=0/\(1<=room/\room<=16)/\∃b:Nat,v=.tuple #[.pointer (some ⟨b,0,none⟩),hZ 0]/\lh (qP K b (gY p room)) w w')):=by
 have u:=St.start w;refine akN _ _ _ _ ?_;unfold S13;refine cI (x:=pv) u (λbp w1 u=>aD er u.At (dO aum (C57 p pv _ (E.pr _ (G _ u.aG)) I) ?_));rintro _ _ ⟨aa,rfl,J⟩;have u:=u.ext J;refine aO rfl (aO rfl (bV (aC (λc=>?_) λc=>?_)))
 .exact .inl ⟨c,rfl,u.drop.aG⟩
 have Z:fm p=0:=cK
 have O:=vK Z;have MM:=aad O;have EZ:=Bo p;refine dO amF (C58 room _) ?_;rintro v3 _ hh
 rcases hh with⟨W,rfl,J⟩|⟨z6,Dl,b3,rfl,M⟩
 .have u:=u.ext J;exact aO rfl (aO rfl (bV (j8 ee (.inr (.inl ⟨Z,W,rfl,u.drop.aG⟩)))))
 have u:=(u.made M).drop;refine aO rfl (aO rfl (bV (fx ee (bD ([]:List Int) u cS rfl rfl (dL rfl) λs31 _ u=>?_))));refine⟨λmm o y w1=>∃k:Nat,y=hZ (k:Int)/\mm=(iu p).length-k/\k<=(iu p).length/\St w aZ [bH o ((Be p).take k),bY bp (j0 pv)] w1,⟨_,0,rfl,rfl,l1 _,u⟩,?_⟩;rintro mm o _ _ ⟨k,rfl,rfl,hk,u⟩ _;have Kk:(Be p).length=(cT p).length:=by unfold Be;rw[n0,RV]
 refine aD er u.p1.At (dY TJ u (C59 p pv _ (E.pr _ (G _ u.aG)) I.toPS) λx34 _ M u=>aK im u.dX (have u:=u.drop;aR (aC (λc1=>?_) λc1=>?_)))
 .refine aD er u.p1.At (aV asg u (C60 p pv (k:Int) _ (E.pr _ (G _ u.aG)) I) λ_ J u=>bD ([pC p (k:Int)]:List Int) u cS rfl rfl (dL rfl) λs49 _ u=>?_);have V:=u.dX;exact bJ u.p1 cS V (by rw[l0,mv];omega) ee (λ_ _ u=>aN cK ⟨_,cK,k+1,rfl,rfl,cK,by rw[<- gJ (J1 (p:=p) (i:=k) cK)];exact u.p1.drop⟩)
 rw[kO cK]at u;have u:=u.drew;refine aD er u.p1.At (aD er u.p1.At (aV IE u (C62 p pv _ (E.pr _ (G _ u.aG)) I) λ_ J u=>?_));refine⟨eN er u.p1.At,?_⟩;refine dY azg u (C63 p pv _ (E.pr _ (G _ u.aG)) I) (λx58 _ M u=>?_);have iV:=qN p;have tX:(eW p).length=(iu p).length:=by unfold eW;rw[n0]
 refine dO aun (C61 (Be p) (eW p) (ey p) _ _ _ u.p1.dX u.dX cK cK cK λk n h1 h2=>?_) ?_
 .have h3:=QL O h1 h2;have h4:=(kp.1 h2).1;exact⟨h3.1,cK,cK⟩
 rintro v59 _ ⟨q,rfl,M⟩;have u:=((u.made M).p1.drop).p1.drop;refine aO rfl (aO rfl (aD (x:=pv) er u.p1.At (pop (NM _ _ _ _ _ _ _ _ _ _ _ _ _ _ _ _ _ _ _ _) (ny u λB Sv u=>aA kG (aB (v:=ia pv.threads) iB u.p2.hb rfl ?_)))));have u:=((u.p2.drop.AH (H:=NT K room)).eL (α:=Ptr)).eL (α:=Int)
 have u:St w aZ (bY B (pw ⟨pv,q,.slice none 0 0,.slice none 0 0,[]⟩ (xH p room))::gu q (JC (Be p) (ey p) (eW p))::bH (.slice none 0 0) ([]:List Int)::bH (.slice none 0 0) ([]:List Ptr)::g9 (NT K room) [] []::[]) Sv:=by
  have h1:=u.p4.p4
  first|exact h1|exact u.p3.p4|exact u.p4.p4
 obtain⟨vD,U,Y⟩:=E.th;obtain⟨VJ,Nl,Vi⟩:=E.rc;have u:=qP.shut (K:=K) (m:=xH p room) ⟨E.pr,⟨VJ,Nl,Vi⟩⟩ u;refine bF ar2 u (H':=λ_=>qP K B (gY p room)) (Φ:=λ_ _=>True) (λF2 ef dW=>?_) ?_
 .exact(C64 K B (xH p room) p.threads _ vD F2 _ ef (λw' hc=>G _ (dW w' hc).aG) ⟨z6,Dl⟩ (by have:=I.eJ;show(cM p).length<=_;unfold cM;rw[n0];omega) (λw' hc=>U w' (G _ (dW w' hc).aG)) Y
   (λ_ ht=>⟨DP O (List.mem_append_left _ ht),DW O (List.mem_append_left _ ht)⟩) (λ_ ht=>wS (NZ O (List.mem_append_left _ ht)) ee) (by have:=I.threads;omega)).mono λ_ _ r=>r.mono λ_ _ h=>⟨trivial,h.2⟩
 rintro _ _ _ u;exact .inr (.inr ⟨Z,⟨z6,Dl⟩,B,rfl,u.fresh⟩)
theorem C25(K:hM)(p:Nat)(m:gN)(q:aS)(J:SV)(F:Nat->Prop)(w:World)(hF:(qP K p m).p w F)(hK:∀w',gv F w w'->K w')(O:oK m)(hvo:J4 m)(zX:GC m.p)(rp:MB m.mem 1000000)(hcb:0<=m.bZ/\m.bZ<=1000000)(Df:m.mem.dU=eW m.p)(hKx:∀w1,gv F w w1->∀w2,Ext w1 w2->K w2)(NY:∀w',gv F w w'->dC (λ_=>True) w' (ia J) q.cut)(hql:q.cut.length<=1000) :
   CR 25 [.pointer (some ⟨p,0,none⟩),ia (⟨q.kind,q.t,q.i,J⟩:aJ)] w (λv w'=>v=.tuple #[ia (n8 m q).2.1,hZ (n8 m q).2.2]/\mR F (qP K p (n8 m q).1) w w'):=by
 have u:=St.begin hF;refine oM Tryz.func25 (pl:=P25) ?_;refine cI (x:=(⟨q.kind,q.t,q.i,J⟩:aJ)) u (λb3 w1 u=>aM u mu λb4 w2 u=>?_);have u:=u.enc (cs':=j0 (⟨0,0,0,0,0⟩:cB)) rfl;have VD:iT m q=(if q.kind=3/\q.t=0/\q.i=0/\m.fault=0 then fD m.mem q.cut else none):=rfl;refine aA mW (aB (v:=hZ q.kind) bM u.p1.hb rfl (aH (aC (λc1=>?_) λc1=>?_)))
 .have u:=u.drew;have u:=u.p2;obtain⟨a,hu,u⟩:=qP.open u;have pH:=u.p4.iZ;refine aE (aA tm (aB qn u.hb rfl (aA ma (aB (v:=ia (J:SV)) eg u.p6.hb rfl (dO amI ((C92 a.q m.mem q.cut _ _ (FY u.p1.has) O.mem rp (NY _ u.aG) hql).mono (R':=tV λv w'=>∃(o:Value) (e:Int),v=.tuple #[o,hZ e]/\(e=0↔(fD m.mem q.cut).isSome=true)/\Ext (drew w2) w') λ_ _ r=>r.mono λv w' h=>?_) ?_)))))
  .rcases h with⟨h1,rfl,h3⟩|⟨E,o,h1,rfl,h3⟩
   .exact⟨_,_,rfl,by rw[h1];decide,h3⟩
   obtain⟨_,_,_,h4⟩:=h3;exact⟨_,_,rfl,by rw[h1];exact⟨λ_=>rfl,λ_=>rfl⟩,h4⟩
  rintro _ w3 ⟨o21,e23,rfl,hee,he⟩;have u:=u.ext he;refine aO rfl (aO rfl ?_);refine⟨λjv w'=>jv=.bool (!(iT m q).isSome)/\w'=w3,?_,?_⟩
  .have Y:¬ (q.t=0/\q.i=0/\m.fault=0/\e23=0)->(iT m q).isSome=false:=λh=>by
    rw[VD];split
    .rename_i h2
     cases hi:(fD m.mem q.cut).isSome with
     | false=>rfl
     | true=>exact absurd ⟨h2.2.1,h2.2.2.1,h2.2.2.2,hee.2 hi⟩ h
    .rfl
   refine aA lE (aB (v:=hZ q.t) bM u.p6.hb rfl (bV (aC (λc2=>⟨vb (by rw[Y cK];rfl),rfl⟩) λc2=>aA qg (aB (v:=hZ q.i) bM u.p6.hb rfl (bV (aC (λM=>⟨vb (by rw[Y cK];rfl),rfl⟩) λM=>bV (aC (λB=>⟨vb (by rw[Y cK];rfl),rfl⟩) λB=>aE (aA xZ (aB bM u.hb rfl ?_)))))))));refine bV ?_;refine⟨vb ?_,rfl⟩
   by_cases hf:m.fault=0
   .rw[VD,ew ⟨c1,cK,cK,hf⟩,hee.1 cK,fN cK];rfl
   rw[Y cK,ez hf];rfl
  rintro _ w4 ⟨rfl,rfl⟩ sY;refine aY (λc=>?_) (λc=>?_)
  .have G:iT m q=none:=by
    cases h:iT m q with
    | none=>rfl
    | some E=>rw[h]at c;cases c
   rw[aaV G (aeX c1)];exact pop JH (aI (x:=(⟨0,0,0,0,0⟩:cB)) u.p5 fj rfl rfl λw5 u=>aD (x:=(⟨0,0,0,0,0⟩:cB)) fj u.At (have u:=u.drop.p5.drop.p4.p4.p4.p4.p4;⟨rfl,(qP.shut hu u).mut⟩))
  obtain⟨E,G⟩:∃E,iT m q=some E:=MY.1 (by simpa using c);have Vz:fD m.mem q.cut=some E:=by rw[VD]at G;split at G;exact G;cases G
  have W:n8 m q=(qU (pj m E) (u5 m),⟨15,0,0,qI q.cut q.cut.length,0⟩,0):=by unfold n8;rw[G]
  rw[W];have u:=u.drew;refine aE (aA tm (aB qn u.hb rfl (aA ma (aB (v:=ia (J:SV)) eg u.p6.hb rfl (have u:=u.p1;bF auv u (H':=λv=>pK λm2=>fact (DX m.mem q.cut v m2) (gu a.q m2)) (Φ:=λ_ _=>True) (λU Z V=>?_) ?_)))))
  .exact(C93 a.q m.mem U q.cut _ _ Z O.mem rp (λw' hc=>NY w' (V w' hc).aG) hql).mono λ_ _ r=>r.mono λ_ _ h=>QY h
  rintro v34 w6 _ xw;obtain⟨m2c,y9⟩:=xw.eh
  clear xw
  obtain⟨hcf,u⟩:=y9.mz
  clear y9
  obtain⟨I,_⟩|⟨azh,I,rfl,rfl⟩:=hcf
  .rw[Vz]at I;cases I
  obtain rfl:E=azh:=oi.inj (Vz.symm.trans I);refine aE (aA Dn (aB bM u.p1.hb rfl (aN (show -9223372036854775808<=m.bZ+1/\m.bZ+1<=9223372036854775807 by omega) (aE (aA Dn (aT u.p1 bM (dL rfl) rfl λw7 u=>?_))))));obtain⟨VJ,Nl,Vi⟩:=id hu.rc;have Gw:=Vi.1;have z6:m.p.recover.length<=1:=zX.f.one;refine bD ([]:List cH) u fy rfl rfl (dL rfl) (λs59 w8 u=>aE (aA oR (aA oQ (aB iB u.p1.hb rfl (bJ u fy (Nl _ (hK _ u.aG)) (by simp;omega) ee λs65 w9 u=>pop (v:=ia (⟨⟨#[]⟩,bX,bX,0⟩:cH)) (by kernel_rfl) (bD ([⟨⟨#[]⟩,bX,bX,0⟩]:List cH) u fy rfl rfl (dL rfl) λs68 w10 u=>?_))))))
  have aaU:=u.dX;refine bJ u.p1 fy aaU (by simp;omega) ee (λs69 w11 u=>?_);have u:=u.p1.drop;rw[s4]at u;refine jR fy u.dX cK (by simp;omega) (λs72 h72=>?_);have u:=((qP.shut (m:=pj m E) ⟨hu.pr,hu.rc⟩ u.p5.p5.p5.p5.p5).p1).p1;obtain⟨azc,alj⟩:=JZ zX;refine bF ar2 u (H':=λ_=>qP K p (qU (pj m E) (u5 m))) (Φ:=λ_ _=>True) (λU Z V=>?_) ?_
  .refine(C64 K p (pj m E) (u5 m) _ _ U _ Z (λw' hc=>hK w' (V w' hc).aG) O.rm (by have:=O.pz.eJ;show(cM m.p).length<=_;unfold cM;rw[n0];omega) (λw' hc=>h72 w' (V w' hc).dX) (aaW zX Vi) (λt ht=>⟨alj t ht,?_⟩) (λt ht=>?_) cK).mono λ_ _ r=>r.mono λ_ _ h=>⟨trivial,h.2⟩
   .unfold u5 at ht
    split at ht
    .rw[vx.1 ht];rfl
    exact DW zX (List.mem_append_right _ ht)
   unfold u5 at ht
   split at ht
   .rw[vx.1 ht];exact l1 _
   exact wS (NZ zX (List.mem_append_right _ ht)) ee
  rintro _ w12 _ u;exact aA ma (aB (v:=ia (J:SV)) eg u.p3.hb rfl (aV auw u (C94 _ q.cut _ (NY _ u.aG) cK) λw13 he u=>pop (HM 15 (qI q.cut q.cut.length)) (aI (x:=(⟨15,0,0,qI q.cut q.cut.length,0⟩:cB)) u.p2 fj rfl rfl λSv u=>aD (x:=(⟨15,0,0,qI q.cut q.cut.length,0⟩:cB)) fj u.At (have u:=u.drop.p2.drop.p1.drop;⟨rfl,u.mut⟩))))
 have G:iT m q=none:=by rw[VD,ej λh=>c1 h.1]
 have u:=u.p1.p1.p2;refine dY arZ u (C22 K p m _ u.has (λw' e=>hKx _ u.aG _ e) O) (λx79 w15 cL u=>?_);obtain⟨ss,u⟩:=u.RO;have O0:=u.p1.eD.1;have oG:=FC O;have u:=u.p1.p1.p4.p4.p4;refine⟨λmm y w'=>∃k:Nat,y=hZ (k:Int)/\mm=ss.length-k/\k<=ss.length/\(∀(j:Nat) (x:aS),j<k->(gU m)[j]?=some x->nd q x=false)/\St w F [qP K p m,bY b4 (j0 (⟨0,0,0,0,0⟩:cB)),bY b3 (j0 (⟨q.kind,q.t,q.i,J⟩:aJ)),bH x79 ss,eD (iq ss (gU m))] w',⟨_,0,rfl,rfl,l1 _,λj x h=>absurd h (M9 _),u⟩,?_⟩;rintro mm _ w16 ⟨k,rfl,rfl,hk,Y,u⟩ vS
 refine aK gg u.p3.dX (aR (aC (λc2=>?_) λc2=>?_));rotate_left
 .have wC:(gU m).any (nd q)=false:=by
   rw[List.any_eq_false];intro x hx;obtain⟨j,hj⟩:=List.mem_iff_getElem?.1 hx;have:=(kp.1 hj).1;rw[Y j x cK hj];decide
  rw[aaV G wC];exact pop JH (aI (x:=(⟨0,0,0,0,0⟩:cB)) u.p1 fj rfl rfl λw22 u=>aD (x:=(⟨0,0,0,0,0⟩:cB)) fj u.At (have u:=u.drop.p1.drop.p1.drop.p1.drop;⟨rfl,u.mut⟩))
 obtain⟨s,Yw⟩:=gx ss (i:=((k:Nat):Int).toNat) cK;obtain⟨x,hxk⟩:=gx (gU m) (i:=k) cK;obtain⟨gx,rfl,_⟩:=u.p4.eD.2 k s x (by rw[<- qa k];exact Yw) hxk;refine⟨λjv w'=>jv=.bool (nd q x)/\St w F [qP K p m,bY b4 (j0 (⟨0,0,0,0,0⟩:cB)),bY b3 (j0 (⟨q.kind,q.t,q.i,J⟩:aJ)),bH x79 ss,eD (iq ss (gU m))] w',?_,?_⟩
 .have Gl:nd q x=(decide (x.kind=q.kind)&&decide (x.t=q.t)&&decide (x.i=q.i)&&decide (q.cut.length=0)):=by unfold nd;first|rfl|(simp only[eq_comm])
  have u:=u.drew;refine aQ gg u.p3.dX cK Yw (λq0 h0=>bW x.kind mW h0 rfl rfl λr0 g0=>aD (x:=x.kind) bM g0 (aA mW (aB (v:=hZ q.kind) bM u.p2.hb rfl (aH (aC (λM=>?_) λM=>⟨vb (by rw[Gl,fN M];simp),u⟩)))));refine aQ gg u.p3.dX cK Yw (λq1 h1=>bW x.t lE h1 rfl rfl λr1 g1=>aD (x:=x.t) bM g1 (aA lE (aB (v:=hZ q.t) bM u.p2.hb rfl ?_)));exact aH (aC (λB=>aQ gg u.p3.dX cK Yw λq2 h2=>bW x.i qg h2 rfl rfl λr2 g2=>aD (x:=x.i) bM g2 (aA qg (aB (v:=hZ q.i) bM u.p2.hb rfl (aH (aC (λc5=>aA ma (aB (v:=ia (J:SV)) eg u.p2.hb rfl (aK cS (NY _ u.aG) (aH ⟨vb (by rw[Gl,ez M,ez B,ez c5];exact ga.2 cK),u⟩)))) λc5=>⟨vb (by rw[Gl,fN c5];simp),u⟩))))) λB=>⟨vb (by rw[Gl,fN B];simp),u⟩)
 rintro _ w17 ⟨rfl,u⟩ wA;refine aY (λM=>?_) (λM=>?_);rotate_left
 .refine aN cK ?_;refine⟨_,cK,k+1,rfl,rfl,cK,λj x' hj hx'=>?_,u⟩
  by_cases e:j=k
  .subst e;rw[hxk]at hx';cases hx';exact M
  exact Y j x' cK hx'
 have wC:(gU m).any (nd q)=true:=List.any_eq_true.2 ⟨x,kE hxk,M⟩;obtain⟨hf0,h0,_,t,ht,hkd⟩:=akI wC;have W:n8 m q=(if (gU m).any (nd q)=true then(if q.kind=2 then(match m.l[q.t.toNat]? with|some t=>((tf m t q,td q.t (dH t.buf q.i),0):gN×cB×Int)|none=>(m,⟨0,0,0,0,0⟩,13))else((iy m q.t).1,(iy m q.t).2,0))else(m,⟨0,0,0,0,0⟩,13)):=by unfold n8;rw[G];rfl
 rw[W,ew wC];refine aA mW (aB (v:=hZ q.kind) bM u.p2.hb rfl (aH (aC (λB=>?_) λB=>?_)))
 .rw[ew B,ht];refine aA lE (aB (v:=hZ q.t) bM u.p2.hb rfl (aA qg (aB (v:=hZ q.i) bM u.p2.hb rfl (bF ayI u (H':=λ_=>qP K p (tf m t q)) (Φ:=λv _=>v=ia (td q.t (dH t.buf q.i))) (λU Z V=>?_) ?_))))
  .exact C95 K p m q q.t q.i rfl rfl t U _ Z O rp h0 ht
  rintro _ w18 rfl u;exact aI (x:=td q.t (dH t.buf q.i)) u.p1 fj rfl rfl (λw19 u=>aD (x:=td q.t (dH t.buf q.i)) fj u.At (have u:=u.drop.p1.drop.p1.drop.p1.drop;⟨rfl,u.mut⟩))
 rw[ej B]
 have uj:sP m t=true:=by
  rcases hkd with h|h
  .exact h.2
  .exact absurd h.1 B
 refine aA lE (aB (v:=hZ q.t) bM u.p2.hb rfl (bF ayH u (H':=λ_=>qP K p (iy m q.t).1) (Φ:=λv _=>v=ia (iy m q.t).2) (λU Z V=>?_) ?_))
 .exact C96 K p m q.t t U _ Z (λw' hc=>hK w' (V w' hc).aG) O hvo rp h0 ht uj Df
 rintro _ w20 rfl u;exact aI (x:=(iy m q.t).2) u.p1 fj rfl rfl (λw21 u=>aD (x:=(iy m q.t).2) fj u.At (have u:=u.drop.p1.drop.p1.drop.p1.drop;⟨rfl,u.mut⟩))
def C217(sv:Value)(ps:List Ptr)(G:Nat)(first cap:List Value)(g:Nat->Bool)(w:World)(U:dC (λ_=>True) w sv ps)(W:Plain hH G)(V:∀(i:Nat) (s:Ptr) (B:World),ps[i]?=some s->Ext w B->Calls hH G (first++[ia s]++cap).toArray B (tV λv M=>v=.bool (g i)/\Ext B M))(Z:ps.length<=1073741824):CR 217 [sv,(.func (.func G) first.toArray cap.toArray)] w (λv w'=>v=hZ (sm g (u3 ps.length))/\Ext w w'):=by
 have u:=St.start w;refine fg Tryz.func217 ?_;refine aK La (U.ext u.aG) ?_;refine⟨λO y B=>∃k:Nat,y=hZ (k:Int)/\O=ps.length-k/\k<=ps.length/\(∀y∈(u3 ps.length).take k,g y=false)/\St w aZ [] B,⟨_,0,rfl,rfl,l1 _,ei,u⟩,?_⟩;rintro O _ B ⟨k,rfl,rfl,hk,E,u⟩ _;refine aR (aC (λc1=>?_) λ_=>⟨gO (ni .i64) (jh (by rw[kO (by rw[RV];omega)]at E;exact E)).symm,u.aG⟩);obtain⟨e,J⟩:=gx ps (i:=((k:Nat):Int).toNat) cK;refine aQ La (U.ext u.aG) cK J (λq Y=>aD G4 Y (gV W (V k e B J u.aG) ?_))
 rintro _ M ⟨rfl,h2⟩;have u:=u.ext h2;exact aY (λI=>⟨gO (ni .i64) (me E (H3 cK) I).symm,u.aG⟩) (λI=>aN cK ⟨_,cK,k+1,rfl,rfl,cK,dZ E (H3 cK) I,u⟩)
def C142(sv:Value)(ps:List Ptr)(E:Nat)(first cap:List Value)(g:Nat->Bool)(w:World)(J:dC (λ_=>True) w sv ps)(M:Plain hH E)(I:∀(i:Nat) (s:Ptr) (B:World),ps[i]?=some s->Ext w B->Calls hH E (first++[ia s]++cap).toArray B (tV λv G=>v=.bool (g i)/\Ext B G))(O:ps.length<=1073741824):CR 142 [sv,(.func (.func E) first.toArray cap.toArray)] w (λv w'=>v=.bool ((u3 ps.length).any g)/\Ext w w'):=by
 have u:=St.start w;refine fg Tryz.func142 ?_;exact aV aq7 u (C217 _ ps E first cap g _ (J.ext u.aG) M (λi s B h e=>I i s B h (u.aG.then e)) O) (λ_ _ u=>cR ⟨vb (kU _ _),u.aG⟩)
def C140(K Φ:hM)(p:Nat)(room:Int)(t:jY)(w:World)(E:Has (eR K Φ p room t) w)(Y:K w)(J:t.buf.length<=1000):CR 140 [.pointer (some ⟨p,0,none⟩)] w (λv w'=>v=.bool (!mM t)/\Ext w w'):=by
 obtain⟨U,V,rg,pl,es,hk,I,hB,W,M,O,_⟩:=eR.rd E;have B:=I.cell (o:=3) rfl;have Z:=O.len;have Bz:=rF es;have u:=St.start w;refine fg Tryz.func140 ?_;refine⟨λG w'=>G=.bool (!mM t)/\Ext w w',?_,?_⟩
 .exact aE (aA jO (bO rY (B.ext u.aG) (aK uE (M.ext u.aG) (cO (aC (λ_=>⟨vb (by unfold mM;rw[fN (show ¬ t.cG.length=0 from cK)];rfl),u.aG⟩) λ_=>aV agU u (C141 K Φ p room t _ (E.ext u.aG) J) λ_ _ u=>bR ⟨vb (by unfold mM;rw[ez (show t.cG.length=0 from cK),yU]),u.aG⟩)))))
 rintro _ _ h _;exact h
def C68(K:hM)(p:Nat)(m:gN)(w:World)(hm:Has (gp K p m) w)(U:∀w',Ext w w'->K w')(O:oK m):CR 68 [.pointer (some ⟨p,0,none⟩)] w (λv w'=>v=ia (iU m)/\Ext w w'):=by
 obtain⟨a,B⟩:=gp.rd hm (U _ (Ext.refl _));have FD:=B.b.cell (o:=11) rfl;have I:=B.b.cell (o:=12) rfl;have M:=B.b.cell (o:=13) rfl;have J:=B.b.cell (o:=14) rfl;have hlen:=B.len;have N9:=O.tl;have u:=St.start w;refine oM Tryz.func68 (pl:=P68) ?_;refine aM u yb (λb2 w1 u=>have u:=(u.enc (cs':=j0 (⟨0,0,0,false,false⟩:hG)) rfl).drew;aE (aA IV (bO bM (I.ext u.aG) (aE (aA ya (bO bM (M.ext u.aG) (aE (aA RF (bO bM (J.ext u.aG) (pop (JJ m.bZ m.fault m.jd) (aM u yb λb4 _ u=>?_)))))))))))
 refine⟨aF bM (I.ext u.aG),?_⟩;refine⟨aF bM (M.ext u.aG),?_⟩;refine⟨aF bM (J.ext u.aG),?_⟩;refine aI (x:=(⟨m.bZ,m.fault,m.jd,false,false⟩:hG)) u yL rfl rfl (λ_ u=>?_);refine⟨λw'=>St w aZ [bY b4 (j0 (⟨m.bZ,m.fault,m.jd,lB m,false⟩:hG)),bY b2 (j0 (⟨0,0,0,false,false⟩:hG))] w',?_,?_⟩
 .refine aE (aA ya (bO bM (M.ext u.aG) (aH (aC (λG=>?_) λG=>?_))))
  .refine aE (aA vn (bO IS (FD.ext u.aG) ?_))
   refine aV aq6 u (C142 _ a.ps 140 [] [] (λi=>match m.l[i]? with|some t=>!mM t|none=>false) _ (B.ll.ext u.aG) aq4 (λi s w1 h e=>by
    obtain⟨t,ht⟩:∃t,m.l[i]?=some t:=⟨_,kX (by have:=(kp.1 h).1;omega)⟩;rw[ht];exact C140 K _ s.b m.room t w1 ((B.th i s t h ht).ext (u.aG.then e)) (U _ (u.aG.then e)) (O.th t (kE ht)).bl) cK) (λ_ he u=>?_)
   refine bR (aA qo (aT u Ap (dL rfl) rfl λw5 u=>?_));have E:lB m = !((u3 a.ps.length).any λi=>match m.l[i]? with|some t=>!mM t|none=>false):=by unfold lB;rw[ez G,B.len];rfl
   rw[E];exact u
  refine aA qo (aT u Ap (dL rfl) rfl λw5 u=>?_);have E:lB m=false:=by unfold lB;rw[fN G];rfl
  rw[E];exact u
 intro _ u _
 have W:∀(b:Bool) (w':World),mN m=b->St w aZ [bY b4 (j0 (⟨m.bZ,m.fault,m.jd,lB m,b⟩:hG)),bY b2 (j0 (⟨0,0,0,false,false⟩:hG))] w'->St w aZ [bY b4 (j0 (iU m)),bY b2 (j0 (⟨0,0,0,false,false⟩:hG))] w':=λb w' h1 h2=>by
  subst h1;exact h2
 refine⟨λw'=>St w aZ [bY b4 (j0 (iU m)),bY b2 (j0 (⟨0,0,0,false,false⟩:hG))] w',?_,?_⟩
 .refine aE (aA ya (bO bM (M.ext u.aG) (aH (aC (λG=>?_) λG=>?_))));rotate_left
  .exact aA qp (aT u Ap (dL rfl) rfl λ_ u=>W false _ (by unfold mN;rw[fN G];rfl) u)
  refine aA qo (aB (v:=.bool (lB m)) Ap u.hb rfl (bR (aY (λc2=>?_) λc2=>?_)));rotate_left
  .exact aA qp (aT u Ap (dL rfl) rfl λ_ u=>W false _ (by unfold mN;rw[show lB m=true from by simpa using c2];simp) u)
  refine dY aqZ u (C67 K p m _ (hm.ext u.aG) (λ_ e=>U _ (u.aG.then e)) O) (λx45 w7 cL u=>?_);obtain⟨V,Z,Y⟩:=u.dl;refine aK gg Z ?_;rw[show V.length=(gU m).length from Y.1];exact aH (have u:=u.drop;aA qp (aT u Ap (dL rfl) rfl λ_ u=>W (decide (((gU m).length:Int)=0)) _ (by unfold mN;rw[ez G,show lB m=false from by simpa using c2];rfl) u))
 intro _ u _;exact aD (x:=iU m) yL u.At (aI (x:=iU m) u.p1 yL rfl rfl λ_ u=>aD yL u.At ⟨rfl,u.drop.drop.aG⟩)
def alm{φ:bQ->Prop}{p:PD}(h:Fz φ p):(we p).length=0↔p.length=0:=by
 constructor
 .intro B
  rcases aeF (p:=p)with h1|⟨q,u,h2⟩
  .omega
  exact absurd h2 (h.ne q u)
 simp_all[Dq,we]
def Vk(g:Nat->Bool)(k:Nat):(u3 (k+1)).any g=((u3 k).any g||g k):=dD
def C74(K:hM)(p:Nat)(m:gN)(w:World)(hm:Has (qP K p m) w)(hw:∀w',Ext w w'->K w')(V:oK m):CR 74 [.pointer (some ⟨p,0,none⟩)] w (λv w'=>v=ia (iU m)/\Ext w w'):=by
 obtain⟨a,B⟩:=qP.rd hm;have I:=B.b.cell (o:=7) rfl;have U:=B.b.cell (o:=10) rfl;have J:=B.b.cell (o:=11) rfl;have G:=B.b.cell (o:=12) rfl;have hlen:=B.len;have N9:=V.tl;have u:=St.start w;refine oM Tryz.func74 (pl:=P74) ?_;refine aM u yb (λb2 _ u=>have u:=(u.enc (cs':=j0 (⟨0,0,0,false,false⟩:hG)) rfl).drew;aE (aA Dn (bO bM (I.ext u.aG) (aE (aA xZ (bO bM (J.ext u.aG) (aE (aA RB (bO bM (G.ext u.aG) (aE (aA xZ (bO bM (J.ext u.aG) ?_))))))))))));refine aH (pop (FW m.bZ m.fault m.jd (decide (m.fault=0))) (aM u yb λb3 _ u=>?_))
 refine⟨aF bM (I.ext u.aG),?_⟩;refine⟨aF bM (J.ext u.aG),?_⟩;refine⟨aF bM (G.ext u.aG),?_⟩;refine⟨aF bM (J.ext u.aG),?_⟩;refine aI (x:=(⟨m.bZ,m.fault,m.jd,decide (m.fault=0),false⟩:hG)) u yL rfl rfl (λ_ u=>?_);refine⟨λmm y w'=>∃k:Nat,y=hZ (k:Int)/\mm=a.ps.length-k/\k<=a.ps.length/\St w aZ [bY b3 (j0 (⟨m.bZ,m.fault,m.jd,(decide (m.fault=0)&&!(u3 k).any λi=>match m.l[i]? with|some t=>!mM t|none=>false),false⟩:hG)),bY b2 (j0 (⟨0,0,0,false,false⟩:hG))] w',⟨_,0,rfl,rfl,l1 _,by rw[show(decide (m.fault=0)&&!(u3 0).any λi=>match m.l[i]? with|some t=>!mM t|none=>false)=decide (m.fault=0)by simp];exact u⟩,?_⟩
 rintro mm _ w4 ⟨k,rfl,rfl,hk,u⟩ _;refine aE (aA oS (bO Ed (U.ext u.aG) (aK Gn (B.ll.ext u.aG) (aR (aC (λc1=>?_) λc1=>?_)))))
 .obtain⟨t,ht⟩:=gx m.l (i:=k) cK;obtain⟨e,W⟩:=gx a.ps (i:=((k:Nat):Int).toNat) cK;have Vy:=B.th k e t (by rw[<- qa k];exact W) ht;have kC:=V.th t (kE ht);obtain⟨bp,nv,rg,lv,ds,xl,sO,hB,Da,hlr⟩:=mj.rd Vy;obtain⟨bsv,Cz,uW,hBL⟩:=hB;have ct0:=sO.cell (o:=0) rfl;have Y:=sO.cell (o:=3) rfl;have Hh:=xl.2.1.1;have Ge:=alm kC.p;have wC:(u3 (k+1)).any (λi=>match m.l[i]? with|some t=>!mM t|none=>false)=((u3 k).any (λi=>match m.l[i]? with|some t=>!mM t|none=>false)||!mM t):=(Vk _ k).trans (by rw[ht]);refine⟨λw'=>St w aZ [bY b3 (j0 (⟨m.bZ,m.fault,m.jd,(decide (m.fault=0)&&!(u3 (k+1)).any λi=>match m.l[i]? with|some t=>!mM t|none=>false),false⟩:hG)),bY b2 (j0 (⟨0,0,0,false,false⟩:hG))] w',?_,?_⟩
  rotate_left
  .intro w9 u _;exact aN cK ⟨_,cK,k+1,rfl,rfl,cK,u⟩
  refine⟨λjv w'=>jv=.bool (!mM t)/\w'=w4,?_,?_⟩
  .refine aE (aA oS (bO Ed (U.ext u.aG) (aQ Gn (B.ll.ext u.aG) cK W λq hq=>aD G3 hq (aE (aA kP (bO uD (ct0.ext u.aG) (aK nz (hlr.ext u.aG) (cO (aC (λ_=>⟨vb (by unfold mM;rw[fN (show ¬ t.cG.length=0 from cK)];rfl),rfl⟩) λM=>aE (aA oS ?_))))))))));refine bO Ed (U.ext u.aG) (aQ Gn (B.ll.ext u.aG) cK W λq hq=>aD G3 hq (aE (aA nA (bO yK (Y.ext u.aG) (aE (aA gZ (bO iO (uW.ext u.aG) (aK fT (hBL.ext u.aG) (cO ?_)))))))))
   refine⟨vb ?_,rfl⟩;unfold mM;rw[ez (show t.cG.length=0 from cK),yU,<- decide_not];exact ga.2 cK
  rintro _ _ ⟨rfl,rfl⟩ vS;refine aY (λE=>?_) (λE=>?_)
  .refine aA qo (aT u Ap (dL rfl) rfl λ_ u=>?_);rw[wC,E,Bool.or_true,Bool.not_true,Bool.and_false];exact u
  rw[wC,E,Bool.or_false];exact u
 have O:(decide (m.fault=0)&&!(u3 k).any λi=>match m.l[i]? with|some t=>!mM t|none=>false)=lB m:=by unfold lB;rw[show k=m.l.length from cK];rfl
 rw[O]at u
 have vE:∀(b:Bool) (w':World),mN m=b->St w aZ [bY b3 (j0 (⟨m.bZ,m.fault,m.jd,lB m,b⟩:hG)),bY b2 (j0 (⟨0,0,0,false,false⟩:hG))] w'->St w aZ [bY b3 (j0 (iU m)),bY b2 (j0 (⟨0,0,0,false,false⟩:hG))] w':=λb w' h1 h2=>by
  subst h1;exact h2
 refine⟨λw'=>St w aZ [bY b3 (j0 (iU m)),bY b2 (j0 (⟨0,0,0,false,false⟩:hG))] w',?_,?_⟩
 .refine aE (aA xZ (bO bM (J.ext u.aG) (aH (aC (λM=>?_) λM=>?_))));rotate_left
  .exact aA qp (aT u Ap (dL rfl) rfl λ_ u=>vE false _ (by unfold mN;rw[fN M];rfl) u)
  refine aA qo (aB (v:=.bool (lB m)) Ap u.hb rfl (bR (aY (λE=>?_) λE=>?_)));rotate_left
  .exact aA qp (aT u Ap (dL rfl) rfl λ_ u=>vE false _ (by unfold mN;rw[show lB m=true from by simpa using E];simp) u)
  refine dY arZ u (C22 K p m _ (hm.ext u.aG) (λ_ e=>hw _ (u.aG.then e)) V) (λx45 w7 cL u=>?_);obtain⟨Z,aaY,aaZ⟩:=u.dl;refine aK gg aaY ?_;rw[show Z.length=(gU m).length from aaZ.1];exact aH (have u:=u.drop;aA qp (aT u Ap (dL rfl) rfl λ_ u=>vE (decide (((gU m).length:Int)=0)) _ (by unfold mN;rw[ez M,show lB m=false from by simpa using E];rfl) u))
 intro w9 u vS;exact aD (x:=iU m) yL u.At (aI (x:=iU m) u.p1 yL rfl rfl λ_ u=>aD (x:=iU m) yL u.At ⟨rfl,u.drop.drop.aG⟩)
def C75(K:hM)(p:Nat)(m:gN)(w:World)(hm:Has (qP K p m) w)(hw:∀w',Ext w w'->K w')(I:oK m)(hvo:J4 m)(Df:m.mem.dU=eW m.p):CR 75 [.pointer (some ⟨p,0,none⟩)] w (λv w'=>lh (bH v (fe m)) w w'):=by
 obtain⟨a,E⟩:=qP.rd hm;have B:=E.b.cell (o:=5) rfl;have GD:=E.b.cell (o:=8) rfl;have iV:=qN m.p;have azi:m.mem.l.length=(iu m.p).length:=by rw[I.mem.ll,Df];unfold eW;grind
 have EZ:(cT m.p).length=(iu m.p).length:=by unfold cT;grind
 have T0:(iu m.p).length<=20:=by have:=I.mem.fl;have:=I.mem.ll;omega
 have hcb:=I.pz.dS;have Z:=I.pz.zc;obtain⟨g0,g1,g2,g3,g4,g5,V,_,_,_,_,_,Hh⟩:=E.uk.pr _ (hw _ (Ext.refl _));rw[V]at B;obtain⟨G,CW,yW⟩:=Hh.open;have Vx:=yW.1;obtain⟨ov,fv,lv,kv,wv,ws,jZ,sV,hmo,hmf,CB,asf,hmw⟩:=E.mem.ex;have u:=St.start w;refine akP _ _ _ ?_;unfold S75;refine bD ([]:List Bool) u uB rfl rfl (dL rfl) (λs8 _ u=>aE (aA oR (qi a.pv er (mT.ext E.b u.aG) rfl (aV IE u (C62 m.p a.pv _ (E.uk.pr _ (hw _ u.aG)) I.pz) λ_ he u=>?_))));refine⟨λmm o y w'=>∃k:Nat,y=hZ (k:Int)/\mm=G.length-k/\k<=G.length/\St w aZ [bH o ((m.p.dS.take k).map (pk m))] w',⟨_,0,rfl,rfl,l1 _,u⟩,?_⟩
 rintro mm o _ _ ⟨k,rfl,rfl,hk,u⟩ _;refine aE (aA oR (aA jw (bO qQ (B.ext u.aG) (aK sX (CW.ext u.aG) (aR (aC (λc1=>?_) λc1=>?_))))));rotate_left
 .rw[kO cK]at u;exact u.fresh
 obtain⟨ct,J⟩:=gx G (i:=((k:Nat):Int).toNat) cK;obtain⟨cl,O⟩:=gx m.p.dS (i:=((k:Nat):Int).toNat) cK;obtain⟨ge,rfl,OC⟩:=yW.2 _ ct cl J O;obtain⟨W,azl⟩:=Z cl (kE O);refine⟨λjv w'=>St w aZ [bH jv ((m.p.dS.take (k+1)).map (pk m))] w',?_,?_⟩;rotate_left
 .rintro o2 _ u _;exact aN cK ⟨_,cK,k+1,rfl,rfl,cK,u⟩
 have u:=u.drew;refine aE (aA oR (aA jw (bO qQ (B.ext u.aG) (aQ sX CW cK J λq hq=>bW ge vl hq rfl rfl λq2 Gc=>aD jx (Gc.ext u.aG) (aE (aA oR (qi a.pv er (mT.ext E.b u.aG) rfl (aE (aA tm (bO qn (GD.ext u.aG) ?_))))))))));refine aE (aA rX (bO eg ((sV.cell (o:=2) rfl).ext u.aG) (l8 cS CB cK cK λs49 h49=>dY KF u (C124 m.p a.pv _ (E.uk.pr _ (hw _ u.aG)) I.pz) λx38 _ cL u=>?_)));refine⟨aF qQ (B.ext u.aG),?_⟩;refine⟨eN jx (Gc.ext u.aG),?_⟩
 refine⟨aF qn (GD.ext u.aG),?_⟩;refine⟨aF eg ((sV.cell (o:=2) rfl).ext u.aG),?_⟩;refine l8 iC u.dX cK cK (λs40 U=>aV ahc u (C146 _ _ _ cl.e (gn m.p) (m.mem.l.take (ey m.p).toNat) _ (DL.flat (OC.ext u.aG)) U (h49.ext u.aG) W (by unfold gn;rw[l0];omega) azl (hvo.mem.l.take _)) λ_ he u=>aO rfl (aO rfl (aH ?_)));have M:pk m cl=(decide ((pR (gn m.p) (m.mem.l.take (ey m.p).toNat) cl.e).2=0)&&decide ((pR (gn m.p) (m.mem.l.take (ey m.p).toNat) cl.e).1≠0)):=rfl;refine aC (λY=>?_) (λY=>?_)
 .refine bV (bD (([pk m cl]):List Bool) u uB rfl (by rw[M,ez Y,yU];rfl) (dL rfl) λs47 w7 u=>?_);have QZ:=u.dX;refine bJ u.p2 uB QZ (by rw[n0,l0,mv];omega) ee (λs48 w8 u=>?_);rw[<- gd (k:=k) O];exact u.p1.drop.p1.drop
 refine bD (([pk m cl]):List Bool) u uB rfl (by rw[M,fN Y,P7];rfl) (dL rfl) (λs47 w7 u=>?_);have QZ:=u.dX;refine bJ u.p2 uB QZ (by rw[n0,l0,mv];omega) ee (λs48 w8 u=>?_);rw[<- gd (k:=k) O];exact u.p1.drop.p1.drop
variable (w:World) (K:Value->hM)
def azo:dI:=λi=>match i with
 | 2=>(.op 0 [] (.op 1 [] (.op 2 [] (.op 4 [] (.alt 3 [1,4] (.alt 5 [1] (.of [(6,[]),(7,[]),(8,[1,4]),(9,[])]) (.alt 8 [1,4] (.of [(5,[1]),(6,[]),(7,[]),(9,[])]) .stop)) (.alt 8 [1,4] (.of [(3,[1,4]),(5,[1]),(6,[]),(7,[]),(9,[])]) .stop))))))
 | 5=>(.of [(0,[]),(1,[]),(2,[]),(3,[1]),(4,[]),(5,[])])
 | _=>.nil
theorem azp:PL 40:=dK Tryz.func40
theorem asu:PL 101:=dK Tryz.func101
theorem asv:PL 102:=dK Tryz.func102
theorem asw:PL 172:=dK Tryz.func172
end Go.Proofs.YtpdlpabnlkofmaaGreatDoor
namespace Go.Proofs.YtpdlpabnlkofmaaGreatDoor
open Go.Fw
def qY:pr hH (l4 63 [].toArray)=some (.agg [hZ 0,hZ 0,hZ 0,.slice none 0 0].toArray):=by kernel_rfl
def lg(B:Int)(E:Option Addr)(u G:Nat):pr hH (l4 63 [(2,hZ B),(3,.slice E u G)].toArray)=some (.agg [hZ 0,hZ 0,hZ B,.slice E u G].toArray):=by kernel_rfl
def aeY(m:gN)(t:jY)(i:Int)(x:bQ):(eb m t i x).1.bZ=m.bZ:=by
 unfold eb
 repeat' split
 all_goals first|rfl|(unfold rJ;split<;>rfl)
theorem aa0(m:gN)(i:Int):(iy m i).1.bZ=m.bZ:=by
 unfold iy
 repeat' split
 all_goals first|rfl|exact aeY _ _ _ _
def alq(m:gN)(q:aS):m.bZ<=(n8 m q).1.bZ/\(n8 m q).1.bZ<=m.bZ+1:=by
 unfold n8
 split
 .show m.bZ<=m.bZ+1/\m.bZ+1<=m.bZ+1;omega
 split
 .split
  .split<;>(show m.bZ<=m.bZ/\m.bZ<=m.bZ+1)<;>omega
  show m.bZ<=(iy m q.t).1.bZ/\(iy m q.t).1.bZ<=_;rw[aa0];omega
 grind
structure wz(p:cE)(n:Nat)(m:gN):Prop where
 ok:oK m
 pr:m.p=p
 mb:MB m.mem n
 cr:0<=m.bZ/\m.bZ<=n
def wz.step{p:cE}{n:Nat}{m:gN}{q:aS}(h:wz p n m)(hc:GC p):wz p (n+1) (n8 m q).1:=by
 obtain⟨h1,h2,h3⟩:=akJ (q:=q) h.ok (h.pr▸hc)
 have h4:=alq m q
 have h5:=h.cr
 exact⟨h1,h2.trans h.pr,h3 _ h.mb,cK,cK⟩
def wz.new{p:cE}{room:Int}(u:PZ p)(hc:GC p)(B:1<=room/\room<=16):wz p 0 (gY p room):=
 ⟨aeD u hc B,rfl,λk=>Nat.le_of_eq rfl,NI 0,NI 0⟩
def aeZ(m:gN)(t:jY)(x:bQ):(rJ m t x).mem.dU=m.mem.dU:=by
 unfold rJ;split
 .exact ug _ _ _
 rfl
def ae0(m:gN)(t:jY)(i:Int)(x:bQ):(eb m t i x).1.mem.dU=m.mem.dU:=by
 unfold eb
 repeat' split
 all_goals first|rfl|exact aeZ _ _ _
def aa1(m:gN)(i:Int):(iy m i).1.mem.dU=m.mem.dU:=by
 unfold iy
 repeat' split
 all_goals first|rfl|exact ae0 _ _ _ _
def Q0{m:gN}(u:oK m)(q:aS):(n8 m q).1.mem.dU=m.mem.dU:=by
 unfold n8
 split
 .rfl
 split
 .split
  .split
   .exact(H8 u.mem).2.2
   rfl
  exact aa1 _ _
 rfl
def tg(c:Int):gN->List cB->List aS->gN×List cB×Int
 | m,o,[]=>(m,o,0)
 | m,o,q::r=>if q.kind=3/\c<=m.bZ then(m,o,14)else if (n8 m q).2.2≠0 then((n8 m q).1,o,(n8 m q).2.2)else tg c (n8 m q).1 (o++[(n8 m q).2.1]) r
def eO(p:cE)(room c:Int):Int:=if fm p≠0 then fm p else if room<1\/16<room then 1 else if c<0\/8<c then 1 else 0
def ae1(x y:aJ)(h:j0 x=j0 y):x=y:=by
 obtain⟨a,b,c,⟨d,n,k⟩⟩:=x
 obtain⟨B,b2,u,⟨I,E,G⟩⟩:=y
 simp[j0,ia]at h
 simp[h]
def ae2(x y:bE)(h:j0 x=j0 y):x=y:=by
 obtain⟨a,b,c,⟨d,n,k⟩,⟨U,O,I⟩,e,f,g,i⟩:=x
 obtain⟨a2,b2,Z,⟨M,W,V⟩,⟨B,u,E⟩,G,f2,J,Y⟩:=y
 simp[j0,ia]at h
 simp[h]
def ae3(x y:cH)(h:j0 x=j0 y):x=y:=by
 obtain⟨a,⟨d,n,k⟩,⟨O,M,I⟩,e⟩:=x
 obtain⟨W,⟨J,V,U⟩,⟨B,u,E⟩,G⟩:=y
 simp[j0,ia]at h
 simp[h]
def Bw.of{B:Nat->Prop}{w:World}{lv:SV}{qS:List cN}(h:∀w',nO B w w'->DL w' (ia lv) qS):Bw (nO B w) lv qS:=by
 obtain⟨Y,U,ht⟩:=nO.fix ae3 h
 refine⟨Y,λw' u=>(ht w' u).1,U,λj G t h1 h2=>?_⟩
 have M:∀w',nO B w w'->mh w' G t:=λw' u=>(ht w' u).2.2 j G t h1 h2
 obtain⟨O,J,rfl,_,_⟩:=M w (nO.refl _ _)
 have E:∀w',nO B w w'->DL w' (ia O) t.dQ/\DL w' (ia J) t.body:=λw' u=>by
  obtain⟨W,Z,e,h4,h5⟩:=M w' u
  grind
 obtain⟨rows,_,I⟩:=nO.fix ae2 λw' u=>(E w' u).2
 exact⟨O,J,rows,rfl,λw' u=>DL.flat (E w' u).1,λw'=>⟨λV u=>(I V u).2,λu=>(I w' u).1⟩⟩
def Io.of{B:Nat->Prop}{w:World}{pv:bP}{p:cE}(h:∀w',nO B w w'->mh w' pv p):Io (nO B w) pv p:=by
 obtain⟨J,U,O,G,I,Y,rfl,_⟩:=h w (nO.refl _ _)
 have E:∀w',nO B w w'->DL w' (ia G) p.threads/\DL w' (ia I) p.recover:=λw' u=>by
  obtain⟨W,Z,a2,M,V,a5,e,_,_,_,h4,h5,_⟩:=h w' u
  grind
 exact⟨h,Bw.of λw' u=>(E w' u).1,Bw.of λw' u=>(E w' u).2⟩
def Bw.mono{K K2:hM}{lv:SV}{qS:List cN}(h:Bw K lv qS)(u:∀w,K2 w->K w):Bw K2 lv qS:=by
 obtain⟨B,h1,h2⟩:=h
 exact⟨B,λw E=>h1 w (u w E),h2.mono u⟩
def Io.mono{K K2:hM}{pv:bP}{p:cE}(h:Io K pv p)(u:∀w,K2 w->K w):Io K2 pv p:=⟨λw B=>h.pr w (u w B),h.th.mono u,h.rc.mono u⟩
def F8(K:hM)(lv:Value)(l:List aS):Prop:=∃ts:List aJ,∀w,K w->dC (λ_=>True) w lv ts/\iq ts l w
def F8.of{u:Nat->Prop}{w:World}{lv:Value}{l:List aS}(h:∀w',nO u w w'->DL w' lv l):F8 (nO u w) lv l:=by
 obtain⟨ts,_,ht⟩:=nO.fix ae1 h
 exact⟨ts,ht⟩
def F8.mono{K K2:hM}{lv:Value}{l:List aS}(h:F8 K lv l)(u:∀w,K2 w->K w):F8 K2 lv l:=by
 obtain⟨ts,h1⟩:=h
 exact⟨ts,λw B=>h1 w (u w B)⟩
def F8.nil(K:hM):F8 K (.slice none 0 0) []:=⟨[],λw _=>⟨dC.nil _ _,iq.nil⟩⟩
def wz.mono{p:cE}{a b:Nat}{m:gN}(h:wz p a m)(u:a<=b):wz p b m:=⟨h.ok,h.pr,h.mb.mono u,by have:=h.cr;omega⟩
theorem zb{α:Type}{xs:List α}{k:Nat}{x:α}(h:xs[k]?=some x):xs.drop k=x::xs.drop (k+1):=by
 obtain⟨h1,h2⟩:=kp.1 h
 rw[List.drop_eq_getElem_cons h1,h2]
def ve(l:List Bool):Nat:=(l.takeWhile id).length
def yC(l:List Bool):Int:=if ve l<l.length then(ve l:Int)else -1
def ae4{l:List Bool}{k:Nat}{b:Bool}(h:l[k]?=some b)(hb:b=true)(u:ve l=k+ve (l.drop k)):ve l=k+1+ve (l.drop (k+1)):=by
 rw[u,zb h,hb]
 show k+(ve (l.drop (k+1))+1)=_
 omega
def ae5{l:List Bool}{k:Nat}{b:Bool}(h:l[k]?=some b)(hb:b=false)(u:ve l=k+ve (l.drop k)):yC l=k:=by
 have B:=(kp.1 h).1
 have e:ve l=k:=by rw[u,zb h,hb];rfl
 unfold yC
 omega
def ae6{l:List Bool}{k:Nat}(h:l.length<=k)(u:ve l=k+ve (l.drop k)):yC l = -1:=by
 unfold yC
 omega
def oh(m:gN):Int×Int:=if m.fault≠0 then(3,m.fault)else if mN m=true then(4,0)else if lB m=true then(if 0<=yC (fe m)then(2,yC (fe m))else(1,0))else(0,0)
def xQ(m:gN):aS:=⟨(oh m).1,(oh m).2,m.bZ,m.mem.l.take (ey m.p).toNat⟩
section
variable {m:gN}
theorem aa2(h:m.fault≠0):oh m=(3,m.fault):=by unfold oh;grind
theorem aa3(h:¬ m.fault≠0)(h2:mN m=true):oh m=(4,0):=by unfold oh;grind
theorem aa4(h:¬ m.fault≠0)(h2:mN m=false)(h3:lB m=true)(h4:0<=yC (fe m)):oh m=(2,yC (fe m)):=by grind[oh,yC,fe]
theorem aa5(h:¬ m.fault≠0)(h2:mN m=false)(h3:lB m=true)(h4:¬ 0<=yC (fe m)):oh m=(1,0):=by grind[oh]
theorem aa6(h:¬ m.fault≠0)(h2:mN m=false)(h3:lB m=false):oh m=(0,0):=by grind[oh]
end
def zE:aS:=⟨0,0,0,[]⟩
def px(p:cE)(room c:Int)(l:List aS):aS×List cB×Int×Int:=
 if eO p room c≠0 then(zE,[],eO p room c,0)
 else if (tg c (gY p room) [] l).2.2≠0 then(zE,[],(tg c (gY p room) [] l).2.2,((tg c (gY p room) [] l).2.1.length:Int))
 else(xQ (tg c (gY p room) [] l).1,(tg c (gY p room) [] l).2.1,0,0)
theorem J9{p:cE}{room c:Int}{l:List aS}(h:eO p room c≠0):px p room c l=(zE,[],eO p room c,0):=by unfold px;grind
theorem alr{p:cE}{room c:Int}{l:List aS}(h:eO p room c=0)(h2:(tg c (gY p room) [] l).2.2≠0):px p room c l=(zE,[],(tg c (gY p room) [] l).2.2,((tg c (gY p room) [] l).2.1.length:Int)):=by grind[px,zE,tg,gY]
theorem aa7{p:cE}{room c:Int}{l:List aS}(h:eO p room c=0)(h2:(tg c (gY p room) [] l).2.2=0):px p room c l=(xQ (tg c (gY p room) [] l).1,(tg c (gY p room) [] l).2.1,0,0):=by grind[px,xQ,tg,gY]
def wg(w:World):mh w (⟨0,0,0,bX⟩:aJ) zE:=⟨_,rfl,DL.nil w⟩
def C72(K:hM)(p:Nat)(m:gN)(w:World)(G:Has (gp K p m) w)(J:∀w',Ext w w'->K w')(I:oK m):CR 72 [.pointer (some ⟨p,0,none⟩)] w (λv w'=>lh (bH v m.mem.l) w w'):=by
 obtain⟨a,E⟩:=gp.rd G (J _ (Ext.refl _));have B:=E.b.cell (o:=9) rfl;have u:=St.start w;refine fg Tryz.func72 ?_;exact aE (aA tu (bO KZ (B.ext u.aG) (dY amQ u (C144 a.q m.mem _ (E.mem.ext u.aG) I.mem) λ_ _ _ u=>u.fresh)))
def C172(sv:Value)(xs:List Bool)(w:World)(M:dC (λ_=>True) w sv xs)(U:xs.length<=1073741824):CR 172 [sv,.bool false] w (λv w'=>v=hZ (yC xs)/\Ext w w'):=by
 have u:=St.start w;refine fg Tryz.func172 ?_;refine aK uB (M.ext u.aG) ?_;refine⟨λI y J=>∃k:Nat,y=hZ (k:Int)/\I=xs.length-k/\k<=xs.length/\ve xs=k+ve (xs.drop k)/\St w aZ [] J,⟨_,0,rfl,rfl,l1 _,(Nat.zero_add _).symm,u⟩,?_⟩;rintro I _ J ⟨k,rfl,rfl,W,E,u⟩ _;refine aR (aC (λV=>?_) λ_=>⟨gO (ni .i64) (ae6 cK E).symm,u.aG⟩);obtain⟨e,B⟩:=gx xs (i:=((k:Nat):Int).toNat) cK;refine aQ uB (M.ext u.aG) cK B (λq O=>aD Ap O (Wi KY ?_));rw[qa]at B;exact aY (λG=>⟨gO (ni .i64) (ae5 B (by simpa using G) E).symm,u.aG⟩) (λG=>aN cK ⟨_,cK,k+1,rfl,rfl,cK,ae4 B (by simpa using G) E,u⟩)
def C70(K:hM)(p:Nat)(m:gN)(w:World)(hm:Has (gp K p m) w)(I:∀w',Ext w w'->K w')(B:oK m)(Df:m.mem.dU=eW m.p):CR 70 [.pointer (some ⟨p,0,none⟩)] w (λv w'=>lh (bH v (fe m)) w w'):=by
 obtain⟨a,G⟩:=gp.rd hm (I _ (Ext.refl _));have M:=G.b.cell (o:=6) rfl;have U:=G.b.cell (o:=5) rfl;have iV:=qN m.p;have CB:m.mem.l.length=(iu m.p).length:=by rw[B.mem.ll,Df];unfold eW;grind
 have EZ:(cT m.p).length=(iu m.p).length:=by unfold cT;grind
 have T0:(iu m.p).length<=20:=by have:=B.mem.fl;have:=B.mem.ll;omega
 have hcb:=B.pz.dS;have hcz:=B.pz.zc;obtain⟨g0,g1,g2,g3,g4,g5,Y,_,_,_,_,_,Hh⟩:=G.uk.pr _ (I _ (Ext.refl _));rw[Y]at U;obtain⟨E,CW,yW⟩:=Hh.open;have Vx:=yW.1;have u:=St.start w;refine ajB _ _ _ ?_;unfold S70;refine aE (aA Dp (qi a.pv er (mT.ext G.b u.aG) rfl (aV Yv u (C54 m.p a.pv _ (G.uk.pr _ (I _ u.aG)) B.pz) λ_ he u=>aE (aA Dp (aA jw (bO qQ (U.ext u.aG) (aK sX (CW.ext u.aG) ?_)))))));refine⟨λmm o y w'=>∃k:Nat,y=hZ (k:Int)/\mm=E.length-k/\k<=E.length/\St w aZ [bH o ((m.p.dS.take k).map (pk m))] w',⟨_,0,rfl,rfl,l1 _,u.eL⟩,?_⟩
 rintro mm o _ _ ⟨k,rfl,rfl,hk,u⟩ _;refine aR (aC (λc1=>?_) λc1=>?_);rotate_left
 .rw[kO cK]at u;exact u.fresh
 obtain⟨ct,J⟩:=gx E (i:=((k:Nat):Int).toNat) cK;obtain⟨cl,V⟩:=gx m.p.dS (i:=((k:Nat):Int).toNat) cK;obtain⟨ge,rfl,OC⟩:=yW.2 _ ct cl J V;have Z:=(hcz cl (kE V)).1;refine⟨λjv w'=>St w aZ [bH jv ((m.p.dS.take (k+1)).map (pk m))] w',?_,?_⟩;rotate_left
 .rintro o2 _ u _;exact aN cK ⟨_,cK,k+1,rfl,rfl,cK,u⟩
 refine aQ sX (CW.ext u.aG) cK J (λq hq=>aD IP hq (aM u OI λb6 _ u=>aI (x:=(⟨ge,cl.at_⟩:jA)) u IP rfl rfl λ_ u=>have u:=u.drew;aA vl (aB (v:=ia (ge:SV)) jx u.hb rfl (aE (aA IT (bO jk (M.ext u.aG) (jR iC (G.uk.cs _ (I _ u.aG)) cK cK λs32 W=>dY ajF u (C72 K p m _ (hm.ext u.aG) (λ_ e=>I _ (u.aG.then e)) B) λx34 _ cL u=>?_)))))));refine⟨aF jx (u.p1.hb.cell rfl),?_⟩;refine⟨aF jk (M.ext u.aG),?_⟩;refine l8 cS u.dX cK cK (λs36 h36=>aV agi u (C143 _ _ _ cl.e _ _ _ (DL.flat (OC.ext u.aG)) (W _ (G.uk.cs _ (I _ u.aG))) h36 Z (by rw[l0];omega)) λ_ he u=>aO rfl (aO rfl (aH ?_)))
 have O:pk m cl=(decide ((pR ((cT m.p).take (ey m.p).toNat) (m.mem.l.take (ey m.p).toNat) cl.e).2=0)&&decide ((pR ((cT m.p).take (ey m.p).toNat) (m.mem.l.take (ey m.p).toNat) cl.e).1≠0)):=rfl;refine aC (λc2=>?_) (λc2=>?_)
 .refine bV (bD (([pk m cl]):List Bool) u uB rfl (by rw[O,ez c2,yU];rfl) (dL rfl) λs47 w7 u=>?_);have QZ:=u.dX;refine bJ u.p3 uB QZ (by rw[n0,l0,mv];omega) ee (λs48 w8 u=>?_);rw[<- gd (k:=k) V];exact u.p1.drop.p1.drop.p1.drop
 refine bD (([pk m cl]):List Bool) u uB rfl (by rw[O,fN c2,P7];rfl) (dL rfl) (λs47 w7 u=>?_);have QZ:=u.dX;refine bJ u.p3 uB QZ (by rw[n0,l0,mv];omega) ee (λs48 w8 u=>?_);rw[<- gd (k:=k) V];exact u.p1.drop.p1.drop.p1.drop
def C102(K:hM)(p:Nat)(m:gN)(pv:bP)(w:World)(V:Has (gp K p m) w)(M:∀w',Ext w w'->K w')(E:oK m)(Df:m.mem.dU=eW m.p)(hp:mh w pv m.p):CR 102 [ia pv,.pointer (some ⟨p,0,none⟩)] w (λv w'=>∃ev:aJ,v=ia ev/\lh (eD λw=>mh w ev (xQ m)) w w'):=by
 have iV:=qN m.p;have hcb:=E.pz.dS;have CB:m.mem.l.length=(iu m.p).length:=by rw[E.mem.ll,Df];unfold eW;grind
 have u:=St.start w;refine oM Tryz.func102 (pl:=azo) ?_;refine cI (x:=pv) u (λb2 _ u=>aM u gQ λb4 _ u=>have u:=u.enc (cs':=j0 (⟨0,0,0,bX⟩:aJ)) rfl;aV ajE u (C68 K p m _ (V.ext u.aG) (λ_ e=>M _ (u.aG.then e)) E) λ_ O u=>aM u yb λb5 _ u=>aI (x:=iU m) u yL rfl rfl λ_ u=>?_);have u:=u.drew;refine⟨λW w'=>∃(b6:Nat) (sv:SV),W=.pointer (some ⟨b6,0,none⟩)/\St w aZ [bY b6 (j0 (⟨0,0,m.bZ,sv⟩:aJ)),bH (ia (sv:SV)) (m.mem.l.take (ey m.p).toNat),bY b5 (j0 (iU m)),bY b4 (j0 (⟨0,0,0,bX⟩:aJ)),bY b2 (j0 pv)] w',?_,?_⟩
 .refine aA Lb (aB (v:=hZ m.bZ) bM u.hb rfl (aD er u.p2.At ⟨dY ajF u (C72 K p m _ (V.ext u.aG) (λ_ e=>M _ (u.aG.then e)) E) (λY w6 cL u=>⟨aF bM (u.p1.hb.cell rfl),⟨eN er u.p3.At,⟨?_,?_,trivial⟩⟩⟩),?_,trivial⟩))
  .refine aV Yv u (C54 m.p pv _ (Lv hp u.aG) E.pz) (λw7 O u=>?_);refine⟨aF bM (u.p1.hb.cell rfl),?_⟩;refine sg cS u cK cK (λI u=>?_);obtain⟨sv,rfl⟩:=u.fJ;refine pop (lg m.bZ _ _ _) (aM u gQ λb6 w8 u=>?_);refine⟨aF bM (u.p2.hb.cell rfl),?_⟩;refine⟨eN er u.p4.At,?_⟩;exact aI (x:=(⟨0,0,m.bZ,sv⟩:aJ)) u eX rfl rfl (λ_ u=>⟨b6,_,rfl,u⟩)
  .refine aM u gQ (λb6 w8 u=>?_);refine⟨aF bM (u.p2.hb.cell rfl),?_⟩;refine⟨eN er u.p4.At,?_⟩;refine aV Yv u (C54 m.p pv _ (Lv hp u.aG) E.pz) (λw7 O u=>?_);refine⟨aF bM (u.p2.hb.cell rfl),?_⟩;refine sg cS u.p1 cK cK (λI u=>?_);obtain⟨sv,rfl⟩:=u.fJ;exact pop (lg m.bZ _ _ _) (aI (x:=(⟨0,0,m.bZ,sv⟩:aJ)) u.p1 eX rfl rfl λ_ u=>⟨b6,_,rfl,u⟩)
  refine aM u gQ (λb6 w8 u=>?_);refine⟨aF bM (u.p1.hb.cell rfl),?_⟩;refine⟨eN er u.p3.At,?_⟩;refine dY ajF u (C72 K p m _ (V.ext u.aG) (λ_ e=>M _ (u.aG.then e)) E) (λY w6 cL u=>?_);refine⟨aF bM (u.p2.hb.cell rfl),?_⟩;refine⟨eN er u.p4.At,?_⟩;refine aV Yv u (C54 m.p pv _ (Lv hp u.aG) E.pz) (λw7 O u=>?_);refine⟨aF bM (u.p2.hb.cell rfl),?_⟩;refine sg cS u cK cK (λI u=>?_);obtain⟨sv,rfl⟩:=u.fJ;exact pop (lg m.bZ _ _ _) (aI (x:=(⟨0,0,m.bZ,sv⟩:aJ)) u.p1 eX rfl rfl λ_ u=>⟨b6,_,rfl,u⟩)
 rintro _ _ ⟨b6,sv,rfl,u⟩ _;refine dY axN u (C70 K p m _ (V.ext u.aG) (λ_ e=>M _ (u.aG.then e)) E Df) (λx19 _ cL u=>aV asw u (C172 _ (fe m) _ u.dX (by unfold fe;rw[n0];omega)) λZ O u=>?_);have u:=u.drop;refine⟨λw'=>St w aZ [bY b6 (j0 (⟨(oh m).1,(oh m).2,m.bZ,sv⟩:aJ)),bH (ia (sv:SV)) (m.mem.l.take (ey m.p).toNat),bY b5 (j0 (iU m)),bY b4 (j0 (⟨0,0,0,bX⟩:aJ)),bY b2 (j0 pv)] w',?_,?_⟩
 .refine aA As (aB (v:=hZ m.fault) bM u.p2.hb rfl (bV (aC (λG=>?_) λG=>?_)))
  .rw[aa2 G];have u:=u.drew;refine aA As (aB (v:=hZ m.fault) bM u.p2.hb rfl (aA lF (aT u bM (dL rfl) rfl λw20 u=>?_)));refine⟨aF bM (u.p2.hb.cell rfl),?_⟩;exact aA tn (aT u bM (dL rfl) rfl λ_ u=>u)
  refine aA qp (aB (v:=.bool (mN m)) Ap u.p2.hb rfl (aY (λJ=>?_) λJ=>?_))
  .rw[aa3 G J];exact aA lF (aT u bM (dL rfl) rfl λ_ u=>u)
  refine⟨λW w'=>W=.bool (lB m&&decide (0<=yC (fe m)))/\w'=Z,?_,?_⟩
  .exact aA qo (aB (v:=.bool (lB m)) Ap u.p2.hb rfl (aY (λB=>cR ⟨vb (by rw[B,yU]),rfl⟩) λB=>⟨vb (by rw[B];rfl),rfl⟩))
  rintro _ _ ⟨rfl,rfl⟩ _;refine aY (λB=>?_) (λB=>?_)
  .rw[Bool.and_eq_true,decide_eq_true_iff]at B;rw[aa4 G J B.1 B.2];exact aA lF (aT u bM (dL rfl) rfl λ_ u=>aA tn (aT u bM (dL rfl) rfl λ_ u=>u))
  refine aA qo (aB (v:=.bool (lB m)) Ap u.p2.hb rfl (aY (λU=>?_) λU=>?_))
  .rw[U,yU,decide_eq_false_iff_not]at B;rw[aa5 G J U B];exact aA lF (aT u bM (dL rfl) rfl λ_ u=>u)
  rw[aa6 G J U];exact u
 rintro _ u _;exact aD (x:=(⟨(oh m).1,(oh m).2,m.bZ,sv⟩:aJ)) eX u.At (aI (x:=(⟨(oh m).1,(oh m).2,m.bZ,sv⟩:aJ)) u.p3 eX rfl rfl λ_ u=>aD (x:=(⟨(oh m).1,(oh m).2,m.bZ,sv⟩:aJ)) eX u.At (have u:=u.drop.drop.p1.drop.p1.drop.freeze.dN (Ψ:=λw=>mh w (⟨(oh m).1,(oh m).2,m.bZ,sv⟩:aJ) (xQ m)) (λ_ h=>⟨sv,rfl,DL.j1 h⟩);⟨_,rfl,u.fresh⟩))
end Go.Proofs.YtpdlpabnlkofmaaGreatDoor
