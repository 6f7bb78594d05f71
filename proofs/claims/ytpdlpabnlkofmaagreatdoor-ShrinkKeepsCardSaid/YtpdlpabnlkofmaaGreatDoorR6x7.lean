/-
  Part 7.
-/
import Derived.Test.YtpdlpabnlkofmaaGreatDoorR6x6
set_option maxHeartbeats 8000000
set_option linter.all false
set_option maxRecDepth 100000
open Go.Fw.Flat renaming val->ir,enc->j0
open List renaming getElem?_eq_some_iff->kB,mem_of_getElem?->kE,take_of_length_le->kO,getElem?_eq_getElem->la,length_append->lr,length_take->l1,length_singleton->l2,length_map->nc,getElem?_eq_none->nt,append_assoc->nK,getD_eq_getElem?_getD->n3,mem_map->ob,length_cons->oi,mem_cons_self->oj,append_nil->oO,getElem?_map->o1,mem_append->o8,length_drop->rH,replicate->r6,drop_eq_getElem_cons->sk,length_eq_zero_iff->s4,drop_drop->tz,range->tU,take_add_one->uH,getElem?_append_left->u3,nil_append->vK,mem_singleton->v7,drop_eq_nil_of_le->v9,map_append->wk,any_eq_true->wS,mem_of_mem_take->wV,ext_getElem?->xn,filter_append->Bq,map_congr_left->BP,getElem?_set_self->Dh,length_replicate->E2,drop_left->FT,getElem?_set_ne->G3,length_set->HC,getElem?_range->H3,map_map->H4,take_left->Ny,length_range->P8,filter_filter->S4,drop_take->Xj,replicate_succ'->XN,filter->aaV
open Nat renaming zero_le->l0,le_trans->vt,mul_le_mul_right->Ce,not_lt_zero->Nn,lt_or_ge->P5
open Go.Fw.Deep renaming dr->mi
open Go.Instr renaming build->mv
open Go.Value renaming int->nG,tuple->EI
open Option renaming some->n5,toList_some->J7,isSome_iff_exists->Ot
open Int renaming toNat_natCast->pd
open Decidable renaming not_not->u1
open Bool renaming true_and->Av
namespace Go.Proofs.YtpdlpabnlkofmaaGreatDoor
open Go.Fw
theorem yw.ext{w w':World}{p:Nat}{m:Mem}(h:yw w p m)(e:Ext w w'):yw w' p m:=by
 obtain⟨ov,fv,lv,kv,wv,ws,h1,h2,h3,h4,h5,h6,u⟩:=h.ex
 exact⟨ov,fv,lv,kv,wv,ws,h1,h2.of_eq (e.bW _ h2.lt λx=>x),h3.ext e,h4.ext e,h5.ext e,h6.ext e,u.ext e⟩
def OZ{w:World}{p:Nat}{m:Mem}{ov fv lv kv wv:Value}{ws:List nq}(h1:qh ws m)(h2:nh w p [ov,fv,lv,kv,wv])(h3:dD (λ_=>True) w ov m.of)(h4:dD (λ_=>True) w fv m.eg)
  (h5:dD (λ_=>True) w lv m.l) (h6:dD (λ_=>True) w kv m.kept) (u:dD (λ_=>True) w wv ws):yw w p m:=⟨ov,fv,lv,kv,wv,ws,h1,h2,h3,h4,h5,h6,u⟩
section
variable {ws:List nq}{m:Mem}{x:nq}{L:Nat}
theorem sy(u:qh ws m)(E:vI m)(B:x∈ws):0<=x.line/\x.line<gh m.of/\0<=x.cell/\x.cell<m.of.length:=by
 obtain⟨G,h1⟩:=u.2 x B
 have h2:=E.ofr _ (kE h1)
 grind
theorem Jj(f:nq->Bool):∀l:List nq,l.length=(l.filter f).length+(l.filter λx=>!f x).length
 | []=>rfl
 | x::l=>by
  have u:=Jj f l
  grind
theorem O0(N:Nat):∀(L:Nat) (ws:List nq),(∀x∈ws,0<=x.line/\x.line<L)->(∀n:Int,(ws.filter λx=>decide (x.line=n)).length<=N)->ws.length<=L*N
 | 0,ws,h,_=>by
  cases ws with
  | nil=>simp
  | cons x r=>have:=h x (oj ..);omega
 | L+1,ws,h,u=>by
  have E:=O0 N L (ws.filter λx=>!decide (x.line=(L:Int))) (λx B=>by
   grind) (λn=>by
   refine vt ?_ (u n)
   have e:∀p q:nq->Bool,(ws.filter q).filter p=(ws.filter p).filter q:=λp q=>by
    rw[S4,S4]
    grind
   grind)
  have e:=Jj (λx=>decide (x.line=(L:Int))) ws
  have:=u L
  grind
theorem Cc{N:Nat}(u:qh ws m)(B:vI m)(hb:MB m N):ws.length<=20*N:=by
 have h1:=O0 N (gh m.of).toNat ws (λx E=>by have:=sy u B E;omega) λn=>by
  have:=hb n
  rw[u.1,nc]at this
  exact this
 have:=B.lb
 exact vt h1 (Ce _ cO)
def AG(ws:List nq)(L:Nat):List Int:=(tU L).map fun (i:Nat)=>(((ws.filter λx=>decide (x.line=(i:Int))).length:Nat):Int)
theorem yx:(AG ws L).length=L:=by simp[AG]
theorem abU(L:Nat):r6 L (0:Int)=AG [] L:=by
 unfold AG
 simp[List.map_const']
theorem EO{i:Nat}(h:i<L):(AG ws L)[i]?=some (((ws.filter λx=>decide (x.line=(i:Int))).length:Nat):Int):=by
 unfold AG;rw[o1,H3 h];rfl
theorem amK{i:Nat}{e:Int}(h:(AG ws L)[i]?=some e):0<=e/\e<=ws.length:=by
 have hi:i<L:=by have:=(kB.1 h).1;rwa [yx]at this
 rw[EO hi]at h
 grind
theorem Wy{k:Nat}{e:Int}(E:ws[k]?=some x)(G:0<=x.line)(h1:x.line<L)(B:(AG (ws.take k) L)[x.line.toNat]?=some e) :
  (AG (ws.take k) L).set x.line.toNat (e+1)=AG (ws.take (k+1)) L:=by
 have ht:ws.take (k+1)=ws.take k++[x]:=by rw[uH,E];rfl
 apply xn
 intro i
 by_cases hi:i<L
 .rw[EO hi,ht,Bq,lr]
  by_cases u:i=x.line.toNat
  .subst u
   rw[Dh (by rw[yx];exact hi)]
   rw[EO hi]at B
   have I:([x].filter λx=>decide (x.line=((x.line.toNat:Nat):Int)))=[x]:=by
    have:((x.line.toNat:Nat):Int)=x.line:=cO
    simp[aaV,this]
   have:((x.line.toNat:Nat):Int)=x.line:=cO
   simp only[this]at B |-
   simp only[n5.injEq]at B
   simp[aaV,B]
  rw[G3 (Ne.symm u),EO hi]
  have:¬ x.line=(i:Int):=cO
  simp[aaV,this]
 rw[nt (by rw[HC,yx];omega),nt (by rw[yx];omega)]
def uy(m:Mem):List Int:=(xi m).map fun (k:Nat)=>(k:Int)
theorem abV(u:qh ws m):AG ws (gh m.of).toNat=uy m:=by
 unfold AG uy xi Gy
 rw[H4]
 refine BP λi _=>?_
 simp[u.1]
theorem Jk:(uy m).length=(gh m.of).toNat:=by unfold uy;rw[nc,EC]
end
section
variable {ws:List nq}{m:Mem}{x:nq}
theorem RY{cell n u:Int}{l:List Int}(B:qh ws m)(G:0<=cell)(h1:m.of[cell.toNat]?=some u) :
  qh (ws++[⟨u,cell,n⟩]) {m with l:=l,fP:=qt m.fP u (m.fP u++[⟨cell,n⟩])}:=by
 refine⟨λk=>?_,λx E=>?_⟩
 .show qt m.fP u (m.fP u++[⟨cell,n⟩]) k=_
  rw[Bq,wk,<- B.1]
  unfold qt
  grind
 rcases o8.1 E with h|h
 .exact B.2 x h
 grind
def oN(line:Int)(ws:List nq):List kD:=(ws.filter λx=>decide (x.line=line)).map λx=>⟨x.cell,x.n⟩
def Ef(line:Int)(ws:List nq):List nq:=ws.filter λx=>!decide (x.line=line)
theorem abW{k:Nat}{line:Int}(h:ws[k]?=some x)(u:x.line=line):oN line (ws.take (k+1))=oN line (ws.take k)++[⟨x.cell,x.n⟩]:=by
 unfold oN;rw[uH,h,J7,Bq,wk];grind
theorem agv{k:Nat}{line:Int}(h:ws[k]?=some x)(u:¬ x.line=line):oN line (ws.take (k+1))=oN line (ws.take k):=by
 unfold oN;rw[uH,h,J7,Bq,wk];grind
theorem abX{k:Nat}{line:Int}(h:ws[k]?=some x)(u:x.line=line):Ef line (ws.take (k+1))=Ef line (ws.take k):=by
 unfold Ef;rw[uH,h,J7,Bq];grind
theorem agw{k:Nat}{line:Int}(h:ws[k]?=some x)(u:¬ x.line=line):Ef line (ws.take (k+1))=Ef line (ws.take k)++[x]:=by
 unfold Ef;rw[uH,h,J7,Bq];grind
theorem abY{k:Nat}{line:Int}:(Ef line (ws.take k)).length<=ws.length:=vt (List.length_filter_le ..) dI
theorem abZ{line:Int}{B:List Int}(u:qh ws m):qh (Ef line ws) {m with kept:=B,fP:=qt m.fP line []}:=by
 refine⟨λk=>?_,λx E=>u.2 x (List.mem_filter.1 E).1⟩
 show qt m.fP line [] k=_
 unfold qt Ef
 rw[S4]
 by_cases G:k=line
 .simp_all
 rw[ej G,u.1]
 grind
theorem Jl(u:qh ws m)(line:Int):oN line ws=m.fP line:=(u.1 line).symm
end
def amL{k:List Int}{a:List kD}:(og k a).length=k.length:=yf a k
def C77(p:Nat)(m:Mem)(w:World)(M:yw w p m)(B:vI m):CR 77 [(.pointer (some ⟨p,0,none⟩))] w (λv w'=>v=hZ (gh m.of)/\Ext w w'):=by
 have IN:=M;obtain⟨ov,fv,lv,kv,wv,ws,j6,G,E,V,D1,Wz,W⟩:=M.ex;have I:=G.cell (o:=0) rfl;have q1:=G.cell (o:=1) rfl;have q2:=G.cell (o:=2) rfl;have Y:=G.cell (o:=3) rfl;have q4:=G.cell (o:=4) rfl;have LB:=B.fl;have Kh:=B.LA;have zp:=B.ll;have Ag:=B.kl;have MS:=B.lb;have Hj:=nu B;have u:=St.start w;refine pj Tryz.func77 (pl:=P77) ?_;refine aE (aA u6 (bN ey (I.ext u.aG) (aK cS (E.ext u.aG) (aH (aC (λ_=>⟨g6 (nG .i64) (by unfold gh;rw[ew cO]),u.aG⟩) λZ=>aE (aA u6 (have u:=u.drew;bN ey (I.ext u.aG) (aE (aA u6 (bN ey (I.ext u.aG) (aK cS (E.ext u.aG) (ft cO ?_))))))))))))
 obtain⟨me,J⟩:=gx m.of (i:=((m.of.length:Int)-1).toNat) cO;refine aQ cS E cO J (λ_ U=>aD bL (U.ext u.aG) ?_);have O:=B.ofr _ (kE J);exact aO cO ⟨g6 (nG .i64) (by unfold gh;rw[ej cO,n3,show m.of.length-1=((m.of.length:Int)-1).toNat from cO,J];rfl),u.aG⟩
def C17(p:Nat)(m:Mem)(w:World)(V:yw w p m)(B:vI m)(hb:MB m 1000000):CR 17 [(.pointer (some ⟨p,0,none⟩))] w (λv w'=>kq (bE v (uy m)) w w'):=by
 have IN:=V;obtain⟨ov,fv,lv,kv,wv,ws,I,E,hmo,hmf,D1,Wz,G⟩:=V.ex;have q0:=E.cell (o:=0) rfl;have q1:=E.cell (o:=1) rfl;have q2:=E.cell (o:=2) rfl;have q3:=E.cell (o:=3) rfl;have U:=E.cell (o:=4) rfl;have LB:=B.fl;have Kh:=B.LA;have zp:=B.ll;have Ag:=B.kl;have MS:=B.lb;have Hj:=nu B;have hwl:=Cc I B hb;have u:=St.start w;refine fj Tryz.func17 ?_;refine aW aoB u (C77 _ m _ (IN.ext u.aG) B) (λY he u=>xu (0:Int) u cS u0 cO cO ee λO _ u=>?_);refine⟨λZ x Y=>∃k:Nat,x=hZ (k:Int)/\Z=ws.length-k/\k<=ws.length/\St w aX [bE O (AG (ws.take k) (gh m.of).toNat)] Y,⟨_,0,rfl,rfl,l0 _,by rw[abU]at u;exact u⟩,?_⟩
 rintro Z _ _ ⟨k,rfl,rfl,hkw,u⟩ _;refine aE (aA kX (bN ub (U.ext u.aG) (aK uc (G.ext u.aG) (aR (aC (λjx=>?_) λjx=>?_)))))
 .refine aE (aA kX (bN ub (U.ext u.aG) ?_));obtain⟨W,J⟩:=gx ws (i:=(k:Int).toNat) cO;refine aQ uc G cO J (λ_ q8=>bX (W).line xw q8 rfl rfl λ_ xI=>aD bL (xI.ext u.aG) ?_);have oD:=sy I B (kE J);have D6:(AG (ws.take k) (gh m.of).toNat).length=(gh m.of).toNat:=yx;obtain⟨rL,M⟩:=gx (AG (ws.take k) (gh m.of).toNat) (i:=((W).line).toNat) cO;refine dT u cS cO cO (λ_ mO=>gq u bL mO M ?_);have hcb:=amK M;have Hk:(ws.take k).length<=ws.length:=by rw[l1];omega
  refine aO cO (dT u cS cO cO λ_ rN=>jA _ u bL rN cO λ_ u=>aO cO ?_);exact⟨_,cO,k+1,rfl,rfl,cO,by rw[<- Wy (k:=k) J oD.1 cO M];exact u⟩
 .rw[kO cO,abV I]at u;exact u.fresh
def C166(p:Nat)(m:Mem)(F:Nat->Prop)(cell n:Int)(w:World)(hF:(gI p m).p w F)(E:vI m)(hb:MB m 1000000):CR 166 [(.pointer (some ⟨p,0,none⟩)),hZ cell,hZ n] w (λv w'=>v=hZ (if HD m cell=true then 0 else 1)/\nd F (gI p (fw m cell n)) w w'):=by
 have u:=St.begin hF;obtain⟨ov,fv,lv,kv,wv,ws,I,u⟩:=gI.open u;have LB:=E.fl;have Kh:=E.LA;have zp:=E.ll;have Ag:=E.kl;have MS:=E.lb;have Hj:=nu E;have hwl:=Cc I E hb;refine pj Tryz.func166 (pl:=aw3) ?_;refine⟨λjv w'=>jv=.bool (decide (cell<0\/m.l.length<=cell))/\w=w',aR (aC (λ_=>⟨Ph cO,rfl⟩) λ_=>aE (aA sH (aB ey u.hb rfl (aK cS u.p3.dW (cT ⟨zi cO,rfl⟩))))),?_⟩;rintro _ _ ⟨rfl,V⟩ _;subst V;refine aC (λU=>?_) (λU=>?_)
 .have u:=u.p5.p5.p5.p5.p5.p5;have G:HD m cell=false:=by unfold HD;rw[decide_eq_false_iff_not];omega
  unfold fw;rw[G];exact⟨rfl,(gI.shut I u).mut⟩
 have G:HD m cell=true:=by unfold HD;rw[decide_eq_true_eq];omega
 refine aE (aA sH (aB ey u.hb rfl ?_));obtain⟨iS,j1⟩:=gx m.l (i:=cell.toNat) cO;refine dT u.p3 cS cO cO (λ_ xI=>jA _ u.p3 bL xI cO λ_ u=>⟨λw'=>St w F [gI p (fw m cell n)] w',aE (aA u6 (aB ey u.p1.hb rfl (aK cS u.p2.dW (aR (aC (λZ=>?_) λZ=>?_))))),?_⟩)
 .refine aE (aA kX (have u:=u.drew;aB ub u.p1.hb rfl (aE (aA u6 (aB ey u.p1.hb rfl ?_)))));obtain⟨J,M⟩:=gx m.of (i:=cell.toNat) cO;refine dT u.p2 cS cO cO (λ_ Y=>gq u.p2 bL Y M (pop (J0 _ _ _) (aV ([(⟨J,cell,n⟩:nq)]) u uc rfl rfl (dQ rfl) λO _ u=>?_)));refine⟨aF ub (u.p2.hb.cell rfl),?_⟩;have W:=u.dW;refine bI u.p6 uc W (by simp;omega) ee (λasH _ u=>have u:=u.p1.drop;aE (aA kX (aT u.p2 ub (dQ rfl) u.dW.one λ_ u=>?_)))
  have u:=u.p5.p2.p3.p5.p5.p5.p4.p5.p5.p5.p5.p5;have B:fw m cell n={m with l:=m.l.set cell.toNat n,fP:=qt m.fP J (m.fP J++[⟨cell,n⟩])}:=by unfold fw;rw[ew G,ew cO,n3,M];rfl
  rw[B];exact gI.shut (m:={m with l:=_,fP:=_}) (RY I cO M) u
 .have u:=u.p5.p5.p2.p5.p5.p5;have B:fw m cell n={m with l:=m.l.set cell.toNat n}:=by unfold fw;rw[ew G,ej cO]
  rw[B];exact gI.shut (m:={m with l:=_}) I u
 intro _ u _;exact⟨by rw[G];rfl,u.mut⟩
def C167(p:Nat)(m:Mem)(F:Nat->Prop)(line:Int)(w:World)(hF:(gI p m).p w F)(E:vI m)(hb:MB m 1000000):CR 167 [(.pointer (some ⟨p,0,none⟩)),hZ line] w (λv w'=>v=hZ (if Gv m line=true then 0 else 1)/\nd F (gI p (oM m line)) w w'):=by
 have u:=St.begin hF;obtain⟨ov,fv,lv,kv,wv,ws,G,u⟩:=gI.open u;have LB:=E.fl;have Kh:=E.LA;have zp:=E.ll;have Ag:=E.kl;have MS:=E.lb;have Hj:=nu E;have hwl:=Cc G E hb;refine pj Tryz.func167 (pl:=aw4) ?_;refine⟨λjv w'=>jv=.bool (decide (line<0\/gh m.of<=line))/\St w F [bW p [ov,fv,lv,kv,wv],bE ov m.of,bE fv m.eg,bE lv m.l,bE kv m.kept,bE wv ws] w',aR (aC (λ_=>⟨vb (by first|exact(ez cO).symm|exact ga.2 cO),u⟩) λ_=>aW aoB u (C77 _ m _ (OZ G u.hb u.p1.dW u.p2.dW u.p3.dW u.p4.dW u.p5.dW) E) λ_ _ u=>cT ⟨vb (by first|exact(ez cO).symm|exact ga.2 cO),u⟩),?_⟩
 rintro _ _ ⟨rfl,u⟩ _;refine aC (λY=>?_) (λY=>?_)
 .have u:=u.p5.p5.p5.p5.p5.p5;have M:Gv m line=false:=by unfold Gv;rw[decide_eq_false_iff_not];omega
  unfold oM;rw[M];exact⟨rfl,(gI.shut G u).mut⟩
 refine aV ([]:List nq) u uc rfl rfl (dQ rfl) (λaiR _ u=>?_);have u:=u.p6.p6.p6.p6.p6.p6.p6;refine⟨λW o x w1=>∃k:Nat,x=hZ (k:Int)/\W=ws.length-k/\k<=ws.length/\St w F [bE o (Ef line (ws.take k)),bW p [ov,fv,lv,kv,wv],bE ov m.of,bE fv m.eg,bE lv m.l,bE kv (og m.kept (oN line (ws.take k))),bE wv ws] w1,⟨_,0,rfl,rfl,l0 _,u⟩,?_⟩;rintro W l5 _ _ ⟨k,rfl,rfl,hkw,u⟩ _;refine aE (aA kX (aB ub u.p1.hb rfl (aK uc u.p6.dW (aR (aC (λiG=>⟨λo w'=>St w F [bE o (Ef line (ws.take (k+1))),bW p [ov,fv,lv,kv,wv],bE ov m.of,bE fv m.eg,bE lv m.l,bE kv (og m.kept (oN line (ws.take (k+1)))),bE wv ws] w',?_,?_⟩) λiG=>?_)))))
 .refine aE (aA kX (aB ub u.p1.hb rfl ?_));obtain⟨J,B⟩:=gx ws (i:=(k:Int).toNat) cO;refine dT u.p6 uc cO cO (λ_ mO=>mL xw mO λ_ tc=>nY J.line u.p6 bL tc B rfl (aH (aC (λI=>?_) λI=>?_)))
  .refine aE (aA A9 (have u:=u.drew;aB ey u.p1.hb rfl (aE (aA kX (aB ub u.p1.hb rfl (dT u.p6 uc cO cO λ_ vu=>mL Mm vu λ_ FI=>nY J.cell u.p6 bL FI B rfl (aE (aA kX (aB ub u.p1.hb rfl (dT u.p6 uc cO cO λ_ ZC=>?_))))))))));refine mL Mn ZC (λ_ O=>nY J.n u.p6 bL O B rfl ?_);have oD:=sy G E (kE B);have Vl:(og m.kept (oN line (ws.take k))).length=m.kept.length:=amL;obtain⟨Yx,Ql⟩:=gx (og m.kept (oN line (ws.take k))) (i:=J.cell.toNat) cO
   refine dT u.p5 cS cO cO (λ_ Bs=>jA _ u.p5 bL Bs cO λ_ u=>?_);have u:=u.p6.p1.p6.p6.p6.p6.p6;rw[abX (k:=k) B I,abW (k:=k) B I,C4];exact u
  refine aE (aA kX (aB ub u.p1.hb rfl (dT u.p6 uc cO cO λ_ Gi=>gq u.p6 X0 Gi B (aV ([J]) u uc rfl rfl (dQ rfl) λatC _ u=>?_))));have Lx:(Ef line (ws.take k)).length<=ws.length:=abY;have U:=u.dW;refine bI u.p1 uc U (by simp;omega) ee (λZ _ u=>?_);have u:=u.p1.drop.p6.p6.p6.p6.p6.p6.p6;rw[agw (k:=k) B I,agv (k:=k) B I];exact u
 .rintro V _ u _;exact aO cO (have u:=u.p6.p6.p6.p6.p6.p6.p6;⟨_,cO,k+1,rfl,rfl,cO,u⟩)
 refine aE (aA kX (aT u.p1 ub (dQ rfl) u.dW.one λ_ u=>?_));have u:=u.p6.drop.p1.p5.p5.p5.p5.p5;have M:Gv m line=true:=by unfold Gv;rw[decide_eq_true_eq];omega
 have Rh:oM m line={m with kept:=og m.kept (m.fP line),fP:=qt m.fP line []}:=by unfold oM;rw[ew M]
 rw[kO cO,Jl G]at u;rw[Rh,M];exact⟨rfl,(gI.shut (m:={m with kept:=_,fP:=_}) (abZ G) u).mut⟩
section
variable {ws:List nq}{m:Mem}{x:nq}{cut:List Int}
def rU(m:Mem)(us:List nq):Mem:={m with fP:=λi=>oN i us}
theorem WA(u:qh ws m):rU m ws=m:=by
 unfold rU
 have:(λi=>oN i ws)=m.fP:=funext λi=>Jl u i
 rw[this]
theorem Jm{j:Nat}{v:Int}:∀(us:List kD) (k:List Int),(∀u∈us,u.cell.toNat≠j)->og (k.set j v) us=(og k us).set j v
 | [],k,_=>rfl
 | u::us,k,h=>by
  show og ((k.set j v).set u.cell.toNat u.n) us=(og (k.set u.cell.toNat u.n) us).set j v
  rw[List.set_comm _ _ (h u (oj ..)).symm,Jm us _ λw B=>h w (List.mem_cons_of_mem _ B)]
theorem Jn(i:Int)(us:List nq)(x:nq):oN i (us++[x])=if x.line=i then oN i us++[⟨x.cell,x.n⟩]else oN i us:=by
 unfold oN;grind
theorem O1{us:List nq}(J:∀y∈us,0<=y.cell/\m.of[y.cell.toNat]?=some y.line)(U:0<=x.cell/\m.of[x.cell.toNat]?=some x.line)(M:0<=x.line)(K:Nat) :
  pb (rU m (us++[x])) cut K=if x.line<K/\((oN x.line us).length:Int)<cut.getD x.line.toNat 0 then(pb (rU m us) cut K).set x.cell.toNat x.n else pb (rU m us) cut K:=by
 induction K with
 | zero=>rw[ej cO];rfl
 | succ K I=>
  rw[vw,vw,I]
  show og _ ((oN (K:Int) (us++[x])).take _)=if _ then(og _ ((oN (K:Int) us).take _)).set _ _ else og _ ((oN (K:Int) us).take _)
  rw[Jn]
  by_cases G:x.line=(K:Int)
  .have E:x.line.toNat=K:=cO
   rw[ew G,ej cO,<- E,show((x.line.toNat:Nat):Int)=x.line from cO]
   by_cases hc:((oN x.line us).length:Int)<cut.getD x.line.toNat 0
   .rw[ew ⟨cO,hc⟩,kO dI,C4,kO cO]
   grind
  .rw[ej G]
   by_cases hc:x.line<(K:Int)/\((oN x.line us).length:Int)<cut.getD x.line.toNat 0
   .rw[ew hc,ew ⟨cO,hc.2⟩,Jm]
    intro u B V
    obtain⟨y,O,rfl⟩:=ob.1 (wV B)
    grind
   grind
def pU(us:List nq)(cut:List Int):List Int:=(tU cut.length).map fun (i:Nat)=>max 0 (cut.getD i 0-((oN i us).length:Int))
theorem vD{us:List nq}:(pU us cut).length=cut.length:=by simp[pU]
theorem Cd{us:List nq}{i:Nat}(h:i<cut.length):(pU us cut)[i]?=some (max 0 (cut.getD i 0-((oN i us).length:Int))):=by
 grind[pU,oN]
theorem WB(h:∀(i:Nat) (c:Int),cut[i]?=some c->0<=c):cut=pU [] cut:=by
 apply xn
 intro i
 by_cases hi:i<cut.length
 .rw[Cd hi,la hi]
  grind[oN]
 grind[pU]
theorem Lo{us:List nq}{l e:Int}(E:0<=l)(u:(pU us cut)[l.toNat]?=some e):l.toNat<cut.length/\e=max 0 (cut.getD l.toNat 0-((oN l us).length:Int)):=by
 have B:l.toNat<cut.length:=by have:=(kB.1 u).1;rwa [vD]at this
 rw[Cd B,show((l.toNat:Nat):Int)=l from cO]at u
 grind
theorem G5{us:List nq}(B:0<=x.line)(E:x.line.toNat<cut.length):pU (us++[x]) cut=(pU us cut).set x.line.toNat (max 0 (cut.getD x.line.toNat 0-((oN x.line us).length:Int)-1)):=by
 apply xn
 intro i
 by_cases hi:i<cut.length
 .rw[Cd hi,Jn]
  by_cases u:i=x.line.toNat
  .subst u
   rw[Dh (by rw[vD];exact hi),ew cO,lr,l2,show((x.line.toNat:Nat):Int)=x.line from cO]
   congr 1;omega
  rw[G3 (Ne.symm u),Cd hi,ej cO]
 rw[nt (by rw[vD];omega),nt (by rw[HC,vD];omega)]
theorem tM{α:Type}{l:List α}{k:Nat}{y:α}(h:l[k]?=some y):l.take (k+1)=l.take k++[y]:=by rw[uH,h];rfl
theorem UB{k:Nat}{e:Int}(u:qh ws m)(J:vI m)(M:(cut.length:Int)=gh m.of)(h:ws[k]?=some x)(I:(pU (ws.take k) cut)[x.line.toNat]?=some e)(h1:0<e) :
  (pU (ws.take k) cut).set x.line.toNat (e-1)=pU (ws.take (k+1)) cut/\(pb (rU m (ws.take k)) cut cut.length).set x.cell.toNat x.n=pb (rU m (ws.take (k+1))) cut cut.length:=by
 have E:=kE h
 have B:=sy u J E
 obtain⟨h2,h3⟩:=Lo B.1 I
 rw[tM h,G5 B.1 h2,O1 (λy G=>u.2 y (wV G)) (u.2 x E) B.1,ew ⟨cO,cO⟩]
 grind
theorem UC{k:Nat}{e:Int}(u:qh ws m)(M:vI m)(h:ws[k]?=some x)(G:(pU (ws.take k) cut)[x.line.toNat]?=some e)(h1:¬ 0<e) :
  pU (ws.take k) cut=pU (ws.take (k+1)) cut/\pb (rU m (ws.take k)) cut cut.length=pb (rU m (ws.take (k+1))) cut cut.length:=by
 have E:=kE h
 have B:=sy u M E
 have I:=G
 obtain⟨h2,h3⟩:=Lo B.1 G
 rw[tM h,G5 B.1 h2,O1 (λy J=>u.2 y (wV J)) (u.2 x E) B.1,ej cO]
 refine⟨?_,rfl⟩
 rw[show max 0 (cut.getD x.line.toNat 0-((oN x.line (ws.take k)).length:Int)-1)=e from cO]
 apply xn
 grind
theorem O2{k:Nat}{e:Int}(u:(uy m)[k]?=some e):e=(m.fP k).length:=by
 unfold uy xi at u
 rw[o1]at u
 have B:k<(gh m.of).toNat:=by
  cases h:(Gy m (gh m.of).toNat)[k]? with
  | none=>grind
  | some y=>have:=(kB.1 h).1;unfold Gy at this;grind
 rw[Gz B]at u
 grind
theorem WC(m:Mem)(cut:List Int):m.kept=pb (rU m []) cut cut.length:=by
 have:∀K,pb (rU m []) cut K=m.kept:=λK=>by
  induction K with
  | zero=>rfl
  | succ K u=>rw[vw,u];simp[rU,oN,og]
 grind
theorem RZ(u:List Int):qh [] (mW m u):=⟨λ_=>rfl,λx h=>by cases h⟩
end
def C92(p:Nat)(m:Mem)(cut:List Int)(cv:Value)(w:World)(hm:yw w p m)(B:vI m)(hb:MB m 1000000)(U:dD (λ_=>True) w cv cut)(Ri:cut.length<=1000):CR 92 [(.pointer (some ⟨p,0,none⟩)),cv] w (λv w'=>(fy m cut=none/\v=.tuple #[.slice none 0 0,hZ 1]/\Ext w w')\/∃ly o,fy m cut=some ly/\v=.tuple #[o,hZ 0]/\kq (bE o ly) w w'):=by
 have IN:=hm;obtain⟨ov,fv,lv,kv,wv,ws,J,V,hmo,hmf,D1,Wz,W⟩:=hm.ex;have q0:=V.cell (o:=0) rfl;have q1:=V.cell (o:=1) rfl;have q2:=V.cell (o:=2) rfl;have G:=V.cell (o:=3) rfl;have q4:=V.cell (o:=4) rfl;have LB:=B.fl;have Kh:=B.LA;have zp:=B.ll;have Ag:=B.kl;have MS:=B.lb;have Hj:=nu B;have hwl:=Cc J B hb;have hpil:=Jk (m:=m);have u:=St.start w;refine ajo _ _ _ _ ?_;unfold S92;refine dV ajl u (C17 _ m _ (IN.ext u.aG) B hb) (λx13 w1 cI u=>aK cS (U.ext u.aG) (aK cS u.dW (bQ (aC (λ_=>.inl ⟨NX cO,rfl,u.aG⟩) λl6=>?_))))
 refine⟨λmm x w1=>∃k:Nat,x=hZ (k:Int)/\mm=cut.length-k/\k<=cut.length/\(∀(i:Nat) (c:Int),i<k->cut[i]?=some c->0<=c/\c<=(m.fP i).length)/\St w aX [bE x13 (uy m)] w1,⟨_,0,rfl,rfl,l0 _,λ_ _ h=>absurd h cO,u⟩,?_⟩;rintro mm _ _ ⟨k,rfl,rfl,xd,j7,u⟩ _;refine aK cS u.dW (aR (aC (λiG=>?_) λiG=>?_))
 .obtain⟨Gu,qz⟩:=gx cut (i:=(k:Int).toNat) cO;refine⟨λjv w'=>jv=.bool (decide (Gu<0\/((m.fP k).length:Int)<Gu))/\St w aX [bE x13 (uy m)] w',aQ cS U cO qz (λ_ sW=>have u:=u.drew;aD bL (sW.ext u.aG) (aR (aC (λ_=>⟨vb (by first|exact(ez cO).symm|exact ga.2 cO),u⟩) λaii=>?_))),?_⟩
  .refine aQ cS U cO qz (λ_ rN=>aD bL (rN.ext u.aG) ?_);obtain⟨e_x37,ab0⟩:=gx (uy m) (i:=(k:Int).toNat) cO;refine dT u cS cO cO (λ_ xS=>gq u bL xS ab0 (cQ ?_));have Cn:=O2 (k:=k) ab0;exact⟨vb (by first|exact(ez cO).symm|exact ga.2 cO),u⟩
  rintro _ _ ⟨rfl,u⟩ _;refine aC (λ_=>.inl ⟨NW (k:=k) qz cO,rfl,u.aG⟩) (λxM=>aO cO ?_);refine⟨_,cO,k+1,rfl,rfl,cO,λi c hi hc=>?_,u⟩
  by_cases e:i=k
  .subst e;obtain rfl:=n5.inj (hc.symm.trans qz);omega
  exact j7 i c cO hc
 have M:(cut.length:Int)=gh m.of:=cO
 refine⟨λa b w'=>St w aX [bE a cut,bE b m.kept] w',aE (aA A9 (have u:=u.drew;bN ey (G.ext u.aG) ⟨aV ([]:List Int) u cS rfl rfl (dQ rfl) (λatA _ u=>⟨aF ey (G.ext u.aG),⟨?_,⟨?_,?_⟩⟩⟩),⟨?_,?_⟩⟩)),?_⟩
 .have amN:=(U.ext u.aG);refine bI u cS amN (by simp<;>omega) ee (λaih _ u=>?_);refine⟨aF ey (G.ext u.aG),?_⟩;refine aV ([]:List Int) u cS rfl rfl (dQ rfl) (λs_x44 _ u=>?_);refine⟨aF ey (G.ext u.aG),?_⟩;have RP:=(Wz.ext u.aG);exact bI u cS RP (by simp<;>omega) ee (λ_ _ u=>have u:=u.p2.drop.p1;u)
 .refine aV ([]:List Int) u cS rfl rfl (dQ rfl) (λavX _ u=>?_);refine⟨aF ey (G.ext u.aG),?_⟩;have ab2:=(U.ext u.aG);refine bI u.p1 cS ab2 (by simp<;>omega) ee (λavY _ u=>?_);refine⟨aF ey (G.ext u.aG),?_⟩;have ab3:=(Wz.ext u.aG);exact bI u.p1 cS ab3 (by simp<;>omega) ee (λ_ _ u=>have u:=u.p2.drop.p1;u)
 .trivial
 .refine aV ([]:List Int) u cS rfl rfl (dQ rfl) (λavZ _ u=>?_);refine⟨aF ey (G.ext u.aG),?_⟩;refine aV ([]:List Int) u cS rfl rfl (dQ rfl) (λav0 _ u=>?_);refine⟨aF ey (G.ext u.aG),?_⟩;have ab4:=(U.ext u.aG);refine bI u cS ab4 (by simp<;>omega) ee (λav1 _ u=>?_);refine⟨aF ey (G.ext u.aG),?_⟩;have ab5:=(Wz.ext u.aG);exact bI u.p1 cS ab5 (by simp<;>omega) ee (λ_ _ u=>have u:=u.p2.drop.p1;u)
 .trivial
 rintro HX JJ _ u _;have u:=u.p1.p1;refine⟨λmm x w1=>∃j:Nat,x=hZ (j:Int)/\mm=ws.length-j/\j<=ws.length/\St w aX [bE HX (pU (ws.take j) cut),bE JJ (pb (rU m (ws.take j)) cut cut.length)] w1,⟨_,0,rfl,rfl,l0 _,by rw[WB (λi c hc=>(j7 i c (by have:=(kB.1 hc).1;omega) hc).1),WC m cut]at u;simpa using u⟩,?_⟩;rintro mm _ _ ⟨j,rfl,rfl,hj,u⟩ _;refine aE (aA kX (bN ub (q4.ext u.aG) (aK uc (W.ext u.aG) (aR (aC (λaib=>⟨λw'=>St w aX [bE HX (pU (ws.take (j+1)) cut),bE JJ (pb (rU m (ws.take (j+1))) cut cut.length)] w',?_,?_⟩) λaib=>?_)))))
 .refine aE (aA kX (bN ub (q4.ext u.aG) ?_));obtain⟨E,O⟩:=gx ws (i:=(j:Int).toNat) cO;refine aQ uc W cO O (λ_ FK=>aD X0 (FK.ext u.aG) (aN u ad3 λb_w11 _ u=>aJ (x:=E) u X0 rfl rfl λ_ u=>aA xw (aB (v:=hZ E.line) bL u.hb rfl ?_)));have oD:=sy J B (kE O);have hlw:(pU (ws.take j) cut).length=cut.length:=vD;obtain⟨e_x69,I⟩:=gx (pU (ws.take j) cut) (i:=E.line.toNat) cO;refine dT u.p1 cS cO cO (λ_ Nv=>gq u.p1 bL Nv I ?_)
  have hlb2:=(Lo oD.1 I).2
  have hcg:cut.getD E.line.toNat 0<=1000000:=by
   have Z:E.line.toNat<cut.length:=cO
   rw[n3,la Z];have h1:=j7 _ _ cO (la Z);have h2:=hb ((E.line.toNat:Nat):Int);simp only[Option.getD_some];omega
  refine cQ (aC (λY=>?_) λY=>?_)
  .refine aA xw (have u:=u.drew;aB (v:=hZ E.line) bL u.hb rfl (aA xw (aB (v:=hZ E.line) bL u.hb rfl (dT u.p1 cS cO cO λ_ Ox=>gq u.p1 bL Ox I (ft cO (dT u.p1 cS cO cO λ_ aua=>jA _ u.p1 bL aua cO λ_ u=>aA Mm (aB (v:=hZ E.cell) bL u.p1.hb rfl (aA Mn (aB (v:=hZ E.n) bL u.p1.hb rfl ?_)))))))));have hil:(pb (rU m (ws.take j)) cut cut.length).length=m.kept.length:=mV _ _ _;obtain⟨e_x87,aA5⟩:=gx (pb (rU m (ws.take j)) cut cut.length) (i:=E.cell.toNat) cO
   refine dT u.p2 cS cO cO (λ_ aub=>jA _ u.p2 bL aub cO λ_ u=>?_);have u:=u.p2.drop.p1;rw[<- (UB (k:=j) J B M O I Y).1,<- (UB (k:=j) J B M O I Y).2];exact u
  have u:=u.drop.p1.p1;rw[<- (UC (k:=j) J B O I Y).1,<- (UC (k:=j) J B O I Y).2];exact u
 .rintro _ u _;exact aO cO (have u:=u.p1.p1;⟨_,cO,j+1,rfl,rfl,cO,u⟩)
 have u:=u.drop;rw[kO cO,WA J]at u;exact .inr ⟨_,_,yV M (λi c _ hc=>j7 i c cO hc),rfl,u.fresh⟩
def C93(p:Nat)(m:Mem)(F:Nat->Prop)(cut:List Int)(cv:Value)(w:World)(hF:(gI p m).p w F)(E:vI m)(hb:MB m 1000000)(hC:∀w',gJ F w w'->dD (λ_=>True) w' cv cut)(Ri:cut.length<=1000):CR 93 [(.pointer (some ⟨p,0,none⟩)),cv] w (λv w'=>(fy m cut=none/\v=hZ 1/\nd F (gI p m) w w')\/∃Z,fy m cut=some Z/\v=hZ 0/\nd F (gI p (mW m Z)) w w'):=by
 have u:=St.begin hF;obtain⟨ov,fv,lv,kv,wv,ws,Y,u⟩:=gI.open u;have LB:=E.fl;have Kh:=E.LA;have zp:=E.ll;have V:=E.kl;have MS:=E.lb;have Hj:=nu E;refine pj Tryz.func93 (pl:=P93) ?_;refine dO ajq (C92 _ m cut _ _ (OZ Y u.hb u.p1.dW u.p2.dW u.p3.dW u.p4.dW u.p5.dW) E hb (hC _ u.aG) cO) ?_;rintro U _ M
 rcases M with⟨B,rfl,he⟩|⟨I,J,B,rfl,cI⟩
 .have u:=u.ext he;exact aM rfl (aM rfl (bQ (kr ee (have u:=u.p5.p5.p5.p5.p5.p5;.inl ⟨B,rfl,(gI.shut Y u).mut⟩))))
 have u:=u.made cI;refine aM rfl (aM rfl (bQ (fI ee (aV ([]:List Int) u cS rfl rfl (dQ rfl) λO _ u=>?_))));have lR:=u.p1.dW;refine bI u cS lR (by have G:I.length=m.of.length:=(by unfold fy at B;split at B<;>simp at B;rw[<- B,mV];exact V);simp;omega) ee (λZl _ u=>aE (aA XZ (have u:=u.drew;aB ey u.p2.hb rfl (aE (aA u6 (aB ey u.p2.hb rfl (aK cS u.p3.dW (Ad cS u.p4.dW cO cO λauc W=>?_))))))));have R0:=(W _ u.p4.dW);refine bI u cS R0 (by have G:I.length=m.of.length:=(by unfold fy at B;split at B<;>simp at B;rw[<- B,mV];exact V);simp;omega) ee (λZL _ u=>aE (aA sH (aT u.p2 ey (dQ rfl) u.dW.one λ_ u=>aE (aA A9 (aT u ey (dQ rfl) u.p2.dW.one λ_ u=>aE (aA kX (aT u ub (dQ rfl) (rfl) λ_ u=>?_)))))))
 have u:=(((((((((((u.eK (α:=nq)).p6).drop).p6).drop).p6).drop).p3).p3).p5).p5).p5;have G:I.length=m.of.length:=by unfold fy at B;split at B<;>simp at B;rw[<- B,mV];exact V
 rw[show(m.of.length:Int).toNat=I.length from cO,vK]at u;exact .inr ⟨_,B,rfl,(gI.shut (m:=mW m I) (RZ _) u).mut⟩
def tN(ps:List Nat)(hd:List Int):List (List Int):=(eF (ps.drop hd.length)).map λt=>hd++t
def wz(ps:List Nat)(hd:List Int)(n:Nat):List (List Int):=(tU n).flatMap fun (i:Nat)=>tN ps (hd++[(i:Int)])
section
variable {ps:List Nat}{hd:List Int}{P n:Nat}
theorem WD(h:hd.length=ps.length):tN ps hd=[hd]:=by
 unfold tN;rw[h,List.drop_length];simp[eF]
theorem WE(ps:List Nat):tN ps []=eF ps:=by unfold tN;simp
theorem Dg:(tN ps hd).length=(eF (ps.drop hd.length)).length:=by unfold tN;rw[nc]
theorem yy:wz ps hd (n+1)=wz ps hd n++tN ps (hd++[(n:Int)]):=by
 unfold wz;rw[List.range_succ,List.flatMap_append];simp
theorem agz(h:ps[hd.length]?=some P):ps.drop hd.length=P::ps.drop (hd.length+1):=by
 obtain⟨h1,h2⟩:=kB.1 h
 rw[sk h1,h2]
theorem G6(h:ps[hd.length]?=some P):wz ps hd (P+1)=tN ps hd:=by
 unfold wz tN
 rw[agz h,eF,List.map_flatMap]
 congr 1
 funext i
 rw[lr,l2,H4]
 refine BP λt _=>?_
 simp
theorem AI:∀n:Nat,(wz ps hd n).length=n*(eF (ps.drop (hd.length+1))).length
 | 0=>by simp[wz]
 | n+1=>by rw[yy,lr,AI n,Dg,lr,l2,Nat.add_mul,Nat.one_mul]
theorem ab6(h:ps[hd.length]?=some P)(u:n<=P):(wz ps hd n).length+(tN ps (hd++[(n:Int)])).length<=(eF (ps.drop hd.length)).length:=by
 rw[<- lr,<- yy,<- Dg,<- G6 h,AI,AI]
 exact Ce _ cO
theorem WG(h:ps[hd.length]?=some P):(eF (ps.drop (hd.length+1))).length<=(eF (ps.drop hd.length)).length:=by
 have:=ab6 (n:=0) h (l0 _)
 rw[Dg,lr,l2]at this
 omega
end
def pe(m:Mem)(c:List Int):List Int:=pb m c c.length
def yz(m:Mem)(k:Nat):List (List Int)×List (List Int):=HE (pe m) ((eF (xi m)).take k)
section
variable {m:Mem}{k:Nat}{a:List Int}
theorem agA(h:(eF (xi m))[k]?=some a)(hi:pe m a∈(yz m k).2):yz m (k+1)=yz m k:=by
 unfold yz at *;rw[tM h,yh,ew hi]
theorem amQ(h:(eF (xi m))[k]?=some a)(hi:¬ pe m a∈(yz m k).2):yz m (k+1)=((yz m k).1++[a],(yz m k).2++[pe m a]):=by
 unfold yz at *;rw[tM h,yh,ej hi]
theorem UD{α:Type}{p:List α->Prop}(u:p [])(h1:∀l a,p l->p (l++[a]))(l:List α):p l:=by
 have h:∀l:List α,p l.reverse:=λl=>by
  induction l with
  | nil=>exact u
  | cons a l B=>rw[List.reverse_cons];exact h1 _ _ B
 have:=h l.reverse
 rwa [List.reverse_reverse]at this
theorem ab7{x y:List Int}(h:x.length=y.length)(e:VM x=VM y):x=y:=(List.append_inj e h).1
theorem UE(m:Mem)(l:List (List Int)):HE (N0 m) l=((HE (pe m) l).1,(HE (pe m) l).2.map VM)/\∀y∈(HE (pe m) l).2,y.length=m.kept.length:=by
 refine UD (p:=λl=>HE (N0 m) l=((HE (pe m) l).1,(HE (pe m) l).2.map VM)/\∀y∈(HE (pe m) l).2,y.length=m.kept.length) ⟨rfl,λy h=>by cases h⟩ (λl c I=>?_) l
 obtain⟨J,B⟩:=I
 rw[yh,yh,J]
 have hc:N0 m c=VM (pe m c):=rfl
 have E:(pe m c).length=m.kept.length:=mV _ _ _
 by_cases h:pe m c∈(HE (pe m) l).2
 .rw[ew h,ew (by rw[hc];exact List.mem_map_of_mem h)];exact⟨rfl,B⟩
 rw[ej h,ej (λG=>by
  obtain⟨y,u,e⟩:=ob.1 G
  rw[hc]at e
  exact h (by rw[<- ab7 (by rw[B y u,E]) e];exact u))]
 refine⟨by rw[hc,wk];rfl,λy u=>?_⟩
 rcases o8.1 u with u|u
 .exact B y u
 rw[v7.1 u];exact E
theorem agB(h:(eF (xi m)).length<=k):(yz m k).1=BT m:=by
 unfold yz BT;rw[kO h,(UE m _).1]
theorem ab8:(yz m k).1.length<=(eF (xi m)).length:=by
 unfold yz;exact vt (KI _ _) (by rw[l1];omega)
theorem ab9:(yz m k).2.length=(yz m k).1.length:=by
 unfold yz
 generalize (eF (xi m)).take k=l
 exact UD (p:=λl=>(HE (pe m) l).2.length=(HE (pe m) l).1.length) rfl (λl c u=>by rw[yh];split<;>simp[u]) l
theorem agC{a:List Int}(h:a∈eF (xi m))(u:vI m):fy m a=some (pe m a)/\a.length<=1000:=by
 have B:=yg h
 rw[EC]at B
 have E:=nu u
 have:=u.lb
 refine⟨yV cO λi c hi hc=>C5 h (i:=i) (p:=(m.fP i).length) (by unfold xi;exact Gz cO) hc,cO⟩
theorem any_succ{α:Type}{l:List α}{j:Nat}{b:α}{f:α->Bool}(h:l[j]?=some b):(l.take (j+1)).any f=((l.take j).any f||f b):=by rw[tM h,List.any_append];simp
end
theorem C147(ps:List Nat)(hd:List Int)(pv:Value)(E:SV)(N:Nat)(w:World)(O:dD (λ_=>True) w pv (ps.map fun (k:Nat)=>(k:Int)))(W:dD (λ_=>True) w (ir E) hd)(hlen:hd.length<=ps.length)(M:ps.length<=1000)(hC:(eF (ps.drop hd.length)).length<=1000000000)(G:∀q∈ps,q<=1000000)(hN:ps.length-hd.length<N):CR 147 [pv,ir E] w (λv w'=>∃I:List SV,kq (sep (bE v I) (dZ λw'=>dD (λ_=>True) w' (ir E) hd->fT I (tN ps hd) w')) w w'):=by
 have hpml:(ps.map fun (k:Nat)=>(k:Int)).length=ps.length:=nc ..;have u:=St.start w;refine fj Tryz.func147 ?_;refine aK cS (W.ext u.aG) (aK cS (O.ext u.aG) (aH (aC (λ_=>aV ([E]) u nx rfl rfl (dQ rfl) λ_ _ u=>have u:=u.fk (Φ:=λw'=>dD (λ_=>True) w' (ir E) hd->fT [E] (tN ps hd) w') (λ_ h=>by rw[WD cO];exact fT.nil.snoc (DL.jZ h));⟨_,(St.join u.p1).fresh⟩) λlG=>oY (α:=(List Int)) u nx λaiR _ u=>?_)));obtain⟨P,B⟩:=gx ps (i:=hd.length) cO;have hPb:=G P (kE B);have U:=WG B
 refine⟨λmm o x w1=>∃n:Nat,x=hZ (n:Int)/\mm=P+1-n/\n<=P+1/\St w aX [fJ o (wz ps hd n)] w1,⟨_,0,rfl,rfl,l0 _,u⟩,?_⟩;rintro mm zj _ _ ⟨n,rfl,rfl,hn,u⟩ _;refine aK cS (W.ext u.aG) ?_;obtain⟨TD,Z⟩:=gx (ps.map fun (k:Nat)=>(k:Int)) (i:=(hd.length:Int).toNat) cO;refine aQ cS O cO Z (λ_ Gg=>aD bL (Gg.ext u.aG) ?_)
 have hex:TD=(P:Int):=by
  have Y:=Z;rw[o1,show(hd.length:Int).toNat=hd.length from cO,B]at Y;exact(n5.inj Y).symm
 refine gz (aC (λiG=>?_) λiG=>?_)
 .refine aV ([]:List Int) u cS rfl rfl (dQ rfl) (λasE _ u=>?_);have J:=(W.ext u.aG);refine bI u cS J (by simp;omega) ee (λapS _ u=>aV ([(n:Int)]) u cS rfl rfl (dQ rfl) λauc _ u=>?_);have R0:=u.dW;refine bI u.p1 cS R0 (by simp;omega) ee (λZL _ u=>?_);have u:=u.p1.drop;obtain⟨Lc,rfl⟩:=u.fN;refine dO ahb (C147 ps (hd++[(n:Int)]) _ Lc (N-1) _ (O.ext u.aG) u.dW (by simp;omega) M (by rw[lr,l2];exact vt U hC) G (by simp;omega)) ?_;rintro KR _ ⟨V,cI⟩;have u:=((((((u.made cI).split).p2).freeze).p2).gv).dF (Ψ:=fT V (tN ps (hd++[(n:Int)]))) (λ_ h=>h.1 h.2)
  have u:=u.p1.xF.p1;exact gg u nx (by have:=ab6 (n:=n) B cO;omega) ee (λ_ _ u=>aO cO ⟨_,cO,n+1,rfl,rfl,cO,by rw[yy];exact u⟩)
 obtain rfl:n=P+1:=cO
 rw[G6 B]at u;obtain⟨I,u⟩:=u.Bm;have u:=u.p1.dF (Ψ:=λw'=>dD (λ_=>True) w' (ir E) hd->fT I (tN ps hd) w') (λ_ h _=>h);exact⟨I,(St.join u.p1).fresh⟩
termination_by N
decreasing_by all_goals omega
def aA6(p:Nat)(m:Mem)(cut:List Int)(cv:Value)(w:World)(G:yw w p m)(I:vI m)(hb:MB m 1000000)(J:dD (λ_=>True) w cv cut)(E:cut.length<=1000){u:List Int}(hi:fy m cut=some u) :
  Calls hH 92 [(.pointer (some ⟨p,0,none⟩)),cv].toArray w (tQ λv w'=>∃o,v=.tuple #[o,hZ 0]/\kq (bE o u) w w'):=
 apC (C92 p m cut cv w G I hb J E) λv w' h=>by
  rcases h with⟨h1,_⟩|⟨B,o,h1,h2,h3⟩
  .rw[hi]at h1;cases h1
  .rw[hi]at h1;cases h1;exact⟨o,h2,h3⟩
def C78(p:Nat)(m:Mem)(w:World)(hm:yw w p m)(E:vI m)(hb:MB m 1000000)(hC:(eF (xi m)).length<=1000000000):CR 78 [(.pointer (some ⟨p,0,none⟩))] w (λv w'=>kq (fJ v (BT m)) w w'):=by
 have IN:=hm;obtain⟨ov,fv,lv,kv,wv,ws,j6,Z,hmo,hmf,D1,Wz,hmw⟩:=hm.ex;have q0:=Z.cell (o:=0) rfl;have q1:=Z.cell (o:=1) rfl;have q2:=Z.cell (o:=2) rfl;have q3:=Z.cell (o:=3) rfl;have q4:=Z.cell (o:=4) rfl;have LB:=E.fl;have Kh:=E.LA;have zp:=E.ll;have Ag:=E.kl;have MS:=E.lb;have Hj:=nu E;have hpsl:=EC m;have hpb:∀q∈xi m,q<=1000000:=λ_ hq=>by obtain⟨i,_,rfl⟩:=ob.1 hq;exact hb _
 have u:=St.start w;refine ajk _ _ _ ?_;unfold S78;refine dV ajl u (C17 _ m _ (IN.ext u.aG) E hb) (λx12 w1 cI u=>aV ([]:List Int) u cS rfl rfl (dQ rfl) λs_x13 _ u=>?_);obtain⟨amS,rfl⟩:=u.fN;refine dO ahb (C147 (xi m) [] _ amS ((xi m).length+1) _ u.p1.dW u.dW (l0 _) cO hC hpb ei) ?_;rintro J _ ⟨B,cI⟩;have u:=((((((u.made cI).split).p2).freeze).p2).gv).dF (Ψ:=fT B (eF (xi m))) (λ_ h=>by have W:=h.1 h.2;rwa [WE]at W);have u:=u.p1;have Pl:=u.Va;refine aV (@List.nil SV) u nx rfl rfl (dQ rfl) (λaiR _ u=>oY (α:=(List Int)) u nx λasi _ u=>?_)
 have u:=u.p4.drop.p3.p3.p2.p3;refine⟨λmm o h x w1=>∃(k:Nat) (os:List SV),x=hZ (k:Int)/\mm=(eF (xi m)).length-k/\k<=(eF (xi m)).length/\(∀w',fT B (eF (xi m)) w'->fT os (yz m k).1 w')/\St w aX [bE o os,fJ h (yz m k).2,bE J B,dZ (fT B (eF (xi m)))] w1,⟨_,0,[],rfl,rfl,l0 _,λ_ _=>fT.nil,u⟩,?_⟩;rintro mm Hs PM _ _ ⟨k,os,rfl,rfl,xd,I,u⟩ _;refine aK nx u.p2.dW (aR (aC (λnz=>?_) λnz=>?_))
 .obtain⟨a,ha⟩:=gx (eF (xi m)) (i:=(k:Int).toNat) cO;have ha2:a∈eF (xi m):=kE ha;have hco:=agC ha2 E;have hl1:=ab8 (m:=m) (k:=k);have Hh:=ab9 (m:=m) (k:=k);have hil:(pe m a).length=m.kept.length:=mV _ _ _;obtain⟨Gu,qz⟩:=gx B (i:=(k:Int).toNat) cO;refine⟨λo h w'=>∃M:List SV,(∀w',fT B (eF (xi m)) w'->fT M (yz m (k+1)).1 w')/\St w aX [bE o M,fJ h (yz m (k+1)).2,bE J B,dZ (fT B (eF (xi m)))] w',?_,?_⟩
  .refine dT u.p2 nx cO cO (λ_ sW=>gq u.p2 ey sW qz (dO ajq (aA6 _ m a _ _ (IN.ext u.aG) E hb (DL.flat (u.p3.dZ.2 _ _ _ qz ha)) hco.2 hco.1) ?_));rintro x29 _ ⟨aiS,rfl,cI⟩;have u:=u.made cI;refine aM rfl (aM rfl ?_);have u:=u.p2;obtain⟨V,u⟩:=u.Bm;have hhl:=u.Va;have u:=u.p5.p5.p5.p4.p4.p5;refine⟨λmm b x w1=>∃j:Nat,b=.bool ((((yz m k).2).take j).any λy=>decide (y=pe m a))/\x=hZ (j:Int)/\mm=((yz m k).2).length-j/\j<=((yz m k).2).length/\St w aX [bE aiS (pe m a),bE PM V,dZ (fT V ((yz m k).2)),bE Hs os,bE J B,dZ (fT B (eF (xi m)))] w1,⟨_,0,rfl,rfl,rfl,l0 _,u⟩,?_⟩
   rintro mm _ _ _ ⟨j,rfl,rfl,rfl,hj,u⟩ _;refine aK nx u.p1.dW (aR (aC (λlI=>?_) λlI=>?_))
   .obtain⟨U,G⟩:=gx ((yz m k).2) (i:=(j:Int).toNat) cO;obtain⟨GI,rG⟩:=gx V (i:=(j:Int).toNat) cO;refine⟨λjv w'=>jv=.bool ((((yz m k).2).take (j+1)).any λy=>decide (y=pe m a))/\St w aX [bE aiS (pe m a),bE PM V,dZ (fT V ((yz m k).2)),bE Hs os,bE J B,dZ (fT B (eF (xi m)))] w',bD (λO=>have u:=u.p5.p5.p5.p5.p5.p5;⟨vb (by rw[any_succ (j:=j) G,O];rfl),u⟩) (λO=>dT u.p1 nx cO cO λ_ Ov=>gq u.p1 ey Ov rG (aW ajn u (C71 _ _ U (pe m a) _ (DL.flat (u.p2.dZ.2 _ _ _ rG G)) u.dW (by have W:=(UE m ((eF (xi m)).take k)).2 U (show U∈(yz m k).2 from kE G);omega)) λ_ _ u=>have u:=u.p5.p5.p5.p5.p5.p5;⟨vb (by rw[any_succ (j:=j) G,show((((yz m k).2).take j).any λy=>decide (y=pe m a))=false from O];rfl),u⟩)),?_⟩
    rintro _ _ ⟨rfl,u⟩ _;exact aO cO (have u:=u.p5.p5.p5.p5.p5.p5;⟨_,cO,j+1,rfl,rfl,rfl,cO,u⟩)
   have Cm:((yz m k).2.take j)=(yz m k).2:=kO cO;have u:=u.p2.p2.xF;refine bT (bD (λY=>?_) λY=>?_)
   .obtain⟨O3,rfl⟩:=u.p1.fN;have u:=u.p1.freeze.dF (Ψ:=λw=>mi w O3 (pe m a)) (λ_ h=>DL.jZ h);refine gA (s:=O3) (x:=(pe m a)) u nx ee (λs_x51 _ u=>have u:=u.p1;gg u nx (by simp;omega) ee λs_x52 _ u=>dT u.p2 nx cO cO λ_ NY=>gq u.p2 ey NY qz (aV ([Gu]) u nx rfl rfl (dQ rfl) λasJ _ u=>?_));have amT:=u.dW;refine bI u.p2 nx amT (by simp;have:=(I _ u.p4.dZ).1;omega) ee (λap3 _ u=>?_);have u:=u.p1.drop.p3.p3.p3.p3
    have hni:¬ pe m a∈(yz m k).2:=λV=>by
     have W:((yz m k).2.any λy=>decide (y=pe m a))=true:=wS.2 ⟨_,V,ez rfl⟩;rw[Cm]at Y;rw[W]at Y;cases Y
    rw[amQ (k:=k) ha hni];exact⟨os++[Gu],λw' h=>(I w' h).snoc (h.2 _ _ _ qz ha),u⟩
   have u:=u.p1.drop.p3.p3.p2.p3
   have hyi:pe m a∈(yz m k).2:=by
    rw[Cm]at Y;have W:((yz m k).2.any λy=>decide (y=pe m a))=true:=by simpa using Y
    obtain⟨y,h1,h2⟩:=wS.1 W;rw[<- g7 h2];exact h1
   rw[agA (k:=k) ha hyi];exact⟨os,I,u⟩
  rintro JG XF _ ⟨M,aA8,u⟩ _;exact aO cO (have u:=u.p3.p3.p3.p3;⟨_,cO,k+1,M,rfl,rfl,cO,aA8,u⟩)
 have u:=(u.p1.drop.p1.drop.p1.p1.p1.dF λw h=>I w h).p1.xF;rw[agB cO]at u;exact u.fresh
structure DoK(K:hM)(d:qc)(q:Dq):Prop where
 x:∀w,K w->mi w d.x q.1
 a:∃ra,∀w,rR K d.body ra q.2.1.flat w
 b:∃rb,∀w,rR K d.eG rb q.2.2.1.flat w
 e:d.in_=q.2.2.2
def lF(K:hM)(ds:List qc)(qs:List Dq):Prop:=ds.length=qs.length/\∀(j:Nat) (d:qc) (q:Dq),ds[j]?=some d->qs[j]?=some q->DoK K d q
section
variable {K K2:hM}{ds es:List qc}{qs rs:List Dq}{d:qc}{q:Dq}
theorem lF.nil:lF K [] []:=⟨rfl,λj d q h=>by cases h⟩
theorem lF.cons(h:DoK K d q)(u:lF K ds qs):lF K (d::ds) (q::qs):=by
 refine⟨by simp[u.1],λj e r h1 h2=>?_⟩
 cases j with
 | zero=>cases h1;cases h2;exact h
 | succ j=>exact u.2 j e r h1 h2
theorem lF.head(h:lF K ds (q::qs)):∃d es,ds=d::es/\DoK K d q/\lF K es qs:=by
 cases ds with
 | nil=>have:=h.1;grind
 | cons d es=>exact⟨d,es,rfl,h.2 0 d q rfl rfl,by have:=h.1;grind,λj e r h1 h2=>h.2 (j+1) e r h1 h2⟩
theorem lF.append(h:lF K ds qs)(u:lF K es rs):lF K (ds++es) (qs++rs):=by
 refine⟨by simp[h.1,u.1],λj d q h1 h2=>?_⟩
 have E:=h.1
 by_cases B:j<ds.length
 .rw[u3 B]at h1
  rw[u3 cO]at h2
  exact h.2 j d q h1 h2
 rw[List.getElem?_append_right cO]at h1 h2
 rw[<- E]at h2
 exact u.2 _ d q h1 h2
theorem lF.drop(h:lF K ds qs)(k:Nat):lF K (ds.drop k) (qs.drop k):=by
 refine⟨by simp[h.1],λj d q h1 h2=>?_⟩
 rw[List.getElem?_drop]at h1 h2
 exact h.2 _ d q h1 h2
end
@[reducible] def zb(lv:Value)(u:SV)(rg:Value)(B:Nat)(f:Int):List Value:=[lv,ir u,rg,.pointer (some ⟨B,0,none⟩),.int .i64 f]
def mD(K:hM)(p:Nat)(room:Int)(t:kc):HP:=qm λB:Nat=>qm λu:SV=>qm λrg=>qm λlv=>qm λds:List qc=>fact ((∀w,K w->dD (λ_=>True) w (ir u) t.names)/\lF K ds (wU t.cJ)/\GU t.cJ)
 (sep (bW p (zb lv u rg B t.fault)) (sep (jr B room t.buf) (sep (bE rg t.dY) (dZ λw=>dD (λ_=>True) w lv ds))))
abbrev RTK(K:hM)(u:SV)(ds:List qc)(t:kc):Prop:=(∀w,K w->dD (λ_=>True) w (ir u) t.names)/\lF K ds (wU t.cJ)/\GU t.cJ
section
variable {w w0:World}{A:Nat->Prop}{R:List HP}{p:Nat}{K:hM}{room:Int}{t:kc}
theorem R2{H1 H2 u B:HP}(E:St w0 A (sep H1 (sep H2 (sep u B))::R) w):St w0 A (H1::H2::u::B::R) w:=by
 have h1:=E.split
 have h2:=h1.p1.split
 have h3:=h2.p1.split
 exact h3.p2.p3
theorem R3{H1 H2 u B:HP}(E:St w0 A (H1::H2::u::B::R) w):St w0 A (sep H1 (sep H2 (sep u B))::R) w:=by
 have h3:=St.join E.p3.p3
 have h2:=St.join h3.p2
 exact St.join h2.p1
theorem mD.open(u:St w0 A (mD K p room t::R) w):∃E B rg lv ds,RTK K B ds t/\
  St w0 A (bW p (zb lv B rg E t.fault)::jr E room t.buf::bE rg t.dY::dZ (λw=>dD (λ_=>True) w lv ds)::R) w:=by
 obtain⟨E,u⟩:=u.eA;obtain⟨B,u⟩:=u.eA;obtain⟨rg,u⟩:=u.eA;obtain⟨lv,u⟩:=u.eA;obtain⟨ds,u⟩:=u.eA;obtain⟨G,u⟩:=u.mK
 exact⟨E,B,rg,lv,ds,G,R2 u⟩
theorem mD.shut{B:Nat}{u:SV}{rg lv:Value}{ds:List qc}(G:RTK K u ds t)
  (E:St w0 A (bW p (zb lv u rg B t.fault)::jr B room t.buf::bE rg t.dY::dZ (λw=>dD (λ_=>True) w lv ds)::R) w):St w0 A (mD K p room t::R) w:=
 St.eB B (St.eB u (St.eB rg (St.eB lv (St.eB ds (St.oW G (R3 E))))))
theorem mD.rd(h:Has (mD K p room t) w):∃E B rg lv ds,RTK K B ds t/\nh w p (zb lv B rg E t.fault)/\uL w E room t.buf/\dD (λ_=>True) w rg t.dY/\dD (λ_=>True) w lv ds:=by
 obtain⟨F,u⟩:=h.st
 obtain⟨E,B,rg,lv,ds,G,u⟩:=mD.open u
 exact⟨E,B,rg,lv,ds,G,u.hb,EB u.p1,u.p2.dW,u.p3.dZ⟩
end
structure RA where
 pv:bO
 q:Nat
 ow:Value
 ll:Value
 ps:List Ptr
@[reducible] def pW(a:RA)(s:gl):List Value:=[ir a.pv.lines,ir a.pv.iY,ir a.pv.eS,ir a.pv.threads,ir a.pv.recover,ir a.pv.eb,.int .i64 s.room,.int .i64 s.cA,.pointer (some ⟨a.q,0,none⟩),a.ow,a.ll,.int .i64 s.fault,.int .i64 s.jk]
structure RSK(K:hM)(a:RA)(s:gl):Prop where
 pr:∀w,K w->mi w a.pv s.p
 rc:∃wj,(∀w,K w->dD (λ_=>True) w (ir a.pv.recover) wj)/\Ea K wj s.p.recover
abbrev O4(K:hM)(room:Int)(s:Ptr)(t:kc):HP:=mD K s.b room t
def oh(K:hM)(p:Nat)(m:gl):HP:=qm λa:RA=>fact (RSK K a m) (sep (bW p (pW a m)) (sep (gI a.q m.mem) (sep (bE a.ow m.fc) (sep (bE a.ll a.ps) (iu (O4 K m.room) a.ps m.l)))))
section
variable {w w' w0:World}{A:Nat->Prop}{R:List HP}{p:Nat}{K:hM}{m:gl}{a:RA}{i:Nat}{tp:Ptr}{t:kc}
theorem oh.open(u:St w0 A (oh K p m::R) w):∃a,RSK K a m/\St w0 A (bW p (pW a m)::gI a.q m.mem::bE a.ow m.fc::bE a.ll a.ps::iu (O4 K m.room) a.ps m.l::R) w:=by
 obtain⟨a,u⟩:=u.eA;obtain⟨B,u⟩:=u.mK;exact⟨a,B,tD u⟩
theorem oh.shut(u:RSK K a m)(B:St w0 A (bW p (pW a m)::gI a.q m.mem::bE a.ow m.fc::bE a.ll a.ps::iu (O4 K m.room) a.ps m.l::R) w):St w0 A (oh K p m::R) w:=
 St.eB a (St.oW u (tE B))
structure aBa(K:hM)(w:World)(p:Nat)(m:gl)(a:RA):Prop where
 uk:RSK K a m
 b:nh w p (pW a m)
 mem:yw w a.q m.mem
 ow:dD (λ_=>True) w a.ow m.fc
 ll:dD (λ_=>True) w a.ll a.ps
 th:∀(i:Nat) (s:Ptr) (t:kc),a.ps[i]?=some s->m.l[i]?=some t->Has (mD K s.b m.room t) w
 len:a.ps.length=m.l.length
theorem oh.rd(h:Has (oh K p m) w):∃a,aBa K w p m a:=by
 obtain⟨F,u⟩:=h.st
 obtain⟨a,B,u⟩:=oh.open u
 exact⟨a,B,u.hb,GZ (St.has u.p1),u.p2.dW,u.p3.dW,λi s t h1 h2=>u.p4.ajG h1 h2 (Φ:=λw=>Has (mD K s.b m.room t) w) λh=>⟨_,h⟩,u.p4.ji⟩
end
variable (w:World) (K:Value->hM)
def S221(B M I J:Value):Prop:=
 iA 82 B M λa=>lA 164 a w λb=>aL 164 w λc d=>sA 164 c b d λe=>fA 164 c 0 λf=>lA 3 f e λg=>bB .eql 3 g (i 1) λh=>cV h (fA 164 c 1 λj=>lA 3 j e λk=>
 K (.tuple #[k,(i 0)]) e) (fA 164 c 0 λl=>lA 3 l e λn=>bB .eql 3 n (i 2) λo=>cV o (fA 164 c 2 λp=>lA 9 p e λq=>cF 123 [I,q] e λr s=>iA 41 J r λt=>
 lA 3 t s λu=>K (.tuple #[u,(i 0)]) s) (bB .add 3 M (i 1) λv=>cF 221 [B,v,I,J] e λx y=>xT x 0 λz=>xT x 1 λU=>bB .neq 31 U (i 0) λab=>cV ab (
 K (.tuple #[(i 0),U]) y) (fA 164 c 0 λac=>lA 3 ac y λad=>cF 273 [ad] y λae G=>bB .eql 3 ae (i 1) λag=>cV ag (fA 164 c 0 λah=>lA 3 ah G λZ=>cF 274 [Z,z] G λV ak=>
 xT V 0 λal=>xT V 1 λam=>K (.tuple #[al,am]) ak) (bB .add 3 M (i 1) λan=>cF 251 [B,an] G λao ap=>cF 221 [B,ao,I,J] ap λY E=>xT Y 0 λasx=>
 xT Y 1 λW=>bB .neq 31 W (i 0) λav=>cV av (K (.tuple #[(i 0),W]) E) (fA 164 c 0 λaw=>lA 3 aw E λax=>cF 275 [ax,z,asx] E λO az=>xT O 0 λa0=>xT O 1 λa1=>
 K (.tuple #[a0,a1]) az)))))
theorem agE(E G u B:Value)(h:S221 w K E G u B):CR 221 [E,G,u,B] w K:=
 qj 77 (λ_=>.nil) 768 [.tmp 8,.tmp 9] Tryz.func221 h
theorem aiT:PL 146:=dR Tryz.func146
theorem acb:PL 221:=dR Tryz.func221
end Go.Proofs.YtpdlpabnlkofmaaGreatDoor
namespace Go.Proofs.YtpdlpabnlkofmaaGreatDoor
open Go.Fw
theorem Ex.UF{t:Ex}(h:t.wf)(u:kids t.root.op=0):t=.leaf t.root:=by
 have:=Ex.pI h
 cases t with
 | leaf x=>rfl
 | un x a=>rw[u]at this;cases this
 | bin x a b=>rw[u]at this;cases this
theorem Ex.aiU{t:Ex}(h:t.wf)(u:kids t.root.op=1):∃a,t=.un t.root a:=by
 have:=Ex.pI h
 cases t with
 | leaf x=>rw[u]at this;cases this
 | un x a=>exact⟨a,rfl⟩
 | bin x a b=>rw[u]at this;cases this
theorem Ex.acd{t:Ex}(h:t.wf)(u:kids t.root.op=2):∃a b,t=.bin t.root a b:=by
 have:=Ex.pI h
 cases t with
 | leaf x=>rw[u]at this;cases this
 | un x a=>rw[u]at this;cases this
 | bin x a b=>exact⟨a,b,rfl⟩
theorem amW{k:Int}(h:kids k=1):Hz k=0:=by
 unfold kids at h;grind[Hz]
def Cr.O5{xs:List cC}{i:Int}{t:Ex}(h:Cr xs i t){y:cC}(u:y∈t.flat):y∈xs:=by
 obtain⟨_,_,r,h⟩:=h
 exact List.mem_of_mem_drop (show y∈xs.drop i.toNat by grind)
theorem C221(lv nv uv:Value)(xs:List cC)(ns:List ByteArray)(nums:List Int)(i:Int)(t:Ex)(N:Nat)(w:World)(hL:dD (λ_=>True) w lv xs)(hN:dD (λ_=>True) w nv ns)(hU:dD (λ_=>True) w uv nums)(hn:xs.length<=1048576)(Cp:ns.length<=1048576)(Z:ns.length=nums.length)(j7:zo nums)(U:∀y∈xs,y.op=2->0<=dA ns y.name)(J:∀y∈xs,fe y.n)(O:Cr xs i t)(hNt:t.size<N) :
   CR 221 [lv,hZ i,nv,uv] w (λv w'=>v=.tuple #[hZ (t.val ns nums).1,hZ (t.val ns nums).2]/\Ext w w'):=by
 obtain⟨e,G⟩:∃e,e=t.root:=⟨_,rfl⟩;have hxe:xs[i.toNat]?=some e:=by rw[G];exact O.root.1
 have hem:=kE hxe;have hri:=O.root.2;have hie:=O.end;have Qn:=Ex.pI O.2.1;rw[<- G]at Qn;have YI:=uF e.op;have hi0:=O.1;have E:=O.2.1;have B:=St.start w;refine agE _ _ _ _ _ _ ?_;unfold S221;refine aQ il (hL.ext B.aG) cO hxe (λq hq=>aD sK hq (aN B yL λb _ B=>aJ (x:=e) B sK rfl rfl λ_ B=>aA fm (aB bL B.hb rfl (aH (aC (λc1=>?_) λc1=>?_)))))
 .refine aA ju (aB bL B.hb rfl ?_);have ht:=Ex.UF E (by rw[<- G,c1];rfl);rw[ht,<- G];refine⟨?_,B.drop.aG⟩;show _=EI #[hZ (if e.op=2 then _ else e.n),hZ 0];rw[ej cO]
 refine aA fm (aB bL B.hb rfl (aH (aC (λc2=>?_) λc2=>?_)))
 .refine aA gC (aB gK B.hb rfl (aW sD B (C123 _ ns _ _ (hN.ext B.aG) Cp) λ_ W B=>?_));obtain⟨j,hj,BO,_⟩:=mf (dS.1 (U e hem c2));have Cm:=(kB.1 BO).1;obtain⟨u,hu⟩:=gx nums (i:=(dA ns e.name).toNat) cO;refine aQ cS (hU.ext B.aG) cO hu (λq2 Lz=>aD bL Lz ?_);have ht:=Ex.UF E (by rw[<- G,c2];rfl);rw[ht,<- G];refine⟨?_,B.drop.aG⟩;show _=EI #[hZ (if e.op=2 then nums.getD (dA ns e.name).toNat 0 else e.n),hZ 0];rw[ew c2,n3,hu];rfl
 have hk0:kids e.op=1\/kids e.op=2:=by
  have:kids e.op≠0:=λh=>by unfold kids at h;split at h;omega;split at h;omega;split at h;omega;omega
  omega
 obtain⟨a,I⟩:=gx t.eJ (i:=0) cO;have hka:=Ex.uG E (kE I);have M:=O.kid I;have W7:=M.end;rw[show i+1+((qY t.eJ 0:Nat):Int)=i+1 by simp[qY]]at M W7;refine aO cO (aW acb B (C221 lv nv uv xs ns nums _ a (N-1) _ (hL.ext B.aG) (hN.ext B.aG) (hU.ext B.aG) hn Cp Z j7 U J M cO) λ_ W B=>aM rfl (aM rfl (bQ (aC (λY=>?_) λY=>?_))))
 .refine⟨?_,B.drop.aG⟩
  rcases hk0 with h|h
  .obtain⟨a2,ht⟩:=Ex.aiU E (by rw[<- G];exact h);rw[ht]at I |-;cases I
   rw[Ex.GR,ej Y]
  obtain⟨a2,b2,ht⟩:=Ex.acd E (by rw[<- G];exact h);rw[ht]at I |-;cases I
  rw[Ex.Ca,ej Y]
 have hao:=Ex.RW (ns:=ns) j7 a (λy hy=>J y (M.O5 hy));refine aA fm (aB bL B.hb rfl (aW L5 B (C273 _ _) λ_ W B=>aH (aC (λc4=>?_) λc4=>?_)))
 .refine aA fm (aB bL B.hb rfl (aW ao8 B (C274 _ _ _) λ_ W B=>aM rfl (aM rfl ?_)));refine⟨?_,B.drop.aG⟩;obtain⟨a2,ht⟩:=Ex.aiU E (by rw[<- G];exact c4);rw[ht]at I |-;cases I
  rw[Ex.GR,ew (u1.1 Y),<- G,amW c4]
 have xd:kids e.op=2:=cO
 refine aO cO (aW L3 B (C251 _ _ _ (xs.length+1) _ (hL.ext B.aG) cO cO cO) λ_ W B=>?_);rw[W7.1];obtain⟨b',hb⟩:∃b,t.eJ[1]?=some b:=⟨_,la cO⟩;have hkb':=Ex.uG E (kE hb);have V:=O.kid hb;rw[vh I,show i+1+((qY t.eJ 0+a.size:Nat):Int)=i+1+(a.size:Int)by simp[qY]]at V;refine aW acb B (C221 lv nv uv xs ns nums _ b' (N-1) _ (hL.ext B.aG) (hN.ext B.aG) (hU.ext B.aG) hn Cp Z j7 U J V cO) (λ_ W B=>aM rfl (aM rfl ?_));obtain⟨a2,b2,ht⟩:=Ex.acd E (by rw[<- G];exact xd);rw[ht]at I hb |-
 cases I;cases hb
 rw[Ex.Ca,ew (u1.1 Y),<- G];refine bQ (aC (λc5=>?_) λc5=>?_)
 .refine⟨?_,B.drop.aG⟩;rw[ej c5]
 have hbo:=Ex.RW (ns:=ns) j7 b' (λy hy=>J y (V.O5 hy));refine aA fm (aB bL B.hb rfl (aW ao9 B (C275 _ _ _ _ hao hbo) λ_ W B=>aM rfl (aM rfl ?_)));refine⟨?_,B.drop.aG⟩;rw[ew (u1.1 c5)]
termination_by N
decreasing_by all_goals omega
def C146(lv U J:Value)(xs:List cC)(ns:List ByteArray)(nums:List Int)(w:World)(V:dD (λ_=>True) w lv xs)(M:dD (λ_=>True) w U ns)(W:dD (λ_=>True) w J nums)(Z:xs.length<=1048576)(Y:ns.length<=1048576)(Tg:∀x∈xs,x.name.size<=1048576)(j7:zo nums) :
  CR 146 [lv,U,J] w (λv w'=>v=.tuple #[hZ (qw ns nums xs).1,hZ (qw ns nums xs).2]/\Ext w w'):=by
 have u:=St.start w;refine fj Tryz.func146 ?_;refine aK iK M (aK cS W (bQ (aC (λc1=>?_) λc1=>?_)))
 .have B:qw ns nums xs=(0,1):=by unfold qw;rw[ej cO]
  rw[B];exact⟨rfl,u.aG⟩
 refine dO aoU (C220 _ _ xs ns _ V M Z Y Tg) ?_;rintro _ _ ⟨s,rfl,cI⟩;have u:=(u.made cI).drop;refine aM rfl (aM rfl (bQ (aC (λO=>?_) λO=>?_)))
 .have B:qw ns nums xs=(0,lq ns xs):=by unfold qw;rw[ew cO,ej O]
  rw[B];exact⟨rfl,u.aG⟩
 have I:lq ns xs=0:=u1.1 O;obtain⟨t,hT,B,E,G⟩:=Wu (nums:=nums) I cO;refine aW acb u (C221 lv U J xs ns nums _ t (t.size+1) _ (V.ext u.aG) (M.ext u.aG) (W.ext u.aG) Z Y cO j7 E G hT cO) (λ_ he u=>aM rfl (aM rfl ?_));rw[B];exact⟨rfl,u.aG⟩
def Bk.aBb{L:List bR}{k:Nat}{x:bR}{a c r:Bk}(h:L.drop k=(Bk.cons x a c r).flat)(I:(Bk.cons x a c r).str){i j e:Int}(hi:i=k+1)(M:j=k+1+x.body)(Y:e=k+1+x.body+x.eG) :
  L[k]?=some x/\(L.take j.toNat).drop i.toNat=a.flat/\(L.take e.toNat).drop j.toNat=c.flat/\L.drop e.toNat=r.flat/\e.toNat<=L.length:=by
 obtain⟨V,O,_⟩:=I
 have U:=a.dC
 have W:=c.dC
 have h1:L.drop (k+1)=a.flat++(c.flat++r.flat):=by rw[<- tz,h];rfl
 have h2:L.drop (k+1+a.flat.length)=c.flat++r.flat:=by rw[<- tz,h1,FT]
 have h3:L.drop (k+1+a.flat.length+c.flat.length)=r.flat:=by rw[<- tz,h2,FT]
 have J:=g6 List.length h
 have G:(Bk.cons x a c r).flat.length=1+(a.flat.length+(c.flat.length+r.flat.length)):=by simp[Bk.flat];omega
 rw[G,rH]at J
 have E:i.toNat=k+1:=cO
 have u:j.toNat=k+1+a.flat.length:=cO
 have B:e.toNat=k+1+a.flat.length+c.flat.length:=cO
 refine⟨?_,?_,?_,dI,cO⟩
 .have:(L.drop k)[0]?=some x:=by rw[h];rfl
  grind
 .rw[Xj,E,u,h1,show k+1+a.flat.length-(k+1)=a.flat.length by omega,Ny]
 rw[Xj,u,B,h2,show k+1+a.flat.length+c.flat.length-(k+1+a.flat.length)=c.flat.length by omega,Ny]
theorem C128(K:hM)(sv:SV)(rows:List bF)(b:Bk)(w:World)(G:∀w',Ext w w'->K w')(hb:b.str)(Pl:∀w,rR K sv rows b.flat w)(Im:b.flat.length<=100000) :
   CR 128 [ir sv] w (λv w'=>∃ds,lF K ds (EN false b)/\kq (bE v ds) w w'):=by
 have u:=St.start w;refine agl _ _ _ ?_;unfold S128;have I:∀w',K w'->dD (λ_=>True) w' (ir sv) rows:=λw' h=>(Pl w').2 h;have Z:∀w',K w'->fT rows b.flat w':=λw' h=>(Pl w').1 w' h;have HF:rows.length=b.flat.length:=(Z _ (G _ (Ext.refl _))).1;refine aV ([]:List qc) u nS rfl rfl (dQ rfl) (λs8 O u=>?_);refine⟨λmm o y w'=>∃(k:Nat) (ds:List qc) (qs:List Dq) (r:Bk),y=hZ (k:Int)/\mm=b.flat.length-k/\r.str/\b.flat.drop k=r.flat/\EN false b=qs++EN false r/\lF K ds qs/\ds.length<=k/\k<=b.flat.length/\St w aX [bE o ds] w',⟨_,0,[],[],b,rfl,rfl,hb,rfl,rfl,lF.nil,Nat.le_refl _,l0 _,u⟩,?_⟩
 rintro mm o _ _ ⟨k,ds,qs,r,rfl,rfl,hr,Q5,Hv,W,Is,hk,u⟩ _;refine aK fB (I _ (G _ u.aG)) (aR (aC (λc=>?_) λc=>?_));rotate_left
 .have h0:r.flat.length=0:=by rw[<- Q5,rH];omega
  have hrn:r=.nil:=by
   cases r with
   | nil=>rfl
   | cons _ _ _ _=>simp[Bk.flat]at h0
  subst hrn;exact⟨ds,by rw[Hv];show lF K ds (qs++[]);rw[oO];exact W,u.fresh⟩
 obtain⟨x,a,c',r',rfl⟩:=Bk.Ev (t:=r) (by rw[<- Q5,rH];omega);obtain⟨g1,g2,g3,g4,sa,sc,sr⟩:=id hr;obtain⟨e1,e2,e3,e4,e5⟩:=Bk.aBb Q5 hr (i:=(k:Int)+1) (j:=(k:Int)+1+x.body) (e:=(k:Int)+1+x.body+x.eG) rfl rfl rfl;obtain⟨t0,VU⟩:∃t0,rows[k]?=some t0:=⟨_,la (by have:=(kB.1 e1).1;omega)⟩;have U:∀w',K w'->mi w' t0 x:=λw' h=>(Z w' h).2 k t0 x VU e1;obtain⟨M,J,rfl,_,_⟩:=jn (U _ (G _ u.aG));refine aQ fB (I _ (G _ u.aG)) cO (by rw[pd];exact VU) (λq hq=>aD eU hq (aN u jD λb5 _ u=>aJ (x:=(⟨x.kind,x.eN,x.name,M,J,x.n,x.body,x.eG,x.at_⟩:bF)) u eU rfl rfl λ_ u=>aO cO (aA jh (aB (v:=hZ x.body) bL u.hb rfl (aO cO (aA iQ (aB (v:=hZ x.eG) bL u.hb rfl (aO cO (have u:=u.drew;aD (x:=(⟨x.kind,x.eN,x.name,M,J,x.n,x.body,x.eG,x.at_⟩:bF)) eU u.At (aO cO ?_))))))))))
 refine oX fB (I _ (G _ u.aG)) cO cO cO (λs32 V=>?_);obtain⟨E,rfl⟩:=(V _ (I _ (G _ u.aG))).fN;refine oX fB (I _ (G _ u.aG)) cO cO cO (λs36 Y=>?_);obtain⟨B,rfl⟩:=(Y _ (I _ (G _ u.aG))).fN;refine pop (Lm x.kind x.eN x.name M.a M.n M.cap J.a J.n J.cap x.n x.body x.eG x.at_ E.a E.n E.cap B.a B.n B.cap) (aV ([⟨(⟨x.kind,x.eN,x.name,M,J,x.n,x.body,x.eG,x.at_⟩:bF),E,B,false⟩]:List qc) u nS rfl rfl (dQ rfl) λs38 _ u=>?_);have aBc:=u.dW;refine bI u.p2 nS aBc (by rw[l2];omega) ee (λs39 _ u=>⟨_,?_,((k:Int)+1+x.body+x.eG).toNat,ds++[⟨(⟨x.kind,x.eN,x.name,M,J,x.n,x.body,x.eG,x.at_⟩:bF),E,B,false⟩],qs++[(x,a,c',false)],r',g6 (nG .i64) cO,rfl,sr,e4,by rw[Hv];simp[EN],W.append (lF.cons ⟨U,⟨_,λO=>⟨λw' h=>?_,λh=>V O (I O h)⟩⟩,⟨_,λO=>⟨λw' h=>?_,λh=>Y O (I O h)⟩⟩,rfl⟩ lF.nil),?_,e5,u.p1.drop.p1.drop⟩)
 .omega
 .have:=fT.cut (i:=((k:Int)+1).toNat) (j:=((k:Int)+1+x.body).toNat) (Z w' h);rw[e2]at this;exact this
 .have:=fT.cut (i:=((k:Int)+1+x.body).toNat) (j:=((k:Int)+1+x.body+x.eG).toNat) (Z w' h);rw[e3]at this;exact this
 rw[lr,l2];omega
def C203(p:Nat)(t:kc)(Y:Value)(O:SV)(rg:Value)(Z:Nat)(lv:Value)(xs:List cC)(w:World)(M:nh w p (zb Y O rg Z t.fault))(V:dD (λ_=>True) w (ir O) t.names)(U:dD (λ_=>True) w rg t.dY)(J:dD (λ_=>True) w lv xs)
  (hn:xs.length<=1048576) (Cp:t.names.length<=1048576) (I:∀x∈xs,x.name.size<=1000) (W:zo t.dY):CR 203 [.pointer (some ⟨p,0,none⟩),lv] w (λv w'=>v=.tuple #[hZ (eR t xs).1,.bool (eR t xs).2]/\Ext w w'):=by
 have E:=M.cell (o:=1) rfl;have G:=M.cell (o:=2) rfl;have u:=St.start w;refine pj Tryz.func203 (pl:=aAW) ?_;refine aK il J (aH (aC (λc=>?_) λc=>?_))
 .have B:eR t xs=(0,true):=by unfold eR;rw[ew cO]
  rw[B];exact⟨rfl,u.aG⟩
 have B:eR t xs=((qw t.names t.dY xs).1,decide ((qw t.names t.dY xs).2=0)):=by unfold eR;rw[ej cO]
 have u:=u.drew;refine aE (aA Mp (bN jq (E.ext u.aG) (aE (aA Mq (bN ey (G.ext u.aG) (aW aiT u (C146 _ _ _ xs t.names t.dY _ (J.ext u.aG) (V.ext u.aG) (U.ext u.aG) hn Cp (λx h=>vt (I x h) ee) W) λ_ he u=>aM rfl (aM rfl (aH ?_))))))));rw[B];exact⟨rfl,u.aG⟩
def C204(K:hM)(p:Nat)(room:Int)(t:kc)(F:Nat->Prop)(s:ByteArray)(n:Int)(w:World)(G:(mD K p room t).p w F)(M:∀w',gJ F w w'->K w')(E:0<=dA t.names s)(V:t.dY.length=t.names.length)(J:t.names.length<=1000) :
   CR 204 [.pointer (some ⟨p,0,none⟩),.string s,hZ n] w (λv w'=>v=.tuple #[]/\nd F (mD K p room (pN t s n)) w w'):=by
 obtain⟨j,O,I,_⟩:=mf (dS.1 E);have U:=(kB.1 I).1;have u:=St.begin G;refine fj Tryz.func204 ?_;obtain⟨Y,Z,rg,W,ds,B,u⟩:=mD.open u;exact aE (aA Mp (aB jq u.hb rfl (aW sD u (C123 _ t.names s _ (B.1 _ (M _ u.aG)) cO) λ_ _ u=>aE (aA Mq (aB ey u.hb rfl (dT u.p2 cS cO cO λ_ h=>jA (n:Int) u.p2 bL h cO λ_ u=>have u:=mD.shut (t:=pN t s n) B u.p3.p1.p3.p3;⟨rfl,u.mut⟩))))))
def C171(K:hM)(p:Nat)(room:Int)(t:kc)(F:Nat->Prop)(lv:Value)(es:List qc)(qs rest:List Dq)(V:Dq)(p2:PD)(w:World)(Y:(mD K p room t).p w F)(hK:∀w',gJ F w w'->K w')(O:∀w',gJ F w w'->dD (λ_=>True) w' lv es)(W6:lF K es qs)(uD:wU t.cJ=V::rest)(Z:wU p2=qs++rest)(NH:GU p2)(MA:es.length<=100000)(HF:rest.length<=100000) :
   CR 171 [.pointer (some ⟨p,0,none⟩),lv] w (λv w'=>v=.tuple #[]/\nd F (mD K p room {t with cJ:=p2}) w w'):=by
 have u:=St.begin Y;refine fj Tryz.func171 ?_;obtain⟨bp,nv,rg,R4,ds,M,u⟩:=mD.open u;have J:=M.2.1;rw[uD]at J;obtain⟨d0,I,rfl,_,B⟩:=J.head;have Is:=B.1;refine aV ([]:List qc) u nS rfl rfl (dQ rfl) (λs5 _ u=>bI u nS (O _ u.aG) (by simp;omega) ee λs7 _ u=>aE (aA kY (aB u7 u.p1.hb rfl (CC nS u.p4.dZ cO (by rw[oi];omega) λU E=>bI u nS E (by simp;omega) ee λW _ u=>aE (aA kY (aT u.p1 u7 (dQ rfl) u.dW.one λ_ u=>?_))))));have u:=u.p4.drop.p1.freeze.p3.p3.p3
 have e:([]++es++(d0::I).drop (1:Int).toNat)=es++I:=rfl;rw[e]at u;have G:RTK K nv (es++I) {t with cJ:=p2}:=⟨M.1,by rw[Z];exact W6.append B,NH⟩;exact⟨rfl,(mD.shut (t:={t with cJ:=p2}) G u).mut⟩
theorem Di{b:Bk}{n:Nat}(h:b.len<=n):∀{e:Bool},(EN e b).length<=n:=by
 intro e
 have:∀(b:Bk) (e:Bool),(EN e b).length<=b.len:=by
  intro b
  induction b with
  | nil=>intro e;exact l0 _
  | cons x a c r _ _ u=>intro e;have:=u false;simp only[EN,oi,Bk.len];omega
 grind
theorem C129(K:hM)(p:Nat)(room:Int)(t tR:kc)(n:Nat)(cs ls:List ByteArray)(F:Nat->Prop)(w:World)(hF:(mD K p room t).p w F)(O:∀w',gJ F w w'->K w')(j7:yW cs ls t)(hto:Ct t)(hg:tX n t=some tR) :
   CR 129 [.pointer (some ⟨p,0,none⟩)] w (λv w'=>v=.tuple #[]/\nd F (mD K p room tR) w w'):=by
 have u:=St.begin hF;refine agm _ _ _ ?_;unfold S129;refine⟨λmm w'=>∃B:kc,tX mm B=some tR/\yW cs ls B/\Ct B/\St w F [mD K p room B] w',⟨n,t,hg,j7,hto,u⟩,?_⟩;rintro mm w1 ⟨B,Cs,yk,amX,u⟩ _;obtain⟨k,rfl⟩:=IV Cs;have D6:=yk.cl;have hnb:=yk.nb;have HF:=yk.rl;have hfc:=GV B.cJ;obtain⟨bp,nv,rg,R4,ds,E,u⟩:=mD.open u;have Is:=E.2.1.1;refine aE (aA kY (aB u7 u.hb rfl (aK nS u.p3.dZ (cQ (aC (λc0=>?_) λc0=>?_)))));rotate_left
 .have eO:pM B.cJ=none:=by
   cases h:pM B.cJ with
   | none=>rfl
   | some q=>obtain⟨x,a,b⟩:=q;obtain⟨e,h2⟩:=Cb h;rw[h2,oi]at Is;omega
  rw[pO Cs (aaJ eO)];exact⟨rfl,(mD.shut E u).mut⟩
 obtain⟨x,a,b,BW⟩:∃x a b,pM B.cJ=some (x,a,b):=by
  cases h:pM B.cJ with
  | none=>have h2:=IT yk.p h;have h3:(wU B.cJ).length=0:=(by rw[h2];rfl);omega
  | some q=>exact⟨q.1,q.2.1,q.2.2,rfl⟩
 obtain⟨en,uD⟩:=Cb BW;have R5:(wU (gO B.cJ)).length<=100000:=by rw[uD,oi]at hfc;omega
 have xd:=E.2.1;rw[uD]at xd;obtain⟨d0,qF,rfl,zT,hds⟩:=xd.head;have hKn:K w1:=O _ u.aG;obtain⟨dx,G,U,dn⟩:=d0;obtain⟨J,I,rfl,_,_⟩:=jn (zT.x _ hKn);have AO:∀w,K w->mi w (⟨x.kind,x.eN,x.name,J,I,x.n,x.body,x.eG,x.at_⟩:bF) x:=zT.x
 have Rm:∀w,K w->dD (λ_=>True) w (ir J) x.e/\dD (λ_=>True) w (ir I) x.f:=λw hw=>by
  obtain⟨_,_,h4,h5,h6⟩:=jn (AO w hw);cases h4
  exact⟨h5,h6⟩
 obtain⟨ra,hda⟩:=zT.a;obtain⟨rb,Vk⟩:=zT.b;obtain⟨hx,sa,sb,aa,ab,Ly,hb2,Vl,r,e,p',Cn,sr,ar⟩:=yk.top BW;have jd:(Bk.cons x a b r).str:=yk.p.st _ (by rw[Cn];exact oj ..);have Im:b.len<=40:=jd.2.2.2.1;have hxe:=hx.e;have hxn:=hx.nm;refine aE (aA kY (aB u7 u.hb rfl (aQ nS u.p3.dZ cO rfl λq hq=>aD Ms hq (aN u SX λb2 _ u=>aJ (x:=(⟨⟨x.kind,x.eN,x.name,J,I,x.n,x.body,x.eG,x.at_⟩,G,U,dn⟩:qc)) u Ms rfl rfl λ_ u=>aA pB (aA jg (aB (v:=ir J) jC u.hb rfl (aW OY u (C203 p B R4 nv rg bp _ x.e _ u.p1.hb (E.1 _ (O _ u.aG)) u.p3.dW (Rm _ (O _ u.aG)).1 cO cO hxn.1 amX.r) λ_ he u=>aM rfl (aM rfl ?_))))))))
 refine aA pB (aA km (aB (v:=ir I) jC u.hb rfl (aW OY u (C203 p B R4 nv rg bp _ x.f _ u.p1.hb (E.1 _ (O _ u.aG)) u.p3.dW (Rm _ (O _ u.aG)).2 cO cO hxn.2 amX.r) λw5 he u=>aM rfl (aM rfl ?_))));refine⟨λjv w'=>jv=.bool (!((eR B x.e).2&&(eR B x.f).2))/\w'=w5,?_,?_⟩
 .exact bT (bD (λc=>⟨vb (by rw[Bool.not_eq_true']at c;rw[c];rfl),rfl⟩) λc=>bT ⟨vb (by rw[Bool.not_eq_false']at c;rw[c];rfl),rfl⟩)
 rintro _ w6 ⟨rfl,rfl⟩ _;refine bD (λc1=>?_) (λc1=>?_)
 .refine aE (aA xy (aT u.p1 bL (dQ rfl) rfl λw7 u=>?_))
  have PQ:rk B=({B with fault:=2},false):=by
   cases h1:(eR B x.e).2 with
   | false=>exact aaK BW h1
   | true=>exact aaL BW (by rw[h1]at c1;simpa using c1)
  rw[pO Cs PQ];have u:=u.p1.drop;exact⟨rfl,(mD.shut (t:={B with fault:=2}) E u).mut⟩
 have VC:(eR B x.e).2=true/\(eR B x.f).2=true:=by simpa using c1
 have hgk:=aaM BW VC.1 VC.2
 have wP:∀(t2:kc) (w':World),rj B x a b (eR B x.e).1=(t2,true)->St w F [mD K p room t2,bW b2 (j0 (⟨⟨x.kind,x.eN,x.name,J,I,x.n,x.body,x.eG,x.at_⟩,G,U,dn⟩:qc))] w'->∃m',m'<k+1/\∃B:kc,tX m' B=some tR/\yW cs ls B/\Ct B/\St w F [mD K p room B] w':=λt2 w' h3 h4=>by
  have h5:=hgk.trans h3;obtain⟨h6,h7,_⟩:=EE yk;have h8:=amX.goS;rw[h5]at h6 h7 h8;exact⟨k,Nat.lt_succ_self k,t2,TY Cs h5,h6,h8,h4.p1.drop⟩
 have D9:=E.2.2.pop;refine aA pB (aA dU (aB (v:=hZ x.kind) bL u.hb rfl (aH (aC (λk1=>?_) λk1=>?_))))
 .refine aA pB (aA iP (aB (v:=.string x.eN) gK u.hb rfl (have u:=mD.shut (t:=B) E u.p4.p4.p4.p4;bG aiO u (H':=λ_=>mD K p room (pN B x.eN (eR B x.e).1)) (Φ:=λ_ _=>True) (λF2 Y M=>?_) ?_)))
  .exact(C204 K p room B F2 x.eN _ _ Y (λw' hc=>O w' (M w' hc).aG) (hx.rg (.inl k1)) HF hnb).mono λ_ _ r=>r.mono λ_ _ h=>⟨trivial,h.2⟩
  rintro _ w8 _ u;refine bG Ji u (H':=λ_=>mD K p room {pN B x.eN (eR B x.e).1 with cJ:=(gO B.cJ)}) (Φ:=λ_ _=>True) (λF2 Y M=>?_) ?_
  .exact(C171 K p room (pN B x.eN (eR B x.e).1) F2 (.slice none 0 0) [] [] _ _ (gO B.cJ) _ Y (λw' hc=>O w' (M w' hc).aG) (λ_ _=>dD.nil _ _) lF.nil uD rfl D9 (l0 _) R5).mono λ_ _ r=>r.mono λ_ _ h=>⟨trivial,h.2⟩
  rintro _ w9 _ u;exact wP _ _ (aaI k1) u
 refine aH (aC (λk2=>?_) λk2=>?_)
 .refine bQ (aC (λc=>?_) λc=>?_)
  .refine aA Mt (aB (v:=ir G) jW u.hb rfl (have u:=mD.shut (t:=B) E u.p4.p4.p4.p4;dO OX (C128 K G _ a _ (λ_ e=>O _ (u.aG.then e)) sa hda (by have:=Bk.dC a;omega)) ?_));rintro s20 w8 ⟨V,Z,cI⟩;have u:=u.made cI;have aBf:V.length<=40:=by have:=Z.1;have:=Di (b:=a) (n:=40) cO (e:=false);omega
   have u:=u.p1;refine bG Ji u (H':=λ_=>mD K p room {B with cJ:=(jz a false (gO B.cJ))}) (Φ:=λ_ _=>True) (λF2 Y M=>?_) ?_
   .exact(C171 K p room B F2 s20 V (EN false a) _ _ (jz a false (gO B.cJ)) _ Y (λw' hc=>O w' (M w' hc).aG) (λw' hc=>(M w' hc).dW) Z uD vC D9.push cO R5).mono λ_ _ r=>r.mono λ_ _ h=>⟨trivial,h.2⟩
   rintro _ w9 _ u;exact wP _ _ (by rw[KJ k2,ej c]) u.p1.drop
  refine aA X8 (aB (v:=ir U) jW u.hb rfl (have u:=mD.shut (t:=B) E u.p4.p4.p4.p4;dO OX (C128 K U _ b _ (λ_ e=>O _ (u.aG.then e)) sb Vk (by have:=Bk.dC b;omega)) ?_));rintro s20 w8 ⟨V,Z,cI⟩;have u:=u.made cI;have aBf:V.length<=40:=by have:=Z.1;have:=Di (b:=b) (n:=40) cO (e:=false);omega
  have u:=u.p1;refine bG Ji u (H':=λ_=>mD K p room {B with cJ:=(jz b false (gO B.cJ))}) (Φ:=λ_ _=>True) (λF2 Y M=>?_) ?_
  .exact(C171 K p room B F2 s20 V (EN false b) _ _ (jz b false (gO B.cJ)) _ Y (λw' hc=>O w' (M w' hc).aG) (λw' hc=>(M w' hc).dW) Z uD vC D9.push cO R5).mono λ_ _ r=>r.mono λ_ _ h=>⟨trivial,h.2⟩
  rintro _ w9 _ u;exact wP _ _ (by rw[KJ k2,ew (u1.1 c)]) u.p1.drop
 refine aH (aC (λk3=>?_) λk3=>?_)
 .have hxn0:=hx.n k3
  have hb0:b=.nil:=by
   have h1:b.len=0:=by have:=hx.el cO;omega
   cases b with
   | nil=>rfl
   | cons _ _ _ _=>simp[Bk.len]at h1
  refine aV ([]:List qc) u nS rfl rfl (dQ rfl) (λs76 _ u=>?_);refine⟨λlv7 w'=>∃(W:List qc) (qs7:List Dq),lF K W qs7/\W.length<=41/\wU (mX x a B.cJ)=qs7++wU (gO B.cJ)/\St w F [bE lv7 W,bW b2 (j0 (⟨⟨x.kind,x.eN,x.name,J,I,x.n,x.body,x.eG,x.at_⟩,G,U,dn⟩:qc)),bW p (zb R4 nv rg bp B.fault),jr bp room B.buf,bE rg B.dY,dZ λw=>dD (λ_=>True) w R4 ((⟨⟨x.kind,x.eN,x.name,J,I,x.n,x.body,x.eG,x.at_⟩,G,U,dn⟩:qc)::qF)] w',?_,?_⟩
  .refine aA pB (aA jX (aB (v:=hZ x.n) bL u.p1.hb rfl (cQ (aC (λc=>?_) λc=>?_))));rotate_left
   .exact⟨[],[],lF.nil,l0 _,by unfold mX;rw[ew cO];rfl,u⟩
   refine aD (x:=(⟨⟨x.kind,x.eN,x.name,J,I,x.n,x.body,x.eG,x.at_⟩,G,U,dn⟩:qc)) Ms u.p1.At (aN u SX λb8 w15 u=>aJ (x:=(⟨⟨x.kind,x.eN,x.name,J,I,x.n,x.body,x.eG,x.at_⟩,G,U,dn⟩:qc)) u Ms rfl rfl λw16 u=>aA pB (aA jX (aB (v:=hZ x.n) bL u.p2.hb rfl (ft cO (aA pB (aA jX (aT u bL (dQ rfl) rfl λ_ u=>aA Mu (aT u A6 (dQ rfl) rfl λ_ u=>have u:=u.enc (cs':=j0 (⟨⟨x.kind,x.eN,x.name,J,I,x.n-1,x.body,x.eG,x.at_⟩,G,U,true⟩:qc)) rfl;aA Mt ?_))))))))
   refine aB (v:=ir G) jW u.p2.hb rfl (dO OX (C128 K G _ a _ (λ_ e=>O _ (u.aG.then e)) sa hda (by have:=Bk.dC a;omega)) ?_);rintro s92 _ ⟨aBh,auh,cI⟩;have u:=u.made cI;have s92l:aBh.length<=40:=by have:=auh.1;have:=Di (b:=a) (n:=40) cO (e:=false);omega
   have aBi:=u.dW;refine bI u.p2 nS aBi (by simp;omega) ee (λs93 _ u=>aD (x:=(⟨⟨x.kind,x.eN,x.name,J,I,x.n-1,x.body,x.eG,x.at_⟩,G,U,true⟩:qc)) Ms u.p2.At (aV ([(⟨⟨x.kind,x.eN,x.name,J,I,x.n-1,x.body,x.eG,x.at_⟩,G,U,true⟩:qc)]:List qc) u nS rfl rfl (dQ rfl) λs96 _ u=>?_));have aBj:=u.dW;refine bI u.p1 nS aBj (by simp;omega) ee (λs97 _ u=>have u:=u.p1.drop.p1.drop.p1.drop;⟨_,EN false a++[({x with n:=x.n-1},a,.nil,true)],(lF.append (lF.append lF.nil auh) (lF.cons (d:=(⟨⟨x.kind,x.eN,x.name,J,I,x.n-1,x.body,x.eG,x.at_⟩,G,U,true⟩:qc)) (q:=({x with n:=x.n-1},a,.nil,true)) ⟨λw hw=>?_,⟨ra,hda⟩,⟨rb,by rw[<- hb0];exact Vk⟩,rfl⟩ lF.nil)),by simp;omega,?_,u⟩)
   .obtain⟨_,_,h4,h5,h6⟩:=AO w hw;cases h4
    exact⟨J,I,rfl,h5,h6⟩
   rw[Wv cO];simp
  rintro lv7 _ ⟨W,qs7,h71,h72,h73,u⟩ _;have u:=((mD.shut (t:=B) E u.p5.p5.p5.p5).p1).p1;refine bG Ji u (H':=λ_=>mD K p room {B with cJ:=(mX x a B.cJ)}) (Φ:=λ_ _=>True) (λF2 Y M=>?_) ?_
  .exact(C171 K p room B F2 lv7 W qs7 _ _ (mX x a B.cJ) _ Y (λw' hc=>O w' (M w' hc).aG) (λw' hc=>(M w' hc).dW) h71 uD h73 E.2.2.round cO R5).mono λ_ _ r=>r.mono λ_ _ h=>⟨trivial,h.2⟩
  rintro _ _ _ u;exact wP _ _ (T0 k3) u.p1.drop
 refine aH (aC (λk4=>?_) λk4=>?_)
 .obtain⟨D,hD⟩:∃D,D=(⟨⟨x.kind,x.eN,x.name,J,I,x.n,x.body,x.eG,x.at_⟩,G,U,dn⟩:qc)::qF:=⟨_,rfl⟩;have hDK:lF K D (wU B.cJ):=by rw[hD];exact E.2.1
  have hDl:D.length=(wU B.cJ).length:=hDK.1;rw[<- hD]at u;refine⟨λmm y w'=>∃j:Nat,y=hZ (j:Int)/\mm=D.length-j/\j<=D.length/\(∀(i:Nat) (q:Dq),i<j->(wU B.cJ)[i]?=some q->q.2.2.2=false)/\w'=w6,⟨_,0,rfl,rfl,l0 _,λ_ _ h=>absurd h (Nn _),rfl⟩,?_⟩;rintro mm _ w7 ⟨j,rfl,rfl,hj,hjn,rfl⟩ _;refine⟨λjv w'=>jv=.bool (match D[j]? with|some d=>!d.in_|none=>false)/\w'=w7,?_,?_⟩
  .refine aE (aA kY (aB u7 u.p1.hb rfl (aK nS u.p4.dZ (aR (aC (λc=>?_) λc=>⟨vb (by rw[nt cO]),rfl⟩)))));obtain⟨d,hd⟩:=gx D (i:=((j:Nat):Int).toNat) cO;refine aE (aA kY (aB u7 u.p1.hb rfl (aQ nS u.p4.dZ cO hd λq hq=>bX d.in_ Mu hq rfl rfl λq2 Lz=>aD A6 Lz (bT ?_))));rw[pd]at hd;exact⟨vb (by rw[hd]),rfl⟩
  rintro _ w8 ⟨rfl,rfl⟩ _;refine bD (λc=>?_) (λc=>?_)
  .have Cm:j<D.length:=by
    rcases P5 j D.length with h|h
    .exact h
    .rw[nt h]at c;cases c
   refine aO cO ?_;refine⟨_,cO,j+1,rfl,rfl,cO,λi q hi hq=>?_,rfl⟩
   by_cases e:i=j
   .subst e;rw[la Cm]at c;have:=(hDK.2 i _ q (la Cm) hq).e;rw[<- this];simpa using c
   exact hjn i q cO hq
  have hdi:uS (wU B.cJ)=(wU B.cJ).drop (j+1):=Jh _ j hjn (λq hq=>by
   have Cm:j<D.length:=by have:=(kB.1 hq).1;omega
   rw[la Cm]at c;have:=(hDK.2 j _ q (la Cm) hq).e;rw[<- this];simpa using c) cO
  have u:=u.drew;refine aE (aA kY (aB u7 u.p1.hb rfl (aO cO (aE (aA kY (aB u7 u.p1.hb rfl (aK nS u.p4.dZ (rX (Ad nS u.p4.dZ cO cO λaBk aui=>?_)))))))));have auj:=aui _ u.p4.dZ;refine aE (aA kY (aT u.p1 u7 (dQ rfl) auj.one λ_ u=>?_));have u:=u.p4.dF (Ψ:=λw=>dD (λ_=>True) w aBk (D.drop (min ((j:Int)+1) (D.length:Int)).toNat)) (λw h=>aui w h)
  have ed:D.drop (min ((j:Int)+1) (D.length:Int)).toNat=D.drop (j+1):=by
   rcases P5 j D.length with h|h
   .congr 1;omega
   .rw[v9 cO,v9 cO]
  rw[ed]at u;have hk9:RTK K nv (D.drop (j+1)) {B with cJ:=kL B.cJ}:=⟨E.1,by show lF K _ (wU (kL B.cJ));rw[Jg E.2.2,hdi];exact hDK.drop _,E.2.2.leave⟩;have u:=((mD.shut (t:={B with cJ:=kL B.cJ}) hk9 u.p4.p4.p3).p1).p1;exact wP _ _ (T1 k4) u
 refine aH (aC (λk5=>?_) λk5=>?_)
 .refine aH (aC (λc=>?_) λc=>?_)
  .refine aE (aA xy (aT u.p1 bL (dQ rfl) rfl λw15 u=>?_));have u:=mD.shut (t:={B with fault:=1}) E u.p4.p4.p4.p3;rw[pO Cs (hgk.trans (N4 k5 c))];have u:=u.p1.p1;exact⟨rfl,u.p1.drop.mut⟩
  have u:=u.p4;have u:=((mD.shut (t:=B) E u.p4.p4.p4).p1).p1;refine bG Ji u (H':=λ_=>mD K p room {B with cJ:=(gO B.cJ)}) (Φ:=λ_ _=>True) (λF2 Y M=>?_) ?_
  .exact(C171 K p room B F2 (.slice none 0 0) [] [] _ _ (gO B.cJ) _ Y (λw' hc=>O w' (M w' hc).aG) (λ_ _=>dD.nil _ _) lF.nil uD rfl D9 (l0 _) R5).mono λ_ _ r=>r.mono λ_ _ h=>⟨trivial,h.2⟩
  rintro _ w16 _ u;exact wP _ _ (N5 k5 c) u
 rw[pO Cs (hgk.trans (T3 k1 k2 k3 k4 k5))];have u:=((mD.shut (t:=B) E u.p4.p4.p4.p4).p1).p1;exact⟨rfl,u.p1.drop.mut⟩
theorem C80(K:hM)(p:Nat)(m:gl)(q:Nat)(t:kc)(w:World)(hm:Has (oh K p m) w)(hw:∀w',Ext w w'->K w')(Y:m4 m)(hh:Has (mD K q m.room t) w)(C8:t∈m.l):CR 80 [.pointer (some ⟨p,0,none⟩),.pointer (some ⟨q,0,none⟩)] w (λv w'=>v=.bool (tG m t)/\Ext w w'):=by
 obtain⟨a,W⟩:=oh.rd hm;have Z:=W.b.cell (o:=6) rfl;have E:=W.b.cell (o:=9) rfl;have j7:=Y.th t C8;have Im:=j7.bl;have alp:(cP m.p).length<=500:=by unfold cP;rw[nc];exact Y.pz.eS
 obtain⟨bp,nv,rg,lv,ds,hk,tF,hB,Eb,J⟩:=mD.rd hh;obtain⟨bsv,Ds,vr,U⟩:=hB;have I:=tF.cell (o:=0) rfl;have G:=tF.cell (o:=3) rfl;have ct4:=tF.cell (o:=4) rfl;have Is:=hk.2.1.1;have u:=St.start w;refine pj Tryz.func80 (pl:=P80) ?_;refine aE (aA kY (bN u7 (I.ext u.aG) (aK nS (J.ext u.aG) (aH (aC (λc0=>?_) λc0=>?_)))))
 .have eO:pM t.cJ=none:=by
   cases h:pM t.cJ with
   | none=>rfl
   | some q=>obtain⟨x,a,b⟩:=q;obtain⟨e,h2⟩:=Cb h;rw[h2,oi]at Is;omega
  exact⟨vb (by unfold tG;rw[eO]),u.aG⟩
 obtain⟨x,xa,xb,BW⟩:∃x a b,pM t.cJ=some (x,a,b):=by
  cases h:pM t.cJ with
  | none=>have h2:=IT j7.p h;have h3:(wU t.cJ).length=0:=(by rw[h2];rfl);omega
  | some q=>exact⟨q.1,q.2.1,q.2.2,rfl⟩
 obtain⟨en,uD⟩:=Cb BW;have xd:=hk.2.1;rw[uD]at xd;obtain⟨d0,qF,rfl,zT,hds⟩:=xd.head;obtain⟨dx,db,de,dn⟩:=d0;obtain⟨ge,gf,rfl,_,_⟩:=jn (zT.x _ (hw _ u.aG));have hx:=(j7.top BW).1;have B:tG m t=(if t.fault≠0\/x.kind=2 then true else if x.kind=3\/x.kind=5\/x.kind=6\/x.kind=7 then !decide (m.room<=t.buf.length)else if x.kind=9/\m.fc.getD (dA (cP m.p) x.name).toNat 0≠-1 then false else decide (t.buf.length=0)):=by unfold tG;rw[BW]
 refine aE (aA kY (bN u7 (I.ext u.aG) (aQ nS (J.ext u.aG) cO rfl λq1 h1=>Mz (⟨x.kind,x.eN,x.name,ge,gf,x.n,x.body,x.eG,x.at_⟩:bF) pB h1 rfl λq2 h2=>aD eU h2 (aN u jD λb5 _ u=>aJ (x:=(⟨x.kind,x.eN,x.name,ge,gf,x.n,x.body,x.eG,x.at_⟩:bF)) u eU rfl rfl λw2 u=>?_))));refine⟨λO w'=>O=.bool (decide (t.fault≠0\/x.kind=2))/\w'=w2,?_,?_⟩
 .exact aE (aA xy (bN bL (ct4.ext u.aG) (bQ (aC (λ_=>⟨vb (ez cO).symm,rfl⟩) λ_=>aA dU (aB (v:=hZ x.kind) bL u.hb rfl (aH ⟨vb (ga.2 cO),rfl⟩))))))
 rintro _ w4 ⟨rfl,rfl⟩ _;refine aC (λc1=>?_) (λc1=>?_)
 .exact⟨vb (by rw[B,ew c1]),u.drop.aG⟩
 rw[ej c1]at B;refine⟨λO w'=>O=.bool (decide (x.kind=3\/x.kind=5\/x.kind=6\/x.kind=7))/\w'=w4,?_,?_⟩
 .refine aA dU (aB (v:=hZ x.kind) bL u.hb rfl ?_);exact aH (aC (λ_=>⟨vb (ez cO).symm,rfl⟩) λ_=>aA dU (aB (v:=hZ x.kind) bL u.hb rfl (aH (aC (λ_=>⟨vb (ez cO).symm,rfl⟩) λ_=>aA dU (aB (v:=hZ x.kind) bL u.hb rfl (aH (aC (λ_=>⟨vb (ez cO).symm,rfl⟩) λ_=>aA dU (aB (v:=hZ x.kind) bL u.hb rfl (aH ⟨vb (ga.2 cO),rfl⟩)))))))))
 rintro _ _ ⟨rfl,rfl⟩ _;refine aC (λc2=>?_) (λc2=>?_)
 .have u:=u.drew;refine aE (aA nT (bN zG (G.ext u.aG) (aE (aA im (bN iV (vr.ext u.aG) (aK gd (U.ext u.aG) (aE (aA SO (bN bL (Z.ext u.aG) (aR ?_))))))))));refine⟨vb ?_,u.drop.aG⟩;rw[B,ew c2,<- decide_not];exact ga.2 cO
 rw[ej c2]at B;refine⟨λO w'=>O=.bool (tG m t)/\Ext w w',?_,?_⟩;rotate_left
 .rintro _ _ h _;exact h
 have u:=u.drew;refine aE (aA nT (bN zG (G.ext u.aG) (aE (aA im (bN iV (vr.ext u.aG) (aK gd (U.ext u.aG) (aH (aC (λc3=>?_) λc3=>?_))))))));rotate_left
 .refine⟨vb ?_,u.drop.aG⟩;rw[B];split
  .rfl
  exact(fV cO).symm
 refine aA dU (aB (v:=hZ x.kind) bL u.hb rfl (bQ (aC (λc4=>?_) λc4=>?_)))
 .exact⟨vb (by rw[B,ej (λh=>c4 h.1),ez cO]),u.drop.aG⟩
 have M:x.kind=9:=u1.1 c4;obtain⟨j,hj,BO,_⟩:=mf (dS.1 (hx.lk (.inl M)));have Cm:=(kB.1 BO).1;have how:=Y.ow;refine aE (aA vO (bN ey (E.ext u.aG) (aE (aA pq (qK a.pv er (nh.ext W.b u.aG) rfl (aA gw (aB (v:=.string x.name) gK u.hb rfl (dV Sw u (C125 m.p a.pv _ (W.uk.pr _ (hw _ u.aG)) Y.pz) λx82 _ cI u=>?_))))))));refine⟨aF ey (E.ext u.aG),?_⟩;refine⟨aF gK (u.p1.hb.cell (v:=.string x.name) rfl),?_⟩;refine aW sD u (C123 _ (cP m.p) x.name _ u.dW cO) (λ_ he u=>?_)
 refine⟨aF ey (E.ext u.aG),?_⟩;obtain⟨ov,V⟩:=gx m.fc (i:=(dA (cP m.p) x.name).toNat) cO;refine aQ cS (W.ow.ext u.aG) cO V (λq71 h71=>aD bL h71 (aH ?_));refine⟨vb ?_,u.drop.drop.aG⟩;rw[B,n3,V];show _=if x.kind=9/\ov≠-1 then false else decide (t.buf.length=0)
 by_cases e:ov = -1
 .rw[ej (λh=>h.2 e),ez e,ez cO]
 rw[ew ⟨M,e⟩,fV e]
def C22(K:hM)(p:Nat)(m:gl)(w:World)(hm:Has (oh K p m) w)(hw:∀w',Ext w w'->K w')(I:m4 m):CR 22 [.pointer (some ⟨p,0,none⟩)] w (λv w'=>kq (fJ v (gi m)) w w'):=by
 obtain⟨a,B⟩:=oh.rd hm;have V:=B.b.cell (o:=10) rfl;have C9:=B.b.cell (o:=11) rfl;have hlen:=B.len;have Pk:=I.tl;have u:=St.start w;refine fj Tryz.func22 ?_;refine oY (α:=aS) u fD (λs7 J u=>?_);refine⟨λG o y J=>∃k:Nat,y=hZ (k:Int)/\G=a.ps.length-k/\k<=a.ps.length/\(m.fault≠0->k=0)/\St w aX [fJ o (iz m k)] J,⟨_,0,rfl,rfl,l0 _,λ_=>rfl,u⟩,?_⟩;rintro G o _ w2 ⟨k,rfl,rfl,Ss,W,u⟩ _;refine⟨λjv w'=>jv=.bool (decide (k<a.ps.length/\m.fault=0))/\w'=w2,?_,?_⟩
 .exact aE (aA pw (bN E7 (V.ext u.aG) (aK Hx (B.ll.ext u.aG) (aR (aC (λ_=>aE (aA vP (bN bL (C9.ext u.aG) (aH ⟨vb (ga.2 cO),rfl⟩)))) λ_=>⟨vb (fV cO).symm,rfl⟩)))))
 rintro _ _ ⟨rfl,rfl⟩ _;refine aC (λc1=>?_) (λc1=>?_);rotate_left
 .have M:gi m=iz m k:=by
   unfold gi
   by_cases hf:m.fault=0
   .rw[ej cO,show k=m.l.length from cO]
   .rw[ew hf,W hf];rfl
  rw[M];exact u.fresh
 obtain⟨c2,c3⟩:=c1;obtain⟨t,ht⟩:=gx m.l (i:=k) cO;obtain⟨e,Z⟩:=gx a.ps (i:=((k:Nat):Int).toNat) cO;have C8:=kE ht;have Xa:=B.th k e t (by rw[<- pd k];exact Z) ht;have Im:=(I.th t C8).bl;have oD:=sf I k;have aBm:k*1001<=1001000:=Ce 1001 (show k<=1000 by omega);obtain⟨bp,nv,rg,lv,ds,hk,tF,hB,Eb,hlr⟩:=mD.rd Xa;have O:=tF.cell (o:=3) rfl;refine⟨λo w'=>St w aX [fJ o (iz m k++(if tG m t=true then [(⟨1,k,0,[]⟩:aS)]else []))] w',?_,?_⟩
 .refine aE (aA pw (bN E7 (V.ext u.aG) (aQ Hx (B.ll.ext u.aG) cO Z λq E=>aD Ic E (aW aAY u (C80 K p m e.b t _ (hm.ext u.aG) (λ_ e=>hw _ (u.aG.then e)) I (Xa.ext u.aG) C8) λ_ NH u=>bD (λU=>?_) λU=>?_))))
  .refine pop (C7 1 (k:Int)) (have u:=u.fk (Φ:=λw=>mi w (⟨1,(k:Int),0,bY⟩:aI) (⟨1,(k:Int),0,[]⟩:aS)) (λw=>⟨bY,rfl,DL.nil w⟩);gA (x:=(⟨1,(k:Int),0,[]⟩:aS)) (s:=(⟨1,(k:Int),0,bY⟩:aI)) u fD ee λs45 _ u=>gg u.p1 fD (by simp;omega) ee λs46 _ u=>?_);rw[U,ew rfl];exact u
  rw[U,ej ee,oO];exact u
 rintro o2 _ u _;refine aE (aA pw (bN E7 (V.ext u.aG) (aQ Hx (B.ll.ext u.aG) cO Z λq E=>aD Ic E (aE (aA nT (bN zG (O.ext u.aG) (dV awP u (C81 bp _ _ _ (hB.ext u.aG) cO) λY _ cI u=>?_)))))));have D6:=AA t.buf;refine⟨λG o y J=>∃j:Nat,y=hZ (j:Int)/\G=(qe t.buf).length-j/\j<=(qe t.buf).length/\St w aX [fJ o (iz m k++(if tG m t=true then [(⟨1,k,0,[]⟩:aS)]else [])++((qe t.buf).take j).map λi=>(⟨2,k,i,[]⟩:aS)),bE Y (qe t.buf)] J,⟨_,0,rfl,rfl,l0 _,by rw[List.take_zero,List.map_nil,oO];exact u.p1⟩,?_⟩
 rintro G o3 _ _ ⟨j,rfl,rfl,hj,u⟩ _;refine aK cS u.p1.dW (aR (aC (λc5=>?_) λc5=>?_))
 .obtain⟨y,hy⟩:=gx (qe t.buf) (i:=((j:Nat):Int).toNat) cO;exact aQ cS u.p1.dW cO hy (λ_ E=>aD bL E (pop (DG 2 (k:Int) y) (have u:=u.fk (Φ:=λw=>mi w (⟨2,(k:Int),y,bY⟩:aI) (⟨2,(k:Int),y,[]⟩:aS)) (λw=>⟨bY,rfl,DL.nil w⟩);gA (x:=(⟨2,(k:Int),y,[]⟩:aS)) (s:=(⟨2,(k:Int),y,bY⟩:aI)) u fD ee λ_ _ u=>gg u.p1 fD (by simp only[lr,nc,l1,l2];split<;>simp<;>omega) ee λ_ _ u=>aO cO ⟨_,cO,j+1,rfl,rfl,cO,by rw[<- gy (k:=j) hy,<- nK];exact u⟩)))
 rw[kO cO]at u;refine aO cO ?_;refine⟨_,cO,k+1,rfl,rfl,cO,λh=>absurd c3 h,?_⟩;rw[uN ht];unfold se;rw[<- nK];exact u.p1.drop
def C18(K:hM)(p:Nat)(m:gl)(w:World)(hm:Has (oh K p m) w)(hw:∀w',Ext w w'->K w')(iM:m4 m)(nL:MB m.mem 1000000)(Y:(eF (xi m.mem)).length<=1000000000):CR 18 [.pointer (some ⟨p,0,none⟩)] w (λv w'=>kq (fJ v (mZ m)) w w'):=by
 obtain⟨a,M⟩:=oh.rd hm;have G7:=M.b.cell (o:=8) rfl;have C9:=M.b.cell (o:=11) rfl;have D6:(BT m.mem).length<=1000000000:=vt (KI _ _) Y;have u:=St.start w;refine fj Tryz.func18 ?_;refine aV ([]:List aI) u fD rfl rfl (dQ rfl) (λs6 O u=>aE (aA qH (bN pZ (G7.ext u.aG) (dV awK u (C78 a.q m.mem _ (M.mem.ext u.aG) iM.mem nL Y) λG _ cI u=>?_))));obtain⟨E,u⟩:=u.Bm;have Pl:=u.p1.dZ.1;refine⟨λU o y O=>∃k:Nat,y=hZ (k:Int)/\U=E.length-k/\k<=E.length/\(m.fault≠0->k=0)/\St w aX [bE o ((E.take k).map pk3),bE G E,dZ (fT E (BT m.mem))] O,⟨_,0,rfl,rfl,l0 _,λ_=>rfl,u.p2⟩,?_⟩
 rintro U o _ w3 ⟨k,rfl,rfl,hk,J,u⟩ _;refine⟨λjv w'=>jv=.bool (decide (k<E.length/\m.fault=0))/\w'=w3,?_,?_⟩
 .exact aK nx u.p1.dW (aR (aC (λ_=>aE (aA vP (bN bL (C9.ext u.aG) (aH ⟨vb (ga.2 cO),rfl⟩)))) λ_=>⟨vb (fV cO).symm,rfl⟩))
 rintro _ _ ⟨rfl,rfl⟩ _;refine aC (λV=>?_) (λV=>?_)
 .obtain⟨e,Z⟩:=gx E (i:=((k:Nat):Int).toNat) cO;refine aQ nx u.p1.dW cO Z (λq hq=>aD ey hq (pop (VW 3 e.a e.n e.cap) (aV ([pk3 e]:List aI) u fD rfl rfl (dQ rfl) λs24 _ u=>?_)));have I:=u.dW;exact bI u.p1 fD I (by rw[nc,l1,l2];omega) ee (λ_ _ u=>aO cO ⟨_,cO,k+1,rfl,rfl,cO,λh=>absurd V.2 h,by rw[<- gy (k:=k) Z];exact u.p1.drop⟩)
 by_cases W:m.fault=0
 .have B:mZ m=(BT m.mem).map λc=>(⟨3,0,0,c⟩:aS):=by unfold mZ;rw[ej cO]
  rw[B];rw[kO cO]at u;exact(St.xF (u.p1.drop.p1.dF λ_ h=>afG h).p1).fresh
 have B:mZ m=[]:=by unfold mZ;rw[ew W]
 rw[B];rw[J W]at u;exact(St.xF (u.p1.drop.p1.dF (Ψ:=fT ([]:List aI) ([]:List aS)) λ_ _=>fT.nil).p1).fresh
def C168(K:hM)(p:Nat)(m:gl)(i kind:Int)(F:Nat->Prop)(w:World)(E:(oh K p m).p w F):CR 168 [.pointer (some ⟨p,0,none⟩),hZ i,hZ kind] w (λv w'=>v=ir (⟨16,i,kind,0,0⟩:cD)/\nd F (oh K p {m with fault:=kind,jk:=i}) w w'):=by
 have u:=St.begin E;refine fj Tryz.func168 ?_;obtain⟨a,B,u⟩:=oh.open u;exact aN u mr (λ_ _ u=>have u:=u.enc (cs':=j0 (⟨0,0,0,0,0⟩:cD)) rfl;aE (aA vP (aT u.p1 bL (dQ rfl) rfl λ_ u=>aE (aA SP (aT u bL (dQ rfl) rfl λ_ u=>pop (um 16 i kind) (aJ (x:=(⟨16,i,kind,0,0⟩:cD)) u.p1 fr rfl rfl λ_ u=>aD fr u.At ⟨rfl,(oh.shut (m:={m with fault:=kind,jk:=i}) ⟨B.pr,B.rc⟩ u.drop).mut⟩))))))
def DJ(K:hM)(p:Nat)(m:gl)(i:Nat)(tp:Ptr):HP:=qm λa:RA=>fact (RSK K a m/\a.ps[i]?=some tp/\a.ps.length=m.l.length/\i<m.l.length) (sep (bW p (pW a m)) (sep (gI a.q m.mem) (sep (bE a.ow m.fc) (sep (bE a.ll a.ps) (n6 (O4 K m.room) a.ps m.l i)))))
section
variable {w w' w0:World}{A:Nat->Prop}{R:List HP}{p:Nat}{K:hM}{m:gl}{a:RA}{i:Nat}{tp:Ptr}{t:kc}
theorem DJ.open(u:St w0 A (DJ K p m i tp::R) w):∃a,(RSK K a m/\a.ps[i]?=some tp/\a.ps.length=m.l.length/\i<m.l.length)/\St w0 A (bW p (pW a m)::gI a.q m.mem::bE a.ow m.fc::bE a.ll a.ps::n6 (O4 K m.room) a.ps m.l i::R) w:=by
 obtain⟨a,u⟩:=u.eA;obtain⟨B,u⟩:=u.mK;exact⟨a,B,tD u⟩
theorem DJ.shut(u:RSK K a m/\a.ps[i]?=some tp/\a.ps.length=m.l.length/\i<m.l.length)(B:St w0 A (bW p (pW a m)::gI a.q m.mem::bE a.ow m.fc::bE a.ll a.ps::n6 (O4 K m.room) a.ps m.l i::R) w):St w0 A (DJ K p m i tp::R) w:=
 St.eB a (St.oW u (tE B))
theorem aci{ps:List Ptr}(B:St w0 A (iu (O4 K m.room) ps m.l::R) w)(u:ps[i]?=some tp)(ht:m.l[i]?=some t):St w0 A (mD K tp.b m.room t::n6 (O4 K m.room) ps m.l i::R) w:=B.focus u ht
theorem yA(u:St w0 A (mD K tp.b m.room t::DJ K p m i tp::R) w):St w0 A (oh K p {m with l:=m.l.set i t}::R) w:=by
 obtain⟨a,⟨B,E,G,hi⟩,u⟩:=DJ.open u.p1
 have h1:St w0 A (O4 K m.room tp t::n6 (O4 K m.room) a.ps m.l i::_) w:=u.p4.p5
 have h2:=h1.Eo hi G E
 have h3:=h2.p4.p4.p4.p4
 exact oh.shut (m:={m with l:=m.l.set i t}) ⟨B.pr,B.rc⟩ h3
end
section
variable {m:gl}{t:kc}{i:Int}{x:bR}
theorem acj(h:x.kind=2):eo m t i x=(m,pN t x.eN (iB m t (dX m x)),yn m t x):=by unfold eo;grind
theorem ack(h:x.kind=3):eo m t i x=(m,qB m t ⟨3,fH m x,dX m x,(eR t x.e).1⟩,⟨3,0,dX m x,(eR t x.e).1,0⟩):=by unfold eo;grind
theorem acm(h:x.kind=5):eo m t i x=(m,qB m t ⟨5,fH m x,0,0⟩,⟨4,0,fH m x,0,0⟩):=by grind[eo,qB,fH]
theorem acn(h:x.kind=6):eo m t i x=(m,qB m t ⟨6,fH m x,0,0⟩,⟨5,0,fH m x,0,0⟩):=by grind[eo,qB,fH]
theorem aco(h:x.kind=7):eo m t i x=(m,qB m t ⟨7,0,0,0⟩,⟨6,0,0,0,0⟩):=by grind[eo,qB]
theorem amY(h:x.kind=8):eo m t i x=(m,t,⟨7,0,0,0,0⟩):=by grind[eo]
theorem amZ(h:x.kind=4):eo m t i x=(sg m t x,pN t x.eN (jN m.mem (dX m x)),uo m t x):=by unfold eo;grind
theorem am0(h:x.kind=9):eo m t i x=(qf m x i,t,⟨10,0,fM m x,0,0⟩):=by grind[eo,qf,fM]
theorem agF(h:x.kind=10):eo m t i x=(qf m x (-1),t,⟨11,0,fM m x,0,0⟩):=by grind[eo,qf,fM]
theorem acp{a b:Bk}(h:tG m t=true)(B:t.fault=0)(ht:pM t.cJ=some (x,a,b))(u:x.kind=4):t.buf=[]:=by
 unfold tG at h
 grind
theorem acq{u:Mem}{c e:Int}(B:0<=c)(h:u.l[c.toNat]?=some e):jN u c=e:=by
 have:=(kB.1 h).1
 unfold jN
 rw[ew (by unfold HD;rw[decide_eq_true_eq];omega),n3,h];rfl
end
def C170(K:hM)(sv:Value)(m:gl)(i:Int)(tp:Ptr)(t:kc)(x:bR)(xv:bF)(F:Nat->Prop)(w:World)(hF:(mD K tp.b m.room t).p w F)(V:∀w',gJ F w w'->K w')(W:yW (cX m.p) (cP m.p) t)(M:Ct t)(Y:∀w,K w->mi w xv x)(hx:VS (cX m.p) (cP m.p) t.names x)(hkd:x.kind=3\/x.kind=5\/x.kind=6\/x.kind=7) :
   CR 170 [sv,.pointer (some ⟨tp.b,0,none⟩),ir xv,hZ (dX m x),hZ (fH m x)] w (λv w'=>v=ir (eo m t i x).2.2/\nd F (mD K tp.b m.room (eo m t i x).2.1) w w'):=by
 have u:=St.begin hF;obtain⟨U,Z,rfl,_,_⟩:=jn (Y _ (V _ u.aG))
 have Rm:∀w,K w->dD (λ_=>True) w (ir U) x.e/\dD (λ_=>True) w (ir Z) x.f:=λw hw=>by
  obtain⟨_,_,h4,h5,h6⟩:=jn (Y w hw);cases h4
  exact⟨h5,h6⟩
 have hxe:=hx.e;have O:=hx.nm;have hnb:=W.nb;have HF:=W.rl;have Im:=W.bl;refine fj Tryz.func170 ?_;refine cM (x:=(⟨x.kind,x.eN,x.name,U,Z,x.n,x.body,x.eG,x.at_⟩:bF)) u (λb7 _ u=>aN u mr λb10 _ u=>?_);have u:=(u.enc (cs':=j0 (⟨0,0,0,0,0⟩:cD)) rfl).p2;obtain⟨B,nv,rg,R4,ds,I,u⟩:=mD.open u;refine aA jg (aB (v:=ir U) jC u.p5.hb rfl (aW OY u (C203 tp.b t R4 nv rg B _ x.e _ u.hb (I.1 _ (V _ u.aG)) u.p2.dW (Rm _ (V _ u.aG)).1 cO cO O.1 M.r) λ_ he u=>aM rfl (aM rfl (aA dU (aB (v:=hZ x.kind) bL u.p5.hb rfl (aH (aC (λk3=>?_) λk3=>?_)))))))
 .refine aE (aA nT (aB zG u.hb rfl (pop (yl 3 (fH m x) (dX m x) (eR t x.e).1) (have u:=u.p1;bG SD u (H':=λ_=>jr B m.room (tu m.room t.buf (⟨3,fH m x,dX m x,(eR t x.e).1⟩:bJ))) (Φ:=λ_ _=>True) (λG E J=>?_) ?_))))
  .exact(C230 B m.room t.buf (⟨3,fH m x,dX m x,(eR t x.e).1⟩:bJ) G _ E cO).mono λ_ _ r=>r.mono λ_ _ h=>⟨trivial,h.2⟩
  rintro _ _ _ u;refine pop (mY 3 (dX m x) (eR t x.e).1) (aJ (x:=(⟨3,0,dX m x,(eR t x.e).1,0⟩:cD)) u.p4 fr rfl rfl λw30' u=>aD (x:=(⟨3,0,dX m x,(eR t x.e).1,0⟩:cD)) fr u.At ?_);have u:=mD.shut (t:=qB m t (⟨3,fH m x,dX m x,(eR t x.e).1⟩:bJ)) I u.drop.p4.drop.p3.p3.p2.p3;rw[ack k3];exact⟨rfl,u.mut⟩
 refine aH (aC (λk5=>?_) λk5=>?_)
 .refine aE (aA nT (aB zG u.hb rfl (pop (wi 5 (fH m x)) (have u:=u.p1;bG SD u (H':=λ_=>jr B m.room (tu m.room t.buf (⟨5,fH m x,0,0⟩:bJ))) (Φ:=λ_ _=>True) (λG E J=>?_) ?_))))
  .exact(C230 B m.room t.buf (⟨5,fH m x,0,0⟩:bJ) G _ E cO).mono λ_ _ r=>r.mono λ_ _ h=>⟨trivial,h.2⟩
  rintro _ _ _ u;refine pop (o7 4 (fH m x)) (aJ (x:=(⟨4,0,fH m x,0,0⟩:cD)) u.p4 fr rfl rfl λw50' u=>aD (x:=(⟨4,0,fH m x,0,0⟩:cD)) fr u.At ?_);have u:=mD.shut (t:=qB m t (⟨5,fH m x,0,0⟩:bJ)) I u.drop.p4.drop.p3.p3.p2.p3;rw[acm k5];exact⟨rfl,u.mut⟩
 refine aH (aC (λk6=>?_) λk6=>?_)
 .refine aE (aA nT (aB zG u.hb rfl (pop (wi 6 (fH m x)) (have u:=u.p1;bG SD u (H':=λ_=>jr B m.room (tu m.room t.buf (⟨6,fH m x,0,0⟩:bJ))) (Φ:=λ_ _=>True) (λG E J=>?_) ?_))))
  .exact(C230 B m.room t.buf (⟨6,fH m x,0,0⟩:bJ) G _ E cO).mono λ_ _ r=>r.mono λ_ _ h=>⟨trivial,h.2⟩
  rintro _ _ _ u;refine pop (o7 5 (fH m x)) (aJ (x:=(⟨5,0,fH m x,0,0⟩:cD)) u.p4 fr rfl rfl λw60' u=>aD (x:=(⟨5,0,fH m x,0,0⟩:cD)) fr u.At ?_);have u:=mD.shut (t:=qB m t (⟨6,fH m x,0,0⟩:bJ)) I u.drop.p4.drop.p3.p3.p2.p3;rw[acn k6];exact⟨rfl,u.mut⟩
 refine aE (aA nT (aB zG u.hb rfl (pop (Bg 7) (have u:=u.p1;bG SD u (H':=λ_=>jr B m.room (tu m.room t.buf (⟨7,0,0,0⟩:bJ))) (Φ:=λ_ _=>True) (λG E J=>?_) ?_))))
 .exact(C230 B m.room t.buf (⟨7,0,0,0⟩:bJ) G _ E cO).mono λ_ _ r=>r.mono λ_ _ h=>⟨trivial,h.2⟩
 rintro _ _ _ u;refine pop (KO 6) (aJ (x:=(⟨6,0,0,0,0⟩:cD)) u.p4 fr rfl rfl λw70' u=>aD (x:=(⟨6,0,0,0,0⟩:cD)) fr u.At ?_);have u:=mD.shut (t:=qB m t (⟨7,0,0,0⟩:bJ)) I u.drop.p4.drop.p3.p3.p2.p3;rw[aco cO];exact⟨rfl,u.mut⟩
def C169(K:hM)(p:Nat)(m:gl)(i:Int)(n:Nat)(tp:Ptr)(t:kc)(x:bR)(xv:bF)(F:Nat->Prop)(w:World)(hF:(sep (mD K tp.b m.room t) (DJ K p m n tp)).p w F)(G:∀w',gJ F w w'->K w')(j7:yW (cX m.p) (cP m.p) t)(J:Ct t)(AO:∀w,K w->mi w xv x)(hx:VS (cX m.p) (cP m.p) t.names x)(hmm:vI m.mem)(nL:MB m.mem 1000000)(hkd:x.kind=2\/x.kind=4)(Z:x.kind=4->t.buf=[])(D6:0<=dX m x/\dX m x<m.mem.l.length) :
   CR 169 [.pointer (some ⟨p,0,none⟩),.pointer (some ⟨tp.b,0,none⟩),ir xv,hZ (dX m x)] w (λv w'=>v=ir (eo m t i x).2.2/\nd F (sep (mD K tp.b m.room (eo m t i x).2.1) (DJ K p (eo m t i x).1 n tp)) w w'):=by
 have u:=(St.begin hF).split;obtain⟨ge,Y,rfl,_,_⟩:=jn (AO _ (G _ u.aG))
 have Rm:∀w,K w->dD (λ_=>True) w (ir ge) x.e/\dD (λ_=>True) w (ir Y) x.f:=λw hw=>by
  obtain⟨_,_,h4,h5,h6⟩:=jn (AO w hw);cases h4
  exact⟨h5,h6⟩
 have hxe:=hx.e;have M:=hx.nm;have hnb:=j7.nb;have HF:=j7.rl;have Im:=j7.bl;have Eb:=hx.rg cO;obtain⟨c,hc⟩:∃c,c=dX m x:=⟨_,rfl⟩;refine agn _ _ _ _ _ _ ?_;unfold S169;refine cM (x:=(⟨x.kind,x.eN,x.name,ge,Y,x.n,x.body,x.eG,x.at_⟩:bF)) u (λb6 _ u=>aN u mr λb8 _ u=>?_);have u:=(u.enc (cs':=j0 (⟨0,0,0,0,0⟩:cD)) rfl).p2;obtain⟨bp,nv,rg,R4,ds,V,u⟩:=mD.open u;refine aA jg (aB (v:=ir ge) jC u.p5.hb rfl (aW OY u (C203 tp.b t R4 nv rg bp _ x.e _ u.hb (V.1 _ (G _ u.aG)) u.p2.dW (Rm _ (G _ u.aG)).1 cO cO M.1 J.r) λ_ O u=>aM rfl (aM rfl (aA km (aB (v:=ir Y) jC u.p5.hb rfl (aW OY u (C203 tp.b t R4 nv rg bp _ x.f _ u.hb (V.1 _ (G _ u.aG)) u.p2.dW (Rm _ (G _ u.aG)).2 cO cO M.2 J.r) λ_ O u=>aM rfl (aM rfl (aE (aA nT (aB zG u.hb rfl ?_))))))))))
 refine aW aoZ u (C229 bp (dX m x) m.room t.buf _ (EB u.p1) cO) (λw5 O u=>aM rfl (aM rfl ?_));have u:=u.p6;obtain⟨a,I,u⟩:=DJ.open u;refine⟨λjv w'=>jv=hZ (iB m t (dX m x))/\w'=w5,?_,?_⟩
 .refine bT (bD (λB=>?_) λB=>?_);rotate_left
  .have h1:(lL t.buf (dX m x)).isSome=true:=by simpa using B
   exact⟨g6 (nG .i64) (by unfold iB;rw[ew h1]),rfl⟩
  have h1:(lL t.buf (dX m x)).isSome=false:=by simpa using B
  refine aE (aA qH (aB pZ u.hb rfl ?_));obtain⟨ov,fv,lv,kv,wv,ws,j6,tO,hmo,hmf,D1,aul,hmw⟩:=(GZ u.p1.has).ex;refine aE (aA sH (bN ey (tO.cell (o:=2) rfl) ?_));obtain⟨e,O⟩:=gx m.mem.l (i:=(dX m x).toNat) cO;exact aQ cS D1 D6.1 O (λ_ hq=>aD bL hq ⟨g6 (nG .i64) (by unfold iB;rw[ej (by rw[h1];decide),acq D6.1 O]),rfl⟩)
 rintro _ _ ⟨rfl,rfl⟩ _;refine aA iP (aB (v:=.string x.eN) gK u.p10.hb rfl (have u:=mD.shut (t:=t) V u.p8.p8.p8.p8;bG aiO u (H':=λ_=>mD K tp.b m.room (pN t x.eN (iB m t (dX m x)))) (Φ:=λ_ _=>True) (λF2 et ea=>?_) ?_))
 .exact(C204 K tp.b m.room t F2 x.eN _ _ et (λw' hc=>G w' (ea w' hc).aG) Eb HF hnb).mono λ_ _ r=>r.mono λ_ _ h=>⟨trivial,h.2⟩
 rintro _ _ _ u;refine aA dU (aB (v:=hZ x.kind) bL u.p7.hb rfl (aH (aC (λk2=>?_) λk2=>?_)))
 .have U:yn m t x=⟨if (lL t.buf (dX m x)).isSome=true then 2 else 1,0,dX m x,iB m t (dX m x),0⟩:=rfl;refine bD (λB=>?_) (λB=>?_)
  .refine pop (mY 2 (dX m x) (iB m t (dX m x))) (aJ (x:=(⟨2,0,dX m x,iB m t (dX m x),0⟩:cD)) u.p6 fr rfl rfl λw8 u=>aD (x:=(⟨2,0,dX m x,iB m t (dX m x),0⟩:cD)) fr u.At ?_);have u:=(DJ.shut (m:=m) I u.drop.p6.drop.p5.p5.p5.p5.p5).p1;rw[acj k2];show ir _=ir (yn m t x)/\_;rw[U,ew B];exact⟨rfl,(St.join u).mut⟩
  refine pop (mY 1 (dX m x) (iB m t (dX m x))) (aJ (x:=(⟨1,0,dX m x,iB m t (dX m x),0⟩:cD)) u.p6 fr rfl rfl λw8 u=>aD (x:=(⟨1,0,dX m x,iB m t (dX m x),0⟩:cD)) fr u.At ?_);have u:=(DJ.shut (m:=m) I u.drop.p6.drop.p5.p5.p5.p5.p5).p1;rw[acj k2];show ir _=ir (yn m t x)/\_;rw[U,ej (by rw[B];decide)];exact⟨rfl,(St.join u).mut⟩
 have k4:x.kind=4:=cO
 have W:iB m t (dX m x)=jN m.mem (dX m x):=by unfold iB;rw[Z k4];rfl
 rw[W]at u |-;rw[amZ k4];refine bQ (aC (λB=>?_) λB=>?_)
 .have E:sg m t x=m:=by unfold sg;rw[ej B]
  have Ay:uo m t x=⟨9,0,dX m x,jN m.mem (dX m x),0⟩:=by unfold uo;rw[ej B]
  refine pop (mY 9 (dX m x) (jN m.mem (dX m x))) (aJ (x:=(⟨9,0,dX m x,jN m.mem (dX m x),0⟩:cD)) u.p6 fr rfl rfl λw8 u=>aD (x:=(⟨9,0,dX m x,jN m.mem (dX m x),0⟩:cD)) fr u.At ?_);have u:=(DJ.shut (m:=m) I u.drop.p6.drop.p5.p5.p5.p5.p5).p1;rw[E,Ay];exact⟨rfl,(St.join u).mut⟩
 have E:sg m t x={m with mem:=fw m.mem (dX m x) (eR t x.f).1}:=by unfold sg;rw[ew (by simpa using B)]
 have Ay:uo m t x=⟨8,0,dX m x,jN m.mem (dX m x),(eR t x.f).1⟩:=by unfold uo;rw[ew (by simpa using B)]
 refine aE (aA qH (aB pZ u.p1.hb rfl (have u:=u.p2;bG ahg u (H':=λ_=>gI a.q (fw m.mem (dX m x) (eR t x.f).1)) (Φ:=λ_ _=>True) (λF2 et ea=>?_) ?_)))
 .exact(C166 a.q m.mem F2 (dX m x) _ _ et hmm nL).mono λ_ _ r=>r.mono λ_ _ h=>⟨trivial,h.2⟩
 rintro _ _ _ u;refine pop (zW 8 (dX m x) (jN m.mem (dX m x)) (eR t x.f).1) (aJ (x:=(⟨8,0,dX m x,jN m.mem (dX m x),(eR t x.f).1⟩:cD)) u.p6 fr rfl rfl λ_ u=>aD (x:=(⟨8,0,dX m x,jN m.mem (dX m x),(eR t x.f).1⟩:cD)) fr u.At ?_);have u:=DJ.shut (m:={m with mem:=fw m.mem (dX m x) (eR t x.f).1}) (⟨⟨I.1.pr,I.1.rc⟩,I.2⟩) u.drop.p6.drop.p5.p5.p5.p3.p5;have u:=u.p1;rw[E,Ay];exact⟨rfl,(St.join u).mut⟩
def C95(K:hM)(p:Nat)(m:gl)(q:aS)(i k:Int)(Z:q.t=i)(Y:q.i=k)(t:kc)(F:Nat->Prop)(w:World)(hF:(oh K p m).p w F)(W:m4 m)(nL:MB m.mem 1000000)(h0:0<=i)(ht:m.l[i.toNat]?=some t) :
   CR 95 [.pointer (some ⟨p,0,none⟩),hZ i,hZ k] w (λv w'=>v=ir (tW i (dL t.buf k))/\nd F (oh K p (tY m t q)) w w'):=by
 subst Z Y;have u:=St.begin hF;have C8:=kE ht;have j7:=W.th t C8;have ot:=(kB.1 ht).1;have Im:=j7.bl;refine pj Tryz.func95 (pl:=P95) ?_;refine aN u mr (λb6 _ u=>?_);have u:=(u.enc (cs':=j0 (⟨0,0,0,0,0⟩:cD)) rfl).p1;obtain⟨a,E,u⟩:=oh.open u;have V:=u.p4.ji;obtain⟨e,U⟩:=gx a.ps (i:=q.t.toNat) cO;refine aE (aA pw (aB E7 u.hb rfl (aQ Hx u.p3.dW h0 U λq0 hq=>aD Ic hq ?_)));have u:=aci u.p4 U ht;obtain⟨bp,nv,rg,R4,ds,hk,u⟩:=mD.open u;refine aE (aA nT (aB zG u.hb rfl (have u:=u.p1;bG aoP u (H':=λ_=>jr bp m.room (j4 t.buf q.i)) (Φ:=λv _=>v=.tuple #[ir (dL t.buf q.i),hZ (ye t.buf q.i)]) (λJ G ea=>?_) ?_)))
 .exact C165 bp m.room t.buf q.i J _ G cO
 rintro _ _ rfl u;refine aM rfl (aM rfl (aN u rW λb7 _ u=>aJ (x:=(dL t.buf q.i)) u iF rfl rfl λ_ u=>have u:=(((((mD.shut (t:={t with buf:=j4 t.buf q.i}) hk u.p4.p4.p3.p4).p2).p6).p6).p6).p6;have u:=u.p5.p7.p7;aA gV (aB (v:=hZ (dL t.buf q.i).kind) bL u.hb rfl (aH (aC (λc=>?_) λc=>?_)))))
 .have u:=u.drew;refine aE (aA qH (aB pZ u.p3.hb rfl (aA mJ (aB (v:=hZ (dL t.buf q.i).cell) bL u.hb rfl (aA pC (aB (v:=hZ (dL t.buf q.i).n) bL u.hb rfl (have u:=u.p4;bG ahg u (H':=λ_=>gI a.q (fw m.mem (dL t.buf q.i).cell (dL t.buf q.i).n)) (Φ:=λ_ _=>True) (λJ G ea=>?_) ?_)))))))
  .exact(C166 a.q m.mem J _ _ _ G W.mem nL).mono λ_ _ r=>r.mono λ_ _ h=>⟨trivial,h.2⟩
  rintro _ _ _ u;refine aA mJ (aB (v:=hZ (dL t.buf q.i).cell) bL u.p1.hb rfl (aA pC (aB (v:=hZ (dL t.buf q.i).n) bL u.p1.hb rfl (pop (zV 12 q.t (dL t.buf q.i).cell (dL t.buf q.i).n) (aJ (x:=(⟨12,q.t,(dL t.buf q.i).cell,(dL t.buf q.i).n,0⟩:cD)) u.p2 fr rfl rfl λ_ u=>aD (x:=(⟨12,q.t,(dL t.buf q.i).cell,(dL t.buf q.i).n,0⟩:cD)) fr u.At ?_)))));have u:=u.drop.p1.drop;have I:j5 m.mem (dL t.buf q.i)=fw m.mem (dL t.buf q.i).cell (dL t.buf q.i).n:=by unfold j5;rw[ew c]
  have B:tW q.t (dL t.buf q.i)=⟨12,q.t,(dL t.buf q.i).cell,(dL t.buf q.i).n,0⟩:=by unfold tW;rw[ew c]
  have u:=DJ.shut (m:={m with mem:=fw m.mem (dL t.buf q.i).cell (dL t.buf q.i).n}) (i:=q.t.toNat) (tp:=e) ⟨⟨E.pr,E.rc⟩,U,V,by show q.t.toNat<m.l.length;omega⟩ u.p5.p5.p5.p3.p5;have u:=yA (m:={m with mem:=fw m.mem (dL t.buf q.i).cell (dL t.buf q.i).n}) (tp:=e) (t:={t with buf:=j4 t.buf q.i}) u.p1;have O:tY m t q={ {m with mem:=fw m.mem (dL t.buf q.i).cell (dL t.buf q.i).n}with l:=m.l.set q.t.toNat ({t with buf:=j4 t.buf q.i})}:=by unfold tY;rw[I]
  rw[O,B];exact⟨rfl,u.mut⟩
 refine aA gV (aB (v:=hZ (dL t.buf q.i).kind) bL u.hb rfl (aH (aC (λM=>?_) λM=>?_)))
 .refine pop (IW 14 q.t) (aJ (x:=(⟨14,q.t,0,0,0⟩:cD)) u.p1 fr rfl rfl λ_ u=>aD (x:=(⟨14,q.t,0,0,0⟩:cD)) fr u.At ?_);have u:=u.drop.drop;have I:j5 m.mem (dL t.buf q.i)=m.mem:=by unfold j5;rw[ej c,ew M]
  have B:tW q.t (dL t.buf q.i)=⟨14,q.t,0,0,0⟩:=by unfold tW;rw[ej c,ew M]
  have u:=DJ.shut (m:={m with mem:=m.mem}) (i:=q.t.toNat) (tp:=e) ⟨⟨E.pr,E.rc⟩,U,V,by show q.t.toNat<m.l.length;omega⟩ u.p5.p5.p5.p5.p5;have u:=yA (m:={m with mem:=m.mem}) (tp:=e) (t:={t with buf:=j4 t.buf q.i}) u.p1;have O:tY m t q={ {m with mem:=m.mem}with l:=m.l.set q.t.toNat ({t with buf:=j4 t.buf q.i})}:=by unfold tY;rw[I]
  rw[O,B];exact⟨rfl,u.mut⟩
 have u:=u.drew;refine aE (aA qH (aB pZ u.p3.hb rfl (aA iq (aB (v:=hZ (dL t.buf q.i).line) bL u.hb rfl (have u:=u.p4;bG aoQ u (H':=λ_=>gI a.q (oM m.mem (dL t.buf q.i).line)) (Φ:=λ_ _=>True) (λJ G ea=>?_) ?_)))))
 .exact(C167 a.q m.mem J _ _ G W.mem nL).mono λ_ _ r=>r.mono λ_ _ h=>⟨trivial,h.2⟩
 rintro _ _ _ u;refine aA iq (aB (v:=hZ (dL t.buf q.i).line) bL u.p1.hb rfl (pop (um 13 q.t (dL t.buf q.i).line) (aJ (x:=(⟨13,q.t,(dL t.buf q.i).line,0,0⟩:cD)) u.p2 fr rfl rfl λ_ u=>aD (x:=(⟨13,q.t,(dL t.buf q.i).line,0,0⟩:cD)) fr u.At ?_)));have u:=u.drop.p1.drop;have I:j5 m.mem (dL t.buf q.i)=oM m.mem (dL t.buf q.i).line:=by unfold j5;rw[ej c,ej M]
 have B:tW q.t (dL t.buf q.i)=⟨13,q.t,(dL t.buf q.i).line,0,0⟩:=by unfold tW;rw[ej c,ej M]
 have u:=DJ.shut (m:={m with mem:=oM m.mem (dL t.buf q.i).line}) (i:=q.t.toNat) (tp:=e) ⟨⟨E.pr,E.rc⟩,U,V,by show q.t.toNat<m.l.length;omega⟩ u.p5.p5.p5.p3.p5;have u:=yA (m:={m with mem:=oM m.mem (dL t.buf q.i).line}) (tp:=e) (t:={t with buf:=j4 t.buf q.i}) u.p1;have O:tY m t q={ {m with mem:=oM m.mem (dL t.buf q.i).line}with l:=m.l.set q.t.toNat ({t with buf:=j4 t.buf q.i})}:=by unfold tY;rw[I]
 rw[O,B];exact⟨rfl,u.mut⟩
def aum:PL 60:=dR Tryz.func60
def C96(K:hM)(p:Nat)(m:gl)(i:Int)(t:kc)(F:Nat->Prop)(w:World)(hF:(oh K p m).p w F)(U:∀w',gJ F w w'->K w')(B:m4 m)(hvo:Ll m)(nL:MB m.mem 1000000)(h0:0<=i)(ht:m.l[i.toNat]?=some t)(uP:tG m t=true)(AP:m.mem.eg=eV m.p) :
   CR 96 [.pointer (some ⟨p,0,none⟩),hZ i] w (λv w'=>v=ir (iI m i).2/\nd F (oh K p (iI m i).1) w w'):=by
 have u:=St.begin hF;have C8:=kE ht;have j7:=B.th t C8;have Y:=hvo.th t C8;have ot:=(kB.1 ht).1;have hnb:=j7.nb;have how:=B.ow;have alp:(cP m.p).length<=500:=by unfold cP;rw[nc];exact B.pz.eS
 have aBo:(cX m.p).length<=250500:=mT B.pz.toPS;have D1:m.mem.l.length=(cX m.p).length:=by rw[B.mem.ll,AP];unfold eV cX;rw[nc,nc]
 have atJ:=j7.cl;have hfc:=GV t.cJ;refine amw _ _ _ _ ?_;unfold S96;refine aN u mr (λb4 _ u=>?_);have u:=(u.enc (cs':=j0 (⟨0,0,0,0,0⟩:cD)) rfl).p1;obtain⟨a,hu,u⟩:=oh.open u;have qi:=u.p4.ji;refine aE (aA pw (aB E7 u.hb rfl ?_));obtain⟨e,he⟩:=gx a.ps (i:=i.toNat) cO;refine aQ Hx u.p3.dW h0 he (λq hq=>aD Ic hq ?_);have u:=aci u.p4 he ht;obtain⟨bp,nv,rg,R4,ds,hk,u⟩:=mD.open u;have Is:=hk.2.1.1;refine aE (aA xy (aB bL u.hb rfl (bQ (aC (λc=>?_) λc=>?_))))
 .have UG:iI m i=({m with fault:=t.fault,jk:=i},⟨16,i,t.fault,0,0⟩):=by unfold iI;rw[ht];dsimp only;rw[ew c]
  refine aE (aA xy (aB bL u.hb rfl ?_));have u:=St.Eo (H:=O4 K m.room) (x:=t) (((mD.shut (t:=t) hk u.p3.p3.p3.p3).p1).p1) cO qi he;rw[nk ht]at u;have u:=oh.shut (m:=m) hu u.p4.p4.p4.p4;refine bG aiQ u (H':=λ_=>oh K p {m with fault:=t.fault,jk:=i}) (Φ:=λv _=>v=ir (⟨16,i,t.fault,0,0⟩:cD)) (λI G J=>?_) ?_
  .exact C168 K p m i t.fault I _ G
  rintro _ _ rfl u;refine aJ (x:=(⟨16,i,t.fault,0,0⟩:cD)) u.p1 fr rfl rfl (λ_ u=>aD (x:=(⟨16,i,t.fault,0,0⟩:cD)) fr u.At ?_);rw[UG];exact⟨rfl,u.drop.mut⟩
 have hf0:t.fault=0:=cO
 obtain⟨x,xa,xb,BW⟩:=OR uP;obtain⟨en,uD⟩:=Cb BW;have R5:(wU (gO t.cJ)).length<=100000:=by rw[uD,oi]at hfc;omega
 have xd:=hk.2.1;rw[uD]at xd;obtain⟨d0,qF,rfl,zT,hds⟩:=xd.head;obtain⟨dx,db,de,dn⟩:=d0;obtain⟨O,M,rfl,_,_⟩:=jn (zT.x _ (U _ u.aG));have AO:∀w,K w->mi w (⟨x.kind,x.eN,x.name,O,M,x.n,x.body,x.eG,x.at_⟩:bF) x:=zT.x;obtain⟨⟨Ss,hk3⟩,hv1,hv2⟩:=B.st t C8 hf0 _ _ _ BW;obtain⟨hx,_,_,_,_,_,_,_,r,en',p',Cn,sr,ar⟩:=j7.top BW;refine aE (aA kY (aB u7 u.hb rfl (aQ nS u.p3.dZ cO rfl λq1 h1=>Mz (⟨x.kind,x.eN,x.name,O,M,x.n,x.body,x.eG,x.at_⟩:bF) pB h1 rfl λq2 h2=>aD eU h2 (pop KN (have u:=mD.shut (t:=t) hk u.p3.p3.p3.p3;aN u jD λb6 _ u=>aN u mr λb7 _ u=>aJ (x:=(⟨x.kind,x.eN,x.name,O,M,x.n,x.body,x.eG,x.at_⟩:bF)) u.p1 eU rfl rfl λ_ u=>aJ (x:=(⟨0,0,0,0,0⟩:cD)) u.p1 fr rfl rfl λ_ u=>have u:=u.drew;aE (aA pq ?_))))))
 refine qK a.pv er u.p4.hb rfl (aA gw (aB (v:=.string x.name) gK u.p1.hb rfl (aE (aA pq (qK a.pv er u.p4.hb rfl (aA gw (aB (v:=.string x.name) gK u.p1.hb rfl (dV LW u (C124 m.p a.pv _ (hu.pr _ (U _ u.aG)) B.pz) λx41 _ cI u=>?_))))))));refine⟨aF gK (u.p2.hb.cell (v:=.string x.name) rfl),?_⟩;refine⟨jE a.pv er u.p5.hb rfl,?_⟩;refine⟨aF gK (u.p2.hb.cell (v:=.string x.name) rfl),?_⟩;refine aW sD u (C123 _ (cX m.p) x.name _ u.dW cO) (λ_ NH u=>?_);refine⟨jE a.pv er u.p5.hb rfl,?_⟩;refine⟨aF gK (u.p2.hb.cell (v:=.string x.name) rfl),?_⟩
 refine dV Sw u (C125 m.p a.pv _ (hu.pr _ (U _ u.aG)) B.pz) (λx49 _ cI u=>?_);refine⟨aF gK (u.p3.hb.cell (v:=.string x.name) rfl),?_⟩;refine aW sD u (C123 _ (cP m.p) x.name _ u.dW cO) (λw11 NH u=>?_);have u:=DJ.shut (m:=m) (i:=i.toNat) (tp:=e) ⟨hu,he,qi,cO⟩ u.drop.drop.p3.p7.p7.p7.p7;have u:=u.p3.p4.p4.p4;have O6:iI m i=(if x.kind=10/\m.fc.getD (fM m x).toNat 0≠i then({m with fault:=3,jk:=i},⟨16,i,3,0,0⟩)else({ (eo m t i x).1 with l:=m.l.set i.toNat (uO m t i x)},{ (eo m t i x).2.2 with t:=i})):=by unfold iI;rw[ht];dsimp only;rw[ej cO,BW]
 refine⟨λw'=>¬ (x.kind=10/\m.fc.getD (fM m x).toNat 0≠i)/\St w F [bW b7 (j0 ((eo m t i x).2.2)),bW b6 (j0 (⟨x.kind,x.eN,x.name,O,M,x.n,x.body,x.eG,x.at_⟩:bF)),bW b4 (j0 (⟨0,0,0,0,0⟩:cD)),mD K e.b m.room (eo m t i x).2.1,DJ K p (eo m t i x).1 i.toNat e] w',?_,?_⟩
 .refine aA dU (aB (v:=hZ x.kind) bL u.p1.hb rfl ?_);refine⟨λjv w'=>jv=.bool (decide (x.kind=2\/x.kind=4))/\w'=w11,?_,?_⟩
  .exact aH (aC (λc=>⟨vb (by rw[ez c,ez (Or.inl c)]),rfl⟩) λ_=>aH ⟨vb (ga.2 cO),rfl⟩)
  rintro _ _ ⟨rfl,rfl⟩ rY;refine aC (λk24=>?_) (λk24=>?_)
  .have W:¬ (x.kind=10/\m.fc.getD (fM m x).toNat 0≠i):=cO
   obtain⟨jc,hjc,aBp,_⟩:=mf (dS.1 (hx.cl cO));have hjcl:=(kB.1 aBp).1;have hcc:dX m x=(jc:Int):=hjc;refine aD (x:=(⟨x.kind,x.eN,x.name,O,M,x.n,x.body,x.eG,x.at_⟩:bF)) eU u.p1.At (have u:=St.join u.p4.p4;bG at3 u (H':=λ_=>sep (mD K e.b m.room (eo m t i x).2.1) (DJ K p (eo m t i x).1 i.toNat e)) (Φ:=λv _=>v=ir (eo m t i x).2.2) (λI G J=>?_) ?_)
   .exact C169 K p m i i.toNat e t x (⟨x.kind,x.eN,x.name,O,M,x.n,x.body,x.eG,x.at_⟩:bF) I _ G (λw' hc=>U w' (J w' hc).aG) j7 Y AO hx B.mem nL k24 (λh=>acp uP hf0 BW h) cO
   rintro _ _ rfl u;have u:=u.split;exact aJ (x:=((eo m t i x).2.2:cD)) u.p2 fr rfl rfl (λ_ u=>have u:=u.p2.p2.p4.p4.p4;⟨W,u⟩)
  refine aH (aC (λk8=>?_) λk8=>?_)
  .have W:¬ (x.kind=10/\m.fc.getD (fM m x).toNat 0≠i):=cO
   refine aA ad1 (aT u bL (dQ rfl) rfl λ_ u=>?_);have u:=(((((u.enc (cs':=j0 (⟨7,0,0,0,0⟩:cD)) rfl).p4).p4).p4).p4).p4;rw[amY k8];exact⟨W,u⟩
  refine aH (aC (λk9=>?_) λk9=>?_)
  .have W:¬ (x.kind=10/\m.fc.getD (fM m x).toNat 0≠i):=cO
   have V:x.kind=9\/x.kind=10:=cO
   obtain⟨j,hj,BO,_⟩:=mf (dS.1 (hx.lk V));have Cm:=(kB.1 BO).1;have hjk:fM m x=(j:Int):=hj;have u:=u.p4;obtain⟨a,E,u⟩:=DJ.open u;refine aE (aA vO (aB ey u.hb rfl (dT u.p2 cS (show 0<=fM m x by omega) (show fM m x<_ by omega) λ_ aBq=>jA (i:Int) u.p2 bL aBq cO λ_ u=>pop (o7 10 (fM m x)) (have u:=DJ.shut (m:=qf m x i) (⟨⟨E.1.pr,E.1.rc⟩,E.2⟩) u.p4.p4.p2.p4.p4;aJ (x:=(⟨10,0,fM m x,0,0⟩:cD)) u.p1 fr rfl rfl λ_ u=>?_))));have u:=u.p1.p4.p4.p4.p4;rw[am0 k9];exact⟨W,u⟩
  refine aH (aC (λk10=>?_) λk10=>?_)
  .have V:x.kind=9\/x.kind=10:=cO
   obtain⟨j,hj,BO,_⟩:=mf (dS.1 (hx.lk V));have Cm:=(kB.1 BO).1;have hjk:fM m x=(j:Int):=hj;have u:=u.p4;obtain⟨a,E,u⟩:=DJ.open u;have hwl:=u.p2.dW;obtain⟨ov,hov⟩:=gx m.fc (i:=(fM m x).toNat) cO;have hgd:m.fc.getD (fM m x).toNat 0=ov:=by rw[n3,hov];rfl
   refine aE (aA vO (aB ey u.hb rfl (aQ cS hwl (show 0<=fM m x by omega) hov λq69 h69=>aD bL h69 (bQ (aC (λZ=>?_) λZ=>?_)))))
   .have u:=u.p4;have u:=yA ((DJ.shut (m:=m) E u.p4.p4.p4.p4).p4);rw[nk ht]at u;refine bG aiQ u (H':=λ_=>oh K p {m with fault:=3,jk:=i}) (Φ:=λv _=>v=ir (⟨16,i,3,0,0⟩:cD)) (λI G J=>?_) ?_
    .exact C168 K p m i 3 I _ G
    rintro _ _ rfl u;refine aJ (x:=(⟨16,i,3,0,0⟩:cD)) u.p3 fr rfl rfl (λ_ u=>aD (x:=(⟨16,i,3,0,0⟩:cD)) fr u.At ?_);have u:=u.drop.p1.drop.p1.drop;rw[O6,ew ⟨k10,by rw[hgd];exact Z⟩];exact⟨rfl,u.mut⟩
   refine aE (aA vO (aB ey u.hb rfl (dT u.p2 cS (show 0<=fM m x by omega) (show fM m x<_ by omega) λ_ am2=>jA (-1:Int) u.p2 bL am2 cO λ_ u=>pop (o7 11 (fM m x)) (have u:=DJ.shut (m:=qf m x (-1)) (⟨⟨E.1.pr,E.1.rc⟩,E.2⟩) u.p4.p4.p2.p4.p4;aJ (x:=(⟨11,0,fM m x,0,0⟩:cD)) u.p1 fr rfl rfl λ_ u=>?_))));have u:=u.p1.p4.p4.p4.p4;rw[agF k10];exact⟨by rw[hgd];exactλh=>Z h.2,u⟩
  have W:¬ (x.kind=10/\m.fc.getD (fM m x).toNat 0≠i):=cO
  have u:=u.drew;refine aD (x:=(⟨x.kind,x.eN,x.name,O,M,x.n,x.body,x.eG,x.at_⟩:bF)) eU u.p1.At ?_;have u:=u.p4;obtain⟨a,E,u⟩:=DJ.open u;refine aE (aA pq (qK a.pv er u.hb rfl (aW aum u (C60 m.p a.pv (dX m x) _ (E.1.pr _ (U _ u.aG)) B.pz) λ_ NH u=>?_)));refine⟨eL (x:=(⟨x.kind,x.eN,x.name,O,M,x.n,x.body,x.eG,x.at_⟩:bF)) eU u.p6.At,?_⟩;have u:=(DJ.shut (m:=m) E u.p4.p4.p4.p4.p4).p4
  have ha1:(eo m t i x).1=m:=by
   rcases(show x.kind=3\/x.kind=5\/x.kind=6\/x.kind=7 by omega)with h|h|h|h
   .rw[ack h]
   .rw[acm h]
   .rw[acn h]
   .rw[aco h]
  refine bG at2 u (H':=λ_=>mD K e.b m.room (eo m t i x).2.1) (Φ:=λv _=>v=ir (eo m t i x).2.2) (λI G J=>?_) ?_
  .exact C170 K _ m i e t x (⟨x.kind,x.eN,x.name,O,M,x.n,x.body,x.eG,x.at_⟩:bF) I _ G (λw' hc=>U w' (J w' hc).aG) j7 Y AO hx cO
  rintro _ _ rfl u;refine aJ (x:=((eo m t i x).2.2:cD)) u.p2 fr rfl rfl (λ_ u=>?_);have u:=u.p2.p2.p4.p4.p4;rw[ha1];exact⟨W,u⟩
 rintro _ ⟨acu,u⟩ rY;have zD:=De (m:=m) (t:=t) (i:=i) (x:=x);have am3:tC (VS (cX m.p) (cP m.p) t.names) (eo m t i x).2.1:=Le j7 B.rm.2
 have acv:yW (cX m.p) (cP m.p) { (eo m t i x).2.1 with cJ:=gO (eo m t i x).2.1.cJ}:=by
  show tC (VS _ _ (eo m t i x).2.1.names) _;rw[wy];exact Lf am3
 have auo:=(abR (i:=i) (x:=x) hvo.mem Y).1;have aBs:Ct { (eo m t i x).2.1 with cJ:=gO (eo m t i x).2.1.cJ}:=⟨auo.r,auo.b⟩;have hap:=Df (m:=m) (t:=t) (i:=i) (x:=x);refine aA SQ (aT u bL (dQ rfl) rfl λ_ u=>have u:=(u.enc (cs':=j0 ({ (eo m t i x).2.2 with t:=i}:cD)) rfl).p3;bG Ji u (H':=λ_=>mD K e.b m.room { (eo m t i x).2.1 with cJ:=gO (eo m t i x).2.1.cJ}) (Φ:=λ_ _=>True) (λI G J=>?_) ?_)
 .exact(C171 K e.b m.room (eo m t i x).2.1 I (.slice none 0 0) [] [] (wU (gO t.cJ)) _ (gO (eo m t i x).2.1.cJ) _ G (λw' hc=>U w' (J w' hc).aG) (λ_ _=>dD.nil _ _) lF.nil (by rw[hap];exact uD) (by rw[hap];rfl) (by rw[hap];exact hk.2.2.pop) (l0 _) R5).mono λ_ _ r=>r.mono λ_ _ h=>⟨trivial,h.2⟩
 rintro _ _ _ u;refine bG aiP u (H':=λ_=>mD K e.b m.room (uO m t i x)) (Φ:=λ_ _=>True) (λI G J=>?_) ?_
 .exact(C129 K e.b m.room { (eo m t i x).2.1 with cJ:=gO (eo m t i x).2.1.cJ} (uO m t i x) _ _ _ I _ G (λw' hc=>U w' (J w' hc).aG) acv aBs (rn acv).1).mono λ_ _ r=>r.mono λ_ _ h=>⟨trivial,h.2⟩
 rintro _ _ _ u;refine aD (x:=({ (eo m t i x).2.2 with t:=i}:cD)) fr u.p1.At (aJ (x:=({ (eo m t i x).2.2 with t:=i}:cD)) u.p3 fr rfl rfl λ_ u=>aD (x:=({ (eo m t i x).2.2 with t:=i}:cD)) fr u.At ?_);have u:=u.drop.p1.drop.p1.drop.p1.p1;rw[<- zD]at u;have u:=yA u;rw[abG]at u;rw[O6,ej acu];exact⟨rfl,u.mut⟩
def C91(K:hM)(p:Nat)(m:gl)(i:Int)(t:kc)(F:Nat->Prop)(w:World)(hF:(gG K p m).p w F)(U:∀w',gJ F w w'->K w')(Z:m4 m)(nL:MB m.mem 1000000)(h0:0<=i)(ht:m.l[i.toNat]?=some t)(aBt:t.fault=0->∃x a b,pM t.cJ=some (x,a,b)) :
   CR 91 [.pointer (some ⟨p,0,none⟩),hZ i] w (λv w'=>v=ir (iI m i).2/\nd F (gG K p (iI m i).1) w w'):=by
 have u:=St.begin hF;have C8:=kE ht;have V:=Z.th t C8;have ot:=(kB.1 ht).1;have oD:=ED V.p;have D6:=V.cl;have Im:=V.bl;have hnb:=V.nb;have HF:=V.rl;have how:=Z.ow;have alp:(cP m.p).length<=500:=by unfold cP;rw[nc];exact Z.pz.eS
 have aBo:(cX m.p).length<=250500:=mT Z.pz.toPS;refine alh _ _ _ _ ?_;unfold S91;refine aN u mr (λb4 _ u=>?_);have u:=(u.enc (cs':=j0 (⟨0,0,0,0,0⟩:cD)) rfl).p1;obtain⟨a,hu,u⟩:=gG.open u;have qi:=u.p4.ji;refine aE (aA vS (aB JV u.hb rfl ?_));obtain⟨e,he⟩:=gx a.ps (i:=i.toNat) cO;refine aQ Mk u.p3.dW h0 he (λq hq=>aD Ie hq ?_);have u:=aa1 u.p4 he ht;obtain⟨O,nv,rg,pl,es,W,u⟩:=eZ.open u;refine aE (aA xz (aB bL u.hb rfl (bQ (aC (λc=>?_) λc=>?_))))
 .have UG:iI m i=({m with fault:=t.fault,jk:=i},⟨16,i,t.fault,0,0⟩):=by unfold iI;rw[ht];dsimp only;rw[ew c]
  refine aE (aA xz (aB bL u.hb rfl ?_));have u:=eZ.shut (Φ:=λ_=>True) (t:=t) W u.p4.p4.p4.p4.p4;have u:=St.Eo (H:=zx K m.room) (x:=t) u.p1.p1 cO qi he;rw[nk ht]at u;have u:=gG.shut (m:=m) hu u.p4.p4.p4.p4;refine bG aiE u (H':=λ_=>gG K p {m with fault:=t.fault,jk:=i}) (Φ:=λv _=>v=ir (⟨16,i,t.fault,0,0⟩:cD)) (λE B J=>?_) ?_
  .exact C158 K p m i t.fault E _ B
  rintro _ _ rfl u;refine aJ (x:=(⟨16,i,t.fault,0,0⟩:cD)) u.p1 fr rfl rfl (λ_ u=>aD fr u.At ?_);rw[UG];exact⟨rfl,u.drop.mut⟩
 have hf0:t.fault=0:=cO
 refine dO aaO (C137 K e.b t O nv rg pl es _ _ u.hb u.p3.dW u.p4.dZ.1 (λ_ e=>U _ (u.aG.then e)) V.p cO) ?_;rintro v _ ⟨hex,hv⟩;have u:=u.ext hex
 rcases hv with⟨eO,_⟩|⟨x,xa,xb,xv,av,bv,ra,rb,BW,rfl,AO,_⟩
 .obtain⟨_,_,_,h⟩:=aBt hf0;rw[eO]at h;cases h
 obtain⟨ge,gf,rfl,_,_⟩:=jn (AO _ (U _ u.aG))
 have Rm:∀w,K w->dD (λ_=>True) w (ir ge) x.e/\dD (λ_=>True) w (ir gf) x.f:=λw hw=>by
  obtain⟨_,_,h4,h5,h6⟩:=jn (AO w hw);cases h4
  exact⟨h5,h6⟩
 obtain⟨⟨Ss,xd⟩,hv1,hv2⟩:=Z.st t C8 hf0 _ _ _ BW;obtain⟨hx,_,_,_,_,_,_,_,r,en,p',Cn,sr,ar⟩:=V.top BW;have jd:(Bk.cons x xa xb r).str:=V.p.st _ (by rw[Cn];exact oj ..);have hxe:=hx.e;have ht1:{t with fault:=if (eR t x.e).2=true then t.fault else 2}=t:=by rw[hv1];rfl
 refine aM rfl (aM rfl (aM rfl (aM rfl (have u:=eZ.shut (Φ:=λ_=>True) (t:=t) W u.p4.p4.p4.p4.p4;aN u jD λb6 _ u=>aJ (x:=(⟨x.kind,x.eN,x.name,ge,gf,x.n,x.body,x.eG,x.at_⟩:bF)) u eU rfl rfl λ_ u=>have u:=u.drew;aE (aA JW (aB jq u.p3.hb rfl (aA gw (aB (v:=.string x.name) gK u.hb rfl (aE (aA JX ?_))))))))));refine aB jq u.p3.hb rfl (aA gw (aB (v:=.string x.name) gK u.hb rfl (aW IB u (C159 _ (cX m.p) x.name _ (hu.cs _ (U _ u.aG)) cO) λ_ NH u=>?_)));refine⟨aF jq (u.p3.hb.cell rfl),?_⟩
 refine⟨aF gK (u.hb.cell rfl),?_⟩;refine aW IB u (C159 _ (cP m.p) x.name _ (hu.ks _ (U _ u.aG)) cO) (λ_ NH u=>aE (aA Em (qK a.pv er u.p3.hb rfl (aW ar7 u (C52 m.p a.pv _ _ (hu.pr _ (U _ u.aG)) Z.pz) λ_ NH u=>aN u mr λb13 _ u=>?_))));have u:=nw.shut (m:=m) (⟨hu,he,qi,cO⟩) ((((((u.enc (cs':=j0 (⟨0,0,0,0,0⟩:cD)) rfl).p3).p7).p7).p7).p7);obtain⟨c,hc⟩:∃c,c=dX m x:=⟨_,rfl⟩;obtain⟨lk,hlk⟩:∃lk,lk=fM m x:=⟨_,rfl⟩;obtain⟨ln,Hj⟩:∃ln,ln=fH m x:=⟨_,rfl⟩;have u:=u.p3.p4.p4.p4;have O6:iI m i=(if x.kind=10/\m.fc.getD (fM m x).toNat 0≠i then({m with fault:=3,jk:=i},⟨16,i,3,0,0⟩)else({ (eo m t i x).1 with l:=m.l.set i.toNat (uO m t i x)},{ (eo m t i x).2.2 with t:=i})):=by unfold iI;rw[ht];dsimp only;rw[ej cO,BW]
 refine⟨λw'=>¬ (x.kind=10/\m.fc.getD (fM m x).toNat 0≠i)/\St w F [bW b13 (j0 ((eo m t i x).2.2)),bW b6 (j0 (⟨x.kind,x.eN,x.name,ge,gf,x.n,x.body,x.eG,x.at_⟩:bF)),bW b4 (j0 (⟨0,0,0,0,0⟩:cD)),sd K e.b m.room (eo m t i x).2.1,nw K p (eo m t i x).1 i.toNat e] w',?_,?_⟩
 .refine aA dU (aB (v:=hZ x.kind) bL u.p1.hb rfl (aH (aC (λY=>?_) λY=>?_)))
  .have G:(eo m t i x)=(m,pN t x.eN (iB m t (dX m x)),yn m t x):=by unfold eo;rw[ew Y]
   have I:¬ (x.kind=10/\m.fc.getD (fM m x).toNat 0≠i):=cO
   refine aD eU u.p1.At (have u:=St.join u.p4.p4;bG as0 u (H':=λ_=>sep (sd K e.b m.room (pN t x.eN (iB m t (dX m x)))) (nw K p m i.toNat e)) (Φ:=λv _=>v=ir (yn m t x)) (λE B J=>?_) ?_)
   .exact C160 K p m i.toNat e t x ⟨x.kind,x.eN,x.name,ge,gf,x.n,x.body,x.eG,x.at_⟩ E (dX m x) _ B (λw' hc=>U w' (J w' hc).aG) V Z.mem AO (hx.rg cO)
   rintro _ _ rfl u;have u:=u.split;refine aJ (x:=(yn m t x:cD)) u.p2 fr rfl rfl (λ_ u=>?_);have u:=u.p2.p2.p4.p4.p4;rw[G];exact⟨I,u⟩
  refine aH (aC (λk3=>?_) λk3=>?_)
  .have G:(eo m t i x)=(m,qB m t ⟨3,fH m x,dX m x,(eR t x.e).1⟩,⟨3,0,dX m x,(eR t x.e).1,0⟩):=by unfold eo;rw[ej Y,ew k3]
   have I:¬ (x.kind=10/\m.fc.getD (fM m x).toNat 0≠i):=cO
   refine aA jg (aB (v:=ir ge) jC u.p1.hb rfl (have u:=u.p3;bG N8 u (H':=λ_=>sd K e.b m.room t) (Φ:=λv _=>v=.tuple #[hZ (eR t x.e).1,.bool (eR t x.e).2]) (λE B J=>?_) ?_))
   .have:=C161 K _ e.b m.room t E _ x.e _ B (λw' hc=>U w' (J w' hc).aG) (Rm _ (U _ u.aG)).1 cO cO;rw[ht1]at this;exact this
   rintro _ _ rfl u;refine aM rfl (aM rfl ?_);obtain⟨O,nv,rg,pl,es,W,u⟩:=eZ.open u;refine aE (aA py (aB A7 u.hb rfl (pop (yl 3 (fH m x) (dX m x) (eR t x.e).1) (have u:=u.p1;bG Sz u (H':=λ_=>jr O m.room (tu m.room t.buf (⟨3,fH m x,dX m x,(eR t x.e).1⟩:bJ))) (Φ:=λ_ _=>True) (λE B J=>?_) ?_))))
   .exact(C162 O m.room t.buf (⟨3,fH m x,dX m x,(eR t x.e).1⟩:bJ) E _ B cO).mono λ_ _ r=>r.mono λ_ _ h=>⟨trivial,h.2⟩
   rintro _ _ _ u;refine pop (mY 3 (dX m x) (eR t x.e).1) (have u:=eZ.shut (Φ:=λ_=>True) (t:=qB m t (⟨3,fH m x,dX m x,(eR t x.e).1⟩:bJ)) W u.p4.p4.p4.p3.p4;aJ (x:=(⟨3,0,dX m x,(eR t x.e).1,0⟩:cD)) u.p1 fr rfl rfl λw14' u=>?_);have u:=u.p4.p2.p4.p4.p4;rw[G];exact⟨I,u⟩
  refine aH (aC (λk5=>?_) λk5=>?_)
  .have G:(eo m t i x)=(m,qB m t ⟨5,fH m x,0,0⟩,⟨4,0,fH m x,0,0⟩):=by unfold eo;rw[ej Y,ej k3,ew k5]
   have I:¬ (x.kind=10/\m.fc.getD (fM m x).toNat 0≠i):=cO
   have u:=u.p3;obtain⟨O,nv,rg,pl,es,W,u⟩:=eZ.open u;refine aE (aA py (aB A7 u.hb rfl (pop (wi 5 (fH m x)) (have u:=u.p1;bG Sz u (H':=λ_=>jr O m.room (tu m.room t.buf (⟨5,fH m x,0,0⟩:bJ))) (Φ:=λ_ _=>True) (λE B J=>?_) ?_))))
   .exact(C162 O m.room t.buf (⟨5,fH m x,0,0⟩:bJ) E _ B cO).mono λ_ _ r=>r.mono λ_ _ h=>⟨trivial,h.2⟩
   rintro _ _ _ u;refine pop (o7 4 (fH m x)) (have u:=eZ.shut (Φ:=λ_=>True) (t:=qB m t (⟨5,fH m x,0,0⟩:bJ)) W u.p4.p4.p4.p3.p4;aJ (x:=(⟨4,0,fH m x,0,0⟩:cD)) u.p1 fr rfl rfl λw16' u=>?_);have u:=u.p4.p2.p4.p4.p4;rw[G];exact⟨I,u⟩
  refine aH (aC (λk6=>?_) λk6=>?_)
  .have G:(eo m t i x)=(m,qB m t ⟨6,fH m x,0,0⟩,⟨5,0,fH m x,0,0⟩):=by unfold eo;rw[ej Y,ej k3,ej k5,ew k6]
   have I:¬ (x.kind=10/\m.fc.getD (fM m x).toNat 0≠i):=cO
   have u:=u.p3;obtain⟨O,nv,rg,pl,es,W,u⟩:=eZ.open u;refine aE (aA py (aB A7 u.hb rfl (pop (wi 6 (fH m x)) (have u:=u.p1;bG Sz u (H':=λ_=>jr O m.room (tu m.room t.buf (⟨6,fH m x,0,0⟩:bJ))) (Φ:=λ_ _=>True) (λE B J=>?_) ?_))))
   .exact(C162 O m.room t.buf (⟨6,fH m x,0,0⟩:bJ) E _ B cO).mono λ_ _ r=>r.mono λ_ _ h=>⟨trivial,h.2⟩
   rintro _ _ _ u;refine pop (o7 5 (fH m x)) (have u:=eZ.shut (Φ:=λ_=>True) (t:=qB m t (⟨6,fH m x,0,0⟩:bJ)) W u.p4.p4.p4.p3.p4;aJ (x:=(⟨5,0,fH m x,0,0⟩:cD)) u.p1 fr rfl rfl λw18' u=>?_);have u:=u.p4.p2.p4.p4.p4;rw[G];exact⟨I,u⟩
  refine aH (aC (λk7=>?_) λk7=>?_)
  .have G:(eo m t i x)=(m,qB m t ⟨7,0,0,0⟩,⟨6,0,0,0,0⟩):=by unfold eo;rw[ej Y,ej k3,ej k5,ej k6,ew k7]
   have I:¬ (x.kind=10/\m.fc.getD (fM m x).toNat 0≠i):=cO
   have u:=u.p3;obtain⟨O,nv,rg,pl,es,W,u⟩:=eZ.open u;refine aE (aA py (aB A7 u.hb rfl (pop (Bg 7) (have u:=u.p1;bG Sz u (H':=λ_=>jr O m.room (tu m.room t.buf (⟨7,0,0,0⟩:bJ))) (Φ:=λ_ _=>True) (λE B J=>?_) ?_))))
   .exact(C162 O m.room t.buf (⟨7,0,0,0⟩:bJ) E _ B cO).mono λ_ _ r=>r.mono λ_ _ h=>⟨trivial,h.2⟩
   rintro _ _ _ u;refine pop (KO 6) (have u:=eZ.shut (Φ:=λ_=>True) (t:=qB m t (⟨7,0,0,0⟩:bJ)) W u.p4.p4.p4.p3.p4;aJ (x:=(⟨6,0,0,0,0⟩:cD)) u.p1 fr rfl rfl λw20' u=>?_);have u:=u.p4.p2.p4.p4.p4;rw[G];exact⟨I,u⟩
  refine aH (aC (λk8=>?_) λk8=>?_)
  .have G:(eo m t i x)=(m,t,⟨7,0,0,0,0⟩):=by unfold eo;rw[ej Y,ej k3,ej k5,ej k6,ej k7,ew k8]
   have I:¬ (x.kind=10/\m.fc.getD (fM m x).toNat 0≠i):=cO
   refine pop (KO 7) (aJ (x:=(⟨7,0,0,0,0⟩:cD)) u fr rfl rfl λ_ u=>?_);have u:=u.p4.p4.p4.p4.p4;rw[G];exact⟨I,u⟩
  refine aH (aC (λk4=>?_) λk4=>?_)
  .have G:(eo m t i x)=(sg m t x,pN t x.eN (jN m.mem (dX m x)),uo m t x):=by unfold eo;rw[ej Y,ej k3,ej k5,ej k6,ej k7,ej k8,ew k4]
   have I:¬ (x.kind=10/\m.fc.getD (fM m x).toNat 0≠i):=cO
   refine aD eU u.p1.At (have u:=St.join u.p4.p4;bG as1 u (H':=λ_=>sep (sd K e.b m.room (pN t x.eN (jN m.mem (dX m x)))) (nw K p (sg m t x) i.toNat e)) (Φ:=λv _=>v=ir (uo m t x)) (λE B J=>?_) ?_)
   .exact C163 K p m i.toNat e t x ⟨x.kind,x.eN,x.name,ge,gf,x.n,x.body,x.eG,x.at_⟩ E _ B (λw' hc=>U w' (J w' hc).aG) V Z.mem AO (hx.rg cO) nL hxe hv1 hv2
   rintro _ _ rfl u;have u:=u.split;refine aJ (x:=(uo m t x:cD)) u.p2 fr rfl rfl (λ_ u=>?_);have u:=u.p2.p2.p4.p4.p4;rw[G];exact⟨I,u⟩
  have acs:x.kind=9\/x.kind=10:=cO
  obtain⟨j,hj,BO,_⟩:=mf (dS.1 (hx.lk acs));have Cm:=(kB.1 BO).1;have hjk:fM m x=(j:Int):=hj;refine aH (aC (λk9=>?_) λk9=>?_)
  .have G:(eo m t i x)=(qf m x i,t,⟨10,0,fM m x,0,0⟩):=by unfold eo;rw[ej Y,ej k3,ej k5,ej k6,ej k7,ej k8,ej k4,ew k9]
   have I:¬ (x.kind=10/\m.fc.getD (fM m x).toNat 0≠i):=cO
   have u:=u.p4;obtain⟨a,M,u⟩:=nw.open u;refine aE (aA vR (aB ey u.hb rfl (dT u.p2 cS (show 0<=fM m x by omega) (show fM m x<_ by omega) λ_ aup=>jA (i:Int) u.p2 bL aup cO λ_ u=>pop (o7 10 (fM m x)) (have u:=nw.shut (m:=qf m x i) (⟨⟨M.1.pr,M.1.cs,M.1.ks,M.1.mem,M.1.rc⟩,M.2⟩) u.p4.p4.p2.p4.p4;aJ (x:=(⟨10,0,fM m x,0,0⟩:cD)) u.p1 fr rfl rfl λ_ u=>?_))));have u:=u.p1.p4.p4.p4.p4;rw[G];exact⟨I,u⟩
  have G:(eo m t i x)=(qf m x (-1),t,⟨11,0,fM m x,0,0⟩):=by unfold eo;rw[ej Y,ej k3,ej k5,ej k6,ej k7,ej k8,ej k4,ej k9]
  have u:=u.p4;obtain⟨a,M,u⟩:=nw.open u;have hwl:=u.p2.dW;obtain⟨ov,hov⟩:=gx m.fc (i:=(fM m x).toNat) cO;have hgd:m.fc.getD (fM m x).toNat 0=ov:=by rw[n3,hov];rfl
  refine aE (aA vR (aB ey u.hb rfl (aQ cS hwl (show 0<=fM m x by omega) hov λq69 h69=>aD bL h69 (bQ (aC (λc72=>?_) λc72=>?_)))))
  .have u:=u.p4;have u:=ym ((nw.shut (m:=m) M u.p4.p4.p4.p4).p4);rw[nk ht]at u;refine bG aiE u (H':=λ_=>gG K p {m with fault:=3,jk:=i}) (Φ:=λv _=>v=ir (⟨16,i,3,0,0⟩:cD)) (λE B J=>?_) ?_
   .exact C158 K p m i 3 E _ B
   rintro _ _ rfl u;refine aJ (x:=(⟨16,i,3,0,0⟩:cD)) u.p3 fr rfl rfl (λ_ u=>aD fr u.At ?_);have u:=u.drop.p1.drop.p1.drop;rw[O6,ew ⟨cO,by rw[hgd];exact c72⟩];exact⟨rfl,u.mut⟩
  refine aE (aA vR (aB ey u.hb rfl (dT u.p2 cS (show 0<=fM m x by omega) (show fM m x<_ by omega) λ_ am2=>jA (-1:Int) u.p2 bL am2 cO λ_ u=>pop (o7 11 (fM m x)) (have u:=nw.shut (m:=qf m x (-1)) (⟨⟨M.1.pr,M.1.cs,M.1.ks,M.1.mem,M.1.rc⟩,M.2⟩) u.p4.p4.p2.p4.p4;aJ (x:=(⟨11,0,fM m x,0,0⟩:cD)) u.p1 fr rfl rfl λ_ u=>?_))));have u:=u.p1.p4.p4.p4.p4;rw[G];exact⟨by rw[hgd];exactλh=>c72 h.2,u⟩
 rintro _ ⟨acu,u⟩ _;have aBu:(eo m t i x).2.1.cJ=(.cons x xa xb r,en)::p':=by rw[Df];exact Cn
 have zD:=De (m:=m) (t:=t) (i:=i) (x:=x);have am3:tC (VS (cX m.p) (cP m.p) t.names) (eo m t i x).2.1:=Le V Z.rm.2
 have acv:yW (cX m.p) (cP m.p) { (eo m t i x).2.1 with cJ:=gO (eo m t i x).2.1.cJ}:=by
  show tC (VS _ _ (eo m t i x).2.1.names) _;rw[wy];exact Lf am3
 refine aA SQ (aT u bL (dQ rfl) rfl λ_ u=>have u:=(u.enc (cs':=j0 ({ (eo m t i x).2.2 with t:=i}:cD)) rfl).p3;bG N7 u (H':=λ_=>sd K e.b m.room { (eo m t i x).2.1 with cJ:=gO (eo m t i x).2.1.cJ}) (Φ:=λ_ _=>True) (λE B J=>?_) ?_)
 .exact(C164 K _ e.b m.room (eo m t i x).2.1 E x xa xb r en p' _ B (λw' hc=>U w' (J w' hc).aG) aBu jd (by rw[Df];omega)).mono λ_ _ r=>r.mono λ_ _ h=>⟨trivial,h.2⟩
 rintro _ _ _ u;refine bG aiA u (H':=λ_=>sd K e.b m.room (uO m t i x)) (Φ:=λ_ _=>True) (λE B J=>?_) ?_
 .exact(C117 K e.b m.room { (eo m t i x).2.1 with cJ:=gO (eo m t i x).2.1.cJ} (uO m t i x) _ _ _ E _ B (λw' hc=>U w' (J w' hc).aG) acv (rn acv).1).mono λ_ _ r=>r.mono λ_ _ h=>⟨trivial,h.2⟩
 rintro _ _ _ u;refine aD (x:=({ (eo m t i x).2.2 with t:=i}:cD)) fr u.p1.At (aJ (x:=({ (eo m t i x).2.2 with t:=i}:cD)) u.p3 fr rfl rfl λ_ u=>aD fr u.At ?_);have u:=u.drop.p1.drop.p1.drop.p1.p1;rw[<- zD]at u;have u:=ym u;rw[abG]at u;rw[O6,ej acu];exact⟨rfl,u.mut⟩
def C90(K:hM)(p:Nat)(m:gl)(q:aS)(gc:SV)(t:kc)(F:Nat->Prop)(w:World)(hF:(gG K p m).p w F)(hK:∀w',gJ F w w'->K w')(iM:m4 m)(nL:MB m.mem 1000000)(h0:0<=q.t)(ht:m.l[q.t.toNat]?=some t) :
   CR 90 [.pointer (some ⟨p,0,none⟩),ir (⟨q.kind,q.t,q.i,gc⟩:aI)] w (λv w'=>v=ir (tW q.t (dL t.buf q.i))/\nd F (gG K p (tY m t q)) w w'):=by
 have u:=St.begin hF;have C8:=kE ht;have j7:=iM.th t C8;have ot:=(kB.1 ht).1;have Im:=j7.bl;refine pj Tryz.func90 (pl:=P90) ?_;refine cM (x:=(⟨q.kind,q.t,q.i,gc⟩:aI)) u (λb3 _ u=>aN u mr λb4 _ u=>?_);have u:=(u.enc (cs':=j0 (⟨0,0,0,0,0⟩:cD)) rfl).p2;obtain⟨a,hu,u⟩:=gG.open u;have qi:=u.p4.ji;obtain⟨e,M⟩:=gx a.ps (i:=q.t.toNat) cO;refine⟨λx5 w'=>∃J,x5=.pointer (some ⟨J,0,none⟩)/\St w F [bW J (j0 (dL t.buf q.i)),bW b4 (j0 (⟨0,0,0,0,0⟩:cD)),bW b3 (j0 (⟨q.kind,q.t,q.i,gc⟩:aI)),sd K e.b m.room ({t with buf:=j4 t.buf q.i}),nw K p m q.t.toNat e] w',?_,?_⟩
 .have u:=u.drew;refine aE (aA vS (aB JV u.hb rfl (aA lQ (aB (v:=hZ q.t) bL u.p6.hb rfl (dT u.p3 Mk h0 (by have:=qi;omega) λq14 YL=>gq u.p3 Ie YL M ?_)))));have u:=aa1 u.p4 M ht;obtain⟨Y,nv,rg,pl,es,hk,u⟩:=eZ.open u;refine aE (aA py (aB A7 u.hb rfl (aA qI (aB (v:=hZ q.i) bL u.p11.hb rfl ⟨?_,?_,trivial⟩))))
  .have u:=u.p1;refine bG ahe u (H':=λ_=>jr Y m.room (j4 t.buf q.i)) (Φ:=λv _=>v=.tuple #[ir (dL t.buf q.i),hZ (ye t.buf q.i)]) (λI G O=>?_) ?_
   .exact C155 Y m.room t.buf q.i I _ G cO
   rintro _ _ rfl u;refine aM rfl (aM rfl (aN u rW λJ _ u=>?_));refine⟨aF JV (u.p7.hb.cell rfl),?_⟩;refine⟨aF bL (u.p12.hb.cell (v:=hZ q.t) rfl),?_⟩;refine⟨S2 u.p10 Ie YL M,?_⟩;refine⟨aF A7 (u.p2.hb.cell rfl),?_⟩;refine⟨aF bL (u.p12.hb.cell (v:=hZ q.i) rfl),?_⟩;exact aJ (x:=(dL t.buf q.i)) u iF rfl rfl (λ_ u=>have u:=eZ.shut (Φ:=λ_=>True) (t:={t with buf:=j4 t.buf q.i}) hk u.p5.p5.p5.p4.p5;have u:=nw.shut (m:=m) ⟨hu,M,qi,cO⟩ u.p2.p6.p6.p6.p6;have u:=u.p1.p4.p4.p4;⟨J,rfl,u⟩)
  refine aN u rW (λJ _ u=>?_);refine⟨aF JV (u.p7.hb.cell rfl),?_⟩;refine⟨aF bL (u.p12.hb.cell (v:=hZ q.t) rfl),?_⟩;refine⟨S2 u.p10 Ie YL M,?_⟩;refine⟨aF A7 (u.p1.hb.cell rfl),?_⟩;refine⟨aF bL (u.p12.hb.cell (v:=hZ q.i) rfl),?_⟩;have u:=u.p2;refine bG ahe u (H':=λ_=>jr Y m.room (j4 t.buf q.i)) (Φ:=λv _=>v=.tuple #[ir (dL t.buf q.i),hZ (ye t.buf q.i)]) (λI G O=>?_) ?_
  .exact C155 Y m.room t.buf q.i I _ G cO
  rintro _ _ rfl u;exact aM rfl (aM rfl (aJ (x:=(dL t.buf q.i)) u.p1 iF rfl rfl λ_ u=>have u:=eZ.shut (Φ:=λ_=>True) (t:={t with buf:=j4 t.buf q.i}) hk u.p5.p5.p5.p4.p5;have u:=nw.shut (m:=m) ⟨hu,M,qi,cO⟩ u.p2.p6.p6.p6.p6;have u:=u.p1.p4.p4.p4;⟨J,rfl,u⟩))
 rintro _ _ ⟨J,rfl,u⟩ _;refine aA gV (aB (v:=hZ (dL t.buf q.i).kind) bL u.hb rfl (aH (aC (λc=>?_) λc=>?_)))
 .have u:=u.p4;obtain⟨a,B,u⟩:=nw.open u;have u:=u.drew;refine aE (aA ua (aB Mj u.hb rfl (aA mJ (aB (v:=hZ (dL t.buf q.i).cell) bL u.p5.hb rfl (aA pC (aB (v:=hZ (dL t.buf q.i).n) bL u.p5.hb rfl (have u:=u.p1;bG ahf u (H':=λ_=>iU a.q a.ov a.fv (fw m.mem (dL t.buf q.i).cell (dL t.buf q.i).n)) (Φ:=λ_ _=>True) (λI G O=>?_) ?_)))))))
  .exact(C156 a.q a.ov a.fv m.mem I _ _ _ G (λw' hc=>B.1.mem _ (hK w' (O w' hc).aG)) iM.mem nL).mono λ_ _ r=>r.mono λ_ _ h=>⟨trivial,h.2⟩
  rintro _ _ _ u;refine aA lQ (aB (v:=hZ q.t) bL u.p7.hb rfl (aA mJ (aB (v:=hZ (dL t.buf q.i).cell) bL u.p5.hb rfl (aA pC (aB (v:=hZ (dL t.buf q.i).n) bL u.p5.hb rfl (pop (zV 12 q.t (dL t.buf q.i).cell (dL t.buf q.i).n) (aJ (x:=(⟨12,q.t,(dL t.buf q.i).cell,(dL t.buf q.i).n,0⟩:cD)) u.p6 fr rfl rfl λ_ u=>aD fr u.At ?_)))))));have U:j5 m.mem (dL t.buf q.i)=fw m.mem (dL t.buf q.i).cell (dL t.buf q.i).n:=by unfold j5;rw[ew c]
  have E:tW q.t (dL t.buf q.i)=⟨12,q.t,(dL t.buf q.i).cell,(dL t.buf q.i).n,0⟩:=by unfold tW;rw[ew c]
  have u:=nw.shut (m:={m with mem:=fw m.mem (dL t.buf q.i).cell (dL t.buf q.i).n}) ⟨⟨B.1.pr,B.1.cs,B.1.ks,λw Z=>(B.1.mem w Z).write,B.1.rc⟩,B.2⟩ u.drop.p6.drop.p5.drop.p4.p4.p4.p3.p4;have u:=ym (m:={m with mem:=fw m.mem (dL t.buf q.i).cell (dL t.buf q.i).n}) (tp:=e) (t:={t with buf:=j4 t.buf q.i}) u.p1;have W:tY m t q={ {m with mem:=fw m.mem (dL t.buf q.i).cell (dL t.buf q.i).n}with l:=m.l.set q.t.toNat ({t with buf:=j4 t.buf q.i})}:=by unfold tY;rw[U]
  rw[W,E];exact⟨rfl,u.mut⟩
 refine aH (aC (λV=>?_) λV=>?_)
 .refine aA lQ (aB (v:=hZ q.t) bL u.p2.hb rfl (pop (IW 14 q.t) (aJ (x:=(⟨14,q.t,0,0,0⟩:cD)) u.p1 fr rfl rfl λ_ u=>aD fr u.At ?_)));have u:=u.p4;obtain⟨a,B,u⟩:=nw.open u;have U:j5 m.mem (dL t.buf q.i)=m.mem:=by unfold j5;rw[ej c,ew V]
  have E:tW q.t (dL t.buf q.i)=⟨14,q.t,0,0,0⟩:=by unfold tW;rw[ej c,ew V]
  have u:=nw.shut (m:={m with mem:=m.mem}) B u.p5.drop.p6.drop.p5.drop.p4.p4.p4.p4.p4;have u:=ym (m:={m with mem:=m.mem}) (tp:=e) (t:={t with buf:=j4 t.buf q.i}) u.p1;have W:tY m t q={ {m with mem:=m.mem}with l:=m.l.set q.t.toNat ({t with buf:=j4 t.buf q.i})}:=by unfold tY;rw[U]
  rw[W,E];exact⟨rfl,u.mut⟩
 have u:=u.p4;obtain⟨a,B,u⟩:=nw.open u;have u:=u.drew;refine aE (aA ua (aB Mj u.hb rfl (aA iq (aB (v:=hZ (dL t.buf q.i).line) bL u.p5.hb rfl (have u:=u.p1;bG aoO u (H':=λ_=>iU a.q a.ov a.fv (oM m.mem (dL t.buf q.i).line)) (Φ:=λ_ _=>True) (λI G O=>?_) ?_)))))
 .exact(C157 a.q a.ov a.fv m.mem I _ _ G (λw' hc=>B.1.mem _ (hK w' (O w' hc).aG)) iM.mem nL).mono λ_ _ r=>r.mono λ_ _ h=>⟨trivial,h.2⟩
 rintro _ _ _ u;refine aA lQ (aB (v:=hZ q.t) bL u.p7.hb rfl (aA iq (aB (v:=hZ (dL t.buf q.i).line) bL u.p5.hb rfl (pop (um 13 q.t (dL t.buf q.i).line) (aJ (x:=(⟨13,q.t,(dL t.buf q.i).line,0,0⟩:cD)) u.p6 fr rfl rfl λ_ u=>aD fr u.At ?_)))));have U:j5 m.mem (dL t.buf q.i)=oM m.mem (dL t.buf q.i).line:=by unfold j5;rw[ej c,ej V]
 have E:tW q.t (dL t.buf q.i)=⟨13,q.t,(dL t.buf q.i).line,0,0⟩:=by unfold tW;rw[ej c,ej V]
 have u:=nw.shut (m:={m with mem:=oM m.mem (dL t.buf q.i).line}) ⟨⟨B.1.pr,B.1.cs,B.1.ks,λw Z=>(B.1.mem w Z).out,B.1.rc⟩,B.2⟩ u.drop.p6.drop.p5.drop.p4.p4.p4.p3.p4;have u:=ym (m:={m with mem:=oM m.mem (dL t.buf q.i).line}) (tp:=e) (t:={t with buf:=j4 t.buf q.i}) u.p1;have W:tY m t q={ {m with mem:=oM m.mem (dL t.buf q.i).line}with l:=m.l.set q.t.toNat ({t with buf:=j4 t.buf q.i})}:=by unfold tY;rw[U]
 rw[W,E];exact⟨rfl,u.mut⟩
def C56(K:hM)(p:Nat)(m:gl)(rB:List cR)(lv:Value)(U:List cL)(F:Nat->Prop)(w:World)(hF:(gG K p m).p w F)(V:∀w',gJ F w w'->K w')(hrm:1<=m.room/\m.room<=16)(hlk:(cP m.p).length<=1000)(hl:∀w',gJ F w w'->dD (λ_=>True) w' lv U)(J:Ea K U rB)
   (j7:∀t∈rB,yW (cX m.p) (cP m.p) (xe t)/\t.body=(IY t.body).flat) (hn:rB.length<=1000) :
   CR 56 [.pointer (some ⟨p,0,none⟩),lv] w (λv w'=>v=.tuple #[]/\nd F (gG K p (rD m rB)) w w'):=by
 have u:=St.begin hF;have Pk:=J.1;refine pj Tryz.func56 (pl:=P56) ?_;obtain⟨a,I,u⟩:=gG.open u;have qi:=u.p4.ji;refine aE (aA vS (aT u JV (dQ rfl) rfl λ_ u=>aE (aA vR (aT u ey (dQ rfl) rfl λ_ u=>aE (aA JX (aB jq u.hb rfl (aK iK (I.ks _ (V _ u.aG)) ?_)))))));have u:=(((u.p2.drop.p2.drop.p2.drop.eK (α:=Int)).p2).p1).p2;refine⟨λO x w'=>∃(k:Nat) (ov:Value),x=hZ (k:Int)/\O=(cP m.p).length-k/\k<=(cP m.p).length/\St w F [bW p (rC {a with ow:=ov,ll:=.slice none 0 0} m),bE ov (r6 k (-1:Int)),iU a.q a.ov a.fv m.mem] w',⟨_,0,_,rfl,rfl,l0 _,u⟩,?_⟩
 rintro O _ _ ⟨k,ov,rfl,rfl,Ss,u⟩ _;refine aR (aC (λc=>?_) λc=>?_)
 .refine aE (aA vR (aB ey u.hb rfl (aV ([-1]:List Int) u cS rfl rfl (dQ rfl) λs27 _ u=>?_)));have W:=u.dW;exact bI u.p2 cS W (by rw[E2,l2];omega) ee (λs28 _ u=>have u:=u.p1.drop;aE (aA vR (aT u.p1 ey (dQ rfl) u.dW.one λ_ u=>aO cO ⟨_,cO,k+1,s28,rfl,rfl,cO,by rw[XN];exact u⟩)))
 refine aK fF (hl _ u.aG) ?_;rw[show k=(cP m.p).length from cO]at u;have u:=((((((u.Bn (H:=zx K m.room)).eK (α:=Ptr)).p4).p4).p3).p3).p4;refine⟨λO x w'=>∃(j:Nat) (B:Value) (ps:List Ptr),x=hZ (j:Int)/\O=U.length-j/\j<=U.length/\St w F [bW p (rC {a with ow:=ov,ll:=B} m),bE B ps,iu (zx K m.room) ps ((rB.take j).map VX),bE ov (r6 (cP m.p).length (-1:Int)),iU a.q a.ov a.fv m.mem] w',⟨_,0,_,_,rfl,rfl,l0 _,u⟩,?_⟩;rintro O _ _ ⟨j,B,ps,rfl,rfl,hj1,u⟩ _;refine aR (aC (λc2=>?_) λc2=>?_);rotate_left
 .rw[kO cO]at u;have u:=u.p2.p2.p3.p4.p4;exact⟨rfl,(gG.shut (m:=rD m rB) (a:={a with ow:=ov,ll:=B,ps:=ps}) ⟨I.pr,I.cs,I.ks,I.mem,I.rc⟩ u).mut⟩
 obtain⟨tv,R6⟩:=gx U (i:=((j:Nat):Int).toNat) cO;obtain⟨t,ht⟩:=gx rB (i:=j) cO;obtain⟨E,gb,rows,rfl,M,hgb⟩:=J.2 j _ _ R6 ht;obtain⟨O7,hbk⟩:=j7 t (kE ht);have HF:t.dY.length<=1000:=O7.nb;refine aQ fF (hl _ u.aG) cO R6 (λq36 h36=>aD ny h36 (aN u ud λb5 _ u=>aJ (x:=(⟨t.name,E,gb,t.at_⟩:cL)) u ny rfl rfl λ_ u=>aE (aA ad2 (aB bL u.p1.hb rfl (dO aoz (C49 m.room _) ?_)))));rintro v43 _ hh;obtain⟨_,_,Y,rfl,cI⟩:=hh.resolve_left (λ_=>cO);have u:=u.made cI;refine aM rfl (aM rfl (have u:=u.drew;aA fZ (aB (v:=ir E) jq u.p1.hb rfl (aA fZ (aB (v:=ir E) jq u.p1.hb rfl (aK iK (M _ (V _ u.aG)) (xu (0:Int) u cS u0 cO cO ee λs52 _ u=>?_)))))))
 rw[pd]at u;refine⟨aF jq (u.p2.hb.cell (v:=ir E) rfl),?_⟩;obtain⟨Z,rfl⟩:=u.fN;refine pop (KQ (some ⟨Y,0,none⟩) E.a E.n E.cap Z.a Z.n Z.cap) (nR u λG _ u=>have u:=(u.eK (α:=yj)).fk (Φ:=λw=>EF K w [] []/\True) (λ_=>⟨trivial,trivial⟩);have u:=eZ.shut (Φ:=λ_=>True) (t:=(⟨t.dY,r6 t.dY.length 0,[],0,[]⟩:kc)) (es:=[]) M u.p1.p3.p4.p4;aA lV (aB (v:=ir gb) jW u.p1.hb rfl (bG N6 u (H':=λ_=>sd K G m.room (xe t)) (Φ:=λ_ _=>True) (λF2 et ea=>?_) ?_)))
 .exact(C116 K _ G m.room ⟨t.dY,r6 t.dY.length 0,[],0,[]⟩ F2 gb rows (IY t.body) false _ et (λw' hc=>V w' (ea w' hc).aG) (λw _=>by rw[<- hbk];exact hgb w) (show(0:Nat)<=100000 by decide)).mono λ_ _ r=>r.mono λ_ _ h=>⟨trivial,h.2⟩
 rintro _ _ _ u;refine bG aiA u (H':=λ_=>sd K G m.room (VX t)) (Φ:=λ_ _=>True) (λF2 et ea=>?_) ?_
 .exact(C117 K G m.room (xe t) (VX t) _ _ _ F2 _ et (λw' hc=>V w' (ea w' hc).aG) O7 (rn O7).1).mono λ_ _ r=>r.mono λ_ _ h=>⟨trivial,h.2⟩
 rintro _ _ _ u;refine aE (aA vS ?_);have oD:=u.p4.ji;rw[nc,l1]at oD;refine aB JV u.p2.hb rfl (aV ([(⟨G⟩:Ptr)]) u Mk rfl rfl (dQ rfl) λs67 _ u=>?_);have acx:=u.dW;exact bI u.p4 Mk acx (by simp;omega) ee (λs68 _ u=>have u:=u.p1.drop;aE (aA vS (aT u.p3 JV (dQ rfl) u.dW.one λ_ u=>have u:=(((St.Fl (H:=zx K m.room) (p:=⟨G⟩) (x:=VX t) u.p3.drop.p2.p3).p4).p4).p2;have u:=u.p4.p4;aO cO ⟨_,cO,j+1,s68,ps++[⟨G⟩],rfl,rfl,cO,by rw[<- gy (k:=j) ht];exact u⟩)))
def ThK.mono{K K2:hM}{E:cL}{t:cR}(h:ThK K E t)(B:∀w,K2 w->K w):ThK K2 E t:=by
 obtain⟨G,I,rows,e,h1,h2⟩:=h
 exact⟨G,I,rows,e,λw u=>h1 w (B w u),λw=>⟨λw' u=>(h2 w).1 w' (B w' u),λu=>(h2 w).2 (B w u)⟩⟩
def Ea.mono{K K2:hM}{u:List cL}{rB:List cR}(h:Ea K u rB)(E:∀w,K2 w->K w):Ea K2 u rB:=⟨h.1,λj B t h1 h2=>(h.2 j B t h1 h2).mono E⟩
def EP{p:bZ}(hc:Hl p){t:cR}(ht:t∈gE p):t.body=(IY t.body).flat:=by
 obtain⟨_,h2,_⟩:=hc.f.rB ht
 obtain⟨_,_,b,h5,h6,_⟩:=lK h2
 rw[h5,OQ h6]
def Cf(K:hM)(lv:SV)(rB:List cR):Prop:=∃u,(∀w,K w->dD (λ_=>True) w (ir lv) u)/\Ea K u rB
structure G9(K:hM)(pv:bO)(p:bZ):Prop where
 pr:∀w,K w->mi w pv p
 th:Cf K pv.threads p.threads
 rc:Cf K pv.recover p.recover
def crD(m:gl)(q:aS):gl:=match ja m q with|some u=>{m with mem:=mW m.mem u}|none=>m
def ER(m:Mem)(cut:List Int)(v:Value)(u:Mem):Prop:=(fy m cut=none/\u=m/\v=hZ 1)\/∃B,fy m cut=some B/\u=mW m B/\v=hZ 0
def R7{m:Mem}{cut:List Int}{v:Value}{p:Nat}{ov fv:Value}{F:Nat->Prop}{w w':World}
  (h:(fy m cut=none/\v=hZ 1/\nd F (iU p ov fv m) w w')\/∃u,fy m cut=some u/\v=hZ 0/\nd F (iU p ov fv (mW m u)) w w') :
  True/\nd F (qm λE=>fact (ER m cut v E) (iU p ov fv E)) w w':=by
 refine⟨trivial,?_⟩
 rcases h with⟨h1,h2,B,h3,h4,h5⟩|⟨u,h1,h2,B,h3,h4,h5⟩
 .exact⟨B,⟨m,.inl ⟨h1,rfl,h2⟩,h3⟩,h4,h5⟩
 exact⟨B,⟨mW m u,.inr ⟨u,h1,rfl,h2⟩,h3⟩,h4,h5⟩
theorem aiY(K:hM):Ea K [(⟨⟨#[]⟩,bY,bY,0⟩:cL)] [⟨⟨#[]⟩,[],[],0⟩]:=by
 refine⟨rfl,λj u t h1 h2=>?_⟩
 cases j with
 | zero=>
  cases h1;cases h2
  exact⟨bY,bY,[],rfl,λw _=>dD.nil _ w,λw=>⟨λ_ _=>fT.nil,λ_=>dD.nil _ w⟩⟩
 | succ j=>simp at h1
def aBw:PL 89:=dR Tryz.func89
def C12(K:hM)(p:bZ)(pv:bO)(room:Int)(w:World)(M:∀w',Ext w w'->K w')(I:G9 K pv p)(O:PZ p):CR 12 [ir pv,hZ room] w (λv w'=>(fg p≠0/\v=.tuple #[.pointer none,hZ (fg p)]/\Ext w w')\/(fg p=0/\(room<1\/16<room)/\v=.tuple #[.pointer none,hZ 1]/\Ext w w')\/
  (fg p=0/\(1<=room/\room<=16)/\∃(b:Nat) (X:hM),v=.tuple #[.pointer (some ⟨b,0,none⟩),hZ 0]/\kq (sep (gG (λw=>K w/\X w) b (gj p room)) (dZ X)) w w')):=by
 have u:=St.start w;refine alj _ _ _ _ ?_;unfold S12;refine cM (x:=pv) u (λbp w1 u=>aD er u.At (dO azC (C48 p pv _ (I.pr _ (M _ u.aG)) O) ?_));rintro _ _ ⟨aa,rfl,W⟩;have u:=u.ext W;refine aM rfl (aM rfl (bQ (aC (λc=>?_) λc=>?_)))
 .exact .inl ⟨c,rfl,u.drop.aG⟩
 have Ay:fg p=0:=cO
 have Z:=pS Ay;have LB:=abK Z;have D6:=B8 p;refine dO aoz (C49 room _) ?_;rintro v3 _ hh
 rcases hh with⟨hrb,rfl,W⟩|⟨AL,Ek,b3,rfl,V⟩
 .have u:=u.ext W;exact aM rfl (aM rfl (bQ (kr ee (.inr (.inl ⟨Ay,hrb,rfl,u.drop.aG⟩)))))
 have u:=(u.made V).drop;refine aM rfl (aM rfl (bQ (fI ee (have u:=u.drew;aD er u.At (aD er u.At (aD er u.At (dV azc u (C50 p pv _ (I.pr _ (M _ u.aG)) O) λx31 _ V u=>?_)))))));refine⟨eL er u.p1.At,?_⟩;refine⟨eL er u.p1.At,?_⟩;refine dV azd u (C51 p pv _ (I.pr _ (M _ u.aG)) O) (λx33 _ V u=>?_);refine⟨eL er u.p2.At,?_⟩;obtain⟨E,rfl⟩:=u.fN;obtain⟨G,rfl⟩:=u.p1.fN;refine pop (HG _ _ _ _ _ _ _ _ _ _ _ _ _ _ _ _ _ _ _ _ _ _ _ _ _) (nR u λB w6 u=>aE (aA JW (aB jq u.hb rfl (aK iK u.p2.dW ?_))))
 have u:=u.eK (α:=Int);have W4:St w aX [bE (.slice none 0 0) ([]:List Int),bW B (rC ⟨pv,G,E,0,.slice none 0 0,.slice none 0 0,.slice none 0 0,.slice none 0 0,[]⟩ (yo p room) |>.set 9 (.pointer none)),bE (ir E) (cP p),bE (ir G) (cX p),bW bp (j0 pv)] w6:=u;refine⟨λmm o y w1=>∃k:Nat,y=hZ (k:Int)/\mm=(cX p).length-k/\k<=(cX p).length/\St w aX [bE o ((BX p).take k),bW B (rC ⟨pv,G,E,0,.slice none 0 0,.slice none 0 0,.slice none 0 0,.slice none 0 0,[]⟩ (yo p room) |>.set 9 (.pointer none)),bE (ir E) (cP p),bE (ir G) (cX p),bW bp (j0 pv)] w1,⟨_,0,rfl,rfl,l0 _,W4⟩,?_⟩
 rintro mm o _ _ ⟨k,rfl,rfl,hk,u⟩ _;have Kh:(BX p).length=(cX p).length:=by unfold BX;rw[nc,P8]
 refine aR (aC (λc1=>?_) λc1=>?_)
 .refine aD er u.p4.At (aW ar7 u (C52 p pv (k:Int) _ (I.pr _ (M _ u.aG)) O) λ_ W u=>aV ([qd p (k:Int)]:List Int) u cS rfl rfl (dQ rfl) λs49 _ u=>?_);have am6:=u.dW;exact bI u.p1 cS am6 (by rw[l1,l2];omega) ee (λ_ _ u=>aO cO ⟨_,cO,k+1,rfl,rfl,cO,by rw[<- gX (Li (p:=p) (i:=k) cO)];exact u.p1.drop⟩)
 rw[kO cO]at u;have u:=u.drew;refine aD er u.p4.At (aD er u.p4.At (aW Z7 u (C54 p pv _ (I.pr _ (M _ u.aG)) O) λ_ W u=>?_));refine⟨eL er u.p4.At,?_⟩;refine dV aze u (C55 p pv _ (I.pr _ (M _ u.aG)) O) (λx58 _ V u=>?_);have jd:=rq p;have uD:(eV p).length=(iE p).length:=by unfold eV;rw[nc]
 refine dO aAb (C53 (BX p) (eV p) (eH p) _ _ _ u.p1.dW u.dW cO cO cO λk n h1 h2=>?_) ?_
 .have h3:=RT Z h1 h2;have h4:=(kB.1 h2).1;exact⟨h3.1,cO,cO⟩
 rintro v59 _ ⟨q,ov,fv,rfl,V⟩;have u:=((u.made V).split).p1.split;refine aM rfl (aM rfl (aE (aA ua (aT u.p5 Mj (dQ rfl) rfl λJ u=>aA kR (aB (v:=ir pv.threads) iJ u.p8.hb rfl ?_)))));have u:=u.p8.drop.p5.drop.p4.drop.p3.freeze.p2.freeze.gv.p3.freeze.gv.p3.freeze.gv;obtain⟨U,u,Y⟩:=u.BU;have u:=u.Bn (H:=zx (λw=>K w/\kK U J w) room);have u:=(u.eK (α:=Ptr)).eK (α:=Int)
 have u:St w aX (bW B (rC ⟨pv,G,E,q,ir ov,ir fv,.slice none 0 0,.slice none 0 0,[]⟩ (yo p room))::iU q (ir ov) (ir fv) (KH (BX p) (eH p) (eV p))::bE (.slice none 0 0) ([]:List Int)::bE (.slice none 0 0) ([]:List Ptr)::iu (zx (λw=>K w/\kK U J w) room) [] []::dZ (kK U J)::[]) J:=by
  have h1:=u.p5.p5;exact h1
 obtain⟨wj,ht1,ht2⟩:=I.th;obtain⟨Xk,Ow,WH⟩:=I.rc;have u:=gG.shut (K:=(λw=>K w/\kK U J w)) (m:=yo p room) ⟨λw' h=>I.pr w' h.1,λw' h=>?_,λw' h=>?_,λw' h=>⟨?_,?_⟩,⟨Xk,λw' h=>Ow w' h.1,WH.mono λ_ h=>h.1⟩⟩ u;rotate_left
 .have:=Y w' h.2;first|exact this.1|exact this.2|exact this.2.1|exact this.2.2|exact this.2.2.1|exact this.2.2.2
 .have:=Y w' h.2;first|exact this.1|exact this.2|exact this.2.1|exact this.2.2|exact this.2.2.1|exact this.2.2.2
 .have:=Y w' h.2;first|exact this.1|exact this.2|exact this.2.1|exact this.2.2|exact this.2.2.1|exact this.2.2.2
 .have:=Y w' h.2;first|exact this.1|exact this.2|exact this.2.1|exact this.2.2|exact this.2.2.1|exact this.2.2.2
 refine bG as2 u (H':=λ_=>gG (λw=>K w/\kK U J w) B (gj p room)) (Φ:=λ_ _=>True) (λF2 et ea=>?_) ?_
 .exact(C56 (λw=>K w/\kK U J w) B (yo p room) p.threads _ wj F2 _ et (λw' hc=>⟨M _ (ea w' hc).aG,(ea w' hc).dZ⟩) ⟨AL,Ek⟩ (by have:=O.eS;show(cP p).length<=_;unfold cP;rw[nc];omega) (λw' hc=>ht1 w' (M _ (ea w' hc).aG)) (ht2.mono λ_ h=>h.1)
   (λ_ ht=>⟨EM Z (List.mem_append_left _ ht),EP Z (List.mem_append_left _ ht)⟩) (by have:=O.threads;omega)).mono λ_ _ r=>r.mono λ_ _ h=>⟨trivial,h.2⟩
 rintro _ _ _ u;exact .inr (.inr ⟨Ay,⟨AL,Ek⟩,B,kK U J,rfl,(St.join u).fresh⟩)
theorem C24(K:hM)(p:Nat)(m:gl)(q:aS)(E:SV)(F:Nat->Prop)(w:World)(hF:(gG K p m).p w F)(U:∀w',gJ F w w'->K w')(O:m4 m)(vJ:Hl m.p)(nL:MB m.mem 1000000)(hcb:0<=m.cA/\m.cA<=1000000)(O9:∀w',gJ F w w'->dD (λ_=>True) w' (ir E) q.cut)(hql:q.cut.length<=1000) :
   CR 24 [.pointer (some ⟨p,0,none⟩),ir (⟨q.kind,q.t,q.i,E⟩:aI)] w (λv w'=>v=.tuple #[ir (nf m q).2.1,hZ (nf m q).2.2]/\nd F (gG K p (nf m q).1) w w'):=by
 have u:=St.begin hF;refine pj Tryz.func24 (pl:=P24) ?_;refine cM (x:=(⟨q.kind,q.t,q.i,E⟩:aI)) u (λb3 w1 u=>aN u mr λb4 _ u=>?_);have u:=u.enc (cs':=j0 (⟨0,0,0,0,0⟩:cD)) rfl;refine⟨λjv w'=>jv=.bool (ja m q).isSome/\St w F [gG K p (crD m q),bW b4 (j0 (⟨0,0,0,0,0⟩:cD)),bW b3 (j0 (⟨q.kind,q.t,q.i,E⟩:aI))] w',?_,?_⟩
 .have u:=u.drew
  have eO:∀w',ja m q=none->St w F [gG K p m,bW b4 (j0 (⟨0,0,0,0,0⟩:cD)),bW b3 (j0 (⟨q.kind,q.t,q.i,E⟩:aI))] w'->(Value.bool false=.bool (ja m q).isSome/\St w F [gG K p (crD m q),bW b4 (j0 (⟨0,0,0,0,0⟩:cD)),bW b3 (j0 (⟨q.kind,q.t,q.i,E⟩:aI))] w'):=λw' h1 h2=>by
   have e:crD m q=m:=by unfold crD;rw[h1]
   rw[h1,e];exact⟨rfl,h2⟩
  have Xe:ja m q=(if q.kind=3/\q.t=0/\q.i=0/\m.fault=0 then fy m.mem q.cut else none):=rfl;refine aA mu (aB (v:=hZ q.kind) bL u.p1.hb rfl (aH (aC (λc1=>?_) λ_=>eO _ (by rw[Xe,ej cO]) u.p2)));refine aA lQ (aB (v:=hZ q.t) bL u.p1.hb rfl (aH (aC (λZ=>?_) λ_=>eO _ (by rw[Xe,ej cO]) u.p2)));refine aA qI (aB (v:=hZ q.i) bL u.p1.hb rfl (aH (aC (λc3=>?_) λ_=>eO _ (by rw[Xe,ej cO]) u.p2)));have u:=u.p2;obtain⟨a,B,u⟩:=gG.open u;have qi:=u.p4.ji;refine aE (aA yJ (aB bL u.hb rfl (aH (aC (λc4=>?_) λ_=>eO _ (by rw[Xe,ej cO]) (gG.shut B u)))))
  have hpi:ja m q=fy m.mem q.cut:=by rw[Xe,ew ⟨c1,Z,c3,c4⟩]
  refine aE (aA ua (aB Mj u.hb rfl (aA px (aB (v:=ir (E:SV)) ey u.p6.hb rfl (have u:=u.p1;bG awQ u (H':=λv=>qm λm2=>fact (ER m.mem q.cut v m2) (iU a.q a.ov a.fv m2)) (Φ:=λ_ _=>True) (λY V I=>?_) ?_)))))
  .exact(C86 a.q a.ov a.fv m.mem Y q.cut _ _ V (λw' hc=>B.mem _ (U w' (I w' hc).aG)) O.mem nL (λw' hc=>O9 w' (I w' hc).aG) hql).mono λ_ _ r=>r.mono λ_ _ h=>R7 h
  rintro v34 _ _ yd;obtain⟨m2c,zX⟩:=yd.eA
  clear yd
  obtain⟨hcf,EK⟩:=zX.mK
  clear zX
  rcases hcf with⟨W,rfl,rfl⟩|⟨G,W,rfl,rfl⟩
  .have u:=EK;exact aH (have u:=u.p4.p4.p4.p3.p4;eO _ (hpi.trans W) (gG.shut B u))
  have u:=EK;refine aH ?_;have M:=hpi.trans W;have e:crD m q={m with mem:=mW m.mem G}:=by unfold crD;rw[M]
  rw[M,e];have u:=u.p4.p4.p4.p3.p4;exact⟨rfl,gG.shut (m:={m with mem:=mW m.mem G}) ⟨B.pr,B.cs,B.ks,B.mem,B.rc⟩ u⟩
 rintro _ _ ⟨rfl,u⟩ _;refine bD (λc=>?_) (λc=>?_)
 .obtain⟨G,M⟩:=Ot.1 c;have e:crD m q={m with mem:=mW m.mem G}:=by unfold crD;rw[M]
  have J:nf m q=(rD (pP m G) (vx m),⟨15,0,0,ri q.cut q.cut.length,0⟩,0):=by unfold nf;rw[M]
  rw[e]at u;rw[J];obtain⟨a,B,u⟩:=gG.open u;have qi:=u.p4.ji;refine aE (aA JY (aB bL u.hb rfl (aO (show -9223372036854775808<=m.cA+1/\m.cA+1<=9223372036854775807 by omega) (aE (aA JY (aT u bL (dQ rfl) rfl λ_ u=>?_))))));obtain⟨Xk,Ow,WH⟩:=id B.rc;have HF:=WH.1;refine aE (aA Em (aA po (aB iJ u.hb rfl ?_)));have u:=(gG.shut (m:=pP m G) ⟨B.pr,B.cs,B.ks,B.mem,B.rc⟩ u.p4.p4.p4.p4.p4).p2;have u:=u.p2.p2;refine⟨λjv w'=>∃wj,Ea K wj (vx m)/\St w F [dZ (λw=>K w->dD (λ_=>True) w jv wj),gG K p (pP m G),bW b4 (j0 (⟨0,0,0,0,0⟩:cD)),bW b3 (j0 (⟨q.kind,q.t,q.i,E⟩:aI))] w',?_,?_⟩
  .refine aK fF (Ow _ (U _ u.aG)) (aH (aC (λZ=>?_) λZ=>?_))
   .refine pop (v:=ir (⟨⟨#[]⟩,bY,bY,0⟩:cL)) (by kernel_rfl) (aV ([⟨⟨#[]⟩,bY,bY,0⟩]:List cL) u fF rfl rfl (dQ rfl) λs54 _ u=>?_);refine⟨_,?_,u.freeze.dF (Ψ:=λw=>K w->dD (λ_=>True) w s54 [(⟨⟨#[]⟩,bY,bY,0⟩:cL)]) λ_ h _=>h⟩;have W0:vx m=[⟨⟨#[]⟩,[],[],0⟩]:=by unfold vx;rw[ew (by have:Xk.length=m.p.recover.length:=HF;omega)]
    rw[W0];exact aiY K
   have W0:vx m=m.p.recover:=by unfold vx;rw[ej (by have:Xk.length=m.p.recover.length:=HF;omega)]
   exact⟨Xk,by rw[W0];exact WH,u.fk λw h=>Ow w h⟩
  rintro rv _ ⟨wj,htv,u⟩ _;obtain⟨aBy,am7⟩:=Lh vJ;refine bG as2 u.p1 (H':=λ_=>gG K p (rD (pP m G) (vx m))) (Φ:=λ_ _=>True) (λY V I=>?_) ?_
  .refine(C56 K p (pP m G) (vx m) _ wj Y _ V (λw' hc=>U w' (I w' hc).aG) O.rm (by have:=O.pz.eS;show(cP m.p).length<=_;unfold cP;rw[nc];omega) (λw' hc=>(I w' hc).dZ (U w' (I w' hc).aG)) htv (λt ht=>⟨am7 t ht,?_⟩) cO).mono λ_ _ r=>r.mono λ_ _ h=>⟨trivial,h.2⟩;unfold vx at ht
   split at ht
   .rw[v7.1 ht];rfl
   exact EP vJ (List.mem_append_right _ ht)
  rintro _ _ _ u;exact aA px (aB (v:=ir (E:SV)) ey u.p3.hb rfl (aW az8 u (C87 _ q.cut _ (O9 _ u.aG) cO) λ_ _ u=>pop (IX 15 (ri q.cut q.cut.length)) (aJ (x:=(⟨15,0,0,ri q.cut q.cut.length,0⟩:cD)) u.p2 fr rfl rfl λ_ u=>aD fr u.At ⟨rfl,u.p3.drop.drop.p1.drop.mut⟩)))
 have M:ja m q=none:=by
  cases h:ja m q with
  | none=>rfl
  | some G=>rw[h]at c;cases c
 have e:crD m q=m:=by unfold crD;rw[M]
 have J:nf m q=(if (gi m).any (nE q)=true then(if q.kind=2 then(match m.l[q.t.toNat]? with|some t=>((tY m t q,tW q.t (dL t.buf q.i),0):gl×cD×Int)|none=>(m,⟨0,0,0,0,0⟩,13))else((iI m q.t).1,(iI m q.t).2,0))else(m,⟨0,0,0,0,0⟩,13)):=by unfold nf;rw[M];rfl
 rw[e]at u;refine dV asZ u (C67 K p m _ u.has (λ_ e=>U _ (u.aG.then e)) O) (λx64 _ cI u=>?_);have VG:=u.p3.At
 have hfn:ug hH _ (.func (.func 88) [].toArray [.pointer (some ⟨b3,0,none⟩)].toArray) (λ_:aS=>True) (nE q):=
  ⟨88,[],_,rfl,az6,λsx y w1 e1 Xi _=>C88 y q sx b3 (⟨q.kind,q.t,q.i,E⟩:aI) w1 Xi (VG.ext e1) ⟨E,rfl,DL.jZ (O9 _ (u.aG.then e1))⟩⟩
 refine aW aBw u (C89 _ _ _ (λ_=>True) _ _ u.dl hfn (λ_ _=>trivial) (by have:=AB O;omega)) (λ_ he u=>have u:=u.drop;bT (bD (λZ=>?_) λZ=>?_))
 .rw[J,ej (by simpa using Z)];exact pop KN (aJ (x:=(⟨0,0,0,0,0⟩:cD)) u.p1 fr rfl rfl λ_ u=>aD fr u.At ⟨rfl,u.drop.p1.drop.mut⟩)
 have xj:(gi m).any (nE q)=true:=by simpa using Z
 obtain⟨hf0,h0,_,t,ht,hkd⟩:=amq xj;rw[J,ew xj];refine aA mu (aB (v:=hZ q.kind) bL u.p2.hb rfl (aH (aC (λc3=>?_) λc3=>?_)))
 .rw[ew c3,ht];refine aD kj u.p2.At (bG az5 u (H':=λ_=>gG K p (tY m t q)) (Φ:=λv _=>v=ir (tW q.t (dL t.buf q.i))) (λY V I=>?_) ?_)
  .exact C90 K p m q E t Y _ V (λw' hc=>U w' (I w' hc).aG) O nL h0 ht
  rintro _ _ rfl u;exact aJ (x:=tW q.t (dL t.buf q.i)) u.p1 fr rfl rfl (λ_ u=>aD fr u.At ⟨rfl,u.drop.p1.drop.mut⟩)
 rw[ej c3]
 have uP:tG m t=true:=by
  rcases hkd with h|h
  .exact h.2
  .exact absurd h.1 c3
 refine aA lQ (aB (v:=hZ q.t) bL u.p2.hb rfl (bG az4 u (H':=λ_=>gG K p (iI m q.t).1) (Φ:=λv _=>v=ir (iI m q.t).2) (λY V I=>?_) ?_))
 .exact C91 K p m q.t t Y _ V (λw' hc=>U w' (I w' hc).aG) O nL h0 ht (λ_=>OR uP)
 rintro _ _ rfl u;exact aJ (x:=(iI m q.t).2) u.p1 fr rfl rfl (λ_ u=>aD fr u.At ⟨rfl,u.drop.p1.drop.mut⟩)
theorem C64(K:hM)(p:Nat)(m:gl)(rB:List cR)(lv:Value)(wj:List cL)(F:Nat->Prop)(w:World)(hF:(oh K p m).p w F)(hK:∀w',gJ F w w'->K w')(hrm:1<=m.room/\m.room<=16)(hlk:(cP m.p).length<=1000)(hl:∀w',gJ F w w'->dD (λ_=>True) w' lv wj)(htv:Ea K wj rB)
   (j7:∀t∈rB,yW (cX m.p) (cP m.p) (xe t)/\t.body=(IY t.body).flat) (hbz:∀t∈rB,t.body.length<=100000) (hn:rB.length<=1000) :
   CR 64 [.pointer (some ⟨p,0,none⟩),lv] w (λv w'=>v=.tuple #[]/\nd F (oh K p (rD m rB)) w w'):=by
 have u:=St.begin hF;have Pk:=htv.1;refine amy _ _ _ _ ?_;unfold S64;obtain⟨a,hu,u⟩:=oh.open u;have qi:=u.p4.ji
 have hlr:∀w,K w->dD (λ_=>True) w (ir a.pv.eS) m.p.eS:=λw hw=>by
  obtain⟨g0,g1,g2,g3,g4,g5,e,_,_,h2,_⟩:=hu.pr w hw;rw[e];exact DL.flat h2
 have zp:(cP m.p).length=m.p.eS.length:=by unfold cP;rw[nc]
 refine aE (aA pw (aT u E7 (dQ rfl) rfl λ_ u=>aE (aA vO (aT u ey (dQ rfl) rfl λ_ u=>?_))));have u:=(((u.p2.drop.p2.drop.p2.drop.eK (α:=Int)).p2).p1).p2;refine⟨λmm x w'=>∃(k:Nat) (ov:Value),x=hZ (k:Int)/\mm=(cP m.p).length-k/\k<=(cP m.p).length/\St w F [bW p (pW {a with ow:=ov,ll:=.slice none 0 0} m),bE ov (r6 k (-1:Int)),gI a.q m.mem] w',⟨_,0,_,rfl,rfl,l0 _,u⟩,?_⟩;rintro mm _ _ ⟨k,ov,rfl,rfl,Ss,u⟩ _;refine aE (aA pq (aA ou (aB jT u.hb rfl (aK iD (hlr _ (hK _ u.aG)) (aR (aC (λc=>?_) λc=>?_))))))
 .refine aE (aA vO (aB ey u.hb rfl (aV ([-1]:List Int) u cS rfl rfl (dQ rfl) λs27 _ u=>?_)));have am5:=u.dW;exact bI u.p2 cS am5 (by rw[E2,l2];omega) ee (λs28 _ u=>have u:=u.p1.drop;aE (aA vO (aT u.p1 ey (dQ rfl) u.dW.one λ_ u=>aO cO ⟨_,cO,k+1,s28,rfl,rfl,cO,by rw[XN];exact u⟩)))
 rw[show k=(cP m.p).length from cO]at u;have u:=((((((u.Bn (H:=O4 K m.room)).eK (α:=Ptr)).p4).p4).p3).p3).p4;refine⟨λmm x w'=>∃(j:Nat) (E:Value) (ps:List Ptr),x=hZ (j:Int)/\mm=wj.length-j/\j<=wj.length/\St w F [bW p (pW {a with ow:=ov,ll:=E} m),bE E ps,iu (O4 K m.room) ps ((rB.take j).map VX),bE ov (r6 (cP m.p).length (-1:Int)),gI a.q m.mem] w',⟨_,0,_,_,rfl,rfl,l0 _,u⟩,?_⟩;rintro mm _ _ ⟨j,E,ps,rfl,rfl,hj1,u⟩ _;refine aK fF (hl _ u.aG) (aR (aC (λc2=>?_) λc2=>?_));rotate_left
 .rw[kO cO]at u;have u:=u.p2.p2.p3.p4.p4;exact⟨rfl,(oh.shut (m:=rD m rB) (a:={a with ow:=ov,ll:=E,ps:=ps}) ⟨hu.pr,hu.rc⟩ u).mut⟩
 obtain⟨tv,R6⟩:=gx wj (i:=((j:Nat):Int).toNat) cO;obtain⟨t,ht⟩:=gx rB (i:=j) cO;obtain⟨B,gb,rows,rfl,M,hgb⟩:=htv.2 j _ _ R6 ht;obtain⟨O7,W⟩:=j7 t (kE ht);have HF:t.dY.length<=1000:=O7.nb;have hpo:=O7.p
 have aus:(IY t.body).str:=by
  have h2:GB (VS (cX m.p) (cP m.p) t.dY) (jz (IY t.body) false []):=hpo;cases hb:IY t.body with
  | nil=>trivial
  | cons x c d r=>rw[hb]at h2;exact h2.st _ (oj ..)
 have aut:(IY t.body).flat.length<=100000:=by rw[<- W];exact hbz t (kE ht)
 refine⟨_,?_,λ_ h=>h⟩;refine aE (aA SO (aB bL u.hb rfl (dO aoA (C58 m.room _) ?_)));rintro v43 _ hh;obtain⟨_,_,b43,rfl,cI⟩:=hh.resolve_left (λ_=>cO);have u:=u.made cI;refine aM rfl (aM rfl ?_);refine⟨λt8 w'=>∃tb,t8=.pointer (some ⟨tb,0,none⟩)/\St w F [mD K tb m.room (xe t),bW p (pW {a with ow:=ov,ll:=E} m),bE E ps,iu (O4 K m.room) ps ((rB.take j).map VX),bE ov (r6 (cP m.p).length (-1:Int)),gI a.q m.mem] w',?_,?_⟩
 .refine GY (Wd:=λw'=>gJ F w w') fF hl u.aG cO R6 (λq50 h50=>G0 gb lV h50 u.aG rfl rfl λq51 U=>have u:=u.drew;aD (x:=gb) jW (U _ u.aG) (GY (Wd:=λw'=>gJ F w w') fF hl u.aG cO R6 λq56 h56=>G0 B fZ h56 u.aG rfl rfl λq57 G=>aD (x:=B) jq (G _ u.aG) (GY (Wd:=λw'=>gJ F w w') fF hl u.aG cO R6 λq61 h61=>G0 B fZ h61 u.aG rfl rfl λq62 O=>aD (x:=B) jq (O _ u.aG) (aK iK (M _ (hK _ u.aG)) ⟨?_,?_,trivial⟩))))
  .refine dO OX (C128 K gb rows (IY t.body) _ (λ_ e=>hK _ (u.aG.then e)) aus (λw=>by rw[<- W];exact hgb w) aut) ?_;rintro s53 w9 ⟨ds,V,cI⟩;have u:=u.made cI;refine⟨eL (x:=B) jq (G _ u.aG),?_⟩;refine⟨eL (x:=B) jq (O _ u.aG),?_⟩;refine xu (0:Int) u cS u0 cO cO ee (λs52 w11 u=>?_);rw[pd]at u;refine⟨eL (x:=gb) jW (U _ u.aG),?_⟩;refine⟨eL (x:=B) jq (G _ u.aG),?_⟩;obtain⟨J,rfl⟩:=u.fN;obtain⟨Z,rfl⟩:=u.p1.fN;refine pop (yv Z.a Z.n Z.cap B.a B.n B.cap J.a J.n J.cap (some ⟨b43,0,none⟩)) (nR u λI w12 u=>?_)
   have u:=u.p2.freeze.p2.p3.p3;have Y:RTK K B ds (xe t):=⟨M,by show lF K ds (wU (jz (IY t.body) false []));rw[vC];show lF K ds (EN false (IY t.body)++[]);rw[oO];exact V,GU.push λ_ h=>by cases h⟩;exact⟨I,rfl,mD.shut (t:=xe t) Y u⟩
  refine xu (0:Int) u cS u0 cO cO ee (λs52 w11 u=>?_);rw[pd]at u;refine⟨eL (x:=gb) jW (U _ u.aG),?_⟩;refine⟨eL (x:=B) jq (G _ u.aG),?_⟩;refine dO OX (C128 K gb rows (IY t.body) _ (λ_ e=>hK _ (u.aG.then e)) aus (λw=>by rw[<- W];exact hgb w) aut) ?_;rintro s53 w9 ⟨ds,V,cI⟩;have u:=u.made cI;refine⟨eL (x:=B) jq (G _ u.aG),?_⟩;refine⟨eL (x:=B) jq (O _ u.aG),?_⟩;obtain⟨J,rfl⟩:=u.p1.fN;obtain⟨Z,rfl⟩:=u.fN;refine pop (yv Z.a Z.n Z.cap B.a B.n B.cap J.a J.n J.cap (some ⟨b43,0,none⟩)) (nR u λI w12 u=>?_)
  have u:=u.p1.freeze.p2.p3.p3;have Y:RTK K B ds (xe t):=⟨M,by show lF K ds (wU (jz (IY t.body) false []));rw[vC];show lF K ds (EN false (IY t.body)++[]);rw[oO];exact V,GU.push λ_ h=>by cases h⟩;exact⟨I,rfl,mD.shut (t:=xe t) Y u⟩
 rintro _ _ ⟨I,rfl,u⟩ _;have aBB:Ct (xe t):=⟨λ_ hv=>by rw[(List.mem_replicate.1 hv).2];exact iN,λ_ hy=>by cases hy⟩;refine bG aiP u (H':=λ_=>mD K I m.room (VX t)) (Φ:=λ_ _=>True) (λF2 et ea=>?_) ?_
 .exact(C129 K I m.room (xe t) (VX t) _ _ _ F2 _ et (λw' hc=>hK w' (ea w' hc).aG) O7 aBB (rn O7).1).mono λ_ _ r=>r.mono λ_ _ h=>⟨trivial,h.2⟩
 rintro _ _ _ u;refine aE (aA pw ?_);have oD:=u.p3.ji;rw[nc,l1]at oD;refine aB E7 u.p1.hb rfl (aV ([(⟨I⟩:Ptr)]) u Hx rfl rfl (dQ rfl) λs67 _ u=>?_);have acx:=u.dW;refine bI u.p3 Hx acx (by simp;omega) ee (λs68 _ u=>have u:=u.p1.drop;aE (aA pw (aT u.p2 E7 (dQ rfl) u.dW.one λ_ u=>?_)));have u:=(((((St.Fl (H:=O4 K m.room) (p:=⟨I⟩) (x:=VX t) u.p2.p3).p4).p4).p2).p4).p4;intro _;exact aO cO ⟨_,cO,j+1,s68,ps++[⟨I⟩],rfl,rfl,cO,by rw[<- gy (k:=j) ht];exact u⟩
def zY:List Int->Int->Int
 | [],n=>n
 | c::r,n=>if n<=100 then zY r (n*(c+1))else n
def Pa(l:List Int):Int:=zY l 1
def R9{l:List Int}{k:Nat}{c n:Int}(h:l[k]?=some c)(u:n<=100):zY (l.drop k) n=zY (l.drop (k+1)) (n*(c+1)):=by
 obtain⟨h1,h2⟩:=kB.1 h
 rw[sk h1,h2,zY,ew u]
theorem WI{l:List Int}{k:Nat}{n:Int}(h:l.length<=k\/¬ n<=100):zY (l.drop k) n=n:=by
 rcases h with h|h
 .rw[v9 h];rfl
 cases l.drop k with
 | nil=>rfl
 | cons c r=>rw[zY,ej h]
theorem WJ{l:List Int}{k:Nat}{c:Int}(h:l[k]?=some c):ri l (k+1)=Co (Co (10000*ri l k)+c):=by rw[GA h,Int.mul_comm]
def am8{n c:Int}(u:0<=n)(h1:n<=100)(h2:0<=c)(h3:c<=1000000):0<=n*(c+1)/\n*(c+1)<=100*1000001:=
 ⟨Int.mul_nonneg u cO,Int.mul_le_mul h1 cO cO cO⟩
def C16(lv:Value)(l:List Int)(w:World)(O:dD (λ_=>True) w lv l)(hn:l.length<=1000)(hl:∀c∈l,0<=c/\c<=1000000):CR 16 [lv] w (λv w'=>v=hZ (Pa l)/\Ext w w'):=by
 have u:=St.start w;refine fj Tryz.func16 ?_;refine⟨λV y x M=>∃(k:Nat) (n:Int),y=hZ n/\x=hZ (k:Int)/\V=l.length-k/\k<=l.length/\0<=n/\Pa l=zY (l.drop k) n/\St w aX [] M,⟨_,0,1,rfl,rfl,rfl,l0 _,cO,rfl,u⟩,?_⟩;rintro V _ _ M ⟨k,n,rfl,rfl,rfl,hk,Z,B,u⟩ _;refine⟨λjv w'=>jv=.bool (decide (k<l.length/\n<=100))/\M=w',aK cS (O.ext u.aG) (aR (aC (λ_=>gz ⟨zi cO,rfl⟩) λ_=>⟨XE cO,rfl⟩)),?_⟩;rintro _ _ ⟨rfl,W⟩ _;subst W;refine aC (λJ=>?_) (λJ=>?_)
 .have E:k<l.length/\n<=100:=by simpa using J
  obtain⟨qX,I⟩:=gx l (i:=(k:Int).toNat) cO;refine aQ cS O cO I (λ_ sU=>aD bL (sU.ext u.aG) ?_);have G:=hl _ (kE I);refine aO cO ?_;have Y:=am8 Z E.2 G.1 G.2;exact El cO (aO cO ⟨_,cO,k+1,_,rfl,rfl,rfl,cO,Y.1,by rw[B];exact R9 I E.2,u⟩)
 have U:¬ (k<l.length/\n<=100):=by simpa using J
 rw[B,WI cO];exact⟨rfl,u.aG⟩
def C94(cv:Value)(cut:List Int)(w:World)(I:dD (λ_=>True) w cv cut)(M:cut.length<=1000000):CR 94 [cv] w (λv w'=>v=hZ (ri cut cut.length)/\Ext w w'):=by
 have u:=St.start w;refine ajp _ _ _ ?_;unfold S94;refine⟨λE n x B=>∃k:Nat,n=hZ (ri cut k)/\x=hZ (k:Int)/\E=cut.length-k/\k<=cut.length/\St w aX [] B,⟨_,0,rfl,rfl,rfl,l0 _,u⟩,?_⟩;rintro E _ _ B ⟨k,rfl,rfl,rfl,V,u⟩ _;refine aK cS (I.ext u.aG) (aR (aC (λO=>?_) λ_=>⟨by rw[show cut.length=k from cO],u.aG⟩));refine xE ?_;obtain⟨U,G⟩:=gx cut (i:=(k:Int).toNat) cO;exact aQ cS I cO G (λ_ J=>aD bL (J.ext u.aG) (ve (aO cO ⟨_,cO,k+1,by rw[WJ (k:=k) G],rfl,rfl,cO,u⟩)))
def Pb{p:bZ}(hc:Hl p){t:cR}(ht:t∈gE p):t.body.length<=40:=by
 obtain⟨_,h2,_⟩:=hc.f.rB ht
 exact(lK h2).1
def Sa{m:Mem}{cut:List Int}{v:Value}{p:Nat}{F:Nat->Prop}{w w':World}
  (h:(fy m cut=none/\v=hZ 1/\nd F (gI p m) w w')\/∃u,fy m cut=some u/\v=hZ 0/\nd F (gI p (mW m u)) w w') :
  True/\nd F (qm λE=>fact (ER m cut v E) (gI p E)) w w':=by
 refine⟨trivial,?_⟩
 rcases h with⟨h1,h2,B,h3,h4,h5⟩|⟨u,h1,h2,B,h3,h4,h5⟩
 .exact⟨B,⟨m,.inl ⟨h1,rfl,h2⟩,h3⟩,h4,h5⟩
 exact⟨B,⟨mW m u,.inr ⟨u,h1,rfl,h2⟩,h3⟩,h4,h5⟩
theorem agG{m:gl}{q:aS}(h:q.kind=3):(gi m).any (nE q)=false:=by
 cases ha:(gi m).any (nE q)with
 | false=>rfl
 | true=>obtain⟨_,_,_,t,_,h2⟩:=amq ha;omega
theorem acy{m:gl}{q:aS}(h:ja m q=none)(u:(gi m).any (nE q)=false):nf m q=(m,⟨0,0,0,0,0⟩,13):=by
 grind[nf]
def acz{K:hM}{m:gl}{u:List cL}(hc:Hl m.p)(G:Ea K u m.p.recover):Ea K ((u++[(⟨⟨#[]⟩,bY,bY,0⟩:cL)]).take 1) (vx m):=by
 have h1:=hc.f.one
 have B:=G.1
 unfold vx
 split
 .have E:m.p.recover=[]:=s4.1 (by assumption)
  rw[E]at B
  have:u=[]:=s4.1 B
  subst this
  exact aiY _
 grind
def aBC:PL 63:=dR Tryz.func63
def C13(K:hM)(p:bZ)(pv:bO)(room:Int)(w:World)(G:∀w',Ext w w'->K w')(E:G9 K pv p)(I:PZ p):CR 13 [ir pv,hZ room] w (λv w'=>(fg p≠0/\v=.tuple #[.pointer none,hZ (fg p)]/\Ext w w')\/(fg p=0/\(room<1\/16<room)/\v=.tuple #[.pointer none,hZ 1]/\Ext w w')\/
  (fg p=0/\(1<=room/\room<=16)/\∃b:Nat,v=.tuple #[.pointer (some ⟨b,0,none⟩),hZ 0]/\kq (oh K b (gj p room)) w w')):=by
 have u:=St.start w;refine amv _ _ _ _ ?_;unfold S13;refine cM (x:=pv) u (λbp w1 u=>aD er u.At (dO awH (C57 p pv _ (E.pr _ (G _ u.aG)) I) ?_));rintro _ _ ⟨aa,rfl,J⟩;have u:=u.ext J;refine aM rfl (aM rfl (bQ (aC (λc=>?_) λc=>?_)))
 .exact .inl ⟨c,rfl,u.drop.aG⟩
 have U:fg p=0:=cO
 have O:=pS U;have LB:=abK O;have D6:=B8 p;refine dO aoA (C58 room _) ?_;rintro v3 _ hh
 rcases hh with⟨W,rfl,J⟩|⟨AL,Ek,b3,rfl,M⟩
 .have u:=u.ext J;exact aM rfl (aM rfl (bQ (kr ee (.inr (.inl ⟨U,W,rfl,u.drop.aG⟩)))))
 have u:=(u.made M).drop;refine aM rfl (aM rfl (bQ (fI ee (aV ([]:List Int) u cS rfl rfl (dQ rfl) λs31 _ u=>?_))));refine⟨λmm o y w1=>∃k:Nat,y=hZ (k:Int)/\mm=(iE p).length-k/\k<=(iE p).length/\St w aX [bE o ((BX p).take k),bW bp (j0 pv)] w1,⟨_,0,rfl,rfl,l0 _,u⟩,?_⟩;rintro mm o _ _ ⟨k,rfl,rfl,hk,u⟩ _;have Kh:(BX p).length=(cX p).length:=by unfold BX;rw[nc,P8]
 refine aD er u.p1.At (dV U3 u (C59 p pv _ (E.pr _ (G _ u.aG)) I.toPS) λx34 _ M u=>aK iD u.dW (have u:=u.drop;aR (aC (λc1=>?_) λc1=>?_)))
 .refine aD er u.p1.At (aW aum u (C60 p pv (k:Int) _ (E.pr _ (G _ u.aG)) I) λ_ J u=>aV ([qd p (k:Int)]:List Int) u cS rfl rfl (dQ rfl) λs49 _ u=>?_);have V:=u.dW;exact bI u.p1 cS V (by rw[l1,l2];omega) ee (λ_ _ u=>aO cO ⟨_,cO,k+1,rfl,rfl,cO,by rw[<- gX (Li (p:=p) (i:=k) cO)];exact u.p1.drop⟩)
 rw[kO cO]at u;have u:=u.drew;refine aD er u.p1.At (aD er u.p1.At (aW JI u (C62 p pv _ (E.pr _ (G _ u.aG)) I) λ_ J u=>?_));refine⟨eL er u.p1.At,?_⟩;refine dV aBC u (C63 p pv _ (E.pr _ (G _ u.aG)) I) (λx58 _ M u=>?_);have jd:=rq p;have uD:(eV p).length=(iE p).length:=by unfold eV;rw[nc]
 refine dO awI (C61 (BX p) (eV p) (eH p) _ _ _ u.p1.dW u.dW cO cO cO λk n h1 h2=>?_) ?_
 .have h3:=RT O h1 h2;have h4:=(kB.1 h2).1;exact⟨h3.1,cO,cO⟩
 rintro v59 _ ⟨q,rfl,M⟩;have u:=((u.made M).p1.drop).p1.drop;refine aM rfl (aM rfl (aD (x:=pv) er u.p1.At (pop (OW _ _ _ _ _ _ _ _ _ _ _ _ _ _ _ _ _ _ _ _) (nR u λB TM u=>aA kR (aB (v:=ir pv.threads) iJ u.p2.hb rfl ?_)))));have u:=((u.p2.drop.Bn (H:=O4 K room)).eK (α:=Ptr)).eK (α:=Int)
 have u:St w aX (bW B (pW ⟨pv,q,.slice none 0 0,.slice none 0 0,[]⟩ (yo p room))::gI q (KH (BX p) (eH p) (eV p))::bE (.slice none 0 0) ([]:List Int)::bE (.slice none 0 0) ([]:List Ptr)::iu (O4 K room) [] []::[]) TM:=by
  have h1:=u.p4.p4
  first|exact h1|exact u.p3.p4|exact u.p4.p4
 obtain⟨wj,Z,Y⟩:=E.th;obtain⟨Xk,Ow,WH⟩:=E.rc;have u:=oh.shut (K:=K) (m:=yo p room) ⟨E.pr,⟨Xk,Ow,WH⟩⟩ u;refine bG at4 u (H':=λ_=>oh K B (gj p room)) (Φ:=λ_ _=>True) (λF2 et ea=>?_) ?_
 .exact(C64 K B (yo p room) p.threads _ wj F2 _ et (λw' hc=>G _ (ea w' hc).aG) ⟨AL,Ek⟩ (by have:=I.eS;show(cP p).length<=_;unfold cP;rw[nc];omega) (λw' hc=>Z w' (G _ (ea w' hc).aG)) Y
   (λ_ ht=>⟨EM O (List.mem_append_left _ ht),EP O (List.mem_append_left _ ht)⟩) (λ_ ht=>vt (Pb O (List.mem_append_left _ ht)) ee) (by have:=I.threads;omega)).mono λ_ _ r=>r.mono λ_ _ h=>⟨trivial,h.2⟩
 rintro _ _ _ u;exact .inr (.inr ⟨U,⟨AL,Ek⟩,B,rfl,u.fresh⟩)
theorem C25(K:hM)(p:Nat)(m:gl)(q:aS)(I:SV)(F:Nat->Prop)(w:World)(hF:(oh K p m).p w F)(hK:∀w',gJ F w w'->K w')(O:m4 m)(hvo:Ll m)(vJ:Hl m.p)(nL:MB m.mem 1000000)(hcb:0<=m.cA/\m.cA<=1000000)(AP:m.mem.eg=eV m.p)(hKx:∀w1,gJ F w w1->∀w2,Ext w1 w2->K w2)(O9:∀w',gJ F w w'->dD (λ_=>True) w' (ir I) q.cut)(hql:q.cut.length<=1000) :
   CR 25 [.pointer (some ⟨p,0,none⟩),ir (⟨q.kind,q.t,q.i,I⟩:aI)] w (λv w'=>v=.tuple #[ir (nf m q).2.1,hZ (nf m q).2.2]/\nd F (oh K p (nf m q).1) w w'):=by
 have u:=St.begin hF;refine pj Tryz.func25 (pl:=P25) ?_;refine cM (x:=(⟨q.kind,q.t,q.i,I⟩:aI)) u (λb3 w1 u=>aN u mr λb4 w2 u=>?_);have u:=u.enc (cs':=j0 (⟨0,0,0,0,0⟩:cD)) rfl;have Xe:ja m q=(if q.kind=3/\q.t=0/\q.i=0/\m.fault=0 then fy m.mem q.cut else none):=rfl;refine aA mu (aB (v:=hZ q.kind) bL u.p1.hb rfl (aH (aC (λc1=>?_) λc1=>?_)))
 .have u:=u.drew;have u:=u.p2;obtain⟨a,hu,u⟩:=oh.open u;have qi:=u.p4.ji;refine aE (aA qH (aB pZ u.hb rfl (aA px (aB (v:=ir (I:SV)) ey u.p6.hb rfl (dO ajq ((C92 a.q m.mem q.cut _ _ (GZ u.p1.has) O.mem nL (O9 _ u.aG) hql).mono (R':=tQ λv w'=>∃(o:Value) (e:Int),v=.tuple #[o,hZ e]/\(e=0↔(fy m.mem q.cut).isSome=true)/\Ext (drew w2) w') λ_ _ r=>r.mono λv w' h=>?_) ?_)))))
  .rcases h with⟨h1,rfl,h3⟩|⟨E,o,h1,rfl,h3⟩
   .exact⟨_,_,rfl,by rw[h1];decide,h3⟩
   obtain⟨_,_,_,h4⟩:=h3;exact⟨_,_,rfl,by rw[h1];exact⟨λ_=>rfl,λ_=>rfl⟩,h4⟩
  rintro _ w3 ⟨o21,e23,rfl,hee,he⟩;have u:=u.ext he;refine aM rfl (aM rfl ?_);refine⟨λjv w'=>jv=.bool (!(ja m q).isSome)/\w'=w3,?_,?_⟩
  .have V:¬ (q.t=0/\q.i=0/\m.fault=0/\e23=0)->(ja m q).isSome=false:=λh=>by
    rw[Xe];split
    .rename_i h2
     cases hi:(fy m.mem q.cut).isSome with
     | false=>rfl
     | true=>exact absurd ⟨h2.2.1,h2.2.2.1,h2.2.2.2,hee.2 hi⟩ h
    .rfl
   refine aA lQ (aB (v:=hZ q.t) bL u.p6.hb rfl (bQ (aC (λc2=>⟨vb (by rw[V cO];rfl),rfl⟩) λc2=>aA qI (aB (v:=hZ q.i) bL u.p6.hb rfl (bQ (aC (λM=>⟨vb (by rw[V cO];rfl),rfl⟩) λM=>bQ (aC (λG=>⟨vb (by rw[V cO];rfl),rfl⟩) λG=>aE (aA vP (aB bL u.hb rfl ?_)))))))));refine bQ ?_;refine⟨vb ?_,rfl⟩
   by_cases hf:m.fault=0
   .rw[Xe,ew ⟨c1,cO,cO,hf⟩,hee.1 cO,fV cO];rfl
   rw[V cO,ez hf];rfl
  rintro _ w4 ⟨rfl,rfl⟩ rY;refine bD (λc=>?_) (λc=>?_)
  .have B:ja m q=none:=by
    cases h:ja m q with
    | none=>rfl
    | some E=>rw[h]at c;cases c
   rw[acy B (agG c1)];exact pop KN (aJ (x:=(⟨0,0,0,0,0⟩:cD)) u.p5 fr rfl rfl λw5 u=>aD (x:=(⟨0,0,0,0,0⟩:cD)) fr u.At (have u:=u.drop.p5.drop.p4.p4.p4.p4.p4;⟨rfl,(oh.shut hu u).mut⟩))
  obtain⟨E,B⟩:∃E,ja m q=some E:=Ot.1 (by simpa using c);have Xb:fy m.mem q.cut=some E:=by rw[Xe]at B;split at B;exact B;cases B
  have hdo:nf m q=(rD (pP m E) (vx m),⟨15,0,0,ri q.cut q.cut.length,0⟩,0):=by unfold nf;rw[B]
  rw[hdo];have u:=u.drew;refine aE (aA qH (aB pZ u.hb rfl (aA px (aB (v:=ir (I:SV)) ey u.p6.hb rfl (have u:=u.p1;bG awR u (H':=λv=>qm λm2=>fact (ER m.mem q.cut v m2) (gI a.q m2)) (Φ:=λ_ _=>True) (λF2 Z Y=>?_) ?_)))))
  .exact(C93 a.q m.mem F2 q.cut _ _ Z O.mem nL (λw' hc=>O9 w' (Y w' hc).aG) hql).mono λ_ _ r=>r.mono λ_ _ h=>Sa h
  rintro v34 w6 _ yd;obtain⟨m2c,zX⟩:=yd.eA
  clear yd
  obtain⟨hcf,u⟩:=zX.mK
  clear zX
  obtain⟨J,_⟩|⟨aBD,J,rfl,rfl⟩:=hcf
  .rw[Xb]at J;cases J
  obtain rfl:E=aBD:=n5.inj (Xb.symm.trans J);refine aE (aA yI (aB bL u.p1.hb rfl (aO (show -9223372036854775808<=m.cA+1/\m.cA+1<=9223372036854775807 by omega) (aE (aA yI (aT u.p1 bL (dQ rfl) rfl λw7 u=>?_))))));obtain⟨Xk,Ow,WH⟩:=id hu.rc;have HF:=WH.1;have AL:m.p.recover.length<=1:=vJ.f.one;refine aV ([]:List cL) u fF rfl rfl (dQ rfl) (λs59 w8 u=>aE (aA pq (aA po (aB iJ u.p1.hb rfl (bI u fF (Ow _ (hK _ u.aG)) (by simp;omega) ee λs65 w9 u=>pop (v:=ir (⟨⟨#[]⟩,bY,bY,0⟩:cL)) (by kernel_rfl) (aV ([⟨⟨#[]⟩,bY,bY,0⟩]:List cL) u fF rfl rfl (dQ rfl) λs68 w10 u=>?_))))))
  have acx:=u.dW;refine bI u.p1 fF acx (by simp;omega) ee (λs69 w11 u=>?_);have u:=u.p1.drop;rw[vK]at u;refine jY fF u.dW cO (by simp;omega) (λs72 h72=>?_);have u:=((oh.shut (m:=pP m E) ⟨hu.pr,hu.rc⟩ u.p5.p5.p5.p5.p5).p1).p1;obtain⟨aBy,am7⟩:=Lh vJ;refine bG at4 u (H':=λ_=>oh K p (rD (pP m E) (vx m))) (Φ:=λ_ _=>True) (λF2 Z Y=>?_) ?_
  .refine(C64 K p (pP m E) (vx m) _ _ F2 _ Z (λw' hc=>hK w' (Y w' hc).aG) O.rm (by have:=O.pz.eS;show(cP m.p).length<=_;unfold cP;rw[nc];omega) (λw' hc=>h72 w' (Y w' hc).dW) (acz vJ WH) (λt ht=>⟨am7 t ht,?_⟩) (λt ht=>?_) cO).mono λ_ _ r=>r.mono λ_ _ h=>⟨trivial,h.2⟩
   .unfold vx at ht
    split at ht
    .rw[v7.1 ht];rfl
    exact EP vJ (List.mem_append_right _ ht)
   unfold vx at ht
   split at ht
   .rw[v7.1 ht];exact l0 _
   exact vt (Pb vJ (List.mem_append_right _ ht)) ee
  rintro _ w12 _ u;exact aA px (aB (v:=ir (I:SV)) ey u.p3.hb rfl (aW awS u (C94 _ q.cut _ (O9 _ u.aG) cO) λw13 he u=>pop (IX 15 (ri q.cut q.cut.length)) (aJ (x:=(⟨15,0,0,ri q.cut q.cut.length,0⟩:cD)) u.p2 fr rfl rfl λTM u=>aD (x:=(⟨15,0,0,ri q.cut q.cut.length,0⟩:cD)) fr u.At (have u:=u.drop.p2.drop.p1.drop;⟨rfl,u.mut⟩))))
 have B:ja m q=none:=by rw[Xe,ej λh=>c1 h.1]
 have u:=u.p1.p1.p2;refine dV amA u (C22 K p m _ u.has (λw' e=>hKx _ u.aG _ e) O) (λx79 w15 cI u=>?_);obtain⟨ss,u⟩:=u.Bm;have Pl:=u.p1.dZ.1;have oD:=AB O;have u:=u.p1.p1.p4.p4.p4;refine⟨λmm y w'=>∃k:Nat,y=hZ (k:Int)/\mm=ss.length-k/\k<=ss.length/\(∀(j:Nat) (x:aS),j<k->(gi m)[j]?=some x->nE q x=false)/\St w F [oh K p m,bW b4 (j0 (⟨0,0,0,0,0⟩:cD)),bW b3 (j0 (⟨q.kind,q.t,q.i,I⟩:aI)),bE x79 ss,dZ (fT ss (gi m))] w',⟨_,0,rfl,rfl,l0 _,λj x h=>absurd h (Nn _),u⟩,?_⟩;rintro mm _ w16 ⟨k,rfl,rfl,hk,V,u⟩ vH
 refine aK fD u.p3.dW (aR (aC (λc2=>?_) λc2=>?_));rotate_left
 .have xj:(gi m).any (nE q)=false:=by
   rw[List.any_eq_false];intro x hx;obtain⟨j,hj⟩:=List.mem_iff_getElem?.1 hx;have:=(kB.1 hj).1;rw[V j x cO hj];decide
  rw[acy B xj];exact pop KN (aJ (x:=(⟨0,0,0,0,0⟩:cD)) u.p1 fr rfl rfl λw22 u=>aD (x:=(⟨0,0,0,0,0⟩:cD)) fr u.At (have u:=u.drop.p1.drop.p1.drop.p1.drop;⟨rfl,u.mut⟩))
 obtain⟨s,Z8⟩:=gx ss (i:=((k:Nat):Int).toNat) cO;obtain⟨x,U⟩:=gx (gi m) (i:=k) cO;obtain⟨gx,rfl,_⟩:=u.p4.dZ.2 k s x (by rw[<- pd k];exact Z8) U;refine⟨λjv w'=>jv=.bool (nE q x)/\St w F [oh K p m,bW b4 (j0 (⟨0,0,0,0,0⟩:cD)),bW b3 (j0 (⟨q.kind,q.t,q.i,I⟩:aI)),bE x79 ss,dZ (fT ss (gi m))] w',?_,?_⟩
 .have Hv:nE q x=(decide (x.kind=q.kind)&&decide (x.t=q.t)&&decide (x.i=q.i)&&decide (q.cut.length=0)):=by unfold nE;first|rfl|(simp only[eq_comm])
  have u:=u.drew;refine aQ fD u.p3.dW cO Z8 (λq0 h0=>bX x.kind mu h0 rfl rfl λr0 g0=>aD (x:=x.kind) bL g0 (aA mu (aB (v:=hZ q.kind) bL u.p2.hb rfl (aH (aC (λM=>?_) λM=>⟨vb (by rw[Hv,fV M];simp),u⟩)))));refine aQ fD u.p3.dW cO Z8 (λq1 h1=>bX x.t lQ h1 rfl rfl λr1 g1=>aD (x:=x.t) bL g1 (aA lQ (aB (v:=hZ q.t) bL u.p2.hb rfl ?_)));exact aH (aC (λG=>aQ fD u.p3.dW cO Z8 λq2 h2=>bX x.i qI h2 rfl rfl λr2 g2=>aD (x:=x.i) bL g2 (aA qI (aB (v:=hZ q.i) bL u.p2.hb rfl (aH (aC (λc5=>aA px (aB (v:=ir (I:SV)) ey u.p2.hb rfl (aK cS (O9 _ u.aG) (aH ⟨vb (by rw[Hv,ez M,ez G,ez c5];exact ga.2 cO),u⟩)))) λc5=>⟨vb (by rw[Hv,fV c5];simp),u⟩))))) λG=>⟨vb (by rw[Hv,fV G];simp),u⟩)
 rintro _ w17 ⟨rfl,u⟩ wG;refine bD (λM=>?_) (λM=>?_);rotate_left
 .refine aO cO ?_;refine⟨_,cO,k+1,rfl,rfl,cO,λj x' hj W=>?_,u⟩
  by_cases e:j=k
  .subst e;rw[U]at W;cases W;exact M
  exact V j x' cO W
 have xj:(gi m).any (nE q)=true:=wS.2 ⟨x,kE U,M⟩;obtain⟨hf0,h0,_,t,ht,hkd⟩:=amq xj;have hdo:nf m q=(if (gi m).any (nE q)=true then(if q.kind=2 then(match m.l[q.t.toNat]? with|some t=>((tY m t q,tW q.t (dL t.buf q.i),0):gl×cD×Int)|none=>(m,⟨0,0,0,0,0⟩,13))else((iI m q.t).1,(iI m q.t).2,0))else(m,⟨0,0,0,0,0⟩,13)):=by unfold nf;rw[B];rfl
 rw[hdo,ew xj];refine aA mu (aB (v:=hZ q.kind) bL u.p2.hb rfl (aH (aC (λG=>?_) λG=>?_)))
 .rw[ew G,ht];refine aA lQ (aB (v:=hZ q.t) bL u.p2.hb rfl (aA qI (aB (v:=hZ q.i) bL u.p2.hb rfl (bG aA1 u (H':=λ_=>oh K p (tY m t q)) (Φ:=λv _=>v=ir (tW q.t (dL t.buf q.i))) (λF2 Z Y=>?_) ?_))))
  .exact C95 K p m q q.t q.i rfl rfl t F2 _ Z O nL h0 ht
  rintro _ w18 rfl u;exact aJ (x:=tW q.t (dL t.buf q.i)) u.p1 fr rfl rfl (λw19 u=>aD (x:=tW q.t (dL t.buf q.i)) fr u.At (have u:=u.drop.p1.drop.p1.drop.p1.drop;⟨rfl,u.mut⟩))
 rw[ej G]
 have uP:tG m t=true:=by
  rcases hkd with h|h
  .exact h.2
  .exact absurd h.1 G
 refine aA lQ (aB (v:=hZ q.t) bL u.p2.hb rfl (bG aA0 u (H':=λ_=>oh K p (iI m q.t).1) (Φ:=λv _=>v=ir (iI m q.t).2) (λF2 Z Y=>?_) ?_))
 .exact C96 K p m q.t t F2 _ Z (λw' hc=>hK w' (Y w' hc).aG) O hvo nL h0 ht uP AP
 rintro _ w20 rfl u;exact aJ (x:=(iI m q.t).2) u.p1 fr rfl rfl (λw21 u=>aD (x:=(iI m q.t).2) fr u.At (have u:=u.drop.p1.drop.p1.drop.p1.drop;⟨rfl,u.mut⟩))
def C217(sv:Value)(ps:List Ptr)(G:Nat)(first cap:List Value)(g:Nat->Bool)(w:World)(M:dD (λ_=>True) w sv ps)(W:Plain hH G)(V:∀(i:Nat) (s:Ptr) (B:World),ps[i]?=some s->Ext w B->Calls hH G (first++[ir s]++cap).toArray B (tQ λv J=>v=.bool (g i)/\Ext B J))(hn:ps.length<=1073741824):CR 217 [sv,(.func (.func G) first.toArray cap.toArray)] w (λv w'=>v=hZ (sT g (tU ps.length))/\Ext w w'):=by
 have u:=St.start w;refine fj Tryz.func217 ?_;refine aK Mk (M.ext u.aG) ?_;refine⟨λO y B=>∃k:Nat,y=hZ (k:Int)/\O=ps.length-k/\k<=ps.length/\(∀y∈(tU ps.length).take k,g y=false)/\St w aX [] B,⟨_,0,rfl,rfl,l0 _,ei,u⟩,?_⟩;rintro O _ B ⟨k,rfl,rfl,hk,E,u⟩ _;refine aR (aC (λZ=>?_) λ_=>⟨g6 (nG .i64) (jm (by rw[kO (by rw[P8];omega)]at E;exact E)).symm,u.aG⟩);obtain⟨e,U⟩:=gx ps (i:=((k:Nat):Int).toNat) cO;refine aQ Mk (M.ext u.aG) cO U (λq Y=>aD Ie Y (ij W (V k e B U u.aG) ?_))
 rintro _ J ⟨rfl,h2⟩;have u:=u.ext h2;exact bD (λI=>⟨g6 (nG .i64) (my E (H3 cO) I).symm,u.aG⟩) (λI=>aO cO ⟨_,cO,k+1,rfl,rfl,cO,eh E (H3 cO) I,u⟩)
def C142(sv:Value)(ps:List Ptr)(E:Nat)(first cap:List Value)(g:Nat->Bool)(w:World)(J:dD (λ_=>True) w sv ps)(M:Plain hH E)(I:∀(i:Nat) (s:Ptr) (u:World),ps[i]?=some s->Ext w u->Calls hH E (first++[ir s]++cap).toArray u (tQ λv G=>v=.bool (g i)/\Ext u G))(O:ps.length<=1073741824):CR 142 [sv,(.func (.func E) first.toArray cap.toArray)] w (λv w'=>v=.bool ((tU ps.length).any g)/\Ext w w'):=by
 have B:=St.start w;refine fj Tryz.func142 ?_;exact aW as7 B (C217 _ ps E first cap g _ (J.ext B.aG) M (λi s u h e=>I i s u h (B.aG.then e)) O) (λ_ _ B=>cT ⟨vb (lh _ _),B.aG⟩)
def C140(K Φ:hM)(p:Nat)(room:Int)(t:kc)(w:World)(E:Has (eZ K Φ p room t) w)(Y:K w)(I:t.buf.length<=1000):CR 140 [.pointer (some ⟨p,0,none⟩)] w (λv w'=>v=.bool (!m6 t)/\Ext w w'):=by
 obtain⟨bp,nv,rg,pl,es,hk,G,Z,U,J,O,_⟩:=eZ.rd E;have B:=G.cell (o:=3) rfl;have W:=O.len;have V:=r9 es;have u:=St.start w;refine fj Tryz.func140 ?_;refine⟨λM w'=>M=.bool (!m6 t)/\Ext w w',?_,?_⟩
 .exact aE (aA jV (bN sI (B.ext u.aG) (aK u9 (J.ext u.aG) (cQ (aC (λ_=>⟨vb (by unfold m6;rw[fV (show ¬ t.cJ.length=0 from cO)];rfl),u.aG⟩) λ_=>aW aiB u (C141 K Φ p room t _ (E.ext u.aG) I) λ_ _ u=>bT ⟨vb (by unfold m6;rw[ez (show t.cJ.length=0 from cO),Av]),u.aG⟩)))))
 rintro _ _ h _;exact h
def C68(K:hM)(p:Nat)(m:gl)(w:World)(hm:Has (gG K p m) w)(V:∀w',Ext w w'->K w')(Y:m4 m):CR 68 [.pointer (some ⟨p,0,none⟩)] w (λv w'=>v=ir (jb m)/\Ext w w'):=by
 obtain⟨a,B⟩:=gG.rd hm (V _ (Ext.refl _));have C9:=B.b.cell (o:=11) rfl;have J:=B.b.cell (o:=12) rfl;have M:=B.b.cell (o:=13) rfl;have I:=B.b.cell (o:=14) rfl;have hlen:=B.len;have Pk:=Y.tl;have u:=St.start w;refine pj Tryz.func68 (pl:=P68) ?_;refine aN u yK (λb2 w1 u=>have u:=(u.enc (cs':=j0 (⟨0,0,0,false,false⟩:iv)) rfl).drew;aE (aA JY (bN bL (J.ext u.aG) (aE (aA yJ (bN bL (M.ext u.aG) (aE (aA SU (bN bL (I.ext u.aG) (pop (KP m.cA m.fault m.jk) (aN u yK λb4 _ u=>?_)))))))))))
 refine⟨aF bL (J.ext u.aG),?_⟩;refine⟨aF bL (M.ext u.aG),?_⟩;refine⟨aF bL (I.ext u.aG),?_⟩;refine aJ (x:=(⟨m.cA,m.fault,m.jk,false,false⟩:iv)) u zH rfl rfl (λ_ u=>?_);refine⟨λw'=>St w aX [bW b4 (j0 (⟨m.cA,m.fault,m.jk,lM m,false⟩:iv)),bW b2 (j0 (⟨0,0,0,false,false⟩:iv))] w',?_,?_⟩
 .refine aE (aA yJ (bN bL (M.ext u.aG) (aH (aC (λG=>?_) λG=>?_))))
  .refine aE (aA vS (bN JV (C9.ext u.aG) ?_))
   refine aW as6 u (C142 _ a.ps 140 [] [] (λi=>match m.l[i]? with|some t=>!m6 t|none=>false) _ (B.ll.ext u.aG) as4 (λi s w1 h e=>by
    obtain⟨t,ht⟩:∃t,m.l[i]?=some t:=⟨_,la (by have:=(kB.1 h).1;omega)⟩;rw[ht];exact C140 K _ s.b m.room t w1 ((B.th i s t h ht).ext (u.aG.then e)) (V _ (u.aG.then e)) (Y.th t (kE ht)).bl) cO) (λ_ he u=>?_)
   refine bT (aA qP (aT u A6 (dQ rfl) rfl λw5 u=>?_));have E:lM m = !((tU a.ps.length).any λi=>match m.l[i]? with|some t=>!m6 t|none=>false):=by unfold lM;rw[ez G,B.len];rfl
   rw[E];exact u
  refine aA qP (aT u A6 (dQ rfl) rfl λw5 u=>?_);have E:lM m=false:=by unfold lM;rw[fV G];rfl
  rw[E];exact u
 intro _ u _
 have W:∀(b:Bool) (w':World),m7 m=b->St w aX [bW b4 (j0 (⟨m.cA,m.fault,m.jk,lM m,b⟩:iv)),bW b2 (j0 (⟨0,0,0,false,false⟩:iv))] w'->St w aX [bW b4 (j0 (jb m)),bW b2 (j0 (⟨0,0,0,false,false⟩:iv))] w':=λb w' h1 h2=>by
  subst h1;exact h2
 refine⟨λw'=>St w aX [bW b4 (j0 (jb m)),bW b2 (j0 (⟨0,0,0,false,false⟩:iv))] w',?_,?_⟩
 .refine aE (aA yJ (bN bL (M.ext u.aG) (aH (aC (λG=>?_) λG=>?_))));rotate_left
  .exact aA qQ (aT u A6 (dQ rfl) rfl λ_ u=>W false _ (by unfold m7;rw[fV G];rfl) u)
  refine aA qP (aB (v:=.bool (lM m)) A6 u.hb rfl (bT (bD (λc2=>?_) λc2=>?_)));rotate_left
  .exact aA qQ (aT u A6 (dQ rfl) rfl λ_ u=>W false _ (by unfold m7;rw[show lM m=true from by simpa using c2];simp) u)
  refine dV asZ u (C67 K p m _ (hm.ext u.aG) (λ_ e=>V _ (u.aG.then e)) Y) (λx45 w7 cI u=>?_);obtain⟨Z,U,O⟩:=u.dl;refine aK fD U ?_;rw[show Z.length=(gi m).length from O.1];exact aH (have u:=u.drop;aA qQ (aT u A6 (dQ rfl) rfl λ_ u=>W (decide (((gi m).length:Int)=0)) _ (by unfold m7;rw[ez G,show lM m=false from by simpa using c2];rfl) u))
 intro _ u _;exact aD (x:=jb m) zH u.At (aJ (x:=jb m) u.p1 zH rfl rfl λ_ u=>aD zH u.At ⟨rfl,u.drop.drop.aG⟩)
def ana{φ:bR->Prop}{p:PD}(h:GB φ p):(wU p).length=0↔p.length=0:=by
 constructor
 .intro B
  rcases agj (p:=p)with h1|⟨q,u,h2⟩
  .omega
  exact absurd h2 (h.ne q u)
 simp_all[Dq,wU]
def WK(g:Nat->Bool)(k:Nat):(tU (k+1)).any g=((tU k).any g||g k):=dI
def C74(K:hM)(p:Nat)(m:gl)(w:World)(hm:Has (oh K p m) w)(hw:∀w',Ext w w'->K w')(iM:m4 m):CR 74 [.pointer (some ⟨p,0,none⟩)] w (λv w'=>v=ir (jb m)/\Ext w w'):=by
 obtain⟨a,B⟩:=oh.rd hm;have I:=B.b.cell (o:=7) rfl;have HH:=B.b.cell (o:=10) rfl;have G:=B.b.cell (o:=11) rfl;have J:=B.b.cell (o:=12) rfl;have hlen:=B.len;have Pk:=iM.tl;have u:=St.start w;refine pj Tryz.func74 (pl:=P74) ?_;refine aN u yK (λb2 _ u=>have u:=(u.enc (cs':=j0 (⟨0,0,0,false,false⟩:iv)) rfl).drew;aE (aA yI (bN bL (I.ext u.aG) (aE (aA vP (bN bL (G.ext u.aG) (aE (aA SP (bN bL (J.ext u.aG) (aE (aA vP (bN bL (G.ext u.aG) ?_))))))))))));refine aH (pop (GX m.cA m.fault m.jk (decide (m.fault=0))) (aN u yK λb3 _ u=>?_))
 refine⟨aF bL (I.ext u.aG),?_⟩;refine⟨aF bL (G.ext u.aG),?_⟩;refine⟨aF bL (J.ext u.aG),?_⟩;refine⟨aF bL (G.ext u.aG),?_⟩;refine aJ (x:=(⟨m.cA,m.fault,m.jk,decide (m.fault=0),false⟩:iv)) u zH rfl rfl (λ_ u=>?_);refine⟨λmm y w'=>∃k:Nat,y=hZ (k:Int)/\mm=a.ps.length-k/\k<=a.ps.length/\St w aX [bW b3 (j0 (⟨m.cA,m.fault,m.jk,(decide (m.fault=0)&&!(tU k).any λi=>match m.l[i]? with|some t=>!m6 t|none=>false),false⟩:iv)),bW b2 (j0 (⟨0,0,0,false,false⟩:iv))] w',⟨_,0,rfl,rfl,l0 _,by rw[show(decide (m.fault=0)&&!(tU 0).any λi=>match m.l[i]? with|some t=>!m6 t|none=>false)=decide (m.fault=0)by simp];exact u⟩,?_⟩
 rintro mm _ w4 ⟨k,rfl,rfl,hk,u⟩ _;refine aE (aA pw (bN E7 (HH.ext u.aG) (aK Hx (B.ll.ext u.aG) (aR (aC (λc1=>?_) λc1=>?_)))))
 .obtain⟨t,ht⟩:=gx m.l (i:=k) cO;obtain⟨e,he⟩:=gx a.ps (i:=((k:Nat):Int).toNat) cO;have Xa:=B.th k e t (by rw[<- pd k];exact he) ht;have j7:=iM.th t (kE ht);obtain⟨bp,nv,rg,lv,ds,xd,tF,hB,Eb,hlr⟩:=mD.rd Xa;obtain⟨bsv,Ds,vr,V⟩:=hB;have Y:=tF.cell (o:=0) rfl;have U:=tF.cell (o:=3) rfl;have Is:=xd.2.1.1;have Hn:=ana j7.p;have xj:(tU (k+1)).any (λi=>match m.l[i]? with|some t=>!m6 t|none=>false)=((tU k).any (λi=>match m.l[i]? with|some t=>!m6 t|none=>false)||!m6 t):=(WK _ k).trans (by rw[ht]);refine⟨λw'=>St w aX [bW b3 (j0 (⟨m.cA,m.fault,m.jk,(decide (m.fault=0)&&!(tU (k+1)).any λi=>match m.l[i]? with|some t=>!m6 t|none=>false),false⟩:iv)),bW b2 (j0 (⟨0,0,0,false,false⟩:iv))] w',?_,?_⟩
  rotate_left
  .intro w9 u _;exact aO cO ⟨_,cO,k+1,rfl,rfl,cO,u⟩
  refine⟨λjv w'=>jv=.bool (!m6 t)/\w'=w4,?_,?_⟩
  .refine aE (aA pw (bN E7 (HH.ext u.aG) (aQ Hx (B.ll.ext u.aG) cO he λq hq=>aD Ic hq (aE (aA kY (bN u7 (Y.ext u.aG) (aK nS (hlr.ext u.aG) (cQ (aC (λ_=>⟨vb (by unfold m6;rw[fV (show ¬ t.cJ.length=0 from cO)];rfl),rfl⟩) λM=>aE (aA pw ?_))))))))));refine bN E7 (HH.ext u.aG) (aQ Hx (B.ll.ext u.aG) cO he λq hq=>aD Ic hq (aE (aA nT (bN zG (U.ext u.aG) (aE (aA im (bN iV (vr.ext u.aG) (aK gd (V.ext u.aG) (cQ ?_)))))))))
   refine⟨vb ?_,rfl⟩;unfold m6;rw[ez (show t.cJ.length=0 from cO),Av,<- decide_not];exact ga.2 cO
  rintro _ _ ⟨rfl,rfl⟩ vH;refine bD (λE=>?_) (λE=>?_)
  .refine aA qP (aT u A6 (dQ rfl) rfl λ_ u=>?_);rw[xj,E,Bool.or_true,Bool.not_true,Bool.and_false];exact u
  rw[xj,E,Bool.or_false];exact u
 have hdm:(decide (m.fault=0)&&!(tU k).any λi=>match m.l[i]? with|some t=>!m6 t|none=>false)=lM m:=by unfold lM;rw[show k=m.l.length from cO];rfl
 rw[hdm]at u
 have Z:∀(b:Bool) (w':World),m7 m=b->St w aX [bW b3 (j0 (⟨m.cA,m.fault,m.jk,lM m,b⟩:iv)),bW b2 (j0 (⟨0,0,0,false,false⟩:iv))] w'->St w aX [bW b3 (j0 (jb m)),bW b2 (j0 (⟨0,0,0,false,false⟩:iv))] w':=λb w' h1 h2=>by
  subst h1;exact h2
 refine⟨λw'=>St w aX [bW b3 (j0 (jb m)),bW b2 (j0 (⟨0,0,0,false,false⟩:iv))] w',?_,?_⟩
 .refine aE (aA vP (bN bL (G.ext u.aG) (aH (aC (λM=>?_) λM=>?_))));rotate_left
  .exact aA qQ (aT u A6 (dQ rfl) rfl λ_ u=>Z false _ (by unfold m7;rw[fV M];rfl) u)
  refine aA qP (aB (v:=.bool (lM m)) A6 u.hb rfl (bT (bD (λE=>?_) λE=>?_)));rotate_left
  .exact aA qQ (aT u A6 (dQ rfl) rfl λ_ u=>Z false _ (by unfold m7;rw[show lM m=true from by simpa using E];simp) u)
  refine dV amA u (C22 K p m _ (hm.ext u.aG) (λ_ e=>hw _ (u.aG.then e)) iM) (λx45 w7 cI u=>?_);obtain⟨am9,W,O⟩:=u.dl;refine aK fD W ?_;rw[show am9.length=(gi m).length from O.1];exact aH (have u:=u.drop;aA qQ (aT u A6 (dQ rfl) rfl λ_ u=>Z (decide (((gi m).length:Int)=0)) _ (by unfold m7;rw[ez M,show lM m=false from by simpa using E];rfl) u))
 intro w9 u vH;exact aD (x:=jb m) zH u.At (aJ (x:=jb m) u.p1 zH rfl rfl λ_ u=>aD (x:=jb m) zH u.At ⟨rfl,u.drop.drop.aG⟩)
def C75(K:hM)(p:Nat)(m:gl)(w:World)(hm:Has (oh K p m) w)(U:∀w',Ext w w'->K w')(G:m4 m)(hvo:Ll m)(AP:m.mem.eg=eV m.p):CR 75 [.pointer (some ⟨p,0,none⟩)] w (λv w'=>kq (bE v (fq m)) w w'):=by
 obtain⟨a,E⟩:=oh.rd hm;have B:=E.b.cell (o:=5) rfl;have G7:=E.b.cell (o:=8) rfl;have jd:=rq m.p;have aBE:m.mem.l.length=(iE m.p).length:=by rw[G.mem.ll,AP];unfold eV;grind
 have D6:(cX m.p).length=(iE m.p).length:=by unfold cX;grind
 have Vl:(iE m.p).length<=20:=by have:=G.mem.fl;have:=G.mem.ll;omega
 have hcb:=G.pz.eb;have hcz:=G.pz.zc;obtain⟨g0,g1,g2,g3,g4,g5,Z,_,_,_,_,_,Is⟩:=E.uk.pr _ (U _ (Ext.refl _));rw[Z]at B;obtain⟨I,DX,zT⟩:=Is.open;have W9:=zT.1;obtain⟨ov,fv,lv,kv,wv,ws,j6,tO,hmo,hmf,D1,aul,hmw⟩:=E.mem.ex;have u:=St.start w;refine amx _ _ _ ?_;unfold S75;refine aV ([]:List Bool) u u5 rfl rfl (dQ rfl) (λs8 _ u=>aE (aA pq (qK a.pv er (nh.ext E.b u.aG) rfl (aW JI u (C62 m.p a.pv _ (E.uk.pr _ (U _ u.aG)) G.pz) λ_ he u=>?_))));refine⟨λmm o y w'=>∃k:Nat,y=hZ (k:Int)/\mm=I.length-k/\k<=I.length/\St w aX [bE o ((m.p.eb.take k).map (pQ m))] w',⟨_,0,rfl,rfl,l0 _,u⟩,?_⟩
 rintro mm o _ _ ⟨k,rfl,rfl,hk,u⟩ _;refine aE (aA pq (aA jB (bN rz (B.ext u.aG) (aK tT (DX.ext u.aG) (aR (aC (λc1=>?_) λc1=>?_))))));rotate_left
 .rw[kO cO]at u;exact u.fresh
 obtain⟨ct,J⟩:=gx I (i:=((k:Nat):Int).toNat) cO;obtain⟨cl,O⟩:=gx m.p.eb (i:=((k:Nat):Int).toNat) cO;obtain⟨ge,rfl,PQ⟩:=zT.2 _ ct cl J O;obtain⟨Y,aBH⟩:=hcz cl (kE O);refine⟨λjv w'=>St w aX [bE jv ((m.p.eb.take (k+1)).map (pQ m))] w',?_,?_⟩;rotate_left
 .rintro o2 _ u _;exact aO cO ⟨_,cO,k+1,rfl,rfl,cO,u⟩
 have u:=u.drew;refine aE (aA pq (aA jB (bN rz (B.ext u.aG) (aQ tT DX cO J λq hq=>bX ge vQ hq rfl rfl λq2 Lz=>aD jC (Lz.ext u.aG) (aE (aA pq (qK a.pv er (nh.ext E.b u.aG) rfl (aE (aA qH (bN pZ (G7.ext u.aG) ?_))))))))));refine aE (aA sH (bN ey ((tO.cell (o:=2) rfl).ext u.aG) (ml cS D1 cO cO λs49 h49=>dV LW u (C124 m.p a.pv _ (E.uk.pr _ (U _ u.aG)) G.pz) λx38 _ cI u=>?_)));refine⟨aF rz (B.ext u.aG),?_⟩;refine⟨eL jC (Lz.ext u.aG),?_⟩
 refine⟨aF pZ (G7.ext u.aG),?_⟩;refine⟨aF ey ((tO.cell (o:=2) rfl).ext u.aG),?_⟩;refine ml iK u.dW cO cO (λs40 W=>aW aiT u (C146 _ _ _ cl.e (gF m.p) (m.mem.l.take (eH m.p).toNat) _ (DL.flat (PQ.ext u.aG)) W (h49.ext u.aG) Y (by unfold gF;rw[l1];omega) aBH (hvo.mem.l.take _)) λ_ he u=>aM rfl (aM rfl (aH ?_)));have M:pQ m cl=(decide ((qw (gF m.p) (m.mem.l.take (eH m.p).toNat) cl.e).2=0)&&decide ((qw (gF m.p) (m.mem.l.take (eH m.p).toNat) cl.e).1≠0)):=rfl;refine aC (λc2=>?_) (λc2=>?_)
 .refine bQ (aV (([pQ m cl]):List Bool) u u5 rfl (by rw[M,ez c2,Av];rfl) (dQ rfl) λs47 w7 u=>?_);have Sb:=u.dW;refine bI u.p2 u5 Sb (by rw[nc,l1,l2];omega) ee (λV w8 u=>?_);rw[<- gy (k:=k) O];exact u.p1.drop.p1.drop
 refine aV (([pQ m cl]):List Bool) u u5 rfl (by rw[M,fV c2,Bool.false_and];rfl) (dQ rfl) (λs47 w7 u=>?_);have Sb:=u.dW;refine bI u.p2 u5 Sb (by rw[nc,l1,l2];omega) ee (λV w8 u=>?_);rw[<- gy (k:=k) O];exact u.p1.drop.p1.drop
variable (w:World) (K:Value->hM)
def aBK:dM:=λi=>match i with
 | 2=>(.op 0 [] (.op 1 [] (.op 2 [] (.op 4 [] (.alt 3 [1,4] (.alt 5 [1] (.of [(6,[]),(7,[]),(8,[1,4]),(9,[])]) (.alt 8 [1,4] (.of [(5,[1]),(6,[]),(7,[]),(9,[])]) .stop)) (.alt 8 [1,4] (.of [(3,[1,4]),(5,[1]),(6,[]),(7,[]),(9,[])]) .stop))))))
 | 5=>(.of [(0,[]),(1,[]),(2,[]),(3,[1]),(4,[]),(5,[])])
 | _=>.nil
theorem aBL:PL 40:=dR Tryz.func40
theorem auB:PL 101:=dR Tryz.func101
theorem auC:PL 102:=dR Tryz.func102
theorem auD:PL 172:=dR Tryz.func172
end Go.Proofs.YtpdlpabnlkofmaaGreatDoor
namespace Go.Proofs.YtpdlpabnlkofmaaGreatDoor
open Go.Fw
def oP:pr hH (mv 63 [].toArray)=some (.agg [hZ 0,hZ 0,hZ 0,.slice none 0 0].toArray):=by kernel_rfl
def lC(B:Int)(u:Option Addr)(E G:Nat):pr hH (mv 63 [(2,hZ B),(3,.slice u E G)].toArray)=some (.agg [hZ 0,hZ 0,hZ B,.slice u E G].toArray):=by kernel_rfl
end Go.Proofs.YtpdlpabnlkofmaaGreatDoor
