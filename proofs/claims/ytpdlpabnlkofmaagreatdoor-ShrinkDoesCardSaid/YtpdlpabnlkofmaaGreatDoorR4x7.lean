/-
  Part 7.
-/
import Derived.Test.YtpdlpabnlkofmaaGreatDoorR4x6
set_option maxHeartbeats 8000000
set_option linter.all false
set_option maxRecDepth 100000
open Go.Fw.Flat renaming val->ia,enc->j0
open List renaming getElem?_eq_some_iff->kE,mem_of_getElem?->kO,take_of_length_le->kW,getElem?_eq_getElem->la,length_append->lY,length_take->l0,length_singleton->mf,getElem?_eq_none->mY,length_map->n0,append_assoc->n3,getD_eq_getElem?_getD->ob,length_cons->oj,mem_cons_self->oD,append_nil->o6,getElem?_map->pd,length_drop->qa,replicate->qW,length_eq_zero_iff->r6,drop_drop->sW,nil_append->s4,take_add_one->ta,getElem?_append_left->tx,range->uT,map_append->vd,drop_eq_nil_of_le->vt,mem_singleton->vA,mem_of_mem_take->vB,ext_getElem?->v7,filter_append->zp,getElem?_set_self->AQ,length_replicate->BH,drop_left->DF,getElem?_set_ne->Fe,length_set->FE,getElem?_range->FY,take_left->Kz,filter_filter->P2,length_range->Qb,drop_take->SM,replicate_succ'->SN,filter->Zl
open Nat renaming zero_le->l1,le_trans->wc,mul_le_mul_right->BJ,not_lt_zero->MW,lt_or_ge->N7
open Go.Instr renaming build->l2
open Go.Fw.Deep renaming dr->mG,ext->Kx
open Go.Value renaming int->nf,tuple->Bh
open Option renaming some->oe,toList_some->H3,isSome_iff_exists->L3
open Int renaming toNat_natCast->pQ,le_refl->M5
open Decidable renaming not_not->u1
open Bool renaming true_and->yk,false_and->P1
namespace Go.Proofs.YtpdlpabnlkofmaaGreatDoor
open Go.Fw
theorem Bn.ext{w w':World}{p:Nat}{m:Mem}(h:Bn w p m)(e:Ext w w'):Bn w' p m:=by
 obtain⟨ov,fv,lv,kv,wv,ws,h1,h2,h3,h4,h5,h6,u⟩:=h.ex
 exact⟨ov,fv,lv,kv,wv,ws,h1,h2.of_eq (e.bY _ h2.lt λx=>x),h3.ext e,h4.ext e,h5.ext e,h6.ext e,u.ext e⟩
def NK{w:World}{p:Nat}{m:Mem}{ov fv lv kv wv:Value}{ws:List mX}(h1:pD ws m)(h2:mR w p [ov,fv,lv,kv,wv])(h3:dA (λ_=>True) w ov m.of)(h4:dA (λ_=>True) w fv m.dV)
  (h5:dA (λ_=>True) w lv m.l) (h6:dA (λ_=>True) w kv m.kept) (u:dA (λ_=>True) w wv ws):Bn w p m:=⟨ov,fv,lv,kv,wv,ws,h1,h2,h3,h4,h5,h6,u⟩
section
variable {ws:List mX}{m:Mem}{x:mX}{L:Nat}
theorem rR(B:pD ws m)(u:wq m)(E:x∈ws):0<=x.line/\x.line<fU m.of/\0<=x.cell/\x.cell<m.of.length:=by
 obtain⟨G,h1⟩:=B.2 x E
 have h2:=u.ofr _ (kO h1)
 grind
theorem H9(f:mX->Bool):∀l:List mX,l.length=(l.filter f).length+(l.filter λx=>!f x).length
 | []=>rfl
 | x::l=>by
  have u:=H9 f l
  grind
theorem NL(N:Nat):∀(L:Nat) (ws:List mX),(∀x∈ws,0<=x.line/\x.line<L)->(∀n:Int,(ws.filter λx=>decide (x.line=n)).length<=N)->ws.length<=L*N
 | 0,ws,h,_=>by
  cases ws with
  | nil=>simp
  | cons x r=>have:=h x (oD ..);omega
 | L+1,ws,h,u=>by
  have E:=NL N L (ws.filter λx=>!decide (x.line=(L:Int))) (λx B=>by
   grind) (λn=>by
   refine wc ?_ (u n)
   have e:∀p q:mX->Bool,(ws.filter q).filter p=(ws.filter p).filter q:=λp q=>by
    rw[P2,P2]
    grind
   grind)
  have e:=H9 (λx=>decide (x.line=(L:Int))) ws
  have:=u L
  grind
theorem Bo{N:Nat}(u:pD ws m)(B:wq m)(hb:MB m N):ws.length<=20*N:=by
 have h1:=NL N (fU m.of).toNat ws (λx E=>by have:=rR u B E;omega) λn=>by
  have:=hb n
  rw[u.1,n0]at this
  exact this
 have:=B.lb
 exact wc h1 (BJ _ cK)
def zS(ws:List mX)(L:Nat):List Int:=(uT L).map fun (i:Nat)=>(((ws.filter λx=>decide (x.line=(i:Int))).length:Nat):Int)
theorem xJ:(zS ws L).length=L:=by simp[zS]
theorem aad(L:Nat):qW L (0:Int)=zS [] L:=by
 unfold zS
 simp[List.map_const']
theorem DM{i:Nat}(h:i<L):(zS ws L)[i]?=some (((ws.filter λx=>decide (x.line=(i:Int))).length:Nat):Int):=by
 unfold zS;rw[pd,FY h];rfl
theorem akO{i:Nat}{e:Int}(h:(zS ws L)[i]?=some e):0<=e/\e<=ws.length:=by
 have hi:i<L:=by have:=(kE.1 h).1;rwa [xJ]at this
 rw[DM hi]at h
 grind
theorem U1{k:Nat}{e:Int}(E:ws[k]?=some x)(G:0<=x.line)(h1:x.line<L)(B:(zS (ws.take k) L)[x.line.toNat]?=some e) :
  (zS (ws.take k) L).set x.line.toNat (e+1)=zS (ws.take (k+1)) L:=by
 have ht:ws.take (k+1)=ws.take k++[x]:=by rw[ta,E];rfl
 apply v7
 intro i
 by_cases hi:i<L
 .rw[DM hi,ht,zp,lY]
  by_cases u:i=x.line.toNat
  .subst u
   rw[AQ (by rw[xJ];exact hi)]
   rw[DM hi]at B
   have I:([x].filter λx=>decide (x.line=((x.line.toNat:Nat):Int)))=[x]:=by
    have:((x.line.toNat:Nat):Int)=x.line:=cK
    simp[Zl,this]
   have:((x.line.toNat:Nat):Int)=x.line:=cK
   simp only[this]at B |-
   simp only[oe.injEq]at B
   simp[Zl,B]
  rw[Fe (Ne.symm u),DM hi]
  have:¬ x.line=(i:Int):=cK
  simp[Zl,this]
 rw[mY (by rw[FE,xJ];omega),mY (by rw[xJ];omega)]
def yX(m:Mem):List Int:=(psM m).map fun (k:Nat)=>(k:Int)
theorem aae(u:pD ws m):zS ws (fU m.of).toNat=yX m:=by
 unfold zS yX psM Ft
 rw[List.map_map]
 refine List.map_congr_left λi _=>?_
 simp[u.1]
theorem U3:(yX m).length=(fU m.of).toNat:=by unfold yX;rw[n0,adU]
end
section
variable {ws:List mX}{m:Mem}{x:mX}
theorem QI{cell n u:Int}{l:List Int}(B:pD ws m)(G:0<=cell)(h1:m.of[cell.toNat]?=some u) :
  pD (ws++[⟨u,cell,n⟩]) {m with l:=l,fJ:=pM m.fJ u (m.fJ u++[⟨cell,n⟩])}:=by
 refine⟨λk=>?_,λx E=>?_⟩
 .show pM m.fJ u (m.fJ u++[⟨cell,n⟩]) k=_
  rw[zp,vd,<- B.1]
  unfold pM
  grind
 rcases List.mem_append.1 E with h|h
 .exact B.2 x h
 grind
def n8(line:Int)(ws:List mX):List km:=(ws.filter λx=>decide (x.line=line)).map λx=>⟨x.cell,x.n⟩
def Da(line:Int)(ws:List mX):List mX:=ws.filter λx=>!decide (x.line=line)
theorem aaf{k:Nat}{line:Int}(h:ws[k]?=some x)(u:x.line=line):n8 line (ws.take (k+1))=n8 line (ws.take k)++[⟨x.cell,x.n⟩]:=by
 unfold n8;rw[ta,h,H3,zp,vd];grind
theorem aeI{k:Nat}{line:Int}(h:ws[k]?=some x)(u:¬ x.line=line):n8 line (ws.take (k+1))=n8 line (ws.take k):=by
 unfold n8;rw[ta,h,H3,zp,vd];grind
theorem aag{k:Nat}{line:Int}(h:ws[k]?=some x)(u:x.line=line):Da line (ws.take (k+1))=Da line (ws.take k):=by
 unfold Da;rw[ta,h,H3,zp];grind
theorem aeJ{k:Nat}{line:Int}(h:ws[k]?=some x)(u:¬ x.line=line):Da line (ws.take (k+1))=Da line (ws.take k)++[x]:=by
 unfold Da;rw[ta,h,H3,zp];grind
theorem aah{k:Nat}{line:Int}:(Da line (ws.take k)).length<=ws.length:=wc (List.length_filter_le ..) dD
theorem aai{line:Int}{E:List Int}(u:pD ws m):pD (Da line ws) {m with kept:=E,fJ:=pM m.fJ line []}:=by
 refine⟨λk=>?_,λx B=>u.2 x (List.mem_filter.1 B).1⟩
 show pM m.fJ line [] k=_
 unfold pM Da
 rw[P2]
 by_cases G:k=line
 .simp_all
 rw[ej G,u.1]
 grind
theorem Ia(u:pD ws m)(line:Int):n8 line ws=m.fJ line:=(u.1 line).symm
end
def akP{k:List Int}{a:List km}:(nM k a).length=k.length:=xt a k
def C77(p:Nat)(m:Mem)(w:World)(M:Bn w p m)(E:wq m):CR 77 [(.pointer (some ⟨p,0,none⟩))] w (λv w'=>v=hZ (fU m.of)/\Ext w w'):=by
 have ME:=M;obtain⟨ov,fv,lv,kv,wv,ws,jZ,G,B,O,Cx,W,V⟩:=M.ex;have I:=G.cell (o:=0) rfl;have q1:=G.cell (o:=1) rfl;have q2:=G.cell (o:=2) rfl;have q3:=G.cell (o:=3) rfl;have q4:=G.cell (o:=4) rfl;have MF:=E.fl;have Kd:=E.MD;have Z:=E.ll;have BQ:=E.kl;have N4:=E.lb;have Gl:=rQ E;have u:=St.start w;refine oH Tryz.func77 (pl:=P77) ?_;refine aE (aA uy (bM eg (I.ext u.aG) (aK cS (B.ext u.aG) (aH (aC (λ_=>⟨gN (nf .i64) (by unfold fU;rw[ew cK]),u.aG⟩) λgD=>aE (aA uy (have u:=u.drew;bM eg (I.ext u.aG) (aE (aA uy (bM eg (I.ext u.aG) (aK cS (B.ext u.aG) (fg cK ?_))))))))))))
 obtain⟨lU,J⟩:=gx m.of (i:=((m.of.length:Int)-1).toNat) cK;refine aO cS B cK J (λ_ Y=>aD bL (Y.ext u.aG) ?_);have U:=E.ofr _ (kO J);exact aN cK ⟨gN (nf .i64) (by unfold fU;rw[ej cK,ob,show m.of.length-1=((m.of.length:Int)-1).toNat from cK,J];rfl),u.aG⟩
def C17(p:Nat)(m:Mem)(w:World)(W:Bn w p m)(B:wq m)(hb:MB m 1000000):CR 17 [(.pointer (some ⟨p,0,none⟩))] w (λv w'=>lg (bH v (yX m)) w w'):=by
 have ME:=W;obtain⟨ov,fv,lv,kv,wv,ws,J,E,hmo,hmf,Cx,aaj,G⟩:=W.ex;have q0:=E.cell (o:=0) rfl;have q1:=E.cell (o:=1) rfl;have q2:=E.cell (o:=2) rfl;have q3:=E.cell (o:=3) rfl;have Y:=E.cell (o:=4) rfl;have MF:=B.fl;have Kd:=B.MD;have Bx:=B.ll;have BQ:=B.kl;have N4:=B.lb;have Gl:=rQ B;have YN:=Bo J B hb;have u:=St.start w;refine eX Tryz.func17 ?_;refine aV ams u (C77 _ m _ (ME.ext u.aG) B) (λV he u=>wG (0:Int) u cS uw cK cK ee λM _ u=>?_);refine⟨λU x V=>∃k:Nat,x=hZ (k:Int)/\U=ws.length-k/\k<=ws.length/\St w bD [bH M (zS (ws.take k) (fU m.of).toNat)] V,⟨_,0,rfl,rfl,l1 _,by rw[aad]at u;exact u⟩,?_⟩
 rintro U _ _ ⟨k,rfl,rfl,hkw,u⟩ _;refine aE (aA kM (bM tu (Y.ext u.aG) (aK tz (G.ext u.aG) (aR (aC (λjo=>?_) λjo=>?_)))))
 .refine aE (aA kM (bM tu (Y.ext u.aG) ?_));obtain⟨Z,I⟩:=gx ws (i:=(k:Int).toNat) cK;refine aO tz G cK I (λ_ qz=>bV Z.line wH qz rfl rfl λ_ wR=>aD bL (wR.ext u.aG) ?_);have oG:=rR J B (kO I);have EW:(zS (ws.take k) (fU m.of).toNat).length=(fU m.of).toNat:=xJ;obtain⟨q8,O⟩:=gx (zS (ws.take k) (fU m.of).toNat) (i:=Z.line.toNat) cK;refine dR u cS cK cK (λ_ mA=>gL u bL mA O ?_);have hcb:=akO O;have Hk:(ws.take k).length<=ws.length:=by rw[l0];omega
  refine aN cK (dR u cS cK cK λ_ rf=>js _ u bL rf cK λ_ u=>aN cK ?_);exact⟨_,cK,k+1,rfl,rfl,cK,by rw[<- U1 (k:=k) I oG.1 cK O];exact u⟩
 .rw[kW cK,aae J]at u;exact u.fresh
def C166(p:Nat)(m:Mem)(F:Nat->Prop)(cell n:Int)(w:World)(hF:(gq p m).p w F)(E:wq m)(hb:MB m 1000000):CR 166 [(.pointer (some ⟨p,0,none⟩)),hZ cell,hZ n] w (λv w'=>v=hZ (if Gp m cell=true then 0 else 1)/\mP F (gq p (fk m cell n)) w w'):=by
 have u:=St.begin hF;obtain⟨ov,fv,lv,kv,wv,ws,I,u⟩:=gq.open u;have MF:=E.fl;have Kd:=E.MD;have Bx:=E.ll;have BQ:=E.kl;have N4:=E.lb;have Gl:=rQ E;have YN:=Bo I E hb;refine oH Tryz.func166 (pl:=aur) ?_;refine⟨λZ w'=>Z=.bool (decide (cell<0\/m.l.length<=cell))/\w=w',aR (aC (λ_=>⟨N1 cK,rfl⟩) λ_=>aE (aA rW (aB eg u.hb rfl (aK cS u.p3.dX (cR ⟨yB cK,rfl⟩))))),?_⟩;rintro _ _ ⟨rfl,O⟩ _;subst O;refine aC (λU=>?_) (λU=>?_)
 .have u:=u.p5.p5.p5.p5.p5.p5;have G:Gp m cell=false:=by unfold Gp;rw[decide_eq_false_iff_not];omega
  unfold fk;rw[G];exact⟨rfl,(gq.shut I u).mut⟩
 have G:Gp m cell=true:=by unfold Gp;rw[decide_eq_true_eq];omega
 refine aE (aA rW (aB eg u.hb rfl ?_));obtain⟨iH,jQ⟩:=gx m.l (i:=cell.toNat) cK;refine dR u.p3 cS cK cK (λ_ Y=>js _ u.p3 bL Y cK λ_ u=>⟨λw'=>St w F [gq p (fk m cell n)] w',aE (aA uy (aB eg u.p1.hb rfl (aK cS u.p2.dX (aR (aC (λmc=>?_) λmc=>?_))))),?_⟩)
 .refine aE (aA kM (have u:=u.drew;aB tu u.p1.hb rfl (aE (aA uy (aB eg u.p1.hb rfl ?_)))));obtain⟨J,M⟩:=gx m.of (i:=cell.toNat) cK;refine dR u.p2 cS cK cK (λ_ V=>gL u.p2 bL V M (pop (IS _ _ _) (aZ ([(⟨J,cell,n⟩:mX)]) u tz rfl rfl (dL rfl) λaqs _ u=>?_)));refine⟨aF tu (u.p2.hb.cell rfl),?_⟩;have PQ:=u.dX;refine bJ u.p6 tz PQ (by simp;omega) ee (λW _ u=>have u:=u.p1.drop;aE (aA kM (aT u.p2 tu (dL rfl) u.dX.one λ_ u=>?_)))
  have u:=u.p5.p2.p3.p5.p5.p5.p4.p5.p5.p5.p5.p5;have B:fk m cell n={m with l:=m.l.set cell.toNat n,fJ:=pM m.fJ J (m.fJ J++[⟨cell,n⟩])}:=by unfold fk;rw[ew G,ew cK,ob,M];rfl
  rw[B];exact gq.shut (m:={m with l:=_,fJ:=_}) (QI I cK M) u
 .have u:=u.p5.p5.p2.p5.p5.p5;have B:fk m cell n={m with l:=m.l.set cell.toNat n}:=by unfold fk;rw[ew G,ej cK]
  rw[B];exact gq.shut (m:={m with l:=_}) I u
 intro _ u _;exact⟨by rw[G];rfl,u.mut⟩
def C167(p:Nat)(m:Mem)(F:Nat->Prop)(line:Int)(w:World)(hF:(gq p m).p w F)(B:wq m)(hb:MB m 1000000):CR 167 [(.pointer (some ⟨p,0,none⟩)),hZ line] w (λv w'=>v=hZ (if Fp m line=true then 0 else 1)/\mP F (gq p (n7 m line)) w w'):=by
 have u:=St.begin hF;obtain⟨ov,fv,lv,kv,wv,ws,G,u⟩:=gq.open u;have MF:=B.fl;have Kd:=B.MD;have Bx:=B.ll;have BQ:=B.kl;have N4:=B.lb;have Gl:=rQ B;have YN:=Bo G B hb;refine oH Tryz.func167 (pl:=aus) ?_;refine⟨λjv w'=>jv=.bool (decide (line<0\/fU m.of<=line))/\St w F [bY p [ov,fv,lv,kv,wv],bH ov m.of,bH fv m.dV,bH lv m.l,bH kv m.kept,bH wv ws] w',aR (aC (λ_=>⟨vb (by first|exact(ez cK).symm|exact ga.2 cK),u⟩) λ_=>aV ams u (C77 _ m _ (NK G u.hb u.p1.dX u.p2.dX u.p3.dX u.p4.dX u.p5.dX) B) λ_ _ u=>cR ⟨vb (by first|exact(ez cK).symm|exact ga.2 cK),u⟩),?_⟩
 rintro _ _ ⟨rfl,u⟩ _;refine aC (λjD=>?_) (λjD=>?_)
 .have u:=u.p5.p5.p5.p5.p5.p5;have M:Fp m line=false:=by unfold Fp;rw[decide_eq_false_iff_not];omega
  unfold n7;rw[M];exact⟨rfl,(gq.shut G u).mut⟩
 refine aZ ([]:List mX) u tz rfl rfl (dL rfl) (λV _ u=>?_);have u:=u.p6.p6.p6.p6.p6.p6.p6;refine⟨λW o x w1=>∃k:Nat,x=hZ (k:Int)/\W=ws.length-k/\k<=ws.length/\St w F [bH o (Da line (ws.take k)),bY p [ov,fv,lv,kv,wv],bH ov m.of,bH fv m.dV,bH lv m.l,bH kv (nM m.kept (n8 line (ws.take k))),bH wv ws] w1,⟨_,0,rfl,rfl,l1 _,u⟩,?_⟩;rintro W l5 _ _ ⟨k,rfl,rfl,Z,u⟩ _;refine aE (aA kM (aB tu u.p1.hb rfl (aK tz u.p6.dX (aR (aC (λiM=>⟨λo w'=>St w F [bH o (Da line (ws.take (k+1))),bY p [ov,fv,lv,kv,wv],bH ov m.of,bH fv m.dV,bH lv m.l,bH kv (nM m.kept (n8 line (ws.take (k+1)))),bH wv ws] w',?_,?_⟩) λiM=>?_)))))
 .refine aE (aA kM (aB tu u.p1.hb rfl ?_));obtain⟨J,E⟩:=gx ws (i:=(k:Int).toNat) cK;refine dR u.p6 tz cK cK (λ_ mA=>my wH mA λ_ su=>nF J.line u.p6 bL su E rfl (aH (aC (λI=>?_) λI=>?_)))
  .refine aE (aA An (have u:=u.drew;aB eg u.p1.hb rfl (aE (aA kM (aB tu u.p1.hb rfl (dR u.p6 tz cK cK λ_ uU=>my KU uU λ_ EH=>nF J.cell u.p6 bL EH E rfl (aE (aA kM (aB tu u.p1.hb rfl (dR u.p6 tz cK cK λ_ XQ=>?_))))))))));refine my KV XQ (λ_ O=>nF J.n u.p6 bL O E rfl ?_);have oG:=rR G B (kO E);have TP:(nM m.kept (n8 line (ws.take k))).length=m.kept.length:=akP;obtain⟨WJ,OO⟩:=gx (nM m.kept (n8 line (ws.take k))) (i:=J.cell.toNat) cK
   refine dR u.p5 cS cK cK (λ_ AH=>js _ u.p5 bL AH cK λ_ u=>?_);have u:=u.p6.p1.p6.p6.p6.p6.p6;rw[aag (k:=k) E I,aaf (k:=k) E I,Cd];exact u
  refine aE (aA kM (aB tu u.p1.hb rfl (dR u.p6 tz cK cK λ_ Fc=>gL u.p6 Wa Fc E (aZ ([J]) u tz rfl rfl (dL rfl) λarn _ u=>?_))));have Kb:(Da line (ws.take k)).length<=ws.length:=aah;have U:=u.dX;refine bJ u.p1 tz U (by simp;omega) ee (λaro _ u=>?_);have u:=u.p1.drop.p6.p6.p6.p6.p6.p6.p6;rw[aeJ (k:=k) E I,aeI (k:=k) E I];exact u
 .rintro Y _ u _;exact aN cK (have u:=u.p6.p6.p6.p6.p6.p6.p6;⟨_,cK,k+1,rfl,rfl,cK,u⟩)
 refine aE (aA kM (aT u.p1 tu (dL rfl) u.dX.one λ_ u=>?_));have u:=u.p6.drop.p1.p5.p5.p5.p5.p5;have M:Fp m line=true:=by unfold Fp;rw[decide_eq_true_eq];omega
 have PR:n7 m line={m with kept:=nM m.kept (m.fJ line),fJ:=pM m.fJ line []}:=by unfold n7;rw[ew M]
 rw[kW cK,Ia G]at u;rw[PR,M];exact⟨rfl,(gq.shut (m:={m with kept:=_,fJ:=_}) (aai G) u).mut⟩
section
variable {ws:List mX}{m:Mem}{x:mX}{cut:List Int}
def ru(m:Mem)(us:List mX):Mem:={m with fJ:=λi=>n8 i us}
theorem U4(u:pD ws m):ru m ws=m:=by
 unfold ru
 have:(λi=>n8 i ws)=m.fJ:=funext λi=>Ia u i
 rw[this]
theorem Ib{j:Nat}{v:Int}:∀(us:List km) (k:List Int),(∀u∈us,u.cell.toNat≠j)->nM (k.set j v) us=(nM k us).set j v
 | [],k,_=>rfl
 | u::us,k,h=>by
  show nM ((k.set j v).set u.cell.toNat u.n) us=(nM (k.set u.cell.toNat u.n) us).set j v
  rw[List.set_comm _ _ (h u (oD ..)).symm,Ib us _ λw B=>h w (List.mem_cons_of_mem _ B)]
theorem Ic(i:Int)(us:List mX)(x:mX):n8 i (us++[x])=if x.line=i then n8 i us++[⟨x.cell,x.n⟩]else n8 i us:=by
 unfold n8;grind
theorem NM{us:List mX}(M:∀y∈us,0<=y.cell/\m.of[y.cell.toNat]?=some y.line)(O:0<=x.cell/\m.of[x.cell.toNat]?=some x.line)(U:0<=x.line)(K:Nat) :
  pS (ru m (us++[x])) cut K=if x.line<K/\((n8 x.line us).length:Int)<cut.getD x.line.toNat 0 then(pS (ru m us) cut K).set x.cell.toNat x.n else pS (ru m us) cut K:=by
 induction K with
 | zero=>rw[ej cK];rfl
 | succ K I=>
  rw[uW,uW,I]
  show nM _ ((n8 (K:Int) (us++[x])).take _)=if _ then(nM _ ((n8 (K:Int) us).take _)).set _ _ else nM _ ((n8 (K:Int) us).take _)
  rw[Ic]
  by_cases G:x.line=(K:Int)
  .have E:x.line.toNat=K:=cK
   rw[ew G,ej cK,<- E,show((x.line.toNat:Nat):Int)=x.line from cK]
   by_cases hc:((n8 x.line us).length:Int)<cut.getD x.line.toNat 0
   .rw[ew ⟨cK,hc⟩,kW dD,Cd,kW cK]
   grind
  .rw[ej G]
   by_cases hc:x.line<(K:Int)/\((n8 x.line us).length:Int)<cut.getD x.line.toNat 0
   .rw[ew hc,ew ⟨cK,hc.2⟩,Ib]
    intro u B J
    obtain⟨y,V,rfl⟩:=List.mem_map.1 (vB B)
    grind
   grind
def pk(us:List mX)(cut:List Int):List Int:=(uT cut.length).map fun (i:Nat)=>max 0 (cut.getD i 0-((n8 i us).length:Int))
theorem u7{us:List mX}:(pk us cut).length=cut.length:=by simp[pk]
theorem Bp{us:List mX}{i:Nat}(h:i<cut.length):(pk us cut)[i]?=some (max 0 (cut.getD i 0-((n8 i us).length:Int))):=by
 grind[pk,n8]
theorem U5(h:∀(i:Nat) (c:Int),cut[i]?=some c->0<=c):cut=pk [] cut:=by
 apply v7
 intro i
 by_cases hi:i<cut.length
 .rw[Bp hi,la hi]
  grind[n8]
 grind[pk]
theorem J2{us:List mX}{l e:Int}(E:0<=l)(u:(pk us cut)[l.toNat]?=some e):l.toNat<cut.length/\e=max 0 (cut.getD l.toNat 0-((n8 l us).length:Int)):=by
 have B:l.toNat<cut.length:=by have:=(kE.1 u).1;rwa [u7]at this
 rw[Bp B,show((l.toNat:Nat):Int)=l from cK]at u
 grind
theorem FZ{us:List mX}(E:0<=x.line)(B:x.line.toNat<cut.length):pk (us++[x]) cut=(pk us cut).set x.line.toNat (max 0 (cut.getD x.line.toNat 0-((n8 x.line us).length:Int)-1)):=by
 apply v7
 intro i
 by_cases hi:i<cut.length
 .rw[Bp hi,Ic]
  by_cases u:i=x.line.toNat
  .subst u
   rw[AQ (by rw[u7];exact hi),ew cK,lY,mf,show((x.line.toNat:Nat):Int)=x.line from cK]
   congr 1;omega
  rw[Fe (Ne.symm u),Bp hi,ej cK]
 rw[mY (by rw[u7];omega),mY (by rw[FE,u7];omega)]
theorem F0{α:Type}{l:List α}{k:Nat}{y:α}(h:l[k]?=some y):l.take (k+1)=l.take k++[y]:=by rw[ta,h];rfl
theorem Te{k:Nat}{e:Int}(u:pD ws m)(I:wq m)(M:(cut.length:Int)=fU m.of)(h:ws[k]?=some x)(J:(pk (ws.take k) cut)[x.line.toNat]?=some e)(h1:0<e) :
  (pk (ws.take k) cut).set x.line.toNat (e-1)=pk (ws.take (k+1)) cut/\(pS (ru m (ws.take k)) cut cut.length).set x.cell.toNat x.n=pS (ru m (ws.take (k+1))) cut cut.length:=by
 have E:=kO h
 have B:=rR u I E
 obtain⟨h2,h3⟩:=J2 B.1 J
 rw[F0 h,FZ B.1 h2,NM (λy G=>u.2 y (vB G)) (u.2 x E) B.1,ew ⟨cK,cK⟩]
 grind
theorem Tf{k:Nat}{e:Int}(u:pD ws m)(J:wq m)(h:ws[k]?=some x)(G:(pk (ws.take k) cut)[x.line.toNat]?=some e)(h1:¬ 0<e) :
  pk (ws.take k) cut=pk (ws.take (k+1)) cut/\pS (ru m (ws.take k)) cut cut.length=pS (ru m (ws.take (k+1))) cut cut.length:=by
 have E:=kO h
 have B:=rR u J E
 have M:=G
 obtain⟨h2,h3⟩:=J2 B.1 G
 rw[F0 h,FZ B.1 h2,NM (λy I=>u.2 y (vB I)) (u.2 x E) B.1,ej cK]
 refine⟨?_,rfl⟩
 rw[show max 0 (cut.getD x.line.toNat 0-((n8 x.line (ws.take k)).length:Int)-1)=e from cK]
 apply v7
 grind
theorem aak{k:Nat}{e:Int}(u:(yX m)[k]?=some e):e=(m.fJ k).length:=by
 unfold yX psM at u
 rw[pd]at u
 have B:k<(fU m.of).toNat:=by
  cases h:(Ft m (fU m.of).toNat)[k]? with
  | none=>grind
  | some y=>have:=(kE.1 h).1;unfold Ft at this;grind
 rw[YT B]at u
 grind
theorem U6(m:Mem)(cut:List Int):m.kept=pS (ru m []) cut cut.length:=by
 have:∀K,pS (ru m []) cut K=m.kept:=λK=>by
  induction K with
  | zero=>rfl
  | succ K u=>rw[uW,u];simp[ru,n8,nM]
 grind
theorem QJ(u:List Int):pD [] (mH m u):=⟨λ_=>rfl,λx h=>by cases h⟩
end
def C92(p:Nat)(m:Mem)(cut:List Int)(cv:Value)(w:World)(hm:Bn w p m)(B:wq m)(hb:MB m 1000000)(U:dA (λ_=>True) w cv cut)(YU:cut.length<=1000):CR 92 [(.pointer (some ⟨p,0,none⟩)),cv] w (λv w'=>(fB m cut=none/\v=.tuple #[.slice none 0 0,hZ 1]/\Ext w w')\/∃ly o,fB m cut=some ly/\v=.tuple #[o,hZ 0]/\lg (bH o ly) w w'):=by
 have ME:=hm;obtain⟨ov,fv,lv,kv,wv,ws,J,rn,hmo,hmf,Cx,M,hmw⟩:=hm.ex;have q0:=rn.cell (o:=0) rfl;have q1:=rn.cell (o:=1) rfl;have q2:=rn.cell (o:=2) rfl;have G:=rn.cell (o:=3) rfl;have q4:=rn.cell (o:=4) rfl;have MF:=B.fl;have Kd:=B.MD;have Bx:=B.ll;have BQ:=B.kl;have N4:=B.lb;have Gl:=rQ B;have YN:=Bo J B hb;have hpil:=U3 (m:=m);have u:=St.start w;refine aht _ _ _ _ ?_;unfold S92;refine dT at2 u (C17 _ m _ (ME.ext u.aG) B hb) (λx13 w1 cL u=>aK cS (U.ext u.aG) (aK cS u.dX (bW (aC (λ_=>.inl ⟨MH cK,rfl,u.aG⟩) λlP=>?_))))
 refine⟨λmm x w1=>∃k:Nat,x=hZ (k:Int)/\mm=cut.length-k/\k<=cut.length/\(∀(i:Nat) (c:Int),i<k->cut[i]?=some c->0<=c/\c<=(m.fJ i).length)/\St w bD [bH x13 (yX m)] w1,⟨_,0,rfl,rfl,l1 _,λ_ _ h=>absurd h cK,u⟩,?_⟩;rintro mm _ _ ⟨k,rfl,rfl,xf,kC,u⟩ _;refine aK cS u.dX (aR (aC (λiM=>?_) λiM=>?_))
 .obtain⟨Sx,xr⟩:=gx cut (i:=(k:Int).toNat) cK;refine⟨λjv w'=>jv=.bool (decide (Sx<0\/((m.fJ k).length:Int)<Sx))/\St w bD [bH x13 (yX m)] w',aO cS U cK xr (λ_ uJ=>have u:=u.drew;aD bL (uJ.ext u.aG) (aR (aC (λ_=>⟨vb (by first|exact(ez cK).symm|exact ga.2 cK),u⟩) λagt=>?_))),?_⟩
  .refine aO cS U cK xr (λ_ rf=>aD bL (rf.ext u.aG) ?_);obtain⟨e_x37,Z⟩:=gx (yX m) (i:=(k:Int).toNat) cK;refine dR u cS cK cK (λ_ xe=>gL u bL xe Z (cO ?_));have Bu:=aak (k:=k) Z;exact⟨vb (by first|exact(ez cK).symm|exact ga.2 cK),u⟩
  rintro _ _ ⟨rfl,u⟩ _;refine aC (λ_=>.inl ⟨MG (k:=k) xr cK,rfl,u.aG⟩) (λwW=>aN cK ?_);refine⟨_,cK,k+1,rfl,rfl,cK,λi c hi hc=>?_,u⟩
  by_cases e:i=k
  .subst e;obtain rfl:=oe.inj (hc.symm.trans xr);omega
  exact kC i c cK hc
 have O:(cut.length:Int)=fU m.of:=cK
 refine⟨λa b w'=>St w bD [bH a cut,bH b m.kept] w',aE (aA An (have u:=u.drew;bM eg (G.ext u.aG) ⟨aZ ([]:List Int) u cS rfl rfl (dL rfl) (λarl _ u=>⟨aF eg (G.ext u.aG),⟨?_,⟨?_,?_⟩⟩⟩),⟨?_,?_⟩⟩)),?_⟩
 .have akR:=(U.ext u.aG);refine bJ u cS akR (by simp<;>omega) ee (λags _ u=>?_);refine⟨aF eg (G.ext u.aG),?_⟩;refine aZ ([]:List Int) u cS rfl rfl (dL rfl) (λs_x44 _ u=>?_);refine⟨aF eg (G.ext u.aG),?_⟩;have Qz:=(M.ext u.aG);exact bJ u cS Qz (by simp<;>omega) ee (λ_ _ u=>have u:=u.p2.drop.p1;u)
 .refine aZ ([]:List Int) u cS rfl rfl (dL rfl) (λats _ u=>?_);refine⟨aF eg (G.ext u.aG),?_⟩;have aan:=(U.ext u.aG);refine bJ u.p1 cS aan (by simp<;>omega) ee (λatt _ u=>?_);refine⟨aF eg (G.ext u.aG),?_⟩;have aao:=(M.ext u.aG);exact bJ u.p1 cS aao (by simp<;>omega) ee (λ_ _ u=>have u:=u.p2.drop.p1;u)
 .trivial
 .refine aZ ([]:List Int) u cS rfl rfl (dL rfl) (λatu _ u=>?_);refine⟨aF eg (G.ext u.aG),?_⟩;refine aZ ([]:List Int) u cS rfl rfl (dL rfl) (λatv _ u=>?_);refine⟨aF eg (G.ext u.aG),?_⟩;have aap:=(U.ext u.aG);refine bJ u cS aap (by simp<;>omega) ee (λatw _ u=>?_);refine⟨aF eg (G.ext u.aG),?_⟩;have aaq:=(M.ext u.aG);exact bJ u.p1 cS aaq (by simp<;>omega) ee (λ_ _ u=>have u:=u.p2.drop.p1;u)
 .trivial
 rintro GJ VT _ u _;have u:=u.p1.p1;refine⟨λmm x w1=>∃j:Nat,x=hZ (j:Int)/\mm=ws.length-j/\j<=ws.length/\St w bD [bH GJ (pk (ws.take j) cut),bH VT (pS (ru m (ws.take j)) cut cut.length)] w1,⟨_,0,rfl,rfl,l1 _,by rw[U5 (λi c hc=>(kC i c (by have:=(kE.1 hc).1;omega) hc).1),U6 m cut]at u;simpa using u⟩,?_⟩;rintro mm _ _ ⟨j,rfl,rfl,hj,u⟩ _;refine aE (aA kM (bM tu (q4.ext u.aG) (aK tz (hmw.ext u.aG) (aR (aC (λagn=>⟨λw'=>St w bD [bH GJ (pk (ws.take (j+1)) cut),bH VT (pS (ru m (ws.take (j+1))) cut cut.length)] w',?_,?_⟩) λagn=>?_)))))
 .refine aE (aA kM (bM tu (q4.ext u.aG) ?_));obtain⟨E,V⟩:=gx ws (i:=(j:Int).toNat) cK;refine aO tz hmw cK V (λ_ EJ=>aD Wa (EJ.ext u.aG) (aM u acd λb_w11 _ u=>aJ (x:=E) u Wa rfl rfl λ_ u=>aA wH (aB (v:=hZ E.line) bL u.hb rfl ?_)));have oG:=rR J B (kO V);have hlw:(pk (ws.take j) cut).length=cut.length:=u7;obtain⟨e_x69,I⟩:=gx (pk (ws.take j) cut) (i:=E.line.toNat) cK;refine dR u.p1 cS cK cK (λ_ Mb=>gL u.p1 bL Mb I ?_)
  have hlb2:=(J2 oG.1 I).2
  have hcg:cut.getD E.line.toNat 0<=1000000:=by
   have Y:E.line.toNat<cut.length:=cK
   rw[ob,la Y];have h1:=kC _ _ cK (la Y);have h2:=hb ((E.line.toNat:Nat):Int);simp only[Option.getD_some];omega
  refine cO (aC (λW=>?_) λW=>?_)
  .refine aA wH (have u:=u.drew;aB (v:=hZ E.line) bL u.hb rfl (aA wH (aB (v:=hZ E.line) bL u.hb rfl (dR u.p1 cS cK cK λ_ Nh=>gL u.p1 bL Nh I (fg cK (dR u.p1 cS cK cK λ_ arQ=>js _ u.p1 bL arQ cK λ_ u=>aA KU (aB (v:=hZ E.cell) bL u.p1.hb rfl (aA KV (aB (v:=hZ E.n) bL u.p1.hb rfl ?_)))))))));have hil:(pS (ru m (ws.take j)) cut cut.length).length=m.kept.length:=pa _ _ _;obtain⟨e_x87,ayw⟩:=gx (pS (ru m (ws.take j)) cut cut.length) (i:=E.cell.toNat) cK
   refine dR u.p2 cS cK cK (λ_ arR=>js _ u.p2 bL arR cK λ_ u=>?_);have u:=u.p2.drop.p1;rw[<- (Te (k:=j) J B O V I W).1,<- (Te (k:=j) J B O V I W).2];exact u
  have u:=u.drop.p1.p1;rw[<- (Tf (k:=j) J B V I W).1,<- (Tf (k:=j) J B V I W).2];exact u
 .rintro _ u _;exact aN cK (have u:=u.p1.p1;⟨_,cK,j+1,rfl,rfl,cK,u⟩)
 have u:=u.drop;rw[kW cK,U4 J]at u;exact .inr ⟨_,_,Hw O (λi c _ hc=>kC i c cK hc),rfl,u.fresh⟩
def C93(p:Nat)(m:Mem)(F:Nat->Prop)(cut:List Int)(cv:Value)(w:World)(hF:(gq p m).p w F)(E:wq m)(hb:MB m 1000000)(hC:∀w',gu F w w'->dA (λ_=>True) w' cv cut)(YU:cut.length<=1000):CR 93 [(.pointer (some ⟨p,0,none⟩)),cv] w (λv w'=>(fB m cut=none/\v=hZ 1/\mP F (gq p m) w w')\/∃ly,fB m cut=some ly/\v=hZ 0/\mP F (gq p (mH m ly)) w w'):=by
 have u:=St.begin hF;obtain⟨ov,fv,lv,kv,wv,ws,jZ,u⟩:=gq.open u;have MF:=E.fl;have Kd:=E.MD;have Bx:=E.ll;have O:=E.kl;have N4:=E.lb;have Gl:=rQ E;refine oH Tryz.func93 (pl:=P93) ?_;refine dQ amt (C92 _ m cut _ _ (NK jZ u.hb u.p1.dX u.p2.dX u.p3.dX u.p4.dX u.p5.dX) E hb (hC _ u.aG) cK) ?_;rintro V _ Z
 rcases Z with⟨B,rfl,he⟩|⟨G,W,B,rfl,cL⟩
 .have u:=u.ext he;exact aQ rfl (aQ rfl (bW (jU ee (have u:=u.p5.p5.p5.p5.p5.p5;.inl ⟨B,rfl,(gq.shut jZ u).mut⟩))))
 have u:=u.made cL;refine aQ rfl (aQ rfl (bW (fH ee (aZ ([]:List Int) u cS rfl rfl (dL rfl) λU _ u=>?_))));have lE:=u.p1.dX;refine bJ u cS lE (by have I:G.length=m.of.length:=(by unfold fB at B;split at B<;>simp at B;rw[<- B,pa];exact O);simp;omega) ee (λXz _ u=>aE (aA V9 (have u:=u.drew;aB eg u.p2.hb rfl (aE (aA uy (aB eg u.p2.hb rfl (aK cS u.p3.dX (zo cS u.p4.dX cK cK λY M=>?_))))))));have J:=(M _ u.p4.dX);refine bJ u cS J (by have I:G.length=m.of.length:=(by unfold fB at B;split at B<;>simp at B;rw[<- B,pa];exact O);simp;omega) ee (λagv _ u=>aE (aA rW (aT u.p2 eg (dL rfl) u.dX.one λ_ u=>aE (aA An (aT u eg (dL rfl) u.p2.dX.one λ_ u=>aE (aA kM (aT u tu (dL rfl) (rfl) λ_ u=>?_)))))))
 have u:=(((((((((((u.eM (α:=mX)).p6).drop).p6).drop).p6).drop).p3).p3).p5).p5).p5;have I:G.length=m.of.length:=by unfold fB at B;split at B<;>simp at B;rw[<- B,pa];exact O
 rw[show(m.of.length:Int).toNat=G.length from cK,s4]at u;exact .inr ⟨_,B,rfl,(gq.shut (m:=mH m G) (QJ _) u).mut⟩
structure DoK(K:hM)(d:pw)(q:Dq):Prop where
 x:∀w,K w->mG w d.x q.1
 a:∃ra,∀w,rk K d.body ra q.2.1.flat w
 b:∃rb,∀w,rk K d.eu rb q.2.2.1.flat w
 e:d.in_=q.2.2.2
def lj(K:hM)(ds:List pw)(qs:List Dq):Prop:=ds.length=qs.length/\∀(j:Nat) (d:pw) (q:Dq),ds[j]?=some d->qs[j]?=some q->DoK K d q
section
variable {K K2:hM}{ds es:List pw}{qs rs:List Dq}{d:pw}{q:Dq}
theorem lj.nil:lj K [] []:=⟨rfl,λj d q h=>by cases h⟩
theorem lj.cons(h:DoK K d q)(u:lj K ds qs):lj K (d::ds) (q::qs):=by
 refine⟨by simp[u.1],λj e r h1 h2=>?_⟩
 cases j with
 | zero=>cases h1;cases h2;exact h
 | succ j=>exact u.2 j e r h1 h2
theorem lj.head(h:lj K ds (q::qs)):∃d es,ds=d::es/\DoK K d q/\lj K es qs:=by
 cases ds with
 | nil=>have:=h.1;grind
 | cons d es=>exact⟨d,es,rfl,h.2 0 d q rfl rfl,by have:=h.1;grind,λj e r h1 h2=>h.2 (j+1) e r h1 h2⟩
theorem lj.append(h:lj K ds qs)(u:lj K es rs):lj K (ds++es) (qs++rs):=by
 refine⟨by simp[h.1,u.1],λj d q h1 h2=>?_⟩
 have B:=h.1
 by_cases E:j<ds.length
 .rw[tx E]at h1
  rw[tx cK]at h2
  exact h.2 j d q h1 h2
 rw[List.getElem?_append_right cK]at h1 h2
 rw[<- B]at h2
 exact u.2 _ d q h1 h2
theorem lj.drop(h:lj K ds qs)(k:Nat):lj K (ds.drop k) (qs.drop k):=by
 refine⟨by simp[h.1],λj d q h1 h2=>?_⟩
 rw[List.getElem?_drop]at h1 h2
 exact h.2 _ d q h1 h2
end
@[reducible] def yn(lv:Value)(B:SV)(rg:Value)(u:Nat)(f:Int):List Value:=[lv,ia B,rg,.pointer (some ⟨u,0,none⟩),.int .i64 f]
def mh(K:hM)(p:Nat)(room:Int)(t:jY):HP:=pH λu:Nat=>pH λB:SV=>pH λrg=>pH λlv=>pH λds:List pw=>fact ((∀w,K w->dA (λ_=>True) w (ia B) t.names)/\lj K ds (v9 t.cD)/\FP t.cD)
 (sep (bY p (yn lv B rg u t.fault)) (sep (jj u room t.buf) (sep (bH rg t.dP) (eG λw=>dA (λ_=>True) w lv ds))))
abbrev RTK(K:hM)(u:SV)(ds:List pw)(t:jY):Prop:=(∀w,K w->dA (λ_=>True) w (ia u) t.names)/\lj K ds (v9 t.cD)/\FP t.cD
section
variable {w w0:World}{A:Nat->Prop}{R:List HP}{p:Nat}{K:hM}{room:Int}{t:jY}
theorem QK{H1 H2 B u:HP}(E:St w0 A (sep H1 (sep H2 (sep B u))::R) w):St w0 A (H1::H2::B::u::R) w:=by
 have h1:=E.split
 have h2:=h1.p1.split
 have h3:=h2.p1.split
 exact h3.p2.p3
theorem QL{H1 H2 B u:HP}(E:St w0 A (H1::H2::B::u::R) w):St w0 A (sep H1 (sep H2 (sep B u))::R) w:=by
 have h3:=St.join E.p3.p3
 have h2:=St.join h3.p2
 exact St.join h2.p1
theorem mh.open(u:St w0 A (mh K p room t::R) w):∃B E rg lv ds,RTK K E ds t/\
  St w0 A (bY p (yn lv E rg B t.fault)::jj B room t.buf::bH rg t.dP::eG (λw=>dA (λ_=>True) w lv ds)::R) w:=by
 obtain⟨B,u⟩:=u.eh;obtain⟨E,u⟩:=u.eh;obtain⟨rg,u⟩:=u.eh;obtain⟨lv,u⟩:=u.eh;obtain⟨ds,u⟩:=u.eh;obtain⟨G,u⟩:=u.mw
 exact⟨B,E,rg,lv,ds,G,QK u⟩
theorem mh.shut{u:Nat}{B:SV}{rg lv:Value}{ds:List pw}(E:RTK K B ds t)
  (G:St w0 A (bY p (yn lv B rg u t.fault)::jj u room t.buf::bH rg t.dP::eG (λw=>dA (λ_=>True) w lv ds)::R) w):St w0 A (mh K p room t::R) w:=
 St.ek u (St.ek B (St.ek rg (St.ek lv (St.ek ds (St.ou E (QL G))))))
theorem mh.rd(h:Has (mh K p room t) w):∃B E rg lv ds,RTK K E ds t/\mR w p (yn lv E rg B t.fault)/\ua w B room t.buf/\dA (λ_=>True) w rg t.dP/\dA (λ_=>True) w lv ds:=by
 obtain⟨F,u⟩:=h.st
 obtain⟨B,E,rg,lv,ds,G,u⟩:=mh.open u
 exact⟨B,E,rg,lv,ds,G,u.hb,Dy u.p1,u.p2.dX,u.p3.eG⟩
end
structure RA where
 pv:bP
 q:Nat
 ow:Value
 ll:Value
 ps:List Ptr
@[reducible] def po(a:RA)(s:gR):List Value:=[ia a.pv.lines,ia a.pv.iO,ia a.pv.eJ,ia a.pv.threads,ia a.pv.recover,ia a.pv.dS,.int .i64 s.room,.int .i64 s.bZ,.pointer (some ⟨a.q,0,none⟩),a.ow,a.ll,.int .i64 s.fault,.int .i64 s.ja]
structure RSK(K:hM)(a:RA)(s:gR):Prop where
 pr:∀w,K w->mG w a.pv s.p
 rc:∃vz,(∀w,K w->dA (λ_=>True) w (ia a.pv.recover) vz)/\C5 K vz s.p.recover
abbrev NN(K:hM)(room:Int)(s:Ptr)(t:jY):HP:=mh K s.b room t
def qM(K:hM)(p:Nat)(m:gR):HP:=pH λa:RA=>fact (RSK K a m) (sep (bY p (po a m)) (sep (gq a.q m.mem) (sep (bH a.ow m.eS) (sep (bH a.ll a.ps) (g8 (NN K m.room) a.ps m.l)))))
section
variable {w w' w0:World}{A:Nat->Prop}{R:List HP}{p:Nat}{K:hM}{m:gR}{a:RA}{i:Nat}{tp:Ptr}{t:jY}
theorem qM.open(u:St w0 A (qM K p m::R) w):∃a,RSK K a m/\St w0 A (bY p (po a m)::gq a.q m.mem::bH a.ow m.eS::bH a.ll a.ps::g8 (NN K m.room) a.ps m.l::R) w:=by
 obtain⟨a,u⟩:=u.eh;obtain⟨B,u⟩:=u.mw;exact⟨a,B,sL u⟩
theorem qM.shut(u:RSK K a m)(B:St w0 A (bY p (po a m)::gq a.q m.mem::bH a.ow m.eS::bH a.ll a.ps::g8 (NN K m.room) a.ps m.l::R) w):St w0 A (qM K p m::R) w:=
 St.ek a (St.ou u (sM B))
structure ayy(K:hM)(w:World)(p:Nat)(m:gR)(a:RA):Prop where
 uk:RSK K a m
 b:mR w p (po a m)
 mem:Bn w a.q m.mem
 ow:dA (λ_=>True) w a.ow m.eS
 ll:dA (λ_=>True) w a.ll a.ps
 th:∀(i:Nat) (s:Ptr) (t:jY),a.ps[i]?=some s->m.l[i]?=some t->Has (mh K s.b m.room t) w
 len:a.ps.length=m.l.length
theorem qM.rd(h:Has (qM K p m) w):∃a,ayy K w p m a:=by
 obtain⟨F,u⟩:=h.st
 obtain⟨a,B,u⟩:=qM.open u
 exact⟨a,B,u.hb,FV (St.has u.p1),u.p2.dX,u.p3.dX,λi s t h1 h2=>u.p4.ahL h1 h2 (Φ:=λw=>Has (mh K s.b m.room t) w) λh=>⟨_,h⟩,u.p4.iX⟩
end
variable (w:World) (K:Value->hM)
def S221(B G O M:Value):Prop:=
 iA 82 B G λa=>lA 164 a w λb=>aL 164 w λc d=>sA 164 c b d λe=>fA 164 c 0 λf=>lA 3 f e λg=>bB .eql 3 g (i 1) λh=>cV h (fA 164 c 1 λj=>lA 3 j e λk=>
 K (.tuple #[k,(i 0)]) e) (fA 164 c 0 λl=>lA 3 l e λn=>bB .eql 3 n (i 2) λo=>cV o (fA 164 c 2 λp=>lA 9 p e λq=>cF 123 [O,q] e λr s=>iA 41 M r λt=>
 lA 3 t s λu=>K (.tuple #[u,(i 0)]) s) (bB .add 3 G (i 1) λv=>cF 221 [B,v,O,M] e λx y=>xT x 0 λz=>xT x 1 λY=>bB .neq 31 Y (i 0) λab=>cV ab (
 K (.tuple #[(i 0),Y]) y) (fA 164 c 0 λac=>lA 3 ac y λad=>cF 273 [ad] y λae E=>bB .eql 3 ae (i 1) λag=>cV ag (fA 164 c 0 λah=>lA 3 ah E λai=>cF 274 [ai,z] E λW ak=>
 xT W 0 λal=>xT W 1 λam=>K (.tuple #[al,am]) ak) (bB .add 3 G (i 1) λan=>cF 251 [B,an] E λao ap=>cF 221 [B,ao,O,M] ap λZ J=>xT Z 0 λI=>
 xT Z 1 λU=>bB .neq 31 U (i 0) λav=>cV av (K (.tuple #[(i 0),U]) J) (fA 164 c 0 λaw=>lA 3 aw J λax=>cF 275 [ax,z,I] J λV az=>xT V 0 λa0=>xT V 1 λa1=>
 K (.tuple #[a0,a1]) az)))))
theorem aeM(u B G E:Value)(h:S221 w K u B G E):CR 221 [u,B,G,E] w K:=
 qO 77 (λ_=>.nil) 768 [.tmp 8,.tmp 9] Tryz.func221 h
theorem ag4:PL 146:=dJ Tryz.func146
theorem aar:PL 221:=dJ Tryz.func221
end Go.Proofs.YtpdlpabnlkofmaaGreatDoor
namespace Go.Proofs.YtpdlpabnlkofmaaGreatDoor
open Go.Fw
theorem Ex.Tg{t:Ex}(h:t.wf)(u:kids t.root.op=0):t=.leaf t.root:=by
 have:=Ex.o0 h
 cases t with
 | leaf x=>rfl
 | un x a=>rw[u]at this;cases this
 | bin x a b=>rw[u]at this;cases this
theorem Ex.ag5{t:Ex}(h:t.wf)(u:kids t.root.op=1):∃a,t=.un t.root a:=by
 have:=Ex.o0 h
 cases t with
 | leaf x=>rw[u]at this;cases this
 | un x a=>exact⟨a,rfl⟩
 | bin x a b=>rw[u]at this;cases this
theorem Ex.aas{t:Ex}(h:t.wf)(u:kids t.root.op=2):∃a b,t=.bin t.root a b:=by
 have:=Ex.o0 h
 cases t with
 | leaf x=>rw[u]at this;cases this
 | un x a=>rw[u]at this;cases this
 | bin x a b=>exact⟨a,b,rfl⟩
theorem akX{k:Int}(h:kids k=1):Gj k=0:=by
 unfold kids at h;grind[Gj]
def By.NP{xs:List cA}{i:Int}{t:Ex}(h:By xs i t){y:cA}(u:y∈t.flat):y∈xs:=by
 obtain⟨_,_,r,h⟩:=h
 exact List.mem_of_mem_drop (show y∈xs.drop i.toNat by grind)
theorem C221(lv nv uv:Value)(xs:List cA)(ns:List ByteArray)(nums:List Int)(i:Int)(t:Ex)(N:Nat)(w:World)(hL:dA (λ_=>True) w lv xs)(hN:dA (λ_=>True) w nv ns)(hU:dA (λ_=>True) w uv nums)(hn:xs.length<=1048576)(Bw:ns.length<=1048576)(Y:ns.length=nums.length)(kC:yu nums)(V:∀y∈xs,y.op=2->0<=cU ns y.name)(J:∀y∈xs,eU y.n)(O:By xs i t)(hNt:t.size<N) :
   CR 221 [lv,hZ i,nv,uv] w (λv w'=>v=.tuple #[hZ (t.val ns nums).1,hZ (t.val ns nums).2]/\Ext w w'):=by
 obtain⟨e,G⟩:∃e,e=t.root:=⟨_,rfl⟩;have hxe:xs[i.toNat]?=some e:=by rw[G];exact O.root.1
 have hem:=kO hxe;have hri:=O.root.2;have hie:=O.end;have OQ:=Ex.o0 O.2.1;rw[<- G]at OQ;have WW:=tU e.op;have hi0:=O.1;have E:=O.2.1;have B:=St.start w;refine aeM _ _ _ _ _ _ ?_;unfold S221;refine aO gV (hL.ext B.aG) cK hxe (λq hq=>aD rZ hq (aM B xX λb _ B=>aJ (x:=e) B rZ rfl rfl λ_ B=>aA eY (aB bL B.hb rfl (aH (aC (λc1=>?_) λc1=>?_)))))
 .refine aA jm (aB bL B.hb rfl ?_);have ht:=Ex.Tg E (by rw[<- G,c1];rfl);rw[ht,<- G];refine⟨?_,B.drop.aG⟩;show _=Bh #[hZ (if e.op=2 then _ else e.n),hZ 0];rw[ej cK]
 refine aA eY (aB bL B.hb rfl (aH (aC (λc2=>?_) λc2=>?_)))
 .refine aA gj (aB gv B.hb rfl (aV rS B (C123 _ ns _ _ (hN.ext B.aG) Bw) λ_ W B=>?_));obtain⟨j,hj,B2,_⟩:=lV (dK.1 (V e hem c2));have DZ:=(kE.1 B2).1;obtain⟨u,hu⟩:=gx nums (i:=(cU ns e.name).toNat) cK;refine aO cS (hU.ext B.aG) cK hu (λq2 Ke=>aD bL Ke ?_);have ht:=Ex.Tg E (by rw[<- G,c2];rfl);rw[ht,<- G];refine⟨?_,B.drop.aG⟩;show _=Bh #[hZ (if e.op=2 then nums.getD (cU ns e.name).toNat 0 else e.n),hZ 0];rw[ew c2,ob,hu];rfl
 have hk0:kids e.op=1\/kids e.op=2:=by
  have:kids e.op≠0:=λh=>by unfold kids at h;split at h;omega;split at h;omega;split at h;omega;omega
  omega
 obtain⟨a,I⟩:=gx t.eB (i:=0) cK;have hka:=Ex.tV E (kO I);have M:=O.kid I;have Vm:=M.end;rw[show i+1+((qw t.eB 0:Nat):Int)=i+1 by simp[qw]]at M Vm;refine aN cK (aV aar B (C221 lv nv uv xs ns nums _ a (N-1) _ (hL.ext B.aG) (hN.ext B.aG) (hU.ext B.aG) hn Bw Y kC V J M cK) λ_ W B=>aQ rfl (aQ rfl (bW (aC (λZ=>?_) λZ=>?_))))
 .refine⟨?_,B.drop.aG⟩
  rcases hk0 with h|h
  .obtain⟨a2,ht⟩:=Ex.ag5 E (by rw[<- G];exact h);rw[ht]at I |-;cases I
   rw[Ex.FM,ej Z]
  obtain⟨a2,b2,ht⟩:=Ex.aas E (by rw[<- G];exact h);rw[ht]at I |-;cases I
  rw[Ex.Bl,ej Z]
 have hao:=Ex.QG (ns:=ns) kC a (λy hy=>J y (M.NP hy));refine aA eY (aB bL B.hb rfl (aV KD B (C273 _ _) λ_ W B=>aH (aC (λc4=>?_) λc4=>?_)))
 .refine aA eY (aB bL B.hb rfl (aV am1 B (C274 _ _ _) λ_ W B=>aQ rfl (aQ rfl ?_)));refine⟨?_,B.drop.aG⟩;obtain⟨a2,ht⟩:=Ex.ag5 E (by rw[<- G];exact c4);rw[ht]at I |-;cases I
  rw[Ex.FM,ew (u1.1 Z),<- G,akX c4]
 have xf:kids e.op=2:=cK
 refine aN cK (aV KB B (C251 _ _ _ (xs.length+1) _ (hL.ext B.aG) cK cK cK) λ_ W B=>?_);rw[Vm.1];obtain⟨b',hb⟩:∃b,t.eB[1]?=some b:=⟨_,la cK⟩;have hkb':=Ex.tV E (kO hb);have U:=O.kid hb;rw[uI I,show i+1+((qw t.eB 0+a.size:Nat):Int)=i+1+(a.size:Int)by simp[qw]]at U;refine aV aar B (C221 lv nv uv xs ns nums _ b' (N-1) _ (hL.ext B.aG) (hN.ext B.aG) (hU.ext B.aG) hn Bw Y kC V J U cK) (λ_ W B=>aQ rfl (aQ rfl ?_));obtain⟨a2,b2,ht⟩:=Ex.aas E (by rw[<- G];exact xf);rw[ht]at I hb |-
 cases I;cases hb
 rw[Ex.Bl,ew (u1.1 Z),<- G];refine bW (aC (λc5=>?_) λc5=>?_)
 .refine⟨?_,B.drop.aG⟩;rw[ej c5]
 have hbo:=Ex.QG (ns:=ns) kC b' (λy hy=>J y (U.NP hy));refine aA eY (aB bL B.hb rfl (aV am2 B (C275 _ _ _ _ hao hbo) λ_ W B=>aQ rfl (aQ rfl ?_)));refine⟨?_,B.drop.aG⟩;rw[ew (u1.1 c5)]
termination_by N
decreasing_by all_goals omega
def C146(lv M G:Value)(xs:List cA)(ns:List ByteArray)(nums:List Int)(w:World)(W:dA (λ_=>True) w lv xs)(I:dA (λ_=>True) w M ns)(Z:dA (λ_=>True) w G nums)(Y:xs.length<=1048576)(V:ns.length<=1048576)(RP:∀x∈xs,x.name.size<=1048576)(kC:yu nums) :
  CR 146 [lv,M,G] w (λv w'=>v=.tuple #[hZ (pO ns nums xs).1,hZ (pO ns nums xs).2]/\Ext w w'):=by
 have u:=St.start w;refine eX Tryz.func146 ?_;refine aK iy I (aK cS Z (bW (aC (λc1=>?_) λc1=>?_)))
 .have B:pO ns nums xs=(0,1):=by unfold pO;rw[ej cK]
  rw[B];exact⟨rfl,u.aG⟩
 refine dQ amM (C220 _ _ xs ns _ W I Y V RP) ?_;rintro _ _ ⟨s,rfl,cL⟩;have u:=(u.made cL).drop;refine aQ rfl (aQ rfl (bW (aC (λO=>?_) λO=>?_)))
 .have B:pO ns nums xs=(0,kV ns xs):=by unfold pO;rw[ew cK,ej O]
  rw[B];exact⟨rfl,u.aG⟩
 have J:kV ns xs=0:=u1.1 O;obtain⟨t,hT,B,U,E⟩:=UW (nums:=nums) J cK;refine aV aar u (C221 lv M G xs ns nums _ t (t.size+1) _ (W.ext u.aG) (I.ext u.aG) (Z.ext u.aG) Y V cK kC U E hT cK) (λ_ he u=>aQ rfl (aQ rfl ?_));rw[B];exact⟨rfl,u.aG⟩
def Bk.ayz{L:List bQ}{k:Nat}{x:bQ}{a c r:Bk}(h:L.drop k=(Bk.cons x a c r).flat)(J:(Bk.cons x a c r).str){i j e:Int}(hi:i=k+1)(O:j=k+1+x.body)(Y:e=k+1+x.body+x.eu) :
  L[k]?=some x/\(L.take j.toNat).drop i.toNat=a.flat/\(L.take e.toNat).drop j.toNat=c.flat/\L.drop e.toNat=r.flat/\e.toNat<=L.length:=by
 obtain⟨U,W,_⟩:=J
 have M:=a.cY
 have V:=c.cY
 have h1:L.drop (k+1)=a.flat++(c.flat++r.flat):=by rw[<- sW,h];rfl
 have h2:L.drop (k+1+a.flat.length)=c.flat++r.flat:=by rw[<- sW,h1,DF]
 have h3:L.drop (k+1+a.flat.length+c.flat.length)=r.flat:=by rw[<- sW,h2,DF]
 have B:=gN List.length h
 have E:(Bk.cons x a c r).flat.length=1+(a.flat.length+(c.flat.length+r.flat.length)):=by simp[Bk.flat];omega
 rw[E,qa]at B
 have I:i.toNat=k+1:=cK
 have u:j.toNat=k+1+a.flat.length:=cK
 have G:e.toNat=k+1+a.flat.length+c.flat.length:=cK
 refine⟨?_,?_,?_,dD,cK⟩
 .have:(L.drop k)[0]?=some x:=by rw[h];rfl
  grind
 .rw[SM,I,u,h1,show k+1+a.flat.length-(k+1)=a.flat.length by omega,Kz]
 rw[SM,u,G,h2,show k+1+a.flat.length+c.flat.length-(k+1+a.flat.length)=c.flat.length by omega,Kz]
theorem C128(K:hM)(sv:SV)(rows:List bE)(b:Bk)(w:World)(G:∀w',Ext w w'->K w')(hb:b.str)(RQ:∀w,rk K sv rows b.flat w)(G6:b.flat.length<=100000) :
   CR 128 [ia sv] w (λv w'=>∃ds,lj K ds (DK false b)/\lg (bH v ds) w w'):=by
 have u:=St.start w;refine aey _ _ _ ?_;unfold S128;have I:∀w',K w'->dA (λ_=>True) w' (ia sv) rows:=λw' h=>(RQ w').2 h;have yS:∀w',K w'->gM rows b.flat w':=λw' h=>(RQ w').1 w' h;have Gq:rows.length=b.flat.length:=(yS _ (G _ (Ext.refl _))).1;refine aZ ([]:List pw) u ny rfl rfl (dL rfl) (λs8 O u=>?_);refine⟨λmm o y w'=>∃(k:Nat) (ds:List pw) (qs:List Dq) (r:Bk),y=hZ (k:Int)/\mm=b.flat.length-k/\r.str/\b.flat.drop k=r.flat/\DK false b=qs++DK false r/\lj K ds qs/\ds.length<=k/\k<=b.flat.length/\St w bD [bH o ds] w',⟨_,0,[],[],b,rfl,rfl,hb,rfl,rfl,lj.nil,Nat.le_refl _,l1 _,u⟩,?_⟩
 rintro mm o _ _ ⟨k,ds,qs,r,rfl,rfl,hr,Pz,Gf,U,Hb,hk,u⟩ _;refine aK fq (I _ (G _ u.aG)) (aR (aC (λc=>?_) λc=>?_));rotate_left
 .have h0:r.flat.length=0:=by rw[<- Pz,qa];omega
  have hrn:r=.nil:=by
   cases r with
   | nil=>rfl
   | cons _ _ _ _=>simp[Bk.flat]at h0
  subst hrn;exact⟨ds,by rw[Gf];show lj K ds (qs++[]);rw[o6];exact U,u.fresh⟩
 obtain⟨x,a,c',r',rfl⟩:=Bk.Dt (t:=r) (by rw[<- Pz,qa];omega);obtain⟨g1,g2,g3,g4,sa,sc,sr⟩:=id hr;obtain⟨e1,e2,e3,e4,e5⟩:=Bk.ayz Pz hr (i:=(k:Int)+1) (j:=(k:Int)+1+x.body) (e:=(k:Int)+1+x.body+x.eu) rfl rfl rfl;obtain⟨Z,Un⟩:∃Z,rows[k]?=some Z:=⟨_,la (by have:=(kE.1 e1).1;omega)⟩;have Y:∀w',K w'->mG w' Z x:=λw' h=>(yS w' h).2 k Z x Un e1;obtain⟨J,M,rfl,_,_⟩:=jg (Y _ (G _ u.aG));refine aO fq (I _ (G _ u.aG)) cK (by rw[pQ];exact Un) (λq hq=>aD eL hq (aM u jw λb5 _ u=>aJ (x:=(⟨x.kind,x.eD,x.name,J,M,x.n,x.body,x.eu,x.at_⟩:bE)) u eL rfl rfl λ_ u=>aN cK (aA iW (aB (v:=hZ x.body) bL u.hb rfl (aN cK (aA iF (aB (v:=hZ x.eu) bL u.hb rfl (aN cK (have u:=u.drew;aD (x:=(⟨x.kind,x.eD,x.name,J,M,x.n,x.body,x.eu,x.at_⟩:bE)) eL u.At (aN cK ?_))))))))))
 refine ox fq (I _ (G _ u.aG)) cK cK cK (λs32 W=>?_);obtain⟨B,rfl⟩:=(W _ (I _ (G _ u.aG))).fI;refine ox fq (I _ (G _ u.aG)) cK cK cK (λs36 V=>?_);obtain⟨E,rfl⟩:=(V _ (I _ (G _ u.aG))).fI;refine pop (J0 x.kind x.eD x.name J.a J.n J.cap M.a M.n M.cap x.n x.body x.eu x.at_ B.a B.n B.cap E.a E.n E.cap) (aZ ([⟨(⟨x.kind,x.eD,x.name,J,M,x.n,x.body,x.eu,x.at_⟩:bE),B,E,false⟩]:List pw) u ny rfl rfl (dL rfl) λs38 _ u=>?_);have ayA:=u.dX;refine bJ u.p2 ny ayA (by rw[mf];omega) ee (λs39 _ u=>⟨_,?_,((k:Int)+1+x.body+x.eu).toNat,ds++[⟨(⟨x.kind,x.eD,x.name,J,M,x.n,x.body,x.eu,x.at_⟩:bE),B,E,false⟩],qs++[(x,a,c',false)],r',gN (nf .i64) cK,rfl,sr,e4,by rw[Gf];simp[DK],U.append (lj.cons ⟨Y,⟨_,λO=>⟨λw' h=>?_,λh=>W O (I O h)⟩⟩,⟨_,λO=>⟨λw' h=>?_,λh=>V O (I O h)⟩⟩,rfl⟩ lj.nil),?_,e5,u.p1.drop.p1.drop⟩)
 .omega
 .have:=gM.cut (i:=((k:Int)+1).toNat) (j:=((k:Int)+1+x.body).toNat) (yS w' h);rw[e2]at this;exact this
 .have:=gM.cut (i:=((k:Int)+1+x.body).toNat) (j:=((k:Int)+1+x.body+x.eu).toNat) (yS w' h);rw[e3]at this;exact this
 rw[lY,mf];omega
def C203(p:Nat)(t:jY)(U:Value)(J:SV)(rg:Value)(W:Nat)(lv:Value)(xs:List cA)(w:World)(O:mR w p (yn U J rg W t.fault))(Z:dA (λ_=>True) w (ia J) t.names)(Y:dA (λ_=>True) w rg t.dP)(M:dA (λ_=>True) w lv xs)
  (hn:xs.length<=1048576) (V:t.names.length<=1048576) (G:∀x∈xs,x.name.size<=1000) (kC:yu t.dP):CR 203 [.pointer (some ⟨p,0,none⟩),lv] w (λv w'=>v=.tuple #[hZ (eI t xs).1,.bool (eI t xs).2]/\Ext w w'):=by
 have E:=O.cell (o:=1) rfl;have B:=O.cell (o:=2) rfl;have u:=St.start w;refine oH Tryz.func203 (pl:=aym) ?_;refine aK gV M (aH (aC (λc=>?_) λc=>?_))
 .have I:eI t xs=(0,true):=by unfold eI;rw[ew cK]
  rw[I];exact⟨rfl,u.aG⟩
 have I:eI t xs=((pO t.names t.dP xs).1,decide ((pO t.names t.dP xs).2=0)):=by unfold eI;rw[ej cK]
 have u:=u.drew;refine aE (aA KW (bM ji (E.ext u.aG) (aE (aA KX (bM eg (B.ext u.aG) (aV ag4 u (C146 _ _ _ xs t.names t.dP _ (M.ext u.aG) (Z.ext u.aG) (Y.ext u.aG) hn V (λx h=>wc (G x h) ee) kC) λ_ he u=>aQ rfl (aQ rfl (aH ?_))))))));rw[I];exact⟨rfl,u.aG⟩
def C204(K:hM)(p:Nat)(room:Int)(t:jY)(F:Nat->Prop)(s:ByteArray)(n:Int)(w:World)(I:(mh K p room t).p w F)(E:∀w',gu F w w'->K w')(G:0<=cU t.names s)(U:t.dP.length=t.names.length)(W:t.names.length<=1000) :
   CR 204 [.pointer (some ⟨p,0,none⟩),.string s,hZ n] w (λv w'=>v=.tuple #[]/\mP F (mh K p room (pe t s n)) w w'):=by
 obtain⟨j,Z,J,_⟩:=lV (dK.1 G);have V:=(kE.1 J).1;have u:=St.begin I;refine eX Tryz.func204 ?_;obtain⟨O,Y,rg,M,ds,B,u⟩:=mh.open u;exact aE (aA KW (aB ji u.hb rfl (aV rS u (C123 _ t.names s _ (B.1 _ (E _ u.aG)) cK) λ_ _ u=>aE (aA KX (aB eg u.hb rfl (dR u.p2 cS cK cK λ_ h=>js (n:Int) u.p2 bL h cK λ_ u=>have u:=mh.shut (t:=pe t s n) B u.p3.p1.p3.p3;⟨rfl,u.mut⟩))))))
def C171(K:hM)(p:Nat)(room:Int)(t:jY)(F:Nat->Prop)(lv:Value)(es:List pw)(qs rest:List Dq)(Y:Dq)(p2:PD)(w:World)(hF:(mh K p room t).p w F)(hK:∀w',gu F w w'->K w')(hL:∀w',gu F w w'->dA (λ_=>True) w' lv es)(Vl:lj K es qs)(W:v9 t.cD=Y::rest)(E:v9 p2=qs++rest)(V:FP p2)(Lh:es.length<=100000)(Gq:rest.length<=100000) :
   CR 171 [.pointer (some ⟨p,0,none⟩),lv] w (λv w'=>v=.tuple #[]/\mP F (mh K p room {t with cD:=p2}) w w'):=by
 have u:=St.begin hF;refine eX Tryz.func171 ?_;obtain⟨bp,nv,rg,QM,ds,O,u⟩:=mh.open u;have M:=O.2.1;rw[W]at M;obtain⟨U,I,rfl,_,B⟩:=M.head;have Hb:=B.1;refine aZ ([]:List pw) u ny rfl rfl (dL rfl) (λs5 _ u=>bJ u ny (hL _ u.aG) (by simp;omega) ee λs7 _ u=>aE (aA kN (aB uz u.p1.hb rfl (BK ny u.p4.eG cK (by rw[oj];omega) λs13 G=>bJ u ny G (by simp;omega) ee λZ _ u=>aE (aA kN (aT u.p1 uz (dL rfl) u.dX.one λ_ u=>?_))))));have u:=u.p4.drop.p1.freeze.p3.p3.p3
 have e:([]++es++(U::I).drop (1:Int).toNat)=es++I:=rfl;rw[e]at u;have J:RTK K nv (es++I) {t with cD:=p2}:=⟨O.1,by rw[E];exact Vl.append B,V⟩;exact⟨rfl,(mh.shut (t:={t with cD:=p2}) J u).mut⟩
theorem Co{b:Bk}{n:Nat}(h:b.len<=n):∀{e:Bool},(DK e b).length<=n:=by
 intro e
 have:∀(b:Bk) (e:Bool),(DK e b).length<=b.len:=by
  intro b
  induction b with
  | nil=>intro e;exact l1 _
  | cons x a c r _ _ u=>intro e;have:=u false;simp only[DK,oj,Bk.len];omega
 grind
theorem C129(K:hM)(p:Nat)(room:Int)(t tR:jY)(n:Nat)(cs ls:List ByteArray)(F:Nat->Prop)(w:World)(hF:(mh K p room t).p w F)(M:∀w',gu F w w'->K w')(kC:yh cs ls t)(hto:BA t)(hg:tf n t=some tR) :
   CR 129 [.pointer (some ⟨p,0,none⟩)] w (λv w'=>v=.tuple #[]/\mP F (mh K p room tR) w w'):=by
 have u:=St.begin hF;refine aez _ _ _ ?_;unfold S129;refine⟨λmm w'=>∃B:jY,tf mm B=some tR/\yh cs ls B/\BA B/\St w F [mh K p room B] w',⟨n,t,hg,kC,hto,u⟩,?_⟩;rintro mm w1 ⟨B,Bz,xy,akY,u⟩ _;obtain⟨k,rfl⟩:=HD Bz;have EW:=xy.cl;have Y8:=xy.nb;have Gq:=xy.rl;have hfc:=FQ B.cD;obtain⟨bp,nv,rg,QM,ds,E,u⟩:=mh.open u;have Hb:=E.2.1.1;refine aE (aA kN (aB uz u.hb rfl (aK ny u.p3.eG (cO (aC (λc0=>?_) λc0=>?_)))));rotate_left
 .have eE:pb B.cD=none:=by
   cases h:pb B.cD with
   | none=>rfl
   | some q=>obtain⟨x,a,b⟩:=q;obtain⟨e,h2⟩:=Bm h;rw[h2,oj]at Hb;omega
  rw[pf Bz (YZ eE)];exact⟨rfl,(mh.shut E u).mut⟩
 obtain⟨x,a,b,Ce⟩:∃x a b,pb B.cD=some (x,a,b):=by
  cases h:pb B.cD with
  | none=>have h2:=HA xy.p h;have h3:(v9 B.cD).length=0:=(by rw[h2];rfl);omega
  | some q=>exact⟨q.1,q.2.1,q.2.2,rfl⟩
 obtain⟨en,tS⟩:=Bm Ce;have QN:(v9 (gA B.cD)).length<=100000:=by rw[tS,oj]at hfc;omega
 have xf:=E.2.1;rw[tS]at xf;obtain⟨d0,pZ,rfl,yS,hds⟩:=xf.head;have hKn:K w1:=M _ u.aG;obtain⟨dx,G,U,dn⟩:=d0;obtain⟨I,J,rfl,_,_⟩:=jg (yS.x _ hKn);have zX:∀w,K w->mG w (⟨x.kind,x.eD,x.name,I,J,x.n,x.body,x.eu,x.at_⟩:bE) x:=yS.x
 have PX:∀w,K w->dA (λ_=>True) w (ia I) x.e/\dA (λ_=>True) w (ia J) x.f:=λw hw=>by
  obtain⟨_,_,h4,h5,h6⟩:=jg (zX w hw);cases h4
  exact⟨h5,h6⟩
 obtain⟨ra,hda⟩:=yS.a;obtain⟨rb,TO⟩:=yS.b;obtain⟨hx,sa,sb,aa,ab,Kc,hb2,TP,r,e,p',Bu,sr,ar⟩:=xy.top Ce;have iT:(Bk.cons x a b r).str:=xy.p.st _ (by rw[Bu];exact oD ..);have G6:b.len<=40:=iT.2.2.2.1;have hxe:=hx.e;have hxn:=hx.nm;refine aE (aA kN (aB uz u.hb rfl (aO ny u.p3.eG cK rfl λq hq=>aD KZ hq (aM u Rx λb2 _ u=>aJ (x:=(⟨⟨x.kind,x.eD,x.name,I,J,x.n,x.body,x.eu,x.at_⟩,G,U,dn⟩:pw)) u KZ rfl rfl λ_ u=>aA oU (aA iV (aB (v:=ia I) ju u.hb rfl (aV NJ u (C203 p B QM nv rg bp _ x.e _ u.p1.hb (E.1 _ (M _ u.aG)) u.p3.dX (PX _ (M _ u.aG)).1 cK cK hxn.1 akY.r) λ_ he u=>aQ rfl (aQ rfl ?_))))))))
 refine aA oU (aA j8 (aB (v:=ia J) ju u.hb rfl (aV NJ u (C203 p B QM nv rg bp _ x.f _ u.p1.hb (E.1 _ (M _ u.aG)) u.p3.dX (PX _ (M _ u.aG)).2 cK cK hxn.2 akY.r) λw5 he u=>aQ rfl (aQ rfl ?_))));refine⟨λjv w'=>jv=.bool (!((eI B x.e).2&&(eI B x.f).2))/\w'=w5,?_,?_⟩
 .exact bR (aY (λc=>⟨vb (by rw[Bool.not_eq_true']at c;rw[c];rfl),rfl⟩) λc=>bR ⟨vb (by rw[Bool.not_eq_false']at c;rw[c];rfl),rfl⟩)
 rintro _ w6 ⟨rfl,rfl⟩ _;refine aY (λc1=>?_) (λc1=>?_)
 .refine aE (aA wI (aT u.p1 bL (dL rfl) rfl λw7 u=>?_))
  have Ox:qH B=({B with fault:=2},false):=by
   cases h1:(eI B x.e).2 with
   | false=>exact Y0 Ce h1
   | true=>exact Y3 Ce (by rw[h1]at c1;simpa using c1)
  rw[pf Bz Ox];have u:=u.p1.drop;exact⟨rfl,(mh.shut (t:={B with fault:=2}) E u).mut⟩
 have T7:(eI B x.e).2=true/\(eI B x.f).2=true:=by simpa using c1
 have hgk:=Y4 Ce T7.1 T7.2
 have vX:∀(t2:jY) (w':World),qG B x a b (eI B x.e).1=(t2,true)->St w F [mh K p room t2,bY b2 (j0 (⟨⟨x.kind,x.eD,x.name,I,J,x.n,x.body,x.eu,x.at_⟩,G,U,dn⟩:pw))] w'->∃m',m'<k+1/\∃B:jY,tf m' B=some tR/\yh cs ls B/\BA B/\St w F [mh K p room B] w':=λt2 w' h3 h4=>by
  have h5:=hgk.trans h3;obtain⟨h6,h7,_⟩:=DB xy;have h8:=akY.goS;rw[h5]at h6 h7 h8;exact⟨k,Nat.lt_succ_self k,t2,SA Bz h5,h6,h8,h4.p1.drop⟩
 have C3:=E.2.2.pop;refine aA oU (aA dN (aB (v:=hZ x.kind) bL u.hb rfl (aH (aC (λk1=>?_) λk1=>?_))))
 .refine aA oU (aA iE (aB (v:=.string x.eD) gv u.hb rfl (have u:=mh.shut (t:=B) E u.p4.p4.p4.p4;bF ag0 u (H':=λ_=>mh K p room (pe B x.eD (eI B x.e).1)) (Φ:=λ_ _=>True) (λY W O=>?_) ?_)))
  .exact(C204 K p room B Y x.eD _ _ W (λw' hc=>M w' (O w' hc).aG) (hx.rg (.inl k1)) Gq Y8).mono λ_ _ r=>r.mono λ_ _ h=>⟨trivial,h.2⟩
  rintro _ w8 _ u;refine bF H8 u (H':=λ_=>mh K p room {pe B x.eD (eI B x.e).1 with cD:=(gA B.cD)}) (Φ:=λ_ _=>True) (λY W O=>?_) ?_
  .exact(C171 K p room (pe B x.eD (eI B x.e).1) Y (.slice none 0 0) [] [] _ _ (gA B.cD) _ W (λw' hc=>M w' (O w' hc).aG) (λ_ _=>dA.nil _ _) lj.nil tS rfl C3 (l1 _) QN).mono λ_ _ r=>r.mono λ_ _ h=>⟨trivial,h.2⟩
  rintro _ w9 _ u;exact vX _ _ (YY k1) u
 refine aH (aC (λk2=>?_) λk2=>?_)
 .refine bW (aC (λc=>?_) λc=>?_)
  .refine aA La (aB (v:=ia G) jN u.hb rfl (have u:=mh.shut (t:=B) E u.p4.p4.p4.p4;dQ NI (C128 K G _ a _ (λ_ e=>M _ (u.aG.then e)) sa hda (by have:=Bk.cY a;omega)) ?_));rintro s20 w8 ⟨aav,Z,cL⟩;have u:=u.made cL;have ayD:aav.length<=40:=by have:=Z.1;have:=Co (b:=a) (n:=40) cK (e:=false);omega
   have u:=u.p1;refine bF H8 u (H':=λ_=>mh K p room {B with cD:=(jr a false (gA B.cD))}) (Φ:=λ_ _=>True) (λY W O=>?_) ?_
   .exact(C171 K p room B Y s20 aav (DK false a) _ _ (jr a false (gA B.cD)) _ W (λw' hc=>M w' (O w' hc).aG) (λw' hc=>(O w' hc).dX) Z tS u6 C3.push cK QN).mono λ_ _ r=>r.mono λ_ _ h=>⟨trivial,h.2⟩
   rintro _ w9 _ u;exact vX _ _ (by rw[Jy k2,ej c]) u.p1.drop
  refine aA Wj (aB (v:=ia U) jN u.hb rfl (have u:=mh.shut (t:=B) E u.p4.p4.p4.p4;dQ NI (C128 K U _ b _ (λ_ e=>M _ (u.aG.then e)) sb TO (by have:=Bk.cY b;omega)) ?_));rintro s20 w8 ⟨aav,Z,cL⟩;have u:=u.made cL;have ayD:aav.length<=40:=by have:=Z.1;have:=Co (b:=b) (n:=40) cK (e:=false);omega
  have u:=u.p1;refine bF H8 u (H':=λ_=>mh K p room {B with cD:=(jr b false (gA B.cD))}) (Φ:=λ_ _=>True) (λY W O=>?_) ?_
  .exact(C171 K p room B Y s20 aav (DK false b) _ _ (jr b false (gA B.cD)) _ W (λw' hc=>M w' (O w' hc).aG) (λw' hc=>(O w' hc).dX) Z tS u6 C3.push cK QN).mono λ_ _ r=>r.mono λ_ _ h=>⟨trivial,h.2⟩
  rintro _ w9 _ u;exact vX _ _ (by rw[Jy k2,ew (u1.1 c)]) u.p1.drop
 refine aH (aC (λk3=>?_) λk3=>?_)
 .have hxn0:=hx.n k3
  have YP:b=.nil:=by
   have h1:b.len=0:=by have:=hx.el cK;omega
   cases b with
   | nil=>rfl
   | cons _ _ _ _=>simp[Bk.len]at h1
  refine aZ ([]:List pw) u ny rfl rfl (dL rfl) (λs76 _ u=>?_);refine⟨λlv7 w'=>∃(V:List pw) (qs7:List Dq),lj K V qs7/\V.length<=41/\v9 (mI x a B.cD)=qs7++v9 (gA B.cD)/\St w F [bH lv7 V,bY b2 (j0 (⟨⟨x.kind,x.eD,x.name,I,J,x.n,x.body,x.eu,x.at_⟩,G,U,dn⟩:pw)),bY p (yn QM nv rg bp B.fault),jj bp room B.buf,bH rg B.dP,eG λw=>dA (λ_=>True) w QM ((⟨⟨x.kind,x.eD,x.name,I,J,x.n,x.body,x.eu,x.at_⟩,G,U,dn⟩:pw)::pZ)] w',?_,?_⟩
  .refine aA oU (aA jO (aB (v:=hZ x.n) bL u.p1.hb rfl (cO (aC (λc=>?_) λc=>?_))));rotate_left
   .exact⟨[],[],lj.nil,l1 _,by unfold mI;rw[ew cK];rfl,u⟩
   refine aD (x:=(⟨⟨x.kind,x.eD,x.name,I,J,x.n,x.body,x.eu,x.at_⟩,G,U,dn⟩:pw)) KZ u.p1.At (aM u Rx λb8 w15 u=>aJ (x:=(⟨⟨x.kind,x.eD,x.name,I,J,x.n,x.body,x.eu,x.at_⟩,G,U,dn⟩:pw)) u KZ rfl rfl λw16 u=>aA oU (aA jO (aB (v:=hZ x.n) bL u.p2.hb rfl (fg cK (aA oU (aA jO (aT u bL (dL rfl) rfl λ_ u=>aA Lb (aT u Ak (dL rfl) rfl λ_ u=>have u:=u.enc (cs':=j0 (⟨⟨x.kind,x.eD,x.name,I,J,x.n-1,x.body,x.eu,x.at_⟩,G,U,true⟩:pw)) rfl;aA La ?_))))))))
   refine aB (v:=ia G) jN u.p2.hb rfl (dQ NI (C128 K G _ a _ (λ_ e=>M _ (u.aG.then e)) sa hda (by have:=Bk.cY a;omega)) ?_);rintro s92 _ ⟨ayF,arV,cL⟩;have u:=u.made cL;have s92l:ayF.length<=40:=by have:=arV.1;have:=Co (b:=a) (n:=40) cK (e:=false);omega
   have ayG:=u.dX;refine bJ u.p2 ny ayG (by simp;omega) ee (λs93 _ u=>aD (x:=(⟨⟨x.kind,x.eD,x.name,I,J,x.n-1,x.body,x.eu,x.at_⟩,G,U,true⟩:pw)) KZ u.p2.At (aZ ([(⟨⟨x.kind,x.eD,x.name,I,J,x.n-1,x.body,x.eu,x.at_⟩,G,U,true⟩:pw)]:List pw) u ny rfl rfl (dL rfl) λs96 _ u=>?_));have ayH:=u.dX;refine bJ u.p1 ny ayH (by simp;omega) ee (λs97 _ u=>have u:=u.p1.drop.p1.drop.p1.drop;⟨_,DK false a++[({x with n:=x.n-1},a,.nil,true)],(lj.append (lj.append lj.nil arV) (lj.cons (d:=(⟨⟨x.kind,x.eD,x.name,I,J,x.n-1,x.body,x.eu,x.at_⟩,G,U,true⟩:pw)) (q:=({x with n:=x.n-1},a,.nil,true)) ⟨λw hw=>?_,⟨ra,hda⟩,⟨rb,by rw[<- YP];exact TO⟩,rfl⟩ lj.nil)),by simp;omega,?_,u⟩)
   .obtain⟨_,_,h4,h5,h6⟩:=zX w hw;cases h4
    exact⟨I,J,rfl,h5,h6⟩
   rw[UX cK];simp
  rintro lv7 _ ⟨V,qs7,h71,h72,h73,u⟩ _;have u:=((mh.shut (t:=B) E u.p5.p5.p5.p5).p1).p1;refine bF H8 u (H':=λ_=>mh K p room {B with cD:=(mI x a B.cD)}) (Φ:=λ_ _=>True) (λY W O=>?_) ?_
  .exact(C171 K p room B Y lv7 V qs7 _ _ (mI x a B.cD) _ W (λw' hc=>M w' (O w' hc).aG) (λw' hc=>(O w' hc).dX) h71 tS h73 E.2.2.round cK QN).mono λ_ _ r=>r.mono λ_ _ h=>⟨trivial,h.2⟩
  rintro _ _ _ u;exact vX _ _ (SC k3) u.p1.drop
 refine aH (aC (λk4=>?_) λk4=>?_)
 .obtain⟨D,hD⟩:∃D,D=(⟨⟨x.kind,x.eD,x.name,I,J,x.n,x.body,x.eu,x.at_⟩,G,U,dn⟩:pw)::pZ:=⟨_,rfl⟩;have hDK:lj K D (v9 B.cD):=by rw[hD];exact E.2.1
  have hDl:D.length=(v9 B.cD).length:=hDK.1;rw[<- hD]at u;refine⟨λmm y w'=>∃j:Nat,y=hZ (j:Int)/\mm=D.length-j/\j<=D.length/\(∀(i:Nat) (q:Dq),i<j->(v9 B.cD)[i]?=some q->q.2.2.2=false)/\w'=w6,⟨_,0,rfl,rfl,l1 _,λ_ _ h=>absurd h (MW _),rfl⟩,?_⟩;rintro mm _ w7 ⟨j,rfl,rfl,hj,hjn,rfl⟩ _;refine⟨λjv w'=>jv=.bool (match D[j]? with|some d=>!d.in_|none=>false)/\w'=w7,?_,?_⟩
  .refine aE (aA kN (aB uz u.p1.hb rfl (aK ny u.p4.eG (aR (aC (λc=>?_) λc=>⟨vb (by rw[mY cK]),rfl⟩)))));obtain⟨d,hd⟩:=gx D (i:=((j:Nat):Int).toNat) cK;refine aE (aA kN (aB uz u.p1.hb rfl (aO ny u.p4.eG cK hd λq hq=>bV d.in_ Lb hq rfl rfl λq2 Ke=>aD Ak Ke (bR ?_))));rw[pQ]at hd;exact⟨vb (by rw[hd]),rfl⟩
  rintro _ w8 ⟨rfl,rfl⟩ _;refine aY (λc=>?_) (λc=>?_)
  .have DZ:j<D.length:=by
    rcases N7 j D.length with h|h
    .exact h
    .rw[mY h]at c;cases c
   refine aN cK ?_;refine⟨_,cK,j+1,rfl,rfl,cK,λi q hi hq=>?_,rfl⟩
   by_cases e:i=j
   .subst e;rw[la DZ]at c;have:=(hDK.2 i _ q (la DZ) hq).e;rw[<- this];simpa using c
   exact hjn i q cK hq
  have hdi:uh (v9 B.cD)=(v9 B.cD).drop (j+1):=H7 _ j hjn (λq hq=>by
   have DZ:j<D.length:=by have:=(kE.1 hq).1;omega
   rw[la DZ]at c;have:=(hDK.2 j _ q (la DZ) hq).e;rw[<- this];simpa using c) cK
  have u:=u.drew;refine aE (aA kN (aB uz u.p1.hb rfl (aN cK (aE (aA kN (aB uz u.p1.hb rfl (aK ny u.p4.eG (rA (zo ny u.p4.eG cK cK λayI arW=>?_)))))))));have arX:=arW _ u.p4.eG;refine aE (aA kN (aT u.p1 uz (dL rfl) arX.one λ_ u=>?_));have u:=u.p4.dM (Ψ:=λw=>dA (λ_=>True) w ayI (D.drop (min ((j:Int)+1) (D.length:Int)).toNat)) (λw h=>arW w h)
  have ed:D.drop (min ((j:Int)+1) (D.length:Int)).toNat=D.drop (j+1):=by
   rcases N7 j D.length with h|h
   .congr 1;omega
   .rw[vt cK,vt cK]
  rw[ed]at u;have hk9:RTK K nv (D.drop (j+1)) {B with cD:=ky B.cD}:=⟨E.1,by show lj K _ (v9 (ky B.cD));rw[H6 E.2.2,hdi];exact hDK.drop _,E.2.2.leave⟩;have u:=((mh.shut (t:={B with cD:=ky B.cD}) hk9 u.p4.p4.p3).p1).p1;exact vX _ _ (SD k4) u
 refine aH (aC (λk5=>?_) λk5=>?_)
 .refine aH (aC (λc=>?_) λc=>?_)
  .refine aE (aA wI (aT u.p1 bL (dL rfl) rfl λw15 u=>?_));have u:=mh.shut (t:={B with fault:=1}) E u.p4.p4.p4.p3;rw[pf Bz (hgk.trans (MM k5 c))];have u:=u.p1.p1;exact⟨rfl,u.p1.drop.mut⟩
  have u:=u.p4;have u:=((mh.shut (t:=B) E u.p4.p4.p4).p1).p1;refine bF H8 u (H':=λ_=>mh K p room {B with cD:=(gA B.cD)}) (Φ:=λ_ _=>True) (λY W O=>?_) ?_
  .exact(C171 K p room B Y (.slice none 0 0) [] [] _ _ (gA B.cD) _ W (λw' hc=>M w' (O w' hc).aG) (λ_ _=>dA.nil _ _) lj.nil tS rfl C3 (l1 _) QN).mono λ_ _ r=>r.mono λ_ _ h=>⟨trivial,h.2⟩
  rintro _ w16 _ u;exact vX _ _ (MN k5 c) u
 rw[pf Bz (hgk.trans (SE k1 k2 k3 k4 k5))];have u:=((mh.shut (t:=B) E u.p4.p4.p4.p4).p1).p1;exact⟨rfl,u.p1.drop.mut⟩
theorem C80(K:hM)(p:Nat)(m:gR)(q:Nat)(t:jY)(w:World)(hm:Has (qM K p m) w)(hw:∀w',Ext w w'->K w')(W:oJ m)(hh:Has (mh K q m.room t) w)(Cg:t∈m.l):CR 80 [.pointer (some ⟨p,0,none⟩),.pointer (some ⟨q,0,none⟩)] w (λv w'=>v=.bool (sO m t)/\Ext w w'):=by
 obtain⟨a,G⟩:=qM.rd hm;have cm6:=G.b.cell (o:=6) rfl;have E:=G.b.cell (o:=9) rfl;have kC:=W.th t Cg;have G6:=kC.bl;have ajx:(cM m.p).length<=500:=by unfold cM;rw[n0];exact W.pz.eJ
 obtain⟨bp,nv,rg,lv,ds,hk,Z,hB,C6,I⟩:=mh.rd hh;obtain⟨bsv,Cv,uS,O⟩:=hB;have M:=Z.cell (o:=0) rfl;have V:=Z.cell (o:=3) rfl;have ct4:=Z.cell (o:=4) rfl;have Hb:=hk.2.1.1;have u:=St.start w;refine oH Tryz.func80 (pl:=P80) ?_;refine aE (aA kN (bM uz (M.ext u.aG) (aK ny (I.ext u.aG) (aH (aC (λc0=>?_) λc0=>?_)))))
 .have eE:pb t.cD=none:=by
   cases h:pb t.cD with
   | none=>rfl
   | some q=>obtain⟨x,a,b⟩:=q;obtain⟨e,h2⟩:=Bm h;rw[h2,oj]at Hb;omega
  exact⟨vb (by unfold sO;rw[eE]),u.aG⟩
 obtain⟨x,xa,xb,Y⟩:∃x a b,pb t.cD=some (x,a,b):=by
  cases h:pb t.cD with
  | none=>have h2:=HA kC.p h;have h3:(v9 t.cD).length=0:=(by rw[h2];rfl);omega
  | some q=>exact⟨q.1,q.2.1,q.2.2,rfl⟩
 obtain⟨en,tS⟩:=Bm Y;have xf:=hk.2.1;rw[tS]at xf;obtain⟨d0,pZ,rfl,yS,hds⟩:=xf.head;obtain⟨dx,db,de,dn⟩:=d0;obtain⟨ge,gf,rfl,_,_⟩:=jg (yS.x _ (hw _ u.aG));have hx:=(kC.top Y).1;have B:sO m t=(if t.fault≠0\/x.kind=2 then true else if x.kind=3\/x.kind=5\/x.kind=6\/x.kind=7 then !decide (m.room<=t.buf.length)else if x.kind=9/\m.eS.getD (cU (cM m.p) x.name).toNat 0≠-1 then false else decide (t.buf.length=0)):=by unfold sO;rw[Y]
 refine aE (aA kN (bM uz (M.ext u.aG) (aO ny (I.ext u.aG) cK rfl λq1 h1=>Lg (⟨x.kind,x.eD,x.name,ge,gf,x.n,x.body,x.eu,x.at_⟩:bE) oU h1 rfl λq2 h2=>aD eL h2 (aM u jw λb5 _ u=>aJ (x:=(⟨x.kind,x.eD,x.name,ge,gf,x.n,x.body,x.eu,x.at_⟩:bE)) u eL rfl rfl λw2 u=>?_))));refine⟨λJ w'=>J=.bool (decide (t.fault≠0\/x.kind=2))/\w'=w2,?_,?_⟩
 .exact aE (aA wI (bM bL (ct4.ext u.aG) (bW (aC (λ_=>⟨vb (ez cK).symm,rfl⟩) λ_=>aA dN (aB (v:=hZ x.kind) bL u.hb rfl (aH ⟨vb (ga.2 cK),rfl⟩))))))
 rintro _ w4 ⟨rfl,rfl⟩ _;refine aC (λc1=>?_) (λc1=>?_)
 .exact⟨vb (by rw[B,ew c1]),u.drop.aG⟩
 rw[ej c1]at B;refine⟨λJ w'=>J=.bool (decide (x.kind=3\/x.kind=5\/x.kind=6\/x.kind=7))/\w'=w4,?_,?_⟩
 .refine aA dN (aB (v:=hZ x.kind) bL u.hb rfl ?_);exact aH (aC (λ_=>⟨vb (ez cK).symm,rfl⟩) λ_=>aA dN (aB (v:=hZ x.kind) bL u.hb rfl (aH (aC (λ_=>⟨vb (ez cK).symm,rfl⟩) λ_=>aA dN (aB (v:=hZ x.kind) bL u.hb rfl (aH (aC (λ_=>⟨vb (ez cK).symm,rfl⟩) λ_=>aA dN (aB (v:=hZ x.kind) bL u.hb rfl (aH ⟨vb (ga.2 cK),rfl⟩)))))))))
 rintro _ _ ⟨rfl,rfl⟩ _;refine aC (λc2=>?_) (λc2=>?_)
 .have u:=u.drew;refine aE (aA nz (bM yG (V.ext u.aG) (aE (aA gX (bM iL (uS.ext u.aG) (aK fS (O.ext u.aG) (aE (aA Rq (bM bL (cm6.ext u.aG) (aR ?_))))))))));refine⟨vb ?_,u.drop.aG⟩;rw[B,ew c2,<- decide_not];exact ga.2 cK
 rw[ej c2]at B;refine⟨λJ w'=>J=.bool (sO m t)/\Ext w w',?_,?_⟩;rotate_left
 .rintro _ _ h _;exact h
 have u:=u.drew;refine aE (aA nz (bM yG (V.ext u.aG) (aE (aA gX (bM iL (uS.ext u.aG) (aK fS (O.ext u.aG) (aH (aC (λc3=>?_) λc3=>?_))))))));rotate_left
 .refine⟨vb ?_,u.drop.aG⟩;rw[B];split
  .rfl
  exact(fN cK).symm
 refine aA dN (aB (v:=hZ x.kind) bL u.hb rfl (bW (aC (λc4=>?_) λc4=>?_)))
 .exact⟨vb (by rw[B,ej (λh=>c4 h.1),ez cK]),u.drop.aG⟩
 have U:x.kind=9:=u1.1 c4;obtain⟨j,hj,B2,_⟩:=lV (dK.1 (hx.lk (.inl U)));have DZ:=(kE.1 B2).1;have how:=W.ow;refine aE (aA vg (bM eg (E.ext u.aG) (aE (aA oQ (qg a.pv et (mR.ext G.b u.aG) rfl (aA fZ (aB (v:=.string x.name) gv u.hb rfl (dT Rb u (C125 m.p a.pv _ (G.uk.pr _ (hw _ u.aG)) W.pz) λx82 _ cL u=>?_))))))));refine⟨aF eg (E.ext u.aG),?_⟩;refine⟨aF gv (u.p1.hb.cell (v:=.string x.name) rfl),?_⟩;refine aV rS u (C123 _ (cM m.p) x.name _ u.dX cK) (λ_ he u=>?_)
 refine⟨aF eg (E.ext u.aG),?_⟩;obtain⟨ov,Zk⟩:=gx m.eS (i:=(cU (cM m.p) x.name).toNat) cK;refine aO cS (G.ow.ext u.aG) cK Zk (λq71 h71=>aD bL h71 (aH ?_));refine⟨vb ?_,u.drop.drop.aG⟩;rw[B,ob,Zk];show _=if x.kind=9/\ov≠-1 then false else decide (t.buf.length=0)
 by_cases e:ov = -1
 .rw[ej (λh=>h.2 e),ez e,ez cK]
 rw[ew ⟨U,e⟩,fN e]
def C22(K:hM)(p:Nat)(m:gR)(w:World)(hm:Has (qM K p m) w)(hw:∀w',Ext w w'->K w')(I:oJ m):CR 22 [.pointer (some ⟨p,0,none⟩)] w (λv w'=>lg (fT v (gS m)) w w'):=by
 obtain⟨a,B⟩:=qM.rd hm;have M:=B.b.cell (o:=10) rfl;have FA:=B.b.cell (o:=11) rfl;have hlen:=B.len;have N3:=I.tl;have u:=St.start w;refine eX Tryz.func22 ?_;refine tD (α:=aS) u fW (λs7 J u=>?_);refine⟨λE o y J=>∃k:Nat,y=hZ (k:Int)/\E=a.ps.length-k/\k<=a.ps.length/\(m.fault≠0->k=0)/\St w bD [fT o (ig m k)] J,⟨_,0,rfl,rfl,l1 _,λ_=>rfl,u⟩,?_⟩;rintro E o _ w2 ⟨k,rfl,rfl,Q8,U,u⟩ _;refine⟨λjv w'=>jv=.bool (decide (k<a.ps.length/\m.fault=0))/\w'=w2,?_,?_⟩
 .exact aE (aA oR (bM Ea (M.ext u.aG) (aK Gh (B.ll.ext u.aG) (aR (aC (λ_=>aE (aA xU (bM bL (FA.ext u.aG) (aH ⟨vb (ga.2 cK),rfl⟩)))) λ_=>⟨vb (fN cK).symm,rfl⟩)))))
 rintro _ _ ⟨rfl,rfl⟩ _;refine aC (λc1=>?_) (λc1=>?_);rotate_left
 .have Y:gS m=ig m k:=by
   unfold gS
   by_cases hf:m.fault=0
   .rw[ej cK,show k=m.l.length from cK]
   .rw[ew hf,U hf];rfl
  rw[Y];exact u.fresh
 obtain⟨c2,c3⟩:=c1;obtain⟨t,ht⟩:=gx m.l (i:=k) cK;obtain⟨e,Z⟩:=gx a.ps (i:=((k:Nat):Int).toNat) cK;have Cg:=kO ht;have Vp:=B.th k e t (by rw[<- pQ k];exact Z) ht;have G6:=(I.th t Cg).bl;have oG:=rH I k;have ayJ:k*1001<=1001000:=BJ 1001 (show k<=1000 by omega);obtain⟨bp,nv,rg,lv,ds,hk,sN,hB,C6,hlr⟩:=mh.rd Vp;have V:=sN.cell (o:=3) rfl;refine⟨λo w'=>St w bD [fT o (ig m k++(if sO m t=true then [(⟨1,k,0,[]⟩:aS)]else []))] w',?_,?_⟩
 .refine aE (aA oR (bM Ea (M.ext u.aG) (aO Gh (B.ll.ext u.aG) cK Z λq G=>aD GV G (aV ayp u (C80 K p m e.b t _ (hm.ext u.aG) (λ_ e=>hw _ (u.aG.then e)) I (Vp.ext u.aG) Cg) λ_ Mn u=>aY (λO=>?_) λO=>?_))))
  .refine pop (Cf 1 (k:Int)) (have u:=u.fy (Φ:=λw=>mG w (⟨1,(k:Int),0,bX⟩:aI) (⟨1,(k:Int),0,[]⟩:aS)) (λw=>⟨bX,rfl,DL.nil w⟩);gg (x:=(⟨1,(k:Int),0,[]⟩:aS)) (s:=(⟨1,(k:Int),0,bX⟩:aI)) u fW ee λs45 _ u=>gh u.p1 fW (by simp;omega) ee λs46 _ u=>?_);rw[O,ew rfl];exact u
  rw[O,ej ee,o6];exact u
 rintro o2 _ u _;refine aE (aA oR (bM Ea (M.ext u.aG) (aO Gh (B.ll.ext u.aG) cK Z λq G=>aD GV G (aE (aA nz (bM yG (V.ext u.aG) (dT aud u (C81 bp _ _ _ (hB.ext u.aG) cK) λW _ cL u=>?_)))))));have EW:=zO t.buf;refine⟨λE o y J=>∃j:Nat,y=hZ (j:Int)/\E=(pA t.buf).length-j/\j<=(pA t.buf).length/\St w bD [fT o (ig m k++(if sO m t=true then [(⟨1,k,0,[]⟩:aS)]else [])++((pA t.buf).take j).map λi=>(⟨2,k,i,[]⟩:aS)),bH W (pA t.buf)] J,⟨_,0,rfl,rfl,l1 _,by rw[List.take_zero,List.map_nil,o6];exact u.p1⟩,?_⟩
 rintro E o3 _ _ ⟨j,rfl,rfl,hj,u⟩ _;refine aK cS u.p1.dX (aR (aC (λc5=>?_) λc5=>?_))
 .obtain⟨y,hy⟩:=gx (pA t.buf) (i:=((j:Nat):Int).toNat) cK;exact aO cS u.p1.dX cK hy (λ_ G=>aD bL G (pop (CJ 2 (k:Int) y) (have u:=u.fy (Φ:=λw=>mG w (⟨2,(k:Int),y,bX⟩:aI) (⟨2,(k:Int),y,[]⟩:aS)) (λw=>⟨bX,rfl,DL.nil w⟩);gg (x:=(⟨2,(k:Int),y,[]⟩:aS)) (s:=(⟨2,(k:Int),y,bX⟩:aI)) u fW ee λ_ _ u=>gh u.p1 fW (by simp only[lY,n0,l0,mf];split<;>simp<;>omega) ee λ_ _ u=>aN cK ⟨_,cK,j+1,rfl,rfl,cK,by rw[<- gd (k:=j) hy,<- n3];exact u⟩)))
 rw[kW cK]at u;refine aN cK ?_;refine⟨_,cK,k+1,rfl,rfl,cK,λh=>absurd c3 h,?_⟩;rw[uc ht];unfold rG;rw[<- n3];exact u.p1.drop
def C168(K:hM)(p:Nat)(m:gR)(i kind:Int)(F:Nat->Prop)(w:World)(E:(qM K p m).p w F):CR 168 [.pointer (some ⟨p,0,none⟩),hZ i,hZ kind] w (λv w'=>v=ia (⟨16,i,kind,0,0⟩:cH)/\mP F (qM K p {m with fault:=kind,ja:=i}) w w'):=by
 have u:=St.begin E;refine eX Tryz.func168 ?_;obtain⟨a,B,u⟩:=qM.open u;exact aM u mq (λ_ _ u=>have u:=u.enc (cs':=j0 (⟨0,0,0,0,0⟩:cH)) rfl;aE (aA xU (aT u.p1 bL (dL rfl) rfl λ_ u=>aE (aA Rr (aT u bL (dL rfl) rfl λ_ u=>pop (tI 16 i kind) (aJ (x:=(⟨16,i,kind,0,0⟩:cH)) u.p1 fm rfl rfl λ_ u=>aD fm u.At ⟨rfl,(qM.shut (m:={m with fault:=kind,ja:=i}) ⟨B.pr,B.rc⟩ u.drop).mut⟩))))))
def CM(K:hM)(p:Nat)(m:gR)(i:Nat)(tp:Ptr):HP:=pH λa:RA=>fact (RSK K a m/\a.ps[i]?=some tp/\a.ps.length=m.l.length/\i<m.l.length) (sep (bY p (po a m)) (sep (gq a.q m.mem) (sep (bH a.ow m.eS) (sep (bH a.ll a.ps) (nH (NN K m.room) a.ps m.l i)))))
section
variable {w w' w0:World}{A:Nat->Prop}{R:List HP}{p:Nat}{K:hM}{m:gR}{a:RA}{i:Nat}{tp:Ptr}{t:jY}
theorem CM.open(u:St w0 A (CM K p m i tp::R) w):∃a,(RSK K a m/\a.ps[i]?=some tp/\a.ps.length=m.l.length/\i<m.l.length)/\St w0 A (bY p (po a m)::gq a.q m.mem::bH a.ow m.eS::bH a.ll a.ps::nH (NN K m.room) a.ps m.l i::R) w:=by
 obtain⟨a,u⟩:=u.eh;obtain⟨B,u⟩:=u.mw;exact⟨a,B,sL u⟩
theorem CM.shut(u:RSK K a m/\a.ps[i]?=some tp/\a.ps.length=m.l.length/\i<m.l.length)(B:St w0 A (bY p (po a m)::gq a.q m.mem::bH a.ow m.eS::bH a.ll a.ps::nH (NN K m.room) a.ps m.l i::R) w):St w0 A (CM K p m i tp::R) w:=
 St.ek a (St.ou u (sM B))
theorem aax{ps:List Ptr}(B:St w0 A (g8 (NN K m.room) ps m.l::R) w)(u:ps[i]?=some tp)(ht:m.l[i]?=some t):St w0 A (mh K tp.b m.room t::nH (NN K m.room) ps m.l i::R) w:=B.focus u ht
theorem xK(u:St w0 A (mh K tp.b m.room t::CM K p m i tp::R) w):St w0 A (qM K p {m with l:=m.l.set i t}::R) w:=by
 obtain⟨a,⟨B,E,G,hi⟩,u⟩:=CM.open u.p1
 have h1:St w0 A (NN K m.room tp t::nH (NN K m.room) a.ps m.l i::_) w:=u.p4.p5
 have h2:=h1.Dl hi G E
 have h3:=h2.p4.p4.p4.p4
 exact qM.shut (m:={m with l:=m.l.set i t}) ⟨B.pr,B.rc⟩ h3
end
section
variable {m:gR}{t:jY}{i:Int}{x:bQ}
theorem aay(h:x.kind=2):ea m t i x=(m,pe t x.eD (ij m t (dO m x)),xB m t x):=by unfold ea;grind
theorem aaz(h:x.kind=3):ea m t i x=(m,pW m t ⟨3,fx m x,dO m x,(eI t x.e).1⟩,⟨3,0,dO m x,(eI t x.e).1,0⟩):=by unfold ea;grind
theorem aaA(h:x.kind=5):ea m t i x=(m,pW m t ⟨5,fx m x,0,0⟩,⟨4,0,fx m x,0,0⟩):=by grind[ea,pW,fx]
theorem aaB(h:x.kind=6):ea m t i x=(m,pW m t ⟨6,fx m x,0,0⟩,⟨5,0,fx m x,0,0⟩):=by grind[ea,pW,fx]
theorem aaC(h:x.kind=7):ea m t i x=(m,pW m t ⟨7,0,0,0⟩,⟨6,0,0,0,0⟩):=by grind[ea,pW]
theorem akZ(h:x.kind=8):ea m t i x=(m,t,⟨7,0,0,0,0⟩):=by grind[ea]
theorem ak0(h:x.kind=4):ea m t i x=(rI m t x,pe t x.eD (jF m.mem (dO m x)),tJ m t x):=by unfold ea;grind
theorem ak1(h:x.kind=9):ea m t i x=(pB m x i,t,⟨10,0,fD m x,0,0⟩):=by grind[ea,pB,fD]
theorem aeN(h:x.kind=10):ea m t i x=(pB m x (-1),t,⟨11,0,fD m x,0,0⟩):=by grind[ea,pB,fD]
theorem aaD{a b:Bk}(h:sO m t=true)(u:t.fault=0)(ht:pb t.cD=some (x,a,b))(B:x.kind=4):t.buf=[]:=by
 unfold sO at h
 grind
theorem aaE{u:Mem}{c e:Int}(B:0<=c)(h:u.l[c.toNat]?=some e):jF u c=e:=by
 have:=(kE.1 h).1
 unfold jF
 rw[ew (by unfold Gp;rw[decide_eq_true_eq];omega),ob,h];rfl
end
def C170(K:hM)(sv:Value)(m:gR)(i:Int)(tp:Ptr)(t:jY)(x:bQ)(xv:bE)(F:Nat->Prop)(w:World)(hF:(mh K tp.b m.room t).p w F)(M:∀w',gu F w w'->K w')(W:yh (cT m.p) (cM m.p) t)(U:BA t)(zX:∀w,K w->mG w xv x)(hx:Ul (cT m.p) (cM m.p) t.names x)(hkd:x.kind=3\/x.kind=5\/x.kind=6\/x.kind=7) :
   CR 170 [sv,.pointer (some ⟨tp.b,0,none⟩),ia xv,hZ (dO m x),hZ (fx m x)] w (λv w'=>v=ia (ea m t i x).2.2/\mP F (mh K tp.b m.room (ea m t i x).2.1) w w'):=by
 have u:=St.begin hF;obtain⟨J,gf,rfl,_,_⟩:=jg (zX _ (M _ u.aG))
 have PX:∀w,K w->dA (λ_=>True) w (ia J) x.e/\dA (λ_=>True) w (ia gf) x.f:=λw hw=>by
  obtain⟨_,_,h4,h5,h6⟩:=jg (zX w hw);cases h4
  exact⟨h5,h6⟩
 have hxe:=hx.e;have O:=hx.nm;have Y8:=W.nb;have Gq:=W.rl;have G6:=W.bl;refine eX Tryz.func170 ?_;refine cI (x:=(⟨x.kind,x.eD,x.name,J,gf,x.n,x.body,x.eu,x.at_⟩:bE)) u (λb7 _ u=>aM u mq λb10 _ u=>?_);have u:=(u.enc (cs':=j0 (⟨0,0,0,0,0⟩:cH)) rfl).p2;obtain⟨B,nv,rg,QM,ds,I,u⟩:=mh.open u;refine aA iV (aB (v:=ia J) ju u.p5.hb rfl (aV NJ u (C203 tp.b t QM nv rg B _ x.e _ u.hb (I.1 _ (M _ u.aG)) u.p2.dX (PX _ (M _ u.aG)).1 cK cK O.1 U.r) λ_ he u=>aQ rfl (aQ rfl (aA dN (aB (v:=hZ x.kind) bL u.p5.hb rfl (aH (aC (λk3=>?_) λk3=>?_)))))))
 .refine aE (aA nz (aB yG u.hb rfl (pop (xz 3 (fx m x) (dO m x) (eI t x.e).1) (have u:=u.p1;bF Ri u (H':=λ_=>jj B m.room (sG m.room t.buf (⟨3,fx m x,dO m x,(eI t x.e).1⟩:bI))) (Φ:=λ_ _=>True) (λG E V=>?_) ?_))))
  .exact(C230 B m.room t.buf (⟨3,fx m x,dO m x,(eI t x.e).1⟩:bI) G _ E cK).mono λ_ _ r=>r.mono λ_ _ h=>⟨trivial,h.2⟩
  rintro _ _ _ u;refine pop (mJ 3 (dO m x) (eI t x.e).1) (aJ (x:=(⟨3,0,dO m x,(eI t x.e).1,0⟩:cH)) u.p4 fm rfl rfl λY u=>aD (x:=(⟨3,0,dO m x,(eI t x.e).1,0⟩:cH)) fm u.At ?_);have u:=mh.shut (t:=pW m t (⟨3,fx m x,dO m x,(eI t x.e).1⟩:bI)) I u.drop.p4.drop.p3.p3.p2.p3;rw[aaz k3];exact⟨rfl,u.mut⟩
 refine aH (aC (λZ=>?_) λZ=>?_)
 .refine aE (aA nz (aB yG u.hb rfl (pop (vy 5 (fx m x)) (have u:=u.p1;bF Ri u (H':=λ_=>jj B m.room (sG m.room t.buf (⟨5,fx m x,0,0⟩:bI))) (Φ:=λ_ _=>True) (λG E V=>?_) ?_))))
  .exact(C230 B m.room t.buf (⟨5,fx m x,0,0⟩:bI) G _ E cK).mono λ_ _ r=>r.mono λ_ _ h=>⟨trivial,h.2⟩
  rintro _ _ _ u;refine pop (oC 4 (fx m x)) (aJ (x:=(⟨4,0,fx m x,0,0⟩:cH)) u.p4 fm rfl rfl λw50' u=>aD (x:=(⟨4,0,fx m x,0,0⟩:cH)) fm u.At ?_);have u:=mh.shut (t:=pW m t (⟨5,fx m x,0,0⟩:bI)) I u.drop.p4.drop.p3.p3.p2.p3;rw[aaA Z];exact⟨rfl,u.mut⟩
 refine aH (aC (λk6=>?_) λk6=>?_)
 .refine aE (aA nz (aB yG u.hb rfl (pop (vy 6 (fx m x)) (have u:=u.p1;bF Ri u (H':=λ_=>jj B m.room (sG m.room t.buf (⟨6,fx m x,0,0⟩:bI))) (Φ:=λ_ _=>True) (λG E V=>?_) ?_))))
  .exact(C230 B m.room t.buf (⟨6,fx m x,0,0⟩:bI) G _ E cK).mono λ_ _ r=>r.mono λ_ _ h=>⟨trivial,h.2⟩
  rintro _ _ _ u;refine pop (oC 5 (fx m x)) (aJ (x:=(⟨5,0,fx m x,0,0⟩:cH)) u.p4 fm rfl rfl λw60' u=>aD (x:=(⟨5,0,fx m x,0,0⟩:cH)) fm u.At ?_);have u:=mh.shut (t:=pW m t (⟨6,fx m x,0,0⟩:bI)) I u.drop.p4.drop.p3.p3.p2.p3;rw[aaB k6];exact⟨rfl,u.mut⟩
 refine aE (aA nz (aB yG u.hb rfl (pop (Aw 7) (have u:=u.p1;bF Ri u (H':=λ_=>jj B m.room (sG m.room t.buf (⟨7,0,0,0⟩:bI))) (Φ:=λ_ _=>True) (λG E V=>?_) ?_))))
 .exact(C230 B m.room t.buf (⟨7,0,0,0⟩:bI) G _ E cK).mono λ_ _ r=>r.mono λ_ _ h=>⟨trivial,h.2⟩
 rintro _ _ _ u;refine pop (JD 6) (aJ (x:=(⟨6,0,0,0,0⟩:cH)) u.p4 fm rfl rfl λw70' u=>aD (x:=(⟨6,0,0,0,0⟩:cH)) fm u.At ?_);have u:=mh.shut (t:=pW m t (⟨7,0,0,0⟩:bI)) I u.drop.p4.drop.p3.p3.p2.p3;rw[aaC cK];exact⟨rfl,u.mut⟩
def C169(K:hM)(p:Nat)(m:gR)(i:Int)(n:Nat)(tp:Ptr)(t:jY)(x:bQ)(xv:bE)(F:Nat->Prop)(w:World)(hF:(sep (mh K tp.b m.room t) (CM K p m n tp)).p w F)(G:∀w',gu F w w'->K w')(kC:yh (cT m.p) (cM m.p) t)(O:BA t)(zX:∀w,K w->mG w xv x)(Z:Ul (cT m.p) (cM m.p) t.names x)(hmm:wq m.mem)(rn:MB m.mem 1000000)(hkd:x.kind=2\/x.kind=4)(hb4:x.kind=4->t.buf=[])(EW:0<=dO m x/\dO m x<m.mem.l.length) :
   CR 169 [.pointer (some ⟨p,0,none⟩),.pointer (some ⟨tp.b,0,none⟩),ia xv,hZ (dO m x)] w (λv w'=>v=ia (ea m t i x).2.2/\mP F (sep (mh K tp.b m.room (ea m t i x).2.1) (CM K p (ea m t i x).1 n tp)) w w'):=by
 have u:=(St.begin hF).split;obtain⟨ge,gf,rfl,_,_⟩:=jg (zX _ (G _ u.aG))
 have PX:∀w,K w->dA (λ_=>True) w (ia ge) x.e/\dA (λ_=>True) w (ia gf) x.f:=λw hw=>by
  obtain⟨_,_,h4,h5,h6⟩:=jg (zX w hw);cases h4
  exact⟨h5,h6⟩
 have hxe:=Z.e;have M:=Z.nm;have Y8:=kC.nb;have Gq:=kC.rl;have G6:=kC.bl;have C6:=Z.rg cK;obtain⟨c,hc⟩:∃c,c=dO m x:=⟨_,rfl⟩;refine aeA _ _ _ _ _ _ ?_;unfold S169;refine cI (x:=(⟨x.kind,x.eD,x.name,ge,gf,x.n,x.body,x.eu,x.at_⟩:bE)) u (λb6 _ u=>aM u mq λb8 _ u=>?_);have u:=(u.enc (cs':=j0 (⟨0,0,0,0,0⟩:cH)) rfl).p2;obtain⟨Y,nv,rg,QM,ds,hk,u⟩:=mh.open u;refine aA iV (aB (v:=ia ge) ju u.p5.hb rfl (aV NJ u (C203 tp.b t QM nv rg Y _ x.e _ u.hb (hk.1 _ (G _ u.aG)) u.p2.dX (PX _ (G _ u.aG)).1 cK cK M.1 O.r) λ_ U u=>aQ rfl (aQ rfl (aA j8 (aB (v:=ia gf) ju u.p5.hb rfl (aV NJ u (C203 tp.b t QM nv rg Y _ x.f _ u.hb (hk.1 _ (G _ u.aG)) u.p2.dX (PX _ (G _ u.aG)).2 cK cK M.2 O.r) λ_ U u=>aQ rfl (aQ rfl (aE (aA nz (aB yG u.hb rfl ?_))))))))))
 refine aV amR u (C229 Y (dO m x) m.room t.buf _ (Dy u.p1) cK) (λw5 U u=>aQ rfl (aQ rfl ?_));have u:=u.p6;obtain⟨a,I,u⟩:=CM.open u;refine⟨λjv w'=>jv=hZ (ij m t (dO m x))/\w'=w5,?_,?_⟩
 .refine bR (aY (λB=>?_) λB=>?_);rotate_left
  .have h1:(lx t.buf (dO m x)).isSome=true:=by simpa using B
   exact⟨gN (nf .i64) (by unfold ij;rw[ew h1]),rfl⟩
  have h1:(lx t.buf (dO m x)).isSome=false:=by simpa using B
  refine aE (aA tm (aB qk u.hb rfl ?_));obtain⟨ov,fv,lv,kv,wv,ws,jZ,sU,hmo,hmf,Cx,arZ,hmw⟩:=(FV u.p1.has).ex;refine aE (aA rW (bM eg (sU.cell (o:=2) rfl) ?_));obtain⟨e,U⟩:=gx m.mem.l (i:=(dO m x).toNat) cK;exact aO cS Cx EW.1 U (λ_ hq=>aD bL hq ⟨gN (nf .i64) (by unfold ij;rw[ej (by rw[h1];decide),aaE EW.1 U]),rfl⟩)
 rintro _ _ ⟨rfl,rfl⟩ _;refine aA iE (aB (v:=.string x.eD) gv u.p10.hb rfl (have u:=mh.shut (t:=t) hk u.p8.p8.p8.p8;bF ag0 u (H':=λ_=>mh K tp.b m.room (pe t x.eD (ij m t (dO m x)))) (Φ:=λ_ _=>True) (λF2 W dW=>?_) ?_))
 .exact(C204 K tp.b m.room t F2 x.eD _ _ W (λw' hc=>G w' (dW w' hc).aG) C6 Gq Y8).mono λ_ _ r=>r.mono λ_ _ h=>⟨trivial,h.2⟩
 rintro _ _ _ u;refine aA dN (aB (v:=hZ x.kind) bL u.p7.hb rfl (aH (aC (λV=>?_) λV=>?_)))
 .have J:xB m t x=⟨if (lx t.buf (dO m x)).isSome=true then 2 else 1,0,dO m x,ij m t (dO m x),0⟩:=rfl;refine aY (λB=>?_) (λB=>?_)
  .refine pop (mJ 2 (dO m x) (ij m t (dO m x))) (aJ (x:=(⟨2,0,dO m x,ij m t (dO m x),0⟩:cH)) u.p6 fm rfl rfl λw8 u=>aD (x:=(⟨2,0,dO m x,ij m t (dO m x),0⟩:cH)) fm u.At ?_);have u:=(CM.shut (m:=m) I u.drop.p6.drop.p5.p5.p5.p5.p5).p1;rw[aay V];show ia _=ia (xB m t x)/\_;rw[J,ew B];exact⟨rfl,(St.join u).mut⟩
  refine pop (mJ 1 (dO m x) (ij m t (dO m x))) (aJ (x:=(⟨1,0,dO m x,ij m t (dO m x),0⟩:cH)) u.p6 fm rfl rfl λw8 u=>aD (x:=(⟨1,0,dO m x,ij m t (dO m x),0⟩:cH)) fm u.At ?_);have u:=(CM.shut (m:=m) I u.drop.p6.drop.p5.p5.p5.p5.p5).p1;rw[aay V];show ia _=ia (xB m t x)/\_;rw[J,ej (by rw[B];decide)];exact⟨rfl,(St.join u).mut⟩
 have k4:x.kind=4:=cK
 have hld:ij m t (dO m x)=jF m.mem (dO m x):=by unfold ij;rw[hb4 k4];rfl
 rw[hld]at u |-;rw[ak0 k4];refine bW (aC (λB=>?_) λB=>?_)
 .have E:rI m t x=m:=by unfold rI;rw[ej B]
  have zM:tJ m t x=⟨9,0,dO m x,jF m.mem (dO m x),0⟩:=by unfold tJ;rw[ej B]
  refine pop (mJ 9 (dO m x) (jF m.mem (dO m x))) (aJ (x:=(⟨9,0,dO m x,jF m.mem (dO m x),0⟩:cH)) u.p6 fm rfl rfl λw8 u=>aD (x:=(⟨9,0,dO m x,jF m.mem (dO m x),0⟩:cH)) fm u.At ?_);have u:=(CM.shut (m:=m) I u.drop.p6.drop.p5.p5.p5.p5.p5).p1;rw[E,zM];exact⟨rfl,(St.join u).mut⟩
 have E:rI m t x={m with mem:=fk m.mem (dO m x) (eI t x.f).1}:=by unfold rI;rw[ew (by simpa using B)]
 have zM:tJ m t x=⟨8,0,dO m x,jF m.mem (dO m x),(eI t x.f).1⟩:=by unfold tJ;rw[ew (by simpa using B)]
 refine aE (aA tm (aB qk u.p1.hb rfl (have u:=u.p2;bF afr u (H':=λ_=>gq a.q (fk m.mem (dO m x) (eI t x.f).1)) (Φ:=λ_ _=>True) (λF2 W dW=>?_) ?_)))
 .exact(C166 a.q m.mem F2 (dO m x) _ _ W hmm rn).mono λ_ _ r=>r.mono λ_ _ h=>⟨trivial,h.2⟩
 rintro _ _ _ u;refine pop (yV 8 (dO m x) (jF m.mem (dO m x)) (eI t x.f).1) (aJ (x:=(⟨8,0,dO m x,jF m.mem (dO m x),(eI t x.f).1⟩:cH)) u.p6 fm rfl rfl λ_ u=>aD (x:=(⟨8,0,dO m x,jF m.mem (dO m x),(eI t x.f).1⟩:cH)) fm u.At ?_);have u:=CM.shut (m:={m with mem:=fk m.mem (dO m x) (eI t x.f).1}) (⟨⟨I.1.pr,I.1.rc⟩,I.2⟩) u.drop.p6.drop.p5.p5.p5.p3.p5;have u:=u.p1;rw[E,zM];exact⟨rfl,(St.join u).mut⟩
def C95(K:hM)(p:Nat)(m:gR)(q:aS)(i k:Int)(W:q.t=i)(Z:q.i=k)(t:jY)(F:Nat->Prop)(w:World)(hF:(qM K p m).p w F)(V:oJ m)(rn:MB m.mem 1000000)(h0:0<=i)(ht:m.l[i.toNat]?=some t) :
   CR 95 [.pointer (some ⟨p,0,none⟩),hZ i,hZ k] w (λv w'=>v=ia (te i (dH t.buf k))/\mP F (qM K p (tg m t q)) w w'):=by
 subst W Z;have u:=St.begin hF;have Cg:=kO ht;have kC:=V.th t Cg;have nO:=(kE.1 ht).1;have G6:=kC.bl;refine oH Tryz.func95 (pl:=P95) ?_;refine aM u mq (λb6 _ u=>?_);have u:=(u.enc (cs':=j0 (⟨0,0,0,0,0⟩:cH)) rfl).p1;obtain⟨a,E,u⟩:=qM.open u;have Y:=u.p4.iX;obtain⟨e,U⟩:=gx a.ps (i:=q.t.toNat) cK;refine aE (aA oR (aB Ea u.hb rfl (aO Gh u.p3.dX h0 U λq0 hq=>aD GV hq ?_)));have u:=aax u.p4 U ht;obtain⟨bp,nv,rg,QM,ds,hk,u⟩:=mh.open u;refine aE (aA nz (aB yG u.hb rfl (have u:=u.p1;bF amH u (H':=λ_=>jj bp m.room (jS t.buf q.i)) (Φ:=λv _=>v=.tuple #[ia (dH t.buf q.i),hZ (xq t.buf q.i)]) (λG O dW=>?_) ?_)))
 .exact C165 bp m.room t.buf q.i G _ O cK
 rintro _ _ rfl u;refine aQ rfl (aQ rfl (aM u rz λb7 _ u=>aJ (x:=(dH t.buf q.i)) u iq rfl rfl λ_ u=>have u:=(((((mh.shut (t:={t with buf:=jS t.buf q.i}) hk u.p4.p4.p3.p4).p2).p6).p6).p6).p6;have u:=u.p5.p7.p7;aA gG (aB (v:=hZ (dH t.buf q.i).kind) bL u.hb rfl (aH (aC (λc=>?_) λc=>?_)))))
 .have u:=u.drew;refine aE (aA tm (aB qk u.p3.hb rfl (aA mu (aB (v:=hZ (dH t.buf q.i).cell) bL u.hb rfl (aA oV (aB (v:=hZ (dH t.buf q.i).n) bL u.hb rfl (have u:=u.p4;bF afr u (H':=λ_=>gq a.q (fk m.mem (dH t.buf q.i).cell (dH t.buf q.i).n)) (Φ:=λ_ _=>True) (λG O dW=>?_) ?_)))))))
  .exact(C166 a.q m.mem G _ _ _ O V.mem rn).mono λ_ _ r=>r.mono λ_ _ h=>⟨trivial,h.2⟩
  rintro _ _ _ u;refine aA mu (aB (v:=hZ (dH t.buf q.i).cell) bL u.p1.hb rfl (aA oV (aB (v:=hZ (dH t.buf q.i).n) bL u.p1.hb rfl (pop (yU 12 q.t (dH t.buf q.i).cell (dH t.buf q.i).n) (aJ (x:=(⟨12,q.t,(dH t.buf q.i).cell,(dH t.buf q.i).n,0⟩:cH)) u.p2 fm rfl rfl λ_ u=>aD (x:=(⟨12,q.t,(dH t.buf q.i).cell,(dH t.buf q.i).n,0⟩:cH)) fm u.At ?_)))));have u:=u.drop.p1.drop;have M:jT m.mem (dH t.buf q.i)=fk m.mem (dH t.buf q.i).cell (dH t.buf q.i).n:=by unfold jT;rw[ew c]
  have B:te q.t (dH t.buf q.i)=⟨12,q.t,(dH t.buf q.i).cell,(dH t.buf q.i).n,0⟩:=by unfold te;rw[ew c]
  have u:=CM.shut (m:={m with mem:=fk m.mem (dH t.buf q.i).cell (dH t.buf q.i).n}) (i:=q.t.toNat) (tp:=e) ⟨⟨E.pr,E.rc⟩,U,Y,by show q.t.toNat<m.l.length;omega⟩ u.p5.p5.p5.p3.p5;have u:=xK (m:={m with mem:=fk m.mem (dH t.buf q.i).cell (dH t.buf q.i).n}) (tp:=e) (t:={t with buf:=jS t.buf q.i}) u.p1;have I:tg m t q={ {m with mem:=fk m.mem (dH t.buf q.i).cell (dH t.buf q.i).n}with l:=m.l.set q.t.toNat ({t with buf:=jS t.buf q.i})}:=by unfold tg;rw[M]
  rw[I,B];exact⟨rfl,u.mut⟩
 refine aA gG (aB (v:=hZ (dH t.buf q.i).kind) bL u.hb rfl (aH (aC (λJ=>?_) λJ=>?_)))
 .refine pop (HE 14 q.t) (aJ (x:=(⟨14,q.t,0,0,0⟩:cH)) u.p1 fm rfl rfl λ_ u=>aD (x:=(⟨14,q.t,0,0,0⟩:cH)) fm u.At ?_);have u:=u.drop.drop;have M:jT m.mem (dH t.buf q.i)=m.mem:=by unfold jT;rw[ej c,ew J]
  have B:te q.t (dH t.buf q.i)=⟨14,q.t,0,0,0⟩:=by unfold te;rw[ej c,ew J]
  have u:=CM.shut (m:={m with mem:=m.mem}) (i:=q.t.toNat) (tp:=e) ⟨⟨E.pr,E.rc⟩,U,Y,by show q.t.toNat<m.l.length;omega⟩ u.p5.p5.p5.p5.p5;have u:=xK (m:={m with mem:=m.mem}) (tp:=e) (t:={t with buf:=jS t.buf q.i}) u.p1;have I:tg m t q={ {m with mem:=m.mem}with l:=m.l.set q.t.toNat ({t with buf:=jS t.buf q.i})}:=by unfold tg;rw[M]
  rw[I,B];exact⟨rfl,u.mut⟩
 have u:=u.drew;refine aE (aA tm (aB qk u.p3.hb rfl (aA gY (aB (v:=hZ (dH t.buf q.i).line) bL u.hb rfl (have u:=u.p4;bF amI u (H':=λ_=>gq a.q (n7 m.mem (dH t.buf q.i).line)) (Φ:=λ_ _=>True) (λG O dW=>?_) ?_)))))
 .exact(C167 a.q m.mem G _ _ O V.mem rn).mono λ_ _ r=>r.mono λ_ _ h=>⟨trivial,h.2⟩
 rintro _ _ _ u;refine aA gY (aB (v:=hZ (dH t.buf q.i).line) bL u.p1.hb rfl (pop (tI 13 q.t (dH t.buf q.i).line) (aJ (x:=(⟨13,q.t,(dH t.buf q.i).line,0,0⟩:cH)) u.p2 fm rfl rfl λ_ u=>aD (x:=(⟨13,q.t,(dH t.buf q.i).line,0,0⟩:cH)) fm u.At ?_)));have u:=u.drop.p1.drop;have M:jT m.mem (dH t.buf q.i)=n7 m.mem (dH t.buf q.i).line:=by unfold jT;rw[ej c,ej J]
 have B:te q.t (dH t.buf q.i)=⟨13,q.t,(dH t.buf q.i).line,0,0⟩:=by unfold te;rw[ej c,ej J]
 have u:=CM.shut (m:={m with mem:=n7 m.mem (dH t.buf q.i).line}) (i:=q.t.toNat) (tp:=e) ⟨⟨E.pr,E.rc⟩,U,Y,by show q.t.toNat<m.l.length;omega⟩ u.p5.p5.p5.p3.p5;have u:=xK (m:={m with mem:=n7 m.mem (dH t.buf q.i).line}) (tp:=e) (t:={t with buf:=jS t.buf q.i}) u.p1;have I:tg m t q={ {m with mem:=n7 m.mem (dH t.buf q.i).line}with l:=m.l.set q.t.toNat ({t with buf:=jS t.buf q.i})}:=by unfold tg;rw[M]
 rw[I,B];exact⟨rfl,u.mut⟩
def ar0:PL 60:=dJ Tryz.func60
def C96(K:hM)(p:Nat)(m:gR)(i:Int)(t:jY)(F:Nat->Prop)(w:World)(hF:(qM K p m).p w F)(U:∀w',gu F w w'->K w')(G:oJ m)(hvo:JZ m)(rn:MB m.mem 1000000)(h0:0<=i)(ht:m.l[i.toNat]?=some t)(ue:sO m t=true)(Db:m.mem.dV=eT m.p) :
   CR 96 [.pointer (some ⟨p,0,none⟩),hZ i] w (λv w'=>v=ia (iv m i).2/\mP F (qM K p (iv m i).1) w w'):=by
 have u:=St.begin hF;have Cg:=kO ht;have kC:=G.th t Cg;have hto:=hvo.th t Cg;have nO:=(kE.1 ht).1;have Y8:=kC.nb;have how:=G.ow;have ajx:(cM m.p).length<=500:=by unfold cM;rw[n0];exact G.pz.eJ
 have ayK:(cT m.p).length<=250500:=mF G.pz.toPS;have Cx:m.mem.l.length=(cT m.p).length:=by rw[G.mem.ll,Db];unfold eT cT;rw[n0,n0]
 have arv:=kC.cl;have hfc:=FQ t.cD;refine akD _ _ _ _ ?_;unfold S96;refine aM u mq (λb4 _ u=>?_);have u:=(u.enc (cs':=j0 (⟨0,0,0,0,0⟩:cH)) rfl).p1;obtain⟨a,hu,u⟩:=qM.open u;have pE:=u.p4.iX;refine aE (aA oR (aB Ea u.hb rfl ?_));obtain⟨e,he⟩:=gx a.ps (i:=i.toNat) cK;refine aO Gh u.p3.dX h0 he (λq hq=>aD GV hq ?_);have u:=aax u.p4 he ht;obtain⟨bp,nv,rg,QM,ds,hk,u⟩:=mh.open u;have Hb:=hk.2.1.1;refine aE (aA wI (aB bL u.hb rfl (bW (aC (λc=>?_) λc=>?_))))
 .have hse:iv m i=({m with fault:=t.fault,ja:=i},⟨16,i,t.fault,0,0⟩):=by unfold iv;rw[ht];dsimp only;rw[ew c]
  refine aE (aA wI (aB bL u.hb rfl ?_));have u:=St.Dl (H:=NN K m.room) (x:=t) (((mh.shut (t:=t) hk u.p3.p3.p3.p3).p1).p1) cK pE he;rw[mW ht]at u;have u:=qM.shut (m:=m) hu u.p4.p4.p4.p4;refine bF ag2 u (H':=λ_=>qM K p {m with fault:=t.fault,ja:=i}) (Φ:=λv _=>v=ia (⟨16,i,t.fault,0,0⟩:cH)) (λI E J=>?_) ?_
  .exact C168 K p m i t.fault I _ E
  rintro _ _ rfl u;refine aJ (x:=(⟨16,i,t.fault,0,0⟩:cH)) u.p1 fm rfl rfl (λ_ u=>aD (x:=(⟨16,i,t.fault,0,0⟩:cH)) fm u.At ?_);rw[hse];exact⟨rfl,u.drop.mut⟩
 have hf0:t.fault=0:=cK
 obtain⟨x,xa,xb,Ce⟩:=NB ue;obtain⟨en,tS⟩:=Bm Ce;have QN:(v9 (gA t.cD)).length<=100000:=by rw[tS,oj]at hfc;omega
 have xf:=hk.2.1;rw[tS]at xf;obtain⟨d0,pZ,rfl,yS,hds⟩:=xf.head;obtain⟨dx,db,de,dn⟩:=d0;obtain⟨M,O,rfl,_,_⟩:=jg (yS.x _ (U _ u.aG));have zX:∀w,K w->mG w (⟨x.kind,x.eD,x.name,M,O,x.n,x.body,x.eu,x.at_⟩:bE) x:=yS.x;obtain⟨⟨Q8,hk3⟩,hv1,hv2⟩:=G.st t Cg hf0 _ _ _ Ce;obtain⟨hx,_,_,_,_,_,_,_,r,en',p',Bu,sr,ar⟩:=kC.top Ce;refine aE (aA kN (aB uz u.hb rfl (aO ny u.p3.eG cK rfl λq1 h1=>Lg (⟨x.kind,x.eD,x.name,M,O,x.n,x.body,x.eu,x.at_⟩:bE) oU h1 rfl λq2 h2=>aD eL h2 (pop JC (have u:=mh.shut (t:=t) hk u.p3.p3.p3.p3;aM u jw λb6 _ u=>aM u mq λb7 _ u=>aJ (x:=(⟨x.kind,x.eD,x.name,M,O,x.n,x.body,x.eu,x.at_⟩:bE)) u.p1 eL rfl rfl λ_ u=>aJ (x:=(⟨0,0,0,0,0⟩:cH)) u.p1 fm rfl rfl λ_ u=>have u:=u.drew;aE (aA oQ ?_))))))
 refine qg a.pv et u.p4.hb rfl (aA fZ (aB (v:=.string x.name) gv u.p1.hb rfl (aE (aA oQ (qg a.pv et u.p4.hb rfl (aA fZ (aB (v:=.string x.name) gv u.p1.hb rfl (dT Ky u (C124 m.p a.pv _ (hu.pr _ (U _ u.aG)) G.pz) λx41 _ cL u=>?_))))))));refine⟨aF gv (u.p2.hb.cell (v:=.string x.name) rfl),?_⟩;refine⟨jx a.pv et u.p5.hb rfl,?_⟩;refine⟨aF gv (u.p2.hb.cell (v:=.string x.name) rfl),?_⟩;refine aV rS u (C123 _ (cT m.p) x.name _ u.dX cK) (λ_ Mn u=>?_);refine⟨jx a.pv et u.p5.hb rfl,?_⟩;refine⟨aF gv (u.p2.hb.cell (v:=.string x.name) rfl),?_⟩
 refine dT Rb u (C125 m.p a.pv _ (hu.pr _ (U _ u.aG)) G.pz) (λx49 _ cL u=>?_);refine⟨aF gv (u.p3.hb.cell (v:=.string x.name) rfl),?_⟩;refine aV rS u (C123 _ (cM m.p) x.name _ u.dX cK) (λw11 Mn u=>?_);have u:=CM.shut (m:=m) (i:=i.toNat) (tp:=e) ⟨hu,he,pE,cK⟩ u.drop.drop.p3.p7.p7.p7.p7;have u:=u.p3.p4.p4.p4;have NQ:iv m i=(if x.kind=10/\m.eS.getD (fD m x).toNat 0≠i then({m with fault:=3,ja:=i},⟨16,i,3,0,0⟩)else({ (ea m t i x).1 with l:=m.l.set i.toNat (ud m t i x)},{ (ea m t i x).2.2 with t:=i})):=by unfold iv;rw[ht];dsimp only;rw[ej cK,Ce]
 refine⟨λw'=>¬ (x.kind=10/\m.eS.getD (fD m x).toNat 0≠i)/\St w F [bY b7 (j0 ((ea m t i x).2.2)),bY b6 (j0 (⟨x.kind,x.eD,x.name,M,O,x.n,x.body,x.eu,x.at_⟩:bE)),bY b4 (j0 (⟨0,0,0,0,0⟩:cH)),mh K e.b m.room (ea m t i x).2.1,CM K p (ea m t i x).1 i.toNat e] w',?_,?_⟩
 .refine aA dN (aB (v:=hZ x.kind) bL u.p1.hb rfl ?_);refine⟨λjv w'=>jv=.bool (decide (x.kind=2\/x.kind=4))/\w'=w11,?_,?_⟩
  .exact aH (aC (λc=>⟨vb (by rw[ez c,ez (Or.inl c)]),rfl⟩) λ_=>aH ⟨vb (ga.2 cK),rfl⟩)
  rintro _ _ ⟨rfl,rfl⟩ sZ;refine aC (λk24=>?_) (λk24=>?_)
  .have W:¬ (x.kind=10/\m.eS.getD (fD m x).toNat 0≠i):=cK
   obtain⟨jc,hjc,ayL,_⟩:=lV (dK.1 (hx.cl cK));have hjcl:=(kE.1 ayL).1;have hcc:dO m x=(jc:Int):=hjc;refine aD (x:=(⟨x.kind,x.eD,x.name,M,O,x.n,x.body,x.eu,x.at_⟩:bE)) eL u.p1.At (have u:=St.join u.p4.p4;bF arL u (H':=λ_=>sep (mh K e.b m.room (ea m t i x).2.1) (CM K p (ea m t i x).1 i.toNat e)) (Φ:=λv _=>v=ia (ea m t i x).2.2) (λI E J=>?_) ?_)
   .exact C169 K p m i i.toNat e t x (⟨x.kind,x.eD,x.name,M,O,x.n,x.body,x.eu,x.at_⟩:bE) I _ E (λw' hc=>U w' (J w' hc).aG) kC hto zX hx G.mem rn k24 (λh=>aaD ue hf0 Ce h) cK
   rintro _ _ rfl u;have u:=u.split;exact aJ (x:=((ea m t i x).2.2:cH)) u.p2 fm rfl rfl (λ_ u=>have u:=u.p2.p2.p4.p4.p4;⟨W,u⟩)
  refine aH (aC (λk8=>?_) λk8=>?_)
  .have W:¬ (x.kind=10/\m.eS.getD (fD m x).toNat 0≠i):=cK
   refine aA ab9 (aT u bL (dL rfl) rfl λ_ u=>?_);have u:=(((((u.enc (cs':=j0 (⟨7,0,0,0,0⟩:cH)) rfl).p4).p4).p4).p4).p4;rw[akZ k8];exact⟨W,u⟩
  refine aH (aC (λk9=>?_) λk9=>?_)
  .have W:¬ (x.kind=10/\m.eS.getD (fD m x).toNat 0≠i):=cK
   have V:x.kind=9\/x.kind=10:=cK
   obtain⟨j,hj,B2,_⟩:=lV (dK.1 (hx.lk V));have DZ:=(kE.1 B2).1;have hjk:fD m x=(j:Int):=hj;have u:=u.p4;obtain⟨a,B,u⟩:=CM.open u;refine aE (aA vg (aB eg u.hb rfl (dR u.p2 cS (show 0<=fD m x by omega) (show fD m x<_ by omega) λ_ ayM=>js (i:Int) u.p2 bL ayM cK λ_ u=>pop (oC 10 (fD m x)) (have u:=CM.shut (m:=pB m x i) (⟨⟨B.1.pr,B.1.rc⟩,B.2⟩) u.p4.p4.p2.p4.p4;aJ (x:=(⟨10,0,fD m x,0,0⟩:cH)) u.p1 fm rfl rfl λ_ u=>?_))));have u:=u.p1.p4.p4.p4.p4;rw[ak1 k9];exact⟨W,u⟩
  refine aH (aC (λY=>?_) λY=>?_)
  .have V:x.kind=9\/x.kind=10:=cK
   obtain⟨j,hj,B2,_⟩:=lV (dK.1 (hx.lk V));have DZ:=(kE.1 B2).1;have hjk:fD m x=(j:Int):=hj;have u:=u.p4;obtain⟨a,B,u⟩:=CM.open u;have YN:=u.p2.dX;obtain⟨ov,Zk⟩:=gx m.eS (i:=(fD m x).toNat) cK;have hgd:m.eS.getD (fD m x).toNat 0=ov:=by rw[ob,Zk];rfl
   refine aE (aA vg (aB eg u.hb rfl (aO cS YN (show 0<=fD m x by omega) Zk λq69 h69=>aD bL h69 (bW (aC (λZ=>?_) λZ=>?_)))))
   .have u:=u.p4;have u:=xK ((CM.shut (m:=m) B u.p4.p4.p4.p4).p4);rw[mW ht]at u;refine bF ag2 u (H':=λ_=>qM K p {m with fault:=3,ja:=i}) (Φ:=λv _=>v=ia (⟨16,i,3,0,0⟩:cH)) (λI E J=>?_) ?_
    .exact C168 K p m i 3 I _ E
    rintro _ _ rfl u;refine aJ (x:=(⟨16,i,3,0,0⟩:cH)) u.p3 fm rfl rfl (λ_ u=>aD (x:=(⟨16,i,3,0,0⟩:cH)) fm u.At ?_);have u:=u.drop.p1.drop.p1.drop;rw[NQ,ew ⟨Y,by rw[hgd];exact Z⟩];exact⟨rfl,u.mut⟩
   refine aE (aA vg (aB eg u.hb rfl (dR u.p2 cS (show 0<=fD m x by omega) (show fD m x<_ by omega) λ_ ak3=>js (-1:Int) u.p2 bL ak3 cK λ_ u=>pop (oC 11 (fD m x)) (have u:=CM.shut (m:=pB m x (-1)) (⟨⟨B.1.pr,B.1.rc⟩,B.2⟩) u.p4.p4.p2.p4.p4;aJ (x:=(⟨11,0,fD m x,0,0⟩:cH)) u.p1 fm rfl rfl λ_ u=>?_))));have u:=u.p1.p4.p4.p4.p4;rw[aeN Y];exact⟨by rw[hgd];exactλh=>Z h.2,u⟩
  have W:¬ (x.kind=10/\m.eS.getD (fD m x).toNat 0≠i):=cK
  have u:=u.drew;refine aD (x:=(⟨x.kind,x.eD,x.name,M,O,x.n,x.body,x.eu,x.at_⟩:bE)) eL u.p1.At ?_;have u:=u.p4;obtain⟨a,B,u⟩:=CM.open u;refine aE (aA oQ (qg a.pv et u.hb rfl (aV ar0 u (C60 m.p a.pv (dO m x) _ (B.1.pr _ (U _ u.aG)) G.pz) λ_ Mn u=>?_)));refine⟨eH (x:=(⟨x.kind,x.eD,x.name,M,O,x.n,x.body,x.eu,x.at_⟩:bE)) eL u.p6.At,?_⟩;have u:=(CM.shut (m:=m) B u.p4.p4.p4.p4.p4).p4
  have ha1:(ea m t i x).1=m:=by
   rcases(show x.kind=3\/x.kind=5\/x.kind=6\/x.kind=7 by omega)with h|h|h|h
   .rw[aaz h]
   .rw[aaA h]
   .rw[aaB h]
   .rw[aaC h]
  refine bF arK u (H':=λ_=>mh K e.b m.room (ea m t i x).2.1) (Φ:=λv _=>v=ia (ea m t i x).2.2) (λI E J=>?_) ?_
  .exact C170 K _ m i e t x (⟨x.kind,x.eD,x.name,M,O,x.n,x.body,x.eu,x.at_⟩:bE) I _ E (λw' hc=>U w' (J w' hc).aG) kC hto zX hx cK
  rintro _ _ rfl u;refine aJ (x:=((ea m t i x).2.2:cH)) u.p2 fm rfl rfl (λ_ u=>?_);have u:=u.p2.p2.p4.p4.p4;rw[ha1];exact⟨W,u⟩
 rintro _ ⟨aaH,u⟩ sZ;have yE:=Cl (m:=m) (t:=t) (i:=i) (x:=x);have ak4:sK (Ul (cT m.p) (cM m.p) t.names) (ea m t i x).2.1:=JR kC G.rm.2
 have aaI:yh (cT m.p) (cM m.p) { (ea m t i x).2.1 with cD:=gA (ea m t i x).2.1.cD}:=by
  show sK (Ul _ _ (ea m t i x).2.1.names) _;rw[vF];exact JS ak4
 have ar2:=(aaa (i:=i) (x:=x) hvo.mem hto).1;have ayP:BA { (ea m t i x).2.1 with cD:=gA (ea m t i x).2.1.cD}:=⟨ar2.r,ar2.b⟩;have hap:=Cm (m:=m) (t:=t) (i:=i) (x:=x);refine aA Rs (aT u bL (dL rfl) rfl λ_ u=>have u:=(u.enc (cs':=j0 ({ (ea m t i x).2.2 with t:=i}:cH)) rfl).p3;bF H8 u (H':=λ_=>mh K e.b m.room { (ea m t i x).2.1 with cD:=gA (ea m t i x).2.1.cD}) (Φ:=λ_ _=>True) (λI E J=>?_) ?_)
 .exact(C171 K e.b m.room (ea m t i x).2.1 I (.slice none 0 0) [] [] (v9 (gA t.cD)) _ (gA (ea m t i x).2.1.cD) _ E (λw' hc=>U w' (J w' hc).aG) (λ_ _=>dA.nil _ _) lj.nil (by rw[hap];exact tS) (by rw[hap];rfl) (by rw[hap];exact hk.2.2.pop) (l1 _) QN).mono λ_ _ r=>r.mono λ_ _ h=>⟨trivial,h.2⟩
 rintro _ _ _ u;refine bF ag1 u (H':=λ_=>mh K e.b m.room (ud m t i x)) (Φ:=λ_ _=>True) (λI E J=>?_) ?_
 .exact(C129 K e.b m.room { (ea m t i x).2.1 with cD:=gA (ea m t i x).2.1.cD} (ud m t i x) _ _ _ I _ E (λw' hc=>U w' (J w' hc).aG) aaI ayP (qI aaI).1).mono λ_ _ r=>r.mono λ_ _ h=>⟨trivial,h.2⟩
 rintro _ _ _ u;refine aD (x:=({ (ea m t i x).2.2 with t:=i}:cH)) fm u.p1.At (aJ (x:=({ (ea m t i x).2.2 with t:=i}:cH)) u.p3 fm rfl rfl λ_ u=>aD (x:=({ (ea m t i x).2.2 with t:=i}:cH)) fm u.At ?_);have u:=u.drop.p1.drop.p1.drop.p1.p1;rw[<- yE]at u;have u:=xK u;rw[ZZ]at u;rw[NQ,ej aaH];exact⟨rfl,u.mut⟩
def C91(K:hM)(p:Nat)(m:gR)(i:Int)(t:jY)(F:Nat->Prop)(w:World)(hF:(gn K p m).p w F)(U:∀w',gu F w w'->K w')(Z:oJ m)(rn:MB m.mem 1000000)(h0:0<=i)(ht:m.l[i.toNat]?=some t)(ayQ:t.fault=0->∃x a b,pb t.cD=some (x,a,b)) :
   CR 91 [.pointer (some ⟨p,0,none⟩),hZ i] w (λv w'=>v=ia (iv m i).2/\mP F (gn K p (iv m i).1) w w'):=by
 have u:=St.begin hF;have Cg:=kO ht;have V:=Z.th t Cg;have nO:=(kE.1 ht).1;have oG:=Dz V.p;have EW:=V.cl;have G6:=V.bl;have Y8:=V.nb;have Gq:=V.rl;have how:=Z.ow;have ajx:(cM m.p).length<=500:=by unfold cM;rw[n0];exact Z.pz.eJ
 have ayK:(cT m.p).length<=250500:=mF Z.pz.toPS;refine ajo _ _ _ _ ?_;unfold S91;refine aM u mq (λb4 _ u=>?_);have u:=(u.enc (cs':=j0 (⟨0,0,0,0,0⟩:cH)) rfl).p1;obtain⟨a,hu,u⟩:=gn.open u;have pE:=u.p4.iX;refine aE (aA vj (aB IL u.hb rfl ?_));obtain⟨e,he⟩:=gx a.ps (i:=i.toNat) cK;refine aO KS u.p3.dX h0 he (λq hq=>aD GW hq ?_);have u:=Zi u.p4 he ht;obtain⟨O,nv,rg,pl,es,Y,u⟩:=eO.open u;refine aE (aA wJ (aB bL u.hb rfl (bW (aC (λc=>?_) λc=>?_))))
 .have hse:iv m i=({m with fault:=t.fault,ja:=i},⟨16,i,t.fault,0,0⟩):=by unfold iv;rw[ht];dsimp only;rw[ew c]
  refine aE (aA wJ (aB bL u.hb rfl ?_));have u:=eO.shut (Φ:=λ_=>True) (t:=t) Y u.p4.p4.p4.p4.p4;have u:=St.Dl (H:=yx K m.room) (x:=t) u.p1.p1 cK pE he;rw[mW ht]at u;have u:=gn.shut (m:=m) hu u.p4.p4.p4.p4;refine bF agQ u (H':=λ_=>gn K p {m with fault:=t.fault,ja:=i}) (Φ:=λv _=>v=ia (⟨16,i,t.fault,0,0⟩:cH)) (λE B J=>?_) ?_
  .exact C158 K p m i t.fault E _ B
  rintro _ _ rfl u;refine aJ (x:=(⟨16,i,t.fault,0,0⟩:cH)) u.p1 fm rfl rfl (λ_ u=>aD fm u.At ?_);rw[hse];exact⟨rfl,u.drop.mut⟩
 have hf0:t.fault=0:=cK
 refine dQ Y6 (C137 K e.b t O nv rg pl es _ _ u.hb u.p3.dX u.p4.eG.1 (λ_ e=>U _ (u.aG.then e)) V.p cK) ?_;rintro v _ ⟨hex,hv⟩;have u:=u.ext hex
 rcases hv with⟨eE,_⟩|⟨x,xa,xb,xv,av,bv,ra,rb,Ce,rfl,zX,_⟩
 .obtain⟨_,_,_,h⟩:=ayQ hf0;rw[eE]at h;cases h
 obtain⟨ge,gf,rfl,_,_⟩:=jg (zX _ (U _ u.aG))
 have PX:∀w,K w->dA (λ_=>True) w (ia ge) x.e/\dA (λ_=>True) w (ia gf) x.f:=λw hw=>by
  obtain⟨_,_,h4,h5,h6⟩:=jg (zX w hw);cases h4
  exact⟨h5,h6⟩
 obtain⟨⟨Q8,xf⟩,hv1,hv2⟩:=Z.st t Cg hf0 _ _ _ Ce;obtain⟨hx,_,_,_,_,_,_,_,r,en,p',Bu,sr,ar⟩:=V.top Ce;have iT:(Bk.cons x xa xb r).str:=V.p.st _ (by rw[Bu];exact oD ..);have hxe:=hx.e;have ht1:{t with fault:=if (eI t x.e).2=true then t.fault else 2}=t:=by rw[hv1];rfl
 refine aQ rfl (aQ rfl (aQ rfl (aQ rfl (have u:=eO.shut (Φ:=λ_=>True) (t:=t) Y u.p4.p4.p4.p4.p4;aM u jw λb6 _ u=>aJ (x:=(⟨x.kind,x.eD,x.name,ge,gf,x.n,x.body,x.eu,x.at_⟩:bE)) u eL rfl rfl λ_ u=>have u:=u.drew;aE (aA IM (aB ji u.p3.hb rfl (aA fZ (aB (v:=.string x.name) gv u.hb rfl (aE (aA IN ?_))))))))));refine aB ji u.p3.hb rfl (aA fZ (aB (v:=.string x.name) gv u.hb rfl (aV Hj u (C159 _ (cT m.p) x.name _ (hu.cs _ (U _ u.aG)) cK) λ_ Mn u=>?_)));refine⟨aF ji (u.p3.hb.cell rfl),?_⟩
 refine⟨aF gv (u.hb.cell rfl),?_⟩;refine aV Hj u (C159 _ (cM m.p) x.name _ (hu.ks _ (U _ u.aG)) cK) (λ_ Mn u=>aE (aA Dj (qg a.pv et u.p3.hb rfl (aV apV u (C52 m.p a.pv _ _ (hu.pr _ (U _ u.aG)) Z.pz) λ_ Mn u=>aM u mq λb13 _ u=>?_))));have u:=mZ.shut (m:=m) (⟨hu,he,pE,cK⟩) ((((((u.enc (cs':=j0 (⟨0,0,0,0,0⟩:cH)) rfl).p3).p7).p7).p7).p7);obtain⟨c,hc⟩:∃c,c=dO m x:=⟨_,rfl⟩;obtain⟨lk,hlk⟩:∃lk,lk=fD m x:=⟨_,rfl⟩;obtain⟨ln,Gl⟩:∃ln,ln=fx m x:=⟨_,rfl⟩;have u:=u.p3.p4.p4.p4;have NQ:iv m i=(if x.kind=10/\m.eS.getD (fD m x).toNat 0≠i then({m with fault:=3,ja:=i},⟨16,i,3,0,0⟩)else({ (ea m t i x).1 with l:=m.l.set i.toNat (ud m t i x)},{ (ea m t i x).2.2 with t:=i})):=by unfold iv;rw[ht];dsimp only;rw[ej cK,Ce]
 refine⟨λw'=>¬ (x.kind=10/\m.eS.getD (fD m x).toNat 0≠i)/\St w F [bY b13 (j0 ((ea m t i x).2.2)),bY b6 (j0 (⟨x.kind,x.eD,x.name,ge,gf,x.n,x.body,x.eu,x.at_⟩:bE)),bY b4 (j0 (⟨0,0,0,0,0⟩:cH)),rF K e.b m.room (ea m t i x).2.1,mZ K p (ea m t i x).1 i.toNat e] w',?_,?_⟩
 .refine aA dN (aB (v:=hZ x.kind) bL u.p1.hb rfl (aH (aC (λW=>?_) λW=>?_)))
  .have G:(ea m t i x)=(m,pe t x.eD (ij m t (dO m x)),xB m t x):=by unfold ea;rw[ew W]
   have I:¬ (x.kind=10/\m.eS.getD (fD m x).toNat 0≠i):=cK
   refine aD eL u.p1.At (have u:=St.join u.p4.p4;bF aqL u (H':=λ_=>sep (rF K e.b m.room (pe t x.eD (ij m t (dO m x)))) (mZ K p m i.toNat e)) (Φ:=λv _=>v=ia (xB m t x)) (λE B J=>?_) ?_)
   .exact C160 K p m i.toNat e t x ⟨x.kind,x.eD,x.name,ge,gf,x.n,x.body,x.eu,x.at_⟩ E (dO m x) _ B (λw' hc=>U w' (J w' hc).aG) V Z.mem zX (hx.rg cK)
   rintro _ _ rfl u;have u:=u.split;refine aJ (x:=(xB m t x:cH)) u.p2 fm rfl rfl (λ_ u=>?_);have u:=u.p2.p2.p4.p4.p4;rw[G];exact⟨I,u⟩
  refine aH (aC (λk3=>?_) λk3=>?_)
  .have G:(ea m t i x)=(m,pW m t ⟨3,fx m x,dO m x,(eI t x.e).1⟩,⟨3,0,dO m x,(eI t x.e).1,0⟩):=by unfold ea;rw[ej W,ew k3]
   have I:¬ (x.kind=10/\m.eS.getD (fD m x).toNat 0≠i):=cK
   refine aA iV (aB (v:=ia ge) ju u.p1.hb rfl (have u:=u.p3;bF MQ u (H':=λ_=>rF K e.b m.room t) (Φ:=λv _=>v=.tuple #[hZ (eI t x.e).1,.bool (eI t x.e).2]) (λE B J=>?_) ?_))
   .have:=C161 K _ e.b m.room t E _ x.e _ B (λw' hc=>U w' (J w' hc).aG) (PX _ (U _ u.aG)).1 cK cK;rw[ht1]at this;exact this
   rintro _ _ rfl u;refine aQ rfl (aQ rfl ?_);obtain⟨O,nv,rg,pl,es,Y,u⟩:=eO.open u;refine aE (aA oS (aB Al u.hb rfl (pop (xz 3 (fx m x) (dO m x) (eI t x.e).1) (have u:=u.p1;bF Re u (H':=λ_=>jj O m.room (sG m.room t.buf (⟨3,fx m x,dO m x,(eI t x.e).1⟩:bI))) (Φ:=λ_ _=>True) (λE B J=>?_) ?_))))
   .exact(C162 O m.room t.buf (⟨3,fx m x,dO m x,(eI t x.e).1⟩:bI) E _ B cK).mono λ_ _ r=>r.mono λ_ _ h=>⟨trivial,h.2⟩
   rintro _ _ _ u;refine pop (mJ 3 (dO m x) (eI t x.e).1) (have u:=eO.shut (Φ:=λ_=>True) (t:=pW m t (⟨3,fx m x,dO m x,(eI t x.e).1⟩:bI)) Y u.p4.p4.p4.p3.p4;aJ (x:=(⟨3,0,dO m x,(eI t x.e).1,0⟩:cH)) u.p1 fm rfl rfl λw14' u=>?_);have u:=u.p4.p2.p4.p4.p4;rw[G];exact⟨I,u⟩
  refine aH (aC (λk5=>?_) λk5=>?_)
  .have G:(ea m t i x)=(m,pW m t ⟨5,fx m x,0,0⟩,⟨4,0,fx m x,0,0⟩):=by unfold ea;rw[ej W,ej k3,ew k5]
   have I:¬ (x.kind=10/\m.eS.getD (fD m x).toNat 0≠i):=cK
   have u:=u.p3;obtain⟨O,nv,rg,pl,es,Y,u⟩:=eO.open u;refine aE (aA oS (aB Al u.hb rfl (pop (vy 5 (fx m x)) (have u:=u.p1;bF Re u (H':=λ_=>jj O m.room (sG m.room t.buf (⟨5,fx m x,0,0⟩:bI))) (Φ:=λ_ _=>True) (λE B J=>?_) ?_))))
   .exact(C162 O m.room t.buf (⟨5,fx m x,0,0⟩:bI) E _ B cK).mono λ_ _ r=>r.mono λ_ _ h=>⟨trivial,h.2⟩
   rintro _ _ _ u;refine pop (oC 4 (fx m x)) (have u:=eO.shut (Φ:=λ_=>True) (t:=pW m t (⟨5,fx m x,0,0⟩:bI)) Y u.p4.p4.p4.p3.p4;aJ (x:=(⟨4,0,fx m x,0,0⟩:cH)) u.p1 fm rfl rfl λw16' u=>?_);have u:=u.p4.p2.p4.p4.p4;rw[G];exact⟨I,u⟩
  refine aH (aC (λk6=>?_) λk6=>?_)
  .have G:(ea m t i x)=(m,pW m t ⟨6,fx m x,0,0⟩,⟨5,0,fx m x,0,0⟩):=by unfold ea;rw[ej W,ej k3,ej k5,ew k6]
   have I:¬ (x.kind=10/\m.eS.getD (fD m x).toNat 0≠i):=cK
   have u:=u.p3;obtain⟨O,nv,rg,pl,es,Y,u⟩:=eO.open u;refine aE (aA oS (aB Al u.hb rfl (pop (vy 6 (fx m x)) (have u:=u.p1;bF Re u (H':=λ_=>jj O m.room (sG m.room t.buf (⟨6,fx m x,0,0⟩:bI))) (Φ:=λ_ _=>True) (λE B J=>?_) ?_))))
   .exact(C162 O m.room t.buf (⟨6,fx m x,0,0⟩:bI) E _ B cK).mono λ_ _ r=>r.mono λ_ _ h=>⟨trivial,h.2⟩
   rintro _ _ _ u;refine pop (oC 5 (fx m x)) (have u:=eO.shut (Φ:=λ_=>True) (t:=pW m t (⟨6,fx m x,0,0⟩:bI)) Y u.p4.p4.p4.p3.p4;aJ (x:=(⟨5,0,fx m x,0,0⟩:cH)) u.p1 fm rfl rfl λw18' u=>?_);have u:=u.p4.p2.p4.p4.p4;rw[G];exact⟨I,u⟩
  refine aH (aC (λk7=>?_) λk7=>?_)
  .have G:(ea m t i x)=(m,pW m t ⟨7,0,0,0⟩,⟨6,0,0,0,0⟩):=by unfold ea;rw[ej W,ej k3,ej k5,ej k6,ew k7]
   have I:¬ (x.kind=10/\m.eS.getD (fD m x).toNat 0≠i):=cK
   have u:=u.p3;obtain⟨O,nv,rg,pl,es,Y,u⟩:=eO.open u;refine aE (aA oS (aB Al u.hb rfl (pop (Aw 7) (have u:=u.p1;bF Re u (H':=λ_=>jj O m.room (sG m.room t.buf (⟨7,0,0,0⟩:bI))) (Φ:=λ_ _=>True) (λE B J=>?_) ?_))))
   .exact(C162 O m.room t.buf (⟨7,0,0,0⟩:bI) E _ B cK).mono λ_ _ r=>r.mono λ_ _ h=>⟨trivial,h.2⟩
   rintro _ _ _ u;refine pop (JD 6) (have u:=eO.shut (Φ:=λ_=>True) (t:=pW m t (⟨7,0,0,0⟩:bI)) Y u.p4.p4.p4.p3.p4;aJ (x:=(⟨6,0,0,0,0⟩:cH)) u.p1 fm rfl rfl λw20' u=>?_);have u:=u.p4.p2.p4.p4.p4;rw[G];exact⟨I,u⟩
  refine aH (aC (λk8=>?_) λk8=>?_)
  .have G:(ea m t i x)=(m,t,⟨7,0,0,0,0⟩):=by unfold ea;rw[ej W,ej k3,ej k5,ej k6,ej k7,ew k8]
   have I:¬ (x.kind=10/\m.eS.getD (fD m x).toNat 0≠i):=cK
   refine pop (JD 7) (aJ (x:=(⟨7,0,0,0,0⟩:cH)) u fm rfl rfl λ_ u=>?_);have u:=u.p4.p4.p4.p4.p4;rw[G];exact⟨I,u⟩
  refine aH (aC (λk4=>?_) λk4=>?_)
  .have G:(ea m t i x)=(rI m t x,pe t x.eD (jF m.mem (dO m x)),tJ m t x):=by unfold ea;rw[ej W,ej k3,ej k5,ej k6,ej k7,ej k8,ew k4]
   have I:¬ (x.kind=10/\m.eS.getD (fD m x).toNat 0≠i):=cK
   refine aD eL u.p1.At (have u:=St.join u.p4.p4;bF aqM u (H':=λ_=>sep (rF K e.b m.room (pe t x.eD (jF m.mem (dO m x)))) (mZ K p (rI m t x) i.toNat e)) (Φ:=λv _=>v=ia (tJ m t x)) (λE B J=>?_) ?_)
   .exact C163 K p m i.toNat e t x ⟨x.kind,x.eD,x.name,ge,gf,x.n,x.body,x.eu,x.at_⟩ E _ B (λw' hc=>U w' (J w' hc).aG) V Z.mem zX (hx.rg cK) rn hxe hv1 hv2
   rintro _ _ rfl u;have u:=u.split;refine aJ (x:=(tJ m t x:cH)) u.p2 fm rfl rfl (λ_ u=>?_);have u:=u.p2.p2.p4.p4.p4;rw[G];exact⟨I,u⟩
  have aaG:x.kind=9\/x.kind=10:=cK
  obtain⟨j,hj,B2,_⟩:=lV (dK.1 (hx.lk aaG));have DZ:=(kE.1 B2).1;have hjk:fD m x=(j:Int):=hj;refine aH (aC (λk9=>?_) λk9=>?_)
  .have G:(ea m t i x)=(pB m x i,t,⟨10,0,fD m x,0,0⟩):=by unfold ea;rw[ej W,ej k3,ej k5,ej k6,ej k7,ej k8,ej k4,ew k9]
   have I:¬ (x.kind=10/\m.eS.getD (fD m x).toNat 0≠i):=cK
   have u:=u.p4;obtain⟨a,M,u⟩:=mZ.open u;refine aE (aA vi (aB eg u.hb rfl (dR u.p2 cS (show 0<=fD m x by omega) (show fD m x<_ by omega) λ_ ar3=>js (i:Int) u.p2 bL ar3 cK λ_ u=>pop (oC 10 (fD m x)) (have u:=mZ.shut (m:=pB m x i) (⟨⟨M.1.pr,M.1.cs,M.1.ks,M.1.mem,M.1.rc⟩,M.2⟩) u.p4.p4.p2.p4.p4;aJ (x:=(⟨10,0,fD m x,0,0⟩:cH)) u.p1 fm rfl rfl λ_ u=>?_))));have u:=u.p1.p4.p4.p4.p4;rw[G];exact⟨I,u⟩
  have G:(ea m t i x)=(pB m x (-1),t,⟨11,0,fD m x,0,0⟩):=by unfold ea;rw[ej W,ej k3,ej k5,ej k6,ej k7,ej k8,ej k4,ej k9]
  have u:=u.p4;obtain⟨a,M,u⟩:=mZ.open u;have YN:=u.p2.dX;obtain⟨ov,Zk⟩:=gx m.eS (i:=(fD m x).toNat) cK;have hgd:m.eS.getD (fD m x).toNat 0=ov:=by rw[ob,Zk];rfl
  refine aE (aA vi (aB eg u.hb rfl (aO cS YN (show 0<=fD m x by omega) Zk λq69 h69=>aD bL h69 (bW (aC (λc72=>?_) λc72=>?_)))))
  .have u:=u.p4;have u:=xA ((mZ.shut (m:=m) M u.p4.p4.p4.p4).p4);rw[mW ht]at u;refine bF agQ u (H':=λ_=>gn K p {m with fault:=3,ja:=i}) (Φ:=λv _=>v=ia (⟨16,i,3,0,0⟩:cH)) (λE B J=>?_) ?_
   .exact C158 K p m i 3 E _ B
   rintro _ _ rfl u;refine aJ (x:=(⟨16,i,3,0,0⟩:cH)) u.p3 fm rfl rfl (λ_ u=>aD fm u.At ?_);have u:=u.drop.p1.drop.p1.drop;rw[NQ,ew ⟨cK,by rw[hgd];exact c72⟩];exact⟨rfl,u.mut⟩
  refine aE (aA vi (aB eg u.hb rfl (dR u.p2 cS (show 0<=fD m x by omega) (show fD m x<_ by omega) λ_ ak3=>js (-1:Int) u.p2 bL ak3 cK λ_ u=>pop (oC 11 (fD m x)) (have u:=mZ.shut (m:=pB m x (-1)) (⟨⟨M.1.pr,M.1.cs,M.1.ks,M.1.mem,M.1.rc⟩,M.2⟩) u.p4.p4.p2.p4.p4;aJ (x:=(⟨11,0,fD m x,0,0⟩:cH)) u.p1 fm rfl rfl λ_ u=>?_))));have u:=u.p1.p4.p4.p4.p4;rw[G];exact⟨by rw[hgd];exactλh=>c72 h.2,u⟩
 rintro _ ⟨aaH,u⟩ _;have ayR:(ea m t i x).2.1.cD=(.cons x xa xb r,en)::p':=by rw[Cm];exact Bu
 have yE:=Cl (m:=m) (t:=t) (i:=i) (x:=x);have ak4:sK (Ul (cT m.p) (cM m.p) t.names) (ea m t i x).2.1:=JR V Z.rm.2
 have aaI:yh (cT m.p) (cM m.p) { (ea m t i x).2.1 with cD:=gA (ea m t i x).2.1.cD}:=by
  show sK (Ul _ _ (ea m t i x).2.1.names) _;rw[vF];exact JS ak4
 refine aA Rs (aT u bL (dL rfl) rfl λ_ u=>have u:=(u.enc (cs':=j0 ({ (ea m t i x).2.2 with t:=i}:cH)) rfl).p3;bF MP u (H':=λ_=>rF K e.b m.room { (ea m t i x).2.1 with cD:=gA (ea m t i x).2.1.cD}) (Φ:=λ_ _=>True) (λE B J=>?_) ?_)
 .exact(C164 K _ e.b m.room (ea m t i x).2.1 E x xa xb r en p' _ B (λw' hc=>U w' (J w' hc).aG) ayR iT (by rw[Cm];omega)).mono λ_ _ r=>r.mono λ_ _ h=>⟨trivial,h.2⟩
 rintro _ _ _ u;refine bF agL u (H':=λ_=>rF K e.b m.room (ud m t i x)) (Φ:=λ_ _=>True) (λE B J=>?_) ?_
 .exact(C117 K e.b m.room { (ea m t i x).2.1 with cD:=gA (ea m t i x).2.1.cD} (ud m t i x) _ _ _ E _ B (λw' hc=>U w' (J w' hc).aG) aaI (qI aaI).1).mono λ_ _ r=>r.mono λ_ _ h=>⟨trivial,h.2⟩
 rintro _ _ _ u;refine aD (x:=({ (ea m t i x).2.2 with t:=i}:cH)) fm u.p1.At (aJ (x:=({ (ea m t i x).2.2 with t:=i}:cH)) u.p3 fm rfl rfl λ_ u=>aD fm u.At ?_);have u:=u.drop.p1.drop.p1.drop.p1.p1;rw[<- yE]at u;have u:=xA u;rw[ZZ]at u;rw[NQ,ej aaH];exact⟨rfl,u.mut⟩
def C90(K:hM)(p:Nat)(m:gR)(q:aS)(gc:SV)(t:jY)(F:Nat->Prop)(w:World)(hF:(gn K p m).p w F)(hK:∀w',gu F w w'->K w')(iI:oJ m)(rn:MB m.mem 1000000)(h0:0<=q.t)(ht:m.l[q.t.toNat]?=some t) :
   CR 90 [.pointer (some ⟨p,0,none⟩),ia (⟨q.kind,q.t,q.i,gc⟩:aI)] w (λv w'=>v=ia (te q.t (dH t.buf q.i))/\mP F (gn K p (tg m t q)) w w'):=by
 have u:=St.begin hF;have Cg:=kO ht;have kC:=iI.th t Cg;have nO:=(kE.1 ht).1;have G6:=kC.bl;refine oH Tryz.func90 (pl:=P90) ?_;refine cI (x:=(⟨q.kind,q.t,q.i,gc⟩:aI)) u (λb3 _ u=>aM u mq λb4 _ u=>?_);have u:=(u.enc (cs':=j0 (⟨0,0,0,0,0⟩:cH)) rfl).p2;obtain⟨a,hu,u⟩:=gn.open u;have pE:=u.p4.iX;obtain⟨e,M⟩:=gx a.ps (i:=q.t.toNat) cK;refine⟨λx5 w'=>∃G,x5=.pointer (some ⟨G,0,none⟩)/\St w F [bY G (j0 (dH t.buf q.i)),bY b4 (j0 (⟨0,0,0,0,0⟩:cH)),bY b3 (j0 (⟨q.kind,q.t,q.i,gc⟩:aI)),rF K e.b m.room ({t with buf:=jS t.buf q.i}),mZ K p m q.t.toNat e] w',?_,?_⟩
 .have u:=u.drew;refine aE (aA vj (aB IL u.hb rfl (aA lD (aB (v:=hZ q.t) bL u.p6.hb rfl (dR u.p3 KS h0 (by have:=pE;omega) λq14 WZ=>gL u.p3 GW WZ M ?_)))));have u:=Zi u.p4 M ht;obtain⟨Y,nv,rg,pl,es,hk,u⟩:=eO.open u;refine aE (aA oS (aB Al u.hb rfl (aA qd (aB (v:=hZ q.i) bL u.p11.hb rfl ⟨?_,?_,trivial⟩))))
  .have u:=u.p1;refine bF afp u (H':=λ_=>jj Y m.room (jS t.buf q.i)) (Φ:=λv _=>v=.tuple #[ia (dH t.buf q.i),hZ (xq t.buf q.i)]) (λI J O=>?_) ?_
   .exact C155 Y m.room t.buf q.i I _ J cK
   rintro _ _ rfl u;refine aQ rfl (aQ rfl (aM u rz λG _ u=>?_));refine⟨aF IL (u.p7.hb.cell rfl),?_⟩;refine⟨aF bL (u.p12.hb.cell (v:=hZ q.t) rfl),?_⟩;refine⟨RD u.p10 GW WZ M,?_⟩;refine⟨aF Al (u.p2.hb.cell rfl),?_⟩;refine⟨aF bL (u.p12.hb.cell (v:=hZ q.i) rfl),?_⟩;exact aJ (x:=(dH t.buf q.i)) u iq rfl rfl (λ_ u=>have u:=eO.shut (Φ:=λ_=>True) (t:={t with buf:=jS t.buf q.i}) hk u.p5.p5.p5.p4.p5;have u:=mZ.shut (m:=m) ⟨hu,M,pE,cK⟩ u.p2.p6.p6.p6.p6;have u:=u.p1.p4.p4.p4;⟨G,rfl,u⟩)
  refine aM u rz (λG _ u=>?_);refine⟨aF IL (u.p7.hb.cell rfl),?_⟩;refine⟨aF bL (u.p12.hb.cell (v:=hZ q.t) rfl),?_⟩;refine⟨RD u.p10 GW WZ M,?_⟩;refine⟨aF Al (u.p1.hb.cell rfl),?_⟩;refine⟨aF bL (u.p12.hb.cell (v:=hZ q.i) rfl),?_⟩;have u:=u.p2;refine bF afp u (H':=λ_=>jj Y m.room (jS t.buf q.i)) (Φ:=λv _=>v=.tuple #[ia (dH t.buf q.i),hZ (xq t.buf q.i)]) (λI J O=>?_) ?_
  .exact C155 Y m.room t.buf q.i I _ J cK
  rintro _ _ rfl u;exact aQ rfl (aQ rfl (aJ (x:=(dH t.buf q.i)) u.p1 iq rfl rfl λ_ u=>have u:=eO.shut (Φ:=λ_=>True) (t:={t with buf:=jS t.buf q.i}) hk u.p5.p5.p5.p4.p5;have u:=mZ.shut (m:=m) ⟨hu,M,pE,cK⟩ u.p2.p6.p6.p6.p6;have u:=u.p1.p4.p4.p4;⟨G,rfl,u⟩))
 rintro _ _ ⟨G,rfl,u⟩ _;refine aA gG (aB (v:=hZ (dH t.buf q.i).kind) bL u.hb rfl (aH (aC (λc=>?_) λc=>?_)))
 .have u:=u.p4;obtain⟨a,B,u⟩:=mZ.open u;have u:=u.drew;refine aE (aA tn (aB KR u.hb rfl (aA mu (aB (v:=hZ (dH t.buf q.i).cell) bL u.p5.hb rfl (aA oV (aB (v:=hZ (dH t.buf q.i).n) bL u.p5.hb rfl (have u:=u.p1;bF afq u (H':=λ_=>iK a.q a.ov a.fv (fk m.mem (dH t.buf q.i).cell (dH t.buf q.i).n)) (Φ:=λ_ _=>True) (λI J O=>?_) ?_)))))))
  .exact(C156 a.q a.ov a.fv m.mem I _ _ _ J (λw' hc=>B.1.mem _ (hK w' (O w' hc).aG)) iI.mem rn).mono λ_ _ r=>r.mono λ_ _ h=>⟨trivial,h.2⟩
  rintro _ _ _ u;refine aA lD (aB (v:=hZ q.t) bL u.p7.hb rfl (aA mu (aB (v:=hZ (dH t.buf q.i).cell) bL u.p5.hb rfl (aA oV (aB (v:=hZ (dH t.buf q.i).n) bL u.p5.hb rfl (pop (yU 12 q.t (dH t.buf q.i).cell (dH t.buf q.i).n) (aJ (x:=(⟨12,q.t,(dH t.buf q.i).cell,(dH t.buf q.i).n,0⟩:cH)) u.p6 fm rfl rfl λ_ u=>aD fm u.At ?_)))))));have W:jT m.mem (dH t.buf q.i)=fk m.mem (dH t.buf q.i).cell (dH t.buf q.i).n:=by unfold jT;rw[ew c]
  have E:te q.t (dH t.buf q.i)=⟨12,q.t,(dH t.buf q.i).cell,(dH t.buf q.i).n,0⟩:=by unfold te;rw[ew c]
  have u:=mZ.shut (m:={m with mem:=fk m.mem (dH t.buf q.i).cell (dH t.buf q.i).n}) ⟨⟨B.1.pr,B.1.cs,B.1.ks,λw Z=>(B.1.mem w Z).write,B.1.rc⟩,B.2⟩ u.drop.p6.drop.p5.drop.p4.p4.p4.p3.p4;have u:=xA (m:={m with mem:=fk m.mem (dH t.buf q.i).cell (dH t.buf q.i).n}) (tp:=e) (t:={t with buf:=jS t.buf q.i}) u.p1;have U:tg m t q={ {m with mem:=fk m.mem (dH t.buf q.i).cell (dH t.buf q.i).n}with l:=m.l.set q.t.toNat ({t with buf:=jS t.buf q.i})}:=by unfold tg;rw[W]
  rw[U,E];exact⟨rfl,u.mut⟩
 refine aH (aC (λV=>?_) λV=>?_)
 .refine aA lD (aB (v:=hZ q.t) bL u.p2.hb rfl (pop (HE 14 q.t) (aJ (x:=(⟨14,q.t,0,0,0⟩:cH)) u.p1 fm rfl rfl λ_ u=>aD fm u.At ?_)));have u:=u.p4;obtain⟨a,B,u⟩:=mZ.open u;have W:jT m.mem (dH t.buf q.i)=m.mem:=by unfold jT;rw[ej c,ew V]
  have E:te q.t (dH t.buf q.i)=⟨14,q.t,0,0,0⟩:=by unfold te;rw[ej c,ew V]
  have u:=mZ.shut (m:={m with mem:=m.mem}) B u.p5.drop.p6.drop.p5.drop.p4.p4.p4.p4.p4;have u:=xA (m:={m with mem:=m.mem}) (tp:=e) (t:={t with buf:=jS t.buf q.i}) u.p1;have U:tg m t q={ {m with mem:=m.mem}with l:=m.l.set q.t.toNat ({t with buf:=jS t.buf q.i})}:=by unfold tg;rw[W]
  rw[U,E];exact⟨rfl,u.mut⟩
 have u:=u.p4;obtain⟨a,B,u⟩:=mZ.open u;have u:=u.drew;refine aE (aA tn (aB KR u.hb rfl (aA gY (aB (v:=hZ (dH t.buf q.i).line) bL u.p5.hb rfl (have u:=u.p1;bF amG u (H':=λ_=>iK a.q a.ov a.fv (n7 m.mem (dH t.buf q.i).line)) (Φ:=λ_ _=>True) (λI J O=>?_) ?_)))))
 .exact(C157 a.q a.ov a.fv m.mem I _ _ J (λw' hc=>B.1.mem _ (hK w' (O w' hc).aG)) iI.mem rn).mono λ_ _ r=>r.mono λ_ _ h=>⟨trivial,h.2⟩
 rintro _ _ _ u;refine aA lD (aB (v:=hZ q.t) bL u.p7.hb rfl (aA gY (aB (v:=hZ (dH t.buf q.i).line) bL u.p5.hb rfl (pop (tI 13 q.t (dH t.buf q.i).line) (aJ (x:=(⟨13,q.t,(dH t.buf q.i).line,0,0⟩:cH)) u.p6 fm rfl rfl λ_ u=>aD fm u.At ?_)))));have W:jT m.mem (dH t.buf q.i)=n7 m.mem (dH t.buf q.i).line:=by unfold jT;rw[ej c,ej V]
 have E:te q.t (dH t.buf q.i)=⟨13,q.t,(dH t.buf q.i).line,0,0⟩:=by unfold te;rw[ej c,ej V]
 have u:=mZ.shut (m:={m with mem:=n7 m.mem (dH t.buf q.i).line}) ⟨⟨B.1.pr,B.1.cs,B.1.ks,λw Z=>(B.1.mem w Z).out,B.1.rc⟩,B.2⟩ u.drop.p6.drop.p5.drop.p4.p4.p4.p3.p4;have u:=xA (m:={m with mem:=n7 m.mem (dH t.buf q.i).line}) (tp:=e) (t:={t with buf:=jS t.buf q.i}) u.p1;have U:tg m t q={ {m with mem:=n7 m.mem (dH t.buf q.i).line}with l:=m.l.set q.t.toNat ({t with buf:=jS t.buf q.i})}:=by unfold tg;rw[W]
 rw[U,E];exact⟨rfl,u.mut⟩
def C56(K:hM)(p:Nat)(m:gR)(qR:List cN)(lv:Value)(J:List cG)(F:Nat->Prop)(w:World)(hF:(gn K p m).p w F)(V:∀w',gu F w w'->K w')(hrm:1<=m.room/\m.room<=16)(hlk:(cM m.p).length<=1000)(hl:∀w',gu F w w'->dA (λ_=>True) w' lv J)(M:C5 K J qR)
   (kC:∀t∈qR,yh (cT m.p) (cM m.p) (wj t)/\t.body=(HG t.body).flat) (hn:qR.length<=1000) :
   CR 56 [.pointer (some ⟨p,0,none⟩),lv] w (λv w'=>v=.tuple #[]/\mP F (gn K p (qT m qR)) w w'):=by
 have u:=St.begin hF;have N3:=M.1;refine oH Tryz.func56 (pl:=P56) ?_;obtain⟨a,I,u⟩:=gn.open u;have pE:=u.p4.iX;refine aE (aA vj (aT u IL (dL rfl) rfl λ_ u=>aE (aA vi (aT u eg (dL rfl) rfl λ_ u=>aE (aA IN (aB ji u.hb rfl (aK iy (I.ks _ (V _ u.aG)) ?_)))))));have u:=(((u.p2.drop.p2.drop.p2.drop.eM (α:=Int)).p2).p1).p2;refine⟨λU x w'=>∃(k:Nat) (ov:Value),x=hZ (k:Int)/\U=(cM m.p).length-k/\k<=(cM m.p).length/\St w F [bY p (qS {a with ow:=ov,ll:=.slice none 0 0} m),bH ov (qW k (-1:Int)),iK a.q a.ov a.fv m.mem] w',⟨_,0,_,rfl,rfl,l1 _,u⟩,?_⟩
 rintro U _ _ ⟨k,ov,rfl,rfl,Q8,u⟩ _;refine aR (aC (λc=>?_) λc=>?_)
 .refine aE (aA vi (aB eg u.hb rfl (aZ ([-1]:List Int) u cS rfl rfl (dL rfl) λs27 _ u=>?_)));have ak6:=u.dX;exact bJ u.p2 cS ak6 (by rw[BH,mf];omega) ee (λY _ u=>have u:=u.p1.drop;aE (aA vi (aT u.p1 eg (dL rfl) u.dX.one λ_ u=>aN cK ⟨_,cK,k+1,Y,rfl,rfl,cK,by rw[SN];exact u⟩)))
 refine aK fu (hl _ u.aG) ?_;rw[show k=(cM m.p).length from cK]at u;have u:=((((((u.AB (H:=yx K m.room)).eM (α:=Ptr)).p4).p4).p3).p3).p4;refine⟨λU x w'=>∃(j:Nat) (B:Value) (ps:List Ptr),x=hZ (j:Int)/\U=J.length-j/\j<=J.length/\St w F [bY p (qS {a with ow:=ov,ll:=B} m),bH B ps,g8 (yx K m.room) ps ((qR.take j).map Up),bH ov (qW (cM m.p).length (-1:Int)),iK a.q a.ov a.fv m.mem] w',⟨_,0,_,_,rfl,rfl,l1 _,u⟩,?_⟩;rintro U _ _ ⟨j,B,ps,rfl,rfl,hj1,u⟩ _;refine aR (aC (λc2=>?_) λc2=>?_);rotate_left
 .rw[kW cK]at u;have u:=u.p2.p2.p3.p4.p4;exact⟨rfl,(gn.shut (m:=qT m qR) (a:={a with ow:=ov,ll:=B,ps:=ps}) ⟨I.pr,I.cs,I.ks,I.mem,I.rc⟩ u).mut⟩
 obtain⟨tv,QO⟩:=gx J (i:=((j:Nat):Int).toNat) cK;obtain⟨t,ht⟩:=gx qR (i:=j) cK;obtain⟨E,gb,rows,rfl,O,hgb⟩:=M.2 j _ _ QO ht;obtain⟨NR,hbk⟩:=kC t (kO ht);have Gq:t.dP.length<=1000:=NR.nb;refine aO fu (hl _ u.aG) cK QO (λq36 h36=>aD m4 h36 (aM u tA λb5 _ u=>aJ (x:=(⟨t.name,E,gb,t.at_⟩:cG)) u m4 rfl rfl λ_ u=>aE (aA acb (aB bL u.p1.hb rfl (dQ amp (C49 m.room _) ?_)))));rintro v43 _ hh;obtain⟨_,_,b43,rfl,cL⟩:=hh.resolve_left (λ_=>cK);have u:=u.made cL;refine aQ rfl (aQ rfl (have u:=u.drew;aA fR (aB (v:=ia E) ji u.p1.hb rfl (aA fR (aB (v:=ia E) ji u.p1.hb rfl (aK iy (O _ (V _ u.aG)) (wG (0:Int) u cS uw cK cK ee λs52 _ u=>?_)))))))
 rw[pQ]at u;refine⟨aF ji (u.p2.hb.cell (v:=ia E) rfl),?_⟩;obtain⟨F3,rfl⟩:=u.fI;refine pop (JF (some ⟨b43,0,none⟩) E.a E.n E.cap F3.a F3.n F3.cap) (nw u λG _ u=>have u:=(u.eM (α:=xw)).fy (Φ:=λw=>DC K w [] []/\True) (λ_=>⟨trivial,trivial⟩);have u:=eO.shut (Φ:=λ_=>True) (t:=(⟨t.dP,qW t.dP.length 0,[],0,[]⟩:jY)) (es:=[]) O u.p1.p3.p4.p4;aA lI (aB (v:=ia gb) jN u.p1.hb rfl (bF MO u (H':=λ_=>rF K G m.room (wj t)) (Φ:=λ_ _=>True) (λF2 eb Z=>?_) ?_)))
 .exact(C116 K _ G m.room ⟨t.dP,qW t.dP.length 0,[],0,[]⟩ F2 gb rows (HG t.body) false _ eb (λw' hc=>V w' (Z w' hc).aG) (λw _=>by rw[<- hbk];exact hgb w) (show(0:Nat)<=100000 by decide)).mono λ_ _ r=>r.mono λ_ _ h=>⟨trivial,h.2⟩
 rintro _ _ _ u;refine bF agL u (H':=λ_=>rF K G m.room (Up t)) (Φ:=λ_ _=>True) (λF2 eb Z=>?_) ?_
 .exact(C117 K G m.room (wj t) (Up t) _ _ _ F2 _ eb (λw' hc=>V w' (Z w' hc).aG) NR (qI NR).1).mono λ_ _ r=>r.mono λ_ _ h=>⟨trivial,h.2⟩
 rintro _ _ _ u;refine aE (aA vj ?_);have oG:=u.p4.iX;rw[n0,l0]at oG;refine aB IL u.p2.hb rfl (aZ ([(⟨G⟩:Ptr)]) u KS rfl rfl (dL rfl) λs67 _ u=>?_);have aaK:=u.dX;exact bJ u.p4 KS aaK (by simp;omega) ee (λW _ u=>have u:=u.p1.drop;aE (aA vj (aT u.p3 IL (dL rfl) u.dX.one λ_ u=>have u:=(((St.Em (H:=yx K m.room) (p:=⟨G⟩) (x:=Up t) u.p3.drop.p2.p3).p4).p4).p2;have u:=u.p4.p4;aN cK ⟨_,cK,j+1,W,ps++[⟨G⟩],rfl,rfl,cK,by rw[<- gd (k:=j) ht];exact u⟩)))
def ThK.mono{K K2:hM}{E:cG}{t:cN}(h:ThK K E t)(B:∀w,K2 w->K w):ThK K2 E t:=by
 obtain⟨I,G,rows,e,h1,h2⟩:=h
 exact⟨I,G,rows,e,λw u=>h1 w (B w u),λw=>⟨λw' u=>(h2 w).1 w' (B w' u),λu=>(h2 w).2 (B w u)⟩⟩
def C5.mono{K K2:hM}{u:List cG}{qR:List cN}(h:C5 K u qR)(B:∀w,K2 w->K w):C5 K2 u qR:=⟨h.1,λj E t h1 h2=>(h.2 j E t h1 h2).mono B⟩
def DN{p:cE}(hc:Gw p){t:cN}(ht:t∈gl p):t.body=(HG t.body).flat:=by
 obtain⟨_,h2,_⟩:=hc.f.qR ht
 obtain⟨_,_,b,h5,h6,_⟩:=lu h2
 rw[h5,NA h6]
def Br(K:hM)(lv:SV)(qR:List cN):Prop:=∃u,(∀w,K w->dA (λ_=>True) w (ia lv) u)/\C5 K u qR
structure J3(K:hM)(pv:bP)(p:cE):Prop where
 pr:∀w,K w->mG w pv p
 th:Br K pv.threads p.threads
 rc:Br K pv.recover p.recover
def crD(m:gR)(q:aS):gR:=match iQ m q with|some u=>{m with mem:=mH m.mem u}|none=>m
def DO(m:Mem)(cut:List Int)(v:Value)(B:Mem):Prop:=(fB m cut=none/\B=m/\v=hZ 1)\/∃u,fB m cut=some u/\B=mH m u/\v=hZ 0
def QP{m:Mem}{cut:List Int}{v:Value}{p:Nat}{ov fv:Value}{F:Nat->Prop}{w w':World}
  (h:(fB m cut=none/\v=hZ 1/\mP F (iK p ov fv m) w w')\/∃u,fB m cut=some u/\v=hZ 0/\mP F (iK p ov fv (mH m u)) w w') :
  True/\mP F (pH λE=>fact (DO m cut v E) (iK p ov fv E)) w w':=by
 refine⟨trivial,?_⟩
 rcases h with⟨h1,h2,B,h3,h4,h5⟩|⟨u,h1,h2,B,h3,h4,h5⟩
 .exact⟨B,⟨m,.inl ⟨h1,rfl,h2⟩,h3⟩,h4,h5⟩
 exact⟨B,⟨mH m u,.inr ⟨u,h1,rfl,h2⟩,h3⟩,h4,h5⟩
theorem ag9(K:hM):C5 K [(⟨⟨#[]⟩,bX,bX,0⟩:cG)] [⟨⟨#[]⟩,[],[],0⟩]:=by
 refine⟨rfl,λj u t h1 h2=>?_⟩
 cases j with
 | zero=>
  cases h1;cases h2
  exact⟨bX,bX,[],rfl,λw _=>dA.nil _ w,λw=>⟨λ_ _=>gM.nil,λ_=>dA.nil _ w⟩⟩
 | succ j=>simp at h1
def ayT:PL 89:=dJ Tryz.func89
def C12(K:hM)(p:cE)(pv:bP)(room:Int)(w:World)(J:∀w',Ext w w'->K w')(I:J3 K pv p)(O:PZ p):CR 12 [ia pv,hZ room] w (λv w'=>(fj p≠0/\v=.tuple #[.pointer none,hZ (fj p)]/\Ext w w')\/(fj p=0/\(room<1\/16<room)/\v=.tuple #[.pointer none,hZ 1]/\Ext w w')\/
  (fj p=0/\(1<=room/\room<=16)/\∃(b:Nat) (X:hM),v=.tuple #[.pointer (some ⟨b,0,none⟩),hZ 0]/\lg (sep (gn (λw=>K w/\X w) b (iS p room)) (eG X)) w w')):=by
 have u:=St.start w;refine ajs _ _ _ _ ?_;unfold S12;refine cI (x:=pv) u (λbp w1 u=>aD et u.At (dQ aw0 (C48 p pv _ (I.pr _ (J _ u.aG)) O) ?_));rintro _ _ ⟨aa,rfl,W⟩;have u:=u.ext W;refine aQ rfl (aQ rfl (bW (aC (λc=>?_) λc=>?_)))
 .exact .inl ⟨c,rfl,u.drop.aG⟩
 have zM:fj p=0:=cK
 have Z:=vG zM;have MF:=Z3 Z;have EW:=Bi p;refine dQ amp (C49 room _) ?_;rintro v3 _ hh
 rcases hh with⟨hrb,rfl,W⟩|⟨BG,Dh,b3,rfl,V⟩
 .have u:=u.ext W;exact aQ rfl (aQ rfl (bW (jU ee (.inr (.inl ⟨zM,hrb,rfl,u.drop.aG⟩)))))
 have u:=(u.made V).drop;refine aQ rfl (aQ rfl (bW (fH ee (have u:=u.drew;aD et u.At (aD et u.At (aD et u.At (dT awC u (C50 p pv _ (I.pr _ (J _ u.aG)) O) λx31 _ V u=>?_)))))));refine⟨eH et u.p1.At,?_⟩;refine⟨eH et u.p1.At,?_⟩;refine dT awD u (C51 p pv _ (I.pr _ (J _ u.aG)) O) (λx33 _ V u=>?_);refine⟨eH et u.p2.At,?_⟩;obtain⟨E,rfl⟩:=u.fI;obtain⟨G,rfl⟩:=u.p1.fI;refine pop (Gr _ _ _ _ _ _ _ _ _ _ _ _ _ _ _ _ _ _ _ _ _ _ _ _ _) (nw u λB w6 u=>aE (aA IM (aB ji u.hb rfl (aK iy u.p2.dX ?_))))
 have u:=u.eM (α:=Int);have Vj:St w bD [bH (.slice none 0 0) ([]:List Int),bY B (qS ⟨pv,G,E,0,.slice none 0 0,.slice none 0 0,.slice none 0 0,.slice none 0 0,[]⟩ (xC p room) |>.set 9 (.pointer none)),bH (ia E) (cM p),bH (ia G) (cT p),bY bp (j0 pv)] w6:=u;refine⟨λmm o y w1=>∃k:Nat,y=hZ (k:Int)/\mm=(cT p).length-k/\k<=(cT p).length/\St w bD [bH o ((A9 p).take k),bY B (qS ⟨pv,G,E,0,.slice none 0 0,.slice none 0 0,.slice none 0 0,.slice none 0 0,[]⟩ (xC p room) |>.set 9 (.pointer none)),bH (ia E) (cM p),bH (ia G) (cT p),bY bp (j0 pv)] w1,⟨_,0,rfl,rfl,l1 _,Vj⟩,?_⟩
 rintro mm o _ _ ⟨k,rfl,rfl,hk,u⟩ _;have Kd:(A9 p).length=(cT p).length:=by unfold A9;rw[n0,Qb]
 refine aR (aC (λc1=>?_) λc1=>?_)
 .refine aD et u.p4.At (aV apV u (C52 p pv (k:Int) _ (I.pr _ (J _ u.aG)) O) λ_ W u=>aZ ([py p (k:Int)]:List Int) u cS rfl rfl (dL rfl) λs49 _ u=>?_);have ak7:=u.dX;exact bJ u.p1 cS ak7 (by rw[l0,mf];omega) ee (λ_ _ u=>aN cK ⟨_,cK,k+1,rfl,rfl,cK,by rw[<- gI (JW (p:=p) (i:=k) cK)];exact u.p1.drop⟩)
 rw[kW cK]at u;have u:=u.drew;refine aD et u.p4.At (aD et u.p4.At (aV Yk u (C54 p pv _ (I.pr _ (J _ u.aG)) O) λ_ W u=>?_));refine⟨eH et u.p4.At,?_⟩;refine dT awE u (C55 p pv _ (I.pr _ (J _ u.aG)) O) (λx58 _ V u=>?_);have iT:=qL p;have tS:(eT p).length=(im p).length:=by unfold eT;rw[n0]
 refine dQ axA (C53 (A9 p) (eT p) (ey p) _ _ _ u.p1.dX u.dX cK cK cK λk n h1 h2=>?_) ?_
 .have h3:=QE Z h1 h2;have h4:=(kE.1 h2).1;exact⟨h3.1,cK,cK⟩
 rintro v59 _ ⟨q,ov,fv,rfl,V⟩;have u:=((u.made V).split).p1.split;refine aQ rfl (aQ rfl (aE (aA tn (aT u.p5 KR (dL rfl) rfl λM u=>aA kF (aB (v:=ia pv.threads) ix u.p8.hb rfl ?_)))));have u:=u.p8.drop.p5.drop.p4.drop.p3.freeze.p2.freeze.gZ.p3.freeze.gZ.p3.freeze.gZ;obtain⟨U,u,Y⟩:=u.MJ;have u:=u.AB (H:=yx (λw=>K w/\oB U M w) room);have u:=(u.eM (α:=Ptr)).eM (α:=Int)
 have u:St w bD (bY B (qS ⟨pv,G,E,q,ia ov,ia fv,.slice none 0 0,.slice none 0 0,[]⟩ (xC p room))::iK q (ia ov) (ia fv) (Jw (A9 p) (ey p) (eT p))::bH (.slice none 0 0) ([]:List Int)::bH (.slice none 0 0) ([]:List Ptr)::g8 (yx (λw=>K w/\oB U M w) room) [] []::eG (oB U M)::[]) M:=by
  have h1:=u.p5.p5;exact h1
 obtain⟨vz,ht1,ht2⟩:=I.th;obtain⟨Vz,Ng,U7⟩:=I.rc;have u:=gn.shut (K:=(λw=>K w/\oB U M w)) (m:=xC p room) ⟨λw' h=>I.pr w' h.1,λw' h=>?_,λw' h=>?_,λw' h=>⟨?_,?_⟩,⟨Vz,λw' h=>Ng w' h.1,U7.mono λ_ h=>h.1⟩⟩ u;rotate_left
 .have:=Y w' h.2;first|exact this.1|exact this.2|exact this.2.1|exact this.2.2|exact this.2.2.1|exact this.2.2.2
 .have:=Y w' h.2;first|exact this.1|exact this.2|exact this.2.1|exact this.2.2|exact this.2.2.1|exact this.2.2.2
 .have:=Y w' h.2;first|exact this.1|exact this.2|exact this.2.1|exact this.2.2|exact this.2.2.1|exact this.2.2.2
 .have:=Y w' h.2;first|exact this.1|exact this.2|exact this.2.1|exact this.2.2|exact this.2.2.1|exact this.2.2.2
 refine bF aqN u (H':=λ_=>gn (λw=>K w/\oB U M w) B (iS p room)) (Φ:=λ_ _=>True) (λF2 eb dW=>?_) ?_
 .exact(C56 (λw=>K w/\oB U M w) B (xC p room) p.threads _ vz F2 _ eb (λw' hc=>⟨J _ (dW w' hc).aG,(dW w' hc).eG⟩) ⟨BG,Dh⟩ (by have:=O.eJ;show(cM p).length<=_;unfold cM;rw[n0];omega) (λw' hc=>ht1 w' (J _ (dW w' hc).aG)) (ht2.mono λ_ h=>h.1)
   (λ_ ht=>⟨DJ Z (List.mem_append_left _ ht),DN Z (List.mem_append_left _ ht)⟩) (by have:=O.threads;omega)).mono λ_ _ r=>r.mono λ_ _ h=>⟨trivial,h.2⟩
 rintro _ _ _ u;exact .inr (.inr ⟨zM,⟨BG,Dh⟩,B,oB U M,rfl,(St.join u).fresh⟩)
theorem C24(K:hM)(p:Nat)(m:gR)(q:aS)(E:SV)(F:Nat->Prop)(w:World)(hF:(gn K p m).p w F)(O:∀w',gu F w w'->K w')(W:oJ m)(yY:Gw m.p)(rn:MB m.mem 1000000)(hcb:0<=m.bZ/\m.bZ<=1000000)(NT:∀w',gu F w w'->dA (λ_=>True) w' (ia E) q.cut)(hql:q.cut.length<=1000) :
   CR 24 [.pointer (some ⟨p,0,none⟩),ia (⟨q.kind,q.t,q.i,E⟩:aI)] w (λv w'=>v=.tuple #[ia (oL m q).2.1,hZ (oL m q).2.2]/\mP F (gn K p (oL m q).1) w w'):=by
 have u:=St.begin hF;refine oH Tryz.func24 (pl:=P24) ?_;refine cI (x:=(⟨q.kind,q.t,q.i,E⟩:aI)) u (λb3 w1 u=>aM u mq λb4 _ u=>?_);have u:=u.enc (cs':=j0 (⟨0,0,0,0,0⟩:cH)) rfl;refine⟨λjv w'=>jv=.bool (iQ m q).isSome/\St w F [gn K p (crD m q),bY b4 (j0 (⟨0,0,0,0,0⟩:cH)),bY b3 (j0 (⟨q.kind,q.t,q.i,E⟩:aI))] w',?_,?_⟩
 .have u:=u.drew
  have eE:∀w',iQ m q=none->St w F [gn K p m,bY b4 (j0 (⟨0,0,0,0,0⟩:cH)),bY b3 (j0 (⟨q.kind,q.t,q.i,E⟩:aI))] w'->(Value.bool false=.bool (iQ m q).isSome/\St w F [gn K p (crD m q),bY b4 (j0 (⟨0,0,0,0,0⟩:cH)),bY b3 (j0 (⟨q.kind,q.t,q.i,E⟩:aI))] w'):=λw' h1 h2=>by
   have e:crD m q=m:=by unfold crD;rw[h1]
   rw[h1,e];exact⟨rfl,h2⟩
  have Vu:iQ m q=(if q.kind=3/\q.t=0/\q.i=0/\m.fault=0 then fB m.mem q.cut else none):=rfl;refine aA mU (aB (v:=hZ q.kind) bL u.p1.hb rfl (aH (aC (λc1=>?_) λ_=>eE _ (by rw[Vu,ej cK]) u.p2)));refine aA lD (aB (v:=hZ q.t) bL u.p1.hb rfl (aH (aC (λZ=>?_) λ_=>eE _ (by rw[Vu,ej cK]) u.p2)));refine aA qd (aB (v:=hZ q.i) bL u.p1.hb rfl (aH (aC (λc3=>?_) λ_=>eE _ (by rw[Vu,ej cK]) u.p2)));have u:=u.p2;obtain⟨a,B,u⟩:=gn.open u;have pE:=u.p4.iX;refine aE (aA xV (aB bL u.hb rfl (aH (aC (λc4=>?_) λ_=>eE _ (by rw[Vu,ej cK]) (gn.shut B u)))))
  have hpi:iQ m q=fB m.mem q.cut:=by rw[Vu,ew ⟨c1,Z,c3,c4⟩]
  refine aE (aA tn (aB KR u.hb rfl (aA l8 (aB (v:=ia (E:SV)) eg u.p6.hb rfl (have u:=u.p1;bF aue u (H':=λv=>pH λm2=>fact (DO m.mem q.cut v m2) (iK a.q a.ov a.fv m2)) (Φ:=λ_ _=>True) (λY V G=>?_) ?_)))))
  .exact(C86 a.q a.ov a.fv m.mem Y q.cut _ _ V (λw' hc=>B.mem _ (O w' (G w' hc).aG)) W.mem rn (λw' hc=>NT w' (G w' hc).aG) hql).mono λ_ _ r=>r.mono λ_ _ h=>QP h
  rintro v34 _ _ xp;obtain⟨m2c,yW⟩:=xp.eh
  clear xp
  obtain⟨hcf,DH⟩:=yW.mw
  clear yW
  rcases hcf with⟨U,rfl,rfl⟩|⟨I,U,rfl,rfl⟩
  .have u:=DH;exact aH (have u:=u.p4.p4.p4.p3.p4;eE _ (hpi.trans U) (gn.shut B u))
  have u:=DH;refine aH ?_;have M:=hpi.trans U;have e:crD m q={m with mem:=mH m.mem I}:=by unfold crD;rw[M]
  rw[M,e];have u:=u.p4.p4.p4.p3.p4;exact⟨rfl,gn.shut (m:={m with mem:=mH m.mem I}) ⟨B.pr,B.cs,B.ks,B.mem,B.rc⟩ u⟩
 rintro _ _ ⟨rfl,u⟩ _;refine aY (λc=>?_) (λc=>?_)
 .obtain⟨I,M⟩:=L3.1 c;have e:crD m q={m with mem:=mH m.mem I}:=by unfold crD;rw[M]
  have J:oL m q=(qT (pg m I) (uX m),⟨15,0,0,qF q.cut q.cut.length,0⟩,0):=by unfold oL;rw[M]
  rw[e]at u;rw[J];obtain⟨a,B,u⟩:=gn.open u;have pE:=u.p4.iX;refine aE (aA IP (aB bL u.hb rfl (aN (show -9223372036854775808<=m.bZ+1/\m.bZ+1<=9223372036854775807 by omega) (aE (aA IP (aT u bL (dL rfl) rfl λ_ u=>?_))))));obtain⟨Vz,Ng,U7⟩:=id B.rc;have Gq:=U7.1;refine aE (aA Dj (aA oP (aB ix u.hb rfl ?_)));have u:=(gn.shut (m:=pg m I) ⟨B.pr,B.cs,B.ks,B.mem,B.rc⟩ u.p4.p4.p4.p4.p4).p2;have u:=u.p2.p2;refine⟨λjv w'=>∃vz,C5 K vz (uX m)/\St w F [eG (λw=>K w->dA (λ_=>True) w jv vz),gn K p (pg m I),bY b4 (j0 (⟨0,0,0,0,0⟩:cH)),bY b3 (j0 (⟨q.kind,q.t,q.i,E⟩:aI))] w',?_,?_⟩
  .refine aK fu (Ng _ (O _ u.aG)) (aH (aC (λZ=>?_) λZ=>?_))
   .refine pop (v:=ia (⟨⟨#[]⟩,bX,bX,0⟩:cG)) (by kernel_rfl) (aZ ([⟨⟨#[]⟩,bX,bX,0⟩]:List cG) u fu rfl rfl (dL rfl) λs54 _ u=>?_);refine⟨_,?_,u.freeze.dM (Ψ:=λw=>K w->dA (λ_=>True) w s54 [(⟨⟨#[]⟩,bX,bX,0⟩:cG)]) λ_ h _=>h⟩;have Vh:uX m=[⟨⟨#[]⟩,[],[],0⟩]:=by unfold uX;rw[ew (by have:Vz.length=m.p.recover.length:=Gq;omega)]
    rw[Vh];exact ag9 K
   have Vh:uX m=m.p.recover:=by unfold uX;rw[ej (by have:Vz.length=m.p.recover.length:=Gq;omega)]
   exact⟨Vz,by rw[Vh];exact U7,u.fy λw h=>Ng w h⟩
  rintro rv _ ⟨vz,htv,u⟩ _;obtain⟨ayV,ak8⟩:=JU yY;refine bF aqN u.p1 (H':=λ_=>gn K p (qT (pg m I) (uX m))) (Φ:=λ_ _=>True) (λY V G=>?_) ?_
  .refine(C56 K p (pg m I) (uX m) _ vz Y _ V (λw' hc=>O w' (G w' hc).aG) W.rm (by have:=W.pz.eJ;show(cM m.p).length<=_;unfold cM;rw[n0];omega) (λw' hc=>(G w' hc).eG (O w' (G w' hc).aG)) htv (λt ht=>⟨ak8 t ht,?_⟩) cK).mono λ_ _ r=>r.mono λ_ _ h=>⟨trivial,h.2⟩;unfold uX at ht
   split at ht
   .rw[vA.1 ht];rfl
   exact DN yY (List.mem_append_right _ ht)
  rintro _ _ _ u;exact aA l8 (aB (v:=ia (E:SV)) eg u.p3.hb rfl (aV axx u (C87 _ q.cut _ (NT _ u.aG) cK) λ_ _ u=>pop (HF 15 (qF q.cut q.cut.length)) (aJ (x:=(⟨15,0,0,qF q.cut q.cut.length,0⟩:cH)) u.p2 fm rfl rfl λ_ u=>aD fm u.At ⟨rfl,u.p3.drop.drop.p1.drop.mut⟩)))
 have M:iQ m q=none:=by
  cases h:iQ m q with
  | none=>rfl
  | some I=>rw[h]at c;cases c
 have e:crD m q=m:=by unfold crD;rw[M]
 have J:oL m q=(if (gS m).any (m9 q)=true then(if q.kind=2 then(match m.l[q.t.toNat]? with|some t=>((tg m t q,te q.t (dH t.buf q.i),0):gR×cH×Int)|none=>(m,⟨0,0,0,0,0⟩,13))else((iv m q.t).1,(iv m q.t).2,0))else(m,⟨0,0,0,0,0⟩,13)):=by unfold oL;rw[M];rfl
 rw[e]at u;refine dT aqK u (C67 K p m _ u.has (λ_ e=>O _ (u.aG.then e)) W) (λx64 _ cL u=>?_);have Vr:=u.p3.At
 have hfn:tE hH _ (.func (.func 88) [].toArray [.pointer (some ⟨b3,0,none⟩)].toArray) (λ_:aS=>True) (m9 q):=
  ⟨88,[],_,rfl,axv,λsx y w1 e1 Vy _=>C88 y q sx b3 (⟨q.kind,q.t,q.i,E⟩:aI) w1 Vy (Vr.ext e1) ⟨E,rfl,DL.j1 (NT _ (u.aG.then e1))⟩⟩
 refine aV ayT u (C89 _ _ _ (λ_=>True) _ _ u.dl hfn (λ_ _=>trivial) (by have:=Fz W;omega)) (λ_ he u=>have u:=u.drop;bR (aY (λZ=>?_) λZ=>?_))
 .rw[J,ej (by simpa using Z)];exact pop JC (aJ (x:=(⟨0,0,0,0,0⟩:cH)) u.p1 fm rfl rfl λ_ u=>aD fm u.At ⟨rfl,u.drop.p1.drop.mut⟩)
 have wx:(gS m).any (m9 q)=true:=by simpa using Z
 obtain⟨hf0,h0,_,t,ht,hkd⟩:=akx wx;rw[J,ew wx];refine aA mU (aB (v:=hZ q.kind) bL u.p2.hb rfl (aH (aC (λc3=>?_) λc3=>?_)))
 .rw[ew c3,ht];refine aD j6 u.p2.At (bF axu u (H':=λ_=>gn K p (tg m t q)) (Φ:=λv _=>v=ia (te q.t (dH t.buf q.i))) (λY V G=>?_) ?_)
  .exact C90 K p m q E t Y _ V (λw' hc=>O w' (G w' hc).aG) W rn h0 ht
  rintro _ _ rfl u;exact aJ (x:=te q.t (dH t.buf q.i)) u.p1 fm rfl rfl (λ_ u=>aD fm u.At ⟨rfl,u.drop.p1.drop.mut⟩)
 rw[ej c3]
 have ue:sO m t=true:=by
  rcases hkd with h|h
  .exact h.2
  .exact absurd h.1 c3
 refine aA lD (aB (v:=hZ q.t) bL u.p2.hb rfl (bF axt u (H':=λ_=>gn K p (iv m q.t).1) (Φ:=λv _=>v=ia (iv m q.t).2) (λY V G=>?_) ?_))
 .exact C91 K p m q.t t Y _ V (λw' hc=>O w' (G w' hc).aG) W rn h0 ht (λ_=>NB ue)
 rintro _ _ rfl u;exact aJ (x:=(iv m q.t).2) u.p1 fm rfl rfl (λ_ u=>aD fm u.At ⟨rfl,u.drop.p1.drop.mut⟩)
theorem C64(K:hM)(p:Nat)(m:gR)(qR:List cN)(lv:Value)(vz:List cG)(F:Nat->Prop)(w:World)(hF:(qM K p m).p w F)(hK:∀w',gu F w w'->K w')(hrm:1<=m.room/\m.room<=16)(hlk:(cM m.p).length<=1000)(hl:∀w',gu F w w'->dA (λ_=>True) w' lv vz)(htv:C5 K vz qR)
   (kC:∀t∈qR,yh (cT m.p) (cM m.p) (wj t)/\t.body=(HG t.body).flat) (hbz:∀t∈qR,t.body.length<=100000) (hn:qR.length<=1000) :
   CR 64 [.pointer (some ⟨p,0,none⟩),lv] w (λv w'=>v=.tuple #[]/\mP F (qM K p (qT m qR)) w w'):=by
 have u:=St.begin hF;have N3:=htv.1;refine akF _ _ _ _ ?_;unfold S64;obtain⟨a,hu,u⟩:=qM.open u;have pE:=u.p4.iX
 have hlr:∀w,K w->dA (λ_=>True) w (ia a.pv.eJ) m.p.eJ:=λw hw=>by
  obtain⟨g0,g1,g2,g3,g4,g5,e,_,_,h2,_⟩:=hu.pr w hw;rw[e];exact DL.flat h2
 have Bx:(cM m.p).length=m.p.eJ.length:=by unfold cM;rw[n0]
 refine aE (aA oR (aT u Ea (dL rfl) rfl λ_ u=>aE (aA vg (aT u eg (dL rfl) rfl λ_ u=>?_))));have u:=(((u.p2.drop.p2.drop.p2.drop.eM (α:=Int)).p2).p1).p2;refine⟨λmm x w'=>∃(k:Nat) (ov:Value),x=hZ (k:Int)/\mm=(cM m.p).length-k/\k<=(cM m.p).length/\St w F [bY p (po {a with ow:=ov,ll:=.slice none 0 0} m),bH ov (qW k (-1:Int)),gq a.q m.mem] w',⟨_,0,_,rfl,rfl,l1 _,u⟩,?_⟩;rintro mm _ _ ⟨k,ov,rfl,rfl,Q8,u⟩ _;refine aE (aA oQ (aA nP (aB jK u.hb rfl (aK il (hlr _ (hK _ u.aG)) (aR (aC (λc=>?_) λc=>?_))))))
 .refine aE (aA vg (aB eg u.hb rfl (aZ ([-1]:List Int) u cS rfl rfl (dL rfl) λs27 _ u=>?_)));have ak6:=u.dX;exact bJ u.p2 cS ak6 (by rw[BH,mf];omega) ee (λs28 _ u=>have u:=u.p1.drop;aE (aA vg (aT u.p1 eg (dL rfl) u.dX.one λ_ u=>aN cK ⟨_,cK,k+1,s28,rfl,rfl,cK,by rw[SN];exact u⟩)))
 rw[show k=(cM m.p).length from cK]at u;have u:=((((((u.AB (H:=NN K m.room)).eM (α:=Ptr)).p4).p4).p3).p3).p4;refine⟨λmm x w'=>∃(j:Nat) (E:Value) (ps:List Ptr),x=hZ (j:Int)/\mm=vz.length-j/\j<=vz.length/\St w F [bY p (po {a with ow:=ov,ll:=E} m),bH E ps,g8 (NN K m.room) ps ((qR.take j).map Up),bH ov (qW (cM m.p).length (-1:Int)),gq a.q m.mem] w',⟨_,0,_,_,rfl,rfl,l1 _,u⟩,?_⟩;rintro mm _ _ ⟨j,E,ps,rfl,rfl,hj1,u⟩ _;refine aK fu (hl _ u.aG) (aR (aC (λc2=>?_) λc2=>?_));rotate_left
 .rw[kW cK]at u;have u:=u.p2.p2.p3.p4.p4;exact⟨rfl,(qM.shut (m:=qT m qR) (a:={a with ow:=ov,ll:=E,ps:=ps}) ⟨hu.pr,hu.rc⟩ u).mut⟩
 obtain⟨tv,QO⟩:=gx vz (i:=((j:Nat):Int).toNat) cK;obtain⟨t,ht⟩:=gx qR (i:=j) cK;obtain⟨B,gb,rows,rfl,W,hgb⟩:=htv.2 j _ _ QO ht;obtain⟨NR,Y⟩:=kC t (kO ht);have Gq:t.dP.length<=1000:=NR.nb;have hpo:=NR.p
 have ar6:(HG t.body).str:=by
  have h2:Fv (Ul (cT m.p) (cM m.p) t.dP) (jr (HG t.body) false []):=hpo;cases hb:HG t.body with
  | nil=>trivial
  | cons x c d r=>rw[hb]at h2;exact h2.st _ (oD ..)
 have ar7:(HG t.body).flat.length<=100000:=by rw[<- Y];exact hbz t (kO ht)
 refine⟨_,?_,λ_ h=>h⟩;refine aE (aA Rq (aB bL u.hb rfl (dQ amq (C58 m.room _) ?_)));rintro v43 _ hh;obtain⟨_,_,b43,rfl,cL⟩:=hh.resolve_left (λ_=>cK);have u:=u.made cL;refine aQ rfl (aQ rfl ?_);refine⟨λt8 w'=>∃tb,t8=.pointer (some ⟨tb,0,none⟩)/\St w F [mh K tb m.room (wj t),bY p (po {a with ow:=ov,ll:=E} m),bH E ps,g8 (NN K m.room) ps ((qR.take j).map Up),bH ov (qW (cM m.p).length (-1:Int)),gq a.q m.mem] w',?_,?_⟩
 .refine FU (Wd:=λw'=>gu F w w') fu hl u.aG cK QO (λq50 h50=>FW gb lI h50 u.aG rfl rfl λq51 J=>have u:=u.drew;aD (x:=gb) jN (J _ u.aG) (FU (Wd:=λw'=>gu F w w') fu hl u.aG cK QO λq56 h56=>FW B fR h56 u.aG rfl rfl λq57 G=>aD (x:=B) ji (G _ u.aG) (FU (Wd:=λw'=>gu F w w') fu hl u.aG cK QO λq61 h61=>FW B fR h61 u.aG rfl rfl λq62 U=>aD (x:=B) ji (U _ u.aG) (aK iy (W _ (hK _ u.aG)) ⟨?_,?_,trivial⟩))))
  .refine dQ NI (C128 K gb rows (HG t.body) _ (λ_ e=>hK _ (u.aG.then e)) ar6 (λw=>by rw[<- Y];exact hgb w) ar7) ?_;rintro s53 w9 ⟨ds,Z,cL⟩;have u:=u.made cL;refine⟨eH (x:=B) ji (G _ u.aG),?_⟩;refine⟨eH (x:=B) ji (U _ u.aG),?_⟩;refine wG (0:Int) u cS uw cK cK ee (λs52 w11 u=>?_);rw[pQ]at u;refine⟨eH (x:=gb) jN (J _ u.aG),?_⟩;refine⟨eH (x:=B) ji (G _ u.aG),?_⟩;obtain⟨O,rfl⟩:=u.fI;obtain⟨M,rfl⟩:=u.p1.fI;refine pop (xI M.a M.n M.cap B.a B.n B.cap O.a O.n O.cap (some ⟨b43,0,none⟩)) (nw u λI w12 u=>?_)
   have u:=u.p2.freeze.p2.p3.p3;have V:RTK K B ds (wj t):=⟨W,by show lj K ds (v9 (jr (HG t.body) false []));rw[u6];show lj K ds (DK false (HG t.body)++[]);rw[o6];exact Z,FP.push λ_ h=>by cases h⟩;exact⟨I,rfl,mh.shut (t:=wj t) V u⟩
  refine wG (0:Int) u cS uw cK cK ee (λs52 w11 u=>?_);rw[pQ]at u;refine⟨eH (x:=gb) jN (J _ u.aG),?_⟩;refine⟨eH (x:=B) ji (G _ u.aG),?_⟩;refine dQ NI (C128 K gb rows (HG t.body) _ (λ_ e=>hK _ (u.aG.then e)) ar6 (λw=>by rw[<- Y];exact hgb w) ar7) ?_;rintro s53 w9 ⟨ds,Z,cL⟩;have u:=u.made cL;refine⟨eH (x:=B) ji (G _ u.aG),?_⟩;refine⟨eH (x:=B) ji (U _ u.aG),?_⟩;obtain⟨O,rfl⟩:=u.p1.fI;obtain⟨M,rfl⟩:=u.fI;refine pop (xI M.a M.n M.cap B.a B.n B.cap O.a O.n O.cap (some ⟨b43,0,none⟩)) (nw u λI w12 u=>?_)
  have u:=u.p1.freeze.p2.p3.p3;have V:RTK K B ds (wj t):=⟨W,by show lj K ds (v9 (jr (HG t.body) false []));rw[u6];show lj K ds (DK false (HG t.body)++[]);rw[o6];exact Z,FP.push λ_ h=>by cases h⟩;exact⟨I,rfl,mh.shut (t:=wj t) V u⟩
 rintro _ _ ⟨I,rfl,u⟩ _;have ayY:BA (wj t):=⟨λ_ hv=>by rw[(List.mem_replicate.1 hv).2];exact iC,λ_ hy=>by cases hy⟩;refine bF ag1 u (H':=λ_=>mh K I m.room (Up t)) (Φ:=λ_ _=>True) (λF2 eb dW=>?_) ?_
 .exact(C129 K I m.room (wj t) (Up t) _ _ _ F2 _ eb (λw' hc=>hK w' (dW w' hc).aG) NR ayY (qI NR).1).mono λ_ _ r=>r.mono λ_ _ h=>⟨trivial,h.2⟩
 rintro _ _ _ u;refine aE (aA oR ?_);have oG:=u.p3.iX;rw[n0,l0]at oG;refine aB Ea u.p1.hb rfl (aZ ([(⟨I⟩:Ptr)]) u Gh rfl rfl (dL rfl) λs67 _ u=>?_);have aaK:=u.dX;refine bJ u.p3 Gh aaK (by simp;omega) ee (λs68 _ u=>have u:=u.p1.drop;aE (aA oR (aT u.p2 Ea (dL rfl) u.dX.one λ_ u=>?_)));have u:=(((((St.Em (H:=NN K m.room) (p:=⟨I⟩) (x:=Up t) u.p2.p3).p4).p4).p2).p4).p4;intro _;exact aN cK ⟨_,cK,j+1,s68,ps++[⟨I⟩],rfl,rfl,cK,by rw[<- gd (k:=j) ht];exact u⟩
theorem U8{l:List Int}{k:Nat}{c:Int}(h:l[k]?=some c):qF l (k+1)=Bv (Bv (10000*qF l k)+c):=by rw[Fu h,Int.mul_comm]
def C94(cv:Value)(cut:List Int)(w:World)(G:dA (λ_=>True) w cv cut)(U:cut.length<=1000000):CR 94 [cv] w (λv w'=>v=hZ (qF cut cut.length)/\Ext w w'):=by
 have u:=St.start w;refine ahu _ _ _ ?_;unfold S94;refine⟨λB n x E=>∃k:Nat,n=hZ (qF cut k)/\x=hZ (k:Int)/\B=cut.length-k/\k<=cut.length/\St w bD [] E,⟨_,0,rfl,rfl,rfl,l1 _,u⟩,?_⟩;rintro B _ _ E ⟨k,rfl,rfl,rfl,O,u⟩ _;refine aK cS (G.ext u.aG) (aR (aC (λM=>?_) λ_=>⟨by rw[show cut.length=k from cK],u.aG⟩));refine wO ?_;obtain⟨V,I⟩:=gx cut (i:=(k:Int).toNat) cK;exact aO cS G cK I (λ_ J=>aD bL (J.ext u.aG) (uE (aN cK ⟨_,cK,k+1,by rw[U8 (k:=k) I],rfl,rfl,cK,u⟩)))
def NU{p:cE}(hc:Gw p){t:cN}(ht:t∈gl p):t.body.length<=40:=by
 obtain⟨_,h2,_⟩:=hc.f.qR ht
 exact(lu h2).1
def QR{m:Mem}{cut:List Int}{v:Value}{p:Nat}{F:Nat->Prop}{w w':World}
  (h:(fB m cut=none/\v=hZ 1/\mP F (gq p m) w w')\/∃u,fB m cut=some u/\v=hZ 0/\mP F (gq p (mH m u)) w w') :
  True/\mP F (pH λE=>fact (DO m cut v E) (gq p E)) w w':=by
 refine⟨trivial,?_⟩
 rcases h with⟨h1,h2,B,h3,h4,h5⟩|⟨u,h1,h2,B,h3,h4,h5⟩
 .exact⟨B,⟨m,.inl ⟨h1,rfl,h2⟩,h3⟩,h4,h5⟩
 exact⟨B,⟨mH m u,.inr ⟨u,h1,rfl,h2⟩,h3⟩,h4,h5⟩
theorem aeO{m:gR}{q:aS}(h:q.kind=3):(gS m).any (m9 q)=false:=by
 cases ha:(gS m).any (m9 q)with
 | false=>rfl
 | true=>obtain⟨_,_,_,t,_,h2⟩:=akx ha;omega
theorem aaL{m:gR}{q:aS}(h:iQ m q=none)(u:(gS m).any (m9 q)=false):oL m q=(m,⟨0,0,0,0,0⟩,13):=by
 grind[oL]
def aaM{K:hM}{m:gR}{u:List cG}(hc:Gw m.p)(E:C5 K u m.p.recover):C5 K ((u++[(⟨⟨#[]⟩,bX,bX,0⟩:cG)]).take 1) (uX m):=by
 have h1:=hc.f.one
 have B:=E.1
 unfold uX
 split
 .have G:m.p.recover=[]:=r6.1 (by assumption)
  rw[G]at B
  have:u=[]:=r6.1 B
  subst this
  exact ag9 _
 grind
def ayZ:PL 63:=dJ Tryz.func63
def C13(K:hM)(p:cE)(pv:bP)(room:Int)(w:World)(G:∀w',Ext w w'->K w')(E:J3 K pv p)(I:PZ p):CR 13 [ia pv,hZ room] w (λv w'=>(fj p≠0/\v=.tuple #[.pointer none,hZ (fj p)]/\Ext w w')\/(fj p=0/\(room<1\/16<room)/\v=.tuple #[.pointer none,hZ 1]/\Ext w w')\/
  (fj p=0/\(1<=room/\room<=16)/\∃b:Nat,v=.tuple #[.pointer (some ⟨b,0,none⟩),hZ 0]/\lg (qM K b (iS p room)) w w')):=by
 have u:=St.start w;refine akC _ _ _ _ ?_;unfold S13;refine cI (x:=pv) u (λbp w1 u=>aD et u.At (dQ at3 (C57 p pv _ (E.pr _ (G _ u.aG)) I) ?_));rintro _ _ ⟨aa,rfl,O⟩;have u:=u.ext O;refine aQ rfl (aQ rfl (bW (aC (λc=>?_) λc=>?_)))
 .exact .inl ⟨c,rfl,u.drop.aG⟩
 have V:fj p=0:=cK
 have M:=vG V;have MF:=Z3 M;have EW:=Bi p;refine dQ amq (C58 room _) ?_;rintro v3 _ hh
 rcases hh with⟨Z,rfl,O⟩|⟨BG,Dh,b3,rfl,J⟩
 .have u:=u.ext O;exact aQ rfl (aQ rfl (bW (jU ee (.inr (.inl ⟨V,Z,rfl,u.drop.aG⟩)))))
 have u:=(u.made J).drop;refine aQ rfl (aQ rfl (bW (fH ee (aZ ([]:List Int) u cS rfl rfl (dL rfl) λs31 _ u=>?_))));refine⟨λmm o y w1=>∃k:Nat,y=hZ (k:Int)/\mm=(im p).length-k/\k<=(im p).length/\St w bD [bH o ((A9 p).take k),bY bp (j0 pv)] w1,⟨_,0,rfl,rfl,l1 _,u⟩,?_⟩;rintro mm o _ _ ⟨k,rfl,rfl,hk,u⟩ _;have Kd:(A9 p).length=(cT p).length:=by unfold A9;rw[n0,Qb]
 refine aD et u.p1.At (dT Ty u (C59 p pv _ (E.pr _ (G _ u.aG)) I.toPS) λx34 _ J u=>aK il u.dX (have u:=u.drop;aR (aC (λc1=>?_) λc1=>?_)))
 .refine aD et u.p1.At (aV ar0 u (C60 p pv (k:Int) _ (E.pr _ (G _ u.aG)) I) λ_ O u=>aZ ([py p (k:Int)]:List Int) u cS rfl rfl (dL rfl) λs49 _ u=>?_);have Y:=u.dX;exact bJ u.p1 cS Y (by rw[l0,mf];omega) ee (λ_ _ u=>aN cK ⟨_,cK,k+1,rfl,rfl,cK,by rw[<- gI (JW (p:=p) (i:=k) cK)];exact u.p1.drop⟩)
 rw[kW cK]at u;have u:=u.drew;refine aD et u.p1.At (aD et u.p1.At (aV Iw u (C62 p pv _ (E.pr _ (G _ u.aG)) I) λ_ O u=>?_));refine⟨eH et u.p1.At,?_⟩;refine dT ayZ u (C63 p pv _ (E.pr _ (G _ u.aG)) I) (λx58 _ J u=>?_);have iT:=qL p;have tS:(eT p).length=(im p).length:=by unfold eT;rw[n0]
 refine dQ at4 (C61 (A9 p) (eT p) (ey p) _ _ _ u.p1.dX u.dX cK cK cK λk n h1 h2=>?_) ?_
 .have h3:=QE M h1 h2;have h4:=(kE.1 h2).1;exact⟨h3.1,cK,cK⟩
 rintro v59 _ ⟨q,rfl,J⟩;have u:=((u.made J).p1.drop).p1.drop;refine aQ rfl (aQ rfl (aD (x:=pv) et u.p1.At (pop (NH _ _ _ _ _ _ _ _ _ _ _ _ _ _ _ _ _ _ _ _) (nw u λB Sm u=>aA kF (aB (v:=ia pv.threads) ix u.p2.hb rfl ?_)))));have u:=((u.p2.drop.AB (H:=NN K room)).eM (α:=Ptr)).eM (α:=Int)
 have u:St w bD (bY B (po ⟨pv,q,.slice none 0 0,.slice none 0 0,[]⟩ (xC p room))::gq q (Jw (A9 p) (ey p) (eT p))::bH (.slice none 0 0) ([]:List Int)::bH (.slice none 0 0) ([]:List Ptr)::g8 (NN K room) [] []::[]) Sm:=by
  have h1:=u.p4.p4
  first|exact h1|exact u.p3.p4|exact u.p4.p4
 obtain⟨vz,W,U⟩:=E.th;obtain⟨Vz,Ng,U7⟩:=E.rc;have u:=qM.shut (K:=K) (m:=xC p room) ⟨E.pr,⟨Vz,Ng,U7⟩⟩ u;refine bF arM u (H':=λ_=>qM K B (iS p room)) (Φ:=λ_ _=>True) (λF2 eb dW=>?_) ?_
 .exact(C64 K B (xC p room) p.threads _ vz F2 _ eb (λw' hc=>G _ (dW w' hc).aG) ⟨BG,Dh⟩ (by have:=I.eJ;show(cM p).length<=_;unfold cM;rw[n0];omega) (λw' hc=>W w' (G _ (dW w' hc).aG)) U
   (λ_ ht=>⟨DJ M (List.mem_append_left _ ht),DN M (List.mem_append_left _ ht)⟩) (λ_ ht=>wc (NU M (List.mem_append_left _ ht)) ee) (by have:=I.threads;omega)).mono λ_ _ r=>r.mono λ_ _ h=>⟨trivial,h.2⟩
 rintro _ _ _ u;exact .inr (.inr ⟨V,⟨BG,Dh⟩,B,rfl,u.fresh⟩)
theorem C25(K:hM)(p:Nat)(m:gR)(q:aS)(M:SV)(F:Nat->Prop)(w:World)(hF:(qM K p m).p w F)(hK:∀w',gu F w w'->K w')(O:oJ m)(hvo:JZ m)(yY:Gw m.p)(rn:MB m.mem 1000000)(hcb:0<=m.bZ/\m.bZ<=1000000)(Db:m.mem.dV=eT m.p)(hKx:∀w1,gu F w w1->∀w2,Ext w1 w2->K w2)(NT:∀w',gu F w w'->dA (λ_=>True) w' (ia M) q.cut)(hql:q.cut.length<=1000) :
   CR 25 [.pointer (some ⟨p,0,none⟩),ia (⟨q.kind,q.t,q.i,M⟩:aI)] w (λv w'=>v=.tuple #[ia (oL m q).2.1,hZ (oL m q).2.2]/\mP F (qM K p (oL m q).1) w w'):=by
 have u:=St.begin hF;refine oH Tryz.func25 (pl:=P25) ?_;refine cI (x:=(⟨q.kind,q.t,q.i,M⟩:aI)) u (λb3 w1 u=>aM u mq λb4 w2 u=>?_);have u:=u.enc (cs':=j0 (⟨0,0,0,0,0⟩:cH)) rfl;have Vu:iQ m q=(if q.kind=3/\q.t=0/\q.i=0/\m.fault=0 then fB m.mem q.cut else none):=rfl;refine aA mU (aB (v:=hZ q.kind) bL u.p1.hb rfl (aH (aC (λc1=>?_) λc1=>?_)))
 .have u:=u.drew;have u:=u.p2;obtain⟨a,hu,u⟩:=qM.open u;have pE:=u.p4.iX;refine aE (aA tm (aB qk u.hb rfl (aA l8 (aB (v:=ia (M:SV)) eg u.p6.hb rfl (dQ amt ((C92 a.q m.mem q.cut _ _ (FV u.p1.has) O.mem rn (NT _ u.aG) hql).mono (R':=tP λv w'=>∃(o:Value) (e:Int),v=.tuple #[o,hZ e]/\(e=0↔(fB m.mem q.cut).isSome=true)/\Ext (drew w2) w') λ_ _ r=>r.mono λv w' h=>?_) ?_)))))
  .rcases h with⟨h1,rfl,h3⟩|⟨E,o,h1,rfl,h3⟩
   .exact⟨_,_,rfl,by rw[h1];decide,h3⟩
   obtain⟨_,_,_,h4⟩:=h3;exact⟨_,_,rfl,by rw[h1];exact⟨λ_=>rfl,λ_=>rfl⟩,h4⟩
  rintro _ w3 ⟨o21,e23,rfl,hee,he⟩;have u:=u.ext he;refine aQ rfl (aQ rfl ?_);refine⟨λjv w'=>jv=.bool (!(iQ m q).isSome)/\w'=w3,?_,?_⟩
  .have V:¬ (q.t=0/\q.i=0/\m.fault=0/\e23=0)->(iQ m q).isSome=false:=λh=>by
    rw[Vu];split
    .rename_i h2
     cases hi:(fB m.mem q.cut).isSome with
     | false=>rfl
     | true=>exact absurd ⟨h2.2.1,h2.2.2.1,h2.2.2.2,hee.2 hi⟩ h
    .rfl
   refine aA lD (aB (v:=hZ q.t) bL u.p6.hb rfl (bW (aC (λc2=>⟨vb (by rw[V cK];rfl),rfl⟩) λc2=>aA qd (aB (v:=hZ q.i) bL u.p6.hb rfl (bW (aC (λJ=>⟨vb (by rw[V cK];rfl),rfl⟩) λJ=>bW (aC (λG=>⟨vb (by rw[V cK];rfl),rfl⟩) λG=>aE (aA xU (aB bL u.hb rfl ?_)))))))));refine bW ?_;refine⟨vb ?_,rfl⟩
   by_cases hf:m.fault=0
   .rw[Vu,ew ⟨c1,cK,cK,hf⟩,hee.1 cK,fN cK];rfl
   rw[V cK,ez hf];rfl
  rintro _ w4 ⟨rfl,rfl⟩ sZ;refine aY (λc=>?_) (λc=>?_)
  .have B:iQ m q=none:=by
    cases h:iQ m q with
    | none=>rfl
    | some E=>rw[h]at c;cases c
   rw[aaL B (aeO c1)];exact pop JC (aJ (x:=(⟨0,0,0,0,0⟩:cH)) u.p5 fm rfl rfl λw5 u=>aD (x:=(⟨0,0,0,0,0⟩:cH)) fm u.At (have u:=u.drop.p5.drop.p4.p4.p4.p4.p4;⟨rfl,(qM.shut hu u).mut⟩))
  obtain⟨E,B⟩:∃E,iQ m q=some E:=L3.1 (by simpa using c);have Vq:fB m.mem q.cut=some E:=by rw[Vu]at B;split at B;exact B;cases B
  have hdo:oL m q=(qT (pg m E) (uX m),⟨15,0,0,qF q.cut q.cut.length,0⟩,0):=by unfold oL;rw[B]
  rw[hdo];have u:=u.drew;refine aE (aA tm (aB qk u.hb rfl (aA l8 (aB (v:=ia (M:SV)) eg u.p6.hb rfl (have u:=u.p1;bF auf u (H':=λv=>pH λm2=>fact (DO m.mem q.cut v m2) (gq a.q m2)) (Φ:=λ_ _=>True) (λZ W U=>?_) ?_)))))
  .exact(C93 a.q m.mem Z q.cut _ _ W O.mem rn (λw' hc=>NT w' (U w' hc).aG) hql).mono λ_ _ r=>r.mono λ_ _ h=>QR h
  rintro v34 w6 _ xp;obtain⟨m2c,yW⟩:=xp.eh
  clear xp
  obtain⟨hcf,u⟩:=yW.mw
  clear yW
  obtain⟨I,_⟩|⟨ay0,I,rfl,rfl⟩:=hcf
  .rw[Vq]at I;cases I
  obtain rfl:E=ay0:=oe.inj (Vq.symm.trans I);refine aE (aA Di (aB bL u.p1.hb rfl (aN (show -9223372036854775808<=m.bZ+1/\m.bZ+1<=9223372036854775807 by omega) (aE (aA Di (aT u.p1 bL (dL rfl) rfl λw7 u=>?_))))));obtain⟨Vz,Ng,U7⟩:=id hu.rc;have Gq:=U7.1;have BG:m.p.recover.length<=1:=yY.f.one;refine aZ ([]:List cG) u fu rfl rfl (dL rfl) (λs59 w8 u=>aE (aA oQ (aA oP (aB ix u.p1.hb rfl (bJ u fu (Ng _ (hK _ u.aG)) (by simp;omega) ee λs65 w9 u=>pop (v:=ia (⟨⟨#[]⟩,bX,bX,0⟩:cG)) (by kernel_rfl) (aZ ([⟨⟨#[]⟩,bX,bX,0⟩]:List cG) u fu rfl rfl (dL rfl) λs68 w10 u=>?_))))))
  have aaK:=u.dX;refine bJ u.p1 fu aaK (by simp;omega) ee (λs69 w11 u=>?_);have u:=u.p1.drop;rw[s4]at u;refine jP fu u.dX cK (by simp;omega) (λs72 h72=>?_);have u:=((qM.shut (m:=pg m E) ⟨hu.pr,hu.rc⟩ u.p5.p5.p5.p5.p5).p1).p1;obtain⟨ayV,ak8⟩:=JU yY;refine bF arM u (H':=λ_=>qM K p (qT (pg m E) (uX m))) (Φ:=λ_ _=>True) (λZ W U=>?_) ?_
  .refine(C64 K p (pg m E) (uX m) _ _ Z _ W (λw' hc=>hK w' (U w' hc).aG) O.rm (by have:=O.pz.eJ;show(cM m.p).length<=_;unfold cM;rw[n0];omega) (λw' hc=>h72 w' (U w' hc).dX) (aaM yY U7) (λt ht=>⟨ak8 t ht,?_⟩) (λt ht=>?_) cK).mono λ_ _ r=>r.mono λ_ _ h=>⟨trivial,h.2⟩
   .unfold uX at ht
    split at ht
    .rw[vA.1 ht];rfl
    exact DN yY (List.mem_append_right _ ht)
   unfold uX at ht
   split at ht
   .rw[vA.1 ht];exact l1 _
   exact wc (NU yY (List.mem_append_right _ ht)) ee
  rintro _ w12 _ u;exact aA l8 (aB (v:=ia (M:SV)) eg u.p3.hb rfl (aV aug u (C94 _ q.cut _ (NT _ u.aG) cK) λw13 he u=>pop (HF 15 (qF q.cut q.cut.length)) (aJ (x:=(⟨15,0,0,qF q.cut q.cut.length,0⟩:cH)) u.p2 fm rfl rfl λSm u=>aD (x:=(⟨15,0,0,qF q.cut q.cut.length,0⟩:cH)) fm u.At (have u:=u.drop.p2.drop.p1.drop;⟨rfl,u.mut⟩))))
 have B:iQ m q=none:=by rw[Vu,ej λh=>c1 h.1]
 have u:=u.p1.p1.p2;refine dT arJ u (C22 K p m _ u.has (λw' e=>hKx _ u.aG _ e) O) (λx79 w15 cL u=>?_);obtain⟨Y,u⟩:=u.RF;have RQ:=u.p1.eG.1;have oG:=Fz O;have u:=u.p1.p1.p4.p4.p4;refine⟨λmm y w'=>∃k:Nat,y=hZ (k:Int)/\mm=Y.length-k/\k<=Y.length/\(∀(j:Nat) (x:aS),j<k->(gS m)[j]?=some x->m9 q x=false)/\St w F [qM K p m,bY b4 (j0 (⟨0,0,0,0,0⟩:cH)),bY b3 (j0 (⟨q.kind,q.t,q.i,M⟩:aI)),bH x79 Y,eG (gM Y (gS m))] w',⟨_,0,rfl,rfl,l1 _,λj x h=>absurd h (MW _),u⟩,?_⟩;rintro mm _ w16 ⟨k,rfl,rfl,hk,V,u⟩ vP
 refine aK fW u.p3.dX (aR (aC (λc2=>?_) λc2=>?_));rotate_left
 .have wx:(gS m).any (m9 q)=false:=by
   rw[List.any_eq_false];intro x hx;obtain⟨j,hj⟩:=List.mem_iff_getElem?.1 hx;have:=(kE.1 hj).1;rw[V j x cK hj];decide
  rw[aaL B wx];exact pop JC (aJ (x:=(⟨0,0,0,0,0⟩:cH)) u.p1 fm rfl rfl λw22 u=>aD (x:=(⟨0,0,0,0,0⟩:cH)) fm u.At (have u:=u.drop.p1.drop.p1.drop.p1.drop;⟨rfl,u.mut⟩))
 obtain⟨s,Yl⟩:=gx Y (i:=((k:Nat):Int).toNat) cK;obtain⟨x,hxk⟩:=gx (gS m) (i:=k) cK;obtain⟨gx,rfl,_⟩:=u.p4.eG.2 k s x (by rw[<- pQ k];exact Yl) hxk;refine⟨λjv w'=>jv=.bool (m9 q x)/\St w F [qM K p m,bY b4 (j0 (⟨0,0,0,0,0⟩:cH)),bY b3 (j0 (⟨q.kind,q.t,q.i,M⟩:aI)),bH x79 Y,eG (gM Y (gS m))] w',?_,?_⟩
 .have Gf:m9 q x=(decide (x.kind=q.kind)&&decide (x.t=q.t)&&decide (x.i=q.i)&&decide (q.cut.length=0)):=by unfold m9;first|rfl|(simp only[eq_comm])
  have u:=u.drew;refine aO fW u.p3.dX cK Yl (λq0 h0=>bV x.kind mU h0 rfl rfl λr0 g0=>aD (x:=x.kind) bL g0 (aA mU (aB (v:=hZ q.kind) bL u.p2.hb rfl (aH (aC (λJ=>?_) λJ=>⟨vb (by rw[Gf,fN J];simp),u⟩)))));refine aO fW u.p3.dX cK Yl (λq1 h1=>bV x.t lD h1 rfl rfl λr1 g1=>aD (x:=x.t) bL g1 (aA lD (aB (v:=hZ q.t) bL u.p2.hb rfl ?_)));exact aH (aC (λG=>aO fW u.p3.dX cK Yl λq2 h2=>bV x.i qd h2 rfl rfl λr2 g2=>aD (x:=x.i) bL g2 (aA qd (aB (v:=hZ q.i) bL u.p2.hb rfl (aH (aC (λc5=>aA l8 (aB (v:=ia (M:SV)) eg u.p2.hb rfl (aK cS (NT _ u.aG) (aH ⟨vb (by rw[Gf,ez J,ez G,ez c5];exact ga.2 cK),u⟩)))) λc5=>⟨vb (by rw[Gf,fN c5];simp),u⟩))))) λG=>⟨vb (by rw[Gf,fN G];simp),u⟩)
 rintro _ w17 ⟨rfl,u⟩ vQ;refine aY (λJ=>?_) (λJ=>?_);rotate_left
 .refine aN cK ?_;refine⟨_,cK,k+1,rfl,rfl,cK,λj x' hj hx'=>?_,u⟩
  by_cases e:j=k
  .subst e;rw[hxk]at hx';cases hx';exact J
  exact V j x' cK hx'
 have wx:(gS m).any (m9 q)=true:=List.any_eq_true.2 ⟨x,kO hxk,J⟩;obtain⟨hf0,h0,_,t,ht,hkd⟩:=akx wx;have hdo:oL m q=(if (gS m).any (m9 q)=true then(if q.kind=2 then(match m.l[q.t.toNat]? with|some t=>((tg m t q,te q.t (dH t.buf q.i),0):gR×cH×Int)|none=>(m,⟨0,0,0,0,0⟩,13))else((iv m q.t).1,(iv m q.t).2,0))else(m,⟨0,0,0,0,0⟩,13)):=by unfold oL;rw[B];rfl
 rw[hdo,ew wx];refine aA mU (aB (v:=hZ q.kind) bL u.p2.hb rfl (aH (aC (λG=>?_) λG=>?_)))
 .rw[ew G,ht];refine aA lD (aB (v:=hZ q.t) bL u.p2.hb rfl (aA qd (aB (v:=hZ q.i) bL u.p2.hb rfl (bF ayr u (H':=λ_=>qM K p (tg m t q)) (Φ:=λv _=>v=ia (te q.t (dH t.buf q.i))) (λZ W U=>?_) ?_))))
  .exact C95 K p m q q.t q.i rfl rfl t Z _ W O rn h0 ht
  rintro _ w18 rfl u;exact aJ (x:=te q.t (dH t.buf q.i)) u.p1 fm rfl rfl (λw19 u=>aD (x:=te q.t (dH t.buf q.i)) fm u.At (have u:=u.drop.p1.drop.p1.drop.p1.drop;⟨rfl,u.mut⟩))
 rw[ej G]
 have ue:sO m t=true:=by
  rcases hkd with h|h
  .exact h.2
  .exact absurd h.1 G
 refine aA lD (aB (v:=hZ q.t) bL u.p2.hb rfl (bF ayq u (H':=λ_=>qM K p (iv m q.t).1) (Φ:=λv _=>v=ia (iv m q.t).2) (λZ W U=>?_) ?_))
 .exact C96 K p m q.t t Z _ W (λw' hc=>hK w' (U w' hc).aG) O hvo rn h0 ht ue Db
 rintro _ w20 rfl u;exact aJ (x:=(iv m q.t).2) u.p1 fm rfl rfl (λw21 u=>aD (x:=(iv m q.t).2) fm u.At (have u:=u.drop.p1.drop.p1.drop.p1.drop;⟨rfl,u.mut⟩))
def C217(sv:Value)(ps:List Ptr)(G:Nat)(first cap:List Value)(g:Nat->Bool)(w:World)(O:dA (λ_=>True) w sv ps)(Y:Plain hH G)(V:∀(i:Nat) (s:Ptr) (B:World),ps[i]?=some s->Ext w B->Calls hH G (first++[ia s]++cap).toArray B (tP λv M=>v=.bool (g i)/\Ext B M))(hn:ps.length<=1073741824):CR 217 [sv,(.func (.func G) first.toArray cap.toArray)] w (λv w'=>v=hZ (sj g (uT ps.length))/\Ext w w'):=by
 have u:=St.start w;refine eX Tryz.func217 ?_;refine aK KS (O.ext u.aG) ?_;refine⟨λJ y B=>∃k:Nat,y=hZ (k:Int)/\J=ps.length-k/\k<=ps.length/\(∀y∈(uT ps.length).take k,g y=false)/\St w bD [] B,⟨_,0,rfl,rfl,l1 _,ei,u⟩,?_⟩;rintro J _ B ⟨k,rfl,rfl,Z,E,u⟩ _;refine aR (aC (λc1=>?_) λ_=>⟨gN (nf .i64) (je (by rw[kW (by rw[Qb];omega)]at E;exact E)).symm,u.aG⟩);obtain⟨e,U⟩:=gx ps (i:=((k:Nat):Int).toNat) cK;refine aO KS (O.ext u.aG) cK U (λq W=>aD GW W (gT Y (V k e B U u.aG) ?_))
 rintro _ M ⟨rfl,h2⟩;have u:=u.ext h2;exact aY (λI=>⟨gN (nf .i64) (ma E (FY cK) I).symm,u.aG⟩) (λI=>aN cK ⟨_,cK,k+1,rfl,rfl,cK,dY E (FY cK) I,u⟩)
def C142(sv:Value)(ps:List Ptr)(E:Nat)(first cap:List Value)(g:Nat->Bool)(w:World)(J:dA (λ_=>True) w sv ps)(O:Plain hH E)(G:∀(i:Nat) (s:Ptr) (u:World),ps[i]?=some s->Ext w u->Calls hH E (first++[ia s]++cap).toArray u (tP λv I=>v=.bool (g i)/\Ext u I))(M:ps.length<=1073741824):CR 142 [sv,(.func (.func E) first.toArray cap.toArray)] w (λv w'=>v=.bool ((uT ps.length).any g)/\Ext w w'):=by
 have B:=St.start w;refine eX Tryz.func142 ?_;exact aV aqS B (C217 _ ps E first cap g _ (J.ext B.aG) O (λi s u h e=>G i s u h (B.aG.then e)) M) (λ_ _ B=>cR ⟨vb (kT _ _),B.aG⟩)
def C140(K Φ:hM)(p:Nat)(room:Int)(t:jY)(w:World)(E:Has (eO K Φ p room t) w)(Vr:K w)(O:t.buf.length<=1000):CR 140 [.pointer (some ⟨p,0,none⟩)] w (λv w'=>v=.bool (!mK t)/\Ext w w'):=by
 obtain⟨U,Z,rg,pl,es,Y,I,V,W,J,G,_⟩:=eO.rd E;have B:=I.cell (o:=3) rfl;have Gl:=G.len;have Bu:=rE es;have u:=St.start w;refine eX Tryz.func140 ?_;refine⟨λM w'=>M=.bool (!mK t)/\Ext w w',?_,?_⟩
 .exact aE (aA jM (bM rX (B.ext u.aG) (aK uA (J.ext u.aG) (cO (aC (λ_=>⟨vb (by unfold mK;rw[fN (show ¬ t.cD.length=0 from cK)];rfl),u.aG⟩) λ_=>aV agM u (C141 K Φ p room t _ (E.ext u.aG) O) λ_ _ u=>bR ⟨vb (by unfold mK;rw[ez (show t.cD.length=0 from cK),yk]),u.aG⟩)))))
 rintro _ _ h _;exact h
def C68(K:hM)(p:Nat)(m:gR)(w:World)(hm:Has (gn K p m) w)(O:∀w',Ext w w'->K w')(U:oJ m):CR 68 [.pointer (some ⟨p,0,none⟩)] w (λv w'=>v=ia (iR m)/\Ext w w'):=by
 obtain⟨a,B⟩:=gn.rd hm (O _ (Ext.refl _));have FA:=B.b.cell (o:=11) rfl;have J:=B.b.cell (o:=12) rfl;have M:=B.b.cell (o:=13) rfl;have I:=B.b.cell (o:=14) rfl;have hlen:=B.len;have N3:=U.tl;have u:=St.start w;refine oH Tryz.func68 (pl:=P68) ?_;refine aM u xW (λb2 w1 u=>have u:=(u.enc (cs':=j0 (⟨0,0,0,false,false⟩:g9)) rfl).drew;aE (aA IP (bM bL (J.ext u.aG) (aE (aA xV (bM bL (M.ext u.aG) (aE (aA Rv (bM bL (I.ext u.aG) (pop (JE m.bZ m.fault m.ja) (aM u xW λb4 _ u=>?_)))))))))))
 refine⟨aF bL (J.ext u.aG),?_⟩;refine⟨aF bL (M.ext u.aG),?_⟩;refine⟨aF bL (I.ext u.aG),?_⟩;refine aJ (x:=(⟨m.bZ,m.fault,m.ja,false,false⟩:g9)) u yH rfl rfl (λ_ u=>?_);refine⟨λw'=>St w bD [bY b4 (j0 (⟨m.bZ,m.fault,m.ja,lz m,false⟩:g9)),bY b2 (j0 (⟨0,0,0,false,false⟩:g9))] w',?_,?_⟩
 .refine aE (aA xV (bM bL (M.ext u.aG) (aH (aC (λG=>?_) λG=>?_))))
  .refine aE (aA vj (bM IL (FA.ext u.aG) ?_))
   refine aV aqR u (C142 _ a.ps 140 [] [] (λi=>match m.l[i]? with|some t=>!mK t|none=>false) _ (B.ll.ext u.aG) aqP (λi s w1 h e=>by
    obtain⟨t,ht⟩:∃t,m.l[i]?=some t:=⟨_,la (by have:=(kE.1 h).1;omega)⟩;rw[ht];exact C140 K _ s.b m.room t w1 ((B.th i s t h ht).ext (u.aG.then e)) (O _ (u.aG.then e)) (U.th t (kO ht)).bl) cK) (λ_ he u=>?_)
   refine bR (aA ql (aT u Ak (dL rfl) rfl λw5 u=>?_));have E:lz m = !((uT a.ps.length).any λi=>match m.l[i]? with|some t=>!mK t|none=>false):=by unfold lz;rw[ez G,B.len];rfl
   rw[E];exact u
  refine aA ql (aT u Ak (dL rfl) rfl λw5 u=>?_);have E:lz m=false:=by unfold lz;rw[fN G];rfl
  rw[E];exact u
 intro _ u _
 have W:∀(b:Bool) (w':World),mL m=b->St w bD [bY b4 (j0 (⟨m.bZ,m.fault,m.ja,lz m,b⟩:g9)),bY b2 (j0 (⟨0,0,0,false,false⟩:g9))] w'->St w bD [bY b4 (j0 (iR m)),bY b2 (j0 (⟨0,0,0,false,false⟩:g9))] w':=λb w' h1 h2=>by
  subst h1;exact h2
 refine⟨λw'=>St w bD [bY b4 (j0 (iR m)),bY b2 (j0 (⟨0,0,0,false,false⟩:g9))] w',?_,?_⟩
 .refine aE (aA xV (bM bL (M.ext u.aG) (aH (aC (λG=>?_) λG=>?_))));rotate_left
  .exact aA qm (aT u Ak (dL rfl) rfl λ_ u=>W false _ (by unfold mL;rw[fN G];rfl) u)
  refine aA ql (aB (v:=.bool (lz m)) Ak u.hb rfl (bR (aY (λZ=>?_) λZ=>?_)));rotate_left
  .exact aA qm (aT u Ak (dL rfl) rfl λ_ u=>W false _ (by unfold mL;rw[show lz m=true from by simpa using Z];simp) u)
  refine dT aqK u (C67 K p m _ (hm.ext u.aG) (λ_ e=>O _ (u.aG.then e)) U) (λx45 w7 cL u=>?_);obtain⟨V,aaO,Y⟩:=u.dl;refine aK fW aaO ?_;rw[show V.length=(gS m).length from Y.1];exact aH (have u:=u.drop;aA qm (aT u Ak (dL rfl) rfl λ_ u=>W (decide (((gS m).length:Int)=0)) _ (by unfold mL;rw[ez G,show lz m=false from by simpa using Z];rfl) u))
 intro _ u _;exact aD (x:=iR m) yH u.At (aJ (x:=iR m) u.p1 yH rfl rfl λ_ u=>aD yH u.At ⟨rfl,u.drop.drop.aG⟩)
def ala{φ:bQ->Prop}{p:PD}(h:Fv φ p):(v9 p).length=0↔p.length=0:=by
 constructor
 .intro B
  rcases aew (p:=p)with h1|⟨q,u,h2⟩
  .omega
  exact absurd h2 (h.ne q u)
 simp_all[Dq,v9]
def U9(g:Nat->Bool)(k:Nat):(uT (k+1)).any g=((uT k).any g||g k):=dD
def C74(K:hM)(p:Nat)(m:gR)(w:World)(hm:Has (qM K p m) w)(hw:∀w',Ext w w'->K w')(V:oJ m):CR 74 [.pointer (some ⟨p,0,none⟩)] w (λv w'=>v=ia (iR m)/\Ext w w'):=by
 obtain⟨a,B⟩:=qM.rd hm;have I:=B.b.cell (o:=7) rfl;have W:=B.b.cell (o:=10) rfl;have G:=B.b.cell (o:=11) rfl;have J:=B.b.cell (o:=12) rfl;have hlen:=B.len;have N3:=V.tl;have u:=St.start w;refine oH Tryz.func74 (pl:=P74) ?_;refine aM u xW (λb2 _ u=>have u:=(u.enc (cs':=j0 (⟨0,0,0,false,false⟩:g9)) rfl).drew;aE (aA Di (bM bL (I.ext u.aG) (aE (aA xU (bM bL (G.ext u.aG) (aE (aA Rr (bM bL (J.ext u.aG) (aE (aA xU (bM bL (G.ext u.aG) ?_))))))))))));refine aH (pop (FT m.bZ m.fault m.ja (decide (m.fault=0))) (aM u xW λb3 _ u=>?_))
 refine⟨aF bL (I.ext u.aG),?_⟩;refine⟨aF bL (G.ext u.aG),?_⟩;refine⟨aF bL (J.ext u.aG),?_⟩;refine⟨aF bL (G.ext u.aG),?_⟩;refine aJ (x:=(⟨m.bZ,m.fault,m.ja,decide (m.fault=0),false⟩:g9)) u yH rfl rfl (λ_ u=>?_);refine⟨λmm y w'=>∃k:Nat,y=hZ (k:Int)/\mm=a.ps.length-k/\k<=a.ps.length/\St w bD [bY b3 (j0 (⟨m.bZ,m.fault,m.ja,(decide (m.fault=0)&&!(uT k).any λi=>match m.l[i]? with|some t=>!mK t|none=>false),false⟩:g9)),bY b2 (j0 (⟨0,0,0,false,false⟩:g9))] w',⟨_,0,rfl,rfl,l1 _,by rw[show(decide (m.fault=0)&&!(uT 0).any λi=>match m.l[i]? with|some t=>!mK t|none=>false)=decide (m.fault=0)by simp];exact u⟩,?_⟩
 rintro mm _ w4 ⟨k,rfl,rfl,hk,u⟩ _;refine aE (aA oR (bM Ea (W.ext u.aG) (aK Gh (B.ll.ext u.aG) (aR (aC (λc1=>?_) λc1=>?_)))))
 .obtain⟨t,ht⟩:=gx m.l (i:=k) cK;obtain⟨e,he⟩:=gx a.ps (i:=((k:Nat):Int).toNat) cK;have Vp:=B.th k e t (by rw[<- pQ k];exact he) ht;have kC:=V.th t (kO ht);obtain⟨bp,nv,rg,lv,ds,xf,sN,hB,C6,U⟩:=mh.rd Vp;obtain⟨bsv,Cv,uS,hBL⟩:=hB;have O:=sN.cell (o:=0) rfl;have ct3:=sN.cell (o:=3) rfl;have Hb:=xf.2.1.1;have F9:=ala kC.p;have wx:(uT (k+1)).any (λi=>match m.l[i]? with|some t=>!mK t|none=>false)=((uT k).any (λi=>match m.l[i]? with|some t=>!mK t|none=>false)||!mK t):=(U9 _ k).trans (by rw[ht]);refine⟨λw'=>St w bD [bY b3 (j0 (⟨m.bZ,m.fault,m.ja,(decide (m.fault=0)&&!(uT (k+1)).any λi=>match m.l[i]? with|some t=>!mK t|none=>false),false⟩:g9)),bY b2 (j0 (⟨0,0,0,false,false⟩:g9))] w',?_,?_⟩
  rotate_left
  .intro w9 u _;exact aN cK ⟨_,cK,k+1,rfl,rfl,cK,u⟩
  refine⟨λjv w'=>jv=.bool (!mK t)/\w'=w4,?_,?_⟩
  .refine aE (aA oR (bM Ea (W.ext u.aG) (aO Gh (B.ll.ext u.aG) cK he λq hq=>aD GV hq (aE (aA kN (bM uz (O.ext u.aG) (aK ny (U.ext u.aG) (cO (aC (λ_=>⟨vb (by unfold mK;rw[fN (show ¬ t.cD.length=0 from cK)];rfl),rfl⟩) λM=>aE (aA oR ?_))))))))));refine bM Ea (W.ext u.aG) (aO Gh (B.ll.ext u.aG) cK he λq hq=>aD GV hq (aE (aA nz (bM yG (ct3.ext u.aG) (aE (aA gX (bM iL (uS.ext u.aG) (aK fS (hBL.ext u.aG) (cO ?_)))))))))
   refine⟨vb ?_,rfl⟩;unfold mK;rw[ez (show t.cD.length=0 from cK),yk,<- decide_not];exact ga.2 cK
  rintro _ _ ⟨rfl,rfl⟩ vP;refine aY (λE=>?_) (λE=>?_)
  .refine aA ql (aT u Ak (dL rfl) rfl λ_ u=>?_);rw[wx,E,Bool.or_true,Bool.not_true,Bool.and_false];exact u
  rw[wx,E,Bool.or_false];exact u
 have hdm:(decide (m.fault=0)&&!(uT k).any λi=>match m.l[i]? with|some t=>!mK t|none=>false)=lz m:=by unfold lz;rw[show k=m.l.length from cK];rfl
 rw[hdm]at u
 have Z:∀(b:Bool) (w':World),mL m=b->St w bD [bY b3 (j0 (⟨m.bZ,m.fault,m.ja,lz m,b⟩:g9)),bY b2 (j0 (⟨0,0,0,false,false⟩:g9))] w'->St w bD [bY b3 (j0 (iR m)),bY b2 (j0 (⟨0,0,0,false,false⟩:g9))] w':=λb w' h1 h2=>by
  subst h1;exact h2
 refine⟨λw'=>St w bD [bY b3 (j0 (iR m)),bY b2 (j0 (⟨0,0,0,false,false⟩:g9))] w',?_,?_⟩
 .refine aE (aA xU (bM bL (G.ext u.aG) (aH (aC (λM=>?_) λM=>?_))));rotate_left
  .exact aA qm (aT u Ak (dL rfl) rfl λ_ u=>Z false _ (by unfold mL;rw[fN M];rfl) u)
  refine aA ql (aB (v:=.bool (lz m)) Ak u.hb rfl (bR (aY (λE=>?_) λE=>?_)));rotate_left
  .exact aA qm (aT u Ak (dL rfl) rfl λ_ u=>Z false _ (by unfold mL;rw[show lz m=true from by simpa using E];simp) u)
  refine dT arJ u (C22 K p m _ (hm.ext u.aG) (λ_ e=>hw _ (u.aG.then e)) V) (λx45 w7 cL u=>?_);obtain⟨Y,aaO,aaP⟩:=u.dl;refine aK fW aaO ?_;rw[show Y.length=(gS m).length from aaP.1];exact aH (have u:=u.drop;aA qm (aT u Ak (dL rfl) rfl λ_ u=>Z (decide (((gS m).length:Int)=0)) _ (by unfold mL;rw[ez M,show lz m=false from by simpa using E];rfl) u))
 intro w9 u vP;exact aD (x:=iR m) yH u.At (aJ (x:=iR m) u.p1 yH rfl rfl λ_ u=>aD (x:=iR m) yH u.At ⟨rfl,u.drop.drop.aG⟩)
def C75(K:hM)(p:Nat)(m:gR)(w:World)(hm:Has (qM K p m) w)(hw:∀w',Ext w w'->K w')(G:oJ m)(Y:JZ m)(Db:m.mem.dV=eT m.p):CR 75 [.pointer (some ⟨p,0,none⟩)] w (λv w'=>lg (bH v (fb m)) w w'):=by
 obtain⟨a,E⟩:=qM.rd hm;have B:=E.b.cell (o:=5) rfl;have Gx:=E.b.cell (o:=8) rfl;have iT:=qL m.p;have ay1:m.mem.l.length=(im m.p).length:=by rw[G.mem.ll,Db];unfold eT;grind
 have EW:(cT m.p).length=(im m.p).length:=by unfold cT;grind
 have TP:(im m.p).length<=20:=by have:=G.mem.fl;have:=G.mem.ll;omega
 have hcb:=G.pz.dS;have hcz:=G.pz.zc;obtain⟨g0,g1,g2,g3,g4,g5,hpv,_,_,_,_,_,Hb⟩:=E.uk.pr _ (hw _ (Ext.refl _));rw[hpv]at B;obtain⟨I,CS,yS⟩:=Hb.open;have Vo:=yS.1;obtain⟨ov,fv,lv,kv,wv,ws,jZ,sU,hmo,hmf,Cx,arZ,hmw⟩:=E.mem.ex;have u:=St.start w;refine akE _ _ _ ?_;unfold S75;refine aZ ([]:List Bool) u ux rfl rfl (dL rfl) (λs8 _ u=>aE (aA oQ (qg a.pv et (mR.ext E.b u.aG) rfl (aV Iw u (C62 m.p a.pv _ (E.uk.pr _ (hw _ u.aG)) G.pz) λ_ he u=>?_))));refine⟨λmm o y w'=>∃k:Nat,y=hZ (k:Int)/\mm=I.length-k/\k<=I.length/\St w bD [bH o ((m.p.dS.take k).map (ph m))] w',⟨_,0,rfl,rfl,l1 _,u⟩,?_⟩
 rintro mm o _ _ ⟨k,rfl,rfl,hk,u⟩ _;refine aE (aA oQ (aA jt (bM qP (B.ext u.aG) (aK sY (CS.ext u.aG) (aR (aC (λc1=>?_) λc1=>?_))))));rotate_left
 .rw[kW cK]at u;exact u.fresh
 obtain⟨ct,J⟩:=gx I (i:=((k:Nat):Int).toNat) cK;obtain⟨cl,O⟩:=gx m.p.dS (i:=((k:Nat):Int).toNat) cK;obtain⟨ge,rfl,Ox⟩:=yS.2 _ ct cl J O;obtain⟨ald,Z⟩:=hcz cl (kO O);refine⟨λjv w'=>St w bD [bH jv ((m.p.dS.take (k+1)).map (ph m))] w',?_,?_⟩;rotate_left
 .rintro o2 _ u _;exact aN cK ⟨_,cK,k+1,rfl,rfl,cK,u⟩
 have u:=u.drew;refine aE (aA oQ (aA jt (bM qP (B.ext u.aG) (aO sY CS cK J λq hq=>bV ge vh hq rfl rfl λq2 Ke=>aD ju (Ke.ext u.aG) (aE (aA oQ (qg a.pv et (mR.ext E.b u.aG) rfl (aE (aA tm (bM qk (Gx.ext u.aG) ?_))))))))));refine aE (aA rW (bM eg ((sU.cell (o:=2) rfl).ext u.aG) (l4 cS Cx cK cK λs49 W=>dT Ky u (C124 m.p a.pv _ (E.uk.pr _ (hw _ u.aG)) G.pz) λx38 _ cL u=>?_)));refine⟨aF qP (B.ext u.aG),?_⟩;refine⟨eH ju (Ke.ext u.aG),?_⟩
 refine⟨aF qk (Gx.ext u.aG),?_⟩;refine⟨aF eg ((sU.cell (o:=2) rfl).ext u.aG),?_⟩;refine l4 iy u.dX cK cK (λs40 h40=>aV ag4 u (C146 _ _ _ cl.e (gm m.p) (m.mem.l.take (ey m.p).toNat) _ (DL.flat (Ox.ext u.aG)) h40 (W.ext u.aG) ald (by unfold gm;rw[l0];omega) Z (Y.mem.l.take _)) λ_ he u=>aQ rfl (aQ rfl (aH ?_)));have M:ph m cl=(decide ((pO (gm m.p) (m.mem.l.take (ey m.p).toNat) cl.e).2=0)&&decide ((pO (gm m.p) (m.mem.l.take (ey m.p).toNat) cl.e).1≠0)):=rfl;refine aC (λc2=>?_) (λc2=>?_)
 .refine bW (aZ (([ph m cl]):List Bool) u ux rfl (by rw[M,ez c2,yk];rfl) (dL rfl) λV w7 u=>?_);have QS:=u.dX;refine bJ u.p2 ux QS (by rw[n0,l0,mf];omega) ee (λU w8 u=>?_);rw[<- gd (k:=k) O];exact u.p1.drop.p1.drop
 refine aZ (([ph m cl]):List Bool) u ux rfl (by rw[M,fN c2,P1];rfl) (dL rfl) (λV w7 u=>?_);have QS:=u.dX;refine bJ u.p2 ux QS (by rw[n0,l0,mf];omega) ee (λU w8 u=>?_);rw[<- gd (k:=k) O];exact u.p1.drop.p1.drop
variable (w:World) (K:Value->hM)
def ay7:dI:=λi=>match i with
 | 2=>(.op 0 [] (.op 1 [] (.op 2 [] (.op 4 [] (.alt 3 [1,4] (.alt 5 [1] (.of [(6,[]),(7,[]),(8,[1,4]),(9,[])]) (.alt 8 [1,4] (.of [(5,[1]),(6,[]),(7,[]),(9,[])]) .stop)) (.alt 8 [1,4] (.of [(3,[1,4]),(5,[1]),(6,[]),(7,[]),(9,[])]) .stop))))))
 | 5=>(.of [(0,[]),(1,[]),(2,[]),(3,[1]),(4,[]),(5,[])])
 | _=>.nil
theorem ay8:PL 40:=dJ Tryz.func40
theorem asd:PL 101:=dJ Tryz.func101
theorem ase:PL 102:=dJ Tryz.func102
theorem asf:PL 172:=dJ Tryz.func172
end Go.Proofs.YtpdlpabnlkofmaaGreatDoor
namespace Go.Proofs.YtpdlpabnlkofmaaGreatDoor
open Go.Fw
def ui:pr hH (l2 63 [].toArray)=some (.agg [hZ 0,hZ 0,hZ 0,.slice none 0 0].toArray):=by kernel_rfl
def lf(B:Int)(E:Option Addr)(u G:Nat):pr hH (l2 63 [(2,hZ B),(3,.slice E u G)].toArray)=some (.agg [hZ 0,hZ 0,hZ B,.slice E u G].toArray):=by kernel_rfl
def aeP(m:gR)(t:jY)(i:Int)(x:bQ):(ea m t i x).1.bZ=m.bZ:=by
 unfold ea
 repeat' split
 all_goals first|rfl|(unfold rI;split<;>rfl)
theorem aaQ(m:gR)(i:Int):(iv m i).1.bZ=m.bZ:=by
 unfold iv
 repeat' split
 all_goals first|rfl|exact aeP _ _ _ _
def ale(m:gR)(q:aS):m.bZ<=(oL m q).1.bZ/\(oL m q).1.bZ<=m.bZ+1:=by
 unfold oL
 split
 .show m.bZ<=m.bZ+1/\m.bZ+1<=m.bZ+1;omega
 split
 .split
  .split<;>(show m.bZ<=m.bZ/\m.bZ<=m.bZ+1)<;>omega
  show m.bZ<=(iv m q.t).1.bZ/\(iv m q.t).1.bZ<=_;rw[aaQ];omega
 grind
structure wo(p:cE)(n:Nat)(m:gR):Prop where
 ok:oJ m
 pr:m.p=p
 mb:MB m.mem n
 cr:0<=m.bZ/\m.bZ<=n
def wo.step{p:cE}{n:Nat}{m:gR}{q:aS}(h:wo p n m)(hc:Gw p):wo p (n+1) (oL m q).1:=by
 obtain⟨h1,h2,h3⟩:=aky (q:=q) h.ok (h.pr▸hc)
 have h4:=ale m q
 have h5:=h.cr
 exact⟨h1,h2.trans h.pr,h3 _ h.mb,cK,cK⟩
def wo.new{p:cE}{room:Int}(B:PZ p)(hc:Gw p)(u:1<=room/\room<=16):wo p 0 (iS p room):=
 ⟨aeu B hc u,rfl,λk=>Nat.le_of_eq rfl,M5 0,M5 0⟩
def aeQ(m:gR)(t:jY)(x:bQ):(rI m t x).mem.dV=m.mem.dV:=by
 unfold rI;split
 .exact ub _ _ _
 rfl
def aeR(m:gR)(t:jY)(i:Int)(x:bQ):(ea m t i x).1.mem.dV=m.mem.dV:=by
 unfold ea
 repeat' split
 all_goals first|rfl|exact aeQ _ _ _
def aaR(m:gR)(i:Int):(iv m i).1.mem.dV=m.mem.dV:=by
 unfold iv
 repeat' split
 all_goals first|rfl|exact aeR _ _ _ _
def QT{m:gR}(u:oJ m)(q:aS):(oL m q).1.mem.dV=m.mem.dV:=by
 unfold oL
 split
 .rfl
 split
 .split
  .split
   .exact(HW u.mem).2.2
   rfl
  exact aaR _ _
 rfl
def vH(c:Int):gR->List cH->List aS->gR×List cH×Int
 | m,o,[]=>(m,o,0)
 | m,o,q::r=>if q.kind=3/\c<=m.bZ then(m,o,14)else if (oL m q).2.2≠0 then((oL m q).1,o,(oL m q).2.2)else vH c (oL m q).1 (o++[(oL m q).2.1]) r
def eW(p:cE)(room c:Int):Int:=if fj p≠0 then fj p else if room<1\/16<room then 1 else if c<0\/8<c then 1 else 0
def aeS(x y:aI)(h:j0 x=j0 y):x=y:=by
 obtain⟨a,b,c,⟨d,n,k⟩⟩:=x
 obtain⟨B,b2,u,⟨G,I,E⟩⟩:=y
 simp[j0,ia]at h
 simp[h]
def aeT(x y:bE)(h:j0 x=j0 y):x=y:=by
 obtain⟨a,b,c,⟨d,n,k⟩,⟨O,E,u⟩,e,f,g,i⟩:=x
 obtain⟨B,b2,V,⟨Z,n2,J⟩,⟨M,W,I⟩,G,f2,Y,U⟩:=y
 simp[j0,ia]at h
 simp[h]
def aeU(x y:cG)(h:j0 x=j0 y):x=y:=by
 obtain⟨a,⟨d,n,k⟩,⟨O,E,u⟩,e⟩:=x
 obtain⟨B,⟨V,W,J⟩,⟨M,U,I⟩,G⟩:=y
 simp[j0,ia]at h
 simp[h]
def Br.of{B:Nat->Prop}{w:World}{lv:SV}{qR:List cN}(h:∀w',oB B w w'->DL w' (ia lv) qR):Br (oB B w) lv qR:=by
 obtain⟨U,V,ht⟩:=oB.fix aeU h
 refine⟨U,λw' u=>(ht w' u).1,V,λj I t h1 h2=>?_⟩
 have O:∀w',oB B w w'->mG w' I t:=λw' u=>(ht w' u).2.2 j I t h1 h2
 obtain⟨G,E,rfl,_,_⟩:=O w (oB.refl _ _)
 have M:∀w',oB B w w'->DL w' (ia G) t.dP/\DL w' (ia E) t.body:=λw' u=>by
  obtain⟨W,Y,e,h4,h5⟩:=O w' u
  grind
 obtain⟨rows,_,J⟩:=oB.fix aeT λw' u=>(M w' u).2
 exact⟨G,E,rows,rfl,λw' u=>DL.flat (M w' u).1,λw'=>⟨λZ u=>(J Z u).2,λu=>(J w' u).1⟩⟩
def J3.of{B:Nat->Prop}{w:World}{pv:bP}{p:cE}(h:∀w',oB B w w'->mG w' pv p):J3 (oB B w) pv p:=by
 obtain⟨V,Y,g2,G,I,O,rfl,_⟩:=h w (oB.refl _ _)
 have E:∀w',oB B w w'->DL w' (ia G) p.threads/\DL w' (ia I) p.recover:=λw' u=>by
  obtain⟨M,a1,J,W,Z,U,e,_,_,_,h4,h5,_⟩:=h w' u
  grind
 exact⟨h,Br.of λw' u=>(E w' u).1,Br.of λw' u=>(E w' u).2⟩
def Br.mono{K K2:hM}{lv:SV}{qR:List cN}(h:Br K lv qR)(u:∀w,K2 w->K w):Br K2 lv qR:=by
 obtain⟨E,h1,h2⟩:=h
 exact⟨E,λw B=>h1 w (u w B),h2.mono u⟩
def J3.mono{K K2:hM}{pv:bP}{p:cE}(h:J3 K pv p)(u:∀w,K2 w->K w):J3 K2 pv p:=⟨λw B=>h.pr w (u w B),h.th.mono u,h.rc.mono u⟩
def Ig(K:hM)(lv:Value)(l:List aS):Prop:=∃ts:List aI,∀w,K w->dA (λ_=>True) w lv ts/\gM ts l w
def Ig.of{u:Nat->Prop}{w:World}{lv:Value}{l:List aS}(h:∀w',oB u w w'->DL w' lv l):Ig (oB u w) lv l:=by
 obtain⟨ts,_,ht⟩:=oB.fix aeS h
 exact⟨ts,ht⟩
def Ig.mono{K K2:hM}{lv:Value}{l:List aS}(h:Ig K lv l)(B:∀w,K2 w->K w):Ig K2 lv l:=by
 obtain⟨ts,h1⟩:=h
 exact⟨ts,λw u=>h1 w (B w u)⟩
def Ig.nil(K:hM):Ig K (.slice none 0 0) []:=⟨[],λw _=>⟨dA.nil _ _,gM.nil⟩⟩
def wo.mono{p:cE}{a b:Nat}{m:gR}(h:wo p a m)(u:a<=b):wo p b m:=⟨h.ok,h.pr,h.mb.mono u,by have:=h.cr;omega⟩
theorem Ih{α:Type}{xs:List α}{k:Nat}{x:α}(h:xs[k]?=some x):xs.drop k=x::xs.drop (k+1):=by
 obtain⟨h1,h2⟩:=kE.1 h
 rw[List.drop_eq_getElem_cons h1,h2]
def u9(l:List Bool):Nat:=(l.takeWhile id).length
def yy(l:List Bool):Int:=if u9 l<l.length then(u9 l:Int)else -1
def aeV{l:List Bool}{k:Nat}{b:Bool}(h:l[k]?=some b)(hb:b=true)(u:u9 l=k+u9 (l.drop k)):u9 l=k+1+u9 (l.drop (k+1)):=by
 rw[u,Ih h,hb]
 show k+(u9 (l.drop (k+1))+1)=_
 omega
def aeW{l:List Bool}{k:Nat}{b:Bool}(h:l[k]?=some b)(hb:b=false)(u:u9 l=k+u9 (l.drop k)):yy l=k:=by
 have B:=(kE.1 h).1
 have e:u9 l=k:=by rw[u,Ih h,hb];rfl
 unfold yy
 omega
def aeX{l:List Bool}{k:Nat}(h:l.length<=k)(u:u9 l=k+u9 (l.drop k)):yy l = -1:=by
 unfold yy
 omega
def og(m:gR):Int×Int:=if m.fault≠0 then(3,m.fault)else if mL m=true then(4,0)else if lz m=true then(if 0<=yy (fb m)then(2,yy (fb m))else(1,0))else(0,0)
def Cp(m:gR):aS:=⟨(og m).1,(og m).2,m.bZ,m.mem.l.take (ey m.p).toNat⟩
section
variable {m:gR}
theorem aaS(h:m.fault≠0):og m=(3,m.fault):=by unfold og;grind
theorem aaT(h:¬ m.fault≠0)(h2:mL m=true):og m=(4,0):=by unfold og;grind
theorem aaU(h:¬ m.fault≠0)(h2:mL m=false)(h3:lz m=true)(h4:0<=yy (fb m)):og m=(2,yy (fb m)):=by grind[og,yy,fb]
theorem aaV(h:¬ m.fault≠0)(h2:mL m=false)(h3:lz m=true)(h4:¬ 0<=yy (fb m)):og m=(1,0):=by grind[og]
theorem aaW(h:¬ m.fault≠0)(h2:mL m=false)(h3:lz m=false):og m=(0,0):=by grind[og]
end
def zE:aS:=⟨0,0,0,[]⟩
def Bs(p:cE)(room c:Int)(l:List aS):aS×List cH×Int×Int:=
 if eW p room c≠0 then(zE,[],eW p room c,0)
 else if (vH c (iS p room) [] l).2.2≠0 then(zE,[],(vH c (iS p room) [] l).2.2,((vH c (iS p room) [] l).2.1.length:Int))
 else(Cp (vH c (iS p room) [] l).1,(vH c (iS p room) [] l).2.1,0,0)
theorem alf{p:cE}{room c:Int}{l:List aS}(h:eW p room c≠0):Bs p room c l=(zE,[],eW p room c,0):=by unfold Bs;grind
theorem alg{p:cE}{room c:Int}{l:List aS}(h:eW p room c=0)(h2:(vH c (iS p room) [] l).2.2≠0):Bs p room c l=(zE,[],(vH c (iS p room) [] l).2.2,((vH c (iS p room) [] l).2.1.length:Int)):=by grind[Bs,zE,vH,iS]
theorem aaX{p:cE}{room c:Int}{l:List aS}(h:eW p room c=0)(h2:(vH c (iS p room) [] l).2.2=0):Bs p room c l=(Cp (vH c (iS p room) [] l).1,(vH c (iS p room) [] l).2.1,0,0):=by grind[Bs,Cp,vH,iS]
def yZ(w:World):mG w (⟨0,0,0,bX⟩:aI) zE:=⟨_,rfl,DL.nil w⟩
def C72(K:hM)(p:Nat)(m:gR)(w:World)(J:Has (gn K p m) w)(G:∀w',Ext w w'->K w')(I:oJ m):CR 72 [.pointer (some ⟨p,0,none⟩)] w (λv w'=>lg (bH v m.mem.l) w w'):=by
 obtain⟨a,E⟩:=gn.rd J (G _ (Ext.refl _));have B:=E.b.cell (o:=9) rfl;have u:=St.start w;refine eX Tryz.func72 ?_;exact aE (aA tn (bM KR (B.ext u.aG) (dT amB u (C144 a.q m.mem _ (E.mem.ext u.aG) I.mem) λ_ _ _ u=>u.fresh)))
def C172(sv:Value)(xs:List Bool)(w:World)(M:dA (λ_=>True) w sv xs)(V:xs.length<=1073741824):CR 172 [sv,.bool false] w (λv w'=>v=hZ (yy xs)/\Ext w w'):=by
 have u:=St.start w;refine eX Tryz.func172 ?_;refine aK ux (M.ext u.aG) ?_;refine⟨λI y J=>∃k:Nat,y=hZ (k:Int)/\I=xs.length-k/\k<=xs.length/\u9 xs=k+u9 (xs.drop k)/\St w bD [] J,⟨_,0,rfl,rfl,l1 _,(Nat.zero_add _).symm,u⟩,?_⟩;rintro I _ J ⟨k,rfl,rfl,U,E,u⟩ _;refine aR (aC (λW=>?_) λ_=>⟨gN (nf .i64) (aeX cK E).symm,u.aG⟩);obtain⟨e,B⟩:=gx xs (i:=((k:Nat):Int).toNat) cK;refine aO ux (M.ext u.aG) cK B (λq O=>aD Ak O (KN IH ?_));rw[pQ]at B;exact aY (λG=>⟨gN (nf .i64) (aeW B (by simpa using G) E).symm,u.aG⟩) (λG=>aN cK ⟨_,cK,k+1,rfl,rfl,cK,aeV B (by simpa using G) E,u⟩)
def C70(K:hM)(p:Nat)(m:gR)(w:World)(hm:Has (gn K p m) w)(I:∀w',Ext w w'->K w')(B:oJ m)(Db:m.mem.dV=eT m.p):CR 70 [.pointer (some ⟨p,0,none⟩)] w (λv w'=>lg (bH v (fb m)) w w'):=by
 obtain⟨a,E⟩:=gn.rd hm (I _ (Ext.refl _));have M:=E.b.cell (o:=6) rfl;have J:=E.b.cell (o:=5) rfl;have iT:=qL m.p;have Cx:m.mem.l.length=(im m.p).length:=by rw[B.mem.ll,Db];unfold eT;grind
 have EW:(cT m.p).length=(im m.p).length:=by unfold cT;grind
 have TP:(im m.p).length<=20:=by have:=B.mem.fl;have:=B.mem.ll;omega
 have hcb:=B.pz.dS;have hcz:=B.pz.zc;obtain⟨g0,g1,g2,g3,g4,g5,hpv,_,_,_,_,_,Hb⟩:=E.uk.pr _ (I _ (Ext.refl _));rw[hpv]at J;obtain⟨G,CS,yS⟩:=Hb.open;have Vo:=yS.1;have u:=St.start w;refine ajr _ _ _ ?_;unfold S70;refine aE (aA Dj (qg a.pv et (mR.ext E.b u.aG) rfl (aV Yk u (C54 m.p a.pv _ (E.uk.pr _ (I _ u.aG)) B.pz) λ_ he u=>aE (aA Dj (aA jt (bM qP (J.ext u.aG) (aK sY (CS.ext u.aG) ?_)))))));refine⟨λmm o y w'=>∃k:Nat,y=hZ (k:Int)/\mm=G.length-k/\k<=G.length/\St w bD [bH o ((m.p.dS.take k).map (ph m))] w',⟨_,0,rfl,rfl,l1 _,u.eM⟩,?_⟩
 rintro mm o _ _ ⟨k,rfl,rfl,hk,u⟩ _;refine aR (aC (λc1=>?_) λc1=>?_);rotate_left
 .rw[kW cK]at u;exact u.fresh
 obtain⟨ct,O⟩:=gx G (i:=((k:Nat):Int).toNat) cK;obtain⟨cl,V⟩:=gx m.p.dS (i:=((k:Nat):Int).toNat) cK;obtain⟨ge,rfl,Ox⟩:=yS.2 _ ct cl O V;have Y:=(hcz cl (kO V)).1;refine⟨λjv w'=>St w bD [bH jv ((m.p.dS.take (k+1)).map (ph m))] w',?_,?_⟩;rotate_left
 .rintro o2 _ u _;exact aN cK ⟨_,cK,k+1,rfl,rfl,cK,u⟩
 refine aO sY (CS.ext u.aG) cK O (λq hq=>aD IJ hq (aM u OB λb6 _ u=>aJ (x:=(⟨ge,cl.at_⟩:jy)) u IJ rfl rfl λ_ u=>have u:=u.drew;aA vh (aB (v:=ia (ge:SV)) ju u.hb rfl (aE (aA IM (bM ji (M.ext u.aG) (jP iy (E.uk.cs _ (I _ u.aG)) cK cK λs32 h32=>dT ajv u (C72 K p m _ (hm.ext u.aG) (λ_ e=>I _ (u.aG.then e)) B) λx34 _ cL u=>?_)))))));refine⟨aF ju (u.p1.hb.cell rfl),?_⟩;refine⟨aF ji (M.ext u.aG),?_⟩;refine l4 cS u.dX cK cK (λs36 W=>aV af9 u (C143 _ _ _ cl.e _ _ _ (DL.flat (Ox.ext u.aG)) (h32 _ (E.uk.cs _ (I _ u.aG))) W Y (by rw[l0];omega)) λ_ he u=>aQ rfl (aQ rfl (aH ?_)))
 have U:ph m cl=(decide ((pO ((cT m.p).take (ey m.p).toNat) (m.mem.l.take (ey m.p).toNat) cl.e).2=0)&&decide ((pO ((cT m.p).take (ey m.p).toNat) (m.mem.l.take (ey m.p).toNat) cl.e).1≠0)):=rfl;refine aC (λc2=>?_) (λc2=>?_)
 .refine bW (aZ (([ph m cl]):List Bool) u ux rfl (by rw[U,ez c2,yk];rfl) (dL rfl) λs47 w7 u=>?_);have QS:=u.dX;refine bJ u.p3 ux QS (by rw[n0,l0,mf];omega) ee (λZ w8 u=>?_);rw[<- gd (k:=k) V];exact u.p1.drop.p1.drop.p1.drop
 refine aZ (([ph m cl]):List Bool) u ux rfl (by rw[U,fN c2,P1];rfl) (dL rfl) (λs47 w7 u=>?_);have QS:=u.dX;refine bJ u.p3 ux QS (by rw[n0,l0,mf];omega) ee (λZ w8 u=>?_);rw[<- gd (k:=k) V];exact u.p1.drop.p1.drop.p1.drop
def C102(K:hM)(p:Nat)(m:gR)(pv:bP)(w:World)(U:Has (gn K p m) w)(M:∀w',Ext w w'->K w')(E:oJ m)(Db:m.mem.dV=eT m.p)(W:mG w pv m.p):CR 102 [ia pv,.pointer (some ⟨p,0,none⟩)] w (λv w'=>∃ev:aI,v=ia ev/\lg (eG λw=>mG w ev (Cp m)) w w'):=by
 have iT:=qL m.p;have hcb:=E.pz.dS;have Cx:m.mem.l.length=(im m.p).length:=by rw[E.mem.ll,Db];unfold eT;grind
 have u:=St.start w;refine oH Tryz.func102 (pl:=ay7) ?_;refine cI (x:=pv) u (λb2 _ u=>aM u gW λb4 _ u=>have u:=u.enc (cs':=j0 (⟨0,0,0,bX⟩:aI)) rfl;aV aju u (C68 K p m _ (U.ext u.aG) (λ_ e=>M _ (u.aG.then e)) E) λ_ V u=>aM u xW λb5 _ u=>aJ (x:=iR m) u yH rfl rfl λ_ u=>?_);have u:=u.drew;refine⟨λjv w'=>∃(b6:Nat) (sv:SV),jv=.pointer (some ⟨b6,0,none⟩)/\St w bD [bY b6 (j0 (⟨0,0,m.bZ,sv⟩:aI)),bH (ia (sv:SV)) (m.mem.l.take (ey m.p).toNat),bY b5 (j0 (iR m)),bY b4 (j0 (⟨0,0,0,bX⟩:aI)),bY b2 (j0 pv)] w',?_,?_⟩
 .refine aA KT (aB (v:=hZ m.bZ) bL u.hb rfl (aD et u.p2.At ⟨dT ajv u (C72 K p m _ (U.ext u.aG) (λ_ e=>M _ (u.aG.then e)) E) (λZ w6 cL u=>⟨aF bL (u.p1.hb.cell rfl),⟨eH et u.p3.At,⟨?_,?_,trivial⟩⟩⟩),?_,trivial⟩))
  .refine aV Yk u (C54 m.p pv _ (Kx W u.aG) E.pz) (λw7 V u=>?_);refine⟨aF bL (u.p1.hb.cell rfl),?_⟩;refine sf cS u cK cK (λI u=>?_);obtain⟨sv,rfl⟩:=u.fI;refine pop (lf m.bZ _ _ _) (aM u gW λb6 w8 u=>?_);refine⟨aF bL (u.p2.hb.cell rfl),?_⟩;refine⟨eH et u.p4.At,?_⟩;exact aJ (x:=(⟨0,0,m.bZ,sv⟩:aI)) u fc rfl rfl (λ_ u=>⟨b6,_,rfl,u⟩)
  .refine aM u gW (λb6 w8 u=>?_);refine⟨aF bL (u.p2.hb.cell rfl),?_⟩;refine⟨eH et u.p4.At,?_⟩;refine aV Yk u (C54 m.p pv _ (Kx W u.aG) E.pz) (λw7 V u=>?_);refine⟨aF bL (u.p2.hb.cell rfl),?_⟩;refine sf cS u.p1 cK cK (λI u=>?_);obtain⟨sv,rfl⟩:=u.fI;exact pop (lf m.bZ _ _ _) (aJ (x:=(⟨0,0,m.bZ,sv⟩:aI)) u.p1 fc rfl rfl λ_ u=>⟨b6,_,rfl,u⟩)
  refine aM u gW (λb6 w8 u=>?_);refine⟨aF bL (u.p1.hb.cell rfl),?_⟩;refine⟨eH et u.p3.At,?_⟩;refine dT ajv u (C72 K p m _ (U.ext u.aG) (λ_ e=>M _ (u.aG.then e)) E) (λZ w6 cL u=>?_);refine⟨aF bL (u.p2.hb.cell rfl),?_⟩;refine⟨eH et u.p4.At,?_⟩;refine aV Yk u (C54 m.p pv _ (Kx W u.aG) E.pz) (λw7 V u=>?_);refine⟨aF bL (u.p2.hb.cell rfl),?_⟩;refine sf cS u cK cK (λI u=>?_);obtain⟨sv,rfl⟩:=u.fI;exact pop (lf m.bZ _ _ _) (aJ (x:=(⟨0,0,m.bZ,sv⟩:aI)) u.p1 fc rfl rfl λ_ u=>⟨b6,_,rfl,u⟩)
 rintro _ _ ⟨b6,sv,rfl,u⟩ _;refine dT axw u (C70 K p m _ (U.ext u.aG) (λ_ e=>M _ (u.aG.then e)) E Db) (λx19 _ cL u=>aV asf u (C172 _ (fb m) _ u.dX (by unfold fb;rw[n0];omega)) λY V u=>?_);have u:=u.drop;refine⟨λw'=>St w bD [bY b6 (j0 (⟨(og m).1,(og m).2,m.bZ,sv⟩:aI)),bH (ia (sv:SV)) (m.mem.l.take (ey m.p).toNat),bY b5 (j0 (iR m)),bY b4 (j0 (⟨0,0,0,bX⟩:aI)),bY b2 (j0 pv)] w',?_,?_⟩
 .refine aA Am (aB (v:=hZ m.fault) bL u.p2.hb rfl (bW (aC (λG=>?_) λG=>?_)))
  .rw[aaS G];have u:=u.drew;refine aA Am (aB (v:=hZ m.fault) bL u.p2.hb rfl (aA j7 (aT u bL (dL rfl) rfl λw20 u=>?_)));refine⟨aF bL (u.p2.hb.cell rfl),?_⟩;exact aA qe (aT u bL (dL rfl) rfl λ_ u=>u)
  refine aA qm (aB (v:=.bool (mL m)) Ak u.p2.hb rfl (aY (λJ=>?_) λJ=>?_))
  .rw[aaT G J];exact aA j7 (aT u bL (dL rfl) rfl λ_ u=>u)
  refine⟨λjv w'=>jv=.bool (lz m&&decide (0<=yy (fb m)))/\w'=Y,?_,?_⟩
  .exact aA ql (aB (v:=.bool (lz m)) Ak u.p2.hb rfl (aY (λB=>cR ⟨vb (by rw[B,yk]),rfl⟩) λB=>⟨vb (by rw[B];rfl),rfl⟩))
  rintro _ _ ⟨rfl,rfl⟩ _;refine aY (λB=>?_) (λB=>?_)
  .rw[Bool.and_eq_true,decide_eq_true_iff]at B;rw[aaU G J B.1 B.2];exact aA j7 (aT u bL (dL rfl) rfl λ_ u=>aA qe (aT u bL (dL rfl) rfl λ_ u=>u))
  refine aA ql (aB (v:=.bool (lz m)) Ak u.p2.hb rfl (aY (λO=>?_) λO=>?_))
  .rw[O,yk,decide_eq_false_iff_not]at B;rw[aaV G J O B];exact aA j7 (aT u bL (dL rfl) rfl λ_ u=>u)
  rw[aaW G J O];exact u
 rintro _ u _;exact aD (x:=(⟨(og m).1,(og m).2,m.bZ,sv⟩:aI)) fc u.At (aJ (x:=(⟨(og m).1,(og m).2,m.bZ,sv⟩:aI)) u.p3 fc rfl rfl λ_ u=>aD (x:=(⟨(og m).1,(og m).2,m.bZ,sv⟩:aI)) fc u.At (have u:=u.drop.drop.p1.drop.p1.drop.freeze.dM (Ψ:=λw=>mG w (⟨(og m).1,(og m).2,m.bZ,sv⟩:aI) (Cp m)) (λ_ h=>⟨sv,rfl,DL.j1 h⟩);⟨_,rfl,u.fresh⟩))
end Go.Proofs.YtpdlpabnlkofmaaGreatDoor
