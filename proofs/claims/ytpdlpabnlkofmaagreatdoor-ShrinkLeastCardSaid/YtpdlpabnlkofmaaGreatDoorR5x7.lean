/-
  Part 7.
-/
import Derived.Test.YtpdlpabnlkofmaaGreatDoorR5x6
set_option maxHeartbeats 8000000
set_option linter.all false
set_option maxRecDepth 100000
open Go.Fw.Flat renaming val->j0,enc->kp
open List renaming getElem?_eq_some_iff->kO,mem_of_getElem?->la,take_of_length_le->ld,getElem?_eq_getElem->l0,length_append->l1,length_take->l2,length_singleton->mv,getElem?_eq_none->n0,length_map->n4,append_assoc->n5,getD_eq_getElem?_getD->oj,length_cons->o1,mem_cons_self->o6,append_nil->pd,getElem?_map->pO,length_drop->rf,replicate->sk,length_eq_zero_iff->sl,drop_drop->tj,nil_append->tx,take_add_one->tz,getElem?_append_left->u3,range->u7,map_append->vH,drop_eq_nil_of_le->vM,mem_singleton->wy,mem_of_mem_take->wM,ext_getElem?->wS,filter_append->Bl,getElem?_set_self->BX,length_replicate->EI,drop_left->FF,getElem?_set_ne->Iq,length_set->IA,getElem?_range->IY,take_left->Nc,filter_filter->RB,length_range->S2,drop_take->WY,replicate_succ'->WZ,filter->aaY
open Nat renaming zero_le->l6,le_trans->xe,mul_le_mul_right->EL,not_lt_zero->Mh,lt_or_ge->PN
open Go.Fw.Deep renaming dr->ml,ext->Na
open Go.Instr renaming build->mL
open Go.Value renaming int->n3,tuple->Ej
open Option renaming some->oq,toList_some->JN,isSome_iff_exists->NT
open Int renaming toNat_natCast->qb,le_refl->Oj
open Decidable renaming not_not->uh
open Bool renaming true_and->Ac,false_and->Ra
namespace Go.Proofs.YtpdlpabnlkofmaaGreatDoor
open Go.Fw
theorem BD.ext{w w':World}{p:Nat}{m:Mem}(h:BD w p m)(e:Ext w w'):BD w' p m:=by
 obtain⟨ov,fv,lv,kv,wv,ws,h1,h2,h3,h4,h5,h6,u⟩:=h.ex
 exact⟨ov,fv,lv,kv,wv,ws,h1,h2.of_eq (e.bY _ h2.lt λx=>x),h3.ext e,h4.ext e,h5.ext e,h6.ext e,u.ext e⟩
def NZ{w:World}{p:Nat}{m:Mem}{ov fv lv kv wv:Value}{ws:List m7}(h1:pI ws m)(h2:mW w p [ov,fv,lv,kv,wv])(h3:dA (λ_=>True) w ov m.of)(h4:dA (λ_=>True) w fv m.dW)
  (h5:dA (λ_=>True) w lv m.l) (h6:dA (λ_=>True) w kv m.kept) (u:dA (λ_=>True) w wv ws):BD w p m:=⟨ov,fv,lv,kv,wv,ws,h1,h2,h3,h4,h5,h6,u⟩
section
variable {ws:List m7}{m:Mem}{x:m7}{L:Nat}
theorem rZ(B:pI ws m)(u:wI m)(E:x∈ws):0<=x.line/\x.line<fW m.of/\0<=x.cell/\x.cell<m.of.length:=by
 obtain⟨G,h1⟩:=B.2 x E
 have h2:=u.ofr _ (la h1)
 grind
theorem Iv(f:m7->Bool):∀l:List m7,l.length=(l.filter f).length+(l.filter λx=>!f x).length
 | []=>rfl
 | x::l=>by
  have u:=Iv f l
  grind
theorem N0(N:Nat):∀(L:Nat) (ws:List m7),(∀x∈ws,0<=x.line/\x.line<L)->(∀n:Int,(ws.filter λx=>decide (x.line=n)).length<=N)->ws.length<=L*N
 | 0,ws,h,_=>by
  cases ws with
  | nil=>simp
  | cons x r=>have:=h x (o6 ..);omega
 | L+1,ws,h,u=>by
  have E:=N0 N L (ws.filter λx=>!decide (x.line=(L:Int))) (λx B=>by
   grind) (λn=>by
   refine xe ?_ (u n)
   have e:∀p q:m7->Bool,(ws.filter q).filter p=(ws.filter p).filter q:=λp q=>by
    rw[RB,RB]
    grind
   grind)
  have e:=Iv (λx=>decide (x.line=(L:Int))) ws
  have:=u L
  grind
theorem BE{N:Nat}(B:pI ws m)(u:wI m)(hb:MB m N):ws.length<=20*N:=by
 have h1:=N0 N (fW m.of).toNat ws (λx E=>by have:=rZ B u E;omega) λn=>by
  have:=hb n
  rw[B.1,n4]at this
  exact this
 have:=u.lb
 exact xe h1 (EL _ bO)
def Ab(ws:List m7)(L:Nat):List Int:=(u7 L).map fun (i:Nat)=>(((ws.filter λx=>decide (x.line=(i:Int))).length:Nat):Int)
theorem xU:(Ab ws L).length=L:=by simp[Ab]
theorem aaw(L:Nat):sk L (0:Int)=Ab [] L:=by
 unfold Ab
 simp[List.map_const']
theorem D6{i:Nat}(h:i<L):(Ab ws L)[i]?=some (((ws.filter λx=>decide (x.line=(i:Int))).length:Nat):Int):=by
 unfold Ab;rw[pO,IY h];rfl
theorem ak3{i:Nat}{e:Int}(h:(Ab ws L)[i]?=some e):0<=e/\e<=ws.length:=by
 have hi:i<L:=by have:=(kO.1 h).1;rwa [xU]at this
 rw[D6 hi]at h
 grind
theorem Vj{k:Nat}{e:Int}(E:ws[k]?=some x)(I:0<=x.line)(h1:x.line<L)(B:(Ab (ws.take k) L)[x.line.toNat]?=some e) :
  (Ab (ws.take k) L).set x.line.toNat (e+1)=Ab (ws.take (k+1)) L:=by
 have ht:ws.take (k+1)=ws.take k++[x]:=by rw[tz,E];rfl
 apply wS
 intro i
 by_cases hi:i<L
 .rw[D6 hi,ht,Bl,l1]
  by_cases u:i=x.line.toNat
  .subst u
   rw[BX (by rw[xU];exact hi)]
   rw[D6 hi]at B
   have G:([x].filter λx=>decide (x.line=((x.line.toNat:Nat):Int)))=[x]:=by
    have:((x.line.toNat:Nat):Int)=x.line:=bO
    simp[aaY,this]
   have:((x.line.toNat:Nat):Int)=x.line:=bO
   simp only[this]at B |-
   simp only[oq.injEq]at B
   simp[aaY,B]
  rw[Iq (Ne.symm u),D6 hi]
  have:¬ x.line=(i:Int):=bO
  simp[aaY,this]
 rw[n0 (by rw[IA,xU];omega),n0 (by rw[xU];omega)]
def zp(m:Mem):List Int:=(psM m).map fun (k:Nat)=>(k:Int)
theorem aax(u:pI ws m):Ab ws (fW m.of).toNat=zp m:=by
 unfold Ab zp psM FM
 rw[List.map_map]
 refine List.map_congr_left λi _=>?_
 simp[u.1]
theorem Vk:(zp m).length=(fW m.of).toNat:=by unfold zp;rw[n4,aed]
end
section
variable {ws:List m7}{m:Mem}{x:m7}
theorem Q0{cell n u:Int}{l:List Int}(B:pI ws m)(G:0<=cell)(h1:m.of[cell.toNat]?=some u) :
  pI (ws++[⟨u,cell,n⟩]) {m with l:=l,fL:=pR m.fL u (m.fL u++[⟨cell,n⟩])}:=by
 refine⟨λk=>?_,λx E=>?_⟩
 .show pR m.fL u (m.fL u++[⟨cell,n⟩]) k=_
  rw[Bl,vH,<- B.1]
  unfold pR
  grind
 rcases List.mem_append.1 E with h|h
 .exact B.2 x h
 grind
def oo(line:Int)(ws:List m7):List kr:=(ws.filter λx=>decide (x.line=line)).map λx=>⟨x.cell,x.n⟩
def Ds(line:Int)(ws:List m7):List m7:=ws.filter λx=>!decide (x.line=line)
theorem aay{k:Nat}{line:Int}(h:ws[k]?=some x)(u:x.line=line):oo line (ws.take (k+1))=oo line (ws.take k)++[⟨x.cell,x.n⟩]:=by
 unfold oo;rw[tz,h,JN,Bl,vH];grind
theorem ae1{k:Nat}{line:Int}(h:ws[k]?=some x)(u:¬ x.line=line):oo line (ws.take (k+1))=oo line (ws.take k):=by
 unfold oo;rw[tz,h,JN,Bl,vH];grind
theorem aaz{k:Nat}{line:Int}(h:ws[k]?=some x)(u:x.line=line):Ds line (ws.take (k+1))=Ds line (ws.take k):=by
 unfold Ds;rw[tz,h,JN,Bl];grind
theorem ae2{k:Nat}{line:Int}(h:ws[k]?=some x)(u:¬ x.line=line):Ds line (ws.take (k+1))=Ds line (ws.take k)++[x]:=by
 unfold Ds;rw[tz,h,JN,Bl];grind
theorem aaA{k:Nat}{line:Int}:(Ds line (ws.take k)).length<=ws.length:=xe (List.length_filter_le ..) cL
theorem aaB{line:Int}{E:List Int}(u:pI ws m):pI (Ds line ws) {m with kept:=E,fL:=pR m.fL line []}:=by
 refine⟨λk=>?_,λx G=>u.2 x (List.mem_filter.1 G).1⟩
 show pR m.fL line [] k=_
 unfold pR Ds
 rw[RB]
 by_cases B:k=line
 .simp_all
 rw[ei B,u.1]
 grind
theorem Iw(u:pI ws m)(line:Int):oo line ws=m.fL line:=(u.1 line).symm
end
def ak4{k:List Int}{a:List kr}:(nR k a).length=k.length:=xF a k
def C77(p:Nat)(m:Mem)(w:World)(M:BD w p m)(E:wI m):CR 77 [(.pointer (some ⟨p,0,none⟩))] w (λv w'=>v=hZ (fW m.of)/\Ext w w'):=by
 have MS:=M;obtain⟨ov,fv,lv,kv,wv,ws,j3,G,B,W,CM,O,V⟩:=M.ex;have J:=G.cell (o:=0) rfl;have Z:=G.cell (o:=1) rfl;have q2:=G.cell (o:=2) rfl;have q3:=G.cell (o:=3) rfl;have q4:=G.cell (o:=4) rfl;have MT:=E.fl;have Ku:=E.MR;have Ag:=E.ll;have yX:=E.kl;have Om:=E.lb;have GF:=rY E;have u:=St.start w;refine oL Tryz.func77 (pl:=P77) ?_;refine aE (aA uI (bN eh (J.ext u.aG) (aK cS (B.ext u.aG) (aH (aC (λ_=>⟨gQ (n3 .i64) (by unfold fW;rw[ej bO]),u.aG⟩) λgH=>aE (aA uI (have u:=u.drew;bN eh (J.ext u.aG) (aE (aA uI (bN eh (J.ext u.aG) (aK cS (B.ext u.aG) (fh bO ?_))))))))))))
 obtain⟨lX,I⟩:=gx m.of (i:=((m.of.length:Int)-1).toNat) bO;refine aQ cS B bO I (λ_ U=>aD bL (U.ext u.aG) ?_);have Y:=E.ofr _ (la I);exact aO bO ⟨gQ (n3 .i64) (by unfold fW;rw[ei bO,oj,show m.of.length-1=((m.of.length:Int)-1).toNat from bO,I];rfl),u.aG⟩
def C17(p:Nat)(m:Mem)(w:World)(U:BD w p m)(B:wI m)(hb:MB m 1000000):CR 17 [(.pointer (some ⟨p,0,none⟩))] w (λv w'=>kV (bH v (zp m)) w w'):=by
 have MS:=U;obtain⟨ov,fv,lv,kv,wv,ws,I,G,hmo,hmf,CM,aaC,E⟩:=U.ex;have q0:=G.cell (o:=0) rfl;have q1:=G.cell (o:=1) rfl;have q2:=G.cell (o:=2) rfl;have q3:=G.cell (o:=3) rfl;have W:=G.cell (o:=4) rfl;have MT:=B.fl;have Ku:=B.MR;have Ag:=B.ll;have yX:=B.kl;have Om:=B.lb;have GF:=rY B;have VL:=BE I B hb;have u:=St.start w;refine eZ Tryz.func17 ?_;refine aV amJ u (C77 _ m _ (MS.ext u.aG) B) (λY he u=>wR (0:Int) u cS uG bO bO dD λO _ u=>?_);refine⟨λV x Y=>∃k:Nat,x=hZ (k:Int)/\V=ws.length-k/\k<=ws.length/\St w aZ [bH O (Ab (ws.take k) (fW m.of).toNat)] Y,⟨_,0,rfl,rfl,l6 _,by rw[aaw]at u;exact u⟩,?_⟩
 rintro V _ _ ⟨k,rfl,rfl,hkw,u⟩ _;refine aE (aA kQ (bN tH (W.ext u.aG) (aK tI (E.ext u.aG) (aR (aC (λjs=>?_) λjs=>?_)))))
 .refine aE (aA kQ (bN tH (W.ext u.aG) ?_));obtain⟨Z,M⟩:=gx ws (i:=(k:Int).toNat) bO;refine aQ tI E bO M (λ_ qG=>bV Z.line wT qG rfl rfl λ_ xf=>aD bL (xf.ext u.aG) ?_);have nz:=rZ I B (la M);have Fe:(Ab (ws.take k) (fW m.of).toNat).length=(fW m.of).toNat:=xU;obtain⟨rk,J⟩:=gx (Ab (ws.take k) (fW m.of).toNat) (i:=Z.line.toNat) bO;refine dR u cS bO bO (λ_ mF=>gP u bL mF J ?_);have hcb:=ak3 J;have HE:(ws.take k).length<=ws.length:=by rw[l2];omega
  refine aO bO (dR u cS bO bO λ_ rq=>jw _ u bL rq bO λ_ u=>aO bO ?_);exact⟨_,bO,k+1,rfl,rfl,bO,by rw[<- Vj (k:=k) M nz.1 bO J];exact u⟩
 .rw[ld bO,aax I]at u;exact u.fresh
def C166(p:Nat)(m:Mem)(F:Nat->Prop)(cell n:Int)(w:World)(Y:(gw p m).p w F)(E:wI m)(hb:MB m 1000000):CR 166 [(.pointer (some ⟨p,0,none⟩)),hZ cell,hZ n] w (λv w'=>v=hZ (if GJ m cell=true then 0 else 1)/\mU F (gw p (fm m cell n)) w w'):=by
 have u:=St.begin Y;obtain⟨ov,fv,lv,kv,wv,ws,I,u⟩:=gw.open u;have MT:=E.fl;have Ku:=E.MR;have Ag:=E.ll;have yX:=E.kl;have Om:=E.lb;have GF:=rY E;have VL:=BE I E hb;refine oL Tryz.func166 (pl:=auN) ?_;refine⟨λjv w'=>jv=.bool (decide (cell<0\/m.l.length<=cell))/\w=w',aR (aC (λ_=>⟨Oi bO,rfl⟩) λ_=>aE (aA se (aB eh u.hb rfl (aK cS u.p3.dS (cR ⟨yN bO,rfl⟩))))),?_⟩;rintro _ _ ⟨rfl,W⟩ _;subst W;refine aC (λki=>?_) (λki=>?_)
 .have u:=u.p5.p5.p5.p5.p5.p5;have G:GJ m cell=false:=by unfold GJ;rw[decide_eq_false_iff_not];omega
  unfold fm;rw[G];exact⟨rfl,(gw.shut I u).mut⟩
 have G:GJ m cell=true:=by unfold GJ;rw[decide_eq_true_eq];omega
 refine aE (aA se (aB eh u.hb rfl ?_));obtain⟨iK,jU⟩:=gx m.l (i:=cell.toNat) bO;refine dR u.p3 cS bO bO (λ_ xf=>jw _ u.p3 bL xf bO λ_ u=>⟨λw'=>St w F [gw p (fm m cell n)] w',aE (aA uI (aB eh u.p1.hb rfl (aK cS u.p2.dS (aR (aC (λZ=>?_) λZ=>?_))))),?_⟩)
 .refine aE (aA kQ (have u:=u.drew;aB tH u.p1.hb rfl (aE (aA uI (aB eh u.p1.hb rfl ?_)))));obtain⟨M,J⟩:=gx m.of (i:=cell.toNat) bO;refine dR u.p2 cS bO bO (λ_ O=>gP u.p2 bL O J (pop (I9 _ _ _) (bD ([(⟨M,cell,n⟩:m7)]) u tI rfl rfl (dL rfl) λaqK _ u=>?_)));refine⟨aF tH (u.p2.hb.cell rfl),?_⟩;have V:=u.dS;refine bJ u.p6 tI V (by simp;omega) dD (λU _ u=>have u:=u.p1.drop;aE (aA kQ (aT u.p2 tH (dL rfl) u.dS.one λ_ u=>?_)))
  have u:=u.p5.p2.p3.p5.p5.p5.p4.p5.p5.p5.p5.p5;have B:fm m cell n={m with l:=m.l.set cell.toNat n,fL:=pR m.fL M (m.fL M++[⟨cell,n⟩])}:=by unfold fm;rw[ej G,ej bO,oj,J];rfl
  rw[B];exact gw.shut (m:={m with l:=_,fL:=_}) (Q0 I bO J) u
 .have u:=u.p5.p5.p2.p5.p5.p5;have B:fm m cell n={m with l:=m.l.set cell.toNat n}:=by unfold fm;rw[ej G,ei bO]
  rw[B];exact gw.shut (m:={m with l:=_}) I u
 intro _ u _;exact⟨by rw[G];rfl,u.mut⟩
def C167(p:Nat)(m:Mem)(F:Nat->Prop)(line:Int)(w:World)(hF:(gw p m).p w F)(B:wI m)(hb:MB m 1000000):CR 167 [(.pointer (some ⟨p,0,none⟩)),hZ line] w (λv w'=>v=hZ (if FJ m line=true then 0 else 1)/\mU F (gw p (oh m line)) w w'):=by
 have u:=St.begin hF;obtain⟨ov,fv,lv,kv,wv,ws,G,u⟩:=gw.open u;have MT:=B.fl;have Ku:=B.MR;have Ag:=B.ll;have yX:=B.kl;have Om:=B.lb;have GF:=rY B;have VL:=BE G B hb;refine oL Tryz.func167 (pl:=auO) ?_;refine⟨λjv w'=>jv=.bool (decide (line<0\/fW m.of<=line))/\St w F [bY p [ov,fv,lv,kv,wv],bH ov m.of,bH fv m.dW,bH lv m.l,bH kv m.kept,bH wv ws] w',aR (aC (λ_=>⟨vb (by first|exact(ew bO).symm|exact ga.2 bO),u⟩) λ_=>aV amJ u (C77 _ m _ (NZ G u.hb u.p1.dS u.p2.dS u.p3.dS u.p4.dS u.p5.dS) B) λ_ _ u=>cR ⟨vb (by first|exact(ew bO).symm|exact ga.2 bO),u⟩),?_⟩
 rintro _ _ ⟨rfl,u⟩ _;refine aC (λjH=>?_) (λjH=>?_)
 .have u:=u.p5.p5.p5.p5.p5.p5;have M:FJ m line=false:=by unfold FJ;rw[decide_eq_false_iff_not];omega
  unfold oh;rw[M];exact⟨rfl,(gw.shut G u).mut⟩
 refine bD ([]:List m7) u tI rfl rfl (dL rfl) (λU _ u=>?_);have u:=u.p6.p6.p6.p6.p6.p6.p6;refine⟨λY o x w1=>∃k:Nat,x=hZ (k:Int)/\Y=ws.length-k/\k<=ws.length/\St w F [bH o (Ds line (ws.take k)),bY p [ov,fv,lv,kv,wv],bH ov m.of,bH fv m.dW,bH lv m.l,bH kv (nR m.kept (oo line (ws.take k))),bH wv ws] w1,⟨_,0,rfl,rfl,l6 _,u⟩,?_⟩;rintro Y l5 _ _ ⟨k,rfl,rfl,hkw,u⟩ _;refine aE (aA kQ (aB tH u.p1.hb rfl (aK tI u.p6.dS (aR (aC (λiP=>⟨λo w'=>St w F [bH o (Ds line (ws.take (k+1))),bY p [ov,fv,lv,kv,wv],bH ov m.of,bH fv m.dW,bH lv m.l,bH kv (nR m.kept (oo line (ws.take (k+1)))),bH wv ws] w',?_,?_⟩) λiP=>?_)))))
 .refine aE (aA kQ (aB tH u.p1.hb rfl ?_));obtain⟨I,E⟩:=gx ws (i:=(k:Int).toNat) bO;refine dR u.p6 tI bO bO (λ_ mF=>mD wT mF λ_ sH=>nK I.line u.p6 bL sH E rfl (aH (aC (λJ=>?_) λJ=>?_)))
  .refine aE (aA AF (have u:=u.drew;aB eh u.p1.hb rfl (aE (aA kQ (aB tH u.p1.hb rfl (dR u.p6 tI bO bO λ_ u9=>mD Li u9 λ_ EZ=>nK I.cell u.p6 bL EZ E rfl (aE (aA kQ (aB tH u.p1.hb rfl (dR u.p6 tI bO bO λ_ X9=>?_))))))))));refine mD Lj X9 (λ_ V=>nK I.n u.p6 bL V E rfl ?_);have nz:=rZ G B (la E);have T6:(nR m.kept (oo line (ws.take k))).length=m.kept.length:=ak4;obtain⟨W6,O7⟩:=gx (nR m.kept (oo line (ws.take k))) (i:=I.cell.toNat) bO
   refine dR u.p5 cS bO bO (λ_ AW=>jw _ u.p5 bL AW bO λ_ u=>?_);have u:=u.p6.p1.p6.p6.p6.p6.p6;rw[aaz (k:=k) E J,aay (k:=k) E J,Cr];exact u
  refine aE (aA kQ (aB tH u.p1.hb rfl (dR u.p6 tI bO bO λ_ Fx=>gP u.p6 Wu Fx E (bD ([I]) u tI rfl rfl (dL rfl) λarG _ u=>?_))));have Kq:(Ds line (ws.take k)).length<=ws.length:=aaA;have O:=u.dS;refine bJ u.p1 tI O (by simp;omega) dD (λarH _ u=>?_);have u:=u.p1.drop.p6.p6.p6.p6.p6.p6.p6;rw[ae2 (k:=k) E J,ae1 (k:=k) E J];exact u
 .rintro W _ u _;exact aO bO (have u:=u.p6.p6.p6.p6.p6.p6.p6;⟨_,bO,k+1,rfl,rfl,bO,u⟩)
 refine aE (aA kQ (aT u.p1 tH (dL rfl) u.dS.one λ_ u=>?_));have u:=u.p6.drop.p1.p5.p5.p5.p5.p5;have M:FJ m line=true:=by unfold FJ;rw[decide_eq_true_eq];omega
 have Z:oh m line={m with kept:=nR m.kept (m.fL line),fL:=pR m.fL line []}:=by unfold oh;rw[ej M]
 rw[ld bO,Iw G]at u;rw[Z,M];exact⟨rfl,(gw.shut (m:={m with kept:=_,fL:=_}) (aaB G) u).mut⟩
section
variable {ws:List m7}{m:Mem}{x:m7}{cut:List Int}
def rE(m:Mem)(us:List m7):Mem:={m with fL:=λi=>oo i us}
theorem Vl(u:pI ws m):rE m ws=m:=by
 unfold rE
 have:(λi=>oo i ws)=m.fL:=funext λi=>Iw u i
 rw[this]
theorem Iy{j:Nat}{v:Int}:∀(us:List kr) (k:List Int),(∀u∈us,u.cell.toNat≠j)->nR (k.set j v) us=(nR k us).set j v
 | [],k,_=>rfl
 | u::us,k,h=>by
  show nR ((k.set j v).set u.cell.toNat u.n) us=(nR (k.set u.cell.toNat u.n) us).set j v
  rw[List.set_comm _ _ (h u (o6 ..)).symm,Iy us _ λw B=>h w (List.mem_cons_of_mem _ B)]
theorem Iz(i:Int)(us:List m7)(x:m7):oo i (us++[x])=if x.line=i then oo i us++[⟨x.cell,x.n⟩]else oo i us:=by
 unfold oo;grind
theorem N1{us:List m7}(U:∀y∈us,0<=y.cell/\m.of[y.cell.toNat]?=some y.line)(V:0<=x.cell/\m.of[x.cell.toNat]?=some x.line)(M:0<=x.line)(K:Nat) :
  pZ (rE m (us++[x])) cut K=if x.line<K/\((oo x.line us).length:Int)<cut.getD x.line.toNat 0 then(pZ (rE m us) cut K).set x.cell.toNat x.n else pZ (rE m us) cut K:=by
 induction K with
 | zero=>rw[ei bO];rfl
 | succ K I=>
  rw[vc,vc,I]
  show nR _ ((oo (K:Int) (us++[x])).take _)=if _ then(nR _ ((oo (K:Int) us).take _)).set _ _ else nR _ ((oo (K:Int) us).take _)
  rw[Iz]
  by_cases G:x.line=(K:Int)
  .have B:x.line.toNat=K:=bO
   rw[ej G,ei bO,<- B,show((x.line.toNat:Nat):Int)=x.line from bO]
   by_cases hc:((oo x.line us).length:Int)<cut.getD x.line.toNat 0
   .rw[ej ⟨bO,hc⟩,ld cL,Cr,ld bO]
   grind
  .rw[ei G]
   by_cases hc:x.line<(K:Int)/\((oo x.line us).length:Int)<cut.getD x.line.toNat 0
   .rw[ej hc,ej ⟨bO,hc.2⟩,Iy]
    intro u E J
    obtain⟨y,O,rfl⟩:=List.mem_map.1 (wM E)
    grind
   grind
def py(us:List m7)(cut:List Int):List Int:=(u7 cut.length).map fun (i:Nat)=>max 0 (cut.getD i 0-((oo i us).length:Int))
theorem vj{us:List m7}:(py us cut).length=cut.length:=by simp[py]
theorem BF{us:List m7}{i:Nat}(h:i<cut.length):(py us cut)[i]?=some (max 0 (cut.getD i 0-((oo i us).length:Int))):=by
 grind[py,oo]
theorem Vm(h:∀(i:Nat) (c:Int),cut[i]?=some c->0<=c):cut=py [] cut:=by
 apply wS
 intro i
 by_cases hi:i<cut.length
 .rw[BF hi,l0 hi]
  grind[oo]
 grind[py]
theorem Kj{us:List m7}{l e:Int}(E:0<=l)(u:(py us cut)[l.toNat]?=some e):l.toNat<cut.length/\e=max 0 (cut.getD l.toNat 0-((oo l us).length:Int)):=by
 have B:l.toNat<cut.length:=by have:=(kO.1 u).1;rwa [vj]at this
 rw[BF B,show((l.toNat:Nat):Int)=l from bO]at u
 grind
theorem Gi{us:List m7}(B:0<=x.line)(E:x.line.toNat<cut.length):py (us++[x]) cut=(py us cut).set x.line.toNat (max 0 (cut.getD x.line.toNat 0-((oo x.line us).length:Int)-1)):=by
 apply wS
 intro i
 by_cases hi:i<cut.length
 .rw[BF hi,Iz]
  by_cases u:i=x.line.toNat
  .subst u
   rw[BX (by rw[vj];exact hi),ej bO,l1,mv,show((x.line.toNat:Nat):Int)=x.line from bO]
   congr 1;omega
  rw[Iq (Ne.symm u),BF hi,ei bO]
 rw[n0 (by rw[vj];omega),n0 (by rw[IA,vj];omega)]
theorem Gj{α:Type}{l:List α}{k:Nat}{y:α}(h:l[k]?=some y):l.take (k+1)=l.take k++[y]:=by rw[tz,h];rfl
theorem Tw{k:Nat}{e:Int}(u:pI ws m)(J:wI m)(M:(cut.length:Int)=fW m.of)(h:ws[k]?=some x)(G:(py (ws.take k) cut)[x.line.toNat]?=some e)(h1:0<e) :
  (py (ws.take k) cut).set x.line.toNat (e-1)=py (ws.take (k+1)) cut/\(pZ (rE m (ws.take k)) cut cut.length).set x.cell.toNat x.n=pZ (rE m (ws.take (k+1))) cut cut.length:=by
 have E:=la h
 have B:=rZ u J E
 obtain⟨h2,h3⟩:=Kj B.1 G
 rw[Gj h,Gi B.1 h2,N1 (λy I=>u.2 y (wM I)) (u.2 x E) B.1,ej ⟨bO,bO⟩]
 grind
theorem Tx{k:Nat}{e:Int}(B:pI ws m)(M:wI m)(h:ws[k]?=some x)(E:(py (ws.take k) cut)[x.line.toNat]?=some e)(h1:¬ 0<e) :
  py (ws.take k) cut=py (ws.take (k+1)) cut/\pZ (rE m (ws.take k)) cut cut.length=pZ (rE m (ws.take (k+1))) cut cut.length:=by
 have G:=la h
 have u:=rZ B M G
 have J:=E
 obtain⟨h2,h3⟩:=Kj u.1 E
 rw[Gj h,Gi u.1 h2,N1 (λy I=>B.2 y (wM I)) (B.2 x G) u.1,ei bO]
 refine⟨?_,rfl⟩
 rw[show max 0 (cut.getD x.line.toNat 0-((oo x.line (ws.take k)).length:Int)-1)=e from bO]
 apply wS
 grind
theorem aaD{k:Nat}{e:Int}(u:(zp m)[k]?=some e):e=(m.fL k).length:=by
 unfold zp psM at u
 rw[pO]at u
 have B:k<(fW m.of).toNat:=by
  cases h:(FM m (fW m.of).toNat)[k]? with
  | none=>grind
  | some y=>have:=(kO.1 h).1;unfold FM at this;grind
 rw[Ze B]at u
 grind
theorem Vn(m:Mem)(cut:List Int):m.kept=pZ (rE m []) cut cut.length:=by
 have:∀K,pZ (rE m []) cut K=m.kept:=λK=>by
  induction K with
  | zero=>rfl
  | succ K u=>rw[vc,u];simp[rE,oo,nR]
 grind
theorem Q1(u:List Int):pI [] (mM m u):=⟨λ_=>rfl,λx h=>by cases h⟩
end
def C92(p:Nat)(m:Mem)(cut:List Int)(cv:Value)(w:World)(hm:BD w p m)(B:wI m)(hb:MB m 1000000)(U:dA (λ_=>True) w cv cut)(Zf:cut.length<=1000):CR 92 [(.pointer (some ⟨p,0,none⟩)),cv] w (λv w'=>(fC m cut=none/\v=.tuple #[.slice none 0 0,hZ 1]/\Ext w w')\/∃lC o,fC m cut=some lC/\v=.tuple #[o,hZ 0]/\kV (bH o lC) w w'):=by
 have MS:=hm;obtain⟨ov,fv,lv,kv,wv,ws,J,rB,hmo,hmf,CM,M,Y⟩:=hm.ex;have q0:=rB.cell (o:=0) rfl;have q1:=rB.cell (o:=1) rfl;have q2:=rB.cell (o:=2) rfl;have G:=rB.cell (o:=3) rfl;have q4:=rB.cell (o:=4) rfl;have MT:=B.fl;have Ku:=B.MR;have Ag:=B.ll;have yX:=B.kl;have Om:=B.lb;have GF:=rY B;have VL:=BE J B hb;have hpil:=Vk (m:=m);have u:=St.start w;refine ahI _ _ _ _ ?_;unfold S92;refine dU auq u (C17 _ m _ (MS.ext u.aG) B hb) (λx13 w1 cJ u=>aK cS (U.ext u.aG) (aK cS u.dS (bX (aC (λ_=>.inl ⟨MV bO,rfl,u.aG⟩) λlS=>?_))))
 refine⟨λmm x w1=>∃k:Nat,x=hZ (k:Int)/\mm=cut.length-k/\k<=cut.length/\(∀(i:Nat) (c:Int),i<k->cut[i]?=some c->0<=c/\c<=(m.fL i).length)/\St w aZ [bH x13 (zp m)] w1,⟨_,0,rfl,rfl,l6 _,λ_ _ h=>absurd h bO,u⟩,?_⟩;rintro mm _ _ ⟨k,rfl,rfl,xq,kG,u⟩ _;refine aK cS u.dS (aR (aC (λiP=>?_) λiP=>?_))
 .obtain⟨SO,xE⟩:=gx cut (i:=(k:Int).toNat) bO;refine⟨λjv w'=>jv=.bool (decide (SO<0\/((m.fL k).length:Int)<SO))/\St w aZ [bH x13 (zp m)] w',aQ cS U bO xE (λ_ uT=>have u:=u.drew;aD bL (uT.ext u.aG) (aR (aC (λ_=>⟨vb (by first|exact(ew bO).symm|exact ga.2 bO),u⟩) λagJ=>?_))),?_⟩
  .refine aQ cS U bO xE (λ_ rq=>aD bL (rq.ext u.aG) ?_);obtain⟨e_x37,Z⟩:=gx (zp m) (i:=(k:Int).toNat) bO;refine dR u cS bO bO (λ_ xp=>gP u bL xp Z (cN ?_));have BL:=aaD (k:=k) Z;exact⟨vb (by first|exact(ew bO).symm|exact ga.2 bO),u⟩
  rintro _ _ ⟨rfl,u⟩ _;refine aC (λ_=>.inl ⟨MU (k:=k) xE bO,rfl,u.aG⟩) (λxj=>aO bO ?_);refine⟨_,bO,k+1,rfl,rfl,bO,λi c hi hc=>?_,u⟩
  by_cases e:i=k
  .subst e;obtain rfl:=oq.inj (hc.symm.trans xE);omega
  exact kG i c bO hc
 have I:(cut.length:Int)=fW m.of:=bO
 refine⟨λa b w'=>St w aZ [bH a cut,bH b m.kept] w',aE (aA AF (have u:=u.drew;bN eh (G.ext u.aG) ⟨bD ([]:List Int) u cS rfl rfl (dL rfl) (λarF _ u=>⟨aF eh (G.ext u.aG),⟨?_,⟨?_,?_⟩⟩⟩),⟨?_,?_⟩⟩)),?_⟩
 .have ak6:=(U.ext u.aG);refine bJ u cS ak6 (by simp<;>omega) dD (λagI _ u=>?_);refine⟨aF eh (G.ext u.aG),?_⟩;refine bD ([]:List Int) u cS rfl rfl (dL rfl) (λs_x44 _ u=>?_);refine⟨aF eh (G.ext u.aG),?_⟩;have QR:=(M.ext u.aG);exact bJ u cS QR (by simp<;>omega) dD (λ_ _ u=>have u:=u.p2.drop.p1;u)
 .refine bD ([]:List Int) u cS rfl rfl (dL rfl) (λatO _ u=>?_);refine⟨aF eh (G.ext u.aG),?_⟩;have aaG:=(U.ext u.aG);refine bJ u.p1 cS aaG (by simp<;>omega) dD (λatP _ u=>?_);refine⟨aF eh (G.ext u.aG),?_⟩;have aaH:=(M.ext u.aG);exact bJ u.p1 cS aaH (by simp<;>omega) dD (λ_ _ u=>have u:=u.p2.drop.p1;u)
 .trivial
 .refine bD ([]:List Int) u cS rfl rfl (dL rfl) (λatQ _ u=>?_);refine⟨aF eh (G.ext u.aG),?_⟩;refine bD ([]:List Int) u cS rfl rfl (dL rfl) (λatS _ u=>?_);refine⟨aF eh (G.ext u.aG),?_⟩;have aaI:=(U.ext u.aG);refine bJ u cS aaI (by simp<;>omega) dD (λatT _ u=>?_);refine⟨aF eh (G.ext u.aG),?_⟩;have aaJ:=(M.ext u.aG);exact bJ u.p1 cS aaJ (by simp<;>omega) dD (λ_ _ u=>have u:=u.p2.drop.p1;u)
 .trivial
 rintro G6 Wb _ u _;have u:=u.p1.p1;refine⟨λmm x w1=>∃j:Nat,x=hZ (j:Int)/\mm=ws.length-j/\j<=ws.length/\St w aZ [bH G6 (py (ws.take j) cut),bH Wb (pZ (rE m (ws.take j)) cut cut.length)] w1,⟨_,0,rfl,rfl,l6 _,by rw[Vm (λi c hc=>(kG i c (by have:=(kO.1 hc).1;omega) hc).1),Vn m cut]at u;simpa using u⟩,?_⟩;rintro mm _ _ ⟨j,rfl,rfl,hj,u⟩ _;refine aE (aA kQ (bN tH (q4.ext u.aG) (aK tI (Y.ext u.aG) (aR (aC (λagD=>⟨λw'=>St w aZ [bH G6 (py (ws.take (j+1)) cut),bH Wb (pZ (rE m (ws.take (j+1))) cut cut.length)] w',?_,?_⟩) λagD=>?_)))))
 .refine aE (aA kQ (bN tH (q4.ext u.aG) ?_));obtain⟨E,V⟩:=gx ws (i:=(j:Int).toNat) bO;refine aQ tI Y bO V (λ_ E1=>aD Wu (E1.ext u.aG) (aM u acy λb_w11 _ u=>aJ (x:=E) u Wu rfl rfl λ_ u=>aA wT (aB (v:=hZ E.line) bL u.hb rfl ?_)));have nz:=rZ J B (la V);have hlw:(py (ws.take j) cut).length=cut.length:=vj;obtain⟨e_x69,O⟩:=gx (py (ws.take j) cut) (i:=E.line.toNat) bO;refine dR u.p1 cS bO bO (λ_ Mq=>gP u.p1 bL Mq O ?_)
  have hlb2:=(Kj nz.1 O).2
  have hcg:cut.getD E.line.toNat 0<=1000000:=by
   have hl9:E.line.toNat<cut.length:=bO
   rw[oj,l0 hl9];have h1:=kG _ _ bO (l0 hl9);have h2:=hb ((E.line.toNat:Nat):Int);simp only[Option.getD_some];omega
  refine cN (aC (λW=>?_) λW=>?_)
  .refine aA wT (have u:=u.drew;aB (v:=hZ E.line) bL u.hb rfl (aA wT (aB (v:=hZ E.line) bL u.hb rfl (dR u.p1 cS bO bO λ_ Nv=>gP u.p1 bL Nv O (fh bO (dR u.p1 cS bO bO λ_ ar8=>jw _ u.p1 bL ar8 bO λ_ u=>aA Li (aB (v:=hZ E.cell) bL u.p1.hb rfl (aA Lj (aB (v:=hZ E.n) bL u.p1.hb rfl ?_)))))))));have hil:(pZ (rE m (ws.take j)) cut cut.length).length=m.kept.length:=pg _ _ _;obtain⟨e_x87,ayS⟩:=gx (pZ (rE m (ws.take j)) cut cut.length) (i:=E.cell.toNat) bO
   refine dR u.p2 cS bO bO (λ_ ar9=>jw _ u.p2 bL ar9 bO λ_ u=>?_);have u:=u.p2.drop.p1;rw[<- (Tw (k:=j) J B I V O W).1,<- (Tw (k:=j) J B I V O W).2];exact u
  have u:=u.drop.p1.p1;rw[<- (Tx (k:=j) J B V O W).1,<- (Tx (k:=j) J B V O W).2];exact u
 .rintro _ u _;exact aO bO (have u:=u.p1.p1;⟨_,bO,j+1,rfl,rfl,bO,u⟩)
 have u:=u.drop;rw[ld bO,Vl J]at u;exact .inr ⟨_,_,HS I (λi c _ hc=>kG i c bO hc),rfl,u.fresh⟩
def C93(p:Nat)(m:Mem)(F:Nat->Prop)(cut:List Int)(cv:Value)(w:World)(hF:(gw p m).p w F)(E:wI m)(hb:MB m 1000000)(hC:∀w',gz F w w'->dA (λ_=>True) w' cv cut)(Zf:cut.length<=1000):CR 93 [(.pointer (some ⟨p,0,none⟩)),cv] w (λv w'=>(fC m cut=none/\v=hZ 1/\mU F (gw p m) w w')\/∃lC,fC m cut=some lC/\v=hZ 0/\mU F (gw p (mM m lC)) w w'):=by
 have u:=St.begin hF;obtain⟨ov,fv,lv,kv,wv,ws,j3,u⟩:=gw.open u;have MT:=E.fl;have Ku:=E.MR;have Ag:=E.ll;have W:=E.kl;have Om:=E.lb;have GF:=rY E;refine oL Tryz.func93 (pl:=P93) ?_;refine dM amK (C92 _ m cut _ _ (NZ j3 u.hb u.p1.dS u.p2.dS u.p3.dS u.p4.dS u.p5.dS) E hb (hC _ u.aG) bO) ?_;rintro U _ M
 rcases M with⟨B,rfl,he⟩|⟨G,O,B,rfl,cJ⟩
 .have u:=u.ext he;exact aN rfl (aN rfl (bX (ke dD (have u:=u.p5.p5.p5.p5.p5.p5;.inl ⟨B,rfl,(gw.shut j3 u).mut⟩))))
 have u:=u.made cJ;refine aN rfl (aN rfl (bX (fJ dD (bD ([]:List Int) u cS rfl rfl (dL rfl) λV _ u=>?_))));have lH:=u.p1.dS;refine bJ u cS lH (by have I:G.length=m.of.length:=(by unfold fC at B;split at B<;>simp at B;rw[<- B,pg];exact W);simp;omega) dD (λXS _ u=>aE (aA Wt (have u:=u.drew;aB eh u.p2.hb rfl (aE (aA uI (aB eh u.p2.hb rfl (aK cS u.p3.dS (zG cS u.p4.dS bO bO λZ J=>?_))))))));have Y:=(J _ u.p4.dS);refine bJ u cS Y (by have I:G.length=m.of.length:=(by unfold fC at B;split at B<;>simp at B;rw[<- B,pg];exact W);simp;omega) dD (λagL _ u=>aE (aA se (aT u.p2 eh (dL rfl) u.dS.one λ_ u=>aE (aA AF (aT u eh (dL rfl) u.p2.dS.one λ_ u=>aE (aA kQ (aT u tH (dL rfl) (rfl) λ_ u=>?_)))))))
 have u:=(((((((((((u.eM (α:=m7)).p6).drop).p6).drop).p6).drop).p3).p3).p5).p5).p5;have I:G.length=m.of.length:=by unfold fC at B;split at B<;>simp at B;rw[<- B,pg];exact W
 rw[show(m.of.length:Int).toNat=G.length from bO,tx]at u;exact .inr ⟨_,B,rfl,(gw.shut (m:=mM m G) (Q1 _) u).mut⟩
structure DoK(K:hM)(d:pC)(q:Dq):Prop where
 x:∀w,K w->ml w d.x q.1
 a:∃ra,∀w,rA K d.body ra q.2.1.flat w
 b:∃rb,∀w,rA K d.ey rb q.2.2.1.flat w
 e:d.in_=q.2.2.2
def lu(K:hM)(ds:List pC)(qs:List Dq):Prop:=ds.length=qs.length/\∀(j:Nat) (d:pC) (q:Dq),ds[j]?=some d->qs[j]?=some q->DoK K d q
section
variable {K K2:hM}{ds es:List pC}{qs rs:List Dq}{d:pC}{q:Dq}
theorem lu.nil:lu K [] []:=⟨rfl,λj d q h=>by cases h⟩
theorem lu.cons(h:DoK K d q)(u:lu K ds qs):lu K (d::ds) (q::qs):=by
 refine⟨by simp[u.1],λj e r h1 h2=>?_⟩
 cases j with
 | zero=>cases h1;cases h2;exact h
 | succ j=>exact u.2 j e r h1 h2
theorem lu.head(h:lu K ds (q::qs)):∃d es,ds=d::es/\DoK K d q/\lu K es qs:=by
 cases ds with
 | nil=>have:=h.1;grind
 | cons d es=>exact⟨d,es,rfl,h.2 0 d q rfl rfl,by have:=h.1;grind,λj e r h1 h2=>h.2 (j+1) e r h1 h2⟩
theorem lu.append(h:lu K ds qs)(u:lu K es rs):lu K (ds++es) (qs++rs):=by
 refine⟨by simp[h.1,u.1],λj d q h1 h2=>?_⟩
 have B:=h.1
 by_cases E:j<ds.length
 .rw[u3 E]at h1
  rw[u3 bO]at h2
  exact h.2 j d q h1 h2
 rw[List.getElem?_append_right bO]at h1 h2
 rw[<- B]at h2
 exact u.2 _ d q h1 h2
theorem lu.drop(h:lu K ds qs)(k:Nat):lu K (ds.drop k) (qs.drop k):=by
 refine⟨by simp[h.1],λj d q h1 h2=>?_⟩
 rw[List.getElem?_drop]at h1 h2
 exact h.2 _ d q h1 h2
end
@[reducible] def yB(lv:Value)(B:SV)(rg:Value)(u:Nat)(f:Int):List Value:=[lv,j0 B,rg,.pointer (some ⟨u,0,none⟩),.int .i64 f]
def mq(K:hM)(p:Nat)(room:Int)(t:j1):HP:=pM λu:Nat=>pM λB:SV=>pM λrg=>pM λlv=>pM λds:List pC=>fact ((∀w,K w->dA (λ_=>True) w (j0 B) t.names)/\lu K ds (wq t.cE)/\F9 t.cE)
 (sep (bY p (yB lv B rg u t.fault)) (sep (jk u room t.buf) (sep (bH rg t.dQ) (eF λw=>dA (λ_=>True) w lv ds))))
abbrev RTK(K:hM)(u:SV)(ds:List pC)(t:j1):Prop:=(∀w,K w->dA (λ_=>True) w (j0 u) t.names)/\lu K ds (wq t.cE)/\F9 t.cE
section
variable {w w0:World}{A:Nat->Prop}{R:List HP}{p:Nat}{K:hM}{room:Int}{t:j1}
theorem Q2{H1 H2 B u:HP}(E:St w0 A (sep H1 (sep H2 (sep B u))::R) w):St w0 A (H1::H2::B::u::R) w:=by
 have h1:=E.split
 have h2:=h1.p1.split
 have h3:=h2.p1.split
 exact h3.p2.p3
theorem Q3{H1 H2 B u:HP}(E:St w0 A (H1::H2::B::u::R) w):St w0 A (sep H1 (sep H2 (sep B u))::R) w:=by
 have h3:=St.join E.p3.p3
 have h2:=St.join h3.p2
 exact St.join h2.p1
theorem mq.open(u:St w0 A (mq K p room t::R) w):∃B E rg lv ds,RTK K E ds t/\
  St w0 A (bY p (yB lv E rg B t.fault)::jk B room t.buf::bH rg t.dQ::eF (λw=>dA (λ_=>True) w lv ds)::R) w:=by
 obtain⟨B,u⟩:=u.eo;obtain⟨E,u⟩:=u.eo;obtain⟨rg,u⟩:=u.eo;obtain⟨lv,u⟩:=u.eo;obtain⟨ds,u⟩:=u.eo;obtain⟨G,u⟩:=u.mC
 exact⟨B,E,rg,lv,ds,G,Q2 u⟩
theorem mq.shut{u:Nat}{B:SV}{rg lv:Value}{ds:List pC}(E:RTK K B ds t)
  (G:St w0 A (bY p (yB lv B rg u t.fault)::jk u room t.buf::bH rg t.dQ::eF (λw=>dA (λ_=>True) w lv ds)::R) w):St w0 A (mq K p room t::R) w:=
 St.ep u (St.ep B (St.ep rg (St.ep lv (St.ep ds (St.oA E (Q3 G))))))
theorem mq.rd(h:Has (mq K p room t) w):∃B E rg lv ds,RTK K E ds t/\mW w p (yB lv E rg B t.fault)/\uo w B room t.buf/\dA (λ_=>True) w rg t.dQ/\dA (λ_=>True) w lv ds:=by
 obtain⟨F,u⟩:=h.st
 obtain⟨B,E,rg,lv,ds,G,u⟩:=mq.open u
 exact⟨B,E,rg,lv,ds,G,u.hb,DU u.p1,u.p2.dS,u.p3.eF⟩
end
structure RA where
 pv:bP
 q:Nat
 ow:Value
 ll:Value
 ps:List Ptr
@[reducible] def pA(a:RA)(s:gU):List Value:=[j0 a.pv.lines,j0 a.pv.iR,j0 a.pv.eK,j0 a.pv.threads,j0 a.pv.recover,j0 a.pv.dT,.int .i64 s.room,.int .i64 s.bZ,.pointer (some ⟨a.q,0,none⟩),a.ow,a.ll,.int .i64 s.fault,.int .i64 s.jd]
structure RSK(K:hM)(a:RA)(s:gU):Prop where
 pr:∀w,K w->ml w a.pv s.p
 rc:∃vK,(∀w,K w->dA (λ_=>True) w (j0 a.pv.recover) vK)/\Dl K vK s.p.recover
abbrev N2(K:hM)(room:Int)(s:Ptr)(t:j1):HP:=mq K s.b room t
def qT(K:hM)(p:Nat)(m:gU):HP:=pM λa:RA=>fact (RSK K a m) (sep (bY p (pA a m)) (sep (gw a.q m.mem) (sep (bH a.ow m.eV) (sep (bH a.ll a.ps) (ic (N2 K m.room) a.ps m.l)))))
section
variable {w w' w0:World}{A:Nat->Prop}{R:List HP}{p:Nat}{K:hM}{m:gU}{a:RA}{i:Nat}{tp:Ptr}{t:j1}
theorem qT.open(u:St w0 A (qT K p m::R) w):∃a,RSK K a m/\St w0 A (bY p (pA a m)::gw a.q m.mem::bH a.ow m.eV::bH a.ll a.ps::ic (N2 K m.room) a.ps m.l::R) w:=by
 obtain⟨a,u⟩:=u.eo;obtain⟨B,u⟩:=u.mC;exact⟨a,B,sU u⟩
theorem qT.shut(u:RSK K a m)(B:St w0 A (bY p (pA a m)::gw a.q m.mem::bH a.ow m.eV::bH a.ll a.ps::ic (N2 K m.room) a.ps m.l::R) w):St w0 A (qT K p m::R) w:=
 St.ep a (St.oA u (sV B))
structure ayU(K:hM)(w:World)(p:Nat)(m:gU)(a:RA):Prop where
 uk:RSK K a m
 b:mW w p (pA a m)
 mem:BD w a.q m.mem
 ow:dA (λ_=>True) w a.ow m.eV
 ll:dA (λ_=>True) w a.ll a.ps
 th:∀(i:Nat) (s:Ptr) (t:j1),a.ps[i]?=some s->m.l[i]?=some t->Has (mq K s.b m.room t) w
 len:a.ps.length=m.l.length
theorem qT.rd(h:Has (qT K p m) w):∃a,ayU K w p m a:=by
 obtain⟨F,u⟩:=h.st
 obtain⟨a,B,u⟩:=qT.open u
 exact⟨a,B,u.hb,Ge (St.has u.p1),u.p2.dS,u.p3.dS,λi s t h1 h2=>u.p4.ah0 h1 h2 (Φ:=λw=>Has (mq K s.b m.room t) w) λh=>⟨_,h⟩,u.p4.iZ⟩
end
variable (w:World) (K:Value->hM)
def S221(B I G E:Value):Prop:=
 iA 82 B I λa=>lA 164 a w λb=>aL 164 w λc d=>sA 164 c b d λe=>fA 164 c 0 λf=>lA 3 f e λg=>bB .eql 3 g (i 1) λh=>cV h (fA 164 c 1 λj=>lA 3 j e λk=>
 K (.tuple #[k,(i 0)]) e) (fA 164 c 0 λl=>lA 3 l e λn=>bB .eql 3 n (i 2) λo=>cV o (fA 164 c 2 λp=>lA 9 p e λq=>cF 123 [G,q] e λr s=>iA 41 E r λt=>
 lA 3 t s λu=>K (.tuple #[u,(i 0)]) s) (bB .add 3 I (i 1) λv=>cF 221 [B,v,G,E] e λx y=>xT x 0 λz=>xT x 1 λU=>bB .neq 31 U (i 0) λab=>cV ab (
 K (.tuple #[(i 0),U]) y) (fA 164 c 0 λac=>lA 3 ac y λad=>cF 273 [ad] y λae M=>bB .eql 3 ae (i 1) λag=>cV ag (fA 164 c 0 λah=>lA 3 ah M λai=>cF 274 [ai,z] M λV ak=>
 xT V 0 λal=>xT V 1 λam=>K (.tuple #[al,am]) ak) (bB .add 3 I (i 1) λan=>cF 251 [B,an] M λao ap=>cF 221 [B,ao,G,E] ap λW J=>xT W 0 λasx=>
 xT W 1 λO=>bB .neq 31 O (i 0) λav=>cV av (K (.tuple #[(i 0),O]) J) (fA 164 c 0 λaw=>lA 3 aw J λZ=>cF 275 [Z,z,asx] J λY az=>xT Y 0 λa0=>xT Y 1 λa1=>
 K (.tuple #[a0,a1]) az)))))
theorem ae5(u G E B:Value)(h:S221 w K u G E B):CR 221 [u,G,E,B] w K:=
 qW 77 (λ_=>.nil) 768 [.tmp 8,.tmp 9] Tryz.func221 h
theorem ahj:PL 146:=dJ Tryz.func146
theorem aaK:PL 221:=dJ Tryz.func221
end Go.Proofs.YtpdlpabnlkofmaaGreatDoor
namespace Go.Proofs.YtpdlpabnlkofmaaGreatDoor
open Go.Fw
theorem Ex.Ty{t:Ex}(h:t.wf)(u:kids t.root.op=0):t=.leaf t.root:=by
 have:=Ex.pa h
 cases t with
 | leaf x=>rfl
 | un x a=>rw[u]at this;cases this
 | bin x a b=>rw[u]at this;cases this
theorem Ex.ahk{t:Ex}(h:t.wf)(u:kids t.root.op=1):∃a,t=.un t.root a:=by
 have:=Ex.pa h
 cases t with
 | leaf x=>rw[u]at this;cases this
 | un x a=>exact⟨a,rfl⟩
 | bin x a b=>rw[u]at this;cases this
theorem Ex.aaL{t:Ex}(h:t.wf)(u:kids t.root.op=2):∃a b,t=.bin t.root a b:=by
 have:=Ex.pa h
 cases t with
 | leaf x=>rw[u]at this;cases this
 | un x a=>rw[u]at this;cases this
 | bin x a b=>exact⟨a,b,rfl⟩
theorem alc{k:Int}(h:kids k=1):GC k=0:=by
 unfold kids at h;grind[GC]
def BO.N3{xs:List cA}{i:Int}{t:Ex}(h:BO xs i t){y:cA}(u:y∈t.flat):y∈xs:=by
 obtain⟨_,_,r,h⟩:=h
 exact List.mem_of_mem_drop (show y∈xs.drop i.toNat by grind)
theorem C221(lv nv uv:Value)(xs:List cA)(ns:List ByteArray)(nums:List Int)(i:Int)(t:Ex)(N:Nat)(w:World)(hL:dA (λ_=>True) w lv xs)(hN:dA (λ_=>True) w nv ns)(hU:dA (λ_=>True) w uv nums)(hn:xs.length<=1048576)(BN:ns.length<=1048576)(Z:ns.length=nums.length)(kG:yF nums)(U:∀y∈xs,y.op=2->0<=cU ns y.name)(M:∀y∈xs,eY y.n)(O:BO xs i t)(hNt:t.size<N) :
   CR 221 [lv,hZ i,nv,uv] w (λv w'=>v=.tuple #[hZ (t.val ns nums).1,hZ (t.val ns nums).2]/\Ext w w'):=by
 obtain⟨e,G⟩:∃e,e=t.root:=⟨_,rfl⟩;have Y:xs[i.toNat]?=some e:=by rw[G];exact O.root.1
 have hem:=la Y;have hri:=O.root.2;have hie:=O.end;have O9:=Ex.pa O.2.1;rw[<- G]at O9;have Xh:=uf e.op;have hi0:=O.1;have E:=O.2.1;have B:=St.start w;refine ae5 _ _ _ _ _ _ ?_;unfold S221;refine aQ gY (hL.ext B.aG) bO Y (λq hq=>aD si hq (aM B yk λb _ B=>aJ (x:=e) B si rfl rfl λ_ B=>aA fa (aB bL B.hb rfl (aH (aC (λc1=>?_) λc1=>?_)))))
 .refine aA jq (aB bL B.hb rfl ?_);have ht:=Ex.Ty E (by rw[<- G,c1];rfl);rw[ht,<- G];refine⟨?_,B.drop.aG⟩;show _=Ej #[hZ (if e.op=2 then _ else e.n),hZ 0];rw[ei bO]
 refine aA fa (aB bL B.hb rfl (aH (aC (λc2=>?_) λc2=>?_)))
 .refine aA gm (aB gA B.hb rfl (aV r7 B (C123 _ ns _ _ (hN.ext B.aG) BN) λ_ W B=>?_));obtain⟨j,hj,Bj,_⟩:=lY (dK.1 (U e hem c2));have Ef:=(kO.1 Bj).1;obtain⟨u,hu⟩:=gx nums (i:=(cU ns e.name).toNat) bO;refine aQ cS (hU.ext B.aG) bO hu (λq2 Kv=>aD bL Kv ?_);have ht:=Ex.Ty E (by rw[<- G,c2];rfl);rw[ht,<- G];refine⟨?_,B.drop.aG⟩;show _=Ej #[hZ (if e.op=2 then nums.getD (cU ns e.name).toNat 0 else e.n),hZ 0];rw[ej c2,oj,hu];rfl
 have hk0:kids e.op=1\/kids e.op=2:=by
  have:kids e.op≠0:=λh=>by unfold kids at h;split at h;omega;split at h;omega;split at h;omega;omega
  omega
 obtain⟨a,I⟩:=gx t.eD (i:=0) bO;have hka:=Ex.ug E (la I);have J:=O.kid I;have VE:=J.end;rw[show i+1+((qD t.eD 0:Nat):Int)=i+1 by simp[qD]]at J VE;refine aO bO (aV aaK B (C221 lv nv uv xs ns nums _ a (N-1) _ (hL.ext B.aG) (hN.ext B.aG) (hU.ext B.aG) hn BN Z kG U M J bO) λ_ W B=>aN rfl (aN rfl (bX (aC (λc3=>?_) λc3=>?_))))
 .refine⟨?_,B.drop.aG⟩
  rcases hk0 with h|h
  .obtain⟨a2,ht⟩:=Ex.ahk E (by rw[<- G];exact h);rw[ht]at I |-;cases I
   rw[Ex.F7,ei c3]
  obtain⟨a2,b2,ht⟩:=Ex.aaL E (by rw[<- G];exact h);rw[ht]at I |-;cases I
  rw[Ex.BB,ei c3]
 have hao:=Ex.QY (ns:=ns) kG a (λy hy=>M y (J.N3 hy));refine aA fa (aB bL B.hb rfl (aV KR B (C273 _ _) λ_ W B=>aH (aC (λc4=>?_) λc4=>?_)))
 .refine aA fa (aB bL B.hb rfl (aV anj B (C274 _ _ _) λ_ W B=>aN rfl (aN rfl ?_)));refine⟨?_,B.drop.aG⟩;obtain⟨a2,ht⟩:=Ex.ahk E (by rw[<- G];exact c4);rw[ht]at I |-;cases I
  rw[Ex.F7,ej (uh.1 c3),<- G,alc c4]
 have xq:kids e.op=2:=bO
 refine aO bO (aV KP B (C251 _ _ _ (xs.length+1) _ (hL.ext B.aG) bO bO bO) λ_ W B=>?_);rw[VE.1];obtain⟨b',hb⟩:∃b,t.eD[1]?=some b:=⟨_,l0 bO⟩;have hkb':=Ex.ug E (la hb);have V:=O.kid hb;rw[uS I,show i+1+((qD t.eD 0+a.size:Nat):Int)=i+1+(a.size:Int)by simp[qD]]at V;refine aV aaK B (C221 lv nv uv xs ns nums _ b' (N-1) _ (hL.ext B.aG) (hN.ext B.aG) (hU.ext B.aG) hn BN Z kG U M V bO) (λ_ W B=>aN rfl (aN rfl ?_));obtain⟨a2,b2,ht⟩:=Ex.aaL E (by rw[<- G];exact xq);rw[ht]at I hb |-
 cases I;cases hb
 rw[Ex.BB,ej (uh.1 c3),<- G];refine bX (aC (λc5=>?_) λc5=>?_)
 .refine⟨?_,B.drop.aG⟩;rw[ei c5]
 have hbo:=Ex.QY (ns:=ns) kG b' (λy hy=>M y (V.N3 hy));refine aA fa (aB bL B.hb rfl (aV ank B (C275 _ _ _ _ hao hbo) λ_ W B=>aN rfl (aN rfl ?_)));refine⟨?_,B.drop.aG⟩;rw[ej (uh.1 c5)]
termination_by N
decreasing_by all_goals omega
def C146(lv I J:Value)(xs:List cA)(ns:List ByteArray)(nums:List Int)(w:World)(W:dA (λ_=>True) w lv xs)(M:dA (λ_=>True) w I ns)(Y:dA (λ_=>True) w J nums)(V:xs.length<=1048576)(Z:ns.length<=1048576)(R7:∀x∈xs,x.name.size<=1048576)(kG:yF nums) :
  CR 146 [lv,I,J] w (λv w'=>v=.tuple #[hZ (pU ns nums xs).1,hZ (pU ns nums xs).2]/\Ext w w'):=by
 have u:=St.start w;refine eZ Tryz.func146 ?_;refine aK iD M (aK cS Y (bX (aC (λc1=>?_) λc1=>?_)))
 .have B:pU ns nums xs=(0,1):=by unfold pU;rw[ei bO]
  rw[B];exact⟨rfl,u.aG⟩
 refine dM am3 (C220 _ _ xs ns _ W M V Z R7) ?_;rintro _ _ ⟨s,rfl,cJ⟩;have u:=(u.made cJ).drop;refine aN rfl (aN rfl (bX (aC (λO=>?_) λO=>?_)))
 .have B:pU ns nums xs=(0,kZ ns xs):=by unfold pU;rw[ej bO,ei O]
  rw[B];exact⟨rfl,u.aG⟩
 have G:kZ ns xs=0:=uh.1 O;obtain⟨t,hT,B,E,U⟩:=Vf (nums:=nums) G bO;refine aV aaK u (C221 lv I J xs ns nums _ t (t.size+1) _ (W.ext u.aG) (M.ext u.aG) (Y.ext u.aG) V Z bO kG E U hT bO) (λ_ he u=>aN rfl (aN rfl ?_));rw[B];exact⟨rfl,u.aG⟩
def Bk.ayV{L:List bQ}{k:Nat}{x:bQ}{a c r:Bk}(h:L.drop k=(Bk.cons x a c r).flat)(E:(Bk.cons x a c r).str){i j e:Int}(hi:i=k+1)(W:j=k+1+x.body)(M:e=k+1+x.body+x.ey) :
  L[k]?=some x/\(L.take j.toNat).drop i.toNat=a.flat/\(L.take e.toNat).drop j.toNat=c.flat/\L.drop e.toNat=r.flat/\e.toNat<=L.length:=by
 obtain⟨O,V,_⟩:=E
 have U:=a.cY
 have Y:=c.cY
 have h1:L.drop (k+1)=a.flat++(c.flat++r.flat):=by rw[<- tj,h];rfl
 have h2:L.drop (k+1+a.flat.length)=c.flat++r.flat:=by rw[<- tj,h1,FF]
 have h3:L.drop (k+1+a.flat.length+c.flat.length)=r.flat:=by rw[<- tj,h2,FF]
 have J:=gQ List.length h
 have G:(Bk.cons x a c r).flat.length=1+(a.flat.length+(c.flat.length+r.flat.length)):=by simp[Bk.flat];omega
 rw[G,rf]at J
 have I:i.toNat=k+1:=bO
 have u:j.toNat=k+1+a.flat.length:=bO
 have B:e.toNat=k+1+a.flat.length+c.flat.length:=bO
 refine⟨?_,?_,?_,cL,bO⟩
 .have:(L.drop k)[0]?=some x:=by rw[h];rfl
  grind
 .rw[WY,I,u,h1,show k+1+a.flat.length-(k+1)=a.flat.length by omega,Nc]
 rw[WY,u,B,h2,show k+1+a.flat.length+c.flat.length-(k+1+a.flat.length)=c.flat.length by omega,Nc]
theorem C128(K:hM)(sv:SV)(rows:List bE)(b:Bk)(w:World)(G:∀w',Ext w w'->K w')(hb:b.str)(Ol:∀w,rA K sv rows b.flat w)(Hq:b.flat.length<=100000) :
   CR 128 [j0 sv] w (λv w'=>∃ds,lu K ds (D5 false b)/\kV (bH v ds) w w'):=by
 have u:=St.start w;refine aeR _ _ _ ?_;unfold S128;have I:∀w',K w'->dA (λ_=>True) w' (j0 sv) rows:=λw' h=>(Ol w').2 h;have Z:∀w',K w'->gy rows b.flat w':=λw' h=>(Ol w').1 w' h;have GK:rows.length=b.flat.length:=(Z _ (G _ (Ext.refl _))).1;refine bD ([]:List pC) u nE rfl rfl (dL rfl) (λs8 O u=>?_);refine⟨λmm o y w'=>∃(k:Nat) (ds:List pC) (qs:List Dq) (r:Bk),y=hZ (k:Int)/\mm=b.flat.length-k/\r.str/\b.flat.drop k=r.flat/\D5 false b=qs++D5 false r/\lu K ds qs/\ds.length<=k/\k<=b.flat.length/\St w aZ [bH o ds] w',⟨_,0,[],[],b,rfl,rfl,hb,rfl,rfl,lu.nil,Nat.le_refl _,l6 _,u⟩,?_⟩
 rintro mm o _ _ ⟨k,ds,qs,r,rfl,rfl,hr,Qa,Gy,U,EU,hk,u⟩ _;refine aK fq (I _ (G _ u.aG)) (aR (aC (λc=>?_) λc=>?_));rotate_left
 .have h0:r.flat.length=0:=by rw[<- Qa,rf];omega
  have hrn:r=.nil:=by
   cases r with
   | nil=>rfl
   | cons _ _ _ _=>simp[Bk.flat]at h0
  subst hrn;exact⟨ds,by rw[Gy];show lu K ds (qs++[]);rw[pd];exact U,u.fresh⟩
 obtain⟨x,a,c',r',rfl⟩:=Bk.DK (t:=r) (by rw[<- Qa,rf];omega);obtain⟨g1,g2,g3,g4,sa,sc,sr⟩:=id hr;obtain⟨e1,e2,e3,e4,e5⟩:=Bk.ayV Qa hr (i:=(k:Int)+1) (j:=(k:Int)+1+x.body) (e:=(k:Int)+1+x.body+x.ey) rfl rfl rfl;obtain⟨t0,UE⟩:∃t0,rows[k]?=some t0:=⟨_,l0 (by have:=(kO.1 e1).1;omega)⟩;have W:∀w',K w'->ml w' t0 x:=λw' h=>(Z w' h).2 k t0 x UE e1;obtain⟨J,M,rfl,_,_⟩:=jh (W _ (G _ u.aG));refine aQ fq (I _ (G _ u.aG)) bO (by rw[qb];exact UE) (λq hq=>aD eN hq (aM u jA λb5 _ u=>aJ (x:=(⟨x.kind,x.eG,x.name,J,M,x.n,x.body,x.ey,x.at_⟩:bE)) u eN rfl rfl λ_ u=>aO bO (aA iY (aB (v:=hZ x.body) bL u.hb rfl (aO bO (aA iI (aB (v:=hZ x.ey) bL u.hb rfl (aO bO (have u:=u.drew;aD (x:=(⟨x.kind,x.eG,x.name,J,M,x.n,x.body,x.ey,x.at_⟩:bE)) eN u.At (aO bO ?_))))))))))
 refine oB fq (I _ (G _ u.aG)) bO bO bO (λs32 V=>?_);obtain⟨B,rfl⟩:=(V _ (I _ (G _ u.aG))).fK;refine oB fq (I _ (G _ u.aG)) bO bO bO (λs36 Y=>?_);obtain⟨E,rfl⟩:=(Y _ (I _ (G _ u.aG))).fK;refine pop (Kh x.kind x.eG x.name J.a J.n J.cap M.a M.n M.cap x.n x.body x.ey x.at_ B.a B.n B.cap E.a E.n E.cap) (bD ([⟨(⟨x.kind,x.eG,x.name,J,M,x.n,x.body,x.ey,x.at_⟩:bE),B,E,false⟩]:List pC) u nE rfl rfl (dL rfl) λs38 _ u=>?_);have ayW:=u.dS;refine bJ u.p2 nE ayW (by rw[mv];omega) dD (λs39 _ u=>⟨_,?_,((k:Int)+1+x.body+x.ey).toNat,ds++[⟨(⟨x.kind,x.eG,x.name,J,M,x.n,x.body,x.ey,x.at_⟩:bE),B,E,false⟩],qs++[(x,a,c',false)],r',gQ (n3 .i64) bO,rfl,sr,e4,by rw[Gy];simp[D5],U.append (lu.cons ⟨W,⟨_,λO=>⟨λw' h=>?_,λh=>V O (I O h)⟩⟩,⟨_,λO=>⟨λw' h=>?_,λh=>Y O (I O h)⟩⟩,rfl⟩ lu.nil),?_,e5,u.p1.drop.p1.drop⟩)
 .omega
 .have:=gy.cut (i:=((k:Int)+1).toNat) (j:=((k:Int)+1+x.body).toNat) (Z w' h);rw[e2]at this;exact this
 .have:=gy.cut (i:=((k:Int)+1+x.body).toNat) (j:=((k:Int)+1+x.body+x.ey).toNat) (Z w' h);rw[e3]at this;exact this
 rw[l1,mv];omega
def C203(p:Nat)(t:j1)(W:Value)(J:SV)(rg:Value)(Z:Nat)(lv:Value)(xs:List cA)(w:World)(O:mW w p (yB W J rg Z t.fault))(R7:dA (λ_=>True) w (j0 J) t.names)(Dm:dA (λ_=>True) w rg t.dQ)(M:dA (λ_=>True) w lv xs)
  (U:xs.length<=1048576) (Y:t.names.length<=1048576) (E:∀x∈xs,x.name.size<=1000) (V:yF t.dQ):CR 203 [.pointer (some ⟨p,0,none⟩),lv] w (λv w'=>v=.tuple #[hZ (eJ t xs).1,.bool (eJ t xs).2]/\Ext w w'):=by
 have G:=O.cell (o:=1) rfl;have B:=O.cell (o:=2) rfl;have u:=St.start w;refine oL Tryz.func203 (pl:=ayI) ?_;refine aK gY M (aH (aC (λc=>?_) λc=>?_))
 .have I:eJ t xs=(0,true):=by unfold eJ;rw[ej bO]
  rw[I];exact⟨rfl,u.aG⟩
 have I:eJ t xs=((pU t.names t.dQ xs).1,decide ((pU t.names t.dQ xs).2=0)):=by unfold eJ;rw[ei bO]
 have u:=u.drew;refine aE (aA Lk (bN jj (G.ext u.aG) (aE (aA Ll (bN eh (B.ext u.aG) (aV ahj u (C146 _ _ _ xs t.names t.dQ _ (M.ext u.aG) (R7.ext u.aG) (Dm.ext u.aG) U Y (λx h=>xe (E x h) dD) V) λ_ he u=>aN rfl (aN rfl (aH ?_))))))));rw[I];exact⟨rfl,u.aG⟩
def C204(K:hM)(p:Nat)(room:Int)(t:j1)(F:Nat->Prop)(s:ByteArray)(n:Int)(w:World)(G:(mq K p room t).p w F)(I:∀w',gz F w w'->K w')(J:0<=cU t.names s)(O:t.dQ.length=t.names.length)(U:t.names.length<=1000) :
   CR 204 [.pointer (some ⟨p,0,none⟩),.string s,hZ n] w (λv w'=>v=.tuple #[]/\mU F (mq K p room (pk t s n)) w w'):=by
 obtain⟨j,Y,E,_⟩:=lY (dK.1 J);have V:=(kO.1 E).1;have u:=St.begin G;refine eZ Tryz.func204 ?_;obtain⟨Z,M,rg,W,ds,B,u⟩:=mq.open u;exact aE (aA Lk (aB jj u.hb rfl (aV r7 u (C123 _ t.names s _ (B.1 _ (I _ u.aG)) bO) λ_ _ u=>aE (aA Ll (aB eh u.hb rfl (dR u.p2 cS bO bO λ_ h=>jw (n:Int) u.p2 bL h bO λ_ u=>have u:=mq.shut (t:=pk t s n) B u.p3.p1.p3.p3;⟨rfl,u.mut⟩))))))
def C171(K:hM)(p:Nat)(room:Int)(t:j1)(F:Nat->Prop)(lv:Value)(es:List pC)(qs rest:List Dq)(q0:Dq)(p2:PD)(w:World)(hF:(mq K p room t).p w F)(hK:∀w',gz F w w'->K w')(hL:∀w',gz F w w'->dA (λ_=>True) w' lv es)(Y:lu K es qs)(ud:wq t.cE=q0::rest)(E:wq p2=qs++rest)(U:F9 p2)(Lv:es.length<=100000)(GK:rest.length<=100000) :
   CR 171 [.pointer (some ⟨p,0,none⟩),lv] w (λv w'=>v=.tuple #[]/\mU F (mq K p room {t with cE:=p2}) w w'):=by
 have u:=St.begin hF;refine eZ Tryz.func171 ?_;obtain⟨bp,W,rg,Q4,ds,M,u⟩:=mq.open u;have O:=M.2.1;rw[ud]at O;obtain⟨V,I,rfl,_,B⟩:=O.head;have EU:=B.1;refine bD ([]:List pC) u nE rfl rfl (dL rfl) (λs5 _ u=>bJ u nE (hL _ u.aG) (by simp;omega) dD λs7 _ u=>aE (aA kR (aB uJ u.p1.hb rfl (B0 nE u.p4.eF bO (by rw[o1];omega) λZ G=>bJ u nE G (by simp;omega) dD λs14 _ u=>aE (aA kR (aT u.p1 uJ (dL rfl) u.dS.one λ_ u=>?_))))));have u:=u.p4.drop.p1.freeze.p3.p3.p3
 have e:([]++es++(V::I).drop (1:Int).toNat)=es++I:=rfl;rw[e]at u;have J:RTK K W (es++I) {t with cE:=p2}:=⟨M.1,by rw[E];exact Y.append B,U⟩;exact⟨rfl,(mq.shut (t:={t with cE:=p2}) J u).mut⟩
theorem CC{b:Bk}{n:Nat}(h:b.len<=n):∀{e:Bool},(D5 e b).length<=n:=by
 intro e
 have:∀(b:Bk) (e:Bool),(D5 e b).length<=b.len:=by
  intro b
  induction b with
  | nil=>intro e;exact l6 _
  | cons x a c r _ _ u=>intro e;have:=u false;simp only[D5,o1,Bk.len];omega
 grind
theorem C129(K:hM)(p:Nat)(room:Int)(t tR:j1)(n:Nat)(cs ls:List ByteArray)(F:Nat->Prop)(w:World)(hF:(mq K p room t).p w F)(M:∀w',gz F w w'->K w')(kG:yv cs ls t)(hto:BQ t)(hg:tC n t=some tR) :
   CR 129 [.pointer (some ⟨p,0,none⟩)] w (λv w'=>v=.tuple #[]/\mU F (mq K p room tR) w w'):=by
 have u:=St.begin hF;refine aeS _ _ _ ?_;unfold S129;refine⟨λmm w'=>∃B:j1,tC mm B=some tR/\yv cs ls B/\BQ B/\St w F [mq K p room B] w',⟨n,t,hg,kG,hto,u⟩,?_⟩;rintro mm w1 ⟨B,BP,xI,ald,u⟩ _;obtain⟨k,rfl⟩:=HY BP;have Fe:=xI.cl;have Zr:=xI.nb;have GK:=xI.rl;have hfc:=Ga B.cE;obtain⟨bp,nv,rg,Q4,ds,E,u⟩:=mq.open u;have EU:=E.2.1.1;refine aE (aA kR (aB uJ u.hb rfl (aK nE u.p3.eF (cN (aC (λc0=>?_) λc0=>?_)))));rotate_left
 .have eH:pj B.cE=none:=by
   cases h:pj B.cE with
   | none=>rfl
   | some q=>obtain⟨x,a,b⟩:=q;obtain⟨e,h2⟩:=BC h;rw[h2,o1]at EU;omega
  rw[po BP (Zk eH)];exact⟨rfl,(mq.shut E u).mut⟩
 obtain⟨x,a,b,Cs⟩:∃x a b,pj B.cE=some (x,a,b):=by
  cases h:pj B.cE with
  | none=>have h2:=HW xI.p h;have h3:(wq B.cE).length=0:=(by rw[h2];rfl);omega
  | some q=>exact⟨q.1,q.2.1,q.2.2,rfl⟩
 obtain⟨en,ud⟩:=BC Cs;have Q5:(wq (gE B.cE)).length<=100000:=by rw[ud,o1]at hfc;omega
 have xq:=E.2.1;rw[ud]at xq;obtain⟨d0,qh,rfl,zh,hds⟩:=xq.head;have hKn:K w1:=M _ u.aG;obtain⟨dx,G,U,dn⟩:=d0;obtain⟨I,J,rfl,_,_⟩:=jh (zh.x _ hKn);have Aj:∀w,K w->ml w (⟨x.kind,x.eG,x.name,I,J,x.n,x.body,x.ey,x.at_⟩:bE) x:=zh.x
 have Qq:∀w,K w->dA (λ_=>True) w (j0 I) x.e/\dA (λ_=>True) w (j0 J) x.f:=λw hw=>by
  obtain⟨_,_,h4,h5,h6⟩:=jh (Aj w hw);cases h4
  exact⟨h5,h6⟩
 obtain⟨ra,hda⟩:=zh.a;obtain⟨rb,T5⟩:=zh.b;obtain⟨hx,sa,sb,aa,ab,Ks,hb2,T6,r,e,p',BL,sr,ar⟩:=xI.top Cs;have iV:(Bk.cons x a b r).str:=xI.p.st _ (by rw[BL];exact o6 ..);have Hq:b.len<=40:=iV.2.2.2.1;have hxe:=hx.e;have hxn:=hx.nm;refine aE (aA kR (aB uJ u.hb rfl (aQ nE u.p3.eF bO rfl λq hq=>aD Ln hq (aM u RP λb2 _ u=>aJ (x:=(⟨⟨x.kind,x.eG,x.name,I,J,x.n,x.body,x.ey,x.at_⟩,G,U,dn⟩:pC)) u Ln rfl rfl λ_ u=>aA oY (aA iX (aB (v:=j0 I) jz u.hb rfl (aV NY u (C203 p B Q4 nv rg bp _ x.e _ u.p1.hb (E.1 _ (M _ u.aG)) u.p3.dS (Qq _ (M _ u.aG)).1 bO bO hxn.1 ald.r) λ_ he u=>aN rfl (aN rfl ?_))))))))
 refine aA oY (aA j9 (aB (v:=j0 J) jz u.hb rfl (aV NY u (C203 p B Q4 nv rg bp _ x.f _ u.p1.hb (E.1 _ (M _ u.aG)) u.p3.dS (Qq _ (M _ u.aG)).2 bO bO hxn.2 ald.r) λw5 he u=>aN rfl (aN rfl ?_))));refine⟨λjv w'=>jv=.bool (!((eJ B x.e).2&&(eJ B x.f).2))/\w'=w5,?_,?_⟩
 .exact bR (aY (λc=>⟨vb (by rw[Bool.not_eq_true']at c;rw[c];rfl),rfl⟩) λc=>bR ⟨vb (by rw[Bool.not_eq_false']at c;rw[c];rfl),rfl⟩)
 rintro _ w6 ⟨rfl,rfl⟩ _;refine aY (λc1=>?_) (λc1=>?_)
 .refine aE (aA wU (aT u.p1 bL (dL rfl) rfl λw7 u=>?_))
  have OQ:qO B=({B with fault:=2},false):=by
   cases h1:(eJ B x.e).2 with
   | false=>exact Zl Cs h1
   | true=>exact Zm Cs (by rw[h1]at c1;simpa using c1)
  rw[po BP OQ];have u:=u.p1.drop;exact⟨rfl,(mq.shut (t:={B with fault:=2}) E u).mut⟩
 have Un:(eJ B x.e).2=true/\(eJ B x.f).2=true:=by simpa using c1
 have hgk:=Zn Cs Un.1 Un.2
 have wj:∀(t2:j1) (w':World),qN B x a b (eJ B x.e).1=(t2,true)->St w F [mq K p room t2,bY b2 (kp (⟨⟨x.kind,x.eG,x.name,I,J,x.n,x.body,x.ey,x.at_⟩,G,U,dn⟩:pC))] w'->∃m',m'<k+1/\∃B:j1,tC m' B=some tR/\yv cs ls B/\BQ B/\St w F [mq K p room B] w':=λt2 w' h3 h4=>by
  have h5:=hgk.trans h3;obtain⟨h6,h7,_⟩:=DW xI;have h8:=ald.goS;rw[h5]at h6 h7 h8;exact⟨k,Nat.lt_succ_self k,t2,SR BP h5,h6,h8,h4.p1.drop⟩
 have Dk:=E.2.2.pop;refine aA oY (aA dO (aB (v:=hZ x.kind) bL u.hb rfl (aH (aC (λk1=>?_) λk1=>?_))))
 .refine aA oY (aA iH (aB (v:=.string x.eG) gA u.hb rfl (have u:=mq.shut (t:=B) E u.p4.p4.p4.p4;bF ahf u (H':=λ_=>mq K p room (pk B x.eG (eJ B x.e).1)) (Φ:=λ_ _=>True) (λY V O=>?_) ?_)))
  .exact(C204 K p room B Y x.eG _ _ V (λw' hc=>M w' (O w' hc).aG) (hx.rg (.inl k1)) GK Zr).mono λ_ _ r=>r.mono λ_ _ h=>⟨trivial,h.2⟩
  rintro _ w8 _ u;refine bF Iu u (H':=λ_=>mq K p room {pk B x.eG (eJ B x.e).1 with cE:=(gE B.cE)}) (Φ:=λ_ _=>True) (λY V O=>?_) ?_
  .exact(C171 K p room (pk B x.eG (eJ B x.e).1) Y (.slice none 0 0) [] [] _ _ (gE B.cE) _ V (λw' hc=>M w' (O w' hc).aG) (λ_ _=>dA.nil _ _) lu.nil ud rfl Dk (l6 _) Q5).mono λ_ _ r=>r.mono λ_ _ h=>⟨trivial,h.2⟩
  rintro _ w9 _ u;exact wj _ _ (Zj k1) u
 refine aH (aC (λk2=>?_) λk2=>?_)
 .refine bX (aC (λc=>?_) λc=>?_)
  .refine aA Lo (aB (v:=j0 G) jR u.hb rfl (have u:=mq.shut (t:=B) E u.p4.p4.p4.p4;dM NX (C128 K G _ a _ (λ_ e=>M _ (u.aG.then e)) sa hda (by have:=Bk.cY a;omega)) ?_));rintro s20 w8 ⟨aaO,W,cJ⟩;have u:=u.made cJ;have ayZ:aaO.length<=40:=by have:=W.1;have:=CC (b:=a) (n:=40) bO (e:=false);omega
   have u:=u.p1;refine bF Iu u (H':=λ_=>mq K p room {B with cE:=(ju a false (gE B.cE))}) (Φ:=λ_ _=>True) (λY V O=>?_) ?_
   .exact(C171 K p room B Y s20 aaO (D5 false a) _ _ (ju a false (gE B.cE)) _ V (λw' hc=>M w' (O w' hc).aG) (λw' hc=>(O w' hc).dS) W ud vi Dk.push bO Q5).mono λ_ _ r=>r.mono λ_ _ h=>⟨trivial,h.2⟩
   rintro _ w9 _ u;exact wj _ _ (by rw[JP k2,ei c]) u.p1.drop
  refine aA WC (aB (v:=j0 U) jR u.hb rfl (have u:=mq.shut (t:=B) E u.p4.p4.p4.p4;dM NX (C128 K U _ b _ (λ_ e=>M _ (u.aG.then e)) sb T5 (by have:=Bk.cY b;omega)) ?_));rintro s20 w8 ⟨aaO,W,cJ⟩;have u:=u.made cJ;have ayZ:aaO.length<=40:=by have:=W.1;have:=CC (b:=b) (n:=40) bO (e:=false);omega
  have u:=u.p1;refine bF Iu u (H':=λ_=>mq K p room {B with cE:=(ju b false (gE B.cE))}) (Φ:=λ_ _=>True) (λY V O=>?_) ?_
  .exact(C171 K p room B Y s20 aaO (D5 false b) _ _ (ju b false (gE B.cE)) _ V (λw' hc=>M w' (O w' hc).aG) (λw' hc=>(O w' hc).dS) W ud vi Dk.push bO Q5).mono λ_ _ r=>r.mono λ_ _ h=>⟨trivial,h.2⟩
  rintro _ w9 _ u;exact wj _ _ (by rw[JP k2,ej (uh.1 c)]) u.p1.drop
 refine aH (aC (λk3=>?_) λk3=>?_)
 .have hxn0:=hx.n k3
  have Za:b=.nil:=by
   have h1:b.len=0:=by have:=hx.el bO;omega
   cases b with
   | nil=>rfl
   | cons _ _ _ _=>simp[Bk.len]at h1
  refine bD ([]:List pC) u nE rfl rfl (dL rfl) (λs76 _ u=>?_);refine⟨λlv7 w'=>∃(Z:List pC) (qs7:List Dq),lu K Z qs7/\Z.length<=41/\wq (mN x a B.cE)=qs7++wq (gE B.cE)/\St w F [bH lv7 Z,bY b2 (kp (⟨⟨x.kind,x.eG,x.name,I,J,x.n,x.body,x.ey,x.at_⟩,G,U,dn⟩:pC)),bY p (yB Q4 nv rg bp B.fault),jk bp room B.buf,bH rg B.dQ,eF λw=>dA (λ_=>True) w Q4 ((⟨⟨x.kind,x.eG,x.name,I,J,x.n,x.body,x.ey,x.at_⟩,G,U,dn⟩:pC)::qh)] w',?_,?_⟩
  .refine aA oY (aA jS (aB (v:=hZ x.n) bL u.p1.hb rfl (cN (aC (λc=>?_) λc=>?_))));rotate_left
   .exact⟨[],[],lu.nil,l6 _,by unfold mN;rw[ej bO];rfl,u⟩
   refine aD (x:=(⟨⟨x.kind,x.eG,x.name,I,J,x.n,x.body,x.ey,x.at_⟩,G,U,dn⟩:pC)) Ln u.p1.At (aM u RP λb8 w15 u=>aJ (x:=(⟨⟨x.kind,x.eG,x.name,I,J,x.n,x.body,x.ey,x.at_⟩,G,U,dn⟩:pC)) u Ln rfl rfl λw16 u=>aA oY (aA jS (aB (v:=hZ x.n) bL u.p2.hb rfl (fh bO (aA oY (aA jS (aT u bL (dL rfl) rfl λ_ u=>aA Lp (aT u AB (dL rfl) rfl λ_ u=>have u:=u.enc (cs':=kp (⟨⟨x.kind,x.eG,x.name,I,J,x.n-1,x.body,x.ey,x.at_⟩,G,U,true⟩:pC)) rfl;aA Lo ?_))))))))
   refine aB (v:=j0 G) jR u.p2.hb rfl (dM NX (C128 K G _ a _ (λ_ e=>M _ (u.aG.then e)) sa hda (by have:=Bk.cY a;omega)) ?_);rintro s92 _ ⟨ay1,asd,cJ⟩;have u:=u.made cJ;have s92l:ay1.length<=40:=by have:=asd.1;have:=CC (b:=a) (n:=40) bO (e:=false);omega
   have ay2:=u.dS;refine bJ u.p2 nE ay2 (by simp;omega) dD (λs93 _ u=>aD (x:=(⟨⟨x.kind,x.eG,x.name,I,J,x.n-1,x.body,x.ey,x.at_⟩,G,U,true⟩:pC)) Ln u.p2.At (bD ([(⟨⟨x.kind,x.eG,x.name,I,J,x.n-1,x.body,x.ey,x.at_⟩,G,U,true⟩:pC)]:List pC) u nE rfl rfl (dL rfl) λs96 _ u=>?_));have ay3:=u.dS;refine bJ u.p1 nE ay3 (by simp;omega) dD (λs97 _ u=>have u:=u.p1.drop.p1.drop.p1.drop;⟨_,D5 false a++[({x with n:=x.n-1},a,.nil,true)],(lu.append (lu.append lu.nil asd) (lu.cons (d:=(⟨⟨x.kind,x.eG,x.name,I,J,x.n-1,x.body,x.ey,x.at_⟩,G,U,true⟩:pC)) (q:=({x with n:=x.n-1},a,.nil,true)) ⟨λw hw=>?_,⟨ra,hda⟩,⟨rb,by rw[<- Za];exact T5⟩,rfl⟩ lu.nil)),by simp;omega,?_,u⟩)
   .obtain⟨_,_,h4,h5,h6⟩:=Aj w hw;cases h4
    exact⟨I,J,rfl,h5,h6⟩
   rw[Vg bO];simp
  rintro lv7 _ ⟨Z,qs7,h71,h72,h73,u⟩ _;have u:=((mq.shut (t:=B) E u.p5.p5.p5.p5).p1).p1;refine bF Iu u (H':=λ_=>mq K p room {B with cE:=(mN x a B.cE)}) (Φ:=λ_ _=>True) (λY V O=>?_) ?_
  .exact(C171 K p room B Y lv7 Z qs7 _ _ (mN x a B.cE) _ V (λw' hc=>M w' (O w' hc).aG) (λw' hc=>(O w' hc).dS) h71 ud h73 E.2.2.round bO Q5).mono λ_ _ r=>r.mono λ_ _ h=>⟨trivial,h.2⟩
  rintro _ _ _ u;exact wj _ _ (SU k3) u.p1.drop
 refine aH (aC (λk4=>?_) λk4=>?_)
 .obtain⟨D,hD⟩:∃D,D=(⟨⟨x.kind,x.eG,x.name,I,J,x.n,x.body,x.ey,x.at_⟩,G,U,dn⟩:pC)::qh:=⟨_,rfl⟩;have hDK:lu K D (wq B.cE):=by rw[hD];exact E.2.1
  have hDl:D.length=(wq B.cE).length:=hDK.1;rw[<- hD]at u;refine⟨λmm y w'=>∃j:Nat,y=hZ (j:Int)/\mm=D.length-j/\j<=D.length/\(∀(i:Nat) (q:Dq),i<j->(wq B.cE)[i]?=some q->q.2.2.2=false)/\w'=w6,⟨_,0,rfl,rfl,l6 _,λ_ _ h=>absurd h (Mh _),rfl⟩,?_⟩;rintro mm _ w7 ⟨j,rfl,rfl,hj,hjn,rfl⟩ _;refine⟨λjv w'=>jv=.bool (match D[j]? with|some d=>!d.in_|none=>false)/\w'=w7,?_,?_⟩
  .refine aE (aA kR (aB uJ u.p1.hb rfl (aK nE u.p4.eF (aR (aC (λc=>?_) λc=>⟨vb (by rw[n0 bO]),rfl⟩)))));obtain⟨d,hd⟩:=gx D (i:=((j:Nat):Int).toNat) bO;refine aE (aA kR (aB uJ u.p1.hb rfl (aQ nE u.p4.eF bO hd λq hq=>bV d.in_ Lp hq rfl rfl λq2 Kv=>aD AB Kv (bR ?_))));rw[qb]at hd;exact⟨vb (by rw[hd]),rfl⟩
  rintro _ w8 ⟨rfl,rfl⟩ _;refine aY (λc=>?_) (λc=>?_)
  .have Ef:j<D.length:=by
    rcases PN j D.length with h|h
    .exact h
    .rw[n0 h]at c;cases c
   refine aO bO ?_;refine⟨_,bO,j+1,rfl,rfl,bO,λi q hi hq=>?_,rfl⟩
   by_cases e:i=j
   .subst e;rw[l0 Ef]at c;have:=(hDK.2 i _ q (l0 Ef) hq).e;rw[<- this];simpa using c
   exact hjn i q bO hq
  have hdi:uz (wq B.cE)=(wq B.cE).drop (j+1):=It _ j hjn (λq hq=>by
   have Ef:j<D.length:=by have:=(kO.1 hq).1;omega
   rw[l0 Ef]at c;have:=(hDK.2 j _ q (l0 Ef) hq).e;rw[<- this];simpa using c) bO
  have u:=u.drew;refine aE (aA kR (aB uJ u.p1.hb rfl (aO bO (aE (aA kR (aB uJ u.p1.hb rfl (aK nE u.p4.eF (rH (zG nE u.p4.eF bO bO λay4 ase=>?_)))))))));have asf:=ase _ u.p4.eF;refine aE (aA kR (aT u.p1 uJ (dL rfl) asf.one λ_ u=>?_));have u:=u.p4.dN (Ψ:=λw=>dA (λ_=>True) w ay4 (D.drop (min ((j:Int)+1) (D.length:Int)).toNat)) (λw h=>ase w h)
  have ed:D.drop (min ((j:Int)+1) (D.length:Int)).toNat=D.drop (j+1):=by
   rcases PN j D.length with h|h
   .congr 1;omega
   .rw[vM bO,vM bO]
  rw[ed]at u;have hk9:RTK K nv (D.drop (j+1)) {B with cE:=kC B.cE}:=⟨E.1,by show lu K _ (wq (kC B.cE));rw[Is E.2.2,hdi];exact hDK.drop _,E.2.2.leave⟩;have u:=((mq.shut (t:={B with cE:=kC B.cE}) hk9 u.p4.p4.p3).p1).p1;exact wj _ _ (SW k4) u
 refine aH (aC (λk5=>?_) λk5=>?_)
 .refine aH (aC (λc=>?_) λc=>?_)
  .refine aE (aA wU (aT u.p1 bL (dL rfl) rfl λw15 u=>?_));have u:=mq.shut (t:={B with fault:=1}) E u.p4.p4.p4.p3;rw[po BP (hgk.trans (M4 k5 c))];have u:=u.p1.p1;exact⟨rfl,u.p1.drop.mut⟩
  have u:=u.p4;have u:=((mq.shut (t:=B) E u.p4.p4.p4).p1).p1;refine bF Iu u (H':=λ_=>mq K p room {B with cE:=(gE B.cE)}) (Φ:=λ_ _=>True) (λY V O=>?_) ?_
  .exact(C171 K p room B Y (.slice none 0 0) [] [] _ _ (gE B.cE) _ V (λw' hc=>M w' (O w' hc).aG) (λ_ _=>dA.nil _ _) lu.nil ud rfl Dk (l6 _) Q5).mono λ_ _ r=>r.mono λ_ _ h=>⟨trivial,h.2⟩
  rintro _ w16 _ u;exact wj _ _ (M5 k5 c) u
 rw[po BP (hgk.trans (SX k1 k2 k3 k4 k5))];have u:=((mq.shut (t:=B) E u.p4.p4.p4.p4).p1).p1;exact⟨rfl,u.p1.drop.mut⟩
theorem C80(K:hM)(p:Nat)(m:gU)(q:Nat)(t:j1)(w:World)(hm:Has (qT K p m) w)(hw:∀w',Ext w w'->K w')(W:oN m)(hh:Has (mq K q m.room t) w)(Cu:t∈m.l):CR 80 [.pointer (some ⟨p,0,none⟩),.pointer (some ⟨q,0,none⟩)] w (λv w'=>v=.bool (sX m t)/\Ext w w'):=by
 obtain⟨a,J⟩:=qT.rd hm;have cm6:=J.b.cell (o:=6) rfl;have E:=J.b.cell (o:=9) rfl;have kG:=W.th t Cu;have Hq:=kG.bl;have ajM:(cM m.p).length<=500:=by unfold cM;rw[n4];exact W.pz.eK
 obtain⟨bp,nv,rg,lv,ds,hk,sW,hB,Dm,I⟩:=mq.rd hh;obtain⟨bsv,CK,u6,U⟩:=hB;have V:=sW.cell (o:=0) rfl;have G:=sW.cell (o:=3) rfl;have ct4:=sW.cell (o:=4) rfl;have EU:=hk.2.1.1;have u:=St.start w;refine oL Tryz.func80 (pl:=P80) ?_;refine aE (aA kR (bN uJ (V.ext u.aG) (aK nE (I.ext u.aG) (aH (aC (λc0=>?_) λc0=>?_)))))
 .have eH:pj t.cE=none:=by
   cases h:pj t.cE with
   | none=>rfl
   | some q=>obtain⟨x,a,b⟩:=q;obtain⟨e,h2⟩:=BC h;rw[h2,o1]at EU;omega
  exact⟨vb (by unfold sX;rw[eH]),u.aG⟩
 obtain⟨x,xa,xb,Cs⟩:∃x a b,pj t.cE=some (x,a,b):=by
  cases h:pj t.cE with
  | none=>have h2:=HW kG.p h;have h3:(wq t.cE).length=0:=(by rw[h2];rfl);omega
  | some q=>exact⟨q.1,q.2.1,q.2.2,rfl⟩
 obtain⟨en,ud⟩:=BC Cs;have xq:=hk.2.1;rw[ud]at xq;obtain⟨d0,qh,rfl,zh,hds⟩:=xq.head;obtain⟨dx,db,de,dn⟩:=d0;obtain⟨ge,gf,rfl,_,_⟩:=jh (zh.x _ (hw _ u.aG));have hx:=(kG.top Cs).1;have B:sX m t=(if t.fault≠0\/x.kind=2 then true else if x.kind=3\/x.kind=5\/x.kind=6\/x.kind=7 then !decide (m.room<=t.buf.length)else if x.kind=9/\m.eV.getD (cU (cM m.p) x.name).toNat 0≠-1 then false else decide (t.buf.length=0)):=by unfold sX;rw[Cs]
 refine aE (aA kR (bN uJ (V.ext u.aG) (aQ nE (I.ext u.aG) bO rfl λq1 h1=>Lu (⟨x.kind,x.eG,x.name,ge,gf,x.n,x.body,x.ey,x.at_⟩:bE) oY h1 rfl λq2 h2=>aD eN h2 (aM u jA λb5 _ u=>aJ (x:=(⟨x.kind,x.eG,x.name,ge,gf,x.n,x.body,x.ey,x.at_⟩:bE)) u eN rfl rfl λw2 u=>?_))));refine⟨λM w'=>M=.bool (decide (t.fault≠0\/x.kind=2))/\w'=w2,?_,?_⟩
 .exact aE (aA wU (bN bL (ct4.ext u.aG) (bX (aC (λ_=>⟨vb (ew bO).symm,rfl⟩) λ_=>aA dO (aB (v:=hZ x.kind) bL u.hb rfl (aH ⟨vb (ga.2 bO),rfl⟩))))))
 rintro _ w4 ⟨rfl,rfl⟩ _;refine aC (λY=>?_) (λY=>?_)
 .exact⟨vb (by rw[B,ej Y]),u.drop.aG⟩
 rw[ei Y]at B;refine⟨λM w'=>M=.bool (decide (x.kind=3\/x.kind=5\/x.kind=6\/x.kind=7))/\w'=w4,?_,?_⟩
 .refine aA dO (aB (v:=hZ x.kind) bL u.hb rfl ?_);exact aH (aC (λ_=>⟨vb (ew bO).symm,rfl⟩) λ_=>aA dO (aB (v:=hZ x.kind) bL u.hb rfl (aH (aC (λ_=>⟨vb (ew bO).symm,rfl⟩) λ_=>aA dO (aB (v:=hZ x.kind) bL u.hb rfl (aH (aC (λ_=>⟨vb (ew bO).symm,rfl⟩) λ_=>aA dO (aB (v:=hZ x.kind) bL u.hb rfl (aH ⟨vb (ga.2 bO),rfl⟩)))))))))
 rintro _ _ ⟨rfl,rfl⟩ _;refine aC (λc2=>?_) (λc2=>?_)
 .have u:=u.drew;refine aE (aA nF (bN yS (G.ext u.aG) (aE (aA g8 (bN iO (u6.ext u.aG) (aK fU (U.ext u.aG) (aE (aA RI (bN bL (cm6.ext u.aG) (aR ?_))))))))));refine⟨vb ?_,u.drop.aG⟩;rw[B,ej c2,<- decide_not];exact ga.2 bO
 rw[ei c2]at B;refine⟨λM w'=>M=.bool (sX m t)/\Ext w w',?_,?_⟩;rotate_left
 .rintro _ _ h _;exact h
 have u:=u.drew;refine aE (aA nF (bN yS (G.ext u.aG) (aE (aA g8 (bN iO (u6.ext u.aG) (aK fU (U.ext u.aG) (aH (aC (λc3=>?_) λc3=>?_))))))));rotate_left
 .refine⟨vb ?_,u.drop.aG⟩;rw[B];split
  .rfl
  exact(fP bO).symm
 refine aA dO (aB (v:=hZ x.kind) bL u.hb rfl (bX (aC (λZ=>?_) λZ=>?_)))
 .exact⟨vb (by rw[B,ei (λh=>Z h.1),ew bO]),u.drop.aG⟩
 have O:x.kind=9:=uh.1 Z;obtain⟨j,hj,Bj,_⟩:=lY (dK.1 (hx.lk (.inl O)));have Ef:=(kO.1 Bj).1;have how:=W.ow;refine aE (aA vt (bN eh (E.ext u.aG) (aE (aA oU (qm a.pv eg (mW.ext J.b u.aG) rfl (aA gh (aB (v:=.string x.name) gA u.hb rfl (dU Rs u (C125 m.p a.pv _ (J.uk.pr _ (hw _ u.aG)) W.pz) λx82 _ cJ u=>?_))))))));refine⟨aF eh (E.ext u.aG),?_⟩;refine⟨aF gA (u.p1.hb.cell (v:=.string x.name) rfl),?_⟩;refine aV r7 u (C123 _ (cM m.p) x.name _ u.dS bO) (λ_ he u=>?_)
 refine⟨aF eh (E.ext u.aG),?_⟩;obtain⟨ov,ZD⟩:=gx m.eV (i:=(cU (cM m.p) x.name).toNat) bO;refine aQ cS (J.ow.ext u.aG) bO ZD (λq71 h71=>aD bL h71 (aH ?_));refine⟨vb ?_,u.drop.drop.aG⟩;rw[B,oj,ZD];show _=if x.kind=9/\ov≠-1 then false else decide (t.buf.length=0)
 by_cases e:ov = -1
 .rw[ei (λh=>h.2 e),ew e,ew bO]
 rw[ej ⟨O,e⟩,fP e]
def C22(K:hM)(p:Nat)(m:gU)(w:World)(hm:Has (qT K p m) w)(hw:∀w',Ext w w'->K w')(I:oN m):CR 22 [.pointer (some ⟨p,0,none⟩)] w (λv w'=>kV (fV v (gV m)) w w'):=by
 obtain⟨a,B⟩:=qT.rd hm;have U:=B.b.cell (o:=10) rfl;have FU:=B.b.cell (o:=11) rfl;have hlen:=B.len;have Ok:=I.tl;have u:=St.start w;refine eZ Tryz.func22 ?_;refine tM (α:=aS) u fO (λs7 J u=>?_);refine⟨λE o y J=>∃k:Nat,y=hZ (k:Int)/\E=a.ps.length-k/\k<=a.ps.length/\(m.fault≠0->k=0)/\St w aZ [fV o (il m k)] J,⟨_,0,rfl,rfl,l6 _,λ_=>rfl,u⟩,?_⟩;rintro E o _ w2 ⟨k,rfl,rfl,Rp,Y,u⟩ _;refine⟨λjv w'=>jv=.bool (decide (k<a.ps.length/\m.fault=0))/\w'=w2,?_,?_⟩
 .exact aE (aA oV (bN Er (U.ext u.aG) (aK GA (B.ll.ext u.aG) (aR (aC (λ_=>aE (aA yh (bN bL (FU.ext u.aG) (aH ⟨vb (ga.2 bO),rfl⟩)))) λ_=>⟨vb (fP bO).symm,rfl⟩)))))
 rintro _ _ ⟨rfl,rfl⟩ _;refine aC (λc1=>?_) (λc1=>?_);rotate_left
 .have W:gV m=il m k:=by
   unfold gV
   by_cases hf:m.fault=0
   .rw[ei bO,show k=m.l.length from bO]
   .rw[ej hf,Y hf];rfl
  rw[W];exact u.fresh
 obtain⟨c2,c3⟩:=c1;obtain⟨t,ht⟩:=gx m.l (i:=k) bO;obtain⟨e,M⟩:=gx a.ps (i:=((k:Nat):Int).toNat) bO;have Cu:=la ht;have VH:=B.th k e t (by rw[<- qb k];exact M) ht;have Hq:=(I.th t Cu).bl;have nz:=rO I k;have ay5:k*1001<=1001000:=EL 1001 (show k<=1000 by omega);obtain⟨bp,nv,rg,lv,ds,hk,sW,hB,Dm,hlr⟩:=mq.rd VH;have Z:=sW.cell (o:=3) rfl;refine⟨λo w'=>St w aZ [fV o (il m k++(if sX m t=true then [(⟨1,k,0,[]⟩:aS)]else []))] w',?_,?_⟩
 .refine aE (aA oV (bN Er (U.ext u.aG) (aQ GA (B.ll.ext u.aG) bO M λq G=>aD Hh G (aV ayL u (C80 K p m e.b t _ (hm.ext u.aG) (λ_ e=>hw _ (u.aG.then e)) I (VH.ext u.aG) Cu) λ_ MD u=>aY (λV=>?_) λV=>?_))))
  .refine pop (Ct 1 (k:Int)) (have u:=u.fr (Φ:=λw=>ml w (⟨1,(k:Int),0,bW⟩:aI) (⟨1,(k:Int),0,[]⟩:aS)) (λw=>⟨bW,rfl,DL.nil w⟩);gj (x:=(⟨1,(k:Int),0,[]⟩:aS)) (s:=(⟨1,(k:Int),0,bW⟩:aI)) u fO dD λs45 _ u=>gk u.p1 fO (by simp;omega) dD λs46 _ u=>?_);rw[V,ej rfl];exact u
  rw[V,ei dD,pd];exact u
 rintro o2 _ u _;refine aE (aA oV (bN Er (U.ext u.aG) (aQ GA (B.ll.ext u.aG) bO M λq G=>aD Hh G (aE (aA nF (bN yS (Z.ext u.aG) (dU auz u (C81 bp _ _ _ (hB.ext u.aG) bO) λO _ cJ u=>?_)))))));have Fe:=z7 t.buf;refine⟨λE o y J=>∃j:Nat,y=hZ (j:Int)/\E=(pF t.buf).length-j/\j<=(pF t.buf).length/\St w aZ [fV o (il m k++(if sX m t=true then [(⟨1,k,0,[]⟩:aS)]else [])++((pF t.buf).take j).map λi=>(⟨2,k,i,[]⟩:aS)),bH O (pF t.buf)] J,⟨_,0,rfl,rfl,l6 _,by rw[List.take_zero,List.map_nil,pd];exact u.p1⟩,?_⟩
 rintro E o3 _ _ ⟨j,rfl,rfl,hj,u⟩ _;refine aK cS u.p1.dS (aR (aC (λc5=>?_) λc5=>?_))
 .obtain⟨y,hy⟩:=gx (pF t.buf) (i:=((j:Nat):Int).toNat) bO;exact aQ cS u.p1.dS bO hy (λ_ G=>aD bL G (pop (CZ 2 (k:Int) y) (have u:=u.fr (Φ:=λw=>ml w (⟨2,(k:Int),y,bW⟩:aI) (⟨2,(k:Int),y,[]⟩:aS)) (λw=>⟨bW,rfl,DL.nil w⟩);gj (x:=(⟨2,(k:Int),y,[]⟩:aS)) (s:=(⟨2,(k:Int),y,bW⟩:aI)) u fO dD λ_ _ u=>gk u.p1 fO (by simp only[l1,n4,l2,mv];split<;>simp<;>omega) dD λ_ _ u=>aO bO ⟨_,bO,j+1,rfl,rfl,bO,by rw[<- gi (k:=j) hy,<- n5];exact u⟩)))
 rw[ld bO]at u;refine aO bO ?_;refine⟨_,bO,k+1,rfl,rfl,bO,λh=>absurd c3 h,?_⟩;rw[ur ht];unfold rN;rw[<- n5];exact u.p1.drop
def C168(K:hM)(p:Nat)(m:gU)(i kind:Int)(F:Nat->Prop)(w:World)(E:(qT K p m).p w F):CR 168 [.pointer (some ⟨p,0,none⟩),hZ i,hZ kind] w (λv w'=>v=j0 (⟨16,i,kind,0,0⟩:cI)/\mU F (qT K p {m with fault:=kind,jd:=i}) w w'):=by
 have u:=St.begin E;refine eZ Tryz.func168 ?_;obtain⟨a,B,u⟩:=qT.open u;exact aM u mz (λ_ _ u=>have u:=u.enc (cs':=kp (⟨0,0,0,0,0⟩:cI)) rfl;aE (aA yh (aT u.p1 bL (dL rfl) rfl λ_ u=>aE (aA RJ (aT u bL (dL rfl) rfl λ_ u=>pop (tS 16 i kind) (aJ (x:=(⟨16,i,kind,0,0⟩:cI)) u.p1 fo rfl rfl λ_ u=>aD fo u.At ⟨rfl,(qT.shut (m:={m with fault:=kind,jd:=i}) ⟨B.pr,B.rc⟩ u.drop).mut⟩))))))
def C2(K:hM)(p:Nat)(m:gU)(i:Nat)(tp:Ptr):HP:=pM λa:RA=>fact (RSK K a m/\a.ps[i]?=some tp/\a.ps.length=m.l.length/\i<m.l.length) (sep (bY p (pA a m)) (sep (gw a.q m.mem) (sep (bH a.ow m.eV) (sep (bH a.ll a.ps) (nM (N2 K m.room) a.ps m.l i)))))
section
variable {w w' w0:World}{A:Nat->Prop}{R:List HP}{p:Nat}{K:hM}{m:gU}{a:RA}{i:Nat}{tp:Ptr}{t:j1}
theorem C2.open(u:St w0 A (C2 K p m i tp::R) w):∃a,(RSK K a m/\a.ps[i]?=some tp/\a.ps.length=m.l.length/\i<m.l.length)/\St w0 A (bY p (pA a m)::gw a.q m.mem::bH a.ow m.eV::bH a.ll a.ps::nM (N2 K m.room) a.ps m.l i::R) w:=by
 obtain⟨a,u⟩:=u.eo;obtain⟨B,u⟩:=u.mC;exact⟨a,B,sU u⟩
theorem C2.shut(u:RSK K a m/\a.ps[i]?=some tp/\a.ps.length=m.l.length/\i<m.l.length)(B:St w0 A (bY p (pA a m)::gw a.q m.mem::bH a.ow m.eV::bH a.ll a.ps::nM (N2 K m.room) a.ps m.l i::R) w):St w0 A (C2 K p m i tp::R) w:=
 St.ep a (St.oA u (sV B))
theorem aaQ{ps:List Ptr}(u:St w0 A (ic (N2 K m.room) ps m.l::R) w)(B:ps[i]?=some tp)(ht:m.l[i]?=some t):St w0 A (mq K tp.b m.room t::nM (N2 K m.room) ps m.l i::R) w:=u.focus B ht
theorem xV(u:St w0 A (mq K tp.b m.room t::C2 K p m i tp::R) w):St w0 A (qT K p {m with l:=m.l.set i t}::R) w:=by
 obtain⟨a,⟨B,E,G,hi⟩,u⟩:=C2.open u.p1
 have h1:St w0 A (N2 K m.room tp t::nM (N2 K m.room) a.ps m.l i::_) w:=u.p4.p5
 have h2:=h1.DE hi G E
 have h3:=h2.p4.p4.p4.p4
 exact qT.shut (m:={m with l:=m.l.set i t}) ⟨B.pr,B.rc⟩ h3
end
section
variable {m:gU}{t:j1}{i:Int}{x:bQ}
theorem aaR(h:x.kind=2):eb m t i x=(m,pk t x.eG (im m t (dP m x)),xL m t x):=by unfold eb;grind
theorem aaS(h:x.kind=3):eb m t i x=(m,qd m t ⟨3,fz m x,dP m x,(eJ t x.e).1⟩,⟨3,0,dP m x,(eJ t x.e).1,0⟩):=by unfold eb;grind
theorem aaT(h:x.kind=5):eb m t i x=(m,qd m t ⟨5,fz m x,0,0⟩,⟨4,0,fz m x,0,0⟩):=by grind[eb,qd,fz]
theorem aaU(h:x.kind=6):eb m t i x=(m,qd m t ⟨6,fz m x,0,0⟩,⟨5,0,fz m x,0,0⟩):=by grind[eb,qd,fz]
theorem aaV(h:x.kind=7):eb m t i x=(m,qd m t ⟨7,0,0,0⟩,⟨6,0,0,0,0⟩):=by grind[eb,qd]
theorem ale(h:x.kind=8):eb m t i x=(m,t,⟨7,0,0,0,0⟩):=by grind[eb]
theorem alf(h:x.kind=4):eb m t i x=(rP m t x,pk t x.eG (jJ m.mem (dP m x)),tT m t x):=by unfold eb;grind
theorem alg(h:x.kind=9):eb m t i x=(pG m x i,t,⟨10,0,fF m x,0,0⟩):=by grind[eb,pG,fF]
theorem ae6(h:x.kind=10):eb m t i x=(pG m x (-1),t,⟨11,0,fF m x,0,0⟩):=by grind[eb,pG,fF]
theorem aaW{a b:Bk}(h:sX m t=true)(u:t.fault=0)(ht:pj t.cE=some (x,a,b))(B:x.kind=4):t.buf=[]:=by
 unfold sX at h
 grind
theorem aaX{u:Mem}{c e:Int}(B:0<=c)(h:u.l[c.toNat]?=some e):jJ u c=e:=by
 have:=(kO.1 h).1
 unfold jJ
 rw[ej (by unfold GJ;rw[decide_eq_true_eq];omega),oj,h];rfl
end
def C170(K:hM)(sv:Value)(m:gU)(i:Int)(tp:Ptr)(t:j1)(x:bQ)(xv:bE)(F:Nat->Prop)(w:World)(hF:(mq K tp.b m.room t).p w F)(V:∀w',gz F w w'->K w')(O:yv (cT m.p) (cM m.p) t)(J:BQ t)(Z:∀w,K w->ml w xv x)(hx:UC (cT m.p) (cM m.p) t.names x)(hkd:x.kind=3\/x.kind=5\/x.kind=6\/x.kind=7) :
   CR 170 [sv,.pointer (some ⟨tp.b,0,none⟩),j0 xv,hZ (dP m x),hZ (fz m x)] w (λv w'=>v=j0 (eb m t i x).2.2/\mU F (mq K tp.b m.room (eb m t i x).2.1) w w'):=by
 have u:=St.begin hF;obtain⟨U,gf,rfl,_,_⟩:=jh (Z _ (V _ u.aG))
 have Qq:∀w,K w->dA (λ_=>True) w (j0 U) x.e/\dA (λ_=>True) w (j0 gf) x.f:=λw hw=>by
  obtain⟨_,_,h4,h5,h6⟩:=jh (Z w hw);cases h4
  exact⟨h5,h6⟩
 have hxe:=hx.e;have W:=hx.nm;have Zr:=O.nb;have GK:=O.rl;have Hq:=O.bl;refine eZ Tryz.func170 ?_;refine cG (x:=(⟨x.kind,x.eG,x.name,U,gf,x.n,x.body,x.ey,x.at_⟩:bE)) u (λb7 _ u=>aM u mz λb10 _ u=>?_);have u:=(u.enc (cs':=kp (⟨0,0,0,0,0⟩:cI)) rfl).p2;obtain⟨B,nv,rg,Q4,ds,I,u⟩:=mq.open u;refine aA iX (aB (v:=j0 U) jz u.p5.hb rfl (aV NY u (C203 tp.b t Q4 nv rg B _ x.e _ u.hb (I.1 _ (V _ u.aG)) u.p2.dS (Qq _ (V _ u.aG)).1 bO bO W.1 J.r) λ_ he u=>aN rfl (aN rfl (aA dO (aB (v:=hZ x.kind) bL u.p5.hb rfl (aH (aC (λk3=>?_) λk3=>?_)))))))
 .refine aE (aA nF (aB yS u.hb rfl (pop (xJ 3 (fz m x) (dP m x) (eJ t x.e).1) (have u:=u.p1;bF Rz u (H':=λ_=>jk B m.room (sP m.room t.buf (⟨3,fz m x,dP m x,(eJ t x.e).1⟩:bI))) (Φ:=λ_ _=>True) (λG E M=>?_) ?_))))
  .exact(C230 B m.room t.buf (⟨3,fz m x,dP m x,(eJ t x.e).1⟩:bI) G _ E bO).mono λ_ _ r=>r.mono λ_ _ h=>⟨trivial,h.2⟩
  rintro _ _ _ u;refine pop (mO 3 (dP m x) (eJ t x.e).1) (aJ (x:=(⟨3,0,dP m x,(eJ t x.e).1,0⟩:cI)) u.p4 fo rfl rfl λw30' u=>aD (x:=(⟨3,0,dP m x,(eJ t x.e).1,0⟩:cI)) fo u.At ?_);have u:=mq.shut (t:=qd m t (⟨3,fz m x,dP m x,(eJ t x.e).1⟩:bI)) I u.drop.p4.drop.p3.p3.p2.p3;rw[aaS k3];exact⟨rfl,u.mut⟩
 refine aH (aC (λk5=>?_) λk5=>?_)
 .refine aE (aA nF (aB yS u.hb rfl (pop (vJ 5 (fz m x)) (have u:=u.p1;bF Rz u (H':=λ_=>jk B m.room (sP m.room t.buf (⟨5,fz m x,0,0⟩:bI))) (Φ:=λ_ _=>True) (λG E M=>?_) ?_))))
  .exact(C230 B m.room t.buf (⟨5,fz m x,0,0⟩:bI) G _ E bO).mono λ_ _ r=>r.mono λ_ _ h=>⟨trivial,h.2⟩
  rintro _ _ _ u;refine pop (oF 4 (fz m x)) (aJ (x:=(⟨4,0,fz m x,0,0⟩:cI)) u.p4 fo rfl rfl λw50' u=>aD (x:=(⟨4,0,fz m x,0,0⟩:cI)) fo u.At ?_);have u:=mq.shut (t:=qd m t (⟨5,fz m x,0,0⟩:bI)) I u.drop.p4.drop.p3.p3.p2.p3;rw[aaT k5];exact⟨rfl,u.mut⟩
 refine aH (aC (λY=>?_) λY=>?_)
 .refine aE (aA nF (aB yS u.hb rfl (pop (vJ 6 (fz m x)) (have u:=u.p1;bF Rz u (H':=λ_=>jk B m.room (sP m.room t.buf (⟨6,fz m x,0,0⟩:bI))) (Φ:=λ_ _=>True) (λG E M=>?_) ?_))))
  .exact(C230 B m.room t.buf (⟨6,fz m x,0,0⟩:bI) G _ E bO).mono λ_ _ r=>r.mono λ_ _ h=>⟨trivial,h.2⟩
  rintro _ _ _ u;refine pop (oF 5 (fz m x)) (aJ (x:=(⟨5,0,fz m x,0,0⟩:cI)) u.p4 fo rfl rfl λw60' u=>aD (x:=(⟨5,0,fz m x,0,0⟩:cI)) fo u.At ?_);have u:=mq.shut (t:=qd m t (⟨6,fz m x,0,0⟩:bI)) I u.drop.p4.drop.p3.p3.p2.p3;rw[aaU Y];exact⟨rfl,u.mut⟩
 refine aE (aA nF (aB yS u.hb rfl (pop (AM 7) (have u:=u.p1;bF Rz u (H':=λ_=>jk B m.room (sP m.room t.buf (⟨7,0,0,0⟩:bI))) (Φ:=λ_ _=>True) (λG E M=>?_) ?_))))
 .exact(C230 B m.room t.buf (⟨7,0,0,0⟩:bI) G _ E bO).mono λ_ _ r=>r.mono λ_ _ h=>⟨trivial,h.2⟩
 rintro _ _ _ u;refine pop (JU 6) (aJ (x:=(⟨6,0,0,0,0⟩:cI)) u.p4 fo rfl rfl λw70' u=>aD (x:=(⟨6,0,0,0,0⟩:cI)) fo u.At ?_);have u:=mq.shut (t:=qd m t (⟨7,0,0,0⟩:bI)) I u.drop.p4.drop.p3.p3.p2.p3;rw[aaV bO];exact⟨rfl,u.mut⟩
def C169(K:hM)(p:Nat)(m:gU)(i:Int)(n:Nat)(tp:Ptr)(t:j1)(x:bQ)(xv:bE)(F:Nat->Prop)(w:World)(hF:(sep (mq K tp.b m.room t) (C2 K p m n tp)).p w F)(G:∀w',gz F w w'->K w')(kG:yv (cT m.p) (cM m.p) t)(O:BQ t)(Aj:∀w,K w->ml w xv x)(hx:UC (cT m.p) (cM m.p) t.names x)(hmm:wI m.mem)(rB:MB m.mem 1000000)(hkd:x.kind=2\/x.kind=4)(Y:x.kind=4->t.buf=[])(Fe:0<=dP m x/\dP m x<m.mem.l.length) :
   CR 169 [.pointer (some ⟨p,0,none⟩),.pointer (some ⟨tp.b,0,none⟩),j0 xv,hZ (dP m x)] w (λv w'=>v=j0 (eb m t i x).2.2/\mU F (sep (mq K tp.b m.room (eb m t i x).2.1) (C2 K p (eb m t i x).1 n tp)) w w'):=by
 have u:=(St.begin hF).split;obtain⟨ge,gf,rfl,_,_⟩:=jh (Aj _ (G _ u.aG))
 have Qq:∀w,K w->dA (λ_=>True) w (j0 ge) x.e/\dA (λ_=>True) w (j0 gf) x.f:=λw hw=>by
  obtain⟨_,_,h4,h5,h6⟩:=jh (Aj w hw);cases h4
  exact⟨h5,h6⟩
 have hxe:=hx.e;have U:=hx.nm;have Zr:=kG.nb;have GK:=kG.rl;have Hq:=kG.bl;have Dm:=hx.rg bO;obtain⟨c,hc⟩:∃c,c=dP m x:=⟨_,rfl⟩;refine aeT _ _ _ _ _ _ ?_;unfold S169;refine cG (x:=(⟨x.kind,x.eG,x.name,ge,gf,x.n,x.body,x.ey,x.at_⟩:bE)) u (λb6 _ u=>aM u mz λb8 _ u=>?_);have u:=(u.enc (cs':=kp (⟨0,0,0,0,0⟩:cI)) rfl).p2;obtain⟨bp,nv,rg,Q4,ds,hk,u⟩:=mq.open u;refine aA iX (aB (v:=j0 ge) jz u.p5.hb rfl (aV NY u (C203 tp.b t Q4 nv rg bp _ x.e _ u.hb (hk.1 _ (G _ u.aG)) u.p2.dS (Qq _ (G _ u.aG)).1 bO bO U.1 O.r) λ_ J u=>aN rfl (aN rfl (aA j9 (aB (v:=j0 gf) jz u.p5.hb rfl (aV NY u (C203 tp.b t Q4 nv rg bp _ x.f _ u.hb (hk.1 _ (G _ u.aG)) u.p2.dS (Qq _ (G _ u.aG)).2 bO bO U.2 O.r) λ_ J u=>aN rfl (aN rfl (aE (aA nF (aB yS u.hb rfl ?_))))))))))
 refine aV am8 u (C229 bp (dP m x) m.room t.buf _ (DU u.p1) bO) (λw5 J u=>aN rfl (aN rfl ?_));have u:=u.p6;obtain⟨a,I,u⟩:=C2.open u;refine⟨λjv w'=>jv=hZ (im m t (dP m x))/\w'=w5,?_,?_⟩
 .refine bR (aY (λB=>?_) λB=>?_);rotate_left
  .have h1:(lB t.buf (dP m x)).isSome=true:=by simpa using B
   exact⟨gQ (n3 .i64) (by unfold im;rw[ej h1]),rfl⟩
  have h1:(lB t.buf (dP m x)).isSome=false:=by simpa using B
  refine aE (aA tF (aB qt u.hb rfl ?_));obtain⟨ov,fv,lv,kv,wv,ws,j3,tf,hmo,hmf,CM,ash,hmw⟩:=(Ge u.p1.has).ex;refine aE (aA se (bN eh (tf.cell (o:=2) rfl) ?_));obtain⟨e,J⟩:=gx m.mem.l (i:=(dP m x).toNat) bO;exact aQ cS CM Fe.1 J (λ_ hq=>aD bL hq ⟨gQ (n3 .i64) (by unfold im;rw[ei (by rw[h1];decide),aaX Fe.1 J]),rfl⟩)
 rintro _ _ ⟨rfl,rfl⟩ _;refine aA iH (aB (v:=.string x.eG) gA u.p10.hb rfl (have u:=mq.shut (t:=t) hk u.p8.p8.p8.p8;bF ahf u (H':=λ_=>mq K tp.b m.room (pk t x.eG (im m t (dP m x)))) (Φ:=λ_ _=>True) (λW V dX=>?_) ?_))
 .exact(C204 K tp.b m.room t W x.eG _ _ V (λw' hc=>G w' (dX w' hc).aG) Dm GK Zr).mono λ_ _ r=>r.mono λ_ _ h=>⟨trivial,h.2⟩
 rintro _ _ _ u;refine aA dO (aB (v:=hZ x.kind) bL u.p7.hb rfl (aH (aC (λZ=>?_) λZ=>?_)))
 .have M:xL m t x=⟨if (lB t.buf (dP m x)).isSome=true then 2 else 1,0,dP m x,im m t (dP m x),0⟩:=rfl;refine aY (λB=>?_) (λB=>?_)
  .refine pop (mO 2 (dP m x) (im m t (dP m x))) (aJ (x:=(⟨2,0,dP m x,im m t (dP m x),0⟩:cI)) u.p6 fo rfl rfl λw8 u=>aD (x:=(⟨2,0,dP m x,im m t (dP m x),0⟩:cI)) fo u.At ?_);have u:=(C2.shut (m:=m) I u.drop.p6.drop.p5.p5.p5.p5.p5).p1;rw[aaR Z];show j0 _=j0 (xL m t x)/\_;rw[M,ej B];exact⟨rfl,(St.join u).mut⟩
  refine pop (mO 1 (dP m x) (im m t (dP m x))) (aJ (x:=(⟨1,0,dP m x,im m t (dP m x),0⟩:cI)) u.p6 fo rfl rfl λw8 u=>aD (x:=(⟨1,0,dP m x,im m t (dP m x),0⟩:cI)) fo u.At ?_);have u:=(C2.shut (m:=m) I u.drop.p6.drop.p5.p5.p5.p5.p5).p1;rw[aaR Z];show j0 _=j0 (xL m t x)/\_;rw[M,ei (by rw[B];decide)];exact⟨rfl,(St.join u).mut⟩
 have k4:x.kind=4:=bO
 have hld:im m t (dP m x)=jJ m.mem (dP m x):=by unfold im;rw[Y k4];rfl
 rw[hld]at u |-;rw[alf k4];refine bX (aC (λB=>?_) λB=>?_)
 .have E:rP m t x=m:=by unfold rP;rw[ei B]
  have zZ:tT m t x=⟨9,0,dP m x,jJ m.mem (dP m x),0⟩:=by unfold tT;rw[ei B]
  refine pop (mO 9 (dP m x) (jJ m.mem (dP m x))) (aJ (x:=(⟨9,0,dP m x,jJ m.mem (dP m x),0⟩:cI)) u.p6 fo rfl rfl λw8 u=>aD (x:=(⟨9,0,dP m x,jJ m.mem (dP m x),0⟩:cI)) fo u.At ?_);have u:=(C2.shut (m:=m) I u.drop.p6.drop.p5.p5.p5.p5.p5).p1;rw[E,zZ];exact⟨rfl,(St.join u).mut⟩
 have E:rP m t x={m with mem:=fm m.mem (dP m x) (eJ t x.f).1}:=by unfold rP;rw[ej (by simpa using B)]
 have zZ:tT m t x=⟨8,0,dP m x,jJ m.mem (dP m x),(eJ t x.f).1⟩:=by unfold tT;rw[ej (by simpa using B)]
 refine aE (aA tF (aB qt u.p1.hb rfl (have u:=u.p2;bF afH u (H':=λ_=>gw a.q (fm m.mem (dP m x) (eJ t x.f).1)) (Φ:=λ_ _=>True) (λW V dX=>?_) ?_)))
 .exact(C166 a.q m.mem W (dP m x) _ _ V hmm rB).mono λ_ _ r=>r.mono λ_ _ h=>⟨trivial,h.2⟩
 rintro _ _ _ u;refine pop (zn 8 (dP m x) (jJ m.mem (dP m x)) (eJ t x.f).1) (aJ (x:=(⟨8,0,dP m x,jJ m.mem (dP m x),(eJ t x.f).1⟩:cI)) u.p6 fo rfl rfl λ_ u=>aD (x:=(⟨8,0,dP m x,jJ m.mem (dP m x),(eJ t x.f).1⟩:cI)) fo u.At ?_);have u:=C2.shut (m:={m with mem:=fm m.mem (dP m x) (eJ t x.f).1}) (⟨⟨I.1.pr,I.1.rc⟩,I.2⟩) u.drop.p6.drop.p5.p5.p5.p3.p5;have u:=u.p1;rw[E,zZ];exact⟨rfl,(St.join u).mut⟩
def C95(K:hM)(p:Nat)(m:gU)(q:aS)(i k:Int)(Z:q.t=i)(Y:q.i=k)(t:j1)(F:Nat->Prop)(w:World)(hF:(qT K p m).p w F)(V:oN m)(rB:MB m.mem 1000000)(h0:0<=i)(ht:m.l[i.toNat]?=some t) :
   CR 95 [.pointer (some ⟨p,0,none⟩),hZ i,hZ k] w (λv w'=>v=j0 (tB i (dH t.buf k))/\mU F (qT K p (tD m t q)) w w'):=by
 subst Z Y;have u:=St.begin hF;have Cu:=la ht;have kG:=V.th t Cu;have nS:=(kO.1 ht).1;have Hq:=kG.bl;refine oL Tryz.func95 (pl:=P95) ?_;refine aM u mz (λb6 _ u=>?_);have u:=(u.enc (cs':=kp (⟨0,0,0,0,0⟩:cI)) rfl).p1;obtain⟨a,E,u⟩:=qT.open u;have W:=u.p4.iZ;obtain⟨e,G⟩:=gx a.ps (i:=q.t.toNat) bO;refine aE (aA oV (aB Er u.hb rfl (aQ GA u.p3.dS h0 G λq0 hq=>aD Hh hq ?_)));have u:=aaQ u.p4 G ht;obtain⟨bp,nv,rg,Q4,ds,hk,u⟩:=mq.open u;refine aE (aA nF (aB yS u.hb rfl (have u:=u.p1;bF amY u (H':=λ_=>jk bp m.room (jW t.buf q.i)) (Φ:=λv _=>v=.tuple #[j0 (dH t.buf q.i),hZ (xD t.buf q.i)]) (λM I dX=>?_) ?_)))
 .exact C165 bp m.room t.buf q.i M _ I bO
 rintro _ _ rfl u;refine aN rfl (aN rfl (aM u rG λb7 _ u=>aJ (x:=(dH t.buf q.i)) u ix rfl rfl λ_ u=>have u:=(((((mq.shut (t:={t with buf:=jW t.buf q.i}) hk u.p4.p4.p3.p4).p2).p6).p6).p6).p6;have u:=u.p5.p7.p7;aA gK (aB (v:=hZ (dH t.buf q.i).kind) bL u.hb rfl (aH (aC (λc=>?_) λc=>?_)))))
 .have u:=u.drew;refine aE (aA tF (aB qt u.p3.hb rfl (aA mB (aB (v:=hZ (dH t.buf q.i).cell) bL u.hb rfl (aA oZ (aB (v:=hZ (dH t.buf q.i).n) bL u.hb rfl (have u:=u.p4;bF afH u (H':=λ_=>gw a.q (fm m.mem (dH t.buf q.i).cell (dH t.buf q.i).n)) (Φ:=λ_ _=>True) (λM I dX=>?_) ?_)))))))
  .exact(C166 a.q m.mem M _ _ _ I V.mem rB).mono λ_ _ r=>r.mono λ_ _ h=>⟨trivial,h.2⟩
  rintro _ _ _ u;refine aA mB (aB (v:=hZ (dH t.buf q.i).cell) bL u.p1.hb rfl (aA oZ (aB (v:=hZ (dH t.buf q.i).n) bL u.p1.hb rfl (pop (zj 12 q.t (dH t.buf q.i).cell (dH t.buf q.i).n) (aJ (x:=(⟨12,q.t,(dH t.buf q.i).cell,(dH t.buf q.i).n,0⟩:cI)) u.p2 fo rfl rfl λ_ u=>aD (x:=(⟨12,q.t,(dH t.buf q.i).cell,(dH t.buf q.i).n,0⟩:cI)) fo u.At ?_)))));have u:=u.drop.p1.drop;have J:jX m.mem (dH t.buf q.i)=fm m.mem (dH t.buf q.i).cell (dH t.buf q.i).n:=by unfold jX;rw[ej c]
  have B:tB q.t (dH t.buf q.i)=⟨12,q.t,(dH t.buf q.i).cell,(dH t.buf q.i).n,0⟩:=by unfold tB;rw[ej c]
  have u:=C2.shut (m:={m with mem:=fm m.mem (dH t.buf q.i).cell (dH t.buf q.i).n}) (i:=q.t.toNat) (tp:=e) ⟨⟨E.pr,E.rc⟩,G,W,by show q.t.toNat<m.l.length;omega⟩ u.p5.p5.p5.p3.p5;have u:=xV (m:={m with mem:=fm m.mem (dH t.buf q.i).cell (dH t.buf q.i).n}) (tp:=e) (t:={t with buf:=jW t.buf q.i}) u.p1;have U:tD m t q={ {m with mem:=fm m.mem (dH t.buf q.i).cell (dH t.buf q.i).n}with l:=m.l.set q.t.toNat ({t with buf:=jW t.buf q.i})}:=by unfold tD;rw[J]
  rw[U,B];exact⟨rfl,u.mut⟩
 refine aA gK (aB (v:=hZ (dH t.buf q.i).kind) bL u.hb rfl (aH (aC (λO=>?_) λO=>?_)))
 .refine pop (HZ 14 q.t) (aJ (x:=(⟨14,q.t,0,0,0⟩:cI)) u.p1 fo rfl rfl λ_ u=>aD (x:=(⟨14,q.t,0,0,0⟩:cI)) fo u.At ?_);have u:=u.drop.drop;have J:jX m.mem (dH t.buf q.i)=m.mem:=by unfold jX;rw[ei c,ej O]
  have B:tB q.t (dH t.buf q.i)=⟨14,q.t,0,0,0⟩:=by unfold tB;rw[ei c,ej O]
  have u:=C2.shut (m:={m with mem:=m.mem}) (i:=q.t.toNat) (tp:=e) ⟨⟨E.pr,E.rc⟩,G,W,by show q.t.toNat<m.l.length;omega⟩ u.p5.p5.p5.p5.p5;have u:=xV (m:={m with mem:=m.mem}) (tp:=e) (t:={t with buf:=jW t.buf q.i}) u.p1;have U:tD m t q={ {m with mem:=m.mem}with l:=m.l.set q.t.toNat ({t with buf:=jW t.buf q.i})}:=by unfold tD;rw[J]
  rw[U,B];exact⟨rfl,u.mut⟩
 have u:=u.drew;refine aE (aA tF (aB qt u.p3.hb rfl (aA g9 (aB (v:=hZ (dH t.buf q.i).line) bL u.hb rfl (have u:=u.p4;bF amZ u (H':=λ_=>gw a.q (oh m.mem (dH t.buf q.i).line)) (Φ:=λ_ _=>True) (λM I dX=>?_) ?_)))))
 .exact(C167 a.q m.mem M _ _ I V.mem rB).mono λ_ _ r=>r.mono λ_ _ h=>⟨trivial,h.2⟩
 rintro _ _ _ u;refine aA g9 (aB (v:=hZ (dH t.buf q.i).line) bL u.p1.hb rfl (pop (tS 13 q.t (dH t.buf q.i).line) (aJ (x:=(⟨13,q.t,(dH t.buf q.i).line,0,0⟩:cI)) u.p2 fo rfl rfl λ_ u=>aD (x:=(⟨13,q.t,(dH t.buf q.i).line,0,0⟩:cI)) fo u.At ?_)));have u:=u.drop.p1.drop;have J:jX m.mem (dH t.buf q.i)=oh m.mem (dH t.buf q.i).line:=by unfold jX;rw[ei c,ei O]
 have B:tB q.t (dH t.buf q.i)=⟨13,q.t,(dH t.buf q.i).line,0,0⟩:=by unfold tB;rw[ei c,ei O]
 have u:=C2.shut (m:={m with mem:=oh m.mem (dH t.buf q.i).line}) (i:=q.t.toNat) (tp:=e) ⟨⟨E.pr,E.rc⟩,G,W,by show q.t.toNat<m.l.length;omega⟩ u.p5.p5.p5.p3.p5;have u:=xV (m:={m with mem:=oh m.mem (dH t.buf q.i).line}) (tp:=e) (t:={t with buf:=jW t.buf q.i}) u.p1;have U:tD m t q={ {m with mem:=oh m.mem (dH t.buf q.i).line}with l:=m.l.set q.t.toNat ({t with buf:=jW t.buf q.i})}:=by unfold tD;rw[J]
 rw[U,B];exact⟨rfl,u.mut⟩
def asi:PL 60:=dJ Tryz.func60
def C96(K:hM)(p:Nat)(m:gU)(i:Int)(t:j1)(F:Nat->Prop)(w:World)(hF:(qT K p m).p w F)(U:∀w',gz F w w'->K w')(G:oN m)(hvo:Kg m)(rB:MB m.mem 1000000)(h0:0<=i)(ht:m.l[i.toNat]?=some t)(uw:sX m t=true)(Dt:m.mem.dW=eW m.p) :
   CR 96 [.pointer (some ⟨p,0,none⟩),hZ i] w (λv w'=>v=j0 (iz m i).2/\mU F (qT K p (iz m i).1) w w'):=by
 have u:=St.begin hF;have Cu:=la ht;have kG:=G.th t Cu;have Y:=hvo.th t Cu;have nS:=(kO.1 ht).1;have Zr:=kG.nb;have how:=G.ow;have ajM:(cM m.p).length<=500:=by unfold cM;rw[n4];exact G.pz.eK
 have ay6:(cT m.p).length<=250500:=mK G.pz.toPS;have CM:m.mem.l.length=(cT m.p).length:=by rw[G.mem.ll,Dt];unfold eW cT;rw[n4,n4]
 have arN:=kG.cl;have hfc:=Ga t.cE;refine akS _ _ _ _ ?_;unfold S96;refine aM u mz (λb4 _ u=>?_);have u:=(u.enc (cs':=kp (⟨0,0,0,0,0⟩:cI)) rfl).p1;obtain⟨a,hu,u⟩:=qT.open u;have pJ:=u.p4.iZ;refine aE (aA oV (aB Er u.hb rfl ?_));obtain⟨e,he⟩:=gx a.ps (i:=i.toNat) bO;refine aQ GA u.p3.dS h0 he (λq hq=>aD Hh hq ?_);have u:=aaQ u.p4 he ht;obtain⟨bp,nv,rg,Q4,ds,hk,u⟩:=mq.open u;have EU:=hk.2.1.1;refine aE (aA wU (aB bL u.hb rfl (bX (aC (λc=>?_) λc=>?_))))
 .have hse:iz m i=({m with fault:=t.fault,jd:=i},⟨16,i,t.fault,0,0⟩):=by unfold iz;rw[ht];dsimp only;rw[ej c]
  refine aE (aA wU (aB bL u.hb rfl ?_));have u:=St.DE (H:=N2 K m.room) (x:=t) (((mq.shut (t:=t) hk u.p3.p3.p3.p3).p1).p1) bO pJ he;rw[m6 ht]at u;have u:=qT.shut (m:=m) hu u.p4.p4.p4.p4;refine bF ahh u (H':=λ_=>qT K p {m with fault:=t.fault,jd:=i}) (Φ:=λv _=>v=j0 (⟨16,i,t.fault,0,0⟩:cI)) (λE B J=>?_) ?_
  .exact C168 K p m i t.fault E _ B
  rintro _ _ rfl u;refine aJ (x:=(⟨16,i,t.fault,0,0⟩:cI)) u.p1 fo rfl rfl (λ_ u=>aD (x:=(⟨16,i,t.fault,0,0⟩:cI)) fo u.At ?_);rw[hse];exact⟨rfl,u.drop.mut⟩
 have hf0:t.fault=0:=bO
 obtain⟨x,xa,xb,Cs⟩:=NR uw;obtain⟨en,ud⟩:=BC Cs;have Q5:(wq (gE t.cE)).length<=100000:=by rw[ud,o1]at hfc;omega
 have xq:=hk.2.1;rw[ud]at xq;obtain⟨d0,qh,rfl,zh,hds⟩:=xq.head;obtain⟨dx,db,de,dn⟩:=d0;obtain⟨M,O,rfl,_,_⟩:=jh (zh.x _ (U _ u.aG));have Aj:∀w,K w->ml w (⟨x.kind,x.eG,x.name,M,O,x.n,x.body,x.ey,x.at_⟩:bE) x:=zh.x;obtain⟨⟨Rp,hk3⟩,hv1,hv2⟩:=G.st t Cu hf0 _ _ _ Cs;obtain⟨hx,_,_,_,_,_,_,_,r,en',p',BL,sr,ar⟩:=kG.top Cs;refine aE (aA kR (aB uJ u.hb rfl (aQ nE u.p3.eF bO rfl λq1 h1=>Lu (⟨x.kind,x.eG,x.name,M,O,x.n,x.body,x.ey,x.at_⟩:bE) oY h1 rfl λq2 h2=>aD eN h2 (pop JT (have u:=mq.shut (t:=t) hk u.p3.p3.p3.p3;aM u jA λb6 _ u=>aM u mz λb7 _ u=>aJ (x:=(⟨x.kind,x.eG,x.name,M,O,x.n,x.body,x.ey,x.at_⟩:bE)) u.p1 eN rfl rfl λ_ u=>aJ (x:=(⟨0,0,0,0,0⟩:cI)) u.p1 fo rfl rfl λ_ u=>have u:=u.drew;aE (aA oU ?_))))))
 refine qm a.pv eg u.p4.hb rfl (aA gh (aB (v:=.string x.name) gA u.p1.hb rfl (aE (aA oU (qm a.pv eg u.p4.hb rfl (aA gh (aB (v:=.string x.name) gA u.p1.hb rfl (dU KM u (C124 m.p a.pv _ (hu.pr _ (U _ u.aG)) G.pz) λx41 _ cJ u=>?_))))))));refine⟨aF gA (u.p2.hb.cell (v:=.string x.name) rfl),?_⟩;refine⟨jB a.pv eg u.p5.hb rfl,?_⟩;refine⟨aF gA (u.p2.hb.cell (v:=.string x.name) rfl),?_⟩;refine aV r7 u (C123 _ (cT m.p) x.name _ u.dS bO) (λ_ MD u=>?_);refine⟨jB a.pv eg u.p5.hb rfl,?_⟩;refine⟨aF gA (u.p2.hb.cell (v:=.string x.name) rfl),?_⟩
 refine dU Rs u (C125 m.p a.pv _ (hu.pr _ (U _ u.aG)) G.pz) (λx49 _ cJ u=>?_);refine⟨aF gA (u.p3.hb.cell (v:=.string x.name) rfl),?_⟩;refine aV r7 u (C123 _ (cM m.p) x.name _ u.dS bO) (λw11 MD u=>?_);have u:=C2.shut (m:=m) (i:=i.toNat) (tp:=e) ⟨hu,he,pJ,bO⟩ u.drop.drop.p3.p7.p7.p7.p7;have u:=u.p3.p4.p4.p4;have N4:iz m i=(if x.kind=10/\m.eV.getD (fF m x).toNat 0≠i then({m with fault:=3,jd:=i},⟨16,i,3,0,0⟩)else({ (eb m t i x).1 with l:=m.l.set i.toNat (uu m t i x)},{ (eb m t i x).2.2 with t:=i})):=by unfold iz;rw[ht];dsimp only;rw[ei bO,Cs]
 refine⟨λw'=>¬ (x.kind=10/\m.eV.getD (fF m x).toNat 0≠i)/\St w F [bY b7 (kp ((eb m t i x).2.2)),bY b6 (kp (⟨x.kind,x.eG,x.name,M,O,x.n,x.body,x.ey,x.at_⟩:bE)),bY b4 (kp (⟨0,0,0,0,0⟩:cI)),mq K e.b m.room (eb m t i x).2.1,C2 K p (eb m t i x).1 i.toNat e] w',?_,?_⟩
 .refine aA dO (aB (v:=hZ x.kind) bL u.p1.hb rfl ?_);refine⟨λjv w'=>jv=.bool (decide (x.kind=2\/x.kind=4))/\w'=w11,?_,?_⟩
  .exact aH (aC (λc=>⟨vb (by rw[ew c,ew (Or.inl c)]),rfl⟩) λ_=>aH ⟨vb (ga.2 bO),rfl⟩)
  rintro _ _ ⟨rfl,rfl⟩ tu;refine aC (λk24=>?_) (λk24=>?_)
  .have mT:¬ (x.kind=10/\m.eV.getD (fF m x).toNat 0≠i):=bO
   obtain⟨jc,hjc,ay7,_⟩:=lY (dK.1 (hx.cl bO));have hjcl:=(kO.1 ay7).1;have hcc:dP m x=(jc:Int):=hjc;refine aD (x:=(⟨x.kind,x.eG,x.name,M,O,x.n,x.body,x.ey,x.at_⟩:bE)) eN u.p1.At (have u:=St.join u.p4.p4;bF ar3 u (H':=λ_=>sep (mq K e.b m.room (eb m t i x).2.1) (C2 K p (eb m t i x).1 i.toNat e)) (Φ:=λv _=>v=j0 (eb m t i x).2.2) (λE B J=>?_) ?_)
   .exact C169 K p m i i.toNat e t x (⟨x.kind,x.eG,x.name,M,O,x.n,x.body,x.ey,x.at_⟩:bE) E _ B (λw' hc=>U w' (J w' hc).aG) kG Y Aj hx G.mem rB k24 (λh=>aaW uw hf0 Cs h) bO
   rintro _ _ rfl u;have u:=u.split;exact aJ (x:=((eb m t i x).2.2:cI)) u.p2 fo rfl rfl (λ_ u=>have u:=u.p2.p2.p4.p4.p4;⟨mT,u⟩)
  refine aH (aC (λk8=>?_) λk8=>?_)
  .have mT:¬ (x.kind=10/\m.eV.getD (fF m x).toNat 0≠i):=bO
   refine aA acv (aT u bL (dL rfl) rfl λ_ u=>?_);have u:=(((((u.enc (cs':=kp (⟨7,0,0,0,0⟩:cI)) rfl).p4).p4).p4).p4).p4;rw[ale k8];exact⟨mT,u⟩
  refine aH (aC (λk9=>?_) λk9=>?_)
  .have mT:¬ (x.kind=10/\m.eV.getD (fF m x).toNat 0≠i):=bO
   have Z:x.kind=9\/x.kind=10:=bO
   obtain⟨j,hj,Bj,_⟩:=lY (dK.1 (hx.lk Z));have Ef:=(kO.1 Bj).1;have hjk:fF m x=(j:Int):=hj;have u:=u.p4;obtain⟨a,I,u⟩:=C2.open u;refine aE (aA vt (aB eh u.hb rfl (dR u.p2 cS (show 0<=fF m x by omega) (show fF m x<_ by omega) λ_ ay8=>jw (i:Int) u.p2 bL ay8 bO λ_ u=>pop (oF 10 (fF m x)) (have u:=C2.shut (m:=pG m x i) (⟨⟨I.1.pr,I.1.rc⟩,I.2⟩) u.p4.p4.p2.p4.p4;aJ (x:=(⟨10,0,fF m x,0,0⟩:cI)) u.p1 fo rfl rfl λ_ u=>?_))));have u:=u.p1.p4.p4.p4.p4;rw[alg k9];exact⟨mT,u⟩
  refine aH (aC (λV=>?_) λV=>?_)
  .have Z:x.kind=9\/x.kind=10:=bO
   obtain⟨j,hj,Bj,_⟩:=lY (dK.1 (hx.lk Z));have Ef:=(kO.1 Bj).1;have hjk:fF m x=(j:Int):=hj;have u:=u.p4;obtain⟨a,I,u⟩:=C2.open u;have VL:=u.p2.dS;obtain⟨ov,ZD⟩:=gx m.eV (i:=(fF m x).toNat) bO;have hgd:m.eV.getD (fF m x).toNat 0=ov:=by rw[oj,ZD];rfl
   refine aE (aA vt (aB eh u.hb rfl (aQ cS VL (show 0<=fF m x by omega) ZD λq69 h69=>aD bL h69 (bX (aC (λc72=>?_) λc72=>?_)))))
   .have u:=u.p4;have u:=xV ((C2.shut (m:=m) I u.p4.p4.p4.p4).p4);rw[m6 ht]at u;refine bF ahh u (H':=λ_=>qT K p {m with fault:=3,jd:=i}) (Φ:=λv _=>v=j0 (⟨16,i,3,0,0⟩:cI)) (λE B J=>?_) ?_
    .exact C168 K p m i 3 E _ B
    rintro _ _ rfl u;refine aJ (x:=(⟨16,i,3,0,0⟩:cI)) u.p3 fo rfl rfl (λ_ u=>aD (x:=(⟨16,i,3,0,0⟩:cI)) fo u.At ?_);have u:=u.drop.p1.drop.p1.drop;rw[N4,ej ⟨V,by rw[hgd];exact c72⟩];exact⟨rfl,u.mut⟩
   refine aE (aA vt (aB eh u.hb rfl (dR u.p2 cS (show 0<=fF m x by omega) (show fF m x<_ by omega) λ_ ali=>jw (-1:Int) u.p2 bL ali bO λ_ u=>pop (oF 11 (fF m x)) (have u:=C2.shut (m:=pG m x (-1)) (⟨⟨I.1.pr,I.1.rc⟩,I.2⟩) u.p4.p4.p2.p4.p4;aJ (x:=(⟨11,0,fF m x,0,0⟩:cI)) u.p1 fo rfl rfl λ_ u=>?_))));have u:=u.p1.p4.p4.p4.p4;rw[ae6 V];exact⟨by rw[hgd];exactλh=>c72 h.2,u⟩
  have mT:¬ (x.kind=10/\m.eV.getD (fF m x).toNat 0≠i):=bO
  have u:=u.drew;refine aD (x:=(⟨x.kind,x.eG,x.name,M,O,x.n,x.body,x.ey,x.at_⟩:bE)) eN u.p1.At ?_;have u:=u.p4;obtain⟨a,I,u⟩:=C2.open u;refine aE (aA oU (qm a.pv eg u.hb rfl (aV asi u (C60 m.p a.pv (dP m x) _ (I.1.pr _ (U _ u.aG)) G.pz) λ_ MD u=>?_)));refine⟨eA (x:=(⟨x.kind,x.eG,x.name,M,O,x.n,x.body,x.ey,x.at_⟩:bE)) eN u.p6.At,?_⟩;have u:=(C2.shut (m:=m) I u.p4.p4.p4.p4.p4).p4
  have ha1:(eb m t i x).1=m:=by
   rcases(show x.kind=3\/x.kind=5\/x.kind=6\/x.kind=7 by omega)with h|h|h|h
   .rw[aaS h]
   .rw[aaT h]
   .rw[aaU h]
   .rw[aaV h]
  refine bF ar2 u (H':=λ_=>mq K e.b m.room (eb m t i x).2.1) (Φ:=λv _=>v=j0 (eb m t i x).2.2) (λE B J=>?_) ?_
  .exact C170 K _ m i e t x (⟨x.kind,x.eG,x.name,M,O,x.n,x.body,x.ey,x.at_⟩:bE) E _ B (λw' hc=>U w' (J w' hc).aG) kG Y Aj hx bO
  rintro _ _ rfl u;refine aJ (x:=((eb m t i x).2.2:cI)) u.p2 fo rfl rfl (λ_ u=>?_);have u:=u.p2.p2.p4.p4.p4;rw[ha1];exact⟨mT,u⟩
 rintro _ ⟨aa0,u⟩ tu;have yQ:=Cz (m:=m) (t:=t) (i:=i) (x:=x);have alj:sT (UC (cT m.p) (cM m.p) t.names) (eb m t i x).2.1:=J8 kG G.rm.2
 have aa1:yv (cT m.p) (cM m.p) { (eb m t i x).2.1 with cE:=gE (eb m t i x).2.1.cE}:=by
  show sT (UC _ _ (eb m t i x).2.1.names) _;rw[vQ];exact J9 alj
 have asl:=(aat (i:=i) (x:=x) hvo.mem Y).1;have azb:BQ { (eb m t i x).2.1 with cE:=gE (eb m t i x).2.1.cE}:=⟨asl.r,asl.b⟩;have W:=CA (m:=m) (t:=t) (i:=i) (x:=x);refine aA RK (aT u bL (dL rfl) rfl λ_ u=>have u:=(u.enc (cs':=kp ({ (eb m t i x).2.2 with t:=i}:cI)) rfl).p3;bF Iu u (H':=λ_=>mq K e.b m.room { (eb m t i x).2.1 with cE:=gE (eb m t i x).2.1.cE}) (Φ:=λ_ _=>True) (λE B J=>?_) ?_)
 .exact(C171 K e.b m.room (eb m t i x).2.1 E (.slice none 0 0) [] [] (wq (gE t.cE)) _ (gE (eb m t i x).2.1.cE) _ B (λw' hc=>U w' (J w' hc).aG) (λ_ _=>dA.nil _ _) lu.nil (by rw[W];exact ud) (by rw[W];rfl) (by rw[W];exact hk.2.2.pop) (l6 _) Q5).mono λ_ _ r=>r.mono λ_ _ h=>⟨trivial,h.2⟩
 rintro _ _ _ u;refine bF ahg u (H':=λ_=>mq K e.b m.room (uu m t i x)) (Φ:=λ_ _=>True) (λE B J=>?_) ?_
 .exact(C129 K e.b m.room { (eb m t i x).2.1 with cE:=gE (eb m t i x).2.1.cE} (uu m t i x) _ _ _ E _ B (λw' hc=>U w' (J w' hc).aG) aa1 azb (qP aa1).1).mono λ_ _ r=>r.mono λ_ _ h=>⟨trivial,h.2⟩
 rintro _ _ _ u;refine aD (x:=({ (eb m t i x).2.2 with t:=i}:cI)) fo u.p1.At (aJ (x:=({ (eb m t i x).2.2 with t:=i}:cI)) u.p3 fo rfl rfl λ_ u=>aD (x:=({ (eb m t i x).2.2 with t:=i}:cI)) fo u.At ?_);have u:=u.drop.p1.drop.p1.drop.p1.p1;rw[<- yQ]at u;have u:=xV u;rw[aai]at u;rw[N4,ei aa0];exact⟨rfl,u.mut⟩
def C91(K:hM)(p:Nat)(m:gU)(i:Int)(t:j1)(F:Nat->Prop)(w:World)(hF:(gu K p m).p w F)(U:∀w',gz F w w'->K w')(Z:oN m)(rB:MB m.mem 1000000)(h0:0<=i)(ht:m.l[i.toNat]?=some t)(azc:t.fault=0->∃x a b,pj t.cE=some (x,a,b)) :
   CR 91 [.pointer (some ⟨p,0,none⟩),hZ i] w (λv w'=>v=j0 (iz m i).2/\mU F (gu K p (iz m i).1) w w'):=by
 have u:=St.begin hF;have Cu:=la ht;have V:=Z.th t Cu;have nS:=(kO.1 ht).1;have nz:=DV V.p;have Fe:=V.cl;have Hq:=V.bl;have Zr:=V.nb;have GK:=V.rl;have how:=Z.ow;have ajM:(cM m.p).length<=500:=by unfold cM;rw[n4];exact Z.pz.eK
 have ay6:(cT m.p).length<=250500:=mK Z.pz.toPS;refine ajD _ _ _ _ ?_;unfold S91;refine aM u mz (λb4 _ u=>?_);have u:=(u.enc (cs':=kp (⟨0,0,0,0,0⟩:cI)) rfl).p1;obtain⟨a,hu,u⟩:=gu.open u;have pJ:=u.p4.iZ;refine aE (aA vw (aB I4 u.hb rfl ?_));obtain⟨e,he⟩:=gx a.ps (i:=i.toNat) bO;refine aQ Lg u.p3.dS h0 he (λq hq=>aD Hi hq ?_);have u:=ZB u.p4 he ht;obtain⟨O,nv,rg,pl,es,Y,u⟩:=eR.open u;refine aE (aA wV (aB bL u.hb rfl (bX (aC (λc=>?_) λc=>?_))))
 .have hse:iz m i=({m with fault:=t.fault,jd:=i},⟨16,i,t.fault,0,0⟩):=by unfold iz;rw[ht];dsimp only;rw[ej c]
  refine aE (aA wV (aB bL u.hb rfl ?_));have u:=eR.shut (Φ:=λ_=>True) (t:=t) Y u.p4.p4.p4.p4.p4;have u:=St.DE (H:=yI K m.room) (x:=t) u.p1.p1 bO pJ he;rw[m6 ht]at u;have u:=gu.shut (m:=m) hu u.p4.p4.p4.p4;refine bF ag5 u (H':=λ_=>gu K p {m with fault:=t.fault,jd:=i}) (Φ:=λv _=>v=j0 (⟨16,i,t.fault,0,0⟩:cI)) (λE B I=>?_) ?_
  .exact C158 K p m i t.fault E _ B
  rintro _ _ rfl u;refine aJ (x:=(⟨16,i,t.fault,0,0⟩:cI)) u.p1 fo rfl rfl (λ_ u=>aD fo u.At ?_);rw[hse];exact⟨rfl,u.drop.mut⟩
 have hf0:t.fault=0:=bO
 refine dM Zp (C137 K e.b t O nv rg pl es _ _ u.hb u.p3.dS u.p4.eF.1 (λ_ e=>U _ (u.aG.then e)) V.p bO) ?_;rintro v _ ⟨hex,hv⟩;have u:=u.ext hex
 rcases hv with⟨eH,_⟩|⟨x,xa,xb,xv,av,bv,ra,rb,Cs,rfl,Aj,_⟩
 .obtain⟨_,_,_,h⟩:=azc hf0;rw[eH]at h;cases h
 obtain⟨ge,gf,rfl,_,_⟩:=jh (Aj _ (U _ u.aG))
 have Qq:∀w,K w->dA (λ_=>True) w (j0 ge) x.e/\dA (λ_=>True) w (j0 gf) x.f:=λw hw=>by
  obtain⟨_,_,h4,h5,h6⟩:=jh (Aj w hw);cases h4
  exact⟨h5,h6⟩
 obtain⟨⟨Rp,xq⟩,hv1,hv2⟩:=Z.st t Cu hf0 _ _ _ Cs;obtain⟨hx,_,_,_,_,_,_,_,r,en,p',BL,sr,ar⟩:=V.top Cs;have iV:(Bk.cons x xa xb r).str:=V.p.st _ (by rw[BL];exact o6 ..);have hxe:=hx.e;have ht1:{t with fault:=if (eJ t x.e).2=true then t.fault else 2}=t:=by rw[hv1];rfl
 refine aN rfl (aN rfl (aN rfl (aN rfl (have u:=eR.shut (Φ:=λ_=>True) (t:=t) Y u.p4.p4.p4.p4.p4;aM u jA λb6 _ u=>aJ (x:=(⟨x.kind,x.eG,x.name,ge,gf,x.n,x.body,x.ey,x.at_⟩:bE)) u eN rfl rfl λ_ u=>have u:=u.drew;aE (aA I5 (aB jj u.p3.hb rfl (aA gh (aB (v:=.string x.name) gA u.hb rfl (aE (aA I6 ?_))))))))));refine aB jj u.p3.hb rfl (aA gh (aB (v:=.string x.name) gA u.hb rfl (aV HD u (C159 _ (cT m.p) x.name _ (hu.cs _ (U _ u.aG)) bO) λ_ MD u=>?_)));refine⟨aF jj (u.p3.hb.cell rfl),?_⟩
 refine⟨aF gA (u.hb.cell rfl),?_⟩;refine aV HD u (C159 _ (cM m.p) x.name _ (hu.ks _ (U _ u.aG)) bO) (λ_ MD u=>aE (aA DC (qm a.pv eg u.p3.hb rfl (aV aqc u (C52 m.p a.pv _ _ (hu.pr _ (U _ u.aG)) Z.pz) λ_ MD u=>aM u mz λb13 _ u=>?_))));have u:=m9.shut (m:=m) (⟨hu,he,pJ,bO⟩) ((((((u.enc (cs':=kp (⟨0,0,0,0,0⟩:cI)) rfl).p3).p7).p7).p7).p7);obtain⟨c,hc⟩:∃c,c=dP m x:=⟨_,rfl⟩;obtain⟨lk,hlk⟩:∃lk,lk=fF m x:=⟨_,rfl⟩;obtain⟨ln,GF⟩:∃ln,ln=fz m x:=⟨_,rfl⟩;have u:=u.p3.p4.p4.p4;have N4:iz m i=(if x.kind=10/\m.eV.getD (fF m x).toNat 0≠i then({m with fault:=3,jd:=i},⟨16,i,3,0,0⟩)else({ (eb m t i x).1 with l:=m.l.set i.toNat (uu m t i x)},{ (eb m t i x).2.2 with t:=i})):=by unfold iz;rw[ht];dsimp only;rw[ei bO,Cs]
 refine⟨λw'=>¬ (x.kind=10/\m.eV.getD (fF m x).toNat 0≠i)/\St w F [bY b13 (kp ((eb m t i x).2.2)),bY b6 (kp (⟨x.kind,x.eG,x.name,ge,gf,x.n,x.body,x.ey,x.at_⟩:bE)),bY b4 (kp (⟨0,0,0,0,0⟩:cI)),rM K e.b m.room (eb m t i x).2.1,m9 K p (eb m t i x).1 i.toNat e] w',?_,?_⟩
 .refine aA dO (aB (v:=hZ x.kind) bL u.p1.hb rfl (aH (aC (λW=>?_) λW=>?_)))
  .have G:(eb m t i x)=(m,pk t x.eG (im m t (dP m x)),xL m t x):=by unfold eb;rw[ej W]
   have J:¬ (x.kind=10/\m.eV.getD (fF m x).toNat 0≠i):=bO
   refine aD eN u.p1.At (have u:=St.join u.p4.p4;bF aq3 u (H':=λ_=>sep (rM K e.b m.room (pk t x.eG (im m t (dP m x)))) (m9 K p m i.toNat e)) (Φ:=λv _=>v=j0 (xL m t x)) (λE B I=>?_) ?_)
   .exact C160 K p m i.toNat e t x ⟨x.kind,x.eG,x.name,ge,gf,x.n,x.body,x.ey,x.at_⟩ E (dP m x) _ B (λw' hc=>U w' (I w' hc).aG) V Z.mem Aj (hx.rg bO)
   rintro _ _ rfl u;have u:=u.split;refine aJ (x:=(xL m t x:cI)) u.p2 fo rfl rfl (λ_ u=>?_);have u:=u.p2.p2.p4.p4.p4;rw[G];exact⟨J,u⟩
  refine aH (aC (λk3=>?_) λk3=>?_)
  .have G:(eb m t i x)=(m,qd m t ⟨3,fz m x,dP m x,(eJ t x.e).1⟩,⟨3,0,dP m x,(eJ t x.e).1,0⟩):=by unfold eb;rw[ei W,ej k3]
   have J:¬ (x.kind=10/\m.eV.getD (fF m x).toNat 0≠i):=bO
   refine aA iX (aB (v:=j0 ge) jz u.p1.hb rfl (have u:=u.p3;bF M8 u (H':=λ_=>rM K e.b m.room t) (Φ:=λv _=>v=.tuple #[hZ (eJ t x.e).1,.bool (eJ t x.e).2]) (λE B I=>?_) ?_))
   .have:=C161 K _ e.b m.room t E _ x.e _ B (λw' hc=>U w' (I w' hc).aG) (Qq _ (U _ u.aG)).1 bO bO;rw[ht1]at this;exact this
   rintro _ _ rfl u;refine aN rfl (aN rfl ?_);obtain⟨O,nv,rg,pl,es,Y,u⟩:=eR.open u;refine aE (aA oW (aB AD u.hb rfl (pop (xJ 3 (fz m x) (dP m x) (eJ t x.e).1) (have u:=u.p1;bF Rv u (H':=λ_=>jk O m.room (sP m.room t.buf (⟨3,fz m x,dP m x,(eJ t x.e).1⟩:bI))) (Φ:=λ_ _=>True) (λE B I=>?_) ?_))))
   .exact(C162 O m.room t.buf (⟨3,fz m x,dP m x,(eJ t x.e).1⟩:bI) E _ B bO).mono λ_ _ r=>r.mono λ_ _ h=>⟨trivial,h.2⟩
   rintro _ _ _ u;refine pop (mO 3 (dP m x) (eJ t x.e).1) (have u:=eR.shut (Φ:=λ_=>True) (t:=qd m t (⟨3,fz m x,dP m x,(eJ t x.e).1⟩:bI)) Y u.p4.p4.p4.p3.p4;aJ (x:=(⟨3,0,dP m x,(eJ t x.e).1,0⟩:cI)) u.p1 fo rfl rfl λw14' u=>?_);have u:=u.p4.p2.p4.p4.p4;rw[G];exact⟨J,u⟩
  refine aH (aC (λk5=>?_) λk5=>?_)
  .have G:(eb m t i x)=(m,qd m t ⟨5,fz m x,0,0⟩,⟨4,0,fz m x,0,0⟩):=by unfold eb;rw[ei W,ei k3,ej k5]
   have J:¬ (x.kind=10/\m.eV.getD (fF m x).toNat 0≠i):=bO
   have u:=u.p3;obtain⟨O,nv,rg,pl,es,Y,u⟩:=eR.open u;refine aE (aA oW (aB AD u.hb rfl (pop (vJ 5 (fz m x)) (have u:=u.p1;bF Rv u (H':=λ_=>jk O m.room (sP m.room t.buf (⟨5,fz m x,0,0⟩:bI))) (Φ:=λ_ _=>True) (λE B I=>?_) ?_))))
   .exact(C162 O m.room t.buf (⟨5,fz m x,0,0⟩:bI) E _ B bO).mono λ_ _ r=>r.mono λ_ _ h=>⟨trivial,h.2⟩
   rintro _ _ _ u;refine pop (oF 4 (fz m x)) (have u:=eR.shut (Φ:=λ_=>True) (t:=qd m t (⟨5,fz m x,0,0⟩:bI)) Y u.p4.p4.p4.p3.p4;aJ (x:=(⟨4,0,fz m x,0,0⟩:cI)) u.p1 fo rfl rfl λw16' u=>?_);have u:=u.p4.p2.p4.p4.p4;rw[G];exact⟨J,u⟩
  refine aH (aC (λk6=>?_) λk6=>?_)
  .have G:(eb m t i x)=(m,qd m t ⟨6,fz m x,0,0⟩,⟨5,0,fz m x,0,0⟩):=by unfold eb;rw[ei W,ei k3,ei k5,ej k6]
   have J:¬ (x.kind=10/\m.eV.getD (fF m x).toNat 0≠i):=bO
   have u:=u.p3;obtain⟨O,nv,rg,pl,es,Y,u⟩:=eR.open u;refine aE (aA oW (aB AD u.hb rfl (pop (vJ 6 (fz m x)) (have u:=u.p1;bF Rv u (H':=λ_=>jk O m.room (sP m.room t.buf (⟨6,fz m x,0,0⟩:bI))) (Φ:=λ_ _=>True) (λE B I=>?_) ?_))))
   .exact(C162 O m.room t.buf (⟨6,fz m x,0,0⟩:bI) E _ B bO).mono λ_ _ r=>r.mono λ_ _ h=>⟨trivial,h.2⟩
   rintro _ _ _ u;refine pop (oF 5 (fz m x)) (have u:=eR.shut (Φ:=λ_=>True) (t:=qd m t (⟨6,fz m x,0,0⟩:bI)) Y u.p4.p4.p4.p3.p4;aJ (x:=(⟨5,0,fz m x,0,0⟩:cI)) u.p1 fo rfl rfl λw18' u=>?_);have u:=u.p4.p2.p4.p4.p4;rw[G];exact⟨J,u⟩
  refine aH (aC (λk7=>?_) λk7=>?_)
  .have G:(eb m t i x)=(m,qd m t ⟨7,0,0,0⟩,⟨6,0,0,0,0⟩):=by unfold eb;rw[ei W,ei k3,ei k5,ei k6,ej k7]
   have J:¬ (x.kind=10/\m.eV.getD (fF m x).toNat 0≠i):=bO
   have u:=u.p3;obtain⟨O,nv,rg,pl,es,Y,u⟩:=eR.open u;refine aE (aA oW (aB AD u.hb rfl (pop (AM 7) (have u:=u.p1;bF Rv u (H':=λ_=>jk O m.room (sP m.room t.buf (⟨7,0,0,0⟩:bI))) (Φ:=λ_ _=>True) (λE B I=>?_) ?_))))
   .exact(C162 O m.room t.buf (⟨7,0,0,0⟩:bI) E _ B bO).mono λ_ _ r=>r.mono λ_ _ h=>⟨trivial,h.2⟩
   rintro _ _ _ u;refine pop (JU 6) (have u:=eR.shut (Φ:=λ_=>True) (t:=qd m t (⟨7,0,0,0⟩:bI)) Y u.p4.p4.p4.p3.p4;aJ (x:=(⟨6,0,0,0,0⟩:cI)) u.p1 fo rfl rfl λw20' u=>?_);have u:=u.p4.p2.p4.p4.p4;rw[G];exact⟨J,u⟩
  refine aH (aC (λk8=>?_) λk8=>?_)
  .have G:(eb m t i x)=(m,t,⟨7,0,0,0,0⟩):=by unfold eb;rw[ei W,ei k3,ei k5,ei k6,ei k7,ej k8]
   have J:¬ (x.kind=10/\m.eV.getD (fF m x).toNat 0≠i):=bO
   refine pop (JU 7) (aJ (x:=(⟨7,0,0,0,0⟩:cI)) u fo rfl rfl λ_ u=>?_);have u:=u.p4.p4.p4.p4.p4;rw[G];exact⟨J,u⟩
  refine aH (aC (λk4=>?_) λk4=>?_)
  .have G:(eb m t i x)=(rP m t x,pk t x.eG (jJ m.mem (dP m x)),tT m t x):=by unfold eb;rw[ei W,ei k3,ei k5,ei k6,ei k7,ei k8,ej k4]
   have J:¬ (x.kind=10/\m.eV.getD (fF m x).toNat 0≠i):=bO
   refine aD eN u.p1.At (have u:=St.join u.p4.p4;bF aq4 u (H':=λ_=>sep (rM K e.b m.room (pk t x.eG (jJ m.mem (dP m x)))) (m9 K p (rP m t x) i.toNat e)) (Φ:=λv _=>v=j0 (tT m t x)) (λE B I=>?_) ?_)
   .exact C163 K p m i.toNat e t x ⟨x.kind,x.eG,x.name,ge,gf,x.n,x.body,x.ey,x.at_⟩ E _ B (λw' hc=>U w' (I w' hc).aG) V Z.mem Aj (hx.rg bO) rB hxe hv1 hv2
   rintro _ _ rfl u;have u:=u.split;refine aJ (x:=(tT m t x:cI)) u.p2 fo rfl rfl (λ_ u=>?_);have u:=u.p2.p2.p4.p4.p4;rw[G];exact⟨J,u⟩
  have aaZ:x.kind=9\/x.kind=10:=bO
  obtain⟨j,hj,Bj,_⟩:=lY (dK.1 (hx.lk aaZ));have Ef:=(kO.1 Bj).1;have hjk:fF m x=(j:Int):=hj;refine aH (aC (λk9=>?_) λk9=>?_)
  .have G:(eb m t i x)=(pG m x i,t,⟨10,0,fF m x,0,0⟩):=by unfold eb;rw[ei W,ei k3,ei k5,ei k6,ei k7,ei k8,ei k4,ej k9]
   have J:¬ (x.kind=10/\m.eV.getD (fF m x).toNat 0≠i):=bO
   have u:=u.p4;obtain⟨a,M,u⟩:=m9.open u;refine aE (aA vv (aB eh u.hb rfl (dR u.p2 cS (show 0<=fF m x by omega) (show fF m x<_ by omega) λ_ asm=>jw (i:Int) u.p2 bL asm bO λ_ u=>pop (oF 10 (fF m x)) (have u:=m9.shut (m:=pG m x i) (⟨⟨M.1.pr,M.1.cs,M.1.ks,M.1.mem,M.1.rc⟩,M.2⟩) u.p4.p4.p2.p4.p4;aJ (x:=(⟨10,0,fF m x,0,0⟩:cI)) u.p1 fo rfl rfl λ_ u=>?_))));have u:=u.p1.p4.p4.p4.p4;rw[G];exact⟨J,u⟩
  have G:(eb m t i x)=(pG m x (-1),t,⟨11,0,fF m x,0,0⟩):=by unfold eb;rw[ei W,ei k3,ei k5,ei k6,ei k7,ei k8,ei k4,ei k9]
  have u:=u.p4;obtain⟨a,M,u⟩:=m9.open u;have VL:=u.p2.dS;obtain⟨ov,ZD⟩:=gx m.eV (i:=(fF m x).toNat) bO;have hgd:m.eV.getD (fF m x).toNat 0=ov:=by rw[oj,ZD];rfl
  refine aE (aA vv (aB eh u.hb rfl (aQ cS VL (show 0<=fF m x by omega) ZD λq69 h69=>aD bL h69 (bX (aC (λc72=>?_) λc72=>?_)))))
  .have u:=u.p4;have u:=xK ((m9.shut (m:=m) M u.p4.p4.p4.p4).p4);rw[m6 ht]at u;refine bF ag5 u (H':=λ_=>gu K p {m with fault:=3,jd:=i}) (Φ:=λv _=>v=j0 (⟨16,i,3,0,0⟩:cI)) (λE B I=>?_) ?_
   .exact C158 K p m i 3 E _ B
   rintro _ _ rfl u;refine aJ (x:=(⟨16,i,3,0,0⟩:cI)) u.p3 fo rfl rfl (λ_ u=>aD fo u.At ?_);have u:=u.drop.p1.drop.p1.drop;rw[N4,ej ⟨bO,by rw[hgd];exact c72⟩];exact⟨rfl,u.mut⟩
  refine aE (aA vv (aB eh u.hb rfl (dR u.p2 cS (show 0<=fF m x by omega) (show fF m x<_ by omega) λ_ ali=>jw (-1:Int) u.p2 bL ali bO λ_ u=>pop (oF 11 (fF m x)) (have u:=m9.shut (m:=pG m x (-1)) (⟨⟨M.1.pr,M.1.cs,M.1.ks,M.1.mem,M.1.rc⟩,M.2⟩) u.p4.p4.p2.p4.p4;aJ (x:=(⟨11,0,fF m x,0,0⟩:cI)) u.p1 fo rfl rfl λ_ u=>?_))));have u:=u.p1.p4.p4.p4.p4;rw[G];exact⟨by rw[hgd];exactλh=>c72 h.2,u⟩
 rintro _ ⟨aa0,u⟩ _;have azd:(eb m t i x).2.1.cE=(.cons x xa xb r,en)::p':=by rw[CA];exact BL
 have yQ:=Cz (m:=m) (t:=t) (i:=i) (x:=x);have alj:sT (UC (cT m.p) (cM m.p) t.names) (eb m t i x).2.1:=J8 V Z.rm.2
 have aa1:yv (cT m.p) (cM m.p) { (eb m t i x).2.1 with cE:=gE (eb m t i x).2.1.cE}:=by
  show sT (UC _ _ (eb m t i x).2.1.names) _;rw[vQ];exact J9 alj
 refine aA RK (aT u bL (dL rfl) rfl λ_ u=>have u:=(u.enc (cs':=kp ({ (eb m t i x).2.2 with t:=i}:cI)) rfl).p3;bF M7 u (H':=λ_=>rM K e.b m.room { (eb m t i x).2.1 with cE:=gE (eb m t i x).2.1.cE}) (Φ:=λ_ _=>True) (λE B I=>?_) ?_)
 .exact(C164 K _ e.b m.room (eb m t i x).2.1 E x xa xb r en p' _ B (λw' hc=>U w' (I w' hc).aG) azd iV (by rw[CA];omega)).mono λ_ _ r=>r.mono λ_ _ h=>⟨trivial,h.2⟩
 rintro _ _ _ u;refine bF ag1 u (H':=λ_=>rM K e.b m.room (uu m t i x)) (Φ:=λ_ _=>True) (λE B I=>?_) ?_
 .exact(C117 K e.b m.room { (eb m t i x).2.1 with cE:=gE (eb m t i x).2.1.cE} (uu m t i x) _ _ _ E _ B (λw' hc=>U w' (I w' hc).aG) aa1 (qP aa1).1).mono λ_ _ r=>r.mono λ_ _ h=>⟨trivial,h.2⟩
 rintro _ _ _ u;refine aD (x:=({ (eb m t i x).2.2 with t:=i}:cI)) fo u.p1.At (aJ (x:=({ (eb m t i x).2.2 with t:=i}:cI)) u.p3 fo rfl rfl λ_ u=>aD fo u.At ?_);have u:=u.drop.p1.drop.p1.drop.p1.p1;rw[<- yQ]at u;have u:=xK u;rw[aai]at u;rw[N4,ei aa0];exact⟨rfl,u.mut⟩
def C90(K:hM)(p:Nat)(m:gU)(q:aS)(Z:SV)(t:j1)(F:Nat->Prop)(w:World)(hF:(gu K p m).p w F)(hK:∀w',gz F w w'->K w')(iL:oN m)(rB:MB m.mem 1000000)(h0:0<=q.t)(ht:m.l[q.t.toNat]?=some t) :
   CR 90 [.pointer (some ⟨p,0,none⟩),j0 (⟨q.kind,q.t,q.i,Z⟩:aI)] w (λv w'=>v=j0 (tB q.t (dH t.buf q.i))/\mU F (gu K p (tD m t q)) w w'):=by
 have u:=St.begin hF;have Cu:=la ht;have kG:=iL.th t Cu;have nS:=(kO.1 ht).1;have Hq:=kG.bl;refine oL Tryz.func90 (pl:=P90) ?_;refine cG (x:=(⟨q.kind,q.t,q.i,Z⟩:aI)) u (λb3 _ u=>aM u mz λb4 _ u=>?_);have u:=(u.enc (cs':=kp (⟨0,0,0,0,0⟩:cI)) rfl).p2;obtain⟨a,hu,u⟩:=gu.open u;have pJ:=u.p4.iZ;obtain⟨e,M⟩:=gx a.ps (i:=q.t.toNat) bO;refine⟨λx5 w'=>∃I,x5=.pointer (some ⟨I,0,none⟩)/\St w F [bY I (kp (dH t.buf q.i)),bY b4 (kp (⟨0,0,0,0,0⟩:cI)),bY b3 (kp (⟨q.kind,q.t,q.i,Z⟩:aI)),rM K e.b m.room ({t with buf:=jW t.buf q.i}),m9 K p m q.t.toNat e] w',?_,?_⟩
 .have u:=u.drew;refine aE (aA vw (aB I4 u.hb rfl (aA lG (aB (v:=hZ q.t) bL u.p6.hb rfl (dR u.p3 Lg h0 (by have:=pJ;omega) λq14 Xk=>gP u.p3 Hi Xk M ?_)))));have u:=ZB u.p4 M ht;obtain⟨Y,nv,rg,pl,es,hk,u⟩:=eR.open u;refine aE (aA oW (aB AD u.hb rfl (aA qj (aB (v:=hZ q.i) bL u.p11.hb rfl ⟨?_,?_,trivial⟩))))
  .have u:=u.p1;refine bF afF u (H':=λ_=>jk Y m.room (jW t.buf q.i)) (Φ:=λv _=>v=.tuple #[j0 (dH t.buf q.i),hZ (xD t.buf q.i)]) (λJ G U=>?_) ?_
   .exact C155 Y m.room t.buf q.i J _ G bO
   rintro _ _ rfl u;refine aN rfl (aN rfl (aM u rG λI _ u=>?_));refine⟨aF I4 (u.p7.hb.cell rfl),?_⟩;refine⟨aF bL (u.p12.hb.cell (v:=hZ q.t) rfl),?_⟩;refine⟨RU u.p10 Hi Xk M,?_⟩;refine⟨aF AD (u.p2.hb.cell rfl),?_⟩;refine⟨aF bL (u.p12.hb.cell (v:=hZ q.i) rfl),?_⟩;exact aJ (x:=(dH t.buf q.i)) u ix rfl rfl (λ_ u=>have u:=eR.shut (Φ:=λ_=>True) (t:={t with buf:=jW t.buf q.i}) hk u.p5.p5.p5.p4.p5;have u:=m9.shut (m:=m) ⟨hu,M,pJ,bO⟩ u.p2.p6.p6.p6.p6;have u:=u.p1.p4.p4.p4;⟨I,rfl,u⟩)
  refine aM u rG (λI _ u=>?_);refine⟨aF I4 (u.p7.hb.cell rfl),?_⟩;refine⟨aF bL (u.p12.hb.cell (v:=hZ q.t) rfl),?_⟩;refine⟨RU u.p10 Hi Xk M,?_⟩;refine⟨aF AD (u.p1.hb.cell rfl),?_⟩;refine⟨aF bL (u.p12.hb.cell (v:=hZ q.i) rfl),?_⟩;have u:=u.p2;refine bF afF u (H':=λ_=>jk Y m.room (jW t.buf q.i)) (Φ:=λv _=>v=.tuple #[j0 (dH t.buf q.i),hZ (xD t.buf q.i)]) (λJ G U=>?_) ?_
  .exact C155 Y m.room t.buf q.i J _ G bO
  rintro _ _ rfl u;exact aN rfl (aN rfl (aJ (x:=(dH t.buf q.i)) u.p1 ix rfl rfl λ_ u=>have u:=eR.shut (Φ:=λ_=>True) (t:={t with buf:=jW t.buf q.i}) hk u.p5.p5.p5.p4.p5;have u:=m9.shut (m:=m) ⟨hu,M,pJ,bO⟩ u.p2.p6.p6.p6.p6;have u:=u.p1.p4.p4.p4;⟨I,rfl,u⟩))
 rintro _ _ ⟨I,rfl,u⟩ _;refine aA gK (aB (v:=hZ (dH t.buf q.i).kind) bL u.hb rfl (aH (aC (λc=>?_) λc=>?_)))
 .have u:=u.p4;obtain⟨a,B,u⟩:=m9.open u;have u:=u.drew;refine aE (aA tG (aB Lf u.hb rfl (aA mB (aB (v:=hZ (dH t.buf q.i).cell) bL u.p5.hb rfl (aA oZ (aB (v:=hZ (dH t.buf q.i).n) bL u.p5.hb rfl (have u:=u.p1;bF afG u (H':=λ_=>iN a.q a.ov a.fv (fm m.mem (dH t.buf q.i).cell (dH t.buf q.i).n)) (Φ:=λ_ _=>True) (λJ G U=>?_) ?_)))))))
  .exact(C156 a.q a.ov a.fv m.mem J _ _ _ G (λw' hc=>B.1.mem _ (hK w' (U w' hc).aG)) iL.mem rB).mono λ_ _ r=>r.mono λ_ _ h=>⟨trivial,h.2⟩
  rintro _ _ _ u;refine aA lG (aB (v:=hZ q.t) bL u.p7.hb rfl (aA mB (aB (v:=hZ (dH t.buf q.i).cell) bL u.p5.hb rfl (aA oZ (aB (v:=hZ (dH t.buf q.i).n) bL u.p5.hb rfl (pop (zj 12 q.t (dH t.buf q.i).cell (dH t.buf q.i).n) (aJ (x:=(⟨12,q.t,(dH t.buf q.i).cell,(dH t.buf q.i).n,0⟩:cI)) u.p6 fo rfl rfl λ_ u=>aD fo u.At ?_)))))));have O:jX m.mem (dH t.buf q.i)=fm m.mem (dH t.buf q.i).cell (dH t.buf q.i).n:=by unfold jX;rw[ej c]
  have E:tB q.t (dH t.buf q.i)=⟨12,q.t,(dH t.buf q.i).cell,(dH t.buf q.i).n,0⟩:=by unfold tB;rw[ej c]
  have u:=m9.shut (m:={m with mem:=fm m.mem (dH t.buf q.i).cell (dH t.buf q.i).n}) ⟨⟨B.1.pr,B.1.cs,B.1.ks,λw hw=>(B.1.mem w hw).write,B.1.rc⟩,B.2⟩ u.drop.p6.drop.p5.drop.p4.p4.p4.p3.p4;have u:=xK (m:={m with mem:=fm m.mem (dH t.buf q.i).cell (dH t.buf q.i).n}) (tp:=e) (t:={t with buf:=jW t.buf q.i}) u.p1;have W:tD m t q={ {m with mem:=fm m.mem (dH t.buf q.i).cell (dH t.buf q.i).n}with l:=m.l.set q.t.toNat ({t with buf:=jW t.buf q.i})}:=by unfold tD;rw[O]
  rw[W,E];exact⟨rfl,u.mut⟩
 refine aH (aC (λV=>?_) λV=>?_)
 .refine aA lG (aB (v:=hZ q.t) bL u.p2.hb rfl (pop (HZ 14 q.t) (aJ (x:=(⟨14,q.t,0,0,0⟩:cI)) u.p1 fo rfl rfl λ_ u=>aD fo u.At ?_)));have u:=u.p4;obtain⟨a,B,u⟩:=m9.open u;have O:jX m.mem (dH t.buf q.i)=m.mem:=by unfold jX;rw[ei c,ej V]
  have E:tB q.t (dH t.buf q.i)=⟨14,q.t,0,0,0⟩:=by unfold tB;rw[ei c,ej V]
  have u:=m9.shut (m:={m with mem:=m.mem}) B u.p5.drop.p6.drop.p5.drop.p4.p4.p4.p4.p4;have u:=xK (m:={m with mem:=m.mem}) (tp:=e) (t:={t with buf:=jW t.buf q.i}) u.p1;have W:tD m t q={ {m with mem:=m.mem}with l:=m.l.set q.t.toNat ({t with buf:=jW t.buf q.i})}:=by unfold tD;rw[O]
  rw[W,E];exact⟨rfl,u.mut⟩
 have u:=u.p4;obtain⟨a,B,u⟩:=m9.open u;have u:=u.drew;refine aE (aA tG (aB Lf u.hb rfl (aA g9 (aB (v:=hZ (dH t.buf q.i).line) bL u.p5.hb rfl (have u:=u.p1;bF amX u (H':=λ_=>iN a.q a.ov a.fv (oh m.mem (dH t.buf q.i).line)) (Φ:=λ_ _=>True) (λJ G U=>?_) ?_)))))
 .exact(C157 a.q a.ov a.fv m.mem J _ _ G (λw' hc=>B.1.mem _ (hK w' (U w' hc).aG)) iL.mem rB).mono λ_ _ r=>r.mono λ_ _ h=>⟨trivial,h.2⟩
 rintro _ _ _ u;refine aA lG (aB (v:=hZ q.t) bL u.p7.hb rfl (aA g9 (aB (v:=hZ (dH t.buf q.i).line) bL u.p5.hb rfl (pop (tS 13 q.t (dH t.buf q.i).line) (aJ (x:=(⟨13,q.t,(dH t.buf q.i).line,0,0⟩:cI)) u.p6 fo rfl rfl λ_ u=>aD fo u.At ?_)))));have O:jX m.mem (dH t.buf q.i)=oh m.mem (dH t.buf q.i).line:=by unfold jX;rw[ei c,ei V]
 have E:tB q.t (dH t.buf q.i)=⟨13,q.t,(dH t.buf q.i).line,0,0⟩:=by unfold tB;rw[ei c,ei V]
 have u:=m9.shut (m:={m with mem:=oh m.mem (dH t.buf q.i).line}) ⟨⟨B.1.pr,B.1.cs,B.1.ks,λw hw=>(B.1.mem w hw).out,B.1.rc⟩,B.2⟩ u.drop.p6.drop.p5.drop.p4.p4.p4.p3.p4;have u:=xK (m:={m with mem:=oh m.mem (dH t.buf q.i).line}) (tp:=e) (t:={t with buf:=jW t.buf q.i}) u.p1;have W:tD m t q={ {m with mem:=oh m.mem (dH t.buf q.i).line}with l:=m.l.set q.t.toNat ({t with buf:=jW t.buf q.i})}:=by unfold tD;rw[O]
 rw[W,E];exact⟨rfl,u.mut⟩
def C56(K:hM)(p:Nat)(m:gU)(qZ:List cO)(lv:Value)(J:List cH)(F:Nat->Prop)(w:World)(hF:(gu K p m).p w F)(V:∀w',gz F w w'->K w')(hrm:1<=m.room/\m.room<=16)(hlk:(cM m.p).length<=1000)(hl:∀w',gz F w w'->dA (λ_=>True) w' lv J)(O:Dl K J qZ)
   (kG:∀t∈qZ,yv (cT m.p) (cM m.p) (wE t)/\t.body=(H6 t.body).flat) (hn:qZ.length<=1000) :
   CR 56 [.pointer (some ⟨p,0,none⟩),lv] w (λv w'=>v=.tuple #[]/\mU F (gu K p (q8 m qZ)) w w'):=by
 have u:=St.begin hF;have Ok:=O.1;refine oL Tryz.func56 (pl:=P56) ?_;obtain⟨a,I,u⟩:=gu.open u;have pJ:=u.p4.iZ;refine aE (aA vw (aT u I4 (dL rfl) rfl λ_ u=>aE (aA vv (aT u eh (dL rfl) rfl λ_ u=>aE (aA I6 (aB jj u.hb rfl (aK iD (I.ks _ (V _ u.aG)) ?_)))))));have u:=(((u.p2.drop.p2.drop.p2.drop.eM (α:=Int)).p2).p1).p2;refine⟨λM x w'=>∃(k:Nat) (ov:Value),x=hZ (k:Int)/\M=(cM m.p).length-k/\k<=(cM m.p).length/\St w F [bY p (q7 {a with ow:=ov,ll:=.slice none 0 0} m),bH ov (sk k (-1:Int)),iN a.q a.ov a.fv m.mem] w',⟨_,0,_,rfl,rfl,l6 _,u⟩,?_⟩
 rintro M _ _ ⟨k,ov,rfl,rfl,Rp,u⟩ _;refine aR (aC (λc=>?_) λc=>?_)
 .refine aE (aA vv (aB eh u.hb rfl (bD ([-1]:List Int) u cS rfl rfl (dL rfl) λs27 _ u=>?_)));have alm:=u.dS;exact bJ u.p2 cS alm (by rw[EI,mv];omega) dD (λs28 _ u=>have u:=u.p1.drop;aE (aA vv (aT u.p1 eh (dL rfl) u.dS.one λ_ u=>aO bO ⟨_,bO,k+1,s28,rfl,rfl,bO,by rw[WZ];exact u⟩)))
 refine aK fx (hl _ u.aG) ?_;rw[show k=(cM m.p).length from bO]at u;have u:=((((((u.AR (H:=yI K m.room)).eM (α:=Ptr)).p4).p4).p3).p3).p4;refine⟨λM x w'=>∃(j:Nat) (B:Value) (ps:List Ptr),x=hZ (j:Int)/\M=J.length-j/\j<=J.length/\St w F [bY p (q7 {a with ow:=ov,ll:=B} m),bH B ps,ic (yI K m.room) ps ((qZ.take j).map UG),bH ov (sk (cM m.p).length (-1:Int)),iN a.q a.ov a.fv m.mem] w',⟨_,0,_,_,rfl,rfl,l6 _,u⟩,?_⟩;rintro M _ _ ⟨j,B,ps,rfl,rfl,hj1,u⟩ _;refine aR (aC (λc2=>?_) λc2=>?_);rotate_left
 .rw[ld bO]at u;have u:=u.p2.p2.p3.p4.p4;exact⟨rfl,(gu.shut (m:=q8 m qZ) (a:={a with ow:=ov,ll:=B,ps:=ps}) ⟨I.pr,I.cs,I.ks,I.mem,I.rc⟩ u).mut⟩
 obtain⟨tv,Q6⟩:=gx J (i:=((j:Nat):Int).toNat) bO;obtain⟨t,ht⟩:=gx qZ (i:=j) bO;obtain⟨E,gb,rows,rfl,U,hgb⟩:=O.2 j _ _ Q6 ht;obtain⟨N5,hbk⟩:=kG t (la ht);have GK:t.dQ.length<=1000:=N5.nb;refine aQ fx (hl _ u.aG) bO Q6 (λq36 h36=>aD nc h36 (aM u tJ λb5 _ u=>aJ (x:=(⟨t.name,E,gb,t.at_⟩:cH)) u nc rfl rfl λ_ u=>aE (aA acx (aB bL u.p1.hb rfl (dM amG (C49 m.room _) ?_)))));rintro v43 _ hh;obtain⟨_,_,b43,rfl,cJ⟩:=hh.resolve_left (λ_=>bO);have u:=u.made cJ;refine aN rfl (aN rfl (have u:=u.drew;aA fT (aB (v:=j0 E) jj u.p1.hb rfl (aA fT (aB (v:=j0 E) jj u.p1.hb rfl (aK iD (U _ (V _ u.aG)) (wR (0:Int) u cS uG bO bO dD λs52 _ u=>?_)))))))
 rw[qb]at u;refine⟨aF jj (u.p2.hb.cell (v:=j0 E) rfl),?_⟩;obtain⟨Y,rfl⟩:=u.fK;refine pop (JW (some ⟨b43,0,none⟩) E.a E.n E.cap Y.a Y.n Y.cap) (nB u λG _ u=>have u:=(u.eM (α:=xH)).fr (Φ:=λw=>DX K w [] []/\True) (λ_=>⟨trivial,trivial⟩);have u:=eR.shut (Φ:=λ_=>True) (t:=(⟨t.dQ,sk t.dQ.length 0,[],0,[]⟩:j1)) (es:=[]) U u.p1.p3.p4.p4;aA lL (aB (v:=j0 gb) jR u.p1.hb rfl (bF M6 u (H':=λ_=>rM K G m.room (wE t)) (Φ:=λ_ _=>True) (λZ W dX=>?_) ?_)))
 .exact(C116 K _ G m.room ⟨t.dQ,sk t.dQ.length 0,[],0,[]⟩ Z gb rows (H6 t.body) false _ W (λw' hc=>V w' (dX w' hc).aG) (λw _=>by rw[<- hbk];exact hgb w) (show(0:Nat)<=100000 by decide)).mono λ_ _ r=>r.mono λ_ _ h=>⟨trivial,h.2⟩
 rintro _ _ _ u;refine bF ag1 u (H':=λ_=>rM K G m.room (UG t)) (Φ:=λ_ _=>True) (λZ W dX=>?_) ?_
 .exact(C117 K G m.room (wE t) (UG t) _ _ _ Z _ W (λw' hc=>V w' (dX w' hc).aG) N5 (qP N5).1).mono λ_ _ r=>r.mono λ_ _ h=>⟨trivial,h.2⟩
 rintro _ _ _ u;refine aE (aA vw ?_);have nz:=u.p4.iZ;rw[n4,l2]at nz;refine aB I4 u.p2.hb rfl (bD ([(⟨G⟩:Ptr)]) u Lg rfl rfl (dL rfl) λs67 _ u=>?_);have aa3:=u.dS;exact bJ u.p4 Lg aa3 (by simp;omega) dD (λs68 _ u=>have u:=u.p1.drop;aE (aA vw (aT u.p3 I4 (dL rfl) u.dS.one λ_ u=>have u:=(((St.EE (H:=yI K m.room) (p:=⟨G⟩) (x:=UG t) u.p3.drop.p2.p3).p4).p4).p2;have u:=u.p4.p4;aO bO ⟨_,bO,j+1,s68,ps++[⟨G⟩],rfl,rfl,bO,by rw[<- gi (k:=j) ht];exact u⟩)))
def ThK.mono{K K2:hM}{E:cH}{t:cO}(h:ThK K E t)(B:∀w,K2 w->K w):ThK K2 E t:=by
 obtain⟨G,I,rows,e,h1,h2⟩:=h
 exact⟨G,I,rows,e,λw u=>h1 w (B w u),λw=>⟨λw' u=>(h2 w).1 w' (B w' u),λu=>(h2 w).2 (B w u)⟩⟩
def Dl.mono{K K2:hM}{u:List cH}{qZ:List cO}(h:Dl K u qZ)(B:∀w,K2 w->K w):Dl K2 u qZ:=⟨h.1,λj E t h1 h2=>(h.2 j E t h1 h2).mono B⟩
def D7{p:cB}(hc:GQ p){t:cO}(ht:t∈gp p):t.body=(H6 t.body).flat:=by
 obtain⟨_,h2,_⟩:=hc.f.qZ ht
 obtain⟨_,_,b,h5,h6,_⟩:=lz h2
 rw[h5,NQ h6]
def BH(K:hM)(lv:SV)(qZ:List cO):Prop:=∃u,(∀w,K w->dA (λ_=>True) w (j0 lv) u)/\Dl K u qZ
structure IB(K:hM)(pv:bP)(p:cB):Prop where
 pr:∀w,K w->ml w pv p
 th:BH K pv.threads p.threads
 rc:BH K pv.recover p.recover
def crD(m:gU)(q:aS):gU:=match iT m q with|some u=>{m with mem:=mM m.mem u}|none=>m
def D8(m:Mem)(cut:List Int)(v:Value)(B:Mem):Prop:=(fC m cut=none/\B=m/\v=hZ 1)\/∃u,fC m cut=some u/\B=mM m u/\v=hZ 0
def Q7{m:Mem}{cut:List Int}{v:Value}{p:Nat}{ov fv:Value}{F:Nat->Prop}{w w':World}
  (h:(fC m cut=none/\v=hZ 1/\mU F (iN p ov fv m) w w')\/∃u,fC m cut=some u/\v=hZ 0/\mU F (iN p ov fv (mM m u)) w w') :
  True/\mU F (pM λE=>fact (D8 m cut v E) (iN p ov fv E)) w w':=by
 refine⟨trivial,?_⟩
 rcases h with⟨h1,h2,B,h3,h4,h5⟩|⟨u,h1,h2,B,h3,h4,h5⟩
 .exact⟨B,⟨m,.inl ⟨h1,rfl,h2⟩,h3⟩,h4,h5⟩
 exact⟨B,⟨mM m u,.inr ⟨u,h1,rfl,h2⟩,h3⟩,h4,h5⟩
theorem aho(K:hM):Dl K [(⟨⟨#[]⟩,bW,bW,0⟩:cH)] [⟨⟨#[]⟩,[],[],0⟩]:=by
 refine⟨rfl,λj u t h1 h2=>?_⟩
 cases j with
 | zero=>
  cases h1;cases h2
  exact⟨bW,bW,[],rfl,λw _=>dA.nil _ w,λw=>⟨λ_ _=>gy.nil,λ_=>dA.nil _ w⟩⟩
 | succ j=>simp at h1
def azf:PL 89:=dJ Tryz.func89
def C12(K:hM)(p:cB)(pv:bP)(room:Int)(w:World)(J:∀w',Ext w w'->K w')(I:IB K pv p)(M:PZ p):CR 12 [j0 pv,hZ room] w (λv w'=>(fk p≠0/\v=.tuple #[.pointer none,hZ (fk p)]/\Ext w w')\/(fk p=0/\(room<1\/16<room)/\v=.tuple #[.pointer none,hZ 1]/\Ext w w')\/
  (fk p=0/\(1<=room/\room<=16)/\∃(b:Nat) (X:hM),v=.tuple #[.pointer (some ⟨b,0,none⟩),hZ 0]/\kV (sep (gu (λw=>K w/\X w) b (iw p room)) (eF X)) w w')):=by
 have u:=St.start w;refine ajH _ _ _ _ ?_;unfold S12;refine cG (x:=pv) u (λbp w1 u=>aD eg u.At (dM axl (C48 p pv _ (I.pr _ (J _ u.aG)) M) ?_));rintro _ _ ⟨aa,rfl,W⟩;have u:=u.ext W;refine aN rfl (aN rfl (bX (aC (λc=>?_) λc=>?_)))
 .exact .inl ⟨c,rfl,u.drop.aG⟩
 have zZ:fk p=0:=bO
 have Z:=vR zZ;have MT:=aam Z;have Fe:=Bz p;refine dM amG (C49 room _) ?_;rintro v3 _ hh
 rcases hh with⟨hrb,rfl,W⟩|⟨BW,Dz,b3,rfl,V⟩
 .have u:=u.ext W;exact aN rfl (aN rfl (bX (ke dD (.inr (.inl ⟨zZ,hrb,rfl,u.drop.aG⟩)))))
 have u:=(u.made V).drop;refine aN rfl (aN rfl (bX (fJ dD (have u:=u.drew;aD eg u.At (aD eg u.At (aD eg u.At (dU awX u (C50 p pv _ (I.pr _ (J _ u.aG)) M) λx31 _ V u=>?_)))))));refine⟨eA eg u.p1.At,?_⟩;refine⟨eA eg u.p1.At,?_⟩;refine dU awY u (C51 p pv _ (I.pr _ (J _ u.aG)) M) (λx33 _ V u=>?_);refine⟨eA eg u.p2.At,?_⟩;obtain⟨G,rfl⟩:=u.fK;obtain⟨E,rfl⟩:=u.p1.fK;refine pop (GL _ _ _ _ _ _ _ _ _ _ _ _ _ _ _ _ _ _ _ _ _ _ _ _ _) (nB u λB w6 u=>aE (aA I5 (aB jj u.hb rfl (aK iD u.p2.dS ?_))))
 have u:=u.eM (α:=Int);have VB:St w aZ [bH (.slice none 0 0) ([]:List Int),bY B (q7 ⟨pv,E,G,0,.slice none 0 0,.slice none 0 0,.slice none 0 0,.slice none 0 0,[]⟩ (xM p room) |>.set 9 (.pointer none)),bH (j0 G) (cM p),bH (j0 E) (cT p),bY bp (kp pv)] w6:=u;refine⟨λmm o y w1=>∃k:Nat,y=hZ (k:Int)/\mm=(cT p).length-k/\k<=(cT p).length/\St w aZ [bH o ((Bq p).take k),bY B (q7 ⟨pv,E,G,0,.slice none 0 0,.slice none 0 0,.slice none 0 0,.slice none 0 0,[]⟩ (xM p room) |>.set 9 (.pointer none)),bH (j0 G) (cM p),bH (j0 E) (cT p),bY bp (kp pv)] w1,⟨_,0,rfl,rfl,l6 _,VB⟩,?_⟩
 rintro mm o _ _ ⟨k,rfl,rfl,hk,u⟩ _;have Ku:(Bq p).length=(cT p).length:=by unfold Bq;rw[n4,S2]
 refine aR (aC (λc1=>?_) λc1=>?_)
 .refine aD eg u.p4.At (aV aqc u (C52 p pv (k:Int) _ (I.pr _ (J _ u.aG)) M) λ_ W u=>bD ([pE p (k:Int)]:List Int) u cS rfl rfl (dL rfl) λs49 _ u=>?_);have aln:=u.dS;exact bJ u.p1 cS aln (by rw[l2,mv];omega) dD (λ_ _ u=>aO bO ⟨_,bO,k+1,rfl,rfl,bO,by rw[<- gM (Kd (p:=p) (i:=k) bO)];exact u.p1.drop⟩)
 rw[ld bO]at u;have u:=u.drew;refine aD eg u.p4.At (aD eg u.p4.At (aV YD u (C54 p pv _ (I.pr _ (J _ u.aG)) M) λ_ W u=>?_));refine⟨eA eg u.p4.At,?_⟩;refine dU awZ u (C55 p pv _ (I.pr _ (J _ u.aG)) M) (λx58 _ V u=>?_);have iV:=qS p;have ud:(eW p).length=(iv p).length:=by unfold eW;rw[n4]
 refine dM axW (C53 (Bq p) (eW p) (eB p) _ _ _ u.p1.dS u.dS bO bO bO λk n h1 h2=>?_) ?_
 .have h3:=QW Z h1 h2;have h4:=(kO.1 h2).1;exact⟨h3.1,bO,bO⟩
 rintro v59 _ ⟨q,ov,fv,rfl,V⟩;have u:=((u.made V).split).p1.split;refine aN rfl (aN rfl (aE (aA tG (aT u.p5 Lf (dL rfl) rfl λO u=>aA kI (aB (v:=j0 pv.threads) iC u.p8.hb rfl ?_)))));have u:=u.p8.drop.p5.drop.p4.drop.p3.freeze.p2.freeze.hG.p3.freeze.hG.p3.freeze.hG;obtain⟨U,u,Y⟩:=u.MX;have u:=u.AR (H:=yI (λw=>K w/\ph U O w) room);have u:=(u.eM (α:=Ptr)).eM (α:=Int)
 have u:St w aZ (bY B (q7 ⟨pv,E,G,q,j0 ov,j0 fv,.slice none 0 0,.slice none 0 0,[]⟩ (xM p room))::iN q (j0 ov) (j0 fv) (JO (Bq p) (eB p) (eW p))::bH (.slice none 0 0) ([]:List Int)::bH (.slice none 0 0) ([]:List Ptr)::ic (yI (λw=>K w/\ph U O w) room) [] []::eF (ph U O)::[]) O:=by
  have h1:=u.p5.p5;exact h1
 obtain⟨vK,ht1,ht2⟩:=I.th;obtain⟨VQ,Nu,Vo⟩:=I.rc;have u:=gu.shut (K:=(λw=>K w/\ph U O w)) (m:=xM p room) ⟨λw' h=>I.pr w' h.1,λw' h=>?_,λw' h=>?_,λw' h=>⟨?_,?_⟩,⟨VQ,λw' h=>Nu w' h.1,Vo.mono λ_ h=>h.1⟩⟩ u;rotate_left
 .have:=Y w' h.2;first|exact this.1|exact this.2|exact this.2.1|exact this.2.2|exact this.2.2.1|exact this.2.2.2
 .have:=Y w' h.2;first|exact this.1|exact this.2|exact this.2.1|exact this.2.2|exact this.2.2.1|exact this.2.2.2
 .have:=Y w' h.2;first|exact this.1|exact this.2|exact this.2.1|exact this.2.2|exact this.2.2.1|exact this.2.2.2
 .have:=Y w' h.2;first|exact this.1|exact this.2|exact this.2.1|exact this.2.2|exact this.2.2.1|exact this.2.2.2
 refine bF aq5 u (H':=λ_=>gu (λw=>K w/\ph U O w) B (iw p room)) (Φ:=λ_ _=>True) (λF2 ef dX=>?_) ?_
 .exact(C56 (λw=>K w/\ph U O w) B (xM p room) p.threads _ vK F2 _ ef (λw' hc=>⟨J _ (dX w' hc).aG,(dX w' hc).eF⟩) ⟨BW,Dz⟩ (by have:=M.eK;show(cM p).length<=_;unfold cM;rw[n4];omega) (λw' hc=>ht1 w' (J _ (dX w' hc).aG)) (ht2.mono λ_ h=>h.1)
   (λ_ ht=>⟨D4 Z (List.mem_append_left _ ht),D7 Z (List.mem_append_left _ ht)⟩) (by have:=M.threads;omega)).mono λ_ _ r=>r.mono λ_ _ h=>⟨trivial,h.2⟩
 rintro _ _ _ u;exact .inr (.inr ⟨zZ,⟨BW,Dz⟩,B,ph U O,rfl,(St.join u).fresh⟩)
theorem C24(K:hM)(p:Nat)(m:gU)(q:aS)(E:SV)(F:Nat->Prop)(w:World)(hF:(gu K p m).p w F)(V:∀w',gz F w w'->K w')(W:oN m)(zq:GQ m.p)(rB:MB m.mem 1000000)(hcb:0<=m.bZ/\m.bZ<=1000000)(N7:∀w',gz F w w'->dA (λ_=>True) w' (j0 E) q.cut)(hql:q.cut.length<=1000) :
   CR 24 [.pointer (some ⟨p,0,none⟩),j0 (⟨q.kind,q.t,q.i,E⟩:aI)] w (λv w'=>v=.tuple #[j0 (oP m q).2.1,hZ (oP m q).2.2]/\mU F (gu K p (oP m q).1) w w'):=by
 have u:=St.begin hF;refine oL Tryz.func24 (pl:=P24) ?_;refine cG (x:=(⟨q.kind,q.t,q.i,E⟩:aI)) u (λb3 w1 u=>aM u mz λb4 _ u=>?_);have u:=u.enc (cs':=kp (⟨0,0,0,0,0⟩:cI)) rfl;refine⟨λjv w'=>jv=.bool (iT m q).isSome/\St w F [gu K p (crD m q),bY b4 (kp (⟨0,0,0,0,0⟩:cI)),bY b3 (kp (⟨q.kind,q.t,q.i,E⟩:aI))] w',?_,?_⟩
 .have u:=u.drew
  have eH:∀w',iT m q=none->St w F [gu K p m,bY b4 (kp (⟨0,0,0,0,0⟩:cI)),bY b3 (kp (⟨q.kind,q.t,q.i,E⟩:aI))] w'->(Value.bool false=.bool (iT m q).isSome/\St w F [gu K p (crD m q),bY b4 (kp (⟨0,0,0,0,0⟩:cI)),bY b3 (kp (⟨q.kind,q.t,q.i,E⟩:aI))] w'):=λw' h1 h2=>by
   have e:crD m q=m:=by unfold crD;rw[h1]
   rw[h1,e];exact⟨rfl,h2⟩
  have VM:iT m q=(if q.kind=3/\q.t=0/\q.i=0/\m.fault=0 then fC m.mem q.cut else none):=rfl;refine aA mZ (aB (v:=hZ q.kind) bL u.p1.hb rfl (aH (aC (λc1=>?_) λ_=>eH _ (by rw[VM,ei bO]) u.p2)));refine aA lG (aB (v:=hZ q.t) bL u.p1.hb rfl (aH (aC (λZ=>?_) λ_=>eH _ (by rw[VM,ei bO]) u.p2)));refine aA qj (aB (v:=hZ q.i) bL u.p1.hb rfl (aH (aC (λc3=>?_) λ_=>eH _ (by rw[VM,ei bO]) u.p2)));have u:=u.p2;obtain⟨a,B,u⟩:=gu.open u;have pJ:=u.p4.iZ;refine aE (aA yi (aB bL u.hb rfl (aH (aC (λc4=>?_) λ_=>eH _ (by rw[VM,ei bO]) (gu.shut B u)))))
  have hpi:iT m q=fC m.mem q.cut:=by rw[VM,ej ⟨c1,Z,c3,c4⟩]
  refine aE (aA tG (aB Lf u.hb rfl (aA me (aB (v:=j0 (E:SV)) eh u.p6.hb rfl (have u:=u.p1;bF auA u (H':=λv=>pM λm2=>fact (D8 m.mem q.cut v m2) (iN a.q a.ov a.fv m2)) (Φ:=λ_ _=>True) (λU O G=>?_) ?_)))))
  .exact(C86 a.q a.ov a.fv m.mem U q.cut _ _ O (λw' hc=>B.mem _ (V w' (G w' hc).aG)) W.mem rB (λw' hc=>N7 w' (G w' hc).aG) hql).mono λ_ _ r=>r.mono λ_ _ h=>Q7 h
  rintro v34 _ _ xC;obtain⟨m2c,zo⟩:=xC.eo
  clear xC
  obtain⟨hcf,D2⟩:=zo.mC
  clear zo
  rcases hcf with⟨Y,rfl,rfl⟩|⟨I,Y,rfl,rfl⟩
  .have u:=D2;exact aH (have u:=u.p4.p4.p4.p3.p4;eH _ (hpi.trans Y) (gu.shut B u))
  have u:=D2;refine aH ?_;have M:=hpi.trans Y;have e:crD m q={m with mem:=mM m.mem I}:=by unfold crD;rw[M]
  rw[M,e];have u:=u.p4.p4.p4.p3.p4;exact⟨rfl,gu.shut (m:={m with mem:=mM m.mem I}) ⟨B.pr,B.cs,B.ks,B.mem,B.rc⟩ u⟩
 rintro _ _ ⟨rfl,u⟩ _;refine aY (λc=>?_) (λc=>?_)
 .obtain⟨I,M⟩:=NT.1 c;have e:crD m q={m with mem:=mM m.mem I}:=by unfold crD;rw[M]
  have J:oP m q=(q8 (pq m I) (vd m),⟨15,0,0,qM q.cut q.cut.length,0⟩,0):=by unfold oP;rw[M]
  rw[e]at u;rw[J];obtain⟨a,B,u⟩:=gu.open u;have pJ:=u.p4.iZ;refine aE (aA I7 (aB bL u.hb rfl (aO (show -9223372036854775808<=m.bZ+1/\m.bZ+1<=9223372036854775807 by omega) (aE (aA I7 (aT u bL (dL rfl) rfl λ_ u=>?_))))));obtain⟨VQ,Nu,Vo⟩:=id B.rc;have GK:=Vo.1;refine aE (aA DC (aA oT (aB iC u.hb rfl ?_)));have u:=(gu.shut (m:=pq m I) ⟨B.pr,B.cs,B.ks,B.mem,B.rc⟩ u.p4.p4.p4.p4.p4).p2;have u:=u.p2.p2;refine⟨λjv w'=>∃vK,Dl K vK (vd m)/\St w F [eF (λw=>K w->dA (λ_=>True) w jv vK),gu K p (pq m I),bY b4 (kp (⟨0,0,0,0,0⟩:cI)),bY b3 (kp (⟨q.kind,q.t,q.i,E⟩:aI))] w',?_,?_⟩
  .refine aK fx (Nu _ (V _ u.aG)) (aH (aC (λZ=>?_) λZ=>?_))
   .refine pop (v:=j0 (⟨⟨#[]⟩,bW,bW,0⟩:cH)) (by kernel_rfl) (bD ([⟨⟨#[]⟩,bW,bW,0⟩]:List cH) u fx rfl rfl (dL rfl) λs54 _ u=>?_);refine⟨_,?_,u.freeze.dN (Ψ:=λw=>K w->dA (λ_=>True) w s54 [(⟨⟨#[]⟩,bW,bW,0⟩:cH)]) λ_ h _=>h⟩;have Vz:vd m=[⟨⟨#[]⟩,[],[],0⟩]:=by unfold vd;rw[ej (by have:VQ.length=m.p.recover.length:=GK;omega)]
    rw[Vz];exact aho K
   have Vz:vd m=m.p.recover:=by unfold vd;rw[ei (by have:VQ.length=m.p.recover.length:=GK;omega)]
   exact⟨VQ,by rw[Vz];exact Vo,u.fr λw h=>Nu w h⟩
  rintro rv _ ⟨vK,htv,u⟩ _;obtain⟨azh,alo⟩:=Kb zq;refine bF aq5 u.p1 (H':=λ_=>gu K p (q8 (pq m I) (vd m))) (Φ:=λ_ _=>True) (λU O G=>?_) ?_
  .refine(C56 K p (pq m I) (vd m) _ vK U _ O (λw' hc=>V w' (G w' hc).aG) W.rm (by have:=W.pz.eK;show(cM m.p).length<=_;unfold cM;rw[n4];omega) (λw' hc=>(G w' hc).eF (V w' (G w' hc).aG)) htv (λt ht=>⟨alo t ht,?_⟩) bO).mono λ_ _ r=>r.mono λ_ _ h=>⟨trivial,h.2⟩;unfold vd at ht
   split at ht
   .rw[wy.1 ht];rfl
   exact D7 zq (List.mem_append_right _ ht)
  rintro _ _ _ u;exact aA me (aB (v:=j0 (E:SV)) eh u.p3.hb rfl (aV axT u (C87 _ q.cut _ (N7 _ u.aG) bO) λ_ _ u=>pop (H0 15 (qM q.cut q.cut.length)) (aJ (x:=(⟨15,0,0,qM q.cut q.cut.length,0⟩:cI)) u.p2 fo rfl rfl λ_ u=>aD fo u.At ⟨rfl,u.p3.drop.drop.p1.drop.mut⟩)))
 have M:iT m q=none:=by
  cases h:iT m q with
  | none=>rfl
  | some I=>rw[h]at c;cases c
 have e:crD m q=m:=by unfold crD;rw[M]
 have J:oP m q=(if (gV m).any (nh q)=true then(if q.kind=2 then(match m.l[q.t.toNat]? with|some t=>((tD m t q,tB q.t (dH t.buf q.i),0):gU×cI×Int)|none=>(m,⟨0,0,0,0,0⟩,13))else((iz m q.t).1,(iz m q.t).2,0))else(m,⟨0,0,0,0,0⟩,13)):=by unfold oP;rw[M];rfl
 rw[e]at u;refine dU aq2 u (C67 K p m _ u.has (λ_ e=>V _ (u.aG.then e)) W) (λx64 _ cJ u=>?_);have Ur:=u.p3.At
 have hfn:tN hH _ (.func (.func 88) [].toArray [.pointer (some ⟨b3,0,none⟩)].toArray) (λ_:aS=>True) (nh q):=
  ⟨88,[],_,rfl,axR,λsx y w1 e1 Tt _=>C88 y q sx b3 (⟨q.kind,q.t,q.i,E⟩:aI) w1 Tt (Ur.ext e1) ⟨E,rfl,DL.j4 (N7 _ (u.aG.then e1))⟩⟩
 refine aV azf u (C89 _ _ _ (λ_=>True) _ _ u.dl hfn (λ_ _=>trivial) (by have:=FT W;omega)) (λ_ he u=>have u:=u.drop;bR (aY (λZ=>?_) λZ=>?_))
 .rw[J,ei (by simpa using Z)];exact pop JT (aJ (x:=(⟨0,0,0,0,0⟩:cI)) u.p1 fo rfl rfl λ_ u=>aD fo u.At ⟨rfl,u.drop.p1.drop.mut⟩)
 have wJ:(gV m).any (nh q)=true:=by simpa using Z
 obtain⟨hf0,h0,_,t,ht,hkd⟩:=akM wJ;rw[J,ej wJ];refine aA mZ (aB (v:=hZ q.kind) bL u.p2.hb rfl (aH (aC (λc3=>?_) λc3=>?_)))
 .rw[ej c3,ht];refine aD j8 u.p2.At (bF axQ u (H':=λ_=>gu K p (tD m t q)) (Φ:=λv _=>v=j0 (tB q.t (dH t.buf q.i))) (λU O G=>?_) ?_)
  .exact C90 K p m q E t U _ O (λw' hc=>V w' (G w' hc).aG) W rB h0 ht
  rintro _ _ rfl u;exact aJ (x:=tB q.t (dH t.buf q.i)) u.p1 fo rfl rfl (λ_ u=>aD fo u.At ⟨rfl,u.drop.p1.drop.mut⟩)
 rw[ei c3]
 have uw:sX m t=true:=by
  rcases hkd with h|h
  .exact h.2
  .exact absurd h.1 c3
 refine aA lG (aB (v:=hZ q.t) bL u.p2.hb rfl (bF axP u (H':=λ_=>gu K p (iz m q.t).1) (Φ:=λv _=>v=j0 (iz m q.t).2) (λU O G=>?_) ?_))
 .exact C91 K p m q.t t U _ O (λw' hc=>V w' (G w' hc).aG) W rB h0 ht (λ_=>NR uw)
 rintro _ _ rfl u;exact aJ (x:=(iz m q.t).2) u.p1 fo rfl rfl (λ_ u=>aD fo u.At ⟨rfl,u.drop.p1.drop.mut⟩)
theorem C64(K:hM)(p:Nat)(m:gU)(qZ:List cO)(lv:Value)(vK:List cH)(F:Nat->Prop)(w:World)(hF:(qT K p m).p w F)(hK:∀w',gz F w w'->K w')(hrm:1<=m.room/\m.room<=16)(hlk:(cM m.p).length<=1000)(hl:∀w',gz F w w'->dA (λ_=>True) w' lv vK)(htv:Dl K vK qZ)
   (kG:∀t∈qZ,yv (cT m.p) (cM m.p) (wE t)/\t.body=(H6 t.body).flat) (hbz:∀t∈qZ,t.body.length<=100000) (hn:qZ.length<=1000) :
   CR 64 [.pointer (some ⟨p,0,none⟩),lv] w (λv w'=>v=.tuple #[]/\mU F (qT K p (q8 m qZ)) w w'):=by
 have u:=St.begin hF;have Ok:=htv.1;refine akU _ _ _ _ ?_;unfold S64;obtain⟨a,hu,u⟩:=qT.open u;have pJ:=u.p4.iZ
 have hlr:∀w,K w->dA (λ_=>True) w (j0 a.pv.eK) m.p.eK:=λw hw=>by
  obtain⟨g0,g1,g2,g3,g4,g5,e,_,_,h2,_⟩:=hu.pr w hw;rw[e];exact DL.flat h2
 have Ag:(cM m.p).length=m.p.eK.length:=by unfold cM;rw[n4]
 refine aE (aA oV (aT u Er (dL rfl) rfl λ_ u=>aE (aA vt (aT u eh (dL rfl) rfl λ_ u=>?_))));have u:=(((u.p2.drop.p2.drop.p2.drop.eM (α:=Int)).p2).p1).p2;refine⟨λmm x w'=>∃(k:Nat) (ov:Value),x=hZ (k:Int)/\mm=(cM m.p).length-k/\k<=(cM m.p).length/\St w F [bY p (pA {a with ow:=ov,ll:=.slice none 0 0} m),bH ov (sk k (-1:Int)),gw a.q m.mem] w',⟨_,0,_,rfl,rfl,l6 _,u⟩,?_⟩;rintro mm _ _ ⟨k,ov,rfl,rfl,Rp,u⟩ _;refine aE (aA oU (aA nT (aB jO u.hb rfl (aK iu (hlr _ (hK _ u.aG)) (aR (aC (λc=>?_) λc=>?_))))))
 .refine aE (aA vt (aB eh u.hb rfl (bD ([-1]:List Int) u cS rfl rfl (dL rfl) λs27 _ u=>?_)));have alm:=u.dS;exact bJ u.p2 cS alm (by rw[EI,mv];omega) dD (λs28 _ u=>have u:=u.p1.drop;aE (aA vt (aT u.p1 eh (dL rfl) u.dS.one λ_ u=>aO bO ⟨_,bO,k+1,s28,rfl,rfl,bO,by rw[WZ];exact u⟩)))
 rw[show k=(cM m.p).length from bO]at u;have u:=((((((u.AR (H:=N2 K m.room)).eM (α:=Ptr)).p4).p4).p3).p3).p4;refine⟨λmm x w'=>∃(j:Nat) (E:Value) (ps:List Ptr),x=hZ (j:Int)/\mm=vK.length-j/\j<=vK.length/\St w F [bY p (pA {a with ow:=ov,ll:=E} m),bH E ps,ic (N2 K m.room) ps ((qZ.take j).map UG),bH ov (sk (cM m.p).length (-1:Int)),gw a.q m.mem] w',⟨_,0,_,_,rfl,rfl,l6 _,u⟩,?_⟩;rintro mm _ _ ⟨j,E,ps,rfl,rfl,hj1,u⟩ _;refine aK fx (hl _ u.aG) (aR (aC (λc2=>?_) λc2=>?_));rotate_left
 .rw[ld bO]at u;have u:=u.p2.p2.p3.p4.p4;exact⟨rfl,(qT.shut (m:=q8 m qZ) (a:={a with ow:=ov,ll:=E,ps:=ps}) ⟨hu.pr,hu.rc⟩ u).mut⟩
 obtain⟨tv,Q6⟩:=gx vK (i:=((j:Nat):Int).toNat) bO;obtain⟨t,ht⟩:=gx qZ (i:=j) bO;obtain⟨B,gb,rows,rfl,Z,hgb⟩:=htv.2 j _ _ Q6 ht;obtain⟨N5,O⟩:=kG t (la ht);have GK:t.dQ.length<=1000:=N5.nb;have hpo:=N5.p
 have asp:(H6 t.body).str:=by
  have h2:FP (UC (cT m.p) (cM m.p) t.dQ) (ju (H6 t.body) false []):=hpo;cases hb:H6 t.body with
  | nil=>trivial
  | cons x c d r=>rw[hb]at h2;exact h2.st _ (o6 ..)
 have asq:(H6 t.body).flat.length<=100000:=by rw[<- O];exact hbz t (la ht)
 refine⟨_,?_,λ_ h=>h⟩;refine aE (aA RI (aB bL u.hb rfl (dM amH (C58 m.room _) ?_)));rintro v43 _ hh;obtain⟨_,_,b43,rfl,cJ⟩:=hh.resolve_left (λ_=>bO);have u:=u.made cJ;refine aN rfl (aN rfl ?_);refine⟨λt8 w'=>∃tb,t8=.pointer (some ⟨tb,0,none⟩)/\St w F [mq K tb m.room (wE t),bY p (pA {a with ow:=ov,ll:=E} m),bH E ps,ic (N2 K m.room) ps ((qZ.take j).map UG),bH ov (sk (cM m.p).length (-1:Int)),gw a.q m.mem] w',?_,?_⟩
 .refine Gd (Wd:=λw'=>gz F w w') fx hl u.aG bO Q6 (λq50 h50=>Gf gb lL h50 u.aG rfl rfl λq51 W=>have u:=u.drew;aD (x:=gb) jR (W _ u.aG) (Gd (Wd:=λw'=>gz F w w') fx hl u.aG bO Q6 λq56 h56=>Gf B fT h56 u.aG rfl rfl λq57 G=>aD (x:=B) jj (G _ u.aG) (Gd (Wd:=λw'=>gz F w w') fx hl u.aG bO Q6 λq61 h61=>Gf B fT h61 u.aG rfl rfl λq62 M=>aD (x:=B) jj (M _ u.aG) (aK iD (Z _ (hK _ u.aG)) ⟨?_,?_,trivial⟩))))
  .refine dM NX (C128 K gb rows (H6 t.body) _ (λ_ e=>hK _ (u.aG.then e)) asp (λw=>by rw[<- O];exact hgb w) asq) ?_;rintro s53 w9 ⟨ds,V,cJ⟩;have u:=u.made cJ;refine⟨eA (x:=B) jj (G _ u.aG),?_⟩;refine⟨eA (x:=B) jj (M _ u.aG),?_⟩;refine wR (0:Int) u cS uG bO bO dD (λs52 w11 u=>?_);rw[qb]at u;refine⟨eA (x:=gb) jR (W _ u.aG),?_⟩;refine⟨eA (x:=B) jj (G _ u.aG),?_⟩;obtain⟨J,rfl⟩:=u.fK;obtain⟨Y,rfl⟩:=u.p1.fK;refine pop (xS Y.a Y.n Y.cap B.a B.n B.cap J.a J.n J.cap (some ⟨b43,0,none⟩)) (nB u λI w12 u=>?_)
   have u:=u.p2.freeze.p2.p3.p3;have U:RTK K B ds (wE t):=⟨Z,by show lu K ds (wq (ju (H6 t.body) false []));rw[vi];show lu K ds (D5 false (H6 t.body)++[]);rw[pd];exact V,F9.push λ_ h=>by cases h⟩;exact⟨I,rfl,mq.shut (t:=wE t) U u⟩
  refine wR (0:Int) u cS uG bO bO dD (λs52 w11 u=>?_);rw[qb]at u;refine⟨eA (x:=gb) jR (W _ u.aG),?_⟩;refine⟨eA (x:=B) jj (G _ u.aG),?_⟩;refine dM NX (C128 K gb rows (H6 t.body) _ (λ_ e=>hK _ (u.aG.then e)) asp (λw=>by rw[<- O];exact hgb w) asq) ?_;rintro s53 w9 ⟨ds,V,cJ⟩;have u:=u.made cJ;refine⟨eA (x:=B) jj (G _ u.aG),?_⟩;refine⟨eA (x:=B) jj (M _ u.aG),?_⟩;obtain⟨J,rfl⟩:=u.p1.fK;obtain⟨Y,rfl⟩:=u.fK;refine pop (xS Y.a Y.n Y.cap B.a B.n B.cap J.a J.n J.cap (some ⟨b43,0,none⟩)) (nB u λI w12 u=>?_)
  have u:=u.p1.freeze.p2.p3.p3;have U:RTK K B ds (wE t):=⟨Z,by show lu K ds (wq (ju (H6 t.body) false []));rw[vi];show lu K ds (D5 false (H6 t.body)++[]);rw[pd];exact V,F9.push λ_ h=>by cases h⟩;exact⟨I,rfl,mq.shut (t:=wE t) U u⟩
 rintro _ _ ⟨I,rfl,u⟩ _;have azk:BQ (wE t):=⟨λ_ hv=>by rw[(List.mem_replicate.1 hv).2];exact iF,λ_ hy=>by cases hy⟩;refine bF ahg u (H':=λ_=>mq K I m.room (UG t)) (Φ:=λ_ _=>True) (λF2 ef dX=>?_) ?_
 .exact(C129 K I m.room (wE t) (UG t) _ _ _ F2 _ ef (λw' hc=>hK w' (dX w' hc).aG) N5 azk (qP N5).1).mono λ_ _ r=>r.mono λ_ _ h=>⟨trivial,h.2⟩
 rintro _ _ _ u;refine aE (aA oV ?_);have nz:=u.p3.iZ;rw[n4,l2]at nz;refine aB Er u.p1.hb rfl (bD ([(⟨I⟩:Ptr)]) u GA rfl rfl (dL rfl) λs67 _ u=>?_);have aa3:=u.dS;refine bJ u.p3 GA aa3 (by simp;omega) dD (λs68 _ u=>have u:=u.p1.drop;aE (aA oV (aT u.p2 Er (dL rfl) u.dS.one λ_ u=>?_)));have u:=(((((St.EE (H:=N2 K m.room) (p:=⟨I⟩) (x:=UG t) u.p2.p3).p4).p4).p2).p4).p4;intro _;exact aO bO ⟨_,bO,j+1,s68,ps++[⟨I⟩],rfl,rfl,bO,by rw[<- gi (k:=j) ht];exact u⟩
theorem Vp{l:List Int}{k:Nat}{c:Int}(h:l[k]?=some c):qM l (k+1)=BM (BM (10000*qM l k)+c):=by rw[FN h,Int.mul_comm]
def C94(cv:Value)(cut:List Int)(w:World)(G:dA (λ_=>True) w cv cut)(M:cut.length<=1000000):CR 94 [cv] w (λv w'=>v=hZ (qM cut cut.length)/\Ext w w'):=by
 have u:=St.start w;refine ahJ _ _ _ ?_;unfold S94;refine⟨λE n x I=>∃k:Nat,n=hZ (qM cut k)/\x=hZ (k:Int)/\E=cut.length-k/\k<=cut.length/\St w aZ [] I,⟨_,0,rfl,rfl,rfl,l6 _,u⟩,?_⟩;rintro E _ _ I ⟨k,rfl,rfl,rfl,U,u⟩ _;refine aK cS (G.ext u.aG) (aR (aC (λO=>?_) λ_=>⟨by rw[show cut.length=k from bO],u.aG⟩));refine xc ?_;obtain⟨V,B⟩:=gx cut (i:=(k:Int).toNat) bO;exact aQ cS G bO B (λ_ J=>aD bL (J.ext u.aG) (uO (aO bO ⟨_,bO,k+1,by rw[Vp (k:=k) B],rfl,rfl,bO,u⟩)))
def N8{p:cB}(hc:GQ p){t:cO}(ht:t∈gp p):t.body.length<=40:=by
 obtain⟨_,h2,_⟩:=hc.f.qZ ht
 exact(lz h2).1
def Q9{m:Mem}{cut:List Int}{v:Value}{p:Nat}{F:Nat->Prop}{w w':World}
  (h:(fC m cut=none/\v=hZ 1/\mU F (gw p m) w w')\/∃u,fC m cut=some u/\v=hZ 0/\mU F (gw p (mM m u)) w w') :
  True/\mU F (pM λE=>fact (D8 m cut v E) (gw p E)) w w':=by
 refine⟨trivial,?_⟩
 rcases h with⟨h1,h2,B,h3,h4,h5⟩|⟨u,h1,h2,B,h3,h4,h5⟩
 .exact⟨B,⟨m,.inl ⟨h1,rfl,h2⟩,h3⟩,h4,h5⟩
 exact⟨B,⟨mM m u,.inr ⟨u,h1,rfl,h2⟩,h3⟩,h4,h5⟩
theorem ae7{m:gU}{q:aS}(h:q.kind=3):(gV m).any (nh q)=false:=by
 cases ha:(gV m).any (nh q)with
 | false=>rfl
 | true=>obtain⟨_,_,_,t,_,h2⟩:=akM ha;omega
theorem aa4{m:gU}{q:aS}(h:iT m q=none)(u:(gV m).any (nh q)=false):oP m q=(m,⟨0,0,0,0,0⟩,13):=by
 grind[oP]
def aa5{K:hM}{m:gU}{u:List cH}(hc:GQ m.p)(G:Dl K u m.p.recover):Dl K ((u++[(⟨⟨#[]⟩,bW,bW,0⟩:cH)]).take 1) (vd m):=by
 have h1:=hc.f.one
 have B:=G.1
 unfold vd
 split
 .have E:m.p.recover=[]:=sl.1 (by assumption)
  rw[E]at B
  have:u=[]:=sl.1 B
  subst this
  exact aho _
 grind
def azl:PL 63:=dJ Tryz.func63
def C13(K:hM)(p:cB)(pv:bP)(room:Int)(w:World)(G:∀w',Ext w w'->K w')(E:IB K pv p)(I:PZ p):CR 13 [j0 pv,hZ room] w (λv w'=>(fk p≠0/\v=.tuple #[.pointer none,hZ (fk p)]/\Ext w w')\/(fk p=0/\(room<1\/16<room)/\v=.tuple #[.pointer none,hZ 1]/\Ext w w')\/
  (fk p=0/\(1<=room/\room<=16)/\∃b:Nat,v=.tuple #[.pointer (some ⟨b,0,none⟩),hZ 0]/\kV (qT K b (iw p room)) w w')):=by
 have u:=St.start w;refine akR _ _ _ _ ?_;unfold S13;refine cG (x:=pv) u (λbp w1 u=>aD eg u.At (dM aur (C57 p pv _ (E.pr _ (G _ u.aG)) I) ?_));rintro _ _ ⟨aa,rfl,J⟩;have u:=u.ext J;refine aN rfl (aN rfl (bX (aC (λc=>?_) λc=>?_)))
 .exact .inl ⟨c,rfl,u.drop.aG⟩
 have Z:fk p=0:=bO
 have M:=vR Z;have MT:=aam M;have Fe:=Bz p;refine dM amH (C58 room _) ?_;rintro v3 _ hh
 rcases hh with⟨V,rfl,J⟩|⟨BW,Dz,b3,rfl,O⟩
 .have u:=u.ext J;exact aN rfl (aN rfl (bX (ke dD (.inr (.inl ⟨Z,V,rfl,u.drop.aG⟩)))))
 have u:=(u.made O).drop;refine aN rfl (aN rfl (bX (fJ dD (bD ([]:List Int) u cS rfl rfl (dL rfl) λs31 _ u=>?_))));refine⟨λmm o y w1=>∃k:Nat,y=hZ (k:Int)/\mm=(iv p).length-k/\k<=(iv p).length/\St w aZ [bH o ((Bq p).take k),bY bp (kp pv)] w1,⟨_,0,rfl,rfl,l6 _,u⟩,?_⟩;rintro mm o _ _ ⟨k,rfl,rfl,hk,u⟩ _;have Ku:(Bq p).length=(cT p).length:=by unfold Bq;rw[n4,S2]
 refine aD eg u.p1.At (dU TO u (C59 p pv _ (E.pr _ (G _ u.aG)) I.toPS) λx34 _ O u=>aK iu u.dS (have u:=u.drop;aR (aC (λc1=>?_) λc1=>?_)))
 .refine aD eg u.p1.At (aV asi u (C60 p pv (k:Int) _ (E.pr _ (G _ u.aG)) I) λ_ J u=>bD ([pE p (k:Int)]:List Int) u cS rfl rfl (dL rfl) λs49 _ u=>?_);have U:=u.dS;exact bJ u.p1 cS U (by rw[l2,mv];omega) dD (λ_ _ u=>aO bO ⟨_,bO,k+1,rfl,rfl,bO,by rw[<- gM (Kd (p:=p) (i:=k) bO)];exact u.p1.drop⟩)
 rw[ld bO]at u;have u:=u.drew;refine aD eg u.p1.At (aD eg u.p1.At (aV IQ u (C62 p pv _ (E.pr _ (G _ u.aG)) I) λ_ J u=>?_));refine⟨eA eg u.p1.At,?_⟩;refine dU azl u (C63 p pv _ (E.pr _ (G _ u.aG)) I) (λx58 _ O u=>?_);have iV:=qS p;have ud:(eW p).length=(iv p).length:=by unfold eW;rw[n4]
 refine dM aus (C61 (Bq p) (eW p) (eB p) _ _ _ u.p1.dS u.dS bO bO bO λk n h1 h2=>?_) ?_
 .have h3:=QW M h1 h2;have h4:=(kO.1 h2).1;exact⟨h3.1,bO,bO⟩
 rintro v59 _ ⟨q,rfl,O⟩;have u:=((u.made O).p1.drop).p1.drop;refine aN rfl (aN rfl (aD (x:=pv) eg u.p1.At (pop (NW _ _ _ _ _ _ _ _ _ _ _ _ _ _ _ _ _ _ _ _) (nB u λB SD u=>aA kI (aB (v:=j0 pv.threads) iC u.p2.hb rfl ?_)))));have u:=((u.p2.drop.AR (H:=N2 K room)).eM (α:=Ptr)).eM (α:=Int)
 have u:St w aZ (bY B (pA ⟨pv,q,.slice none 0 0,.slice none 0 0,[]⟩ (xM p room))::gw q (JO (Bq p) (eB p) (eW p))::bH (.slice none 0 0) ([]:List Int)::bH (.slice none 0 0) ([]:List Ptr)::ic (N2 K room) [] []::[]) SD:=by
  have h1:=u.p4.p4
  first|exact h1|exact u.p3.p4|exact u.p4.p4
 obtain⟨vK,W,Y⟩:=E.th;obtain⟨VQ,Nu,Vo⟩:=E.rc;have u:=qT.shut (K:=K) (m:=xM p room) ⟨E.pr,⟨VQ,Nu,Vo⟩⟩ u;refine bF ar4 u (H':=λ_=>qT K B (iw p room)) (Φ:=λ_ _=>True) (λF2 ef dX=>?_) ?_
 .exact(C64 K B (xM p room) p.threads _ vK F2 _ ef (λw' hc=>G _ (dX w' hc).aG) ⟨BW,Dz⟩ (by have:=I.eK;show(cM p).length<=_;unfold cM;rw[n4];omega) (λw' hc=>W w' (G _ (dX w' hc).aG)) Y
   (λ_ ht=>⟨D4 M (List.mem_append_left _ ht),D7 M (List.mem_append_left _ ht)⟩) (λ_ ht=>xe (N8 M (List.mem_append_left _ ht)) dD) (by have:=I.threads;omega)).mono λ_ _ r=>r.mono λ_ _ h=>⟨trivial,h.2⟩
 rintro _ _ _ u;exact .inr (.inr ⟨Z,⟨BW,Dz⟩,B,rfl,u.fresh⟩)
theorem C25(K:hM)(p:Nat)(m:gU)(q:aS)(J:SV)(F:Nat->Prop)(w:World)(hF:(qT K p m).p w F)(hK:∀w',gz F w w'->K w')(O:oN m)(hvo:Kg m)(zq:GQ m.p)(rB:MB m.mem 1000000)(hcb:0<=m.bZ/\m.bZ<=1000000)(Dt:m.mem.dW=eW m.p)(hKx:∀w1,gz F w w1->∀w2,Ext w1 w2->K w2)(N7:∀w',gz F w w'->dA (λ_=>True) w' (j0 J) q.cut)(hql:q.cut.length<=1000) :
   CR 25 [.pointer (some ⟨p,0,none⟩),j0 (⟨q.kind,q.t,q.i,J⟩:aI)] w (λv w'=>v=.tuple #[j0 (oP m q).2.1,hZ (oP m q).2.2]/\mU F (qT K p (oP m q).1) w w'):=by
 have u:=St.begin hF;refine oL Tryz.func25 (pl:=P25) ?_;refine cG (x:=(⟨q.kind,q.t,q.i,J⟩:aI)) u (λb3 w1 u=>aM u mz λb4 w2 u=>?_);have u:=u.enc (cs':=kp (⟨0,0,0,0,0⟩:cI)) rfl;have VM:iT m q=(if q.kind=3/\q.t=0/\q.i=0/\m.fault=0 then fC m.mem q.cut else none):=rfl;refine aA mZ (aB (v:=hZ q.kind) bL u.p1.hb rfl (aH (aC (λc1=>?_) λc1=>?_)))
 .have u:=u.drew;have u:=u.p2;obtain⟨a,hu,u⟩:=qT.open u;have pJ:=u.p4.iZ;refine aE (aA tF (aB qt u.hb rfl (aA me (aB (v:=j0 (J:SV)) eh u.p6.hb rfl (dM amK ((C92 a.q m.mem q.cut _ _ (Ge u.p1.has) O.mem rB (N7 _ u.aG) hql).mono (R':=ub λv w'=>∃(o:Value) (e:Int),v=.tuple #[o,hZ e]/\(e=0↔(fC m.mem q.cut).isSome=true)/\Ext (drew w2) w') λ_ _ r=>r.mono λv w' h=>?_) ?_)))))
  .rcases h with⟨h1,rfl,h3⟩|⟨E,o,h1,rfl,h3⟩
   .exact⟨_,_,rfl,by rw[h1];decide,h3⟩
   obtain⟨_,_,_,h4⟩:=h3;exact⟨_,_,rfl,by rw[h1];exact⟨λ_=>rfl,λ_=>rfl⟩,h4⟩
  rintro _ w3 ⟨o21,e23,rfl,hee,he⟩;have u:=u.ext he;refine aN rfl (aN rfl ?_);refine⟨λjv w'=>jv=.bool (!(iT m q).isSome)/\w'=w3,?_,?_⟩
  .have Z:¬ (q.t=0/\q.i=0/\m.fault=0/\e23=0)->(iT m q).isSome=false:=λh=>by
    rw[VM];split
    .rename_i h2
     cases hi:(fC m.mem q.cut).isSome with
     | false=>rfl
     | true=>exact absurd ⟨h2.2.1,h2.2.2.1,h2.2.2.2,hee.2 hi⟩ h
    .rfl
   refine aA lG (aB (v:=hZ q.t) bL u.p6.hb rfl (bX (aC (λc2=>⟨vb (by rw[Z bO];rfl),rfl⟩) λc2=>aA qj (aB (v:=hZ q.i) bL u.p6.hb rfl (bX (aC (λI=>⟨vb (by rw[Z bO];rfl),rfl⟩) λI=>bX (aC (λB=>⟨vb (by rw[Z bO];rfl),rfl⟩) λB=>aE (aA yh (aB bL u.hb rfl ?_)))))))));refine bX ?_;refine⟨vb ?_,rfl⟩
   by_cases hf:m.fault=0
   .rw[VM,ej ⟨c1,bO,bO,hf⟩,hee.1 bO,fP bO];rfl
   rw[Z bO,ew hf];rfl
  rintro _ w4 ⟨rfl,rfl⟩ tu;refine aY (λc=>?_) (λc=>?_)
  .have G:iT m q=none:=by
    cases h:iT m q with
    | none=>rfl
    | some E=>rw[h]at c;cases c
   rw[aa4 G (ae7 c1)];exact pop JT (aJ (x:=(⟨0,0,0,0,0⟩:cI)) u.p5 fo rfl rfl λw5 u=>aD (x:=(⟨0,0,0,0,0⟩:cI)) fo u.At (have u:=u.drop.p5.drop.p4.p4.p4.p4.p4;⟨rfl,(qT.shut hu u).mut⟩))
  obtain⟨E,G⟩:∃E,iT m q=some E:=NT.1 (by simpa using c);have VI:fC m.mem q.cut=some E:=by rw[VM]at G;split at G;exact G;cases G
  have hdo:oP m q=(q8 (pq m E) (vd m),⟨15,0,0,qM q.cut q.cut.length,0⟩,0):=by unfold oP;rw[G]
  rw[hdo];have u:=u.drew;refine aE (aA tF (aB qt u.hb rfl (aA me (aB (v:=j0 (J:SV)) eh u.p6.hb rfl (have u:=u.p1;bF auB u (H':=λv=>pM λm2=>fact (D8 m.mem q.cut v m2) (gw a.q m2)) (Φ:=λ_ _=>True) (λV U Y=>?_) ?_)))))
  .exact(C93 a.q m.mem V q.cut _ _ U O.mem rB (λw' hc=>N7 w' (Y w' hc).aG) hql).mono λ_ _ r=>r.mono λ_ _ h=>Q9 h
  rintro v34 w6 _ xC;obtain⟨m2c,zo⟩:=xC.eo
  clear xC
  obtain⟨hcf,u⟩:=zo.mC
  clear zo
  obtain⟨M,_⟩|⟨azm,M,rfl,rfl⟩:=hcf
  .rw[VI]at M;cases M
  obtain rfl:E=azm:=oq.inj (VI.symm.trans M);refine aE (aA DB (aB bL u.p1.hb rfl (aO (show -9223372036854775808<=m.bZ+1/\m.bZ+1<=9223372036854775807 by omega) (aE (aA DB (aT u.p1 bL (dL rfl) rfl λw7 u=>?_))))));obtain⟨VQ,Nu,Vo⟩:=id hu.rc;have GK:=Vo.1;have BW:m.p.recover.length<=1:=zq.f.one;refine bD ([]:List cH) u fx rfl rfl (dL rfl) (λs59 w8 u=>aE (aA oU (aA oT (aB iC u.p1.hb rfl (bJ u fx (Nu _ (hK _ u.aG)) (by simp;omega) dD λs65 w9 u=>pop (v:=j0 (⟨⟨#[]⟩,bW,bW,0⟩:cH)) (by kernel_rfl) (bD ([⟨⟨#[]⟩,bW,bW,0⟩]:List cH) u fx rfl rfl (dL rfl) λs68 w10 u=>?_))))))
  have aa3:=u.dS;refine bJ u.p1 fx aa3 (by simp;omega) dD (λs69 w11 u=>?_);have u:=u.p1.drop;rw[tx]at u;refine jT fx u.dS bO (by simp;omega) (λs72 h72=>?_);have u:=((qT.shut (m:=pq m E) ⟨hu.pr,hu.rc⟩ u.p5.p5.p5.p5.p5).p1).p1;obtain⟨azh,alo⟩:=Kb zq;refine bF ar4 u (H':=λ_=>qT K p (q8 (pq m E) (vd m))) (Φ:=λ_ _=>True) (λV U Y=>?_) ?_
  .refine(C64 K p (pq m E) (vd m) _ _ V _ U (λw' hc=>hK w' (Y w' hc).aG) O.rm (by have:=O.pz.eK;show(cM m.p).length<=_;unfold cM;rw[n4];omega) (λw' hc=>h72 w' (Y w' hc).dS) (aa5 zq Vo) (λt ht=>⟨alo t ht,?_⟩) (λt ht=>?_) bO).mono λ_ _ r=>r.mono λ_ _ h=>⟨trivial,h.2⟩
   .unfold vd at ht
    split at ht
    .rw[wy.1 ht];rfl
    exact D7 zq (List.mem_append_right _ ht)
   unfold vd at ht
   split at ht
   .rw[wy.1 ht];exact l6 _
   exact xe (N8 zq (List.mem_append_right _ ht)) dD
  rintro _ w12 _ u;exact aA me (aB (v:=j0 (J:SV)) eh u.p3.hb rfl (aV auC u (C94 _ q.cut _ (N7 _ u.aG) bO) λw13 he u=>pop (H0 15 (qM q.cut q.cut.length)) (aJ (x:=(⟨15,0,0,qM q.cut q.cut.length,0⟩:cI)) u.p2 fo rfl rfl λSD u=>aD (x:=(⟨15,0,0,qM q.cut q.cut.length,0⟩:cI)) fo u.At (have u:=u.drop.p2.drop.p1.drop;⟨rfl,u.mut⟩))))
 have G:iT m q=none:=by rw[VM,ei λh=>c1 h.1]
 have u:=u.p1.p1.p2;refine dU ar1 u (C22 K p m _ u.has (λw' e=>hKx _ u.aG _ e) O) (λx79 w15 cJ u=>?_);obtain⟨ss,u⟩:=u.RW;have Ol:=u.p1.eF.1;have nz:=FT O;have u:=u.p1.p1.p4.p4.p4;refine⟨λmm y w'=>∃k:Nat,y=hZ (k:Int)/\mm=ss.length-k/\k<=ss.length/\(∀(j:Nat) (x:aS),j<k->(gV m)[j]?=some x->nh q x=false)/\St w F [qT K p m,bY b4 (kp (⟨0,0,0,0,0⟩:cI)),bY b3 (kp (⟨q.kind,q.t,q.i,J⟩:aI)),bH x79 ss,eF (gy ss (gV m))] w',⟨_,0,rfl,rfl,l6 _,λj x h=>absurd h (Mh _),u⟩,?_⟩;rintro mm _ w16 ⟨k,rfl,rfl,hk,Z,u⟩ vZ
 refine aK fO u.p3.dS (aR (aC (λc2=>?_) λc2=>?_));rotate_left
 .have wJ:(gV m).any (nh q)=false:=by
   rw[List.any_eq_false];intro x hx;obtain⟨j,hj⟩:=List.mem_iff_getElem?.1 hx;have:=(kO.1 hj).1;rw[Z j x bO hj];decide
  rw[aa4 G wJ];exact pop JT (aJ (x:=(⟨0,0,0,0,0⟩:cI)) u.p1 fo rfl rfl λw22 u=>aD (x:=(⟨0,0,0,0,0⟩:cI)) fo u.At (have u:=u.drop.p1.drop.p1.drop.p1.drop;⟨rfl,u.mut⟩))
 obtain⟨s,YE⟩:=gx ss (i:=((k:Nat):Int).toNat) bO;obtain⟨x,W⟩:=gx (gV m) (i:=k) bO;obtain⟨gx,rfl,_⟩:=u.p4.eF.2 k s x (by rw[<- qb k];exact YE) W;refine⟨λjv w'=>jv=.bool (nh q x)/\St w F [qT K p m,bY b4 (kp (⟨0,0,0,0,0⟩:cI)),bY b3 (kp (⟨q.kind,q.t,q.i,J⟩:aI)),bH x79 ss,eF (gy ss (gV m))] w',?_,?_⟩
 .have Gy:nh q x=(decide (x.kind=q.kind)&&decide (x.t=q.t)&&decide (x.i=q.i)&&decide (q.cut.length=0)):=by unfold nh;first|rfl|(simp only[eq_comm])
  have u:=u.drew;refine aQ fO u.p3.dS bO YE (λq0 h0=>bV x.kind mZ h0 rfl rfl λr0 g0=>aD (x:=x.kind) bL g0 (aA mZ (aB (v:=hZ q.kind) bL u.p2.hb rfl (aH (aC (λI=>?_) λI=>⟨vb (by rw[Gy,fP I];simp),u⟩)))));refine aQ fO u.p3.dS bO YE (λq1 h1=>bV x.t lG h1 rfl rfl λr1 g1=>aD (x:=x.t) bL g1 (aA lG (aB (v:=hZ q.t) bL u.p2.hb rfl ?_)));exact aH (aC (λB=>aQ fO u.p3.dS bO YE λq2 h2=>bV x.i qj h2 rfl rfl λr2 g2=>aD (x:=x.i) bL g2 (aA qj (aB (v:=hZ q.i) bL u.p2.hb rfl (aH (aC (λc5=>aA me (aB (v:=j0 (J:SV)) eh u.p2.hb rfl (aK cS (N7 _ u.aG) (aH ⟨vb (by rw[Gy,ew I,ew B,ew c5];exact ga.2 bO),u⟩)))) λc5=>⟨vb (by rw[Gy,fP c5];simp),u⟩))))) λB=>⟨vb (by rw[Gy,fP B];simp),u⟩)
 rintro _ w17 ⟨rfl,u⟩ v8;refine aY (λI=>?_) (λI=>?_);rotate_left
 .refine aO bO ?_;refine⟨_,bO,k+1,rfl,rfl,bO,λj x' hj hx'=>?_,u⟩
  by_cases e:j=k
  .subst e;rw[W]at hx';cases hx';exact I
  exact Z j x' bO hx'
 have wJ:(gV m).any (nh q)=true:=List.any_eq_true.2 ⟨x,la W,I⟩;obtain⟨hf0,h0,_,t,ht,hkd⟩:=akM wJ;have hdo:oP m q=(if (gV m).any (nh q)=true then(if q.kind=2 then(match m.l[q.t.toNat]? with|some t=>((tD m t q,tB q.t (dH t.buf q.i),0):gU×cI×Int)|none=>(m,⟨0,0,0,0,0⟩,13))else((iz m q.t).1,(iz m q.t).2,0))else(m,⟨0,0,0,0,0⟩,13)):=by unfold oP;rw[G];rfl
 rw[hdo,ej wJ];refine aA mZ (aB (v:=hZ q.kind) bL u.p2.hb rfl (aH (aC (λB=>?_) λB=>?_)))
 .rw[ej B,ht];refine aA lG (aB (v:=hZ q.t) bL u.p2.hb rfl (aA qj (aB (v:=hZ q.i) bL u.p2.hb rfl (bF ayN u (H':=λ_=>qT K p (tD m t q)) (Φ:=λv _=>v=j0 (tB q.t (dH t.buf q.i))) (λV U Y=>?_) ?_))))
  .exact C95 K p m q q.t q.i rfl rfl t V _ U O rB h0 ht
  rintro _ w18 rfl u;exact aJ (x:=tB q.t (dH t.buf q.i)) u.p1 fo rfl rfl (λw19 u=>aD (x:=tB q.t (dH t.buf q.i)) fo u.At (have u:=u.drop.p1.drop.p1.drop.p1.drop;⟨rfl,u.mut⟩))
 rw[ei B]
 have uw:sX m t=true:=by
  rcases hkd with h|h
  .exact h.2
  .exact absurd h.1 B
 refine aA lG (aB (v:=hZ q.t) bL u.p2.hb rfl (bF ayM u (H':=λ_=>qT K p (iz m q.t).1) (Φ:=λv _=>v=j0 (iz m q.t).2) (λV U Y=>?_) ?_))
 .exact C96 K p m q.t t V _ U (λw' hc=>hK w' (Y w' hc).aG) O hvo rB h0 ht uw Dt
 rintro _ w20 rfl u;exact aJ (x:=(iz m q.t).2) u.p1 fo rfl rfl (λw21 u=>aD (x:=(iz m q.t).2) fo u.At (have u:=u.drop.p1.drop.p1.drop.p1.drop;⟨rfl,u.mut⟩))
def C217(sv:Value)(ps:List Ptr)(G:Nat)(first cap:List Value)(g:Nat->Bool)(w:World)(M:dA (λ_=>True) w sv ps)(W:Plain hH G)(Y:∀(i:Nat) (s:Ptr) (B:World),ps[i]?=some s->Ext w B->Calls hH G (first++[j0 s]++cap).toArray B (ub λv U=>v=.bool (g i)/\Ext B U))(Z:ps.length<=1073741824):CR 217 [sv,(.func (.func G) first.toArray cap.toArray)] w (λv w'=>v=hZ (sC g (u7 ps.length))/\Ext w w'):=by
 have u:=St.start w;refine eZ Tryz.func217 ?_;refine aK Lg (M.ext u.aG) ?_;refine⟨λO y B=>∃k:Nat,y=hZ (k:Int)/\O=ps.length-k/\k<=ps.length/\(∀y∈(u7 ps.length).take k,g y=false)/\St w aZ [] B,⟨_,0,rfl,rfl,l6 _,ee,u⟩,?_⟩;rintro O _ B ⟨k,rfl,rfl,hk,E,u⟩ _;refine aR (aC (λc1=>?_) λ_=>⟨gQ (n3 .i64) (jg (by rw[ld (by rw[S2];omega)]at E;exact E)).symm,u.aG⟩);obtain⟨e,J⟩:=gx ps (i:=((k:Nat):Int).toNat) bO;refine aQ Lg (M.ext u.aG) bO J (λq V=>aD Hi V (gW W (Y k e B J u.aG) ?_))
 rintro _ U ⟨rfl,h2⟩;have u:=u.ext h2;exact aY (λI=>⟨gQ (n3 .i64) (mh E (IY bO) I).symm,u.aG⟩) (λI=>aO bO ⟨_,bO,k+1,rfl,rfl,bO,dY E (IY bO) I,u⟩)
def C142(sv:Value)(ps:List Ptr)(E:Nat)(first cap:List Value)(g:Nat->Bool)(w:World)(I:dA (λ_=>True) w sv ps)(J:Plain hH E)(O:∀(i:Nat) (s:Ptr) (B:World),ps[i]?=some s->Ext w B->Calls hH E (first++[j0 s]++cap).toArray B (ub λv M=>v=.bool (g i)/\Ext B M))(G:ps.length<=1073741824):CR 142 [sv,(.func (.func E) first.toArray cap.toArray)] w (λv w'=>v=.bool ((u7 ps.length).any g)/\Ext w w'):=by
 have u:=St.start w;refine eZ Tryz.func142 ?_;exact aV ara u (C217 _ ps E first cap g _ (I.ext u.aG) J (λi s B h e=>O i s B h (u.aG.then e)) G) (λ_ _ u=>cR ⟨vb (kX _ _),u.aG⟩)
def C140(K Φ:hM)(p:Nat)(room:Int)(t:j1)(w:World)(E:Has (eR K Φ p room t) w)(Ur:K w)(G:t.buf.length<=1000):CR 140 [.pointer (some ⟨p,0,none⟩)] w (λv w'=>v=.bool (!mP t)/\Ext w w'):=by
 obtain⟨Z,V,rg,pl,es,W,M,U,Dm,I,J,_⟩:=eR.rd E;have B:=M.cell (o:=3) rfl;have GF:=J.len;have Y:=rL es;have u:=St.start w;refine eZ Tryz.func140 ?_;refine⟨λO w'=>O=.bool (!mP t)/\Ext w w',?_,?_⟩
 .exact aE (aA jQ (bN sf (B.ext u.aG) (aK uK (I.ext u.aG) (cN (aC (λ_=>⟨vb (by unfold mP;rw[fP (show ¬ t.cE.length=0 from bO)];rfl),u.aG⟩) λ_=>aV ag2 u (C141 K Φ p room t _ (E.ext u.aG) G) λ_ _ u=>bR ⟨vb (by unfold mP;rw[ew (show t.cE.length=0 from bO),Ac]),u.aG⟩)))))
 rintro _ _ h _;exact h
def C68(K:hM)(p:Nat)(m:gU)(w:World)(hm:Has (gu K p m) w)(Y:∀w',Ext w w'->K w')(U:oN m):CR 68 [.pointer (some ⟨p,0,none⟩)] w (λv w'=>v=j0 (iU m)/\Ext w w'):=by
 obtain⟨a,B⟩:=gu.rd hm (Y _ (Ext.refl _));have FU:=B.b.cell (o:=11) rfl;have I:=B.b.cell (o:=12) rfl;have M:=B.b.cell (o:=13) rfl;have J:=B.b.cell (o:=14) rfl;have hlen:=B.len;have Ok:=U.tl;have u:=St.start w;refine oL Tryz.func68 (pl:=P68) ?_;refine aM u yj (λb2 w1 u=>have u:=(u.enc (cs':=kp (⟨0,0,0,false,false⟩:ie)) rfl).drew;aE (aA I7 (bN bL (I.ext u.aG) (aE (aA yi (bN bL (M.ext u.aG) (aE (aA RN (bN bL (J.ext u.aG) (pop (JV m.bZ m.fault m.jd) (aM u yj λb4 _ u=>?_)))))))))))
 refine⟨aF bL (I.ext u.aG),?_⟩;refine⟨aF bL (M.ext u.aG),?_⟩;refine⟨aF bL (J.ext u.aG),?_⟩;refine aJ (x:=(⟨m.bZ,m.fault,m.jd,false,false⟩:ie)) u yT rfl rfl (λ_ u=>?_);refine⟨λw'=>St w aZ [bY b4 (kp (⟨m.bZ,m.fault,m.jd,lD m,false⟩:ie)),bY b2 (kp (⟨0,0,0,false,false⟩:ie))] w',?_,?_⟩
 .refine aE (aA yi (bN bL (M.ext u.aG) (aH (aC (λG=>?_) λG=>?_))))
  .refine aE (aA vw (bN I4 (FU.ext u.aG) ?_))
   refine aV aq9 u (C142 _ a.ps 140 [] [] (λi=>match m.l[i]? with|some t=>!mP t|none=>false) _ (B.ll.ext u.aG) aq7 (λi s w1 h e=>by
    obtain⟨t,ht⟩:∃t,m.l[i]?=some t:=⟨_,l0 (by have:=(kO.1 h).1;omega)⟩;rw[ht];exact C140 K _ s.b m.room t w1 ((B.th i s t h ht).ext (u.aG.then e)) (Y _ (u.aG.then e)) (U.th t (la ht)).bl) bO) (λ_ he u=>?_)
   refine bR (aA qu (aT u AB (dL rfl) rfl λw5 u=>?_));have E:lD m = !((u7 a.ps.length).any λi=>match m.l[i]? with|some t=>!mP t|none=>false):=by unfold lD;rw[ew G,B.len];rfl
   rw[E];exact u
  refine aA qu (aT u AB (dL rfl) rfl λw5 u=>?_);have E:lD m=false:=by unfold lD;rw[fP G];rfl
  rw[E];exact u
 intro _ u _
 have Z:∀(b:Bool) (w':World),mQ m=b->St w aZ [bY b4 (kp (⟨m.bZ,m.fault,m.jd,lD m,b⟩:ie)),bY b2 (kp (⟨0,0,0,false,false⟩:ie))] w'->St w aZ [bY b4 (kp (iU m)),bY b2 (kp (⟨0,0,0,false,false⟩:ie))] w':=λb w' h1 h2=>by
  subst h1;exact h2
 refine⟨λw'=>St w aZ [bY b4 (kp (iU m)),bY b2 (kp (⟨0,0,0,false,false⟩:ie))] w',?_,?_⟩
 .refine aE (aA yi (bN bL (M.ext u.aG) (aH (aC (λG=>?_) λG=>?_))));rotate_left
  .exact aA qw (aT u AB (dL rfl) rfl λ_ u=>Z false _ (by unfold mQ;rw[fP G];rfl) u)
  refine aA qu (aB (v:=.bool (lD m)) AB u.hb rfl (bR (aY (λW=>?_) λW=>?_)));rotate_left
  .exact aA qw (aT u AB (dL rfl) rfl λ_ u=>Z false _ (by unfold mQ;rw[show lD m=true from by simpa using W];simp) u)
  refine dU aq2 u (C67 K p m _ (hm.ext u.aG) (λ_ e=>Y _ (u.aG.then e)) U) (λx45 w7 cJ u=>?_);obtain⟨alp,O,V⟩:=u.dl;refine aK fO O ?_;rw[show alp.length=(gV m).length from V.1];exact aH (have u:=u.drop;aA qw (aT u AB (dL rfl) rfl λ_ u=>Z (decide (((gV m).length:Int)=0)) _ (by unfold mQ;rw[ew G,show lD m=false from by simpa using W];rfl) u))
 intro _ u _;exact aD (x:=iU m) yT u.At (aJ (x:=iU m) u.p1 yT rfl rfl λ_ u=>aD yT u.At ⟨rfl,u.drop.drop.aG⟩)
def alq{φ:bQ->Prop}{p:PD}(h:FP φ p):(wq p).length=0↔p.length=0:=by
 constructor
 .intro B
  rcases aeP (p:=p)with h1|⟨q,u,h2⟩
  .omega
  exact absurd h2 (h.ne q u)
 simp_all[Dq,wq]
def Vq(g:Nat->Bool)(k:Nat):(u7 (k+1)).any g=((u7 k).any g||g k):=cL
def C74(K:hM)(p:Nat)(m:gU)(w:World)(hm:Has (qT K p m) w)(hw:∀w',Ext w w'->K w')(Z:oN m):CR 74 [.pointer (some ⟨p,0,none⟩)] w (λv w'=>v=j0 (iU m)/\Ext w w'):=by
 obtain⟨a,B⟩:=qT.rd hm;have G:=B.b.cell (o:=7) rfl;have GM:=B.b.cell (o:=10) rfl;have I:=B.b.cell (o:=11) rfl;have J:=B.b.cell (o:=12) rfl;have hlen:=B.len;have Ok:=Z.tl;have u:=St.start w;refine oL Tryz.func74 (pl:=P74) ?_;refine aM u yj (λb2 _ u=>have u:=(u.enc (cs':=kp (⟨0,0,0,false,false⟩:ie)) rfl).drew;aE (aA DB (bN bL (G.ext u.aG) (aE (aA yh (bN bL (I.ext u.aG) (aE (aA RJ (bN bL (J.ext u.aG) (aE (aA yh (bN bL (I.ext u.aG) ?_))))))))))));refine aH (pop (Gc m.bZ m.fault m.jd (decide (m.fault=0))) (aM u yj λb3 _ u=>?_))
 refine⟨aF bL (G.ext u.aG),?_⟩;refine⟨aF bL (I.ext u.aG),?_⟩;refine⟨aF bL (J.ext u.aG),?_⟩;refine⟨aF bL (I.ext u.aG),?_⟩;refine aJ (x:=(⟨m.bZ,m.fault,m.jd,decide (m.fault=0),false⟩:ie)) u yT rfl rfl (λ_ u=>?_);refine⟨λmm y w'=>∃k:Nat,y=hZ (k:Int)/\mm=a.ps.length-k/\k<=a.ps.length/\St w aZ [bY b3 (kp (⟨m.bZ,m.fault,m.jd,(decide (m.fault=0)&&!(u7 k).any λi=>match m.l[i]? with|some t=>!mP t|none=>false),false⟩:ie)),bY b2 (kp (⟨0,0,0,false,false⟩:ie))] w',⟨_,0,rfl,rfl,l6 _,by rw[show(decide (m.fault=0)&&!(u7 0).any λi=>match m.l[i]? with|some t=>!mP t|none=>false)=decide (m.fault=0)by simp];exact u⟩,?_⟩
 rintro mm _ w4 ⟨k,rfl,rfl,hk,u⟩ _;refine aE (aA oV (bN Er (GM.ext u.aG) (aK GA (B.ll.ext u.aG) (aR (aC (λc1=>?_) λc1=>?_)))))
 .obtain⟨t,ht⟩:=gx m.l (i:=k) bO;obtain⟨e,U⟩:=gx a.ps (i:=((k:Nat):Int).toNat) bO;have VH:=B.th k e t (by rw[<- qb k];exact U) ht;have kG:=Z.th t (la ht);obtain⟨bp,nv,rg,lv,ds,xq,sW,hB,Dm,hlr⟩:=mq.rd VH;obtain⟨bsv,CK,u6,W⟩:=hB;have V:=sW.cell (o:=0) rfl;have ct3:=sW.cell (o:=3) rfl;have EU:=xq.2.1.1;have Gs:=alq kG.p;have wJ:(u7 (k+1)).any (λi=>match m.l[i]? with|some t=>!mP t|none=>false)=((u7 k).any (λi=>match m.l[i]? with|some t=>!mP t|none=>false)||!mP t):=(Vq _ k).trans (by rw[ht]);refine⟨λw'=>St w aZ [bY b3 (kp (⟨m.bZ,m.fault,m.jd,(decide (m.fault=0)&&!(u7 (k+1)).any λi=>match m.l[i]? with|some t=>!mP t|none=>false),false⟩:ie)),bY b2 (kp (⟨0,0,0,false,false⟩:ie))] w',?_,?_⟩
  rotate_left
  .intro w9 u _;exact aO bO ⟨_,bO,k+1,rfl,rfl,bO,u⟩
  refine⟨λjv w'=>jv=.bool (!mP t)/\w'=w4,?_,?_⟩
  .refine aE (aA oV (bN Er (GM.ext u.aG) (aQ GA (B.ll.ext u.aG) bO U λq hq=>aD Hh hq (aE (aA kR (bN uJ (V.ext u.aG) (aK nE (hlr.ext u.aG) (cN (aC (λ_=>⟨vb (by unfold mP;rw[fP (show ¬ t.cE.length=0 from bO)];rfl),rfl⟩) λM=>aE (aA oV ?_))))))))));refine bN Er (GM.ext u.aG) (aQ GA (B.ll.ext u.aG) bO U λq hq=>aD Hh hq (aE (aA nF (bN yS (ct3.ext u.aG) (aE (aA g8 (bN iO (u6.ext u.aG) (aK fU (W.ext u.aG) (cN ?_)))))))))
   refine⟨vb ?_,rfl⟩;unfold mP;rw[ew (show t.cE.length=0 from bO),Ac,<- decide_not];exact ga.2 bO
  rintro _ _ ⟨rfl,rfl⟩ vZ;refine aY (λE=>?_) (λE=>?_)
  .refine aA qu (aT u AB (dL rfl) rfl λ_ u=>?_);rw[wJ,E,Bool.or_true,Bool.not_true,Bool.and_false];exact u
  rw[wJ,E,Bool.or_false];exact u
 have Y:(decide (m.fault=0)&&!(u7 k).any λi=>match m.l[i]? with|some t=>!mP t|none=>false)=lD m:=by unfold lD;rw[show k=m.l.length from bO];rfl
 rw[Y]at u
 have vL:∀(b:Bool) (w':World),mQ m=b->St w aZ [bY b3 (kp (⟨m.bZ,m.fault,m.jd,lD m,b⟩:ie)),bY b2 (kp (⟨0,0,0,false,false⟩:ie))] w'->St w aZ [bY b3 (kp (iU m)),bY b2 (kp (⟨0,0,0,false,false⟩:ie))] w':=λb w' h1 h2=>by
  subst h1;exact h2
 refine⟨λw'=>St w aZ [bY b3 (kp (iU m)),bY b2 (kp (⟨0,0,0,false,false⟩:ie))] w',?_,?_⟩
 .refine aE (aA yh (bN bL (I.ext u.aG) (aH (aC (λM=>?_) λM=>?_))));rotate_left
  .exact aA qw (aT u AB (dL rfl) rfl λ_ u=>vL false _ (by unfold mQ;rw[fP M];rfl) u)
  refine aA qu (aB (v:=.bool (lD m)) AB u.hb rfl (bR (aY (λE=>?_) λE=>?_)));rotate_left
  .exact aA qw (aT u AB (dL rfl) rfl λ_ u=>vL false _ (by unfold mQ;rw[show lD m=true from by simpa using E];simp) u)
  refine dU ar1 u (C22 K p m _ (hm.ext u.aG) (λ_ e=>hw _ (u.aG.then e)) Z) (λx45 w7 cJ u=>?_);obtain⟨alp,O,aa8⟩:=u.dl;refine aK fO O ?_;rw[show alp.length=(gV m).length from aa8.1];exact aH (have u:=u.drop;aA qw (aT u AB (dL rfl) rfl λ_ u=>vL (decide (((gV m).length:Int)=0)) _ (by unfold mQ;rw[ew M,show lD m=false from by simpa using E];rfl) u))
 intro w9 u vZ;exact aD (x:=iU m) yT u.At (aJ (x:=iU m) u.p1 yT rfl rfl λ_ u=>aD (x:=iU m) yT u.At ⟨rfl,u.drop.drop.aG⟩)
def C75(K:hM)(p:Nat)(m:gU)(w:World)(hm:Has (qT K p m) w)(hw:∀w',Ext w w'->K w')(G:oN m)(U:Kg m)(Dt:m.mem.dW=eW m.p):CR 75 [.pointer (some ⟨p,0,none⟩)] w (λv w'=>kV (bH v (fe m)) w w'):=by
 obtain⟨a,E⟩:=qT.rd hm;have B:=E.b.cell (o:=5) rfl;have GR:=E.b.cell (o:=8) rfl;have iV:=qS m.p;have azn:m.mem.l.length=(iv m.p).length:=by rw[G.mem.ll,Dt];unfold eW;grind
 have Fe:(cT m.p).length=(iv m.p).length:=by unfold cT;grind
 have T6:(iv m.p).length<=20:=by have:=G.mem.fl;have:=G.mem.ll;omega
 have hcb:=G.pz.dT;have hcz:=G.pz.zc;obtain⟨g0,g1,g2,g3,g4,g5,hpv,_,_,_,_,_,EU⟩:=E.uk.pr _ (hw _ (Ext.refl _));rw[hpv]at B;obtain⟨I,C8,zh⟩:=EU.open;have VG:=zh.1;obtain⟨ov,fv,lv,kv,wv,ws,j3,tf,hmo,hmf,CM,ash,hmw⟩:=E.mem.ex;have u:=St.start w;refine akT _ _ _ ?_;unfold S75;refine bD ([]:List Bool) u uH rfl rfl (dL rfl) (λs8 _ u=>aE (aA oU (qm a.pv eg (mW.ext E.b u.aG) rfl (aV IQ u (C62 m.p a.pv _ (E.uk.pr _ (hw _ u.aG)) G.pz) λ_ he u=>?_))));refine⟨λmm o y w'=>∃k:Nat,y=hZ (k:Int)/\mm=I.length-k/\k<=I.length/\St w aZ [bH o ((m.p.dT.take k).map (pw m))] w',⟨_,0,rfl,rfl,l6 _,u⟩,?_⟩
 rintro mm o _ _ ⟨k,rfl,rfl,hk,u⟩ _;refine aE (aA oU (aA jx (bN qX (B.ext u.aG) (aK tn (C8.ext u.aG) (aR (aC (λc1=>?_) λc1=>?_))))));rotate_left
 .rw[ld bO]at u;exact u.fresh
 obtain⟨ct,M⟩:=gx I (i:=((k:Nat):Int).toNat) bO;obtain⟨cl,O⟩:=gx m.p.dT (i:=((k:Nat):Int).toNat) bO;obtain⟨ge,rfl,OQ⟩:=zh.2 _ ct cl M O;obtain⟨alu,azq⟩:=hcz cl (la O);refine⟨λjv w'=>St w aZ [bH jv ((m.p.dT.take (k+1)).map (pw m))] w',?_,?_⟩;rotate_left
 .rintro o2 _ u _;exact aO bO ⟨_,bO,k+1,rfl,rfl,bO,u⟩
 have u:=u.drew;refine aE (aA oU (aA jx (bN qX (B.ext u.aG) (aQ tn C8 bO M λq hq=>bV ge vu hq rfl rfl λq2 Kv=>aD jz (Kv.ext u.aG) (aE (aA oU (qm a.pv eg (mW.ext E.b u.aG) rfl (aE (aA tF (bN qt (GR.ext u.aG) ?_))))))))));refine aE (aA se (bN eh ((tf.cell (o:=2) rfl).ext u.aG) (l9 cS CM bO bO λs49 V=>dU KM u (C124 m.p a.pv _ (E.uk.pr _ (hw _ u.aG)) G.pz) λx38 _ cJ u=>?_)));refine⟨aF qX (B.ext u.aG),?_⟩;refine⟨eA jz (Kv.ext u.aG),?_⟩
 refine⟨aF qt (GR.ext u.aG),?_⟩;refine⟨aF eh ((tf.cell (o:=2) rfl).ext u.aG),?_⟩;refine l9 iD u.dS bO bO (λs40 Z=>aV ahj u (C146 _ _ _ cl.e (gq m.p) (m.mem.l.take (eB m.p).toNat) _ (DL.flat (OQ.ext u.aG)) Z (V.ext u.aG) alu (by unfold gq;rw[l2];omega) azq (U.mem.l.take _)) λ_ he u=>aN rfl (aN rfl (aH ?_)));have J:pw m cl=(decide ((pU (gq m.p) (m.mem.l.take (eB m.p).toNat) cl.e).2=0)&&decide ((pU (gq m.p) (m.mem.l.take (eB m.p).toNat) cl.e).1≠0)):=rfl;refine aC (λc2=>?_) (λc2=>?_)
 .refine bX (bD (([pw m cl]):List Bool) u uH rfl (by rw[J,ew c2,Ac];rfl) (dL rfl) λY w7 u=>?_);have W:=u.dS;refine bJ u.p2 uH W (by rw[n4,l2,mv];omega) dD (λs48 w8 u=>?_);rw[<- gi (k:=k) O];exact u.p1.drop.p1.drop
 refine bD (([pw m cl]):List Bool) u uH rfl (by rw[J,fP c2,Ra];rfl) (dL rfl) (λY w7 u=>?_);have W:=u.dS;refine bJ u.p2 uH W (by rw[n4,l2,mv];omega) dD (λs48 w8 u=>?_);rw[<- gi (k:=k) O];exact u.p1.drop.p1.drop
variable (w:World) (K:Value->hM)
def azt:dI:=λi=>match i with
 | 2=>(.op 0 [] (.op 1 [] (.op 2 [] (.op 4 [] (.alt 3 [1,4] (.alt 5 [1] (.of [(6,[]),(7,[]),(8,[1,4]),(9,[])]) (.alt 8 [1,4] (.of [(5,[1]),(6,[]),(7,[]),(9,[])]) .stop)) (.alt 8 [1,4] (.of [(3,[1,4]),(5,[1]),(6,[]),(7,[]),(9,[])]) .stop))))))
 | 5=>(.of [(0,[]),(1,[]),(2,[]),(3,[1]),(4,[]),(5,[])])
 | _=>.nil
theorem azu:PL 40:=dJ Tryz.func40
theorem asw:PL 101:=dJ Tryz.func101
theorem asx:PL 102:=dJ Tryz.func102
theorem asy:PL 172:=dJ Tryz.func172
end Go.Proofs.YtpdlpabnlkofmaaGreatDoor
namespace Go.Proofs.YtpdlpabnlkofmaaGreatDoor
open Go.Fw
def rh:pr hH (mL 63 [].toArray)=some (.agg [hZ 0,hZ 0,hZ 0,.slice none 0 0].toArray):=by kernel_rfl
def lq(E:Int)(u:Option Addr)(B G:Nat):pr hH (mL 63 [(2,hZ E),(3,.slice u B G)].toArray)=some (.agg [hZ 0,hZ 0,hZ E,.slice u B G].toArray):=by kernel_rfl
def ae8(m:gU)(t:j1)(i:Int)(x:bQ):(eb m t i x).1.bZ=m.bZ:=by
 unfold eb
 repeat' split
 all_goals first|rfl|(unfold rP;split<;>rfl)
theorem aa9(m:gU)(i:Int):(iz m i).1.bZ=m.bZ:=by
 unfold iz
 repeat' split
 all_goals first|rfl|exact ae8 _ _ _ _
def alv(m:gU)(q:aS):m.bZ<=(oP m q).1.bZ/\(oP m q).1.bZ<=m.bZ+1:=by
 unfold oP
 split
 .show m.bZ<=m.bZ+1/\m.bZ+1<=m.bZ+1;omega
 split
 .split
  .split<;>(show m.bZ<=m.bZ/\m.bZ<=m.bZ+1)<;>omega
  show m.bZ<=(iz m q.t).1.bZ/\(iz m q.t).1.bZ<=_;rw[aa9];omega
 grind
structure wH(p:cB)(n:Nat)(m:gU):Prop where
 ok:oN m
 pr:m.p=p
 mb:MB m.mem n
 cr:0<=m.bZ/\m.bZ<=n
def wH.step{p:cB}{n:Nat}{m:gU}{q:aS}(h:wH p n m)(hc:GQ p):wH p (n+1) (oP m q).1:=by
 obtain⟨h1,h2,h3⟩:=akN (q:=q) h.ok (h.pr▸hc)
 have h4:=alv m q
 have h5:=h.cr
 exact⟨h1,h2.trans h.pr,h3 _ h.mb,bO,bO⟩
def wH.new{p:cB}{room:Int}(u:PZ p)(hc:GQ p)(B:1<=room/\room<=16):wH p 0 (iw p room):=
 ⟨aeN u hc B,rfl,λk=>Nat.le_of_eq rfl,Oj 0,Oj 0⟩
def ae9(m:gU)(t:j1)(x:bQ):(rP m t x).mem.dW=m.mem.dW:=by
 unfold rP;split
 .exact uq _ _ _
 rfl
def afa(m:gU)(t:j1)(i:Int)(x:bQ):(eb m t i x).1.mem.dW=m.mem.dW:=by
 unfold eb
 repeat' split
 all_goals first|rfl|exact ae9 _ _ _
def aba(m:gU)(i:Int):(iz m i).1.mem.dW=m.mem.dW:=by
 unfold iz
 repeat' split
 all_goals first|rfl|exact afa _ _ _ _
def Rb{m:gU}(u:oN m)(q:aS):(oP m q).1.mem.dW=m.mem.dW:=by
 unfold oP
 split
 .rfl
 split
 .split
  .split
   .exact(Im u.mem).2.2
   rfl
  exact aba _ _
 rfl
def vS(c:Int):gU->List cI->List aS->gU×List cI×Int
 | m,o,[]=>(m,o,0)
 | m,o,q::r=>if q.kind=3/\c<=m.bZ then(m,o,14)else if (oP m q).2.2≠0 then((oP m q).1,o,(oP m q).2.2)else vS c (oP m q).1 (o++[(oP m q).2.1]) r
def eP(p:cB)(room c:Int):Int:=if fk p≠0 then fk p else if room<1\/16<room then 1 else if c<0\/8<c then 1 else 0
def afb(x y:aI)(h:kp x=kp y):x=y:=by
 obtain⟨a,b,c,⟨d,n,k⟩⟩:=x
 obtain⟨G,b2,I,⟨E,u,B⟩⟩:=y
 simp[kp,j0]at h
 simp[h]
def afc(x y:bE)(h:kp x=kp y):x=y:=by
 obtain⟨a,b,c,⟨d,n,k⟩,⟨Z,V,J⟩,e,f,g,i⟩:=x
 obtain⟨Y,b2,I,⟨G,E,W⟩,⟨O,B,k3⟩,e2,u,M,U⟩:=y
 simp[kp,j0]at h
 simp[h]
def afd(x y:cH)(h:kp x=kp y):x=y:=by
 obtain⟨a,⟨d,n,k⟩,⟨U,J,G⟩,e⟩:=x
 obtain⟨O,⟨E,B,M⟩,⟨I,u,V⟩,W⟩:=y
 simp[kp,j0]at h
 simp[h]
def BH.of{B:Nat->Prop}{w:World}{lv:SV}{qZ:List cO}(h:∀w',ph B w w'->DL w' (j0 lv) qZ):BH (ph B w) lv qZ:=by
 obtain⟨V,W,ht⟩:=ph.fix afd h
 refine⟨V,λw' u=>(ht w' u).1,W,λj O t h1 h2=>?_⟩
 have E:∀w',ph B w w'->ml w' O t:=λw' u=>(ht w' u).2.2 j O t h1 h2
 obtain⟨I,J,rfl,_,_⟩:=E w (ph.refl _ _)
 have G:∀w',ph B w w'->DL w' (j0 I) t.dQ/\DL w' (j0 J) t.body:=λw' u=>by
  obtain⟨Y,U,e,h4,h5⟩:=E w' u
  grind
 obtain⟨rows,_,M⟩:=ph.fix afc λw' u=>(G w' u).2
 exact⟨I,J,rows,rfl,λw' u=>DL.flat (G w' u).1,λw'=>⟨λZ u=>(M Z u).2,λu=>(M w' u).1⟩⟩
def IB.of{B:Nat->Prop}{w:World}{pv:bP}{p:cB}(h:∀w',ph B w w'->ml w' pv p):IB (ph B w) pv p:=by
 obtain⟨O,V,Y,I,G,U,rfl,_⟩:=h w (ph.refl _ _)
 have E:∀w',ph B w w'->DL w' (j0 I) p.threads/\DL w' (j0 G) p.recover:=λw' u=>by
  obtain⟨J,W,a2,Z,M,a5,e,_,_,_,h4,h5,_⟩:=h w' u
  grind
 exact⟨h,BH.of λw' u=>(E w' u).1,BH.of λw' u=>(E w' u).2⟩
def BH.mono{K K2:hM}{lv:SV}{qZ:List cO}(h:BH K lv qZ)(u:∀w,K2 w->K w):BH K2 lv qZ:=by
 obtain⟨E,h1,h2⟩:=h
 exact⟨E,λw B=>h1 w (u w B),h2.mono u⟩
def IB.mono{K K2:hM}{pv:bP}{p:cB}(h:IB K pv p)(u:∀w,K2 w->K w):IB K2 pv p:=⟨λw B=>h.pr w (u w B),h.th.mono u,h.rc.mono u⟩
def GS(K:hM)(lv:Value)(l:List aS):Prop:=∃ts:List aI,∀w,K w->dA (λ_=>True) w lv ts/\gy ts l w
def GS.of{u:Nat->Prop}{w:World}{lv:Value}{l:List aS}(h:∀w',ph u w w'->DL w' lv l):GS (ph u w) lv l:=by
 obtain⟨ts,_,ht⟩:=ph.fix afb h
 exact⟨ts,ht⟩
def GS.mono{K K2:hM}{lv:Value}{l:List aS}(h:GS K lv l)(B:∀w,K2 w->K w):GS K2 lv l:=by
 obtain⟨ts,h1⟩:=h
 exact⟨ts,λw u=>h1 w (B w u)⟩
def GS.nil(K:hM):GS K (.slice none 0 0) []:=⟨[],λw _=>⟨dA.nil _ _,gy.nil⟩⟩
def wH.mono{p:cB}{a b:Nat}{m:gU}(h:wH p a m)(u:a<=b):wH p b m:=⟨h.ok,h.pr,h.mb.mono u,by have:=h.cr;omega⟩
theorem IC{α:Type}{xs:List α}{k:Nat}{x:α}(h:xs[k]?=some x):xs.drop k=x::xs.drop (k+1):=by
 obtain⟨h1,h2⟩:=kO.1 h
 rw[List.drop_eq_getElem_cons h1,h2]
def vk(l:List Bool):Nat:=(l.takeWhile id).length
def yJ(l:List Bool):Int:=if vk l<l.length then(vk l:Int)else -1
def afe{l:List Bool}{k:Nat}{b:Bool}(h:l[k]?=some b)(hb:b=true)(u:vk l=k+vk (l.drop k)):vk l=k+1+vk (l.drop (k+1)):=by
 rw[u,IC h,hb]
 show k+(vk (l.drop (k+1))+1)=_
 omega
def aff{l:List Bool}{k:Nat}{b:Bool}(h:l[k]?=some b)(hb:b=false)(u:vk l=k+vk (l.drop k)):yJ l=k:=by
 have B:=(kO.1 h).1
 have e:vk l=k:=by rw[u,IC h,hb];rfl
 unfold yJ
 omega
def afg{l:List Bool}{k:Nat}(h:l.length<=k)(u:vk l=k+vk (l.drop k)):yJ l = -1:=by
 unfold yJ
 omega
def ot(m:gU):Int×Int:=if m.fault≠0 then(3,m.fault)else if mQ m=true then(4,0)else if lD m=true then(if 0<=yJ (fe m)then(2,yJ (fe m))else(1,0))else(0,0)
def BI(m:gU):aS:=⟨(ot m).1,(ot m).2,m.bZ,m.mem.l.take (eB m.p).toNat⟩
section
variable {m:gU}
theorem abb(h:m.fault≠0):ot m=(3,m.fault):=by unfold ot;grind
theorem abc(h:¬ m.fault≠0)(h2:mQ m=true):ot m=(4,0):=by unfold ot;grind
theorem abd(h:¬ m.fault≠0)(h2:mQ m=false)(h3:lD m=true)(h4:0<=yJ (fe m)):ot m=(2,yJ (fe m)):=by grind[ot,yJ,fe]
theorem abe(h:¬ m.fault≠0)(h2:mQ m=false)(h3:lD m=true)(h4:¬ 0<=yJ (fe m)):ot m=(1,0):=by grind[ot]
theorem abf(h:¬ m.fault≠0)(h2:mQ m=false)(h3:lD m=false):ot m=(0,0):=by grind[ot]
end
def zE:aS:=⟨0,0,0,[]⟩
def BJ(p:cB)(room c:Int)(l:List aS):aS×List cI×Int×Int:=
 if eP p room c≠0 then(zE,[],eP p room c,0)
 else if (vS c (iw p room) [] l).2.2≠0 then(zE,[],(vS c (iw p room) [] l).2.2,((vS c (iw p room) [] l).2.1.length:Int))
 else(BI (vS c (iw p room) [] l).1,(vS c (iw p room) [] l).2.1,0,0)
theorem alw{p:cB}{room c:Int}{l:List aS}(h:eP p room c≠0):BJ p room c l=(zE,[],eP p room c,0):=by unfold BJ;grind
theorem alx{p:cB}{room c:Int}{l:List aS}(h:eP p room c=0)(h2:(vS c (iw p room) [] l).2.2≠0):BJ p room c l=(zE,[],(vS c (iw p room) [] l).2.2,((vS c (iw p room) [] l).2.1.length:Int)):=by grind[BJ,zE,vS,iw]
theorem abg{p:cB}{room c:Int}{l:List aS}(h:eP p room c=0)(h2:(vS c (iw p room) [] l).2.2=0):BJ p room c l=(BI (vS c (iw p room) [] l).1,(vS c (iw p room) [] l).2.1,0,0):=by grind[BJ,BI,vS,iw]
def wx(w:World):ml w (⟨0,0,0,bW⟩:aI) zE:=⟨_,rfl,DL.nil w⟩
def C72(K:hM)(p:Nat)(m:gU)(w:World)(I:Has (gu K p m) w)(G:∀w',Ext w w'->K w')(J:oN m):CR 72 [.pointer (some ⟨p,0,none⟩)] w (λv w'=>kV (bH v m.mem.l) w w'):=by
 obtain⟨a,E⟩:=gu.rd I (G _ (Ext.refl _));have B:=E.b.cell (o:=9) rfl;have u:=St.start w;refine eZ Tryz.func72 ?_;exact aE (aA tG (bN Lf (B.ext u.aG) (dU amS u (C144 a.q m.mem _ (E.mem.ext u.aG) J.mem) λ_ _ _ u=>u.fresh)))
def C172(sv:Value)(xs:List Bool)(w:World)(I:dA (λ_=>True) w sv xs)(U:xs.length<=1073741824):CR 172 [sv,.bool false] w (λv w'=>v=hZ (yJ xs)/\Ext w w'):=by
 have u:=St.start w;refine eZ Tryz.func172 ?_;refine aK uH (I.ext u.aG) ?_;refine⟨λJ y M=>∃k:Nat,y=hZ (k:Int)/\J=xs.length-k/\k<=xs.length/\vk xs=k+vk (xs.drop k)/\St w aZ [] M,⟨_,0,rfl,rfl,l6 _,(Nat.zero_add _).symm,u⟩,?_⟩;rintro J _ M ⟨k,rfl,rfl,W,G,u⟩ _;refine aR (aC (λV=>?_) λ_=>⟨gQ (n3 .i64) (afg bO G).symm,u.aG⟩);obtain⟨e,B⟩:=gx xs (i:=((k:Nat):Int).toNat) bO;refine aQ uH (I.ext u.aG) bO B (λq O=>aD AB O (Wq Le ?_));rw[qb]at B;exact aY (λE=>⟨gQ (n3 .i64) (aff B (by simpa using E) G).symm,u.aG⟩) (λE=>aO bO ⟨_,bO,k+1,rfl,rfl,bO,afe B (by simpa using E) G,u⟩)
def C70(K:hM)(p:Nat)(m:gU)(w:World)(hm:Has (gu K p m) w)(I:∀w',Ext w w'->K w')(B:oN m)(Dt:m.mem.dW=eW m.p):CR 70 [.pointer (some ⟨p,0,none⟩)] w (λv w'=>kV (bH v (fe m)) w w'):=by
 obtain⟨a,E⟩:=gu.rd hm (I _ (Ext.refl _));have O:=E.b.cell (o:=6) rfl;have J:=E.b.cell (o:=5) rfl;have iV:=qS m.p;have CM:m.mem.l.length=(iv m.p).length:=by rw[B.mem.ll,Dt];unfold eW;grind
 have Fe:(cT m.p).length=(iv m.p).length:=by unfold cT;grind
 have T6:(iv m.p).length<=20:=by have:=B.mem.fl;have:=B.mem.ll;omega
 have hcb:=B.pz.dT;have hcz:=B.pz.zc;obtain⟨g0,g1,g2,g3,g4,g5,hpv,_,_,_,_,_,EU⟩:=E.uk.pr _ (I _ (Ext.refl _));rw[hpv]at J;obtain⟨G,C8,zh⟩:=EU.open;have VG:=zh.1;have u:=St.start w;refine ajG _ _ _ ?_;unfold S70;refine aE (aA DC (qm a.pv eg (mW.ext E.b u.aG) rfl (aV YD u (C54 m.p a.pv _ (E.uk.pr _ (I _ u.aG)) B.pz) λ_ he u=>aE (aA DC (aA jx (bN qX (J.ext u.aG) (aK tn (C8.ext u.aG) ?_)))))));refine⟨λmm o y w'=>∃k:Nat,y=hZ (k:Int)/\mm=G.length-k/\k<=G.length/\St w aZ [bH o ((m.p.dT.take k).map (pw m))] w',⟨_,0,rfl,rfl,l6 _,u.eM⟩,?_⟩
 rintro mm o _ _ ⟨k,rfl,rfl,hk,u⟩ _;refine aR (aC (λc1=>?_) λc1=>?_);rotate_left
 .rw[ld bO]at u;exact u.fresh
 obtain⟨ct,U⟩:=gx G (i:=((k:Nat):Int).toNat) bO;obtain⟨cl,V⟩:=gx m.p.dT (i:=((k:Nat):Int).toNat) bO;obtain⟨ge,rfl,OQ⟩:=zh.2 _ ct cl U V;have Z:=(hcz cl (la V)).1;refine⟨λjv w'=>St w aZ [bH jv ((m.p.dT.take (k+1)).map (pw m))] w',?_,?_⟩;rotate_left
 .rintro o2 _ u _;exact aO bO ⟨_,bO,k+1,rfl,rfl,bO,u⟩
 refine aQ tn (C8.ext u.aG) bO U (λq hq=>aD I2 hq (aM u OU λb6 _ u=>aJ (x:=(⟨ge,cl.at_⟩:jC)) u I2 rfl rfl λ_ u=>have u:=u.drew;aA vu (aB (v:=j0 (ge:SV)) jz u.hb rfl (aE (aA I5 (bN jj (O.ext u.aG) (jT iD (E.uk.cs _ (I _ u.aG)) bO bO λs32 Y=>dU ajK u (C72 K p m _ (hm.ext u.aG) (λ_ e=>I _ (u.aG.then e)) B) λx34 _ cJ u=>?_)))))));refine⟨aF jz (u.p1.hb.cell rfl),?_⟩;refine⟨aF jj (O.ext u.aG),?_⟩;refine l9 cS u.dS bO bO (λs36 h36=>aV agp u (C143 _ _ _ cl.e _ _ _ (DL.flat (OQ.ext u.aG)) (Y _ (E.uk.cs _ (I _ u.aG))) h36 Z (by rw[l2];omega)) λ_ he u=>aN rfl (aN rfl (aH ?_)))
 have M:pw m cl=(decide ((pU ((cT m.p).take (eB m.p).toNat) (m.mem.l.take (eB m.p).toNat) cl.e).2=0)&&decide ((pU ((cT m.p).take (eB m.p).toNat) (m.mem.l.take (eB m.p).toNat) cl.e).1≠0)):=rfl;refine aC (λc2=>?_) (λc2=>?_)
 .refine bX (bD (([pw m cl]):List Bool) u uH rfl (by rw[M,ew c2,Ac];rfl) (dL rfl) λs47 w7 u=>?_);have W:=u.dS;refine bJ u.p3 uH W (by rw[n4,l2,mv];omega) dD (λs48 w8 u=>?_);rw[<- gi (k:=k) V];exact u.p1.drop.p1.drop.p1.drop
 refine bD (([pw m cl]):List Bool) u uH rfl (by rw[M,fP c2,Ra];rfl) (dL rfl) (λs47 w7 u=>?_);have W:=u.dS;refine bJ u.p3 uH W (by rw[n4,l2,mv];omega) dD (λs48 w8 u=>?_);rw[<- gi (k:=k) V];exact u.p1.drop.p1.drop.p1.drop
def C102(K:hM)(p:Nat)(m:gU)(pv:bP)(w:World)(O:Has (gu K p m) w)(V:∀w',Ext w w'->K w')(E:oN m)(Dt:m.mem.dW=eW m.p)(Z:ml w pv m.p):CR 102 [j0 pv,.pointer (some ⟨p,0,none⟩)] w (λv w'=>∃ev:aI,v=j0 ev/\kV (eF λw=>ml w ev (BI m)) w w'):=by
 have iV:=qS m.p;have hcb:=E.pz.dT;have CM:m.mem.l.length=(iv m.p).length:=by rw[E.mem.ll,Dt];unfold eW;grind
 have u:=St.start w;refine oL Tryz.func102 (pl:=azt) ?_;refine cG (x:=pv) u (λb2 _ u=>aM u gd λb4 _ u=>have u:=u.enc (cs':=kp (⟨0,0,0,bW⟩:aI)) rfl;aV ajJ u (C68 K p m _ (O.ext u.aG) (λ_ e=>V _ (u.aG.then e)) E) λ_ M u=>aM u yj λb5 _ u=>aJ (x:=iU m) u yT rfl rfl λ_ u=>?_);have u:=u.drew;refine⟨λjv w'=>∃(b6:Nat) (sv:SV),jv=.pointer (some ⟨b6,0,none⟩)/\St w aZ [bY b6 (kp (⟨0,0,m.bZ,sv⟩:aI)),bH (j0 (sv:SV)) (m.mem.l.take (eB m.p).toNat),bY b5 (kp (iU m)),bY b4 (kp (⟨0,0,0,bW⟩:aI)),bY b2 (kp pv)] w',?_,?_⟩
 .refine aA Lh (aB (v:=hZ m.bZ) bL u.hb rfl (aD eg u.p2.At ⟨dU ajK u (C72 K p m _ (O.ext u.aG) (λ_ e=>V _ (u.aG.then e)) E) (λY w6 cJ u=>⟨aF bL (u.p1.hb.cell rfl),⟨eA eg u.p3.At,⟨?_,?_,trivial⟩⟩⟩),?_,trivial⟩))
  .refine aV YD u (C54 m.p pv _ (Na Z u.aG) E.pz) (λw7 M u=>?_);refine⟨aF bL (u.p1.hb.cell rfl),?_⟩;refine su cS u bO bO (λJ u=>?_);obtain⟨sv,rfl⟩:=u.fK;refine pop (lq m.bZ _ _ _) (aM u gd λb6 w8 u=>?_);refine⟨aF bL (u.p2.hb.cell rfl),?_⟩;refine⟨eA eg u.p4.At,?_⟩;exact aJ (x:=(⟨0,0,m.bZ,sv⟩:aI)) u eO rfl rfl (λ_ u=>⟨b6,_,rfl,u⟩)
  .refine aM u gd (λb6 w8 u=>?_);refine⟨aF bL (u.p2.hb.cell rfl),?_⟩;refine⟨eA eg u.p4.At,?_⟩;refine aV YD u (C54 m.p pv _ (Na Z u.aG) E.pz) (λw7 M u=>?_);refine⟨aF bL (u.p2.hb.cell rfl),?_⟩;refine su cS u.p1 bO bO (λJ u=>?_);obtain⟨sv,rfl⟩:=u.fK;exact pop (lq m.bZ _ _ _) (aJ (x:=(⟨0,0,m.bZ,sv⟩:aI)) u.p1 eO rfl rfl λ_ u=>⟨b6,_,rfl,u⟩)
  refine aM u gd (λb6 w8 u=>?_);refine⟨aF bL (u.p1.hb.cell rfl),?_⟩;refine⟨eA eg u.p3.At,?_⟩;refine dU ajK u (C72 K p m _ (O.ext u.aG) (λ_ e=>V _ (u.aG.then e)) E) (λY w6 cJ u=>?_);refine⟨aF bL (u.p2.hb.cell rfl),?_⟩;refine⟨eA eg u.p4.At,?_⟩;refine aV YD u (C54 m.p pv _ (Na Z u.aG) E.pz) (λw7 M u=>?_);refine⟨aF bL (u.p2.hb.cell rfl),?_⟩;refine su cS u bO bO (λJ u=>?_);obtain⟨sv,rfl⟩:=u.fK;exact pop (lq m.bZ _ _ _) (aJ (x:=(⟨0,0,m.bZ,sv⟩:aI)) u.p1 eO rfl rfl λ_ u=>⟨b6,_,rfl,u⟩)
 rintro _ _ ⟨b6,sv,rfl,u⟩ _;refine dU axS u (C70 K p m _ (O.ext u.aG) (λ_ e=>V _ (u.aG.then e)) E Dt) (λx19 _ cJ u=>aV asy u (C172 _ (fe m) _ u.dS (by unfold fe;rw[n4];omega)) λW M u=>?_);have u:=u.drop;refine⟨λw'=>St w aZ [bY b6 (kp (⟨(ot m).1,(ot m).2,m.bZ,sv⟩:aI)),bH (j0 (sv:SV)) (m.mem.l.take (eB m.p).toNat),bY b5 (kp (iU m)),bY b4 (kp (⟨0,0,0,bW⟩:aI)),bY b2 (kp pv)] w',?_,?_⟩
 .refine aA AE (aB (v:=hZ m.fault) bL u.p2.hb rfl (bX (aC (λG=>?_) λG=>?_)))
  .rw[abb G];have u:=u.drew;refine aA AE (aB (v:=hZ m.fault) bL u.p2.hb rfl (aA jy (aT u bL (dL rfl) rfl λw20 u=>?_)));refine⟨aF bL (u.p2.hb.cell rfl),?_⟩;exact aA qk (aT u bL (dL rfl) rfl λ_ u=>u)
  refine aA qw (aB (v:=.bool (mQ m)) AB u.p2.hb rfl (aY (λI=>?_) λI=>?_))
  .rw[abc G I];exact aA jy (aT u bL (dL rfl) rfl λ_ u=>u)
  refine⟨λjv w'=>jv=.bool (lD m&&decide (0<=yJ (fe m)))/\w'=W,?_,?_⟩
  .exact aA qu (aB (v:=.bool (lD m)) AB u.p2.hb rfl (aY (λB=>cR ⟨vb (by rw[B,Ac]),rfl⟩) λB=>⟨vb (by rw[B];rfl),rfl⟩))
  rintro _ _ ⟨rfl,rfl⟩ _;refine aY (λB=>?_) (λB=>?_)
  .rw[Bool.and_eq_true,decide_eq_true_iff]at B;rw[abd G I B.1 B.2];exact aA jy (aT u bL (dL rfl) rfl λ_ u=>aA qk (aT u bL (dL rfl) rfl λ_ u=>u))
  refine aA qu (aB (v:=.bool (lD m)) AB u.p2.hb rfl (aY (λU=>?_) λU=>?_))
  .rw[U,Ac,decide_eq_false_iff_not]at B;rw[abe G I U B];exact aA jy (aT u bL (dL rfl) rfl λ_ u=>u)
  rw[abf G I U];exact u
 rintro _ u _;exact aD (x:=(⟨(ot m).1,(ot m).2,m.bZ,sv⟩:aI)) eO u.At (aJ (x:=(⟨(ot m).1,(ot m).2,m.bZ,sv⟩:aI)) u.p3 eO rfl rfl λ_ u=>aD (x:=(⟨(ot m).1,(ot m).2,m.bZ,sv⟩:aI)) eO u.At (have u:=u.drop.drop.p1.drop.p1.drop.freeze.dN (Ψ:=λw=>ml w (⟨(ot m).1,(ot m).2,m.bZ,sv⟩:aI) (BI m)) (λ_ h=>⟨sv,rfl,DL.j4 h⟩);⟨_,rfl,u.fresh⟩))
end Go.Proofs.YtpdlpabnlkofmaaGreatDoor
