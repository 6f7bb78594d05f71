/-
  Part 7.
-/
import Derived.Test.YtpdlpabnlkofmaaGreatDoorR7x6
set_option maxHeartbeats 8000000
set_option linter.all false
set_option maxRecDepth 100000
open Go.Fw.Flat renaming val->hM,enc->hZ
open List renaming getElem?_eq_some_iff->j0,mem_of_getElem?->kp,take_of_length_le->kE,getElem?_eq_getElem->kO,length_append->kU,length_take->lY,length_singleton->l0,length_map->mE,getElem?_eq_none->mW,append_assoc->nk,getD_eq_getElem?_getD->n0,mem_map->n5,length_cons->ob,mem_cons_self->oi,getElem?_map->oj,append_nil->oo,mem_append->oF,length_drop->qa,replicate->qV,drop_eq_getElem_cons->r6,drop_drop->sZ,getElem?_append_left->s4,length_eq_zero_iff->ta,mem_singleton->ua,take_add_one->uT,drop_eq_nil_of_le->u1,map_append->vf,any_eq_true->v7,range->wx,mem_of_mem_take->wE,ext_getElem?->wS,filter_append->zW,map_congr_left->Af,nil_append->BF,getElem?_set_self->BJ,length_replicate->C2,drop_left->ED,getElem?_set_ne->F1,length_set->G6,getElem?_range->H3,map_map->H4,take_left->M6,length_range->P3,filter_filter->QV,drop_take->UP,replicate_succ'->U9,filter->aay
open Nat renaming zero_le->la,le_trans->te,mul_le_mul_right->Be,not_lt_zero->MO,lt_or_ge->P2
open Go.Instr renaming build->l1
open Go.Fw.Deep renaming dr->mv
open Go.Value renaming int->ng,tuple->Cg
open Option renaming some->n4,toList_some->JD,isSome_iff_exists->NS
open Int renaming toNat_natCast->qb
open Decidable renaming not_not->vy
namespace Go.Proofs.YtpdlpabnlkofmaaGreatDoor
open Go.Fw
theorem xU.ext{w w':World}{p:Nat}{m:Mem}(h:xU w p m)(e:Ext w w'):xU w' p m:=by
 obtain⟨ov,fv,lv,kv,wv,ws,h1,h2,h3,h4,h5,h6,u⟩:=h.ex
 exact⟨ov,fv,lv,kv,wv,ws,h1,h2.of_eq (e.bY _ h2.lt λx=>x),h3.ext e,h4.ext e,h5.ext e,h6.ext e,u.ext e⟩
def Oz{w:World}{p:Nat}{m:Mem}{ov fv lv kv wv:Value}{ws:List mV}(h1:pG ws m)(h2:qd w p [ov,fv,lv,kv,wv])(h3:cZ (λ_=>True) w ov m.of)(h4:cZ (λ_=>True) w fv m.dZ)
  (h5:cZ (λ_=>True) w lv m.l) (h6:cZ (λ_=>True) w kv m.kept) (u:cZ (λ_=>True) w wv ws):xU w p m:=⟨ov,fv,lv,kv,wv,ws,h1,h2,h3,h4,h5,h6,u⟩
section
variable {ws:List mV}{m:Mem}{x:mV}{L:Nat}
theorem rP(B:pG ws m)(E:ve m)(u:x∈ws):0<=x.line/\x.line<fT m.of/\0<=x.cell/\x.cell<m.of.length:=by
 obtain⟨G,h1⟩:=B.2 x u
 have h2:=E.ofr _ (kp h1)
 grind
theorem IM(f:mV->Bool):∀l:List mV,l.length=(l.filter f).length+(l.filter λx=>!f x).length
 | []=>rfl
 | x::l=>by
  have u:=IM f l
  grind
theorem OA(N:Nat):∀(L:Nat) (ws:List mV),(∀x∈ws,0<=x.line/\x.line<L)->(∀n:Int,(ws.filter λx=>decide (x.line=n)).length<=N)->ws.length<=L*N
 | 0,ws,h,_=>by
  cases ws with
  | nil=>simp
  | cons x r=>have:=h x (oi ..);omega
 | L+1,ws,h,u=>by
  have E:=OA N L (ws.filter λx=>!decide (x.line=(L:Int))) (λx B=>by
   grind) (λn=>by
   refine te ?_ (u n)
   have e:∀p q:mV->Bool,(ws.filter q).filter p=(ws.filter p).filter q:=λp q=>by
    rw[QV,QV]
    grind
   grind)
  have e:=IM (λx=>decide (x.line=(L:Int))) ws
  have:=u L
  grind
theorem BP{N:Nat}(u:pG ws m)(B:ve m)(hb:MB m N):ws.length<=20*N:=by
 have h1:=OA N (fT m.of).toNat ws (λx E=>by have:=rP u B E;omega) λn=>by
  have:=hb n
  rw[u.1,mE]at this
  exact this
 have:=B.lb
 exact te h1 (Be _ bM)
def Ae(ws:List mV)(L:Nat):List Int:=(wx L).map fun (i:Nat)=>(((ws.filter λx=>decide (x.line=(i:Int))).length:Nat):Int)
theorem xV:(Ae ws L).length=L:=by simp[Ae]
theorem abx(L:Nat):qV L (0:Int)=Ae [] L:=by
 unfold Ae
 simp[List.map_const']
theorem En{i:Nat}(h:i<L):(Ae ws L)[i]?=some (((ws.filter λx=>decide (x.line=(i:Int))).length:Nat):Int):=by
 unfold Ae;rw[oj,H3 h];rfl
theorem alW{i:Nat}{e:Int}(h:(Ae ws L)[i]?=some e):0<=e/\e<=ws.length:=by
 have hi:i<L:=by have:=(j0.1 h).1;rwa [xV]at this
 rw[En hi]at h
 grind
theorem V7{k:Nat}{e:Int}(E:ws[k]?=some x)(I:0<=x.line)(h1:x.line<L)(B:(Ae (ws.take k) L)[x.line.toNat]?=some e) :
  (Ae (ws.take k) L).set x.line.toNat (e+1)=Ae (ws.take (k+1)) L:=by
 have ht:ws.take (k+1)=ws.take k++[x]:=by rw[uT,E];rfl
 apply wS
 intro i
 by_cases hi:i<L
 .rw[En hi,ht,zW,kU]
  by_cases u:i=x.line.toNat
  .subst u
   rw[BJ (by rw[xV];exact hi)]
   rw[En hi]at B
   have G:([x].filter λx=>decide (x.line=((x.line.toNat:Nat):Int)))=[x]:=by
    have:((x.line.toNat:Nat):Int)=x.line:=bM
    simp[aay,this]
   have:((x.line.toNat:Nat):Int)=x.line:=bM
   simp only[this]at B |-
   simp only[n4.injEq]at B
   simp[aay,B]
  rw[F1 (Ne.symm u),En hi]
  have:¬ x.line=(i:Int):=bM
  simp[aay,this]
 rw[mW (by rw[G6,xV];omega),mW (by rw[xV];omega)]
def tS(m:Mem):List Int:=(wB m).map fun (k:Nat)=>(k:Int)
theorem aby(u:pG ws m):Ae ws (fT m.of).toNat=tS m:=by
 unfold Ae tS wB F8
 rw[H4]
 refine Af λi _=>?_
 simp[u.1]
theorem IN:(tS m).length=(fT m.of).toNat:=by unfold tS;rw[mE,Eb]
end
section
variable {ws:List mV}{m:Mem}{x:mV}
theorem RD{cell n u:Int}{l:List Int}(B:pG ws m)(G:0<=cell)(h1:m.of[cell.toNat]?=some u) :
  pG (ws++[⟨u,cell,n⟩]) {m with l:=l,fF:=pP m.fF u (m.fF u++[⟨cell,n⟩])}:=by
 refine⟨λk=>?_,λx E=>?_⟩
 .show pP m.fF u (m.fF u++[⟨cell,n⟩]) k=_
  rw[zW,vf,<- B.1]
  unfold pP
  grind
 rcases oF.1 E with h|h
 .exact B.2 x h
 grind
def oh(line:Int)(ws:List mV):List kh:=(ws.filter λx=>decide (x.line=line)).map λx=>⟨x.cell,x.n⟩
def DJ(line:Int)(ws:List mV):List mV:=ws.filter λx=>!decide (x.line=line)
theorem abz{k:Nat}{line:Int}(h:ws[k]?=some x)(u:x.line=line):oh line (ws.take (k+1))=oh line (ws.take k)++[⟨x.cell,x.n⟩]:=by
 unfold oh;rw[uT,h,JD,zW,vf];grind
theorem afO{k:Nat}{line:Int}(h:ws[k]?=some x)(u:¬ x.line=line):oh line (ws.take (k+1))=oh line (ws.take k):=by
 unfold oh;rw[uT,h,JD,zW,vf];grind
theorem abA{k:Nat}{line:Int}(h:ws[k]?=some x)(u:x.line=line):DJ line (ws.take (k+1))=DJ line (ws.take k):=by
 unfold DJ;rw[uT,h,JD,zW];grind
theorem afP{k:Nat}{line:Int}(h:ws[k]?=some x)(u:¬ x.line=line):DJ line (ws.take (k+1))=DJ line (ws.take k)++[x]:=by
 unfold DJ;rw[uT,h,JD,zW];grind
theorem abB{k:Nat}{line:Int}:(DJ line (ws.take k)).length<=ws.length:=te (List.length_filter_le ..) cJ
theorem abC{line:Int}{G:List Int}(u:pG ws m):pG (DJ line ws) {m with kept:=G,fF:=pP m.fF line []}:=by
 refine⟨λk=>?_,λx B=>u.2 x (List.mem_filter.1 B).1⟩
 show pP m.fF line [] k=_
 unfold pP DJ
 rw[QV]
 by_cases E:k=line
 .simp_all
 rw[ei E,u.1]
 grind
theorem IP(u:pG ws m)(line:Int):oh line ws=m.fF line:=(u.1 line).symm
end
def alX{k:List Int}{a:List kh}:(nK k a).length=k.length:=xD a k
def C77(p:Nat)(m:Mem)(w:World)(M:xU w p m)(E:ve m):CR 77 [(.pointer (some ⟨p,0,none⟩))] w (λv w'=>v=hH (fT m.of)/\Ext w w'):=by
 have Ig:=M;obtain⟨ov,fv,lv,kv,wv,ws,kc,G,B,V,LC,V8,W⟩:=M.ex;have I:=G.cell (o:=0) rfl;have q1:=G.cell (o:=1) rfl;have q2:=G.cell (o:=2) rfl;have Z:=G.cell (o:=3) rfl;have q4:=G.cell (o:=4) rfl;have KW:=E.fl;have JN:=E.KV;have zI:=E.ll;have B4:=E.kl;have Y:=E.lb;have GL:=mX E;have u:=St.start w;refine py Tryz.func77 (pl:=P77) ?_;refine aE (aA uC (bX eO (I.ext u.aF) (aH cR (B.ext u.aF) (aG (aC (λ_=>⟨fM (ng .i64) (by unfold fT;rw[ej bM]),u.aF⟩) λgJ=>aE (aA uC (have u:=u.drew;bX eO (I.ext u.aF) (aE (aA uC (bX eO (I.ext u.aF) (aH cR (B.ext u.aF) (fr bM ?_))))))))))))
 obtain⟨lU,J⟩:=gx m.of (i:=((m.of.length:Int)-1).toNat) bM;refine aN cR B bM J (λ_ U=>aD bO (U.ext u.aF) ?_);have O:=E.ofr _ (kp J);exact aK bM ⟨fM (ng .i64) (by unfold fT;rw[ei bM,n0,show m.of.length-1=((m.of.length:Int)-1).toNat from bM,J];rfl),u.aF⟩
def C17(p:Nat)(m:Mem)(w:World)(U:xU w p m)(B:ve m)(hb:MB m 1000000):CR 17 [(.pointer (some ⟨p,0,none⟩))] w (λv w'=>kP (bH v (tS m)) w w'):=by
 have Ig:=U;obtain⟨ov,fv,lv,kv,wv,ws,M,G,hmo,hmf,LC,V8,E⟩:=U.ex;have q0:=G.cell (o:=0) rfl;have q1:=G.cell (o:=1) rfl;have q2:=G.cell (o:=2) rfl;have q3:=G.cell (o:=3) rfl;have V:=G.cell (o:=4) rfl;have KW:=B.fl;have JN:=B.KV;have zI:=B.ll;have B4:=B.kl;have Mp:=B.lb;have GL:=mX B;have hwl:=BP M B hb;have u:=St.start w;refine eZ Tryz.func17 ?_;refine aV anF u (C77 _ m _ (Ig.ext u.aF) B) (λY he u=>wL (0:Int) u cR uA bM bM dC λO _ u=>?_);refine⟨λZ x Y=>∃k:Nat,x=hH (k:Int)/\Z=ws.length-k/\k<=ws.length/\St w aZ [bH O (Ae (ws.take k) (fT m.of).toNat)] Y,⟨_,0,rfl,rfl,la _,by rw[abx]at u;exact u⟩,?_⟩
 rintro Z _ _ ⟨k,rfl,rfl,hkw,u⟩ _;refine aE (aA kK (bX tB (V.ext u.aF) (aH tC (E.ext u.aF) (aQ (aC (λjl=>?_) λjl=>?_)))))
 .refine aE (aA kK (bX tB (V.ext u.aF) ?_));obtain⟨W,I⟩:=gx ws (i:=(k:Int).toNat) bM;refine aN tC E bM I (λ_ qB=>bU (W).line wP qB rfl rfl λ_ xd=>aD bO (xd.ext u.aF) ?_);have nU:=rP M B (kp I);have Fu:(Ae (ws.take k) (fT m.of).toNat).length=(fT m.of).toNat:=xV;obtain⟨qZ,J⟩:=gx (Ae (ws.take k) (fT m.of).toNat) (i:=((W).line).toNat) bM;refine dM u cR bM bM (λ_ my=>fZ u bO my J ?_);have hcb:=alW J;have HX:(ws.take k).length<=ws.length:=by rw[lY];omega
  refine aK bM (dM u cR bM bM λ_ q8=>jo _ u bO q8 bM λ_ u=>aK bM ?_);exact⟨_,bM,k+1,rfl,rfl,bM,by rw[<- V7 (k:=k) I nU.1 bM J];exact u⟩
 .rw[kE bM,aby M]at u;exact u.fresh
def C166(p:Nat)(m:Mem)(F:Nat->Prop)(cell n:Int)(w:World)(hF:(gy p m).p w F)(B:ve m)(hb:MB m 1000000):CR 166 [(.pointer (some ⟨p,0,none⟩)),hH cell,hH n] w (λv w'=>v=hH (if G7 m cell=true then 0 else 1)/\mP F (gy p (fh m cell n)) w w'):=by
 have u:=St.begin hF;obtain⟨ov,fv,lv,kv,wv,ws,I,u⟩:=gy.open u;have KW:=B.fl;have JN:=B.KV;have zI:=B.ll;have B4:=B.kl;have Mp:=B.lb;have GL:=mX B;have hwl:=BP I B hb;refine py Tryz.func166 (pl:=avZ) ?_;refine⟨λjv w'=>jv=.bool (decide (cell<0\/m.l.length<=cell))/\w=w',aQ (aC (λ_=>⟨OU bM,rfl⟩) λ_=>aE (aA wO (aB eO u.hb rfl (aH cR u.p3.dS (cQ ⟨yJ bM,rfl⟩))))),?_⟩;rintro _ _ ⟨rfl,Y⟩ _;subst Y;refine aC (λU=>?_) (λU=>?_)
 .have u:=u.p5.p5.p5.p5.p5.p5;have G:G7 m cell=false:=by unfold G7;rw[decide_eq_false_iff_not];omega
  unfold fh;rw[G];exact⟨rfl,(gy.shut I u).mut⟩
 have G:G7 m cell=true:=by unfold G7;rw[decide_eq_true_eq];omega
 refine aE (aA wO (aB eO u.hb rfl ?_));obtain⟨iK,jM⟩:=gx m.l (i:=cell.toNat) bM;refine dM u.p3 cR bM bM (λ_ xd=>jo _ u.p3 bO xd bM λ_ u=>⟨λw'=>St w F [gy p (fh m cell n)] w',aE (aA uC (aB eO u.p1.hb rfl (aH cR u.p2.dS (aQ (aC (λO=>?_) λO=>?_))))),?_⟩)
 .refine aE (aA kK (have u:=u.drew;aB tB u.p1.hb rfl (aE (aA uC (aB eO u.p1.hb rfl ?_)))));obtain⟨M,J⟩:=gx m.of (i:=cell.toNat) bM;refine dM u.p2 cR bM bM (λ_ Z=>fZ u.p2 bO Z J (pop (Jv _ _ _) (bD ([(⟨M,cell,n⟩:mV)]) u tC rfl rfl (dR rfl) λarL _ u=>?_)));refine⟨aI tB (u.p2.hb.cell rfl),?_⟩;have V:=u.dS;refine bL u.p6 tC V (by simp;omega) dC (λW _ u=>have u:=u.p1.drop;aE (aA kK (aW u.p2 tB (dR rfl) u.dS.one λ_ u=>?_)))
  have u:=u.p5.p2.p3.p5.p5.p5.p4.p5.p5.p5.p5.p5;have E:fh m cell n={m with l:=m.l.set cell.toNat n,fF:=pP m.fF M (m.fF M++[⟨cell,n⟩])}:=by unfold fh;rw[ej G,ej bM,n0,J];rfl
  rw[E];exact gy.shut (m:={m with l:=_,fF:=_}) (RD I bM J) u
 .have u:=u.p5.p5.p2.p5.p5.p5;have E:fh m cell n={m with l:=m.l.set cell.toNat n}:=by unfold fh;rw[ej G,ei bM]
  rw[E];exact gy.shut (m:={m with l:=_}) I u
 intro _ u _;exact⟨by rw[G];rfl,u.mut⟩
def C167(p:Nat)(m:Mem)(F:Nat->Prop)(line:Int)(w:World)(hF:(gy p m).p w F)(E:ve m)(hb:MB m 1000000):CR 167 [(.pointer (some ⟨p,0,none⟩)),hH line] w (λv w'=>v=hH (if F5 m line=true then 0 else 1)/\mP F (gy p (oe m line)) w w'):=by
 have u:=St.begin hF;obtain⟨ov,fv,lv,kv,wv,ws,G,u⟩:=gy.open u;have KW:=E.fl;have JN:=E.KV;have zI:=E.ll;have B4:=E.kl;have Mp:=E.lb;have GL:=mX E;have hwl:=BP G E hb;refine py Tryz.func167 (pl:=av0) ?_;refine⟨λjv w'=>jv=.bool (decide (line<0\/fT m.of<=line))/\St w F [bY p [ov,fv,lv,kv,wv],bH ov m.of,bH fv m.dZ,bH lv m.l,bH kv m.kept,bH wv ws] w',aQ (aC (λ_=>⟨vb (by first|exact(ew bM).symm|exact e8.2 bM),u⟩) λ_=>aV anF u (C77 _ m _ (Oz G u.hb u.p1.dS u.p2.dS u.p3.dS u.p4.dS u.p5.dS) E) λ_ _ u=>cQ ⟨vb (by first|exact(ew bM).symm|exact e8.2 bM),u⟩),?_⟩
 rintro _ _ ⟨rfl,u⟩ _;refine aC (λjy=>?_) (λjy=>?_)
 .have u:=u.p5.p5.p5.p5.p5.p5;have M:F5 m line=false:=by unfold F5;rw[decide_eq_false_iff_not];omega
  unfold oe;rw[M];exact⟨rfl,(gy.shut G u).mut⟩
 refine bD ([]:List mV) u tC rfl rfl (dR rfl) (λah8 _ u=>?_);have u:=u.p6.p6.p6.p6.p6.p6.p6;refine⟨λW o x w1=>∃k:Nat,x=hH (k:Int)/\W=ws.length-k/\k<=ws.length/\St w F [bH o (DJ line (ws.take k)),bY p [ov,fv,lv,kv,wv],bH ov m.of,bH fv m.dZ,bH lv m.l,bH kv (nK m.kept (oh line (ws.take k))),bH wv ws] w1,⟨_,0,rfl,rfl,la _,u⟩,?_⟩;rintro W l5 _ _ ⟨k,rfl,rfl,hkw,u⟩ _;refine aE (aA kK (aB tB u.p1.hb rfl (aH tC u.p6.dS (aQ (aC (λiw=>⟨λo w'=>St w F [bH o (DJ line (ws.take (k+1))),bY p [ov,fv,lv,kv,wv],bH ov m.of,bH fv m.dZ,bH lv m.l,bH kv (nK m.kept (oh line (ws.take (k+1)))),bH wv ws] w',?_,?_⟩) λiw=>?_)))))
 .refine aE (aA kK (aB tB u.p1.hb rfl ?_));obtain⟨I,B⟩:=gx ws (i:=(k:Int).toNat) bM;refine dM u.p6 tC bM bM (λ_ my=>mr wP my λ_ sw=>nE I.line u.p6 bO sw B rfl (aG (aC (λJ=>?_) λJ=>?_)))
  .refine aE (aA AM (have u:=u.drew;aB eO u.p1.hb rfl (aE (aA kK (aB tB u.p1.hb rfl (dM u.p6 tC bM bM λ_ uU=>mr LP uU λ_ Ff=>nE I.cell u.p6 bO Ff B rfl (aE (aA kK (aB tB u.p1.hb rfl (dM u.p6 tC bM bM λ_ Y=>?_))))))))));refine mr LQ Y (λ_ O=>nE I.n u.p6 bO O B rfl ?_);have nU:=rP G E (kp B);have Ym:(nK m.kept (oh line (ws.take k))).length=m.kept.length:=alX;obtain⟨X7,PJ⟩:=gx (nK m.kept (oh line (ws.take k))) (i:=I.cell.toNat) bM
   refine dM u.p5 cR bM bM (λ_ Z=>jo _ u.p5 bO Z bM λ_ u=>?_);have u:=u.p6.p1.p6.p6.p6.p6.p6;rw[abA (k:=k) B J,abz (k:=k) B J,CH];exact u
  refine aE (aA kK (aB tB u.p1.hb rfl (dM u.p6 tC bM bM λ_ FN=>fZ u.p6 XA FN B (bD ([I]) u tC rfl rfl (dR rfl) λasI _ u=>?_))));have KT:(DJ line (ws.take k)).length<=ws.length:=abB;have U:=u.dS;refine bL u.p1 tC U (by simp;omega) dC (λasJ _ u=>?_);have u:=u.p1.drop.p6.p6.p6.p6.p6.p6.p6;rw[afP (k:=k) B J,afO (k:=k) B J];exact u
 .rintro V _ u _;exact aK bM (have u:=u.p6.p6.p6.p6.p6.p6.p6;⟨_,bM,k+1,rfl,rfl,bM,u⟩)
 refine aE (aA kK (aW u.p1 tB (dR rfl) u.dS.one λ_ u=>?_));have u:=u.p6.drop.p1.p5.p5.p5.p5.p5;have M:F5 m line=true:=by unfold F5;rw[decide_eq_true_eq];omega
 have QW:oe m line={m with kept:=nK m.kept (m.fF line),fF:=pP m.fF line []}:=by unfold oe;rw[ej M]
 rw[kE bM,IP G]at u;rw[QW,M];exact⟨rfl,(gy.shut (m:={m with kept:=_,fF:=_}) (abC G) u).mut⟩
section
variable {ws:List mV}{m:Mem}{x:mV}{cut:List Int}
def rk(m:Mem)(us:List mV):Mem:={m with fF:=λi=>oh i us}
theorem V9(u:pG ws m):rk m ws=m:=by
 unfold rk
 have:(λi=>oh i ws)=m.fF:=funext λi=>IP u i
 rw[this]
theorem IQ{j:Nat}{v:Int}:∀(us:List kh) (k:List Int),(∀u∈us,u.cell.toNat≠j)->nK (k.set j v) us=(nK k us).set j v
 | [],k,_=>rfl
 | u::us,k,h=>by
  show nK ((k.set j v).set u.cell.toNat u.n) us=(nK (k.set u.cell.toNat u.n) us).set j v
  rw[List.set_comm _ _ (h u (oi ..)).symm,IQ us _ λw B=>h w (List.mem_cons_of_mem _ B)]
theorem IS(i:Int)(us:List mV)(x:mV):oh i (us++[x])=if x.line=i then oh i us++[⟨x.cell,x.n⟩]else oh i us:=by
 unfold oh;grind
theorem OB{us:List mV}(M:∀y∈us,0<=y.cell/\m.of[y.cell.toNat]?=some y.line)(J:0<=x.cell/\m.of[x.cell.toNat]?=some x.line)(V:0<=x.line)(K:Nat) :
  oI (rk m (us++[x])) cut K=if x.line<K/\((oh x.line us).length:Int)<cut.getD x.line.toNat 0 then(oI (rk m us) cut K).set x.cell.toNat x.n else oI (rk m us) cut K:=by
 induction K with
 | zero=>rw[ei bM];rfl
 | succ K I=>
  rw[uW,uW,I]
  show nK _ ((oh (K:Int) (us++[x])).take _)=if _ then(nK _ ((oh (K:Int) us).take _)).set _ _ else nK _ ((oh (K:Int) us).take _)
  rw[IS]
  by_cases G:x.line=(K:Int)
  .have E:x.line.toNat=K:=bM
   rw[ej G,ei bM,<- E,show((x.line.toNat:Nat):Int)=x.line from bM]
   by_cases hc:((oh x.line us).length:Int)<cut.getD x.line.toNat 0
   .rw[ej ⟨bM,hc⟩,kE cJ,CH,kE bM]
   grind
  .rw[ei G]
   by_cases hc:x.line<(K:Int)/\((oh x.line us).length:Int)<cut.getD x.line.toNat 0
   .rw[ej hc,ej ⟨bM,hc.2⟩,IQ]
    intro u B U
    obtain⟨y,O,rfl⟩:=n5.1 (wE B)
    grind
   grind
def pq(us:List mV)(cut:List Int):List Int:=(wx cut.length).map fun (i:Nat)=>max 0 (cut.getD i 0-((oh i us).length:Int))
theorem va{us:List mV}:(pq us cut).length=cut.length:=by simp[pq]
theorem BQ{us:List mV}{i:Nat}(h:i<cut.length):(pq us cut)[i]?=some (max 0 (cut.getD i 0-((oh i us).length:Int))):=by
 grind[pq,oh]
theorem Wa(h:∀(i:Nat) (c:Int),cut[i]?=some c->0<=c):cut=pq [] cut:=by
 apply wS
 intro i
 by_cases hi:i<cut.length
 .rw[BQ hi,kO hi]
  grind[oh]
 grind[pq]
theorem KI{us:List mV}{l e:Int}(E:0<=l)(u:(pq us cut)[l.toNat]?=some e):l.toNat<cut.length/\e=max 0 (cut.getD l.toNat 0-((oh l us).length:Int)):=by
 have B:l.toNat<cut.length:=by have:=(j0.1 u).1;rwa [va]at this
 rw[BQ B,show((l.toNat:Nat):Int)=l from bM]at u
 grind
theorem GA{us:List mV}(E:0<=x.line)(B:x.line.toNat<cut.length):pq (us++[x]) cut=(pq us cut).set x.line.toNat (max 0 (cut.getD x.line.toNat 0-((oh x.line us).length:Int)-1)):=by
 apply wS
 intro i
 by_cases hi:i<cut.length
 .rw[BQ hi,IS]
  by_cases u:i=x.line.toNat
  .subst u
   rw[BJ (by rw[va];exact hi),ej bM,kU,l0,show((x.line.toNat:Nat):Int)=x.line from bM]
   congr 1;omega
  rw[F1 (Ne.symm u),BQ hi,ei bM]
 rw[mW (by rw[va];omega),mW (by rw[G6,va];omega)]
theorem sX{α:Type}{l:List α}{k:Nat}{y:α}(h:l[k]?=some y):l.take (k+1)=l.take k++[y]:=by rw[uT,h];rfl
theorem Ue{k:Nat}{e:Int}(u:pG ws m)(I:ve m)(M:(cut.length:Int)=fT m.of)(h:ws[k]?=some x)(J:(pq (ws.take k) cut)[x.line.toNat]?=some e)(h1:0<e) :
  (pq (ws.take k) cut).set x.line.toNat (e-1)=pq (ws.take (k+1)) cut/\(oI (rk m (ws.take k)) cut cut.length).set x.cell.toNat x.n=oI (rk m (ws.take (k+1))) cut cut.length:=by
 have E:=kp h
 have B:=rP u I E
 obtain⟨h2,h3⟩:=KI B.1 J
 rw[sX h,GA B.1 h2,OB (λy G=>u.2 y (wE G)) (u.2 x E) B.1,ej ⟨bM,bM⟩]
 grind
theorem Uf{k:Nat}{e:Int}(u:pG ws m)(M:ve m)(h:ws[k]?=some x)(G:(pq (ws.take k) cut)[x.line.toNat]?=some e)(h1:¬ 0<e) :
  pq (ws.take k) cut=pq (ws.take (k+1)) cut/\oI (rk m (ws.take k)) cut cut.length=oI (rk m (ws.take (k+1))) cut cut.length:=by
 have E:=kp h
 have B:=rP u M E
 have I:=G
 obtain⟨h2,h3⟩:=KI B.1 G
 rw[sX h,GA B.1 h2,OB (λy J=>u.2 y (wE J)) (u.2 x E) B.1,ei bM]
 refine⟨?_,rfl⟩
 rw[show max 0 (cut.getD x.line.toNat 0-((oh x.line (ws.take k)).length:Int)-1)=e from bM]
 apply wS
 grind
theorem OC{k:Nat}{e:Int}(u:(tS m)[k]?=some e):e=(m.fF k).length:=by
 unfold tS wB at u
 rw[oj]at u
 have B:k<(fT m.of).toNat:=by
  cases h:(F8 m (fT m.of).toNat)[k]? with
  | none=>grind
  | some y=>have:=(j0.1 h).1;unfold F8 at this;grind
 rw[F9 B]at u
 grind
theorem Wb(m:Mem)(cut:List Int):m.kept=oI (rk m []) cut cut.length:=by
 have:∀K,oI (rk m []) cut K=m.kept:=λK=>by
  induction K with
  | zero=>rfl
  | succ K u=>rw[uW,u];simp[rk,oh,nK]
 grind
theorem RE(u:List Int):pG [] (mG m u):=⟨λ_=>rfl,λx h=>by cases h⟩
end
def C92(p:Nat)(m:Mem)(cut:List Int)(cv:Value)(w:World)(hm:xU w p m)(B:ve m)(hb:MB m 1000000)(O:cZ (λ_=>True) w cv cut)(QX:cut.length<=1000):CR 92 [(.pointer (some ⟨p,0,none⟩)),cv] w (λv w'=>(fo m cut=none/\v=.tuple #[.slice none 0 0,hH 1]/\Ext w w')\/∃kX o,fo m cut=some kX/\v=.tuple #[o,hH 0]/\kP (bH o kX) w w'):=by
 have Ig:=hm;obtain⟨ov,fv,lv,kv,wv,ws,J,og,hmo,hmf,LC,V8,V⟩:=hm.ex;have q0:=og.cell (o:=0) rfl;have q1:=og.cell (o:=1) rfl;have q2:=og.cell (o:=2) rfl;have G:=og.cell (o:=3) rfl;have q4:=og.cell (o:=4) rfl;have KW:=B.fl;have JN:=B.KV;have zI:=B.ll;have B4:=B.kl;have Mp:=B.lb;have GL:=mX B;have hwl:=BP J B hb;have hpil:=IN (m:=m);have u:=St.start w;refine aiD _ _ _ _ ?_;unfold S92;refine dT aiz u (C17 _ m _ (Ig.ext u.aF) B hb) (λx13 w1 cK u=>aH cR (O.ext u.aF) (aH cR u.dS (bV (aC (λ_=>.inl ⟨Nu bM,rfl,u.aF⟩) λlP=>?_))))
 refine⟨λW x w1=>∃k:Nat,x=hH (k:Int)/\W=cut.length-k/\k<=cut.length/\(∀(i:Nat) (c:Int),i<k->cut[i]?=some c->0<=c/\c<=(m.fF i).length)/\St w aZ [bH x13 (tS m)] w1,⟨_,0,rfl,rfl,la _,λ_ _ h=>absurd h bM,u⟩,?_⟩;rintro W _ _ ⟨k,rfl,rfl,xo,jT,u⟩ _;refine aH cR u.dS (aQ (aC (λiw=>?_) λiw=>?_))
 .obtain⟨F4,pU⟩:=gx cut (i:=(k:Int).toNat) bM;refine⟨λjv w'=>jv=.bool (decide (F4<0\/((m.fF k).length:Int)<F4))/\St w aZ [bH x13 (tS m)] w',aN cR O bM pU (λ_ sn=>have u:=u.drew;aD bO (sn.ext u.aF) (aQ (aC (λ_=>⟨vb (by first|exact(ew bM).symm|exact e8.2 bM),u⟩) λahx=>?_))),?_⟩
  .refine aN cR O bM pU (λ_ q8=>aD bO (q8.ext u.aF) ?_);obtain⟨e_x37,Z⟩:=gx (tS m) (i:=(k:Int).toNat) bM;refine dM u cR bM bM (λ_ xn=>fZ u bO xn Z (cP ?_));have B0:=OC (k:=k) Z;exact⟨vb (by first|exact(ew bM).symm|exact e8.2 bM),u⟩
  rintro _ _ ⟨rfl,u⟩ _;refine aC (λ_=>.inl ⟨Nt (k:=k) pU bM,rfl,u.aF⟩) (λxh=>aK bM ?_);refine⟨_,bM,k+1,rfl,rfl,bM,λi c hi hc=>?_,u⟩
  by_cases e:i=k
  .subst e;obtain rfl:=n4.inj (hc.symm.trans pU);omega
  exact jT i c bM hc
 have M:(cut.length:Int)=fT m.of:=bM
 refine⟨λa b w'=>St w aZ [bH a cut,bH b m.kept] w',aE (aA AM (have u:=u.drew;bX eO (G.ext u.aF) ⟨bD ([]:List Int) u cR rfl rfl (dR rfl) (λasG _ u=>⟨aI eO (G.ext u.aF),⟨?_,⟨?_,?_⟩⟩⟩),⟨?_,?_⟩⟩)),?_⟩
 .have al1:=(O.ext u.aF);refine bL u cR al1 (by simp<;>omega) dC (λahw _ u=>?_);refine⟨aI eO (G.ext u.aF),?_⟩;refine bD ([]:List Int) u cR rfl rfl (dR rfl) (λs_x44 _ u=>?_);refine⟨aI eO (G.ext u.aF),?_⟩;have Rt:=(V8.ext u.aF);exact bL u cR Rt (by simp<;>omega) dC (λ_ _ u=>have u:=u.p2.drop.p1;u)
 .refine bD ([]:List Int) u cR rfl rfl (dR rfl) (λau0 _ u=>?_);refine⟨aI eO (G.ext u.aF),?_⟩;have abF:=(O.ext u.aF);refine bL u.p1 cR abF (by simp<;>omega) dC (λau1 _ u=>?_);refine⟨aI eO (G.ext u.aF),?_⟩;have abG:=(V8.ext u.aF);exact bL u.p1 cR abG (by simp<;>omega) dC (λ_ _ u=>have u:=u.p2.drop.p1;u)
 .trivial
 .refine bD ([]:List Int) u cR rfl rfl (dR rfl) (λau2 _ u=>?_);refine⟨aI eO (G.ext u.aF),?_⟩;refine bD ([]:List Int) u cR rfl rfl (dR rfl) (λau3 _ u=>?_);refine⟨aI eO (G.ext u.aF),?_⟩;have abH:=(O.ext u.aF);refine bL u cR abH (by simp<;>omega) dC (λau4 _ u=>?_);refine⟨aI eO (G.ext u.aF),?_⟩;have abI:=(V8.ext u.aF);exact bL u.p1 cR abI (by simp<;>omega) dC (λ_ _ u=>have u:=u.p2.drop.p1;u)
 .trivial
 rintro Hp Jb _ u _;have u:=u.p1.p1;refine⟨λW x w1=>∃j:Nat,x=hH (j:Int)/\W=ws.length-j/\j<=ws.length/\St w aZ [bH Hp (pq (ws.take j) cut),bH Jb (oI (rk m (ws.take j)) cut cut.length)] w1,⟨_,0,rfl,rfl,la _,by rw[Wa (λi c hc=>(jT i c (by have:=(j0.1 hc).1;omega) hc).1),Wb m cut]at u;simpa using u⟩,?_⟩;rintro W _ _ ⟨j,rfl,rfl,hj,u⟩ _;refine aE (aA kK (bX tB (q4.ext u.aF) (aH tC (V.ext u.aF) (aQ (aC (λahr=>⟨λw'=>St w aZ [bH Hp (pq (ws.take (j+1)) cut),bH Jb (oI (rk m (ws.take (j+1))) cut cut.length)] w',?_,?_⟩) λahr=>?_)))))
 .refine aE (aA kK (bX tB (q4.ext u.aF) ?_));obtain⟨E,U⟩:=gx ws (i:=(j:Int).toNat) bM;refine aN tC V bM U (λ_ Fh=>aD XA (Fh.ext u.aF) (aR u ado λb_w11 _ u=>aJ (x:=E) u XA rfl rfl λ_ u=>aA wP (aB (v:=hH E.line) bO u.hb rfl ?_)));have nU:=rP J B (kp U);have hlw:(pq (ws.take j) cut).length=cut.length:=va;obtain⟨e_x69,I⟩:=gx (pq (ws.take j) cut) (i:=E.line.toNat) bM;refine dM u.p1 cR bM bM (λ_ MZ=>fZ u.p1 bO MZ I ?_)
  have hlb2:=(KI nU.1 I).2
  have hcg:cut.getD E.line.toNat 0<=1000000:=by
   have Y:E.line.toNat<cut.length:=bM
   rw[n0,kO Y];have h1:=jT _ _ bM (kO Y);have h2:=hb ((E.line.toNat:Nat):Int);simp only[Option.getD_some];omega
  refine cP (aC (λHM=>?_) λHM=>?_)
  .refine aA wP (have u:=u.drew;aB (v:=hH E.line) bO u.hb rfl (aA wP (aB (v:=hH E.line) bO u.hb rfl (dM u.p1 cR bM bM λ_ N3=>fZ u.p1 bO N3 I (fr bM (dM u.p1 cR bM bM λ_ atb=>jo _ u.p1 bO atb bM λ_ u=>aA LP (aB (v:=hH E.cell) bO u.p1.hb rfl (aA LQ (aB (v:=hH E.n) bO u.p1.hb rfl ?_)))))))));have hil:(oI (rk m (ws.take j)) cut cut.length).length=m.kept.length:=mF _ _ _;obtain⟨e_x87,az1⟩:=gx (oI (rk m (ws.take j)) cut cut.length) (i:=E.cell.toNat) bM
   refine dM u.p2 cR bM bM (λ_ atc=>jo _ u.p2 bO atc bM λ_ u=>?_);have u:=u.p2.drop.p1;rw[<- (Ue (k:=j) J B M U I HM).1,<- (Ue (k:=j) J B M U I HM).2];exact u
  have u:=u.drop.p1.p1;rw[<- (Uf (k:=j) J B U I HM).1,<- (Uf (k:=j) J B U I HM).2];exact u
 .rintro _ u _;exact aK bM (have u:=u.p1.p1;⟨_,bM,j+1,rfl,rfl,bM,u⟩)
 have u:=u.drop;rw[kE bM,V9 J]at u;exact .inr ⟨_,_,yw M (λi c _ hc=>jT i c bM hc),rfl,u.fresh⟩
def C93(p:Nat)(m:Mem)(F:Nat->Prop)(cut:List Int)(cv:Value)(w:World)(hF:(gy p m).p w F)(E:ve m)(hb:MB m 1000000)(hC:∀w',gz F w w'->cZ (λ_=>True) w' cv cut)(QX:cut.length<=1000):CR 93 [(.pointer (some ⟨p,0,none⟩)),cv] w (λv w'=>(fo m cut=none/\v=hH 1/\mP F (gy p m) w w')\/∃Z,fo m cut=some Z/\v=hH 0/\mP F (gy p (mG m Z)) w w'):=by
 have u:=St.begin hF;obtain⟨ov,fv,lv,kv,wv,ws,Y,u⟩:=gy.open u;have KW:=E.fl;have JN:=E.KV;have zI:=E.ll;have V:=E.kl;have Mp:=E.lb;have GL:=mX E;refine py Tryz.func93 (pl:=P93) ?_;refine dO aiF (C92 _ m cut _ _ (Oz Y u.hb u.p1.dS u.p2.dS u.p3.dS u.p4.dS u.p5.dS) E hb (hC _ u.aF) bM) ?_;rintro U _ O
 rcases O with⟨B,rfl,he⟩|⟨G,W,B,rfl,cK⟩
 .have u:=u.ext he;exact aO rfl (aO rfl (bV (j5 dC (have u:=u.p5.p5.p5.p5.p5.p5;.inl ⟨B,rfl,(gy.shut Y u).mut⟩))))
 have u:=u.made cK;refine aO rfl (aO rfl (bV (fJ dC (bD ([]:List Int) u cR rfl rfl (dR rfl) λM _ u=>?_))));have lD:=u.p1.dS;refine bL u cR lD (by have I:G.length=m.of.length:=(by unfold fo at B;split at B<;>simp at B;rw[<- B,mF];exact V);simp;omega) dC (λYV _ u=>aE (aA Xz (have u:=u.drew;aB eO u.p2.hb rfl (aE (aA uC (aB eO u.p2.hb rfl (aH cR u.p3.dS (zG cR u.p4.dS bM bM λatd J=>?_))))))));have RF:=(J _ u.p4.dS);refine bL u cR RF (by have I:G.length=m.of.length:=(by unfold fo at B;split at B<;>simp at B;rw[<- B,mF];exact V);simp;omega) dC (λZn _ u=>aE (aA wO (aW u.p2 eO (dR rfl) u.dS.one λ_ u=>aE (aA AM (aW u eO (dR rfl) u.p2.dS.one λ_ u=>aE (aA kK (aW u tB (dR rfl) (rfl) λ_ u=>?_)))))))
 have u:=(((((((((((u.eV (α:=mV)).p6).drop).p6).drop).p6).drop).p3).p3).p5).p5).p5;have I:G.length=m.of.length:=by unfold fo at B;split at B<;>simp at B;rw[<- B,mF];exact V
 rw[show(m.of.length:Int).toNat=G.length from bM,BF]at u;exact .inr ⟨_,B,rfl,(gy.shut (m:=mG m G) (RE _) u).mut⟩
def sY(ps:List Nat)(hd:List Int):List (List Int):=(er (ps.drop hd.length)).map λt=>hd++t
def vK(ps:List Nat)(hd:List Int)(n:Nat):List (List Int):=(wx n).flatMap fun (i:Nat)=>sY ps (hd++[(i:Int)])
section
variable {ps:List Nat}{hd:List Int}{P n:Nat}
theorem Wc(h:hd.length=ps.length):sY ps hd=[hd]:=by
 unfold sY;rw[h,List.drop_length];simp[er]
theorem We(ps:List Nat):sY ps []=er ps:=by unfold sY;simp
theorem CT:(sY ps hd).length=(er (ps.drop hd.length)).length:=by unfold sY;rw[mE]
theorem xW:vK ps hd (n+1)=vK ps hd n++sY ps (hd++[(n:Int)]):=by
 unfold vK;rw[List.range_succ,List.flatMap_append];simp
theorem afQ(h:ps[hd.length]?=some P):ps.drop hd.length=P::ps.drop (hd.length+1):=by
 obtain⟨h1,h2⟩:=j0.1 h
 rw[r6 h1,h2]
theorem GB(h:ps[hd.length]?=some P):vK ps hd (P+1)=sY ps hd:=by
 unfold vK sY
 rw[afQ h,er,List.map_flatMap]
 congr 1
 funext i
 rw[kU,l0,H4]
 refine Af λt _=>?_
 simp
theorem Ag:∀n:Nat,(vK ps hd n).length=n*(er (ps.drop (hd.length+1))).length
 | 0=>by simp[vK]
 | n+1=>by rw[xW,kU,Ag n,CT,kU,l0,Nat.add_mul,Nat.one_mul]
theorem abJ(h:ps[hd.length]?=some P)(u:n<=P):(vK ps hd n).length+(sY ps (hd++[(n:Int)])).length<=(er (ps.drop hd.length)).length:=by
 rw[<- kU,<- xW,<- CT,<- GB h,Ag,Ag]
 exact Be _ bM
theorem Wf(h:ps[hd.length]?=some P):(er (ps.drop (hd.length+1))).length<=(er (ps.drop hd.length)).length:=by
 have:=abJ (n:=0) h (la _)
 rw[CT,kU,l0]at this
 omega
end
def oJ(m:Mem)(c:List Int):List Int:=oI m c c.length
def xX(m:Mem)(k:Nat):List (List Int)×List (List Int):=G8 (oJ m) ((er (wB m)).take k)
section
variable {m:Mem}{k:Nat}{a:List Int}
theorem afR(h:(er (wB m))[k]?=some a)(hi:oJ m a∈(xX m k).2):xX m (k+1)=xX m k:=by
 unfold xX at *;rw[sX h,xF,ej hi]
theorem al4(h:(er (wB m))[k]?=some a)(hi:¬ oJ m a∈(xX m k).2):xX m (k+1)=((xX m k).1++[a],(xX m k).2++[oJ m a]):=by
 unfold xX at *;rw[sX h,xF,ei hi]
theorem Ug{α:Type}{p:List α->Prop}(B:p [])(h1:∀l a,p l->p (l++[a]))(l:List α):p l:=by
 have h:∀l:List α,p l.reverse:=λl=>by
  induction l with
  | nil=>exact B
  | cons a l u=>rw[List.reverse_cons];exact h1 _ _ u
 have:=h l.reverse
 rwa [List.reverse_reverse]at this
theorem abK{x y:List Int}(h:x.length=y.length)(e:Vk x=Vk y):x=y:=(List.append_inj e h).1
theorem Uh(m:Mem)(l:List (List Int)):G8 (Nx m) l=((G8 (oJ m) l).1,(G8 (oJ m) l).2.map Vk)/\∀y∈(G8 (oJ m) l).2,y.length=m.kept.length:=by
 refine Ug (p:=λl=>G8 (Nx m) l=((G8 (oJ m) l).1,(G8 (oJ m) l).2.map Vk)/\∀y∈(G8 (oJ m) l).2,y.length=m.kept.length) ⟨rfl,λy h=>by cases h⟩ (λl c J=>?_) l
 obtain⟨G,B⟩:=J
 rw[xF,xF,G]
 have hc:Nx m c=Vk (oJ m c):=rfl
 have E:(oJ m c).length=m.kept.length:=mF _ _ _
 by_cases h:oJ m c∈(G8 (oJ m) l).2
 .rw[ej h,ej (by rw[hc];exact List.mem_map_of_mem h)];exact⟨rfl,B⟩
 rw[ei h,ei (λI=>by
  obtain⟨y,u,e⟩:=n5.1 I
  rw[hc]at e
  exact h (by rw[<- abK (by rw[B y u,E]) e];exact u))]
 refine⟨by rw[hc,vf];rfl,λy u=>?_⟩
 rcases oF.1 u with u|u
 .exact B y u
 rw[ua.1 u];exact E
theorem afS(h:(er (wB m)).length<=k):(xX m k).1=By m:=by
 unfold xX By;rw[kE h,(Uh m _).1]
theorem abL:(xX m k).1.length<=(er (wB m)).length:=by
 unfold xX;exact te (Kc _ _) (by rw[lY];omega)
theorem abM:(xX m k).2.length=(xX m k).1.length:=by
 unfold xX
 generalize (er (wB m)).take k=l
 exact Ug (p:=λl=>(G8 (oJ m) l).2.length=(G8 (oJ m) l).1.length) rfl (λl c u=>by rw[xF];split<;>simp[u]) l
theorem afT{a:List Int}(h:a∈er (wB m))(u:ve m):fo m a=some (oJ m a)/\a.length<=1000:=by
 have B:=xE h
 rw[Eb]at B
 have E:=mX u
 have:=u.lb
 refine⟨yw bM λi c hi hc=>CI h (i:=i) (p:=(m.fF i).length) (by unfold wB;exact F9 bM) hc,bM⟩
theorem any_succ{α:Type}{l:List α}{j:Nat}{b:α}{f:α->Bool}(h:l[j]?=some b):(l.take (j+1)).any f=((l.take j).any f||f b):=by rw[sX h,List.any_append];simp
end
theorem C147(ps:List Nat)(hd:List Int)(pv:Value)(E:SV)(N:Nat)(w:World)(W:cZ (λ_=>True) w pv (ps.map fun (k:Nat)=>(k:Int)))(J:cZ (λ_=>True) w (hM E) hd)(hlen:hd.length<=ps.length)(M:ps.length<=1000)(hC:(er (ps.drop hd.length)).length<=1000000000)(I:∀q∈ps,q<=1000000)(hN:ps.length-hd.length<N):CR 147 [pv,hM E] w (λv w'=>∃G:List SV,kP (sep (bH v G) (eA λw'=>cZ (λ_=>True) w' (hM E) hd->fR G (sY ps hd) w')) w w'):=by
 have Z:(ps.map fun (k:Nat)=>(k:Int)).length=ps.length:=mE ..;have u:=St.start w;refine eZ Tryz.func147 ?_;refine aH cR (J.ext u.aF) (aH cR (W.ext u.aF) (aG (aC (λ_=>bD ([E]) u m4 rfl rfl (dR rfl) λ_ _ u=>have u:=u.fH (Φ:=λw'=>cZ (λ_=>True) w' (hM E) hd->fR [E] (sY ps hd) w') (λ_ h=>by rw[Wc bM];exact fR.nil.snoc (DL.jV h));⟨_,(St.join u.p1).fresh⟩) λlj=>oB (α:=(List Int)) u m4 λah8 _ u=>?_)));obtain⟨P,B⟩:=gx ps (i:=hd.length) bM;have hPb:=I P (kp B);have V:=Wf B
 refine⟨λmm o x w1=>∃n:Nat,x=hH (n:Int)/\mm=P+1-n/\n<=P+1/\St w aZ [fz o (vK ps hd n)] w1,⟨_,0,rfl,rfl,la _,u⟩,?_⟩;rintro mm yK _ _ ⟨n,rfl,rfl,hn,u⟩ _;refine aH cR (J.ext u.aF) ?_;obtain⟨Tf,Y⟩:=gx (ps.map fun (k:Nat)=>(k:Int)) (i:=(hd.length:Int).toNat) bM;refine aN cR W bM Y (λ_ FL=>aD bO (FL.ext u.aF) ?_)
 have hex:Tf=(P:Int):=by
  have h0:=Y;rw[oj,show(hd.length:Int).toNat=hd.length from bM,B]at h0;exact(n4.inj h0).symm
 refine gA (aC (λiw=>?_) λiw=>?_)
 .refine bD ([]:List Int) u cR rfl rfl (dR rfl) (λarJ _ u=>?_);have O:=(J.ext u.aF);refine bL u cR O (by simp;omega) dC (λaoX _ u=>bD ([(n:Int)]) u cR rfl rfl (dR rfl) λatd _ u=>?_);have RF:=u.dS;refine bL u.p1 cR RF (by simp;omega) dC (λZn _ u=>?_);have u:=u.p1.drop;obtain⟨Kx,rfl⟩:=u.fV;refine dO ags (C147 ps (hd++[(n:Int)]) _ Kx (N-1) _ (W.ext u.aF) u.dS (by simp;omega) M (by rw[kU,l0];exact te V hC) I (by simp;omega)) ?_;rintro KX _ ⟨U,cK⟩;have u:=((((((u.made cK).split).p2).freeze).p2).gd).dF (Ψ:=fR U (sY ps (hd++[(n:Int)]))) (λ_ h=>h.1 h.2)
  have u:=u.p1.wY.p1;exact fS u m4 (by have:=abJ (n:=n) B bM;omega) dC (λ_ _ u=>aK bM ⟨_,bM,n+1,rfl,rfl,bM,by rw[xW];exact u⟩)
 obtain rfl:n=P+1:=bM
 rw[GB B]at u;obtain⟨G,u⟩:=u.AY;have u:=u.p1.dF (Ψ:=λw'=>cZ (λ_=>True) w' (hM E) hd->fR G (sY ps hd) w') (λ_ h _=>h);exact⟨G,(St.join u.p1).fresh⟩
termination_by N
decreasing_by all_goals omega
def az2(p:Nat)(m:Mem)(cut:List Int)(cv:Value)(w:World)(E:xU w p m)(I:ve m)(hb:MB m 1000000)(G:cZ (λ_=>True) w cv cut)(J:cut.length<=1000){B:List Int}(hi:fo m cut=some B) :
  Calls g6 92 [(.pointer (some ⟨p,0,none⟩)),cv].toArray w (tc λv w'=>∃o,v=.tuple #[o,hH 0]/\kP (bH o B) w w'):=
 aoH (C92 p m cut cv w E I hb G J) λv w' h=>by
  rcases h with⟨h1,_⟩|⟨u,o,h1,h2,h3⟩
  .rw[hi]at h1;cases h1
  .rw[hi]at h1;cases h1;exact⟨o,h2,h3⟩
def C78(p:Nat)(m:Mem)(w:World)(hm:xU w p m)(M:ve m)(hb:MB m 1000000)(hC:(er (wB m)).length<=1000000000):CR 78 [(.pointer (some ⟨p,0,none⟩))] w (λv w'=>kP (fz v (By m)) w w'):=by
 have Ig:=hm;obtain⟨ov,fv,lv,kv,wv,ws,kc,og,hmo,hmf,LC,V8,hmw⟩:=hm.ex;have q0:=og.cell (o:=0) rfl;have q1:=og.cell (o:=1) rfl;have q2:=og.cell (o:=2) rfl;have q3:=og.cell (o:=3) rfl;have q4:=og.cell (o:=4) rfl;have KW:=M.fl;have JN:=M.KV;have zI:=M.ll;have B4:=M.kl;have Mp:=M.lb;have GL:=mX M;have hpsl:=Eb m;have hpb:∀q∈wB m,q<=1000000:=λ_ hq=>by obtain⟨i,_,rfl⟩:=n5.1 hq;exact hb _
 have u:=St.start w;refine aiy _ _ _ ?_;unfold S78;refine dT aiz u (C17 _ m _ (Ig.ext u.aF) M hb) (λx12 w1 cK u=>bD ([]:List Int) u cR rfl rfl (dR rfl) λs_x13 _ u=>?_);obtain⟨al6,rfl⟩:=u.fV;refine dO ags (C147 (wB m) [] _ al6 ((wB m).length+1) _ u.p1.dS u.dS (la _) bM hC hpb ee) ?_;rintro I _ ⟨B,cK⟩;have u:=((((((u.made cK).split).p2).freeze).p2).gd).dF (Ψ:=fR B (er (wB m))) (λ_ h=>by have W:=h.1 h.2;rwa [We]at W);have u:=u.p1;have OW:=u.UG;refine bD (@List.nil SV) u m4 rfl rfl (dR rfl) (λah8 _ u=>oB (α:=(List Int)) u m4 λarn _ u=>?_)
 have u:=u.p4.drop.p3.p3.p2.p3;refine⟨λZ o h x w1=>∃(k:Nat) (os:List SV),x=hH (k:Int)/\Z=(er (wB m)).length-k/\k<=(er (wB m)).length/\(∀w',fR B (er (wB m)) w'->fR os (xX m k).1 w')/\St w aZ [bH o os,fz h (xX m k).2,bH I B,eA (fR B (er (wB m)))] w1,⟨_,0,[],rfl,rfl,la _,λ_ _=>fR.nil,u⟩,?_⟩;rintro Z GW Ph _ _ ⟨k,os,rfl,rfl,xo,G,u⟩ _;refine aH m4 u.p2.dS (aQ (aC (λm7=>?_) λm7=>?_))
 .obtain⟨a,ha⟩:=gx (er (wB m)) (i:=(k:Int).toNat) bM;have ha2:a∈er (wB m):=kp ha;have hco:=afT ha2 M;have hl1:=abL (m:=m) (k:=k);have GI:=abM (m:=m) (k:=k);have hil:(oJ m a).length=m.kept.length:=mF _ _ _;obtain⟨F4,pU⟩:=gx B (i:=(k:Int).toNat) bM;refine⟨λo h w'=>∃E:List SV,(∀w',fR B (er (wB m)) w'->fR E (xX m (k+1)).1 w')/\St w aZ [bH o E,fz h (xX m (k+1)).2,bH I B,eA (fR B (er (wB m)))] w',?_,?_⟩
  .refine dM u.p2 m4 bM bM (λ_ sn=>fZ u.p2 eO sn pU (dO aiF (az2 _ m a _ _ (Ig.ext u.aF) M hb (DL.flat (u.p3.eA.2 _ _ _ pU ha)) hco.2 hco.1) ?_));rintro x29 _ ⟨ah9,rfl,cK⟩;have u:=u.made cK;refine aO rfl (aO rfl ?_);have u:=u.p2;obtain⟨V,u⟩:=u.AY;have hhl:=u.UG;have u:=u.p5.p5.p5.p4.p4.p5;refine⟨λZ b x w1=>∃j:Nat,b=.bool ((((xX m k).2).take j).any λy=>decide (y=oJ m a))/\x=hH (j:Int)/\Z=((xX m k).2).length-j/\j<=((xX m k).2).length/\St w aZ [bH ah9 (oJ m a),bH Ph V,eA (fR V ((xX m k).2)),bH GW os,bH I B,eA (fR B (er (wB m)))] w1,⟨_,0,rfl,rfl,rfl,la _,u⟩,?_⟩
   rintro Z _ _ _ ⟨j,rfl,rfl,rfl,hj,u⟩ _;refine aH m4 u.p1.dS (aQ (aC (λlr=>?_) λlr=>?_))
   .obtain⟨U,J⟩:=gx ((xX m k).2) (i:=(j:Int).toNat) bM;obtain⟨Gg,qU⟩:=gx V (i:=(j:Int).toNat) bM;refine⟨λjv w'=>jv=.bool ((((xX m k).2).take (j+1)).any λy=>decide (y=oJ m a))/\St w aZ [bH ah9 (oJ m a),bH Ph V,eA (fR V ((xX m k).2)),bH GW os,bH I B,eA (fR B (er (wB m)))] w',aY (λO=>have u:=u.p5.p5.p5.p5.p5.p5;⟨vb (by rw[any_succ (j:=j) J,O];rfl),u⟩) (λO=>dM u.p1 m4 bM bM λ_ N1=>fZ u.p1 eO N1 qU (aV aiC u (C71 _ _ U (oJ m a) _ (DL.flat (u.p2.eA.2 _ _ _ qU J)) u.dS (by have W:=(Uh m ((er (wB m)).take k)).2 U (show U∈(xX m k).2 from kp J);omega)) λ_ _ u=>have u:=u.p5.p5.p5.p5.p5.p5;⟨vb (by rw[any_succ (j:=j) J,show((((xX m k).2).take j).any λy=>decide (y=oJ m a))=false from O];rfl),u⟩)),?_⟩
    rintro _ _ ⟨rfl,u⟩ _;exact aK bM (have u:=u.p5.p5.p5.p5.p5.p5;⟨_,bM,j+1,rfl,rfl,rfl,bM,u⟩)
   have C1:((xX m k).2.take j)=(xX m k).2:=kE bM;have u:=u.p2.p2.wY;refine bQ (aY (λY=>?_) λY=>?_)
   .obtain⟨OD,rfl⟩:=u.p1.fV;have u:=u.p1.freeze.dF (Ψ:=λw=>mv w OD (oJ m a)) (λ_ h=>DL.jV h);refine gk (s:=OD) (x:=(oJ m a)) u m4 dC (λs_x51 _ u=>have u:=u.p1;fS u m4 (by simp;omega) dC λs_x52 _ u=>dM u.p2 m4 bM bM λ_ Nv=>fZ u.p2 eO Nv pU (bD ([F4]) u m4 rfl rfl (dR rfl) λarP _ u=>?_));have al7:=u.dS;refine bL u.p2 m4 al7 (by simp;have:=(G _ u.p4.eA).1;omega) dC (λao8 _ u=>?_);have u:=u.p1.drop.p3.p3.p3.p3
    have hni:¬ oJ m a∈(xX m k).2:=λV=>by
     have W:((xX m k).2.any λy=>decide (y=oJ m a))=true:=v7.2 ⟨_,V,ew rfl⟩;rw[C1]at Y;rw[W]at Y;cases Y
    rw[al4 (k:=k) ha hni];exact⟨os++[F4],λw' h=>(G w' h).snoc (h.2 _ _ _ pU ha),u⟩
   have u:=u.p1.drop.p3.p3.p2.p3
   have hyi:oJ m a∈(xX m k).2:=by
    rw[C1]at Y;have W:((xX m k).2.any λy=>decide (y=oJ m a))=true:=by simpa using Y
    obtain⟨y,h1,h2⟩:=v7.1 W;rw[<- ga h2];exact h1
   rw[afR (k:=k) ha hyi];exact⟨os,G,u⟩
  rintro I9 Xe _ ⟨E,az4,u⟩ _;exact aK bM (have u:=u.p3.p3.p3.p3;⟨_,bM,k+1,E,rfl,rfl,bM,az4,u⟩)
 have u:=(u.p1.drop.p1.drop.p1.p1.p1.dF λw h=>G w h).p1.wY;rw[afS bM]at u;exact u.fresh
structure DoK(K:g7)(d:pA)(q:Dq):Prop where
 x:∀w,K w->mv w d.x q.1
 a:∃ra,∀w,rh K d.body ra q.2.1.flat w
 b:∃rb,∀w,rh K d.et rb q.2.2.1.flat w
 e:d.in_=q.2.2.2
def lh(K:g7)(ds:List pA)(qs:List Dq):Prop:=ds.length=qs.length/\∀(j:Nat) (d:pA) (q:Dq),ds[j]?=some d->qs[j]?=some q->DoK K d q
section
variable {K K2:g7}{ds es:List pA}{qs rs:List Dq}{d:pA}{q:Dq}
theorem lh.nil:lh K [] []:=⟨rfl,λj d q h=>by cases h⟩
theorem lh.cons(h:DoK K d q)(u:lh K ds qs):lh K (d::ds) (q::qs):=by
 refine⟨by simp[u.1],λj e r h1 h2=>?_⟩
 cases j with
 | zero=>cases h1;cases h2;exact h
 | succ j=>exact u.2 j e r h1 h2
theorem lh.head(h:lh K ds (q::qs)):∃d es,ds=d::es/\DoK K d q/\lh K es qs:=by
 cases ds with
 | nil=>have:=h.1;grind
 | cons d es=>exact⟨d,es,rfl,h.2 0 d q rfl rfl,by have:=h.1;grind,λj e r h1 h2=>h.2 (j+1) e r h1 h2⟩
theorem lh.append(h:lh K ds qs)(u:lh K es rs):lh K (ds++es) (qs++rs):=by
 refine⟨by simp[h.1,u.1],λj d q h1 h2=>?_⟩
 have E:=h.1
 by_cases B:j<ds.length
 .rw[s4 B]at h1
  rw[s4 bM]at h2
  exact h.2 j d q h1 h2
 rw[List.getElem?_append_right bM]at h1 h2
 rw[<- E]at h2
 exact u.2 _ d q h1 h2
theorem lh.drop(h:lh K ds qs)(k:Nat):lh K (ds.drop k) (qs.drop k):=by
 refine⟨by simp[h.1],λj d q h1 h2=>?_⟩
 rw[List.getElem?_drop]at h1 h2
 exact h.2 _ d q h1 h2
end
@[reducible] def yF(lv:Value)(B:SV)(rg:Value)(u:Nat)(f:Int):List Value:=[lv,hM B,rg,.pointer (some ⟨u,0,none⟩),.int .i64 f]
def mM(K:g7)(p:Nat)(room:Int)(t:jS):HP:=pK λu:Nat=>pK λB:SV=>pK λrg=>pK λlv=>pK λds:List pA=>fact ((∀w,K w->cZ (λ_=>True) w (hM B) t.names)/\lh K ds (yE t.cD)/\Gs t.cD)
 (sep (bY p (yF lv B rg u t.fault)) (sep (jg u room t.buf) (sep (bH rg t.dQ) (eA λw=>cZ (λ_=>True) w lv ds))))
abbrev RTK(K:g7)(u:SV)(ds:List pA)(t:jS):Prop:=(∀w,K w->cZ (λ_=>True) w (hM u) t.names)/\lh K ds (yE t.cD)/\Gs t.cD
section
variable {w w0:World}{A:Nat->Prop}{R:List HP}{p:Nat}{K:g7}{room:Int}{t:jS}
theorem RG{H1 H2 B u:HP}(E:St w0 A (sep H1 (sep H2 (sep B u))::R) w):St w0 A (H1::H2::B::u::R) w:=by
 have h1:=E.split
 have h2:=h1.p1.split
 have h3:=h2.p1.split
 exact h3.p2.p3
theorem RH{H1 H2 B u:HP}(E:St w0 A (H1::H2::B::u::R) w):St w0 A (sep H1 (sep H2 (sep B u))::R) w:=by
 have h3:=St.join E.p3.p3
 have h2:=St.join h3.p2
 exact St.join h2.p1
theorem mM.open(u:St w0 A (mM K p room t::R) w):∃B E rg lv ds,RTK K E ds t/\
  St w0 A (bY p (yF lv E rg B t.fault)::jg B room t.buf::bH rg t.dQ::eA (λw=>cZ (λ_=>True) w lv ds)::R) w:=by
 obtain⟨B,u⟩:=u.eg;obtain⟨E,u⟩:=u.eg;obtain⟨rg,u⟩:=u.eg;obtain⟨lv,u⟩:=u.eg;obtain⟨ds,u⟩:=u.eg;obtain⟨G,u⟩:=u.mq
 exact⟨B,E,rg,lv,ds,G,RG u⟩
theorem mM.shut{u:Nat}{B:SV}{rg lv:Value}{ds:List pA}(G:RTK K B ds t)
  (E:St w0 A (bY p (yF lv B rg u t.fault)::jg u room t.buf::bH rg t.dQ::eA (λw=>cZ (λ_=>True) w lv ds)::R) w):St w0 A (mM K p room t::R) w:=
 St.eh u (St.eh B (St.eh rg (St.eh lv (St.eh ds (St.oz G (RH E))))))
theorem mM.rd(h:Has (mM K p room t) w):∃B E rg lv ds,RTK K E ds t/\qd w p (yF lv E rg B t.fault)/\ue w B room t.buf/\cZ (λ_=>True) w rg t.dQ/\cZ (λ_=>True) w lv ds:=by
 obtain⟨F,u⟩:=h.st
 obtain⟨B,E,rg,lv,ds,G,u⟩:=mM.open u
 exact⟨B,E,rg,lv,ds,G,u.hb,Ea u.p1,u.p2.dS,u.p3.eA⟩
end
structure RA where
 pv:bN
 q:Nat
 ow:Value
 ll:Value
 ps:List Ptr
@[reducible] def pw(a:RA)(s:gl):List Value:=[hM a.pv.lines,hM a.pv.iO,hM a.pv.eI,hM a.pv.threads,hM a.pv.recover,hM a.pv.eb,.int .i64 s.room,.int .i64 s.dI,.pointer (some ⟨a.q,0,none⟩),a.ow,a.ll,.int .i64 s.fault,.int .i64 s.ku]
structure RSK(K:g7)(a:RA)(s:gl):Prop where
 pr:∀w,K w->mv w a.pv s.p
 rc:∃vF,(∀w,K w->cZ (λ_=>True) w (hM a.pv.recover) vF)/\DF K vF s.p.recover
abbrev OE(K:g7)(room:Int)(s:Ptr)(t:jS):HP:=mM K s.b room t
def qM(K:g7)(p:Nat)(m:gl):HP:=pK λa:RA=>fact (RSK K a m) (sep (bY p (pw a m)) (sep (gy a.q m.mem) (sep (bH a.ow m.eW) (sep (bH a.ll a.ps) (ie (OE K m.room) a.ps m.l)))))
section
variable {w w' w0:World}{A:Nat->Prop}{R:List HP}{p:Nat}{K:g7}{m:gl}{a:RA}{i:Nat}{tp:Ptr}{t:jS}
theorem qM.open(u:St w0 A (qM K p m::R) w):∃a,RSK K a m/\St w0 A (bY p (pw a m)::gy a.q m.mem::bH a.ow m.eW::bH a.ll a.ps::ie (OE K m.room) a.ps m.l::R) w:=by
 obtain⟨a,u⟩:=u.eg;obtain⟨B,u⟩:=u.mq;exact⟨a,B,sO u⟩
theorem qM.shut(u:RSK K a m)(B:St w0 A (bY p (pw a m)::gy a.q m.mem::bH a.ow m.eW::bH a.ll a.ps::ie (OE K m.room) a.ps m.l::R) w):St w0 A (qM K p m::R) w:=
 St.eh a (St.oz u (sP B))
structure az6(K:g7)(w:World)(p:Nat)(m:gl)(a:RA):Prop where
 uk:RSK K a m
 b:qd w p (pw a m)
 mem:xU w a.q m.mem
 ow:cZ (λ_=>True) w a.ow m.eW
 ll:cZ (λ_=>True) w a.ll a.ps
 th:∀(i:Nat) (s:Ptr) (t:jS),a.ps[i]?=some s->m.l[i]?=some t->Has (mM K s.b m.room t) w
 len:a.ps.length=m.l.length
theorem qM.rd(h:Has (qM K p m) w):∃a,az6 K w p m a:=by
 obtain⟨F,u⟩:=h.st
 obtain⟨a,B,u⟩:=qM.open u
 exact⟨a,B,u.hb,Gw (St.has u.p1),u.p2.dS,u.p3.dS,λi s t h1 h2=>u.p4.aiV h1 h2 (Φ:=λw=>Has (mM K s.b m.room t) w) λh=>⟨_,h⟩,u.p4.iV⟩
end
variable (w:World) (K:Value->g7)
def S221(B M I G:Value):Prop:=
 iA 82 B M λa=>lA 164 a w λb=>aL 164 w λc d=>sA 164 c b d λe=>fA 164 c 0 λf=>lA 3 f e λg=>bB .eql 3 g (i 1) λh=>cV h (fA 164 c 1 λj=>lA 3 j e λk=>
 K (.tuple #[k,(i 0)]) e) (fA 164 c 0 λl=>lA 3 l e λn=>bB .eql 3 n (i 2) λo=>cV o (fA 164 c 2 λp=>lA 9 p e λq=>cF 123 [I,q] e λr s=>iA 41 G r λt=>
 lA 3 t s λu=>K (.tuple #[u,(i 0)]) s) (bB .add 3 M (i 1) λv=>cF 221 [B,v,I,G] e λx y=>xT x 0 λz=>xT x 1 λV=>bB .neq 31 V (i 0) λab=>cV ab (
 K (.tuple #[(i 0),V]) y) (fA 164 c 0 λac=>lA 3 ac y λad=>cF 273 [ad] y λae J=>bB .eql 3 ae (i 1) λag=>cV ag (fA 164 c 0 λah=>lA 3 ah J λai=>cF 274 [ai,z] J λY ak=>
 xT Y 0 λal=>xT Y 1 λam=>K (.tuple #[al,am]) ak) (bB .add 3 M (i 1) λan=>cF 251 [B,an] J λao ap=>cF 221 [B,ao,I,G] ap λW O=>xT W 0 λE=>
 xT W 1 λU=>bB .neq 31 U (i 0) λav=>cV av (K (.tuple #[(i 0),U]) O) (fA 164 c 0 λaw=>lA 3 aw O λax=>cF 275 [ax,z,E] O λZ az=>xT Z 0 λa0=>xT Z 1 λa1=>
 K (.tuple #[a0,a1]) az)))))
theorem afV(B E G u:Value)(h:S221 w K B E G u):CR 221 [B,E,G,u] w K:=
 qm 77 (λ_=>.nil) 768 [.tmp 8,.tmp 9] Tryz.func221 h
theorem atf:PL 146:=dL Tryz.func146
theorem abO:PL 221:=dL Tryz.func221
end Go.Proofs.YtpdlpabnlkofmaaGreatDoor
namespace Go.Proofs.YtpdlpabnlkofmaaGreatDoor
open Go.Fw
theorem Ex.Ui{t:Ex}(h:t.wf)(u:kids t.root.op=0):t=.leaf t.root:=by
 have:=Ex.o9 h
 cases t with
 | leaf x=>rfl
 | un x a=>rw[u]at this;cases this
 | bin x a b=>rw[u]at this;cases this
theorem Ex.aia{t:Ex}(h:t.wf)(u:kids t.root.op=1):∃a,t=.un t.root a:=by
 have:=Ex.o9 h
 cases t with
 | leaf x=>rw[u]at this;cases this
 | un x a=>exact⟨a,rfl⟩
 | bin x a b=>rw[u]at this;cases this
theorem Ex.abP{t:Ex}(h:t.wf)(u:kids t.root.op=2):∃a b,t=.bin t.root a b:=by
 have:=Ex.o9 h
 cases t with
 | leaf x=>rw[u]at this;cases this
 | un x a=>rw[u]at this;cases this
 | bin x a b=>exact⟨a,b,rfl⟩
theorem ama{k:Int}(h:kids k=1):G4 k=0:=by
 unfold kids at h;grind[G4]
def B5.OF{xs:List bZ}{i:Int}{t:Ex}(h:B5 xs i t){y:bZ}(u:y∈t.flat):y∈xs:=by
 obtain⟨_,_,r,h⟩:=h
 exact List.mem_of_mem_drop (show y∈xs.drop i.toNat by grind)
theorem C221(lv nv uv:Value)(xs:List bZ)(ns:List ByteArray)(nums:List Int)(i:Int)(t:Ex)(N:Nat)(w:World)(hL:cZ (λ_=>True) w lv xs)(hN:cZ (λ_=>True) w nv ns)(hU:cZ (λ_=>True) w uv nums)(hn:xs.length<=1048576)(B3:ns.length<=1048576)(hle:ns.length=nums.length)(jT:yM nums)(U:∀y∈xs,y.op=2->0<=cU ns y.name)(M:∀y∈xs,eX y.n)(O:B5 xs i t)(hNt:t.size<N) :
   CR 221 [lv,hH i,nv,uv] w (λv w'=>v=.tuple #[hH (t.val ns nums).1,hH (t.val ns nums).2]/\Ext w w'):=by
 obtain⟨e,G⟩:∃e,e=t.root:=⟨_,rfl⟩;have Z:xs[i.toNat]?=some e:=by rw[G];exact O.root.1
 have hem:=kp Z;have hri:=O.root.2;have hie:=O.end;have PM:=Ex.o9 O.2.1;rw[<- G]at PM;have Yi:=tY e.op;have hi0:=O.1;have E:=O.2.1;have B:=St.start w;refine afV _ _ _ _ _ _ ?_;unfold S221;refine aN g9 (hL.ext B.aF) bM Z (λq hq=>aD rY hq (aR B yl λb _ B=>aJ (x:=e) B rY rfl rfl λ_ B=>aA fa (aB bO B.hb rfl (aG (aC (λc1=>?_) λc1=>?_)))))
 .refine aA jj (aB bO B.hb rfl ?_);have ht:=Ex.Ui E (by rw[<- G,c1];rfl);rw[ht,<- G];refine⟨?_,B.drop.aF⟩;show _=Cg #[hH (if e.op=2 then _ else e.n),hH 0];rw[ei bM]
 refine aA fa (aB bO B.hb rfl (aG (aC (λc2=>?_) λc2=>?_)))
 .refine aA gn (aB gB B.hb rfl (aV rR B (C123 _ ns _ _ (hN.ext B.aF) B3) λ_ W B=>?_));obtain⟨j,hj,Bs,_⟩:=lV (dK.1 (U e hem c2));have C1:=(j0.1 Bs).1;obtain⟨u,hu⟩:=gx nums (i:=(cU ns e.name).toNat) bM;refine aN cR (hU.ext B.aF) bM hu (λq2 QP=>aD bO QP ?_);have ht:=Ex.Ui E (by rw[<- G,c2];rfl);rw[ht,<- G];refine⟨?_,B.drop.aF⟩;show _=Cg #[hH (if e.op=2 then nums.getD (cU ns e.name).toNat 0 else e.n),hH 0];rw[ej c2,n0,hu];rfl
 have hk0:kids e.op=1\/kids e.op=2:=by
  have:kids e.op≠0:=λh=>by unfold kids at h;split at h;omega;split at h;omega;split at h;omega;omega
  omega
 obtain⟨a,I⟩:=gx t.eB (i:=0) bM;have hka:=Ex.tZ E (kp I);have J:=O.kid I;have WC:=J.end;rw[show i+1+((qy t.eB 0:Nat):Int)=i+1 by simp[qy]]at J WC;refine aK bM (aV abO B (C221 lv nv uv xs ns nums _ a (N-1) _ (hL.ext B.aF) (hN.ext B.aF) (hU.ext B.aF) hn B3 hle jT U M J bM) λ_ W B=>aO rfl (aO rfl (bV (aC (λY=>?_) λY=>?_))))
 .refine⟨?_,B.drop.aF⟩
  rcases hk0 with h|h
  .obtain⟨a2,ht⟩:=Ex.aia E (by rw[<- G];exact h);rw[ht]at I |-;cases I
   rw[Ex.Gq,ei Y]
  obtain⟨a2,b2,ht⟩:=Ex.abP E (by rw[<- G];exact h);rw[ht]at I |-;cases I
  rw[Ex.BN,ei Y]
 have hao:=Ex.RB (ns:=ns) jT a (λy hy=>M y (J.OF hy));refine aA fa (aB bO B.hb rfl (aV Lt B (C273 _ _) λ_ W B=>aG (aC (λc4=>?_) λc4=>?_)))
 .refine aA fa (aB bO B.hb rfl (aV aod B (C274 _ _ _) λ_ W B=>aO rfl (aO rfl ?_)));refine⟨?_,B.drop.aF⟩;obtain⟨a2,ht⟩:=Ex.aia E (by rw[<- G];exact c4);rw[ht]at I |-;cases I
  rw[Ex.Gq,ej (vy.1 Y),<- G,ama c4]
 have xo:kids e.op=2:=bM
 refine aK bM (aV Lr B (C251 _ _ _ (xs.length+1) _ (hL.ext B.aF) bM bM bM) λ_ W B=>?_);rw[WC.1];obtain⟨b',hb⟩:∃b,t.eB[1]?=some b:=⟨_,kO bM⟩;have hkb':=Ex.tZ E (kp hb);have V:=O.kid hb;rw[uK I,show i+1+((qy t.eB 0+a.size:Nat):Int)=i+1+(a.size:Int)by simp[qy]]at V;refine aV abO B (C221 lv nv uv xs ns nums _ b' (N-1) _ (hL.ext B.aF) (hN.ext B.aF) (hU.ext B.aF) hn B3 hle jT U M V bM) (λ_ W B=>aO rfl (aO rfl ?_));obtain⟨a2,b2,ht⟩:=Ex.abP E (by rw[<- G];exact xo);rw[ht]at I hb |-
 cases I;cases hb
 rw[Ex.BN,ej (vy.1 Y),<- G];refine bV (aC (λc5=>?_) λc5=>?_)
 .refine⟨?_,B.drop.aF⟩;rw[ei c5]
 have hbo:=Ex.RB (ns:=ns) jT b' (λy hy=>M y (V.OF hy));refine aA fa (aB bO B.hb rfl (aV aoe B (C275 _ _ _ _ hao hbo) λ_ W B=>aO rfl (aO rfl ?_)));refine⟨?_,B.drop.aF⟩;rw[ej (vy.1 c5)]
termination_by N
decreasing_by all_goals omega
def C146(lv J M:Value)(xs:List bZ)(ns:List ByteArray)(nums:List Int)(w:World)(Z:cZ (λ_=>True) w lv xs)(I:cZ (λ_=>True) w J ns)(Y:cZ (λ_=>True) w M nums)(W:xs.length<=1048576)(V:ns.length<=1048576)(SQ:∀x∈xs,x.name.size<=1048576)(jT:yM nums) :
  CR 146 [lv,J,M] w (λv w'=>v=.tuple #[hH (qO ns nums xs).1,hH (qO ns nums xs).2]/\Ext w w'):=by
 have u:=St.start w;refine eZ Tryz.func146 ?_;refine aH iF I (aH cR Y (bV (aC (λc1=>?_) λc1=>?_)))
 .have B:qO ns nums xs=(0,1):=by unfold qO;rw[ei bM]
  rw[B];exact⟨rfl,u.aF⟩
 refine dO anY (C220 _ _ xs ns _ Z I W V SQ) ?_;rintro _ _ ⟨s,rfl,cK⟩;have u:=(u.made cK).drop;refine aO rfl (aO rfl (bV (aC (λG=>?_) λG=>?_)))
 .have B:qO ns nums xs=(0,kT ns xs):=by unfold qO;rw[ej bM,ei G]
  rw[B];exact⟨rfl,u.aF⟩
 have O:kT ns xs=0:=vy.1 G;obtain⟨t,hT,B,E,U⟩:=V3 (nums:=nums) O bM;refine aV abO u (C221 lv J M xs ns nums _ t (t.size+1) _ (Z.ext u.aF) (I.ext u.aF) (Y.ext u.aF) W V bM jT E U hT bM) (λ_ he u=>aO rfl (aO rfl ?_));rw[B];exact⟨rfl,u.aF⟩
def Bk.az7{L:List bP}{k:Nat}{x:bP}{a c r:Bk}(h:L.drop k=(Bk.cons x a c r).flat)(B:(Bk.cons x a c r).str){i j e:Int}(hi:i=k+1)(M:j=k+1+x.body)(O:e=k+1+x.body+x.et) :
  L[k]?=some x/\(L.take j.toNat).drop i.toNat=a.flat/\(L.take e.toNat).drop j.toNat=c.flat/\L.drop e.toNat=r.flat/\e.toNat<=L.length:=by
 obtain⟨Y,U,_⟩:=B
 have V:=a.cY
 have W:=c.cY
 have h1:L.drop (k+1)=a.flat++(c.flat++r.flat):=by rw[<- sZ,h];rfl
 have h2:L.drop (k+1+a.flat.length)=c.flat++r.flat:=by rw[<- sZ,h1,ED]
 have h3:L.drop (k+1+a.flat.length+c.flat.length)=r.flat:=by rw[<- sZ,h2,ED]
 have I:=fM List.length h
 have J:(Bk.cons x a c r).flat.length=1+(a.flat.length+(c.flat.length+r.flat.length)):=by simp[Bk.flat];omega
 rw[J,qa]at I
 have G:i.toNat=k+1:=bM
 have u:j.toNat=k+1+a.flat.length:=bM
 have E:e.toNat=k+1+a.flat.length+c.flat.length:=bM
 refine⟨?_,?_,?_,cJ,bM⟩
 .have:(L.drop k)[0]?=some x:=by rw[h];rfl
  grind
 .rw[UP,G,u,h1,show k+1+a.flat.length-(k+1)=a.flat.length by omega,M6]
 rw[UP,u,E,h2,show k+1+a.flat.length+c.flat.length-(k+1+a.flat.length)=c.flat.length by omega,M6]
theorem C128(K:g7)(sv:SV)(rows:List bE)(b:Bk)(w:World)(I:∀w',Ext w w'->K w')(hb:b.str)(OW:∀w,rh K sv rows b.flat w)(HI:b.flat.length<=100000) :
   CR 128 [hM sv] w (λv w'=>∃ds,lh K ds (GO false b)/\kP (bH v ds) w w'):=by
 have u:=St.start w;refine afE _ _ _ ?_;unfold S128;have G:∀w',K w'->cZ (λ_=>True) w' (hM sv) rows:=λw' h=>(OW w').2 h;have Z:∀w',K w'->fR rows b.flat w':=λw' h=>(OW w').1 w' h;have G9:rows.length=b.flat.length:=(Z _ (I _ (Ext.refl _))).1;refine bD ([]:List pA) u oy rfl rfl (dR rfl) (λs8 O u=>?_);refine⟨λmm o y w'=>∃(k:Nat) (ds:List pA) (qs:List Dq) (r:Bk),y=hH (k:Int)/\mm=b.flat.length-k/\r.str/\b.flat.drop k=r.flat/\GO false b=qs++GO false r/\lh K ds qs/\ds.length<=k/\k<=b.flat.length/\St w aZ [bH o ds] w',⟨_,0,[],[],b,rfl,rfl,hb,rfl,rfl,lh.nil,Nat.le_refl _,la _,u⟩,?_⟩
 rintro mm o _ _ ⟨k,ds,qs,r,rfl,rfl,hr,QJ,GY,U,Mq,hk,u⟩ _;refine aH fq (G _ (I _ u.aF)) (aQ (aC (λc=>?_) λc=>?_));rotate_left
 .have h0:r.flat.length=0:=by rw[<- QJ,qa];omega
  have hrn:r=.nil:=by
   cases r with
   | nil=>rfl
   | cons _ _ _ _=>simp[Bk.flat]at h0
  subst hrn;exact⟨ds,by rw[GY];show lh K ds (qs++[]);rw[oo];exact U,u.fresh⟩
 obtain⟨x,a,c',r',rfl⟩:=Bk.D5 (t:=r) (by rw[<- QJ,qa];omega);obtain⟨g1,g2,g3,g4,sa,sc,sr⟩:=id hr;obtain⟨e1,e2,e3,e4,e5⟩:=Bk.az7 QJ hr (i:=(k:Int)+1) (j:=(k:Int)+1+x.body) (e:=(k:Int)+1+x.body+x.et) rfl rfl rfl;obtain⟨t0,Vs⟩:∃t0,rows[k]?=some t0:=⟨_,kO (by have:=(j0.1 e1).1;omega)⟩;have Y:∀w',K w'->mv w' t0 x:=λw' h=>(Z w' h).2 k t0 x Vs e1;obtain⟨J,M,rfl,_,_⟩:=jb (Y _ (I _ u.aF));refine aN fq (G _ (I _ u.aF)) bM (by rw[qb];exact Vs) (λq hq=>aD eK hq (aR u jq λb5 _ u=>aJ (x:=(⟨x.kind,x.eD,x.name,J,M,x.n,x.body,x.et,x.at_⟩:bE)) u eK rfl rfl λ_ u=>aK bM (aA iU (aB (v:=hH x.body) bO u.hb rfl (aK bM (aA iH (aB (v:=hH x.et) bO u.hb rfl (aK bM (have u:=u.drew;aD (x:=(⟨x.kind,x.eD,x.name,J,M,x.n,x.body,x.et,x.at_⟩:bE)) eK u.At (aK bM ?_))))))))))
 refine oA fq (G _ (I _ u.aF)) bM bM bM (λs32 V=>?_);obtain⟨B,rfl⟩:=(V _ (G _ (I _ u.aF))).fV;refine oA fq (G _ (I _ u.aF)) bM bM bM (λs36 W=>?_);obtain⟨E,rfl⟩:=(W _ (G _ (I _ u.aF))).fV;refine pop (KG x.kind x.eD x.name J.a J.n J.cap M.a M.n M.cap x.n x.body x.et x.at_ B.a B.n B.cap E.a E.n E.cap) (bD ([⟨(⟨x.kind,x.eD,x.name,J,M,x.n,x.body,x.et,x.at_⟩:bE),B,E,false⟩]:List pA) u oy rfl rfl (dR rfl) λs38 _ u=>?_);have az8:=u.dS;refine bL u.p2 oy az8 (by rw[l0];omega) dC (λs39 _ u=>⟨_,?_,((k:Int)+1+x.body+x.et).toNat,ds++[⟨(⟨x.kind,x.eD,x.name,J,M,x.n,x.body,x.et,x.at_⟩:bE),B,E,false⟩],qs++[(x,a,c',false)],r',fM (ng .i64) bM,rfl,sr,e4,by rw[GY];simp[GO],U.append (lh.cons ⟨Y,⟨_,λO=>⟨λw' h=>?_,λh=>V O (G O h)⟩⟩,⟨_,λO=>⟨λw' h=>?_,λh=>W O (G O h)⟩⟩,rfl⟩ lh.nil),?_,e5,u.p1.drop.p1.drop⟩)
 .omega
 .have:=fR.cut (i:=((k:Int)+1).toNat) (j:=((k:Int)+1+x.body).toNat) (Z w' h);rw[e2]at this;exact this
 .have:=fR.cut (i:=((k:Int)+1+x.body).toNat) (j:=((k:Int)+1+x.body+x.et).toNat) (Z w' h);rw[e3]at this;exact this
 rw[kU,l0];omega
def C203(p:Nat)(t:jS)(V:Value)(M:SV)(rg:Value)(bp:Nat)(lv:Value)(xs:List bZ)(w:World)(J:qd w p (yF V M rg bp t.fault))(Y:cZ (λ_=>True) w (hM M) t.names)(Z:cZ (λ_=>True) w rg t.dQ)(O:cZ (λ_=>True) w lv xs)
  (hn:xs.length<=1048576) (W:t.names.length<=1048576) (E:∀x∈xs,x.name.size<=1000) (U:yM t.dQ):CR 203 [.pointer (some ⟨p,0,none⟩),lv] w (λv w'=>v=.tuple #[hH (eH t xs).1,.bool (eH t xs).2]/\Ext w w'):=by
 have I:=J.cell (o:=1) rfl;have B:=J.cell (o:=2) rfl;have u:=St.start w;refine py Tryz.func203 (pl:=azS) ?_;refine aH g9 O (aG (aC (λc=>?_) λc=>?_))
 .have G:eH t xs=(0,true):=by unfold eH;rw[ej bM]
  rw[G];exact⟨rfl,u.aF⟩
 have G:eH t xs=((qO t.names t.dQ xs).1,decide ((qO t.names t.dQ xs).2=0)):=by unfold eH;rw[ei bM]
 have u:=u.drew;refine aE (aA LR (bX je (I.ext u.aF) (aE (aA LS (bX eO (B.ext u.aF) (aV atf u (C146 _ _ _ xs t.names t.dQ _ (O.ext u.aF) (Y.ext u.aF) (Z.ext u.aF) hn W (λx h=>te (E x h) dC) U) λ_ he u=>aO rfl (aO rfl (aG ?_))))))));rw[G];exact⟨rfl,u.aF⟩
def C204(K:g7)(p:Nat)(room:Int)(t:jS)(F:Nat->Prop)(s:ByteArray)(n:Int)(w:World)(M:(mM K p room t).p w F)(E:∀w',gz F w w'->K w')(G:0<=cU t.names s)(W:t.dQ.length=t.names.length)(J:t.names.length<=1000) :
   CR 204 [.pointer (some ⟨p,0,none⟩),.string s,hH n] w (λv w'=>v=.tuple #[]/\mP F (mM K p room (pg t s n)) w w'):=by
 obtain⟨j,O,I,_⟩:=lV (dK.1 G);have V:=(j0.1 I).1;have u:=St.begin M;refine eZ Tryz.func204 ?_;obtain⟨Z,Y,rg,U,ds,B,u⟩:=mM.open u;exact aE (aA LR (aB je u.hb rfl (aV rR u (C123 _ t.names s _ (B.1 _ (E _ u.aF)) bM) λ_ _ u=>aE (aA LS (aB eO u.hb rfl (dM u.p2 cR bM bM λ_ h=>jo (n:Int) u.p2 bO h bM λ_ u=>have u:=mM.shut (t:=pg t s n) B u.p3.p1.p3.p3;⟨rfl,u.mut⟩))))))
def C171(K:g7)(p:Nat)(room:Int)(t:jS)(F:Nat->Prop)(lv:Value)(es:List pA)(qs rest:List Dq)(U:Dq)(p2:PD)(w:World)(hF:(mM K p room t).p w F)(hK:∀w',gz F w w'->K w')(hL:∀w',gz F w w'->cZ (λ_=>True) w' lv es)(Z:lh K es qs)(tW:yE t.cD=U::rest)(Wx:yE p2=qs++rest)(O:Gs p2)(L6:es.length<=100000)(G9:rest.length<=100000) :
   CR 171 [.pointer (some ⟨p,0,none⟩),lv] w (λv w'=>v=.tuple #[]/\mP F (mM K p room {t with cD:=p2}) w w'):=by
 have u:=St.begin hF;refine eZ Tryz.func171 ?_;obtain⟨bp,nv,rg,RI,ds,M,u⟩:=mM.open u;have J:=M.2.1;rw[tW]at J;obtain⟨Y,E,rfl,_,B⟩:=J.head;have Mq:=B.1;refine bD ([]:List pA) u oy rfl rfl (dR rfl) (λs5 _ u=>bL u oy (hL _ u.aF) (by simp;omega) dC λs7 _ u=>aE (aA lH (aB vQ u.p1.hb rfl (Ci oy u.p4.eA bM (by rw[ob];omega) λV G=>bL u oy G (by simp;omega) dC λW _ u=>aE (aA lH (aW u.p1 vQ (dR rfl) u.dS.one λ_ u=>?_))))));have u:=u.p4.drop.p1.freeze.p3.p3.p3
 have e:([]++es++(Y::E).drop (1:Int).toNat)=es++E:=rfl;rw[e]at u;have I:RTK K nv (es++E) {t with cD:=p2}:=⟨M.1,by rw[Wx];exact Z.append B,O⟩;exact⟨rfl,(mM.shut (t:={t with cD:=p2}) I u).mut⟩
theorem CV{b:Bk}{n:Nat}(h:b.len<=n):∀{e:Bool},(GO e b).length<=n:=by
 intro e
 have:∀(b:Bk) (e:Bool),(GO e b).length<=b.len:=by
  intro b
  induction b with
  | nil=>intro e;exact la _
  | cons x a c r _ _ u=>intro e;have:=u false;simp only[GO,ob,Bk.len];omega
 grind
theorem C129(K:g7)(p:Nat)(room:Int)(t tR:jS)(n:Nat)(cs ls:List ByteArray)(F:Nat->Prop)(w:World)(hF:(mM K p room t).p w F)(M:∀w',gz F w w'->K w')(jT:yx cs ls t)(hto:B7 t)(hg:ti n t=some tR) :
   CR 129 [.pointer (some ⟨p,0,none⟩)] w (λv w'=>v=.tuple #[]/\mP F (mM K p room tR) w w'):=by
 have u:=St.begin hF;refine afF _ _ _ ?_;unfold S129;refine⟨λmm w'=>∃B:jS,ti mm B=some tR/\yx cs ls B/\B7 B/\St w F [mM K p room B] w',⟨n,t,hg,jT,hto,u⟩,?_⟩;rintro mm w1 ⟨B,B6,xI,amb,u⟩ _;obtain⟨k,rfl⟩:=Im B6;have Fu:=xI.cl;have hnb:=xI.nb;have G9:=xI.rl;have hfc:=Gt B.cD;obtain⟨bp,nv,rg,RI,ds,E,u⟩:=mM.open u;have Mq:=E.2.1.1;refine aE (aA lH (aB vQ u.hb rfl (aH oy u.p3.eA (cP (aC (λc0=>?_) λc0=>?_)))));rotate_left
 .have eE:pf B.cD=none:=by
   cases h:pf B.cD with
   | none=>rfl
   | some q=>obtain⟨x,a,b⟩:=q;obtain⟨e,h2⟩:=BO h;rw[h2,ob]at Mq;omega
  rw[ph B6 (aam eE)];exact⟨rfl,(mM.shut E u).mut⟩
 obtain⟨x,a,b,CJ⟩:∃x a b,pf B.cD=some (x,a,b):=by
  cases h:pf B.cD with
  | none=>have h2:=Ik xI.p h;have h3:(yE B.cD).length=0:=(by rw[h2];rfl);omega
  | some q=>exact⟨q.1,q.2.1,q.2.2,rfl⟩
 obtain⟨en,tW⟩:=BO CJ;have RJ:(yE (gF B.cD)).length<=100000:=by rw[tW,ob]at hfc;omega
 have xo:=E.2.1;rw[tW]at xo;obtain⟨d0,qc,rfl,Bv,hds⟩:=xo.head;have hKn:K w1:=M _ u.aF;obtain⟨dx,J,U,dn⟩:=d0;obtain⟨G,I,rfl,_,_⟩:=jb (Bv.x _ hKn);have Ap:∀w,K w->mv w (⟨x.kind,x.eD,x.name,G,I,x.n,x.body,x.et,x.at_⟩:bE) x:=Bv.x
 have Q1:∀w,K w->cZ (λ_=>True) w (hM G) x.e/\cZ (λ_=>True) w (hM I) x.f:=λw hw=>by
  obtain⟨_,_,h4,h5,h6⟩:=jb (Ap w hw);cases h4
  exact⟨h5,h6⟩
 obtain⟨ra,hda⟩:=Bv.a;obtain⟨rb,UQ⟩:=Bv.b;obtain⟨hx,sa,sb,aa,ab,KU,hb2,Ym,r,e,p',B0,sr,ar⟩:=xI.top CJ;have iY:(Bk.cons x a b r).str:=xI.p.st _ (by rw[B0];exact oi ..);have HI:b.len<=40:=iY.2.2.2.1;have hxe:=hx.e;have hxn:=hx.nm;refine aE (aA lH (aB vQ u.hb rfl (aN oy u.p3.eA bM rfl λq hq=>aD LV hq (aR u Sx λb2 _ u=>aJ (x:=(⟨⟨x.kind,x.eD,x.name,G,I,x.n,x.body,x.et,x.at_⟩,J,U,dn⟩:pA)) u LV rfl rfl λ_ u=>aA oV (aA iT (aB (v:=hM G) jH u.hb rfl (aV Oy u (C203 p B RI nv rg bp _ x.e _ u.p1.hb (E.1 _ (M _ u.aF)) u.p3.dS (Q1 _ (M _ u.aF)).1 bM bM hxn.1 amb.r) λ_ he u=>aO rfl (aO rfl ?_))))))))
 refine aA oV (aA j3 (aB (v:=hM I) jH u.hb rfl (aV Oy u (C203 p B RI nv rg bp _ x.f _ u.p1.hb (E.1 _ (M _ u.aF)) u.p3.dS (Q1 _ (M _ u.aF)).2 bM bM hxn.2 amb.r) λw5 he u=>aO rfl (aO rfl ?_))));refine⟨λjv w'=>jv=.bool (!((eH B x.e).2&&(eH B x.f).2))/\w'=w5,?_,?_⟩
 .exact bQ (aY (λc=>⟨vb (by rw[Bool.not_eq_true']at c;rw[c];rfl),rfl⟩) λc=>bQ ⟨vb (by rw[Bool.not_eq_false']at c;rw[c];rfl),rfl⟩)
 rintro _ w6 ⟨rfl,rfl⟩ _;refine aY (λc1=>?_) (λc1=>?_)
 .refine aE (aA wQ (aW u.p1 bO (dR rfl) rfl λw7 u=>?_))
  have UA:qI B=({B with fault:=2},false):=by
   cases h1:(eH B x.e).2 with
   | false=>exact aan CJ h1
   | true=>exact aao CJ (by rw[h1]at c1;simpa using c1)
  rw[ph B6 UA];have u:=u.p1.drop;exact⟨rfl,(mM.shut (t:={B with fault:=2}) E u).mut⟩
 have Vb:(eH B x.e).2=true/\(eH B x.f).2=true:=by simpa using c1
 have hgk:=aap CJ Vb.1 Vb.2
 have vY:∀(t2:jS) (w':World),qH B x a b (eH B x.e).1=(t2,true)->St w F [mM K p room t2,bY b2 (hZ (⟨⟨x.kind,x.eD,x.name,G,I,x.n,x.body,x.et,x.at_⟩,J,U,dn⟩:pA))] w'->∃m',m'<k+1/\∃B:jS,ti m' B=some tR/\yx cs ls B/\B7 B/\St w F [mM K p room B] w':=λt2 w' h3 h4=>by
  have h5:=hgk.trans h3;obtain⟨h6,h7,_⟩:=Ed xI;have h8:=amb.goS;rw[h5]at h6 h7 h8;exact⟨k,Nat.lt_succ_self k,t2,TB B6 h5,h6,h8,h4.p1.drop⟩
 have DE:=E.2.2.pop;refine aA oV (aA dN (aB (v:=hH x.kind) bO u.hb rfl (aG (aC (λk1=>?_) λk1=>?_))))
 .refine aA oV (aA iG (aB (v:=.string x.eD) gB u.hb rfl (have u:=mM.shut (t:=B) E u.p4.p4.p4.p4;bF ah4 u (H':=λ_=>mM K p room (pg B x.eD (eH B x.e).1)) (Φ:=λ_ _=>True) (λY ef O=>?_) ?_)))
  .exact(C204 K p room B Y x.eD _ _ ef (λw' hc=>M w' (O w' hc).aF) (hx.rg (.inl k1)) G9 hnb).mono λ_ _ r=>r.mono λ_ _ h=>⟨trivial,h.2⟩
  rintro _ w8 _ u;refine bF IL u (H':=λ_=>mM K p room {pg B x.eD (eH B x.e).1 with cD:=(gF B.cD)}) (Φ:=λ_ _=>True) (λY ef O=>?_) ?_
  .exact(C171 K p room (pg B x.eD (eH B x.e).1) Y (.slice none 0 0) [] [] _ _ (gF B.cD) _ ef (λw' hc=>M w' (O w' hc).aF) (λ_ _=>cZ.nil _ _) lh.nil tW rfl DE (la _) RJ).mono λ_ _ r=>r.mono λ_ _ h=>⟨trivial,h.2⟩
  rintro _ w9 _ u;exact vY _ _ (aal k1) u
 refine aG (aC (λk2=>?_) λk2=>?_)
 .refine bV (aC (λc=>?_) λc=>?_)
  .refine aA LW (aB (v:=hM J) jJ u.hb rfl (have u:=mM.shut (t:=B) E u.p4.p4.p4.p4;dO Ox (C128 K J _ a _ (λ_ e=>M _ (u.aF.then e)) sa hda (by have:=Bk.cY a;omega)) ?_));rintro s20 w8 ⟨V,W,cK⟩;have u:=u.made cK;have aAb:V.length<=40:=by have:=W.1;have:=CV (b:=a) (n:=40) bM (e:=false);omega
   have u:=u.p1;refine bF IL u (H':=λ_=>mM K p room {B with cD:=(jn a false (gF B.cD))}) (Φ:=λ_ _=>True) (λY ef O=>?_) ?_
   .exact(C171 K p room B Y s20 V (GO false a) _ _ (jn a false (gF B.cD)) _ ef (λw' hc=>M w' (O w' hc).aF) (λw' hc=>(O w' hc).dS) W tW u9 DE.push bM RJ).mono λ_ _ r=>r.mono λ_ _ h=>⟨trivial,h.2⟩
   rintro _ w9 _ u;exact vY _ _ (by rw[Kd k2,ei c]) u.p1.drop
  refine aA XI (aB (v:=hM U) jJ u.hb rfl (have u:=mM.shut (t:=B) E u.p4.p4.p4.p4;dO Ox (C128 K U _ b _ (λ_ e=>M _ (u.aF.then e)) sb UQ (by have:=Bk.cY b;omega)) ?_));rintro s20 w8 ⟨V,W,cK⟩;have u:=u.made cK;have aAb:V.length<=40:=by have:=W.1;have:=CV (b:=b) (n:=40) bM (e:=false);omega
  have u:=u.p1;refine bF IL u (H':=λ_=>mM K p room {B with cD:=(jn b false (gF B.cD))}) (Φ:=λ_ _=>True) (λY ef O=>?_) ?_
  .exact(C171 K p room B Y s20 V (GO false b) _ _ (jn b false (gF B.cD)) _ ef (λw' hc=>M w' (O w' hc).aF) (λw' hc=>(O w' hc).dS) W tW u9 DE.push bM RJ).mono λ_ _ r=>r.mono λ_ _ h=>⟨trivial,h.2⟩
  rintro _ w9 _ u;exact vY _ _ (by rw[Kd k2,ej (vy.1 c)]) u.p1.drop
 refine aG (aC (λk3=>?_) λk3=>?_)
 .have hxn0:=hx.n k3
  have hb0:b=.nil:=by
   have h1:b.len=0:=by have:=hx.el bM;omega
   cases b with
   | nil=>rfl
   | cons _ _ _ _=>simp[Bk.len]at h1
  refine bD ([]:List pA) u oy rfl rfl (dR rfl) (λs76 _ u=>?_);refine⟨λlv7 w'=>∃(Z:List pA) (qs7:List Dq),lh K Z qs7/\Z.length<=41/\yE (mH x a B.cD)=qs7++yE (gF B.cD)/\St w F [bH lv7 Z,bY b2 (hZ (⟨⟨x.kind,x.eD,x.name,G,I,x.n,x.body,x.et,x.at_⟩,J,U,dn⟩:pA)),bY p (yF RI nv rg bp B.fault),jg bp room B.buf,bH rg B.dQ,eA λw=>cZ (λ_=>True) w RI ((⟨⟨x.kind,x.eD,x.name,G,I,x.n,x.body,x.et,x.at_⟩,J,U,dn⟩:pA)::qc)] w',?_,?_⟩
  .refine aA oV (aA jK (aB (v:=hH x.n) bO u.p1.hb rfl (cP (aC (λc=>?_) λc=>?_))));rotate_left
   .exact⟨[],[],lh.nil,la _,by unfold mH;rw[ej bM];rfl,u⟩
   refine aD (x:=(⟨⟨x.kind,x.eD,x.name,G,I,x.n,x.body,x.et,x.at_⟩,J,U,dn⟩:pA)) LV u.p1.At (aR u Sx λb8 w15 u=>aJ (x:=(⟨⟨x.kind,x.eD,x.name,G,I,x.n,x.body,x.et,x.at_⟩,J,U,dn⟩:pA)) u LV rfl rfl λw16 u=>aA oV (aA jK (aB (v:=hH x.n) bO u.p2.hb rfl (fr bM (aA oV (aA jK (aW u bO (dR rfl) rfl λ_ u=>aA LX (aW u G0 (dR rfl) rfl λ_ u=>have u:=u.enc (cs':=hZ (⟨⟨x.kind,x.eD,x.name,G,I,x.n-1,x.body,x.et,x.at_⟩,J,U,true⟩:pA)) rfl;aA LW ?_))))))))
   refine aB (v:=hM J) jJ u.p2.hb rfl (dO Ox (C128 K J _ a _ (λ_ e=>M _ (u.aF.then e)) sa hda (by have:=Bk.cY a;omega)) ?_);rintro s92 _ ⟨aAd,atj,cK⟩;have u:=u.made cK;have s92l:aAd.length<=40:=by have:=atj.1;have:=CV (b:=a) (n:=40) bM (e:=false);omega
   have aAe:=u.dS;refine bL u.p2 oy aAe (by simp;omega) dC (λs93 _ u=>aD (x:=(⟨⟨x.kind,x.eD,x.name,G,I,x.n-1,x.body,x.et,x.at_⟩,J,U,true⟩:pA)) LV u.p2.At (bD ([(⟨⟨x.kind,x.eD,x.name,G,I,x.n-1,x.body,x.et,x.at_⟩,J,U,true⟩:pA)]:List pA) u oy rfl rfl (dR rfl) λs96 _ u=>?_));have aAf:=u.dS;refine bL u.p1 oy aAf (by simp;omega) dC (λs97 _ u=>have u:=u.p1.drop.p1.drop.p1.drop;⟨_,GO false a++[({x with n:=x.n-1},a,.nil,true)],(lh.append (lh.append lh.nil atj) (lh.cons (d:=(⟨⟨x.kind,x.eD,x.name,G,I,x.n-1,x.body,x.et,x.at_⟩,J,U,true⟩:pA)) (q:=({x with n:=x.n-1},a,.nil,true)) ⟨λw hw=>?_,⟨ra,hda⟩,⟨rb,by rw[<- hb0];exact UQ⟩,rfl⟩ lh.nil)),by simp;omega,?_,u⟩)
   .obtain⟨_,_,h4,h5,h6⟩:=Ap w hw;cases h4
    exact⟨G,I,rfl,h5,h6⟩
   rw[V4 bM];simp
  rintro lv7 _ ⟨Z,qs7,h71,h72,h73,u⟩ _;have u:=((mM.shut (t:=B) E u.p5.p5.p5.p5).p1).p1;refine bF IL u (H':=λ_=>mM K p room {B with cD:=(mH x a B.cD)}) (Φ:=λ_ _=>True) (λY ef O=>?_) ?_
  .exact(C171 K p room B Y lv7 Z qs7 _ _ (mH x a B.cD) _ ef (λw' hc=>M w' (O w' hc).aF) (λw' hc=>(O w' hc).dS) h71 tW h73 E.2.2.round bM RJ).mono λ_ _ r=>r.mono λ_ _ h=>⟨trivial,h.2⟩
  rintro _ _ _ u;exact vY _ _ (TD k3) u.p1.drop
 refine aG (aC (λk4=>?_) λk4=>?_)
 .obtain⟨D,hD⟩:∃D,D=(⟨⟨x.kind,x.eD,x.name,G,I,x.n,x.body,x.et,x.at_⟩,J,U,dn⟩:pA)::qc:=⟨_,rfl⟩;have hDK:lh K D (yE B.cD):=by rw[hD];exact E.2.1
  have hDl:D.length=(yE B.cD).length:=hDK.1;rw[<- hD]at u;refine⟨λmm y w'=>∃j:Nat,y=hH (j:Int)/\mm=D.length-j/\j<=D.length/\(∀(i:Nat) (q:Dq),i<j->(yE B.cD)[i]?=some q->q.2.2.2=false)/\w'=w6,⟨_,0,rfl,rfl,la _,λ_ _ h=>absurd h (MO _),rfl⟩,?_⟩;rintro mm _ w7 ⟨j,rfl,rfl,hj,hjn,rfl⟩ _;refine⟨λjv w'=>jv=.bool (match D[j]? with|some d=>!d.in_|none=>false)/\w'=w7,?_,?_⟩
  .refine aE (aA lH (aB vQ u.p1.hb rfl (aH oy u.p4.eA (aQ (aC (λc=>?_) λc=>⟨vb (by rw[mW bM]),rfl⟩)))));obtain⟨d,hd⟩:=gx D (i:=((j:Nat):Int).toNat) bM;refine aE (aA lH (aB vQ u.p1.hb rfl (aN oy u.p4.eA bM hd λq hq=>bU d.in_ LX hq rfl rfl λq2 QP=>aD G0 QP (bQ ?_))));rw[qb]at hd;exact⟨vb (by rw[hd]),rfl⟩
  rintro _ w8 ⟨rfl,rfl⟩ _;refine aY (λc=>?_) (λc=>?_)
  .have C1:j<D.length:=by
    rcases P2 j D.length with h|h
    .exact h
    .rw[mW h]at c;cases c
   refine aK bM ?_;refine⟨_,bM,j+1,rfl,rfl,bM,λi q hi hq=>?_,rfl⟩
   by_cases e:i=j
   .subst e;rw[kO C1]at c;have:=(hDK.2 i _ q (kO C1) hq).e;rw[<- this];simpa using c
   exact hjn i q bM hq
  have hdi:uo (yE B.cD)=(yE B.cD).drop (j+1):=IK _ j hjn (λq hq=>by
   have C1:j<D.length:=by have:=(j0.1 hq).1;omega
   rw[kO C1]at c;have:=(hDK.2 j _ q (kO C1) hq).e;rw[<- this];simpa using c) bM
  have u:=u.drew;refine aE (aA lH (aB vQ u.p1.hb rfl (aK bM (aE (aA lH (aB vQ u.p1.hb rfl (aH oy u.p4.eA (ru (zG oy u.p4.eA bM bM λaAg atk=>?_)))))))));have atl:=atk _ u.p4.eA;refine aE (aA lH (aW u.p1 vQ (dR rfl) atl.one λ_ u=>?_));have u:=u.p4.dF (Ψ:=λw=>cZ (λ_=>True) w aAg (D.drop (min ((j:Int)+1) (D.length:Int)).toNat)) (λw h=>atk w h)
  have ed:D.drop (min ((j:Int)+1) (D.length:Int)).toNat=D.drop (j+1):=by
   rcases P2 j D.length with h|h
   .congr 1;omega
   .rw[u1 bM,u1 bM]
  rw[ed]at u;have hk9:RTK K nv (D.drop (j+1)) {B with cD:=kr B.cD}:=⟨E.1,by show lh K _ (yE (kr B.cD));rw[IJ E.2.2,hdi];exact hDK.drop _,E.2.2.leave⟩;have u:=((mM.shut (t:={B with cD:=kr B.cD}) hk9 u.p4.p4.p3).p1).p1;exact vY _ _ (TE k4) u
 refine aG (aC (λk5=>?_) λk5=>?_)
 .refine aG (aC (λc=>?_) λc=>?_)
  .refine aE (aA wQ (aW u.p1 bO (dR rfl) rfl λw15 u=>?_));have u:=mM.shut (t:={B with fault:=1}) E u.p4.p4.p4.p3;rw[ph B6 (hgk.trans (NB k5 c))];have u:=u.p1.p1;exact⟨rfl,u.p1.drop.mut⟩
  have u:=u.p4;have u:=((mM.shut (t:=B) E u.p4.p4.p4).p1).p1;refine bF IL u (H':=λ_=>mM K p room {B with cD:=(gF B.cD)}) (Φ:=λ_ _=>True) (λY ef O=>?_) ?_
  .exact(C171 K p room B Y (.slice none 0 0) [] [] _ _ (gF B.cD) _ ef (λw' hc=>M w' (O w' hc).aF) (λ_ _=>cZ.nil _ _) lh.nil tW rfl DE (la _) RJ).mono λ_ _ r=>r.mono λ_ _ h=>⟨trivial,h.2⟩
  rintro _ w16 _ u;exact vY _ _ (NC k5 c) u
 rw[ph B6 (hgk.trans (TF k1 k2 k3 k4 k5))];have u:=((mM.shut (t:=B) E u.p4.p4.p4.p4).p1).p1;exact⟨rfl,u.p1.drop.mut⟩
theorem C80(K:g7)(p:Nat)(m:gl)(q:Nat)(t:jS)(w:World)(hm:Has (qM K p m) w)(hw:∀w',Ext w w'->K w')(Y:nL m)(hh:Has (mM K q m.room t) w)(CL:t∈m.l):CR 80 [.pointer (some ⟨p,0,none⟩),.pointer (some ⟨q,0,none⟩)] w (λv w'=>v=.bool (sQ m t)/\Ext w w'):=by
 obtain⟨a,W⟩:=qM.rd hm;have cm6:=W.b.cell (o:=6) rfl;have B:=W.b.cell (o:=9) rfl;have jT:=Y.th t CL;have HI:=jT.bl;have akE:(cL m.p).length<=500:=by unfold cL;rw[mE];exact Y.pz.eI
 obtain⟨bp,nv,rg,lv,ds,hk,uX,hB,Ef,V⟩:=mM.rd hh;obtain⟨bsv,Dv,vA,I⟩:=hB;have U:=uX.cell (o:=0) rfl;have J:=uX.cell (o:=3) rfl;have ct4:=uX.cell (o:=4) rfl;have Mq:=hk.2.1.1;have u:=St.start w;refine py Tryz.func80 (pl:=P80) ?_;refine aE (aA lH (bX vQ (U.ext u.aF) (aH oy (V.ext u.aF) (aG (aC (λc0=>?_) λc0=>?_)))))
 .have eE:pf t.cD=none:=by
   cases h:pf t.cD with
   | none=>rfl
   | some q=>obtain⟨x,a,b⟩:=q;obtain⟨e,h2⟩:=BO h;rw[h2,ob]at Mq;omega
  exact⟨vb (by unfold sQ;rw[eE]),u.aF⟩
 obtain⟨x,xa,xb,Z⟩:∃x a b,pf t.cD=some (x,a,b):=by
  cases h:pf t.cD with
  | none=>have h2:=Ik jT.p h;have h3:(yE t.cD).length=0:=(by rw[h2];rfl);omega
  | some q=>exact⟨q.1,q.2.1,q.2.2,rfl⟩
 obtain⟨en,tW⟩:=BO Z;have xo:=hk.2.1;rw[tW]at xo;obtain⟨d0,qc,rfl,Bv,hds⟩:=xo.head;obtain⟨dx,db,de,dn⟩:=d0;obtain⟨ge,gf,rfl,_,_⟩:=jb (Bv.x _ (hw _ u.aF));have hx:=(jT.top Z).1;have E:sQ m t=(if t.fault≠0\/x.kind=2 then true else if x.kind=3\/x.kind=5\/x.kind=6\/x.kind=7 then !decide (m.room<=t.buf.length)else if x.kind=9/\m.eW.getD (cU (cL m.p) x.name).toNat 0≠-1 then false else decide (t.buf.length=0)):=by unfold sQ;rw[Z]
 refine aE (aA lH (bX vQ (U.ext u.aF) (aN oy (V.ext u.aF) bM rfl λq1 h1=>L5 (⟨x.kind,x.eD,x.name,ge,gf,x.n,x.body,x.et,x.at_⟩:bE) oV h1 rfl λq2 h2=>aD eK h2 (aR u jq λb5 _ u=>aJ (x:=(⟨x.kind,x.eD,x.name,ge,gf,x.n,x.body,x.et,x.at_⟩:bE)) u eK rfl rfl λw2 u=>?_))));refine⟨λO w'=>O=.bool (decide (t.fault≠0\/x.kind=2))/\w'=w2,?_,?_⟩
 .exact aE (aA wQ (bX bO (ct4.ext u.aF) (bV (aC (λ_=>⟨vb (ew bM).symm,rfl⟩) λ_=>aA dN (aB (v:=hH x.kind) bO u.hb rfl (aG ⟨vb (e8.2 bM),rfl⟩))))))
 rintro _ w4 ⟨rfl,rfl⟩ _;refine aC (λc1=>?_) (λc1=>?_)
 .exact⟨vb (by rw[E,ej c1]),u.drop.aF⟩
 rw[ei c1]at E;refine⟨λO w'=>O=.bool (decide (x.kind=3\/x.kind=5\/x.kind=6\/x.kind=7))/\w'=w4,?_,?_⟩
 .refine aA dN (aB (v:=hH x.kind) bO u.hb rfl ?_);exact aG (aC (λ_=>⟨vb (ew bM).symm,rfl⟩) λ_=>aA dN (aB (v:=hH x.kind) bO u.hb rfl (aG (aC (λ_=>⟨vb (ew bM).symm,rfl⟩) λ_=>aA dN (aB (v:=hH x.kind) bO u.hb rfl (aG (aC (λ_=>⟨vb (ew bM).symm,rfl⟩) λ_=>aA dN (aB (v:=hH x.kind) bO u.hb rfl (aG ⟨vb (e8.2 bM),rfl⟩)))))))))
 rintro _ _ ⟨rfl,rfl⟩ _;refine aC (λc2=>?_) (λc2=>?_)
 .have u:=u.drew;refine aE (aA oS (bX AK (J.ext u.aF) (aE (aA iI (bX iS (vA.ext u.aF) (aH fW (I.ext u.aF) (aE (aA Sp (bX bO (cm6.ext u.aF) (aQ ?_))))))))));refine⟨vb ?_,u.drop.aF⟩;rw[E,ej c2,<- decide_not];exact e8.2 bM
 rw[ei c2]at E;refine⟨λO w'=>O=.bool (sQ m t)/\Ext w w',?_,?_⟩;rotate_left
 .rintro _ _ h _;exact h
 have u:=u.drew;refine aE (aA oS (bX AK (J.ext u.aF) (aE (aA iI (bX iS (vA.ext u.aF) (aH fW (I.ext u.aF) (aG (aC (λc3=>?_) λc3=>?_))))))));rotate_left
 .refine⟨vb ?_,u.drop.aF⟩;rw[E];split
  .rfl
  exact(ez bM).symm
 refine aA dN (aB (v:=hH x.kind) bO u.hb rfl (bV (aC (λc4=>?_) λc4=>?_)))
 .exact⟨vb (by rw[E,ei (λh=>c4 h.1),ew bM]),u.drop.aF⟩
 have G:x.kind=9:=vy.1 c4;obtain⟨j,hj,Bs,_⟩:=lV (dK.1 (hx.lk (.inl G)));have C1:=(j0.1 Bs).1;have how:=Y.ow;refine aE (aA vj (bX eO (B.ext u.aF) (aE (aA yh (vm a.pv eL (qd.ext W.b u.aF) rfl (aA gh (aB (v:=.string x.name) gB u.hb rfl (dT R8 u (C125 m.p a.pv _ (W.uk.pr _ (hw _ u.aF)) Y.pz) λx82 _ cK u=>?_))))))));refine⟨aI eO (B.ext u.aF),?_⟩;refine⟨aI gB (u.p1.hb.cell (v:=.string x.name) rfl),?_⟩;refine aV rR u (C123 _ (cL m.p) x.name _ u.dS bM) (λ_ he u=>?_)
 refine⟨aI eO (B.ext u.aF),?_⟩;obtain⟨ov,M⟩:=gx m.eW (i:=(cU (cL m.p) x.name).toNat) bM;refine aN cR (W.ow.ext u.aF) bM M (λq71 h71=>aD bO h71 (aG ?_));refine⟨vb ?_,u.drop.drop.aF⟩;rw[E,n0,M];show _=if x.kind=9/\ov≠-1 then false else decide (t.buf.length=0)
 by_cases e:ov = -1
 .rw[ei (λh=>h.2 e),ew e,ew bM]
 rw[ej ⟨G,e⟩,ez e]
def C22(K:g7)(p:Nat)(m:gl)(w:World)(hm:Has (qM K p m) w)(hw:∀w',Ext w w'->K w')(I:nL m):CR 22 [.pointer (some ⟨p,0,none⟩)] w (λv w'=>kP (fz v (gj m)) w w'):=by
 obtain⟨a,B⟩:=qM.rd hm;have W:=B.b.cell (o:=10) rfl;have Q2:=B.b.cell (o:=11) rfl;have hlen:=B.len;have Pp:=I.tl;have u:=St.start w;refine eZ Tryz.func22 ?_;refine oB (α:=aS) u gH (λs7 J u=>?_);refine⟨λG o y J=>∃k:Nat,y=hH (k:Int)/\G=a.ps.length-k/\k<=a.ps.length/\(m.fault≠0->k=0)/\St w aZ [fz o (il m k)] J,⟨_,0,rfl,rfl,la _,λ_=>rfl,u⟩,?_⟩;rintro G o _ w2 ⟨k,rfl,rfl,R4,U,u⟩ _;refine⟨λjv w'=>jv=.bool (decide (k<a.ps.length/\m.fault=0))/\w'=w2,?_,?_⟩
 .exact aE (aA tz (bX LK (W.ext u.aF) (aH Pr (B.ll.ext u.aF) (aQ (aC (λ_=>aE (aA DW (bX bO (Q2.ext u.aF) (aG ⟨vb (e8.2 bM),rfl⟩)))) λ_=>⟨vb (ez bM).symm,rfl⟩)))))
 rintro _ _ ⟨rfl,rfl⟩ _;refine aC (λc1=>?_) (λc1=>?_);rotate_left
 .have Y:gj m=il m k:=by
   unfold gj
   by_cases hf:m.fault=0
   .rw[ei bM,show k=m.l.length from bM]
   .rw[ej hf,U hf];rfl
  rw[Y];exact u.fresh
 obtain⟨c2,c3⟩:=c1;obtain⟨t,ht⟩:=gx m.l (i:=k) bM;obtain⟨e,O⟩:=gx a.ps (i:=((k:Nat):Int).toNat) bM;have CL:=kp ht;have hth:=B.th k e t (by rw[<- qb k];exact O) ht;have HI:=(I.th t CL).bl;have nU:=rF I k;have aAi:k*1001<=1001000:=Be 1001 (show k<=1000 by omega);obtain⟨bp,nv,rg,lv,ds,hk,uX,hB,Ef,hlr⟩:=mM.rd hth;have V:=uX.cell (o:=3) rfl;refine⟨λo w'=>St w aZ [fz o (il m k++(if sQ m t=true then [(⟨1,k,0,[]⟩:aS)]else []))] w',?_,?_⟩
 .refine aE (aA tz (bX LK (W.ext u.aF) (aN Pr (B.ll.ext u.aF) bM O λq E=>aD Sv E (aV azV u (C80 K p m e.b t _ (hm.ext u.aF) (λ_ e=>hw _ (u.aF.then e)) I (hth.ext u.aF) CL) λ_ Nf u=>aY (λM=>?_) λM=>?_))))
  .refine pop (CK 1 (k:Int)) (have u:=u.fH (Φ:=λw=>mv w (⟨1,(k:Int),0,bW⟩:aM) (⟨1,(k:Int),0,[]⟩:aS)) (λw=>⟨bW,rfl,DL.nil w⟩);gk (x:=(⟨1,(k:Int),0,[]⟩:aS)) (s:=(⟨1,(k:Int),0,bW⟩:aM)) u gH dC λs45 _ u=>fS u.p1 gH (by simp;omega) dC λs46 _ u=>?_);rw[M,ej rfl];exact u
  rw[M,ei dC,oo];exact u
 rintro o2 _ u _;refine aE (aA tz (bX LK (W.ext u.aF) (aN Pr (B.ll.ext u.aF) bM O λq E=>aD Sv E (aE (aA oS (bX AK (V.ext u.aF) (dT avL u (C81 bp _ _ _ (hB.ext u.aF) bM) λZ _ cK u=>?_)))))));have Fu:=z7 t.buf;refine⟨λG o y J=>∃j:Nat,y=hH (j:Int)/\G=(pC t.buf).length-j/\j<=(pC t.buf).length/\St w aZ [fz o (il m k++(if sQ m t=true then [(⟨1,k,0,[]⟩:aS)]else [])++((pC t.buf).take j).map λi=>(⟨2,k,i,[]⟩:aS)),bH Z (pC t.buf)] J,⟨_,0,rfl,rfl,la _,by rw[List.take_zero,List.map_nil,oo];exact u.p1⟩,?_⟩
 rintro G o3 _ _ ⟨j,rfl,rfl,hj,u⟩ _;refine aH cR u.p1.dS (aQ (aC (λc5=>?_) λc5=>?_))
 .obtain⟨y,hy⟩:=gx (pC t.buf) (i:=((j:Nat):Int).toNat) bM;exact aN cR u.p1.dS bM hy (λ_ E=>aD bO E (pop (Dh 2 (k:Int) y) (have u:=u.fH (Φ:=λw=>mv w (⟨2,(k:Int),y,bW⟩:aM) (⟨2,(k:Int),y,[]⟩:aS)) (λw=>⟨bW,rfl,DL.nil w⟩);gk (x:=(⟨2,(k:Int),y,[]⟩:aS)) (s:=(⟨2,(k:Int),y,bW⟩:aM)) u gH dC λ_ _ u=>fS u.p1 gH (by simp only[kU,mE,lY,l0];split<;>simp<;>omega) dC λ_ _ u=>aK bM ⟨_,bM,j+1,rfl,rfl,bM,by rw[<- gP (k:=j) hy,<- nk];exact u⟩)))
 rw[kE bM]at u;refine aK bM ?_;refine⟨_,bM,k+1,rfl,rfl,bM,λh=>absurd c3 h,?_⟩;rw[ug ht];unfold rE;rw[<- nk];exact u.p1.drop
def C18(K:g7)(p:Nat)(m:gl)(w:World)(hm:Has (qM K p m) w)(hw:∀w',Ext w w'->K w')(jY:nL m)(og:MB m.mem 1000000)(V:(er (wB m.mem)).length<=1000000000):CR 18 [.pointer (some ⟨p,0,none⟩)] w (λv w'=>kP (fz v (mJ m)) w w'):=by
 obtain⟨a,J⟩:=qM.rd hm;have M:=J.b.cell (o:=8) rfl;have Q2:=J.b.cell (o:=11) rfl;have Fu:(By m.mem).length<=1000000000:=te (Kc _ _) V;have u:=St.start w;refine eZ Tryz.func18 ?_;refine bD ([]:List aM) u gH rfl rfl (dR rfl) (λs6 Y u=>aE (aA tu (bX LJ (M.ext u.aF) (dT avG u (C78 a.q m.mem _ (J.mem.ext u.aF) jY.mem og V) λG _ cK u=>?_))));obtain⟨B,u⟩:=u.AY;have OW:=u.p1.eA.1;refine⟨λmm o y Y=>∃k:Nat,y=hH (k:Int)/\mm=B.length-k/\k<=B.length/\(m.fault≠0->k=0)/\St w aZ [bH o ((B.take k).map pk3),bH G B,eA (fR B (By m.mem))] Y,⟨_,0,rfl,rfl,la _,λ_=>rfl,u.p2⟩,?_⟩
 rintro mm o _ w3 ⟨k,rfl,rfl,hk,O,u⟩ _;refine⟨λjv w'=>jv=.bool (decide (k<B.length/\m.fault=0))/\w'=w3,?_,?_⟩
 .exact aH m4 u.p1.dS (aQ (aC (λ_=>aE (aA DW (bX bO (Q2.ext u.aF) (aG ⟨vb (e8.2 bM),rfl⟩)))) λ_=>⟨vb (ez bM).symm,rfl⟩))
 rintro _ _ ⟨rfl,rfl⟩ _;refine aC (λZ=>?_) (λZ=>?_)
 .obtain⟨e,U⟩:=gx B (i:=((k:Nat):Int).toNat) bM;refine aN m4 u.p1.dS bM U (λq hq=>aD eO hq (pop (Vu 3 e.a e.n e.cap) (bD ([pk3 e]:List aM) u gH rfl rfl (dR rfl) λs24 _ u=>?_)));have I:=u.dS;exact bL u.p1 gH I (by rw[mE,lY,l0];omega) dC (λ_ _ u=>aK bM ⟨_,bM,k+1,rfl,rfl,bM,λh=>absurd Z.2 h,by rw[<- gP (k:=k) U];exact u.p1.drop⟩)
 by_cases W:m.fault=0
 .have E:mJ m=(By m.mem).map λc=>(⟨3,0,0,c⟩:aS):=by unfold mJ;rw[ei bM]
  rw[E];rw[kE bM]at u;exact(St.wY (u.p1.drop.p1.dF λ_ h=>ae1 h).p1).fresh
 have E:mJ m=[]:=by unfold mJ;rw[ej W]
 rw[E];rw[O W]at u;exact(St.wY (u.p1.drop.p1.dF (Ψ:=fR ([]:List aM) ([]:List aS)) λ_ _=>fR.nil).p1).fresh
def C168(K:g7)(p:Nat)(m:gl)(i kind:Int)(F:Nat->Prop)(w:World)(E:(qM K p m).p w F):CR 168 [.pointer (some ⟨p,0,none⟩),hH i,hH kind] w (λv w'=>v=hM (⟨16,i,kind,0,0⟩:cG)/\mP F (qM K p {m with fault:=kind,ku:=i}) w w'):=by
 have u:=St.begin E;refine eZ Tryz.func168 ?_;obtain⟨a,B,u⟩:=qM.open u;exact aR u nh (λ_ _ u=>have u:=u.enc (cs':=hZ (⟨0,0,0,0,0⟩:cG)) rfl;aE (aA DW (aW u.p1 bO (dR rfl) rfl λ_ u=>aE (aA adi (aW u bO (dR rfl) rfl λ_ u=>pop (tK 16 i kind) (aJ (x:=(⟨16,i,kind,0,0⟩:cG)) u.p1 fj rfl rfl λ_ u=>aD fj u.At ⟨rfl,(qM.shut (m:={m with fault:=kind,ku:=i}) ⟨B.pr,B.rc⟩ u.drop).mut⟩))))))
def Dk(K:g7)(p:Nat)(m:gl)(i:Nat)(tp:Ptr):HP:=pK λa:RA=>fact (RSK K a m/\a.ps[i]?=some tp/\a.ps.length=m.l.length/\i<m.l.length) (sep (bY p (pw a m)) (sep (gy a.q m.mem) (sep (bH a.ow m.eW) (sep (bH a.ll a.ps) (nG (OE K m.room) a.ps m.l i)))))
section
variable {w w' w0:World}{A:Nat->Prop}{R:List HP}{p:Nat}{K:g7}{m:gl}{a:RA}{i:Nat}{tp:Ptr}{t:jS}
theorem Dk.open(u:St w0 A (Dk K p m i tp::R) w):∃a,(RSK K a m/\a.ps[i]?=some tp/\a.ps.length=m.l.length/\i<m.l.length)/\St w0 A (bY p (pw a m)::gy a.q m.mem::bH a.ow m.eW::bH a.ll a.ps::nG (OE K m.room) a.ps m.l i::R) w:=by
 obtain⟨a,u⟩:=u.eg;obtain⟨B,u⟩:=u.mq;exact⟨a,B,sO u⟩
theorem Dk.shut(u:RSK K a m/\a.ps[i]?=some tp/\a.ps.length=m.l.length/\i<m.l.length)(B:St w0 A (bY p (pw a m)::gy a.q m.mem::bH a.ow m.eW::bH a.ll a.ps::nG (OE K m.room) a.ps m.l i::R) w):St w0 A (Dk K p m i tp::R) w:=
 St.eh a (St.oz u (sP B))
theorem abU{ps:List Ptr}(B:St w0 A (ie (OE K m.room) ps m.l::R) w)(u:ps[i]?=some tp)(ht:m.l[i]?=some t):St w0 A (mM K tp.b m.room t::nG (OE K m.room) ps m.l i::R) w:=B.focus u ht
theorem xY(u:St w0 A (mM K tp.b m.room t::Dk K p m i tp::R) w):St w0 A (qM K p {m with l:=m.l.set i t}::R) w:=by
 obtain⟨a,⟨B,E,G,hi⟩,u⟩:=Dk.open u.p1
 have h1:St w0 A (OE K m.room tp t::nG (OE K m.room) a.ps m.l i::_) w:=u.p4.p5
 have h2:=h1.DZ hi G E
 have h3:=h2.p4.p4.p4.p4
 exact qM.shut (m:={m with l:=m.l.set i t}) ⟨B.pr,B.rc⟩ h3
end
section
variable {m:gl}{t:jS}{i:Int}{x:bP}
theorem abV(h:x.kind=2):dY m t i x=(m,pg t x.eD (im m t (dP m x)),xL m t x):=by unfold dY;grind
theorem abW(h:x.kind=3):dY m t i x=(m,pX m t ⟨3,fy m x,dP m x,(eH t x.e).1⟩,⟨3,0,dP m x,(eH t x.e).1,0⟩):=by unfold dY;grind
theorem abX(h:x.kind=5):dY m t i x=(m,pX m t ⟨5,fy m x,0,0⟩,⟨4,0,fy m x,0,0⟩):=by grind[dY,pX,fy]
theorem abY(h:x.kind=6):dY m t i x=(m,pX m t ⟨6,fy m x,0,0⟩,⟨5,0,fy m x,0,0⟩):=by grind[dY,pX,fy]
theorem abZ(h:x.kind=7):dY m t i x=(m,pX m t ⟨7,0,0,0⟩,⟨6,0,0,0,0⟩):=by grind[dY,pX]
theorem amc(h:x.kind=8):dY m t i x=(m,t,⟨7,0,0,0,0⟩):=by grind[dY]
theorem amd(h:x.kind=4):dY m t i x=(rG m t x,pg t x.eD (jA m.mem (dP m x)),tL m t x):=by unfold dY;grind
theorem ame(h:x.kind=9):dY m t i x=(pD m x i,t,⟨10,0,fD m x,0,0⟩):=by grind[dY,pD,fD]
theorem afW(h:x.kind=10):dY m t i x=(pD m x (-1),t,⟨11,0,fD m x,0,0⟩):=by grind[dY,pD,fD]
theorem ab0{a b:Bk}(h:sQ m t=true)(u:t.fault=0)(ht:pf t.cD=some (x,a,b))(B:x.kind=4):t.buf=[]:=by
 unfold sQ at h
 grind
theorem ab1{u:Mem}{c e:Int}(B:0<=c)(h:u.l[c.toNat]?=some e):jA u c=e:=by
 have:=(j0.1 h).1
 unfold jA
 rw[ej (by unfold G7;rw[decide_eq_true_eq];omega),n0,h];rfl
end
def C170(K:g7)(sv:Value)(m:gl)(i:Int)(tp:Ptr)(t:jS)(x:bP)(Y:bE)(F:Nat->Prop)(w:World)(hF:(mM K tp.b m.room t).p w F)(V:∀w',gz F w w'->K w')(M:yx (cX m.p) (cL m.p) t)(U:B7 t)(Ap:∀w,K w->mv w Y x)(hx:Vq (cX m.p) (cL m.p) t.names x)(hkd:x.kind=3\/x.kind=5\/x.kind=6\/x.kind=7) :
   CR 170 [sv,.pointer (some ⟨tp.b,0,none⟩),hM Y,hH (dP m x),hH (fy m x)] w (λv w'=>v=hM (dY m t i x).2.2/\mP F (mM K tp.b m.room (dY m t i x).2.1) w w'):=by
 have u:=St.begin hF;obtain⟨J,Z,rfl,_,_⟩:=jb (Ap _ (V _ u.aF))
 have Q1:∀w,K w->cZ (λ_=>True) w (hM J) x.e/\cZ (λ_=>True) w (hM Z) x.f:=λw hw=>by
  obtain⟨_,_,h4,h5,h6⟩:=jb (Ap w hw);cases h4
  exact⟨h5,h6⟩
 have hxe:=hx.e;have W:=hx.nm;have hnb:=M.nb;have G9:=M.rl;have HI:=M.bl;refine eZ Tryz.func170 ?_;refine cH (x:=(⟨x.kind,x.eD,x.name,J,Z,x.n,x.body,x.et,x.at_⟩:bE)) u (λb7 _ u=>aR u nh λb10 _ u=>?_);have u:=(u.enc (cs':=hZ (⟨0,0,0,0,0⟩:cG)) rfl).p2;obtain⟨B,nv,rg,RI,ds,I,u⟩:=mM.open u;refine aA iT (aB (v:=hM J) jH u.p5.hb rfl (aV Oy u (C203 tp.b t RI nv rg B _ x.e _ u.hb (I.1 _ (V _ u.aF)) u.p2.dS (Q1 _ (V _ u.aF)).1 bM bM W.1 U.r) λ_ he u=>aO rfl (aO rfl (aA dN (aB (v:=hH x.kind) bO u.p5.hb rfl (aG (aC (λk3=>?_) λk3=>?_)))))))
 .refine aE (aA oS (aB AK u.hb rfl (pop (xJ 3 (fy m x) (dP m x) (eH t x.e).1) (have u:=u.p1;bF Sf u (H':=λ_=>jg B m.room (sJ m.room t.buf (⟨3,fy m x,dP m x,(eH t x.e).1⟩:bI))) (Φ:=λ_ _=>True) (λG E O=>?_) ?_))))
  .exact(C230 B m.room t.buf (⟨3,fy m x,dP m x,(eH t x.e).1⟩:bI) G _ E bM).mono λ_ _ r=>r.mono λ_ _ h=>⟨trivial,h.2⟩
  rintro _ _ _ u;refine pop (mI 3 (dP m x) (eH t x.e).1) (aJ (x:=(⟨3,0,dP m x,(eH t x.e).1,0⟩:cG)) u.p4 fj rfl rfl λw30' u=>aD (x:=(⟨3,0,dP m x,(eH t x.e).1,0⟩:cG)) fj u.At ?_);have u:=mM.shut (t:=pX m t (⟨3,fy m x,dP m x,(eH t x.e).1⟩:bI)) I u.drop.p4.drop.p3.p3.p2.p3;rw[abW k3];exact⟨rfl,u.mut⟩
 refine aG (aC (λk5=>?_) λk5=>?_)
 .refine aE (aA oS (aB AK u.hb rfl (pop (vE 5 (fy m x)) (have u:=u.p1;bF Sf u (H':=λ_=>jg B m.room (sJ m.room t.buf (⟨5,fy m x,0,0⟩:bI))) (Φ:=λ_ _=>True) (λG E O=>?_) ?_))))
  .exact(C230 B m.room t.buf (⟨5,fy m x,0,0⟩:bI) G _ E bM).mono λ_ _ r=>r.mono λ_ _ h=>⟨trivial,h.2⟩
  rintro _ _ _ u;refine pop (oE 4 (fy m x)) (aJ (x:=(⟨4,0,fy m x,0,0⟩:cG)) u.p4 fj rfl rfl λw50' u=>aD (x:=(⟨4,0,fy m x,0,0⟩:cG)) fj u.At ?_);have u:=mM.shut (t:=pX m t (⟨5,fy m x,0,0⟩:bI)) I u.drop.p4.drop.p3.p3.p2.p3;rw[abX k5];exact⟨rfl,u.mut⟩
 refine aG (aC (λk6=>?_) λk6=>?_)
 .refine aE (aA oS (aB AK u.hb rfl (pop (vE 6 (fy m x)) (have u:=u.p1;bF Sf u (H':=λ_=>jg B m.room (sJ m.room t.buf (⟨6,fy m x,0,0⟩:bI))) (Φ:=λ_ _=>True) (λG E O=>?_) ?_))))
  .exact(C230 B m.room t.buf (⟨6,fy m x,0,0⟩:bI) G _ E bM).mono λ_ _ r=>r.mono λ_ _ h=>⟨trivial,h.2⟩
  rintro _ _ _ u;refine pop (oE 5 (fy m x)) (aJ (x:=(⟨5,0,fy m x,0,0⟩:cG)) u.p4 fj rfl rfl λw60' u=>aD (x:=(⟨5,0,fy m x,0,0⟩:cG)) fj u.At ?_);have u:=mM.shut (t:=pX m t (⟨6,fy m x,0,0⟩:bI)) I u.drop.p4.drop.p3.p3.p2.p3;rw[abY k6];exact⟨rfl,u.mut⟩
 refine aE (aA oS (aB AK u.hb rfl (pop (AT 7) (have u:=u.p1;bF Sf u (H':=λ_=>jg B m.room (sJ m.room t.buf (⟨7,0,0,0⟩:bI))) (Φ:=λ_ _=>True) (λG E O=>?_) ?_))))
 .exact(C230 B m.room t.buf (⟨7,0,0,0⟩:bI) G _ E bM).mono λ_ _ r=>r.mono λ_ _ h=>⟨trivial,h.2⟩
 rintro _ _ _ u;refine pop (Ki 6) (aJ (x:=(⟨6,0,0,0,0⟩:cG)) u.p4 fj rfl rfl λw70' u=>aD (x:=(⟨6,0,0,0,0⟩:cG)) fj u.At ?_);have u:=mM.shut (t:=pX m t (⟨7,0,0,0⟩:bI)) I u.drop.p4.drop.p3.p3.p2.p3;rw[abZ bM];exact⟨rfl,u.mut⟩
def C169(K:g7)(p:Nat)(m:gl)(i:Int)(n:Nat)(tp:Ptr)(t:jS)(x:bP)(xv:bE)(F:Nat->Prop)(w:World)(hF:(sep (mM K tp.b m.room t) (Dk K p m n tp)).p w F)(G:∀w',gz F w w'->K w')(jT:yx (cX m.p) (cL m.p) t)(O:B7 t)(Ap:∀w,K w->mv w xv x)(hx:Vq (cX m.p) (cL m.p) t.names x)(hmm:ve m.mem)(og:MB m.mem 1000000)(hkd:x.kind=2\/x.kind=4)(hb4:x.kind=4->t.buf=[])(Fu:0<=dP m x/\dP m x<m.mem.l.length) :
   CR 169 [.pointer (some ⟨p,0,none⟩),.pointer (some ⟨tp.b,0,none⟩),hM xv,hH (dP m x)] w (λv w'=>v=hM (dY m t i x).2.2/\mP F (sep (mM K tp.b m.room (dY m t i x).2.1) (Dk K p (dY m t i x).1 n tp)) w w'):=by
 have u:=(St.begin hF).split;obtain⟨W,Y,rfl,_,_⟩:=jb (Ap _ (G _ u.aF))
 have Q1:∀w,K w->cZ (λ_=>True) w (hM W) x.e/\cZ (λ_=>True) w (hM Y) x.f:=λw hw=>by
  obtain⟨_,_,h4,h5,h6⟩:=jb (Ap w hw);cases h4
  exact⟨h5,h6⟩
 have hxe:=hx.e;have M:=hx.nm;have hnb:=jT.nb;have G9:=jT.rl;have HI:=jT.bl;have Ef:=hx.rg bM;obtain⟨c,hc⟩:∃c,c=dP m x:=⟨_,rfl⟩;refine afG _ _ _ _ _ _ ?_;unfold S169;refine cH (x:=(⟨x.kind,x.eD,x.name,W,Y,x.n,x.body,x.et,x.at_⟩:bE)) u (λb6 _ u=>aR u nh λb8 _ u=>?_);have u:=(u.enc (cs':=hZ (⟨0,0,0,0,0⟩:cG)) rfl).p2;obtain⟨bp,nv,rg,RI,ds,hk,u⟩:=mM.open u;refine aA iT (aB (v:=hM W) jH u.p5.hb rfl (aV Oy u (C203 tp.b t RI nv rg bp _ x.e _ u.hb (hk.1 _ (G _ u.aF)) u.p2.dS (Q1 _ (G _ u.aF)).1 bM bM M.1 O.r) λ_ J u=>aO rfl (aO rfl (aA j3 (aB (v:=hM Y) jH u.p5.hb rfl (aV Oy u (C203 tp.b t RI nv rg bp _ x.f _ u.hb (hk.1 _ (G _ u.aF)) u.p2.dS (Q1 _ (G _ u.aF)).2 bM bM M.2 O.r) λ_ J u=>aO rfl (aO rfl (aE (aA oS (aB AK u.hb rfl ?_))))))))))
 refine aV an3 u (C229 bp (dP m x) m.room t.buf _ (Ea u.p1) bM) (λw5 J u=>aO rfl (aO rfl ?_));have u:=u.p6;obtain⟨a,I,u⟩:=Dk.open u;refine⟨λjv w'=>jv=hH (im m t (dP m x))/\w'=w5,?_,?_⟩
 .refine bQ (aY (λB=>?_) λB=>?_);rotate_left
  .have h1:(ly t.buf (dP m x)).isSome=true:=by simpa using B
   exact⟨fM (ng .i64) (by unfold im;rw[ej h1]),rfl⟩
  have h1:(ly t.buf (dP m x)).isSome=false:=by simpa using B
  refine aE (aA tu (aB LJ u.hb rfl ?_));obtain⟨ov,fv,lv,kv,wv,ws,kc,aAk,hmo,hmf,LC,hmk5,hmw⟩:=(Gw u.p1.has).ex;refine aE (aA wO (bX eO (aAk.cell (o:=2) rfl) ?_));obtain⟨e,J⟩:=gx m.mem.l (i:=(dP m x).toNat) bM;exact aN cR LC Fu.1 J (λ_ hq=>aD bO hq ⟨fM (ng .i64) (by unfold im;rw[ei (by rw[h1];decide),ab1 Fu.1 J]),rfl⟩)
 rintro _ _ ⟨rfl,rfl⟩ _;refine aA iG (aB (v:=.string x.eD) gB u.p10.hb rfl (have u:=mM.shut (t:=t) hk u.p8.p8.p8.p8;bF ah4 u (H':=λ_=>mM K tp.b m.room (pg t x.eD (im m t (dP m x)))) (Φ:=λ_ _=>True) (λF2 ef dV=>?_) ?_))
 .exact(C204 K tp.b m.room t F2 x.eD _ _ ef (λw' hc=>G w' (dV w' hc).aF) Ef G9 hnb).mono λ_ _ r=>r.mono λ_ _ h=>⟨trivial,h.2⟩
 rintro _ _ _ u;refine aA dN (aB (v:=hH x.kind) bO u.p7.hb rfl (aG (aC (λZ=>?_) λZ=>?_)))
 .have U:xL m t x=⟨if (ly t.buf (dP m x)).isSome=true then 2 else 1,0,dP m x,im m t (dP m x),0⟩:=rfl;refine aY (λB=>?_) (λB=>?_)
  .refine pop (mI 2 (dP m x) (im m t (dP m x))) (aJ (x:=(⟨2,0,dP m x,im m t (dP m x),0⟩:cG)) u.p6 fj rfl rfl λw8 u=>aD (x:=(⟨2,0,dP m x,im m t (dP m x),0⟩:cG)) fj u.At ?_);have u:=(Dk.shut (m:=m) I u.drop.p6.drop.p5.p5.p5.p5.p5).p1;rw[abV Z];show hM _=hM (xL m t x)/\_;rw[U,ej B];exact⟨rfl,(St.join u).mut⟩
  refine pop (mI 1 (dP m x) (im m t (dP m x))) (aJ (x:=(⟨1,0,dP m x,im m t (dP m x),0⟩:cG)) u.p6 fj rfl rfl λw8 u=>aD (x:=(⟨1,0,dP m x,im m t (dP m x),0⟩:cG)) fj u.At ?_);have u:=(Dk.shut (m:=m) I u.drop.p6.drop.p5.p5.p5.p5.p5).p1;rw[abV Z];show hM _=hM (xL m t x)/\_;rw[U,ei (by rw[B];decide)];exact⟨rfl,(St.join u).mut⟩
 have k4:x.kind=4:=bM
 have V:im m t (dP m x)=jA m.mem (dP m x):=by unfold im;rw[hb4 k4];rfl
 rw[V]at u |-;rw[amd k4];refine bV (aC (λB=>?_) λB=>?_)
 .have E:rG m t x=m:=by unfold rG;rw[ei B]
  have zZ:tL m t x=⟨9,0,dP m x,jA m.mem (dP m x),0⟩:=by unfold tL;rw[ei B]
  refine pop (mI 9 (dP m x) (jA m.mem (dP m x))) (aJ (x:=(⟨9,0,dP m x,jA m.mem (dP m x),0⟩:cG)) u.p6 fj rfl rfl λw8 u=>aD (x:=(⟨9,0,dP m x,jA m.mem (dP m x),0⟩:cG)) fj u.At ?_);have u:=(Dk.shut (m:=m) I u.drop.p6.drop.p5.p5.p5.p5.p5).p1;rw[E,zZ];exact⟨rfl,(St.join u).mut⟩
 have E:rG m t x={m with mem:=fh m.mem (dP m x) (eH t x.f).1}:=by unfold rG;rw[ej (by simpa using B)]
 have zZ:tL m t x=⟨8,0,dP m x,jA m.mem (dP m x),(eH t x.f).1⟩:=by unfold tL;rw[ej (by simpa using B)]
 refine aE (aA tu (aB LJ u.p1.hb rfl (have u:=u.p2;bF agx u (H':=λ_=>gy a.q (fh m.mem (dP m x) (eH t x.f).1)) (Φ:=λ_ _=>True) (λF2 ef dV=>?_) ?_)))
 .exact(C166 a.q m.mem F2 (dP m x) _ _ ef hmm og).mono λ_ _ r=>r.mono λ_ _ h=>⟨trivial,h.2⟩
 rintro _ _ _ u;refine pop (zp 8 (dP m x) (jA m.mem (dP m x)) (eH t x.f).1) (aJ (x:=(⟨8,0,dP m x,jA m.mem (dP m x),(eH t x.f).1⟩:cG)) u.p6 fj rfl rfl λ_ u=>aD (x:=(⟨8,0,dP m x,jA m.mem (dP m x),(eH t x.f).1⟩:cG)) fj u.At ?_);have u:=Dk.shut (m:={m with mem:=fh m.mem (dP m x) (eH t x.f).1}) (⟨⟨I.1.pr,I.1.rc⟩,I.2⟩) u.drop.p6.drop.p5.p5.p5.p3.p5;have u:=u.p1;rw[E,zZ];exact⟨rfl,(St.join u).mut⟩
def C95(K:g7)(p:Nat)(m:gl)(q:aS)(i k:Int)(Y:q.t=i)(Z:q.i=k)(t:jS)(F:Nat->Prop)(w:World)(hF:(qM K p m).p w F)(W:nL m)(og:MB m.mem 1000000)(h0:0<=i)(ht:m.l[i.toNat]?=some t) :
   CR 95 [.pointer (some ⟨p,0,none⟩),hH i,hH k] w (λv w'=>v=hM (tg i (dH t.buf k))/\mP F (qM K p (tj m t q)) w w'):=by
 subst Y Z;have u:=St.begin hF;have CL:=kp ht;have jT:=W.th t CL;have nM:=(j0.1 ht).1;have HI:=jT.bl;refine py Tryz.func95 (pl:=P95) ?_;refine aR u nh (λb6 _ u=>?_);have u:=(u.enc (cs':=hZ (⟨0,0,0,0,0⟩:cG)) rfl).p1;obtain⟨a,E,u⟩:=qM.open u;have V:=u.p4.iV;obtain⟨e,I⟩:=gx a.ps (i:=q.t.toNat) bM;refine aE (aA tz (aB LK u.hb rfl (aN Pr u.p3.dS h0 I λq0 hq=>aD Sv hq ?_)));have u:=abU u.p4 I ht;obtain⟨bp,nv,rg,RI,ds,hk,u⟩:=mM.open u;refine aE (aA oS (aB AK u.hb rfl (have u:=u.p1;bF anT u (H':=λ_=>jg bp m.room (jO t.buf q.i)) (Φ:=λv _=>v=.tuple #[hM (dH t.buf q.i),hH (xC t.buf q.i)]) (λU M dV=>?_) ?_)))
 .exact C165 bp m.room t.buf q.i U _ M bM
 rintro _ _ rfl u;refine aO rfl (aO rfl (aR u rq λb7 _ u=>aJ (x:=(dH t.buf q.i)) u iv rfl rfl λ_ u=>have u:=(((((mM.shut (t:={t with buf:=jO t.buf q.i}) hk u.p4.p4.p3.p4).p2).p6).p6).p6).p6;have u:=u.p5.p7.p7;aA gM (aB (v:=hH (dH t.buf q.i).kind) bO u.hb rfl (aG (aC (λc=>?_) λc=>?_)))))
 .have u:=u.drew;refine aE (aA tu (aB LJ u.p3.hb rfl (aA mn (aB (v:=hH (dH t.buf q.i).cell) bO u.hb rfl (aA oW (aB (v:=hH (dH t.buf q.i).n) bO u.hb rfl (have u:=u.p4;bF agx u (H':=λ_=>gy a.q (fh m.mem (dH t.buf q.i).cell (dH t.buf q.i).n)) (Φ:=λ_ _=>True) (λU M dV=>?_) ?_)))))))
  .exact(C166 a.q m.mem U _ _ _ M W.mem og).mono λ_ _ r=>r.mono λ_ _ h=>⟨trivial,h.2⟩
  rintro _ _ _ u;refine aA mn (aB (v:=hH (dH t.buf q.i).cell) bO u.p1.hb rfl (aA oW (aB (v:=hH (dH t.buf q.i).n) bO u.p1.hb rfl (pop (zo 12 q.t (dH t.buf q.i).cell (dH t.buf q.i).n) (aJ (x:=(⟨12,q.t,(dH t.buf q.i).cell,(dH t.buf q.i).n,0⟩:cG)) u.p2 fj rfl rfl λ_ u=>aD (x:=(⟨12,q.t,(dH t.buf q.i).cell,(dH t.buf q.i).n,0⟩:cG)) fj u.At ?_)))));have u:=u.drop.p1.drop;have O:jP m.mem (dH t.buf q.i)=fh m.mem (dH t.buf q.i).cell (dH t.buf q.i).n:=by unfold jP;rw[ej c]
  have B:tg q.t (dH t.buf q.i)=⟨12,q.t,(dH t.buf q.i).cell,(dH t.buf q.i).n,0⟩:=by unfold tg;rw[ej c]
  have u:=Dk.shut (m:={m with mem:=fh m.mem (dH t.buf q.i).cell (dH t.buf q.i).n}) (i:=q.t.toNat) (tp:=e) ⟨⟨E.pr,E.rc⟩,I,V,by show q.t.toNat<m.l.length;omega⟩ u.p5.p5.p5.p3.p5;have u:=xY (m:={m with mem:=fh m.mem (dH t.buf q.i).cell (dH t.buf q.i).n}) (tp:=e) (t:={t with buf:=jO t.buf q.i}) u.p1;have G:tj m t q={ {m with mem:=fh m.mem (dH t.buf q.i).cell (dH t.buf q.i).n}with l:=m.l.set q.t.toNat ({t with buf:=jO t.buf q.i})}:=by unfold tj;rw[O]
  rw[G,B];exact⟨rfl,u.mut⟩
 refine aA gM (aB (v:=hH (dH t.buf q.i).kind) bO u.hb rfl (aG (aC (λJ=>?_) λJ=>?_)))
 .refine pop (Io 14 q.t) (aJ (x:=(⟨14,q.t,0,0,0⟩:cG)) u.p1 fj rfl rfl λ_ u=>aD (x:=(⟨14,q.t,0,0,0⟩:cG)) fj u.At ?_);have u:=u.drop.drop;have O:jP m.mem (dH t.buf q.i)=m.mem:=by unfold jP;rw[ei c,ej J]
  have B:tg q.t (dH t.buf q.i)=⟨14,q.t,0,0,0⟩:=by unfold tg;rw[ei c,ej J]
  have u:=Dk.shut (m:={m with mem:=m.mem}) (i:=q.t.toNat) (tp:=e) ⟨⟨E.pr,E.rc⟩,I,V,by show q.t.toNat<m.l.length;omega⟩ u.p5.p5.p5.p5.p5;have u:=xY (m:={m with mem:=m.mem}) (tp:=e) (t:={t with buf:=jO t.buf q.i}) u.p1;have G:tj m t q={ {m with mem:=m.mem}with l:=m.l.set q.t.toNat ({t with buf:=jO t.buf q.i})}:=by unfold tj;rw[O]
  rw[G,B];exact⟨rfl,u.mut⟩
 have u:=u.drew;refine aE (aA tu (aB LJ u.p3.hb rfl (aA ic (aB (v:=hH (dH t.buf q.i).line) bO u.hb rfl (have u:=u.p4;bF anU u (H':=λ_=>gy a.q (oe m.mem (dH t.buf q.i).line)) (Φ:=λ_ _=>True) (λU M dV=>?_) ?_)))))
 .exact(C167 a.q m.mem U _ _ M W.mem og).mono λ_ _ r=>r.mono λ_ _ h=>⟨trivial,h.2⟩
 rintro _ _ _ u;refine aA ic (aB (v:=hH (dH t.buf q.i).line) bO u.p1.hb rfl (pop (tK 13 q.t (dH t.buf q.i).line) (aJ (x:=(⟨13,q.t,(dH t.buf q.i).line,0,0⟩:cG)) u.p2 fj rfl rfl λ_ u=>aD (x:=(⟨13,q.t,(dH t.buf q.i).line,0,0⟩:cG)) fj u.At ?_)));have u:=u.drop.p1.drop;have O:jP m.mem (dH t.buf q.i)=oe m.mem (dH t.buf q.i).line:=by unfold jP;rw[ei c,ei J]
 have B:tg q.t (dH t.buf q.i)=⟨13,q.t,(dH t.buf q.i).line,0,0⟩:=by unfold tg;rw[ei c,ei J]
 have u:=Dk.shut (m:={m with mem:=oe m.mem (dH t.buf q.i).line}) (i:=q.t.toNat) (tp:=e) ⟨⟨E.pr,E.rc⟩,I,V,by show q.t.toNat<m.l.length;omega⟩ u.p5.p5.p5.p3.p5;have u:=xY (m:={m with mem:=oe m.mem (dH t.buf q.i).line}) (tp:=e) (t:={t with buf:=jO t.buf q.i}) u.p1;have G:tj m t q={ {m with mem:=oe m.mem (dH t.buf q.i).line}with l:=m.l.set q.t.toNat ({t with buf:=jO t.buf q.i})}:=by unfold tj;rw[O]
 rw[G,B];exact⟨rfl,u.mut⟩
def atn:PL 60:=dL Tryz.func60
def C96(K:g7)(p:Nat)(m:gl)(i:Int)(t:jS)(F:Nat->Prop)(w:World)(hF:(qM K p m).p w F)(U:∀w',gz F w w'->K w')(G:nL m)(hvo:Ov m)(og:MB m.mem 1000000)(h0:0<=i)(ht:m.l[i.toNat]?=some t)(ui:sQ m t=true)(KJ:m.mem.dZ=fm m.p) :
   CR 96 [.pointer (some ⟨p,0,none⟩),hH i] w (λv w'=>v=hM (iy m i).2/\mP F (qM K p (iy m i).1) w w'):=by
 have u:=St.begin hF;have CL:=kp ht;have jT:=G.th t CL;have Y:=hvo.th t CL;have nM:=(j0.1 ht).1;have hnb:=jT.nb;have how:=G.ow;have akE:(cL m.p).length<=500:=by unfold cL;rw[mE];exact G.pz.eI
 have aAl:(cX m.p).length<=250500:=mD G.pz.toPS;have LC:m.mem.l.length=(cX m.p).length:=by rw[G.mem.ll,KJ];unfold fm cX;rw[mE,mE]
 have asP:=jT.cl;have hfc:=Gt t.cD;refine alM _ _ _ _ ?_;unfold S96;refine aR u nh (λb4 _ u=>?_);have u:=(u.enc (cs':=hZ (⟨0,0,0,0,0⟩:cG)) rfl).p1;obtain⟨a,hu,u⟩:=qM.open u;have pH:=u.p4.iV;refine aE (aA tz (aB LK u.hb rfl ?_));obtain⟨e,he⟩:=gx a.ps (i:=i.toNat) bM;refine aN Pr u.p3.dS h0 he (λq hq=>aD Sv hq ?_);have u:=abU u.p4 he ht;obtain⟨bp,nv,rg,RI,ds,hk,u⟩:=mM.open u;have Mq:=hk.2.1.1;refine aE (aA wQ (aB bO u.hb rfl (bV (aC (λc=>?_) λc=>?_))))
 .have hse:iy m i=({m with fault:=t.fault,ku:=i},⟨16,i,t.fault,0,0⟩):=by unfold iy;rw[ht];dsimp only;rw[ej c]
  refine aE (aA wQ (aB bO u.hb rfl ?_));have u:=St.DZ (H:=OE K m.room) (x:=t) (((mM.shut (t:=t) hk u.p3.p3.p3.p3).p1).p1) bM pH he;rw[mT ht]at u;have u:=qM.shut (m:=m) hu u.p4.p4.p4.p4;refine bF ah6 u (H':=λ_=>qM K p {m with fault:=t.fault,ku:=i}) (Φ:=λv _=>v=hM (⟨16,i,t.fault,0,0⟩:cG)) (λB I O=>?_) ?_
  .exact C168 K p m i t.fault B _ I
  rintro _ _ rfl u;refine aJ (x:=(⟨16,i,t.fault,0,0⟩:cG)) u.p1 fj rfl rfl (λ_ u=>aD (x:=(⟨16,i,t.fault,0,0⟩:cG)) fj u.At ?_);rw[hse];exact⟨rfl,u.drop.mut⟩
 have hf0:t.fault=0:=bM
 obtain⟨x,xa,xb,CJ⟩:=On ui;obtain⟨en,tW⟩:=BO CJ;have RJ:(yE (gF t.cD)).length<=100000:=by rw[tW,ob]at hfc;omega
 have xo:=hk.2.1;rw[tW]at xo;obtain⟨d0,qc,rfl,Bv,hds⟩:=xo.head;obtain⟨dx,db,de,dn⟩:=d0;obtain⟨J,M,rfl,_,_⟩:=jb (Bv.x _ (U _ u.aF));have Ap:∀w,K w->mv w (⟨x.kind,x.eD,x.name,J,M,x.n,x.body,x.et,x.at_⟩:bE) x:=Bv.x;obtain⟨⟨R4,hk3⟩,hv1,hv2⟩:=G.st t CL hf0 _ _ _ CJ;obtain⟨hx,_,_,_,_,_,_,_,r,en',p',B0,sr,ar⟩:=jT.top CJ;refine aE (aA lH (aB vQ u.hb rfl (aN oy u.p3.eA bM rfl λq1 h1=>L5 (⟨x.kind,x.eD,x.name,J,M,x.n,x.body,x.et,x.at_⟩:bE) oV h1 rfl λq2 h2=>aD eK h2 (pop Kh (have u:=mM.shut (t:=t) hk u.p3.p3.p3.p3;aR u jq λb6 _ u=>aR u nh λb7 _ u=>aJ (x:=(⟨x.kind,x.eD,x.name,J,M,x.n,x.body,x.et,x.at_⟩:bE)) u.p1 eK rfl rfl λ_ u=>aJ (x:=(⟨0,0,0,0,0⟩:cG)) u.p1 fj rfl rfl λ_ u=>have u:=u.drew;aE (aA yh ?_))))))
 refine vm a.pv eL u.p4.hb rfl (aA gh (aB (v:=.string x.name) gB u.p1.hb rfl (aE (aA yh (vm a.pv eL u.p4.hb rfl (aA gh (aB (v:=.string x.name) gB u.p1.hb rfl (dT R7 u (C124 m.p a.pv _ (hu.pr _ (U _ u.aF)) G.pz) λx41 _ cK u=>?_))))))));refine⟨aI gB (u.p2.hb.cell (v:=.string x.name) rfl),?_⟩;refine⟨vn a.pv eL u.p5.hb rfl,?_⟩;refine⟨aI gB (u.p2.hb.cell (v:=.string x.name) rfl),?_⟩;refine aV rR u (C123 _ (cX m.p) x.name _ u.dS bM) (λ_ Nf u=>?_);refine⟨vn a.pv eL u.p5.hb rfl,?_⟩;refine⟨aI gB (u.p2.hb.cell (v:=.string x.name) rfl),?_⟩
 refine dT R8 u (C125 m.p a.pv _ (hu.pr _ (U _ u.aF)) G.pz) (λx49 _ cK u=>?_);refine⟨aI gB (u.p3.hb.cell (v:=.string x.name) rfl),?_⟩;refine aV rR u (C123 _ (cL m.p) x.name _ u.dS bM) (λw11 Nf u=>?_);have u:=Dk.shut (m:=m) (i:=i.toNat) (tp:=e) ⟨hu,he,pH,bM⟩ u.drop.drop.p3.p7.p7.p7.p7;have u:=u.p3.p4.p4.p4;have OG:iy m i=(if x.kind=10/\m.eW.getD (fD m x).toNat 0≠i then({m with fault:=3,ku:=i},⟨16,i,3,0,0⟩)else({ (dY m t i x).1 with l:=m.l.set i.toNat (uh m t i x)},{ (dY m t i x).2.2 with t:=i})):=by unfold iy;rw[ht];dsimp only;rw[ei bM,CJ]
 refine⟨λw'=>¬ (x.kind=10/\m.eW.getD (fD m x).toNat 0≠i)/\St w F [bY b7 (hZ ((dY m t i x).2.2)),bY b6 (hZ (⟨x.kind,x.eD,x.name,J,M,x.n,x.body,x.et,x.at_⟩:bE)),bY b4 (hZ (⟨0,0,0,0,0⟩:cG)),mM K e.b m.room (dY m t i x).2.1,Dk K p (dY m t i x).1 i.toNat e] w',?_,?_⟩
 .refine aA dN (aB (v:=hH x.kind) bO u.p1.hb rfl ?_);refine⟨λjv w'=>jv=.bool (decide (x.kind=2\/x.kind=4))/\w'=w11,?_,?_⟩
  .exact aG (aC (λc=>⟨vb (by rw[ew c,ew (Or.inl c)]),rfl⟩) λ_=>aG ⟨vb (e8.2 bM),rfl⟩)
  rintro _ _ ⟨rfl,rfl⟩ ry;refine aC (λk24=>?_) (λk24=>?_)
  .have mN:¬ (x.kind=10/\m.eW.getD (fD m x).toNat 0≠i):=bM
   obtain⟨jc,hjc,aAm,_⟩:=lV (dK.1 (hx.cl bM));have hjcl:=(j0.1 aAm).1;have hcc:dP m x=(jc:Int):=hjc;refine aD (x:=(⟨x.kind,x.eD,x.name,J,M,x.n,x.body,x.et,x.at_⟩:bE)) eK u.p1.At (have u:=St.join u.p4.p4;bF as6 u (H':=λ_=>sep (mM K e.b m.room (dY m t i x).2.1) (Dk K p (dY m t i x).1 i.toNat e)) (Φ:=λv _=>v=hM (dY m t i x).2.2) (λB I O=>?_) ?_)
   .exact C169 K p m i i.toNat e t x (⟨x.kind,x.eD,x.name,J,M,x.n,x.body,x.et,x.at_⟩:bE) B _ I (λw' hc=>U w' (O w' hc).aF) jT Y Ap hx G.mem og k24 (λh=>ab0 ui hf0 CJ h) bM
   rintro _ _ rfl u;have u:=u.split;exact aJ (x:=((dY m t i x).2.2:cG)) u.p2 fj rfl rfl (λ_ u=>have u:=u.p2.p2.p4.p4.p4;⟨mN,u⟩)
  refine aG (aC (λk8=>?_) λk8=>?_)
  .have mN:¬ (x.kind=10/\m.eW.getD (fD m x).toNat 0≠i):=bM
   refine aA adl (aW u bO (dR rfl) rfl λ_ u=>?_);have u:=(((((u.enc (cs':=hZ (⟨7,0,0,0,0⟩:cG)) rfl).p4).p4).p4).p4).p4;rw[amc k8];exact⟨mN,u⟩
  refine aG (aC (λk9=>?_) λk9=>?_)
  .have mN:¬ (x.kind=10/\m.eW.getD (fD m x).toNat 0≠i):=bM
   have V:x.kind=9\/x.kind=10:=bM
   obtain⟨j,hj,Bs,_⟩:=lV (dK.1 (hx.lk V));have C1:=(j0.1 Bs).1;have hjk:fD m x=(j:Int):=hj;have u:=u.p4;obtain⟨a,E,u⟩:=Dk.open u;refine aE (aA vj (aB eO u.hb rfl (dM u.p2 cR (show 0<=fD m x by omega) (show fD m x<_ by omega) λ_ aAn=>jo (i:Int) u.p2 bO aAn bM λ_ u=>pop (oE 10 (fD m x)) (have u:=Dk.shut (m:=pD m x i) (⟨⟨E.1.pr,E.1.rc⟩,E.2⟩) u.p4.p4.p2.p4.p4;aJ (x:=(⟨10,0,fD m x,0,0⟩:cG)) u.p1 fj rfl rfl λ_ u=>?_))));have u:=u.p1.p4.p4.p4.p4;rw[ame k9];exact⟨mN,u⟩
  refine aG (aC (λW=>?_) λW=>?_)
  .have V:x.kind=9\/x.kind=10:=bM
   obtain⟨j,hj,Bs,_⟩:=lV (dK.1 (hx.lk V));have C1:=(j0.1 Bs).1;have hjk:fD m x=(j:Int):=hj;have u:=u.p4;obtain⟨a,E,u⟩:=Dk.open u;have hwl:=u.p2.dS;obtain⟨ov,hov⟩:=gx m.eW (i:=(fD m x).toNat) bM;have hgd:m.eW.getD (fD m x).toNat 0=ov:=by rw[n0,hov];rfl
   refine aE (aA vj (aB eO u.hb rfl (aN cR hwl (show 0<=fD m x by omega) hov λq69 h69=>aD bO h69 (bV (aC (λc72=>?_) λc72=>?_)))))
   .have u:=u.p4;have u:=xY ((Dk.shut (m:=m) E u.p4.p4.p4.p4).p4);rw[mT ht]at u;refine bF ah6 u (H':=λ_=>qM K p {m with fault:=3,ku:=i}) (Φ:=λv _=>v=hM (⟨16,i,3,0,0⟩:cG)) (λB I O=>?_) ?_
    .exact C168 K p m i 3 B _ I
    rintro _ _ rfl u;refine aJ (x:=(⟨16,i,3,0,0⟩:cG)) u.p3 fj rfl rfl (λ_ u=>aD (x:=(⟨16,i,3,0,0⟩:cG)) fj u.At ?_);have u:=u.drop.p1.drop.p1.drop;rw[OG,ej ⟨W,by rw[hgd];exact c72⟩];exact⟨rfl,u.mut⟩
   refine aE (aA vj (aB eO u.hb rfl (dM u.p2 cR (show 0<=fD m x by omega) (show fD m x<_ by omega) λ_ amg=>jo (-1:Int) u.p2 bO amg bM λ_ u=>pop (oE 11 (fD m x)) (have u:=Dk.shut (m:=pD m x (-1)) (⟨⟨E.1.pr,E.1.rc⟩,E.2⟩) u.p4.p4.p2.p4.p4;aJ (x:=(⟨11,0,fD m x,0,0⟩:cG)) u.p1 fj rfl rfl λ_ u=>?_))));have u:=u.p1.p4.p4.p4.p4;rw[afW W];exact⟨by rw[hgd];exactλh=>c72 h.2,u⟩
  have mN:¬ (x.kind=10/\m.eW.getD (fD m x).toNat 0≠i):=bM
  have u:=u.drew;refine aD (x:=(⟨x.kind,x.eD,x.name,J,M,x.n,x.body,x.et,x.at_⟩:bE)) eK u.p1.At ?_;have u:=u.p4;obtain⟨a,E,u⟩:=Dk.open u;refine aE (aA yh (vm a.pv eL u.hb rfl (aV atn u (C60 m.p a.pv (dP m x) _ (E.1.pr _ (U _ u.aF)) G.pz) λ_ Nf u=>?_)));refine⟨eP (x:=(⟨x.kind,x.eD,x.name,J,M,x.n,x.body,x.et,x.at_⟩:bE)) eK u.p6.At,?_⟩;have u:=(Dk.shut (m:=m) E u.p4.p4.p4.p4.p4).p4
  have ha1:(dY m t i x).1=m:=by
   rcases(show x.kind=3\/x.kind=5\/x.kind=6\/x.kind=7 by omega)with h|h|h|h
   .rw[abW h]
   .rw[abX h]
   .rw[abY h]
   .rw[abZ h]
  refine bF as5 u (H':=λ_=>mM K e.b m.room (dY m t i x).2.1) (Φ:=λv _=>v=hM (dY m t i x).2.2) (λB I O=>?_) ?_
  .exact C170 K _ m i e t x (⟨x.kind,x.eD,x.name,J,M,x.n,x.body,x.et,x.at_⟩:bE) B _ I (λw' hc=>U w' (O w' hc).aF) jT Y Ap hx bM
  rintro _ _ rfl u;refine aJ (x:=((dY m t i x).2.2:cG)) u.p2 fj rfl rfl (λ_ u=>?_);have u:=u.p2.p2.p4.p4.p4;rw[ha1];exact⟨mN,u⟩
 rintro _ ⟨ab4,u⟩ ry;have yV:=CQ (m:=m) (t:=t) (i:=i) (x:=x);have amh:sN (Vq (cX m.p) (cL m.p) t.names) (dY m t i x).2.1:=Kz jT G.rm.2
 have ab5:yx (cX m.p) (cL m.p) { (dY m t i x).2.1 with cD:=gF (dY m t i x).2.1.cD}:=by
  show sN (Vq _ _ (dY m t i x).2.1.names) _;rw[vJ];exact KA amh
 have atp:=(abu (i:=i) (x:=x) hvo.mem Y).1;have aAp:B7 { (dY m t i x).2.1 with cD:=gF (dY m t i x).2.1.cD}:=⟨atp.r,atp.b⟩;have Z:=CS (m:=m) (t:=t) (i:=i) (x:=x);refine aA Sq (aW u bO (dR rfl) rfl λ_ u=>have u:=(u.enc (cs':=hZ ({ (dY m t i x).2.2 with t:=i}:cG)) rfl).p3;bF IL u (H':=λ_=>mM K e.b m.room { (dY m t i x).2.1 with cD:=gF (dY m t i x).2.1.cD}) (Φ:=λ_ _=>True) (λB I O=>?_) ?_)
 .exact(C171 K e.b m.room (dY m t i x).2.1 B (.slice none 0 0) [] [] (yE (gF t.cD)) _ (gF (dY m t i x).2.1.cD) _ I (λw' hc=>U w' (O w' hc).aF) (λ_ _=>cZ.nil _ _) lh.nil (by rw[Z];exact tW) (by rw[Z];rfl) (by rw[Z];exact hk.2.2.pop) (la _) RJ).mono λ_ _ r=>r.mono λ_ _ h=>⟨trivial,h.2⟩
 rintro _ _ _ u;refine bF ah5 u (H':=λ_=>mM K e.b m.room (uh m t i x)) (Φ:=λ_ _=>True) (λB I O=>?_) ?_
 .exact(C129 K e.b m.room { (dY m t i x).2.1 with cD:=gF (dY m t i x).2.1.cD} (uh m t i x) _ _ _ B _ I (λw' hc=>U w' (O w' hc).aF) ab5 aAp (qJ ab5).1).mono λ_ _ r=>r.mono λ_ _ h=>⟨trivial,h.2⟩
 rintro _ _ _ u;refine aD (x:=({ (dY m t i x).2.2 with t:=i}:cG)) fj u.p1.At (aJ (x:=({ (dY m t i x).2.2 with t:=i}:cG)) u.p3 fj rfl rfl λ_ u=>aD (x:=({ (dY m t i x).2.2 with t:=i}:cG)) fj u.At ?_);have u:=u.drop.p1.drop.p1.drop.p1.p1;rw[<- yV]at u;have u:=xY u;rw[abi]at u;rw[OG,ei ab4];exact⟨rfl,u.mut⟩
def C91(K:g7)(p:Nat)(m:gl)(i:Int)(t:jS)(F:Nat->Prop)(w:World)(hF:(gv K p m).p w F)(V:∀w',gz F w w'->K w')(jY:nL m)(og:MB m.mem 1000000)(h0:0<=i)(ht:m.l[i.toNat]?=some t)(aAq:t.fault=0->∃x a b,pf t.cD=some (x,a,b)) :
   CR 91 [.pointer (some ⟨p,0,none⟩),hH i] w (λv w'=>v=hM (iy m i).2/\mP F (gv K p (iy m i).1) w w'):=by
 have u:=St.begin hF;have CL:=kp ht;have U:=jY.th t CL;have nM:=(j0.1 ht).1;have nU:=Ec U.p;have Fu:=U.cl;have HI:=U.bl;have hnb:=U.nb;have G9:=U.rl;have how:=jY.ow;have akE:(cL m.p).length<=500:=by unfold cL;rw[mE];exact jY.pz.eI
 have aAl:(cX m.p).length<=250500:=mD jY.pz.toPS;refine akx _ _ _ _ ?_;unfold S91;refine aR u nh (λb4 _ u=>?_);have u:=(u.enc (cs':=hZ (⟨0,0,0,0,0⟩:cG)) rfl).p1;obtain⟨a,hu,u⟩:=gv.open u;have pH:=u.p4.iV;refine aE (aA vl (aB Jp u.hb rfl ?_));obtain⟨e,he⟩:=gx a.ps (i:=i.toNat) bM;refine aN LM u.p3.dS h0 he (λq hq=>aD HA hq ?_);have u:=aaE u.p4 he ht;obtain⟨O,nv,rg,pl,es,Y,u⟩:=eQ.open u;refine aE (aA wR (aB bO u.hb rfl (bV (aC (λc=>?_) λc=>?_))))
 .have hse:iy m i=({m with fault:=t.fault,ku:=i},⟨16,i,t.fault,0,0⟩):=by unfold iy;rw[ht];dsimp only;rw[ej c]
  refine aE (aA wR (aB bO u.hb rfl ?_));have u:=eQ.shut (Φ:=λ_=>True) (t:=t) Y u.p4.p4.p4.p4.p4;have u:=St.DZ (H:=yP K m.room) (x:=t) u.p1.p1 bM pH he;rw[mT ht]at u;have u:=gv.shut (m:=m) hu u.p4.p4.p4.p4;refine bF ahT u (H':=λ_=>gv K p {m with fault:=t.fault,ku:=i}) (Φ:=λv _=>v=hM (⟨16,i,t.fault,0,0⟩:cG)) (λB E J=>?_) ?_
  .exact C158 K p m i t.fault B _ E
  rintro _ _ rfl u;refine aJ (x:=(⟨16,i,t.fault,0,0⟩:cG)) u.p1 fj rfl rfl (λ_ u=>aD fj u.At ?_);rw[hse];exact⟨rfl,u.drop.mut⟩
 have hf0:t.fault=0:=bM
 refine dO aar (C137 K e.b t O nv rg pl es _ _ u.hb u.p3.dS u.p4.eA.1 (λ_ e=>V _ (u.aF.then e)) U.p bM) ?_;rintro v _ ⟨hex,hv⟩;have u:=u.ext hex
 rcases hv with⟨eE,_⟩|⟨x,xa,xb,xv,av,bv,ra,rb,CJ,rfl,Ap,_⟩
 .obtain⟨_,_,_,h⟩:=aAq hf0;rw[eE]at h;cases h
 obtain⟨ge,gf,rfl,_,_⟩:=jb (Ap _ (V _ u.aF))
 have Q1:∀w,K w->cZ (λ_=>True) w (hM ge) x.e/\cZ (λ_=>True) w (hM gf) x.f:=λw hw=>by
  obtain⟨_,_,h4,h5,h6⟩:=jb (Ap w hw);cases h4
  exact⟨h5,h6⟩
 obtain⟨⟨R4,xo⟩,hv1,hv2⟩:=jY.st t CL hf0 _ _ _ CJ;obtain⟨hx,_,_,_,_,_,_,_,r,en,p',B0,sr,ar⟩:=U.top CJ;have iY:(Bk.cons x xa xb r).str:=U.p.st _ (by rw[B0];exact oi ..);have hxe:=hx.e;have ht1:{t with fault:=if (eH t x.e).2=true then t.fault else 2}=t:=by rw[hv1];rfl
 refine aO rfl (aO rfl (aO rfl (aO rfl (have u:=eQ.shut (Φ:=λ_=>True) (t:=t) Y u.p4.p4.p4.p4.p4;aR u jq λb6 _ u=>aJ (x:=(⟨x.kind,x.eD,x.name,ge,gf,x.n,x.body,x.et,x.at_⟩:bE)) u eK rfl rfl λ_ u=>have u:=u.drew;aE (aA Jq (aB je u.p3.hb rfl (aA gh (aB (v:=.string x.name) gB u.hb rfl (aE (aA Jr ?_))))))))));refine aB je u.p3.hb rfl (aA gh (aB (v:=.string x.name) gB u.hb rfl (aV HW u (C159 _ (cX m.p) x.name _ (hu.cs _ (V _ u.aF)) bM) λ_ Nf u=>?_)));refine⟨aI je (u.p3.hb.cell rfl),?_⟩
 refine⟨aI gB (u.hb.cell rfl),?_⟩;refine aV HW u (C159 _ (cL m.p) x.name _ (hu.ks _ (V _ u.aF)) bM) (λ_ Nf u=>aE (aA DX (vm a.pv eL u.p3.hb rfl (aV ara u (C52 m.p a.pv _ _ (hu.pr _ (V _ u.aF)) jY.pz) λ_ Nf u=>aR u nh λb13 _ u=>?_))));have u:=mY.shut (m:=m) (⟨hu,he,pH,bM⟩) ((((((u.enc (cs':=hZ (⟨0,0,0,0,0⟩:cG)) rfl).p3).p7).p7).p7).p7);obtain⟨c,hc⟩:∃c,c=dP m x:=⟨_,rfl⟩;obtain⟨lk,hlk⟩:∃lk,lk=fD m x:=⟨_,rfl⟩;obtain⟨ln,GL⟩:∃ln,ln=fy m x:=⟨_,rfl⟩;have u:=u.p3.p4.p4.p4;have OG:iy m i=(if x.kind=10/\m.eW.getD (fD m x).toNat 0≠i then({m with fault:=3,ku:=i},⟨16,i,3,0,0⟩)else({ (dY m t i x).1 with l:=m.l.set i.toNat (uh m t i x)},{ (dY m t i x).2.2 with t:=i})):=by unfold iy;rw[ht];dsimp only;rw[ei bM,CJ]
 refine⟨λw'=>¬ (x.kind=10/\m.eW.getD (fD m x).toNat 0≠i)/\St w F [bY b13 (hZ ((dY m t i x).2.2)),bY b6 (hZ (⟨x.kind,x.eD,x.name,ge,gf,x.n,x.body,x.et,x.at_⟩:bE)),bY b4 (hZ (⟨0,0,0,0,0⟩:cG)),rD K e.b m.room (dY m t i x).2.1,mY K p (dY m t i x).1 i.toNat e] w',?_,?_⟩
 .refine aA dN (aB (v:=hH x.kind) bO u.p1.hb rfl (aG (aC (λW=>?_) λW=>?_)))
  .have G:(dY m t i x)=(m,pg t x.eD (im m t (dP m x)),xL m t x):=by unfold dY;rw[ej W]
   have I:¬ (x.kind=10/\m.eW.getD (fD m x).toNat 0≠i):=bM
   refine aD eK u.p1.At (have u:=St.join u.p4.p4;bF ar6 u (H':=λ_=>sep (rD K e.b m.room (pg t x.eD (im m t (dP m x)))) (mY K p m i.toNat e)) (Φ:=λv _=>v=hM (xL m t x)) (λB E J=>?_) ?_)
   .exact C160 K p m i.toNat e t x ⟨x.kind,x.eD,x.name,ge,gf,x.n,x.body,x.et,x.at_⟩ B (dP m x) _ E (λw' hc=>V w' (J w' hc).aF) U jY.mem Ap (hx.rg bM)
   rintro _ _ rfl u;have u:=u.split;refine aJ (x:=(xL m t x:cG)) u.p2 fj rfl rfl (λ_ u=>?_);have u:=u.p2.p2.p4.p4.p4;rw[G];exact⟨I,u⟩
  refine aG (aC (λZ=>?_) λZ=>?_)
  .have G:(dY m t i x)=(m,pX m t ⟨3,fy m x,dP m x,(eH t x.e).1⟩,⟨3,0,dP m x,(eH t x.e).1,0⟩):=by unfold dY;rw[ei W,ej Z]
   have I:¬ (x.kind=10/\m.eW.getD (fD m x).toNat 0≠i):=bM
   refine aA iT (aB (v:=hM ge) jH u.p1.hb rfl (have u:=u.p3;bF NG u (H':=λ_=>rD K e.b m.room t) (Φ:=λv _=>v=.tuple #[hH (eH t x.e).1,.bool (eH t x.e).2]) (λB E J=>?_) ?_))
   .have:=C161 K _ e.b m.room t B _ x.e _ E (λw' hc=>V w' (J w' hc).aF) (Q1 _ (V _ u.aF)).1 bM bM;rw[ht1]at this;exact this
   rintro _ _ rfl u;refine aO rfl (aO rfl ?_);obtain⟨O,nv,rg,pl,es,Y,u⟩:=eQ.open u;refine aE (aA oT (aB AJ u.hb rfl (pop (xJ 3 (fy m x) (dP m x) (eH t x.e).1) (have u:=u.p1;bF Sb u (H':=λ_=>jg O m.room (sJ m.room t.buf (⟨3,fy m x,dP m x,(eH t x.e).1⟩:bI))) (Φ:=λ_ _=>True) (λB E J=>?_) ?_))))
   .exact(C162 O m.room t.buf (⟨3,fy m x,dP m x,(eH t x.e).1⟩:bI) B _ E bM).mono λ_ _ r=>r.mono λ_ _ h=>⟨trivial,h.2⟩
   rintro _ _ _ u;refine pop (mI 3 (dP m x) (eH t x.e).1) (have u:=eQ.shut (Φ:=λ_=>True) (t:=pX m t (⟨3,fy m x,dP m x,(eH t x.e).1⟩:bI)) Y u.p4.p4.p4.p3.p4;aJ (x:=(⟨3,0,dP m x,(eH t x.e).1,0⟩:cG)) u.p1 fj rfl rfl λw14' u=>?_);have u:=u.p4.p2.p4.p4.p4;rw[G];exact⟨I,u⟩
  refine aG (aC (λk5=>?_) λk5=>?_)
  .have G:(dY m t i x)=(m,pX m t ⟨5,fy m x,0,0⟩,⟨4,0,fy m x,0,0⟩):=by unfold dY;rw[ei W,ei Z,ej k5]
   have I:¬ (x.kind=10/\m.eW.getD (fD m x).toNat 0≠i):=bM
   have u:=u.p3;obtain⟨O,nv,rg,pl,es,Y,u⟩:=eQ.open u;refine aE (aA oT (aB AJ u.hb rfl (pop (vE 5 (fy m x)) (have u:=u.p1;bF Sb u (H':=λ_=>jg O m.room (sJ m.room t.buf (⟨5,fy m x,0,0⟩:bI))) (Φ:=λ_ _=>True) (λB E J=>?_) ?_))))
   .exact(C162 O m.room t.buf (⟨5,fy m x,0,0⟩:bI) B _ E bM).mono λ_ _ r=>r.mono λ_ _ h=>⟨trivial,h.2⟩
   rintro _ _ _ u;refine pop (oE 4 (fy m x)) (have u:=eQ.shut (Φ:=λ_=>True) (t:=pX m t (⟨5,fy m x,0,0⟩:bI)) Y u.p4.p4.p4.p3.p4;aJ (x:=(⟨4,0,fy m x,0,0⟩:cG)) u.p1 fj rfl rfl λw16' u=>?_);have u:=u.p4.p2.p4.p4.p4;rw[G];exact⟨I,u⟩
  refine aG (aC (λk6=>?_) λk6=>?_)
  .have G:(dY m t i x)=(m,pX m t ⟨6,fy m x,0,0⟩,⟨5,0,fy m x,0,0⟩):=by unfold dY;rw[ei W,ei Z,ei k5,ej k6]
   have I:¬ (x.kind=10/\m.eW.getD (fD m x).toNat 0≠i):=bM
   have u:=u.p3;obtain⟨O,nv,rg,pl,es,Y,u⟩:=eQ.open u;refine aE (aA oT (aB AJ u.hb rfl (pop (vE 6 (fy m x)) (have u:=u.p1;bF Sb u (H':=λ_=>jg O m.room (sJ m.room t.buf (⟨6,fy m x,0,0⟩:bI))) (Φ:=λ_ _=>True) (λB E J=>?_) ?_))))
   .exact(C162 O m.room t.buf (⟨6,fy m x,0,0⟩:bI) B _ E bM).mono λ_ _ r=>r.mono λ_ _ h=>⟨trivial,h.2⟩
   rintro _ _ _ u;refine pop (oE 5 (fy m x)) (have u:=eQ.shut (Φ:=λ_=>True) (t:=pX m t (⟨6,fy m x,0,0⟩:bI)) Y u.p4.p4.p4.p3.p4;aJ (x:=(⟨5,0,fy m x,0,0⟩:cG)) u.p1 fj rfl rfl λw18' u=>?_);have u:=u.p4.p2.p4.p4.p4;rw[G];exact⟨I,u⟩
  refine aG (aC (λk7=>?_) λk7=>?_)
  .have G:(dY m t i x)=(m,pX m t ⟨7,0,0,0⟩,⟨6,0,0,0,0⟩):=by unfold dY;rw[ei W,ei Z,ei k5,ei k6,ej k7]
   have I:¬ (x.kind=10/\m.eW.getD (fD m x).toNat 0≠i):=bM
   have u:=u.p3;obtain⟨O,nv,rg,pl,es,Y,u⟩:=eQ.open u;refine aE (aA oT (aB AJ u.hb rfl (pop (AT 7) (have u:=u.p1;bF Sb u (H':=λ_=>jg O m.room (sJ m.room t.buf (⟨7,0,0,0⟩:bI))) (Φ:=λ_ _=>True) (λB E J=>?_) ?_))))
   .exact(C162 O m.room t.buf (⟨7,0,0,0⟩:bI) B _ E bM).mono λ_ _ r=>r.mono λ_ _ h=>⟨trivial,h.2⟩
   rintro _ _ _ u;refine pop (Ki 6) (have u:=eQ.shut (Φ:=λ_=>True) (t:=pX m t (⟨7,0,0,0⟩:bI)) Y u.p4.p4.p4.p3.p4;aJ (x:=(⟨6,0,0,0,0⟩:cG)) u.p1 fj rfl rfl λw20' u=>?_);have u:=u.p4.p2.p4.p4.p4;rw[G];exact⟨I,u⟩
  refine aG (aC (λk8=>?_) λk8=>?_)
  .have G:(dY m t i x)=(m,t,⟨7,0,0,0,0⟩):=by unfold dY;rw[ei W,ei Z,ei k5,ei k6,ei k7,ej k8]
   have I:¬ (x.kind=10/\m.eW.getD (fD m x).toNat 0≠i):=bM
   refine pop (Ki 7) (aJ (x:=(⟨7,0,0,0,0⟩:cG)) u fj rfl rfl λ_ u=>?_);have u:=u.p4.p4.p4.p4.p4;rw[G];exact⟨I,u⟩
  refine aG (aC (λk4=>?_) λk4=>?_)
  .have G:(dY m t i x)=(rG m t x,pg t x.eD (jA m.mem (dP m x)),tL m t x):=by unfold dY;rw[ei W,ei Z,ei k5,ei k6,ei k7,ei k8,ej k4]
   have I:¬ (x.kind=10/\m.eW.getD (fD m x).toNat 0≠i):=bM
   refine aD eK u.p1.At (have u:=St.join u.p4.p4;bF ar7 u (H':=λ_=>sep (rD K e.b m.room (pg t x.eD (jA m.mem (dP m x)))) (mY K p (rG m t x) i.toNat e)) (Φ:=λv _=>v=hM (tL m t x)) (λB E J=>?_) ?_)
   .exact C163 K p m i.toNat e t x ⟨x.kind,x.eD,x.name,ge,gf,x.n,x.body,x.et,x.at_⟩ B _ E (λw' hc=>V w' (J w' hc).aF) U jY.mem Ap (hx.rg bM) og hxe hv1 hv2
   rintro _ _ rfl u;have u:=u.split;refine aJ (x:=(tL m t x:cG)) u.p2 fj rfl rfl (λ_ u=>?_);have u:=u.p2.p2.p4.p4.p4;rw[G];exact⟨I,u⟩
  have ab3:x.kind=9\/x.kind=10:=bM
  obtain⟨j,hj,Bs,_⟩:=lV (dK.1 (hx.lk ab3));have C1:=(j0.1 Bs).1;have hjk:fD m x=(j:Int):=hj;refine aG (aC (λk9=>?_) λk9=>?_)
  .have G:(dY m t i x)=(pD m x i,t,⟨10,0,fD m x,0,0⟩):=by unfold dY;rw[ei W,ei Z,ei k5,ei k6,ei k7,ei k8,ei k4,ej k9]
   have I:¬ (x.kind=10/\m.eW.getD (fD m x).toNat 0≠i):=bM
   have u:=u.p4;obtain⟨a,M,u⟩:=mY.open u;refine aE (aA vk (aB eO u.hb rfl (dM u.p2 cR (show 0<=fD m x by omega) (show fD m x<_ by omega) λ_ atq=>jo (i:Int) u.p2 bO atq bM λ_ u=>pop (oE 10 (fD m x)) (have u:=mY.shut (m:=pD m x i) (⟨⟨M.1.pr,M.1.cs,M.1.ks,M.1.mem,M.1.rc⟩,M.2⟩) u.p4.p4.p2.p4.p4;aJ (x:=(⟨10,0,fD m x,0,0⟩:cG)) u.p1 fj rfl rfl λ_ u=>?_))));have u:=u.p1.p4.p4.p4.p4;rw[G];exact⟨I,u⟩
  have G:(dY m t i x)=(pD m x (-1),t,⟨11,0,fD m x,0,0⟩):=by unfold dY;rw[ei W,ei Z,ei k5,ei k6,ei k7,ei k8,ei k4,ei k9]
  have u:=u.p4;obtain⟨a,M,u⟩:=mY.open u;have hwl:=u.p2.dS;obtain⟨ov,hov⟩:=gx m.eW (i:=(fD m x).toNat) bM;have hgd:m.eW.getD (fD m x).toNat 0=ov:=by rw[n0,hov];rfl
  refine aE (aA vk (aB eO u.hb rfl (aN cR hwl (show 0<=fD m x by omega) hov λq69 h69=>aD bO h69 (bV (aC (λc72=>?_) λc72=>?_)))))
  .have u:=u.p4;have u:=xK ((mY.shut (m:=m) M u.p4.p4.p4.p4).p4);rw[mT ht]at u;refine bF ahT u (H':=λ_=>gv K p {m with fault:=3,ku:=i}) (Φ:=λv _=>v=hM (⟨16,i,3,0,0⟩:cG)) (λB E J=>?_) ?_
   .exact C158 K p m i 3 B _ E
   rintro _ _ rfl u;refine aJ (x:=(⟨16,i,3,0,0⟩:cG)) u.p3 fj rfl rfl (λ_ u=>aD fj u.At ?_);have u:=u.drop.p1.drop.p1.drop;rw[OG,ej ⟨bM,by rw[hgd];exact c72⟩];exact⟨rfl,u.mut⟩
  refine aE (aA vk (aB eO u.hb rfl (dM u.p2 cR (show 0<=fD m x by omega) (show fD m x<_ by omega) λ_ amg=>jo (-1:Int) u.p2 bO amg bM λ_ u=>pop (oE 11 (fD m x)) (have u:=mY.shut (m:=pD m x (-1)) (⟨⟨M.1.pr,M.1.cs,M.1.ks,M.1.mem,M.1.rc⟩,M.2⟩) u.p4.p4.p2.p4.p4;aJ (x:=(⟨11,0,fD m x,0,0⟩:cG)) u.p1 fj rfl rfl λ_ u=>?_))));have u:=u.p1.p4.p4.p4.p4;rw[G];exact⟨by rw[hgd];exactλh=>c72 h.2,u⟩
 rintro _ ⟨ab4,u⟩ _;have aAr:(dY m t i x).2.1.cD=(.cons x xa xb r,en)::p':=by rw[CS];exact B0
 have yV:=CQ (m:=m) (t:=t) (i:=i) (x:=x);have amh:sN (Vq (cX m.p) (cL m.p) t.names) (dY m t i x).2.1:=Kz U jY.rm.2
 have ab5:yx (cX m.p) (cL m.p) { (dY m t i x).2.1 with cD:=gF (dY m t i x).2.1.cD}:=by
  show sN (Vq _ _ (dY m t i x).2.1.names) _;rw[vJ];exact KA amh
 refine aA Sq (aW u bO (dR rfl) rfl λ_ u=>have u:=(u.enc (cs':=hZ ({ (dY m t i x).2.2 with t:=i}:cG)) rfl).p3;bF NF u (H':=λ_=>rD K e.b m.room { (dY m t i x).2.1 with cD:=gF (dY m t i x).2.1.cD}) (Φ:=λ_ _=>True) (λB E J=>?_) ?_)
 .exact(C164 K _ e.b m.room (dY m t i x).2.1 B x xa xb r en p' _ E (λw' hc=>V w' (J w' hc).aF) aAr iY (by rw[CS];omega)).mono λ_ _ r=>r.mono λ_ _ h=>⟨trivial,h.2⟩
 rintro _ _ _ u;refine bF ahP u (H':=λ_=>rD K e.b m.room (uh m t i x)) (Φ:=λ_ _=>True) (λB E J=>?_) ?_
 .exact(C117 K e.b m.room { (dY m t i x).2.1 with cD:=gF (dY m t i x).2.1.cD} (uh m t i x) _ _ _ B _ E (λw' hc=>V w' (J w' hc).aF) ab5 (qJ ab5).1).mono λ_ _ r=>r.mono λ_ _ h=>⟨trivial,h.2⟩
 rintro _ _ _ u;refine aD (x:=({ (dY m t i x).2.2 with t:=i}:cG)) fj u.p1.At (aJ (x:=({ (dY m t i x).2.2 with t:=i}:cG)) u.p3 fj rfl rfl λ_ u=>aD fj u.At ?_);have u:=u.drop.p1.drop.p1.drop.p1.p1;rw[<- yV]at u;have u:=xK u;rw[abi]at u;rw[OG,ei ab4];exact⟨rfl,u.mut⟩
def C90(K:g7)(p:Nat)(m:gl)(q:aS)(gc:SV)(t:jS)(F:Nat->Prop)(w:World)(hF:(gv K p m).p w F)(hK:∀w',gz F w w'->K w')(jY:nL m)(og:MB m.mem 1000000)(h0:0<=q.t)(ht:m.l[q.t.toNat]?=some t) :
   CR 90 [.pointer (some ⟨p,0,none⟩),hM (⟨q.kind,q.t,q.i,gc⟩:aM)] w (λv w'=>v=hM (tg q.t (dH t.buf q.i))/\mP F (gv K p (tj m t q)) w w'):=by
 have u:=St.begin hF;have CL:=kp ht;have jT:=jY.th t CL;have nM:=(j0.1 ht).1;have HI:=jT.bl;refine py Tryz.func90 (pl:=P90) ?_;refine cH (x:=(⟨q.kind,q.t,q.i,gc⟩:aM)) u (λb3 _ u=>aR u nh λb4 _ u=>?_);have u:=(u.enc (cs':=hZ (⟨0,0,0,0,0⟩:cG)) rfl).p2;obtain⟨a,hu,u⟩:=gv.open u;have Z:=u.p4.iV;obtain⟨e,M⟩:=gx a.ps (i:=q.t.toNat) bM;refine⟨λx5 w'=>∃G,x5=.pointer (some ⟨G,0,none⟩)/\St w F [bY G (hZ (dH t.buf q.i)),bY b4 (hZ (⟨0,0,0,0,0⟩:cG)),bY b3 (hZ (⟨q.kind,q.t,q.i,gc⟩:aM)),rD K e.b m.room ({t with buf:=jO t.buf q.i}),mY K p m q.t.toNat e] w',?_,?_⟩
 .have u:=u.drew;refine aE (aA vl (aB Jp u.hb rfl (aA lC (aB (v:=hH q.t) bO u.p6.hb rfl (dM u.p3 LM h0 (by have:=Z;omega) λq14 Yl=>fZ u.p3 HA Yl M ?_)))));have u:=aaE u.p4 M ht;obtain⟨Y,nv,rg,pl,es,hk,u⟩:=eQ.open u;refine aE (aA oT (aB AJ u.hb rfl (aA qf (aB (v:=hH q.i) bO u.p11.hb rfl ⟨?_,?_,trivial⟩))))
  .have u:=u.p1;refine bF agv u (H':=λ_=>jg Y m.room (jO t.buf q.i)) (Φ:=λv _=>v=.tuple #[hM (dH t.buf q.i),hH (xC t.buf q.i)]) (λI J W=>?_) ?_
   .exact C155 Y m.room t.buf q.i I _ J bM
   rintro _ _ rfl u;refine aO rfl (aO rfl (aR u rq λG _ u=>?_));refine⟨aI Jp (u.p7.hb.cell rfl),?_⟩;refine⟨aI bO (u.p12.hb.cell (v:=hH q.t) rfl),?_⟩;refine⟨SC u.p10 HA Yl M,?_⟩;refine⟨aI AJ (u.p2.hb.cell rfl),?_⟩;refine⟨aI bO (u.p12.hb.cell (v:=hH q.i) rfl),?_⟩;exact aJ (x:=(dH t.buf q.i)) u iv rfl rfl (λ_ u=>have u:=eQ.shut (Φ:=λ_=>True) (t:={t with buf:=jO t.buf q.i}) hk u.p5.p5.p5.p4.p5;have u:=mY.shut (m:=m) ⟨hu,M,Z,bM⟩ u.p2.p6.p6.p6.p6;have u:=u.p1.p4.p4.p4;⟨G,rfl,u⟩)
  refine aR u rq (λG _ u=>?_);refine⟨aI Jp (u.p7.hb.cell rfl),?_⟩;refine⟨aI bO (u.p12.hb.cell (v:=hH q.t) rfl),?_⟩;refine⟨SC u.p10 HA Yl M,?_⟩;refine⟨aI AJ (u.p1.hb.cell rfl),?_⟩;refine⟨aI bO (u.p12.hb.cell (v:=hH q.i) rfl),?_⟩;have u:=u.p2;refine bF agv u (H':=λ_=>jg Y m.room (jO t.buf q.i)) (Φ:=λv _=>v=.tuple #[hM (dH t.buf q.i),hH (xC t.buf q.i)]) (λI J W=>?_) ?_
  .exact C155 Y m.room t.buf q.i I _ J bM
  rintro _ _ rfl u;exact aO rfl (aO rfl (aJ (x:=(dH t.buf q.i)) u.p1 iv rfl rfl λ_ u=>have u:=eQ.shut (Φ:=λ_=>True) (t:={t with buf:=jO t.buf q.i}) hk u.p5.p5.p5.p4.p5;have u:=mY.shut (m:=m) ⟨hu,M,Z,bM⟩ u.p2.p6.p6.p6.p6;have u:=u.p1.p4.p4.p4;⟨G,rfl,u⟩))
 rintro _ _ ⟨G,rfl,u⟩ _;refine aA gM (aB (v:=hH (dH t.buf q.i).kind) bO u.hb rfl (aG (aC (λc=>?_) λc=>?_)))
 .have u:=u.p4;obtain⟨a,B,u⟩:=mY.open u;have u:=u.drew;refine aE (aA tA (aB LL u.hb rfl (aA mn (aB (v:=hH (dH t.buf q.i).cell) bO u.p5.hb rfl (aA oW (aB (v:=hH (dH t.buf q.i).n) bO u.p5.hb rfl (have u:=u.p1;bF agw u (H':=λ_=>iM a.q a.ov a.fv (fh m.mem (dH t.buf q.i).cell (dH t.buf q.i).n)) (Φ:=λ_ _=>True) (λI J W=>?_) ?_)))))))
  .exact(C156 a.q a.ov a.fv m.mem I _ _ _ J (λw' hc=>B.1.mem _ (hK w' (W w' hc).aF)) jY.mem og).mono λ_ _ r=>r.mono λ_ _ h=>⟨trivial,h.2⟩
  rintro _ _ _ u;refine aA lC (aB (v:=hH q.t) bO u.p7.hb rfl (aA mn (aB (v:=hH (dH t.buf q.i).cell) bO u.p5.hb rfl (aA oW (aB (v:=hH (dH t.buf q.i).n) bO u.p5.hb rfl (pop (zo 12 q.t (dH t.buf q.i).cell (dH t.buf q.i).n) (aJ (x:=(⟨12,q.t,(dH t.buf q.i).cell,(dH t.buf q.i).n,0⟩:cG)) u.p6 fj rfl rfl λ_ u=>aD fj u.At ?_)))))));have V:jP m.mem (dH t.buf q.i)=fh m.mem (dH t.buf q.i).cell (dH t.buf q.i).n:=by unfold jP;rw[ej c]
  have E:tg q.t (dH t.buf q.i)=⟨12,q.t,(dH t.buf q.i).cell,(dH t.buf q.i).n,0⟩:=by unfold tg;rw[ej c]
  have u:=mY.shut (m:={m with mem:=fh m.mem (dH t.buf q.i).cell (dH t.buf q.i).n}) ⟨⟨B.1.pr,B.1.cs,B.1.ks,λw hw=>(B.1.mem w hw).write,B.1.rc⟩,B.2⟩ u.drop.p6.drop.p5.drop.p4.p4.p4.p3.p4;have u:=xK (m:={m with mem:=fh m.mem (dH t.buf q.i).cell (dH t.buf q.i).n}) (tp:=e) (t:={t with buf:=jO t.buf q.i}) u.p1;have O:tj m t q={ {m with mem:=fh m.mem (dH t.buf q.i).cell (dH t.buf q.i).n}with l:=m.l.set q.t.toNat ({t with buf:=jO t.buf q.i})}:=by unfold tj;rw[V]
  rw[O,E];exact⟨rfl,u.mut⟩
 refine aG (aC (λU=>?_) λU=>?_)
 .refine aA lC (aB (v:=hH q.t) bO u.p2.hb rfl (pop (Io 14 q.t) (aJ (x:=(⟨14,q.t,0,0,0⟩:cG)) u.p1 fj rfl rfl λ_ u=>aD fj u.At ?_)));have u:=u.p4;obtain⟨a,B,u⟩:=mY.open u;have V:jP m.mem (dH t.buf q.i)=m.mem:=by unfold jP;rw[ei c,ej U]
  have E:tg q.t (dH t.buf q.i)=⟨14,q.t,0,0,0⟩:=by unfold tg;rw[ei c,ej U]
  have u:=mY.shut (m:={m with mem:=m.mem}) B u.p5.drop.p6.drop.p5.drop.p4.p4.p4.p4.p4;have u:=xK (m:={m with mem:=m.mem}) (tp:=e) (t:={t with buf:=jO t.buf q.i}) u.p1;have O:tj m t q={ {m with mem:=m.mem}with l:=m.l.set q.t.toNat ({t with buf:=jO t.buf q.i})}:=by unfold tj;rw[V]
  rw[O,E];exact⟨rfl,u.mut⟩
 have u:=u.p4;obtain⟨a,B,u⟩:=mY.open u;have u:=u.drew;refine aE (aA tA (aB LL u.hb rfl (aA ic (aB (v:=hH (dH t.buf q.i).line) bO u.p5.hb rfl (have u:=u.p1;bF anS u (H':=λ_=>iM a.q a.ov a.fv (oe m.mem (dH t.buf q.i).line)) (Φ:=λ_ _=>True) (λI J W=>?_) ?_)))))
 .exact(C157 a.q a.ov a.fv m.mem I _ _ J (λw' hc=>B.1.mem _ (hK w' (W w' hc).aF)) jY.mem og).mono λ_ _ r=>r.mono λ_ _ h=>⟨trivial,h.2⟩
 rintro _ _ _ u;refine aA lC (aB (v:=hH q.t) bO u.p7.hb rfl (aA ic (aB (v:=hH (dH t.buf q.i).line) bO u.p5.hb rfl (pop (tK 13 q.t (dH t.buf q.i).line) (aJ (x:=(⟨13,q.t,(dH t.buf q.i).line,0,0⟩:cG)) u.p6 fj rfl rfl λ_ u=>aD fj u.At ?_)))));have V:jP m.mem (dH t.buf q.i)=oe m.mem (dH t.buf q.i).line:=by unfold jP;rw[ei c,ei U]
 have E:tg q.t (dH t.buf q.i)=⟨13,q.t,(dH t.buf q.i).line,0,0⟩:=by unfold tg;rw[ei c,ei U]
 have u:=mY.shut (m:={m with mem:=oe m.mem (dH t.buf q.i).line}) ⟨⟨B.1.pr,B.1.cs,B.1.ks,λw hw=>(B.1.mem w hw).out,B.1.rc⟩,B.2⟩ u.drop.p6.drop.p5.drop.p4.p4.p4.p3.p4;have u:=xK (m:={m with mem:=oe m.mem (dH t.buf q.i).line}) (tp:=e) (t:={t with buf:=jO t.buf q.i}) u.p1;have O:tj m t q={ {m with mem:=oe m.mem (dH t.buf q.i).line}with l:=m.l.set q.t.toNat ({t with buf:=jO t.buf q.i})}:=by unfold tj;rw[V]
 rw[O,E];exact⟨rfl,u.mut⟩
def C56(K:g7)(p:Nat)(m:gl)(qP:List cM)(lv:Value)(J:List cE)(F:Nat->Prop)(w:World)(hF:(gv K p m).p w F)(V:∀w',gz F w w'->K w')(hrm:1<=m.room/\m.room<=16)(hlk:(cL m.p).length<=1000)(hl:∀w',gz F w w'->cZ (λ_=>True) w' lv J)(M:DF K J qP)
   (jT:∀t∈qP,yx (cX m.p) (cL m.p) (wm t)/\t.body=(Iq t.body).flat) (hn:qP.length<=1000) :
   CR 56 [.pointer (some ⟨p,0,none⟩),lv] w (λv w'=>v=.tuple #[]/\mP F (gv K p (qR m qP)) w w'):=by
 have u:=St.begin hF;have Pp:=M.1;refine py Tryz.func56 (pl:=P56) ?_;obtain⟨a,I,u⟩:=gv.open u;have pH:=u.p4.iV;refine aE (aA vl (aW u Jp (dR rfl) rfl λ_ u=>aE (aA vk (aW u eO (dR rfl) rfl λ_ u=>aE (aA Jr (aB je u.hb rfl (aH iF (I.ks _ (V _ u.aF)) ?_)))))));have u:=(((u.p2.drop.p2.drop.p2.drop.eV (α:=Int)).p2).p1).p2;refine⟨λO x w'=>∃(k:Nat) (ov:Value),x=hH (k:Int)/\O=(cL m.p).length-k/\k<=(cL m.p).length/\St w F [bY p (qQ {a with ow:=ov,ll:=.slice none 0 0} m),bH ov (qV k (-1:Int)),iM a.q a.ov a.fv m.mem] w',⟨_,0,_,rfl,rfl,la _,u⟩,?_⟩
 rintro O _ _ ⟨k,ov,rfl,rfl,R4,u⟩ _;refine aQ (aC (λc=>?_) λc=>?_)
 .refine aE (aA vk (aB eO u.hb rfl (bD ([-1]:List Int) u cR rfl rfl (dR rfl) λs27 _ u=>?_)));have W:=u.dS;exact bL u.p2 cR W (by rw[C2,l0];omega) dC (λs28 _ u=>have u:=u.p1.drop;aE (aA vk (aW u.p1 eO (dR rfl) u.dS.one λ_ u=>aK bM ⟨_,bM,k+1,s28,rfl,rfl,bM,by rw[U9];exact u⟩)))
 refine aH fw (hl _ u.aF) ?_;rw[show k=(cL m.p).length from bM]at u;have u:=((((((u.AZ (H:=yP K m.room)).eV (α:=Ptr)).p4).p4).p3).p3).p4;refine⟨λO x w'=>∃(j:Nat) (B:Value) (ps:List Ptr),x=hH (j:Int)/\O=J.length-j/\j<=J.length/\St w F [bY p (qQ {a with ow:=ov,ll:=B} m),bH B ps,ie (yP K m.room) ps ((qP.take j).map Vv),bH ov (qV (cL m.p).length (-1:Int)),iM a.q a.ov a.fv m.mem] w',⟨_,0,_,_,rfl,rfl,la _,u⟩,?_⟩;rintro O _ _ ⟨j,B,ps,rfl,rfl,hj1,u⟩ _;refine aQ (aC (λc2=>?_) λc2=>?_);rotate_left
 .rw[kE bM]at u;have u:=u.p2.p2.p3.p4.p4;exact⟨rfl,(gv.shut (m:=qR m qP) (a:={a with ow:=ov,ll:=B,ps:=ps}) ⟨I.pr,I.cs,I.ks,I.mem,I.rc⟩ u).mut⟩
 obtain⟨tv,RK⟩:=gx J (i:=((j:Nat):Int).toNat) bM;obtain⟨t,ht⟩:=gx qP (i:=j) bM;obtain⟨E,gb,rows,rfl,U,hgb⟩:=M.2 j _ _ RK ht;obtain⟨Y,hbk⟩:=jT t (kp ht);have G9:t.dQ.length<=1000:=Y.nb;refine aN fw (hl _ u.aF) bM RK (λq36 h36=>aD m6 h36 (aR u tD λb5 _ u=>aJ (x:=(⟨t.name,E,gb,t.at_⟩:cE)) u m6 rfl rfl λ_ u=>aE (aA adn (aB bO u.p1.hb rfl (dO anD (C49 m.room _) ?_)))));rintro v43 _ hh;obtain⟨_,_,b43,rfl,cK⟩:=hh.resolve_left (λ_=>bM);have u:=u.made cK;refine aO rfl (aO rfl (have u:=u.drew;aA fQ (aB (v:=hM E) je u.p1.hb rfl (aA fQ (aB (v:=hM E) je u.p1.hb rfl (aH iF (U _ (V _ u.aF)) (wL (0:Int) u cR uA bM bM dC λs52 _ u=>?_)))))))
 rw[qb]at u;refine⟨aI je (u.p2.hb.cell (v:=hM E) rfl),?_⟩;obtain⟨GC,rfl⟩:=u.fV;refine pop (Kk (some ⟨b43,0,none⟩) E.a E.n E.cap GC.a GC.n GC.cap) (ny u λG _ u=>have u:=(u.eV (α:=xH)).fH (Φ:=λw=>Ee K w [] []/\True) (λ_=>⟨trivial,trivial⟩);have u:=eQ.shut (Φ:=λ_=>True) (t:=(⟨t.dQ,qV t.dQ.length 0,[],0,[]⟩:jS)) (es:=[]) U u.p1.p3.p4.p4;aA lI (aB (v:=hM gb) jJ u.p1.hb rfl (bF ND u (H':=λ_=>rD K G m.room (wm t)) (Φ:=λ_ _=>True) (λF2 ef dV=>?_) ?_)))
 .exact(C116 K _ G m.room ⟨t.dQ,qV t.dQ.length 0,[],0,[]⟩ F2 gb rows (Iq t.body) false _ ef (λw' hc=>V w' (dV w' hc).aF) (λw _=>by rw[<- hbk];exact hgb w) (show(0:Nat)<=100000 by decide)).mono λ_ _ r=>r.mono λ_ _ h=>⟨trivial,h.2⟩
 rintro _ _ _ u;refine bF ahP u (H':=λ_=>rD K G m.room (Vv t)) (Φ:=λ_ _=>True) (λF2 ef dV=>?_) ?_
 .exact(C117 K G m.room (wm t) (Vv t) _ _ _ F2 _ ef (λw' hc=>V w' (dV w' hc).aF) Y (qJ Y).1).mono λ_ _ r=>r.mono λ_ _ h=>⟨trivial,h.2⟩
 rintro _ _ _ u;refine aE (aA vl ?_);have nU:=u.p4.iV;rw[mE,lY]at nU;refine aB Jp u.p2.hb rfl (bD ([(⟨G⟩:Ptr)]) u LM rfl rfl (dR rfl) λs67 _ u=>?_);have ab7:=u.dS;exact bL u.p4 LM ab7 (by simp;omega) dC (λZ _ u=>have u:=u.p1.drop;aE (aA vl (aW u.p3 Jp (dR rfl) u.dS.one λ_ u=>have u:=(((St.EV (H:=yP K m.room) (p:=⟨G⟩) (x:=Vv t) u.p3.drop.p2.p3).p4).p4).p2;have u:=u.p4.p4;aK bM ⟨_,bM,j+1,Z,ps++[⟨G⟩],rfl,rfl,bM,by rw[<- gP (k:=j) ht];exact u⟩)))
def ThK.mono{K K2:g7}{E:cE}{t:cM}(h:ThK K E t)(B:∀w,K2 w->K w):ThK K2 E t:=by
 obtain⟨I,G,rows,e,h1,h2⟩:=h
 exact⟨I,G,rows,e,λw u=>h1 w (B w u),λw=>⟨λw' u=>(h2 w).1 w' (B w' u),λu=>(h2 w).2 (B w u)⟩⟩
def DF.mono{K K2:g7}{u:List cE}{qP:List cM}(h:DF K u qP)(E:∀w,K2 w->K w):DF K2 u qP:=⟨h.1,λj B t h1 h2=>(h.2 j B t h1 h2).mono E⟩
def Eo{p:cA}(hc:GN p){t:cM}(ht:t∈gu p):t.body=(Iq t.body).flat:=by
 obtain⟨_,h2,_⟩:=hc.f.qP ht
 obtain⟨_,_,b,h5,h6,_⟩:=lx h2
 rw[h5,Om h6]
def BS(K:g7)(lv:SV)(qP:List cM):Prop:=∃u,(∀w,K w->cZ (λ_=>True) w (hM lv) u)/\DF K u qP
structure He(K:g7)(pv:bN)(p:cA):Prop where
 pr:∀w,K w->mv w pv p
 th:BS K pv.threads p.threads
 rc:BS K pv.recover p.recover
def crD(m:gl)(q:aS):gl:=match iQ m q with|some u=>{m with mem:=mG m.mem u}|none=>m
def Ep(m:Mem)(cut:List Int)(v:Value)(u:Mem):Prop:=(fo m cut=none/\u=m/\v=hH 1)\/∃B,fo m cut=some B/\u=mG m B/\v=hH 0
def RL{m:Mem}{cut:List Int}{v:Value}{p:Nat}{ov fv:Value}{F:Nat->Prop}{w w':World}
  (h:(fo m cut=none/\v=hH 1/\mP F (iM p ov fv m) w w')\/∃u,fo m cut=some u/\v=hH 0/\mP F (iM p ov fv (mG m u)) w w') :
  True/\mP F (pK λE=>fact (Ep m cut v E) (iM p ov fv E)) w w':=by
 refine⟨trivial,?_⟩
 rcases h with⟨h1,h2,B,h3,h4,h5⟩|⟨u,h1,h2,B,h3,h4,h5⟩
 .exact⟨B,⟨m,.inl ⟨h1,rfl,h2⟩,h3⟩,h4,h5⟩
 exact⟨B,⟨mG m u,.inr ⟨u,h1,rfl,h2⟩,h3⟩,h4,h5⟩
theorem aid(K:g7):DF K [(⟨⟨#[]⟩,bW,bW,0⟩:cE)] [⟨⟨#[]⟩,[],[],0⟩]:=by
 refine⟨rfl,λj u t h1 h2=>?_⟩
 cases j with
 | zero=>
  cases h1;cases h2
  exact⟨bW,bW,[],rfl,λw _=>cZ.nil _ w,λw=>⟨λ_ _=>fR.nil,λ_=>cZ.nil _ w⟩⟩
 | succ j=>simp at h1
def aAt:PL 89:=dL Tryz.func89
def C12(K:g7)(p:cA)(pv:bN)(room:Int)(w:World)(M:∀w',Ext w w'->K w')(I:He K pv p)(J:PZ p):CR 12 [hM pv,hH room] w (λv w'=>(fe p≠0/\v=.tuple #[.pointer none,hH (fe p)]/\Ext w w')\/(fe p=0/\(room<1\/16<room)/\v=.tuple #[.pointer none,hH 1]/\Ext w w')\/
  (fe p=0/\(1<=room/\room<=16)/\∃(b:Nat) (X:g7),v=.tuple #[.pointer (some ⟨b,0,none⟩),hH 0]/\kP (sep (gv (λw=>K w/\X w) b (gY p room)) (eA X)) w w')):=by
 have u:=St.start w;refine akz _ _ _ _ ?_;unfold S12;refine cH (x:=pv) u (λbp w1 u=>aD eL u.At (dO ayA (C48 p pv _ (I.pr _ (M _ u.aF)) J) ?_));rintro _ _ ⟨aa,rfl,W⟩;have u:=u.ext W;refine aO rfl (aO rfl (bV (aC (λc=>?_) λc=>?_)))
 .exact .inl ⟨c,rfl,u.drop.aF⟩
 have zZ:fe p=0:=bM
 have Z:=rH zZ;have KW:=abm Z;have Fu:=BL p;refine dO anD (C49 room _) ?_;rintro v3 _ hh
 rcases hh with⟨hrb,rfl,W⟩|⟨Cd,DU,b3,rfl,V⟩
 .have u:=u.ext W;exact aO rfl (aO rfl (bV (j5 dC (.inr (.inl ⟨zZ,hrb,rfl,u.drop.aF⟩)))))
 have u:=(u.made V).drop;refine aO rfl (aO rfl (bV (fJ dC (have u:=u.drew;aD eL u.At (aD eL u.At (aD eL u.At (dT aya u (C50 p pv _ (I.pr _ (M _ u.aF)) J) λx31 _ V u=>?_)))))));refine⟨eP eL u.p1.At,?_⟩;refine⟨eP eL u.p1.At,?_⟩;refine dT ayb u (C51 p pv _ (I.pr _ (M _ u.aF)) J) (λx33 _ V u=>?_);refine⟨eP eL u.p2.At,?_⟩;obtain⟨E,rfl⟩:=u.fV;obtain⟨G,rfl⟩:=u.p1.fV;refine pop (Ha _ _ _ _ _ _ _ _ _ _ _ _ _ _ _ _ _ _ _ _ _ _ _ _ _) (ny u λB w6 u=>aE (aA Jq (aB je u.hb rfl (aH iF u.p2.dS ?_))))
 have u:=u.eV (α:=Int);have Wz:St w aZ [bH (.slice none 0 0) ([]:List Int),bY B (qQ ⟨pv,G,E,0,.slice none 0 0,.slice none 0 0,.slice none 0 0,.slice none 0 0,[]⟩ (xM p room) |>.set 9 (.pointer none)),bH (hM E) (cL p),bH (hM G) (cX p),bY bp (hZ pv)] w6:=u;refine⟨λmm o y w1=>∃k:Nat,y=hH (k:Int)/\mm=(cX p).length-k/\k<=(cX p).length/\St w aZ [bH o ((BB p).take k),bY B (qQ ⟨pv,G,E,0,.slice none 0 0,.slice none 0 0,.slice none 0 0,.slice none 0 0,[]⟩ (xM p room) |>.set 9 (.pointer none)),bH (hM E) (cL p),bH (hM G) (cX p),bY bp (hZ pv)] w1,⟨_,0,rfl,rfl,la _,Wz⟩,?_⟩
 rintro mm o _ _ ⟨k,rfl,rfl,hk,u⟩ _;have JN:(BB p).length=(cX p).length:=by unfold BB;rw[mE,P3]
 refine aQ (aC (λc1=>?_) λc1=>?_)
 .refine aD eL u.p4.At (aV ara u (C52 p pv (k:Int) _ (I.pr _ (M _ u.aF)) J) λ_ W u=>bD ([pB p (k:Int)]:List Int) u cR rfl rfl (dR rfl) λs49 _ u=>?_);have amk:=u.dS;exact bL u.p1 cR amk (by rw[lY,l0];omega) dC (λ_ _ u=>aK bM ⟨_,bM,k+1,rfl,rfl,bM,by rw[<- gO (KD (p:=p) (i:=k) bM)];exact u.p1.drop⟩)
 rw[kE bM]at u;have u:=u.drew;refine aD eL u.p4.At (aD eL u.p4.At (aV ZJ u (C54 p pv _ (I.pr _ (M _ u.aF)) J) λ_ W u=>?_));refine⟨eP eL u.p4.At,?_⟩;refine dT ayc u (C55 p pv _ (I.pr _ (M _ u.aF)) J) (λx58 _ V u=>?_);have iY:=u5 p;have tW:(fm p).length=(iW p).length:=by unfold fm;rw[mE]
 refine dO ay7 (C53 (BB p) (fm p) (eN p) _ _ _ u.p1.dS u.dS bM bM bM λk n h1 h2=>?_) ?_
 .have h3:=Rx Z h1 h2;have h4:=(j0.1 h2).1;exact⟨h3.1,bM,bM⟩
 rintro v59 _ ⟨q,ov,fv,rfl,V⟩;have u:=((u.made V).split).p1.split;refine aO rfl (aO rfl (aE (aA tA (aW u.p5 LL (dR rfl) rfl λO u=>aA kB (aB (v:=hM pv.threads) iz u.p8.hb rfl ?_)))));have u:=u.p8.drop.p5.drop.p4.drop.p3.freeze.p2.freeze.gd.p3.freeze.gd.p3.freeze.gd;obtain⟨U,u,Y⟩:=u.Bz;have u:=u.AZ (H:=yP (λw=>K w/\mf U O w) room);have u:=(u.eV (α:=Ptr)).eV (α:=Int)
 have u:St w aZ (bY B (qQ ⟨pv,G,E,q,hM ov,hM fv,.slice none 0 0,.slice none 0 0,[]⟩ (xM p room))::iM q (hM ov) (hM fv) (Kb (BB p) (eN p) (fm p))::bH (.slice none 0 0) ([]:List Int)::bH (.slice none 0 0) ([]:List Ptr)::ie (yP (λw=>K w/\mf U O w) room) [] []::eA (mf U O)::[]) O:=by
  have h1:=u.p5.p5;exact h1
 obtain⟨vF,ht1,ht2⟩:=I.th;obtain⟨WQ,N2,Wg⟩:=I.rc;have u:=gv.shut (K:=(λw=>K w/\mf U O w)) (m:=xM p room) ⟨λw' h=>I.pr w' h.1,λw' h=>?_,λw' h=>?_,λw' h=>⟨?_,?_⟩,⟨WQ,λw' h=>N2 w' h.1,Wg.mono λ_ h=>h.1⟩⟩ u;rotate_left
 .have:=Y w' h.2;first|exact this.1|exact this.2|exact this.2.1|exact this.2.2|exact this.2.2.1|exact this.2.2.2
 .have:=Y w' h.2;first|exact this.1|exact this.2|exact this.2.1|exact this.2.2|exact this.2.2.1|exact this.2.2.2
 .have:=Y w' h.2;first|exact this.1|exact this.2|exact this.2.1|exact this.2.2|exact this.2.2.1|exact this.2.2.2
 .have:=Y w' h.2;first|exact this.1|exact this.2|exact this.2.1|exact this.2.2|exact this.2.2.1|exact this.2.2.2
 refine bF ar8 u (H':=λ_=>gv (λw=>K w/\mf U O w) B (gY p room)) (Φ:=λ_ _=>True) (λF2 ef dV=>?_) ?_
 .exact(C56 (λw=>K w/\mf U O w) B (xM p room) p.threads _ vF F2 _ ef (λw' hc=>⟨M _ (dV w' hc).aF,(dV w' hc).eA⟩) ⟨Cd,DU⟩ (by have:=J.eI;show(cL p).length<=_;unfold cL;rw[mE];omega) (λw' hc=>ht1 w' (M _ (dV w' hc).aF)) (ht2.mono λ_ h=>h.1)
   (λ_ ht=>⟨Em Z (List.mem_append_left _ ht),Eo Z (List.mem_append_left _ ht)⟩) (by have:=J.threads;omega)).mono λ_ _ r=>r.mono λ_ _ h=>⟨trivial,h.2⟩
 rintro _ _ _ u;exact .inr (.inr ⟨zZ,⟨Cd,DU⟩,B,mf U O,rfl,(St.join u).fresh⟩)
theorem C24(K:g7)(p:Nat)(m:gl)(q:aS)(E:SV)(F:Nat->Prop)(w:World)(hF:(gv K p m).p w F)(V:∀w',gz F w w'->K w')(Y:nL m)(Ah:GN m.p)(og:MB m.mem 1000000)(hcb:0<=m.dI/\m.dI<=1000000)(OJ:∀w',gz F w w'->cZ (λ_=>True) w' (hM E) q.cut)(hql:q.cut.length<=1000) :
   CR 24 [.pointer (some ⟨p,0,none⟩),hM (⟨q.kind,q.t,q.i,E⟩:aM)] w (λv w'=>v=.tuple #[hM (pk m q).2.1,hH (pk m q).2.2]/\mP F (gv K p (pk m q).1) w w'):=by
 have u:=St.begin hF;refine py Tryz.func24 (pl:=P24) ?_;refine cH (x:=(⟨q.kind,q.t,q.i,E⟩:aM)) u (λb3 w1 u=>aR u nh λb4 _ u=>?_);have u:=u.enc (cs':=hZ (⟨0,0,0,0,0⟩:cG)) rfl;refine⟨λjv w'=>jv=.bool (iQ m q).isSome/\St w F [gv K p (crD m q),bY b4 (hZ (⟨0,0,0,0,0⟩:cG)),bY b3 (hZ (⟨q.kind,q.t,q.i,E⟩:aM))] w',?_,?_⟩
 .have u:=u.drew
  have eE:∀w',iQ m q=none->St w F [gv K p m,bY b4 (hZ (⟨0,0,0,0,0⟩:cG)),bY b3 (hZ (⟨q.kind,q.t,q.i,E⟩:aM))] w'->(Value.bool false=.bool (iQ m q).isSome/\St w F [gv K p (crD m q),bY b4 (hZ (⟨0,0,0,0,0⟩:cG)),bY b3 (hZ (⟨q.kind,q.t,q.i,E⟩:aM))] w'):=λw' h1 h2=>by
   have e:crD m q=m:=by unfold crD;rw[h1]
   rw[h1,e];exact⟨rfl,h2⟩
  have WI:iQ m q=(if q.kind=3/\q.t=0/\q.i=0/\m.fault=0 then fo m.mem q.cut else none):=rfl;refine aA nO (aB (v:=hH q.kind) bO u.p1.hb rfl (aG (aC (λc1=>?_) λ_=>eE _ (by rw[WI,ei bM]) u.p2)));refine aA lC (aB (v:=hH q.t) bO u.p1.hb rfl (aG (aC (λO=>?_) λ_=>eE _ (by rw[WI,ei bM]) u.p2)));refine aA qf (aB (v:=hH q.i) bO u.p1.hb rfl (aG (aC (λc3=>?_) λ_=>eE _ (by rw[WI,ei bM]) u.p2)));have u:=u.p2;obtain⟨a,B,u⟩:=gv.open u;have pH:=u.p4.iV;refine aE (aA yk (aB bO u.hb rfl (aG (aC (λc4=>?_) λ_=>eE _ (by rw[WI,ei bM]) (gv.shut B u)))))
  have hpi:iQ m q=fo m.mem q.cut:=by rw[WI,ej ⟨c1,O,c3,c4⟩]
  refine aE (aA tA (aB LL u.hb rfl (aA oQ (aB (v:=hM (E:SV)) eO u.p6.hb rfl (have u:=u.p1;bF avM u (H':=λv=>pK λm2=>fact (Ep m.mem q.cut v m2) (iM a.q a.ov a.fv m2)) (Φ:=λ_ _=>True) (λU Z I=>?_) ?_)))))
  .exact(C86 a.q a.ov a.fv m.mem U q.cut _ _ Z (λw' hc=>B.mem _ (V w' (I w' hc).aF)) Y.mem og (λw' hc=>OJ w' (I w' hc).aF) hql).mono λ_ _ r=>r.mono λ_ _ h=>RL h
  rintro v34 _ _ xB;obtain⟨m2c,zq⟩:=xB.eg
  clear xB
  obtain⟨hcf,Ek⟩:=zq.mq
  clear zq
  rcases hcf with⟨W,rfl,rfl⟩|⟨G,W,rfl,rfl⟩
  .have u:=Ek;exact aG (have u:=u.p4.p4.p4.p3.p4;eE _ (hpi.trans W) (gv.shut B u))
  have u:=Ek;refine aG ?_;have M:=hpi.trans W;have e:crD m q={m with mem:=mG m.mem G}:=by unfold crD;rw[M]
  rw[M,e];have u:=u.p4.p4.p4.p3.p4;exact⟨rfl,gv.shut (m:={m with mem:=mG m.mem G}) ⟨B.pr,B.cs,B.ks,B.mem,B.rc⟩ u⟩
 rintro _ _ ⟨rfl,u⟩ _;refine aY (λc=>?_) (λc=>?_)
 .obtain⟨G,M⟩:=NS.1 c;have e:crD m q={m with mem:=mG m.mem G}:=by unfold crD;rw[M]
  have J:pk m q=(qR (pj m G) (uY m),⟨15,0,0,qG q.cut q.cut.length,0⟩,0):=by unfold pk;rw[M]
  rw[e]at u;rw[J];obtain⟨a,B,u⟩:=gv.open u;have pH:=u.p4.iV;refine aE (aA Js (aB bO u.hb rfl (aK (show -9223372036854775808<=m.dI+1/\m.dI+1<=9223372036854775807 by omega) (aE (aA Js (aW u bO (dR rfl) rfl λ_ u=>?_))))));obtain⟨WQ,N2,Wg⟩:=id B.rc;have G9:=Wg.1;refine aE (aA DX (aA oP (aB iz u.hb rfl ?_)));have u:=(gv.shut (m:=pj m G) ⟨B.pr,B.cs,B.ks,B.mem,B.rc⟩ u.p4.p4.p4.p4.p4).p2;have u:=u.p2.p2;refine⟨λjv w'=>∃vF,DF K vF (uY m)/\St w F [eA (λw=>K w->cZ (λ_=>True) w jv vF),gv K p (pj m G),bY b4 (hZ (⟨0,0,0,0,0⟩:cG)),bY b3 (hZ (⟨q.kind,q.t,q.i,E⟩:aM))] w',?_,?_⟩
  .refine aH fw (N2 _ (V _ u.aF)) (aG (aC (λO=>?_) λO=>?_))
   .refine pop (v:=hM (⟨⟨#[]⟩,bW,bW,0⟩:cE)) (by kernel_rfl) (bD ([⟨⟨#[]⟩,bW,bW,0⟩]:List cE) u fw rfl rfl (dR rfl) λs54 _ u=>?_);refine⟨_,?_,u.freeze.dF (Ψ:=λw=>K w->cZ (λ_=>True) w s54 [(⟨⟨#[]⟩,bW,bW,0⟩:cE)]) λ_ h _=>h⟩;have Ww:uY m=[⟨⟨#[]⟩,[],[],0⟩]:=by unfold uY;rw[ej (by have:WQ.length=m.p.recover.length:=G9;omega)]
    rw[Ww];exact aid K
   have Ww:uY m=m.p.recover:=by unfold uY;rw[ei (by have:WQ.length=m.p.recover.length:=G9;omega)]
   exact⟨WQ,by rw[Ww];exact Wg,u.fH λw h=>N2 w h⟩
  rintro rv _ ⟨vF,htv,u⟩ _;obtain⟨aAv,aml⟩:=KC Ah;refine bF ar8 u.p1 (H':=λ_=>gv K p (qR (pj m G) (uY m))) (Φ:=λ_ _=>True) (λU Z I=>?_) ?_
  .refine(C56 K p (pj m G) (uY m) _ vF U _ Z (λw' hc=>V w' (I w' hc).aF) Y.rm (by have:=Y.pz.eI;show(cL m.p).length<=_;unfold cL;rw[mE];omega) (λw' hc=>(I w' hc).eA (V w' (I w' hc).aF)) htv (λt ht=>⟨aml t ht,?_⟩) bM).mono λ_ _ r=>r.mono λ_ _ h=>⟨trivial,h.2⟩;unfold uY at ht
   split at ht
   .rw[ua.1 ht];rfl
   exact Eo Ah (List.mem_append_right _ ht)
  rintro _ _ _ u;exact aA oQ (aB (v:=hM (E:SV)) eO u.p3.hb rfl (aV ay4 u (C87 _ q.cut _ (OJ _ u.aF) bM) λ_ _ u=>pop (Ip 15 (qG q.cut q.cut.length)) (aJ (x:=(⟨15,0,0,qG q.cut q.cut.length,0⟩:cG)) u.p2 fj rfl rfl λ_ u=>aD fj u.At ⟨rfl,u.p3.drop.drop.p1.drop.mut⟩)))
 have M:iQ m q=none:=by
  cases h:iQ m q with
  | none=>rfl
  | some G=>rw[h]at c;cases c
 have e:crD m q=m:=by unfold crD;rw[M]
 have J:pk m q=(if (gj m).any (nd q)=true then(if q.kind=2 then(match m.l[q.t.toNat]? with|some t=>((tj m t q,tg q.t (dH t.buf q.i),0):gl×cG×Int)|none=>(m,⟨0,0,0,0,0⟩,13))else((iy m q.t).1,(iy m q.t).2,0))else(m,⟨0,0,0,0,0⟩,13)):=by unfold pk;rw[M];rfl
 rw[e]at u;refine dT ar5 u (C67 K p m _ u.has (λ_ e=>V _ (u.aF.then e)) Y) (λx64 _ cK u=>?_);have ZU:=u.p3.At
 have hfn:tG g6 _ (.func (.func 88) [].toArray [.pointer (some ⟨b3,0,none⟩)].toArray) (λ_:aS=>True) (nd q):=
  ⟨88,[],_,rfl,ay2,λsx y w1 e1 WN _=>C88 y q sx b3 (⟨q.kind,q.t,q.i,E⟩:aM) w1 WN (ZU.ext e1) ⟨E,rfl,DL.jV (OJ _ (u.aF.then e1))⟩⟩
 refine aV aAt u (C89 _ _ _ (λ_=>True) _ _ u.dl hfn (λ_ _=>trivial) (by have:=z8 Y;omega)) (λ_ he u=>have u:=u.drop;bQ (aY (λO=>?_) λO=>?_))
 .rw[J,ei (by simpa using O)];exact pop Kh (aJ (x:=(⟨0,0,0,0,0⟩:cG)) u.p1 fj rfl rfl λ_ u=>aD fj u.At ⟨rfl,u.drop.p1.drop.mut⟩)
 have Au:(gj m).any (nd q)=true:=by simpa using O
 obtain⟨hf0,h0,_,t,ht,hkd⟩:=alG Au;rw[J,ej Au];refine aA nO (aB (v:=hH q.kind) bO u.p2.hb rfl (aG (aC (λc3=>?_) λc3=>?_)))
 .rw[ej c3,ht];refine aD lf u.p2.At (bF ay1 u (H':=λ_=>gv K p (tj m t q)) (Φ:=λv _=>v=hM (tg q.t (dH t.buf q.i))) (λU Z I=>?_) ?_)
  .exact C90 K p m q E t U _ Z (λw' hc=>V w' (I w' hc).aF) Y og h0 ht
  rintro _ _ rfl u;exact aJ (x:=tg q.t (dH t.buf q.i)) u.p1 fj rfl rfl (λ_ u=>aD fj u.At ⟨rfl,u.drop.p1.drop.mut⟩)
 rw[ei c3]
 have ui:sQ m t=true:=by
  rcases hkd with h|h
  .exact h.2
  .exact absurd h.1 c3
 refine aA lC (aB (v:=hH q.t) bO u.p2.hb rfl (bF ay0 u (H':=λ_=>gv K p (iy m q.t).1) (Φ:=λv _=>v=hM (iy m q.t).2) (λU Z I=>?_) ?_))
 .exact C91 K p m q.t t U _ Z (λw' hc=>V w' (I w' hc).aF) Y og h0 ht (λ_=>On ui)
 rintro _ _ rfl u;exact aJ (x:=(iy m q.t).2) u.p1 fj rfl rfl (λ_ u=>aD fj u.At ⟨rfl,u.drop.p1.drop.mut⟩)
theorem C64(K:g7)(p:Nat)(m:gl)(qP:List cM)(lv:Value)(vF:List cE)(F:Nat->Prop)(w:World)(hF:(qM K p m).p w F)(hK:∀w',gz F w w'->K w')(hrm:1<=m.room/\m.room<=16)(hlk:(cL m.p).length<=1000)(hl:∀w',gz F w w'->cZ (λ_=>True) w' lv vF)(htv:DF K vF qP)
   (jT:∀t∈qP,yx (cX m.p) (cL m.p) (wm t)/\t.body=(Iq t.body).flat) (hbz:∀t∈qP,t.body.length<=100000) (hn:qP.length<=1000) :
   CR 64 [.pointer (some ⟨p,0,none⟩),lv] w (λv w'=>v=.tuple #[]/\mP F (qM K p (qR m qP)) w w'):=by
 have u:=St.begin hF;have Pp:=htv.1;refine alN _ _ _ _ ?_;unfold S64;obtain⟨a,hu,u⟩:=qM.open u;have pH:=u.p4.iV
 have hlr:∀w,K w->cZ (λ_=>True) w (hM a.pv.eI) m.p.eI:=λw hw=>by
  obtain⟨g0,g1,g2,g3,g4,g5,e,_,_,h2,_⟩:=hu.pr w hw;rw[e];exact DL.flat h2
 have zI:(cL m.p).length=m.p.eI.length:=by unfold cL;rw[mE]
 refine aE (aA tz (aW u LK (dR rfl) rfl λ_ u=>aE (aA vj (aW u eO (dR rfl) rfl λ_ u=>?_))));have u:=(((u.p2.drop.p2.drop.p2.drop.eV (α:=Int)).p2).p1).p2;refine⟨λmm x w'=>∃(k:Nat) (ov:Value),x=hH (k:Int)/\mm=(cL m.p).length-k/\k<=(cL m.p).length/\St w F [bY p (pw {a with ow:=ov,ll:=.slice none 0 0} m),bH ov (qV k (-1:Int)),gy a.q m.mem] w',⟨_,0,_,rfl,rfl,la _,u⟩,?_⟩;rintro mm _ _ ⟨k,ov,rfl,rfl,R4,u⟩ _;refine aE (aA yh (aA nN (aB jF u.hb rfl (aH iu (hlr _ (hK _ u.aF)) (aQ (aC (λc=>?_) λc=>?_))))))
 .refine aE (aA vj (aB eO u.hb rfl (bD ([-1]:List Int) u cR rfl rfl (dR rfl) λs27 _ u=>?_)));have amj:=u.dS;exact bL u.p2 cR amj (by rw[C2,l0];omega) dC (λs28 _ u=>have u:=u.p1.drop;aE (aA vj (aW u.p1 eO (dR rfl) u.dS.one λ_ u=>aK bM ⟨_,bM,k+1,s28,rfl,rfl,bM,by rw[U9];exact u⟩)))
 rw[show k=(cL m.p).length from bM]at u;have u:=((((((u.AZ (H:=OE K m.room)).eV (α:=Ptr)).p4).p4).p3).p3).p4;refine⟨λmm x w'=>∃(j:Nat) (E:Value) (ps:List Ptr),x=hH (j:Int)/\mm=vF.length-j/\j<=vF.length/\St w F [bY p (pw {a with ow:=ov,ll:=E} m),bH E ps,ie (OE K m.room) ps ((qP.take j).map Vv),bH ov (qV (cL m.p).length (-1:Int)),gy a.q m.mem] w',⟨_,0,_,_,rfl,rfl,la _,u⟩,?_⟩;rintro mm _ _ ⟨j,E,ps,rfl,rfl,hj1,u⟩ _;refine aH fw (hl _ u.aF) (aQ (aC (λc2=>?_) λc2=>?_));rotate_left
 .rw[kE bM]at u;have u:=u.p2.p2.p3.p4.p4;exact⟨rfl,(qM.shut (m:=qR m qP) (a:={a with ow:=ov,ll:=E,ps:=ps}) ⟨hu.pr,hu.rc⟩ u).mut⟩
 obtain⟨tv,RK⟩:=gx vF (i:=((j:Nat):Int).toNat) bM;obtain⟨t,ht⟩:=gx qP (i:=j) bM;obtain⟨B,gb,rows,rfl,J,hgb⟩:=htv.2 j _ _ RK ht;obtain⟨OH,V⟩:=jT t (kp ht);have G9:t.dQ.length<=1000:=OH.nb;have hpo:=OH.p
 have atu:(Iq t.body).str:=by
  have h2:GM (Vq (cX m.p) (cL m.p) t.dQ) (jn (Iq t.body) false []):=hpo;cases hb:Iq t.body with
  | nil=>trivial
  | cons x c d r=>rw[hb]at h2;exact h2.st _ (oi ..)
 have atv:(Iq t.body).flat.length<=100000:=by rw[<- V];exact hbz t (kp ht)
 refine⟨_,?_,λ_ h=>h⟩;refine aE (aA Sp (aB bO u.hb rfl (dO anE (C58 m.room _) ?_)));rintro v43 _ hh;obtain⟨_,_,b43,rfl,cK⟩:=hh.resolve_left (λ_=>bM);have u:=u.made cK;refine aO rfl (aO rfl ?_);refine⟨λt8 w'=>∃tb,t8=.pointer (some ⟨tb,0,none⟩)/\St w F [mM K tb m.room (wm t),bY p (pw {a with ow:=ov,ll:=E} m),bH E ps,ie (OE K m.room) ps ((qP.take j).map Vv),bH ov (qV (cL m.p).length (-1:Int)),gy a.q m.mem] w',?_,?_⟩
 .refine Gv (Wd:=λw'=>gz F w w') fw hl u.aF bM RK (λq50 h50=>Gx gb lI h50 u.aF rfl rfl λq51 Y=>have u:=u.drew;aD (x:=gb) jJ (Y _ u.aF) (Gv (Wd:=λw'=>gz F w w') fw hl u.aF bM RK λq56 h56=>Gx B fQ h56 u.aF rfl rfl λq57 G=>aD (x:=B) je (G _ u.aF) (Gv (Wd:=λw'=>gz F w w') fw hl u.aF bM RK λq61 h61=>Gx B fQ h61 u.aF rfl rfl λq62 M=>aD (x:=B) je (M _ u.aF) (aH iF (J _ (hK _ u.aF)) ⟨?_,?_,trivial⟩))))
  .refine dO Ox (C128 K gb rows (Iq t.body) _ (λ_ e=>hK _ (u.aF.then e)) atu (λw=>by rw[<- V];exact hgb w) atv) ?_;rintro s53 w9 ⟨ds,O,cK⟩;have u:=u.made cK;refine⟨eP (x:=B) je (G _ u.aF),?_⟩;refine⟨eP (x:=B) je (M _ u.aF),?_⟩;refine wL (0:Int) u cR uA bM bM dC (λs52 w11 u=>?_);rw[qb]at u;refine⟨eP (x:=gb) jJ (Y _ u.aF),?_⟩;refine⟨eP (x:=B) je (G _ u.aF),?_⟩;obtain⟨Z,rfl⟩:=u.fV;obtain⟨U,rfl⟩:=u.p1.fV;refine pop (xS U.a U.n U.cap B.a B.n B.cap Z.a Z.n Z.cap (some ⟨b43,0,none⟩)) (ny u λI w12 u=>?_)
   have u:=u.p2.freeze.p2.p3.p3;have W:RTK K B ds (wm t):=⟨J,by show lh K ds (yE (jn (Iq t.body) false []));rw[u9];show lh K ds (GO false (Iq t.body)++[]);rw[oo];exact O,Gs.push λ_ h=>by cases h⟩;exact⟨I,rfl,mM.shut (t:=wm t) W u⟩
  refine wL (0:Int) u cR uA bM bM dC (λs52 w11 u=>?_);rw[qb]at u;refine⟨eP (x:=gb) jJ (Y _ u.aF),?_⟩;refine⟨eP (x:=B) je (G _ u.aF),?_⟩;refine dO Ox (C128 K gb rows (Iq t.body) _ (λ_ e=>hK _ (u.aF.then e)) atu (λw=>by rw[<- V];exact hgb w) atv) ?_;rintro s53 w9 ⟨ds,O,cK⟩;have u:=u.made cK;refine⟨eP (x:=B) je (G _ u.aF),?_⟩;refine⟨eP (x:=B) je (M _ u.aF),?_⟩;obtain⟨Z,rfl⟩:=u.p1.fV;obtain⟨U,rfl⟩:=u.fV;refine pop (xS U.a U.n U.cap B.a B.n B.cap Z.a Z.n Z.cap (some ⟨b43,0,none⟩)) (ny u λI w12 u=>?_)
  have u:=u.p1.freeze.p2.p3.p3;have W:RTK K B ds (wm t):=⟨J,by show lh K ds (yE (jn (Iq t.body) false []));rw[u9];show lh K ds (GO false (Iq t.body)++[]);rw[oo];exact O,Gs.push λ_ h=>by cases h⟩;exact⟨I,rfl,mM.shut (t:=wm t) W u⟩
 rintro _ _ ⟨I,rfl,u⟩ _;have aAy:B7 (wm t):=⟨λ_ hv=>by rw[(List.mem_replicate.1 hv).2];exact iD,λ_ hy=>by cases hy⟩;refine bF ah5 u (H':=λ_=>mM K I m.room (Vv t)) (Φ:=λ_ _=>True) (λF2 ef dV=>?_) ?_
 .exact(C129 K I m.room (wm t) (Vv t) _ _ _ F2 _ ef (λw' hc=>hK w' (dV w' hc).aF) OH aAy (qJ OH).1).mono λ_ _ r=>r.mono λ_ _ h=>⟨trivial,h.2⟩
 rintro _ _ _ u;refine aE (aA tz ?_);have nU:=u.p3.iV;rw[mE,lY]at nU;refine aB LK u.p1.hb rfl (bD ([(⟨I⟩:Ptr)]) u Pr rfl rfl (dR rfl) λs67 _ u=>?_);have ab7:=u.dS;refine bL u.p3 Pr ab7 (by simp;omega) dC (λs68 _ u=>have u:=u.p1.drop;aE (aA tz (aW u.p2 LK (dR rfl) u.dS.one λ_ u=>?_)));have u:=(((((St.EV (H:=OE K m.room) (p:=⟨I⟩) (x:=Vv t) u.p2.p3).p4).p4).p2).p4).p4;intro _;exact aK bM ⟨_,bM,j+1,s68,ps++[⟨I⟩],rfl,rfl,bM,by rw[<- gP (k:=j) ht];exact u⟩
def zu:List Int->Int->Int
 | [],n=>n
 | c::r,n=>if n<=100 then zu r (n*(c+1))else n
def OK(l:List Int):Int:=zu l 1
def RN{l:List Int}{k:Nat}{c n:Int}(h:l[k]?=some c)(u:n<=100):zu (l.drop k) n=zu (l.drop (k+1)) (n*(c+1)):=by
 obtain⟨h1,h2⟩:=j0.1 h
 rw[r6 h1,h2,zu,ej u]
theorem Wh{l:List Int}{k:Nat}{n:Int}(h:l.length<=k\/¬ n<=100):zu (l.drop k) n=n:=by
 rcases h with h|h
 .rw[u1 h];rfl
 cases l.drop k with
 | nil=>rfl
 | cons c r=>rw[zu,ei h]
theorem Wi{l:List Int}{k:Nat}{c:Int}(h:l[k]?=some c):qG l (k+1)=B2 (B2 (10000*qG l k)+c):=by rw[Ga h,Int.mul_comm]
def amm{n c:Int}(u:0<=n)(h1:n<=100)(h2:0<=c)(h3:c<=1000000):0<=n*(c+1)/\n*(c+1)<=100*1000001:=
 ⟨Int.mul_nonneg u bM,Int.mul_le_mul h1 bM bM bM⟩
def C16(lv:Value)(l:List Int)(w:World)(V:cZ (λ_=>True) w lv l)(hn:l.length<=1000)(W:∀c∈l,0<=c/\c<=1000000):CR 16 [lv] w (λv w'=>v=hH (OK l)/\Ext w w'):=by
 have u:=St.start w;refine eZ Tryz.func16 ?_;refine⟨λU y x M=>∃(k:Nat) (n:Int),y=hH n/\x=hH (k:Int)/\U=l.length-k/\k<=l.length/\0<=n/\OK l=zu (l.drop k) n/\St w aZ [] M,⟨_,0,1,rfl,rfl,rfl,la _,bM,rfl,u⟩,?_⟩;rintro U _ _ M ⟨k,n,rfl,rfl,rfl,hk,Z,B,u⟩ _;refine⟨λjv w'=>jv=.bool (decide (k<l.length/\n<=100))/\M=w',aH cR (V.ext u.aF) (aQ (aC (λ_=>gA ⟨yJ bM,rfl⟩) λ_=>⟨Xd bM,rfl⟩)),?_⟩;rintro _ _ ⟨rfl,Y⟩ _;subst Y;refine aC (λI=>?_) (λI=>?_)
 .have G:k<l.length/\n<=100:=by simpa using I
  obtain⟨qx,J⟩:=gx l (i:=(k:Int).toNat) bM;refine aN cR V bM J (λ_ sj=>aD bO (sj.ext u.aF) ?_);have E:=W _ (kp J);refine aK bM ?_;have og:=amm Z G.2 E.1 E.2;exact DV bM (aK bM ⟨_,bM,k+1,_,rfl,rfl,rfl,bM,og.1,by rw[B];exact RN J G.2,u⟩)
 have O:¬ (k<l.length/\n<=100):=by simpa using I
 rw[B,Wh bM];exact⟨rfl,u.aF⟩
def C94(cv:Value)(cut:List Int)(w:World)(B:cZ (λ_=>True) w cv cut)(V:cut.length<=1000000):CR 94 [cv] w (λv w'=>v=hH (qG cut cut.length)/\Ext w w'):=by
 have u:=St.start w;refine aiE _ _ _ ?_;unfold S94;refine⟨λI n x G=>∃k:Nat,n=hH (qG cut k)/\x=hH (k:Int)/\I=cut.length-k/\k<=cut.length/\St w aZ [] G,⟨_,0,rfl,rfl,rfl,la _,u⟩,?_⟩;rintro I _ _ G ⟨k,rfl,rfl,rfl,M,u⟩ _;refine aH cR (B.ext u.aF) (aQ (aC (λO=>?_) λ_=>⟨by rw[show cut.length=k from bM],u.aF⟩));refine wX ?_;obtain⟨U,E⟩:=gx cut (i:=(k:Int).toNat) bM;exact aN cR B bM E (λ_ J=>aD bO (J.ext u.aF) (uH (aK bM ⟨_,bM,k+1,by rw[Wi (k:=k) E],rfl,rfl,bM,u⟩)))
def OL{p:cA}(hc:GN p){t:cM}(ht:t∈gu p):t.body.length<=40:=by
 obtain⟨_,h2,_⟩:=hc.f.qP ht
 exact(lx h2).1
def RO{m:Mem}{cut:List Int}{v:Value}{p:Nat}{F:Nat->Prop}{w w':World}
  (h:(fo m cut=none/\v=hH 1/\mP F (gy p m) w w')\/∃u,fo m cut=some u/\v=hH 0/\mP F (gy p (mG m u)) w w') :
  True/\mP F (pK λE=>fact (Ep m cut v E) (gy p E)) w w':=by
 refine⟨trivial,?_⟩
 rcases h with⟨h1,h2,B,h3,h4,h5⟩|⟨u,h1,h2,B,h3,h4,h5⟩
 .exact⟨B,⟨m,.inl ⟨h1,rfl,h2⟩,h3⟩,h4,h5⟩
 exact⟨B,⟨mG m u,.inr ⟨u,h1,rfl,h2⟩,h3⟩,h4,h5⟩
theorem afX{m:gl}{q:aS}(h:q.kind=3):(gj m).any (nd q)=false:=by
 cases ha:(gj m).any (nd q)with
 | false=>rfl
 | true=>obtain⟨_,_,_,t,_,h2⟩:=alG ha;omega
theorem ab8{m:gl}{q:aS}(h:iQ m q=none)(u:(gj m).any (nd q)=false):pk m q=(m,⟨0,0,0,0,0⟩,13):=by
 grind[pk]
def ab9{K:g7}{m:gl}{u:List cE}(hc:GN m.p)(E:DF K u m.p.recover):DF K ((u++[(⟨⟨#[]⟩,bW,bW,0⟩:cE)]).take 1) (uY m):=by
 have h1:=hc.f.one
 have B:=E.1
 unfold uY
 split
 .have G:m.p.recover=[]:=ta.1 (by assumption)
  rw[G]at B
  have:u=[]:=ta.1 B
  subst this
  exact aid _
 grind
def aAz:PL 63:=dL Tryz.func63
def C13(K:g7)(p:cA)(pv:bN)(room:Int)(w:World)(I:∀w',Ext w w'->K w')(E:He K pv p)(G:PZ p):CR 13 [hM pv,hH room] w (λv w'=>(fe p≠0/\v=.tuple #[.pointer none,hH (fe p)]/\Ext w w')\/(fe p=0/\(room<1\/16<room)/\v=.tuple #[.pointer none,hH 1]/\Ext w w')\/
  (fe p=0/\(1<=room/\room<=16)/\∃b:Nat,v=.tuple #[.pointer (some ⟨b,0,none⟩),hH 0]/\kP (qM K b (gY p room)) w w')):=by
 have u:=St.start w;refine alL _ _ _ _ ?_;unfold S13;refine cH (x:=pv) u (λbp w1 u=>aD eL u.At (dO avD (C57 p pv _ (E.pr _ (I _ u.aF)) G) ?_));rintro _ _ ⟨aa,rfl,J⟩;have u:=u.ext J;refine aO rfl (aO rfl (bV (aC (λc=>?_) λc=>?_)))
 .exact .inl ⟨c,rfl,u.drop.aF⟩
 have V:fe p=0:=bM
 have O:=rH V;have KW:=abm O;have Fu:=BL p;refine dO anE (C58 room _) ?_;rintro v3 _ hh
 rcases hh with⟨W,rfl,J⟩|⟨Cd,DU,b3,rfl,M⟩
 .have u:=u.ext J;exact aO rfl (aO rfl (bV (j5 dC (.inr (.inl ⟨V,W,rfl,u.drop.aF⟩)))))
 have u:=(u.made M).drop;refine aO rfl (aO rfl (bV (fJ dC (bD ([]:List Int) u cR rfl rfl (dR rfl) λs31 _ u=>?_))));refine⟨λmm o y w1=>∃k:Nat,y=hH (k:Int)/\mm=(iW p).length-k/\k<=(iW p).length/\St w aZ [bH o ((BB p).take k),bY bp (hZ pv)] w1,⟨_,0,rfl,rfl,la _,u⟩,?_⟩;rintro mm o _ _ ⟨k,rfl,rfl,hk,u⟩ _;have JN:(BB p).length=(cX p).length:=by unfold BB;rw[mE,P3]
 refine aD eL u.p1.At (dT Uy u (C59 p pv _ (E.pr _ (I _ u.aF)) G.toPS) λx34 _ M u=>aH iu u.dS (have u:=u.drop;aQ (aC (λc1=>?_) λc1=>?_)))
 .refine aD eL u.p1.At (aV atn u (C60 p pv (k:Int) _ (E.pr _ (I _ u.aF)) G) λ_ J u=>bD ([pB p (k:Int)]:List Int) u cR rfl rfl (dR rfl) λs49 _ u=>?_);have U:=u.dS;exact bL u.p1 cR U (by rw[lY,l0];omega) dC (λ_ _ u=>aK bM ⟨_,bM,k+1,rfl,rfl,bM,by rw[<- gO (KD (p:=p) (i:=k) bM)];exact u.p1.drop⟩)
 rw[kE bM]at u;have u:=u.drew;refine aD eL u.p1.At (aD eL u.p1.At (aV aiB u (C62 p pv _ (E.pr _ (I _ u.aF)) G) λ_ J u=>?_));refine⟨eP eL u.p1.At,?_⟩;refine dT aAz u (C63 p pv _ (E.pr _ (I _ u.aF)) G) (λx58 _ M u=>?_);have iY:=u5 p;have tW:(fm p).length=(iW p).length:=by unfold fm;rw[mE]
 refine dO avE (C61 (BB p) (fm p) (eN p) _ _ _ u.p1.dS u.dS bM bM bM λk n h1 h2=>?_) ?_
 .have h3:=Rx O h1 h2;have h4:=(j0.1 h2).1;exact⟨h3.1,bM,bM⟩
 rintro v59 _ ⟨q,rfl,M⟩;have u:=((u.made M).p1.drop).p1.drop;refine aO rfl (aO rfl (aD (x:=pv) eL u.p1.At (pop (Ow _ _ _ _ _ _ _ _ _ _ _ _ _ _ _ _ _ _ _ _) (ny u λB Tp u=>aA kB (aB (v:=hM pv.threads) iz u.p2.hb rfl ?_)))));have u:=((u.p2.drop.AZ (H:=OE K room)).eV (α:=Ptr)).eV (α:=Int)
 have u:St w aZ (bY B (pw ⟨pv,q,.slice none 0 0,.slice none 0 0,[]⟩ (xM p room))::gy q (Kb (BB p) (eN p) (fm p))::bH (.slice none 0 0) ([]:List Int)::bH (.slice none 0 0) ([]:List Ptr)::ie (OE K room) [] []::[]) Tp:=by
  have h1:=u.p4.p4
  first|exact h1|exact u.p3.p4|exact u.p4.p4
 obtain⟨vF,Y,Z⟩:=E.th;obtain⟨WQ,N2,Wg⟩:=E.rc;have u:=qM.shut (K:=K) (m:=xM p room) ⟨E.pr,⟨WQ,N2,Wg⟩⟩ u;refine bF as7 u (H':=λ_=>qM K B (gY p room)) (Φ:=λ_ _=>True) (λF2 ef dV=>?_) ?_
 .exact(C64 K B (xM p room) p.threads _ vF F2 _ ef (λw' hc=>I _ (dV w' hc).aF) ⟨Cd,DU⟩ (by have:=G.eI;show(cL p).length<=_;unfold cL;rw[mE];omega) (λw' hc=>Y w' (I _ (dV w' hc).aF)) Z
   (λ_ ht=>⟨Em O (List.mem_append_left _ ht),Eo O (List.mem_append_left _ ht)⟩) (λ_ ht=>te (OL O (List.mem_append_left _ ht)) dC) (by have:=G.threads;omega)).mono λ_ _ r=>r.mono λ_ _ h=>⟨trivial,h.2⟩
 rintro _ _ _ u;exact .inr (.inr ⟨V,⟨Cd,DU⟩,B,rfl,u.fresh⟩)
theorem C25(K:g7)(p:Nat)(m:gl)(q:aS)(I:SV)(F:Nat->Prop)(w:World)(hF:(qM K p m).p w F)(hK:∀w',gz F w w'->K w')(O:nL m)(hvo:Ov m)(Ah:GN m.p)(og:MB m.mem 1000000)(hcb:0<=m.dI/\m.dI<=1000000)(KJ:m.mem.dZ=fm m.p)(hKx:∀w1,gz F w w1->∀w2,Ext w1 w2->K w2)(OJ:∀w',gz F w w'->cZ (λ_=>True) w' (hM I) q.cut)(hql:q.cut.length<=1000) :
   CR 25 [.pointer (some ⟨p,0,none⟩),hM (⟨q.kind,q.t,q.i,I⟩:aM)] w (λv w'=>v=.tuple #[hM (pk m q).2.1,hH (pk m q).2.2]/\mP F (qM K p (pk m q).1) w w'):=by
 have u:=St.begin hF;refine py Tryz.func25 (pl:=P25) ?_;refine cH (x:=(⟨q.kind,q.t,q.i,I⟩:aM)) u (λb3 w1 u=>aR u nh λb4 w2 u=>?_);have u:=u.enc (cs':=hZ (⟨0,0,0,0,0⟩:cG)) rfl;have WI:iQ m q=(if q.kind=3/\q.t=0/\q.i=0/\m.fault=0 then fo m.mem q.cut else none):=rfl;refine aA nO (aB (v:=hH q.kind) bO u.p1.hb rfl (aG (aC (λc1=>?_) λc1=>?_)))
 .have u:=u.drew;have u:=u.p2;obtain⟨a,hu,u⟩:=qM.open u;have pH:=u.p4.iV;refine aE (aA tu (aB LJ u.hb rfl (aA oQ (aB (v:=hM (I:SV)) eO u.p6.hb rfl (dO aiF ((C92 a.q m.mem q.cut _ _ (Gw u.p1.has) O.mem og (OJ _ u.aF) hql).mono (R':=tc λv w'=>∃(o:Value) (e:Int),v=.tuple #[o,hH e]/\(e=0↔(fo m.mem q.cut).isSome=true)/\Ext (drew w2) w') λ_ _ r=>r.mono λv w' h=>?_) ?_)))))
  .rcases h with⟨h1,rfl,h3⟩|⟨B,o,h1,rfl,h3⟩
   .exact⟨_,_,rfl,by rw[h1];decide,h3⟩
   obtain⟨_,_,_,h4⟩:=h3;exact⟨_,_,rfl,by rw[h1];exact⟨λ_=>rfl,λ_=>rfl⟩,h4⟩
  rintro _ w3 ⟨o21,e23,rfl,hee,he⟩;have u:=u.ext he;refine aO rfl (aO rfl ?_);refine⟨λjv w'=>jv=.bool (!(iQ m q).isSome)/\w'=w3,?_,?_⟩
  .have eE:¬ (q.t=0/\q.i=0/\m.fault=0/\e23=0)->(iQ m q).isSome=false:=λh=>by
    rw[WI];split
    .rename_i h2
     cases hi:(fo m.mem q.cut).isSome with
     | false=>rfl
     | true=>exact absurd ⟨h2.2.1,h2.2.2.1,h2.2.2.2,hee.2 hi⟩ h
    .rfl
   refine aA lC (aB (v:=hH q.t) bO u.p6.hb rfl (bV (aC (λc2=>⟨vb (by rw[eE bM];rfl),rfl⟩) λc2=>aA qf (aB (v:=hH q.i) bO u.p6.hb rfl (bV (aC (λJ=>⟨vb (by rw[eE bM];rfl),rfl⟩) λJ=>bV (aC (λG=>⟨vb (by rw[eE bM];rfl),rfl⟩) λG=>aE (aA DW (aB bO u.hb rfl ?_)))))))));refine bV ?_;refine⟨vb ?_,rfl⟩
   by_cases hf:m.fault=0
   .rw[WI,ej ⟨c1,bM,bM,hf⟩,hee.1 bM,ez bM];rfl
   rw[eE bM,ew hf];rfl
  rintro _ w4 ⟨rfl,rfl⟩ ry;refine aY (λc=>?_) (λc=>?_)
  .have E:iQ m q=none:=by
    cases h:iQ m q with
    | none=>rfl
    | some B=>rw[h]at c;cases c
   rw[ab8 E (afX c1)];exact pop Kh (aJ (x:=(⟨0,0,0,0,0⟩:cG)) u.p5 fj rfl rfl λw5 u=>aD (x:=(⟨0,0,0,0,0⟩:cG)) fj u.At (have u:=u.drop.p5.drop.p4.p4.p4.p4.p4;⟨rfl,(qM.shut hu u).mut⟩))
  obtain⟨B,E⟩:∃B,iQ m q=some B:=NS.1 (by simpa using c);have WE:fo m.mem q.cut=some B:=by rw[WI]at E;split at E;exact E;cases E
  have Y:pk m q=(qR (pj m B) (uY m),⟨15,0,0,qG q.cut q.cut.length,0⟩,0):=by unfold pk;rw[E]
  rw[Y];have u:=u.drew;refine aE (aA tu (aB LJ u.hb rfl (aA oQ (aB (v:=hM (I:SV)) eO u.p6.hb rfl (have u:=u.p1;bF avN u (H':=λv=>pK λm2=>fact (Ep m.mem q.cut v m2) (gy a.q m2)) (Φ:=λ_ _=>True) (λW ef dV=>?_) ?_)))))
  .exact(C93 a.q m.mem W q.cut _ _ ef O.mem og (λw' hc=>OJ w' (dV w' hc).aF) hql).mono λ_ _ r=>r.mono λ_ _ h=>RO h
  rintro v34 w6 _ xB;obtain⟨m2c,zq⟩:=xB.eg
  clear xB
  obtain⟨hcf,u⟩:=zq.mq
  clear zq
  obtain⟨M,_⟩|⟨aAA,M,rfl,rfl⟩:=hcf
  .rw[WE]at M;cases M
  obtain rfl:B=aAA:=n4.inj (WE.symm.trans M);refine aE (aA Jm (aB bO u.p1.hb rfl (aK (show -9223372036854775808<=m.dI+1/\m.dI+1<=9223372036854775807 by omega) (aE (aA Jm (aW u.p1 bO (dR rfl) rfl λw7 u=>?_))))));obtain⟨WQ,N2,Wg⟩:=id hu.rc;have G9:=Wg.1;have Cd:m.p.recover.length<=1:=Ah.f.one;refine bD ([]:List cE) u fw rfl rfl (dR rfl) (λs59 w8 u=>aE (aA yh (aA oP (aB iz u.p1.hb rfl (bL u fw (N2 _ (hK _ u.aF)) (by simp;omega) dC λs65 w9 u=>pop (v:=hM (⟨⟨#[]⟩,bW,bW,0⟩:cE)) (by kernel_rfl) (bD ([⟨⟨#[]⟩,bW,bW,0⟩]:List cE) u fw rfl rfl (dR rfl) λs68 w10 u=>?_))))))
  have ab7:=u.dS;refine bL u.p1 fw ab7 (by simp;omega) dC (λs69 w11 u=>?_);have u:=u.p1.drop;rw[BF]at u;refine jL fw u.dS bM (by simp;omega) (λs72 h72=>?_);have u:=((qM.shut (m:=pj m B) ⟨hu.pr,hu.rc⟩ u.p5.p5.p5.p5.p5).p1).p1;obtain⟨aAv,aml⟩:=KC Ah;refine bF as7 u (H':=λ_=>qM K p (qR (pj m B) (uY m))) (Φ:=λ_ _=>True) (λW ef dV=>?_) ?_
  .refine(C64 K p (pj m B) (uY m) _ _ W _ ef (λw' hc=>hK w' (dV w' hc).aF) O.rm (by have:=O.pz.eI;show(cL m.p).length<=_;unfold cL;rw[mE];omega) (λw' hc=>h72 w' (dV w' hc).dS) (ab9 Ah Wg) (λt ht=>⟨aml t ht,?_⟩) (λt ht=>?_) bM).mono λ_ _ r=>r.mono λ_ _ h=>⟨trivial,h.2⟩
   .unfold uY at ht
    split at ht
    .rw[ua.1 ht];rfl
    exact Eo Ah (List.mem_append_right _ ht)
   unfold uY at ht
   split at ht
   .rw[ua.1 ht];exact la _
   exact te (OL Ah (List.mem_append_right _ ht)) dC
  rintro _ w12 _ u;exact aA oQ (aB (v:=hM (I:SV)) eO u.p3.hb rfl (aV avO u (C94 _ q.cut _ (OJ _ u.aF) bM) λw13 he u=>pop (Ip 15 (qG q.cut q.cut.length)) (aJ (x:=(⟨15,0,0,qG q.cut q.cut.length,0⟩:cG)) u.p2 fj rfl rfl λTp u=>aD (x:=(⟨15,0,0,qG q.cut q.cut.length,0⟩:cG)) fj u.At (have u:=u.drop.p2.drop.p1.drop;⟨rfl,u.mut⟩))))
 have E:iQ m q=none:=by rw[WI,ei λh=>c1 h.1]
 have u:=u.p1.p1.p2;refine dT as4 u (C22 K p m _ u.has (λw' e=>hKx _ u.aF _ e) O) (λx79 w15 cK u=>?_);obtain⟨Z,u⟩:=u.AY;have OW:=u.p1.eA.1;have nU:=z8 O;have u:=u.p1.p1.p4.p4.p4;refine⟨λmm y w'=>∃k:Nat,y=hH (k:Int)/\mm=Z.length-k/\k<=Z.length/\(∀(j:Nat) (x:aS),j<k->(gj m)[j]?=some x->nd q x=false)/\St w F [qM K p m,bY b4 (hZ (⟨0,0,0,0,0⟩:cG)),bY b3 (hZ (⟨q.kind,q.t,q.i,I⟩:aM)),bH x79 Z,eA (fR Z (gj m))] w',⟨_,0,rfl,rfl,la _,λj x h=>absurd h (MO _),u⟩,?_⟩;rintro mm _ w16 ⟨k,rfl,rfl,hk,eE,u⟩ wz
 refine aH gH u.p3.dS (aQ (aC (λc2=>?_) λc2=>?_));rotate_left
 .have Au:(gj m).any (nd q)=false:=by
   rw[List.any_eq_false];intro x hx;obtain⟨j,hj⟩:=List.mem_iff_getElem?.1 hx;have:=(j0.1 hj).1;rw[eE j x bM hj];decide
  rw[ab8 E Au];exact pop Kh (aJ (x:=(⟨0,0,0,0,0⟩:cG)) u.p1 fj rfl rfl λw22 u=>aD (x:=(⟨0,0,0,0,0⟩:cG)) fj u.At (have u:=u.drop.p1.drop.p1.drop.p1.drop;⟨rfl,u.mut⟩))
 obtain⟨s,ZK⟩:=gx Z (i:=((k:Nat):Int).toNat) bM;obtain⟨x,V⟩:=gx (gj m) (i:=k) bM;obtain⟨gx,rfl,_⟩:=u.p4.eA.2 k s x (by rw[<- qb k];exact ZK) V;refine⟨λjv w'=>jv=.bool (nd q x)/\St w F [qM K p m,bY b4 (hZ (⟨0,0,0,0,0⟩:cG)),bY b3 (hZ (⟨q.kind,q.t,q.i,I⟩:aM)),bH x79 Z,eA (fR Z (gj m))] w',?_,?_⟩
 .have GY:nd q x=(decide (x.kind=q.kind)&&decide (x.t=q.t)&&decide (x.i=q.i)&&decide (q.cut.length=0)):=by unfold nd;first|rfl|(simp only[eq_comm])
  have u:=u.drew;refine aN gH u.p3.dS bM ZK (λq0 h0=>bU x.kind nO h0 rfl rfl λr0 g0=>aD (x:=x.kind) bO g0 (aA nO (aB (v:=hH q.kind) bO u.p2.hb rfl (aG (aC (λJ=>?_) λJ=>⟨vb (by rw[GY,ez J];simp),u⟩)))));refine aN gH u.p3.dS bM ZK (λq1 h1=>bU x.t lC h1 rfl rfl λr1 g1=>aD (x:=x.t) bO g1 (aA lC (aB (v:=hH q.t) bO u.p2.hb rfl ?_)));exact aG (aC (λG=>aN gH u.p3.dS bM ZK λq2 h2=>bU x.i qf h2 rfl rfl λr2 g2=>aD (x:=x.i) bO g2 (aA qf (aB (v:=hH q.i) bO u.p2.hb rfl (aG (aC (λc5=>aA oQ (aB (v:=hM (I:SV)) eO u.p2.hb rfl (aH cR (OJ _ u.aF) (aG ⟨vb (by rw[GY,ew J,ew G,ew c5];exact e8.2 bM),u⟩)))) λc5=>⟨vb (by rw[GY,ez c5];simp),u⟩))))) λG=>⟨vb (by rw[GY,ez G];simp),u⟩)
 rintro _ w17 ⟨rfl,u⟩ wA;refine aY (λJ=>?_) (λJ=>?_);rotate_left
 .refine aK bM ?_;refine⟨_,bM,k+1,rfl,rfl,bM,λj x' hj U=>?_,u⟩
  by_cases e:j=k
  .subst e;rw[V]at U;cases U;exact J
  exact eE j x' bM U
 have Au:(gj m).any (nd q)=true:=v7.2 ⟨x,kp V,J⟩;obtain⟨hf0,h0,_,t,ht,hkd⟩:=alG Au;have Y:pk m q=(if (gj m).any (nd q)=true then(if q.kind=2 then(match m.l[q.t.toNat]? with|some t=>((tj m t q,tg q.t (dH t.buf q.i),0):gl×cG×Int)|none=>(m,⟨0,0,0,0,0⟩,13))else((iy m q.t).1,(iy m q.t).2,0))else(m,⟨0,0,0,0,0⟩,13)):=by unfold pk;rw[E];rfl
 rw[Y,ej Au];refine aA nO (aB (v:=hH q.kind) bO u.p2.hb rfl (aG (aC (λG=>?_) λG=>?_)))
 .rw[ej G,ht];refine aA lC (aB (v:=hH q.t) bO u.p2.hb rfl (aA qf (aB (v:=hH q.i) bO u.p2.hb rfl (bF azY u (H':=λ_=>qM K p (tj m t q)) (Φ:=λv _=>v=hM (tg q.t (dH t.buf q.i))) (λW ef dV=>?_) ?_))))
  .exact C95 K p m q q.t q.i rfl rfl t W _ ef O og h0 ht
  rintro _ w18 rfl u;exact aJ (x:=tg q.t (dH t.buf q.i)) u.p1 fj rfl rfl (λw19 u=>aD (x:=tg q.t (dH t.buf q.i)) fj u.At (have u:=u.drop.p1.drop.p1.drop.p1.drop;⟨rfl,u.mut⟩))
 rw[ei G]
 have ui:sQ m t=true:=by
  rcases hkd with h|h
  .exact h.2
  .exact absurd h.1 G
 refine aA lC (aB (v:=hH q.t) bO u.p2.hb rfl (bF azX u (H':=λ_=>qM K p (iy m q.t).1) (Φ:=λv _=>v=hM (iy m q.t).2) (λW ef dV=>?_) ?_))
 .exact C96 K p m q.t t W _ ef (λw' hc=>hK w' (dV w' hc).aF) O hvo og h0 ht ui KJ
 rintro _ w20 rfl u;exact aJ (x:=(iy m q.t).2) u.p1 fj rfl rfl (λw21 u=>aD (x:=(iy m q.t).2) fj u.At (have u:=u.drop.p1.drop.p1.drop.p1.drop;⟨rfl,u.mut⟩))
def C217(sv:Value)(ps:List Ptr)(I:Nat)(first cap:List Value)(g:Nat->Bool)(w:World)(U:cZ (λ_=>True) w sv ps)(W:Plain g6 I)(Y:∀(i:Nat) (s:Ptr) (B:World),ps[i]?=some s->Ext w B->Calls g6 I (first++[hM s]++cap).toArray B (tc λv M=>v=.bool (g i)/\Ext B M))(Z:ps.length<=1073741824):CR 217 [sv,(.func (.func I) first.toArray cap.toArray)] w (λv w'=>v=hH (si g (wx ps.length))/\Ext w w'):=by
 have u:=St.start w;refine eZ Tryz.func217 ?_;refine aH LM (U.ext u.aF) ?_;refine⟨λO y B=>∃k:Nat,y=hH (k:Int)/\O=ps.length-k/\k<=ps.length/\(∀y∈(wx ps.length).take k,g y=false)/\St w aZ [] B,⟨_,0,rfl,rfl,la _,ee,u⟩,?_⟩;rintro O _ B ⟨k,rfl,rfl,hk,E,u⟩ _;refine aQ (aC (λc1=>?_) λ_=>⟨fM (ng .i64) (ja (by rw[kE (by rw[P3];omega)]at E;exact E)).symm,u.aF⟩);obtain⟨e,J⟩:=gx ps (i:=((k:Nat):Int).toNat) bM;refine aN LM (U.ext u.aF) bM J (λq V=>aD HA V (gZ W (Y k e B J u.aF) ?_))
 rintro _ M ⟨rfl,h2⟩;have u:=u.ext h2;exact aY (λG=>⟨fM (ng .i64) (l8 E (H3 bM) G).symm,u.aF⟩) (λG=>aK bM ⟨_,bM,k+1,rfl,rfl,bM,dW E (H3 bM) G,u⟩)
def C142(sv:Value)(ps:List Ptr)(E:Nat)(first cap:List Value)(g:Nat->Bool)(w:World)(M:cZ (λ_=>True) w sv ps)(J:Plain g6 E)(O:∀(i:Nat) (s:Ptr) (B:World),ps[i]?=some s->Ext w B->Calls g6 E (first++[hM s]++cap).toArray B (tc λv G=>v=.bool (g i)/\Ext B G))(I:ps.length<=1073741824):CR 142 [sv,(.func (.func E) first.toArray cap.toArray)] w (λv w'=>v=.bool ((wx ps.length).any g)/\Ext w w'):=by
 have u:=St.start w;refine eZ Tryz.func142 ?_;exact aV asd u (C217 _ ps E first cap g _ (M.ext u.aF) J (λi s B h e=>O i s B h (u.aF.then e)) I) (λ_ _ u=>cQ ⟨vb (kR _ _),u.aF⟩)
def C140(K Φ:g7)(p:Nat)(room:Int)(t:jS)(w:World)(E:Has (eQ K Φ p room t) w)(Y:K w)(I:t.buf.length<=1000):CR 140 [.pointer (some ⟨p,0,none⟩)] w (λv w'=>v=.bool (!z9 t)/\Ext w w'):=by
 obtain⟨bp,nv,rg,pl,es,W,G,hB,V,M,J,_⟩:=eQ.rd E;have B:=G.cell (o:=3) rfl;have Z:=J.len;have U:=rC es;have u:=St.start w;refine eZ Tryz.func140 ?_;refine⟨λO w'=>O=.bool (!z9 t)/\Ext w w',?_,?_⟩
 .exact aE (aA jI (bX rW (B.ext u.aF) (aH uD (M.ext u.aF) (cP (aC (λ_=>⟨vb (by unfold z9;rw[ez (show ¬ t.cD.length=0 from bM)];rfl),u.aF⟩) λ_=>aV ahQ u (C141 K Φ p room t _ (E.ext u.aF) I) λ_ _ u=>bQ ⟨vb (by unfold z9;rw[ew (show t.cD.length=0 from bM),Bool.true_and]),u.aF⟩)))))
 rintro _ _ h _;exact h
def C68(K:g7)(p:Nat)(m:gl)(w:World)(hm:Has (gv K p m) w)(Y:∀w',Ext w w'->K w')(V:nL m):CR 68 [.pointer (some ⟨p,0,none⟩)] w (λv w'=>v=hM (qk m)/\Ext w w'):=by
 obtain⟨a,B⟩:=gv.rd hm (Y _ (Ext.refl _));have Q2:=B.b.cell (o:=11) rfl;have I:=B.b.cell (o:=12) rfl;have M:=B.b.cell (o:=13) rfl;have J:=B.b.cell (o:=14) rfl;have hlen:=B.len;have Pp:=V.tl;have u:=St.start w;refine py Tryz.func68 (pl:=P68) ?_;refine aR u Jt (λb2 w1 u=>have u:=(u.enc (cs':=hZ (⟨0,0,0,false,false⟩:mU)) rfl).drew;aE (aA Js (bX bO (I.ext u.aF) (aE (aA yk (bX bO (M.ext u.aF) (aE (aA Su (bX bO (J.ext u.aF) (pop (Kj m.dI m.fault m.ku) (aR u Jt λb4 _ u=>?_)))))))))))
 refine⟨aI bO (I.ext u.aF),?_⟩;refine⟨aI bO (M.ext u.aF),?_⟩;refine⟨aI bO (J.ext u.aF),?_⟩;refine aJ (x:=(⟨m.dI,m.fault,m.ku,false,false⟩:mU)) u LN rfl rfl (λ_ u=>?_);refine⟨λw'=>St w aZ [bY b4 (hZ (⟨m.dI,m.fault,m.ku,pE m,false⟩:mU)),bY b2 (hZ (⟨0,0,0,false,false⟩:mU))] w',?_,?_⟩
 .refine aE (aA yk (bX bO (M.ext u.aF) (aG (aC (λG=>?_) λG=>?_))))
  .refine aE (aA vl (bX Jp (Q2.ext u.aF) ?_))
   refine aV asc u (C142 _ a.ps 140 [] [] (λi=>match m.l[i]? with|some t=>!z9 t|none=>false) _ (B.ll.ext u.aF) asa (λi s w1 h e=>by
    obtain⟨t,ht⟩:∃t,m.l[i]?=some t:=⟨_,kO (by have:=(j0.1 h).1;omega)⟩;rw[ht];exact C140 K _ s.b m.room t w1 ((B.th i s t h ht).ext (u.aF.then e)) (Y _ (u.aF.then e)) (V.th t (kp ht)).bl) bM) (λ_ he u=>?_)
   refine bQ (aA wN (aW u G0 (dR rfl) rfl λw5 u=>?_));have E:pE m = !((wx a.ps.length).any λi=>match m.l[i]? with|some t=>!z9 t|none=>false):=by unfold pE;rw[ew G,B.len];rfl
   rw[E];exact u
  refine aA wN (aW u G0 (dR rfl) rfl λw5 u=>?_);have E:pE m=false:=by unfold pE;rw[ez G];rfl
  rw[E];exact u
 intro _ u _
 have Ab:∀(b:Bool) (w':World),sR m=b->St w aZ [bY b4 (hZ (⟨m.dI,m.fault,m.ku,pE m,b⟩:mU)),bY b2 (hZ (⟨0,0,0,false,false⟩:mU))] w'->St w aZ [bY b4 (hZ (qk m)),bY b2 (hZ (⟨0,0,0,false,false⟩:mU))] w':=λb w' h1 h2=>by
  subst h1;exact h2
 refine⟨λw'=>St w aZ [bY b4 (hZ (qk m)),bY b2 (hZ (⟨0,0,0,false,false⟩:mU))] w',?_,?_⟩
 .refine aE (aA yk (bX bO (M.ext u.aF) (aG (aC (λG=>?_) λG=>?_))));rotate_left
  .exact aA AL (aW u G0 (dR rfl) rfl λ_ u=>Ab false _ (by unfold sR;rw[ez G];rfl) u)
  refine aA wN (aB (v:=.bool (pE m)) G0 u.hb rfl (bQ (aY (λO=>?_) λO=>?_)));rotate_left
  .exact aA AL (aW u G0 (dR rfl) rfl λ_ u=>Ab false _ (by unfold sR;rw[show pE m=true from by simpa using O];simp) u)
  refine dT ar5 u (C67 K p m _ (hm.ext u.aF) (λ_ e=>Y _ (u.aF.then e)) V) (λx45 w7 cK u=>?_);obtain⟨Z,W,U⟩:=u.dl;refine aH gH W ?_;rw[show Z.length=(gj m).length from U.1];exact aG (have u:=u.drop;aA AL (aW u G0 (dR rfl) rfl λ_ u=>Ab (decide (((gj m).length:Int)=0)) _ (by unfold sR;rw[ew G,show pE m=false from by simpa using O];rfl) u))
 intro _ u _;exact aD (x:=qk m) LN u.At (aJ (x:=qk m) u.p1 LN rfl rfl λ_ u=>aD LN u.At ⟨rfl,u.drop.drop.aF⟩)
variable (w:World) (K:Value->g7)
def aAD:dJ:=λi=>match i with
 | 2=>(.op 0 [] (.op 1 [] (.op 2 [] (.op 4 [] (.alt 3 [1,4] (.alt 5 [1] (.of [(6,[]),(7,[]),(8,[1,4]),(9,[])]) (.alt 8 [1,4] (.of [(5,[1]),(6,[]),(7,[]),(9,[])]) .stop)) (.alt 8 [1,4] (.of [(3,[1,4]),(5,[1]),(6,[]),(7,[]),(9,[])]) .stop))))))
 | 5=>(.of [(0,[]),(1,[]),(2,[]),(3,[1]),(4,[]),(5,[])])
 | _=>.nil
theorem aAE:PL 40:=dL Tryz.func40
theorem atD:PL 101:=dL Tryz.func101
theorem atE:PL 102:=dL Tryz.func102
theorem atF:PL 172:=dL Tryz.func172
end Go.Proofs.YtpdlpabnlkofmaaGreatDoor
namespace Go.Proofs.YtpdlpabnlkofmaaGreatDoor
open Go.Fw
def Ai:pr g6 (l1 63 [].toArray)=some (.agg [hH 0,hH 0,hH 0,.slice none 0 0].toArray):=by kernel_rfl
def CW(G:Int)(E:Option Addr)(u B:Nat):pr g6 (l1 63 [(2,hH G),(3,.slice E u B)].toArray)=some (.agg [hH 0,hH 0,hH G,.slice E u B].toArray):=by kernel_rfl
end Go.Proofs.YtpdlpabnlkofmaaGreatDoor
