/-
  Part 8.
-/
import Derived.Test.YtnjcingfdhjfkaaGreatR6x7
set_option maxHeartbeats 8000000
set_option linter.all false
set_option maxRecDepth 100000
open Go.Fw.Flat renaming val->j6,enc->kp,sz->o4
open List renaming mem_of_getElem?->ld,getElem?_eq_some_iff->l0,take_of_length_le->mE,getElem?_eq_getElem->nT,length_append->n0,length_singleton->n6,getD_eq_getElem?_getD->oi,length_take->oj,getElem?_eq_none->o3,length_map->qE,append_assoc->qF,replicate->qU,range->rv,mem_append->r3,mem_map->r5,mem_singleton->s7,mem_cons_of_mem->s8,mem_cons_self->uc,getElem?_map->uO,ext_getElem?->wj,take_add_one->xp,drop_eq_getElem_cons->xD,getElem?_set_self->yF,map_append->yU,filter_append->ze,any_eq_true->z6,mem_of_mem_take->CP,drop_eq_nil_iff->CS,nil_append->C5,length_set->DI,range_succ->D3,mem_or_eq_of_mem_set->EP,map_congr_left->H3,getElem?_set_ne->JG,map_map->TN,filter_filter->TT,filter->abB,any_append->ab3,nil->adr
open Bool renaming and_eq_true->oG,false_or->U2
open Option renaming bind_some->o5,some->qa,toList_some->K0
open Nat renaming zero_le->o6,le_trans->x5,mul_le_mul_right->BO,le_of_eq->HL
open Go.Fw.Deep renaming dr->py,ext->Ov
open Go.Value renaming int->qs
open Go.Instr renaming indexAt->Iy
namespace Go.Proofs.YtnjcingfdhjfkaaGreat
open Go.Fw
def A9{α:Type}[Flat α]{P:Program}{S:Nat->Prop}{Wd:jj}{w0:World}{xs:List α}{T E U:Nat}{z:Option Nat}{v:Value}{i:Int}{x:α}{K:Value->Prop}(ht:gg P T=some (E,o4 α,U,z))(h:∀w,Wd w->eN S w v xs)(hw:Wd w0)(h0:0<=i)(B:xs[i.toNat]?=some x)
  (k:∀p,(∀w,Wd w->At S w p x)->K p):eM P (Iy T v (jK i)) K:=by
 obtain⟨a,cap,rfl,Nd,h3⟩:=h w0 hw
 have pF:i.toNat<xs.length:=(l0.1 B).1
 rcases h3 with⟨rfl,_⟩|⟨b,o,rfl,h4,_⟩
 .simp at B
 obtain⟨W,V,O,oq,_⟩:=iC ht
 refine⟨.pointer (some ⟨b,o+i.toNat*o4 α,none⟩),?_,k _ λw' I=>⟨b,_,rfl,h4 eS,λj c hj=>?_⟩⟩
 .unfold Iy
  rw[cX]
  show pr P _=_
  simp only[asIntOf]
  have e1:pr P (underlying T)=some (.slice E):=dC W
  have M:pr P (sizeOf E)=some (o4 α):=by rw[qI O,oq]
  simp only[cX,e1,M,o5,gi]
  have uh:0<=i/\i<(xs.length:Int):=⟨h0,cW⟩
  simp only[fV uh,cX,M,o5,gi,ju]
 obtain⟨a',Nf,J,_,h6⟩:=h w' I
 cases J
 rcases h6 with⟨rfl,_⟩|⟨b',o',J,_,h5⟩
 .simp at B
 cases J
 have:=h5 (i.toNat*o4 α+j) c (vj B hj)
 grind
abbrev Ba(B:Nat)(E rg cn:Value)(t:fR):List Value:=[.int .i64 t.code.aJ,.int .i64 t.code.counts,E,.int .i64 t.at_,rg,cn,.pointer (some ⟨B,0,none⟩),.int .i64 t.fault]
def gn(K:jj)(p:Nat)(room:Int)(t:fR):HP:=uI λB:Nat=>uI λE=>uI λrg=>uI λcn=>fact (vY K E t.code.l)
 (sep (cI p (Ba B E rg cn t)) (sep (kC B room t.buf) (sep (bE rg t.aJ) (bE cn t.counts))))
section
variable {w w0:World}{A:Nat->Prop}{R:List HP}{p:Nat}{K:jj}{room:Int}{t:fR}
theorem gn.open(B:St w0 A (gn K p room t::R) w):∃E I rg cn,vY K I t.code.l/\St w0 A (cI p (Ba E I rg cn t)::kC E room t.buf::bE rg t.aJ::bE cn t.counts::R) w:=by
 obtain⟨E,B⟩:=B.fH;obtain⟨I,B⟩:=B.fH;obtain⟨rg,B⟩:=B.fH;obtain⟨cn,B⟩:=B.fH;obtain⟨J,B⟩:=B.pd
 have h1:=B.split
 have h2:=h1.p1.split
 have h3:=h2.p1.split
 exact⟨E,I,rg,cn,J,h3.p2.p3⟩
theorem gn.shut{B:Nat}{E rg cn:Value}(J:vY K E t.code.l)(I:St w0 A (cI p (Ba B E rg cn t)::kC B room t.buf::bE rg t.aJ::bE cn t.counts::R) w):St w0 A (gn K p room t::R) w:=by
 have h1:=St.join I.p3.p3
 have h2:=St.join h1.p2
 exact St.fD B (St.fD E (St.fD rg (St.fD cn (St.qM J (St.join h2.p1)))))
theorem gn.rd(h:Has (gn K p room t) w):∃E I rg cn,vY K I t.code.l/\uE w p (Ba E I rg cn t)/\wy w E room t.buf/\eN (λ_=>True) w rg t.aJ/\eN (λ_=>True) w cn t.counts:=by
 obtain⟨F,B⟩:=h.st
 obtain⟨E,I,rg,cn,J,B⟩:=gn.open B
 exact⟨E,I,rg,cn,J,B.hb,Hg B.p1,B.p2.fu,B.p3.fu⟩
end
section
variable {t:fR}{x:bF}
theorem aq9(E:(dE x.e t.aJ).2=true)(B:(dE x.f t.aJ).2=true):tF (tE t x) x={t with e:=(dE x.e t.aJ).1,f:=(dE x.f t.aJ).1}:=by
 unfold tF
 rw[show(dE x.f (tE t x).aJ)=dE x.f t.aJ from rfl,fV B]
 unfold tE
 rw[fV E]
theorem nA(h:gP t=some x)(E:(dE x.e t.aJ).2=true)(B:(dE x.f t.aJ).2=true):fK t=zh {t with e:=(dE x.e t.aJ).1,f:=(dE x.f t.aJ).1} x (dE x.e t.aJ).1:=by
 rw[lL h E B,aq9 E B]
theorem Sb(h:gP t=some x)(hb:(dE x.e t.aJ).2=false\/(dE x.f t.aJ).2=false):∃e f,fK t=({t with fault:=2,e:=e,f:=f},false):=by
 cases he:(dE x.e t.aJ).2 with
 | false=>exact⟨_,_,by rw[yo h he];unfold tE;rw[he];rfl⟩
 | true=>
  rw[he]at hb
  have B:=hb.resolve_left eU
  refine⟨(dE x.e t.aJ).1,(dE x.f t.aJ).1,?_⟩
  rw[yp h he B]
  unfold tF
  rw[show(dE x.f (tE t x).aJ)=dE x.f t.aJ from rfl,B];rfl
theorem Kj{t:fR}{x:bF}(B:t.at_<t.code.l.length)(h:t.code.l[t.at_.toNat]?=some x):gP t=some x:=by unfold gP;rw[fU cW];exact h
theorem Kk{t:fR}(B:(t.code.l.length:Int)<=t.at_):gP t=none:=by unfold gP;rw[fV B]
end
def C151(p:Nat)(cs:List Value)(rg:Value)(ns:List Int)(J:Value)(xs:List nQ)(w:World)(hb:uE w p cs)(W:cs[4]?=some rg)(V:eN (λ_=>True) w rg ns)(I:eN (λ_=>True) w J xs)(hn:xs.length<=1000)(M:yD ns):CR 151 [(.pointer (some ⟨p,0,none⟩)),J] w (λv w'=>v=.tuple #[jK (dE xs ns).1,.bool (dE xs ns).2]/\Ext w w'):=by
 have O:=hb.cell (o:=4) W;have B:=St.start w;refine agh _ _ _ _ ?_;unfold S151;refine aI lD (I.ext B.aE) (aH (aC (λU=>?_) λU=>?_))
 .have E:dE xs ns=(0,true):=by unfold dE;rw[fV cW]
  rw[E];exact⟨rfl,B.aE⟩
 refine aD (aA xN (aU cZ (O.ext B.aE) (aZ aki B (C142 _ _ xs _ _ (I.ext B.aE) (V.ext B.aE) cW M) λ_ he B=>bD rfl (bD rfl (aH ?_)))));have E:dE xs ns=((runM xs ns).1,decide ((runM xs ns).2=0)):=by unfold dE;rw[fU cW]
 rw[E];exact⟨rfl,B.aE⟩
set_option maxRecDepth 100000 in
theorem C141(K:jj)(p:Nat)(room:Int)(t:fR)(tR:fR)(n:Nat)(F:Nat->Prop)(w:World)(hF:(gn K p room t).p w F)(hK:∀w',js F w w'->K w')(mL:JR t)(hor:yD t.aJ)(hg:sB n t=some tR):CR 141 [(.pointer (some ⟨p,0,none⟩))] w (λv w'=>v=.tuple #[]/\pk F (gn K p room tR) w w'):=by
 have E:=St.begin hF;refine af7 _ _ _ ?_;unfold S141;refine⟨λmm w'=>∃B:fR,sB mm B=some tR/\JR B/\yD B.aJ/\St w F [gn K p room B] w',⟨n,t,hg,mL,hor,E⟩,?_⟩;rintro mm _ ⟨B,U,M,I,E⟩ _;obtain⟨k,rfl⟩:=Rj U;obtain⟨bp,gl,rg,cn,O,E⟩:=gn.open E;obtain⟨ts,B4⟩:=O;have O:vY K gl B.code.l:=⟨ts,B4⟩;have hn0:=(B4 _ (hK _ E.aE)).2.1;have axx:=M.Sv;refine aD (aA jP (have E:=E.drew;aB aV E.hb rfl (aD (aA xM (aA iR (aB l7 E.hb rfl (aI jN (B4 _ (hK _ E.aE)).1 (aK (aC (λg9=>?_) λg9=>?_)))))))))
 .refine aD (aA xM (aA iR (have E:=E.drew;aB l7 E.hb rfl (aD (aA jP (aB aV E.hb rfl ?_))))));obtain⟨jA,jX⟩:=gx ts (i:=B.at_.toNat) cW;obtain⟨x,xl⟩:=gx B.code.l (i:=B.at_.toNat) cW;have V:=Kj (t:=B) cW xl;have Le:=o9 V;obtain⟨hxe,hxf,aFX,aFY⟩:=M.code.ops x Le.1;have adj:=M.code.set x Le.1;have Rm:=M.code.cnt x Le.1;have aFZ:=M.rg;have adk:=M.cn;have aF0:=M.code.len;obtain⟨ge,gf,rfl,_,_⟩:=(B4 _ (hK _ E.aE)).2.2 _ _ _ jX xl
  have hxE:∀w,K w->eN (λ_=>True) w (j6 ge) x.e:=λw hw=>by
   obtain⟨ge',gf',hh,h1,_⟩:=(B4 w hw).2.2 _ _ _ jX xl;cases hh;exact DL.flat h1
  have hxF:∀w,K w->eN (λ_=>True) w (j6 gf) x.f:=λw hw=>by
   obtain⟨ge',gf',hh,_,h2⟩:=(B4 w hw).2.2 _ _ _ jX xl;cases hh;exact DL.flat h2
  refine A9 (Wd:=K) jN (λw' hw'=>(B4 w' hw').1) (hK _ E.aE) cW jX (λ_ si=>aF gN (si _ (hK _ E.aE)) (aR E j7 λmV _ E=>?_));have E:=E.enc (cs':=kp (⟨0,0,0,bL,bL,0⟩:bN)) rfl;refine⟨aG l7 (E.p1.hb.cell rfl),?_⟩;refine⟨aG aV (E.p1.hb.cell rfl),?_⟩;refine⟨eG gN (si _ (hK _ E.aE)),?_⟩;refine aO (x:=(⟨x.kind,x.a,x.b,ge,gf,x.to⟩:bN)) E gN rfl rfl (λ_ E=>aA ou (aB (v:=j6 (ge:SV)) nP E.hb rfl (aZ Vy E (C151 p _ _ B.aJ _ x.e _ E.p1.hb rfl E.p3.fu (hxE _ (hK _ E.aE)) hxe I) λ_ he E=>bD rfl (bD rfl (aA iZ (aB (v:=j6 (gf:SV)) nP E.hb rfl (aZ Vy E (C151 p _ _ B.aJ _ x.f _ E.p1.hb rfl E.p3.fu (hxF _ (hK _ E.aE)) hxf I) λ_ he E=>bD rfl (bD rfl ?_))))))))
  refine⟨_,?_,λ_ _ h=>h⟩;refine bV (aW (λgO=>?_) λgO=>?_)
  .intro se;refine jt (aD (aA xO (aS E.p1 aV (dV rfl) (rfl) λw7 E=>?_)));obtain⟨e2,f2,gj⟩:=Sb V (by left;simpa using gO);have E:=gn.shut (t:=(⟨B.code,B.at_,B.aJ,B.counts,2,e2,f2,B.buf⟩:fR)) O E.p4.p4.p4.p3;have E:=E.p1.drop;rw[tq U gj];exact⟨rfl,E.mut⟩
  refine bV ?_;intro se;refine aW (λW=>?_) (λW=>?_)
  .refine aD (aA xO (aS E.p1 aV (dV rfl) (rfl) λw7 E=>?_));obtain⟨e2,f2,gj⟩:=Sb V (by right;simpa using W);have E:=gn.shut (t:=(⟨B.code,B.at_,B.aJ,B.counts,2,e2,f2,B.buf⟩:fR)) O E.p4.p4.p4.p3;have E:=E.p1.drop;rw[tq U gj];exact⟨rfl,E.mut⟩
  refine aD (aA jP (aB aV E.p1.hb rfl (aN cW ?_)));refine⟨_,?_,λ_ _ h=>h⟩;refine aA eA (aB (v:=jK x.kind) aV E.hb rfl (aH (aC (λDN=>?_) λDN=>⟨λjv w'=>jv=.bool (decide (x.kind=11\/(x.kind=12/\(dE x.e B.aJ).1=0)))/\St w F [cI mV (kp (⟨x.kind,x.a,x.b,ge,gf,x.to⟩:bN)),cI p (Ba bp gl rg cn B),kC bp room B.buf,bE rg B.aJ,bE cn B.counts] w',aA eA (aB (v:=jK x.kind) aV E.hb rfl (aH (aC (λrJ=>have E:=E.p4.p4.p4.p4.p4;⟨Ky (.inl rJ),E⟩) λ_=>aA eA (aB (v:=jK x.kind) aV E.hb rfl (aH (aC (λ_=>aH (have E:=E.p4.p4.p4.p4.p4;⟨uS cW,E⟩)) λ_=>have E:=E.p4.p4.p4.p4.p4;⟨jvF cW,E⟩)))))),?_⟩)))
  .have hx1:=adj DN;refine aD (aA xN (have E:=E.drew;aB cZ E.p1.hb rfl (aA gr (aB (v:=jK x.a) aV E.hb rfl ?_))));obtain⟨e_x68,aHg⟩:=gx B.aJ (i:=x.a.toNat) cW;refine cH E.p3 cE cW cW (λ_ abO=>gY _ E.p3 aV abO cW λ_ E=>?_);intro J;refine aD (aA jP (aS E.p2 aV (dV rfl) (rfl) λUj E=>?_));have E:=gn.shut (t:=(⟨B.code,(B.at_+1),(B.aJ.set x.a.toNat (dE x.e B.aJ).1),B.counts,B.fault,(dE x.e B.aJ).1,(dE x.f B.aJ).1,B.buf⟩:fR)) O E.p4.p2.p4.p3;have E:=E.p1.drop
   have gj:fK B=((⟨B.code,(B.at_+1),(B.aJ.set x.a.toNat (dE x.e B.aJ).1),B.counts,B.fault,(dE x.e B.aJ).1,(dE x.f B.aJ).1,B.buf⟩:fR),true):=by
    rw[nA V (by simpa using gO) (by simpa using W)];rw[Rk DN]
   exact⟨k,cW,_,qB U gj,by have:=jd M;rw[gj]at this;exact this,by have:=oW I;rw[gj]at this;exact this,E⟩
  rintro _ _ ⟨rfl,E⟩ _;refine aW (λaex=>?_) (λaex=>?_)
  .refine aA gS (aB (v:=jK x.to) aV E.hb rfl ?_);intro J;refine aD (aA jP (aS E.p1 aV (dV rfl) (rfl) λUj E=>?_));have E:=gn.shut (t:=(⟨B.code,x.to,B.aJ,B.counts,B.fault,(dE x.e B.aJ).1,(dE x.f B.aJ).1,B.buf⟩:fR)) O E.p4.p4.p4.p3;have E:=E.p1.drop
   have gj:fK B=((⟨B.code,x.to,B.aJ,B.counts,B.fault,(dE x.e B.aJ).1,(dE x.f B.aJ).1,B.buf⟩:fR),true):=by
    rw[nA V (by simpa using gO) (by simpa using W)]
    rcases hU aex with h|⟨h,h2⟩
    .rw[JS h]
    .rw[Em h h2]
   exact⟨k,cW,_,qB U gj,by have:=jd M;rw[gj]at this;exact this,by have:=oW I;rw[gj]at this;exact this,E⟩
  have hnj:¬ (x.kind=11\/(x.kind=12/\(dE x.e B.aJ).1=0)):=ij aex;refine aA eA (aB (v:=jK x.kind) aV E.hb rfl (aH (aC (λGl=>?_) λGl=>aA eA (aB (v:=jK x.kind) aV E.hb rfl (aH (aC (λI7=>?_) λI7=>⟨_,aA eA (aB (v:=jK x.kind) aV E.hb rfl (aH (aC (λaey=>?_) λaey=>?_))),λ_ _ h=>h⟩))))))
  .have hx1:=Rm (.inl Gl);refine aD (aA Dz (have E:=E.drew;aB cZ E.p1.hb rfl (aA gr (aB (v:=jK x.a) aV E.hb rfl (aA dS (aB (v:=jK x.b) aV E.hb rfl ?_))))));obtain⟨e_x94,aHh⟩:=gx B.counts (i:=x.a.toNat) cW;refine cH E.p4 cE cW cW (λ_ ayY=>gY _ E.p4 aV ayY cW λ_ E=>?_);intro J;refine aD (aA jP (aS E.p2 aV (dV rfl) (rfl) λUj E=>?_));have E:=gn.shut (t:=(⟨B.code,(B.at_+1),B.aJ,(B.counts.set x.a.toNat x.b),B.fault,(dE x.e B.aJ).1,(dE x.f B.aJ).1,B.buf⟩:fR)) O E.p1.p4.p4.p3
   have E:=E.p1.drop
   have gj:fK B=((⟨B.code,(B.at_+1),B.aJ,(B.counts.set x.a.toNat x.b),B.fault,(dE x.e B.aJ).1,(dE x.f B.aJ).1,B.buf⟩:fR),true):=by
    rw[nA V (by simpa using gO) (by simpa using W)];rw[JT Gl]
   exact⟨k,cW,_,qB U gj,by have:=jd M;rw[gj]at this;exact this,by have:=oW I;rw[gj]at this;exact this,E⟩
  .have hx1:=Rm (.inr I7);refine aD (aA Dz (have E:=E.drew;aB cZ E.p1.hb rfl (aA gr (aB (v:=jK x.a) aV E.hb rfl (aD (aA Dz (aB cZ E.p1.hb rfl (aA gr (aB (v:=jK x.a) aV E.hb rfl ?_)))))))));obtain⟨Bb,XE⟩:=gx B.counts (i:=x.a.toNat) cW;refine cH E.p4 cE cW cW (λ_ ara=>eK E.p4 aV ara XE ?_);have E5:B.counts.getD x.a.toNat 0=Bb:=by rw[oi,XE];rfl
   refine xU (cH E.p4 cE cW cW λ_ CK=>gY _ E.p4 aV CK cW λ_ E=>aD (aA Dz (have E:=E.drew;aB cZ E.p2.hb rfl ?_)));have Nz:(B.counts.set x.a.toNat (qj (Bb-1))).length=B.counts.length:=DI;refine aA gr (aB (v:=jK x.a) aV E.p1.hb rfl ?_);obtain⟨arb,OC⟩:=gx (B.counts.set x.a.toNat (qj (Bb-1))) (i:=x.a.toNat) cW;refine cH E cE cW cW (λ_ arc=>eK E aV arc OC ?_);have h121:arb=qj (Bb-1):=by rw[yF cW]at OC;exact(qa.inj OC).symm
   refine cG (aC (λT3=>?_) λT3=>?_)
   .refine aA gS (aB (v:=jK x.to) aV E.p1.hb rfl ?_);intro J;refine aD (aA jP (aS E.p2 aV (dV rfl) (rfl) λUj E=>?_));have E:=gn.shut (t:=(⟨B.code,x.to,B.aJ,(B.counts.set x.a.toNat (qj (Bb-1))),B.fault,(dE x.e B.aJ).1,(dE x.f B.aJ).1,B.buf⟩:fR)) O E.p1.p4.p4.p3;have E:=E.p1.drop
    have gj:fK B=((⟨B.code,x.to,B.aJ,(B.counts.set x.a.toNat (qj (Bb-1))),B.fault,(dE x.e B.aJ).1,(dE x.f B.aJ).1,B.buf⟩:fR),true):=by
     rw[nA V (by simpa using gO) (by simpa using W)];rw[Eo I7 (by show 0<qj (B.counts.getD x.a.toNat 0-1);rw[E5];omega)];show(_,true)=_;rw[E5]
    exact⟨k,cW,_,qB U gj,by have:=jd M;rw[gj]at this;exact this,by have:=oW I;rw[gj]at this;exact this,E⟩
   intro J;refine aD (aA jP (aS E.p2 aV (dV rfl) (rfl) λUj E=>?_));have E:=gn.shut (t:=(⟨B.code,(B.at_+1),B.aJ,(B.counts.set x.a.toNat (qj (Bb-1))),B.fault,(dE x.e B.aJ).1,(dE x.f B.aJ).1,B.buf⟩:fR)) O E.p1.p4.p4.p3;have E:=E.p1.drop
   have gj:fK B=((⟨B.code,(B.at_+1),B.aJ,(B.counts.set x.a.toNat (qj (Bb-1))),B.fault,(dE x.e B.aJ).1,(dE x.f B.aJ).1,B.buf⟩:fR),true):=by
    rw[nA V (by simpa using gO) (by simpa using W)];rw[Ep I7 (by show ¬ 0<qj (B.counts.getD x.a.toNat 0-1);rw[E5];omega)];show(_,true)=_;rw[E5]
   exact⟨k,cW,_,qB U gj,by have:=jd M;rw[gj]at this;exact this,by have:=oW I;rw[gj]at this;exact this,E⟩
  .refine aH ?_;intro dd4;refine aC (λaez=>?_) (λaez=>⟨_,aA eA (aB (v:=jK x.kind) aV E.hb rfl (bQ (aC (λJz=>?_) λJz=>?_))),λ_ _ h=>h⟩)
   .refine aD (aA xO (aS E.p1 aV (dV rfl) (rfl) λ_ E=>?_));have E:=gn.shut (t:=(⟨B.code,B.at_,B.aJ,B.counts,1,(dE x.e B.aJ).1,(dE x.f B.aJ).1,B.buf⟩:fR)) O E.p4.p4.p4.p3;have E:=E.p1.drop
    have gj:fK B=((⟨B.code,B.at_,B.aJ,B.counts,1,(dE x.e B.aJ).1,(dE x.f B.aJ).1,B.buf⟩:fR),false):=by
     rw[nA V (by simpa using gO) (by simpa using W)];rw[Er aey aez]
    rw[tq U gj];exact⟨rfl,E.mut⟩
   .refine aA eA (aB (v:=jK x.kind) aV E.hb rfl (bQ ?_));intro ZP;refine aC (λU6=>?_) (λU6=>?_)
    .exfalso;omega
    intro J;refine aD (aA jP (aS E.p1 aV (dV rfl) (rfl) λUj E=>?_));have E:=gn.shut (t:=(⟨B.code,(B.at_+1),B.aJ,B.counts,B.fault,(dE x.e B.aJ).1,(dE x.f B.aJ).1,B.buf⟩:fR)) O E.p4.p4.p4.p3;have E:=E.p1.drop
    have gj:fK B=((⟨B.code,(B.at_+1),B.aJ,B.counts,B.fault,(dE x.e B.aJ).1,(dE x.f B.aJ).1,B.buf⟩:fR),true):=by
     rw[nA V (by simpa using gO) (by simpa using W)];rw[Es cW cW]
    exact⟨k,cW,_,qB U gj,by have:=jd M;rw[gj]at this;exact this,by have:=oW I;rw[gj]at this;exact this,E⟩
   intro ZP;refine fM ?_;intro J;refine aD (aA jP (aS E.p1 aV (dV rfl) (rfl) λUj E=>?_))
   exfalso;omega
  intro dd4;refine fM ?_;refine⟨_,?_,λ_ _ h=>h⟩;refine aA eA (aB (v:=jK x.kind) aV E.hb rfl (bQ (aC (λJz=>?_) λJz=>?_)))
  .refine aA eA (aB (v:=jK x.kind) aV E.hb rfl (bQ ?_));intro ZP;refine aC (λU6=>?_) (λU6=>?_)
   .have E:=gn.shut (t:=(⟨B.code,B.at_,B.aJ,B.counts,B.fault,(dE x.e B.aJ).1,(dE x.f B.aJ).1,B.buf⟩:fR)) O E.p4.p4.p4.p4;have E:=E.p1.drop
    have gj:fK B=((⟨B.code,B.at_,B.aJ,B.counts,B.fault,(dE x.e B.aJ).1,(dE x.f B.aJ).1,B.buf⟩:fR),false):=by
     rw[nA V (by simpa using gO) (by simpa using W)];rw[JU DN (λh=>hnj (.inl h)) cW Gl I7 cW]
    rw[tq U gj];exact⟨rfl,E.mut⟩
   intro J;refine aD (aA jP (aS E.p1 aV (dV rfl) (rfl) λUj E=>?_))
   exfalso;omega
  intro ZP;refine fM ?_;intro J;refine aD (aA jP (aS E.p1 aV (dV rfl) (rfl) λUj E=>?_));have E:=gn.shut (t:=(⟨B.code,(B.at_+1),B.aJ,B.counts,B.fault,(dE x.e B.aJ).1,(dE x.f B.aJ).1,B.buf⟩:fR)) O E.p4.p4.p4.p3;have E:=E.p1.drop
  have gj:fK B=((⟨B.code,(B.at_+1),B.aJ,B.counts,B.fault,(dE x.e B.aJ).1,(dE x.f B.aJ).1,B.buf⟩:fR),true):=by
   rw[nA V (by simpa using gO) (by simpa using W)];rw[En cW λh=>hnj (.inr ⟨cW,h⟩)]
  exact⟨k,cW,_,qB U gj,by have:=jd M;rw[gj]at this;exact this,by have:=oW I;rw[gj]at this;exact this,E⟩
 have E:=gn.shut (t:=B) O E.p3.p3.p3.p3;rw[tq U (yn (Kk cW))];exact⟨rfl,E.mut⟩
def sw(ws:List o7)(m:Mem):Prop:=(∀n,m.gu n=(ws.filter λx=>decide (x.line=n)).map λx=>⟨x.cell,x.n⟩)/\∀x∈ws,0<=x.cell/\m.of[x.cell.toNat]?=some x.line
def gJ(p:Nat)(m:Mem):HP:=uI λq:Value×Value×Value×Value×Value=>uI λws:List o7=>fact (sw ws m) (sep (cI p [q.1,q.2.1,q.2.2.1,q.2.2.2.1,q.2.2.2.2]) (sep (bE q.1 m.of) (sep (bE q.2.1 m.cO) (sep (bE q.2.2.1 m.l) (sep (bE q.2.2.2.1 m.kept) (bE q.2.2.2.2 ws))))))
structure zL(w:World)(p:Nat)(m:Mem):Prop where
 ex:∃ov fv lv kv wv ws,sw ws m/\uE w p [ov,fv,lv,kv,wv]/\eN (λ_=>True) w ov m.of/\eN (λ_=>True) w fv m.cO/\eN (λ_=>True) w lv m.l/\eN (λ_=>True) w kv m.kept/\eN (λ_=>True) w wv ws
section
variable {w w0:World}{A:Nat->Prop}{R:List HP}{p:Nat}{m:Mem}{ov fv lv kv wv:Value}{ws:List o7}
theorem gJ.shut(h:sw ws m)(B:St w0 A (cI p [ov,fv,lv,kv,wv]::bE ov m.of::bE fv m.cO::bE lv m.l::bE kv m.kept::bE wv ws::R) w):St w0 A (gJ p m::R) w:=by
 have h5:=St.join B.p5.p5
 have h4:=St.join h5.p4
 have h3:=St.join h4.p3
 have h2:=St.join h3.p2
 have h1:=St.join h2.p1
 exact St.fD (ov,fv,lv,kv,wv) (St.fD ws (St.qM h h1))
theorem gJ.open(B:St w0 A (gJ p m::R) w):∃ov fv lv kv wv ws,sw ws m/\St w0 A (cI p [ov,fv,lv,kv,wv]::bE ov m.of::bE fv m.cO::bE lv m.l::bE kv m.kept::bE wv ws::R) w:=by
 obtain⟨⟨ov,fv,lv,kv,wv⟩,B⟩:=B.fH;obtain⟨ws,B⟩:=B.fH;obtain⟨E,B⟩:=B.pd
 have h1:=B.split
 have h2:=h1.p1.split
 have h3:=h2.p1.split
 have h4:=h3.p1.split
 have h5:=h4.p1.split
 exact⟨ov,fv,lv,kv,wv,ws,E,h5.p2.p3.p4.p5⟩
end
def aeA{w:World}{p:Nat}{m:Mem}(h:Has (gJ p m) w):zL w p m:=by
 obtain⟨F,B⟩:=h.st
 obtain⟨ov,fv,lv,kv,wv,ws,E,B⟩:=gJ.open B
 exact⟨ov,fv,lv,kv,wv,ws,E,B.hb,B.p1.fu,B.p2.fu,B.p3.fu,B.p4.fu,B.p5.fu⟩
@[reducible] def pD(a:MA)(m:gQ):List Value:=[j6 a.lnv,.int .i64 m.u.stays,j6 a.fsv,.int .i64 m.u.locks,j6 a.thv,.int .i64 m.u.recover.aJ,.int .i64 m.u.recover.counts,j6 a.ZT,j6 a.clv,.int .i64 m.room,.int .i64 m.cS,.pointer (some ⟨a.q,0,none⟩),a.lk,a.ll,.int .i64 m.fault,.int .i64 m.iP]
structure RK(K:jj)(a:MA)(m:gQ):Prop where
 ln:∀w,K w->eN (λ_=>True) w (j6 a.lnv) m.u.lines
 cl:∀w,K w->DL w (j6 a.clv) m.u.cD
 rc:vY K (j6 a.ZT) m.u.recover.l
abbrev qX(K:jj)(room:Int)(s:Ptr)(t:fR):HP:=gn K s.b room t
def eZ(K:jj)(p:Nat)(m:gQ):HP:=uI λa:MA=>fact (RK K a m) (sep (cI p (pD a m)) (sep (gJ a.q m.mem) (sep (bE a.lk m.locks) (sep (bE a.ll a.ps) (iU (qX K m.room) a.ps m.l)))))
structure ard(K:jj)(w:World)(p:Nat)(m:gQ)(a:MA):Prop where
 rk:RK K a m
 b:uE w p (pD a m)
 mem:zL w a.q m.mem
 lk:eN (λ_=>True) w a.lk m.locks
 ll:eN (λ_=>True) w a.ll a.ps
 th:∀(i:Nat) (s:Ptr) (t:fR),a.ps[i]?=some s->m.l[i]?=some t->Has (gn K s.b m.room t) w
 len:a.ps.length=m.l.length
section
variable {w w0:World}{A:Nat->Prop}{R:List HP}{p:Nat}{K:jj}{m:gQ}{a:MA}
theorem eZ.open(B:St w0 A (eZ K p m::R) w):∃a,RK K a m/\St w0 A (cI p (pD a m)::gJ a.q m.mem::bE a.lk m.locks::bE a.ll a.ps::iU (qX K m.room) a.ps m.l::R) w:=by
 obtain⟨a,B⟩:=B.fH;obtain⟨E,B⟩:=B.pd;exact⟨a,E,BJ B⟩
theorem eZ.shut(B:RK K a m)(E:St w0 A (cI p (pD a m)::gJ a.q m.mem::bE a.lk m.locks::bE a.ll a.ps::iU (qX K m.room) a.ps m.l::R) w):St w0 A (eZ K p m::R) w:=
 St.fD a (St.qM B (BK E))
theorem eZ.rd(h:Has (eZ K p m) w):∃a,ard K w p m a:=by
 obtain⟨F,B⟩:=h.st
 obtain⟨a,E,B⟩:=eZ.open B
 have h1:zL w a.q m.mem:=by
  obtain⟨ov,fv,lv,kv,wv,ws,I,h⟩:=gJ.open B.p1
  exact⟨ov,fv,lv,kv,wv,ws,I,h.hb,h.p1.fu,h.p2.fu,h.p3.fu,h.p4.fu,h.p5.fu⟩
 exact⟨a,E,B.hb,h1,B.p2.fu,B.p3.fu,λi s t h1 h2=>B.p4.anP h1 h2 (Φ:=λw=>Has (gn K s.b m.room t) w) λh=>⟨_,h⟩,B.p4.jy⟩
end
theorem uR{m:gQ}{t:fR}{x:bF}(h:gP t=some x)(E:t.fault=0->2<=x.kind/\x.kind<=10) :
  zi m t=if t.fault≠0\/x.kind=2 then true else if x.kind=3\/x.kind=5\/x.kind=6\/x.kind=7 then decide ((t.buf.length:Int)<m.room)else decide (t.buf.length=0)&&(decide (x.kind≠9)||decide (m.locks.getD x.b.toNat 0 = -1)):=by
 unfold zi
 rw[h]
 dsimp only
 by_cases B:t.fault=0
 .rw[fU cW]
  have:=E B
  by_cases h1:x.kind=3\/x.kind=5\/x.kind=6\/x.kind=7
  .rw[fV h1,fU cW,fV h1,<- decide_not]
   exact hI.2 cW
  rw[fU h1]
  by_cases h2:x.kind=4\/x.kind=8\/x.kind=10
  .rw[fV h2,fU cW,fU h1,gq (show x.kind≠9 by omega),Bool.true_or,Bool.and_true]
  rw[fU h2]
  by_cases h3:x.kind=9
  .rw[fV h3,fU cW,fU h1,gD (show ¬ x.kind≠9 by omega),U2]
  rw[fU h3,fV cW]
 rw[fV B,fV (.inl B)]
def ajz{m:gQ}{t:fR}(h:gP t=none):zi m t=false:=by unfold zi;rw[h]
def C83(K:jj)(p:Nat)(m:gQ)(q:Nat)(t:fR)(w:World)(hm:Has (eZ K p m) w)(hw:K w)(om:∀w',Ext w w'->K w')(iS:nL m)(hh:Has (gn K q m.room t) w)(wQ:t∈m.l):CR 83 [(.pointer (some ⟨p,0,none⟩)),(.pointer (some ⟨q,0,none⟩))] w (λv w'=>v=.bool (zi m t)/\Ext w w'):=by
 obtain⟨a,M⟩:=eZ.rd hm;have Rp:=M.b.cell (o:=8) rfl;have zm:=M.b.cell (o:=11) rfl;have Rq:=M.b.cell (o:=1) rfl;have WU:=M.b.cell (o:=3) rfl;have OO:=M.b.cell (o:=9) rfl;have yq:=M.b.cell (o:=10) rfl;have wz:=M.b.cell (o:=12) rfl;have vZ:=M.b.cell (o:=13) rfl;have sT:=M.b.cell (o:=14) rfl;have zR:=M.b.cell (o:=15) rfl;obtain⟨bp,gl,rg,cn,⟨ts0,B4⟩,kS,hB,AM,Rl⟩:=gn.rd hh;obtain⟨bsv,Bj,uQ,J⟩:=hB;have W:=(B4 w hw).1;have hD0:=(B4 w hw).2;have hn0:=hD0.1;have apW:True:=trivial;have V:=kS.cell (o:=2) rfl;have U:=kS.cell (o:=3) rfl;have Mh:=kS.cell (o:=6) rfl;have ct7:=kS.cell (o:=7) rfl
 have mL:=iS.th t wQ;have vG:=mL.Sv;have zV:=mL.bl;have B:=St.start w;refine ano _ _ _ _ ?_;unfold S83;refine aD (aA jP (have B:=B.drew;aU aV (U.ext B.aE) (aD (aA xM (aA iR (aU l7 (V.ext B.aE) (aI jN (W.ext B.aE) (cN (aC (λ_=>⟨vb (ajz (Kk cW)).symm,(by first|exact B.aE|exact B.drop.aE)⟩) λfT=>aD (aA xM (aA iR (have B:=B.drew;aU l7 (V.ext B.aE) (aD (aA jP (aU aV (U.ext B.aE) ?_)))))))))))))));obtain⟨alf,yX⟩:=gx ts0 (i:=t.at_.toNat) cW;obtain⟨E,yY⟩:=gx t.code.l (i:=t.at_.toNat) cW
 obtain⟨ajA,ajB,rfl,aA0,aA1⟩:=hD0.2 _ _ _ yX yY;refine aQ jN W cW yX (λ_ sj=>?_);have I:=Kj (t:=t) cW yY;have O:=iS.st t wQ _ I;have Le:=o9 I;refine aF gN (sj.ext B.aE) (aR B j7 λpq _ B=>?_);have B:=B.enc (cs':=kp (⟨0,0,0,bL,bL,0⟩:bN)) rfl;refine⟨aG l7 (V.ext B.aE),?_⟩;refine⟨aG aV (U.ext B.aE),?_⟩;refine⟨eG gN (sj.ext B.aE),?_⟩;refine aO (x:=(⟨E.kind,E.a,E.b,ajA,ajB,E.to⟩:bN)) B gN rfl rfl (λ_ B=>?_);refine⟨_,?_,λ_ _ h=>h⟩
 refine aD (aA xO (aU aV (ct7.ext B.aE) (bQ (aC (λj5=>?_) λj5=>?_))))
 .intro qk;refine jt ?_;refine⟨vb ?_,(by first|exact B.aE|exact B.drop.aE)⟩;rw[uR I O];rw[fV cW]
 refine aA eA (aB (v:=jK E.kind) aV B.hb rfl (aH ?_));intro qk;refine aC (λrH=>?_) (λrH=>⟨_,aA eA (aB (v:=jK E.kind) aV B.hb rfl (aH (aC (λuq=>?_) λuq=>aA eA (aB (v:=jK E.kind) aV B.hb rfl (aH (aC (λqO=>?_) λqO=>aA eA (aB (v:=jK E.kind) aV B.hb rfl (aH (aC (λnI=>?_) λnI=>?_))))))))),λ_ _ h=>h⟩)
 .refine⟨vb ?_,(by first|exact B.aE|exact B.drop.aE)⟩;rw[uR I O];rw[fV cW]
 .intro se;refine jt (aD (aA l9 (have B:=B.drew;aU vn (Mh.ext B.aE) (aD (aA im (aU mO (uQ.ext B.aE) (aI jO (J.ext B.aE) (aD (aA Du (aU aV (OO.ext B.aE) (aK ?_)))))))))));refine⟨vb ?_,(by first|exact B.aE|exact B.drop.aE)⟩;rw[uR I O];rw[fU cW,fV cW]
 .intro se;refine jt (aD (aA l9 (have B:=B.drew;aU vn (Mh.ext B.aE) (aD (aA im (aU mO (uQ.ext B.aE) (aI jO (J.ext B.aE) (aD (aA Du (aU aV (OO.ext B.aE) (aK ?_)))))))))));refine⟨vb ?_,(by first|exact B.aE|exact B.drop.aE)⟩;rw[uR I O];rw[fU cW,fV cW]
 .intro se;refine jt (aD (aA l9 (have B:=B.drew;aU vn (Mh.ext B.aE) (aD (aA im (aU mO (uQ.ext B.aE) (aI jO (J.ext B.aE) (aD (aA Du (aU aV (OO.ext B.aE) (aK ?_)))))))))));refine⟨vb ?_,(by first|exact B.aE|exact B.drop.aE)⟩;rw[uR I O];rw[fU cW,fV cW]
 refine aA eA (aB (v:=jK E.kind) aV B.hb rfl (aH ?_));intro se;refine aC (λLQ=>?_) (λLQ=>?_)
 .refine aD (aA l9 (have B:=B.drew;aU vn (Mh.ext B.aE) (aD (aA im (aU mO (uQ.ext B.aE) (aI jO (J.ext B.aE) (aD (aA Du (aU aV (OO.ext B.aE) (aK ?_))))))))));refine⟨vb ?_,(by first|exact B.aE|exact B.drop.aE)⟩;rw[uR I O];rw[fU cW,fV cW]
 refine⟨_,?_,λ_ _ h=>h⟩;refine aD (aA l9 (have B:=B.drew;aU vn (Mh.ext B.aE) (aD (aA im (aU mO (uQ.ext B.aE) (aI jO (J.ext B.aE) (aH (aC (λCj=>aA eA (aB (v:=jK E.kind) aV B.hb rfl (bQ (aC (λJw=>?_) λJw=>?_)))) λCj=>?_))))))))
 .intro uj;refine⟨vb ?_,(by first|exact B.aE|exact B.drop.aE)⟩;rw[uR I O];rw[fU cW,fU cW];rw[gq cW,gq cW];rfl
 .have Uc:=iS.lkb t wQ _ Le.1 (.inl (show E.kind=9 by omega));have Ln:=iS.lk;refine aD (aA yL (aU cZ (wz.ext B.aE) (aA dS (aB (v:=jK E.b) aV B.hb rfl ?_))));obtain⟨qd,JX⟩:=gx m.locks (i:=E.b.toNat) cW;refine aQ cE M.lk cW JX (λ_ Rn=>aF aV (Rn.ext B.aE) (aH ?_));intro uj;refine⟨vb ?_,(by first|exact B.aE|exact B.drop.aE)⟩;rw[uR I O];rw[fU cW,fU cW];rw[gq (show t.buf.length=0 by omega),gD (show ¬ E.kind≠9 by omega),Bool.true_and,U2,oi,JX];rfl
 intro uj;refine⟨vb ?_,(by first|exact B.aE|exact B.drop.aE)⟩;rw[uR I O];rw[fU cW,fU cW];rw[gD cW,Bool.false_and]
def C32(K:jj)(p:Nat)(m:gQ)(w:World)(hm:Has (eZ K p m) w)(hw:K w)(om:∀w',Ext w w'->K w')(W:nL m):CR 32 [(.pointer (some ⟨p,0,none⟩))] w (λv w'=>mr (fW v (cT m)) w w'):=by
 obtain⟨a,E⟩:=eZ.rd hm;have Rp:=E.b.cell (o:=8) rfl;have zm:=E.b.cell (o:=11) rfl;have Rq:=E.b.cell (o:=1) rfl;have WU:=E.b.cell (o:=3) rfl;have OO:=E.b.cell (o:=9) rfl;have yq:=E.b.cell (o:=10) rfl;have wz:=E.b.cell (o:=12) rfl;have vZ:=E.b.cell (o:=13) rfl;have sT:=E.b.cell (o:=14) rfl;have zR:=E.b.cell (o:=15) rfl;have B:=St.start w;refine amW _ _ _ ?_;unfold S32;refine oB (α:=dY) B mq (λabJ w1 B=>?_);refine⟨λU o x w1=>∃k:Nat,x=jK (k:Int)/\U=a.ps.length-k/\k<=a.ps.length/\(m.fault=0\/k=0)/\St w aY [fW o (kf m k)] w1,⟨_,0,rfl,rfl,o6 _,.inr rfl,B⟩,?_⟩
 rintro U iW _ w2 ⟨k,rfl,rfl,hk,M,B⟩ _;refine⟨_,?_,λ_ _ h=>h⟩;refine aD (aA mK (aU zO (vZ.ext B.aE) (aI CB (E.ll.ext B.aE) (aK (aC (λkn=>?_) λkn=>?_)))))
 .refine aD (aA yM (aU aV (sT.ext B.aE) (aH ?_)));intro se;refine aC (λiM=>?_) (λiM=>?_)
  .have hf0:m.fault=0:=iM;obtain⟨t,ht⟩:∃t,m.l[k]?=some t:=⟨_,nT (by have:=E.len;omega)⟩;have wQ:=ld ht;have zV:=(W.th t wQ).bl;have uf:=tU W k;have GG:=FK t.buf;have Da:=E.len;have Pr:=W.tl;refine⟨λo w'=>St w aY [fW o (kf m k++(if zi m t=true then [(⟨1,(k:Int),0,[]⟩:dY)]else []))] w',?_,?_⟩
   .refine aD (aA mK (aU zO (vZ.ext B.aE) ?_));obtain⟨rG,gV⟩:=gx a.ps (i:=(k:Int).toNat) cW;refine aQ CB E.ll cW gV (λ_ kM=>aF Ad (kM.ext B.aE) (aZ aB8 B (C83 K p m rG.b t _ (hm.ext B.aE) (om _ B.aE) (λ_ e=>om _ (Ext.trans B.aE e)) W ((E.th k _ _ gV ht).ext B.aE) wQ) λ_ he B=>aW (λj5=>?_) λj5=>?_))
    .refine pop (E9 _ _) (have B:=B.iK (Φ:=(λw=>py w (⟨1,(k:Int),0,bL⟩:dN) (⟨1,(k:Int),0,[]⟩:dY))) (λ_=>⟨_,rfl,DL.nil _⟩);fG (s:=(⟨1,(k:Int),0,bL⟩:dN)) (x:=(⟨1,(k:Int),0,[]⟩:dY)) B mq dO λabK _ B=>have B:=B.p1;eB B mq (by simp;omega) dO λav3 _ B=>?_);rw[j5,fV rfl];exact B
    rw[j5,fU dO,List.append_nil];exact B
   intro mn _ B _;refine aD (aA mK (aU zO (vZ.ext B.aE) ?_));obtain⟨e_x43,O⟩:=gx a.ps (i:=(k:Int).toNat) cW;refine aQ CB E.ll cW O (λ_ wN=>aF Ad (wN.ext B.aE) ?_);obtain⟨bp,gl,rg,cn,⟨ts0,B4⟩,kS,hB,AM,Rl⟩:=gn.rd (E.th k _ _ O ht);have hB0:=hB;obtain⟨bsv,Bj,uQ,hBL⟩:=hB;have hR0:=(B4 w hw).1;have hD0:=(B4 w hw).2;have hn0:=hD0.1;have apW:True:=trivial;have ct2:=kS.cell (o:=2) rfl;have ct3:=kS.cell (o:=3) rfl;have Mh:=kS.cell (o:=6) rfl;have ct7:=kS.cell (o:=7) rfl;refine aD (aA l9 (aU vn (Mh.ext B.aE) (dF aB9 B (C84 bp _ _ _ (hB0.ext B.aE) cW) λx48 _ cJ B=>?_)))
   have B:=B.p1.p1;refine⟨λU o x w1=>∃j:Nat,x=jK (j:Int)/\U=(vR t.buf).length-j/\j<=(vR t.buf).length/\St w aY [bE x48 (vR t.buf),fW o ((kf m k++(if zi m t=true then [(⟨1,(k:Int),0,[]⟩:dY)]else []))++((vR t.buf).take j).map λi=>(⟨2,(k:Int),i,[]⟩:dY))] w1,⟨_,0,rfl,rfl,o6 _,by simpa using B⟩,?_⟩;rintro U Cu _ _ ⟨j,rfl,rfl,hj,B⟩ _;refine aI cE B.fu (aK (aC (λvF=>?_) λvF=>?_))
   .obtain⟨V,J⟩:=gx (vR t.buf) (i:=(j:Int).toNat) cW;refine cH B cE cW cW (λ_ ad0=>eK B aV ad0 J (pop (F6 _ _ _) (have B:=B.iK (Φ:=(λw=>py w (⟨2,(k:Int),V,bL⟩:dN) (⟨2,(k:Int),V,[]⟩:dY))) (λ_=>⟨_,rfl,DL.nil _⟩);fG (s:=(⟨2,(k:Int),V,bL⟩:dN)) (x:=(⟨2,(k:Int),V,[]⟩:dY)) B mq dO λs_x62 _ B=>have B:=B.p2;eB B mq (by simp only[n0,qE,oj,n6];split<;>simp<;>omega) dO λayZ _ B=>aN cW ?_)))
    have B:=B.p1;refine⟨_,cW,j+1,rfl,rfl,cW,?_⟩;rw[qF,jb (k:=j) J]at B;exact B
   refine aN cW ?_;have B:=B.drop;refine⟨_,cW,k+1,rfl,rfl,cW,.inl hf0,?_⟩;rw[zj ht];unfold sS;rw[mE cW,qF]at B;exact B
  have YJ:cT m=kf m k:=by
   have I:¬ m.fault=0:=iM;unfold cT;rw[fV I,M.resolve_left I];rfl
  rw[YJ];exact B.fresh
 intro se;refine fM ?_
 have YJ:cT m=kf m k:=by
  unfold cT
  by_cases I:m.fault=0
  .rw[fU cW,<- E.len,show a.ps.length=k from cW]
  .rw[fV I,M.resolve_left I];rfl
 rw[YJ];exact B.fresh
theorem aeE{t:fR}(B:0<=t.at_)(h:t.at_<t.code.l.length):uA t=false:=by
 unfold uA
 rw[Kj h (nT cW)]
 rfl
theorem Sc{t:fR}(h:(t.code.l.length:Int)<=t.at_):uA t=decide (t.buf.length=0):=by
 unfold uA
 rw[Kk h]
 rfl
def yA(m:gQ)(k:Nat):Bool:=(rv k).any λi=>match m.l[i]? with|some t=>!uA t|none=>false
section
variable {m:gQ}{k:Nat}{t:fR}
theorem Kl(ht:m.l[k]?=some t):yA m (k+1)=(yA m k||!uA t):=by
 unfold yA
 rw[D3,ab3]
 simp[ht]
theorem aHi:(decide (m.fault=0)&&!yA m 0)=decide (m.fault=0):=by simp[yA]
theorem amr(ht:m.l[k]?=some t)(hd:uA t=false):(decide (m.fault=0)&&!yA m (k+1))=false:=by rw[Kl ht,hd];simp
theorem ay0(ht:m.l[k]?=some t)(hd:uA t=true):(decide (m.fault=0)&&!yA m (k+1))=(decide (m.fault=0)&&!yA m k):=by rw[Kl ht,hd];simp
end
def C78(K:jj)(p:Nat)(m:gQ)(w:World)(hm:Has (eZ K p m) w)(hw:K w)(om:∀w',Ext w w'->K w')(iS:nL m):CR 78 [(.pointer (some ⟨p,0,none⟩))] w (λv w'=>v=j6 (ny m)/\Ext w w'):=by
 obtain⟨a,E⟩:=eZ.rd hm;have Rp:=E.b.cell (o:=8) rfl;have zm:=E.b.cell (o:=11) rfl;have Rq:=E.b.cell (o:=1) rfl;have WU:=E.b.cell (o:=3) rfl;have OO:=E.b.cell (o:=9) rfl;have yq:=E.b.cell (o:=10) rfl;have wz:=E.b.cell (o:=12) rfl;have O:=E.b.cell (o:=13) rfl;have I:=E.b.cell (o:=14) rfl;have zR:=E.b.cell (o:=15) rfl;have B:=St.start w;refine ani _ _ _ ?_;unfold S78;refine aR B E7 (λmV w1 B=>aD (aA Dv (have B:=B.drew;aU aV (yq.ext B.aE) (aD (aA yM (aU aV (I.ext B.aE) (aD (aA VQ (aU aV (zR.ext B.aE) (aD (aA yM (aU aV (I.ext B.aE) ?_))))))))))))
 refine aH (pop (KO _ _ _ _) (aR B E7 λJ w2 B=>?_));refine⟨aG aV (yq.ext B.aE),?_⟩;refine⟨aG aV (I.ext B.aE),?_⟩;refine⟨aG aV (zR.ext B.aE),?_⟩;refine⟨aG aV (I.ext B.aE),?_⟩;refine aO (x:=(⟨m.cS,m.fault,m.iP,(decide (m.fault=0)),false⟩:gk)) B GD rfl rfl (λ_ B=>?_);have B:=B.p1.p1;refine⟨λmm x w1=>∃k:Nat,x=jK (k:Int)/\mm=a.ps.length-k/\k<=a.ps.length/\St w aY [cI J (kp (⟨m.cS,m.fault,m.iP,decide (m.fault=0)&&!yA m k,false⟩:gk)),cI mV (kp (⟨0,0,0,false,false⟩:gk))] w1,⟨_,0,rfl,rfl,o6 _,by rw[aHi];exact B⟩,?_⟩
 rintro mm _ _ ⟨k,rfl,rfl,hk,B⟩ _;refine aD (aA mK (aU zO (O.ext B.aE) (aI CB (E.ll.ext B.aE) (aK (aC (λL3=>?_) λL3=>?_)))))
 .obtain⟨t,ht⟩:∃t,m.l[k]?=some t:=⟨_,nT (by have:=E.len;omega)⟩;have wQ:=ld ht;have mL:=iS.th t wQ;have zV:=mL.bl;have vG:=mL.Sv;have Pr:=iS.tl;have Da:=E.len;refine⟨_,?_,λ_ h=>h⟩;refine⟨_,?_,λ_ _ h=>h⟩;refine aD (aA mK (have B:=B.drew;aU zO (O.ext B.aE) ?_));obtain⟨ay2,V⟩:=gx a.ps (i:=(k:Int).toNat) cW;refine aQ CB E.ll cW V (λ_ rD=>aF Ad (rD.ext B.aE) (aD ?_));obtain⟨bp,gl,rg,cn,⟨ts0,B4⟩,U,hB,AM,Rl⟩:=gn.rd (E.th k _ _ V ht);have hB0:=hB;obtain⟨bsv,Bj,uQ,hBL⟩:=hB
  have W:=(B4 w hw).1;have hD0:=(B4 w hw).2;have hn0:=hD0.1;have apW:True:=trivial;have ct2:=U.cell (o:=2) rfl;have ct3:=U.cell (o:=3) rfl;have Mh:=U.cell (o:=6) rfl;have ct7:=U.cell (o:=7) rfl;refine aA jP (aU aV (ct3.ext B.aE) (aD (aA mK (aU zO (O.ext B.aE) (aQ CB E.ll cW V λ_ AB=>aF Ad (AB.ext B.aE) (aD (aA xM (aA iR (aU l7 (ct2.ext B.aE) (aI jN (W.ext B.aE) (aK (aC (λtO=>?_) λtO=>?_))))))))))))
  .intro se;refine jt (aA Bn (aS B OJ (dV rfl) (rfl) λw6 B=>?_));have B:=B.enc (cs':=kp ({ (⟨m.cS,m.fault,m.iP,decide (m.fault=0)&&!yA m k,false⟩:gk)with done:=false}:gk)) rfl;intro uj;refine aN cW ?_;have B:=B.p1.p1;refine⟨_,cW,k+1,rfl,rfl,cW,?_⟩;rw[amr ht (aeE vG cW)];exact B
  refine aD (aA mK (aU zO (O.ext B.aE) (aQ CB E.ll cW V λ_ AK=>aF Ad (AK.ext B.aE) (aD (aA l9 (aU vn (Mh.ext B.aE) (aD (aA im (aU mO (uQ.ext B.aE) (aI jO (hBL.ext B.aE) (cG ?_)))))))))));intro se;refine aC (λrJ=>?_) (λrJ=>?_)
  .refine aA Bn (aS B OJ (dV rfl) (rfl) λw6 B=>?_);have B:=B.enc (cs':=kp ({ (⟨m.cS,m.fault,m.iP,decide (m.fault=0)&&!yA m k,false⟩:gk)with done:=false}:gk)) rfl;intro uj;refine aN cW ?_;have B:=B.p1.p1;refine⟨_,cW,k+1,rfl,rfl,cW,?_⟩;rw[amr ht ((Sc cW).trans (gD cW))];exact B
  intro uj;refine aN cW ?_;have B:=B.p1.p1;refine⟨_,cW,k+1,rfl,rfl,cW,?_⟩;rw[ay0 ht ((Sc cW).trans (gq cW))];exact B
 have hdm:qf m=(decide (m.fault=0)&&!yA m k):=by
  unfold qf yA;rw[show k=m.l.length from by have:=E.len;omega]
  rfl
 rw[<- hdm]at B;refine⟨λw'=>St w aY [cI J (kp (ny m)),cI mV (kp (⟨0,0,0,false,false⟩:gk))] w',aD (aA yM (aU aV (I.ext B.aE) (aH (aC (λCj=>aA Bn (aB (v:=.bool ((⟨m.cS,m.fault,m.iP,qf m,false⟩:gk).done)) OJ B.hb rfl (bV (aW (λJw=>?_) λJw=>?_)))) λCj=>?_)))),?_⟩
 .refine dF aaj B (C32 K p m _ (hm.ext B.aE) (om _ B.aE) (λ_ e=>om _ (Ext.trans B.aE e)) iS) (λx85 _ cJ B=>?_);obtain⟨aHj,are,arf,_⟩:=B.dl;refine aI mq are ?_;rw[arf];refine aH (aA Bo (aS B.p1 OJ (dV rfl) (rfl) λ_ B=>?_));have B:=B.enc (cs':=kp ({ (⟨m.cS,m.fault,m.iP,qf m,false⟩:gk)with stuck:=(decide (((cT m).length:Int)=0))}:gk)) rfl;have B:=B.p1.drop.p1.p1;have M:sW m=(decide (((cT m).length:Int)=0)):=by unfold sW;rw[gq Cj,show qf m=false from by simpa using Jw];rfl
  unfold ny;rw[M];exact B
 .refine aA Bo (aS B OJ (dV rfl) (rfl) λ_ B=>?_);have B:=B.enc (cs':=kp ({ (⟨m.cS,m.fault,m.iP,qf m,false⟩:gk)with stuck:=false}:gk)) rfl;have B:=B.p1.p1;have M:sW m=false:=by unfold sW;rw[show qf m=true from by simpa using Jw];simp
  unfold ny;rw[M];exact B
 .refine aA Bo (aS B OJ (dV rfl) (rfl) λ_ B=>?_);have B:=B.enc (cs':=kp ({ (⟨m.cS,m.fault,m.iP,qf m,false⟩:gk)with stuck:=false}:gk)) rfl;have B:=B.p1.p1;have M:sW m=false:=by unfold sW;rw[gD Cj];rfl
  unfold ny;rw[M];exact B
 intro _ B _;exact aF GD B.At (aO (x:=(ny m)) B.p1 GD rfl rfl λ_ B=>aF GD B.At (have B:=B.drop.drop;⟨rfl,B.aE⟩))
def C79(K:jj)(p:Nat)(m:gQ)(w:World)(hm:Has (eZ K p m) w)(hw:K w)(om:∀w',Ext w w'->K w')(iS:nL m)(GG:m.u.cD.length<=1000)(V:∀l∈m.u.cD,l.length<=1000)(gj:0<=m.u.stays/\m.u.stays<=m.mem.l.length)(Ld:yD m.mem.l):CR 79 [(.pointer (some ⟨p,0,none⟩))] w (λv w'=>mr (bE v (wT m)) w w'):=by
 obtain⟨a,E⟩:=eZ.rd hm;have Rp:=E.b.cell (o:=8) rfl;have zm:=E.b.cell (o:=11) rfl;have Rq:=E.b.cell (o:=1) rfl;have WU:=E.b.cell (o:=3) rfl;have OO:=E.b.cell (o:=9) rfl;have yq:=E.b.cell (o:=10) rfl;have wz:=E.b.cell (o:=12) rfl;have vZ:=E.b.cell (o:=13) rfl;have sT:=E.b.cell (o:=14) rfl;have zR:=E.b.cell (o:=15) rfl;have ap2:=E.rk.cl _ hw;obtain⟨ov,fv,lv,kv,wv,ws,kT,ni,hmo,Sy,O,U7,hmw⟩:=E.mem.ex;have hq2:=ni.cell (o:=2) rfl;have B:=St.start w;refine anj _ _ _ ?_;unfold S79;refine bJ ([]:List Bool) B vl rfl rfl (dV rfl) (λabJ w1 B=>?_);refine⟨λmm o x w1=>∃k:Nat,x=jK (k:Int)/\mm=m.u.cD.length-k/\k<=m.u.cD.length/\St w aY [bE o ((m.u.cD.take k).map (sX m))] w1,⟨_,0,rfl,rfl,o6 _,B⟩,?_⟩
 rintro mm iW _ _ ⟨k,rfl,rfl,hk,B⟩ _;refine aD (aA Bp (aA te (aU KM (Rp.ext B.aE) ?_)));obtain⟨ay3,M,J⟩:=ap2.open;have hn141:=J.1;refine aI Ds (M.ext B.aE) (aK (aC (λj4=>⟨λo w'=>St w aY [bE o ((m.u.cD.take (k+1)).map (sX m))] w',?_,?_⟩) λj4=>?_))
 .refine aD (aA Bp (aA te (have B:=B.drew;aU KM (Rp.ext B.aE) ?_)));obtain⟨Gi,qy⟩:=gx ay3 (i:=(k:Int).toNat) cW;obtain⟨I,U⟩:=gx m.u.cD (i:=(k:Int).toNat) cW;have ay4:DL w (j6 Gi) I:=J.2 _ _ _ qy U;refine aQ Ds M cW qy (λ_ vJ=>aF nP (vJ.ext B.aE) ?_);have ay5:=DL.flat ay4;refine aD (aA qi (aU Dt (zm.ext B.aE) (aD (aA tD (aU cZ (hq2.ext B.aE) (aD (aA Bp (aA kU (aU aV (Rq.ext B.aE) (lI cE (O.ext B.aE) cW cW λWz ari=>?_))))))))))
  have W:=ari _ O;refine aZ aki B (C142 _ _ I (m.mem.l.take m.u.stays.toNat) _ (ay5.ext B.aE) (W.ext B.aE) (by have:=V _ (ld U);omega) (Ld.take _)) (λ_ he B=>bD rfl (bD rfl (aH (aC (λgO=>?_) λgO=>?_))))
  .refine bQ (bJ ([decide ((runM I (m.mem.l.take m.u.stays.toNat)).1≠0)]) B vl rfl rfl (dV rfl) λWp _ B=>?_);have Fm:=B.fu;refine bW B.p1 vl Fm (by simp;omega) dO (λay6 _ B=>?_);have B:=B.p1.drop;rw[<- jb (k:=k) U];have GH:sX m I=decide ((runM I (m.mem.l.take m.u.stays.toNat)).1≠0):=by unfold sX;rw[gq gO];rfl
   rw[GH];exact B
  refine bJ ([false]) B vl rfl rfl (dV rfl) (λaiQ _ B=>?_);have aeF:=B.fu;refine bW B.p1 vl aeF (by simp;omega) dO (λaA3 _ B=>?_);have B:=B.p1.drop;rw[<- jb (k:=k) U];have GH:sX m I=false:=by unfold sX;rw[gD gO];rfl
  rw[GH];exact B
 .intro mn _ B _;exact aN cW ⟨_,cW,k+1,rfl,rfl,cW,B⟩
 rw[mE cW]at B;exact B.fresh
def Sd{α β:Type}[Flat α][Flat β]{P:Program}{S:Nat->Prop}{Wd:jj}{w0:World}{T f B:Nat}{p:Value}{x:α}(y:β){K:Value->Prop}(ht:Cv P T f B)(h:∀w,Wd w->At S w p x)(E:Wd w0)(U:(kp x)[B]?=some (j6 y))(I:Flat.agg β=false)
  (k:∀q,(∀w,Wd w->At S w q y)->K q):eM P (Instr.fieldAt T p f) K:=by
 obtain⟨b,o,rfl,h2,_⟩:=h w0 E
 refine aA ht (k _ λw E=>?_)
 obtain⟨V,O,M,_,h3⟩:=h w E
 cases M
 refine⟨b,o+B,rfl,h2,λj c J=>?_⟩
 rw[Flat.qp I]at J
 grind
theorem ajC{l:List Int}{k:Nat}{e:Int}(B:0<k)(h:l[((k:Int)-1).toNat]?=some e):kQ l k=e+1:=by
 unfold kQ
 rw[fU cW,oi,show k-1=((k:Int)-1).toNat from cW,h];rfl
def aeG{of B:List Int}{st:Int}:sw [] (N7 of st B):=⟨λ_=>rfl,λx h=>by cases h⟩
def Se(c:gp):yD (oR c).aJ:=λv B=>by
 rw[List.eq_of_mem_replicate (show v∈qU c.aJ.toNat (0:Int)from B)];exact mg
structure UG(G:jj)(sh:dH)(u:iz)(yr:List bY):Prop where
 ln:∀w,G w->eN (λ_=>True) w (j6 sh.lines) u.lines
 cl:∀w,G w->DL w (j6 sh.cD) u.cD
 rc:vY G (j6 sh.recover.l) u.recover.l
 th:∀w,G w->eN (λ_=>True) w (j6 sh.threads) yr
 cv:aiP G yr u.threads
def ay7{F:Nat->Prop}{w:World}{sh:dH}{u:iz}(hd:∀w',Dc F w w'->py w' sh u):∃M,UG (Dc F w) sh u M:=by
 have hth:∀w',Dc F w w'->DL w' (j6 sh.threads) u.threads:=λw' h=>by obtain⟨_,_,_,_,_,e,I,O,J,E,B⟩:=hd w' h;rw[e];exact J
 obtain⟨M,W,V⟩:=Dc.fix J1 hth
 refine⟨M,λw' h=>?_,λw' h=>?_,Ev λw' h=>?_,λw' h=>(V w' h).1,W,λj cv c h1 h2=>?_⟩
 .obtain⟨_,_,_,_,_,e,I,O,J,E,B⟩:=hd w' h;rw[e];exact DL.flat I
 .obtain⟨_,_,_,_,_,e,I,O,J,E,B⟩:=hd w' h;rw[e];exact B
 .obtain⟨_,_,_,_,_,e,I,O,J,E,B⟩:=hd w' h;rw[e]
  obtain⟨g,e2,q6⟩:=E;rw[e2];exact q6
 have U:∀w',Dc F w w'->py w' cv c:=λw' h=>(V w' h).2.2 j cv c h1 h2
 obtain⟨gl,e,_⟩:=U w (Dc.refl F w)
 subst e
 exact⟨gl,rfl,Ev λw' h=>by obtain⟨gl',e,h6⟩:=U w' h;cases e;exact h6⟩
def Zs{w w0:World}{A:Nat->Prop}{L:List HP}{p q:Nat}{u:iz}{room:Int}{sh:dH}{J:List bY}{G:jj}(B:UG G sh u J)
  (E:St w0 A (cI p (pD ⟨sh.lines,sh.cO,sh.threads,sh.recover.l,sh.cD,q,.slice none 0 0,.slice none 0 0,.slice none 0 0,.slice none 0 0,[]⟩ (jh u room))::gJ q (N7 u.lines u.stays u.cO)::L) w):St w0 A (eZ G p (jh u room)::L) w:=by
 have h6:St w0 A (iU (qX G room) [] []::_) w:=E.new (Ext.refl w) (F:=aY) (λ_ h=>h) λ_ h=>h.elim
 have I:=((h6.gA (α:=Ptr)).gA (α:=Int))
 exact eZ.shut (a:=⟨sh.lines,sh.cO,sh.threads,sh.recover.l,sh.cD,q,.slice none 0 0,.slice none 0 0,.slice none 0 0,.slice none 0 0,[]⟩) (m:=jh u room) ⟨B.ln,B.cl,B.rc⟩ I.p4.p4
def C76(of O:List Int)(st:Int)(ov fv:Value)(w:World)(E:eN (λ_=>True) w ov of)(M:eN (λ_=>True) w fv O)(hle:of.length=O.length)(Q6:of.length<=20)(gj:0<=st/\st<=of.length)(KA:∀(k:Nat) (n:Int),(k:Int)<st->of[k]?=some n->(n=kQ of k\/(0<k/\n=kQ of k-1))/\-10<=n/\n<=100):CR 76 [ov,jK st,fv] w (λv w'=>∃b,v=.tuple #[.pointer (some ⟨b,0,none⟩),jK 0]/\mr (gJ b (N7 of st O)) w w'):=by
 have B:=St.start w;refine ang _ _ _ _ _ ?_;unfold S76;refine⟨_,?_,λ_ _ h=>h⟩;refine aI cE (E.ext B.aE) (aI cE (M.ext B.aE) (bQ (fI (gD cW) (aI cE (E.ext B.aE) (cG (fI (gD cW) (aK (fI (gD cW) (aI cE (E.ext B.aE) (cG ?_))))))))));intro _;refine fI (gD cW) ?_;refine⟨λmm x w1=>∃k:Nat,x=jK (k:Int)/\mm=st.toNat-k/\(k:Int)<=st/\St w aY [] w1,⟨_,0,rfl,rfl,cW,B⟩,?_⟩;rintro mm _ _ ⟨k,rfl,rfl,hk,B⟩ _;refine aK (aC (λj5=>⟨_,aH (aC (λnh=>?_) λnh=>?_),λ_ _ h=>h⟩) λj5=>?_)
 .obtain⟨so,qA⟩:=gx of (i:=(0:Int).toNat) cW;refine aQ cE E cW qA (λ_ tL=>have B:=B.drew;aF aV (tL.ext B.aE) ?_);have J:=KA 0 so cW (by simpa using qA);have hw1:kQ of 0=0:=rfl;refine bQ (fI (gD cW) (cG (fI (gD cW) ?_)));intro uj;exact fM (aN cW ⟨_,cW,k+1,rfl,rfl,cW,B⟩)
 .refine cG (il (gq cW) ?_);obtain⟨ajD,W⟩:=gx of (i:=(k:Int).toNat) cW;refine aQ cE E cW W (λ_ ajE=>have B:=B.drew;aF aV (ajE.ext B.aE) (eW cW ?_));obtain⟨aA4,Kn⟩:=gx of (i:=((k:Int)-1).toNat) cW;refine aQ cE E cW Kn (λ_ U=>aF aV (U.ext B.aE) ?_);have J:=KA k ajD cW (by simpa using W);rw[ajC cW Kn]at J;refine bQ (aC (λajG=>?_) λajG=>?_)
  .refine aQ cE E cW W (λ_ ajH=>aF aV (ajH.ext B.aE) (eW cW (aQ cE E cW Kn λ_ ajI=>aF aV (ajI.ext B.aE) (aN cW (bQ ?_)))));intro uj;exact fI (gD cW) (aN cW ⟨_,cW,k+1,rfl,rfl,cW,B⟩)
  intro uj;exact fM (aN cW ⟨_,cW,k+1,rfl,rfl,cW,B⟩)
 refine bJ ([]:List Int) B cE rfl rfl (dV rfl) (λV _ B=>lI cE (E.ext B.aE) cW cW λWs ark=>?_);have arl:=ark _ E;have Jt:=(arl.ext B.aE);refine bW B cE Jt (by simp;omega) dO (λamv _ B=>bJ ([]:List Int) B cE rfl rfl (dV rfl) λs_x77 _ B=>?_);have TP:=(M.ext B.aE);refine bW B cE TP (by simp;omega) dO (λawm _ B=>?_);obtain⟨U8,rfl⟩:=B.p1.gE;obtain⟨Fy,rfl⟩:=B.gE;refine pop (SX _ _ _ _ _ _) (cU (x:=(⟨U8,Fy,bL,bL,bL⟩:V1)) B λb_x81 _ B=>bJ ([]:List Int) B cE rfl rfl (dV rfl) λalp _ B=>?_)
 have Fu:=(M.ext B.aE);refine bW B cE Fu (by simp;omega) dO (λs_x85 _ B=>aD (aA tD ?_));obtain⟨I,rfl⟩:=B.gE;refine aS B.p1 cZ (dV rfl) (rfl) (λ_ B=>have B:=B.enc (cs':=kp (⟨U8,Fy,I,bL,bL⟩:V1)) rfl;bJ ([]:List Int) B cE rfl rfl (dV rfl) λs_x89 _ B=>lI cE (M.ext B.aE) cW cW λawe TL=>?_);have arn:=TL _ M;have aro:=(arn.ext B.aE);refine bW B cE aro (by simp;omega) dO (λawf _ B=>aD (aA Ac ?_));obtain⟨NO,rfl⟩:=B.gE;refine aS B.p1 cZ (dV rfl) (rfl) (λ_ B=>?_)
 have B:=(((B.enc (cs':=kp (⟨U8,Fy,I,NO,bL⟩:V1)) rfl).p1).p2).p3;have B:=B.p4.p4;simp only[C5]at B;have B:=(B.gA (α:=o7)).p5.p5.p5.p5.p5;exact⟨_,rfl,(gJ.shut (m:=N7 of st O) aeG B).fresh⟩
def C77(K:jj)(p:Nat)(m:gQ)(N:Nat)(M:List gp)(mv:List fR)(lv:Value)(U:List bY)(F:Nat->Prop)(w:World)(hF:(eZ K p m).p w F)(hK:∀w',js F w w'->K w')(hrm:1<=m.room/\m.room<=16)(Ln:0<=m.u.locks/\m.u.locks<=1000)(hl:∀w',js F w w'->eN (λ_=>True) w' lv U)(GH:aiP K U M)(apX:∀c∈M,AW c)(hb:sU N M mv)(hn:M.length<=1000):CR 77 [(.pointer (some ⟨p,0,none⟩)),lv] w (λv w'=>v=.tuple #[]/\pk F (eZ K p (j3 m mv)) w w'):=by
 have B:=St.begin hF;obtain⟨a,hu,B⟩:=eZ.open B;have lu:=B.p4.jy;have aF6:=GH.1;refine anh _ _ _ _ ?_;unfold S77;refine aD (aA mK (aS B zO (dV rfl) (rfl) λ_ B=>aD (aA yL (aS B cZ (dV rfl) (rfl) λ_ B=>?_))));have B:=(((B.p3.drop.p3.drop.p2.drop.gA (α:=Int)).p2).p1).p2;refine⟨λV x w'=>∃(k:Nat) (ES:Value),x=jK (k:Int)/\V=m.u.locks.toNat-k/\k<=m.u.locks.toNat/\St w F [cI p (pD {a with lk:=ES,ll:=.slice none 0 0} m),bE ES (qU k (-1:Int)),gJ a.q m.mem] w',⟨_,0,_,rfl,rfl,o6 _,B⟩,?_⟩;rintro V _ _ ⟨k,ES,rfl,rfl,Z5,B⟩ _
 refine aD (aA Bp (aA uF (aB aV B.hb rfl (aK (aC (λiM=>?_) λiM=>?_)))))
 .refine aD (aA yL (aB cZ B.hb rfl (bJ ([-1]:List Int) B cE rfl rfl (dV rfl) λalj _ B=>?_)));have xm:=B.fu;exact bW B.p2 cE xm (by rw[List.length_replicate,n6];omega) dO (λWX _ B=>have B:=B.p1.drop;aD (aA yL (aS B.p1 cZ (dV rfl) B.fu.one λ_ B=>aN cW (have B:=B.p2.p2.p2;⟨_,cW,k+1,WX,rfl,rfl,cW,by rw[List.replicate_succ'];exact B⟩))))
 have B:=B.p1;rw[show k=m.u.locks.toNat from cW]at B;have B:=((((((B.Ir (H:=qX K m.room)).gA (α:=Ptr)).p4).p3).p3).p3).p4;refine⟨λV x w'=>∃(j:Nat) (I:Value) (ps:List Ptr),x=jK (j:Int)/\V=U.length-j/\j<=U.length/\St w F [cI p (pD {a with lk:=ES,ll:=I} m),bE I ps,iU (qX K m.room) ps (mv.take j),bE ES (qU m.u.locks.toNat (-1:Int)),gJ a.q m.mem] w',⟨_,0,_,_,rfl,rfl,o6 _,B⟩,?_⟩;rintro V _ _ ⟨j,I,ps,rfl,rfl,hj1,B⟩ _;refine aI wq (hl _ B.aE) (aK (aC (λnh=>?_) λnh=>?_))
 .obtain⟨c,hc⟩:∃c,M[j]?=some c:=⟨_,nT (by have:=GH.1;omega)⟩;obtain⟨t1,J⟩:∃t,mv[j]?=some t:=⟨_,nT (by have:=GH.1;have:=hb.1;omega)⟩;have hg:=hb.2 j c t1 hc J;obtain⟨Gg,rL⟩:=gx U (i:=(j:Int).toNat) cW;obtain⟨gl,E5,O⟩:=GH.2 j _ _ rL hc;subst E5;have Ua:=apX c (ld hc);have Mi:=Ua.rb;have hcb:=Ua.cb;refine⟨_,?_,λ_ h=>h⟩;refine aD (aA Du (aB aV B.hb rfl (eR as3 (C75 m.room _) ?_)));rintro v44 _ hh;obtain⟨_,_,b75,rfl,cJ⟩:=hh.resolve_left (λ_=>cW);have B:=B.made cJ;refine bD rfl (bD rfl ⟨λt8 w'=>∃E,t8=.pointer (some ⟨E,0,none⟩)/\St w F [gn K E m.room (oR c),cI p (pD {a with lk:=ES,ll:=I} m),bE I ps,iU (qX K m.room) ps (mv.take j),bE ES (qU m.u.locks.toNat (-1:Int)),gJ a.q m.mem] w',A9 (Wd:=λw'=>js F w w') wq hl B.aE cW rL (λ_ W=>have B:=B.drew;aF og (W _ B.aE) (A9 (Wd:=λw'=>js F w w') wq hl B.aE cW rL λ_ Qr=>Sd c.aJ nq Qr B.aE rfl rfl λ_ xX=>aF aV (xX _ B.aE) (A9 (Wd:=λw'=>js F w w') wq hl B.aE cW rL λ_ QA=>Sd c.counts wE QA B.aE rfl rfl λ_ AK=>aF aV (AK _ B.aE) ⟨?_,⟨?_,?_⟩⟩))),?_⟩)
  .refine pI (0:Int) B cE xH cW cW dO (λalk _ B=>?_);refine⟨eG og (W _ B.aE),?_⟩;refine⟨eG aV (AK _ B.aE),?_⟩;refine pI (0:Int) B cE xH cW cW dO (λayZ _ B=>?_);refine⟨eG og (W _ B.aE),?_⟩;refine⟨eG aV (xX _ B.aE),?_⟩;obtain⟨TA,rfl⟩:=B.p1.gE;obtain⟨apQ,rfl⟩:=B.gE;exact pop (Al _ _ _ _ _ _ _ _ _ _ _ _) (lC B λ_ _ B=>have B:=B.p8.p8.p8.p8.p8.p6.p7.p8.p8;⟨_,rfl,gn.shut (t:=oR c) O B⟩)
  .refine pI (0:Int) B cE xH cW cW dO (λaA5 _ B=>?_);refine⟨eG og (W _ B.aE),?_⟩;refine⟨eG aV (xX _ B.aE),?_⟩;refine pI (0:Int) B cE xH cW cW dO (λaA6 _ B=>?_);refine⟨eG og (W _ B.aE),?_⟩;refine⟨eG aV (AK _ B.aE),?_⟩;obtain⟨ay8,rfl⟩:=B.gE;obtain⟨ay9,rfl⟩:=B.p1.gE;exact pop (Al _ _ _ _ _ _ _ _ _ _ _ _) (lC B λ_ _ B=>have B:=B.p8.p8.p8.p8.p8.p7.p7.p8.p8;⟨_,rfl,gn.shut (t:=oR c) O B⟩)
  .trivial
  rintro _ _ ⟨E,rfl,B⟩ _;refine bI akh B (H':=λ_=>gn K E m.room t1) (Φ:=λ_ _=>True) (λF2 fz eO=>?_) ?_
  .exact(C141 K E m.room (oR c) t1 N F2 _ fz (λw' hc=>hK w' (eO w' hc).aE) (Hh Ua) (Se c) hg).mono λ_ _ r=>r.mono λ_ _ h=>⟨trivial,h.2⟩
  rintro _ _ _ B;refine aD (aA mK ?_);have uf:=B.p3.jy;refine aB zO B.p1.hb rfl (bJ ([(⟨E⟩:Ptr)]) B CB rfl rfl (dV rfl) λab6 _ B=>?_);have UM:=B.fu;refine bW B.p3 CB UM (by rw[oj]at uf;simp;omega) dO (λWs _ B=>have B:=B.p1.drop;aD (aA mK (aS B.p2 zO (dV rfl) B.fu.one λ_ B=>?_)));intro _;exact aN cW (have B:=(((((St.DG (H:=qX K m.room) (p:=⟨E⟩) (x:=t1) B.p2.p3).p4).p4).p2).p4).p4;⟨_,cW,j+1,Ws,ps++[⟨E⟩],rfl,rfl,cW,by rw[<- ja (k:=j) J];exact B⟩)
 have B:=B.p2.p2.p3.p4.p4;rw[mE (by have:=hb.1;omega)]at B;exact⟨rfl,(eZ.shut (m:=j3 m mv) (a:={a with lk:=ES,ll:=I,ps:=ps}) ⟨hu.ln,hu.cl,hu.rc⟩ B).mut⟩
def C26(u:iz)(uv:dH)(room:Int)(N:Nat)(mv:List fR)(G:jj)(yr:List bY)(w:World)(hu:py w uv u)(Sf:∀w',Ext w w'->G w')(hG:UG G uv u yr)(hz:UZ u)(hn:iY u=true->Mk N u mv):CR 26 [j6 uv,jK room] w (λv w'=>(iY u=false/\v=.tuple #[.pointer none,jK 8]/\Ext w w')\/(iY u=true/\(room<1\/16<room)/\v=.tuple #[.pointer none,jK 1]/\Ext w w')\/(iY u=true/\1<=room/\room<=16/\∃p,v=.tuple #[.pointer (some ⟨p,0,none⟩),jK 0]/\mr (eZ G p (j3 (jh u room) mv)) w w')):=by
 obtain⟨fP,fx,dR,oJ,dX,rfl,gh,gC,gz,iq,iB⟩:=hu;obtain⟨cC,rfl,fZ⟩:=iq;have B:=St.start w;refine amM _ _ _ _ ?_;unfold S26;refine cU B (λaF8 _ B=>aF tW B.At (aZ aBX B (C74 u _ _ ⟨fP,fx,dR,(⟨u.recover.aJ,u.recover.counts,cC⟩:bY),dX,rfl,(gh.ext B.aE),(gC.ext B.aE),(gz.ext B.aE),⟨cC,rfl,(fZ.ext B.aE)⟩,(iB.ext B.aE)⟩ hz) λ_ he B=>bV (aW (λI=>.inl ⟨by simpa using I,rfl,B.drop.aE⟩) λI=>?_)))
 have E:=hn (by simpa using I);refine eR as3 (C75 room _) ?_;rintro O _ M
 rcases M with⟨Mi,rfl,he⟩|⟨J,Lx,b75,rfl,cJ⟩
 .have B:=B.ext he;exact bD rfl (bD rfl (bQ (il dO (.inr (.inl ⟨by simpa using I,Mi,rfl,B.drop.aE⟩)))))
 have B:=B.made cJ;refine bD rfl (bD rfl (bQ (fI dO (aA iD (aB cZ B.p1.hb rfl ?_)))));have U:=DL.flat gh;refine aA kU (aB (v:=jK u.stays) aV B.p1.hb rfl (aA td (aB cZ B.p1.hb rfl ?_)));have W:=DL.flat gC;refine eR aB3 (C76 u.lines u.cO u.stays _ _ _ (U.ext B.aE) (W.ext B.aE) E.len E.l20 E.st E.ln) ?_;rintro v29 _ ⟨q,rfl,cJ⟩;have B:=B.made cJ;refine bD rfl (bD rfl (aF tW B.p2.At (pop (PI _ _ _ _ _ _ _ _ _ _ _ _ _ _ _ _ _ _ _ _ _) (lC B λV _ B=>aA oZ (aB BW B.p3.hb rfl (have B:=Zs (room:=room) hG B.p1.p1;bI as4 B (H':=λ_=>eZ G V (j3 (jh u room) mv)) (Φ:=λ_ _=>True) (λF2 fz eO=>?_) ?_))))))
 .exact(C77 G V (jh u room) N u.threads mv _ yr F2 _ fz (λw' hc=>Sf w' (eO w' hc).aE) ⟨J,Lx⟩ E.lk (λw' hc=>hG.th w' (Sf w' (eO w' hc).aE)) hG.cv E.co E.b hz.threads).mono λ_ _ r=>r.mono λ_ _ h=>⟨trivial,h.2⟩
 rintro _ _ _ B;have B:=B.p1.drop.p1.drop;exact .inr (.inr ⟨by simpa using I,J,Lx,V,rfl,B.fresh⟩)
theorem zL.ext{w w':World}{p:Nat}{m:Mem}(h:zL w p m)(e:Ext w w'):zL w' p m:=by
 obtain⟨ov,fv,lv,kv,wv,ws,h1,h2,h3,h4,h5,h6,B⟩:=h.ex
 exact⟨ov,fv,lv,kv,wv,ws,h1,h2.of_eq (e.cI _ h2.lt λx=>x),h3.ext e,h4.ext e,h5.ext e,h6.ext e,B.ext e⟩
def Sg{w:World}{p:Nat}{m:Mem}{ov fv lv kv wv:Value}{ws:List o7}(h1:sw ws m)(h2:uE w p [ov,fv,lv,kv,wv])(h3:eN (λ_=>True) w ov m.of)(h4:eN (λ_=>True) w fv m.cO)
  (h5:eN (λ_=>True) w lv m.l) (h6:eN (λ_=>True) w kv m.kept) (B:eN (λ_=>True) w wv ws):zL w p m:=⟨ov,fv,lv,kv,wv,ws,h1,h2,h3,h4,h5,h6,B⟩
section
variable {ws:List o7}{m:Mem}{x:o7}{L:Nat}
theorem vc(E:sw ws m)(I:ux m)(B:x∈ws):0<=x.line/\x.line<ie m.of/\0<=x.cell/\x.cell<m.of.length:=by
 obtain⟨J,h1⟩:=E.2 x B
 have h2:=I.ofr _ (ld h1)
 grind
theorem MI(f:o7->Bool):∀l:List o7,l.length=(l.filter f).length+(l.filter λx=>!f x).length
 | []=>rfl
 | x::l=>by
  have B:=MI f l
  grind
theorem Sh(N:Nat):∀(L:Nat) (ws:List o7),(∀x∈ws,0<=x.line/\x.line<L)->(∀n:Int,(ws.filter λx=>decide (x.line=n)).length<=N)->ws.length<=L*N
 | 0,ws,h,_=>by
  cases ws with
  | nil=>simp
  | cons x r=>have:=h x (uc ..);omega
 | L+1,ws,h,B=>by
  have I:=Sh N L (ws.filter λx=>!decide (x.line=(L:Int))) (λx E=>by
   grind) (λn=>by
   refine x5 ?_ (B n)
   have e:∀p q:o7->Bool,(ws.filter q).filter p=(ws.filter p).filter q:=λp q=>by
    rw[TT,TT]
    grind
   grind)
  have e:=MI (λx=>decide (x.line=(L:Int))) ws
  have:=B L
  grind
theorem EN{N:Nat}(B:sw ws m)(E:ux m)(hb:MB m N):ws.length<=20*N:=by
 have h1:=Sh N (ie m.of).toNat ws (λx I=>by have:=vc B E I;omega) λn=>by
  have:=hb n
  rw[B.1,qE]at this
  exact this
 have:=E.lb
 exact x5 h1 (BO _ cW)
def C4(ws:List o7)(L:Nat):List Int:=(rv L).map fun (i:Nat)=>(((ws.filter λx=>decide (x.line=(i:Int))).length:Nat):Int)
theorem Bc:(C4 ws L).length=L:=by simp[C4]
theorem aeI(L:Nat):qU L (0:Int)=C4 [] L:=by
 unfold C4
 simp[List.map_const']
theorem Hx{i:Nat}(h:i<L):(C4 ws L)[i]?=some (((ws.filter λx=>decide (x.line=(i:Int))).length:Nat):Int):=by
 unfold C4;rw[uO,List.getElem?_range h];rfl
theorem arq{i:Nat}{e:Int}(h:(C4 ws L)[i]?=some e):0<=e/\e<=ws.length:=by
 have B:i<L:=by have:=(l0.1 h).1;rwa [Bc]at this
 rw[Hx B]at h
 grind
theorem Zt{k:Nat}{e:Int}(J:ws[k]?=some x)(M:0<=x.line)(h1:x.line<L)(I:(C4 (ws.take k) L)[x.line.toNat]?=some e) :
  (C4 (ws.take k) L).set x.line.toNat (e+1)=C4 (ws.take (k+1)) L:=by
 have ht:ws.take (k+1)=ws.take k++[x]:=by rw[xp,J];rfl
 apply wj
 intro i
 by_cases E:i<L
 .rw[Hx E,ht,ze,n0]
  by_cases B:i=x.line.toNat
  .subst B
   rw[yF (by rw[Bc];exact E)]
   rw[Hx E]at I
   have e1:([x].filter λx=>decide (x.line=((x.line.toNat:Nat):Int)))=[x]:=by
    have:((x.line.toNat:Nat):Int)=x.line:=cW
    simp[abB,this]
   have:((x.line.toNat:Nat):Int)=x.line:=cW
   simp only[this]at I |-
   simp only[qa.injEq]at I
   simp[abB,I]
  rw[JG (Ne.symm B),Hx E]
  have:¬ x.line=(i:Int):=cW
  simp[abB,this]
 rw[o3 (by rw[DI,Bc];omega),o3 (by rw[Bc];omega)]
def yB(m:Mem):List Int:=(r7 m).map fun (k:Nat)=>(k:Int)
theorem aeJ(B:sw ws m):C4 ws (ie m.of).toNat=yB m:=by
 unfold C4 yB r7 AV
 rw[TN]
 refine H3 λi _=>?_
 simp[B.1]
theorem MJ:(yB m).length=(ie m.of).toNat:=by unfold yB;rw[qE,wP]
end
section
variable {ws:List o7}{m:Mem}{x:o7}
theorem U9{cell n ln:Int}{l:List Int}(B:sw ws m)(I:0<=cell)(h1:m.of[cell.toNat]?=some ln) :
  sw (ws++[⟨ln,cell,n⟩]) {m with l:=l,gu:=rS m.gu ln (m.gu ln++[⟨cell,n⟩])}:=by
 refine⟨λk=>?_,λx E=>?_⟩
 .show rS m.gu ln (m.gu ln++[⟨cell,n⟩]) k=_
  rw[ze,yU,<- B.1]
  unfold rS
  grind
 rcases r3.1 E with h|h
 .exact B.2 x h
 grind
def qD(line:Int)(ws:List o7):List jV:=(ws.filter λx=>decide (x.line=line)).map λx=>⟨x.cell,x.n⟩
def GN(line:Int)(ws:List o7):List o7:=ws.filter λx=>!decide (x.line=line)
theorem aeK{k:Nat}{line:Int}(h:ws[k]?=some x)(B:x.line=line):qD line (ws.take (k+1))=qD line (ws.take k)++[⟨x.cell,x.n⟩]:=by
 unfold qD;rw[xp,h,K0,ze,yU];grind
theorem ajJ{k:Nat}{line:Int}(h:ws[k]?=some x)(B:¬ x.line=line):qD line (ws.take (k+1))=qD line (ws.take k):=by
 unfold qD;rw[xp,h,K0,ze,yU];grind
theorem aeL{k:Nat}{line:Int}(h:ws[k]?=some x)(B:x.line=line):GN line (ws.take (k+1))=GN line (ws.take k):=by
 unfold GN;rw[xp,h,K0,ze];grind
theorem ajK{k:Nat}{line:Int}(h:ws[k]?=some x)(B:¬ x.line=line):GN line (ws.take (k+1))=GN line (ws.take k)++[x]:=by
 unfold GN;rw[xp,h,K0,ze];grind
theorem aeM{k:Nat}{line:Int}:(GN line (ws.take k)).length<=ws.length:=x5 (List.length_filter_le ..) eS
theorem aeN{line:Int}{J:List Int}(B:sw ws m):sw (GN line ws) {m with kept:=J,gu:=rS m.gu line []}:=by
 refine⟨λk=>?_,λx E=>B.2 x (List.mem_filter.1 E).1⟩
 show rS m.gu line [] k=_
 unfold rS GN
 rw[TT]
 by_cases I:k=line
 .simp_all
 rw[fU I,B.1]
 grind
theorem MK(B:sw ws m)(line:Int):qD line ws=m.gu line:=(B.1 line).symm
end
def ars{k:List Int}{a:List jV}:(qc k a).length=k.length:=AU a k
def C80(p:Nat)(m:Mem)(w:World)(U:zL w p m)(E:ux m):CR 80 [(.pointer (some ⟨p,0,none⟩))] w (λv w'=>v=jK (ie m.of)/\Ext w w'):=by
 have CX:=U;obtain⟨ov,fv,lv,kv,wv,ws,kT,J,I,Sy,hml,U7,hmw⟩:=U.ex;have O:=J.cell (o:=0) rfl;have q1:=J.cell (o:=1) rfl;have q2:=J.cell (o:=2) rfl;have q3:=J.cell (o:=3) rfl;have q4:=J.cell (o:=4) rfl;have Q6:=E.fl;have Ld:=E.Lc;have IG:=E.ll;have Da:=E.kl;have Kz:=E.lb;have KA:=m4 E;have B:=St.start w;refine ank _ _ _ ?_;unfold S80;refine aD (aA xL (aU cZ (O.ext B.aE) (aI cE (I.ext B.aE) (aH (aC (λ_=>⟨hM (qs .i64) (by unfold ie;rw[fV cW]),B.aE⟩) λjr=>aD (aA xL (have B:=B.drew;aU cZ (O.ext B.aE) (aD (aA xL (aU cZ (O.ext B.aE) (aI cE (I.ext B.aE) (eW cW ?_))))))))))))
 obtain⟨iO,M⟩:=gx m.of (i:=((m.of.length:Int)-1).toNat) cW;refine aQ cE I cW M (λ_ W=>aF aV (W.ext B.aE) ?_);have V:=E.ofr _ (ld M);exact aN cW ⟨hM (qs .i64) (by unfold ie;rw[fU cW,oi,show m.of.length-1=((m.of.length:Int)-1).toNat from cW,M];rfl),B.aE⟩
def C29(p:Nat)(m:Mem)(w:World)(W:zL w p m)(E:ux m)(hb:MB m 1000000):CR 29 [(.pointer (some ⟨p,0,none⟩))] w (λv w'=>mr (bE v (yB m)) w w'):=by
 have CX:=W;obtain⟨ov,fv,lv,kv,wv,ws,O,I,hmo,Sy,hml,U7,J⟩:=W.ex;have q0:=I.cell (o:=0) rfl;have q1:=I.cell (o:=1) rfl;have q2:=I.cell (o:=2) rfl;have q3:=I.cell (o:=3) rfl;have q4:=I.cell (o:=4) rfl;have Q6:=E.fl;have Ld:=E.Lc;have IG:=E.ll;have Da:=E.kl;have Kz:=E.lb;have KA:=m4 E;have hwl:=EN O E hb;have B:=St.start w;refine amU _ _ _ ?_;unfold S29;refine aZ as5 B (C80 _ m _ (CX.ext B.aE) E) (λw1 he B=>pI (0:Int) B cE xH cW cW dO λzQ _ B=>?_);refine⟨λV x w1=>∃k:Nat,x=jK (k:Int)/\V=ws.length-k/\k<=ws.length/\St w aY [bE zQ (C4 (ws.take k) (ie m.of).toNat)] w1,⟨_,0,rfl,rfl,o6 _,by rw[aeI]at B;exact B⟩,?_⟩
 rintro V _ _ ⟨k,rfl,rfl,hkw,B⟩ _;refine aD (aA mQ (aU wG (q4.ext B.aE) (aI wH (J.ext B.aE) (aK (aC (λj4=>?_) λj4=>?_)))))
 .refine aD (aA mQ (aU wG (q4.ext B.aE) ?_));obtain⟨qP,M⟩:=gx ws (i:=(k:Int).toNat) cW;refine aQ wH J cW M (λ_ oC=>bO qP.line Ae oC rfl rfl λ_ vz=>aF aV (vz.ext B.aE) ?_);have uf:=vc O E (ld M);have GG:(C4 (ws.take k) (ie m.of).toNat).length=(ie m.of).toNat:=Bc;obtain⟨rG,U⟩:=gx (C4 (ws.take k) (ie m.of).toNat) (i:=qP.line.toNat) cW;refine cH B cE cW cW (λ_ kM=>eK B aV kM U ?_);have hcb:=arq U;have Xd:(ws.take k).length<=ws.length:=by rw[oj];omega
  exact aN cW (cH B cE cW cW λ_ vH=>gY _ B aV vH cW λ_ B=>aN cW ⟨_,cW,k+1,rfl,rfl,cW,by rw[<- Zt (k:=k) M uf.1 cW U];exact B⟩)
 rw[mE cW,aeJ O]at B;exact B.fresh
def C148(p:Nat)(m:Mem)(F:Nat->Prop)(cell n:Int)(w:World)(hF:(gJ p m).p w F)(I:ux m)(hb:MB m 1000000):CR 148 [(.pointer (some ⟨p,0,none⟩)),jK cell,jK n] w (λv w'=>v=jK (if KC m cell=true then 0 else 1)/\pk F (gJ p (gF m cell n)) w w'):=by
 have B:=St.begin hF;obtain⟨ov,fv,lv,kv,wv,ws,M,B⟩:=gJ.open B;have Q6:=I.fl;have Ld:=I.Lc;have IG:=I.ll;have Da:=I.kl;have Kz:=I.lb;have KA:=m4 I;have hwl:=EN M I hb;refine agd _ _ _ _ _ ?_;unfold S148;refine⟨λjv w'=>jv=.bool (decide (cell<0\/m.l.length<=cell))/\w=w',aK (aC (λ_=>⟨Ky cW,rfl⟩) λ_=>aD (aA tD (aB cZ B.hb rfl (aI cE B.p3.fu (cN ⟨uS cW,rfl⟩))))),?_⟩;rintro _ _ ⟨rfl,hw⟩ _;subst hw;refine aC (λlS=>?_) (λlS=>?_)
 .have B:=B.p5.p5.p5.p5.p5.p5;have J:KC m cell=false:=by unfold KC;rw[decide_eq_false_iff_not];omega
  unfold gF;rw[J];exact⟨rfl,(gJ.shut M B).mut⟩
 have J:KC m cell=true:=by unfold KC;rw[decide_eq_true_eq];omega
 refine aD (aA tD (aB cZ B.hb rfl ?_));obtain⟨jH,jW⟩:=gx m.l (i:=cell.toNat) cW;refine cH B.p3 cE cW cW (λ_ vz=>gY _ B.p3 aV vz cW λ_ B=>⟨λw'=>St w F [gJ p (gF m cell n)] w',aD (aA xL (aB cZ B.p1.hb rfl (aI cE B.p2.fu (aK (aC (λmW=>?_) λmW=>?_))))),?_⟩)
 .refine aD (aA mQ (have B:=B.drew;aB wG B.p1.hb rfl (aD (aA xL (aB cZ B.p1.hb rfl ?_)))));obtain⟨O,U⟩:=gx m.of (i:=cell.toNat) cW;refine cH B.p2 cE cW cW (λ_ Ci=>eK B.p2 aV Ci U (pop (Nt _ _ _) (bJ ([(⟨O,cell,n⟩:o7)]) B wH rfl rfl (dV rfl) λalH _ B=>?_)));refine⟨aG wG (B.p2.hb.cell rfl),?_⟩;have V:=B.fu;refine bW B.p6 wH V (by simp;omega) dO (λW _ B=>have B:=B.p1.drop;aD (aA mQ (aS B.p2 wG (dV rfl) B.fu.one λ_ B=>?_)))
  have B:=B.p5.p2.p3.p5.p5.p5.p4.p5.p5.p5.p5.p5;have E:gF m cell n={m with l:=m.l.set cell.toNat n,gu:=rS m.gu O (m.gu O++[⟨cell,n⟩])}:=by unfold gF;rw[fV J,fV cW,oi,U];rfl
  rw[E];exact gJ.shut (m:={m with l:=_,gu:=_}) (U9 M cW U) B
 .have B:=B.p5.p5.p2.p5.p5.p5;have E:gF m cell n={m with l:=m.l.set cell.toNat n}:=by unfold gF;rw[fV J,fU cW]
  rw[E];exact gJ.shut (m:={m with l:=_}) M B
 intro _ B _;exact⟨by rw[J];rfl,B.mut⟩
def C149(p:Nat)(m:Mem)(F:Nat->Prop)(line:Int)(w:World)(hF:(gJ p m).p w F)(I:ux m)(hb:MB m 1000000):CR 149 [(.pointer (some ⟨p,0,none⟩)),jK line] w (λv w'=>v=jK (if JL m line=true then 0 else 1)/\pk F (gJ p (sR m line)) w w'):=by
 have B:=St.begin hF;obtain⟨ov,fv,lv,kv,wv,ws,J,B⟩:=gJ.open B;have Q6:=I.fl;have Ld:=I.Lc;have IG:=I.ll;have Da:=I.kl;have Kz:=I.lb;have KA:=m4 I;have hwl:=EN J I hb;refine age _ _ _ _ ?_;unfold S149;refine⟨λjv w'=>jv=.bool (decide (line<0\/ie m.of<=line))/\St w F [cI p [ov,fv,lv,kv,wv],bE ov m.of,bE fv m.cO,bE lv m.l,bE kv m.kept,bE wv ws] w',aK (aC (λ_=>⟨vb (by first|exact(gq cW).symm|exact hI.2 cW),B⟩) λ_=>aZ as5 B (C80 _ m _ (Sg J B.hb B.p1.fu B.p2.fu B.p3.fu B.p4.fu B.p5.fu) I) λ_ _ B=>cN ⟨vb (by first|exact(gq cW).symm|exact hI.2 cW),B⟩),?_⟩
 rintro _ _ ⟨rfl,B⟩ _;refine aC (λkn=>?_) (λkn=>?_)
 .have B:=B.p5.p5.p5.p5.p5.p5;have U:JL m line=false:=by unfold JL;rw[decide_eq_false_iff_not];omega
  unfold sR;rw[U];exact⟨rfl,(gJ.shut J B).mut⟩
 refine bJ ([]:List o7) B wH rfl rfl (dV rfl) (λamw _ B=>?_);have B:=B.p6.p6.p6.p6.p6.p6.p6;refine⟨λmm o x w1=>∃k:Nat,x=jK (k:Int)/\mm=ws.length-k/\k<=ws.length/\St w F [bE o (GN line (ws.take k)),cI p [ov,fv,lv,kv,wv],bE ov m.of,bE fv m.cO,bE lv m.l,bE kv (qc m.kept (qD line (ws.take k))),bE wv ws] w1,⟨_,0,rfl,rfl,o6 _,B⟩,?_⟩;rintro mm l5 _ _ ⟨k,rfl,rfl,hkw,B⟩ _;refine aD (aA mQ (aB wG B.p1.hb rfl (aI wH B.p6.fu (aK (aC (λiF=>⟨λo w'=>St w F [bE o (GN line (ws.take (k+1))),cI p [ov,fv,lv,kv,wv],bE ov m.of,bE fv m.cO,bE lv m.l,bE kv (qc m.kept (qD line (ws.take (k+1)))),bE wv ws] w',?_,?_⟩) λiF=>?_)))))
 .refine aD (aA mQ (aB wG B.p1.hb rfl ?_));obtain⟨M,E⟩:=gx ws (i:=(k:Int).toNat) cW;refine cH B.p6 wH cW cW (λ_ kM=>kL Ae kM λ_ nf=>lH M.line B.p6 aV nf E rfl (aH (aC (λO=>?_) λO=>?_)))
  .refine aD (aA Ac (have B:=B.drew;aB cZ B.p1.hb rfl (aD (aA mQ (aB wG B.p1.hb rfl (cH B.p6 wH cW cW λ_ yh=>kL Pv yh λ_ IX=>lH M.cell B.p6 aV IX E rfl (aD (aA mQ (aB wG B.p1.hb rfl (cH B.p6 wH cW cW λ_ V=>?_))))))))));refine kL Pw V (λ_ W=>lH M.n B.p6 aV W E rfl ?_);have uf:=vc J I (ld E);have hal:(qc m.kept (qD line (ws.take k))).length=m.kept.length:=ars;obtain⟨abg,Tg⟩:=gx (qc m.kept (qD line (ws.take k))) (i:=M.cell.toNat) cW
   refine cH B.p5 cE cW cW (λ_ xX=>gY _ B.p5 aV xX cW λ_ B=>?_);have B:=B.p6.p1.p6.p6.p6.p6.p6;rw[aeL (k:=k) E O,aeK (k:=k) E O,FI];exact B
  refine aD (aA mQ (aB wG B.p1.hb rfl (cH B.p6 wH cW cW λ_ Jo=>eK B.p6 aaK Jo E (bJ ([M]) B wH rfl rfl (dV rfl) λadA _ B=>?_))));have hnl:(GN line (ws.take k)).length<=ws.length:=aeM;have Ui:=B.fu;refine bW B.p1 wH Ui (by simp;omega) dO (λadB _ B=>?_);have B:=B.p1.drop.p6.p6.p6.p6.p6.p6.p6;rw[ajK (k:=k) E O,ajJ (k:=k) E O];exact B
 .rintro atr _ B _;exact aN cW (have B:=B.p6.p6.p6.p6.p6.p6.p6;⟨_,cW,k+1,rfl,rfl,cW,B⟩)
 refine aD (aA mQ (aS B.p1 wG (dV rfl) B.fu.one λ_ B=>?_));have B:=B.p6.drop.p1.p5.p5.p5.p5.p5;have U:JL m line=true:=by unfold JL;rw[decide_eq_true_eq];omega
 have FJ:sR m line={m with kept:=qc m.kept (m.gu line),gu:=rS m.gu line []}:=by unfold sR;rw[fV U]
 rw[mE cW,MK J]at B;rw[FJ,U];exact⟨rfl,(gJ.shut (m:={m with kept:=_,gu:=_}) (aeN J) B).mut⟩
section
variable {ws:List o7}{m:Mem}{x:o7}{cut:List Int}
def uD(m:Mem)(us:List o7):Mem:={m with gu:=λi=>qD i us}
theorem Zu(B:sw ws m):uD m ws=m:=by
 unfold uD
 have:(λi=>qD i ws)=m.gu:=funext λi=>MK B i
 rw[this]
theorem ML{j:Nat}{v:Int}:∀(us:List jV) (k:List Int),(∀u∈us,u.cell.toNat≠j)->qc (k.set j v) us=(qc k us).set j v
 | [],k,_=>rfl
 | u::us,k,h=>by
  show qc ((k.set j v).set u.cell.toNat u.n) us=(qc (k.set u.cell.toNat u.n) us).set j v
  rw[List.set_comm _ _ (h u (uc ..)).symm,ML us _ λw B=>h w (s8 _ B)]
theorem MM(i:Int)(us:List o7)(x:o7):qD i (us++[x])=if x.line=i then qD i us++[⟨x.cell,x.n⟩]else qD i us:=by
 unfold qD;grind
theorem Si{us:List o7}(O:∀y∈us,0<=y.cell/\m.of[y.cell.toNat]?=some y.line)(U:0<=x.cell/\m.of[x.cell.toNat]?=some x.line)(V:0<=x.line)(K:Nat) :
  o8 (uD m (us++[x])) cut K=if x.line<K/\((qD x.line us).length:Int)<cut.getD x.line.toNat 0 then(o8 (uD m us) cut K).set x.cell.toNat x.n else o8 (uD m us) cut K:=by
 induction K with
 | zero=>rw[fU cW];rfl
 | succ K J=>
  rw[yk,yk,J]
  show qc _ ((qD (K:Int) (us++[x])).take _)=if _ then(qc _ ((qD (K:Int) us).take _)).set _ _ else qc _ ((qD (K:Int) us).take _)
  rw[MM]
  by_cases I:x.line=(K:Int)
  .have B:x.line.toNat=K:=cW
   rw[fV I,fU cW,<- B,show((x.line.toNat:Nat):Int)=x.line from cW]
   by_cases hc:((qD x.line us).length:Int)<cut.getD x.line.toNat 0
   .rw[fV ⟨cW,hc⟩,mE eS,FI,mE cW]
   grind
  .rw[fU I]
   by_cases hc:x.line<(K:Int)/\((qD x.line us).length:Int)<cut.getD x.line.toNat 0
   .rw[fV hc,fV ⟨cW,hc.2⟩,ML]
    intro u E W
    obtain⟨y,M,rfl⟩:=r5.1 (CP E)
    grind
   grind
def rZ(us:List o7)(cut:List Int):List Int:=(rv cut.length).map fun (i:Nat)=>max 0 (cut.getD i 0-((qD i us).length:Int))
theorem yC{us:List o7}:(rZ us cut).length=cut.length:=by simp[rZ]
theorem EO{us:List o7}{i:Nat}(h:i<cut.length):(rZ us cut)[i]?=some (max 0 (cut.getD i 0-((qD i us).length:Int))):=by
 grind[rZ,qD]
theorem Zv(h:∀(i:Nat) (c:Int),cut[i]?=some c->0<=c):cut=rZ [] cut:=by
 apply wj
 intro i
 by_cases B:i<cut.length
 .rw[EO B,nT B]
  grind[qD]
 grind[rZ]
theorem OD{us:List o7}{l e:Int}(I:0<=l)(B:(rZ us cut)[l.toNat]?=some e):l.toNat<cut.length/\e=max 0 (cut.getD l.toNat 0-((qD l us).length:Int)):=by
 have E:l.toNat<cut.length:=by have:=(l0.1 B).1;rwa [yC]at this
 rw[EO E,show((l.toNat:Nat):Int)=l from cW]at B
 grind
theorem Ko{us:List o7}(I:0<=x.line)(J:x.line.toNat<cut.length):rZ (us++[x]) cut=(rZ us cut).set x.line.toNat (max 0 (cut.getD x.line.toNat 0-((qD x.line us).length:Int)-1)):=by
 apply wj
 intro i
 by_cases E:i<cut.length
 .rw[EO E,MM]
  by_cases B:i=x.line.toNat
  .subst B
   rw[yF (by rw[yC];exact E),fV cW,n0,n6,show((x.line.toNat:Nat):Int)=x.line from cW]
   congr 1;omega
  rw[JG (Ne.symm B),EO E,fU cW]
 rw[o3 (by rw[yC];omega),o3 (by rw[DI,yC];omega)]
theorem wh{α:Type}{l:List α}{k:Nat}{y:α}(h:l[k]?=some y):l.take (k+1)=l.take k++[y]:=by rw[xp,h];rfl
theorem XG{k:Nat}{e:Int}(B:sw ws m)(M:ux m)(U:(cut.length:Int)=ie m.of)(h:ws[k]?=some x)(O:(rZ (ws.take k) cut)[x.line.toNat]?=some e)(h1:0<e) :
  (rZ (ws.take k) cut).set x.line.toNat (e-1)=rZ (ws.take (k+1)) cut/\(o8 (uD m (ws.take k)) cut cut.length).set x.cell.toNat x.n=o8 (uD m (ws.take (k+1))) cut cut.length:=by
 have I:=ld h
 have E:=vc B M I
 obtain⟨h2,h3⟩:=OD E.1 O
 rw[wh h,Ko E.1 h2,Si (λy J=>B.2 y (CP J)) (B.2 x I) E.1,fV ⟨cW,cW⟩]
 grind
theorem XH{k:Nat}{e:Int}(B:sw ws m)(U:ux m)(h:ws[k]?=some x)(J:(rZ (ws.take k) cut)[x.line.toNat]?=some e)(h1:¬ 0<e) :
  rZ (ws.take k) cut=rZ (ws.take (k+1)) cut/\o8 (uD m (ws.take k)) cut cut.length=o8 (uD m (ws.take (k+1))) cut cut.length:=by
 have I:=ld h
 have E:=vc B U I
 have O:=J
 obtain⟨h2,h3⟩:=OD E.1 J
 rw[wh h,Ko E.1 h2,Si (λy M=>B.2 y (CP M)) (B.2 x I) E.1,fU cW]
 refine⟨?_,rfl⟩
 rw[show max 0 (cut.getD x.line.toNat 0-((qD x.line (ws.take k)).length:Int)-1)=e from cW]
 apply wj
 grind
theorem Sj{k:Nat}{e:Int}(B:(yB m)[k]?=some e):e=(m.gu k).length:=by
 unfold yB r7 at B
 rw[uO]at B
 have E:k<(ie m.of).toNat:=by
  cases h:(AV m (ie m.of).toNat)[k]? with
  | none=>grind
  | some y=>have:=(l0.1 h).1;unfold AV at this;grind
 rw[ym E]at B
 grind
theorem Zw(m:Mem)(cut:List Int):m.kept=o8 (uD m []) cut cut.length:=by
 have:∀K,o8 (uD m []) cut K=m.kept:=λK=>by
  induction K with
  | zero=>rfl
  | succ K B=>rw[yk,B];simp[uD,qD,qc]
 grind
theorem Va(nx:List Int):sw [] (rU m nx):=⟨λ_=>rfl,λx h=>by cases h⟩
end
def C85(p:Nat)(m:Mem)(cut:List Int)(cv:Value)(w:World)(hm:zL w p m)(E:ux m)(hb:MB m 1000000)(W:eN (λ_=>True) w cv cut)(Q9:cut.length<=1000):CR 85 [(.pointer (some ⟨p,0,none⟩)),cv] w (λv w'=>(gW m cut=none/\v=.tuple #[.slice none 0 0,jK 1]/\Ext w w')\/∃nx o,gW m cut=some nx/\v=.tuple #[o,jK 0]/\mr (bE o nx) w w'):=by
 have CX:=hm;obtain⟨ov,fv,lv,kv,wv,ws,U,ni,hmo,Sy,hml,U7,hmw⟩:=hm.ex;have q0:=ni.cell (o:=0) rfl;have q1:=ni.cell (o:=1) rfl;have q2:=ni.cell (o:=2) rfl;have J:=ni.cell (o:=3) rfl;have q4:=ni.cell (o:=4) rfl;have Q6:=E.fl;have Ld:=E.Lc;have IG:=E.ll;have Da:=E.kl;have Kz:=E.lb;have KA:=m4 E;have hwl:=EN U E hb;have hpil:=MJ (m:=m);have B:=St.start w;refine anq _ _ _ _ ?_;unfold S85;refine dF am9 B (C29 _ m _ (CX.ext B.aE) E hb) (λx13 w1 cJ B=>aI cE (W.ext B.aE) (aI cE B.fu (bQ (aC (λ_=>.inl ⟨Q8 cW,rfl,B.aE⟩) λg9=>?_))))
 refine⟨λmm x w1=>∃k:Nat,x=jK (k:Int)/\mm=cut.length-k/\k<=cut.length/\(∀(i:Nat) (c:Int),i<k->cut[i]?=some c->0<=c/\c<=(m.gu i).length)/\St w aY [bE x13 (yB m)] w1,⟨_,0,rfl,rfl,o6 _,λ_ _ h=>absurd h cW,B⟩,?_⟩;rintro mm _ _ ⟨k,rfl,rfl,xk,mL,B⟩ _;refine aI cE B.fu (aK (aC (λiF=>?_) λiF=>?_))
 .obtain⟨Ck,oK⟩:=gx cut (i:=(k:Int).toNat) cW;refine⟨λjv w'=>jv=.bool (decide (Ck<0\/((m.gu k).length:Int)<Ck))/\St w aY [bE x13 (yB m)] w',aQ cE W cW oK (λ_ tM=>have B:=B.drew;aF aV (tM.ext B.aE) (aK (aC (λ_=>⟨vb (by first|exact(gq cW).symm|exact hI.2 cW),B⟩) λL3=>?_))),?_⟩
  .refine aQ cE W cW oK (λ_ vH=>aF aV (vH.ext B.aE) ?_);obtain⟨ay2,C3⟩:=gx (yB m) (i:=(k:Int).toNat) cW;refine cH B cE cW cW (λ_ rD=>eK B aV rD C3 (cG ?_));have hpe:=Sj (k:=k) C3;exact⟨vb (by first|exact(gq cW).symm|exact hI.2 cW),B⟩
  rintro _ _ ⟨rfl,B⟩ _;refine aC (λ_=>.inl ⟨Q7 (k:=k) oK cW,rfl,B.aE⟩) (λuq=>aN cW ?_);refine⟨_,cW,k+1,rfl,rfl,cW,λi c hi hc=>?_,B⟩
  by_cases e:i=k
  .subst e;obtain rfl:=qa.inj (hc.symm.trans oK);omega
  exact mL i c cW hc
 have M:(cut.length:Int)=ie m.of:=cW
 refine⟨λa b w'=>St w aY [bE a cut,bE b m.kept] w',aD (aA Ac (have B:=B.drew;aU cZ (J.ext B.aE) ⟨bJ ([]:List Int) B cE rfl rfl (dV rfl) (λWr _ B=>⟨aG cZ (J.ext B.aE),⟨?_,⟨?_,?_⟩⟩⟩),⟨?_,?_⟩⟩)),?_⟩
 .have Ti:=(W.ext B.aE);refine bW B cE Ti (by simp<;>omega) dO (λabk _ B=>?_);refine⟨aG cZ (J.ext B.aE),?_⟩;refine bJ ([]:List Int) B cE rfl rfl (dV rfl) (λav1 _ B=>?_);refine⟨aG cZ (J.ext B.aE),?_⟩;have UO:=(U7.ext B.aE);exact bW B cE UO (by simp<;>omega) dO (λ_ _ B=>have B:=B.p2.drop.p1;B)
 .refine bJ ([]:List Int) B cE rfl rfl (dV rfl) (λaA7 _ B=>?_);refine⟨aG cZ (J.ext B.aE),?_⟩;have aeP:=(W.ext B.aE);refine bW B.p1 cE aeP (by simp<;>omega) dO (λaA8 _ B=>?_);refine⟨aG cZ (J.ext B.aE),?_⟩;have aeQ:=(U7.ext B.aE);exact bW B.p1 cE aeQ (by simp<;>omega) dO (λ_ _ B=>have B:=B.p2.drop.p1;B)
 .trivial
 .refine bJ ([]:List Int) B cE rfl rfl (dV rfl) (λaA9 _ B=>?_);refine⟨aG cZ (J.ext B.aE),?_⟩;refine bJ ([]:List Int) B cE rfl rfl (dV rfl) (λaBa _ B=>?_);refine⟨aG cZ (J.ext B.aE),?_⟩;have aeR:=(W.ext B.aE);refine bW B cE aeR (by simp<;>omega) dO (λaBb _ B=>?_);refine⟨aG cZ (J.ext B.aE),?_⟩;have aeS:=(U7.ext B.aE);exact bW B.p1 cE aeS (by simp<;>omega) dO (λ_ _ B=>have B:=B.p2.drop.p1;B)
 .trivial
 rintro Lz aas _ B _;have B:=B.p1.p1;refine⟨λmm x w1=>∃j:Nat,x=jK (j:Int)/\mm=ws.length-j/\j<=ws.length/\St w aY [bE Lz (rZ (ws.take j) cut),bE aas (o8 (uD m (ws.take j)) cut cut.length)] w1,⟨_,0,rfl,rfl,o6 _,by rw[Zv (λi c hc=>(mL i c (by have:=(l0.1 hc).1;omega) hc).1),Zw m cut]at B;simpa using B⟩,?_⟩;rintro mm _ _ ⟨j,rfl,rfl,hj,B⟩ _;refine aD (aA mQ (aU wG (q4.ext B.aE) (aI wH (hmw.ext B.aE) (aK (aC (λQR=>⟨λw'=>St w aY [bE Lz (rZ (ws.take (j+1)) cut),bE aas (o8 (uD m (ws.take (j+1))) cut cut.length)] w',?_,?_⟩) λQR=>?_)))))
 .refine aD (aA mQ (aU wG (q4.ext B.aE) ?_));obtain⟨I,V⟩:=gx ws (i:=(j:Int).toNat) cW;refine aQ wH hmw cW V (λ_ D1=>aF aaK (D1.ext B.aE) (aR B ag2 λb_w11 _ B=>aO (x:=I) B aaK rfl rfl λ_ B=>aA Ae (aB (v:=jK I.line) aV B.hb rfl ?_)));have uf:=vc U E (ld V);have hlw:(rZ (ws.take j) cut).length=cut.length:=yC;obtain⟨e_x69,O⟩:=gx (rZ (ws.take j) cut) (i:=I.line.toNat) cW;refine cH B.p1 cE cW cW (λ_ QB=>eK B.p1 aV QB O ?_)
  have hlb2:=(OD uf.1 O).2
  have hcg:cut.getD I.line.toNat 0<=1000000:=by
   have hl9:I.line.toNat<cut.length:=cW
   rw[oi,nT hl9];have h1:=mL _ _ cW (nT hl9);have h2:=hb ((I.line.toNat:Nat):Int);simp only[Option.getD_some];omega
  refine cG (aC (λrJ=>?_) λrJ=>?_)
  .refine aA Ae (have B:=B.drew;aB (v:=jK I.line) aV B.hb rfl (aA Ae (aB (v:=jK I.line) aV B.hb rfl (cH B.p1 cE cW cW λ_ RH=>eK B.p1 aV RH O (eW cW (cH B.p1 cE cW cW λ_ Qo=>gY _ B.p1 aV Qo cW λ_ B=>aA Pv (aB (v:=jK I.cell) aV B.p1.hb rfl (aA Pw (aB (v:=jK I.n) aV B.p1.hb rfl ?_)))))))));have hil:(o8 (uD m (ws.take j)) cut cut.length).length=m.kept.length:=nK _ _ _;obtain⟨e_x87,aHl⟩:=gx (o8 (uD m (ws.take j)) cut cut.length) (i:=I.cell.toNat) cW
   refine cH B.p2 cE cW cW (λ_ azd=>gY _ B.p2 aV azd cW λ_ B=>?_);have B:=B.p2.drop.p1;rw[<- (XG (k:=j) U E M V O rJ).1,<- (XG (k:=j) U E M V O rJ).2];exact B
  have B:=B.drop.p1.p1;rw[<- (XH (k:=j) U E V O rJ).1,<- (XH (k:=j) U E V O rJ).2];exact B
 .rintro _ B _;exact aN cW (have B:=B.p1.p1;⟨_,cW,j+1,rfl,rfl,cW,B⟩)
 have B:=B.drop;rw[mE cW,Zu U]at B;exact .inr ⟨_,_,yl M (λi c _ hc=>mL i c cW hc),rfl,B.fresh⟩
def C86(p:Nat)(m:Mem)(F:Nat->Prop)(cut:List Int)(cv:Value)(w:World)(hF:(gJ p m).p w F)(I:ux m)(hb:MB m 1000000)(hC:∀w',js F w w'->eN (λ_=>True) w' cv cut)(Q9:cut.length<=1000):CR 86 [(.pointer (some ⟨p,0,none⟩)),cv] w (λv w'=>(gW m cut=none/\v=jK 1/\pk F (gJ p m) w w')\/∃nx,gW m cut=some nx/\v=jK 0/\pk F (gJ p (rU m nx)) w w'):=by
 have B:=St.begin hF;obtain⟨ov,fv,lv,kv,wv,ws,kT,B⟩:=gJ.open B;have Q6:=I.fl;have Ld:=I.Lc;have IG:=I.ll;have V:=I.kl;have Kz:=I.lb;have KA:=m4 I;refine anr _ _ _ _ ?_;unfold S86;refine eR anA (C85 _ m cut _ _ (Sg kT B.hb B.p1.fu B.p2.fu B.p3.fu B.p4.fu B.p5.fu) I hb (hC _ B.aE) cW) ?_;rintro v_x11 _ W
 rcases W with⟨E,rfl,he⟩|⟨J,O,E,rfl,cJ⟩
 .have B:=B.ext he;exact bD rfl (bD rfl (bQ (il dO (have B:=B.p5.p5.p5.p5.p5.p5;.inl ⟨E,rfl,(gJ.shut kT B).mut⟩))))
 have B:=B.made cJ;refine bD rfl (bD rfl (bQ (fI dO (bJ ([]:List Int) B cE rfl rfl (dV rfl) λs_x17 _ B=>?_))));have po:=B.p1.fu;refine bW B cE po (by have M:J.length=m.of.length:=(by unfold gW at E;split at E<;>simp at E;rw[<- E,nK];exact V);simp;omega) dO (λabj _ B=>aD (aA aaI (have B:=B.drew;aB cZ B.p2.hb rfl (aD (aA xL (aB cZ B.p2.hb rfl (aI cE B.p3.fu (vt cE B.p4.fu cW cW λWX U=>?_))))))));have FD:=(U _ B.p4.fu);refine bW B cE FD (by have M:J.length=m.of.length:=(by unfold gW at E;split at E<;>simp at E;rw[<- E,nK];exact V);simp;omega) dO (λQE _ B=>aD (aA tD (aS B.p2 cZ (dV rfl) B.fu.one λ_ B=>aD (aA Ac (aS B cZ (dV rfl) B.p2.fu.one λ_ B=>aD (aA mQ (aS B wG (dV rfl) (rfl) λ_ B=>?_)))))))
 have B:=(((((((((((B.gA (α:=o7)).p6).drop).p6).drop).p6).drop).p3).p3).p5).p5).p5;have M:J.length=m.of.length:=by unfold gW at E;split at E<;>simp at E;rw[<- E,nK];exact V
 rw[show(m.of.length:Int).toNat=J.length from cW,C5]at B;exact .inr ⟨_,E,rfl,(gJ.shut (m:=rU m J) (Va _) B).mut⟩
def wi(ps:List Nat)(hd:List Int):List (List Int):=(dD (ps.drop hd.length)).map λt=>hd++t
def zx(ps:List Nat)(hd:List Int)(n:Nat):List (List Int):=(rv n).flatMap fun (i:Nat)=>wi ps (hd++[(i:Int)])
section
variable {ps:List Nat}{hd:List Int}{P n:Nat}
theorem Zx(h:hd.length=ps.length):wi ps hd=[hd]:=by
 unfold wi;rw[h,List.drop_length];simp[dD]
theorem Zy(ps:List Nat):wi ps []=dD ps:=by unfold wi;simp
theorem FT:(wi ps hd).length=(dD (ps.drop hd.length)).length:=by unfold wi;rw[qE]
theorem Bd:zx ps hd (n+1)=zx ps hd n++wi ps (hd++[(n:Int)]):=by
 unfold zx;rw[D3,List.flatMap_append];simp
theorem ajL(h:ps[hd.length]?=some P):ps.drop hd.length=P::ps.drop (hd.length+1):=by
 obtain⟨h1,h2⟩:=l0.1 h
 rw[xD h1,h2]
theorem Kp(h:ps[hd.length]?=some P):zx ps hd (P+1)=wi ps hd:=by
 unfold zx wi
 rw[ajL h,dD,List.map_flatMap]
 congr 1
 funext i
 rw[n0,n6,TN]
 refine H3 λt _=>?_
 simp
theorem C7:∀n:Nat,(zx ps hd n).length=n*(dD (ps.drop (hd.length+1))).length
 | 0=>by simp[zx]
 | n+1=>by rw[Bd,n0,C7 n,FT,n0,n6,Nat.add_mul,Nat.one_mul]
theorem aeT(h:ps[hd.length]?=some P)(B:n<=P):(zx ps hd n).length+(wi ps (hd++[(n:Int)])).length<=(dD (ps.drop hd.length)).length:=by
 rw[<- n0,<- Bd,<- FT,<- Kp h,C7,C7]
 exact BO _ cW
theorem Zz(h:ps[hd.length]?=some P):(dD (ps.drop (hd.length+1))).length<=(dD (ps.drop hd.length)).length:=by
 have:=aeT (n:=0) h (o6 _)
 rw[FT,n0,n6]at this
 omega
end
def qY(m:Mem)(c:List Int):List Int:=o8 m c c.length
def Be(m:Mem)(k:Nat):List (List Int)×List (List Int):=Ej (qY m) ((dD (r7 m)).take k)
section
variable {m:Mem}{k:Nat}{a:List Int}
theorem ajM(h:(dD (r7 m))[k]?=some a)(B:qY m a∈(Be m k).2):Be m (k+1)=Be m k:=by
 unfold Be at *;rw[wh h,vW,fV B]
theorem arv(h:(dD (r7 m))[k]?=some a)(B:¬ qY m a∈(Be m k).2):Be m (k+1)=((Be m k).1++[a],(Be m k).2++[qY m a]):=by
 unfold Be at *;rw[wh h,vW,fU B]
theorem XI{α:Type}{p:List α->Prop}(B:p [])(h1:∀l a,p l->p (l++[a]))(l:List α):p l:=by
 have h:∀l:List α,p l.reverse:=λl=>by
  induction l with
  | nil=>exact B
  | cons a l E=>rw[List.reverse_cons];exact h1 _ _ E
 have:=h l.reverse
 rwa [List.reverse_reverse]at this
theorem aeU{x y:List Int}(h:x.length=y.length)(e:T8 x=T8 y):x=y:=(List.append_inj e h).1
theorem XJ(m:Mem)(l:List (List Int)):Ej (rV m) l=((Ej (qY m) l).1,(Ej (qY m) l).2.map T8)/\∀y∈(Ej (qY m) l).2,y.length=m.kept.length:=by
 refine XI (p:=λl=>Ej (rV m) l=((Ej (qY m) l).1,(Ej (qY m) l).2.map T8)/\∀y∈(Ej (qY m) l).2,y.length=m.kept.length) ⟨rfl,λy h=>by cases h⟩ (λl c M=>?_) l
 obtain⟨O,E⟩:=M
 rw[vW,vW,O]
 have hc:rV m c=T8 (qY m c):=rfl
 have I:(qY m c).length=m.kept.length:=nK _ _ _
 by_cases h:qY m c∈(Ej (qY m) l).2
 .rw[fV h,fV (by rw[hc];exact List.mem_map_of_mem h)];exact⟨rfl,E⟩
 rw[fU h,fU (λJ=>by
  obtain⟨y,B,e⟩:=r5.1 J
  rw[hc]at e
  exact h (by rw[<- aeU (by rw[E y B,I]) e];exact B))]
 refine⟨by rw[hc,yU];rfl,λy B=>?_⟩
 rcases r3.1 B with B|B
 .exact E y B
 rw[s7.1 B];exact I
theorem ajN(h:(dD (r7 m)).length<=k):(Be m k).1=vX m:=by
 unfold Be vX;rw[mE h,(XJ m _).1]
theorem aeV:(Be m k).1.length<=(dD (r7 m)).length:=by
 unfold Be;exact x5 (El _ _) (by rw[oj];omega)
theorem aeW:(Be m k).2.length=(Be m k).1.length:=by
 unfold Be
 generalize (dD (r7 m)).take k=l
 exact XI (p:=λl=>(Ej (qY m) l).2.length=(Ej (qY m) l).1.length) rfl (λl c B=>by rw[vW];split<;>simp[B]) l
theorem ajO{a:List Int}(h:a∈dD (r7 m))(B:ux m):gW m a=some (qY m a)/\a.length<=1000:=by
 have E:=qT h
 rw[wP]at E
 have I:=m4 B
 have:=B.lb
 refine⟨yl cW λi c J hc=>BI h (i:=i) (p:=(m.gu i).length) (by unfold r7;exact ym cW) hc,cW⟩
theorem any_succ{α:Type}{l:List α}{j:Nat}{b:α}{f:α->Bool}(h:l[j]?=some b):(l.take (j+1)).any f=((l.take j).any f||f b):=by rw[wh h,ab3];simp
end
theorem C143(ps:List Nat)(hd:List Int)(pv:Value)(I:SV)(N:Nat)(w:World)(U:eN (λ_=>True) w pv (ps.map fun (k:Nat)=>(k:Int)))(W:eN (λ_=>True) w (j6 I) hd)(hlen:hd.length<=ps.length)(hps:ps.length<=1000)(hC:(dD (ps.drop hd.length)).length<=1000000000)(M:∀q∈ps,q<=1000000)(hN:ps.length-hd.length<N):CR 143 [pv,j6 I] w (λv w'=>∃J:List SV,mr (sep (bE v J) (fB λw'=>eN (λ_=>True) w' (j6 I) hd->jF J (wi ps hd) w')) w w'):=by
 have hpml:(ps.map fun (k:Nat)=>(k:Int)).length=ps.length:=qE ..;have B:=St.start w;refine af9 _ _ _ _ ?_;unfold S143;refine aI cE (W.ext B.aE) (aI cE (U.ext B.aE) (aH (aC (λ_=>bJ ([I]) B nd rfl rfl (dV rfl) λ_ _ B=>have B:=B.iK (Φ:=λw'=>eN (λ_=>True) w' (j6 I) hd->jF [I] (wi ps hd) w') (λ_ h=>by rw[Zx cW];exact jF.nil.snoc (DL.gB h));⟨_,(St.join B.p1).fresh⟩) λkm=>oB (α:=(List Int)) B nd λamw _ B=>?_)));obtain⟨P,E⟩:=gx ps (i:=hd.length) cW;have hPb:=M P (ld E);have Rl:=Zz E
 refine⟨λmm o x w1=>∃n:Nat,x=jK (n:Int)/\mm=P+1-n/\n<=P+1/\St w aY [fW o (zx ps hd n)] w1,⟨_,0,rfl,rfl,o6 _,B⟩,?_⟩;rintro mm BU _ _ ⟨n,rfl,rfl,hn,B⟩ _;refine aI cE (W.ext B.aE) ?_;obtain⟨Wx,pw⟩:=gx (ps.map fun (k:Nat)=>(k:Int)) (i:=(hd.length:Int).toNat) cW;refine aQ cE U cW pw (λ_ Jn=>aF aV (Jn.ext B.aE) ?_)
 have hex:Wx=(P:Int):=by
  have h0:=pw;rw[uO,show(hd.length:Int).toNat=hd.length from cW,E]at h0;exact(qa.inj h0).symm
 refine gL (aC (λiF=>?_) λiF=>?_)
 .refine bJ ([]:List Int) B cE rfl rfl (dV rfl) (λali _ B=>?_);have O:=(W.ext B.aE);refine bW B cE O (by simp;omega) dO (λQi _ B=>bJ ([(n:Int)]) B cE rfl rfl (dV rfl) λWX _ B=>?_);have FD:=B.fu;refine bW B.p1 cE FD (by simp;omega) dO (λQE _ B=>?_);have B:=B.p1.drop;obtain⟨On,rfl⟩:=B.gE;refine eR akj (C143 ps (hd++[(n:Int)]) _ On (N-1) _ (U.ext B.aE) B.fu (by simp;omega) hps (by rw[n0,n6];exact x5 Rl hC) M (by simp;omega)) ?_;rintro x35 _ ⟨V,cJ⟩;have B:=((((((B.made cJ).split).p2).freeze).p2).gU).dT (Ψ:=jF V (wi ps (hd++[(n:Int)]))) (λ_ h=>h.1 h.2)
  have B:=B.p1.An.p1;exact eB B nd (by have:=aeT (n:=n) E cW;omega) dO (λ_ _ B=>aN cW ⟨_,cW,n+1,rfl,rfl,cW,by rw[Bd];exact B⟩)
 obtain rfl:n=P+1:=cW
 rw[Kp E]at B;obtain⟨J,B⟩:=B.wK;have B:=B.p1.dT (Ψ:=λw'=>eN (λ_=>True) w' (j6 I) hd->jF J (wi ps hd) w') (λ_ h _=>h);exact⟨J,(St.join B.p1).fresh⟩
termination_by N
decreasing_by all_goals omega
def aHm(p:Nat)(m:Mem)(cut:List Int)(cv:Value)(w:World)(I:zL w p m)(O:ux m)(hb:MB m 1000000)(M:eN (λ_=>True) w cv cut)(J:cut.length<=1000){nx:List Int}(B:gW m cut=some nx) :
  Calls ji 85 [(.pointer (some ⟨p,0,none⟩)),cv].toArray w (qZ λv w'=>∃o,v=.tuple #[o,jK 0]/\mr (bE o nx) w w'):=
 akH (C85 p m cut cv w I O hb M J) λv w' h=>by
  rcases h with⟨h1,_⟩|⟨E,o,h1,h2,h3⟩
  .rw[B]at h1;cases h1
  .rw[B]at h1;cases h1;exact⟨o,h2,h3⟩
def C81(p:Nat)(m:Mem)(w:World)(hm:zL w p m)(M:ux m)(hb:MB m 1000000)(hC:(dD (r7 m)).length<=1000000000):CR 81 [(.pointer (some ⟨p,0,none⟩))] w (λv w'=>mr (fW v (vX m)) w w'):=by
 have CX:=hm;obtain⟨ov,fv,lv,kv,wv,ws,kT,ni,hmo,Sy,hml,U7,hmw⟩:=hm.ex;have q0:=ni.cell (o:=0) rfl;have q1:=ni.cell (o:=1) rfl;have q2:=ni.cell (o:=2) rfl;have q3:=ni.cell (o:=3) rfl;have q4:=ni.cell (o:=4) rfl;have Q6:=M.fl;have Ld:=M.Lc;have IG:=M.ll;have Da:=M.kl;have Kz:=M.lb;have KA:=m4 M;have hpsl:=wP m;have hpb:∀q∈r7 m,q<=1000000:=λ_ hq=>by obtain⟨i,_,rfl⟩:=r5.1 hq;exact hb _
 have B:=St.start w;refine anl _ _ _ ?_;unfold S81;refine dF am9 B (C29 _ m _ (CX.ext B.aE) M hb) (λx12 w1 cJ B=>bJ ([]:List Int) B cE rfl rfl (dV rfl) λaxt _ B=>?_);obtain⟨arx,rfl⟩:=B.gE;refine eR akj (C143 (r7 m) [] _ arx ((r7 m).length+1) _ B.p1.fu B.fu (o6 _) cW hC hpb eU) ?_;rintro J _ ⟨E,cJ⟩;have B:=((((((B.made cJ).split).p2).freeze).p2).gU).dT (Ψ:=jF E (dD (r7 m))) (λ_ h=>by have h9:=h.1 h.2;rwa [Zy]at h9);have B:=B.p1;have Nz:=B.Tb;refine bJ (@adr SV) B nd rfl rfl (dV rfl) (λamw _ B=>oB (α:=(List Int)) B nd λs_x16 _ B=>?_)
 have B:=B.p4.drop.p3.p3.p2.p3;refine⟨λmm o h x w1=>∃(k:Nat) (os:List SV),x=jK (k:Int)/\mm=(dD (r7 m)).length-k/\k<=(dD (r7 m)).length/\(∀w',jF E (dD (r7 m)) w'->jF os (Be m k).1 w')/\St w aY [bE o os,fW h (Be m k).2,bE J E,fB (jF E (dD (r7 m)))] w1,⟨_,0,[],rfl,rfl,o6 _,λ_ _=>jF.nil,B⟩,?_⟩;rintro mm Dl SN _ _ ⟨k,os,rfl,rfl,xk,I,B⟩ _;refine aI nd B.p2.fu (aK (aC (λlJ=>?_) λlJ=>?_))
 .obtain⟨a,ha⟩:=gx (dD (r7 m)) (i:=(k:Int).toNat) cW;have ha2:a∈dD (r7 m):=ld ha;have Ua:=ajO ha2 M;have hl1:=aeV (m:=m) (k:=k);have Kx:=aeW (m:=m) (k:=k);have hil:(qY m a).length=m.kept.length:=nK _ _ _;obtain⟨Ck,oK⟩:=gx E (i:=(k:Int).toNat) cW;refine⟨λo h w'=>∃U:List SV,(∀w',jF E (dD (r7 m)) w'->jF U (Be m (k+1)).1 w')/\St w aY [bE o U,fW h (Be m (k+1)).2,bE J E,fB (jF E (dD (r7 m)))] w',?_,?_⟩
  .refine cH B.p2 nd cW cW (λ_ tM=>eK B.p2 cZ tM oK (eR anA (aHm _ m a _ _ (CX.ext B.aE) M hb (DL.flat (B.p3.fB.2 _ _ _ oK ha)) Ua.2 Ua.1) ?_));rintro x29 _ ⟨amx,rfl,cJ⟩;have B:=B.made cJ;refine bD rfl (bD rfl ?_);have B:=B.p2;obtain⟨hh,B⟩:=B.wK;have OL:=B.Tb;have B:=B.p5.p5.p5.p4.p4.p5;refine⟨λmm b x w1=>∃j:Nat,b=.bool ((((Be m k).2).take j).any λy=>decide (y=qY m a))/\x=jK (j:Int)/\mm=((Be m k).2).length-j/\j<=((Be m k).2).length/\St w aY [bE amx (qY m a),bE SN hh,fB (jF hh ((Be m k).2)),bE Dl os,bE J E,fB (jF E (dD (r7 m)))] w1,⟨_,0,rfl,rfl,rfl,o6 _,B⟩,?_⟩
   rintro mm _ _ _ ⟨j,rfl,rfl,rfl,hj,B⟩ _;refine aI nd B.p1.fu (aK (aC (λlj=>?_) λlj=>?_))
   .obtain⟨V,O⟩:=gx ((Be m k).2) (i:=(j:Int).toNat) cW;obtain⟨Ed,mZ⟩:=gx hh (i:=(j:Int).toNat) cW;refine⟨λjv w'=>jv=.bool ((((Be m k).2).take (j+1)).any λy=>decide (y=qY m a))/\St w aY [bE amx (qY m a),bE SN hh,fB (jF hh ((Be m k).2)),bE Dl os,bE J E,fB (jF E (dD (r7 m)))] w',aW (λW=>have B:=B.p5.p5.p5.p5.p5.p5;⟨vb (by rw[any_succ (j:=j) O,W];rfl),B⟩) (λW=>cH B.p1 nd cW cW λ_ Ci=>eK B.p1 cZ Ci mZ (aZ O8 B (C21 _ _ V (qY m a) _ (DL.flat (B.p2.fB.2 _ _ _ mZ O)) B.fu (by have h9:=(XJ m ((dD (r7 m)).take k)).2 V (show V∈(Be m k).2 from ld O);omega)) λ_ _ B=>have B:=B.p5.p5.p5.p5.p5.p5;⟨vb (by rw[any_succ (j:=j) O,show((((Be m k).2).take j).any λy=>decide (y=qY m a))=false from W];rfl),B⟩)),?_⟩
    rintro _ _ ⟨rfl,B⟩ _;exact aN cW (have B:=B.p5.p5.p5.p5.p5.p5;⟨_,cW,j+1,rfl,rfl,rfl,cW,B⟩)
   have hjl:((Be m k).2.take j)=(Be m k).2:=mE cW;have B:=B.p2.p2.An;refine bV (aW (λyf=>?_) λyf=>?_)
   .obtain⟨Sk,rfl⟩:=B.p1.gE;have B:=B.p1.freeze.dT (Ψ:=λw=>py w Sk (qY m a)) (λ_ h=>DL.gB h);refine fG (s:=Sk) (x:=(qY m a)) B nd dO (λay6 _ B=>have B:=B.p1;eB B nd (by simp;omega) dO λs_x52 _ B=>cH B.p2 nd cW cW λ_ JN=>eK B.p2 cZ JN oK (bJ ([Ck]) B nd rfl rfl (dV rfl) λaxn _ B=>?_));have ary:=B.fu;refine bW B.p2 nd ary (by simp;have:=(I _ B.p4.fB).1;omega) dO (λavg _ B=>?_);have B:=B.p1.drop.p3.p3.p3.p3
    have hni:¬ qY m a∈(Be m k).2:=λhh=>by
     have h9:((Be m k).2.any λy=>decide (y=qY m a))=true:=z6.2 ⟨_,hh,gq rfl⟩;rw[hjl]at yf;rw[h9]at yf;cases yf
    rw[arv (k:=k) ha hni];exact⟨os++[Ck],λw' h=>(I w' h).snoc (h.2 _ _ _ oK ha),B⟩
   have B:=B.p1.drop.p3.p3.p2.p3
   have hyi:qY m a∈(Be m k).2:=by
    rw[hjl]at yf;have h9:((Be m k).2.any λy=>decide (y=qY m a))=true:=by simpa using yf
    obtain⟨y,h1,h2⟩:=z6.1 h9;rw[<- hU h2];exact h1
   rw[ajM (k:=k) ha hyi];exact⟨os,I,B⟩
  rintro aaq aar _ ⟨U,aHo,B⟩ _;exact aN cW (have B:=B.p3.p3.p3.p3;⟨_,cW,k+1,U,rfl,rfl,cW,aHo,B⟩)
 have B:=(B.p1.drop.p1.drop.p1.p1.p1.dT λw h=>I w h).p1.An;rw[ajN cW]at B;exact B.fresh
def Gx:List Int->Int->Int
 | [],n=>n
 | c::r,n=>if n<=100 then Gx r (n*(c+1))else n
def amy(l:List Int):Int:=Gx l 1
def Vb{l:List Int}{k:Nat}{c n:Int}(h:l[k]?=some c)(B:n<=100):Gx (l.drop k) n=Gx (l.drop (k+1)) (n*(c+1)):=by
 obtain⟨h1,h2⟩:=l0.1 h
 rw[xD h1,h2,Gx,fV B]
theorem ZA{l:List Int}{k:Nat}{n:Int}(h:l.length<=k\/¬ n<=100):Gx (l.drop k) n=n:=by
 rcases h with h|h
 .rw[List.drop_eq_nil_of_le h];rfl
 cases l.drop k with
 | nil=>rfl
 | cons c r=>rw[Gx,fU h]
theorem ZB{l:List Int}{k:Nat}{c:Int}(h:l[k]?=some c):wR l (k+1)=qj (qj (10000*wR l k)+c):=by rw[JY h,Int.mul_comm]
def arz{n c:Int}(B:0<=n)(h1:n<=100)(h2:0<=c)(h3:c<=1000000):0<=n*(c+1)/\n*(c+1)<=100*1000001:=
 ⟨Int.mul_nonneg B cW,Int.mul_le_mul h1 cW cW cW⟩
def C28(lv:Value)(l:List Int)(w:World)(W:eN (λ_=>True) w lv l)(hn:l.length<=1000)(hl:∀c∈l,0<=c/\c<=1000000):CR 28 [lv] w (λv w'=>v=jK (amy l)/\Ext w w'):=by
 have B:=St.start w;refine amT _ _ _ ?_;unfold S28;refine⟨λV y x M=>∃(k:Nat) (n:Int),y=jK n/\x=jK (k:Int)/\V=l.length-k/\k<=l.length/\0<=n/\amy l=Gx (l.drop k) n/\St w aY [] M,⟨_,0,1,rfl,rfl,rfl,o6 _,cW,rfl,B⟩,?_⟩;rintro V _ _ M ⟨k,n,rfl,rfl,rfl,hk,h0,J,B⟩ _;refine⟨λjv w'=>jv=.bool (decide (k<l.length/\n<=100))/\M=w',aI cE (W.ext B.aE) (aK (aC (λ_=>gL ⟨uS cW,rfl⟩) λ_=>⟨jvF cW,rfl⟩)),?_⟩;rintro _ _ ⟨rfl,hw⟩ _;subst hw;refine aC (λU=>?_) (λU=>?_)
 .have I:k<l.length/\n<=100:=by simpa using U
  obtain⟨uo,O⟩:=gx l (i:=(k:Int).toNat) cW;refine aQ cE W cW O (λ_ xY=>aF aV (xY.ext B.aE) ?_);have E:=hl _ (ld O);refine aN cW ?_;have ni:=arz h0 I.2 E.1 E.2;exact Na cW (aN cW ⟨_,cW,k+1,_,rfl,rfl,rfl,cW,ni.1,by rw[J];exact Vb O I.2,B⟩)
 have hn12:¬ (k<l.length/\n<=100):=by simpa using U
 rw[J,ZA cW];exact⟨rfl,B.aE⟩
def C87(cv:Value)(cut:List Int)(w:World)(M:eN (λ_=>True) w cv cut)(V:cut.length<=1000000):CR 87 [cv] w (λv w'=>v=jK (wR cut cut.length)/\Ext w w'):=by
 have B:=St.start w;refine ans _ _ _ ?_;unfold S87;refine⟨λE n x J=>∃k:Nat,n=jK (wR cut k)/\x=jK (k:Int)/\E=cut.length-k/\k<=cut.length/\St w aY [] J,⟨_,0,rfl,rfl,rfl,o6 _,B⟩,?_⟩;rintro E _ _ J ⟨k,rfl,rfl,rfl,W,B⟩ _;refine aI cE (M.ext B.aE) (aK (aC (λjr=>?_) λ_=>⟨by rw[show cut.length=k from cW],B.aE⟩));refine Am ?_;obtain⟨U,I⟩:=gx cut (i:=(k:Int).toNat) cW;exact aQ cE M cW I (λ_ O=>aF aV (O.ext B.aE) (DF (aN cW ⟨_,cW,k+1,by rw[ZB (k:=k) I],rfl,rfl,cW,B⟩)))
def C30(K:jj)(p:Nat)(m:gQ)(w:World)(hm:Has (eZ K p m) w)(hw:K w)(om:∀w',Ext w w'->K w')(iS:nL m)(hb:MB m.mem 1000000)(hC:(dD (r7 m.mem)).length<=1000000000):CR 30 [(.pointer (some ⟨p,0,none⟩))] w (λv w'=>mr (fW v (jC m)) w w'):=by
 obtain⟨a,I⟩:=eZ.rd hm;have Rp:=I.b.cell (o:=8) rfl;have zm:=I.b.cell (o:=11) rfl;have Rq:=I.b.cell (o:=1) rfl;have WU:=I.b.cell (o:=3) rfl;have OO:=I.b.cell (o:=9) rfl;have yq:=I.b.cell (o:=10) rfl;have wz:=I.b.cell (o:=12) rfl;have vZ:=I.b.cell (o:=13) rfl;have sT:=I.b.cell (o:=14) rfl;have zR:=I.b.cell (o:=15) rfl;have B:=St.start w;refine amV _ _ _ ?_;unfold S30;refine bJ (@adr dN) B mq rfl rfl (dV rfl) (λabF w1 B=>aD (aA qi (aU Dt (zm.ext B.aE) (eR aB6 (C81 a.q m.mem _ (I.mem.ext B.aE) iS.mem hb hC) ?_))));rintro M _ cJ;have B:=B.made cJ
 obtain⟨E,B⟩:=B.wK;have Nz:=B.Tb;have hdl:=El (rV m.mem) (dD (r7 m.mem));have Ri:(vX m.mem).length=(Ej (rV m.mem) (dD (r7 m.mem))).1.length:=rfl;have B:=B.p1.p1.p2;refine⟨λW o x w1=>∃k:Nat,x=jK (k:Int)/\W=E.length-k/\k<=E.length/\(m.fault=0\/k=0)/\St w aY [bE o ((E.take k).map pk3),bE M E,fB (jF E (vX m.mem))] w1,⟨_,0,rfl,rfl,o6 _,.inr rfl,B⟩,?_⟩;rintro W iW _ _ ⟨k,rfl,rfl,xk,U,B⟩ _;refine⟨λjv w'=>jv=.bool (decide (k<E.length/\m.fault=0))/\St w aY [bE iW ((E.take k).map pk3),bE M E,fB (jF E (vX m.mem))] w',aI nd B.p1.fu (aK (aC (λ_=>aD (aA yM (aU aV (sT.ext B.aE) (aH ⟨vb (by first|exact(gD cW).symm|exact hI.2 cW),B⟩)))) λ_=>⟨vb (by first|exact(gD cW).symm|exact hI.2 cW),B⟩)),?_⟩
 rintro _ _ ⟨rfl,B⟩ _;refine aW (λV=>?_) (λV=>?_)
 .have O:k<E.length/\m.fault=0:=by simpa using V
  obtain⟨jA,jX⟩:=gx E (i:=(k:Int).toNat) cW;refine cH B.p1 nd cW cW (λ_ si=>eK B.p1 cZ si jX (pop (v:=j6 (pk3 jA)) (Fa _ _ _ _) (bJ ([pk3 jA]) B mq rfl rfl (dV rfl) λQE _ B=>?_)));have Jj:=B.fu;exact bW B.p1 mq Jj (by simp;omega) dO (λ_ _ B=>have B:=B.p1.drop;aN cW (have B:=B.p2.p2.p2;⟨_,cW,k+1,rfl,rfl,cW,.inl O.2,by rw[<- jb (k:=k) jX];exact B⟩))
 have B:=B.p1.drop.p1
 have YJ:jC m=if m.fault=0 then(vX m.mem).map (λc=>(⟨3,0,0,c⟩:dY))else []:=by
  unfold jC
  by_cases J:m.fault=0
  .rw[fU cW,fV J]
  .rw[fV J,fU J]
 rw[YJ]
 by_cases J:m.fault=0
 .have:¬ (k<E.length/\m.fault=0):=by simpa using V
  rw[mE cW]at B;rw[fV J];exact(St.An (B.dT λ_ h=>WW h).p1).fresh
 rw[fU J];rw[U.resolve_left J]at B;exact B.drop.auW.fresh
def C27(K G:jj)(p q:Nat)(m:gQ)(w:World)(O:Has (fN K p m) w)(hw:K w)(E:∀w',Ext w w'->K w')(I:nL m)(xk:Has (eZ G q m) w)(hwG:G w)(Sf:∀w',Ext w w'->G w')(GG:m.u.cD.length<=1000)(hcz:∀l∈m.u.cD,l.length<=1000)(gj:0<=m.u.stays/\m.u.stays<=m.mem.l.length)(Ld:yD m.mem.l)(Mi:∀t∈m.l,t.aJ.length<=1000000)(uf:(cT m).length<=1073741824)(hpc:∀x∈cT m,x.cut.length<=1000000):CR 27 [(.pointer (some ⟨p,0,none⟩)),(.pointer (some ⟨q,0,none⟩))] w (λv w'=>v=.bool true/\Ext w w'):=by
 obtain⟨a,M⟩:=eZ.rd xk;obtain⟨ov2,fv2,lv2,kv2,wv2,ws2,aHq,dmb,dmo,dmf,dml,dmk,dmw⟩:=M.mem.ex;have dq2:=dmb.cell (o:=2) rfl;have dq3:=dmb.cell (o:=3) rfl;have U:=M.b.cell (o:=11) rfl;have J:=M.b.cell (o:=13) rfl;have F3:=I.mem.fl;have IG:=I.mem.ll;have Da:=I.mem.kl;have hol2:=I.mem.Lc;have hkl9:=M.len;have htl9:=I.tl;have B:=St.start w;refine amS _ _ _ _ ?_;unfold S27;refine⟨λjv w'=>jv=.bool false/\St w aY [] w',?_,?_⟩
 .have B:=B.drew;refine dF MZ B (C16 K p m _ (O.ext B.aE) (E _ B.aE) (λ_ e=>E _ (Ext.trans B.aE e)) I) (λx7 w1 W B=>dF aaj B (C32 G q m _ (xk.ext B.aE) (Sf _ B.aE) (λ_ e=>Sf _ (Ext.trans B.aE e)) I) λx9 w2 W B=>aZ amP B (C20 _ _ (cT m) (cT m) _ B.p1.dl B.dl uf hpc) λ_ he B=>bV (fI eU (aZ amO B (C18 K p m _ (O.ext B.aE) (E _ B.aE) (λ_ e=>E _ (Ext.trans B.aE e)) I) λ_ he B=>aZ aB4 B (C78 G q m _ (xk.ext B.aE) (Sf _ B.aE) (λ_ e=>Sf _ (Ext.trans B.aE e)) I) λ_ he B=>E6 aaY rfl rfl (Zq _) (fI eU (aD (aA qi (aU Dt (U.ext B.aE) (aD ?_))))))))
  refine aA tD (aU cZ (dq2.ext B.aE) (dF amQ B (C22 K p m _ (O.ext B.aE) (E _ B.aE) (λ_ e=>E _ (Ext.trans B.aE e)) I) λZS _ W B=>?_));refine⟨aG Dt (U.ext B.aE),?_⟩;refine⟨aG cZ (dq2.ext B.aE),?_⟩;refine aZ O8 B (C21 _ _ m.mem.l m.mem.l _ B.fu (dml.ext B.aE) cW) (λ_ he B=>bV (fI eU (aD (aA qi (aU Dt (U.ext B.aE) (aD (aA Ac (aU cZ (dq3.ext B.aE) (dF asQ B (C23 K p m _ (O.ext B.aE) (E _ B.aE) (λ_ e=>E _ (Ext.trans B.aE e)) I) λx34 _ W B=>?_)))))))));refine⟨aG Dt (U.ext B.aE),?_⟩
  refine⟨aG cZ (dq3.ext B.aE),?_⟩;exact aZ O8 B (C21 _ _ m.mem.kept m.mem.kept _ B.fu (dmk.ext B.aE) cW) (λ_ _ B=>bV (fI eU (dF asY B (C49 K p m _ (O.ext B.aE) (E _ B.aE) (λ_ e=>E _ (Ext.trans B.aE e)) I GG hcz gj) λ_ _ _ B=>dF aB5 B (C79 G q m _ (xk.ext B.aE) (Sf _ B.aE) (λ_ e=>Sf _ (Ext.trans B.aE e)) I GG hcz gj Ld) λ_ _ _ B=>aZ asZ B (C50 _ _ (wT m) (wT m) _ B.p1.fu B.fu (by unfold wT;rw[qE];omega)) λ_ _ B=>bV (have B:=B.drop.drop.drop.drop.drop.drop;⟨vb eU,B⟩))))
 rintro _ _ ⟨rfl,B⟩ _;refine fM ?_;refine⟨λmm x w1=>∃k:Nat,x=jK (k:Int)/\mm=a.ps.length-k/\k<=a.ps.length/\St w aY [] w1,⟨_,0,rfl,rfl,o6 _,B⟩,?_⟩;rintro mm _ _ ⟨k,rfl,rfl,hk9,B⟩ _;refine aD (aA mK (aU zO (J.ext B.aE) (aI CB (M.ll.ext B.aE) (aK (aC (λWg=>?_) λWg=>⟨λjv w'=>jv=.bool true/\St w aY [] w',?_,?_⟩)))))
 .obtain⟨t,ht⟩:=gx m.l (i:=k) cW;have wQ:=ld ht;have htb:=(I.th t wQ).bl;have htr:=Mi t wQ;have hrm:zG m (k:Int)=t.aJ:=Rs cW ht;have hbm:Rr m (k:Int)=t.buf:=WV cW ht;refine⟨λjv w'=>jv=.bool false/\St w aY [] w',?_,?_⟩
  .refine aD (aA mK (have B:=B.drew;aU zO (J.ext B.aE) ?_));obtain⟨Wt,vM⟩:=gx a.ps (i:=(k:Int).toNat) cW;refine aQ CB M.ll cW vM (λ_ Ce=>aF Ad (Ce.ext B.aE) ?_);obtain⟨bp,gl,rg,cn,_,kS,hB,AM,Rl⟩:=gn.rd (M.th k _ _ vM ht);obtain⟨bsv,_,uQ,hBL⟩:=hB;have V:=kS.cell (o:=4) rfl;have Mh:=kS.cell (o:=6) rfl;refine aD (aA xN (aU cZ (V.ext B.aE) (dF afL B (C25 K p m (k:Int) _ (O.ext B.aE) (E _ B.aE) (λ_ e=>E _ (Ext.trans B.aE e)) I Mi) λx64 _ W B=>?_)));refine⟨aG zO (J.ext B.aE),?_⟩
   refine⟨eG Ad (Ce.ext B.aE),?_⟩;refine⟨aG cZ (V.ext B.aE),?_⟩;refine aZ O8 B (C21 _ _ (zG m (k:Int)) t.aJ _ B.fu (AM.ext B.aE) (by rw[hrm];omega)) (λ_ he B=>bV (fI (by rw[hrm];simp) (aD (aA mK (aU zO (J.ext B.aE) (aQ CB M.ll cW vM λ_ QL=>aF Ad (QL.ext B.aE) ?_))))));obtain⟨bp,gl,rg,cn,_,kS,hB,AM,Rl⟩:=gn.rd (M.th k _ _ vM ht);obtain⟨bsv,_,uQ,hBL⟩:=hB;have V:=kS.cell (o:=4) rfl;have Mh:=kS.cell (o:=6) rfl;refine aD (aA l9 (aU vn (Mh.ext B.aE) (aD (aA im (aU mO (uQ.ext B.aE) (dF asV B (C35 K p m (k:Int) _ (O.ext B.aE) (E _ B.aE) (λ_ e=>E _ (Ext.trans B.aE e)) I) λx80 _ W B=>?_))))))
   refine⟨aG zO (J.ext B.aE),?_⟩;refine⟨eG Ad (QL.ext B.aE),?_⟩;refine⟨aG vn (Mh.ext B.aE),?_⟩;refine⟨aG mO (uQ.ext B.aE),?_⟩;exact aZ aBI B (C36 _ _ (Rr m (k:Int)) t.buf _ B.fu (hBL.ext B.aE) (by rw[hbm];omega)) (λ_ _ B=>bV (have B:=B.drop.drop;⟨vb (by rw[hbm];simp),B⟩))
  rintro _ _ ⟨rfl,B⟩ _;exact fM (aN cW ⟨_,cW,k+1,rfl,rfl,cW,B⟩)
 .refine aD (aA mK (aU zO (J.ext B.aE) (aI CB (M.ll.ext B.aE) (dF afL B (C25 K p m _ _ (O.ext B.aE) (E _ B.aE) (λ_ e=>E _ (Ext.trans B.aE e)) I Mi) λaHs _ W B=>?_))));have hro:zG m (a.ps.length:Int)=[]:=Mf cW;refine aI cE B.fu (aH (il (gq (by rw[hro];rfl)) (dF asV B (C35 K p m (-1) _ (O.ext B.aE) (E _ B.aE) (λ_ e=>E _ (Ext.trans B.aE e)) I) λx108 _ W B=>?_)));have hbo:Rr m (-1)=[]:=Rt cW;exact aI jO B.fu (aH (have B:=B.drop.drop;⟨vb (gq (by rw[hbo];rfl)),B⟩))
 rintro _ _ ⟨rfl,B⟩ _;exact⟨rfl,B.aE⟩
section
variable {m:gQ}
theorem GM.gj(h:GM m):0<=m.u.stays/\m.u.stays<=m.mem.l.length:=by
 have h1:=h.ru.st;have h2:=h.mem.ll;have h3:=h.ru.fl
 rw[h.cO]at h2
 exact⟨h1.1,cW⟩
theorem GM.Mi(h:GM m):∀t∈m.l,t.aJ.length<=1000000:=λt ht=>by
 have h1:=(h.th t ht).1
 have:=h1.rg;have:=h1.code.rb
 omega
theorem GM.uf(h:GM m):(cT m).length<=1000000:=by
 unfold cT
 split
 .simp
 have h1:=tU h.ok m.l.length
 have h2:=h.tl
 exact x5 h1 cW
theorem Sl(m:gQ):∀x∈cT m,x.cut=[]:=λx B=>by
 unfold cT at B
 split at B
 .cases B
 .unfold kf at B
  obtain⟨i,_,E⟩:=List.mem_flatMap.1 B
  split at E
  .unfold sS at E
   rcases r3.1 E with h1|h1
   .split at h1
    .rw[s7.1 h1]
    .cases h1
   .obtain⟨k,_,rfl⟩:=r5.1 h1;rfl
  .cases E
end
section
variable {r b:Prop}{X Y Z:Prop}
theorem aHt{u:iz}{room:Int}(B:iY u=true)(E:1<=room/\room<=16)(h:(iY u=false/\X)\/(iY u=true/\(room<1\/16<room)/\Y)\/(iY u=true/\1<=room/\room<=16/\Z)):Z:=by
 rcases h with h|h|h
 .rw[B]at h;cases h.1
 .exfalso;omega
 exact h.2.2.2
end
def Ek(t:fR):Prop:=∀x,gP t=some x->t.fault=0->t.e=(dE x.e t.aJ).1/\t.f=(dE x.f t.aJ).1
theorem ZC{t:fR}(h:(fK t).2=false):Ek (fK t).1:=by
 intro x I E
 cases hn:gP t with
 | none=>rw[yn hn]at I;rw[I]at hn;cases hn
 | some y=>
  cases he:(dE y.e t.aJ).2 with
  | false=>rw[yo hn he]at E;simp[tE,he]at E
  | true=>
   cases XV:(dE y.f t.aJ).2 with
   | false=>rw[yp hn he XV]at E;simp[tF,tE,XV]at E
   | true=>
    rw[lL hn he XV]at h I E |-
    have e:∀z,gP (tF (tE t y) y)=some z->z=y:=by
     intro z J
     have:gP (tF (tE t y) y)=gP t:=rfl
     rw[this,hn]at J;exact(qa.inj J).symm
    by_cases h1:y.kind=1
    .rw[Rk h1]at h;cases h
    by_cases h2:y.kind=11
    .rw[JS h2]at h;cases h
    by_cases h3:y.kind=12
    .by_cases B:(dE y.e t.aJ).1=0
     .rw[Em h3 B]at h;cases h
     .rw[En h3 B]at h;cases h
    by_cases h4:y.kind=13
    .rw[JT h4]at h;cases h
    by_cases h5:y.kind=14
    .by_cases B:0<qj ((tF (tE t y) y).counts.getD y.a.toNat 0-1)
     .rw[Eo h5 B]at h;cases h
     .rw[Ep h5 B]at h;cases h
    by_cases h6:y.kind=15
    .by_cases B:(dE y.e t.aJ).1=0
     .rw[Er h6 B]at E;cases E
     .rw[Es h6 B]at h;cases h
    rw[JU h1 h2 h3 h4 h5 h6]at I |-
    have:=e x I;subst this
    exact⟨rfl,rfl⟩
theorem OE:∀{n:Nat}{t t':fR},sB n t=some t'->Ek t'
 | 0,_,_,h=>by cases h
 | n+1,t,t',h=>by
  unfold sB at h
  split at h
  .exact OE h
  .rename_i hs;cases h;exact ZC (by simpa using hs)
structure To(t:fR):Prop where
 r:yD t.aJ
 e:gb t.e
 f:gb t.f
 b:∀y∈t.buf,gb y.n
def To.go{t:fR}(h:To t):To (fK t).1:=by
 refine⟨oW h.r,?_,?_,by rw[(qW t).2];exact h.b⟩
 all_goals
  unfold fK
  split
  .first|exact h.e|exact h.f
  .rename_i x _
   split
   .split
    .unfold zh
     repeat' split
     all_goals first|exact Hw h.r|exact h.f
    .first|exact Hw h.r|exact h.f
   .first|exact Hw h.r|exact h.f
theorem To.sB:∀{n:Nat}{t t':fR},To t->sB n t=some t'->To t'
 | 0,_,_,_,h=>by cases h
 | n+1,t,t',B,h=>by
  unfold Go.Proofs.YtnjcingfdhjfkaaGreat.sB at h
  split at h
  .exact B.go.sB h
  .cases h;exact B.go
theorem To.oR(c:gp):To (oR c):=⟨Se c,mg,mg,λy B=>by cases B⟩
structure Mo(m:Mem):Prop where
 l:yD m.l
 k:yD m.kept
 f:yD m.cO
 p:∀k,∀x∈m.gu k,gb x.n
theorem Kq:∀{ws:List jV}{k:List Int},yD k->(∀x∈ws,gb x.n)->yD (qc k ws)
 | [],k,B,_=>B
 | w::ws,k,B,h=>by
  show yD (qc (k.set w.cell.toNat w.n) ws)
  exact Kq (B.set (h w (uc ..))) λx E=>h x (s8 _ E)
section
variable {m:Mem}
theorem Mo.write(h:Mo m){c n:Int}(E:gb n):Mo (gF m c n):=by
 unfold gF
 split
 .refine⟨h.l.set E,h.k,h.f,λk x B=>?_⟩
  dsimp only at B
  split at B
  .rcases Hp B with h1|h1
   .rcases r3.1 h1 with h2|h2
    .exact h.p _ x h2
    grind
   exact h.p _ x h1
  exact h.p _ x B
 exact h
theorem Mo.out(h:Mo m){n:Int}:Mo (sR m n):=by
 unfold sR
 split
 .refine⟨h.l,Kq h.k (h.p _),h.f,λk x B=>?_⟩
  rcases Hp B with h1|h1
  .cases h1
  exact h.p _ x h1
 exact h
theorem Sm(h:Mo m)(cut:List Int):∀k,yD (o8 m cut k)
 | 0=>h.k
 | k+1=>by
  have B:=Sm h cut k
  unfold o8 at B |-
  rw[D3,List.foldl_append]
  exact Kq B λx E=>h.p _ x (CP E)
theorem Mo.RW(h:Mo m){cut nx:List Int}(B:gW m cut=some nx):Mo (rU m nx):=by
 have E:yD nx:=by
  unfold gW at B
  split at B
  .cases B;exact Sm h cut _
  .cases B
 refine⟨λv I=>?_,E,h.f,λk x J=>by cases J⟩
 rcases r3.1 (show v∈nx++m.cO.drop nx.length from I)with h1|h1
 .exact E v h1
 exact h.f v (List.mem_of_mem_drop h1)
theorem aeY(h:Mo m)(c:Int):gb (oO m c):=by
 unfold oO
 split
 .rw[oi]
  cases hg:m.l[c.toNat]? with
  | none=>exact mg
  | some v=>exact h.l v (ld hg)
 exact mg
end
theorem aeZ{l:List aX}{c:Int}(h:∀y∈l,gb y.n):gb ((lU l c).getD 0):=by
 unfold lU
 cases hf:l.reverse.find? (λx=>decide (x.kind=3/\x.cell=c))with
 | none=>exact mg
 | some y=>grind
theorem ZD{l:List aX}{i:Int}(h:∀y∈l,gb y.n):gb (dK l i).n:=by
 unfold dK
 split
 .cases hg:l[i.toNat]? with
  | none=>exact mg
  | some y=>grind
 exact mg
def ZE{l:List aX}{i:Int}{y:aX}(h:y∈kR l i):y∈l:=by
 unfold kR at h
 split at h
 .exact List.mem_of_mem_eraseIdx h
 exact h
def ae0{room:Int}{l:List aX}{x y:aX}(h:y∈qb room l x):y∈l\/y=x:=by
 unfold qb at h
 grind
structure Vo(m:gQ):Prop where
 th:∀t∈m.l,Ek t/\To t
 mem:Mo m.mem
section
variable {m:gQ}{t:fR}
theorem Vo.out{q:dY}(h:Vo m)(ht:m.l[q.t.toNat]?=some t):Vo (lf m t q):=by
 obtain⟨h1,h2⟩:=h.th t (ld ht)
 refine⟨λt' E=>?_,?_⟩
 .rcases EP (show t'∈m.l.set _ _ from E)with h3|h3
  .exact h.th t' h3
  subst h3
  exact⟨h1,h2.r,h2.e,h2.f,λy B=>h2.b y (ZE B)⟩
 show Mo (ir m.mem (dK t.buf q.i))
 unfold ir
 split
 .exact h.mem.write (ZD h2.b)
 split
 .exact h.mem
 exact h.mem.out
theorem ae1{i:Int}{x:bF}(h:Mo m.mem)(h2:To t):To (dJ m t i x).2.1/\Mo (dJ m t i x).1.mem:=by
 have B:=λc=>aeY h c
 have I:gb (zH m t x):=by
  unfold zH
  split
  .exact aeZ h2.b
  .exact B _
 have E:gb (oP m t x).n:=by
  unfold oP
  split
  .exact h2.e
  .exact mg
 unfold dJ
 repeat' split
 .exact⟨⟨h2.r.set I,h2.e,h2.f,h2.b⟩,h⟩
 .refine⟨⟨h2.r.set (B _),h2.e,h2.f,h2.b⟩,?_⟩
  unfold AX
  split
  .exact h.write h2.f
  exact h
 .exact⟨h2,h⟩
 .exact⟨h2,h⟩
 .refine⟨h2,?_⟩
  unfold sr
  split
  .exact h
  exact h
 exact⟨⟨h2.r,h2.e,h2.f,λy h3=>(ae0 h3).elim (h2.b y) λe=>by rw[e];exact E⟩,h⟩
theorem ae2{i:Int}{x:bF}(E:m.fault=0)(B:¬ (dJ m t i x).1.fault=0):x.kind=10/\¬ m.locks.getD x.b.toNat 0=i/\dJ m t i x=({m with fault:=3,iP:=i},t,⟨16,0,3,0,0⟩):=by
 unfold dJ at B |-
 split at B
 .exact absurd E B
 split at B
 .unfold AX at B;split at B<;>exact absurd E B
 split at B
 .exact absurd E B
 split at B
 .exact absurd E B
 split at B
 .rename_i h1 h2 h3 h4 h5
  unfold sr at B
  split at B
  .exact absurd E B
  rename_i h6
  rw[fU h1,fU h2,fU h3,fU h4,fV h5]
  unfold sr Cn
  rw[fU h6,fU h6]
  exact⟨h5,h6,rfl⟩
 exact absurd E B
theorem Vo.step{N:Nat}{i:Int}{U:gQ}{ev:bU}(h:Vo m)(W:m.fault=0)(B:nM N m i=some (U,ev)):Vo U:=by
 cases ht:m.l[i.toNat]? with
 | none=>unfold nM at B;rw[ht]at B;cases B
 | some t=>
  have E:=h.th t (ld ht)
  by_cases M:t.fault≠0
  .rw[(zo B ht M).1];exact⟨h.th,h.mem⟩
  .obtain⟨x,V⟩:=zp B ht M
   have I:=ae1 (i:=i) (x:=x) h.mem E.2
   by_cases hb:(dJ m t i x).1.fault=0
   .obtain⟨t2,O,rfl,_⟩:=zq B ht M V hb
    refine⟨λt' J=>?_,I.2⟩
    rw[J0]at J
    rcases EP (show t'∈m.l.set _ _ from J)with h4|h4
    .exact h.th t' h4
    .subst h4
     exact⟨OE O,To.sB (t:={ (dJ m t i x).2.1 with at_:=(dJ m t i x).2.1.at_+1}) ⟨I.1.r,I.1.e,I.1.f,I.1.b⟩ O⟩
   .obtain⟨rfl,_⟩:=zs B ht M V hb
    rw[(ae2 W hb).2.2]
    refine⟨λt' J=>?_,h.mem⟩
    rcases EP (show t'∈m.l.set _ _ from J)with h4|h4
    .exact h.th t' h4
    .subst h4;exact E
theorem Vo.RW{q:dY}{nx:List Int}{N:Nat}(h:Vo m)(B:ig m q=some nx)(E:sB N (oR m.u.recover)=some t):Vo (j3 (v8 m nx) [t]):=by
 have I:gW m.mem q.cut=some nx:=by unfold ig at B;split at B;exact B;cases B
 refine⟨λt' J=>?_,h.mem.RW I⟩
 obtain rfl:t'=t:=by simpa using(show t'∈[t]from J)
 exact⟨OE E,(To.oR _).sB E⟩
theorem ae3{q:dY}(B:(cT m).any (jo q)=true):m.fault=0:=by
 unfold cT at B
 split at B
 .cases B
 omega
theorem Vo.do{N:Nat}{q:dY}{m2:gQ}{ev:bU}{e:Int}(h:Vo m)(hd:ET N m q=some (m2,ev,e)):Vo m2:=by
 cases hc:ig m q with
 | some nx=>obtain⟨t,J,I,_⟩:=sV hd hc;rw[I];exact h.RW hc J
 | none=>
  by_cases B:(cT m).any (jo q)=true
  .by_cases E:q.kind=2
   .obtain⟨_,t,ht⟩:=tZ B
    rw[(rW hd hc B E ht).1];exact h.out ht
   .exact h.step (ae3 B) (oS hd hc B E).1
  .rw[(pa hd hc B).1];exact h
end
def Vo.new{N:Nat}{u:iz}{room:Int}{mv:List fR}(M:Gv u)(hb:sU N u.threads mv):Vo (j3 (jh u room) mv):=by
 have B:yD u.cO:=λv U=>by
  have h1:=M.fr v U
  unfold gb
  omega
 refine⟨λt ht=>?_,B,B.take _,B,λk x J=>by cases J⟩
 obtain⟨i,E⟩:=pB (show t∈mv from ht)
 have O:=(l0.1 E).1
 obtain⟨c,hc⟩:∃c,u.threads[i]?=some c:=⟨_,nT (by rw[<- hb.1];exact O)⟩
 have I:=hb.2 i c t hc E
 exact⟨OE I,(To.oR c).sB I⟩
def sy(K:jj)(p:Nat)(m:gQ)(i:Nat)(tp:Ptr):HP:=uI λa:MA=>fact (RK K a m/\a.ps[i]?=some tp/\a.ps.length=m.l.length/\i<m.l.length) (sep (cI p (pD a m)) (sep (gJ a.q m.mem) (sep (bE a.lk m.locks) (sep (bE a.ll a.ps) (qN (qX K m.room) a.ps m.l i)))))
section
variable {w w0:World}{A:Nat->Prop}{R:List HP}{p:Nat}{K:jj}{m:gQ}{a:MA}{i:Nat}{tp:Ptr}{t:fR}
theorem sy.open(B:St w0 A (sy K p m i tp::R) w):∃a,(RK K a m/\a.ps[i]?=some tp/\a.ps.length=m.l.length/\i<m.l.length)/\St w0 A (cI p (pD a m)::gJ a.q m.mem::bE a.lk m.locks::bE a.ll a.ps::qN (qX K m.room) a.ps m.l i::R) w:=by
 obtain⟨a,B⟩:=B.fH;obtain⟨E,B⟩:=B.pd;exact⟨a,E,BJ B⟩
theorem sy.shut(B:RK K a m/\a.ps[i]?=some tp/\a.ps.length=m.l.length/\i<m.l.length)(E:St w0 A (cI p (pD a m)::gJ a.q m.mem::bE a.lk m.locks::bE a.ll a.ps::qN (qX K m.room) a.ps m.l i::R) w):St w0 A (sy K p m i tp::R) w:=
 St.fD a (St.qM B (BK E))
theorem ZF(B:St w0 A (gn K tp.b m.room t::sy K p m i tp::R) w):St w0 A (eZ K p {m with l:=m.l.set i t}::R) w:=by
 obtain⟨a,⟨E,J,M,I⟩,B⟩:=sy.open B.p1
 have h1:St w0 A (qX K m.room tp t::qN (qX K m.room) a.ps m.l i::_) w:=B.p4.p5
 have h2:=h1.nY I M J
 have h3:=h2.p4.p4.p4.p4
 exact eZ.shut (m:={m with l:=m.l.set i t}) ⟨E.ln,E.cl,E.rc⟩ h3
theorem ZG{x:bF}(h:gP t=some x):t.code.l[t.at_.toNat]?=some x:=by
 unfold gP at h
 split at h
 .cases h
 exact h
end
def C150(K:jj)(p:Nat)(m:gQ)(i kd:Int)(F:Nat->Prop)(w:World)(I:(eZ K p m).p w F):CR 150 [(.pointer (some ⟨p,0,none⟩)),jK i,jK kd] w (λv w'=>v=j6 (⟨16,i,kd,0,0⟩:bU)/\pk F (eZ K p {m with fault:=kd,iP:=i}) w w'):=by
 have B:=St.begin I;obtain⟨a,E,B⟩:=eZ.open B;have J:=B.p4.jy;refine agf _ _ _ _ _ ?_;unfold S150;exact aR B kV (λ_ _ B=>aD (aA yM (aS B.p1 aV (dV rfl) (rfl) λ_ B=>aD (aA VQ (aS B aV (dV rfl) (rfl) λ_ B=>pop (qL _ _ _) (aO (x:=(⟨16,i,kd,0,0⟩:bU)) B.p1 eV rfl rfl λ_ B=>aF eV B.At (have B:=eZ.shut (m:={m with fault:=kd,iP:=i}) ⟨E.ln,E.cl,E.rc⟩ B.p5.p5.p5.p5.p5;have B:=B.p1.drop;⟨rfl,B.mut⟩)))))))
def C88(K:jj)(p:Nat)(m:gQ)(q:dY)(t:fR)(F:Nat->Prop)(w:World)(hF:(eZ K p m).p w F)(hK:∀w',js F w w'->K w')(iS:nL m)(ni:MB m.mem 1000000)(h0:0<=q.t)(ht:m.l[q.t.toNat]?=some t):CR 88 [(.pointer (some ⟨p,0,none⟩)),jK q.t,jK q.i] w (λv w'=>v=j6 (oQ q.t (dK t.buf q.i))/\pk F (eZ K p (lf m t q)) w w'):=by
 have B:=St.begin hF;obtain⟨a,E,B⟩:=eZ.open B;have lu:=B.p4.jy;have zV:=(iS.th t (ld ht)).bl;have pF:=(l0.1 ht).1;refine ant _ _ _ _ _ ?_;unfold S88;refine aR B kV (λLa _ B=>aD (aA mK (aB zO B.p1.hb rfl ?_)));obtain⟨rF,M⟩:=gx a.ps (i:=q.t.toNat) cW;refine cH B.p4 CB cW cW (λ_ pS=>eK B.p4 Ad pS M ?_);have B:=B.p5.focus M ht;obtain⟨bp,gl,rg,cn,mI,B⟩:=gn.open B;refine aD (aA l9 (aB vn B.hb rfl (bI atq B.p1 (H':=λ_=>kC bp m.room (kR t.buf q.i)) (Φ:=λv _=>v=.tuple #[j6 (dK t.buf q.i),jK (AS t.buf q.i)]) (λV O eO=>?_) ?_)))
 .exact C147 bp m.room t.buf q.i V _ O cW
 rintro _ _ rfl B;refine bD rfl (bD rfl (aR B tf λDZ _ B=>aO (x:=(dK t.buf q.i)) B iI rfl rfl λ_ B=>aA iJ (aB (v:=jK ((dK t.buf q.i).kind)) aV B.hb rfl (aH (aC (λI=>?_) λI=>aA iJ (aB (v:=jK ((dK t.buf q.i).kind)) aV B.hb rfl (aH (aC (λJ=>?_) λJ=>?_))))))))
 .refine aD (aA qi (have B:=B.drew;aB Dt B.p7.hb rfl (aA ma (aB (v:=jK ((dK t.buf q.i).cell)) aV B.hb rfl (aA mc (aB (v:=jK ((dK t.buf q.i).n)) aV B.hb rfl (bI akm B.p8 (H':=λ_=>gJ a.q (gF m.mem (dK t.buf q.i).cell (dK t.buf q.i).n)) (Φ:=λ_ _=>True) (λV O eO=>?_) ?_)))))))
  .exact(C148 a.q m.mem V _ _ _ O iS.mem ni).mono λ_ _ r=>r.mono λ_ _ h=>⟨trivial,h.2⟩
  rintro _ _ _ B;refine aA ma (aB (v:=jK ((dK t.buf q.i).cell)) aV B.p1.hb rfl (aA mc (aB (v:=jK ((dK t.buf q.i).n)) aV B.p1.hb rfl (pop (xe _ _ _ _) (aO (x:=(⟨12,q.t,(dK t.buf q.i).cell,(dK t.buf q.i).n,0⟩:bU)) B.p7 eV rfl rfl λ_ B=>aF eV B.At ?_)))));have B:=St.nY (H:=qX K m.room) (x:={t with buf:=kR t.buf q.i}) (((gn.shut (t:={t with buf:=kR t.buf q.i}) mI B.p6.p6.p5.p6).p4).p1) (by have:=(l0.1 ht).1;omega) lu M;have W:ir m.mem (dK t.buf q.i)=gF m.mem (dK t.buf q.i).cell (dK t.buf q.i).n:=by unfold ir;rw[fV I]
  have U:oQ q.t (dK t.buf q.i)=⟨12,q.t,(dK t.buf q.i).cell,(dK t.buf q.i).n,0⟩:=by unfold oQ;rw[fV I]
  have B:=(show St w F (cI p (pD a (lf m t q))::gJ a.q (lf m t q).mem::_) _ from by unfold lf;rw[W];exact B.p6.p6.p4.p6);have B:=((((eZ.shut (m:=lf m t q) ⟨E.ln,E.cl,E.rc⟩ B).p1).drop).p1).drop;refine⟨?_,B.mut⟩;rw[U]
 .refine pop (Br _ _) (aO (x:=(⟨14,q.t,0,0,0⟩:bU)) B.p6 eV rfl rfl λ_ B=>aF eV B.At ?_);have B:=St.nY (H:=qX K m.room) (x:={t with buf:=kR t.buf q.i}) (((gn.shut (t:={t with buf:=kR t.buf q.i}) mI B.p5.p5.p4.p5).p3).p1) (by have:=(l0.1 ht).1;omega) lu M;have W:ir m.mem (dK t.buf q.i)=m.mem:=by unfold ir;rw[fU I,fV J]
  have U:oQ q.t (dK t.buf q.i)=⟨14,q.t,0,0,0⟩:=by unfold oQ;rw[fU I,fV J]
  have B:=(show St w F (cI p (pD a (lf m t q))::gJ a.q (lf m t q).mem::_) _ from by unfold lf;rw[W];exact B.p6.p6.p6.p6);have B:=((((eZ.shut (m:=lf m t q) ⟨E.ln,E.cl,E.rc⟩ B).p1).drop).p1).drop;refine⟨?_,B.mut⟩;rw[U]
 refine aD (aA qi (have B:=B.drew;aB Dt B.p7.hb rfl (aA ix (aB (v:=jK ((dK t.buf q.i).line)) aV B.hb rfl (bI atu B.p8 (H':=λ_=>gJ a.q (sR m.mem (dK t.buf q.i).line)) (Φ:=λ_ _=>True) (λV O eO=>?_) ?_)))))
 .exact(C149 a.q m.mem V _ _ O iS.mem ni).mono λ_ _ r=>r.mono λ_ _ h=>⟨trivial,h.2⟩
 rintro _ _ _ B;refine aA ix (aB (v:=jK ((dK t.buf q.i).line)) aV B.p1.hb rfl (pop (qL _ _ _) (aO (x:=(⟨13,q.t,(dK t.buf q.i).line,0,0⟩:bU)) B.p7 eV rfl rfl λ_ B=>aF eV B.At ?_)));have B:=St.nY (H:=qX K m.room) (x:={t with buf:=kR t.buf q.i}) (((gn.shut (t:={t with buf:=kR t.buf q.i}) mI B.p6.p6.p5.p6).p4).p1) (by have:=(l0.1 ht).1;omega) lu M;have W:ir m.mem (dK t.buf q.i)=sR m.mem (dK t.buf q.i).line:=by unfold ir;rw[fU I,fU J]
 have U:oQ q.t (dK t.buf q.i)=⟨13,q.t,(dK t.buf q.i).line,0,0⟩:=by unfold oQ;rw[fU I,fU J]
 have B:=(show St w F (cI p (pD a (lf m t q))::gJ a.q (lf m t q).mem::_) _ from by unfold lf;rw[W];exact B.p6.p6.p4.p6);have B:=((((eZ.shut (m:=lf m t q) ⟨E.ln,E.cl,E.rc⟩ B).p1).drop).p1).drop;refine⟨?_,B.mut⟩;rw[U]
set_option maxRecDepth 100000 in
theorem C89(K:jj)(p:Nat)(m:gQ)(N:Nat)(i:Int)(t:fR)(m2:gQ)(ev:bU)(F:Nat->Prop)(w:World)(hF:(eZ K p m).p w F)(hK:∀w',js F w w'->K w')(iS:nL m)(ni:MB m.mem 1000000)(hvm:Mo m.mem)(hvt:Ek t/\To t)(Sy:m.fault=0)(h0:0<=i)(ht:m.l[i.toNat]?=some t)(hmx:∀t∈m.l,∀x∈t.code.l,(x.kind=2\/x.kind=4->0<=x.b/\x.b<m.mem.l.length)/\(x.kind=7\/x.kind=8->x.b=0))(qe:nM N m i=some (m2,ev)):CR 89 [(.pointer (some ⟨p,0,none⟩)),jK i] w (λv w'=>v=j6 ev/\pk F (eZ K p m2) w w'):=by
 have B:=St.begin hF;obtain⟨a,E,B⟩:=eZ.open B;have W:=B.p4.jy;have wQ:=ld ht;have mL:=iS.th t wQ;have zV:=mL.bl;have pF:=(l0.1 ht).1;refine anu _ _ _ _ ?_;unfold S89;refine aR B kV (λxZ _ B=>aD (aA mK (aB zO B.p1.hb rfl ?_)));obtain⟨iO,M⟩:=gx a.ps (i:=(i).toNat) cW;refine cH B.p4 CB cW cW (λ_ jS=>eK B.p4 Ad jS M ?_);have B:=B.p5.focus M ht;obtain⟨bp,gl,rg,cn,J,B⟩:=gn.open B;refine aD (aA xO (aB aV B.hb rfl (bQ (aC (λfX=>?_) λfX=>?_))))
 .refine aD (aA xO (aB aV B.hb rfl ?_));have B:=St.nY (H:=qX K m.room) (x:=t) (((gn.shut (t:=t) J B.p3.p3.p3.p3).p1).p1) (by have:=(l0.1 ht).1;omega) W M;rw[o0 ht]at B;have B:=eZ.shut (m:=m) ⟨E.ln,E.cl,E.rc⟩ B.p5.p5.p5.p5;refine bI akn B (H':=λ_=>eZ K p {m with fault:=t.fault,iP:=i}) (Φ:=λv _=>v=j6 (⟨16,i,t.fault,0,0⟩:bU)) (λU O eO=>?_) ?_
  .exact C150 K p m i t.fault U _ O
  rintro _ _ rfl B;refine aO (x:=(⟨16,i,t.fault,0,0⟩:bU)) B.p1 eV rfl rfl (λ_ B=>aF eV B.At ?_);have B:=B.drop;obtain⟨rfl,rfl⟩:=zo qe ht fX;exact⟨rfl,B.mut⟩
 obtain⟨ts,B4⟩:=J;have J:vY K gl t.code.l:=⟨ts,B4⟩;obtain⟨x,oX⟩:=zp qe ht fX;have hn0:=(B4 _ (hK _ B.aE)).2.1;have vG:=mL.Sv;have Le:=o9 oX;have vK:=ZG oX;obtain⟨Ed,mZ⟩:=gx ts (i:=t.at_.toNat) cW;obtain⟨ge,gf,rfl,_,_⟩:=(B4 _ (hK _ B.aE)).2.2 _ _ _ mZ vK
 have hxE:∀w,K w->eN (λ_=>True) w (j6 ge) x.e:=λw hw=>by
  obtain⟨ge',gf',hh,h1,_⟩:=(B4 w hw).2.2 _ _ _ mZ vK;cases hh;exact DL.flat h1
 have hxF:∀w,K w->eN (λ_=>True) w (j6 gf) x.f:=λw hw=>by
  obtain⟨ge',gf',hh,_,h2⟩:=(B4 w hw).2.2 _ _ _ mZ vK;cases hh;exact DL.flat h2
 obtain⟨hxe,hxf,_,_⟩:=mL.code.ops x Le.1;have hrl:=mL.rg;have Ln:=iS.lk;have hkd:=iS.st t wQ x oX cW;obtain⟨hee,hff⟩:=hvt.1 x oX cW;have Uc:=iS.lkb t wQ x Le.1;have aHv:=iS.lnb t wQ x Le.1;have azh:=iS.al2 t wQ x Le.1;have UW:=hmx t wQ x Le.1;refine aD (aA xM (aA iR (have B:=B.drew;aB l7 B.hb rfl (aD (aA jP (aB aV B.hb rfl (A9 (Wd:=K) jN (λw' hw'=>(B4 w' hw').1) (hK _ B.aE) cW mZ λ_ Ci=>aF gN (Ci _ (hK _ B.aE)) (aR B j7 λLa _ B=>?_))))))));have B:=B.enc (cs':=kp (⟨0,0,0,bL,bL,0⟩:bN)) rfl
 refine⟨aG l7 (B.p1.hb.cell rfl),?_⟩;refine⟨aG aV (B.p1.hb.cell rfl),?_⟩;refine⟨eG gN (Ci _ (hK _ B.aE)),?_⟩;refine aO (x:=(⟨x.kind,x.a,x.b,ge,gf,x.to⟩:bN)) B gN rfl rfl (λ_ B=>aA ou (aB (v:=j6 (ge:SV)) nP B.hb rfl (aZ Vy B (by have h9:=C151 iO.b _ _ t.aJ _ x.e _ B.p1.hb rfl B.p3.fu (hxE _ (hK _ B.aE)) hxe hvt.2.r;rw[<- hee]at h9;exact h9) λ_ he B=>bD rfl (bD rfl (aA iZ (aB (v:=j6 (gf:SV)) nP B.hb rfl (aZ Vy B (by have h9:=C151 iO.b _ _ t.aJ _ x.f _ B.p1.hb rfl B.p3.fu (hxF _ (hK _ B.aE)) hxf hvt.2.r;rw[<- hff]at h9;exact h9) λ_ he B=>bD rfl (bD rfl (aA dS (aB (v:=jK x.b) aV B.hb rfl (pop (X7 _ _) (aR B kV λazi _ B=>aO (x:=(⟨0,i,x.b,0,0⟩:bU)) B eV rfl rfl λ_ B=>⟨λw'=>(dJ m t i x).1.fault=0/\St w F [cI azi (kp ({ (dJ m t i x).2.2 with t:=i}:bU)),gn K iO.b (dJ m t i x).1.room (dJ m t i x).2.1,sy K p (dJ m t i x).1 i.toNat iO,cI xZ [jK 0,jK 0,jK 0,jK 0,jK 0]] w',aA eA (aB (v:=jK x.kind) aV B.p1.hb rfl (aH (aC (λEe=>?_) λEe=>?_))),?_⟩))))))))))))
 .have hxa:=azh (.inl Ee);have hxb:=UW.1 (.inl Ee);refine aD (aA l9 (have B:=B.drew;aB vn B.p2.hb rfl (aA dS (aB (v:=jK x.b) aV B.p1.hb rfl (aZ atv B (C152 bp x.b m.room t.buf _ (Hg B.p3) cW) λ_ he B=>bD rfl (bD rfl (aA rf (aS B aV (dV rfl) (rfl) λ_ B=>?_))))))));have B:=B.enc (cs':=kp ({ (⟨0,i,x.b,0,0⟩:bU)with kind:=2}:bU)) rfl;refine⟨_,?_,λ_ _ h=>h⟩;refine bV (aW (λSn=>?_) λSn=>?_)
  .refine aD (aA qi (have B:=B.drew;aB Dt B.p8.hb rfl ?_));have B:=B.p9;obtain⟨ov,fv,lv,kv,wv,ws,kT,B⟩:=gJ.open B;refine aD (aA tD (aB cZ B.hb rfl (aA dS (aB (v:=jK x.b) aV B.p7.hb rfl ?_))));obtain⟨FU,XK⟩:=gx m.mem.l (i:=x.b.toNat) cW;refine cH B.p3 cE cW cW (λ_ arA=>eK B.p3 aV arA XK ?_);have B:=gJ.shut kT B.p5.p5.p5.p5.p5.p5;have hrv:oO m.mem x.b=FU:=by unfold oO;rw[fV (by unfold KC;exact gq cW),oi,XK];rfl
   refine aA rf (aS B.p1 aV (dV rfl) (rfl) λ_ B=>?_);have B:=B.enc (cs':=kp ({ ({ (⟨0,i,x.b,0,0⟩:bU)with kind:=2}:bU)with kind:=1}:bU)) rfl;intro qk;refine aA Bm (aS B aV (dV rfl) (rfl) λON B=>have B:=B.enc (cs':=kp ({ ({ ({ (⟨0,i,x.b,0,0⟩:bU)with kind:=2}:bU)with kind:=1}:bU)with n:=FU}:bU)) rfl;aD (aA xN (have B:=B.drew;aB cZ B.p3.hb rfl (aA gr (aB (v:=jK x.a) aV B.p2.hb rfl ?_)))));obtain⟨abQ,G4⟩:=gx t.aJ (i:=x.a.toNat) cW;refine cH B.p5 cE cW cW (λarB I8=>gY _ B.p5 aV I8 cW λw15 B=>?_)
   have hn:zH m t x=FU:=by unfold zH;rw[fU (by simpa using Sn)];exact hrv
   have xk:(if (lU t.buf x.b).isSome=true then(2:Int)else 1)=1:=by rw[fU (by simpa using Sn)]
   have I:dJ m t i x=(m,{t with aJ:=t.aJ.set x.a.toNat FU},⟨1,0,x.b,FU,0⟩):=by unfold dJ;rw[fV Ee];unfold loadT JZ;rw[hn,xk]
   have B:=((gn.shut (t:={t with aJ:=t.aJ.set x.a.toNat FU}) J B.p6.p1.p6.p6).p4).p8;have B:=sy.shut (m:=m) ⟨⟨E.ln,E.cl,E.rc⟩,M,W,cW⟩ B.p8.p5.p8;have B:=B.p3.drop.p3.p1.p2.p3;exact⟨by rw[I];exact Sy,by rw[I];exact B⟩
  intro qk;refine aA Bm (aS B aV (dV rfl) (rfl) λON B=>have B:=B.enc (cs':=kp ({ ({ (⟨0,i,x.b,0,0⟩:bU)with kind:=2}:bU)with n:=((lU t.buf x.b).getD 0)}:bU)) rfl;aD (aA xN (have B:=B.drew;aB cZ B.p2.hb rfl (aA gr (aB (v:=jK x.a) aV B.p1.hb rfl ?_)))));obtain⟨abQ,G4⟩:=gx t.aJ (i:=x.a.toNat) cW;refine cH B.p4 cE cW cW (λarB I8=>gY _ B.p4 aV I8 cW λw15 B=>?_);have hn:zH m t x=((lU t.buf x.b).getD 0):=by unfold zH;rw[fV (by simpa using Sn)]
  have xk:(if (lU t.buf x.b).isSome=true then(2:Int)else 1)=2:=by rw[fV (by simpa using Sn)]
  have I:dJ m t i x=(m,{t with aJ:=t.aJ.set x.a.toNat ((lU t.buf x.b).getD 0)},⟨2,0,x.b,((lU t.buf x.b).getD 0),0⟩):=by unfold dJ;rw[fV Ee];unfold loadT JZ;rw[hn,xk]
  have B:=gn.shut (t:={t with aJ:=t.aJ.set x.a.toNat ((lU t.buf x.b).getD 0)}) J B.p5.p1.p5.p5;have B:=sy.shut (m:=m) ⟨⟨E.ln,E.cl,E.rc⟩,M,W,cW⟩ B.p3.p8.p8.p8.p8;have B:=B.p3.drop.p3.p1.p2.p3;exact⟨by rw[I];exact Sy,by rw[I];exact B⟩
 .refine aH (aC (λyW=>?_) λyW=>aH (aC (λxn=>?_) λxn=>aH (aC (λae4=>?_) λae4=>aH (aC (λVc=>?_) λVc=>aH (aC (λVd=>?_) λVd=>aH (aC (λzd=>?_) λzd=>aH (aC (λVe=>?_) λVe=>?_)))))))
  .have hxb:=aHv yW;refine aA rf (aS B aV (dV rfl) (rfl) λ_ B=>have B:=B.enc (cs':=kp ({ (⟨0,i,x.b,0,0⟩:bU)with kind:=3}:bU)) rfl;aA Bm (aS B aV (dV rfl) (rfl) λ_ B=>have B:=B.enc (cs':=kp ({ ({ (⟨0,i,x.b,0,0⟩:bU)with kind:=3}:bU)with n:=t.e}:bU)) rfl;aD (aA l9 (have B:=B.drew;aB vn B.p2.hb rfl (aA eA (aB (v:=jK x.kind) aV B.p1.hb rfl (aD (aA Bp (aA iD (aB cZ B.p8.hb rfl ?_))))))))));refine aA dS (aB (v:=jK x.b) aV B.p1.hb rfl ?_);obtain⟨Ks,XL⟩:=gx m.u.lines (i:=x.b.toNat) cW
   refine aQ cE (E.ln _ (hK _ B.aE)) cW XL (λ_ arC=>aF aV arC (aA dS (aB (v:=jK x.b) aV B.p1.hb rfl (pop (Ig _ _ _ _) ?_))));have hY:oP m t x=(⟨x.kind,Ks,x.b,t.e⟩:aX):=by unfold oP;rw[fV yW,oi,XL,yW];rfl
   refine bI Vz B.p3 (H':=λ_=>kC bp m.room (qb m.room t.buf (⟨x.kind,Ks,x.b,t.e⟩:aX))) (Φ:=λ_ _=>True) (λU O eO=>?_) ?_
   .exact(C153 bp m.room t.buf (⟨x.kind,Ks,x.b,t.e⟩:aX) U _ O cW).mono λ_ _ r=>r.mono λ_ _ h=>⟨trivial,h.2⟩
   rintro _ _ _ B;have I:dJ m t i x=(m,{t with buf:=qb m.room t.buf (⟨x.kind,Ks,x.b,t.e⟩:aX)},⟨3,0,x.b,t.e,0⟩):=by unfold dJ;rw[fU (show ¬ x.kind=2 by omega),fU (show ¬ x.kind=4 by omega),fU (show ¬ x.kind=8 by omega),fU (show ¬ x.kind=9 by omega),fU (show ¬ x.kind=10 by omega)];unfold uy zI;rw[hY,show v7 x.kind=3 from by rw[yW];rfl]
   have B:=gn.shut (t:={t with buf:=qb m.room t.buf (⟨x.kind,Ks,x.b,t.e⟩:aX)}) J B.p5.p5.p2.p5;have B:=sy.shut (m:=m) ⟨⟨E.ln,E.cl,E.rc⟩,M,W,cW⟩ B.p3.p8.p8.p8.p8;have B:=B.p3.drop.p3.p1.p2.p3;exact⟨by rw[I];exact Sy,by rw[I];exact B⟩
  .refine aA rf (aS B aV (dV rfl) (rfl) λ_ B=>have B:=B.enc (cs':=kp ({ (⟨0,i,x.b,0,0⟩:bU)with kind:=4}:bU)) rfl;aD (aA l9 (have B:=B.drew;aB vn B.p2.hb rfl (aA eA (aB (v:=jK x.kind) aV B.p1.hb rfl (aA dS (aB (v:=jK x.b) aV B.p1.hb rfl (pop (CC _ _) ?_))))))));have hY:oP m t x=(⟨x.kind,x.b,0,0⟩:aX):=by unfold oP;rw[fU cW]
   refine bI Vz B.p3 (H':=λ_=>kC bp m.room (qb m.room t.buf (⟨x.kind,x.b,0,0⟩:aX))) (Φ:=λ_ _=>True) (λU O eO=>?_) ?_
   .exact(C153 bp m.room t.buf (⟨x.kind,x.b,0,0⟩:aX) U _ O cW).mono λ_ _ r=>r.mono λ_ _ h=>⟨trivial,h.2⟩
   rintro _ _ _ B;have I:dJ m t i x=(m,{t with buf:=qb m.room t.buf (⟨x.kind,x.b,0,0⟩:aX)},⟨4,0,x.b,0,0⟩):=by unfold dJ;rw[fU (show ¬ x.kind=2 by omega),fU (show ¬ x.kind=4 by omega),fU (show ¬ x.kind=8 by omega),fU (show ¬ x.kind=9 by omega),fU (show ¬ x.kind=10 by omega)];unfold uy zI;rw[hY,show v7 x.kind=4 from by rw[xn];rfl]
   have B:=gn.shut (t:={t with buf:=qb m.room t.buf (⟨x.kind,x.b,0,0⟩:aX)}) J B.p5.p5.p2.p5;have B:=sy.shut (m:=m) ⟨⟨E.ln,E.cl,E.rc⟩,M,W,cW⟩ B.p3.p8.p8.p8.p8;have B:=B.p3.drop.p3.p1.p2.p3;exact⟨by rw[I];exact Sy,by rw[I];exact B⟩
  .refine aA rf (aS B aV (dV rfl) (rfl) λ_ B=>have B:=B.enc (cs':=kp ({ (⟨0,i,x.b,0,0⟩:bU)with kind:=5}:bU)) rfl;aD (aA l9 (have B:=B.drew;aB vn B.p2.hb rfl (aA eA (aB (v:=jK x.kind) aV B.p1.hb rfl (aA dS (aB (v:=jK x.b) aV B.p1.hb rfl (pop (CC _ _) ?_))))))));have hY:oP m t x=(⟨x.kind,x.b,0,0⟩:aX):=by unfold oP;rw[fU cW]
   refine bI Vz B.p3 (H':=λ_=>kC bp m.room (qb m.room t.buf (⟨x.kind,x.b,0,0⟩:aX))) (Φ:=λ_ _=>True) (λU O eO=>?_) ?_
   .exact(C153 bp m.room t.buf (⟨x.kind,x.b,0,0⟩:aX) U _ O cW).mono λ_ _ r=>r.mono λ_ _ h=>⟨trivial,h.2⟩
   rintro _ _ _ B;have I:dJ m t i x=(m,{t with buf:=qb m.room t.buf (⟨x.kind,x.b,0,0⟩:aX)},⟨5,0,x.b,0,0⟩):=by unfold dJ;rw[fU (show ¬ x.kind=2 by omega),fU (show ¬ x.kind=4 by omega),fU (show ¬ x.kind=8 by omega),fU (show ¬ x.kind=9 by omega),fU (show ¬ x.kind=10 by omega)];unfold uy zI;rw[hY,show v7 x.kind=5 from by rw[ae4];rfl]
   have B:=gn.shut (t:={t with buf:=qb m.room t.buf (⟨x.kind,x.b,0,0⟩:aX)}) J B.p5.p5.p2.p5;have B:=sy.shut (m:=m) ⟨⟨E.ln,E.cl,E.rc⟩,M,W,cW⟩ B.p3.p8.p8.p8.p8;have B:=B.p3.drop.p3.p1.p2.p3;exact⟨by rw[I];exact Sy,by rw[I];exact B⟩
  .have hzb:=UW.2;refine aA rf (aS B aV (dV rfl) (rfl) λ_ B=>have B:=B.enc (cs':=kp ({ (⟨0,i,x.b,0,0⟩:bU)with kind:=6}:bU)) rfl;aD (aA l9 (have B:=B.drew;aB vn B.p2.hb rfl (aA eA (aB (v:=jK x.kind) aV B.p1.hb rfl (pop (Ie _) ?_))))));have hY:oP m t x=(⟨x.kind,0,0,0⟩:aX):=by unfold oP;rw[fU cW,hzb (.inl Vc)]
   refine bI Vz B.p3 (H':=λ_=>kC bp m.room (qb m.room t.buf (⟨x.kind,0,0,0⟩:aX))) (Φ:=λ_ _=>True) (λU O eO=>?_) ?_
   .exact(C153 bp m.room t.buf (⟨x.kind,0,0,0⟩:aX) U _ O cW).mono λ_ _ r=>r.mono λ_ _ h=>⟨trivial,h.2⟩
   rintro _ _ _ B;have I:dJ m t i x=(m,{t with buf:=qb m.room t.buf (⟨x.kind,0,0,0⟩:aX)},⟨6,0,x.b,0,0⟩):=by unfold dJ;rw[fU (show ¬ x.kind=2 by omega),fU (show ¬ x.kind=4 by omega),fU (show ¬ x.kind=8 by omega),fU (show ¬ x.kind=9 by omega),fU (show ¬ x.kind=10 by omega)];unfold uy zI;rw[hY,show v7 x.kind=6 from by rw[Vc];rfl]
   have B:=gn.shut (t:={t with buf:=qb m.room t.buf (⟨x.kind,0,0,0⟩:aX)}) J B.p5.p5.p2.p5;have B:=sy.shut (m:=m) ⟨⟨E.ln,E.cl,E.rc⟩,M,W,cW⟩ B.p3.p8.p8.p8.p8;have B:=B.p3.drop.p3.p1.p2.p3;exact⟨by rw[I];exact Sy,by rw[I];exact B⟩
  .have hzb:=UW.2;refine aA rf (aS B aV (dV rfl) (rfl) λ_ B=>?_);have B:=B.enc (cs':=kp ({ (⟨0,i,x.b,0,0⟩:bU)with kind:=7}:bU)) rfl;have Hf:=hzb (.inr Vd);have I:dJ m t i x=(m,t,⟨7,0,0,0,0⟩):=by unfold dJ;rw[fU (show ¬ x.kind=2 by omega),fU (show ¬ x.kind=4 by omega),fV Vd]
   have B:=sy.shut (m:=m) ⟨⟨E.ln,E.cl,E.rc⟩,M,W,cW⟩ ((((((gn.shut (t:=t) J B.p5.p5.p5.p5).p3).p8).p8).p8).p8);have B:=B.p3.drop.p3.p1.p2.p3;rw[Hf]at B;exact⟨by rw[I];exact Sy,by rw[I];exact B⟩
  .have hxa:=azh (.inr zd);have hxb:=UW.1 (.inr zd);refine aD (aA qi (have B:=B.drew;aB Dt B.p8.hb rfl ?_));have B:=B.p9;obtain⟨ov,fv,lv,kv,wv,ws,kT,B⟩:=gJ.open B;refine aD (aA tD (aB cZ B.hb rfl (aA dS (aB (v:=jK x.b) aV B.p7.hb rfl ?_))));obtain⟨V,XM⟩:=gx m.mem.l (i:=x.b.toNat) cW;refine cH B.p3 cE cW cW (λ_ arD=>eK B.p3 aV arD XM ?_);have B:=gJ.shut kT B.p5.p5.p5.p5.p5.p5;have hrv:oO m.mem x.b=V:=by unfold oO;rw[fV (by unfold KC;exact gq cW),oi,XM];rfl
   refine aA Bm (aS B.p1 aV (dV rfl) (rfl) λ_ B=>have B:=B.enc (cs':=kp ({ (⟨0,i,x.b,0,0⟩:bU)with n:=V}:bU)) rfl;aD (aA xN (have B:=B.drew;aB cZ B.p3.hb rfl (aA gr (aB (v:=jK x.a) aV B.p2.hb rfl (aA Bm (aB (v:=jK V) aV B.hb rfl ?_)))))));obtain⟨aHx,aBg⟩:=gx t.aJ (i:=x.a.toNat) cW;refine cH B.p5 cE cW cW (λ_ arE=>gY _ B.p5 aV arE cW λ_ B=>aA rf (aS B.p1 aV (dV rfl) (rfl) λ_ B=>have B:=B.enc (cs':=kp ({ ({ (⟨0,i,x.b,0,0⟩:bU)with n:=V}:bU)with kind:=9}:bU)) rfl;aA Bm (aB (v:=jK V) aV B.hb rfl (aH (aC (λKu=>?_) λKu=>?_)))))
   .refine aA rf (aS B aV (dV rfl) (rfl) λ_ B=>have B:=B.enc (cs':=kp ({ ({ ({ (⟨0,i,x.b,0,0⟩:bU)with n:=V}:bU)with kind:=9}:bU)with kind:=8}:bU)) rfl;aA agW (aS B aV (dV rfl) (rfl) λ_ B=>have B:=B.enc (cs':=kp ({ ({ ({ ({ (⟨0,i,x.b,0,0⟩:bU)with n:=V}:bU)with kind:=9}:bU)with kind:=8}:bU)with m:=t.f}:bU)) rfl;aD (aA qi (have B:=B.drew;aB Dt B.p9.hb rfl (aA dS (aB (v:=jK x.b) aV B.p3.hb rfl (bI akm B.p2 (H':=λ_=>gJ a.q (gF m.mem x.b t.f)) (Φ:=λ_ _=>True) (λU O eO=>?_) ?_)))))))
    .exact(C148 a.q m.mem U _ _ _ O iS.mem ni).mono λ_ _ r=>r.mono λ_ _ h=>⟨trivial,h.2⟩
    rintro _ _ _ B;have I:dJ m t i x=({m with mem:=gF m.mem x.b t.f},{t with aJ:=t.aJ.set x.a.toNat V},⟨8,0,x.b,V,t.f⟩):=by unfold dJ;rw[fU (show ¬ x.kind=2 by omega),fV zd];unfold AX casT N8;rw[hrv,fV Ku,fV Ku]
    have B:=((gn.shut (t:={t with aJ:=t.aJ.set x.a.toNat V}) J B.p6.p3.p6.p6).p4).p8;have B:=sy.shut (m:={m with mem:=gF m.mem x.b t.f}) ⟨⟨E.ln,E.cl,E.rc⟩,M,W,cW⟩ B.p8.p4.p8;have B:=B.p3.drop.p3.p1.p2.p3;exact⟨by rw[I];exact Sy,by rw[I];exact B⟩
   have I:dJ m t i x=(m,{t with aJ:=t.aJ.set x.a.toNat V},⟨9,0,x.b,V,0⟩):=by unfold dJ;rw[fU (show ¬ x.kind=2 by omega),fV zd];unfold AX casT N8;rw[hrv,fU Ku,fU Ku]
   have B:=((gn.shut (t:={t with aJ:=t.aJ.set x.a.toNat V}) J B.p6.p2.p6.p6).p4).p8;have B:=sy.shut (m:=m) ⟨⟨E.ln,E.cl,E.rc⟩,M,W,cW⟩ B.p8.p5.p8;have B:=B.p3.drop.p3.p1.p2.p3;exact⟨by rw[I];exact Sy,by rw[I];exact B⟩
  .have hxb:=Uc (.inl Ve);refine aA rf (aS B aV (dV rfl) (rfl) λ_ B=>have B:=B.enc (cs':=kp ({ (⟨0,i,x.b,0,0⟩:bU)with kind:=10}:bU)) rfl;aD (aA yL (have B:=B.drew;aB cZ B.p8.hb rfl (aA dS (aB (v:=jK x.b) aV B.p1.hb rfl ?_)))));obtain⟨aHy,aBh⟩:=gx m.locks (i:=x.b.toNat) cW;refine cH B.uU cE cW cW (λ_ arF=>gY _ B.uU aV arF cW λ_ B=>?_);have I:dJ m t i x=({m with locks:=m.locks.set x.b.toNat i},t,⟨10,0,x.b,0,0⟩):=by unfold dJ;rw[fU (show ¬ x.kind=2 by omega),fU (show ¬ x.kind=4 by omega),fU (show ¬ x.kind=8 by omega),fV Ve];rfl
   have B:=sy.shut (m:={m with locks:=m.locks.set x.b.toNat i}) ⟨⟨E.ln,E.cl,E.rc⟩,M,W,cW⟩ ((((((gn.shut (t:=t) J B.p6.p6.p6.p6).p4).p8).p3).p8).p8);have B:=B.p3.drop.p3.p1.p2.p3;exact⟨by rw[I];exact Sy,by rw[I];exact B⟩
  have aHz:x.kind=10:=cW
  have hxb:=Uc (.inr aHz);refine aD (aA yL (have B:=B.drew;aB cZ B.p8.hb rfl (aA dS (aB (v:=jK x.b) aV B.p1.hb rfl ?_))));obtain⟨Wt,vM⟩:=gx m.locks (i:=x.b.toNat) cW;refine cH B.uU cE cW cW (λ_ Ce=>eK B.uU aV Ce vM (bQ (aC (λAA=>?_) λAA=>?_)))
  .have hgd:m.locks.getD x.b.toNat 0=Wt:=by rw[oi,vM];rfl
   have I:dJ m t i x=({m with fault:=3,iP:=i},t,⟨16,0,3,0,0⟩):=by
    unfold dJ;rw[fU (show ¬ x.kind=2 by omega),fU (show ¬ x.kind=4 by omega),fU (show ¬ x.kind=8 by omega),fU (show ¬ x.kind=9 by omega),fV (show x.kind=10 by omega)];unfold sr Cn;rw[hgd,fU AA,fU AA]
   have B:=St.nY (H:=qX K m.room) (x:=t) (((gn.shut (t:=t) J B.p5.p5.p5.p5).p3).p1) (by have:=(l0.1 ht).1;omega) W M;rw[o0 ht]at B;have B:=eZ.shut (m:=m) ⟨E.ln,E.cl,E.rc⟩ B.p7.p7.p7.p7;refine bI akn B (H':=λ_=>eZ K p {m with fault:=3,iP:=i}) (Φ:=λv _=>v=j6 (⟨16,i,3,0,0⟩:bU)) (λU O eO=>?_) ?_
   .exact C150 K p m i 3 U _ O
   rintro _ _ rfl B;refine aO (x:=(⟨16,i,3,0,0⟩:bU)) B.p3 eV rfl rfl (λ_ B=>aF eV B.At ?_);have B:=B.drop.p1.drop.p1.drop;obtain⟨rfl,rfl⟩:=zs qe ht fX oX (by rw[I];exactλh=>by cases h);rw[I];show _/\pk F (eZ K p {m with fault:=3,iP:=i,l:=m.l.set i.toNat t}) _ _;rw[o0 ht];exact⟨rfl,B.mut⟩
  refine aA rf (aS B aV (dV rfl) (rfl) λ_ B=>have B:=B.enc (cs':=kp ({ (⟨0,i,x.b,0,0⟩:bU)with kind:=11}:bU)) rfl;aD (aA yL (have B:=B.drew;aB cZ B.p8.hb rfl (aA dS (aB (v:=jK x.b) aV B.p1.hb rfl (cH B.uU cE cW cW λ_ acC=>gY _ B.uU aV acC cW λ_ B=>?_))))));have hgd:m.locks.getD x.b.toNat 0=Wt:=by rw[oi,vM];rfl
  have I:dJ m t i x=({m with locks:=m.locks.set x.b.toNat (-1)},t,⟨11,0,x.b,0,0⟩):=by unfold dJ;rw[fU (show ¬ x.kind=2 by omega),fU (show ¬ x.kind=4 by omega),fU (show ¬ x.kind=8 by omega),fU (show ¬ x.kind=9 by omega),fV (show x.kind=10 by omega)];unfold sr Cn;rw[hgd,fV (by simpa using AA),fV (by simpa using AA)]
  have B:=sy.shut (m:={m with locks:=m.locks.set x.b.toNat (-1)}) ⟨⟨E.ln,E.cl,E.rc⟩,M,W,cW⟩ ((((((gn.shut (t:=t) J B.p6.p6.p6.p6).p4).p8).p3).p8).p8);have B:=B.p3.drop.p3.p1.p2.p3;exact⟨by rw[I];exact Sy,by rw[I];exact B⟩
 rintro _ ⟨hfa,B⟩ _;obtain⟨t2,hg,rfl,rfl⟩:=zq qe ht fX oX hfa;have axx:(dJ m t i x).2.1.at_=t.at_:=Eu;have GG:=mL.code.len;have m6:=N9 (m:=m) (t:=t) (i:=i) (x:=x) mL iS.rm.2;have Ug:JR { (dJ m t i x).2.1 with at_:=(dJ m t i x).2.1.at_+1}:=⟨m6.code,m6.rg,m6.cn,by dsimp only;omega,m6.bl⟩;have hao:=ae1 (i:=i) (x:=x) hvm hvt.2;have B:=B.p1;obtain⟨bp,gl,rg,cn,J,B⟩:=gn.open B;refine aD (aA jP (aB aV B.hb rfl (aN cW (aD (aA jP (aS B aV (dV rfl) (rfl) λ_ B=>have B:=gn.shut (t:={ (dJ m t i x).2.1 with at_:=(dJ m t i x).2.1.at_+1}) J B.p3.p3.p3.p3;bI akh B (H':=λ_=>gn K iO.b (dJ m t i x).1.room t2) (Φ:=λ_ _=>True) (λU O eO=>?_) ?_))))))
 .exact(C141 K iO.b (dJ m t i x).1.room { (dJ m t i x).2.1 with at_:=(dJ m t i x).2.1.at_+1} t2 N U _ O (λw' hc=>hK w' (eO w' hc).aE) Ug hao.1.r hg).mono λ_ _ r=>r.mono λ_ _ h=>⟨trivial,h.2⟩
 rintro _ _ _ B;exact aF eV B.p1.At (aO (x:=({ (dJ m t i x).2.2 with t:=i}:bU)) B.p3 eV rfl rfl λ_ B=>aF eV B.At (have B:=((((ZF B.p3.p2).p1).drop).p1).drop;⟨rfl,B.mut⟩))
def ae5{m:gQ}{q:dY}(h3:q.kind=3):¬ (cT m).any (jo q)=true:=λh=>by
 rw[z6]at h
 obtain⟨x,B,E⟩:=h
 unfold cT at B
 split at B
 .cases B
 .obtain⟨i,t,_,_,J⟩:=wS B
  unfold jo at E
  simp only[oG,decide_eq_true_eq]at E
  have I:=E.1.1.1
  unfold sS at J
  rcases r3.1 J with h1|h1
  .split at h1
   .rw[s7.1 h1]at I;dsimp only at I;omega
   .cases h1
  .obtain⟨k,_,rfl⟩:=r5.1 h1;dsimp only at I;omega
def ae6{m:Mem}{cut nx:List Int}{v:Value}{p:Nat}{F:Nat->Prop}{w w':World}(E:gW m cut=some nx)
  (h:(gW m cut=none/\v=jK 1/\pk F (gJ p m) w w')\/∃nx,gW m cut=some nx/\v=jK 0/\pk F (gJ p (rU m nx)) w w'):True/\pk F (gJ p (rU m nx)) w w':=by
 rcases h with⟨h1,_⟩|⟨B,h1,_,h3⟩
 .rw[E]at h1;cases h1
 rw[E]at h1;cases h1;exact⟨trivial,h3⟩
def C33(K:jj)(p:Nat)(m:gQ)(N:Nat)(q:dY)(gc:SV)(m2:gQ)(ev:bU)(e:Int)(F:Nat->Prop)(w:World)(hF:(eZ K p m).p w F)(hK:∀w',js F w w'->K w')(O:nL m)(om:∀w1,js F w w1->∀w2,Ext w1 w2->K w2)(ni:MB m.mem 1000000)(hvo:Vo m)(hcb:0<=m.cS/\m.cS<=1000000)(apZ:AW m.u.recover)(Ln:0<=m.u.locks/\m.u.locks<=1000)(hmx:∀t∈m.l,∀x∈t.code.l,(x.kind=2\/x.kind=4->0<=x.b/\x.b<m.mem.l.length)/\(x.kind=7\/x.kind=8->x.b=0))(xu:∀w',js F w w'->eN (λ_=>True) w' (j6 gc) q.cut)(hql:q.cut.length<=1000)(hd:ET N m q=some (m2,ev,e)):CR 33 [(.pointer (some ⟨p,0,none⟩)),j6 (⟨q.kind,q.t,q.i,gc⟩:dN)] w (λv w'=>v=.tuple #[j6 ev,jK e]/\pk F (eZ K p m2) w w'):=by
 have B:=St.begin hF;obtain⟨a,E,B⟩:=eZ.open B;have lu:=B.p4.jy;refine amX _ _ _ _ ?_;unfold S33;refine cU (x:=(⟨q.kind,q.t,q.i,gc⟩:dN)) B (λwu w1 B=>aR B kV λxZ w2 B=>aA nV (aB (v:=jK q.kind) aV B.p1.hb rfl (aH (aC (λkm=>?_) λkm=>?_))))
 .refine aD (aA qi (have B:=B.drew;aB Dt B.p2.hb rfl (aA qh (aB (v:=j6 (gc:SV)) cZ B.p1.hb rfl (eR anA (C85 _ m.mem q.cut _ _ (aeA B.p3.has) O.mem ni (xu _ B.aE) cW) ?_)))));rintro ax9 _ arG
  rcases arG with⟨OF,rfl,he⟩|⟨ER,o_x20,OF,rfl,cJ⟩
  .have B:=B.ext he;refine bD rfl (bD rfl ⟨λjv w'=>jv=.bool true/\St w F [cI p (pD a m),gJ a.q m.mem,bE a.lk m.locks,bE a.ll a.ps,iU (qX K m.room) a.ps m.l,cI wu (kp (⟨q.kind,q.t,q.i,gc⟩:dN)),cI xZ [jK 0,jK 0,jK 0,jK 0,jK 0]] w',aA jw (aB (v:=jK q.t) aV B.p1.hb rfl (bQ (aC (λ_=>have B:=B.p1.p6.p6.p6.p6.p6;⟨rfl,B⟩) λ_=>aA rh (aB (v:=jK q.i) aV B.p1.hb rfl (bQ (aC (λ_=>have B:=B.p1.p6.p6.p6.p6.p6;⟨rfl,B⟩) λ_=>bQ (il dO (have B:=B.p1.p6.p6.p6.p6.p6;⟨rfl,B⟩)))))))),?_⟩)
   rintro _ w4 ⟨rfl,B⟩ qk;refine jt (pop Aj (aO (x:=(⟨0,0,0,0,0⟩:bU)) B.p6 eV rfl rfl λw5 B=>aF eV B.At ?_));have B:=eZ.shut (m:=m) ⟨E.ln,E.cl,E.rc⟩ B.drop.p5.drop.p4.p4.p4.p4.p4.p4.p4.p4.p4.p4
   have I:ig m q=none:=by
    unfold ig
    split
    .exact OF
    .rfl
   obtain⟨rfl,rfl,rfl⟩:=pa hd I (ae5 km);exact⟨rfl,B.mut⟩
  have B:=(B.made cJ).drop;refine bD rfl (bD rfl ⟨λjv w'=>jv=.bool (decide (q.t≠0\/q.i≠0\/m.fault≠0))/\St w F [cI p (pD a m),gJ a.q m.mem,bE a.lk m.locks,bE a.ll a.ps,iU (qX K m.room) a.ps m.l,cI wu (kp (⟨q.kind,q.t,q.i,gc⟩:dN)),cI xZ [jK 0,jK 0,jK 0,jK 0,jK 0]] w',?_,?_⟩)
  .refine aA jw ?_;exact aB (v:=jK q.t) aV B.p1.hb rfl (bQ (aC (λ_=>have B:=B.p1.p6.p6.p6.p6.p6;⟨Ky cW,B⟩) λ_=>aA rh (aB (v:=jK q.i) aV B.p1.hb rfl (bQ (aC (λ_=>have B:=B.p1.p6.p6.p6.p6.p6;⟨Ky cW,B⟩) λ_=>bQ (fI dO (aD (aA yM (aB aV B.p2.hb rfl (bQ (have B:=B.p1.p6.p6.p6.p6.p6;⟨uS cW,B⟩)))))))))))
  rintro _ w4 ⟨rfl,B⟩ qk;refine aC (λkN=>?_) (λkN=>?_)
  .refine pop Aj (aO (x:=(⟨0,0,0,0,0⟩:bU)) B.p6 eV rfl rfl λw5 B=>aF eV B.At ?_);have B:=eZ.shut (m:=m) ⟨E.ln,E.cl,E.rc⟩ B.drop.p5.drop.p4.p4.p4.p4.p4.p4.p4.p4.p4.p4
   have I:ig m q=none:=by
    unfold ig
    split
    .exfalso;omega
    .rfl
   obtain⟨rfl,rfl,rfl⟩:=pa hd I (ae5 km);exact⟨rfl,B.mut⟩
  have I:ig m q=some ER:=by unfold ig;rw[fV cW];exact OF
  refine aD (aA qi (have B:=B.drew;aB Dt B.hb rfl (aA qh (aB (v:=j6 (gc:SV)) cZ B.p5.hb rfl (bI aCa B.p1 (H':=λ_=>gJ a.q (rU m.mem ER)) (Φ:=λ_ _=>True) (λW U M=>?_) ?_)))))
  .exact(C86 a.q m.mem W q.cut _ _ U O.mem ni (λw' hc=>xu w' (M w' hc).aE) cW).mono λ_ _ r=>r.mono λ_ _ h=>ae6 OF h
  rintro _ _ _ B;refine aD (aA Dv (aB aV B.p1.hb rfl (aN cW (aD (aA Dv (aS B.p1 aV (dV rfl) (rfl) λ_ B=>aD (aA Bp (aA yK (uJ (⟨m.u.recover.aJ,m.u.recover.counts,a.ZT⟩:bY) og B.hb rfl (bJ ([(⟨m.u.recover.aJ,m.u.recover.counts,a.ZT⟩:bY)]) B wq rfl rfl (dV rfl) λadA _ B=>?_))))))))));have B:=eZ.shut (m:=(v8 m ER)) ⟨E.ln,E.cl,E.rc⟩ B.p5.p5.p5.p5.p5;obtain⟨t2,hg,rfl,rfl,rfl⟩:=sV hd I;have B:=B.p1.p1;refine bI as4 B (H':=λ_=>eZ K p (j3 (v8 m ER) [t2])) (Φ:=λ_ _=>True) (λW U M=>?_) ?_
  .exact(C77 K p (v8 m ER) N [m.u.recover] [t2] _ [(⟨m.u.recover.aJ,m.u.recover.counts,a.ZT⟩:bY)] W _ U (λw' hc=>hK w' (M w' hc).aE) O.rm Ln (λw' hc=>(M w' hc).fu) ⟨rfl,λj _ _ h1 h2=>by cases j with|zero=>(simp at h1 h2;subst h1 h2;exact⟨a.ZT,rfl,E.rc⟩)|succ j=>simp at h1⟩ (by simpa using apZ) ⟨rfl,λj _ _ h1 h2=>by cases j with|zero=>(simp at h1 h2;subst h1 h2;exact hg)|succ j=>simp at h1⟩ eU).mono λ_ _ r=>r.mono λ_ _ h=>⟨trivial,h.2⟩
  rintro _ _ _ B;exact aA qh (aB (v:=j6 (gc:SV)) cZ B.p2.hb rfl (aZ aCb B (C87 _ q.cut _ (xu _ B.aE) cW) λ_ _ B=>pop (uX _ _) (aO (x:=(⟨15,0,0,(wR q.cut q.cut.length),0⟩:bU)) B.p3 eV rfl rfl λ_ B=>aF eV B.At (have B:=B.drop.p1.drop.p1.drop;⟨rfl,B.mut⟩))))
 have B:=eZ.shut (m:=m) ⟨E.ln,E.cl,E.rc⟩ B.p6.p6.p6.p6.p6;have I:ig m q=none:=by unfold ig;rw[fU λh=>km h.1]
 refine dF aaj B (C32 K p m _ B.has (hK _ B.aE) (λ_ e=>om _ B.aE _ e) O) (λx71 _ cJ B=>?_);obtain⟨ts,B⟩:=B.wK;have Pr:=B.Tb;have hpb:=qC O;have B:=B.p3.p4.p4.p4.p4;refine⟨λmm x w'=>∃k:Nat,x=jK (k:Int)/\mm=(cT m).length-k/\k<=(cT m).length/\((cT m).take k).any (jo q)=false/\St w F [bE x71 ts,fB (jF ts (cT m)),eZ K p m,cI wu (kp (⟨q.kind,q.t,q.i,gc⟩:dN)),cI xZ [jK 0,jK 0,jK 0,jK 0,jK 0]] w',⟨_,0,rfl,rfl,o6 _,rfl,B⟩,?_⟩;rintro mm _ _ ⟨k,rfl,rfl,hk9,V,B⟩ _;refine aI mq B.fu (aK (aC (λQS=>?_) λQS=>?_))
 .obtain⟨y,hy⟩:=gx (cT m) (i:=(k:Int).toNat) cW;obtain⟨JV,JW⟩:=gx ts (i:=(k:Int).toNat) cW;obtain⟨gy,J,_⟩:=B.p1.fB.2 _ _ _ JW hy;have Z5:JV.kind=y.kind:=by rw[J]
  have xk:JV.t=y.t:=by rw[J]
  have hk3:JV.i=y.i:=by rw[J]
  clear J
  refine⟨λjv w'=>jv=.bool (decide (y.kind=q.kind/\y.t=q.t/\y.i=q.i/\q.cut.length=0))/\St w F [bE x71 ts,fB (jF ts (cT m)),eZ K p m,cI wu (kp (⟨q.kind,q.t,q.i,gc⟩:dN)),cI xZ [jK 0,jK 0,jK 0,jK 0,jK 0]] w',cH B mq cW cW (λ_ adm=>kL nV adm λ_ Qo=>have B:=B.drew;lH JV.kind B aV Qo JW rfl (aA nV (aB (v:=jK q.kind) aV B.p3.hb rfl (aH (aC (λGl=>?_) λ_=>have B:=B.p4.p4.p4.p4.p4;⟨vb (by first|exact(gD cW).symm|exact hI.2 cW),B⟩))))),?_⟩
  .refine cH B mq cW cW (λ_ Rn=>kL jw Rn λ_ azj=>lH JV.t B aV azj JW rfl (aA jw (aB (v:=jK q.t) aV B.p3.hb rfl ?_)));exact aH (aC (λ_=>cH B mq cW cW λ_ adn=>kL rh adn λ_ xi=>lH JV.i B aV xi JW rfl (aA rh (aB (v:=jK q.i) aV B.p3.hb rfl (aH (aC (λ_=>aA qh (aB (v:=j6 (gc:SV)) cZ B.p3.hb rfl (aI cE (xu _ B.aE) (aH (have B:=B.p4.p4.p4.p4.p4;⟨vb (by first|exact(gD cW).symm|exact hI.2 cW),B⟩))))) λ_=>have B:=B.p4.p4.p4.p4.p4;⟨vb (by first|exact(gD cW).symm|exact hI.2 cW),B⟩))))) λ_=>have B:=B.p4.p4.p4.p4.p4;⟨vb (by first|exact(gD cW).symm|exact hI.2 cW),B⟩)
  rintro _ _ ⟨rfl,B⟩ _;refine aC (λAO=>?_) (λAO=>?_)
  .have hsy:jo q y=true:=by
    unfold jo;simp only[oG,decide_eq_true_eq];have h9:=AO;skip;omega
   have r8:(cT m).any (jo q)=true:=z6.2 ⟨y,ld hy,hsy⟩;obtain⟨h0,t,ht⟩:=tZ r8;refine aA nV (aB (v:=jK q.kind) aV B.p3.hb rfl (aH (aC (λVf=>?_) λVf=>?_)))
   .refine aA jw (aB (v:=jK q.t) aV B.p3.hb rfl (aA rh (aB (v:=jK q.i) aV B.p3.hb rfl ?_)));obtain⟨rfl,rfl,rfl⟩:=rW hd I r8 Vf ht;have B:=B.p2;refine bI aCc B (H':=λ_=>eZ K p (lf m t q)) (Φ:=λv _=>v=j6 (oQ q.t (dK t.buf q.i))) (λW U M=>?_) ?_
    .exact C88 K p m q t W _ U (λw' hc=>hK w' (M w' hc).aE) O ni h0 ht
    rintro _ _ rfl B;exact aO (x:=(oQ q.t (dK t.buf q.i))) B.p4 eV rfl rfl (λ_ B=>aF eV B.At (have B:=B.drop.p1.drop.p1.drop.p1.drop;⟨rfl,B.mut⟩))
   refine aA jw (aB (v:=jK q.t) aV B.p3.hb rfl ?_);obtain⟨qe,rfl⟩:=oS hd I r8 Vf;have B:=B.p2;refine bI aCd B (H':=λ_=>eZ K p m2) (Φ:=λv _=>v=j6 ev) (λW U M=>?_) ?_
   .exact C89 K p m N q.t t m2 ev W _ U (λw' hc=>hK w' (M w' hc).aE) O ni hvo.mem (hvo.th t (ld ht)) (ae3 r8) h0 ht hmx qe
   rintro _ _ rfl B;exact aO (x:=ev) B.p4 eV rfl rfl (λ_ B=>aF eV B.At (have B:=B.drop.p1.drop.p1.drop.p1.drop;⟨rfl,B.mut⟩))
  have hsn:jo q y=false:=by
   rw[<- Bool.not_eq_true];unfold jo;simp only[oG,decide_eq_true_eq];omega
  exact aN cW (have B:=B.p4.p4.p4.p4.p4;⟨_,cW,k+1,rfl,rfl,cW,by rw[any_succ (j:=k) hy,V,hsn];rfl,B⟩)
 refine pop Aj (aO (x:=(⟨0,0,0,0,0⟩:bU)) B.p4 eV rfl rfl λ_ B=>aF eV B.At ?_);have B:=B.drop.drop.drop.p1.drop;have gG:¬ (cT m).any (jo q)=true:=by rw[mE cW]at V;rw[V];decide
 obtain⟨rfl,rfl,rfl⟩:=pa hd I gG;exact⟨rfl,B.mut⟩
section
variable {m:gQ}{p:dM}{n:Nat}
theorem GM.mx(h:GM m):∀t∈m.l,∀x∈t.code.l,(x.kind=2\/x.kind=4->0<=x.b/\x.b<m.mem.l.length)/\(x.kind=7\/x.kind=8->x.b=0):=λt ht x E=>by
 obtain⟨i,B⟩:=pB E
 have hc:=h.code ht
 have J:=h.mem.ll
 have M:=h.ru.fl
 rw[h.cO]at J
 refine⟨λI=>?_,λI=>?_⟩
 .have:=hc.b2 B cW;omega
 .have:=hc.b B
  unfold bM at this
  rw[fU cW,fU cW,fU cW,fU cW]at this
  simpa using this
theorem ajQ(h:MB m.mem 1000000):∀c∈yB m.mem,0<=c/\c<=1000000:=λc hc=>by
 obtain⟨k,B⟩:=pB hc
 have h1:=Sj B
 have h2:=h k
 omega
theorem ajR(h:GM m):(yB m.mem).length<=1000:=by
 have h1:=h.mem.lb
 rw[MJ];omega
structure PMv(p:dM)(m:gQ)(n:Nat):Prop where
 b:A7 p m n
 v:Vo m
theorem PMv.do{m2:gQ}{N:Nat}{q:dY}{ev:bU}{e:Int}(h:PMv p m n)(hd:ET N m q=some (m2,ev,e)):PMv p m2 (n+1):=⟨h.b.do hd,h.v.do hd⟩
end
section
variable {w w0:World}{A:Nat->Prop}{L:List HP}{G K:jj}{m:gQ}{q:Nat}{p:dM}{n:Nat}
theorem aHA{sh:dH}{u:iz}(E:St w0 A (fB (λw=>py w sh u)::L) w):∃(G:jj) (B:List bY),UG G sh u B/\(∀w',G w'->py w' sh u)/\St w0 A (fB G::L) w:=by
 obtain⟨F,h1,h2⟩:=E.al9
 obtain⟨B,I⟩:=ay7 h2
 exact⟨_,B,I,h2,h1⟩
theorem zy(h:Has (eZ G q m) w):Cell w q 10 (jK m.cS):=by
 obtain⟨a,B⟩:=eZ.rd h
 exact B.b.cell rfl
theorem aHB{u:iz}{B:dH}{room:Int}{N:Nat}{mv:List fR}{J:List bY}(U:UG G B u J)(E:∀w',G w'->py w' B u)(I:G w)(W:∀w',Ext w w'->G w')(M:UZ u)(O:iY u=true)(V:Mk N u mv)(h1:1<=room/\room<=16) :
  Calls ji 26 [j6 B,jK room].toArray w (qZ λv w'=>∃p,v=.tuple #[.pointer (some ⟨p,0,none⟩),jK 0]/\mr (eZ G p (j3 (jh u room) mv)) w w'):=
 akH (C26 u B room N mv G J w (E w I) W U M λ_=>V) λ_ _ h=>aHt O h1 h
theorem azk{J:Nat}(h:PMv p m n)(O:Has (fN K q m) w)(W:K w)(M:∀w',Ext w w'->K w')(E:Has (eZ G J m) w)(I:G w)(V:∀w',Ext w w'->G w') :
  Calls ji 27 [.pointer (some ⟨q,0,none⟩),.pointer (some ⟨J,0,none⟩)].toArray w (qZ λv w'=>v=.bool true/\Ext w w'):=by
 have B:=h.b.pm.gm
 exact C27 K G q J m w O W M B.ok E I V B.uz.cD B.uz.cl B.gj h.v.mem.l B.Mi (x5 B.uf cW) λx U=>by rw[Sl _ x U];simp
theorem azl(h:A7 p m n)(B:Has (eZ G q m) w)(I:G w)(E:∀w',Ext w w'->G w'):Calls ji 32 [(.pointer (some ⟨q,0,none⟩))].toArray w (qZ λv w'=>mr (fW v (cT m)) w w'):=C32 G q m w B I E h.pm.gm.ok
theorem aHE(h:A7 p m n)(I:n<=1000000)(E:(dD (r7 m.mem)).length<=1000000000)(B:Has (eZ G q m) w)(M:G w)(J:∀w',Ext w w'->G w'):Calls ji 30 [(.pointer (some ⟨q,0,none⟩))].toArray w (qZ λv w'=>mr (fW v (jC m)) w w'):=C30 G q m w B M J h.pm.gm.ok (h.mb.mono I) E
theorem aHF{N:Nat}{k:dY}{gc:SV}{m2:gQ}{ev:bU}{e:Int}{F:Nat->Prop}(h:PMv p m n)(U:n<=1000000)(hd:ET N m k=some (m2,ev,e))(B:k.cut.length<=1000)(V:(eZ G q m).p w F)(M:∀w',js F w w'->G w')(O:∀E,js F w E->∀I,Ext E I->G I)(J:∀w',js F w w'->eN (λ_=>True) w' (j6 gc) k.cut) :
  Calls ji 33 [(.pointer (some ⟨q,0,none⟩)),j6 (⟨k.kind,k.t,k.i,gc⟩:dN)].toArray w (qZ λv w'=>v=.tuple #[j6 ev,jK e]/\pk F (eZ G q m2) w w'):=
 C33 G q m N k gc m2 ev e F w V M h.b.pm.gm.ok O (h.b.mb.mono U) h.v ⟨h.b.pm.gm.cr,by have:=h.b.cr;omega⟩ (h.b.pm.gm.ru.rc.ok h.b.pm.gm.uz.rc) (by have:=h.b.pm.gm.ru.lk;omega) h.b.pm.gm.mx J B hd
end
set_option maxRecDepth 100000 in
theorem C6(p:dM)(pv:bX)(room:Int)(sv:Value)(script:List KR)(w:World)(hp:py w pv p)(hS:DL w sv script):CR 6 [j6 pv,jK room,sv] w (λv w'=>v=.bool true/\Ext w w'):=by
 obtain⟨bR,cA,bT,bG,bH,bK,rfl,dA,dQ,dB,cB,bZ,cM⟩:=hp;obtain⟨ts7,hR7,hD7⟩:=hS.open;have hn7:=hD7.1;have Mi:=Cy room (b:=3) cW cW;have hrm:1<=(1+(wm room 3))/\(1+(wm room 3))<=16:=cW
 have B:=St.start w;refine asJ _ _ _ _ _ ?_;unfold S6;refine cU B (λwu w1 B=>aF jE B.At (eR aBC (C11 p (⟨bR,cA,bT,bG,bH,bK⟩:bX) _ ⟨bR,cA,bT,bG,bH,bK,rfl,(dA.ext B.aE),(dQ.ext B.aE),(dB.ext B.aE),(cB.ext B.aE),(bZ.ext B.aE),(cM.ext B.aE)⟩) ?_));rintro _ w2 ⟨arH,rfl,cJ⟩;have B:=B.made cJ;refine eR asN (C12 (sb p) arH _ B.fB (Ww p)) ?_;rintro _ _ ⟨Og,rfl,cJ⟩;have B:=B.made cJ;refine bD rfl (bD rfl (aR B Aa λb_u7 _ B=>have B:=B.enc (cs':=kp (⟨bL,0,bL,0,bL,(⟨0,0,bL⟩:bY),bL⟩:dH)) rfl;aO (x:=Og) B tW rfl rfl λ_ B=>bQ (aC (λ_=>aZ asO B (C14 _) λ_ _ B=>⟨rfl,B.aE⟩) λL3=>VO dO dO (aN cW (aF tW B.At ?_)))))
 have Bj:jL (sb p)=0:=cW
 have Yr:=Ja Bj;have mL:=wZ Yr;obtain⟨N0,mv,Hf,htw⟩:=R5 Yr;have B:=B.p1.dT (Ψ:=λw=>py w Og (fL (sb p))) (λ_ h=>by rw[fV Bj]at h;exact h);refine eR amN (ayN (fL (sb p)) Og (1+(wm room 3)) N0 mv B.fB mL.2 mL.1 (Kd (rY mL.1) mL.2 Hf) hrm.1 hrm.2) ?_;rintro _ _ ⟨K,q,rfl,cJ⟩;have B:=(B.made cJ).split;have aHG:A7 (sb p) (j3 (jh (fL (sb p)) (1+(wm room 3))) mv) 0:=A7.new Yr Hf htw (by first|decide|omega);refine bD rfl (bD rfl (aF tW B.p3.At ?_));have B:=B.p2;obtain⟨G,yr,hG,hGd,B⟩:=aHA B;refine eR aBD (aHB hG hGd B.fB (λ_ e=>St.l4 B e) mL.2 mL.1 (Kd (rY mL.1) mL.2 Hf) hrm) ?_
 rintro _ _ ⟨q2,rfl,cJ⟩;have B:=B.made cJ;have azm:PMv (sb p) (j3 (jh (fL (sb p)) (1+(wm room 3))) mv) 0:=⟨aHG,Vo.new (rY mL.1) Hf⟩;refine bD rfl (bD rfl ⟨λjv w'=>jv=.bool false/\St w aY [fN K q (j3 (jh (fL (sb p)) (1+(wm room 3))) mv),fB K,eZ G q2 (j3 (jh (fL (sb p)) (1+(wm room 3))) mv),fB G] w',z9 VP (fM (z9 auF (fM (bQ (fI dO (bQ (fI dO (aZ asT B (azk azm B.p2.has B.p3.fB (λ_ e=>St.l4 B.p3 e) B.has B.p1.fB λ_ e=>St.l4 B.p1 e) λ_ _ B=>bV (have B:=B.p4.drop.p4.drop.p4.drop.p1.p1.p3.p3;⟨rfl,B⟩))))))))),?_⟩)
 rintro _ _ ⟨rfl,B⟩ _;refine fM ?_;have B:=B.p3.p3.p3.p3;refine⟨λmm y x w'=>∃(k:Nat) (m:gQ) (qm:Nat),y=.pointer (some ⟨qm,0,none⟩)/\x=jK (k:Int)/\mm=60-k/\k<=60/\PMv (sb p) m k/\St w aY [fN K qm m,fB K,eZ G q2 m,fB G] w',⟨60,0,_,_,rfl,rfl,rfl,dO,azm,B⟩,?_⟩;rintro mm _ _ w11 ⟨k,m,qm,rfl,rfl,rfl,hk,I,B⟩ _;refine⟨λjv w'=>∃q:Prop,∃_:Decidable q,(q->k<script.length/\k<60)/\jv=.bool (decide q)/\w11=w',aI anI (hR7.ext B.aE) (aK (aC (λ_=>aK ⟨_,inferInstance,(λ_=>cW),rfl,rfl⟩) λ_=>⟨False,inferInstance,(λh=>h.elim),rfl,rfl⟩)),?_⟩
 rintro _ _ ⟨q3,hq3,hq4,rfl,hw⟩ _;subst hw;refine aC (λAA=>?_) (λ_=>aZ asO B (C14 _) λ_ _ B=>⟨rfl,B.aE⟩);obtain⟨hk3,hk4⟩:=hq4 AA;obtain⟨e_sa,ae7⟩:=gx ts7 (i:=(k:Int).toNat) cW;obtain⟨E,azn⟩:=gx script (i:=(k:Int).toNat) cW;obtain⟨C8,rfl,FV⟩:=hD7.2 _ _ _ ae7 azn;refine⟨λy w'=>∃(m2:gQ) (J:Nat),y=.pointer (some ⟨J,0,none⟩)/\PMv (sb p) m2 (k+1)/\St w aY [fN K J m2,fB K,eZ G q2 m2,fB G] w',oB (α:=dY) B mq (λamv _ B=>⟨λc15 w'=>∃C:List dY,(∀x∈C,x.cut.length<=1000)/\C.length<=1000000000/\St w aY [fW c15 C,fN K qm m,fB K,eZ G q2 m,fB G] w',⟨λjv w'=>∃q:Prop,∃_:Decidable q,jv=.bool (decide q)/\St w aY [fW amv ([]:List dY),fN K qm m,fB K,eZ G q2 m,fB G] w',aD (aA Dv (aU aV (zy B.p3.has) (aK (aC (λJw=>?_) λ_=>have B:=B.p4.p4.p4.p4.p4;⟨False,inferInstance,rfl,B⟩)))),?_⟩,?_⟩),?_⟩
 .refine aD ?_;obtain⟨a8,hr8⟩:=eZ.rd B.p3.has;have hb8:=I.b.mb.mono (show k<=1000000 by omega);exact aA qi (aU Dt (hr8.b.cell (o:=11) rfl) (dF am9 B (C29 _ m.mem _ hr8.mem I.b.pm.gm.mem hb8) λ_ _ _ B=>aZ aBF B (C28 _ (yB m.mem) _ B.fu (ajR I.b.pm.gm) (ajQ hb8)) λ_ _ B=>gL (have B:=B.drop.p4.p4.p4.p4.p4;⟨_,inferInstance,rfl,B⟩)))
 .rintro _ _ ⟨q6,hq6,rfl,B⟩ _;exact aC (λ_=>dF aBG B (aHE I.b cW (OB I.b cW) B.p3.has B.p4.fB λ_ e=>St.l4 B.p4 e) λ_ _ _ B=>dF asU B (ayM I.b cW (OB I.b cW) B.p2.has B.p3.fB λ_ e=>St.l4 B.p3 e) λ_ _ _ B=>aZ amP B (C20 _ _ (jC m) (jC m) _ B.dl B.p1.dl (by have:=Ki I.b cW;omega) λx hx=>by have:=Cp I.b.pm.gm.mem x hx;omega) λ_ _ B=>bV (fI eU (have B:=B.drop.p1.drop.p4.p4.p4.p4.p4;⟨jC m,Cp I.b.pm.gm.mem,by have:=Ki I.b cW;omega,B⟩))) (λ_=>have B:=B.p4.p4.p4.p4.p4;⟨[],λ_ hx=>(by cases hx),dO,B⟩)
 .rintro c15 _ ⟨C,adk,ayu,B⟩ _;refine⟨λjv w'=>∃(b:Nat) (lv:Value) (U:List dN) (lv6:Value) (V:List dN) (M:SV),jv=.pointer (some ⟨b,0,none⟩)/\(∀w2,eN (λ_=>True) w2 (j6 C8.cut) E.p.cut->jF U (cT m) w2->jF V C w2->eN (λ_=>True) w2 (j6 M) (oV E (cT m) C m.cS).cut)/\St w aY [cI b (kp (⟨(oV E (cT m) C m.cS).kind,(oV E (cT m) C m.cS).t,(oV E (cT m) C m.cS).i,M⟩:dN)),bE lv U,fB (jF U (cT m)),bE lv6 V,fB (jF V C),fN K qm m,fB K,eZ G q2 m,fB G] w',aQ anI hR7 cW ae7 (λ_ xi=>have B:=B.drew;aF X6 (xi.ext B.aE) (aD (aA Dv (aU aV (zy B.p3.has) ⟨dF aaj B (azl I.b B.p3.has B.p4.fB λ_ e=>St.l4 B.p4 e) (λaHs _ cJ B=>⟨eG X6 (xi.ext B.aE),⟨aG aV (zy B.p4.has),⟨?_,⟨?_,?_⟩⟩⟩⟩),⟨?_,?_⟩⟩)))),?_⟩
  .have B:=B.p1;obtain⟨Kv,B⟩:=B.wK;have B:=B.p2;obtain⟨OG,B⟩:=B.wK;refine eR amR (C24 E (⟨E.kind,E.n,C8⟩:Ar) _ _ OG (cT m) Kv C m.cS _ ⟨C8,rfl,Ov FV B.aE⟩ B.fu B.p1.fB B.p2.fu B.p3.fB (FR I.b) cW) ?_;rintro _ _ ⟨aBj,rfl,he,ZH⟩;have B:=B.ext he;obtain⟨ajS,ae8,ae9⟩:=ZH.rd B.p1.fB B.p3.fB;subst ae8;refine aR B CA (λb_a16 _ B=>?_);have B:=B.enc (cs':=kp (⟨0,0,0,bL⟩:dN)) rfl;refine⟨eG X6 (xi.ext B.aE),?_⟩;refine⟨aG aV (zy B.p7.has),?_⟩;exact aO (x:=(⟨(oV E (cT m) C m.cS).kind,(oV E (cT m) C m.cS).t,(oV E (cT m) C m.cS).i,ajS⟩:dN)) B ot rfl rfl (λ_ B=>have B:=B.p8.p8.p8.p8.p8.p8.p8.p8.p8;⟨_,_,_,_,_,_,rfl,ae9,B⟩)
  .refine aR B CA (λaBk _ B=>?_);have B:=B.enc (cs':=kp (⟨0,0,0,bL⟩:dN)) rfl;refine⟨eG X6 (xi.ext B.aE),?_⟩;refine⟨aG aV (zy B.p5.has),?_⟩;have B:=B.p2;obtain⟨Kv,B⟩:=B.wK;have B:=B.p3;obtain⟨OG,B⟩:=B.wK;refine eR amR (C24 E (⟨E.kind,E.n,C8⟩:Ar) _ _ OG (cT m) Kv C m.cS _ ⟨C8,rfl,Ov FV B.aE⟩ B.fu B.p1.fB B.p2.fu B.p3.fB (FR I.b) cW) ?_;rintro _ _ ⟨asp,rfl,he,So⟩;have B:=B.ext he;obtain⟨ZI,Vg,Vh⟩:=So.rd B.p1.fB B.p3.fB;subst Vg
   exact aO (x:=(⟨(oV E (cT m) C m.cS).kind,(oV E (cT m) C m.cS).t,(oV E (cT m) C m.cS).i,ZI⟩:dN)) B.p4 ot rfl rfl (λ_ B=>have B:=B.p8.p8.p8.p8.p8.p8.p8.p8.p8;⟨_,_,_,_,_,_,rfl,Vh,B⟩)
  .trivial
  .refine aR B CA (λaBl _ B=>?_);have B:=B.enc (cs':=kp (⟨0,0,0,bL⟩:dN)) rfl;refine⟨eG X6 (xi.ext B.aE),?_⟩;refine⟨aG aV (zy B.p4.has),?_⟩;refine dF aaj B (azl I.b B.p4.has B.p5.fB λ_ e=>St.l4 B.p5 e) (λaHI _ cJ B=>?_);refine⟨eG X6 (xi.ext B.aE),?_⟩;refine⟨aG aV (zy B.p5.has),?_⟩;have B:=B.p2;obtain⟨Kv,B⟩:=B.wK;have B:=B.p2;obtain⟨ZJ,B⟩:=B.wK;refine eR amR (C24 E (⟨E.kind,E.n,C8⟩:Ar) _ _ ZJ (cT m) Kv C m.cS _ ⟨C8,rfl,Ov FV B.aE⟩ B.fu B.p1.fB B.p2.fu B.p3.fB (FR I.b) cW) ?_
   rintro _ _ ⟨asq,rfl,he,Sp⟩;have B:=B.ext he;obtain⟨ZK,Vi,Vj⟩:=Sp.rd B.p1.fB B.p3.fB;subst Vi;exact aO (x:=(⟨(oV E (cT m) C m.cS).kind,(oV E (cT m) C m.cS).t,(oV E (cT m) C m.cS).i,ZK⟩:dN)) B.p4 ot rfl rfl (λ_ B=>have B:=B.p8.p8.p8.p8.p8.p8.p8.p8.p8;⟨_,_,_,_,_,_,rfl,Vj,B⟩)
  .trivial
  rintro _ _ ⟨aHJ,lv5,U,lv6,V,M,rfl,arJ,B⟩ _;obtain⟨N1,m1,W,e1,hd1,hpm1⟩:=aeq I.b.pm (oV E (cT m) C m.cS);have hm1:=I.do hd1;refine⟨λy w'=>∃J:Nat,y=.pointer (some ⟨J,0,none⟩)/\St w aY [fN K J m,cI aHJ (kp (⟨(oV E (cT m) C m.cS).kind,(oV E (cT m) C m.cS).t,(oV E (cT m) C m.cS).i,M⟩:dN)),bE lv5 U,fB (jF U (cT m)),bE lv6 V,fB (jF V C),fB K,eZ G q2 m,fB G] w',aQ anI hR7 cW ae7 (λ_ Uv=>bO E.kind Nl Uv rfl rfl λ_ CK=>aF aV (CK.ext B.aE) (aH (aC (λaHK=>?_) λ_=>have B:=B.p8.p8.p8.p7.p7.p7.p7.p7.p8;⟨_,rfl,B⟩))),?_⟩
  .refine eR asP (ayK I.b cW B.p5.has B.p6.fB λ_ e=>St.l4 B.p6 e) ?_;rintro _ _ ⟨aHL,rfl,cJ⟩;have B:=B.made cJ;refine aF ot B.p1.At (bI KJ B.p6 (H':=λ_=>fN K qm m1) (Φ:=λv _=>v=.tuple #[j6 (W:bU),jK e1]) (λF2 fz O=>?_) ?_)
   .exact Lj (N:=N1) (k:=(oV E (cT m) C m.cS)) (gc:=M) I.b cW hd1 (OA (xz I.b) adk) fz (λw' hc=>((O w' hc).p6).fB) (λw' hc=>arJ w' (A8 (Ov FV (O w' hc).aE)) ((O w' hc).p3).fB ((O w' hc).p5).fB)
   rintro _ _ rfl B;exact z9 VP (fM (have B:=B.drop.p8.p8.p8.p8.p8.p8.p8.p8.p8;⟨_,rfl,B⟩))
  rintro _ _ ⟨J,rfl,B⟩ _;refine aF ot B.p1.At (bI KJ B (H':=λ_=>fN K J m1) (Φ:=λv _=>v=.tuple #[j6 (W:bU),jK e1]) (λF2 fz O=>?_) ?_)
  .exact Lj (N:=N1) (k:=(oV E (cT m) C m.cS)) (gc:=M) I.b cW hd1 (OA (xz I.b) adk) fz (λw' hc=>((O w' hc).p5).fB) (λw' hc=>arJ w' (A8 (Ov FV (O w' hc).aE)) ((O w' hc).p2).fB ((O w' hc).p4).fB)
  rintro _ _ rfl B;refine bD rfl (bD rfl (aR B kV λV4 _ B=>aO (x:=(W:bU)) B eV rfl rfl λ_ B=>aF ot B.p2.At (bI aBH B.p8 (H':=λ_=>eZ G q2 m1) (Φ:=λv _=>v=.tuple #[j6 (W:bU),jK e1]) (λF2 fz O=>?_) ?_)))
  .exact aHF (N:=N1) (k:=(oV E (cT m) C m.cS)) (gc:=M) I cW hd1 (OA (xz I.b) adk) fz (λw' hc=>((O w' hc).p8).fB) (λw1 hc _ e=>St.l4 ((O w1 hc).p8) e) (λw' hc=>arJ w' (A8 (Ov FV (O w' hc).aE)) ((O w' hc).p4).fB ((O w' hc).p6).fB)
  rintro _ _ rfl B;refine bD rfl (bD rfl (aR B kV λb_y20 _ B=>aO (x:=(W:bU)) B eV rfl rfl λ_ B=>⟨λjv w'=>jv=.bool false/\St w aY [fN K J m1,fB K,eZ G q2 m1,fB G] w',aF eV B.p2.At (aF eV B.At (E6 Ik rfl rfl (aju _) (fI eU (bQ (fI eU (aZ asT B (azk hm1 B.p3.has B.p9.fB (λ_ e=>St.l4 B.p9 e) B.p1.has B.uU.fB λ_ e=>St.l4 B.uU e) λ_ _ B=>bV (have B:=B.drop.p1.drop.p2.drop.p2.drop.p2.drop.p2.drop.p2.drop.p3.p1.p3.p3;⟨rfl,B⟩))))))),?_⟩));rintro _ _ ⟨rfl,B⟩ _;exact fM (have B:=B.p3.p3.p3.p3;⟨m1,_,rfl,hm1,B⟩)
 rintro _ _ ⟨m2,J,rfl,hm2,B⟩ _;exact aN cW ⟨_,cW,k+1,m2,J,rfl,rfl,rfl,cW,hm2,B⟩
def own:ownKnob Tryz.prog.godebug=none:=by kernel_rfl
def rd9:Cb ji 9 ByteArray (λy=>y.size<=maxLen):=RdT.deep (anN Tryz.underlying9 (by kernel_rfl)) λ_ _=>rfl
def OT:Cb ji 3 Int gb:=RdT.deep (anM Tryz.underlying3 (by kernel_rfl)) λ_ _=>rfl
def azp:Cb ji 163 dW Bw:=λw=>⟨by kernel_rfl,λenc base held fuel cs x h=>by
 obtain⟨O,n,I⟩:=oA Tryz.underlying163 h
 obtain⟨y0,h0⟩:=I 0 _ rfl
 obtain⟨y1,h1⟩:=I 1 _ rfl
 obtain⟨y2,h2⟩:=I 2 _ rfl
 obtain⟨B,e0,a0,U,k0⟩:=(rd9 w).rd enc base held n _ _ h0
 obtain⟨J,e1,a1,W,M⟩:=(OT w).rd enc base held n _ _ h1
 obtain⟨E,e2,a2,d2,k2⟩:=(OT w).rd enc base held n _ _ h2
 obtain rfl:B=a0:=U
 obtain rfl:J=a1:=W
 obtain rfl:E=a2:=d2
 have p0:=eI (s:=1) e0
 have p1:=eI (s:=1) e1
 have p2:=eI (s:=1) e2
 have V:cs.drop 3=[]:=CS.2 (by rw[O];exact HL (by kernel_rfl))
 refine⟨(⟨B,J,E⟩:dW),?_,(⟨B,J,E⟩:dW),rfl,k0,M,k2⟩
 have e:cs=cs.drop 0:=rfl
 rw[e]
 refine p0.trans ?_
 refine(hM _ p1).trans ?_
 refine(hM _ (hM _ p2)).trans ?_
 exact(hM _ (hM _ (hM _ V)))⟩
def arK:Cb ji 23 (List dW) (λys:(List dW)=>∀y∈ys,Bw y):=Cb.slice Tryz.underlying23 (by kernel_rfl) azp
def aHM:Cb ji 22 (List (List dW)) (λys:(List (List dW))=>∀y∈ys,(λys:(List dW)=>∀y∈ys,Bw y) y):=Cb.slice Tryz.underlying22 (by kernel_rfl) arK
def aHN:Cb ji 95 (List ByteArray) (λys:(List ByteArray)=>∀y∈ys,(λy:ByteArray=>y.size<=maxLen) y):=Cb.slice Tryz.underlying95 (by kernel_rfl) rd9
def azq:Cb ji 166 dP DH:=λw=>⟨by kernel_rfl,λenc base held fuel cs x h=>by
 obtain⟨U,n,B⟩:=oA Tryz.underlying166 h
 obtain⟨y0,h0⟩:=B 0 _ rfl
 obtain⟨y1,h1⟩:=B 1 _ rfl
 obtain⟨y2,h2⟩:=B 2 _ rfl
 obtain⟨y3,h3⟩:=B 3 _ rfl
 obtain⟨E,e0,a0,V,k0⟩:=(OT w).rd enc base held n _ _ h0
 obtain⟨M,e1,a1,d1,O⟩:=(OT w).rd enc base held n _ _ h1
 obtain⟨I,e2,a2,d2,k2⟩:=(rd9 w).rd enc base held n _ _ h2
 obtain⟨J,e3,a3,d3,k3⟩:=(OT w).rd enc base held n _ _ h3
 obtain rfl:E=a0:=V
 obtain rfl:M=a1:=d1
 obtain rfl:I=a2:=d2
 obtain rfl:J=a3:=d3
 have p0:=eI (s:=1) e0
 have p1:=eI (s:=1) e1
 have p2:=eI (s:=1) e2
 have p3:=eI (s:=1) e3
 have W:cs.drop 4=[]:=CS.2 (by rw[U];exact HL (by kernel_rfl))
 refine⟨(⟨E,M,I,J⟩:dP),?_,(⟨E,M,I,J⟩:dP),rfl,k0,O,k2,k3⟩
 have e:cs=cs.drop 0:=rfl
 rw[e]
 refine p0.trans ?_
 refine(hM _ p1).trans ?_
 refine(hM _ (hM _ p2)).trans ?_
 refine(hM _ (hM _ (hM _ p3))).trans ?_
 exact(hM _ (hM _ (hM _ (hM _ W))))⟩
def arL:Cb ji 86 (List dP) (λys:(List dP)=>∀y∈ys,DH y):=Cb.slice Tryz.underlying86 (by kernel_rfl) azq
def azr:Cb ji 173 cR Ny:=λw=>⟨by kernel_rfl,λenc base held fuel cs x h=>by
 obtain⟨hl,n,B⟩:=oA Tryz.underlying173 h
 obtain⟨y0,h0⟩:=B 0 _ rfl
 obtain⟨y1,h1⟩:=B 1 _ rfl
 obtain⟨y2,h2⟩:=B 2 _ rfl
 obtain⟨y3,h3⟩:=B 3 _ rfl
 obtain⟨y4,h4⟩:=B 4 _ rfl
 obtain⟨y5,h5⟩:=B 5 _ rfl
 obtain⟨y6,h6⟩:=B 6 _ rfl
 obtain⟨y7,h7⟩:=B 7 _ rfl
 obtain⟨y8,h8⟩:=B 8 _ rfl
 obtain⟨M,e0,a0,d0,k0⟩:=(OT w).rd enc base held n _ _ h0
 obtain⟨V,e1,a1,d1,k1⟩:=(rd9 w).rd enc base held n _ _ h1
 obtain⟨I,e2,a2,d2,k2⟩:=(rd9 w).rd enc base held n _ _ h2
 obtain⟨s3,e3,a3,d3,k3⟩:=(arL w).rd enc base held n _ _ h3
 obtain⟨W,e4,a4,d4,k4⟩:=(arL w).rd enc base held n _ _ h4
 obtain⟨E,e5,a5,d5,k5⟩:=(OT w).rd enc base held n _ _ h5
 obtain⟨O,e6,a6,d6,k6⟩:=(OT w).rd enc base held n _ _ h6
 obtain⟨J,e7,a7,d7,k7⟩:=(OT w).rd enc base held n _ _ h7
 obtain⟨U,e8,a8,d8,k8⟩:=(OT w).rd enc base held n _ _ h8
 obtain rfl:M=a0:=d0
 obtain rfl:V=a1:=d1
 obtain rfl:I=a2:=d2
 obtain rfl:E=a5:=d5
 obtain rfl:O=a6:=d6
 obtain rfl:J=a7:=d7
 obtain rfl:U=a8:=d8
 have p0:=eI (s:=1) e0
 have p1:=eI (s:=1) e1
 have p2:=eI (s:=1) e2
 have p3:=eI (s:=1) e3
 have p4:=eI (s:=1) e4
 have p5:=eI (s:=1) e5
 have p6:=eI (s:=1) e6
 have p7:=eI (s:=1) e7
 have p8:=eI (s:=1) e8
 have hz:cs.drop 9=[]:=CS.2 (by rw[hl];exact HL (by kernel_rfl))
 refine⟨(⟨M,V,I,s3,W,E,O,J,U⟩:cL),?_,(⟨M,V,I,a3,a4,E,O,J,U⟩:cR),⟨s3,W,rfl,d3,d4⟩,k0,k1,k2,k3,k4,k5,k6,k7,k8⟩
 have e:cs=cs.drop 0:=rfl
 rw[e]
 refine p0.trans ?_
 refine(hM _ p1).trans ?_
 refine(hM _ (hM _ p2)).trans ?_
 refine(hM _ (hM _ (hM _ p3))).trans ?_
 refine(hM _ (hM _ (hM _ (hM _ p4)))).trans ?_
 refine(hM _ (hM _ (hM _ (hM _ (hM _ p5))))).trans ?_
 refine(hM _ (hM _ (hM _ (hM _ (hM _ (hM _ p6)))))).trans ?_
 refine(hM _ (hM _ (hM _ (hM _ (hM _ (hM _ (hM _ p7))))))).trans ?_
 refine(hM _ (hM _ (hM _ (hM _ (hM _ (hM _ (hM _ (hM _ p8)))))))).trans ?_
 exact(hM _ (hM _ (hM _ (hM _ (hM _ (hM _ (hM _ (hM _ (hM _ hz)))))))))⟩
def aHO:Cb ji 96 (List cR) (λys:(List cR)=>∀y∈ys,Ny y):=Cb.slice Tryz.underlying96 (by kernel_rfl) azr
def aHP:Cb ji 98 eH Bx:=λw=>⟨by kernel_rfl,λenc base held fuel cs x h=>by
 obtain⟨U,n,B⟩:=oA Tryz.underlying98 h
 obtain⟨y0,h0⟩:=B 0 _ rfl
 obtain⟨y1,h1⟩:=B 1 _ rfl
 obtain⟨y2,h2⟩:=B 2 _ rfl
 obtain⟨y3,h3⟩:=B 3 _ rfl
 obtain⟨E,e0,a0,V,k0⟩:=(rd9 w).rd enc base held n _ _ h0
 obtain⟨M,e1,a1,d1,O⟩:=(aHN w).rd enc base held n _ _ h1
 obtain⟨J,e2,a2,d2,k2⟩:=(aHO w).rd enc base held n _ _ h2
 obtain⟨I,e3,a3,d3,k3⟩:=(OT w).rd enc base held n _ _ h3
 obtain rfl:E=a0:=V
 obtain rfl:I=a3:=d3
 have p0:=eI (s:=1) e0
 have p1:=eI (s:=1) e1
 have p2:=eI (s:=1) e2
 have p3:=eI (s:=1) e3
 have W:cs.drop 4=[]:=CS.2 (by rw[U];exact HL (by kernel_rfl))
 refine⟨(⟨E,M,J,I⟩:fE),?_,(⟨E,a1,a2,I⟩:eH),⟨M,J,rfl,d1,d2⟩,k0,O,k2,k3⟩
 have e:cs=cs.drop 0:=rfl
 rw[e]
 refine p0.trans ?_
 refine(hM _ p1).trans ?_
 refine(hM _ (hM _ p2)).trans ?_
 refine(hM _ (hM _ (hM _ p3))).trans ?_
 exact(hM _ (hM _ (hM _ (hM _ W))))⟩
def azs:Cb ji 24 (List eH) (λys:(List eH)=>∀y∈ys,Bx y):=Cb.slice Tryz.underlying24 (by kernel_rfl) aHP
def aHQ:Cb ji 89 lW Iu:=λw=>⟨by kernel_rfl,λenc base held fuel cs x h=>by
 obtain⟨M,n,I⟩:=oA Tryz.underlying89 h
 obtain⟨y0,h0⟩:=I 0 _ rfl
 obtain⟨y1,h1⟩:=I 1 _ rfl
 obtain⟨E,e0,a0,O,W⟩:=(arL w).rd enc base held n _ _ h0
 obtain⟨B,e1,a1,V,J⟩:=(OT w).rd enc base held n _ _ h1
 obtain rfl:B=a1:=V
 have p0:=eI (s:=1) e0
 have p1:=eI (s:=1) e1
 have U:cs.drop 2=[]:=CS.2 (by rw[M];exact HL (by kernel_rfl))
 refine⟨(⟨E,B⟩:nZ),?_,(⟨a0,B⟩:lW),⟨E,rfl,O⟩,W,J⟩
 have e:cs=cs.drop 0:=rfl
 rw[e]
 refine p0.trans ?_
 refine(hM _ p1).trans ?_
 exact(hM _ (hM _ U))⟩
def aHR:Cb ji 25 (List lW) (λys:(List lW)=>∀y∈ys,Iu y):=Cb.slice Tryz.underlying25 (by kernel_rfl) aHQ
def rd27:Cb ji 27 dM ahg:=λw=>⟨by kernel_rfl,λenc base held fuel cs x h=>by
 obtain⟨W,n,B⟩:=oA Tryz.underlying27 h
 obtain⟨y0,h0⟩:=B 0 _ rfl
 obtain⟨y1,h1⟩:=B 1 _ rfl
 obtain⟨y2,h2⟩:=B 2 _ rfl
 obtain⟨y3,h3⟩:=B 3 _ rfl
 obtain⟨y4,h4⟩:=B 4 _ rfl
 obtain⟨y5,h5⟩:=B 5 _ rfl
 obtain⟨I,e0,a0,d0,k0⟩:=(aHM w).rd enc base held n _ _ h0
 obtain⟨U,e1,a1,d1,V⟩:=(arK w).rd enc base held n _ _ h1
 obtain⟨M,e2,a2,d2,k2⟩:=(arK w).rd enc base held n _ _ h2
 obtain⟨O,e3,a3,d3,k3⟩:=(azs w).rd enc base held n _ _ h3
 obtain⟨E,e4,a4,d4,k4⟩:=(azs w).rd enc base held n _ _ h4
 obtain⟨J,e5,a5,d5,k5⟩:=(aHR w).rd enc base held n _ _ h5
 have p0:=eI (s:=1) e0
 have p1:=eI (s:=1) e1
 have p2:=eI (s:=1) e2
 have p3:=eI (s:=1) e3
 have p4:=eI (s:=1) e4
 have p5:=eI (s:=1) e5
 have hz:cs.drop 6=[]:=CS.2 (by rw[W];exact HL (by kernel_rfl))
 refine⟨(⟨I,U,M,O,E,J⟩:bX),?_,(⟨a0,a1,a2,a3,a4,a5⟩:dM),⟨I,U,M,O,E,J,rfl,d0,d1,d2,d3,d4,d5⟩,k0,V,k2,k3,k4,k5⟩
 have e:cs=cs.drop 0:=rfl
 rw[e]
 refine p0.trans ?_
 refine(hM _ p1).trans ?_
 refine(hM _ (hM _ p2)).trans ?_
 refine(hM _ (hM _ (hM _ p3))).trans ?_
 refine(hM _ (hM _ (hM _ (hM _ p4)))).trans ?_
 refine(hM _ (hM _ (hM _ (hM _ (hM _ p5))))).trans ?_
 exact(hM _ (hM _ (hM _ (hM _ (hM _ (hM _ hz))))))⟩
def aHS:Cb ji 28 (List Int) (λys:(List Int)=>∀y∈ys,gb y):=Cb.slice Tryz.underlying28 (by kernel_rfl) OT
def aHT:Cb ji 52 dY V0:=λw=>⟨by kernel_rfl,λenc base held fuel cs x h=>by
 obtain⟨U,n,B⟩:=oA Tryz.underlying52 h
 obtain⟨y0,h0⟩:=B 0 _ rfl
 obtain⟨y1,h1⟩:=B 1 _ rfl
 obtain⟨y2,h2⟩:=B 2 _ rfl
 obtain⟨y3,h3⟩:=B 3 _ rfl
 obtain⟨E,e0,a0,V,k0⟩:=(OT w).rd enc base held n _ _ h0
 obtain⟨J,e1,a1,d1,O⟩:=(OT w).rd enc base held n _ _ h1
 obtain⟨I,e2,a2,d2,k2⟩:=(OT w).rd enc base held n _ _ h2
 obtain⟨M,e3,a3,d3,k3⟩:=(aHS w).rd enc base held n _ _ h3
 obtain rfl:E=a0:=V
 obtain rfl:J=a1:=d1
 obtain rfl:I=a2:=d2
 have p0:=eI (s:=1) e0
 have p1:=eI (s:=1) e1
 have p2:=eI (s:=1) e2
 have p3:=eI (s:=1) e3
 have W:cs.drop 4=[]:=CS.2 (by rw[U];exact HL (by kernel_rfl))
 refine⟨(⟨E,J,I,M⟩:dN),?_,(⟨E,J,I,a3⟩:dY),⟨M,rfl,d3⟩,k0,O,k2,k3⟩
 have e:cs=cs.drop 0:=rfl
 rw[e]
 refine p0.trans ?_
 refine(hM _ p1).trans ?_
 refine(hM _ (hM _ p2)).trans ?_
 refine(hM _ (hM _ (hM _ p3))).trans ?_
 exact(hM _ (hM _ (hM _ (hM _ W))))⟩
def rd64:Cb ji 64 KR anQ:=λw=>⟨by kernel_rfl,λenc base held fuel cs x h=>by
 obtain⟨O,n,E⟩:=oA Tryz.underlying64 h
 obtain⟨y0,h0⟩:=E 0 _ rfl
 obtain⟨y1,h1⟩:=E 1 _ rfl
 obtain⟨y2,h2⟩:=E 2 _ rfl
 obtain⟨B,e0,a0,U,k0⟩:=(OT w).rd enc base held n _ _ h0
 obtain⟨I,e1,a1,W,M⟩:=(OT w).rd enc base held n _ _ h1
 obtain⟨J,e2,a2,d2,k2⟩:=(aHT w).rd enc base held n _ _ h2
 obtain rfl:B=a0:=U
 obtain rfl:I=a1:=W
 have p0:=eI (s:=1) e0
 have p1:=eI (s:=1) e1
 have p2:=eI (s:=4) e2
 have V:cs.drop 6=[]:=CS.2 (by rw[O];exact HL (by kernel_rfl))
 refine⟨(⟨B,I,J⟩:Ar),?_,(⟨B,I,a2⟩:KR),⟨J,rfl,d2⟩,k0,M,k2⟩
 have e:cs=cs.drop 0:=rfl
 rw[e]
 refine p0.trans ?_
 refine(hM _ p1).trans ?_
 refine(hM _ (hM _ p2)).trans ?_
 exact(hM _ (hM _ (hM _ V)))⟩
end Go.Proofs.YtnjcingfdhjfkaaGreat
