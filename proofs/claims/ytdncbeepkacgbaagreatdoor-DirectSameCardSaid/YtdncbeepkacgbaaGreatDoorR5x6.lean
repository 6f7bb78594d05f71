/-
  Part 6.
-/
import Derived.Test.YtdncbeepkacgbaaGreatDoorR5x5
set_option maxHeartbeats 8000000
set_option linter.all false
set_option maxRecDepth 100000
open Go.Fw.Flat renaming val->jj,enc->jl
open ByteArray renaming mk->jY
open List renaming getElem?_eq_some_iff->j0,length_append->lJ,getElem?_eq_getElem->l0,mem_of_getElem?->ml,length_singleton->mv,take_of_length_le->mH,length_take->n0,length_map->oi,append_assoc->o1,getElem?_eq_none->o4,replicate->o6,length_cons->qb,range->qi,mem_cons_self->qs,append_nil->rM,length_eq_zero_iff->vI,take_add_one->yC,range_succ->B8,foldl_append->Hc,flatMap_append->IM
open Go.Instr renaming build->mZ,sliceAt->pA,box->zG
open Bool renaming and_eq_true->n3,true_and->yx,not_false->Oe
open Go.Fw.Deep renaming dr->n4
open Go.Value renaming int->n5
open Nat renaming zero_le->ob,le_refl->qQ,le_trans->xL,lt_or_ge->P2
open Option renaming some->o5,toList_some->Xa
open Int renaming toNat_natCast->s6
namespace Go.Proofs.YtdncbeepkacgbaaGreatDoor
open Go.Fw
def uu(K:iD)(B:SV)(rows:List bF)(l:List bD)(w:World):Prop:=(∀w',K w'->jx rows l w')/\(K w->dP (λ_=>True) w (jj B) rows)
abbrev PE:=List (ur×List bF)
def yd(K:iD)(w:World):PE->PD->Prop
 | [],[]=>True
 | e::es,q::p=>(e.1.NN=q.2/\uu K e.1.l e.2 q.1.flat w)/\yd K w es p
 | _,_=>False
def NP(es:PE):List ur:=(es.map Prod.fst).reverse
theorem ad0(e:ur×List bF)(es:PE):NP (e::es)=NP es++[e.1]:=by simp[NP]
theorem rh(es:PE):(NP es).length=es.length:=by simp[NP]
theorem yd.len{K:iD}{w:World}:∀{es:PE}{p:PD},yd K w es p->es.length=p.length
 | [],[],_=>rfl
 | e::es,q::p,h=>by have:=yd.len h.2;simp[this]
 | [],_::_,h=>h.elim
 | _::_,[],h=>h.elim
def eP(K Φ:iD)(p:Nat)(room:Int)(t:kG):HP:=ph λE:Nat=>ph λB:SV=>ph λrg=>ph λpl=>ph λes:PE=>fact (∀w,K w->dP (λ_=>True) w (jj B) t.names)
 (sep (bU p [.pointer (some ⟨E,0,none⟩),jj B,rg,pl,iE t.fault]) (sep (lV E room t.buf) (sep (bG rg t.aS) (sep (bG pl (NP es)) (ep λw=>yd K w es t.cD/\Φ w)))))
abbrev rT(K:iD)(p:Nat)(room:Int)(t:kG):HP:=eP K (λ_=>True) p room t
section
variable {w w0:World}{A:Nat->Prop}{R:List HP}{p:Nat}{K Φ Ψ:iD}{room:Int}{t:kG}
theorem ye{H1 H2 B E G:HP}(I:St w0 A (sep H1 (sep H2 (sep B (sep E G)))::R) w):St w0 A (H1::H2::B::E::G::R) w:=by
 have h1:=I.split
 have h2:=h1.p1.split
 have h3:=h2.p1.split
 have h4:=h3.p1.split
 exact h4.p2.p3.p4
theorem yf{H1 H2 B E G:HP}(I:St w0 A (H1::H2::B::E::G::R) w):St w0 A (sep H1 (sep H2 (sep B (sep E G)))::R) w:=by
 have h4:=St.join I.p4.p4
 have h3:=St.join h4.p3
 have h2:=St.join h3.p2
 exact St.join h2.p1
abbrev ri(E:Nat)(B:SV)(rg pl:Value)(f:Int):List Value:=[.pointer (some ⟨E,0,none⟩),jj B,rg,pl,.int .i64 f]
theorem eP.open(B:St w0 A (eP K Φ p room t::R) w):∃G E rg pl es,(∀w,K w->dP (λ_=>True) w (jj E) t.names)/\
  St w0 A (bU p (ri G E rg pl t.fault)::lV G room t.buf::bG rg t.aS::bG pl (NP es)::ep (λw=>yd K w es t.cD/\Φ w)::R) w:=by
 obtain⟨G,B⟩:=B.dU;obtain⟨E,B⟩:=B.dU;obtain⟨rg,B⟩:=B.dU;obtain⟨pl,B⟩:=B.dU;obtain⟨es,B⟩:=B.dU;obtain⟨I,B⟩:=B.lq
 exact⟨G,E,rg,pl,es,I,ye B⟩
theorem eP.shut{E:Nat}{B:SV}{rg pl:Value}{es:PE}(G:∀w,K w->dP (λ_=>True) w (jj B) t.names)
  (I:St w0 A (bU p (ri E B rg pl t.fault)::lV E room t.buf::bG rg t.aS::bG pl (NP es)::ep (λw=>yd K w es t.cD/\Φ w)::R) w):St w0 A (eP K Φ p room t::R) w:=
 St.dX E (St.dX B (St.dX rg (St.dX pl (St.dX es (St.nx G (yf I))))))
theorem eP.mono(B:St w0 A (eP K Φ p room t::R) w)(h:∀w,Φ w->Ψ w):St w0 A (eP K Ψ p room t::R) w:=by
 obtain⟨J,I,rg,pl,es,G,B⟩:=eP.open B
 have h1:=B.p4.cS (Ψ:=λw=>yd K w es t.cD/\Ψ w) λw E=>⟨E.1,h w E.2⟩
 exact eP.shut G h1.p4.p4.p4.p4
theorem eP.now(B:St w0 A (eP K Φ p room t::R) w):Φ w:=by
 obtain⟨I,G,rg,pl,es,E,B⟩:=eP.open B
 exact B.p4.ep.2
theorem eP.rd(h:Has (eP K Φ p room t) w):∃G E rg pl es,(∀w,K w->dP (λ_=>True) w (jj E) t.names)/\oR w p (ri G E rg pl t.fault)/\xX w G room t.buf/\dP (λ_=>True) w rg t.aS/\dP (λ_=>True) w pl (NP es)/\yd K w es t.cD/\Φ w:=by
 obtain⟨F,B⟩:=h.st
 obtain⟨G,E,rg,pl,es,I,B⟩:=eP.open B
 exact⟨G,E,rg,pl,es,I,B.hb,Dt B.p1,B.p2.fc,B.p3.fc,B.p4.ep.1,B.p4.ep.2⟩
theorem lB{G:bF}{x:bD}(h:n4 w G x):∃B E:SV,G=⟨x.kind,x.eY,x.name,B,E,x.n,x.body,x.eR,x.at_⟩/\dP (λ_=>True) w (jj B) x.e/\dP (λ_=>True) w (jj E) x.f:=by
 obtain⟨B,E,h1,h2,h3⟩:=h
 exact⟨B,E,h1,DL.flat h2,DL.flat h3⟩
theorem jx.cut{rows:List bF}{l:List bD}{i j:Nat}(h:jx rows l w):jx ((rows.take j).drop i) ((l.take j).drop i) w:=(h.take j).drop i
theorem atv{x:bD}{a b r:Bk}(h:(Bk.cons x a b r).str){j:Int}(G:j=1+x.body):(((Bk.cons x a b r).flat.take j.toNat).drop (1:Int).toNat)=a.flat:=by
 obtain⟨B,_⟩:=h
 have E:=a.dL
 rw[BU _ (a:=1) (c:=(1:Int).toNat) (n:=a.flat.length) cU rfl]
 show(a.flat++(b.flat++r.flat)).take _=_
 grind
theorem atw{x:bD}{a b r:Bk}(h:(Bk.cons x a b r).str){i j:Int}(hi:i=1+x.body)(I:j=1+x.body+x.eR):(((Bk.cons x a b r).flat.take j.toNat).drop i.toNat)=b.flat:=by
 obtain⟨B,E,_⟩:=h
 have G:=a.dL
 have lb:=b.dL
 rw[BU _ (a:=1+a.flat.length) (n:=b.flat.length) cU cU,<- List.drop_drop]
 show((a.flat++(b.flat++r.flat)).drop _).take _=_
 grind
theorem uu.cut{G B:SV}{rows:List bF}{l:List bD}{i j:Nat}(h:uu K G rows l w)(hc:∀w' (ys:List bF),dP (λ_=>True) w' (jj G) ys->dP (λ_=>True) w' (jj B) ((ys.take j).drop i)):uu K B ((rows.take j).drop i) ((l.take j).drop i) w:=
 ⟨λw' E=>jx.cut (h.1 w' E),λE=>hc _ _ (h.2 E)⟩
theorem uu.avV{G B:SV}{rows:List bF}{l:List bD}{i:Nat}(h:uu K G rows l w)(hc:∀w' (ys:List bF),dP (λ_=>True) w' (jj G) ys->dP (λ_=>True) w' (jj B) (ys.drop i)):uu K B (rows.drop i) (l.drop i) w:=
 ⟨λw' E=>(h.1 w' E).drop i,λE=>hc _ _ (h.2 E)⟩
theorem yd.top{es:PE}{q:Bk×Bool}{p:PD}(h:yd K w es (q::p)):∃B rows E,es=(⟨B,q.2⟩,rows)::E/\uu K B rows q.1.flat w/\yd K w E p:=by
 match es,h with
 | [],h=>exact h.elim
 | e::es,h=>
  obtain⟨⟨B,G⟩,rows⟩:=e
  obtain⟨⟨h1,h2⟩,h3⟩:=h
  grind
theorem yd.cons{B:SV}{e:Bool}{rows:List bF}{es:PE}{q:Bk×Bool}{p:PD}(h:yd K w ((⟨B,e⟩,rows)::es) (q::p)):uu K B rows q.1.flat w/\yd K w es p:=⟨h.1.2,h.2⟩
theorem Jq{e:ur×List bF}{es:PE}:(NP (e::es))[es.length]?=some e.1:=by grind[NP]
theorem W4{e:ur×List bF}{es:PE}:(NP (e::es)).take es.length=NP es:=by grind[NP]
end
theorem C118(K Φ:iD)(p:Nat)(room:Int)(t:kG)(F:Nat->Prop)(lv:SV)(rows:List bF)(b:Bk)(e:Bool)(w:World)(W:(eP K Φ p room t).p w F)(I:∀w',gZ F w w'->K w')(G:∀w,Φ w->uu K lv rows b.flat w)(mM:t.cD.length<=100000) :
    CR 118 [.pointer (some ⟨p,0,none⟩),jj lv,.bool e] w (λv w'=>v=.tuple #[]/\ng F (eP K Φ p room {t with cD:=lY b e t.cD}) w w'):=by
 have B:=St.begin W;refine fD Tryz.func118 ?_;obtain⟨U,O⟩:=G _ (eP.now B);have hlen:=(U _ (I _ B.aG)).1;refine aK gX (O (I _ B.aG)) (eh (aC (λc=>?_) λc=>?_));rotate_left
 .have hb:b=.nil:=by
   cases b with
   | nil=>rfl
   | cons y a E r=>simp[Bk.flat]at hlen;omega
  subst hb;exact⟨rfl,B.mut⟩
 obtain⟨y,a,E,r,rfl⟩:=Bk.Wd (t:=b) cU;obtain⟨bp,nv,rg,pl,es,M,B⟩:=eP.open B;have Z:=B.p4.ep.1.len;refine aD (aA js (aB pN B.hb rfl (pop (Uh lv.a lv.n lv.cap e) (bV ([(⟨lv,e⟩:ur)]) B tJ rfl rfl (ei rfl) λV _ B=>?_))));have J:=B.fc;refine cK B.p4 tJ J (by rw[rh];simp;omega) er (λY _ B=>have B:=B.p1.drop;aD (aA js (aO B.p1 pN (ei rfl) B.fc.one λ_ B=>?_)));have B:=B.p4.cS (Ψ:=λw=>yd K w ((⟨lv,e⟩,rows)::es) ((.cons y a E r,e)::t.cD)/\Φ w) (λw h=>⟨⟨⟨rfl,G w h.2⟩,h.1⟩,h.2⟩)
 have B:=B.p2;rw[<- ad0 (⟨lv,e⟩,rows) es]at B;have B:=eP.shut (Φ:=Φ) (t:={t with cD:=(.cons y a E r,e)::t.cD}) M B.p1.p1.p4.p4.p4;exact⟨rfl,B.mut⟩
def C166(K Φ:iD)(p:Nat)(room:Int)(t:kG)(F:Nat->Prop)(y:bD)(a b r:Bk)(e:Bool)(I:PD)(w:World)(hF:(eP K Φ p room t).p w F)(hK:∀w',gZ F w w'->K w')(O:t.cD=(.cons y a b r,e)::I)(gG:(Bk.cons y a b r).str)(mM:t.cD.length<=100000) :
   CR 166 [.pointer (some ⟨p,0,none⟩)] w (λv w'=>v=.tuple #[]/\ng F (eP K Φ p room {t with cD:=iM t.cD}) w w'):=by
 have hpp:iM t.cD=lY r false I:=by rw[O];rfl
 have aCu:I.length<=100000:=by rw[O,qb]at mM;omega
 have B:=St.begin hF;refine pG Tryz.func166 (pl:=aCq) ?_;obtain⟨bp,nv,rg,pl,es,hk,B⟩:=eP.open B;have G:=B.p4.ep.1;rw[O]at G;obtain⟨U,rows,Y,rfl,⟨Wv,Kd⟩,_⟩:=G.top;have Lb:=G.len;rw[qb,qb]at Lb;have J:=Wv _ (hK _ B.aG);have Z4:=J.1;have J3:=(Bk.cons y a b r).dL
 change rows.length=(Bk.cons y a b r).flat.length at Z4
 obtain⟨FT,TT,OI,hb4,_⟩:=id gG;simp only[Bk.len]at J3;obtain⟨t0,E⟩:∃t0,rows[(0:Int).toNat]?=some t0:=⟨_,l0 (by simp;omega)⟩;obtain⟨ge,gf,rfl,_,_⟩:=lB (J.2 0 _ y E rfl);refine aD (aA js (aB pN B.hb rfl (aK tJ B.p3.fc ?_)));rw[rh,qb];refine fO cU ?_;rw[show((Y.length+1:Nat):Int)-1=(Y.length:Int)from cU];refine aD (aA js (aB pN B.hb rfl (aW tJ B.p3.fc cU (by rw[s6];exact Jq) λq hq=>cL U Pk hq rfl rfl λq2 Sz=>aE ou Sz (aD (aA js (aB pN B.hb rfl (have B:=B.p3;Gh tJ B cU (by rw[rh,qb];omega) λs25 B=>?_)))))))
 rw[s6,W4]at B;refine aD (aA js (aO B.p1 pN (ei rfl) B.fc.one λ_ B=>?_));have B:=B.drew.p4;rw[O]at B;have B:=B.cS (Ψ:=λw=>yd K w Y I/\(Φ w/\uu K U rows (Bk.cons y a b r).flat w)) (λ_ h=>⟨h.1.2,h.2,h.1.1.2⟩);have V:=B.ep.2.2.2 (hK _ B.aG);have B:=eP.shut (Φ:=λw=>Φ w/\uu K U rows (Bk.cons y a b r).flat w) (t:={t with cD:=I}) hk B.p2.p4.p4.p4;refine aW gX V cU E (λq3 hq3=>cL y.body nt hq3 rfl rfl λq4 hq4=>aE bL hq4 (aR cU (aW gX V cU E λq5 W=>cL y.eR pQ W rfl rfl λq6 hq6=>aE bL hq6 (aR cU (Ui gX V cU cU λs40 M=>?_)))))
 obtain⟨Z,rfl⟩:=(M _ _ V).fK;refine aT Ru B (H':=λ_=>eP K (λw=>Φ w/\uu K U rows (Bk.cons y a b r).flat w) p room {t with cD:=lY r false I}) (Φ:=λ_ _=>True) (λF2 ed dQ=>?_) ?_
 .refine(C118 K _ p room {t with cD:=I} F2 Z (rows.drop (1+y.body+y.eR).toNat) r false _ ed (λw' hc=>hK w' (dQ w' hc).aG) (λw h=>?_) aCu).mono λ_ _ r=>r.mono λ_ _ h=>⟨trivial,h.2⟩;have:=h.2.avV M;rw[Bk.atu gG rfl]at this;exact this
 rintro _ _ _ B;rw[<- hpp]at B;exact⟨rfl,(eP.mono B λ_ h=>h.1).mut⟩
theorem C127(K:iD)(p:Nat)(t:kG)(bp:Nat)(nv:SV)(rg pl:Value)(es:PE)(φ:bD->Prop)(w:World)(nI:oR w p (ri bp nv rg pl t.fault))(Jr:dP (λ_=>True) w pl (NP es))(DJ:yd K w es t.cD)
   (hw:∀w',Ext w w'->K w') (G:LN φ t.cD) (hl:t.cD.length<=100000):CR 127 [.pointer (some ⟨p,0,none⟩)] w (λv w'=>Ext w w'/\((sX t.cD=none/\v=.tuple #[jj (⟨0,⟨#[]⟩,⟨#[]⟩,bO,bO,0,0,0,0⟩:bF),.slice none 0 0,.slice none 0 0,.bool false])\/
    ∃x a b xv av bv ra rb,sX t.cD=some (x,a,b)/\v=.tuple #[jj (xv:bF),jj (av:SV),jj (bv:SV),.bool true]/\(∀w',K w'->n4 w' xv x)/\∀V,yd K V es t.cD->uu K av ra a.flat V/\uu K bv rb b.flat V)):=by
 have c3:=nI.cell (o:=3) rfl;have U:=DJ.len;have B:=St.start w;refine aiq _ _ _ ?_;unfold S127;refine aJ B kS (λb2 _ B=>have B:=B.enc (cs':=jl (⟨0,⟨#[]⟩,⟨#[]⟩,bO,bO,0,0,0,0⟩:bF)) rfl;aD (aA js (bN pN (c3.ext B.aG) (aK tJ (Jr.ext B.aG) ?_))));rw[rh];refine aI (aC (λc=>?_) λc=>?_)
 .have Sy:t.cD=[]:=vI.1 cU;exact pop (v:=jj (⟨0,⟨#[]⟩,⟨#[]⟩,bO,bO,0,0,0,0⟩:bF)) (by kernel_rfl) (aH (x:=(⟨0,⟨#[]⟩,⟨#[]⟩,bO,bO,0,0,0,0⟩:bF)) B fh rfl rfl λ_ B=>aE fh B.At ⟨B.drop.aG,.inl ⟨by rw[Sy];rfl,rfl⟩⟩)
 obtain⟨cD,yJ⟩:∃q,q=t.cD:=⟨_,rfl⟩;rw[<- yJ]at DJ G U hl |-;cases cD with
 | nil=>exact absurd (show((es.length:Nat):Int)=0 by have h0:es.length=0:=U;omega) c
 | cons q p'=>
 obtain⟨q1,e⟩:=q;cases q1 with
 | nil=>exact absurd rfl (G.ne _ (qs ..))
 | cons y a b r=>
 have W:=G.st _ (qs ..);obtain⟨sv,rows,YX,rfl,⟨Wv,Kd⟩,_⟩:=DJ.top;have O:=Wv _ (hw _ (Ext.refl _));have Z4:=O.1;have J3:=(Bk.cons y a b r).dL
 change rows.length=(Bk.cons y a b r).flat.length at Z4
 obtain⟨FT,TT,OI,hb4,_⟩:=id W;simp only[Bk.len]at J3;rw[qb]at U c;rw[qb]at U hl;obtain⟨t0,E⟩:∃t0,rows[(0:Int).toNat]?=some t0:=⟨_,l0 (by simp;omega)⟩;obtain⟨ge,gf,rfl,_,_⟩:=lB (O.2 0 _ y E rfl);have M:=Kd (hw _ (Ext.refl _));have B:=B.drew;refine aD (aA js (bN pN (c3.ext B.aG) (aD (aA js (bN pN (c3.ext B.aG) (aK tJ (Jr.ext B.aG) ?_))))));rw[rh,qb];refine fO cU ?_;rw[show((YX.length+1:Nat):Int)-1=(YX.length:Int)from cU];refine aW tJ (Jr.ext B.aG) cU (by rw[s6];exact Jq) (λq hq=>cL sv Pk hq rfl rfl λq2 Sz=>aE ou Sz (aW gX (M.ext B.aG) cU E λq3 hq3=>aE fh hq3 (aJ B kS λb7 _ B=>aH (x:=(⟨y.kind,y.eY,y.name,ge,gf,y.n,y.body,y.eR,y.at_⟩:bF)) B fh rfl rfl λ_ B=>aA nt (aB (v:=iE y.body) bL B.hb rfl (aR cU (aA pQ (aB (v:=iE y.eR) bL B.hb rfl (aR cU ?_))))))))
 have B:=B.drew;refine aE fh B.At (Rx gX (M.ext B.aG) cU cU cU λs44 I=>?_);obtain⟨Z,rfl⟩:=(I _ _ M).fK;refine Rx gX (M.ext B.aG) cU cU cU (λs49 J=>?_);obtain⟨Y,rfl⟩:=(J _ _ M).fK;refine aH (x:=(⟨y.kind,y.eY,y.name,ge,gf,y.n,y.body,y.eR,y.at_⟩:bF)) B.p1 fh rfl rfl (λ_ B=>aE fh B.At ?_);refine⟨B.drop.drop.aG,.inr ⟨y,a,b,_,Z,Y,(rows.take (1+y.body).toNat).drop (1:Int).toNat,(rows.take (1+y.body+y.eR).toNat).drop (1+y.body).toNat,rfl,rfl,λw' hk=>(Wv w' hk).2 0 _ y E rfl,λV h2=>?_⟩⟩;have h3:=h2.cons.1
 refine⟨?_,?_⟩
 .have:=h3.cut I;rw[atv W rfl]at this;exact this
 have:=h3.cut J;rw[atw W rfl rfl]at this;exact this
theorem C222(K Φ:iD)(p:Nat)(room:Int)(t:kG)(F:Nat->Prop)(w:World)(hF:(eP K Φ p room t).p w F)(hK:∀w',gZ F w w'->K w')(mM:t.cD.length<=100000) :
   CR 222 [.pointer (some ⟨p,0,none⟩)] w (λv w'=>v=.tuple #[]/\ng F (eP K Φ p room {t with cD:=mP t.cD}) w w'):=by
 have B:=St.begin hF;refine air _ _ _ ?_;unfold S222;refine⟨λm ev U=>∃(G:Bool) (E:PD),ev=.bool G/\m=E.length+(if G then 0 else 1)/\E.length<=100000/\mP t.cD=(if G=true then E else mP E)/\St w F [eP K Φ p room {t with cD:=E}] U,⟨_,false,t.cD,rfl,rfl,mM,rfl,B⟩,?_⟩;rintro m _ U ⟨G,E,rfl,rfl,V,M,B⟩ _;obtain⟨bp,nv,rg,pl,es,Y,B⟩:=eP.open B;have I:=B.p4.ep.1;have W:=I.len
 change es.length=E.length at W
 refine⟨λjv w'=>jv=.bool (!G&&decide (0<E.length))/\w'=U,?_,?_⟩
 .refine bJ ?_;cases G with
  | true=>exact eX ⟨rfl,rfl⟩
  | false=>
   refine jb (aD (aA js (aB pN B.hb rfl (aK tJ B.p3.fc ?_))));rw[rh];refine eh ?_;exact⟨vb (by rw[Oe,yx];exact gv.2 cU),rfl⟩
 rintro _ _ ⟨rfl,rfl⟩ _;refine aX (λc=>?_) (λc=>?_);rotate_left
 .have Z:mP t.cD=E:=by
   rw[M];cases G with
   | true=>rfl
   | false=>
    have:E=[]:=vI.1 (by have:=hM (by simpa only[Oe,yx]using c);omega);rw[this];rfl
  rw[Z];exact⟨rfl,(eP.shut (t:={t with cD:=E}) Y B).mut⟩
 rw[n3,Bool.not_eq_true',decide_eq_true_eq]at c;obtain⟨rfl,Cz⟩:=c;cases E with
 | nil=>simp at Cz
 | cons q J=>
 obtain⟨q1,e⟩:=q;obtain⟨sv,rows,O,rfl,_,_⟩:=I.top;rw[qb,qb]at W;rw[qb]at V;refine aD (aA js (aB pN B.hb rfl (aK tJ B.p3.fc ?_)));rw[rh,qb];refine fO cU ?_;rw[show((O.length+1:Nat):Int)-1=(O.length:Int)from cU];refine aD (aA js (aB pN B.hb rfl (aW tJ B.p3.fc cU (by rw[s6];exact Jq) λq hq=>cL e aaY hq rfl rfl λq2 Sz=>aE HE Sz (aD (aA js (aB pN B.hb rfl (have B:=B.p3;Gh tJ B cU (by rw[rh,qb];omega) λs25 B=>?_)))))))
 rw[s6,W4]at B;refine aD (aA js (aO B.p1 pN (ei rfl) B.fc.one λ_ B=>have B:=B.p4.cS (Ψ:=λw=>yd K w O J/\Φ w) (λ_ h=>⟨h.1.2,h.2⟩);have B:=eP.shut (Φ:=Φ) (t:={t with cD:=J}) Y B.p2.p4.p4.p4;⟨_,?_,e,J,rfl,rfl,cU,?_,B⟩))
 .show J.length+(if e=true then 0 else 1)<J.length+1+1
  split<;>omega
 rw[M];rfl
def C163(K Φ:iD)(p:Nat)(room:Int)(t:kG)(F:Nat->Prop)(lv:Value)(xs:List bY)(w:World)(O:(eP K Φ p room t).p w F)(U:∀w',gZ F w w'->K w')(I:dP (λ_=>True) w lv xs)(M:xs.length<=1048576)(V:t.names.length<=1048576) :
   CR 163 [.pointer (some ⟨p,0,none⟩),lv] w (λv w'=>v=.tuple #[iE (eS t xs).1,.bool (eS t xs).2]/\ng F (eP K Φ p room {t with fault:=if (eS t xs).2=true then t.fault else 2}) w w'):=by
 have B:=St.begin O;refine ais _ _ _ _ ?_;unfold S163;refine aK me I (aI (aC (λc=>?_) λc=>?_))
 .have E:eS t xs=(0,true):=by unfold eS;rw[ez cU]
  rw[E];exact⟨rfl,B.mut⟩
 have E:eS t xs=((BX t.names t.aS xs).1,decide ((BX t.names t.aS xs).2=0)):=by unfold eS;rw[ew cU]
 obtain⟨Y,W,rg,pl,es,G,B⟩:=eP.open B;have B:=B.drew;refine aD (aA CK (aB nf B.hb rfl (aD (aA wv (aB eD B.hb rfl (aY asN B (C78 _ _ _ xs t.names t.aS _ (I.ext (Ext.drew w)) (G _ (U _ B.aG)) B.p2.fc M V) λ_ Z B=>aN rfl (aN rfl ⟨λw'=>St w F [eP K Φ p room {t with fault:=if (eS t xs).2=true then t.fault else 2}] w',cN (aC (λJ=>?_) λJ=>?_),?_⟩)))))))
 .refine aD (aA zo (aO B bL (ei rfl) rfl λ_ B=>?_));have ht:{t with fault:=2}={t with fault:=if (eS t xs).2=true then t.fault else 2}:=by rw[E];dsimp only;rw[gk J];rfl
  rw[<- ht];exact eP.shut (t:={t with fault:=2}) G B
 .have ht:t={t with fault:=if (eS t xs).2=true then t.fault else 2}:=by rw[E];dsimp only;rw[fY cU];rfl
  rw[<- ht];exact eP.shut G B
 intro _ B _;exact aI ⟨by rw[E],B.mut⟩
def eP.an2{w w0:World}{A:Nat->Prop}{R:List HP}{p:Nat}{K Φ Ψ:iD}{room:Int}{t:kG}(B:St w0 A (ep Ψ::eP K Φ p room t::R) w):St w0 A (eP K (λw=>Φ w/\Ψ w) p room t::R) w:=by
 obtain⟨I,G,rg,pl,es,E,B⟩:=eP.open B.p1
 have h1:=B.p5.p5.fu.cS (Ψ:=λw=>yd K w es t.cD/\Φ w/\Ψ w) λw h=>⟨h.1.1,h.1.2,h.2⟩
 exact eP.shut E h1.p4.p4.p4.p4
theorem jx.cons{w:World}{t:bF}{x:bD}{ts:List bF}{xs:List bD}(h:n4 w t x)(B:jx ts xs w):jx (t::ts) (x::xs) w:=by
 refine⟨by simp[B.1],λi t' E h1 h2=>?_⟩
 cases i with
 | zero=>simp at h1 h2;subst h1 h2;exact h
 | succ i=>exact B.2 i t' E (by simpa using h1) (by simpa using h2)
theorem Uj(x:bD)(a:Bk):(Bk.cons x a .nil .nil).flat=x::a.flat:=by simp[Bk.flat]
theorem C221(K Φ:iD)(p:Nat)(room:Int)(t:kG)(F:Nat->Prop)(x:bD)(xv:bF)(Z:SV)(O:List bF)(a b r:Bk)(e:Bool)(V:PD)(w:World)(hF:(eP K Φ p room t).p w F)(M:∀w',gZ F w w'->K w')(CS:t.cD=(.cons x a b r,e)::V)(gG:(Bk.cons x a b r).str)(mM:t.cD.length<=90000)
   (AR:∀w,K w->n4 w xv x) (hΦ:∀w,Φ w->uu K Z O a.flat w) (hn:0<=x.n/\x.n<=1000) :
   CR 221 [.pointer (some ⟨p,0,none⟩),jj xv,jj Z] w (λv w'=>v=.tuple #[]/\ng F (eP K Φ p room {t with cD:=o0 x a t.cD}) w w'):=by
 have B:=St.begin hF;obtain⟨E,G,rfl,_,_⟩:=lB (AR _ (M _ B.aG));have hal:a.flat.length<=40:=by rw[Bk.dL];exact gG.2.2.1
 have hppl:(iM t.cD).length<=90001:=by
  rw[CS];show(lY r false V).length<=_;rw[CS,qb]at mM;cases r with
  | nil=>show V.length<=_;omega
  | cons _ _ _ _=>show V.length+1<=_;omega
 refine fD Tryz.func221 ?_;refine cP (x:=(⟨x.kind,x.eY,x.name,E,G,x.n,x.body,x.eR,x.at_⟩:bF)) B (λb4 _ B=>aT Rv B.p1 (H':=λ_=>eP K (Φ) p room {t with cD:=iM t.cD}) (Φ:=λ_ _=>True) (λY U W=>?_) ?_)
 .exact(C166 K _ p room t Y x a b r e V _ U (λw' hc=>M w' (W w' hc).aG) CS gG cU).mono λ_ _ r=>r.mono λ_ _ h=>⟨trivial,h.2⟩
 rintro _ _ _ B;refine aA pP (aB (v:=iE x.n) bL B.p1.hb rfl (aI (aC (λc=>?_) λc=>?_)))
 .rw[show o0 x a t.cD=iM t.cD from by unfold o0;rw[ez c]];exact⟨rfl,B.p1.drop.mut⟩
 rw[show o0 x a t.cD=lY a false ((.cons {x with n:=x.n-1} a .nil .nil,true)::iM t.cD)from by unfold o0;rw[ew c]];refine aE fh B.p1.At (bV ([⟨x.kind,x.eY,x.name,E,G,x.n,x.body,x.eR,x.at_⟩]:List bF) B gX rfl rfl (ei rfl) λs13 _ B=>?_);have J:=hΦ _ (eP.now B.p1);have hral:=(J.1 _ (M _ B.aG)).1;refine cK B gX (J.2 (M _ B.aG)) (by simp;omega) er (λs15 _ B=>dN B gX cU et λq17 h17=>mD pP h17 λq18 h18=>tP (x.n:Int) B bL h18 (x:=(⟨x.kind,x.eY,x.name,E,G,x.n,x.body,x.eR,x.at_⟩:bF)) rfl rfl (fO cU (dN B gX cU et λq21 h21=>mD pP h21 λq22 h22=>wG (x:=(⟨x.kind,x.eY,x.name,E,G,x.n,x.body,x.eR,x.at_⟩:bF)) (⟨x.kind,x.eY,x.name,E,G,x.n-1,x.body,x.eR,x.at_⟩:bF) (x.n-1:Int) B bL h22 rfl er rfl λ_ B=>?_)))
 obtain⟨I,rfl⟩:=B.fc.fK;have B:=eP.an2 B.freeze
 have amA:∀w',K w'->jx (((⟨x.kind,x.eY,x.name,E,G,x.n,x.body,x.eR,x.at_⟩:bF)::O).set (0:Int).toNat (⟨x.kind,x.eY,x.name,E,G,x.n-1,x.body,x.eR,x.at_⟩:bF)) (Bk.cons {x with n:=x.n-1} a .nil .nil).flat w':=λw' hw=>by
  rw[Uj];obtain⟨_,_,h4,h5,h6⟩:=AR w' hw;cases h4
  exact jx.cons ⟨E,G,rfl,h5,h6⟩ (J.1 w' hw)
 refine aT Ru B (H':=λ_=>eP K (λw=>Φ w/\dP (λ_=>True) w (jj I) (([(⟨x.kind,x.eY,x.name,E,G,x.n,x.body,x.eR,x.at_⟩:bF)]++O).set (0:Int).toNat (⟨x.kind,x.eY,x.name,E,G,x.n-1,x.body,x.eR,x.at_⟩:bF))) p room { {t with cD:=iM t.cD}with cD:=lY (Bk.cons {x with n:=x.n-1} a .nil .nil) true ({t with cD:=iM t.cD}).cD}) (Φ:=λ_ _=>True) (λY U W=>?_) ?_
 .exact(C118 K _ p room ({t with cD:=iM t.cD}) Y I _ (Bk.cons {x with n:=x.n-1} a .nil .nil) true _ U (λw' hc=>M w' (W w' hc).aG) (λ_ h=>⟨amA,λ_=>h.2⟩) (by show(iM t.cD).length<=_;omega)).mono λ_ _ r=>r.mono λ_ _ h=>⟨trivial,h.2⟩
 rintro _ _ _ B;refine aT Ru B (H':=λ_=>eP K (λw=>Φ w/\dP (λ_=>True) w (jj I) (([(⟨x.kind,x.eY,x.name,E,G,x.n,x.body,x.eR,x.at_⟩:bF)]++O).set (0:Int).toNat (⟨x.kind,x.eY,x.name,E,G,x.n-1,x.body,x.eR,x.at_⟩:bF))) p room { {t with cD:=(.cons {x with n:=x.n-1} a .nil .nil,true)::iM t.cD}with cD:=lY a false ({t with cD:=(.cons {x with n:=x.n-1} a .nil .nil,true)::iM t.cD}).cD}) (Φ:=λ_ _=>True) (λY U W=>?_) ?_
 .exact(C118 K _ p room ({t with cD:=(.cons {x with n:=x.n-1} a .nil .nil,true)::iM t.cD}) Y Z O a false _ U (λw' hc=>M w' (W w' hc).aG) (λw h=>hΦ w h.1) (by show(iM t.cD).length+1<=_;omega)).mono λ_ _ r=>r.mono λ_ _ h=>⟨trivial,h.2⟩
 rintro _ _ _ B;exact⟨rfl,(eP.mono B.p1.drop λ_ h=>h.1).mut⟩
def C119(K:iD)(p:Nat)(room:Int)(t tR:kG)(n:Nat)(cs ls:List ByteArray)(F:Nat->Prop)(w:World)(hF:(rT K p room t).p w F)(U:∀w',gZ F w w'->K w')(kx:Eh cs ls t)(hg:Ah n t=some tR) :
   CR 119 [.pointer (some ⟨p,0,none⟩)] w (λv w'=>v=.tuple #[]/\ng F (rT K p room tR) w w'):=by
 have B:=St.begin hF;refine ait _ _ _ ?_;unfold S119;refine⟨λmm w'=>∃E:kG,Ah mm E=some tR/\Eh cs ls E/\St w F [rT K p room E] w',⟨n,t,hg,kx,B⟩,?_⟩;rintro mm _ ⟨E,tf,V,B⟩ _;obtain⟨k,rfl⟩:=LQ tf;have mM:=AV V.p;have F9:=V.cl;have hnb:=V.nb;have Z4:=V.rl;obtain⟨bp,nv,rg,pl,es,W,B⟩:=eP.open B;refine eC W0 (C127 K p E bp nv rg pl es _ _ B.hb B.p3.fc B.p4.ep.1 (λ_ e=>U _ (B.aG.then e)) V.p cU) ?_;rintro v _ ⟨he,hv⟩;have B:=B.ext he
 rcases hv with⟨eT,rfl⟩|⟨x,a,b,xv,G,bv,I,rb,YY,rfl,AR,hab⟩
 .refine aN rfl (aN rfl (aN rfl (aN rfl (aJ B kS λb2 w3 B=>aH (x:=(⟨0,⟨#[]⟩,⟨#[]⟩,bO,bO,0,0,0,0⟩:bF)) B fh rfl rfl λw4 B=>bJ (jb ?_)))));rw[xq tf (adW eT)];exact⟨rfl,(eP.shut W B.drop).mut⟩
 obtain⟨ge,Z,rfl,_,_⟩:=lB (AR _ (U _ B.aG))
 have hxE:∀w,K w->dP (λ_=>True) w (jj ge) x.e/\dP (λ_=>True) w (jj Z) x.f:=λw hw=>by
  obtain⟨_,_,h4,h5,h6⟩:=lB (AR w hw);cases h4
  exact⟨h5,h6⟩
 obtain⟨hx,sa,sb,aa,ab,FT,TT,hal,r,e,p',CS,sr,ar⟩:=V.top YY;have gG:(Bk.cons x a b r).str:=V.p.st _ (by rw[CS];exact qs ..);have hxe:=hx.e;have B:=B.p4.cS (Ψ:=λw=>yd K w es E.cD/\(uu K G I a.flat w/\uu K bv rb b.flat w)) (λw h=>⟨h.1,hab w h.1⟩);have B:=eP.shut (Φ:=λw=>uu K G I a.flat w/\uu K bv rb b.flat w) (t:=E) W B.p4.p4.p4.p4;refine aN rfl (aN rfl (aN rfl (aN rfl (aJ B kS λb2 w3 B=>aH (x:=(⟨x.kind,x.eY,x.name,ge,Z,x.n,x.body,x.eR,x.at_⟩:bF)) B fh rfl rfl λw4 B=>bJ (eX (aA jK (aB (v:=jj ge) l5 B.hb rfl (aT Rw B.p1 (H':=λ_=>eP K (λw=>uu K G I a.flat w/\uu K bv rb b.flat w) p room {E with fault:=if (eS E x.e).2=true then E.fault else 2}) (Φ:=λv _=>v=.tuple #[iE (eS E x.e).1,.bool (eS E x.e).2]) (λO M J=>?_) ?_))))))))
 .exact C163 K _ p room E O _ x.e _ M (λw' hc=>U w' (J w' hc).aG) (hxE _ (U _ B.aG)).1 cU cU
 rintro _ w5 rfl B;refine aN rfl (aN rfl (bJ (aX (λc1=>?_) λc1=>?_)))
 .have h1:(eS E x.e).2=false:=by simpa using c1
  rw[h1]at B;rw[xq tf (adX YY h1)];exact⟨rfl,(eP.mono B.p1.drop λ_ _=>trivial).mut⟩
 have h1:(eS E x.e).2=true:=by simpa using c1
 replace B:St w F [eP K (λw=>uu K G I a.flat w/\uu K bv rb b.flat w) p room E,bU b2 (jl (⟨x.kind,x.eY,x.name,ge,Z,x.n,x.body,x.eR,x.at_⟩:bF))] w5:=by rw[h1]at B;exact B
 refine aA rA (aB (v:=jj Z) l5 B.p1.hb rfl (aT Rw B (H':=λ_=>eP K (λw=>uu K G I a.flat w/\uu K bv rb b.flat w) p room {E with fault:=if (eS E x.f).2=true then E.fault else 2}) (Φ:=λv _=>v=.tuple #[iE (eS E x.f).1,.bool (eS E x.f).2]) (λO M J=>?_) ?_))
 .exact C163 K _ p room E O _ x.f _ M (λw' hc=>U w' (J w' hc).aG) (hxE _ (U _ B.aG)).2 cU cU
 rintro _ w6 rfl B;refine aN rfl (aN rfl (bJ (aX (λc2=>?_) λc2=>?_)))
 .have h2:(eS E x.f).2=false:=by simpa using c2
  rw[h2]at B;rw[xq tf (adY YY h2)];exact⟨rfl,(eP.mono B.p1.drop λ_ _=>trivial).mut⟩
 have h2:(eS E x.f).2=true:=by simpa using c2
 replace B:St w F [eP K (λw=>uu K G I a.flat w/\uu K bv rb b.flat w) p room E,bU b2 (jl (⟨x.kind,x.eY,x.name,ge,Z,x.n,x.body,x.eR,x.at_⟩:bF))] w6:=by rw[h2]at B;exact B
 have Y:=Fg YY h1 h2
 have Js:∀(t2:kG) (w':World),sY E x a b (eS E x.e).1=(t2,true)->St w F [eP K (λw=>uu K G I a.flat w/\uu K bv rb b.flat w) p room t2,bU b2 (jl (⟨x.kind,x.eY,x.name,ge,Z,x.n,x.body,x.eR,x.at_⟩:bF))] w'->∃m',m'<k+1/\∃E:kG,Ah m' E=some tR/\Eh cs ls E/\St w F [rT K p room E] w':=λt2 w' h3 h4=>by
  have h5:=Y.trans h3;obtain⟨h6,h7,_⟩:=NL V;rw[h5]at h6 h7;exact⟨k,Nat.lt_succ_self k,t2,WV tf h5,h6,eP.mono h4.p1.drop λ_ _=>trivial⟩
 refine aA iy (aB (v:=iE x.kind) bL B.p1.hb rfl (aI (aC (λk1=>?_) λk1=>?_)))
 .have Rh:=eB.1 (hx.rg (.inl k1));obtain⟨j,hj,OG,_⟩:=wX Rh;have SN:=(j0.1 OG).1;obtain⟨bp,nv,rg,pl,es,W,B⟩:=eP.open B;have B:=B.drew;refine aD (aA wv (aB eD B.hb rfl (aD (aA CK (aB nf B.hb rfl (aA lO (aB (v:=.string x.eY) ke B.p5.hb rfl (aY Bv B (C146 _ E.names x.eY _ (W _ (U _ B.aG)) cU) λ_ he B=>?_))))))));refine⟨aF eD (B.hb.cell rfl),?_⟩;refine dN B.p2 dZ cU cU (λq51 h51=>jm (eS E x.e).1 B.p2 bL h51 cU λ_ B=>have B:=eP.shut (Φ:=λw=>uu K G I a.flat w/\uu K bv rb b.flat w) (t:=v7 E x.eY (eS E x.e).1) W B.p2.p2;aT Rv B (H':=λ_=>eP K (λw=>uu K G I a.flat w/\uu K bv rb b.flat w) p room {v7 E x.eY (eS E x.e).1 with cD:=iM (v7 E x.eY (eS E x.e).1).cD}) (Φ:=λ_ _=>True) (λO M J=>?_) ?_)
  .exact(C166 K _ p room (v7 E x.eY (eS E x.e).1) O x a b r e p' _ M (λw' hc=>U w' (J w' hc).aG) CS gG (by show E.cD.length<=_;omega)).mono λ_ _ r=>r.mono λ_ _ h=>⟨trivial,h.2⟩
  rintro _ _ _ B;exact Js _ _ (adV k1) B
 refine aI (aC (λk2=>?_) λk2=>?_)
 .refine aT Rv B (H':=λ_=>eP K (λw=>uu K G I a.flat w/\uu K bv rb b.flat w) p room {E with cD:=iM E.cD}) (Φ:=λ_ _=>True) (λO M J=>?_) ?_
  .exact(C166 K _ p room E O x a b r e p' _ M (λw' hc=>U w' (J w' hc).aG) CS gG cU).mono λ_ _ r=>r.mono λ_ _ h=>⟨trivial,h.2⟩
  rintro _ w10 _ B;refine⟨λjv w'=>jv=(if (eS E x.e).1=0 then jj bv else jj G)/\w'=w10,?_,?_⟩
  .refine aI ?_;refine aC (λc=>⟨(ez c).symm,rfl⟩) (λc=>⟨(ew c).symm,rfl⟩)
  rintro _ _ ⟨rfl,rfl⟩ _
  have hpq:(iM E.cD).length<=100000:=by
   have:=AV V.p.pop;have:=Uf CS;omega
  have e1:(if (eS E x.e).1=0 then jj bv else jj G)=jj (if (eS E x.e).1=0 then bv else G):=by split<;>rfl
  rw[e1];refine aT Ru B (H':=λ_=>eP K (λw=>uu K G I a.flat w/\uu K bv rb b.flat w) p room { {E with cD:=iM E.cD}with cD:=lY (if (eS E x.e).1=0 then b else a) false ({E with cD:=iM E.cD}).cD}) (Φ:=λ_ _=>True) (λO M J=>?_) ?_
  .exact(C118 K _ p room ({E with cD:=iM E.cD}) O (if (eS E x.e).1=0 then bv else G) (if (eS E x.e).1=0 then rb else I) (if (eS E x.e).1=0 then b else a) false _ M (λw' hc=>U w' (J w' hc).aG) (λ_ h=>by split;exact h.2;exact h.1) hpq).mono λ_ _ r=>r.mono λ_ _ h=>⟨trivial,h.2⟩
  rintro _ _ _ B;exact Js _ _ (WX k2) B
 refine aI (aC (λk3=>?_) λk3=>?_)
 .refine aE fh B.p1.At (aT avR B (H':=λ_=>eP K (λw=>uu K G I a.flat w/\uu K bv rb b.flat w) p room {E with cD:=o0 x a E.cD}) (Φ:=λ_ _=>True) (λO M J=>?_) ?_)
  .exact(C221 K _ p room E O x ⟨x.kind,x.eY,x.name,ge,Z,x.n,x.body,x.eR,x.at_⟩ G I a b r e p' _ M (λw' hc=>U w' (J w' hc).aG) CS gG cU AR (λ_ h=>h.1) (hx.n k3)).mono λ_ _ r=>r.mono λ_ _ h=>⟨trivial,h.2⟩
  rintro _ _ _ B;exact Js _ _ (NM k3) B
 refine aI (aC (λk4=>?_) λk4=>?_)
 .refine aT avS B (H':=λ_=>eP K (λw=>uu K G I a.flat w/\uu K bv rb b.flat w) p room {E with cD:=mP E.cD}) (Φ:=λ_ _=>True) (λO M J=>?_) ?_
  .exact(C222 K _ p room E O _ M (λw' hc=>U w' (J w' hc).aG) cU).mono λ_ _ r=>r.mono λ_ _ h=>⟨trivial,h.2⟩
  rintro _ _ _ B;exact Js _ _ (WY k4) B
 refine aI (aC (λk5=>?_) λk5=>?_)
 .refine aI (aC (λc=>?_) λc=>?_)
  .obtain⟨bp,nv,rg,pl,es,W,B⟩:=eP.open B;refine aD (aA zo (aO B bL (ei rfl) rfl λ_ B=>?_));have B:=eP.shut (Φ:=λw=>uu K G I a.flat w/\uu K bv rb b.flat w) (t:={E with fault:=1}) W B;rw[xq tf (Y.trans (Rs k5 c))];exact⟨rfl,(eP.mono B.p1.drop λ_ _=>trivial).mut⟩
  refine aT Rv B (H':=λ_=>eP K (λw=>uu K G I a.flat w/\uu K bv rb b.flat w) p room {E with cD:=iM E.cD}) (Φ:=λ_ _=>True) (λO M J=>?_) ?_
  .exact(C166 K _ p room E O x a b r e p' _ M (λw' hc=>U w' (J w' hc).aG) CS gG cU).mono λ_ _ r=>r.mono λ_ _ h=>⟨trivial,h.2⟩
  rintro _ _ _ B;exact Js _ _ (Rt k5 c) B
 rw[xq tf (Y.trans (WZ k1 k2 k3 k4 k5))];exact⟨rfl,(eP.mono B.p1.drop λ_ _=>trivial).mut⟩
variable (w:World) (K:Value->iD)
def P68:dM:=λi=>match i with
 | 8=>(.of [(0,[]),(1,[]),(2,[]),(3,[]),(4,[]),(5,[]),(6,[]),(7,[]),(8,[]),(9,[]),(10,[]),(11,[]),(12,[]),(13,[]),(14,[7]),(15,[]),(16,[]),(17,[]),(18,[]),(19,[])])
 | _=>.nil
def S22(I:Value):Prop:=
 nC I λa=>fA 105 a 8 λb=>lA 3 b w λc=>bB .neq 3 c (i 0) λd=>cV d (K (.slice none 0 0) w) (nC I λe=>fA 105 e 6 λf=>lA 103 f w λg=>lN 103 g λh=>rq (λG E j k=>∀_:Env,
 bA .lss 3 j h λl=>cV l (iA 103 g j λn=>lA 128 n k λo=>eW (λK2=>cF 68 [I,o] k λp q=>cV p (eK hZ (mZ 67 [(0,(i 1)),(1,j)].toArray) λr=>
 bS 58 1 [(0,r)] q λs t=>aP 58 E s t λu v=>K2 u v) (K2 E q)) (λvA x=>∀_:Env,
 nC o λy=>fA 131 y 0 λz=>lA 98 z x λY=>cF 69 [Y] x λU Z=>lN 22 U λad=>rq (λJ O M B=>∀_:Env,
 bA .lss 3 M ad λV=>cV V (iA 22 U M λah=>lA 3 ah B λai=>eK hZ (mZ 67 [(0,(i 2)),(1,j),(2,ai)].toArray) λaj=>bS 58 1 [(0,aj)] B λak al=>
 aP 58 O ak al λam W=>bB .add 3 M (i 1) λao=>J am ao W) (bB .add 3 j (i 1) λap=>G O ap B)) λJ=>J vA (i 0) Z)) (K E k)) λG=>G (.slice none 0 0) (i 0) w)
theorem an4(B:Value)(h:S22 w K B):CR 22 [B] w K:=
 qG 50 (λ_=>.nil) 4 [.tmp 2] Tryz.func22 h
def S162(s0 E a B:Value):Prop:=
 se hZ (zG 220 a) w λb c=>aL 72 c λd e=>nC E λf=>fA 131 f 0 λg=>lA 98 g e λh=>cF 259 [h,B] e λj k=>xT j 0 λl=>xT j 1 λn=>Vp (λJ=>
 eK hZ (Op.unary .not n) λo=>cV o (nC s0 λp=>fA 105 p 4 λq=>lA 102 q k λs=>cF 260 [s,B] k λt u=>xT t 0 λv=>xT t 1 λ_=>J v (i 1) u) (J l (i 2) k))
 (λG SW x=>∀_:Env,
 nC E λy=>fA 131 y 2 λz=>lA 22 z (drew x) λI=>nC E λab=>fA 131 ab 1 λV=>lA 86 V (drew x) λZ=>fA 220 b 1 λae=>lA 9 ae (drew x) λO=>cF 146 [Z,O] (drew x) λU M=>
 kA 22 z I M (iA 22 I U λai=>sA 3 ai G M λW=>eK hZ (mZ 72 [(0,SW),(2,B),(3,G)].toArray) λY=>sA 72 d Y W λal=>lA 72 d al λr=>
 K r al))
def aCB:dM:=λi=>match i with
 | 6=>(.of [(0,[]),(1,[]),(2,[]),(3,[]),(4,[]),(5,[]),(6,[]),(7,[]),(8,[]),(9,[]),(11,[]),(10,[3]),(12,[]),(13,[])])
 | _=>.nil
theorem aiv(G I B E:Value)(h:S162 w K G I B E):CR 162 [G,I,B,E] w K:=
 qG 49 aCB 256 [.cell 8 72] Tryz.func162 h
def S165(U E a B:Value):Prop:=
 se hZ (zG 220 a) w λb c=>aL 72 c λd e=>nC U λf=>fA 105 f 4 λg=>lA 102 g e λh=>cF 260 [h,B] e λj k=>xT j 0 λl=>xT j 1 λ_=>fA 220 b 3 λn=>
 lA 92 n k λo=>cF 163 [E,o] k λp q=>xT p 0 λs=>xT p 1 λ_=>fA 220 b 4 λt=>lA 92 t q λu=>cF 163 [E,u] q λv x=>xT v 0 λy=>xT v 1 λ_=>nC E λz=>
 fA 131 z 2 λJ=>lA 22 J (drew x) λM=>nC E λac=>fA 131 ac 1 λad=>lA 86 ad (drew x) λae=>fA 220 b 1 λW=>lA 9 W (drew x) λY=>cF 146 [ae,Y] (drew x) λah O=>
 kA 22 J M O (iA 22 M ah λaj=>sA 3 aj l O λG=>bA .neq 3 l s λal=>cV al (eK hZ (mZ 72 [(0,(i 9)),(2,B),(3,l)].toArray) λam=>sA 72 d am G λI=>
 lA 72 d I λr=>K r I) (nC U λao=>fA 105 ao 4 λZ=>lA 102 Z G λaq=>cF 159 [aq,B,y] G λ_ ar=>eK hZ (mZ 72 [(0,(i 8)),(2,B),(3,l),(4,y)].toArray) λasx=>
 sA 72 d asx ar λV=>lA 72 d V λKe=>K Ke V))
def aCC:dM:=λi=>match i with
 | 4=>(.of [(0,[]),(1,[]),(2,[]),(3,[]),(4,[]),(5,[]),(6,[]),(7,[]),(8,[]),(9,[]),(11,[]),(10,[3]),(12,[]),(13,[])])
 | _=>.nil
theorem aiw(G I B E:Value)(h:S165 w K G I B E):CR 165 [G,I,B,E] w K:=
 qG 68 aCC 256 [.cell 8 72] Tryz.func165 h
def S86(G M:Value):Prop:=
 aL 72 w λa b=>nC G λc=>fA 105 c 6 λd=>lA 103 d b λe=>iA 103 e M λf=>lA 128 f b λg=>nC g λh=>fA 131 h 4 λj=>lA 3 j b λk=>bB .neq 3 k (i 0) λl=>
 cV l (nC g λn=>fA 131 n 4 λo=>lA 3 o b λp=>cF 161 [G,M,p] b λq s=>sA 72 a q s λt=>lA 72 a t λr=>K r t) (cF 127 [g] b λu v=>xT u 0 λx=>xT u 1 λ_=>
 xT u 2 λ_=>xT u 3 λ_=>aL 220 v λy z=>sA 220 y x z λU=>nC G λab=>fA 105 ab 1 λac=>lA 86 ac (drew U) λad=>fA 220 y 2 λae=>lA 9 ae (drew U) λaf=>
 nC G λag=>fA 105 ag 2 λah=>lA 86 ah (drew U) λai=>fA 220 y 2 λW=>lA 9 W (drew U) λY=>cF 146 [ad,af] (drew U) λal V=>kA 86 ah ai V (kA 9 W Y V (
 cF 146 [ai,Y] V λO ao=>nC G λap=>fA 105 ap 0 λaq=>lA 36 aq ao λar=>cF 53 [ar,al] ao λasx au=>aL 72 au λB E=>yp (λI=>fA 220 y 0 λaw=>lA 3 aw E λJ=>
 bB .eql 3 J (i 2) λay=>cV ay (lA 220 y E λaz=>cF 162 [G,g,az,al] E λa0 a1=>sA 72 B a0 a1 λa2=>I a2) (bB .eql 3 J (i 3) λa3=>cV a3 (fA 220 y 3 λa4=>
 lA 92 a4 E λa5=>cF 163 [g,a5] E λa6 a7=>xT a6 0 λa8=>xT a6 1 λ_=>nC g λa9=>fA 131 a9 0 λba=>lA 98 ba a7 λbb=>eK hZ (mZ 262 [(0,(i 3)),(1,asx),(2,al),(3,a8)].toArray) λbc=>
 cF 164 [bb,bc] a7 λ_ bd=>eK hZ (mZ 72 [(0,(i 3)),(2,al),(3,a8)].toArray) λbe=>sA 72 B be bd λbf=>I bf) (bB .eql 3 J (i 5) λbg=>cV bg (nC g λbh=>
 fA 131 bh 0 λbi=>lA 98 bi E λbj=>eK hZ (mZ 262 [(0,(i 5)),(1,asx)].toArray) λbk=>cF 164 [bj,bk] E λ_ bl=>eK hZ (mZ 72 [(0,(i 4)),(2,asx)].toArray) λbm=>
 sA 72 B bm bl λbn=>I bn) (bB .eql 3 J (i 6) λbo=>cV bo (nC g λbp=>fA 131 bp 0 λbq=>lA 98 bq E λbr=>eK hZ (mZ 262 [(0,(i 6)),(1,asx)].toArray) λbs=>
 cF 164 [br,bs] E λ_ bt=>eK hZ (mZ 72 [(0,(i 5)),(2,asx)].toArray) λbu=>sA 72 B bu bt λbv=>I bv) (bB .eql 3 J (i 7) λbw=>cV bw (nC g λbx=>
 fA 131 bx 0 λbz=>lA 98 bz E λb0=>eK hZ (mZ 262 [(0,(i 7))].toArray) λb1=>cF 164 [b0,b1] E λ_ b2=>eK hZ (mZ 72 [(0,(i 6))].toArray) λb3=>
 sA 72 B b3 b2 λb4=>I b4) (bB .eql 3 J (i 8) λb5=>cV b5 (eK hZ (mZ 72 [(0,(i 7))].toArray) λb6=>sA 72 B b6 E λb7=>I b7) (bB .eql 3 J (i 4) λb8=>
 cV b8 (lA 220 y E λb9=>cF 165 [G,g,b9,al] E λca cb=>sA 72 B ca cb λcc=>I cc) (bB .eql 3 J (i 9) λcd=>cV cd (nC G λce=>fA 105 ce 5 λcf=>lA 22 cf E λcg=>
 iA 22 cg O λch=>sA 3 ch M E λci=>eK hZ (mZ 72 [(0,(i 10)),(2,O)].toArray) λcj=>sA 72 B cj ci λck=>I ck) (nC G λcl=>fA 105 cl 5 λcm=>
 lA 22 cm E λcn=>iA 22 cn O λco=>lA 3 co E λcp=>bA .neq 3 cp M λcq=>cV cq (cF 161 [G,M,(i 3)] E λcr cs=>sA 72 a cr cs λct=>lA 72 a ct λKe=>K Ke ct) (
 nC G λcu=>fA 105 cu 5 λcv=>lA 22 cv E λcw=>iA 22 cw O λcx=>sA 3 cx (i (-1)) E λcy=>eK hZ (mZ 72 [(0,(i 11)),(2,O)].toArray) λcz=>sA 72 B cz cy λc0=>
 I c0)))))))))) (λc1=>∀_:Env,
 fA 72 B 1 λc2=>sA 3 c2 M c1 λc3=>cF 166 [g] c3 λ_ c4=>cF 119 [g] c4 λ_ c5=>lA 72 B c5 λc6=>sA 72 a c6 c5 λZ=>lA 72 a Z λX6=>K X6 Z))))
def P86:dM:=λi=>match i with
 | 5=>(.of [(0,[]),(1,[]),(2,[]),(3,[]),(4,[]),(5,[]),(7,[]),(8,[]),(9,[]),(10,[]),(11,[]),(12,[]),(6,[10,12]),(13,[]),(14,[]),(15,[])])
 | _=>.nil
theorem an5(B E:Value)(h:S86 w K B E):CR 86 [B,E] w K:=
 qG 171 P86 16 [.cell 4 72] Tryz.func86 h
def P85:dM:=λi=>match i with
 | 1=>(.op 0 [] (.op 1 [] (.op 2 [] (.op 3 [] (.op 4 [] (.op 5 [] (.op 6 [] (.op 7 [] (.op 8 [] (.op 9 [] (.op 10 [] (.op 11 [] (.op 12 [] (.alt 13 [] (.of [(14,[]),(15,[]),(16,[]),(17,[3,5,7,10,12]),(18,[]),(19,[])]) (.alt 17 [3,5,7,10,12] (.of [(13,[]),(14,[]),(15,[]),(16,[]),(18,[]),(19,[])]) .stop)))))))))))))))
 | 4=>.run 0 9
 | 8=>.run 0 7
 | _=>.nil
def P57:dM:=λi=>match i with
 | 9=>(.of [(0,[]),(1,[]),(2,[]),(3,[]),(4,[]),(5,[]),(6,[2]),(7,[]),(8,[]),(9,[])])
 | _=>.nil
def P37:dM:=λi=>match i with
 | 1=>.run 0 30
 | _=>.nil
def P21:dM:=λi=>match i with
 | 2=>(.of [(0,[]),(1,[]),(2,[]),(3,[]),(4,[]),(5,[]),(6,[]),(7,[]),(8,[]),(9,[]),(10,[]),(11,[]),(12,[]),(13,[3,7,11]),(14,[])])
 | _=>.nil
def S32(E:Value):Prop:=
 nC E λa=>fA 105 a 0 λb=>lA 36 b w λc=>cF 55 [c] w λd e=>nC E λf=>fA 105 f 0 λg=>fA 36 g 5 λh=>lA 34 h e λj=>lN 34 j λk=>rq (λG B l n=>∀_:Env,
 bA .lss 3 l k λo=>cV o (eW (λK2=>iA 34 j l λp=>lA 95 p n λq=>aL 95 n λM r=>sA 95 M q r λs=>fA 95 M 0 λt=>lA 92 t (drew s) λu=>nC E λv=>fA 105 v 1 λx=>
 lA 86 x (drew s) λy=>eK hZ (pA 86 y none (some d) none) λz=>cF 27 [E] (drew s) λZ I=>kA 92 t u I (kA 86 x y I (eK hZ (pA 22 Z none (some d) none) λac=>
 cF 78 [u,z,ac] I λO U=>xT O 0 λV=>xT O 1 λW=>bB .eql 40 W (i 0) λah=>cV ah (bB .neq 3 V (i 0) λai=>bS 64 1 [(0,ai)] U λaj ak=>aP 64 B aj ak λal am=>
 K2 al am) (bS 64 1 [(0,ff)] U λY ao=>aP 64 B Y ao λap aq=>K2 ap aq)))) (λJ ar=>∀_:Env,
 bB .add 3 l (i 1) λasx=>G J asx ar)) (K B n)) (λG=>G (.slice none 0 0) (i 0) e)
def P32:dM:=λi=>match i with
 | 6=>(.of [(0,[]),(1,[]),(2,[]),(3,[]),(4,[]),(5,[]),(6,[]),(7,[]),(8,[]),(10,[]),(9,[1,5]),(11,[]),(12,[]),(13,[]),(14,[]),(15,[]),(16,[]),(17,[])])
 | _=>.nil
theorem an8(B:Value)(h:S32 w K B):CR 32 [B] w K:=
 qG 51 P32 4 [.tmp 2] Tryz.func32 h
def S60(G B:Value):Prop:=
 eW (λE=>bB .lss 3 B (i 0) λa=>cV a (E tt w) (nC G λb=>fA 105 b 6 λc=>lA 103 c w λd=>lN 103 d λe=>bA .geq 3 B e λf=>E f w)) (λg h=>∀_:Env,
 cV g (K (.tuple #[(i 0),ff]) h) (nC G λj=>fA 105 j 6 λk=>lA 103 k h λl=>iA 103 l B λn=>lA 128 n h λo=>cF 127 [o] h λp q=>xT p 0 λr=>xT p 1 λ_=>xT p 2 λ_=>
 xT p 3 λs=>aL 220 q λt u=>sA 220 t r u λv=>fA 220 t 8 λx=>lA 3 x v λy=>K (.tuple #[y,s]) v))
theorem an9(E B:Value)(h:S60 w K E B):CR 60 [E,B] w K:=
 qG 37 (λ_=>.nil) 48 [.tmp 4,.tmp 5] Tryz.func60 h
def S17(p0 U:Value):Prop:=
 se hZ (zG 36 p0) w λp2 a=>lA 36 p2 a λb=>cF 49 [b] a λc d=>xT c 0 λe=>xT c 1 λ_=>bB .neq 40 e (i 0) λf=>cV f (K (.tuple #[(.pointer none),e]) d) (
 cF 50 [U] d λg h=>xT g 0 λ_=>xT g 1 λj=>bB .neq 40 j (i 0) λk=>cV k (K (.tuple #[(.pointer none),j]) h) (lA 36 p2 (drew h) λl=>lA 36 p2 (drew h) λn=>lA 36 p2 (drew h) λo=>
 cF 51 [n] (drew h) λp q=>kA 36 p2 l q (kA 36 p2 o q (cF 52 [o] q λr s=>kA 36 p2 l s (eK hZ (mZ 105 [(0,l),(1,p),(2,r),(3,U)].toArray) λt=>se hZ (zG 105 t) s λu v=>
 nC u λx=>fA 105 x 1 λy=>lA 86 y v λz=>lN 86 z λY=>rq (λG E I B=>∀_:Env,
 bA .lss 3 I Y λad=>cV ad (lA 36 p2 B λae=>cF 53 [ae,I] B λV W=>bS 22 1 [(0,V)] W λah ai=>aP 22 E ah ai λZ ak=>bB .add 3 I (i 1) λal=>G Z al ak) (
 lA 36 p2 (drew B) λam=>lA 36 p2 (drew B) λJ=>cF 55 [am] (drew B) λao M=>kA 36 p2 J M (cF 56 [J] M λaq ar=>cF 54 [E,ao,aq] ar λasx au=>xT asx 0 λav=>
 xT asx 1 λ_=>nC u λaw=>fA 105 aw 4 λax=>sA 102 ax av au λO=>fA 36 p2 3 λaz=>lA 33 az O λa0=>cF 57 [u,a0] O λ_ a1=>K (.tuple #[u,(i 0)]) a1))) λG=>G (.slice none 0 0) (i 0) v)))))
def P17:dM:=λi=>match i with
 | 7=>(.of [(0,[]),(1,[]),(3,[]),(5,[]),(2,[0,3]),(4,[0]),(6,[]),(7,[]),(8,[])])
 | 14=>(.of [(0,[]),(1,[]),(2,[]),(4,[]),(3,[4]),(5,[]),(6,[]),(7,[]),(8,[]),(9,[]),(10,[]),(11,[]),(12,[])])
 | _=>.nil
theorem aoa(p0 B:Value)(h:S17 w K p0 B):CR 17 [p0,B] w K:=
 qG 69 P17 48 [.tmp 4,.tmp 5] Tryz.func17 h
def S82(E:Value):Prop:=
 lN 22 E λa=>rq (λB G b c=>∀_:Env,
 bA .lss 3 b a λd=>cV d (iA 22 E b λe=>lA 3 e c λf=>bB .mul 3 G (i 10000) λg=>bA .add 3 g f λh=>bB .add 3 b (i 1) λj=>B h j c) (K G c)) (λB=>B (i 0) (i 0) w)
theorem aob(B:Value)(h:S82 w K B):CR 82 [B] w K:=
 qG 18 (λ_=>.nil) 4 [.tmp 2] Tryz.func82 h
theorem aCD:PL 68:=dT Tryz.func68
theorem aix:PL 22:=dT Tryz.func22
theorem avX:PL 34:=dT Tryz.func34
theorem alz:PL 161:=dT Tryz.func161
theorem avY:PL 162:=dT Tryz.func162
theorem avZ:PL 165:=dT Tryz.func165
theorem aCE:PL 86:=dT Tryz.func86
theorem aCF:PL 85:=dT Tryz.func85
theorem av0:PL 57:=dT Tryz.func57
theorem YZ:PL 37:=dT Tryz.func37
theorem aCG:PL 83:=dT Tryz.func83
theorem aoc:PL 21:=dT Tryz.func21
theorem aCH:PL 65:=dT Tryz.func65
theorem aiy:PL 27:=dT Tryz.func27
theorem av1:PL 29:=dT Tryz.func29
theorem av2:PL 32:=dT Tryz.func32
theorem av3:PL 60:=dT Tryz.func60
theorem aiz:PL 17:=dT Tryz.func17
theorem aCI:PL 82:=dT Tryz.func82
theorem aCJ:PL 67:=dT Tryz.func67
theorem av4:PL 144:=dT Tryz.func144
end Go.Proofs.YtdncbeepkacgbaaGreatDoor
namespace Go.Proofs.YtdncbeepkacgbaaGreatDoor
open Go.Fw
def Jt(O:Option Addr)(Pq Pr:Nat)(Ps:Option Addr)(J M:Nat)(Pt:Option Addr)(Pu Pv:Nat)(U:Option Addr)(I E:Nat)(Px:Option Addr)(V Z:Nat)(W:Option Addr)(G B:Nat)(a1:Option Addr)(Y c1:Nat)(a2:Option Addr)(n2 c2:Nat)(a3:Int):pr hZ (mZ 105 [(0,.agg [.slice O Pq Pr,.slice Ps J M,.slice Pt Pu Pv,.slice U I E,.slice Px V Z,.slice W G B].toArray),(1,.slice a1 Y c1),(2,.slice a2 n2 c2),(3,iE a3)].toArray)=some (.agg [.slice O Pq Pr,.slice Ps J M,.slice Pt Pu Pv,.slice U I E,.slice Px V Z,.slice W G B,.slice a1 Y c1,.slice a2 n2 c2,iE a3,.pointer none,.slice none 0 0,.slice none 0 0,iE 0,iE 0,iE 0].toArray):=by kernel_rfl
def NQ(a0:Option Addr)(a1:Option Addr)(G c1:Nat)(a2:Option Addr)(E B:Nat):pr hZ (mZ 131 [(0,.pointer a0),(1,.slice a1 G c1),(2,.slice a2 E B)].toArray)=some (.agg [.pointer a0,.slice a1 G c1,.slice a2 E B,.slice none 0 0,iE 0].toArray):=by kernel_rfl
def Ju(a0:Int)(a1:Int)(a2:Int)(B:Int):pr hZ (mZ 262 [(0,iE a0),(1,iE a1),(2,iE a2),(3,iE B)].toArray)=some (.agg [iE a0,iE a1,iE a2,iE B].toArray):=by kernel_rfl
structure j4 where
 p:bQ
 room:Int
 mem:Mem
 fC:List Int
 l:List kG
 bX:Int
 fault:Int
 fB:Int
structure DA where
 pv:bT
 cv:SV
 kv:SV
 q:Nat
 ov:Value
 fv:Value
 ow:Value
 ll:Value
 ps:List Ptr
@[reducible] def mi(a:DA)(s:j4):List Value:=[jj a.pv.lines,jj a.pv.jR,jj a.pv.locks,jj a.pv.threads,jj a.pv.recover,jj a.pv.cB,jj a.cv,jj a.kv,.int .i64 s.room,.pointer (some ⟨a.q,0,none⟩),a.ow,a.ll,.int .i64 s.bX,.int .i64 s.fault,.int .i64 s.fB]
def ThK(K:iD)(G:cI)(t:cE):Prop:=∃(E B:SV) (rows:List bF),G=⟨t.name,E,B,t.at_⟩/\(∀w,K w->dP (λ_=>True) w (jj E) t.aS)/\∀w,uu K B rows t.body w
def Ry(K:iD)(E:List cI)(kC:List cE):Prop:=E.length=kC.length/\∀(j:Nat) (B:cI) (t:cE),E[j]?=some B->kC[j]?=some t->ThK K B t
structure DUK(K:iD)(a:DA)(s:j4):Prop where
 pr:∀w,K w->n4 w a.pv s.p
 cs:∀w,K w->dP (λ_=>True) w (jj a.cv) (bW s.p)
 ks:∀w,K w->dP (λ_=>True) w (jj a.kv) (cR s.p)
 mem:∀w,K w->vR a.ov a.fv s.mem w
 rc:∃Ei,(∀w,K w->dP (λ_=>True) w (jj a.pv.recover) Ei)/\Ry K Ei s.p.recover
abbrev uQ(K:iD)(room:Int)(s:Ptr)(t:kG):HP:=rT K s.b room t
def gd(K:iD)(p:Nat)(m:j4):HP:=ph λa:DA=>fact (DUK K a m) (sep (bU p (mi a m)) (sep (fE a.q a.ov a.fv m.mem) (sep (bG a.ow m.fC) (sep (bG a.ll a.ps) (gH (uQ K m.room) a.ps m.l)))))
def nZ(K:iD)(p:Nat)(m:j4)(i:Nat)(tp:Ptr):HP:=ph λa:DA=>fact (DUK K a m/\a.ps[i]?=some tp/\a.ps.length=m.l.length/\i<m.l.length) (sep (bU p (mi a m)) (sep (fE a.q a.ov a.fv m.mem) (sep (bG a.ow m.fC) (sep (bG a.ll a.ps) (oF (uQ K m.room) a.ps m.l i)))))
section
variable {w w' w0:World}{A:Nat->Prop}{R:List HP}{p:Nat}{K:iD}{m:j4}{a:DA}{i:Nat}{tp:Ptr}{t:kG}
theorem gd.open(B:St w0 A (gd K p m::R) w):∃a,DUK K a m/\St w0 A (bU p (mi a m)::fE a.q a.ov a.fv m.mem::bG a.ow m.fC::bG a.ll a.ps::gH (uQ K m.room) a.ps m.l::R) w:=by
 obtain⟨a,B⟩:=B.dU;obtain⟨E,B⟩:=B.lq;exact⟨a,E,ye B⟩
theorem gd.shut(E:DUK K a m)(B:St w0 A (bU p (mi a m)::fE a.q a.ov a.fv m.mem::bG a.ow m.fC::bG a.ll a.ps::gH (uQ K m.room) a.ps m.l::R) w):St w0 A (gd K p m::R) w:=
 St.dX a (St.nx E (yf B))
theorem nZ.open(B:St w0 A (nZ K p m i tp::R) w):∃a,(DUK K a m/\a.ps[i]?=some tp/\a.ps.length=m.l.length/\i<m.l.length)/\St w0 A (bU p (mi a m)::fE a.q a.ov a.fv m.mem::bG a.ow m.fC::bG a.ll a.ps::oF (uQ K m.room) a.ps m.l i::R) w:=by
 obtain⟨a,B⟩:=B.dU;obtain⟨E,B⟩:=B.lq;exact⟨a,E,ye B⟩
theorem nZ.shut(E:DUK K a m/\a.ps[i]?=some tp/\a.ps.length=m.l.length/\i<m.l.length)(B:St w0 A (bU p (mi a m)::fE a.q a.ov a.fv m.mem::bG a.ow m.fC::bG a.ll a.ps::oF (uQ K m.room) a.ps m.l i::R) w):St w0 A (nZ K p m i tp::R) w:=
 St.dX a (St.nx E (yf B))
structure av5(K:iD)(w:World)(p:Nat)(m:j4)(a:DA):Prop where
 uk:DUK K a m
 b:oR w p (mi a m)
 mem:vS w a.q m.mem
 ow:dP (λ_=>True) w a.ow m.fC
 ll:dP (λ_=>True) w a.ll a.ps
 th:∀(i:Nat) (s:Ptr) (t:kG),a.ps[i]?=some s->m.l[i]?=some t->Has (rT K s.b m.room t) w
 len:a.ps.length=m.l.length
theorem gd.rd(h:Has (gd K p m) w)(G:K w):∃a,av5 K w p m a:=by
 obtain⟨F,B⟩:=h.st
 obtain⟨a,E,B⟩:=gd.open B
 exact⟨a,E,B.hb,xY B.p1 (E.mem _ G),B.p2.fc,B.p3.fc,λi s t h1 h2=>B.p4.ag0 h1 h2 (Φ:=λw=>Has (rT K s.b m.room t) w) λh=>⟨_,h⟩,B.p4.gh⟩
theorem ad9{ps:List Ptr}(B:St w0 A (gH (uQ K m.room) ps m.l::R) w)(E:ps[i]?=some tp)(ht:m.l[i]?=some t):St w0 A (rT K tp.b m.room t::oF (uQ K m.room) ps m.l i::R) w:=B.focus E ht
theorem Ai(E:St w0 A (rT K tp.b m.room t::nZ K p m i tp::R) w):St w0 A (gd K p {m with l:=m.l.set i t}::R) w:=by
 obtain⟨a,⟨B,G,I,hi⟩,E⟩:=nZ.open E.p1
 have h1:St w0 A (uQ K m.room tp t::oF (uQ K m.room) a.ps m.l i::_) w:=E.p4.p5
 have h2:=h1.q8 hi I G
 have h3:=h2.p4.p4.p4.p4
 exact gd.shut (m:={m with l:=m.l.set i t}) ⟨B.pr,B.cs,B.ks,B.mem,B.rc⟩ h3
end
def Bi(m:j4)(t:kG):Bool:=match sX t.cD with
 | none=>false
 | some (x,_,_)=>if t.fault≠0\/x.kind=2 then true else if x.kind=3\/x.kind=5\/x.kind=6\/x.kind=7 then !decide (m.room<=t.buf.length)
  else if x.kind=9/\m.fC.getD (bR (cR m.p) x.name).toNat 0≠-1 then false else decide (t.buf.length=0)
def rj(m:j4)(i:Nat)(t:kG):List cC:=(if Bi m t=true then [⟨1,i,0,[]⟩]else [])++(qj t.buf).map λk=>⟨2,i,k,[]⟩
def jw(m:j4)(k:Nat):List cC:=(qi k).flatMap λi=>match m.l[i]? with|some t=>rj m i t|none=>[]
def gE(m:j4):List cC:=if m.fault≠0 then []else jw m m.l.length
def jO(m:j4):List cC:=if m.fault≠0 then []else(yH m.mem).map λc=>⟨3,0,0,c⟩
theorem BD{m:j4}{k:Nat}{t:kG}(h:m.l[k]?=some t):jw m (k+1)=jw m k++rj m k t:=by
 unfold jw;rw[B8,IM];simp[h]
def aea(t:kG):Prop:=t.fault=0->∀x a b,sX t.cD=some (x,a,b)->(2<=x.kind/\x.kind<=10)/\(eS t x.e).2=true/\(eS t x.f).2=true
structure rU(m:j4):Prop where
 mem:xg m.mem
 th:∀t∈m.l,Eh (bW m.p) (cR m.p) t
 tl:m.l.length<=1000
 ow:m.fC.length=(cR m.p).length
 rm:1<=m.room/\m.room<=16
 st:∀t∈m.l,aea t
 pz:PZ m.p
def Jv(l:List bH):(qj l).length<=l.length:=by grind[qj]
def Rz(m:j4)(i:Nat)(t:kG):(rj m i t).length<=1+t.buf.length:=by
 have:=Jv t.buf
 unfold rj;grind
theorem yg{m:j4}(h:rU m):∀k,(jw m k).length<=k*1001
 | 0=>by simp[jw]
 | k+1=>by
  have B:=yg h k
  cases ht:m.l[k]? with
  | none=>
   have e:jw m (k+1)=jw m k:=by unfold jw;rw[B8,IM];simp[ht]
   grind
  | some t=>
   rw[BD ht,lJ]
   have:=Rz m k t
   have:=(h.th t (ml ht)).bl
   omega
def Jw{m:j4}(h:rU m):(gE m).length<=1001000:=by
 unfold gE;split
 .simp
 exact xL (yg h _) (Nat.mul_le_mul_right 1001 h.tl)
def o7(m:j4)(t:kG)(c:Int):Int:=if (m4 t.buf c).isSome=true then(m4 t.buf c).getD 0 else jC m.mem c
def ik(m:j4)(x:bD):Int:=bR (bW m.p) x.name
def jk(m:j4)(x:bD):Int:=bR (cR m.p) x.name
def j5(m:j4)(x:bD):Int:=iS m.p (ik m x)
def Bj(m:j4)(t:kG)(y:bH):kG:={t with buf:=qw m.room t.buf y}
def Fh(m:j4)(t:kG)(x:bD):bZ:=⟨if (m4 t.buf (ik m x)).isSome=true then 2 else 1,0,ik m x,o7 m t (ik m x),0⟩
def yh(m:j4)(t:kG)(x:bD):j4:=if jC m.mem (ik m x)=(eS t x.e).1 then {m with mem:=gN m.mem (ik m x) (eS t x.f).1}else m
def Aj(m:j4)(t:kG)(x:bD):bZ:=if jC m.mem (ik m x)=(eS t x.e).1 then⟨8,0,ik m x,jC m.mem (ik m x),(eS t x.f).1⟩else⟨9,0,ik m x,jC m.mem (ik m x),0⟩
def xt(m:j4)(x:bD)(i:Int):j4:={m with fC:=m.fC.set (jk m x).toNat i}
def eZ(m:j4)(t:kG)(i:Int)(x:bD):j4×kG×bZ:=
 if x.kind=2 then(m,v7 t x.eY (o7 m t (ik m x)),Fh m t x)
 else if x.kind=3 then(m,Bj m t ⟨3,j5 m x,ik m x,(eS t x.e).1⟩,⟨3,0,ik m x,(eS t x.e).1,0⟩)
 else if x.kind=5 then(m,Bj m t ⟨5,j5 m x,0,0⟩,⟨4,0,j5 m x,0,0⟩)
 else if x.kind=6 then(m,Bj m t ⟨6,j5 m x,0,0⟩,⟨5,0,j5 m x,0,0⟩)
 else if x.kind=7 then(m,Bj m t ⟨7,0,0,0⟩,⟨6,0,0,0,0⟩)
 else if x.kind=8 then(m,t,⟨7,0,0,0,0⟩)
 else if x.kind=4 then(yh m t x,v7 t x.eY (jC m.mem (ik m x)),Aj m t x)
 else if x.kind=9 then(xt m x i,t,⟨10,0,jk m x,0,0⟩)
 else(xt m x (-1),t,⟨11,0,jk m x,0,0⟩)
def yi(m:j4)(t:kG)(i:Int)(x:bD):kG:=goD { (eZ m t i x).2.1 with cD:=iM (eZ m t i x).2.1.cD}
def jP(m:j4)(i:Int):j4×bZ:=match m.l[i.toNat]? with
 | none=>(m,⟨0,0,0,0,0⟩)
 | some t=>if t.fault≠0 then({m with fault:=t.fault,fB:=i},⟨16,i,t.fault,0,0⟩)else match sX t.cD with
  | none=>(m,⟨0,0,0,0,0⟩)
  | some (x,_,_)=>if x.kind=10/\m.fC.getD (jk m x).toNat 0≠i then({m with fault:=3,fB:=i},⟨16,i,3,0,0⟩)
   else({ (eZ m t i x).1 with l:=m.l.set i.toNat (yi m t i x)},{ (eZ m t i x).2.2 with t:=i})
def DK(m:j4)(t:kG)(q:cC):j4:={m with mem:=gB m.mem (cO t.buf q.i),l:=m.l.set q.t.toNat {t with buf:=iH t.buf q.i}}
def Z5(l:List bD):Bk:=(qu l).getD .nil
def DM(t:cE):kG:=⟨t.aS,o6 t.aS.length 0,lY (Z5 t.body) false [],0,[]⟩
def Y0(t:cE):kG:=goD (DM t)
def yj(m:j4)(l:List cE):j4:={m with fC:=o6 (cR m.p).length (-1),l:=l.map Y0}
def m8(m:j4)(q:cC):Option (List Int):=if q.kind=3/\q.t=0/\q.i=0/\m.fault=0 then iG m.mem q.cut else none
def vp(m:j4)(lx:List Int):j4:={m with mem:=nH m.mem lx,bX:=m.bX+1}
def yV(m:j4):List cE:=if m.p.recover.length=0 then [⟨⟨#[]⟩,[],[],0⟩]else m.p.recover
def mQ(m:j4)(q:cC):j4×bZ×Int:=match m8 m q with
 | some lx=>(yj (vp m lx) (yV m),⟨15,0,0,sJ q.cut q.cut.length,0⟩,0)
 | none=>if (gE m).any (gY q)=true then
   (if q.kind=2 then(match m.l[q.t.toNat]? with|some t=>(DK m t q,mI q.t (cO t.buf q.i),0)|none=>(m,⟨0,0,0,0,0⟩,13))else((jP m q.t).1,(jP m q.t).2,0))
  else(m,⟨0,0,0,0,0⟩,13)
def Ak(t:kG):Bool:=decide (t.cD.length=0)&&decide (t.buf.length=0)
def xu(m:j4):Bool:=decide (m.fault=0)&&!(qi m.l.length).any λi=>match m.l[i]? with|some t=>!Ak t|none=>false
def Fi(m:j4):Bool:=decide (m.fault=0)&&(!xu m&&decide (((gE m).length:Int)=0))
def jq(m:j4):fU:=⟨m.bX,m.fault,m.fB,xu m,Fi m⟩
def vq(m:j4)(c:iF):Bool:=decide ((BX (gi m.p) (m.mem.l.take (cZ m.p).toNat) c.e).2=0)&&decide ((BX (gi m.p) (m.mem.l.take (cZ m.p).toNat) c.e).1≠0)
def vr(m:j4):List Bool:=m.p.cB.map (vq m)
def GC(p:bQ):List Int:=(qi (bW p).length).map fun (i:Nat)=>iS p (i:Int)
def Jy(p:bQ)(room:Int):j4:=⟨p,room,Kw (GC p) (cZ p) (gK p),[],[],0,0,0⟩
def RA(p:bQ)(room:Int):j4:=yj (Jy p room) p.threads
def C66(K Φ:iD)(p:Nat)(room:Int)(t:kG)(w:World)(E:Has (eP K Φ p room t) w)(O:t.buf.length<=1000):CR 66 [.pointer (some ⟨p,0,none⟩)] w (λv w'=>v=.bool (decide (t.buf.length=0))/\Ext w w'):=by
 obtain⟨M,Y,rg,pl,es,U,G,I,W,V,Z,_⟩:=eP.rd E;have J:=G.cell (o:=0) rfl;have B:=St.start w;refine fD Tryz.func66 ?_;exact aD (aA nk (bN sj (J.ext B.aG) (cW aaz B (C143 M _ _ _ (I.ext B.aG) cU) λ_ _ _ B=>aK lL B.fc (aI ⟨vb (gv.2 cU),B.drop.aG⟩))))
def C68(K Φ:iD)(p:Nat)(m:j4)(q:Nat)(t:kG)(w:World)(hm:Has (gd K p m) w)(O:∀w',Ext w w'->K w')(Y:rU m)(hh:Has (eP K Φ q m.room t) w)(xn:t∈m.l):CR 68 [.pointer (some ⟨p,0,none⟩),.pointer (some ⟨q,0,none⟩)] w (λv w'=>v=.bool (Bi m t)/\Ext w w'):=by
 obtain⟨a,M⟩:=gd.rd hm (O _ (Ext.refl _));have V:=M.b.cell (o:=7) rfl;have Ce:=M.b.cell (o:=10) rfl;have G:=Y.th t xn;have xD:=G.bl;have av6:(cR m.p).length<=500:=by unfold cR;rw[oi];exact Y.pz.locks
 have mM:=AV G.p;have F9:=G.cl;obtain⟨bp,nv,rg,pl,es,hk,W,hB,Gd,Jr,DJ,_⟩:=eP.rd hh;have WO:=W.cell (o:=0) rfl;have U:=W.cell (o:=4) rfl;have B:=St.start w;refine pG Tryz.func68 (pl:=P68) ?_;refine eC W0 (C127 K q t bp nv rg pl es _ _ W Jr DJ O G.p cU) ?_;rintro v _ ⟨he,hv⟩;have B:=B.ext he
 rcases hv with⟨eT,rfl⟩|⟨x,xa,xb,xv,av,bv,ra,rb,YY,rfl,AR,_⟩
 .exact aN rfl (aN rfl (aN rfl (aN rfl (aJ B kS λ_ _ B=>aH (x:=(⟨0,⟨#[]⟩,⟨#[]⟩,bO,bO,0,0,0,0⟩:bF)) B fh rfl rfl λ_ B=>bJ (jb ⟨vb (by unfold Bi;rw[eT]),B.drop.aG⟩)))))
 obtain⟨ge,gf,rfl,_,_⟩:=lB (AR _ (O _ B.aG));have hx:=(G.top YY).1;have E:Bi m t=(if t.fault≠0\/x.kind=2 then true else if x.kind=3\/x.kind=5\/x.kind=6\/x.kind=7 then !decide (m.room<=t.buf.length)else if x.kind=9/\m.fC.getD (bR (cR m.p) x.name).toNat 0≠-1 then false else decide (t.buf.length=0)):=by unfold Bi;rw[YY]
 refine aN rfl (aN rfl (aN rfl (aN rfl (aJ B kS λb5 w2 B=>aH (x:=(⟨x.kind,x.eY,x.name,ge,gf,x.n,x.body,x.eR,x.at_⟩:bF)) B fh rfl rfl λw3 B=>bJ (eX ?_)))));refine⟨λJ w'=>J=.bool (decide (t.fault≠0\/x.kind=2))/\w'=w3,?_,?_⟩
 .exact aD (aA zo (bN bL (U.ext B.aG) (cN (aC (λ_=>⟨vb (fY cU).symm,rfl⟩) λ_=>aA iy (aB (v:=iE x.kind) bL B.hb rfl (aI ⟨vb (gv.2 cU),rfl⟩))))))
 rintro _ w4 ⟨rfl,rfl⟩ _;refine aC (λc1=>?_) (λc1=>?_)
 .exact⟨vb (by rw[E,ez c1]),B.drop.aG⟩
 rw[ew c1]at E;refine⟨λJ w'=>J=.bool (decide (x.kind=3\/x.kind=5\/x.kind=6\/x.kind=7))/\w'=w4,?_,?_⟩
 .refine aA iy (aB (v:=iE x.kind) bL B.hb rfl ?_);exact aI (aC (λ_=>⟨vb (fY cU).symm,rfl⟩) λ_=>aA iy (aB (v:=iE x.kind) bL B.hb rfl (aI (aC (λ_=>⟨vb (fY cU).symm,rfl⟩) λ_=>aA iy (aB (v:=iE x.kind) bL B.hb rfl (aI (aC (λ_=>⟨vb (fY cU).symm,rfl⟩) λ_=>aA iy (aB (v:=iE x.kind) bL B.hb rfl (aI ⟨vb (gv.2 cU),rfl⟩)))))))))
 rintro _ _ ⟨rfl,rfl⟩ _;refine aC (λc2=>?_) (λc2=>?_)
 .exact aD (aA nk (bN sj (WO.ext B.aG) (aY aaA B (C145 bp _ _ _ (hB.ext B.aG)) λ_ _ B=>bJ ⟨vb (by rw[E,ez c2]),B.drop.aG⟩)))
 rw[ew c2]at E;refine⟨λJ w'=>J=.bool (decide (x.kind=9/\m.fC.getD (bR (cR m.p) x.name).toNat 0≠-1))/\St w bE [bU b5 (jl (⟨x.kind,x.eY,x.name,ge,gf,x.n,x.body,x.eR,x.at_⟩:bF))] w',?_,?_⟩
 .have B:=B.drew;refine aA iy (aB (v:=iE x.kind) bL B.hb rfl (aI (aC (λc3=>?_) λ_=>⟨vb (gk cU).symm,B⟩)));obtain⟨j,hj,OG,_⟩:=wX (eB.1 (hx.lk (.inl c3)));have SN:=(j0.1 OG).1;have how:=Y.ow;refine aD (aA pL (bN eD (Ce.ext B.aG) (aD (aA HH (bN nf (V.ext B.aG) (aA jJ (aB (v:=.string x.name) ke B.hb rfl (aY Bv B (C146 _ (cR m.p) x.name _ (M.uk.ks _ (O _ B.aG)) cU) λ_ he B=>?_))))))));refine⟨aF eD (Ce.ext B.aG),?_⟩;obtain⟨ov,I⟩:=gx m.fC (i:=(bR (cR m.p) x.name).toNat) cU
  refine aW dZ (M.ow.ext B.aG) cU I (λq71 h71=>aE bL h71 (cN ?_));refine⟨vb (gv.2 ?_),B⟩;rw[List.getD_eq_getElem?_getD,I];exact⟨λh=>⟨c3,h⟩,λh=>h.2⟩
 rintro _ _ ⟨rfl,B⟩ _;refine aC (λZ=>?_) (λZ=>?_)
 .exact⟨vb (by rw[E,ez Z]),B.drop.aG⟩
 exact aY avT B (C66 K Φ q m.room t _ (hh.ext B.aG) xD) (λ_ _ B=>⟨vb (by rw[E,ew Z]),B.drop.aG⟩)
def C22(K:iD)(p:Nat)(m:j4)(w:World)(Z:Has (gd K p m) w)(hw:∀w',Ext w w'->K w')(J:rU m):CR 22 [.pointer (some ⟨p,0,none⟩)] w (λv w'=>mf (fe v (gE m)) w w'):=by
 obtain⟨a,E⟩:=gd.rd Z (hw _ (Ext.refl _));have Bh:=E.b.cell (o:=11) rfl;have Ad:=E.b.cell (o:=13) rfl;have hlen:=E.len;have J4:=J.tl;have B:=St.start w;refine an4 _ _ _ ?_;unfold S22;refine aD (aA tD (bN bL (Ad.ext B.aG) (cN (aC (λc=>?_) λc=>?_))))
 .have M:gE m=[]:=by unfold gE;rw[ez c]
  rw[M];exact B.xK.fresh
 have M:gE m=jw m m.l.length:=by unfold gE;rw[ew c]
 rw[M];refine aD (aA lF (bN tC (Bh.ext B.aG) (aK uY (E.ll.ext B.aG) ?_)));refine⟨λG o y I=>∃k:Nat,y=iE (k:Int)/\G=a.ps.length-k/\k<=a.ps.length/\St w bE [fe o (jw m k)] I,⟨_,0,rfl,rfl,ob _,B.xK⟩,?_⟩;rintro G o _ I ⟨k,rfl,rfl,hk,B⟩ _;have mM:=yg J k;have ZU:k*1001<=1001000:=cU
 refine aV (aC (λc1=>?_) λc1=>?_);rotate_left
 .rw[show k=m.l.length from cU]at B;exact B.fresh
 obtain⟨e,W⟩:=gx a.ps (i:=((k:Nat):Int).toNat) cU;obtain⟨t,ht⟩:=gx m.l (i:=k) cU;have xn:=ml ht;have xD:=(J.th t xn).bl;have ZZ:=E.th k e t W ht;obtain⟨bp,nv,rg,pl,es,OD,nI,hB,Gd,Jr,DJ,_⟩:=eP.rd ZZ;have WO:=nI.cell (o:=0) rfl;refine aW uY (E.ll.ext B.aG) cU W (λq O=>aE FN O ?_);refine⟨λjv w'=>St w bE [fe jv (jw m k++(if Bi m t=true then [(⟨1,k,0,[]⟩:cC)]else []))] w',?_,?_⟩
 .refine aY aCD B (C68 K _ p m e.b t _ (Z.ext B.aG) (λ_ e=>hw _ (B.aG.then e)) J (ZZ.ext B.aG) xn) (λ_ W B=>aX (λV=>?_) λV=>?_)
  .refine pop (KY 1 (k:Int)) (have B:=B.fw (Φ:=λw=>n4 w (⟨1,(k:Int),0,bO⟩:cY) (⟨1,(k:Int),0,[]⟩:cC)) (λw=>⟨bO,rfl,DL.nil w⟩);fH (x:=(⟨1,(k:Int),0,[]⟩:cC)) (s:=(⟨1,(k:Int),0,bO⟩:cY)) B nd er λs29 _ B=>fI B.p1 nd (by rw[mv];omega) er λs30 _ B=>?_);rw[ez V];exact B
  rw[ew (by rw[V];decide),rM];exact B
 rintro o2 _ B _;refine aD (aA nk (bN sj (WO.ext B.aG) (cW aqO B (C69 bp _ _ _ (hB.ext B.aG) cU) λU _ cA B=>?_)));have F9:=Jv t.buf;refine aK dZ B.fc ?_;refine⟨λG o y I=>∃j:Nat,y=iE (j:Int)/\G=(qj t.buf).length-j/\j<=(qj t.buf).length/\St w bE [fe o (jw m k++(if Bi m t=true then [(⟨1,k,0,[]⟩:cC)]else [])++((qj t.buf).take j).map λi=>(⟨2,k,i,[]⟩:cC)),bG U (qj t.buf)] I,⟨_,0,rfl,rfl,ob _,by rw[List.take_zero,List.map_nil,rM];exact B.p1⟩,?_⟩;rintro G o3 _ _ ⟨j,rfl,rfl,hj,B⟩ _;refine aV (aC (λc3=>?_) λc3=>?_)
 .obtain⟨y,Y⟩:=gx (qj t.buf) (i:=((j:Nat):Int).toNat) cU;exact aW dZ B.p1.fc cU Y (λ_ O=>aE bL O (pop (FR 2 (k:Int) y) (have B:=B.fw (Φ:=λw=>n4 w (⟨2,(k:Int),y,bO⟩:cY) (⟨2,(k:Int),y,[]⟩:cC)) (λw=>⟨bO,rfl,DL.nil w⟩);fH (x:=(⟨2,(k:Int),y,[]⟩:cC)) (s:=(⟨2,(k:Int),y,bO⟩:cY)) B nd er λ_ _ B=>fI B.p1 nd (by simp only[lJ,oi,n0,mv];split<;>simp<;>omega) er λ_ _ B=>aR cU ⟨_,cU,j+1,rfl,rfl,cU,by rw[<- ig (k:=j) Y,<- o1];exact B⟩)))
 rw[mH cU]at B;refine aR cU ?_;refine⟨_,cU,k+1,rfl,rfl,cU,?_⟩;rw[BD ht];unfold rj;rw[<- o1];exact B.p1.drop
def C34(K:iD)(p:Nat)(m:j4)(w:World)(Y:Has (gd K p m) w)(hw:∀w',Ext w w'->K w')(iT:rU m)(qy:MB m.mem 1000000)(O:(eN (Ca m.mem)).length<=1000000000):CR 34 [.pointer (some ⟨p,0,none⟩)] w (λv w'=>mf (fe v (jO m)) w w'):=by
 obtain⟨a,G⟩:=gd.rd Y (hw _ (Ext.refl _));have WQ:=G.b.cell (o:=9) rfl;have Z:=G.b.cell (o:=13) rfl;have F9:(yH m.mem).length<=1000000000:=xL (NF _ _) O;have B:=St.start w;refine fD Tryz.func34 ?_;refine aD (aA tD (bN bL (Z.ext B.aG) (cN (aC (λc=>?_) λc=>?_))))
 .have I:jO m=[]:=by unfold jO;rw[ez c]
  rw[I];exact B.xK.fresh
 have I:jO m=(yH m.mem).map λc=>(⟨3,0,0,c⟩:cC):=by unfold jO;rw[ew c]
 rw[I];refine aD (aA my (bN mT (WQ.ext B.aG) (cW aqQ B (C80 a.q m.mem _ (G.mem.ext B.aG) iT.mem qy O) λM U cA B=>?_)));obtain⟨E,B⟩:=B.wI;have hsl:=B.p1.ep.1;refine aK yu B.fc ?_;refine⟨λV o y U=>∃k:Nat,y=iE (k:Int)/\V=E.length-k/\k<=E.length/\St w bE [bG o ((E.take k).map pk3),bG M E,ep (jx E (yH m.mem))] U,⟨_,0,rfl,rfl,ob _,B.eU (α:=cY)⟩,?_⟩;rintro V o _ _ ⟨k,rfl,rfl,hk,B⟩ _;refine aV (aC (λc1=>?_) λc1=>?_)
 .obtain⟨e,W⟩:=gx E (i:=((k:Nat):Int).toNat) cU;refine aW yu B.p1.fc cU W (λq hq=>aE eD hq (pop (KZ 3 e.a e.n e.cap) (bV ([pk3 e]:List cY) B nd rfl rfl (ei rfl) λs24 _ B=>?_)));have J:=B.fc;exact cK B.p1 nd J (by rw[oi,n0,mv];omega) er (λ_ _ B=>aR cU ⟨_,cU,k+1,rfl,rfl,cU,by rw[<- ig (k:=k) W];exact B.p1.drop⟩)
 rw[mH cU]at B;exact(St.zE (B.p1.drop.p1.cS λ_ h=>WR h).p1).fresh
def C161(K:iD)(p:Nat)(m:j4)(i kind:Int)(F:Nat->Prop)(w:World)(G:(gd K p m).p w F):CR 161 [.pointer (some ⟨p,0,none⟩),iE i,iE kind] w (λv w'=>v=jj (⟨16,i,kind,0,0⟩:bZ)/\ng F (gd K p {m with fault:=kind,fB:=i}) w w'):=by
 have B:=St.begin G;refine fD Tryz.func161 ?_;obtain⟨a,E,B⟩:=gd.open B;exact aJ B jQ (λ_ _ B=>have B:=B.enc (cs':=jl (⟨0,0,0,0,0⟩:bZ)) rfl;aD (aA tD (aO B.p1 bL (ei rfl) rfl λ_ B=>aD (aA Pe (aO B bL (ei rfl) rfl λ_ B=>pop (rE 16 i kind) (aH (x:=(⟨16,i,kind,0,0⟩:bZ)) B.p1 ey rfl rfl λ_ B=>aE ey B.At ⟨rfl,(gd.shut (m:={m with fault:=kind,fB:=i}) ⟨E.pr,E.cs,E.ks,E.mem,E.rc⟩ B.drop).mut⟩))))))
def C162(K:iD)(p:Nat)(m:j4)(n:Nat)(tp:Ptr)(t:kG)(x:bD)(V:bF)(F:Nat->Prop)(c:Int)(w:World)(hF:(sep (rT K tp.b m.room t) (nZ K p m n tp)).p w F)(I:∀w',gZ F w w'->K w')(E:Eh (bW m.p) (cR m.p) t)(Jl:xg m.mem)(AR:∀w,K w->n4 w V x)(Gd:0<=bR t.names x.eY):CR 162 [.pointer (some ⟨p,0,none⟩),.pointer (some ⟨tp.b,0,none⟩),jj V,iE c] w (λv w'=>v=jj (⟨if (m4 t.buf c).isSome=true then 2 else 1,0,c,o7 m t c,0⟩:bZ)/\ng F (sep (rT K tp.b m.room (v7 t x.eY (o7 m t c))) (nZ K p m n tp)) w w'):=by
 have B:=(St.begin hF).split;obtain⟨M,U,rfl,_,_⟩:=lB (AR _ (I _ B.aG));obtain⟨j,hj,OG,_⟩:=wX (eB.1 Gd);have SN:=(j0.1 OG).1;have hnb:=E.nb;have Z4:=E.rl;have xD:=E.bl;refine aiv _ _ _ _ _ _ ?_;unfold S162;refine cP (x:=(⟨x.kind,x.eY,x.name,M,U,x.n,x.body,x.eR,x.at_⟩:bF)) B (λb6 _ B=>aJ B jQ λb8 _ B=>?_);have B:=(B.enc (cs':=jl (⟨0,0,0,0,0⟩:bZ)) rfl).p2;obtain⟨J,nv,rg,pl,es,O,B⟩:=eP.open B;refine aD (aA nk (aB sj B.hb rfl (aY ajL B (C259 J c m.room t.buf _ (Dt B.p1) cU) λ_ he B=>aN rfl (aN rfl ?_))))
 refine⟨λY Z w'=>Y=iE (o7 m t c)/\Z=iE (if (m4 t.buf c).isSome=true then 2 else 1)/\St w F [bU tp.b (ri J nv rg pl t.fault),lV J m.room t.buf,bG rg t.aS,bG pl (NP es),ep (λw=>yd K w es t.cD/\True),bU b8 (jl (⟨0,0,0,0,0⟩:bZ)),bU b6 (jl (⟨x.kind,x.eY,x.name,M,U,x.n,x.body,x.eR,x.at_⟩:bF)),nZ K p m n tp] w',?_,?_⟩
 .refine bJ (aX (λc1=>?_) λc1=>?_)
  .have h1:(m4 t.buf c).isSome=false:=by simpa using c1
   have B:=B.p7;obtain⟨a,W,B⟩:=nZ.open B;exact aD (aA my (aB mT B.hb rfl (aY VC B (WU a.q m.mem c _ (xY B.p1 (W.1.mem _ (I _ B.aG))) Jl) λ_ _ B=>aN rfl (aN rfl (have B:=(((((((nZ.shut (m:=m) W B.p4.p4.p4.p4.p4).p7).p7).p7).p7).p7).p7).p7;⟨by unfold o7;rw[ew (by rw[h1];decide)],by rw[ew (by rw[h1];decide)],B⟩)))))
  have h1:(m4 t.buf c).isSome=true:=by simpa using c1
  exact⟨by unfold o7;rw[ez h1],by rw[ez h1],B⟩
 rintro _ _ _ ⟨rfl,rfl,B⟩ _;have B:=B.drew;refine aD (aA wv (aB eD B.hb rfl (aD (aA CK (aB nf B.hb rfl (aA lO (aB (v:=.string x.eY) ke B.p6.hb rfl (aY Bv B (C146 _ t.names x.eY _ (O _ (I _ B.aG)) cU) λ_ he B=>?_))))))));refine⟨aF eD (B.hb.cell rfl),?_⟩;exact dN B.p2 dZ cU cU (λ_ G=>jm (o7 m t c:Int) B.p2 bL G cU λ_ B=>pop (l8 (if (m4 t.buf c).isSome=true then 2 else 1) c (o7 m t c)) (aH (x:=(⟨if (m4 t.buf c).isSome=true then 2 else 1,0,c,o7 m t c,0⟩:bZ)) B.p5 ey rfl rfl λ_ B=>aE ey B.At (have B:=eP.shut (Φ:=λ_=>True) (t:=v7 t x.eY (o7 m t c)) O B.drop.p5.drop.p4.p4.p2.p4.p4;have B:=B.p1.p1;⟨rfl,(St.join B).mut⟩)))
def C165(K:iD)(p:Nat)(m:j4)(n:Nat)(tp:Ptr)(t:kG)(x:bD)(xv:bF)(F:Nat->Prop)(w:World)(hF:(sep (rT K tp.b m.room t) (nZ K p m n tp)).p w F)(G:∀w',gZ F w w'->K w')(kx:Eh (bW m.p) (cR m.p) t)(Jl:xg m.mem)(AR:∀w,K w->n4 w xv x)(Gd:0<=bR t.names x.eY)(qy:MB m.mem 1000000)(hen:x.e.length<=1000/\x.f.length<=1000)(hv1:(eS t x.e).2=true)(V:(eS t x.f).2=true):CR 165 [.pointer (some ⟨p,0,none⟩),.pointer (some ⟨tp.b,0,none⟩),jj xv,iE (ik m x)] w (λv w'=>v=jj (Aj m t x)/\ng F (sep (rT K tp.b m.room (v7 t x.eY (jC m.mem (ik m x)))) (nZ K p (yh m t x) n tp)) w w'):=by
 have B:=(St.begin hF).split;obtain⟨U,Z,rfl,_,_⟩:=lB (AR _ (G _ B.aG))
 have J:∀w,K w->dP (λ_=>True) w (jj U) x.e/\dP (λ_=>True) w (jj Z) x.f:=λw hw=>by
  obtain⟨_,_,h4,h5,h6⟩:=lB (AR w hw);cases h4
  exact⟨h5,h6⟩
 obtain⟨j,hj,OG,_⟩:=wX (eB.1 Gd);have SN:=(j0.1 OG).1;have hnb:=kx.nb;have Z4:=kx.rl;have W:{t with fault:=if (eS t x.e).2=true then t.fault else 2}=t:=by rw[hv1];rfl
 have Z6:{t with fault:=if (eS t x.f).2=true then t.fault else 2}=t:=by rw[V];rfl
 obtain⟨c,hc⟩:∃c,c=ik m x:=⟨_,rfl⟩;rw[<- hc];refine aiw _ _ _ _ _ _ ?_;unfold S165;refine cP (x:=(⟨x.kind,x.eY,x.name,U,Z,x.n,x.body,x.eR,x.at_⟩:bF)) B (λb6 _ B=>aJ B jQ λb8 _ B=>?_);have B:=(B.enc (cs':=jl (⟨0,0,0,0,0⟩:bZ)) rfl).p3;obtain⟨a,E,B⟩:=nZ.open B;refine aD (aA my (aB mT B.hb rfl (aY VC B (WU a.q m.mem c _ (xY B.p1 (E.1.mem _ (G _ B.aG))) Jl) λ_ he B=>aN rfl (aN rfl (aA jK (aB (v:=jj U) l5 B.p6.hb rfl (have B:=B.p7;aT Rw B (H':=λ_=>rT K tp.b m.room t) (Φ:=λv _=>v=.tuple #[iE (eS t x.e).1,.bool (eS t x.e).2]) (λO I M=>?_) ?_)))))))
 .have:=C163 K _ tp.b m.room t O _ x.e _ I (λw' hc=>G w' (M w' hc).aG) (J _ (G _ B.aG)).1 cU cU;rw[W]at this;exact this
 rintro _ _ rfl B;refine aN rfl (aN rfl (aA rA (aB (v:=jj Z) l5 B.p7.hb rfl (aT Rw B (H':=λ_=>rT K tp.b m.room t) (Φ:=λv _=>v=.tuple #[iE (eS t x.f).1,.bool (eS t x.f).2]) (λO I M=>?_) ?_))))
 .have:=C163 K _ tp.b m.room t O _ x.f _ I (λw' hc=>G w' (M w' hc).aG) (J _ (G _ B.aG)).2 cU cU;rw[Z6]at this;exact this
 rintro _ _ rfl B;refine aN rfl (aN rfl ?_);obtain⟨bp,nv,rg,pl,es,hk,B⟩:=eP.open B;have B:=B.drew;refine aD (aA wv (aB eD B.hb rfl (aD (aA CK (aB nf B.hb rfl (aA lO (aB (v:=.string x.eY) ke B.p11.hb rfl (aY Bv B (C146 _ t.names x.eY _ (hk _ (G _ B.aG)) cU) λ_ he B=>?_))))))));refine⟨aF eD (B.hb.cell rfl),?_⟩;refine dN B.p2 dZ cU cU (λ_ aCO=>jm (jC m.mem c:Int) B.p2 bL aCO cU λw6' B=>have B:=eP.shut (Φ:=λ_=>True) (t:=v7 t x.eY (jC m.mem c)) hk B.p4.p4.p2.p4.p4;cN (aC (λc1=>?_) λc1=>?_))
 .have Y:yh m t x=m:=by unfold yh;rw[<- hc,ew c1]
  have AP:Aj m t x=⟨9,0,c,jC m.mem c,0⟩:=by unfold Aj;rw[<- hc,ew c1]
  refine pop (l8 9 c (jC m.mem c)) (aH (x:=(⟨9,0,c,jC m.mem c,0⟩:bZ)) B.p6 ey rfl rfl λ_ B=>aE ey B.At ?_);have B:=(nZ.shut (m:=m) E B.drop.p6.drop.p5.p5.p5.p5.p5).p1;rw[Y,AP];exact⟨rfl,(St.join B).mut⟩
 have Y:yh m t x={m with mem:=gN m.mem c (eS t x.f).1}:=by unfold yh;rw[<- hc,ez (by simpa using c1)]
 have AP:Aj m t x=⟨8,0,c,jC m.mem c,(eS t x.f).1⟩:=by unfold Aj;rw[<- hc,ez (by simpa using c1)]
 refine aD (aA my (aB mT B.p1.hb rfl (have B:=B.p2;aT O4 B (H':=λ_=>fE a.q a.ov a.fv (gN m.mem c (eS t x.f).1)) (Φ:=λ_ _=>True) (λO I M=>?_) ?_)))
 .exact(C159 a.q a.ov a.fv m.mem O c _ _ I (λw' hc=>E.1.mem _ (G w' (M w' hc).aG)) Jl qy).mono λ_ _ r=>r.mono λ_ _ h=>⟨trivial,h.2⟩
 rintro _ _ _ B;refine pop (Bo 8 c (jC m.mem c) (eS t x.f).1) (aH (x:=(⟨8,0,c,jC m.mem c,(eS t x.f).1⟩:bZ)) B.p6 ey rfl rfl λ_ B=>aE ey B.At ?_);have B:=nZ.shut (m:={m with mem:=gN m.mem c (eS t x.f).1}) (⟨⟨E.1.pr,E.1.cs,E.1.ks,λw hw=>(E.1.mem w hw).write,E.1.rc⟩,E.2⟩) B.drop.p6.drop.p5.p5.p5.p3.p5;have B:=B.p1;rw[Y,AP];exact⟨rfl,(St.join B).mut⟩
def C82(cv:Value)(cut:List Int)(w:World)(E:dP (λ_=>True) w cv cut)(M:cut.length<=1000000):CR 82 [cv] w (λv w'=>v=iE (sJ cut cut.length)/\Ext w w'):=by
 have B:=St.start w;refine aob _ _ _ ?_;unfold S82;refine aK dZ (E.ext B.aG) ?_;refine⟨λI n x G=>∃k:Nat,n=iE (sJ cut k)/\x=iE (k:Int)/\I=cut.length-k/\k<=cut.length/\St w bE [] G,⟨_,0,rfl,rfl,rfl,ob _,B⟩,?_⟩;rintro I _ _ G ⟨k,rfl,rfl,rfl,W,B⟩ _;refine aV (aC (λV=>?_) λ_=>⟨by rw[show cut.length=k from cU],B.aG⟩);obtain⟨U,J⟩:=gx cut (i:=(k:Int).toNat) cU;exact aW dZ E cU J (λ_ O=>aE bL (O.ext B.aG) (H6 (zD (aR cU ⟨_,cU,k+1,by rw[Ji (k:=k) J],rfl,rfl,cU,B⟩))))
def C83(q x:cC)(U:cY)(b:Nat)(O:cY)(w:World)(hq:n4 w U q)(E:At (λ_=>True) w (.pointer (some ⟨b,0,none⟩)) O)(J:n4 w O x):CR 83 [jj U,(.pointer (some ⟨b,0,none⟩))] w (λv w'=>v=.bool (gY x q)/\Ext w w'):=by
 obtain⟨Y,rfl,WT⟩:=hq;obtain⟨NH,rfl,V⟩:=J;have B:=St.start w;refine fD Tryz.func83 ?_;refine cP B (λG _ B=>⟨λjv w'=>jv=.bool (gY x q)/\St w bE [bU G (jl (⟨q.kind,q.t,q.i,Y⟩:cY))] w',?_,?_⟩)
 .refine aA mS (aB (v:=iE q.kind) bL B.hb rfl (cL x.kind mS E rfl rfl λ_ I=>aE bL (I.ext B.aG) (aI (aC (λiO=>aA im (aB (v:=iE q.t) bL B.hb rfl (cL x.t im E rfl rfl λ_ W=>aE bL (W.ext B.aG) (aI (aC (λky=>aA qY (aB (v:=iE q.i) bL B.hb rfl (cL x.i qY E rfl rfl λ_ kW=>aE bL (kW.ext B.aG) (aI (aC (λjX=>?_) λ_=>⟨vb (by unfold gY;first|(simp_all;done)|grind),B⟩))))) λ_=>⟨vb (by unfold gY;first|(simp_all;done)|grind),B⟩))))) λ_=>⟨vb (by unfold gY;first|(simp_all;done)|grind),B⟩))))
  refine cL NH pK E rfl rfl (λ_ Z=>aE eD (Z.ext B.aG) ?_);have M:=DL.flat V;exact aK dZ (M.ext B.aG) (aI ⟨vb (by unfold gY;first|(simp_all;done)|grind),B⟩)
 rintro _ _ ⟨rfl,B⟩ _;exact⟨rfl,B.drop.aG⟩
def DN(t:fN):Bool:=(gj t).isNone&&decide (t.buf.length=0)
def uw(m:jU):Bool:=decide (m.fault=0)&&!(qi m.l.length).any λi=>match m.l[i]? with|some t=>!DN t|none=>false
def Al(m:jU):Bool:=decide (m.fault=0)&&(!uw m&&decide (((gV m).length:Int)=0))
def rk(m:jU):fU:=⟨m.bX,m.fault,m.fB,uw m,Al m⟩
def v8(m:jU)(l:List nW):Bool:=decide ((runM l (m.mem.l.take m.u.stays.toNat)).2=0)&&decide ((runM l (m.mem.l.take m.u.stays.toNat)).1≠0)
def DO(m:jU):List Bool:=m.u.cB.map (v8 m)
theorem oR.ext{w w':World}{b:Nat}{cs:List Value}(h:oR w b cs)(e:Ext w w'):oR w' b cs:=h.of_eq (e.bU b h.lt λh=>h)
def LR{n k:Nat}(h:k<n):(qi n)[k]?=some k:=List.getElem?_range h
def C71(K:iD)(p:Nat)(room:Int)(t:fN)(w:World)(G:Has (fb K p room t) w)(O:∀w',Ext w w'->K w')(U:G8 t):CR 71 [(.pointer (some ⟨p,0,none⟩))] w (λv w'=>v=.bool (DN t)/\Ext w w'):=by
 obtain⟨bp,gl,rg,cn,_,Z,hB,Gd,hcn⟩:=fb.rd G;have WO:=Z.cell (o:=0) rfl;have B:=St.start w;refine fD Tryz.func71 ?_;refine eC agj (C72 K p room t _ (G.ext B.aG) (O _ B.aG) U) ?_;rintro V _ I
 rcases I with⟨M,rfl,E⟩|⟨x,xv,M,AR,rfl,E⟩
 .have B:=B.ext E;refine aN rfl (aN rfl (aJ B oN λJ w2 B=>have B:=B.enc (cs':=jl (⟨0,0,0,bO,bO,0⟩:bK)) rfl;aH (x:=(⟨0,0,0,bO,bO,0⟩:bK)) B ie rfl rfl λY B=>?_));refine⟨_,?_,λ_ _ h=>h⟩;refine bJ (jb (aY ami B (C73 K p room t _ (G.ext B.aG) U.bl) λ_ E B=>?_));intro sQ;refine⟨vb ?_,by first|exact B.aG|exact B.drop.aG⟩;unfold DN;rw[M]
  rfl
 have B:=B.ext E;obtain⟨W,gf,rfl,_,_⟩:=AR _ (O _ B.aG);refine aN rfl (aN rfl (aJ B oN λJ w2 B=>have B:=B.enc (cs':=jl (⟨0,0,0,bO,bO,0⟩:bK)) rfl;aH (x:=(⟨x.kind,x.a,x.b,W,gf,x.to⟩:bK)) B ie rfl rfl λY B=>?_));refine⟨_,?_,λ_ _ h=>h⟩;refine bJ (eX ?_);intro sQ;refine⟨vb ?_,by first|exact B.aG|exact B.drop.aG⟩;unfold DN;rw[M]
 rfl
def C75(K:iD)(p:Nat)(room:Int)(t:fN)(b:Nat)(w:World)(G:Has (fb K p room t) w)(J:∀w',Ext w w'->K w')(E:G8 t)(hc:Cell w b 0 (Ua 71)):CR 75 [(.pointer (some ⟨p,0,none⟩)),(.pointer (some ⟨b,0,none⟩))] w (λv w'=>v=.bool (!DN t)/\Ext w w'):=by
 have B:=St.start w;refine fD Tryz.func75 ?_;refine bN ajX (hc.ext B.aG) (fm (first:=[]) (cap:=[]) azm (C71 K p room t _ (G.ext B.aG) (λ_ e=>J _ (Ext.trans B.aG e)) E) ?_);rintro _ _ ⟨rfl,I⟩;have B:=B.ext I;exact bJ ⟨rfl,B.aG⟩
def C148(V:Value)(ps:List Ptr)(I:Nat)(first cap:List Value)(g:Nat->Bool)(w:World)(O:dP (λ_=>True) w V ps)(W:Plain hZ I)(Y:∀(i:Nat) (s:Ptr) (E:World),ps[i]?=some s->Ext w E->Calls hZ I (first++[jj s]++cap).toArray E (rZ λv U=>v=.bool (g i)/\Ext E U))(hn:ps.length<=1073741824):CR 148 [V,(.func (.func I) first.toArray cap.toArray)] w (λv w'=>v=iE (pY g (qi ps.length))/\Ext w w'):=by
 have B:=St.start w;refine fD Tryz.func148 ?_;refine aK FM (O.ext B.aG) ?_;refine⟨λm x E=>∃k:Nat,x=iE (k:Int)/\m=ps.length-k/\k<=ps.length/\(∀y∈(qi ps.length).take k,g y=false)/\St w bE [] E,⟨_,0,rfl,rfl,ob _,et,B⟩,?_⟩;rintro m _ E ⟨k,rfl,rfl,hk,G,B⟩ _;refine aV (aC (λlR=>?_) λ_=>⟨gD (n5 .i64) (gJ (by rw[mH (by rw[List.length_range];omega)]at G;exact G)).symm,B.aG⟩);obtain⟨Z,M⟩:=gx ps (i:=(k:Int).toNat) cU;refine aW FM O cU M (λ_ gC=>aE KW (gC.ext B.aG) (fm W (Y k Z E M B.aG) ?_))
 rintro _ U ⟨rfl,he⟩;have B:=B.ext he;exact aX (λJ=>⟨gD (n5 .i64) (jT G (LR cU) J).symm,B.aG⟩) (λJ=>aR cU ⟨_,cU,k+1,rfl,rfl,cU,fg G (LR cU) J,B⟩)
def C74(J:Value)(ps:List Ptr)(E:Nat)(first cap:List Value)(g:Nat->Bool)(w:World)(M:dP (λ_=>True) w J ps)(U:Plain hZ E)(V:∀(i:Nat) (s:Ptr) (G:World),ps[i]?=some s->Ext w G->Calls hZ E (first++[jj s]++cap).toArray G (rZ λv I=>v=.bool (g i)/\Ext G I))(W:ps.length<=1073741824):CR 74 [J,(.func (.func E) first.toArray cap.toArray)] w (λv w'=>v=.bool ((qi ps.length).any g)/\Ext w w'):=by
 have B:=St.start w;refine fD Tryz.func74 ?_;exact aY aq3 B (C148 _ ps E first cap g _ (M.ext B.aG) U (λi O I h e=>V i O I h (Ext.trans B.aG e)) cU) (λ_ _ B=>dC ⟨vb (iJ _ _),B.aG⟩)
def C25(K:iD)(p:Nat)(m:jU)(w:World)(hm:Has (fZ K p m) w)(hw:K w)(O:∀w',Ext w w'->K w')(W:xm m):CR 25 [(.pointer (some ⟨p,0,none⟩))] w (λv w'=>v=jj (rk m)/\Ext w w'):=by
 obtain⟨a,E⟩:=fZ.rd hm hw;have cm8:=E.b.cell (o:=8) rfl;have cm0:=E.b.cell (o:=0) rfl;have cm1:=E.b.cell (o:=1) rfl;have cm3:=E.b.cell (o:=3) rfl;have WQ:=E.b.cell (o:=9) rfl;have Ce:=E.b.cell (o:=10) rfl;have Bh:=E.b.cell (o:=11) rfl;have Jh:=E.b.cell (o:=12) rfl;have Ad:=E.b.cell (o:=13) rfl;have M:=E.b.cell (o:=14) rfl;have Rg:=E.b.cell (o:=15) rfl;have B:=St.start w;refine pG Tryz.func25 (pl:=P25) ?_;refine aJ B EF (λqt _ B=>gT B agL rfl λV w2 B=>aO B ajX (ei rfl) (rfl) λw3 B=>aD (aA HJ (have B:=B.drew;bN bL (Ad.ext B.aG) (aD (aA pM (bN bL (M.ext B.aG) (aD (aA HK (bN bL (Rg.ext B.aG) (pop (FP _ _ _) ?_))))))))))
 refine aJ B EF (λJ _ B=>?_);refine⟨aF bL (Ad.ext B.aG),?_⟩;refine⟨aF bL (M.ext B.aG),?_⟩;refine⟨aF bL (Rg.ext B.aG),?_⟩;refine aH (x:=(⟨m.bX,m.fault,m.fB,false,false⟩:fU)) B EE rfl rfl (λ_ B=>⟨λw'=>St w bE [bU J (jl (⟨m.bX,m.fault,m.fB,uw m,false⟩:fU)),bU V [Ua 71],bU qt (jl (⟨0,0,0,false,false⟩:fU))] w',aD (aA pM (bN bL (M.ext B.aG) (aI (aC (λjL=>?_) λjL=>?_)))),?_⟩)
 .refine aD (aA tI (bN CJ (Jh.ext B.aG) ?_))
  refine aY azn B (C74 _ a.ps 75 [] [.pointer (some ⟨V,0,none⟩)] (λi=>match m.l[i]? with|some t=>!DN t|none=>false) _ (E.ll.ext B.aG) azo (λi s2 w2 h e=>by
   obtain⟨t,ht⟩:∃t,m.l[i]?=some t:=⟨_,l0 (by have:=(j0.1 h).1;have:=E.len;omega)⟩;rw[ht];exact C75 K s2.b m.room t V w2 ((E.th i s2 t h ht).ext (Ext.trans B.aG e)) (λ_ e3=>O _ (Ext.trans (Ext.trans B.aG e) e3)) (W.th t (ml ht)) ((B.p1.hb.cell rfl).ext e)) (by have:=E.len;have:=W.tl;omega)) (λ_ he B=>?_)
  refine bJ (aA AG (aO B HE (ei rfl) (rfl) λ_ B=>?_));have B:=B.enc (cs':=jl ({ (⟨m.bX,m.fault,m.fB,false,false⟩:fU)with done:=(!((qi a.ps.length).any λi=>match m.l[i]? with|some t=>!DN t|none=>false))}:fU)) rfl;have B:=B.p2.p2.p2;have I:uw m = !((qi a.ps.length).any λi=>match m.l[i]? with|some t=>!DN t|none=>false):=by unfold uw;rw[fY jL,E.len];rfl
  rw[I];exact B
 .refine aA AG (aO B HE (ei rfl) (rfl) λ_ B=>?_);have B:=B.enc (cs':=jl ({ (⟨m.bX,m.fault,m.fB,false,false⟩:fU)with done:=false}:fU)) rfl;have B:=B.p2.p2.p2;have I:uw m=false:=by unfold uw;rw[gk jL];rfl
  rw[I];exact B
 intro _ B _;refine⟨λw'=>St w bE [bU J (jl (rk m)),bU qt (jl (⟨0,0,0,false,false⟩:fU))] w',aD (aA pM (bN bL (M.ext B.aG) (aI (aC (λY=>aA AG (aB (v:=.bool ((⟨m.bX,m.fault,m.fB,uw m,false⟩:fU).done)) HE B.hb rfl (bJ (aX (λZ=>?_) λZ=>?_)))) λY=>?_)))),?_⟩
 .refine cW SU B (C24 K p m _ (hm.ext B.aG) (O _ B.aG) (λ_ e=>O _ (Ext.trans B.aG e)) W) (λx45 _ cA B=>?_);obtain⟨aCQ,U,aof,_⟩:=B.dl;refine aK nd U ?_;rw[aof];refine aI (aA AH (aO B.p1 HE (ei rfl) (rfl) λ_ B=>?_));have B:=B.enc (cs':=jl ({ (⟨m.bX,m.fault,m.fB,uw m,false⟩:fU)with stuck:=(decide (((gV m).length:Int)=0))}:fU)) rfl;have B:=B.p1.drop.p1.drop.p1.p1;have G:Al m=(decide (((gV m).length:Int)=0)):=by unfold Al;rw[fY Y,show uw m=false from by simpa using Z];rfl
  unfold rk;rw[G];exact B
 .refine aA AH (aO B HE (ei rfl) (rfl) λ_ B=>?_);have B:=B.enc (cs':=jl ({ (⟨m.bX,m.fault,m.fB,uw m,false⟩:fU)with stuck:=false}:fU)) rfl;have B:=B.p1.drop.p1.p1;have G:Al m=false:=by unfold Al;rw[show uw m=true from by simpa using Z];simp
  unfold rk;rw[G];exact B
 .refine aA AH (aO B HE (ei rfl) (rfl) λ_ B=>?_);have B:=B.enc (cs':=jl ({ (⟨m.bX,m.fault,m.fB,uw m,false⟩:fU)with stuck:=false}:fU)) rfl;have B:=B.p1.drop.p1.p1;have G:Al m=false:=by unfold Al;rw[gk Y];rfl
  unfold rk;rw[G];exact B
 intro _ B _;exact aE EE B.At (aH (x:=(rk m)) B.p1 EE rfl rfl λ_ B=>aE EE B.At (have B:=B.drop.drop;⟨rfl,B.aG⟩))
def C33(K:iD)(p:Nat)(m:jU)(w:World)(hm:Has (fZ K p m) w)(hw:K w)(Cd:∀w',Ext w w'->K w')(iT:xm m)(F9:m.u.cB.length<=1000)(hcz:∀l∈m.u.cB,l.length<=1000)(gG:0<=m.u.stays/\m.u.stays<=m.mem.l.length):CR 33 [(.pointer (some ⟨p,0,none⟩))] w (λv w'=>mf (bG v (DO m)) w w'):=by
 obtain⟨a,E⟩:=fZ.rd hm hw;have cm8:=E.b.cell (o:=8) rfl;have cm0:=E.b.cell (o:=0) rfl;have J:=E.b.cell (o:=1) rfl;have cm3:=E.b.cell (o:=3) rfl;have WQ:=E.b.cell (o:=9) rfl;have Ce:=E.b.cell (o:=10) rfl;have Bh:=E.b.cell (o:=11) rfl;have Jh:=E.b.cell (o:=12) rfl;have Ad:=E.b.cell (o:=13) rfl;have Cf:=E.b.cell (o:=14) rfl;have Rg:=E.b.cell (o:=15) rfl;have aCS:=E.uk.cl _ hw;have B:=St.start w;refine pG Tryz.func33 (pl:=P33) ?_;refine aD (aA wq (aA AF (bN Yf (cm8.ext B.aG) ?_)));obtain⟨V,I,M⟩:=aCS.open;have hn130:=M.1;refine aK Kj (I.ext B.aG) ?_
 have B:=B.eU (α:=Bool);refine⟨λmm o x w1=>∃k:Nat,x=iE (k:Int)/\mm=m.u.cB.length-k/\k<=m.u.cB.length/\St w bE [bG o ((m.u.cB.take k).map (v8 m))] w1,⟨_,0,rfl,rfl,ob _,B⟩,?_⟩;rintro mm mw _ w1 ⟨k,rfl,rfl,hk,B⟩ _;refine aV (aC (λlS=>⟨λo w'=>St w bE [bG o ((m.u.cB.take (k+1)).map (v8 m))] w',?_,?_⟩) λlS=>?_)
 .obtain⟨alq,T8⟩:=gx V (i:=(k:Int).toNat) cU;obtain⟨G,O⟩:=gx m.u.cB (i:=(k:Int).toNat) cU;have Y:DL w (jj alq) G:=M.2 _ _ _ T8 O;refine aW Kj I cU T8 (λ_ Rj=>aE sE (Rj.ext B.aG) ?_);have Z:=DL.flat Y;refine aD (aA wq (aA qX (have B:=B.drew;bN bL (J.ext B.aG) (cW amg B (C28 K p m _ (hm.ext B.aG) (Cd _ B.aG) (λ_ e=>Cd _ (Ext.trans B.aG e)) iT) λx21 w2 cA B=>?_))));refine⟨aF bL (J.ext B.aG),?_⟩;refine oU dZ B.fc cU cU (λabm NT=>aY amj B (C79 _ _ G (m.mem.l.take m.u.stays.toNat) _ (Z.ext B.aG) (NT _ B.fc) (by have:=hcz _ (ml O);omega)) λ_ he B=>aN rfl (aN rfl (aI (aC (λrO=>?_) λrO=>?_))))
  .refine cN (bV ([decide ((runM G (m.mem.l.take m.u.stays.toNat)).1≠0)]) B CF rfl rfl (ei rfl) λatS _ B=>?_);have I7:=B.fc;refine cK B.p2 CF I7 (by simp;omega) er (λakF _ B=>?_);have B:=B.p1.drop.p1.drop;rw[<- ig (k:=k) O];have W:v8 m G=decide ((runM G (m.mem.l.take m.u.stays.toNat)).1≠0):=by unfold v8;rw[fY rO];rfl
   rw[W];exact B
  refine bV ([false]) B CF rfl rfl (ei rfl) (λayE _ B=>?_);have U:=B.fc;refine cK B.p2 CF U (by simp;omega) er (λayF _ B=>?_);have B:=B.p1.drop.p1.drop;rw[<- ig (k:=k) O];have W:v8 m G=false:=by unfold v8;rw[gk rO];rfl
  rw[W];exact B
 .intro vA _ B _;exact aR cU ⟨_,cU,k+1,rfl,rfl,cU,B⟩
 rw[mH cU]at B;exact B.fresh
def Fj(s:ByteArray)(a:Int)(t:ByteArray):Bool:=decide (a+t.size<=s.size)&&decide (s.extract a.toNat (a+t.size).toNat=t)
def whF(p:UInt8->Bool)(s:ByteArray):Nat->Nat->Nat
 | 0,a=>a
 | n+1,a=>match (jn s)[a]? with
  | some c=>if p c=true then whF p s n (a+1)else a
  | none=>a
def yX(p:UInt8->Bool)(s:ByteArray)(a:Nat):Nat:=whF p s (s.size-a) a
section
variable {p:UInt8->Bool}{s:ByteArray}{k:Nat}{c:UInt8}
theorem NU(h:s.size<=k):yX p s k=k:=by unfold yX;simp_all[whF]
theorem su(h:(jn s)[k]?=some c):k<s.size:=by have:=(j0.1 h).1;rw[eu]at this;exact this
theorem Jz(h:(jn s)[k]?=some c)(B:p c=true):yX p s k=yX p s (k+1):=by
 have E:=su h
 unfold yX
 rw[show s.size-k=(s.size-(k+1))+1 from cU,whF,h]
 grind
theorem JA(h:(jn s)[k]?=some c)(B:p c=false):yX p s k=k:=by
 have E:=su h
 unfold yX
 rw[show s.size-k=(s.size-(k+1))+1 from cU,whF,h]
 grind
end
def v9(c:UInt8):Bool:=decide (c.toNat=32\/c.toNat=9\/c.toNat=10\/c.toNat=13)
def Am(c:UInt8):Bool:=decide (c.toNat≠10)
def ux(c:UInt8):Bool:=iq c.toNat||lf c.toNat
def yY(c:UInt8):Bool:=lf c.toNat
def l9(s:ByteArray):Nat->Nat->Option Nat
 | 0,_=>none
 | n+1,a=>match (jn s)[a]? with
  | none=>some a
  | some c=>if v9 c=true then l9 s n (a+1)else if Fj s a ⟨#[47,47]⟩=true then l9 s n (yX Am s a)else some a
theorem Uk{s:ByteArray}{n a r:Nat}(h:l9 s n a=some r):∃k,n=k+1:=by
 cases n with
 | zero=>cases h
 | succ k=>grind
section
variable {s:ByteArray}{n a r:Nat}{c:UInt8}
theorem Y3(h:l9 s (n+1) a=some r)(B:s.size<=a):r=a:=by
 unfold l9 at h;rw[o4 (by rw[eu];exact B)]at h;grind
theorem Gi(h:l9 s (n+1) a=some r)(hc:(jn s)[a]?=some c)(hb:v9 c=true):l9 s n (a+1)=some r:=by
 grind[l9]
theorem LU(h:l9 s (n+1) a=some r)(hc:(jn s)[a]?=some c)(hb:v9 c=false)(B:Fj s a ⟨#[47,47]⟩=true):l9 s n (yX Am s a)=some r:=by
 grind[l9,yX,Am]
theorem RB(h:l9 s (n+1) a=some r)(hc:(jn s)[a]?=some c)(hb:v9 c=false)(B:Fj s a ⟨#[47,47]⟩=false):r=a:=by
 unfold l9 at h;grind
theorem aec:∀(n a:Nat) (p:UInt8->Bool),a<=whF p s n a/\whF p s n a<=max a s.size
 | 0,a,p=>⟨qQ _,by unfold whF;omega⟩
 | n+1,a,p=>by
  unfold whF
  cases h:(jn s)[a]? with
  | none=>grind
  | some c=>
   dsimp only
   split
   .have:=aec n (a+1) p;have:=su h;omega
   omega
theorem Ul(p:UInt8->Bool):a<=yX p s a/\yX p s a<=max a s.size:=aec _ _ _
theorem DP:∀{n a r:Nat},l9 s n a=some r->a<=s.size->a<=r/\r<=s.size
 | 0,_,_,h,_=>by cases h
 | n+1,a,r,h,B=>by
  cases hc:(jn s)[a]? with
  | none=>unfold l9 at h;grind
  | some c=>
   have E:=su hc
   cases hb:v9 c with
   | true=>have:=DP (Gi h hc hb) cU;omega
   | false=>
    cases hr:Fj s a ⟨#[47,47]⟩with
    | true=>have h1:=Ul (s:=s) (a:=a) Am;have:=DP (LU h hc hb hr) cU;omega
    | false=>have:=RB h hc hb hr;omega
end
def GD:List ByteArray:=[⟨#[61,61]⟩,⟨#[33,61]⟩,⟨#[60,61]⟩,⟨#[38,38]⟩,⟨#[124,124]⟩]
def rV(s:ByteArray)(a:Nat)(c:UInt8):Int:=if GD.any (Fj s a)=true then 2 else if (jn (jY #[40,41,123,125,59,44,61,60,33,43,45,42,47,37])).any (λx=>decide ((x.toNat:Int)=c.toNat))=true then 1 else 0
def vt(l:List bP)(i:Int)(t:ByteArray):Bool:=decide (0<=i)&&(match l[i.toNat]? with|some x=>decide (x.text=t)&&decide (x.kind≠2)&&decide (1<=x.kind)&&decide (x.kind<=3)|none=>false)
def om(l:List bP)(i:Int):Int:=match (if 0<=i then l[i.toNat]? else none)with
 | some x=>x.at_
 | none=>match l.getLast? with
  | some x=>x.at_+x.text.size
  | none=>0
def aiB:∀t∈GD,t.size<=1000000:=er
def uy{l:List bP}{i:Int}{t:ByteArray}(h:vt l i t=true):0<=i/\i<l.length:=by
 unfold vt at h
 grind
def C283(s t:ByteArray)(i:Int)(w:World)(M:s.size<=1000000)(B:t.size<=1000000)(J:0<=i/\i<=2000000):CR 283 [.string s,iE i,.string t] w (λv w'=>v=.bool (Fj s i t)/\Ext w w'):=by
 have I:=St.start w;refine fD Tryz.func283 ?_;refine⟨λE w'=>E=.bool (Fj s i t)/\w=w',fG gL (aR cU (fG gL (kq (aC (λ_=>fG gL (aR cU (PH gL cU cU cU (kJ ⟨vb (by unfold Fj;grind),rfl⟩)))) λ_=>⟨vb (by unfold Fj;grind),rfl⟩)))),?_⟩;rintro _ _ ⟨rfl,G⟩ _;subst G;exact⟨rfl,I.aG⟩
theorem C192(s:ByteArray)(i N r:Nat)(w:World)(hz:s.size<=4000)(h0:i<=s.size)(hr:l9 s N i=some r):CR 192 [.string s,iE (i:Int)] w (λv w'=>v=iE (r:Int)/\Ext w w'):=by
 have hz0:=hz;replace hz:s.size<=1000000:=cU
 have B:=St.start w;refine fD Tryz.func192 ?_;refine⟨λO x M=>∃a:Nat,x=iE (a:Int)/\a<=s.size/\l9 s O a=some r/\St w bE [] M,⟨N,i,rfl,h0,hr,B⟩,?_⟩;rintro O _ M ⟨a,rfl,ha,J,B⟩ _;obtain⟨k,rfl⟩:=Uk J;refine fG gL (aV (aC (λlR=>?_) λlR=>?_))
 .obtain⟨W,I⟩:∃Z,(jn s)[(a:Int).toNat]?=some Z:=⟨_,l0 (by rw[eu];omega)⟩;refine kU gL cU I ⟨λjv w'=>jv=.bool (v9 W)/\M=w',oE (aC (λ_=>⟨vb (by unfold v9;first|exact(fY cU).symm|exact gv.2 cU),rfl⟩) λ_=>oE (aC (λ_=>⟨vb (by unfold v9;first|exact(fY cU).symm|exact gv.2 cU),rfl⟩) λ_=>oE (aC (λ_=>⟨vb (by unfold v9;first|exact(fY cU).symm|exact gv.2 cU),rfl⟩) λ_=>oE ⟨vb (by unfold v9;first|exact(fY cU).symm|exact gv.2 cU),rfl⟩))),?_⟩
  rintro _ _ ⟨rfl,hw⟩ _;subst hw;refine aX (λV=>?_) (λV=>aY ajM B (C283 s (jY #[47,47]) (a:Int) _ hz er cU) λ_ he B=>aX (λu9=>?_) λu9=>?_)
  .refine aR cU ?_;have hal:=su I;exact⟨k,cU,a+1,rfl,cU,Gi J I V,B⟩
  .refine⟨λO x M=>∃j:Nat,x=iE (j:Int)/\O=s.size-j/\a<=j/\j<=s.size/\yX Am s a=yX Am s j/\St w bE [] M,⟨_,a,rfl,rfl,qQ _,ha,rfl,B⟩,?_⟩;rintro O _ w4 ⟨j,rfl,rfl,haj,hj,gG,B⟩ _;refine⟨λjv w'=>jv=.bool (match (jn s)[j]? with|some c=>Am c|none=>false)/\w4=w',fG gL (aV (aC (λn7=>?_) λn7=>⟨vb (by first|(rw[show(jn s)[j]?=some sI from Y];unfold Am;exact gv.2 cU)|(rw[o4 (by rw[eu];omega)])),rfl⟩)),?_⟩
   .obtain⟨sI,Y⟩:∃Z,(jn s)[(j:Int).toNat]?=some Z:=⟨_,l0 (by rw[eu];omega)⟩;exact kU gL cU Y (abf ⟨vb (by first|(rw[show(jn s)[j]?=some sI from Y];unfold Am;exact gv.2 cU)|(rw[o4 (by rw[eu];omega)])),rfl⟩)
   rintro _ _ ⟨rfl,hw⟩ _;subst hw;refine aX (λE=>?_) (λE=>?_)
   .refine aR cU ?_
    have U:∃c,(jn s)[j]?=some c/\Am c=true:=by
     cases hc:(jn s)[j]? with
     | none=>rw[hc]at E;cases E
     | some c=>rw[hc]at E;exact⟨c,rfl,E⟩
    obtain⟨cj,GF,Y4⟩:=U;have SN:=su GF;exact⟨_,cU,j+1,rfl,rfl,cU,cU,gG.trans (Jz GF Y4),B⟩
   have aCT:yX Am s j=j:=by
    by_cases hjs:j<s.size
    .obtain⟨cj,U⟩:∃c,(jn s)[j]?=some c:=⟨_,l0 (by rw[eu];exact hjs)⟩;rw[U]at E;exact JA U E
    .exact NU cU
   have G:=LU J I V u9;rw[gG,aCT]at G;exact⟨k,cU,j,rfl,hj,G,B⟩
  have hx:=RB J I V (by exact_mod_cast u9);subst hx;exact⟨rfl,B.aG⟩
 have hx:=Y3 J cU;subst hx;exact⟨rfl,B.aG⟩
def C195(s:ByteArray)(i:Nat)(c:UInt8)(w:World)(hz:s.size<=1000000)(hc:(jn s)[i]?=some c):CR 195 [.string s,iE (i:Int)] w (λv w'=>v=iE (rV s i c)/\Ext w w'):=by
 have hi:=su hc;have B:=St.start w;refine pG Tryz.func195 (pl:=azS) ?_;refine bV GD B kN rfl rfl (ei rfl) (λW O B=>?_);refine⟨λI x O=>∃k:Nat,x=iE (k:Int)/\I=GD.length-k/\k<=GD.length/\(∀y∈GD.take k,Fj s i y=false)/\St w bE [bG W GD] O,⟨_,0,rfl,rfl,ob _,et,B⟩,?_⟩;rintro I _ _ ⟨k,rfl,rfl,hk,J,B⟩ _;refine aK kN B.fc ?_;have J4:GD.length=5:=rfl;refine aV (aC (λoG=>?_) λoG=>?_)
 .obtain⟨Y,M⟩:=gx GD (i:=(k:Int).toNat) cU;exact dN B kN cU cU (λ_ QA=>gW B ke QA M (aY ajM B (C283 s Y (i:Int) _ hz (aiB _ (ml M)) cU) λ_ _ B=>aX (λjL=>⟨gD (n5 .i64) (by unfold rV;rw[ez (tT M jL)]),B.drop.aG⟩) λjL=>aR cU ⟨_,cU,k+1,rfl,rfl,cU,fg J M jL,B⟩))
 have B:=B.drop;refine⟨λI x O=>∃j:Nat,x=iE (j:Int)/\I=(jY #[40,41,123,125,59,44,61,60,33,43,45,42,47,37]).size-j/\j<=(jY #[40,41,123,125,59,44,61,60,33,43,45,42,47,37]).size/\(∀y∈(jn (jY #[40,41,123,125,59,44,61,60,33,43,45,42,47,37])).take j,decide ((y.toNat:Int)=c.toNat)=false)/\St w bE [] O,⟨_,0,rfl,rfl,ob _,et,B⟩,?_⟩;rintro I _ _ ⟨j,rfl,rfl,hj,E,B⟩ _;refine fG gL ?_;have V9:(jY #[40,41,123,125,59,44,61,60,33,43,45,42,47,37]).size=14:=rfl;refine aV (aC (λzV=>?_) λzV=>?_)
 .obtain⟨auP,E9⟩:∃U,(jn (jY #[40,41,123,125,59,44,61,60,33,43,45,42,47,37]))[(j:Int).toNat]?=some U:=⟨_,l0 (by rw[eu];omega)⟩;refine kU gL cU E9 ?_;obtain⟨yG,vT⟩:∃U,(jn s)[(i:Int).toNat]?=some U:=⟨_,l0 (by rw[eu];omega)⟩;refine kU gL cU vT ?_;obtain rfl:=o5.inj (vT.symm.trans hc);refine oE (aC (λV=>?_) λV=>aR cU (have B:=B.drew;⟨_,cU,j+1,rfl,rfl,cU,fg E E9 (gk V),B⟩));have B:=B.drew;have G:GD.any (Fj s i)=false:=pX (by rw[mH cU]at J;exact J)
  exact⟨gD (n5 .i64) (by unfold rV;rw[ew (by rw[G];simp),ez (tT E9 (fY V))]),B.aG⟩
 have G:GD.any (Fj s i)=false:=pX (by rw[mH cU]at J;exact J);have Z:=pX (g:=λx:UInt8=>decide ((x.toNat:Int)=c.toNat)) (by rw[mH (by rw[eu];omega)]at E;exact E);exact⟨gD (n5 .i64) (by unfold rV;rw[ew (by rw[G];simp),ew (by rw[Z];simp)]),B.aG⟩
def C196(lv:Value)(l:List bP)(i:Int)(t:ByteArray)(w:World)(G:dP (λ_=>True) w lv l)(hn:l.length<=1000000):CR 196 [lv,iE i,.string t] w (λv w'=>v=.bool (vt l i t)/\Ext w w'):=by
 have E:=St.start w;refine fD Tryz.func196 ?_;refine⟨λjv w'=>jv=.bool (vt l i t)/\w=w',dC (aC (λZ=>aK gy (G.ext E.aG) (aV (aC (λoG=>?_) λoG=>⟨vb (by unfold vt;first|(rw[B];grind)|(rw[gk cU];rfl)|(rw[o4 cU];simp)),rfl⟩))) λZ=>⟨vb (by unfold vt;first|(rw[B];grind)|(rw[gk cU];rfl)|(rw[o4 cU];simp)),rfl⟩),?_⟩
 .obtain⟨I,B⟩:=gx l (i:=(i).toNat) cU;refine aW gy G cU B (λ_ Y=>cL I.text oy Y rfl rfl λ_ W=>aE ke (W.ext E.aG) (kJ (aC (λjL=>?_) λjL=>⟨vb (by unfold vt;first|(rw[B];grind)|(rw[gk cU];rfl)|(rw[o4 cU];simp)),rfl⟩)));refine aW gy G cU B (λ_ U=>?_);exact cL I.kind mA U rfl rfl (λ_ V=>aE bL (V.ext E.aG) (cN (aC (λO=>aW gy G cU B λ_ IP=>cL I.kind mA IP rfl rfl λ_ Ds=>aE bL (Ds.ext E.aG) (dC (aC (λud=>aW gy G cU B λ_ M=>cL I.kind mA M rfl rfl λ_ J=>aE bL (J.ext E.aG) (kq ⟨vb (by unfold vt;first|(rw[B];grind)|(rw[gk cU];rfl)|(rw[o4 cU];simp)),rfl⟩)) λud=>⟨vb (by unfold vt;first|(rw[B];grind)|(rw[gk cU];rfl)|(rw[o4 cU];simp)),rfl⟩))) λO=>⟨vb (by unfold vt;first|(rw[B];grind)|(rw[gk cU];rfl)|(rw[o4 cU];simp)),rfl⟩)))
 rintro _ _ ⟨rfl,hw⟩ _;subst hw;exact⟨rfl,E.aG⟩
def C201(lv:Value)(l:List bP)(i:Int)(w:World)(E:dP (λ_=>True) w lv l)(hn:l.length<=1000000)(wg:∀x∈l,0<=x.at_/\x.at_<=1000000/\x.text.size<=1000000):CR 201 [lv,iE i] w (λv w'=>v=iE (om l i)/\Ext w w'):=by
 have B:=St.start w;refine pG Tryz.func201 (pl:=azV) ?_;refine⟨λjv w'=>jv=.bool (decide (0<=i/\i<l.length))/\w=w',dC (aC (λ_=>aK gy (E.ext B.aG) (aV ⟨Hw cU,rfl⟩)) λ_=>⟨jvF cU,rfl⟩),?_⟩;rintro _ _ ⟨rfl,hw⟩ _;subst hw;refine aC (λZ=>?_) (λZ=>aK gy (E.ext B.aG) (aI (aC (λY=>?_) λY=>?_)))
 .obtain⟨yE,O⟩:=gx l (i:=(i).toNat) cU;exact aW gy E cU O (λ_ Dg=>cL yE.at_ mB Dg rfl rfl λ_ Rj=>aE bL (Rj.ext B.aG) ⟨gD (n5 .i64) (by unfold om;rw[ez cU,O]),B.aG⟩)
 .have J:l=[]:=vI.1 cU;subst J;exact⟨gD (n5 .i64) (by unfold om;split<;>simp_all),B.aG⟩
 refine aK gy (E.ext B.aG) (fO cU ?_);obtain⟨M,G⟩:=gx l (i:=((l.length:Int)-1).toNat) cU;refine aW gy E cU G (λ_ zY=>cL M.at_ mB zY rfl rfl λ_ zZ=>have B:=B.drew;aE bL (zZ.ext B.aG) (aK gy (E.ext B.aG) (fO cU (aW gy E cU G λ_ U=>cL M.text oy U rfl rfl λ_ W=>aE ke (W.ext B.aG) (fG gL ?_)))));have V:=wg _ (ml G);refine aR cU ?_;have I:l.getLast? = some M:=by rw[List.getLast?_eq_getElem?,<- G];congr 1;omega
 have eT:(if 0<=i then l[i.toNat]? else none)=none:=by split;exact o4 cU;rfl
 exact⟨gD (n5 .i64) (by unfold om;rw[eT,I]),B.aG⟩
def numOf(s:ByteArray)(a k:Nat):Int:=(((jn s).drop a).take (k-a)).foldl (λn c=>if n<=4294967296 then 10*n+((c.toNat:Int)-48)else n) 0
theorem W6(s:ByteArray)(a:Nat):numOf s a a=0:=by unfold numOf;grind
theorem Cg{s:ByteArray}{a k:Nat}{c:UInt8}(B:a<=k)(h:(jn s)[k]?=some c):numOf s a (k+1)=if numOf s a k<=4294967296 then 10*numOf s a k+((c.toNat:Int)-48)else numOf s a k:=by
 unfold numOf
 rw[show k+1-a=(k-a)+1 from cU,yC,List.getElem?_drop,show a+(k-a)=k from cU,h,Xa,Hc]
 rfl
theorem aiC{s:ByteArray}{a:Nat}:∀{k:Nat},a<=k->k<=s.size->(∀j c,a<=j->j<k->(jn s)[j]?=some c->48<=(c.toNat:Int)/\(c.toNat:Int)<=57)->0<=numOf s a k/\numOf s a k<=42949672969:=by
 intro k
 induction k with
 | zero=>
  grind[jn,numOf]
 | succ k E=>
  intro G I B
  by_cases e:a=k+1
  .subst e;rw[W6];omega
  .have:=E cU cU λj c h1 h2=>B j c h1 cU
   obtain⟨c,hc⟩:∃c,(jn s)[k]?=some c:=⟨_,l0 (by rw[eu];omega)⟩
   have h2:=B k c cU cU hc
   rw[Cg cU hc]
   omega
def nN(s:ByteArray):Nat->Nat->List bP->Option (List bP×Int×Int)
 | 0,_,_=>none
 | n+1,a,out=>match (jn s)[a]? with
  | none=>some (out,0,0)
  | some c=>
   if iq c.toNat=true then(if 16<yX ux s a-a then some ([],2,(a:Int))else(l9 s (s.size+1) (yX ux s a)).bind λB=>nN s n B (out++[⟨1,s.extract a (yX ux s a),0,a⟩]))
   else if lf c.toNat=true then(if 4294967296<numOf s a (yX yY s a)then some ([],4,(a:Int))else(l9 s (s.size+1) (yX yY s a)).bind λB=>nN s n B (out++[⟨2,s.extract a (yX yY s a),numOf s a (yX yY s a),a⟩]))
   else if rV s a c=0 then some ([],3,(a:Int))else(l9 s (s.size+1) (a+(rV s a c).toNat)).bind λB=>nN s n B (out++[⟨3,s.extract a (a+(rV s a c).toNat),0,a⟩])
def yK(s:ByteArray):Option (List bP×Int×Int):=if 4000<s.size then some ([],2,4000)else(l9 s (s.size+1) 0).bind λa=>nN s (s.size+2) a []
theorem Um{s:ByteArray}{n a:Nat}{out:List bP}{r:List bP×Int×Int}(h:nN s n a out=some r):∃k,n=k+1:=by
 cases n with
 | zero=>cases h
 | succ k=>grind
def AW(s:ByteArray)(k a:Nat)(out:List bP)(R:List bP×Int×Int)(kd:Int)(e:Nat)(n:Int):Prop:=a<e/\e<=s.size/\∃B,l9 s (s.size+1) e=some B/\nN s k B (out++[⟨kd,s.extract a e,n,a⟩])=some R
section
variable {s:ByteArray}{k a:Nat}{c:UInt8}{out:List bP}{R:List bP×Int×Int}
theorem Y5(h:nN s (k+1) a out=some R)(B:s.size<=a):R=(out,0,0):=by
 unfold nN at h;rw[o4 (by rw[eu];exact B)]at h;grind
theorem Ky(h:nN s (k+1) a out=some R)(hc:(jn s)[a]?=some c)(B:iq c.toNat=true)(hb:16<yX ux s a-a):R=([],2,(a:Int)):=by
 unfold nN at h;grind
theorem Fk{e:Nat}{kd n:Int}(h:((l9 s (s.size+1) e).bind λB=>nN s k B (out++[⟨kd,s.extract a e,n,a⟩]))=some R)(h1:a<e)(h2:e<=s.size):AW s k a out R kd e n:=by
 cases hp:l9 s (s.size+1) e with
 | none=>grind
 | some B=>grind[AW]
theorem Y6(h:nN s (k+1) a out=some R)(hc:(jn s)[a]?=some c)(E:iq c.toNat=true)(hb:¬ 16<yX ux s a-a)(B:a<yX ux s a):AW s k a out R 1 (yX ux s a) 0:=by
 unfold nN at h;rw[hc]at h;dsimp only at h;rw[ez E,ew hb]at h
 have:=su hc;have h2:=Ul (s:=s) (a:=a) ux
 exact Fk h B cU
theorem NV(h:nN s (k+1) a out=some R)(hc:(jn s)[a]?=some c)(E:iq c.toNat=false)(B:lf c.toNat=true)(hb:4294967296<numOf s a (yX yY s a)):R=([],4,(a:Int)):=by
 unfold nN at h;grind
theorem aed(h:nN s (k+1) a out=some R)(hc:(jn s)[a]?=some c)(G:iq c.toNat=false)(E:lf c.toNat=true)(hb:¬ 4294967296<numOf s a (yX yY s a))(B:a<yX yY s a):AW s k a out R 2 (yX yY s a) (numOf s a (yX yY s a)):=by
 unfold nN at h;rw[hc]at h;dsimp only at h;rw[ew dH,ez E,ew hb]at h
 have:=su hc;have h2:=Ul (s:=s) (a:=a) yY
 exact Fk h B cU
theorem Y7(h:nN s (k+1) a out=some R)(hc:(jn s)[a]?=some c)(E:iq c.toNat=false)(B:lf c.toNat=false)(hb:rV s a c=0):R=([],3,(a:Int)):=by
 unfold nN at h;grind
theorem aee(s:ByteArray)(a:Nat)(c:UInt8):rV s a c=0\/rV s a c=1\/rV s a c=2:=by
 grind[rV]
theorem W7{s:ByteArray}{a:Nat}{c:UInt8}(h:(jn s)[a]?=some c):(a:Int)+rV s a c<=s.size:=by
 have B:=su h
 unfold rV
 split
 .rename_i h2
  rw[List.any_eq_true]at h2
  obtain⟨t,ht,hb⟩:=h2
  have:t.size=2:=by
   have E:∀t∈GD,t.size=2:=er
   grind
  unfold Fj at hb
  grind
 omega
theorem Y8(h:nN s (k+1) a out=some R)(hc:(jn s)[a]?=some c)(E:iq c.toNat=false)(B:lf c.toNat=false)(hb:¬ rV s a c=0):AW s k a out R 3 (a+(rV s a c).toNat) 0:=by
 unfold nN at h;rw[hc]at h;dsimp only at h;rw[ew dH,ew dH,ew hb]at h
 have h1:=aee s a c;have h2:=W7 hc
 exact Fk h cU cU
end
theorem C100(s:ByteArray)(R:List bP×Int×Int)(w:World)(hz1:s.size<=1000000)(hr:yK s=some R):CR 100 [.string s] w (λv w'=>∃o,v=.tuple #[o,iE R.2.1,iE R.2.2]/\mf (bG o R.1) w w'):=by
 have B:=St.start w;refine agl _ _ _ ?_;unfold S100;refine fG gL (eh (aC (λkj=>?_) λkj=>?_))
 .have W:([],2,4000)=R:=by unfold yK at hr;rw[ez cU]at hr;exact o5.inj hr
  subst W;exact⟨_,rfl,B.eU.fresh⟩
 have h4:s.size<=4000:=cU
 obtain⟨a0,ha0,Sy⟩:∃a0,l9 s (s.size+1) 0=some a0/\nN s (s.size+2) a0 []=some R:=by
  unfold yK at hr;rw[ew cU]at hr;cases hq:l9 s (s.size+1) 0 with
  | none=>rw[hq]at hr;cases hr
  | some a0=>rw[hq]at hr;exact⟨a0,rfl,hr⟩
 have aCV:=DP ha0 cU;refine bV ([]:List bP) B gy rfl rfl (ei rfl) (λs_x12 _ B=>aY ajH B (C192 s 0 (s.size+1) a0 _ cU cU ha0) λ_ he B=>?_);refine⟨λmm o x w'=>∃(a:Nat) (out:List bP),x=iE (a:Int)/\a<=s.size/\out.length<=a/\nN s mm a out=some R/\St w bE [bG o out] w',⟨_,a0,[],rfl,aCV.2,ob _,Sy,B⟩,?_⟩;rintro mm BJ _ _ ⟨a,out,rfl,ha,V9,hp,B⟩ _;obtain⟨k,rfl⟩:=Um hp;refine fG gL (aV (aC (λkz=>pop (aa3 _) (aJ B agM λY9 _ B=>aH (x:=(⟨0,(jY #[]),0,(a:Int)⟩:bP)) B ajY rfl rfl λ_ B=>⟨λto w'=>∃(kd:Int) (e:Nat) (n:Int),to=iE (e:Int)/\AW s k a out R kd e n/\St w bE [bU Y9 (jl (⟨kd,jY #[],n,(a:Int)⟩:bP)),bG BJ out] w',?_,?_⟩)) λkz=>?_))
 .obtain⟨iY,jt⟩:∃xx,(jn s)[(a:Int).toNat]?=some xx:=⟨_,l0 (by rw[eu];omega)⟩;refine kU gL cU jt ?_;have G:(jn s)[a]?=some iY:=jt;refine aY VA B (C193 _ _) (λ_ he B=>aX (λji=>?_) λji=>?_)
  .have QQ:=ji;refine aA mA (aO B bL (ei rfl) (rfl) λ_ B=>?_);have B:=B.enc (cs':=jl ({ (⟨0,(jY #[]),0,(a:Int)⟩:bP)with kind:=1}:bP)) rfl;have B:=B.p1.p1;refine⟨λmm x w'=>∃j:Nat,x=iE (j:Int)/\mm=s.size-j/\a<=j/\j<=s.size/\yX ux s a=yX ux s j/\St w bE [bU Y9 (jl (⟨1,jY #[],0,(a:Int)⟩:bP)),bG BJ out] w',⟨_,a,rfl,rfl,qQ _,ha,rfl,B⟩,?_⟩;rintro mm _ _ ⟨j,rfl,rfl,O,hj,I,B⟩ _;refine⟨λjv w'=>jv=.bool (match (jn s)[j]? with|some c=>ux c|none=>false)/\St w bE [bU Y9 (jl (⟨1,jY #[],0,(a:Int)⟩:bP)),bG BJ out] w',fG gL (aV (aC (λsL=>?_) λsL=>⟨vb (by first|(rw[show(jn s)[j]?=some J from vT];show _=(iq J.toNat||lf J.toNat);rw[n7];rfl)|(rw[o4 (by rw[eu];omega)])),B⟩)),?_⟩
   .obtain⟨J,vT⟩:∃xx,(jn s)[(j:Int).toNat]?=some xx:=⟨_,l0 (by rw[eu];omega)⟩;refine kU gL cU vT ?_;have hcj0:(jn s)[j]?=some J:=vT;exact aY VA B (C193 _ _) (λ_ he B=>aX (λn7=>⟨vb (by first|(rw[show(jn s)[j]?=some J from vT];show _=(iq J.toNat||lf J.toNat);rw[n7];rfl)|(rw[o4 (by rw[eu];omega)])),B⟩) λn7=>kU gL cU vT (aY VB B (C194 _ _) λ_ he B=>⟨vb (by first|(rw[show(jn s)[j]?=some J from vT];show _=(iq J.toNat||lf J.toNat);rw[n7];rfl)|(rw[o4 (by rw[eu];omega)])),B⟩))
   rintro _ _ ⟨rfl,B⟩ _;refine aX (λY=>?_) (λY=>?_)
   .refine aR cU ?_
    have V:∃c,(jn s)[j]?=some c/\ux c=true:=by
     cases hc:(jn s)[j]? with
     | none=>rw[hc]at Y;cases Y
     | some c=>rw[hc]at Y;exact⟨c,rfl,Y⟩
    obtain⟨cj,M,Y4⟩:=V;have SN:=su M;exact⟨_,cU,j+1,rfl,rfl,cU,cU,I.trans (Jz M Y4),B⟩
   have U:yX ux s j=j:=by
    by_cases hjs:j<s.size
    .obtain⟨cj,V⟩:∃c,(jn s)[j]?=some c:=⟨_,l0 (by rw[eu];exact hjs)⟩;rw[V]at Y;exact JA V Y
    .exact NU cU
   refine fO cU (eh (aC (λWb=>?_) λWb=>?_))
   .have B:=B.drop.drop;have W:=Ky hp G QQ (by rw[I,U];omega);subst W;exact⟨_,rfl,B.eU.fresh⟩
   have B:=B.p1.p1
   have hgt:a<j:=by
    rcases P2 a j with h|h
    .exact h
    .obtain rfl:j=a:=cU
     rw[G]at Y;have h9:ux iY=false:=Y;unfold ux at h9;rw[QQ]at h9;cases h9
   have E:=Y6 hp G QQ (by rw[I,U];omega) (by rw[I,U];exact hgt);rw[I,U]at E;exact⟨1,j,0,rfl,E,B⟩
  have QQ:=ji;refine kU gL cU jt (aY VB B (C194 _ _) λ_ he B=>aX (λLI=>?_) λLI=>?_)
  .have Z7:=LI;refine aA mA (aO B bL (ei rfl) (rfl) λ_ B=>?_);have B:=B.enc (cs':=jl ({ (⟨0,(jY #[]),0,(a:Int)⟩:bP)with kind:=2}:bP)) rfl;have B:=B.p1.p1;refine⟨λmm x w'=>∃j:Nat,x=iE (j:Int)/\mm=s.size-j/\a<=j/\j<=s.size/\yX yY s a=yX yY s j/\(∀(i:Nat) (c:UInt8),a<=i->i<j->(jn s)[i]?=some c->48<=(c.toNat:Int)/\(c.toNat:Int)<=57)/\St w bE [bU Y9 (jl (⟨2,jY #[],(numOf s a j),(a:Int)⟩:bP)),bG BJ out] w',⟨_,a,rfl,rfl,qQ _,ha,rfl,λ_ _ h1 _=>absurd h1 cU,by rw[W6];exact B⟩,?_⟩;rintro mm _ _ ⟨j,rfl,rfl,O,hj,I,hdg,B⟩ _
   refine⟨λjv w'=>jv=.bool (match (jn s)[j]? with|some c=>yY c|none=>false)/\St w bE [bU Y9 (jl (⟨2,jY #[],(numOf s a j),(a:Int)⟩:bP)),bG BJ out] w',fG gL (aV (aC (λDE=>?_) λDE=>⟨vb (by first|(rw[show(jn s)[j]?=some alC from Un];rfl)|(rw[o4 (by rw[eu];omega)])),B⟩)),?_⟩
   .obtain⟨alC,Un⟩:∃xx,(jn s)[(j:Int).toNat]?=some xx:=⟨_,l0 (by rw[eu];omega)⟩;exact kU gL cU Un (aY VB B (C194 _ _) λ_ he B=>⟨vb (by first|(rw[show(jn s)[j]?=some alC from Un];rfl)|(rw[o4 (by rw[eu];omega)])),B⟩)
   rintro _ _ ⟨rfl,B⟩ _;refine aX (λZ=>?_) (λZ=>?_)
   .have V:∃c,(jn s)[j]?=some c/\yY c=true:=by
     cases hc:(jn s)[j]? with
     | none=>rw[hc]at Z;cases Z
     | some c=>rw[hc]at Z;exact⟨c,rfl,Z⟩
    obtain⟨cj,M,Y4⟩:=V;have SN:=su M;have hcd:=Y4;unfold yY lf at hcd;rw[decide_eq_true_eq]at hcd;have hnb:=aiC O cU hdg;refine⟨λw'=>St w bE [bU Y9 (jl (⟨2,jY #[],(numOf s a (j+1)),(a:Int)⟩:bP)),bG BJ out] w',aA tL (aB (v:=iE (numOf s a j)) bL B.hb rfl (kq (aC (λAc=>?_) λAc=>?_))),?_⟩
    .refine aA tL (have B:=B.drew;aB (v:=iE (numOf s a j)) bL B.hb rfl (VG cU ?_));obtain⟨awf,aeg⟩:∃xx,(jn s)[(j:Int).toNat]?=some xx:=⟨_,l0 (by rw[eu];omega)⟩;refine kU gL cU aeg ?_;obtain rfl:=o5.inj (aeg.symm.trans (show(jn s)[(j:Int).toNat]?=some cj from M));refine adR cU (YT A6 qJ cU (aR cU (aA tL (aO B bL (ei rfl) (rfl) λ_ B=>?_))));have B:=B.enc (cs':=jl ({ (⟨2,jY #[],(numOf s a j),(a:Int)⟩:bP)with n:=((10*(numOf s a j))+((awf.toNat:Int)-48))}:bP)) rfl
     have B:=B.p1.p1;rw[Cg O M,ez Ac];exact B
    .have B:=B.p1.p1;rw[Cg O M,ew Ac];exact B
    intro _ B _;refine aR cU ?_
    exact⟨_,cU,j+1,rfl,rfl,cU,cU,I.trans (Jz M Y4),λi c h1 h2 h3=>by
     by_cases e:i=j
     .subst e;obtain rfl:=o5.inj (h3.symm.trans M);omega
     .exact hdg i c h1 cU h3,B⟩
   have U:yX yY s j=j:=by
    by_cases hjs:j<s.size
    .obtain⟨cj,V⟩:∃c,(jn s)[j]?=some c:=⟨_,l0 (by rw[eu];exact hjs)⟩;rw[V]at Z;exact JA V Z
    .exact NU cU
   refine aA tL (aB (v:=iE (numOf s a j)) bL B.hb rfl (eh (aC (λJg=>?_) λJg=>?_)))
   .have B:=B.drop.drop;have W:=NV hp G QQ Z7 (by rw[I,U];omega);subst W;exact⟨_,rfl,B.eU.fresh⟩
   have B:=B.p1.p1
   have hgt:a<j:=by
    rcases P2 a j with h|h
    .exact h
    .obtain rfl:j=a:=cU
     rw[G]at Z;have h9:yY iY=false:=Z;unfold yY at h9;rw[Z7]at h9;cases h9
   have E:=aed hp G QQ Z7 (by rw[I,U];omega) (by rw[I,U];exact hgt);rw[I,U]at E;exact⟨2,j,_,rfl,E,B⟩
  have Z7:=LI;have hsb:=aee s a iY;have hsi:=W7 G;refine aA mA (aO B bL (ei rfl) (rfl) λ_ B=>have B:=B.enc (cs':=jl ({ (⟨0,(jY #[]),0,(a:Int)⟩:bP)with kind:=3}:bP)) rfl;aY ard B (C195 s a iY _ hz1 G) λ_ he B=>aR cU (aI (aC (λawg=>?_) λawg=>?_)))
  .have B:=B.drop.drop;have W:=Y7 hp G QQ Z7 cU;subst W;exact⟨_,rfl,B.eU.fresh⟩
  have B:=B.p1.p1;have E:=Y8 hp G QQ Z7 cU;exact⟨3,a+(rV s a iY).toNat,0,by congr 1;omega,E,B⟩
 .rintro _ _ ⟨kd,e,n,rfl,E,B⟩ _;have aCW:=E;obtain⟨h1e0,h2e0,_⟩:=aCW;refine PH gL cU cU cU (aA oy (aO B ke (ei rfl) (rfl) λ_ B=>have B:=B.enc (cs':=jl ({ (⟨kd,jY #[],n,(a:Int)⟩:bP)with text:=(s.extract (a:Int).toNat (e:Int).toNat)}:bP)) rfl;aE ajY B.At (bV ([(⟨kd,s.extract (a:Int).toNat (e:Int).toNat,n,(a:Int)⟩:bP)]) B gy rfl rfl (ei rfl) λaoi _ B=>?_)));have aiD:=B.fc;refine cK B.p2 gy aiD (by simp;omega) er (λaoj _ B=>?_);have B:=B.p1.drop;obtain⟨h1e,h2e,a2,Gn,hp2⟩:=E
  have aCX:=DP Gn h2e;exact aY ajH B (C192 s e (s.size+1) a2 _ cU cU Gn) (λ_ _ B=>have B:=B.p1.drop;⟨k,cU,a2,_,rfl,aCX.2,by simp;omega,hp2,B⟩)
 have W:=Y5 hp cU;subst W;exact⟨_,rfl,B.fresh⟩
structure gA where
 l:(List bY)
 to:Int
 e:Int
 at_:Int
deriving DecidableEq
structure ek where
 l:SV
 to:Int
 e:Int
 at_:Int
instance:Flat ek where
 agg:=true
 sz:=4
 enc e:=[.slice e.l.a e.l.n e.l.cap,iE e.to,iE e.e,iE e.at_]
 val e:=.agg [.slice e.l.a e.l.n e.l.cap,iE e.to,iE e.e,iE e.at_].toArray
 pos:=er
 len _:=rfl
 one a v h:=by grind[sg]
 ot _ _:=rfl
 oS h:=by cases h
instance:Deep gA ek where
 dr w s x:=∃(B:SV),s=(⟨B,x.to,x.e,x.at_⟩:ek)/\DL w (jj B) x.l
 ext h e:=by
  obtain⟨E,rfl,G⟩:=h
  exact⟨E,rfl,G.ext e⟩
def mj{w:World}{sh:ek}{x:gA}(h:n4 w sh x):DL w (jj sh.l) x.l:=by obtain⟨_,rfl,h⟩:=h;exact h
def sw(n:Int):List Int:=if n=0 then [15]else if n=1 then [14]else if n=2 then [10,11,12,13]else if n=3 then [5,6]else [7,8,9]
def Ha:List ByteArray:=[⟨#[]⟩,⟨#[]⟩,⟨#[]⟩,⟨#[45]⟩,⟨#[33]⟩,⟨#[43]⟩,⟨#[45]⟩,⟨#[42]⟩,⟨#[47]⟩,⟨#[37]⟩,⟨#[61,61]⟩,⟨#[33,61]⟩,⟨#[60]⟩,⟨#[60,61]⟩,⟨#[38,38]⟩,⟨#[124,124]⟩]
def RC(k:Int):ByteArray:=(Ha[k.toNat]?).getD ⟨#[]⟩
def il(l:List bP)(i e:Int):gA:=⟨[],0,if (l.length:Int)<=i then 6 else e,om l i⟩
abbrev awh(r:gA)(w:World):=rZ λv w'=>∃sh:ek,v=jj sh/\mf (ep λw=>n4 w sh r) w w'
def aok(l:List bP)(rec:Int->Int->Int->Option gA):Prop:=∀(lv:Value) (i d n:Int) (r:gA) (w:World),dP (λ_=>True) w lv l->rec i d n=some r->0<=i/\i<=l.length->0<=d/\d<=12->0<=n/\n<=5->
 Calls hZ 287 [lv,iE i,iE d,iE n].toArray w (awh r w)/\(n=5->Calls hZ 339 [lv,iE i,iE d].toArray w (awh r w))
structure jE(l:List bP):Prop where
 n:l.length<=5000
 at_:∀x∈l,0<=x.at_/\x.at_<=1000000/\x.text.size<=1000000
def Za(l:List bP)(i:Int):Bool:=vt l i ⟨#[33]⟩||vt l i ⟨#[45]⟩
def qn(rec:Int->Int->Int->Option gA)(l:List bP)(i d:Int):Option gA:=
 match (if (l.length:Int)<=i then none else l[i.toNat]?)with
 | none=>some (il l i 6)
 | some t=>if ((Za l i||vt l i ⟨#[40]⟩)&&decide (d=12))=true then some (il l i 7)
  else if Za l i=true then(rec (i+1) (d+1) 5).bind λx=>if x.l.length<=10000 then some (if x.e≠0 then x else {x with l:=[⟨if t.text=⟨#[45]⟩then 3 else 4,0,⟨#[]⟩,t.at_⟩]++x.l})else none
  else if vt l i ⟨#[40]⟩=true then(rec (i+1) (d+1) 0).bind λx=>some (if x.e≠0 then x else if vt l x.to ⟨#[41]⟩=true then {x with to:=x.to+1}else il l x.to 5)
  else if t.kind=2 then some ⟨[⟨1,t.n,⟨#[]⟩,t.at_⟩],i+1,0,0⟩
  else if (decide (t.kind=1)&&iu t.text)=true then some ⟨[⟨2,0,t.text,t.at_⟩],i+1,0,0⟩
  else some (il l i 5)
def JB(l:List bP)(to n:Int)(k:Nat):Int:=((sw n).take k).foldl (λop f=>if vt l to (RC f)=true then f else op) 0
def NW(l:List bP)(to n:Int):Int:=JB l to n (sw n).length
theorem LV{l:List bP}{to n:Int}{k:Nat}{f:Int}(h:(sw n)[k]?=some f):JB l to n (k+1)=if vt l to (RC f)=true then f else JB l to n k:=by
 unfold JB;rw[yC,h,Xa,Hc];rfl
def yM(rec:Int->Int->Int->Option gA)(l:List bP)(d n:Int):Nat->gA->Option gA
 | 0,_=>none
 | k+1,x=>if x.e≠0 then some x else if NW l x.to n=0 then some x else match (if 0<=x.to then l[x.to.toNat]? else none)with
  | none=>none
  | some t=>match rec (x.to+1) d (n+1)with
   | none=>none
   | some y=>if y.e≠0 then some y else if x.l.length+y.l.length<=10000 then
     (if n=2 then some ⟨[⟨NW l x.to n,0,⟨#[]⟩,t.at_⟩]++x.l++y.l,y.to,0,0⟩else yM rec l d n k ⟨[⟨NW l x.to n,0,⟨#[]⟩,t.at_⟩]++x.l++y.l,y.to,0,0⟩)else none
def LW(l:List bP):Nat->Int->Int->Int->Option gA
 | 0,_,_,_=>none
 | k+1,i,d,n=>if n=5 then qn (LW l k) l i d else(LW l k i d (n+1)).bind (yM (LW l k) l d n k)
def aeh{n:Int}{k:Nat}{f:Int}(h:(sw n)[k]?=some f):5<=f/\f<=15:=by
 have B:=ml h
 unfold sw at B
 grind
section
variable {rec:Int->Int->Int->Option gA}{l:List bP}{i d n:Int}{r x y:gA}{t:bP}{k:Nat}
theorem Uo(h:qn rec l i d=some r)(B:(l.length:Int)<=i):r=il l i 6:=by
 unfold qn at h;grind
theorem RD(h:qn rec l i d=some r)(B:¬ (l.length:Int)<=i)(ht:l[i.toNat]?=some t)(E:((Za l i||vt l i ⟨#[40]⟩)&&decide (d=12))=true):r=il l i 7:=by
 unfold qn at h;grind
theorem Zb(h:qn rec l i d=some r)(B:¬ (l.length:Int)<=i)(ht:l[i.toNat]?=some t)(G:((Za l i||vt l i ⟨#[40]⟩)&&decide (d=12))=false)(E:Za l i=true) :
  ∃x,rec (i+1) (d+1) 5=some x/\x.l.length<=10000/\r=if x.e≠0 then x else {x with l:=[⟨if t.text=⟨#[45]⟩then 3 else 4,0,⟨#[]⟩,t.at_⟩]++x.l}:=by
 unfold qn at h;rw[ew B,ht]at h;dsimp only at h;rw[ew dH,ez E]at h
 cases hr:rec (i+1) (d+1) 5 with
 | none=>grind
 | some x=>
  grind
theorem RE(h:qn rec l i d=some r)(E:¬ (l.length:Int)<=i)(ht:l[i.toNat]?=some t)(G:((Za l i||vt l i ⟨#[40]⟩)&&decide (d=12))=false)(I:Za l i=false)(B:vt l i ⟨#[40]⟩=true) :
  ∃x,rec (i+1) (d+1) 0=some x/\r=if x.e≠0 then x else if vt l x.to ⟨#[41]⟩=true then {x with to:=x.to+1}else il l x.to 5:=by
 unfold qn at h;rw[ew E,ht]at h;dsimp only at h;rw[ew dH,ew dH,ez B]at h
 cases hr:rec (i+1) (d+1) 0 with
 | none=>grind
 | some x=>grind
theorem RF(h:qn rec l i d=some r)(G:¬ (l.length:Int)<=i)(ht:l[i.toNat]?=some t)(B:((Za l i||vt l i ⟨#[40]⟩)&&decide (d=12))=false)(I:Za l i=false)(E:vt l i ⟨#[40]⟩=false) :
  r=if t.kind=2 then⟨[⟨1,t.n,⟨#[]⟩,t.at_⟩],i+1,0,0⟩else if (decide (t.kind=1)&&iu t.text)=true then⟨[⟨2,0,t.text,t.at_⟩],i+1,0,0⟩else il l i 5:=by
 unfold qn at h;grind
theorem Up(h:yM rec l d n k x=some r):∃j,k=j+1:=by
 cases k with
 | zero=>cases h
 | succ j=>grind
theorem aiE(h:yM rec l d n (k+1) x=some r)(B:x.e≠0):r=x:=by
 unfold yM at h;grind
theorem aei(h:yM rec l d n (k+1) x=some r)(E:¬ x.e≠0)(B:NW l x.to n=0):r=x:=by
 unfold yM at h;grind
theorem aej(h:yM rec l d n (k+1) x=some r)(E:¬ x.e≠0)(B:¬ NW l x.to n=0):∃t y,0<=x.to/\l[x.to.toNat]?=some t/\rec (x.to+1) d (n+1)=some y/\(y.e≠0->r=y)/\
  (¬ y.e≠0->x.l.length+y.l.length<=10000/\(n=2->r=⟨[⟨NW l x.to n,0,⟨#[]⟩,t.at_⟩]++x.l++y.l,y.to,0,0⟩)/\(¬ n=2->yM rec l d n k ⟨[⟨NW l x.to n,0,⟨#[]⟩,t.at_⟩]++x.l++y.l,y.to,0,0⟩=some r)):=by
 unfold yM at h;grind
theorem alD(h:LW l (k+1) i d 5=some r):qn (LW l k) l i d=some r:=by grind[qn,LW]
theorem awi(h:LW l (k+1) i d n=some r)(B:¬ n=5):∃x,LW l k i d (n+1)=some x/\yM (LW l k) l d n k x=some r:=by
 unfold LW at h;rw[ew B]at h
 cases hx:LW l k i d (n+1)with
 | none=>grind
 | some x=>grind
end
def yN(l:List bP)(i:Int):Option (List bY×Int×Int×Int):=if i<0 then some ([],0,1,0)else(LW l 10000 i 0 0).bind λx=>
 if x.e≠0 then some ([],0,x.e,x.at_)else match BT x.l,l[i.toNat]? with
  | some t,some k=>if x.l.length<=10000 then(if 12<t.depth then some ([],0,7,k.at_)else if 40<x.l.length then some ([],0,2,k.at_)else some (x.l,x.to,0,0))else none
  | _,_=>none
def Uq(n:Int):(sw n).length<=4:=by
 grind[sw]
def C340(n:Int)(w:World)(hn:0<=n/\n<=4):CR 340 [iE n] w (λv w'=>mf (bG v (sw n)) w w'):=by
 have B:=St.start w;refine fD Tryz.func340 ?_;refine bV ([15]:List Int) B dZ rfl rfl (ei rfl) (λZ _ B=>bV ([14]:List Int) B dZ rfl rfl (ei rfl) λV _ B=>bV ([10,11,12,13]:List Int) B dZ rfl rfl (ei rfl) λYl _ B=>bV ([5,6]:List Int) B dZ rfl rfl (ei rfl) λW _ B=>bV ([7,8,9]:List Int) B dZ rfl rfl (ei rfl) λY _ B=>?_);obtain⟨I,rfl⟩:=B.p4.fK;obtain⟨M,rfl⟩:=B.p3.fK;obtain⟨J,rfl⟩:=B.p2.fK;obtain⟨O,rfl⟩:=B.p1.fK;obtain⟨U,rfl⟩:=B.fK;refine bV ([I,M,J,O,U]) B yu rfl rfl (ei rfl) (λBb _ B=>?_)
 have B:=(((((((((((B.agX (α:=Int)).p6).p1).HX).p5).p1).HX).p4).p1).HX).p3).p1;have B:=B.HX.p2.p1.HX;obtain rfl|rfl|rfl|rfl|rfl:n=0\/n=1\/n=2\/n=3\/n=4:=cU
 .have E:=B.CU;exact dN B.p1 yu er et (λ_ G=>gW B.p1 eD G (show _=some I from rfl) (have B:=B.split;B.fresh))
 .have E:=B.CU;exact dN B.p1 yu er et (λ_ G=>gW B.p1 eD G (show _=some M from rfl) (have B:=B.split.drop.split;B.fresh))
 .have E:=B.CU;exact dN B.p1 yu er et (λ_ G=>gW B.p1 eD G (show _=some J from rfl) (have B:=B.split.drop.split.drop.split;B.fresh))
 .have E:=B.CU;exact dN B.p1 yu er et (λ_ G=>gW B.p1 eD G (show _=some O from rfl) (have B:=B.split.drop.split.drop.split.drop.split;B.fresh))
 have E:=B.CU;exact dN B.p1 yu er et (λ_ G=>gW B.p1 eD G (show _=some U from rfl) (have B:=B.split.drop.split.drop.split.drop.split.drop.split;B.fresh))
def C341(k:Int)(w:World)(O:0<=k/\k<=15):CR 341 [iE k] w (λv w'=>v=.string (RC k)/\Ext w w'):=by
 have B:=St.start w;refine fD Tryz.func341 ?_;refine bV Ha B kN rfl rfl (ei rfl) (λI _ B=>?_);have G:Ha.length=16:=rfl;obtain⟨J,E⟩:=gx Ha (i:=k.toNat) cU;refine dN B kN cU cU (λ_ M=>gW B ke M E ?_);refine⟨?_,B.drop.aG⟩;unfold RC;rw[E];rfl
def C357(lv:Value)(l:List bP)(i e:Int)(w:World)(E:dP (λ_=>True) w lv l)(G:jE l):CR 357 [lv,iE i,iE e] w (λv w'=>∃sh:ek,v=jj sh/\mf (ep λw=>n4 w sh (il l i e)) w w'):=by
 have W:=G.n;have J:l.length<=1000000:=cU
 have U:=G.at_;have B:=St.start w;refine agE _ _ _ _ _ ?_;unfold S357;refine aJ B u0 (λV I B=>have B:=B.enc (cs':=jl (⟨bO,0,0,0⟩:ek)) rfl;⟨λM w'=>M=iE (if (l.length:Int)<=i then 6 else e)/\I=w',aK gy (E.ext B.aG) (dC (aC (λ_=>⟨by rw[ez cU],rfl⟩) λ_=>⟨by rw[ew cU],rfl⟩)),?_⟩);rintro _ _ ⟨rfl,O⟩ _;subst O;exact aY KO B (C201 _ l i _ (E.ext B.aG) J U) (λ_ _ B=>pop (Ta _ _) (aH (x:=(⟨bO,0,(if (l.length:Int)<=i then 6 else e),(om l i)⟩:ek)) B gP rfl rfl λ_ B=>aE gP B.At (have B:=B.fw (Φ:=(λw=>n4 w (⟨bO,0,(if (l.length:Int)<=i then 6 else e),(om l i)⟩:ek) (⟨[],0,(if (l.length:Int)<=i then 6 else e),(om l i)⟩:gA))) (λ_=>⟨_,rfl,DL.nil _⟩);have B:=B.p1.drop;⟨_,rfl,B.fresh⟩)))
def C339(l:List bP)(rec:Int->Int->Int->Option gA)(lv:Value)(i d:Int)(r:gA)(w:World)(G:dP (λ_=>True) w lv l)(hk:jE l)(HR:aok l rec)(h0:0<=i/\i<=l.length)(hd:0<=d/\d<=12)(hr:qn rec l i d=some r):CR 339 [lv,iE i,iE d] w (λv w'=>∃sh:ek,v=jj sh/\mf (ep λw=>n4 w sh r) w w'):=by
 have G6:=hk.n;have hn:l.length<=1000000:=cU
 have wg:=hk.at_;have B:=St.start w;refine agC _ _ _ _ _ ?_;unfold S339;refine aJ B u0 (λTY _ B=>have B:=B.enc (cs':=jl (⟨bO,0,0,0⟩:ek)) rfl;aK gy (G.ext B.aG) (dC (aC (λdK=>?_) λdK=>?_)))
 .refine eC VF (C357 _ l i 6 _ (G.ext B.aG) hk) ?_;rintro _ _ ⟨aol,rfl,U⟩;have B:=B.made U;obtain⟨DV,Ur,_⟩:=B.ep;subst Ur;refine aH (x:=(⟨DV,(il l i 6).to,(il l i 6).e,(il l i 6).at_⟩:ek)) B.p1 gP rfl rfl (λ_ B=>aE gP B.At ?_);have J:r=(⟨(il l i 6).l,(il l i 6).to,(il l i 6).e,(il l i 6).at_⟩:gA):=Uo hr cU;rw[J];have B:=B.p1.cS (Ψ:=(λw=>n4 w (⟨DV,(il l i 6).to,(il l i 6).e,(il l i 6).at_⟩:ek) (⟨(il l i 6).l,(il l i 6).to,(il l i 6).e,(il l i 6).at_⟩:gA))) (λ_ h=>⟨_,rfl,mj h⟩)
  have B:=B.p1.drop;exact⟨_,rfl,B.fresh⟩
 obtain⟨t,ht⟩:=gx l (i:=i.toNat) cU;have hta:=wg t (ml ht);refine⟨λY w'=>Y=.bool (Za l i)/\St w bE [bU TY (jl (⟨bO,0,0,0⟩:ek))] w',aY yr B (C196 _ l i (jY #[33]) _ (G.ext B.aG) hn) (λ_ _ B=>aX (λjL=>⟨vb (by unfold Za;rw[jL];rfl),B⟩) λjL=>aY yr B (C196 _ l i (jY #[45]) _ (G.ext B.aG) hn) λ_ _ B=>⟨vb (by unfold Za;rw[jL];rfl),B⟩),?_⟩;rintro _ _ ⟨rfl,B⟩ _;refine aY yr B (C196 _ l i (jY #[40]) _ (G.ext B.aG) hn) (λ_ he B=>⟨λY w'=>Y=.bool ((Za l i||vt l i (jY #[40]))&&decide (d=12))/\St w bE [bU TY (jl (⟨bO,0,0,0⟩:ek))] w',aX (λI=>aI ⟨vb (by first|(rw[I];simp;done)|(rw[I,O];simp;done)|(rw[I];rfl)|(rw[I,O];rfl)),B⟩) (λI=>aX (λO=>aI ⟨vb (by first|(rw[I];simp;done)|(rw[I,O];simp;done)|(rw[I];rfl)|(rw[I,O];rfl)),B⟩) λO=>⟨vb (by first|(rw[I];simp;done)|(rw[I,O];simp;done)|(rw[I];rfl)|(rw[I,O];rfl)),B⟩),?_⟩)
 rintro _ _ ⟨rfl,B⟩ _;refine aX (λV=>?_) (λV=>aX (λI=>?_) λI=>aX (λO=>?_) λO=>?_)
 .refine eC VF (C357 _ l i 7 _ (G.ext B.aG) hk) ?_;rintro _ _ ⟨aCZ,rfl,U⟩;have B:=B.made U;obtain⟨Xc,aom,_⟩:=B.ep;subst aom;refine aH (x:=(⟨Xc,(il l i 7).to,(il l i 7).e,(il l i 7).at_⟩:ek)) B.p1 gP rfl rfl (λ_ B=>aE gP B.At ?_);have J:r=(⟨(il l i 7).l,(il l i 7).to,(il l i 7).e,(il l i 7).at_⟩:gA):=RD hr cU ht V;rw[J];have B:=B.p1.cS (Ψ:=(λw=>n4 w (⟨Xc,(il l i 7).to,(il l i 7).e,(il l i 7).at_⟩:ek) (⟨(il l i 7).l,(il l i 7).to,(il l i 7).e,(il l i 7).at_⟩:gA))) (λ_ h=>⟨_,rfl,mj h⟩)
  have B:=B.p1.drop;exact⟨_,rfl,B.fresh⟩
 .refine aR cU (aR cU ?_);have aC0:¬ d=12:=λh=>by rw[I,fY h]at V;cases V
  obtain⟨E,W,Vn,M⟩:=Zb hr cU ht V I;refine eC ajQ ((HR _ (i+1) (d+1) 5 E _ (G.ext B.aG) W cU cU cU).2 rfl) ?_;rintro _ _ ⟨aC1,rfl,U⟩;have B:=B.made U;obtain⟨Hb,aon,_⟩:=B.ep;subst aon;refine aJ B u0 (λEN _ B=>have B:=B.enc (cs':=jl (⟨bO,0,0,0⟩:ek)) rfl;aH (x:=(⟨Hb,E.to,E.e,E.at_⟩:ek)) B gP rfl rfl λZ3 B=>aA wF (aB (v:=iE E.e) kh B.hb rfl (cN (aC (λyy=>?_) λyy=>⟨λY w'=>Y=iE (if t.text=jY #[45]then 3 else 4)/\Z3=w',aW gy (G.ext B.aG) cU ht (λ_ abq=>cL t.text oy abq rfl rfl λ_ Q9=>aE ke Q9 (kJ (aC (λDE=>⟨by rw[ez DE],rfl⟩) λDE=>⟨by rw[ew DE],rfl⟩))),?_⟩))))
  .refine aE gP B.At (aH (x:=(⟨Hb,E.to,E.e,E.at_⟩:ek)) B.p2 gP rfl rfl λ_ B=>aE gP B.At ?_);have J:r=(⟨E.l,E.to,E.e,E.at_⟩:gA):=M.trans (ez yy);rw[J];have B:=B.p2.cS (Ψ:=(λw=>n4 w (⟨Hb,E.to,E.e,E.at_⟩:ek) (⟨E.l,E.to,E.e,E.at_⟩:gA))) (λ_ h=>⟨_,rfl,mj h⟩);have B:=B.p1.drop.p1.drop;exact⟨_,rfl,B.fresh⟩
  rintro _ _ ⟨rfl,hw⟩ _;subst hw;obtain⟨op,alE⟩:∃op,op=(if t.text=jY #[45]then(3:Int)else 4):=⟨_,rfl⟩;rw[<- alE];refine aW gy (G.ext B.aG) cU ht (λ_ QD=>cL t.at_ mB QD rfl rfl λ_ aek=>aE bL aek (pop (HS _ _) (bV ([(⟨op,0,(jY #[]),t.at_⟩:bY)]) B me rfl rfl (ei rfl) λs_x66 _ B=>aA tO (aB (v:=jj (Hb:SV)) l5 B.p1.hb rfl ?_))));have aoo:=(DL.flat (mj B.p2.ep));refine cK B me aoo (by simp;omega) er (λali _ B=>aA tO ?_);obtain⟨Us,rfl⟩:=B.fK;refine aO B.p1 l5 (ei rfl) (rfl) (λ_ B=>have B:=B.enc (cs':=jl (⟨Us,E.to,E.e,E.at_⟩:ek)) rfl;aE gP B.At (aH (x:=(⟨Us,E.to,E.e,E.at_⟩:ek)) B.p3 gP rfl rfl λ_ B=>aE gP B.At ?_))
  have J:r=(⟨([(⟨op,0,(jY #[]),t.at_⟩:bY)]++E.l),E.to,E.e,E.at_⟩:gA):=by rw[M,ew yy,<- alE]
  rw[J];have B:=B.p2.freeze.cS (Ψ:=(λw=>n4 w (⟨Us,E.to,E.e,E.at_⟩:ek) (⟨([(⟨op,0,(jY #[]),t.at_⟩:bY)]++E.l),E.to,E.e,E.at_⟩:gA))) (λ_ h=>⟨_,rfl,DL.fP h⟩);have B:=B.p1.drop.p1.drop.p1.drop;exact⟨_,rfl,B.fresh⟩
 .refine aR cU (aR cU ?_);have aC0:¬ d=12:=λh=>by rw[I,O,fY h]at V;cases V
  obtain⟨E,W,M⟩:=RE hr cU ht V I O;refine eC VE ((HR _ (i+1) (d+1) 0 E _ (G.ext B.aG) W cU cU cU).1) ?_;rintro _ _ ⟨aC2,rfl,U⟩;have B:=B.made U;obtain⟨AX,aop,_⟩:=B.ep;subst aop;refine aJ B u0 (λabj _ B=>have B:=B.enc (cs':=jl (⟨bO,0,0,0⟩:ek)) rfl;aH (x:=(⟨AX,E.to,E.e,E.at_⟩:ek)) B gP rfl rfl λ_ B=>aA wF (aB (v:=iE E.e) kh B.hb rfl (cN (aC (λXd=>?_) λXd=>aA pS (aB (v:=iE E.to) bL B.hb rfl (aY yr B (C196 _ l E.to (jY #[41]) _ (G.ext B.aG) hn) λ_ he B=>bJ (aX (λXe=>?_) λXe=>?_)))))))
  .refine aE gP B.At (aH (x:=(⟨AX,E.to,E.e,E.at_⟩:ek)) B.p2 gP rfl rfl λ_ B=>aE gP B.At ?_);have J:r=(⟨E.l,E.to,E.e,E.at_⟩:gA):=M.trans (ez Xd);rw[J];have B:=B.p2.cS (Ψ:=(λw=>n4 w (⟨AX,E.to,E.e,E.at_⟩:ek) (⟨E.l,E.to,E.e,E.at_⟩:gA))) (λ_ h=>⟨_,rfl,mj h⟩);have B:=B.p1.drop.p1.drop;exact⟨_,rfl,B.fresh⟩
  .refine aA pS (aB (v:=iE E.to) bL B.hb rfl (eC VF (C357 _ l E.to 5 _ (G.ext B.aG) hk) ?_));rintro _ _ ⟨aC3,rfl,U⟩;have B:=B.made U;obtain⟨Xf,aoq,_⟩:=B.ep;subst aoq;refine aH (x:=(⟨Xf,(il l E.to 5).to,(il l E.to 5).e,(il l E.to 5).at_⟩:ek)) B.p3 gP rfl rfl (λ_ B=>aE gP B.At ?_);have J:r=(⟨(il l E.to 5).l,(il l E.to 5).to,(il l E.to 5).e,(il l E.to 5).at_⟩:gA):=M.trans ((ew Xd).trans (ew (by simpa using Xe)));rw[J];have B:=B.p1.cS (Ψ:=(λw=>n4 w (⟨Xf,(il l E.to 5).to,(il l E.to 5).e,(il l E.to 5).at_⟩:ek) (⟨(il l E.to 5).l,(il l E.to 5).to,(il l E.to 5).e,(il l E.to 5).at_⟩:gA))) (λ_ h=>⟨_,rfl,mj h⟩)
   have B:=B.p1.drop.p1.drop.p1.drop;exact⟨_,rfl,B.fresh⟩
  refine aA pS (aB (v:=iE E.to) bL B.hb rfl ?_);have yt:=uy (l:=l) (i:=E.to) (t:=jY #[41]) (by simpa using Xe);refine aR cU (aA pS (aO B bL (ei rfl) (rfl) λ_ B=>have B:=B.enc (cs':=jl (⟨AX,(E.to+1),E.e,E.at_⟩:ek)) rfl;aE gP B.At (aH (x:=(⟨AX,(E.to+1),E.e,E.at_⟩:ek)) B.p2 gP rfl rfl λ_ B=>aE gP B.At ?_)));have J:r=(⟨E.l,(E.to+1),E.e,E.at_⟩:gA):=M.trans ((ew Xd).trans (ez (by simpa using Xe)));rw[J];have B:=B.p2.cS (Ψ:=(λw=>n4 w (⟨AX,(E.to+1),E.e,E.at_⟩:ek) (⟨E.l,(E.to+1),E.e,E.at_⟩:gA))) (λ_ h=>⟨_,rfl,mj h⟩)
  have B:=B.p1.drop.p1.drop;exact⟨_,rfl,B.fresh⟩
 have Z:=RF hr cU ht V I O;refine aW gy (G.ext B.aG) cU ht (λ_ aor=>cL t.kind mA aor rfl rfl λ_ aos=>aE bL aos (aI (aC (λNX=>?_) λNX=>⟨λY w'=>Y=.bool (decide (t.kind=1)&&iu t.text)/\St w bE [bU TY (jl (⟨bO,0,0,0⟩:ek))] w',aW gy (G.ext B.aG) cU ht (λ_ aot=>cL t.kind mA aot rfl rfl λ_ aou=>aE bL aou (aI (aC (λUt=>aW gy (G.ext B.aG) cU ht λ_ aov=>cL t.text oy aov rfl rfl λ_ aow=>aE ke aow (aY aaF B (C198 _ _ cU) λ_ _ B=>⟨vb (by rw[fY Ut];rfl),B⟩)) λUt=>⟨vb (by rw[gk Ut];rfl),B⟩))),?_⟩)))
 .refine aW gy (G.ext B.aG) cU ht (λ_ aox=>cL t.n tL aox rfl rfl λ_ aoy=>have B:=B.drew;aE bL aoy (aW gy (G.ext B.aG) cU ht λ_ aoz=>cL t.at_ mB aoz rfl rfl λ_ aoA=>aE bL aoA (pop (MS _ _ _) (aR cU (bV ([(⟨1,t.n,(jY #[]),t.at_⟩:bY)]) B me rfl rfl (ei rfl) λaC5 _ B=>?_)))));obtain⟨Xg,rfl⟩:=B.fK;refine pop (BQ _ _ _ _) (aH (x:=(⟨Xg,(i+1),0,0⟩:ek)) B.p1 gP rfl rfl λ_ B=>aE gP B.At ?_);have J:r=(⟨[(⟨1,t.n,(jY #[]),t.at_⟩:bY)],(i+1),0,0⟩:gA):=Z.trans (ez NX)
  rw[J];have B:=B.p1.freeze.cS (Ψ:=(λw=>n4 w (⟨Xg,(i+1),0,0⟩:ek) (⟨[(⟨1,t.n,(jY #[]),t.at_⟩:bY)],(i+1),0,0⟩:gA))) (λ_ h=>⟨_,rfl,DL.fP h⟩);have B:=B.p1.drop;exact⟨_,rfl,B.fresh⟩
 rintro _ _ ⟨rfl,B⟩ _;refine aX (λUu=>?_) (λUu=>?_)
 .refine aW gy (G.ext B.aG) cU ht (λ_ aoB=>cL t.text oy aoB rfl rfl λ_ aoC=>have B:=B.drew;aE ke aoC (aW gy (G.ext B.aG) cU ht λ_ aoD=>cL t.at_ mB aoD rfl rfl λ_ aoE=>aE bL aoE (pop (MT _ _ _) (aR cU (bV ([(⟨2,0,t.text,t.at_⟩:bY)]) B me rfl rfl (ei rfl) λaC6 _ B=>?_)))));obtain⟨Xh,rfl⟩:=B.fK;refine pop (BQ _ _ _ _) (aH (x:=(⟨Xh,(i+1),0,0⟩:ek)) B.p1 gP rfl rfl λ_ B=>aE gP B.At ?_);have J:r=(⟨[(⟨2,0,t.text,t.at_⟩:bY)],(i+1),0,0⟩:gA):=Z.trans ((ew NX).trans (ez Uu))
  rw[J];have B:=B.p1.freeze.cS (Ψ:=(λw=>n4 w (⟨Xh,(i+1),0,0⟩:ek) (⟨[(⟨2,0,t.text,t.at_⟩:bY)],(i+1),0,0⟩:gA))) (λ_ h=>⟨_,rfl,DL.fP h⟩);have B:=B.p1.drop;exact⟨_,rfl,B.fresh⟩
 refine eC VF (C357 _ l i 5 _ (G.ext B.aG) hk) ?_;rintro _ _ ⟨ayG,rfl,U⟩;have B:=B.made U;obtain⟨RH,aiG,_⟩:=B.ep;subst aiG;refine aH (x:=(⟨RH,(il l i 5).to,(il l i 5).e,(il l i 5).at_⟩:ek)) B.p1 gP rfl rfl (λ_ B=>aE gP B.At ?_);have J:r=(⟨(il l i 5).l,(il l i 5).to,(il l i 5).e,(il l i 5).at_⟩:gA):=Z.trans ((ew NX).trans (ew (by simpa using Uu)));rw[J];have B:=B.p1.cS (Ψ:=(λw=>n4 w (⟨RH,(il l i 5).to,(il l i 5).e,(il l i 5).at_⟩:ek) (⟨(il l i 5).l,(il l i 5).to,(il l i 5).e,(il l i 5).at_⟩:gA))) (λ_ h=>⟨_,rfl,mj h⟩)
 have B:=B.p1.drop;exact⟨_,rfl,B.fresh⟩
theorem ael{l:List bP}{i:Int}{R:List bY×Int×Int×Int}(h:yN l i=some R)(hi:¬ i<0):∃x,LW l 10000 i 0 0=some x/\
  (if x.e≠0 then some ([],0,x.e,x.at_)else match BT x.l,l[i.toNat]? with
  | some t,some k=>if x.l.length<=10000 then(if 12<t.depth then some ([],0,7,k.at_)else if 40<x.l.length then some ([],0,2,k.at_)else some (x.l,x.to,0,0))else none
  | _,_=>none)=some R:=by
 unfold yN at h;rw[ew hi]at h
 cases hx:LW l 10000 i 0 0 with
 | none=>grind
 | some x=>grind
theorem Uv{x:gA}{o:Option bP}{R:List bY×Int×Int×Int}(h:(match BT x.l,o with
  | some t,some k=>if x.l.length<=10000 then(if 12<t.depth then some ([],0,7,k.at_)else if 40<x.l.length then some ([],0,2,k.at_)else some (x.l,x.to,0,0))else none
  | _,_=>none)=some R):∃t k,BT x.l=some t/\o=some k/\x.l.length<=10000/\(if 12<t.depth then some ([],0,7,k.at_)else if 40<x.l.length then some ([],0,2,k.at_)else some (x.l,x.to,0,0))=some R:=by
 grind
def C287(l:List bP)(j:Nat)(lv:Value)(i d n:Int)(r:gA)(w:World)(O:dP (λ_=>True) w lv l)(hk:jE l)(HR:aok l (LW l j))(h0:0<=i/\i<=l.length)(hd:0<=d/\d<=12)(hnn:0<=n/\n<=5)(hr:LW l (j+1) i d n=some r):CR 287 [lv,iE i,iE d,iE n] w (λv w'=>∃sh:ek,v=jj sh/\mf (ep λw=>n4 w sh r) w w'):=by
 have G6:=hk.n;have hn:l.length<=1000000:=cU
 have wg:=hk.at_;have B:=St.start w;refine agA _ _ _ _ _ _ ?_;unfold S287;refine aJ B u0 (λEP _ B=>have B:=B.enc (cs':=jl (⟨bO,0,0,0⟩:ek)) rfl;aI (aC (λlS=>?_) λlS=>?_))
 .refine eC ajQ (C339 l (LW l j) _ i d r _ (O.ext B.aG) hk HR h0 hd (alD (by rw[lS]at hr;exact hr))) ?_;rintro _ _ ⟨aol,rfl,J⟩;have B:=B.made J;obtain⟨DV,Ur,_⟩:=B.ep;subst Ur;refine aH (x:=(⟨DV,r.to,r.e,r.at_⟩:ek)) B.p1 gP rfl rfl (λ_ B=>aE gP B.At ?_);have E:r=(⟨r.l,r.to,r.e,r.at_⟩:gA):=rfl;rw[E];have B:=B.p1.cS (Ψ:=(λw=>n4 w (⟨DV,r.to,r.e,r.at_⟩:ek) (⟨r.l,r.to,r.e,r.at_⟩:gA))) (λ_ h=>⟨_,rfl,mj h⟩);have B:=B.p1.drop;exact⟨_,rfl,B.fresh⟩
 obtain⟨M,hx1,aC7⟩:=awi hr lS;refine aR cU (eC VE ((HR _ i d (n+1) M _ (O.ext B.aG) hx1 h0 hd cU).1) ?_);rintro _ _ ⟨aC8,rfl,J⟩;have B:=B.made J;obtain⟨NY,aoF,_⟩:=B.ep;subst aoF;refine aJ B u0 (λEN _ B=>have B:=B.enc (cs':=jl (⟨bO,0,0,0⟩:ek)) rfl;aH (x:=(⟨NY,M.to,M.e,M.at_⟩:ek)) B gP rfl rfl λ_ B=>?_);have B:=B.p2.p2.p2.p1.cS (Ψ:=λw=>DL w (jj NY) M.l) (λ_ h=>mj h);have B:=B.p2.p1.p2;refine⟨λV w'=>∃(x:gA) (g:SV),yM (LW l j) l d n V x=some r/\St w bE [bU EN (jl (⟨g,x.to,x.e,x.at_⟩:ek)),ep (λw=>DL w (jj g) x.l),bU EP (jl (⟨bO,0,0,0⟩:ek))] w',⟨j,M,NY,aC7,B⟩,?_⟩
 rintro V _ ⟨x,g,RI,B⟩ _;obtain⟨j2,rfl⟩:=Up RI;refine aA wF (aB (v:=iE x.e) kh B.hb rfl (aI (aC (λQS=>?_) λQS=>?_)))
 .have B:=B.p2.p2.p2;refine⟨λV o kk w'=>∃k:Nat,o=iE (JB l x.to n k)/\kk=iE (k:Int)/\V=(sw n).length-k/\k<=(sw n).length/\St w bE [bU EN (jl (⟨g,x.to,x.e,x.at_⟩:ek)),ep (λw=>DL w (jj g) x.l),bU EP (jl (⟨bO,0,0,0⟩:ek))] w',⟨_,0,rfl,rfl,rfl,ob _,B⟩,?_⟩;rintro V _ _ _ ⟨k,rfl,rfl,rfl,Sp,B⟩ _;have hfl4:=Uq n;refine cW aaI B (C340 n _ cU) (λx31 _ J B=>aK dZ B.fc (aV (aC (λrO=>⟨λjv w'=>jv=iE (JB l x.to n (k+1))/\St w bE [bU EN (jl (⟨g,x.to,x.e,x.at_⟩:ek)),ep (λw=>DL w (jj g) x.l),bU EP (jl (⟨bO,0,0,0⟩:ek))] w',?_,?_⟩) λrO=>?_)))
  .refine aA pS (have B:=B.drew;aB (v:=iE x.to) bL B.p1.hb rfl (cW aaI B (C340 n _ cU) λx40 _ J B=>?_));refine⟨aF bL (B.p2.hb.cell rfl),?_⟩;obtain⟨Y,U⟩:=gx (sw n) (i:=(k:Int).toNat) cU;refine dN B dZ cU cU (λ_ awk=>gW B bL awk U ?_);have hfb:=aeh U;refine aY ar1 B (C341 Y _ cU) (λ_ he B=>?_);refine⟨aF bL (B.p2.hb.cell rfl),?_⟩;exact aY yr B (C196 _ l x.to (RC Y) _ (O.ext B.aG) hn) (λ_ _ B=>aX (λpy=>cW aaI B (C340 n _ cU) λ_ _ _ B=>dN B dZ cU cU λ_ Q8=>gW B bL Q8 U (have B:=B.drop.drop.drop.p2.p2.p2;⟨by rw[LV (k:=k) U,ez py]<;>rfl,B⟩)) λpy=>have B:=B.drop.drop.p2.p2.p2;⟨by rw[LV (k:=k) U,ew (by simpa using py)]<;>rfl,B⟩)
  .rintro _ _ ⟨rfl,B⟩ _;exact aR cU ⟨_,cU,k+1,rfl,rfl,rfl,cU,B⟩
  have ld:JB l x.to n k=NW l x.to n:=by unfold NW;rw[show k=(sw n).length from cU]
  refine aI (aC (λDW=>?_) λDW=>?_)
  .refine aE gP B.p1.At (aH (x:=(⟨g,x.to,x.e,x.at_⟩:ek)) B.p3 gP rfl rfl λ_ B=>aE gP B.At ?_);have E:r=(⟨x.l,x.to,x.e,x.at_⟩:gA):=aei (x:=x) RI cU (by rw[<- ld];exact DW);rw[E];have B:=B.p3.cS (Ψ:=(λw=>n4 w (⟨g,x.to,x.e,x.at_⟩:ek) (⟨x.l,x.to,x.e,x.at_⟩:gA))) (λ_ h=>⟨_,rfl,id h⟩);have B:=B.p1.drop.p1.drop.p1.drop;exact⟨_,rfl,B.fresh⟩
  obtain⟨t,y,h0t,ht,hy,hye,I⟩:=aej RI cU (by rw[<- ld];exact DW);have J4:=(j0.1 ht).1;refine aA pS (aB (v:=iE x.to) bL B.p1.hb rfl (aR cU (aR cU (eC VE ((HR _ (x.to+1) d (n+1) y _ (O.ext B.aG) hy cU hd cU).1) ?_))));rintro _ _ ⟨aDa,rfl,J⟩;have B:=B.made J;obtain⟨Z,aoG,_⟩:=B.ep;subst aoG;refine aJ B u0 (λb_y12 _ B=>have B:=B.enc (cs':=jl (⟨bO,0,0,0⟩:ek)) rfl;aH (x:=(⟨Z,y.to,y.e,y.at_⟩:ek)) B gP rfl rfl λ_ B=>aA wF (aB (v:=iE y.e) kh B.hb rfl (cN (aC (λyL=>?_) λyL=>?_))))
  .refine aE gP B.At (aH (x:=(⟨Z,y.to,y.e,y.at_⟩:ek)) B.p5 gP rfl rfl λ_ B=>aE gP B.At ?_);have E:r=(⟨y.l,y.to,y.e,y.at_⟩:gA):=hye yL;rw[E];have B:=B.p2.cS (Ψ:=(λw=>n4 w (⟨Z,y.to,y.e,y.at_⟩:ek) (⟨y.l,y.to,y.e,y.at_⟩:gA))) (λ_ h=>⟨_,rfl,mj h⟩);have B:=B.p1.drop.p1.drop.p1.drop.p1.drop.p1.drop;exact⟨_,rfl,B.fresh⟩
  refine aA pS (aB (v:=iE x.to) bL B.p3.hb rfl (aW gy (O.ext B.aG) cU ht λ_ acd=>cL t.at_ mB acd rfl rfl λ_ awl=>aE bL awl (pop (HS _ _) (bV ([(⟨(JB l x.to n k),0,(jY #[]),t.at_⟩:bY)]) B me rfl rfl (ei rfl) λawm _ B=>aA tO (aB (v:=jj (g:SV)) l5 B.p4.hb rfl ?_)))));have Sw:=(I cU).1;have aoH:=(DL.flat (id B.p5.ep));refine cK B me aoH (by simp;omega) er (λatH _ B=>aA tO (aB (v:=jj (Z:SV)) l5 B.p1.hb rfl ?_));have aoI:=(DL.flat (mj B.p2.ep))
  refine cK B me aoI (by simp;omega) er (λs_x82 _ B=>aA pS (aB (v:=iE y.to) bL B.p1.hb rfl ?_));obtain⟨W,rfl⟩:=B.fK;refine pop (BQ _ _ _ _) (aH (x:=(⟨W,y.to,0,0⟩:ek)) B.p4 gP rfl rfl λ_ B=>aI (aC (λG=>?_) λG=>?_))
  .refine aE gP B.At (aH (x:=(⟨W,y.to,0,0⟩:ek)) B.p6 gP rfl rfl λ_ B=>aE gP B.At ?_);have E:r=(⟨(([(⟨(JB l x.to n k),0,(jY #[]),t.at_⟩:bY)]++x.l)++y.l),y.to,0,0⟩:gA):=((I cU).2.1 G).trans (by rw[<- ld]);rw[E];have B:=B.p2.freeze.cS (Ψ:=(λw=>n4 w (⟨W,y.to,0,0⟩:ek) (⟨(([(⟨(JB l x.to n k),0,(jY #[]),t.at_⟩:bY)]++x.l)++y.l),y.to,0,0⟩:gA))) (λ_ h=>⟨_,rfl,DL.fP h⟩);have B:=B.p1.drop.p1.drop.p1.drop.p1.drop.p1.drop.p1.drop;exact⟨_,rfl,B.fresh⟩
  have B:=B.p1.freeze.cS (Ψ:=λw=>DL w (jj W) ([(⟨JB l x.to n k,0,jY #[],t.at_⟩:bY)]++x.l++y.l)) (λ_ h=>DL.fP h);have B:=B.p2.drop.p2.drop.p2.drop.p2.drop.p2.p1.p2;have yI:=(I cU).2.2 G;rw[<- ld]at yI;exact⟨_,cU,⟨_,_,_,_⟩,W,yI,B⟩
 refine aE gP B.At (aH (x:=(⟨g,x.to,x.e,x.at_⟩:ek)) B.p2 gP rfl rfl λ_ B=>aE gP B.At ?_);have E:r=(⟨x.l,x.to,x.e,x.at_⟩:gA):=aiE (x:=x) RI cU;rw[E];have B:=B.p2.cS (Ψ:=(λw=>n4 w (⟨g,x.to,x.e,x.at_⟩:ek) (⟨x.l,x.to,x.e,x.at_⟩:gA))) (λ_ h=>⟨_,rfl,id h⟩);have B:=B.p1.drop.p1.drop;exact⟨_,rfl,B.fresh⟩
theorem aoJ{l:List bP}(E:jE l):∀j,aok l (LW l j)
 | 0=>λlv i d n r w G B=>by cases B
 | j+1=>λlv i d n r w G B I J M=>⟨C287 l j lv i d n r w G E (aoJ E j) I J M B,λh5=>by subst h5;exact C339 l (LW l j) lv i d r w G E (aoJ E j) I J (alD B)⟩
def C200(l:List bP)(lv:Value)(i:Int)(R:List bY×Int×Int×Int)(w:World)(V:dP (λ_=>True) w lv l)(Z:jE l)(hil:i<=l.length)(O:yN l i=some R):CR 200 [lv,iE i] w (λv w'=>∃sv:SV,v=.tuple #[jj sv,iE R.2.1,iE R.2.2.1,iE R.2.2.2]/\mf (ep λw=>DL w (jj sv) R.1) w w'):=by
 have G6:=Z.n;have hn:l.length<=1000000:=cU
 have wg:=Z.at_;have B:=St.start w;refine pG Tryz.func200 (pl:=azU) ?_;refine aV (aC (λiQ=>?_) λiQ=>?_)
 .have G:R=([],0,1,0):=by
   unfold yN at O;rw[ez iQ]at O;exact(o5.inj O).symm
  rw[G];exact⟨bO,rfl,(B.fw (Φ:=λw=>DL w (jj (bO:SV)) ([]:List bY)) λw=>DL.nil w).fresh⟩
 obtain⟨x,hx,M⟩:=ael O cU;refine eC VE ((aoJ Z 10000 _ i 0 0 x _ (V.ext B.aG) hx cU cU cU).1) ?_;rintro _ _ ⟨aDb,rfl,cA⟩;have B:=B.made cA;obtain⟨I,aoK,_⟩:=B.ep;subst aoK;refine aJ B u0 (λEP _ B=>have B:=B.enc (cs':=jl (⟨bO,0,0,0⟩:ek)) rfl;aH (x:=(⟨I,x.to,x.e,x.at_⟩:ek)) B gP rfl rfl λ_ B=>aA wF (aB (v:=iE x.e) kh B.hb rfl (cN (aC (λdK=>?_) λdK=>?_))))
 .refine aA wF (have B:=B.drew;aB (v:=iE x.e) kh B.hb rfl (aA aa0 (aB (v:=iE x.at_) bL B.hb rfl ?_)))
  have G:R=([],0,x.e,x.at_):=by
   rw[ez dK]at M;exact(o5.inj M).symm
  rw[G];exact⟨bO,rfl,(B.fw (Φ:=λw=>DL w (jj (bO:SV)) ([]:List bY)) λw=>DL.nil w).fresh⟩
 rw[ew dK]at M;obtain⟨W,J,htr,Y,Vn,E⟩:=Uv M;have htki:=(j0.1 Y).1;obtain⟨hwf,J3⟩:=xM htr;have hAt:Lg x.l 0 W:=⟨cU,hwf,[],by simpa using J3⟩;refine aA tO (aB (v:=jj (I:SV)) l5 B.hb rfl (aY ajO B (C288 _ x.l 0 W (W.size+1) _ (DL.flat (mj B.p1.ep)) cU hAt cU) λ_ he B=>eh (aC (λU=>?_) λU=>aA tO (aB (v:=jj (I:SV)) l5 B.hb rfl (aK me (DL.flat (mj B.p1.ep)) (eh (aC (λrO=>?_) λrO=>?_)))))))
 .refine aW gy (V.ext B.aG) cU Y (λ_ Q0=>cL J.at_ mB Q0 rfl rfl λ_ Jm=>have B:=B.drew;aE bL Jm ?_)
  have G:R=([],0,7,J.at_):=by
   rw[ez U]at E;exact(o5.inj E).symm
  rw[G];exact⟨bO,rfl,(B.fw (Φ:=λw=>DL w (jj (bO:SV)) ([]:List bY)) λw=>DL.nil w).fresh⟩
 .refine aW gy (V.ext B.aG) cU Y (λ_ Ds=>cL J.at_ mB Ds rfl rfl λ_ Iv=>have B:=B.drew;aE bL Iv ?_)
  have G:R=([],0,2,J.at_):=by
   rw[ew U,ez cU]at E;exact(o5.inj E).symm
  rw[G];exact⟨bO,rfl,(B.fw (Φ:=λw=>DL w (jj (bO:SV)) ([]:List bY)) λw=>DL.nil w).fresh⟩
 refine aA tO (have B:=B.drew;aB (v:=jj (I:SV)) l5 B.hb rfl (aA pS (aB (v:=iE x.to) bL B.hb rfl ?_)));have B:=B.p1.cS (Ψ:=λw=>DL w (jj I) x.l) (λ_ h=>mj h)
 have G:R=(x.l,x.to,0,0):=by
  rw[ew U,ew cU]at E;exact(o5.inj E).symm
 rw[G];exact⟨I,rfl,B.fresh⟩
structure gF where
 at_:Int
 e:Int
 pos:Int
deriving DecidableEq
def jV(l:List bP)(s:gF)(e:Int):gF:=if s.e=0 then {s with e:=if (l.length:Int)<=s.at_ then 6 else e,pos:=om l s.at_}else s
def eg(l:List bP)(s:gF)(t:ByteArray):gF:=if (decide (s.e=0)&&vt l s.at_ t)=true then {s with at_:=s.at_+1}else jV l s 5
def mJ(l:List bP)(i:Int):Option bP:=if 0<=i then l[i.toNat]? else none
def vu(l:List bP)(s:gF):Bool:=decide (s.e=0)&&(match mJ l s.at_ with|some t=>decide (t.kind=1)&&iu t.text|none=>false)
def qD(l:List bP)(i:Int):bP:=(mJ l i).getD ⟨0,⟨#[]⟩,0,0⟩
def cX(l:List bP)(s:gF):gF×ByteArray:=if vu l s=true then({s with at_:=s.at_+1},(qD l s.at_).text)else(jV l s 5,⟨#[]⟩)
def sM(l:List bP)(s:gF):Option (gF×List bY):=if s.e≠0 then some (s,[])else(yN l s.at_).bind λR=>
 if R.2.2.1≠0 then some ({s with e:=R.2.2.1,pos:=R.2.2.2},[])else if 0<=R.2.1/\R.2.1<=l.length then some ({s with at_:=R.2.1},R.1)else none
def Uw(l:List bP)(s:gF):Bool:=decide (s.e=0)&&(match mJ l s.at_ with|some t=>decide (t.kind=2)|none=>false)
def lZ(l:List bP)(s:gF):gF×Int:=if Uw l s=true then(if 1<=(qD l s.at_).n/\(qD l s.at_).n<=8 then({s with at_:=s.at_+1},(qD l s.at_).n)else(jV l s 11,0))else(jV l s 5,0)
def Hd:List ByteArray:=[⟨#[]⟩,⟨#[]⟩,⟨#[108,111,97,100]⟩,⟨#[115,116,111,114,101]⟩,⟨#[99,97,115]⟩,⟨#[102,108,117,115,104]⟩,⟨#[111,112,116]⟩,⟨#[115,102,101,110,99,101]⟩,⟨#[109,102,101,110,99,101]⟩,⟨#[116,97,107,101]⟩,⟨#[103,105,118,101]⟩,⟨#[105,102]⟩,⟨#[108,111,111,112]⟩,⟨#[98,114,101,97,107]⟩,⟨#[99,104,101,99,107]⟩]
def LX(k:Int):ByteArray:=(Hd[k.toNat]?).getD ⟨#[]⟩
def mq(l:List bP)(s:gF):Prop:=0<=s.at_/\s.at_<=l.length
section
variable {l:List bP}{s:gF}{e:Int}{t:ByteArray}
theorem vv(h:mq l s):mq l (jV l s e):=by unfold jV;split<;>exact h
theorem gq(h:mq l s):mq l (eg l s t):=by
 unfold eg;split
 .rename_i h2
  rw[n3]at h2
  have:=uy h2.2
  exact⟨dH,dH⟩
 exact vv h
theorem nO{i:Int}{k:bP}(h:mJ l i=some k):0<=i/\i<l.length/\l[i.toNat]?=some k:=by
 unfold mJ at h
 grind
theorem DX(h:vu l s=true):s.e=0/\∃k,mJ l s.at_=some k/\k.kind=1/\iu k.text=true:=by
 unfold vu at h
 grind
theorem Xi(h:Uw l s=true):s.e=0/\∃k,mJ l s.at_=some k/\k.kind=2:=by
 unfold Uw at h
 grind
theorem iB(h:mq l s):mq l (cX l s).1:=by
 unfold cX;split
 .rename_i h2
  obtain⟨_,k,B,_⟩:=DX h2
  have:=nO B
  exact⟨dH,dH⟩
 exact vv h
theorem Zc(h:mq l s):mq l (lZ l s).1:=by
 unfold lZ;split
 .rename_i h2
  obtain⟨_,k,B,_⟩:=Xi h2
  have:=nO B
  split
  .exact⟨dH,dH⟩
  exact vv h
 exact vv h
theorem uA{s':gF}{x:List bY}(h:mq l s)(B:sM l s=some (s',x)):mq l s':=by
 unfold sM at B
 split at B
 .grind
 cases hx:yN l s.at_ with
 | none=>grind
 | some R=>
  grind[mq]
end
@[reducible] def eG(lv ov:Value)(s:gF):List Value:=[lv,.int .i64 s.at_,.int .i64 s.e,.int .i64 s.pos,ov]
@[reducible] def eH(lv:Value)(s:gF):List Value:=[lv,.int .i64 s.at_,.int .i64 s.e,.int .i64 s.pos]
def iW(l:List bP)(s:gF)(t:ByteArray):gF×Bool:=if (decide (s.e=0)&&vt l s.at_ t)=true then({s with at_:=s.at_+1},true)else(s,false)
def fp(l:List bP)(s:gF):gF×cG:=if vu l s=true then({s with at_:=s.at_+1},⟨(qD l s.at_).text,0,(qD l s.at_).at_⟩)else(jV l s 5,⟨⟨#[]⟩,0,0⟩)
def lh{l:List bP}{s:gF}{t:ByteArray}(h:mq l s):mq l (iW l s t).1:=by
 unfold iW;split
 .rename_i h2
  rw[n3]at h2
  have:=uy h2.2
  exact⟨dH,dH⟩
 exact h
def xw{l:List bP}{s:gF}(h:mq l s):mq l (fp l s).1:=by
 unfold fp;split
 .rename_i h2
  obtain⟨_,k,B,_⟩:=DX h2
  have:=nO B
  exact⟨dH,dH⟩
 exact vv h
theorem aeo{l:List bP}{s B:gF}{x:List bY}(h:sM l s=some (B,x))(E:¬ s.e≠0):∃R,yN l s.at_=some R/\
  (if R.2.2.1≠0 then some ({s with e:=R.2.2.1,pos:=R.2.2.2},[])else if 0<=R.2.1/\R.2.1<=l.length then some ({s with at_:=R.2.1},R.1)else none)=some (B,x):=by
 unfold sM at h;rw[ew E]at h
 cases hx:yN l s.at_ with
 | none=>grind
 | some R=>grind
def aep{l:List bP}{s B:gF}{x:List bY}{R:List bY×Int×Int×Int}(h:(if R.2.2.1≠0 then some ({s with e:=R.2.2.1,pos:=R.2.2.2},[])else if 0<=R.2.1/\R.2.1<=l.length then some ({s with at_:=R.2.1},R.1)else none)=some (B,x))(E:¬ R.2.2.1≠0):0<=R.2.1/\R.2.1<=l.length:=by
 grind
def C336(p:Nat)(lv ov:Value)(l:List bP)(s:gF)(e:Int)(F:Nat->Prop)(w:World)(Y:(bU p (eG lv ov s)).p w F)(G:∀w',gZ F w w'->dP (λ_=>True) w' lv l)(M:jE l)(Z:mq l s):CR 336 [(.pointer (some ⟨p,0,none⟩)),iE e] w (λv w'=>v=.tuple #[]/\ng F (bU p (eG lv ov (jV l s e))) w w'):=by
 have B:=St.begin Y;have G6:=M.n;have J:l.length<=1000000:=cU
 have O:=M.at_;obtain⟨Xj,Xk⟩:=id Z;refine pG Tryz.func336 (pl:=az3) ?_;refine aD (aA lQ (aB kh B.hb rfl (aI (aC (λE=>aD (aA lQ (aO B kh (ei rfl) (rfl) λ_ B=>⟨_,aD (aA fo (have B:=B.drew;aB bL B.hb rfl (aD (aA iX (aB jI B.hb rfl (aK gy (G _ B.aG) (dC (aC (λI=>?_) λI=>?_)))))))),λ_ h=>h⟩))) λE=>?_))))
 .refine aD (aA lQ (aO B kh (ei rfl) (rfl) λ_ B=>?_));intro W;refine aD (aA iX (have B:=B.drew;aB jI B.hb rfl (aD (aA fo (aB bL B.hb rfl (aY KO B (C201 _ l s.at_ _ (G _ B.aG) J O) λU he B=>aD (aA CP (aO B bL (ei rfl) (rfl) λV B=>?_))))))));have hb:jV l s e=(⟨s.at_,6,(om l s.at_)⟩:gF):=by unfold jV;rw[ez E,ez I]
  rw[hb];exact⟨rfl,B.mut⟩
 .intro W;refine aD (aA iX (have B:=B.drew;aB jI B.hb rfl (aD (aA fo (aB bL B.hb rfl (aY KO B (C201 _ l s.at_ _ (G _ B.aG) J O) λU he B=>aD (aA CP (aO B bL (ei rfl) (rfl) λV B=>?_))))))));have hb:jV l s e=(⟨s.at_,e,(om l s.at_)⟩:gF):=by unfold jV;rw[ez E,ew I]
  rw[hb];exact⟨rfl,B.mut⟩
 have hb:jV l s e=s:=by unfold jV;rw[ew E]
 rw[hb];exact⟨rfl,B.mut⟩
def C106(p:Nat)(lv:Value)(l:List bP)(s:gF)(F:Nat->Prop)(w:World)(Y:(bU p (eH lv s)).p w F)(G:∀w',gZ F w w'->dP (λ_=>True) w' lv l)(M:jE l)(Z:mq l s):CR 106 [(.pointer (some ⟨p,0,none⟩))] w (λv w'=>v=.tuple #[]/\ng F (bU p (eH lv (jV l s 5))) w w'):=by
 have B:=St.begin Y;have G6:=M.n;have J:l.length<=1000000:=cU
 have O:=M.at_;obtain⟨Xj,Xk⟩:=id Z;refine pG Tryz.func106 (pl:=azv) ?_;refine aD (aA nn (aB kh B.hb rfl (aI (aC (λE=>aD (aA nn (aO B kh (ei rfl) (rfl) λ_ B=>⟨_,aD (aA fS (have B:=B.drew;aB bL B.hb rfl (aD (aA kR (aB jI B.hb rfl (aK gy (G _ B.aG) (dC (aC (λI=>?_) λI=>?_)))))))),λ_ h=>h⟩))) λE=>?_))))
 .refine aD (aA nn (aO B kh (ei rfl) (rfl) λ_ B=>?_));intro W;refine aD (aA kR (have B:=B.drew;aB jI B.hb rfl (aD (aA fS (aB bL B.hb rfl (aY KO B (C201 _ l s.at_ _ (G _ B.aG) J O) λU he B=>aD (aA zu (aO B bL (ei rfl) (rfl) λV B=>?_))))))));have hb:jV l s 5=(⟨s.at_,6,(om l s.at_)⟩:gF):=by unfold jV;rw[ez E,ez I]
  rw[hb];exact⟨rfl,B.mut⟩
 .intro W;refine aD (aA kR (have B:=B.drew;aB jI B.hb rfl (aD (aA fS (aB bL B.hb rfl (aY KO B (C201 _ l s.at_ _ (G _ B.aG) J O) λU he B=>aD (aA zu (aO B bL (ei rfl) (rfl) λV B=>?_))))))));have hb:jV l s 5=(⟨s.at_,5,(om l s.at_)⟩:gF):=by unfold jV;rw[ez E,ew I]
  rw[hb];exact⟨rfl,B.mut⟩
 have hb:jV l s 5=s:=by unfold jV;rw[ew E]
 rw[hb];exact⟨rfl,B.mut⟩
def C286(p:Nat)(lv ov:Value)(l:List bP)(s:gF)(t:ByteArray)(F:Nat->Prop)(w:World)(V:(bU p (eG lv ov s)).p w F)(J:∀w',gZ F w w'->dP (λ_=>True) w' lv l)(I:jE l)(M:mq l s):CR 286 [(.pointer (some ⟨p,0,none⟩)),.string t] w (λv w'=>v=.tuple #[]/\ng F (bU p (eG lv ov (eg l s t))) w w'):=by
 have B:=St.begin V;have G6:=I.n;have U:l.length<=1000000:=cU
 have wg:=I.at_;obtain⟨Xj,Xk⟩:=id M;refine pG Tryz.func286 (pl:=az1) ?_;refine⟨λZ w'=>Z=.bool (decide (s.e=0)&&vt l s.at_ t)/\St w F [bU p (eG lv ov s)] w',aD (aA lQ (have B:=B.drew;aB kh B.hb rfl (aI (aC (λG=>aD (aA iX (aB jI B.hb rfl (aD (aA fo (aB bL B.hb rfl (aY yr B (C196 _ l s.at_ t _ (J _ B.aG) U) λ_ _ B=>⟨vb (by first|(rw[fY G];rfl)|(rw[gk G];rfl)),B⟩))))))) λG=>⟨vb (by first|(rw[fY G];rfl)|(rw[gk G];rfl)),B⟩)))),?_⟩;rintro _ _ ⟨rfl,B⟩ _;refine aX (λE=>?_) (λE=>?_)
 .have W:=uy (by rw[n3]at E;exact E.2);refine aD (aA fo (aB bL B.hb rfl (aR cU (aD (aA fo (aO B bL (ei rfl) (rfl) λ_ B=>?_))))));have hb:eg l s t={s with at_:=s.at_+1}:=by unfold eg;rw[ez (by simpa using E)]
  rw[hb];exact⟨rfl,B.mut⟩
 refine aT KR B (H':=λ_=>bU p (eG lv ov (jV l s 5))) (Φ:=λ_ _=>True) (λF2 O Y=>?_) ?_
 .exact(C336 p lv ov l s 5 F2 _ O (λw' hc=>J w' (Y w' hc).aG) I M).mono λ_ _ r=>r.mono λ_ _ h=>⟨trivial,h.2⟩
 rintro _ _ _ B;have hb:eg l s t=jV l s 5:=by unfold eg;rw[ew (by simpa using E)]
 rw[hb];exact⟨rfl,B.mut⟩
def C101(p:Nat)(lv:Value)(l:List bP)(s:gF)(t:ByteArray)(F:Nat->Prop)(w:World)(O:(bU p (eH lv s)).p w F)(J:∀w',gZ F w w'->dP (λ_=>True) w' lv l)(I:jE l)(V:mq l s):CR 101 [(.pointer (some ⟨p,0,none⟩)),.string t] w (λv w'=>v=.bool (iW l s t).2/\ng F (bU p (eH lv (iW l s t).1)) w w'):=by
 have B:=St.begin O;have Y:=I.n;have M:l.length<=1000000:=cU
 have wg:=I.at_;obtain⟨Z,Xk⟩:=id V;refine pG Tryz.func101 (pl:=azq) ?_;refine⟨λW w'=>W=.bool (decide (s.e=0)&&vt l s.at_ t)/\St w F [bU p (eH lv s)] w',aD (aA nn (have B:=B.drew;aB kh B.hb rfl (aI (aC (λE=>aD (aA kR (aB jI B.hb rfl (aD (aA fS (aB bL B.hb rfl (aY yr B (C196 _ l s.at_ t _ (J _ B.aG) M) λ_ _ B=>⟨vb (by first|(rw[fY E];rfl)|(rw[gk E];rfl)),B⟩))))))) λE=>⟨vb (by first|(rw[fY E];rfl)|(rw[gk E];rfl)),B⟩)))),?_⟩;rintro _ _ ⟨rfl,B⟩ _;refine aX (λG=>?_) (λG=>?_)
 .have U:=uy (by rw[n3]at G;exact G.2);refine aD (aA fS (aB bL B.hb rfl (aR cU (aD (aA fS (aO B bL (ei rfl) (rfl) λ_ B=>?_))))));have hb:iW l s t=({s with at_:=s.at_+1},true):=by unfold iW;rw[ez (by simpa using G)]
  rw[hb];exact⟨rfl,B.mut⟩
 have hb:iW l s t=(s,false):=by unfold iW;rw[ew (by simpa using G)]
 rw[hb];exact⟨rfl,B.mut⟩
def C197(p:Nat)(lv:Value)(l:List bP)(s:gF)(t:ByteArray)(F:Nat->Prop)(w:World)(Y:(bU p (eH lv s)).p w F)(W:∀w',gZ F w w'->dP (λ_=>True) w' lv l)(G:jE l)(M:mq l s):CR 197 [(.pointer (some ⟨p,0,none⟩)),.string t] w (λv w'=>v=.tuple #[]/\ng F (bU p (eH lv (eg l s t))) w w'):=by
 have E:=St.begin Y;have Z:=G.n;have hn:l.length<=1000000:=cU
 have wg:=G.at_;obtain⟨Xj,Xk⟩:=id M;refine fD Tryz.func197 ?_;refine aT Bm E (H':=λ_=>bU p (eH lv (iW l s t).1)) (Φ:=λv _=>v=.bool (iW l s t).2) (λV J U=>?_) ?_
 .exact C101 p lv l s t V _ J (λw' hc=>W w' (U w' hc).aG) G M
 rintro _ w1 rfl E;refine bJ (aX (λI=>?_) λI=>?_)
 .refine aT Vt E (H':=λ_=>bU p (eH lv (jV l (iW l s t).1 5))) (Φ:=λ_ _=>True) (λV J U=>?_) ?_
  .exact(C106 p lv l (iW l s t).1 V _ J (λw' hc=>W w' (U w' hc).aG) G (lh M)).mono λ_ _ r=>r.mono λ_ _ h=>⟨trivial,h.2⟩
  rintro _ w2 _ E
  have O:eg l s t=jV l (iW l s t).1 5:=by
   have B:(iW l s t).2=false:=by simpa using I
   unfold iW at B |-;unfold eg
   split at B
   .cases B
   .rename_i h8;rw[ew h8,ew h8]
  rw[O];exact⟨rfl,E.mut⟩
 have O:eg l s t=(iW l s t).1:=by
  have B:(iW l s t).2=true:=by simpa using I
  unfold iW at B |-;unfold eg
  split at B
  .rename_i h8;rw[ez h8,ez h8]
  .cases B
 rw[O];exact⟨rfl,E.mut⟩
def C354(p:Nat)(lv ov:Value)(l:List bP)(s:gF)(F:Nat->Prop)(w:World)(hF:(bU p (eG lv ov s)).p w F)(J:∀w',gZ F w w'->dP (λ_=>True) w' lv l)(U:jE l)(Z:mq l s):CR 354 [(.pointer (some ⟨p,0,none⟩))] w (λv w'=>v=.string (cX l s).2/\ng F (bU p (eG lv ov (cX l s).1)) w w'):=by
 have B:=St.begin hF;have G6:=U.n;have hn:l.length<=1000000:=cU
 have wg:=U.at_;obtain⟨Xj,Xk⟩:=id Z;refine pG Tryz.func354 (pl:=az6) ?_;refine⟨λjv w'=>jv=.bool (vu l s)/\St w F [bU p (eG lv ov s)] w',?_,?_⟩
 .refine aD (aA lQ (have B:=B.drew;aB kh B.hb rfl (aI (aC (λE=>aD (aA fo (aB bL B.hb rfl (aD (aA iX (aB jI B.hb rfl (aK gy (J _ B.aG) (aV (aC (λkz=>?_) λkz=>⟨vb (by unfold vu mJ;first|(rw[gk E];rfl)|(rw[ez cU,o4 cU];simp;done)|(rw[ez cU,I,fY E];dsimp only;first|(rw[gk G];rfl)|(rw[fY G];rfl))),B⟩))))))))) λE=>⟨vb (by unfold vu mJ;first|(rw[gk E];rfl)|(rw[ez cU,o4 cU];simp;done)|(rw[ez cU,I,fY E];dsimp only;first|(rw[gk G];rfl)|(rw[fY G];rfl))),B⟩))))
  refine aD (aA iX (aB jI B.hb rfl (aD (aA fo (aB bL B.hb rfl ?_)))));obtain⟨Y,I⟩:=gx l (i:=s.at_.toNat) cU;refine aW gy (J _ B.aG) cU I (λ_ C6=>cL Y.kind mA C6 rfl rfl λ_ zM=>?_);exact aE bL zM (aI (aC (λG=>aD (aA iX (aB jI B.hb rfl (aD (aA fo (aB bL B.hb rfl (aW gy (J _ B.aG) cU I λ_ Bz=>cL Y.text oy Bz rfl rfl λ_ DU=>aE ke DU (aY aaF B (C198 _ _ (by have:=wg _ (ml I);omega)) λ_ he B=>⟨vb (by unfold vu mJ;first|(rw[gk E];rfl)|(rw[ez cU,o4 cU];simp;done)|(rw[ez cU,I,fY E];dsimp only;first|(rw[gk G];rfl)|(rw[fY G];rfl))),B⟩)))))))) λG=>⟨vb (by unfold vu mJ;first|(rw[gk E];rfl)|(rw[ez cU,o4 cU];simp;done)|(rw[ez cU,I,fY E];dsimp only;first|(rw[gk G];rfl)|(rw[fY G];rfl))),B⟩))
 rintro _ _ ⟨rfl,B⟩ _;refine aX (λM=>?_) (λM=>?_)
 .obtain⟨_,O,FW,_,_⟩:=DX M;obtain⟨awn,awo,W⟩:=nO FW;have Nq:l[(s.at_+1-1).toNat]?=some O:=by rw[<- W];congr 2;omega
  refine aD (aA fo (aB bL B.hb rfl (aR cU (aD (aA fo (aO B bL (ei rfl) (rfl) λ_ B=>aD (aA iX (have B:=B.drew;aB jI B.hb rfl (aD (aA fo (aB bL B.hb rfl ?_)))))))))));refine fO cU (aW gy (J _ B.aG) cU Nq λ_ F5=>cL O.text oy F5 rfl rfl λ_ V=>aE ke V ?_);have hb:cX l s=({s with at_:=s.at_+1},O.text):=by unfold cX;rw[ez M];unfold qD;rw[FW];rfl
  rw[hb];exact⟨rfl,B.mut⟩
 refine aT KR B (H':=λ_=>bU p (eG lv ov (jV l s 5))) (Φ:=λ_ _=>True) (λF2 ed dQ=>?_) ?_
 .exact(C336 p lv ov l s 5 F2 _ ed (λw' hc=>J w' (dQ w' hc).aG) U Z).mono λ_ _ r=>r.mono λ_ _ h=>⟨trivial,h.2⟩
 rintro _ _ _ B;have hb:cX l s=(jV l s 5,⟨#[]⟩):=by unfold cX;rw[ew (by simpa using M)]
 rw[hb];exact⟨rfl,B.mut⟩
def C103(p:Nat)(lv:Value)(l:List bP)(s:gF)(F:Nat->Prop)(w:World)(hF:(bU p (eH lv s)).p w F)(M:∀w',gZ F w w'->dP (λ_=>True) w' lv l)(V:jE l)(h0:mq l s):CR 103 [(.pointer (some ⟨p,0,none⟩))] w (λv w'=>v=jj (fp l s).2/\ng F (bU p (eH lv (fp l s).1)) w w'):=by
 have B:=St.begin hF;have G6:=V.n;have hn:l.length<=1000000:=cU
 have wg:=V.at_;obtain⟨Xj,Xk⟩:=id h0;refine pG Tryz.func103 (pl:=azs) ?_;refine aJ B pO (λqt _ B=>⟨λjv w'=>jv=.bool (vu l s)/\St w F [bU p (eH lv s),bU qt (jl (⟨jY #[],0,0⟩:cG))] w',?_,?_⟩)
 .refine aD (aA nn (have B:=B.drew;aB kh B.p1.hb rfl (aI (aC (λE=>aD (aA fS (aB bL B.p1.hb rfl (aD (aA kR (aB jI B.p1.hb rfl (aK gy (M _ B.aG) (aV (aC (λkz=>?_) λkz=>have B:=B.p1;⟨vb (by unfold vu mJ;first|(rw[gk E];rfl)|(rw[ez cU,o4 cU];simp;done)|(rw[ez cU,J,fY E];dsimp only;first|(rw[gk G];rfl)|(rw[fY G];rfl))),B⟩))))))))) λE=>have B:=B.p1;⟨vb (by unfold vu mJ;first|(rw[gk E];rfl)|(rw[ez cU,o4 cU];simp;done)|(rw[ez cU,J,fY E];dsimp only;first|(rw[gk G];rfl)|(rw[fY G];rfl))),B⟩))))
  refine aD (aA kR (aB jI B.p1.hb rfl (aD (aA fS (aB bL B.p1.hb rfl ?_)))));obtain⟨Bw,J⟩:=gx l (i:=s.at_.toNat) cU;refine aW gy (M _ B.aG) cU J (λ_ C6=>cL Bw.kind mA C6 rfl rfl λ_ zM=>?_);exact aE bL zM (aI (aC (λG=>aD (aA kR (aB jI B.p1.hb rfl (aD (aA fS (aB bL B.p1.hb rfl (aW gy (M _ B.aG) cU J λ_ Bz=>cL Bw.text oy Bz rfl rfl λ_ DU=>aE ke DU (aY aaF B (C198 _ _ (by have:=wg _ (ml J);omega)) λ_ he B=>have B:=B.p1;⟨vb (by unfold vu mJ;first|(rw[gk E];rfl)|(rw[ez cU,o4 cU];simp;done)|(rw[ez cU,J,fY E];dsimp only;first|(rw[gk G];rfl)|(rw[fY G];rfl))),B⟩)))))))) λG=>have B:=B.p1;⟨vb (by unfold vu mJ;first|(rw[gk E];rfl)|(rw[ez cU,o4 cU];simp;done)|(rw[ez cU,J,fY E];dsimp only;first|(rw[gk G];rfl)|(rw[fY G];rfl))),B⟩))
 rintro _ _ ⟨rfl,B⟩ _;refine aX (λO=>?_) (λO=>?_)
 .obtain⟨_,I,FW,_,_⟩:=DX O;obtain⟨awn,awo,Y⟩:=nO FW;have Nq:l[(s.at_+1-1).toNat]?=some I:=by rw[<- Y];congr 2;omega
  refine aD (aA fS (aB bL B.hb rfl (aR cU (aD (aA fS (aO B bL (ei rfl) (rfl) λ_ B=>aD (aA kR (have B:=B.drew;aB jI B.hb rfl (aD (aA fS (aB bL B.hb rfl ?_)))))))))));refine fO cU (aW gy (M _ B.aG) cU Nq λ_ F5=>cL I.text oy F5 rfl rfl λ_ W=>aE ke W (aD (aA kR (aB jI B.hb rfl (aD (aA fS (aB bL B.hb rfl (fO cU (aW gy (M _ B.aG) cU Nq λ_ Z=>cL I.at_ mB Z rfl rfl λ_ U=>?_)))))))))
  refine aE bL U (pop (S3 _ _) (aH (x:=(⟨I.text,0,I.at_⟩:cG)) B.p1 mU rfl rfl λ_ B=>aE mU B.At ?_));have B:=B.drop;have hb:fp l s=({s with at_:=s.at_+1},⟨I.text,0,I.at_⟩):=by unfold fp;rw[ez O];unfold qD;rw[FW];rfl
  rw[hb];exact⟨rfl,B.mut⟩
 refine aT Vt B (H':=λ_=>bU p (eH lv (jV l s 5))) (Φ:=λ_ _=>True) (λF2 ed dQ=>?_) ?_
 .exact(C106 p lv l s F2 _ ed (λw' hc=>M w' (dQ w' hc).aG) V h0).mono λ_ _ r=>r.mono λ_ _ h=>⟨trivial,h.2⟩
 rintro _ _ _ B;refine pop agU (aH (x:=(⟨(jY #[]),0,0⟩:cG)) B.p1 mU rfl rfl λ_ B=>aE mU B.At ?_);have B:=B.drop;have hb:fp l s=(jV l s 5,⟨⟨#[]⟩,0,0⟩):=by unfold fp;rw[ew (by simpa using O)]
 rw[hb];exact⟨rfl,B.mut⟩
def C335(k:Int)(w:World)(O:0<=k/\k<=14):CR 335 [iE k] w (λv w'=>v=.string (LX k)/\Ext w w'):=by
 have B:=St.start w;refine fD Tryz.func335 ?_;refine bV Hd B kN rfl rfl (ei rfl) (λI _ B=>?_);have G:Hd.length=15:=rfl;obtain⟨J,E⟩:=gx Hd (i:=k.toNat) cU;refine dN B kN cU cU (λ_ M=>gW B ke M E ?_);refine⟨?_,B.drop.aG⟩;unfold LX;rw[E];rfl
def C356(p:Nat)(lv ov:Value)(l:List bP)(s:gF)(F:Nat->Prop)(w:World)(hF:(bU p (eG lv ov s)).p w F)(G:∀w',gZ F w w'->dP (λ_=>True) w' lv l)(O:jE l)(W:mq l s):CR 356 [(.pointer (some ⟨p,0,none⟩))] w (λv w'=>v=iE (lZ l s).2/\ng F (bU p (eG lv ov (lZ l s).1)) w w'):=by
 have B:=St.begin hF;have G6:=O.n;have hn:l.length<=1000000:=cU
 have wg:=O.at_;obtain⟨Xj,Xk⟩:=id W;refine pG Tryz.func356 (pl:=az8) ?_;refine⟨λjv w'=>jv=.bool (Uw l s)/\St w F [bU p (eG lv ov s)] w',?_,?_⟩
 .refine aD (aA lQ (have B:=B.drew;aB kh B.hb rfl (aI (aC (λE=>aD (aA fo (aB bL B.hb rfl (aD (aA iX (aB jI B.hb rfl (aK gy (G _ B.aG) (aV (aC (λjh=>?_) λjh=>⟨vb (by unfold Uw mJ;first|(rw[gk E];rfl)|(rw[ez cU,o4 cU];simp;done)|(rw[ez cU,J,fY E];rfl)),B⟩))))))))) λE=>⟨vb (by unfold Uw mJ;first|(rw[gk E];rfl)|(rw[ez cU,o4 cU];simp;done)|(rw[ez cU,J,fY E];rfl)),B⟩))))
  refine aD (aA iX (aB jI B.hb rfl (aD (aA fo (aB bL B.hb rfl ?_)))));obtain⟨V0,J⟩:=gx l (i:=s.at_.toNat) cU;exact aW gy (G _ B.aG) cU J (λ_ zM=>cL V0.kind mA zM rfl rfl λ_ yz=>aE bL yz (aI ⟨vb (by unfold Uw mJ;first|(rw[gk E];rfl)|(rw[ez cU,o4 cU];simp;done)|(rw[ez cU,J,fY E];rfl)),B⟩))
 rintro _ _ ⟨rfl,B⟩ _;refine aX (λI=>?_) (λI=>?_)
 .obtain⟨_,M,FW,_⟩:=Xi I;obtain⟨awn,awo,Nq⟩:=nO FW;refine aD (aA iX (have B:=B.drew;aB jI B.hb rfl (aD (aA fo (aB bL B.hb rfl (aW gy (G _ B.aG) cU Nq λ_ Bz=>cL M.n tL Bz rfl rfl λ_ DU=>aE bL DU ⟨λjv w'=>jv=.bool (decide (1<=M.n/\M.n<=8))/\St w F [bU p (eG lv ov s)] w',dC (aC (λ_=>kq ⟨vb (by first|exact(gk cU).symm|exact gv.2 cU),B⟩) λ_=>⟨vb (by first|exact(gk cU).symm|exact gv.2 cU),B⟩),?_⟩))))))
  rintro _ _ ⟨rfl,B⟩ _;refine aC (λZ=>?_) (λZ=>?_)
  .refine aD (aA fo (aB bL B.hb rfl (aR cU (aD (aA fo (aO B bL (ei rfl) (rfl) λ_ B=>?_))))));have hb:lZ l s=({s with at_:=s.at_+1},M.n):=by unfold lZ;rw[ez I];unfold qD;rw[FW];exact ez Z
   rw[hb];exact⟨rfl,B.mut⟩
  refine aT KR B (H':=λ_=>bU p (eG lv ov (jV l s 11))) (Φ:=λ_ _=>True) (λV U Y=>?_) ?_
  .exact(C336 p lv ov l s 11 V _ U (λw' hc=>G w' (Y w' hc).aG) O W).mono λ_ _ r=>r.mono λ_ _ h=>⟨trivial,h.2⟩
  rintro _ _ _ B;have hb:lZ l s=(jV l s 11,0):=by unfold lZ;rw[ez I];unfold qD;rw[FW];exact ew Z
  rw[hb];exact⟨rfl,B.mut⟩
 refine aT KR B (H':=λ_=>bU p (eG lv ov (jV l s 5))) (Φ:=λ_ _=>True) (λV U Y=>?_) ?_
 .exact(C336 p lv ov l s 5 V _ U (λw' hc=>G w' (Y w' hc).aG) O W).mono λ_ _ r=>r.mono λ_ _ h=>⟨trivial,h.2⟩
 rintro _ _ _ B;have hb:lZ l s=(jV l s 5,0):=by unfold lZ;rw[ew (by simpa using I)]
 rw[hb];exact⟨rfl,B.mut⟩
def C355(p:Nat)(lv ov:Value)(l:List bP)(s:gF)(G:gF)(x:List bY)(F:Nat->Prop)(w:World)(hF:(bU p (eG lv ov s)).p w F)(Z:∀w',gZ F w w'->dP (λ_=>True) w' lv l)(O:jE l)(h0:mq l s)(M:sM l s=some (G,x)):CR 355 [(.pointer (some ⟨p,0,none⟩))] w (λv w'=>ng F (ph λY:SV=>fact (v=jj Y) (sep (bU p (eG lv ov G)) (ep λw=>DL w (jj Y) x))) w w'):=by
 have B:=St.begin hF;have G6:=O.n;have hn:l.length<=1000000:=cU
 have wg:=O.at_;obtain⟨Xj,Xk⟩:=id h0;refine pG Tryz.func355 (pl:=az7) ?_;refine aD (aA lQ (aB kh B.hb rfl (cN (aC (λW=>?_) λW=>?_))))
 .have I:((s,[]):gF×List bY)=(G,x):=by unfold sM at M;rw[ez W]at M;exact o5.inj M
  cases I;have B:=(B.fw (Φ:=λw=>DL w (jj (bO:SV)) ([]:List bY)) λw=>DL.nil w).p1;exact(St.dX (bO:SV) (St.nx rfl (St.join B))).mut
 refine aD (aA iX (have B:=B.drew;aB jI B.hb rfl (aD (aA fo (aB bL B.hb rfl ?_)))));obtain⟨R,U,E⟩:=aeo M cU;refine eC ajI (C200 l _ s.at_ R _ (Z _ B.aG) O cU U) ?_;rintro _ _ ⟨V,rfl,cA⟩;have B:=B.made cA;refine aN rfl (aN rfl (aN rfl (aN rfl (cN (aC (λJ=>?_) λJ=>?_)))))
 .refine aD (aA lQ (aO B.p1 kh (ei rfl) (rfl) λ_ B=>aD (aA CP (aO B bL (ei rfl) (rfl) λ_ B=>?_))));have I:(({s with e:=R.2.2.1,pos:=R.2.2.2},[]):gF×List bY)=(G,x):=by rw[ez J]at E;exact o5.inj E
  cases I;have B:=(B.p1.drop.fw (Φ:=λw=>DL w (jj (bO:SV)) ([]:List bY)) λw=>DL.nil w).p1;exact(St.dX (bO:SV) (St.nx rfl (St.join B))).mut
 have Gd:=aep E J;refine aD (aA fo (aO B.p1 bL (ei rfl) (rfl) λ_ B=>?_));have I:(({s with at_:=R.2.1},R.1):gF×List bY)=(G,x):=by rw[ew J,ez Gd]at E;exact o5.inj E
 cases I;have B:=B.p1.p1;exact(St.dX V (St.nx rfl (St.join B))).mut
def SD(k at_:Int):bD:=⟨k,⟨#[]⟩,⟨#[]⟩,[],[],0,0,0,at_⟩
abbrev OK:ByteArray:=⟨#[61]⟩
def Z8(l:List bP)(s:gF):gF:=eg l (cX l s).1 (jY #[61])
def s2M(l:List bP)(s:gF):gF:=eg l (cX l (Z8 l s)).1 (jY #[44])
def l3(l:List bP)(s:gF)(k a:Int):Option (gF×bD):=
 if k=1 then(sM l (Z8 l s)).bind λr=>some (r.1,{SD k a with eY:=(cX l s).2,e:=r.2})
 else if k=2 then some ((cX l (Z8 l s)).1,{SD k a with eY:=(cX l s).2,name:=(cX l (Z8 l s)).2})
 else if k=3 then(sM l (Z8 l s)).bind λr=>some (r.1,{SD k a with name:=(cX l s).2,e:=r.2})
 else if k=4 then(sM l (s2M l s)).bind λr=>(sM l (eg l r.1 (jY #[44]))).bind λq=>some (q.1,{SD k a with eY:=(cX l s).2,name:=(cX l (Z8 l s)).2,e:=r.2,f:=q.2})
 else if k=5\/k=6\/k=9\/k=10 then some ((cX l s).1,{SD k a with name:=(cX l s).2})
 else if k=11\/k=14 then(sM l s).bind λr=>some (r.1,{SD k a with e:=r.2})
 else if k=12 then some ((lZ l s).1,{SD k a with n:=(lZ l s).2})
 else some (s,SD k a)
section
variable {l:List bP}{s s':gF}{k a:Int}{x:bD}
theorem eV{α β γ:Type}{o:Option (α×β)}{g:α×β->Option γ}{c:γ}(h:o.bind g=some c):∃p q,o=some (p,q)/\g (p,q)=some c:=by
 cases o with
 | none=>cases h
 | some r=>grind
theorem Xl(h:l3 l s k a=some (s',x))(B:k=1):∃q e,sM l (Z8 l s)=some (q,e)/\s'=q/\x={SD k a with eY:=(cX l s).2,e:=e}:=by
 unfold l3 at h;rw[ez B]at h
 obtain⟨q,e,h1,h2⟩:=eV h
 grind
theorem Xm(h:l3 l s k a=some (s',x))(B:k=2):s'=(cX l (Z8 l s)).1/\x={SD k a with eY:=(cX l s).2,name:=(cX l (Z8 l s)).2}:=by
 unfold l3 at h;grind
theorem Xn(h:l3 l s k a=some (s',x))(B:k=3):∃q e,sM l (Z8 l s)=some (q,e)/\s'=q/\x={SD k a with name:=(cX l s).2,e:=e}:=by
 unfold l3 at h;rw[ew cU,ew cU,ez B]at h
 obtain⟨q,e,h1,h2⟩:=eV h
 grind
theorem Xo(h:l3 l s k a=some (s',x))(E:k=4):∃q e B f,sM l (s2M l s)=some (q,e)/\sM l (eg l q (jY #[44]))=some (B,f)/\s'=B/\x={SD k a with eY:=(cX l s).2,name:=(cX l (Z8 l s)).2,e:=e,f:=f}:=by
 unfold l3 at h;rw[ew cU,ew cU,ew cU,ez E]at h
 obtain⟨q,e,h1,h2⟩:=eV h
 obtain⟨B,f,h3,h4⟩:=eV h2
 grind
theorem Xp(h:l3 l s k a=some (s',x))(B:k=5\/k=6\/k=9\/k=10):s'=(cX l s).1/\x={SD k a with name:=(cX l s).2}:=by
 unfold l3 at h;grind
theorem RJ(h:l3 l s k a=some (s',x))(B:k=11\/k=14):∃q e,sM l s=some (q,e)/\s'=q/\x={SD k a with e:=e}:=by
 unfold l3 at h;rw[ew cU,ew cU,ew cU,ew cU,ew cU,ez B]at h
 obtain⟨q,e,h1,h2⟩:=eV h
 grind
theorem RK(h:l3 l s k a=some (s',x))(B:k=12):s'=(lZ l s).1/\x={SD k a with n:=(lZ l s).2}:=by
 unfold l3 at h;grind
theorem RL(h:l3 l s k a=some (s',x))(h1:¬ k=1)(h2:¬ k=2)(h3:¬ k=3)(h4:¬ k=4)(h5:¬ (k=5\/k=6\/k=9\/k=10))(h6:¬ (k=11\/k=14))(B:¬ k=12):s'=s/\x=SD k a:=by
 unfold l3 at h;grind
end
def Fm{l:List bP}{s s':gF}{k a:Int}{x:bD}(E:mq l s)(h:l3 l s k a=some (s',x)):mq l s':=by
 have G:mq l (Z8 l s):=gq (iB E)
 have M:mq l (s2M l s):=gq (iB G)
 by_cases h1:k=1
 .obtain⟨q,e,B,rfl,_⟩:=Xl h h1;exact uA G B
 by_cases h2:k=2
 .obtain⟨rfl,_⟩:=Xm h h2;exact iB G
 by_cases h3:k=3
 .obtain⟨q,e,B,rfl,_⟩:=Xn h h3;exact uA G B
 by_cases h4:k=4
 .obtain⟨q,e,O,f,B,J,rfl,_⟩:=Xo h h4;exact uA (gq (uA M B)) J
 by_cases h5:k=5\/k=6\/k=9\/k=10
 .obtain⟨rfl,_⟩:=Xp h h5;exact iB E
 by_cases h6:k=11\/k=14
 .obtain⟨q,e,B,rfl,_⟩:=RJ h h6;exact uA E B
 by_cases I:k=12
 .obtain⟨rfl,_⟩:=RK h I;exact Zc E
 obtain⟨rfl,_⟩:=RL h h1 h2 h3 h4 h5 h6 I;exact E
def An{α σ:Type}[Flat σ][Deep α σ]{w w0:World}{A:Nat->Prop}{L:List HP}{B:HP}{sh:σ}{x:α}(E:St w0 A (B::ep (λw=>n4 w sh x)::L) w) :
  St w0 A ((ph λs:σ=>fact (jj sh=jj s) (sep B (ep λw=>n4 w s x)))::L) w:=
 St.dX (H:=λs:σ=>fact (jj sh=jj s) (sep B (ep λw=>n4 w s x))) sh (St.nx rfl (St.join E))
def C337(p:Nat)(lv ov:Value)(l:List bP)(s:gF)(kd a:Int)(Z:gF)(x:bD)(F:Nat->Prop)(w:World)(hF:(bU p (eG lv ov s)).p w F)(O:∀w',gZ F w w'->dP (λ_=>True) w' lv l)(J:jE l)(M:mq l s)(hp:l3 l s kd a=some (Z,x)):CR 337 [(.pointer (some ⟨p,0,none⟩)),iE kd,iE a] w (λv w'=>ng F (ph λsh:bF=>fact (v=jj sh) (sep (bU p (eG lv ov Z)) (ep λw=>n4 w sh x))) w w'):=by
 have B:=St.begin hF;have G6:=J.n;have hn:l.length<=1000000:=cU
 have wg:=J.at_;obtain⟨Xj,Xk⟩:=id M;refine fD Tryz.func337 ?_;refine aJ B kS (λTY _ B=>have B:=B.enc (cs':=jl (⟨0,(jY #[]),(jY #[]),bO,bO,0,0,0,0⟩:bF)) rfl;pop (S6 _ _) (aJ B kS λBc _ B=>have B:=B.enc (cs':=jl (⟨0,(jY #[]),(jY #[]),bO,bO,0,0,0,0⟩:bF)) rfl;aH (x:=(⟨kd,(jY #[]),(jY #[]),bO,bO,0,0,0,a⟩:bF)) B fh rfl rfl λw3 B=>?_));refine⟨_,?_,λ_ h=>h⟩;refine aI (aC (λoG=>?_) λoG=>aI (aC (λmE=>?_) λmE=>aI (aC (λrO=>?_) λrO=>aI (aC (λyA=>?_) λyA=>⟨λjv w'=>jv=.bool (decide (kd=5\/kd=6\/kd=9\/kd=10))/\w3=w',aI (aC (λ_=>⟨vb dH,rfl⟩) λ_=>aI (aC (λ_=>⟨vb dH,rfl⟩) λ_=>aI (aC (λ_=>⟨vb dH,rfl⟩) λ_=>aI ⟨vb dH,rfl⟩))),?_⟩))))
 .obtain⟨q,e,U,rfl,rfl⟩:=Xl hp oG;refine aT Hz B.p2 (H':=λ_=>bU p (eG lv ov (cX l s).1)) (Φ:=λv _=>v=.string (cX l s).2) (λI E G=>?_) ?_
  .exact C354 p lv ov l s I _ E (λw' hc=>O w' (G w' hc).aG) J M
  rintro _ _ rfl B;refine aA lO (aO B.p1 ke (ei rfl) (rfl) λ_ B=>have B:=B.enc (cs':=jl (⟨kd,(cX l s).2,(jY #[]),bO,bO,0,0,0,a⟩:bF)) rfl;aT Bn B.p1 (H':=λ_=>bU p (eG lv ov (eg l (cX l s).1 (jY #[61])))) (Φ:=λ_ _=>True) (λI E G=>?_) ?_)
  .exact(C286 p lv ov l (cX l s).1 (jY #[61]) I _ E (λw' hc=>O w' (G w' hc).aG) J (iB M)).mono λ_ _ r=>r.mono λ_ _ h=>⟨trivial,h.2⟩
  rintro _ _ _ B;refine aT O8 B (H':=λv=>ph λW:SV=>fact (v=jj W) (sep (bU p (eG lv ov Z)) (ep λw=>DL w (jj W) e))) (Φ:=λ_ _=>True) (λI E G=>?_) ?_
  .exact(C355 p lv ov l (eg l (cX l s).1 (jY #[61])) Z e I _ E (λw' hc=>O w' (G w' hc).aG) J (gq (iB M)) U).mono λ_ _ r=>r.mono λ_ _ h=>⟨trivial,h⟩
  rintro v_x20 _ _ V;obtain⟨Ux,Y⟩:=V.dU
  clear V
  obtain⟨aoM,Co⟩:=Y.lq
  clear Y
  subst aoM;have B:=Co.split;refine aA jK (aO B.p2 l5 (ei rfl) (rfl) λ_ B=>?_);have B:=B.enc (cs':=jl (⟨kd,(cX l s).2,(jY #[]),Ux,bO,0,0,0,a⟩:bF)) rfl;intro Ig;exact aE fh B.At (aH (x:=(⟨kd,(cX l s).2,(jY #[]),Ux,bO,0,0,0,a⟩:bF)) B.p3 fh rfl rfl λ_ B=>aE fh B.At (have B:=B.p3.cS (Ψ:=(λw=>n4 w (⟨kd,(cX l s).2,(jY #[]),Ux,bO,0,0,0,a⟩:bF) (⟨kd,(cX l s).2,(jY #[]),e,[],0,0,0,a⟩:bD))) (λ_ h=>⟨_,_,rfl,id h,DL.nil _⟩);have B:=B.p1.drop.p1.drop.p1;(An B).mut))
 .obtain⟨rfl,rfl⟩:=Xm hp mE;refine aT Hz B.p2 (H':=λ_=>bU p (eG lv ov (cX l s).1)) (Φ:=λv _=>v=.string (cX l s).2) (λI E G=>?_) ?_
  .exact C354 p lv ov l s I _ E (λw' hc=>O w' (G w' hc).aG) J M
  rintro _ _ rfl B;refine aA lO (aO B.p1 ke (ei rfl) (rfl) λ_ B=>have B:=B.enc (cs':=jl (⟨kd,(cX l s).2,(jY #[]),bO,bO,0,0,0,a⟩:bF)) rfl;aT Bn B.p1 (H':=λ_=>bU p (eG lv ov (eg l (cX l s).1 (jY #[61])))) (Φ:=λ_ _=>True) (λI E G=>?_) ?_)
  .exact(C286 p lv ov l (cX l s).1 (jY #[61]) I _ E (λw' hc=>O w' (G w' hc).aG) J (iB M)).mono λ_ _ r=>r.mono λ_ _ h=>⟨trivial,h.2⟩
  rintro _ _ _ B;refine aT Hz B (H':=λ_=>bU p (eG lv ov (cX l (eg l (cX l s).1 (jY #[61]))).1)) (Φ:=λv _=>v=.string (cX l (eg l (cX l s).1 (jY #[61]))).2) (λI E G=>?_) ?_
  .exact C354 p lv ov l (eg l (cX l s).1 (jY #[61])) I _ E (λw' hc=>O w' (G w' hc).aG) J (gq (iB M))
  rintro _ _ rfl B;refine aA jJ (aO B.p1 ke (ei rfl) (rfl) λ_ B=>?_);have B:=B.enc (cs':=jl (⟨kd,(cX l s).2,(cX l (eg l (cX l s).1 (jY #[61]))).2,bO,bO,0,0,0,a⟩:bF)) rfl;intro Ig;exact aE fh B.At (aH (x:=(⟨kd,(cX l s).2,(cX l (eg l (cX l s).1 (jY #[61]))).2,bO,bO,0,0,0,a⟩:bF)) B.p2 fh rfl rfl λ_ B=>aE fh B.At (have B:=B.fw (Φ:=(λw=>n4 w (⟨kd,(cX l s).2,(cX l (eg l (cX l s).1 (jY #[61]))).2,bO,bO,0,0,0,a⟩:bF) (⟨kd,(cX l s).2,(cX l (eg l (cX l s).1 (jY #[61]))).2,[],[],0,0,0,a⟩:bD))) (λ_=>⟨_,_,rfl,DL.nil _,DL.nil _⟩);have B:=B.p1.drop.p1.drop.p1;(An B).mut))
 .obtain⟨q,e,U,rfl,rfl⟩:=Xn hp rO;refine aT Hz B.p2 (H':=λ_=>bU p (eG lv ov (cX l s).1)) (Φ:=λv _=>v=.string (cX l s).2) (λI E G=>?_) ?_
  .exact C354 p lv ov l s I _ E (λw' hc=>O w' (G w' hc).aG) J M
  rintro _ _ rfl B;refine aA jJ (aO B.p1 ke (ei rfl) (rfl) λ_ B=>have B:=B.enc (cs':=jl (⟨kd,(jY #[]),(cX l s).2,bO,bO,0,0,0,a⟩:bF)) rfl;aT Bn B.p1 (H':=λ_=>bU p (eG lv ov (eg l (cX l s).1 (jY #[61])))) (Φ:=λ_ _=>True) (λI E G=>?_) ?_)
  .exact(C286 p lv ov l (cX l s).1 (jY #[61]) I _ E (λw' hc=>O w' (G w' hc).aG) J (iB M)).mono λ_ _ r=>r.mono λ_ _ h=>⟨trivial,h.2⟩
  rintro _ _ _ B;refine aT O8 B (H':=λv=>ph λW:SV=>fact (v=jj W) (sep (bU p (eG lv ov Z)) (ep λw=>DL w (jj W) e))) (Φ:=λ_ _=>True) (λI E G=>?_) ?_
  .exact(C355 p lv ov l (eg l (cX l s).1 (jY #[61])) Z e I _ E (λw' hc=>O w' (G w' hc).aG) J (gq (iB M)) U).mono λ_ _ r=>r.mono λ_ _ h=>⟨trivial,h⟩
  rintro v_x40 _ _ V;obtain⟨Uy,Y⟩:=V.dU
  clear V
  obtain⟨aoN,Co⟩:=Y.lq
  clear Y
  subst aoN;have B:=Co.split;refine aA jK (aO B.p2 l5 (ei rfl) (rfl) λ_ B=>?_);have B:=B.enc (cs':=jl (⟨kd,(jY #[]),(cX l s).2,Uy,bO,0,0,0,a⟩:bF)) rfl;intro Ig;exact aE fh B.At (aH (x:=(⟨kd,(jY #[]),(cX l s).2,Uy,bO,0,0,0,a⟩:bF)) B.p3 fh rfl rfl λ_ B=>aE fh B.At (have B:=B.p3.cS (Ψ:=(λw=>n4 w (⟨kd,(jY #[]),(cX l s).2,Uy,bO,0,0,0,a⟩:bF) (⟨kd,(jY #[]),(cX l s).2,e,[],0,0,0,a⟩:bD))) (λ_ h=>⟨_,_,rfl,id h,DL.nil _⟩);have B:=B.p1.drop.p1.drop.p1;(An B).mut))
 .obtain⟨q,e,q2,f,U,hfx,rfl,rfl⟩:=Xo hp yA;refine aT Hz B.p2 (H':=λ_=>bU p (eG lv ov (cX l s).1)) (Φ:=λv _=>v=.string (cX l s).2) (λI E G=>?_) ?_
  .exact C354 p lv ov l s I _ E (λw' hc=>O w' (G w' hc).aG) J M
  rintro _ _ rfl B;refine aA lO (aO B.p1 ke (ei rfl) (rfl) λ_ B=>have B:=B.enc (cs':=jl (⟨kd,(cX l s).2,(jY #[]),bO,bO,0,0,0,a⟩:bF)) rfl;aT Bn B.p1 (H':=λ_=>bU p (eG lv ov (eg l (cX l s).1 (jY #[61])))) (Φ:=λ_ _=>True) (λI E G=>?_) ?_)
  .exact(C286 p lv ov l (cX l s).1 (jY #[61]) I _ E (λw' hc=>O w' (G w' hc).aG) J (iB M)).mono λ_ _ r=>r.mono λ_ _ h=>⟨trivial,h.2⟩
  rintro _ _ _ B;refine aT Hz B (H':=λ_=>bU p (eG lv ov (cX l (eg l (cX l s).1 (jY #[61]))).1)) (Φ:=λv _=>v=.string (cX l (eg l (cX l s).1 (jY #[61]))).2) (λI E G=>?_) ?_
  .exact C354 p lv ov l (eg l (cX l s).1 (jY #[61])) I _ E (λw' hc=>O w' (G w' hc).aG) J (gq (iB M))
  rintro _ _ rfl B;refine aA jJ (aO B.p1 ke (ei rfl) (rfl) λ_ B=>have B:=B.enc (cs':=jl (⟨kd,(cX l s).2,(cX l (eg l (cX l s).1 (jY #[61]))).2,bO,bO,0,0,0,a⟩:bF)) rfl;aT Bn B.p1 (H':=λ_=>bU p (eG lv ov (eg l (cX l (eg l (cX l s).1 (jY #[61]))).1 (jY #[44])))) (Φ:=λ_ _=>True) (λI E G=>?_) ?_)
  .exact(C286 p lv ov l (cX l (eg l (cX l s).1 (jY #[61]))).1 (jY #[44]) I _ E (λw' hc=>O w' (G w' hc).aG) J (iB (gq (iB M)))).mono λ_ _ r=>r.mono λ_ _ h=>⟨trivial,h.2⟩
  rintro _ _ _ B;refine aT O8 B (H':=λv=>ph λW:SV=>fact (v=jj W) (sep (bU p (eG lv ov q)) (ep λw=>DL w (jj W) e))) (Φ:=λ_ _=>True) (λI E G=>?_) ?_
  .exact(C355 p lv ov l (eg l (cX l (eg l (cX l s).1 (jY #[61]))).1 (jY #[44])) q e I _ E (λw' hc=>O w' (G w' hc).aG) J (gq (iB (gq (iB M)))) U).mono λ_ _ r=>r.mono λ_ _ h=>⟨trivial,h⟩
  rintro v_x55 _ _ V;obtain⟨Ja,Y⟩:=V.dU
  clear V
  obtain⟨aoO,Co⟩:=Y.lq
  clear Y
  subst aoO;have B:=Co.split;refine aA jK (aO B.p2 l5 (ei rfl) (rfl) λ_ B=>have B:=B.enc (cs':=jl (⟨kd,(cX l s).2,(cX l (eg l (cX l s).1 (jY #[61]))).2,Ja,bO,0,0,0,a⟩:bF)) rfl;aT Bn B.p1 (H':=λ_=>bU p (eG lv ov (eg l q (jY #[44])))) (Φ:=λ_ _=>True) (λI E G=>?_) ?_)
  .exact(C286 p lv ov l q (jY #[44]) I _ E (λw' hc=>O w' (G w' hc).aG) J (uA (gq (iB (gq (iB M)))) U)).mono λ_ _ r=>r.mono λ_ _ h=>⟨trivial,h.2⟩
  rintro _ _ _ B;refine aT O8 B (H':=λv=>ph λW:SV=>fact (v=jj W) (sep (bU p (eG lv ov Z)) (ep λw=>DL w (jj W) f))) (Φ:=λ_ _=>True) (λI E G=>?_) ?_
  .exact(C355 p lv ov l (eg l q (jY #[44])) Z f I _ E (λw' hc=>O w' (G w' hc).aG) J (gq (uA (gq (iB (gq (iB M)))) U)) hfx).mono λ_ _ r=>r.mono λ_ _ h=>⟨trivial,h⟩
  rintro v_x60 _ _ V;obtain⟨E0,Y⟩:=V.dU
  clear V
  obtain⟨aoP,Co⟩:=Y.lq
  clear Y
  subst aoP;have B:=Co.split;refine aA rA (aO B.p2 l5 (ei rfl) (rfl) λ_ B=>?_);have B:=B.enc (cs':=jl (⟨kd,(cX l s).2,(cX l (eg l (cX l s).1 (jY #[61]))).2,Ja,E0,0,0,0,a⟩:bF)) rfl;intro Ig;exact aE fh B.At (aH (x:=(⟨kd,(cX l s).2,(cX l (eg l (cX l s).1 (jY #[61]))).2,Ja,E0,0,0,0,a⟩:bF)) B.p4 fh rfl rfl λ_ B=>aE fh B.At (have B:=B.p4.p4.p1.fu.cS (Ψ:=(λw=>n4 w (⟨kd,(cX l s).2,(cX l (eg l (cX l s).1 (jY #[61]))).2,Ja,E0,0,0,0,a⟩:bF) (⟨kd,(cX l s).2,(cX l (eg l (cX l s).1 (jY #[61]))).2,e,f,0,0,0,a⟩:bD))) (λ_ h=>⟨_,_,rfl,id h.1,id h.2⟩);have B:=B.p1.drop.p1.drop.p1;(An B).mut))
 rintro _ _ ⟨rfl,hw⟩ _;subst hw;refine aC (λBx=>?_) (λBx=>⟨λjv w'=>jv=.bool (decide (kd=11\/kd=14))/\w3=w',aI (aC (λ_=>⟨vb dH,rfl⟩) λ_=>aI ⟨vb dH,rfl⟩),?_⟩)
 .obtain⟨rfl,rfl⟩:=Xp hp Bx;refine aT Hz B.p2 (H':=λ_=>bU p (eG lv ov (cX l s).1)) (Φ:=λv _=>v=.string (cX l s).2) (λI E G=>?_) ?_
  .exact C354 p lv ov l s I _ E (λw' hc=>O w' (G w' hc).aG) J M
  rintro _ _ rfl B;refine aA jJ (aO B.p1 ke (ei rfl) (rfl) λ_ B=>?_);have B:=B.enc (cs':=jl (⟨kd,(jY #[]),(cX l s).2,bO,bO,0,0,0,a⟩:bF)) rfl;intro Ig;exact aE fh B.At (aH (x:=(⟨kd,(jY #[]),(cX l s).2,bO,bO,0,0,0,a⟩:bF)) B.p2 fh rfl rfl λ_ B=>aE fh B.At (have B:=B.fw (Φ:=(λw=>n4 w (⟨kd,(jY #[]),(cX l s).2,bO,bO,0,0,0,a⟩:bF) (⟨kd,(jY #[]),(cX l s).2,[],[],0,0,0,a⟩:bD))) (λ_=>⟨_,_,rfl,DL.nil _,DL.nil _⟩);have B:=B.p1.drop.p1.drop.p1;(An B).mut))
 rintro _ _ ⟨rfl,hw⟩ _;subst hw;refine aC (λaes=>?_) (λaes=>aI (aC (λaet=>?_) λaet=>?_))
 .obtain⟨q,e,U,rfl,rfl⟩:=RJ hp aes;refine aT O8 B.p2 (H':=λv=>ph λW:SV=>fact (v=jj W) (sep (bU p (eG lv ov Z)) (ep λw=>DL w (jj W) e))) (Φ:=λ_ _=>True) (λI E G=>?_) ?_
  .exact(C355 p lv ov l s Z e I _ E (λw' hc=>O w' (G w' hc).aG) J M U).mono λ_ _ r=>r.mono λ_ _ h=>⟨trivial,h⟩
  rintro v_x74 _ _ V;obtain⟨Uz,Y⟩:=V.dU
  clear V
  obtain⟨aoQ,Co⟩:=Y.lq
  clear Y
  subst aoQ;have B:=Co.split;refine aA jK (aO B.p2 l5 (ei rfl) (rfl) λ_ B=>?_);have B:=B.enc (cs':=jl (⟨kd,(jY #[]),(jY #[]),Uz,bO,0,0,0,a⟩:bF)) rfl;intro Ig;exact aE fh B.At (aH (x:=(⟨kd,(jY #[]),(jY #[]),Uz,bO,0,0,0,a⟩:bF)) B.p3 fh rfl rfl λ_ B=>aE fh B.At (have B:=B.p3.cS (Ψ:=(λw=>n4 w (⟨kd,(jY #[]),(jY #[]),Uz,bO,0,0,0,a⟩:bF) (⟨kd,(jY #[]),(jY #[]),e,[],0,0,0,a⟩:bD))) (λ_ h=>⟨_,_,rfl,id h,DL.nil _⟩);have B:=B.p1.drop.p1.drop.p1;(An B).mut))
 .obtain⟨rfl,rfl⟩:=RK hp aet;refine aT ar4 B.p2 (H':=λ_=>bU p (eG lv ov (lZ l s).1)) (Φ:=λv _=>v=iE (lZ l s).2) (λI E G=>?_) ?_
  .exact C356 p lv ov l s I _ E (λw' hc=>O w' (G w' hc).aG) J M
  rintro _ _ rfl B;refine aA pP (aO B.p1 bL (ei rfl) (rfl) λ_ B=>?_);have B:=B.enc (cs':=jl (⟨kd,(jY #[]),(jY #[]),bO,bO,(lZ l s).2,0,0,a⟩:bF)) rfl;intro Ig;exact aE fh B.At (aH (x:=(⟨kd,(jY #[]),(jY #[]),bO,bO,(lZ l s).2,0,0,a⟩:bF)) B.p2 fh rfl rfl λ_ B=>aE fh B.At (have B:=B.fw (Φ:=(λw=>n4 w (⟨kd,(jY #[]),(jY #[]),bO,bO,(lZ l s).2,0,0,a⟩:bF) (⟨kd,(jY #[]),(jY #[]),[],[],(lZ l s).2,0,0,a⟩:bD))) (λ_=>⟨_,_,rfl,DL.nil _,DL.nil _⟩);have B:=B.p1.drop.p1.drop.p1;(An B).mut))
 obtain⟨rfl,rfl⟩:=RL hp oG mE rO yA Bx aes aet;intro Ig;exact aE fh B.At (aH (x:=(⟨kd,(jY #[]),(jY #[]),bO,bO,0,0,0,a⟩:bF)) B.p1 fh rfl rfl λ_ B=>aE fh B.At (have B:=B.fw (Φ:=(λw=>n4 w (⟨kd,(jY #[]),(jY #[]),bO,bO,0,0,0,a⟩:bF) (⟨kd,(jY #[]),(jY #[]),[],[],0,0,0,a⟩:bD))) (λ_=>⟨_,_,rfl,DL.nil _,DL.nil _⟩);have B:=B.p1.drop.p1.drop.p1;(An B).mut))
end Go.Proofs.YtdncbeepkacgbaaGreatDoor
