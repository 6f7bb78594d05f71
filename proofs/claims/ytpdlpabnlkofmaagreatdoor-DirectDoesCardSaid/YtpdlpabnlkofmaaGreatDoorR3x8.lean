/-
  Part 8.
-/
import Derived.Test.YtpdlpabnlkofmaaGreatDoorR3x7
set_option maxHeartbeats 8000000
set_option linter.all false
set_option maxRecDepth 100000
open Go.Fw.Flat renaming val->jr,enc->kp
open ByteArray renaming mk->j0
open List renaming getElem?_eq_some_iff->kE,mem_of_getElem?->kO,take_of_length_le->la,length_take->l9,length_map->mW,length_singleton->nh,replicate->oz,mem_map->o1,mem_cons_self->o4,length_cons->o5,mem_cons_of_mem->qa,append_nil->qb,mem_cons->s4,range->tg,length_eq_zero_iff->vq,mem_singleton->vS,mem_iff_getElem?->yA,drop_eq_nil_iff->Es,map_cons->Ix,getElem?_range->Jv,length_range->P6,zip_cons_cons->aar,not_mem_nil->abv
open Nat renaming zero_le->l2,le_trans->vJ,le_of_eq->CL
open Go.Instr renaming build->mE
open Go.Value renaming int->n3
open Go.Fw.Deep renaming dr->n5,ext->NB
open Int renaming toNat_natCast->tx,le_refl->Ot
open Bool renaming true_and->Et,false_and->Tv
open Prod renaming fst->XC
namespace Go.Proofs.YtpdlpabnlkofmaaGreatDoor
open Go.Fw
theorem C64(K:hM)(p:Nat)(m:gC)(rF:List cK)(lv:Value)(vP:List cB)(F:Nat->Prop)(w:World)(hF:(mM K p m).p w F)(hK:∀w',gD F w w'->K w')(hrm:1<=m.room/\m.room<=16)(hlk:(cH m.p).length<=1000)(hl:∀w',gD F w w'->cZ (λ_=>True) w' lv vP)(htv:Du K vP rF)
   (iv:∀t∈rF,yx (cT m.p) (cH m.p) (wG t)/\t.body=(Im t.body).flat) (hbz:∀t∈rF,t.body.length<=100000) (hn:rF.length<=1000) :
   CR 64 [.pointer (some ⟨p,0,none⟩),lv] w (λv w'=>v=.tuple #[]/\mT F (mM K p (qP m rF)) w w'):=by
 have u:=St.begin hF;have Hu:=htv.1;refine alV _ _ _ _ ?_;unfold S64;obtain⟨a,hu,u⟩:=mM.open u;have pD:=u.p4.fG
 have UO:∀w,K w->cZ (λ_=>True) w (jr a.pv.eE) m.p.eE:=λw hw=>by
  obtain⟨g0,g1,g2,g3,g4,g5,e,_,_,h2,_⟩:=hu.pr w hw;rw[e];exact DL.flat h2
 have HC:(cH m.p).length=m.p.eE.length:=by unfold cH;rw[mW]
 refine aD (aA lY (aR u Ay (dQ rfl) rfl λ_ u=>aD (aA vv (aR u dX (dQ rfl) rfl λ_ u=>?_))));have u:=(((u.p2.drop.p2.drop.p2.drop.eU (α:=Int)).p2).p1).p2;refine⟨λmm x w'=>∃(k:Nat) (ov:Value),x=ir (k:Int)/\mm=(cH m.p).length-k/\k<=(cH m.p).length/\St w F [bX p (pf {a with ow:=ov,ll:=.slice none 0 0} m),bF ov (oz k (-1:Int)),gq a.q m.mem] w',⟨_,0,_,rfl,rfl,l2 _,u⟩,?_⟩;rintro mm _ _ ⟨k,ov,rfl,rfl,RK,u⟩ _;refine aD (aA pZ (aA nO (aB jD u.hb rfl (aI ic (UO _ (hK _ u.aF)) (aN (aC (λc=>?_) λc=>?_))))))
 .refine aD (aA vv (aB dX u.hb rfl (bD ([-1]:List Int) u cQ rfl rfl (dQ rfl) λs27 _ u=>?_)));have amp:=u.dS;exact bJ u.p2 cQ amp (by rw[List.length_replicate,nh];omega) dy (λs28 _ u=>have u:=u.p1.drop;aD (aA vv (aR u.p1 dX (dQ rfl) u.dS.one λ_ u=>aJ bL ⟨_,bL,k+1,s28,rfl,rfl,bL,by rw[List.replicate_succ'];exact u⟩)))
 rw[show k=(cH m.p).length from bL]at u;have u:=((((((u.qu (H:=Om K m.room)).eU (α:=Ptr)).p4).p4).p3).p3).p4;refine⟨λmm x w'=>∃(j:Nat) (OH:Value) (ps:List Ptr),x=ir (j:Int)/\mm=vP.length-j/\j<=vP.length/\St w F [bX p (pf {a with ow:=ov,ll:=OH} m),bF OH ps,fR (Om K m.room) ps ((rF.take j).map Vf),bF ov (oz (cH m.p).length (-1:Int)),gq a.q m.mem] w',⟨_,0,_,_,rfl,rfl,l2 _,u⟩,?_⟩;rintro mm _ _ ⟨j,OH,ps,rfl,rfl,hj1,u⟩ _;refine aI fu (hl _ u.aF) (aN (aC (λc2=>?_) λc2=>?_));rotate_left
 .rw[la bL]at u;have u:=u.p2.p2.p3.p4.p4;exact⟨rfl,(mM.shut (m:=qP m rF) (a:={a with ow:=ov,ll:=OH,ps:=ps}) ⟨hu.pr,hu.rc⟩ u).mut⟩
 obtain⟨tv,Rn⟩:=gx vP (i:=((j:Nat):Int).toNat) bL;obtain⟨t,ht⟩:=gx rF (i:=j) bL;obtain⟨B,Z,rows,rfl,Y,hgb⟩:=htv.2 j _ _ Rn ht;obtain⟨Oq,U⟩:=iv t (kO ht);have G6:t.dO.length<=1000:=Oq.nb;have hpo:=Oq.p
 have atz:(Im t.body).str:=by
  have h2:F8 (Vc (cT m.p) (cH m.p) t.dO) (jm (Im t.body) false []):=hpo;cases hb:Im t.body with
  | nil=>trivial
  | cons x c d r=>rw[hb]at h2;exact h2.st _ (o4 ..)
 have atA:(Im t.body).flat.length<=100000:=by rw[<- U];exact hbz t (kO ht)
 refine⟨_,?_,λ_ h=>h⟩;refine aD (aA R6 (aB bO u.hb rfl (dR anK (C58 m.room _) ?_)));rintro v43 _ hh;obtain⟨_,_,b43,rfl,cE⟩:=hh.resolve_left (λ_=>bL);have u:=u.made cE;refine aO rfl (aO rfl ?_);refine⟨λt8 w'=>∃tb,t8=.pointer (some ⟨tb,0,none⟩)/\St w F [ma K tb m.room (wG t),bX p (pf {a with ow:=ov,ll:=OH} m),bF OH ps,fR (Om K m.room) ps ((rF.take j).map Vf),bF ov (oz (cH m.p).length (-1:Int)),gq a.q m.mem] w',?_,?_⟩
 .refine Gw (Wd:=λw'=>gD F w w') fu hl u.aF bL Rn (λq50 h50=>Gy Z lG h50 u.aF rfl rfl λq51 O=>have u:=u.drew;aE (x:=Z) jG (O _ u.aF) (Gw (Wd:=λw'=>gD F w w') fu hl u.aF bL Rn λq56 h56=>Gy B fS h56 u.aF rfl rfl λq57 E=>aE (x:=B) je (E _ u.aF) (Gw (Wd:=λw'=>gD F w w') fu hl u.aF bL Rn λq61 h61=>Gy B fS h61 u.aF rfl rfl λq62 W=>aE (x:=B) je (W _ u.aF) (aI iu (Y _ (hK _ u.aF)) ⟨?_,?_,trivial⟩))))
  .refine dR Oe (C128 K Z rows (Im t.body) _ (λ_ e=>hK _ (u.aF.then e)) atz (λw=>by rw[<- U];exact hgb w) atA) ?_;rintro s53 w9 ⟨ds,M,cE⟩;have u:=u.made cE;refine⟨fq (x:=B) je (E _ u.aF),?_⟩;refine⟨fq (x:=B) je (W _ u.aF),?_⟩;refine uD (0:Int) u cQ tB bL bL dy (λs52 w11 u=>?_);rw[tx]at u;refine⟨fq (x:=Z) jG (O _ u.aF),?_⟩;refine⟨fq (x:=B) je (E _ u.aF),?_⟩;obtain⟨J,rfl⟩:=u.fK;obtain⟨I,rfl⟩:=u.p1.fK;refine pop (xU I.a I.n I.cap B.a B.n B.cap J.a J.n J.cap (some ⟨b43,0,none⟩)) (jZ u λG w12 u=>?_)
   have u:=u.p2.freeze.p2.p3.p3;have V:RTK K B ds (wG t):=⟨Y,by show kY K ds (wB (jm (Im t.body) false []));rw[vm];show kY K ds (Ed false (Im t.body)++[]);rw[qb];exact M,Gs.push λ_ h=>by cases h⟩;exact⟨G,rfl,ma.shut (t:=wG t) V u⟩
  refine uD (0:Int) u cQ tB bL bL dy (λs52 w11 u=>?_);rw[tx]at u;refine⟨fq (x:=Z) jG (O _ u.aF),?_⟩;refine⟨fq (x:=B) je (E _ u.aF),?_⟩;refine dR Oe (C128 K Z rows (Im t.body) _ (λ_ e=>hK _ (u.aF.then e)) atz (λw=>by rw[<- U];exact hgb w) atA) ?_;rintro s53 w9 ⟨ds,M,cE⟩;have u:=u.made cE;refine⟨fq (x:=B) je (E _ u.aF),?_⟩;refine⟨fq (x:=B) je (W _ u.aF),?_⟩;obtain⟨J,rfl⟩:=u.p1.fK;obtain⟨I,rfl⟩:=u.fK;refine pop (xU I.a I.n I.cap B.a B.n B.cap J.a J.n J.cap (some ⟨b43,0,none⟩)) (jZ u λG w12 u=>?_)
  have u:=u.p1.freeze.p2.p3.p3;have V:RTK K B ds (wG t):=⟨Y,by show kY K ds (wB (jm (Im t.body) false []));rw[vm];show kY K ds (Ed false (Im t.body)++[]);rw[qb];exact M,Gs.push λ_ h=>by cases h⟩;exact⟨G,rfl,ma.shut (t:=wG t) V u⟩
 rintro _ _ ⟨G,rfl,u⟩ _;have aAJ:BQ (wG t):=⟨λ_ hv=>by rw[(List.mem_replicate.1 hv).2];exact iy,λ_ hy=>by cases hy⟩;refine aY ah1 u (H':=λ_=>ma K G m.room (Vf t)) (Φ:=λ_ _=>True) (λF2 ek dU=>?_) ?_
 .exact(C129 K G m.room (wG t) (Vf t) _ _ _ F2 _ ek (λw' hc=>hK w' (dU w' hc).aF) Oq aAJ (qI Oq).1).mono λ_ _ r=>r.mono λ_ _ h=>⟨trivial,h.2⟩
 rintro _ _ _ u;refine aD (aA lY ?_);have ng:=u.p3.fG;rw[mW,l9]at ng;refine aB Ay u.p1.hb rfl (bD ([(⟨G⟩:Ptr)]) u B4 rfl rfl (dQ rfl) λs67 _ u=>?_);have abI:=u.dS;refine bJ u.p3 B4 abI (by simp;omega) dy (λs68 _ u=>have u:=u.p1.drop;aD (aA lY (aR u.p2 Ay (dQ rfl) u.dS.one λ_ u=>?_)));have u:=(((((St.AN (H:=Om K m.room) (p:=⟨G⟩) (x:=Vf t) u.p2.p3).p4).p4).p2).p4).p4;intro _;exact aJ bL ⟨_,bL,j+1,s68,ps++[⟨G⟩],rfl,rfl,bL,by rw[<- fV (k:=j) ht];exact u⟩
def zi:List Int->Int->Int
 | [],n=>n
 | c::r,n=>if n<=100 then zi r (n*(c+1))else n
def IT(l:List Int):Int:=zi l 1
def Rq{l:List Int}{k:Nat}{c n:Int}(h:l[k]?=some c)(u:n<=100):zi (l.drop k) n=zi (l.drop (k+1)) (n*(c+1)):=by
 obtain⟨h1,h2⟩:=kE.1 h
 rw[List.drop_eq_getElem_cons h1,h2,zi,ej u]
theorem VZ{l:List Int}{k:Nat}{n:Int}(h:l.length<=k\/¬ n<=100):zi (l.drop k) n=n:=by
 rcases h with h|h
 .rw[List.drop_eq_nil_of_le h];rfl
 cases l.drop k with
 | nil=>rfl
 | cons c r=>rw[zi,ei h]
theorem V0{l:List Int}{k:Nat}{c:Int}(h:l[k]?=some c):qF l (k+1)=BM (BM (10000*qF l k)+c):=by rw[F7 h,Int.mul_comm]
def ams{n c:Int}(u:0<=n)(h1:n<=100)(h2:0<=c)(h3:c<=1000000):0<=n*(c+1)/\n*(c+1)<=100*1000001:=
 ⟨Int.mul_nonneg u bL,Int.mul_le_mul h1 bL bL bL⟩
def C16(lv:Value)(l:List Int)(w:World)(V:cZ (λ_=>True) w lv l)(hn:l.length<=1000)(W:∀c∈l,0<=c/\c<=1000000):CR 16 [lv] w (λv w'=>v=ir (IT l)/\Ext w w'):=by
 have u:=St.start w;refine fb Tryz.func16 ?_;refine⟨λO y x I=>∃(k:Nat) (n:Int),y=ir n/\x=ir (k:Int)/\O=l.length-k/\k<=l.length/\0<=n/\IT l=zi (l.drop k) n/\St w aX [] I,⟨_,0,1,rfl,rfl,rfl,l2 _,bL,rfl,u⟩,?_⟩;rintro O _ _ I ⟨k,n,rfl,rfl,rfl,hk,h0,B,u⟩ _;refine⟨λY w'=>Y=.bool (decide (k<l.length/\n<=100))/\I=w',aI cQ (V.ext u.aF) (aN (aC (λ_=>gu ⟨yd bL,rfl⟩) λ_=>⟨Uf bL,rfl⟩)),?_⟩;rintro _ _ ⟨rfl,hw⟩ _;subst hw;refine aC (λJ=>?_) (λJ=>?_)
 .have E:k<l.length/\n<=100:=by simpa using J
  obtain⟨qx,M⟩:=gx l (i:=(k:Int).toNat) bL;refine aK cQ V bL M (λ_ si=>aE bO (si.ext u.aF) ?_);have G:=W _ (kO M);refine aJ bL ?_;have Z:=ams h0 E.2 G.1 G.2;exact DG bL (aJ bL ⟨_,bL,k+1,_,rfl,rfl,rfl,bL,Z.1,by rw[B];exact Rq M E.2,u⟩)
 have U:¬ (k<l.length/\n<=100):=by simpa using J
 rw[B,VZ bL];exact⟨rfl,u.aF⟩
def C94(cv:Value)(cut:List Int)(w:World)(B:cZ (λ_=>True) w cv cut)(V:cut.length<=1000000):CR 94 [cv] w (λv w'=>v=ir (qF cut cut.length)/\Ext w w'):=by
 have u:=St.start w;refine aiD _ _ _ ?_;unfold S94;refine⟨λG n x I=>∃k:Nat,n=ir (qF cut k)/\x=ir (k:Int)/\G=cut.length-k/\k<=cut.length/\St w aX [] I,⟨_,0,rfl,rfl,rfl,l2 _,u⟩,?_⟩;rintro G _ _ I ⟨k,rfl,rfl,rfl,U,u⟩ _;refine aI cQ (B.ext u.aF) (aN (aC (λM=>?_) λ_=>⟨by rw[show cut.length=k from bL],u.aF⟩));refine xf ?_;obtain⟨O,E⟩:=gx cut (i:=(k:Int).toNat) bL;exact aK cQ B bL E (λ_ J=>aE bO (J.ext u.aF) (uL (aJ bL ⟨_,bL,k+1,by rw[V0 (k:=k) E],rfl,rfl,bL,u⟩)))
def Ou{p:cR}(hc:IC p){t:cK}(ht:t∈gl p):t.body.length<=40:=by
 obtain⟨_,h2,_⟩:=hc.f.rF ht
 exact(lr h2).1
def Rr{m:Mem}{cut:List Int}{v:Value}{p:Nat}{F:Nat->Prop}{w w':World}
  (h:(fh m cut=none/\v=ir 1/\mT F (gq p m) w w')\/∃u,fh m cut=some u/\v=ir 0/\mT F (gq p (mF m u)) w w') :
  True/\mT F (oO λE=>fact (Eg m cut v E) (gq p E)) w w':=by
 refine⟨trivial,?_⟩
 rcases h with⟨h1,h2,B,h3,h4,h5⟩|⟨u,h1,h2,B,h3,h4,h5⟩
 .exact⟨B,⟨m,.inl ⟨h1,rfl,h2⟩,h3⟩,h4,h5⟩
 exact⟨B,⟨mF m u,.inr ⟨u,h1,rfl,h2⟩,h3⟩,h4,h5⟩
theorem afX{m:gC}{q:cS}(h:q.kind=3):(eW m).any (nd q)=false:=by
 cases ha:(eW m).any (nd q)with
 | false=>rfl
 | true=>obtain⟨_,_,_,t,_,h2⟩:=alL ha;omega
theorem abJ{m:gC}{q:cS}(h:iS m q=none)(u:(eW m).any (nd q)=false):kx m q=(m,⟨0,0,0,0,0⟩,13):=by
 grind[kx]
def abK{K:hM}{m:gC}{u:List cB}(hc:IC m.p)(E:Du K u m.p.recover):Du K ((u++[(⟨⟨#[]⟩,cG,cG,0⟩:cB)]).take 1) (vf m):=by
 have h1:=hc.f.one
 have B:=E.1
 unfold vf
 split
 .have G:m.p.recover=[]:=vq.1 (by assumption)
  rw[G]at B
  have:u=[]:=vq.1 B
  subst this
  exact ah8 _
 grind
def aAK:PL 63:=dJ Tryz.func63
def C13(K:hM)(p:cR)(pv:bP)(room:Int)(w:World)(G:∀w',Ext w w'->K w')(E:PrK K pv p)(I:PZ p):CR 13 [jr pv,ir room] w (λv w'=>(fr p≠0/\v=.tuple #[.pointer none,ir (fr p)]/\Ext w w')\/(fr p=0/\(room<1\/16<room)/\v=.tuple #[.pointer none,ir 1]/\Ext w w')\/
  (fr p=0/\(1<=room/\room<=16)/\∃b:Nat,v=.tuple #[.pointer (some ⟨b,0,none⟩),ir 0]/\lf (mM K b (Bp p room)) w w')):=by
 have u:=St.start w;refine alR _ _ _ _ ?_;unfold S13;refine cP (x:=pv) u (λbp w1 u=>aE fp u.At (dR avF (C57 p pv _ (E.pr _ (G _ u.aF)) I) ?_));rintro _ _ ⟨aa,rfl,J⟩;have u:=u.ext J;refine aO rfl (aO rfl (bW (aC (λc=>?_) λc=>?_)))
 .exact .inl ⟨c,rfl,u.drop.aF⟩
 have W:fr p=0:=bL
 have O:=Ea W;have Ia:=aaU O;have Ag:=BA p;refine dR anK (C58 room _) ?_;rintro v3 _ hh
 rcases hh with⟨Y,rfl,J⟩|⟨GQ,GH,b3,rfl,M⟩
 .have u:=u.ext J;exact aO rfl (aO rfl (bW (qf dy (.inr (.inl ⟨W,Y,rfl,u.drop.aF⟩)))))
 have u:=(u.made M).drop;refine aO rfl (aO rfl (bW (eO dy (bD ([]:List Int) u cQ rfl rfl (dQ rfl) λs31 _ u=>?_))));refine⟨λmm o y w1=>∃k:Nat,y=ir (k:Int)/\mm=(iJ p).length-k/\k<=(iJ p).length/\St w aX [bF o ((Bo p).take k),bX bp (kp pv)] w1,⟨_,0,rfl,rfl,l2 _,u⟩,?_⟩;rintro mm o _ _ ⟨k,rfl,rfl,hk,u⟩ _;have GI:(Bo p).length=(cT p).length:=by unfold Bo;rw[mW,P6]
 refine aE fp u.p1.At (dB Ui u (C59 p pv _ (E.pr _ (G _ u.aF)) I.toPS) λx34 _ M u=>aI ic u.dS (have u:=u.drop;aN (aC (λc1=>?_) λc1=>?_)))
 .refine aE fp u.p1.At (aV att u (C60 p pv (k:Int) _ (E.pr _ (G _ u.aF)) I) λ_ J u=>bD ([pw p (k:Int)]:List Int) u cQ rfl rfl (dQ rfl) λs49 _ u=>?_);have V:=u.dS;exact bJ u.p1 cQ V (by rw[l9,nh];omega) dy (λ_ _ u=>aJ bL ⟨_,bL,k+1,rfl,rfl,bL,by rw[<- gg (Kv (p:=p) (i:=k) bL)];exact u.p1.drop⟩)
 rw[la bL]at u;have u:=u.drew;refine aE fp u.p1.At (aE fp u.p1.At (aV acD u (C62 p pv _ (E.pr _ (G _ u.aF)) I) λ_ J u=>?_));refine⟨fq fp u.p1.At,?_⟩;refine dB aAK u (C63 p pv _ (E.pr _ (G _ u.aF)) I) (λx58 _ M u=>?_);have ie:=vi p;have td:(fB p).length=(iJ p).length:=by unfold fB;rw[mW]
 refine dR avG (C61 (Bo p) (fB p) (eL p) _ _ _ u.p1.dS u.dS bL bL bL λk n h1 h2=>?_) ?_
 .have h3:=Rb O h1 h2;have h4:=(kE.1 h2).1;exact⟨h3.1,bL,bL⟩
 rintro v59 _ ⟨q,rfl,M⟩;have u:=((u.made M).p1.drop).p1.drop;refine aO rfl (aO rfl (aE (x:=pv) fp u.p1.At (pop (Od _ _ _ _ _ _ _ _ _ _ _ _ _ _ _ _ _ _ _ _) (jZ u λB OC u=>aA kD (aB (v:=jr pv.threads) iq u.p2.hb rfl ?_)))));have u:=((u.p2.drop.qu (H:=Om K room)).eU (α:=Ptr)).eU (α:=Int)
 have u:St w aX (bX B (pf ⟨pv,q,.slice none 0 0,.slice none 0 0,[]⟩ (xM p room))::gq q (J4 (Bo p) (eL p) (fB p))::bF (.slice none 0 0) ([]:List Int)::bF (.slice none 0 0) ([]:List Ptr)::fR (Om K room) [] []::[]) OC:=by
  have h1:=u.p4.p4
  first|exact h1|exact u.p3.p4|exact u.p4.p4
 obtain⟨vP,Z,U⟩:=E.th;obtain⟨Wr,QS,hr4⟩:=E.rc;have u:=mM.shut (K:=K) (m:=xM p room) ⟨E.pr,⟨Wr,QS,hr4⟩⟩ u;refine aY atf u (H':=λ_=>mM K B (Bp p room)) (Φ:=λ_ _=>True) (λF2 ek dU=>?_) ?_
 .exact(C64 K B (xM p room) p.threads _ vP F2 _ ek (λw' hc=>G _ (dU w' hc).aF) ⟨GQ,GH⟩ (by have:=I.eE;show(cH p).length<=_;unfold cH;rw[mW];omega) (λw' hc=>Z w' (G _ (dU w' hc).aF)) U
   (λ_ ht=>⟨Eb O (List.mem_append_left _ ht),Ef O (List.mem_append_left _ ht)⟩) (λ_ ht=>vJ (Ou O (List.mem_append_left _ ht)) dy) (by have:=I.threads;omega)).mono λ_ _ r=>r.mono λ_ _ h=>⟨trivial,h.2⟩
 rintro _ _ _ u;exact .inr (.inr ⟨W,⟨GQ,GH⟩,B,rfl,u.fresh⟩)
theorem C25(K:hM)(p:Nat)(m:gC)(q:cS)(M:SV)(F:Nat->Prop)(w:World)(hF:(mM K p m).p w F)(hK:∀w',gD F w w'->K w')(O:lX m)(hvo:Kx m)(wK:IC m.p)(mO:MB m.mem 1000000)(hcb:0<=m.dz/\m.dz<=1000000)(Wq:m.mem.ef=fB m.p)(hKx:∀w1,gD F w w1->∀w2,Ext w1 w2->K w2)(Dz:∀w',gD F w w'->cZ (λ_=>True) w' (jr M) q.cut)(hql:q.cut.length<=1000) :
   CR 25 [.pointer (some ⟨p,0,none⟩),jr (⟨q.kind,q.t,q.i,M⟩:dC)] w (λv w'=>v=.tuple #[jr (kx m q).2.1,ir (kx m q).2.2]/\mT F (mM K p (kx m q).1) w w'):=by
 have u:=St.begin hF;refine pj Tryz.func25 (pl:=P25) ?_;refine cP (x:=(⟨q.kind,q.t,q.i,M⟩:dC)) u (λb3 w1 u=>aQ u kf λb4 w2 u=>?_);have u:=u.enc (cs':=kp (⟨0,0,0,0,0⟩:cA)) rfl;have Wi:iS m q=(if q.kind=3/\q.t=0/\q.i=0/\m.fault=0 then fh m.mem q.cut else none):=rfl;refine aA qc (aB (v:=ir q.kind) bO u.p1.hb rfl (aG (aC (λc1=>?_) λc1=>?_)))
 .have u:=u.drew;have u:=u.p2;obtain⟨a,hu,u⟩:=mM.open u;have pD:=u.p4.fG;refine aD (aA oJ (aB Ax u.hb rfl (aA nP (aB (v:=jr (M:SV)) dX u.p6.hb rfl (dR aiE ((C92 a.q m.mem q.cut _ _ (Gx u.p1.has) O.mem mO (Dz _ u.aF) hql).mono (R':=tu λv w'=>∃(o:Value) (e:Int),v=.tuple #[o,ir e]/\(e=0↔(fh m.mem q.cut).isSome=true)/\Ext (drew w2) w') λ_ _ r=>r.mono λv w' h=>?_) ?_)))))
  .rcases h with⟨h1,rfl,h3⟩|⟨B,o,h1,rfl,h3⟩
   .exact⟨_,_,rfl,by rw[h1];decide,h3⟩
   obtain⟨_,_,_,h4⟩:=h3;exact⟨_,_,rfl,by rw[h1];exact⟨λ_=>rfl,λ_=>rfl⟩,h4⟩
  rintro _ w3 ⟨o21,e23,rfl,hee,he⟩;have u:=u.ext he;refine aO rfl (aO rfl ?_);refine⟨λjv w'=>jv=.bool (!(iS m q).isSome)/\w'=w3,?_,?_⟩
  .have U:¬ (q.t=0/\q.i=0/\m.fault=0/\e23=0)->(iS m q).isSome=false:=λh=>by
    rw[Wi];split
    .rename_i h2
     cases hi:(fh m.mem q.cut).isSome with
     | false=>rfl
     | true=>exact absurd ⟨h2.2.1,h2.2.2.1,h2.2.2.2,hee.2 hi⟩ h
    .rfl
   refine aA lz (aB (v:=ir q.t) bO u.p6.hb rfl (bW (aC (λc2=>⟨vb (by rw[U bL];rfl),rfl⟩) λc2=>aA qd (aB (v:=ir q.i) bO u.p6.hb rfl (bW (aC (λJ=>⟨vb (by rw[U bL];rfl),rfl⟩) λJ=>bW (aC (λE=>⟨vb (by rw[U bL];rfl),rfl⟩) λE=>aD (aA vw (aB bO u.hb rfl ?_)))))))));refine bW ?_;refine⟨vb ?_,rfl⟩
   by_cases hf:m.fault=0
   .rw[Wi,ej ⟨c1,bL,bL,hf⟩,hee.1 bL,ez bL];rfl
   rw[U bL,ew hf];rfl
  rintro _ w4 ⟨rfl,rfl⟩ rn;refine aW (λc=>?_) (λc=>?_)
  .have G:iS m q=none:=by
    cases h:iS m q with
    | none=>rfl
    | some B=>rw[h]at c;cases c
   rw[abJ G (afX c1)];exact pop J8 (aM (x:=(⟨0,0,0,0,0⟩:cA)) u.p5 eQ rfl rfl λw5 u=>aE (x:=(⟨0,0,0,0,0⟩:cA)) eQ u.At (have u:=u.drop.p5.drop.p4.p4.p4.p4.p4;⟨rfl,(mM.shut hu u).mut⟩))
  obtain⟨B,G⟩:∃B,iS m q=some B:=Option.isSome_iff_exists.1 (by simpa using c);have UW:fh m.mem q.cut=some B:=by rw[Wi]at G;split at G;exact G;cases G
  have Y:kx m q=(qP (o9 m B) (vf m),⟨15,0,0,qF q.cut q.cut.length,0⟩,0):=by unfold kx;rw[G]
  rw[Y];have u:=u.drew;refine aD (aA oJ (aB Ax u.hb rfl (aA nP (aB (v:=jr (M:SV)) dX u.p6.hb rfl (have u:=u.p1;aY avT u (H':=λv=>oO λm2=>fact (Eg m.mem q.cut v m2) (gq a.q m2)) (Φ:=λ_ _=>True) (λV Z W=>?_) ?_)))))
  .exact(C93 a.q m.mem V q.cut _ _ Z O.mem mO (λw' hc=>Dz w' (W w' hc).aF) hql).mono λ_ _ r=>r.mono λ_ _ h=>Rr h
  rintro v34 w6 _ xE;obtain⟨m2c,zh⟩:=xE.dK
  clear xE
  obtain⟨hcf,u⟩:=zh.j4
  clear zh
  obtain⟨I,_⟩|⟨aAL,I,rfl,rfl⟩:=hcf
  .rw[UW]at I;cases I
  obtain rfl:B=aAL:=Option.some.inj (UW.symm.trans I);refine aD (aA Az (aB bO u.p1.hb rfl (aJ (show -9223372036854775808<=m.dz+1/\m.dz+1<=9223372036854775807 by omega) (aD (aA Az (aR u.p1 bO (dQ rfl) rfl λw7 u=>?_))))));obtain⟨Wr,QS,hr4⟩:=id hu.rc;have G6:=hr4.1;have GQ:m.p.recover.length<=1:=wK.f.one;refine bD ([]:List cB) u fu rfl rfl (dQ rfl) (λs59 w8 u=>aD (aA pZ (aA oI (aB iq u.p1.hb rfl (bJ u fu (QS _ (hK _ u.aF)) (by simp;omega) dy λs65 w9 u=>pop (v:=jr (⟨⟨#[]⟩,cG,cG,0⟩:cB)) (by kernel_rfl) (bD ([⟨⟨#[]⟩,cG,cG,0⟩]:List cB) u fu rfl rfl (dQ rfl) λs68 w10 u=>?_))))))
  have abI:=u.dS;refine bJ u.p1 fu abI (by simp;omega) dy (λs69 w11 u=>?_);have u:=u.p1.drop;rw[List.nil_append]at u;refine kh fu u.dS bL (by simp;omega) (λs72 h72=>?_);have u:=((mM.shut (m:=o9 m B) ⟨hu.pr,hu.rc⟩ u.p5.p5.p5.p5.p5).p1).p1;obtain⟨aAH,amr⟩:=Ku wK;refine aY atf u (H':=λ_=>mM K p (qP (o9 m B) (vf m))) (Φ:=λ_ _=>True) (λV Z W=>?_) ?_
  .refine(C64 K p (o9 m B) (vf m) _ _ V _ Z (λw' hc=>hK w' (W w' hc).aF) O.rm (by have:=O.pz.eE;show(cH m.p).length<=_;unfold cH;rw[mW];omega) (λw' hc=>h72 w' (W w' hc).dS) (abK wK hr4) (λt ht=>⟨amr t ht,?_⟩) (λt ht=>?_) bL).mono λ_ _ r=>r.mono λ_ _ h=>⟨trivial,h.2⟩
   .unfold vf at ht
    split at ht
    .rw[vS.1 ht];rfl
    exact Ef wK (List.mem_append_right _ ht)
   unfold vf at ht
   split at ht
   .rw[vS.1 ht];exact l2 _
   exact vJ (Ou wK (List.mem_append_right _ ht)) dy
  rintro _ w12 _ u;exact aA nP (aB (v:=jr (M:SV)) dX u.p3.hb rfl (aV avU u (C94 _ q.cut _ (Dz _ u.aF) bL) λw13 he u=>pop (rI 15 (qF q.cut q.cut.length)) (aM (x:=(⟨15,0,0,qF q.cut q.cut.length,0⟩:cA)) u.p2 eQ rfl rfl λOC u=>aE (x:=(⟨15,0,0,qF q.cut q.cut.length,0⟩:cA)) eQ u.At (have u:=u.drop.p2.drop.p1.drop;⟨rfl,u.mut⟩))))
 have G:iS m q=none:=by rw[Wi,ei λh=>c1 h.1]
 have u:=u.p1.p1.p2;refine dB aa5 u (C22 K p m _ u.has (λw' e=>hKx _ u.aF _ e) O) (λx79 w15 cE u=>?_);obtain⟨ss,u⟩:=u.v8;have Pl:=u.p1.eC.1;have ng:=vQ O;have u:=u.p1.p1.p4.p4.p4;refine⟨λmm y w'=>∃k:Nat,y=ir (k:Int)/\mm=ss.length-k/\k<=ss.length/\(∀(j:Nat) (x:cS),j<k->(eW m)[j]?=some x->nd q x=false)/\St w F [mM K p m,bX b4 (kp (⟨0,0,0,0,0⟩:cA)),bX b3 (kp (⟨q.kind,q.t,q.i,M⟩:dC)),bF x79 ss,eC (gd ss (eW m))] w',⟨_,0,rfl,rfl,l2 _,λj x h=>absurd h (Nat.not_lt_zero _),u⟩,?_⟩;rintro mm _ w16 ⟨k,rfl,rfl,hk,U,u⟩ vp
 refine aI kB u.p3.dS (aN (aC (λc2=>?_) λc2=>?_));rotate_left
 .have wL:(eW m).any (nd q)=false:=by
   rw[List.any_eq_false];intro x hx;obtain⟨j,hj⟩:=yA.1 hx;have:=(kE.1 hj).1;rw[U j x bL hj];decide
  rw[abJ G wL];exact pop J8 (aM (x:=(⟨0,0,0,0,0⟩:cA)) u.p1 eQ rfl rfl λw22 u=>aE (x:=(⟨0,0,0,0,0⟩:cA)) eQ u.At (have u:=u.drop.p1.drop.p1.drop.p1.drop;⟨rfl,u.mut⟩))
 obtain⟨s,Zf⟩:=gx ss (i:=((k:Nat):Int).toNat) bL;obtain⟨x,hxk⟩:=gx (eW m) (i:=k) bL;obtain⟨gx,rfl,_⟩:=u.p4.eC.2 k s x (by rw[<- tx k];exact Zf) hxk;refine⟨λjv w'=>jv=.bool (nd q x)/\St w F [mM K p m,bX b4 (kp (⟨0,0,0,0,0⟩:cA)),bX b3 (kp (⟨q.kind,q.t,q.i,M⟩:dC)),bF x79 ss,eC (gd ss (eW m))] w',?_,?_⟩
 .have Ae:nd q x=(decide (x.kind=q.kind)&&decide (x.t=q.t)&&decide (x.i=q.i)&&decide (q.cut.length=0)):=by unfold nd;first|rfl|(simp only[eq_comm])
  have u:=u.drew;refine aK kB u.p3.dS bL Zf (λq0 h0=>bT x.kind qc h0 rfl rfl λr0 g0=>aE (x:=x.kind) bO g0 (aA qc (aB (v:=ir q.kind) bO u.p2.hb rfl (aG (aC (λJ=>?_) λJ=>⟨vb (by rw[Ae,ez J];simp),u⟩)))));refine aK kB u.p3.dS bL Zf (λq1 h1=>bT x.t lz h1 rfl rfl λr1 g1=>aE (x:=x.t) bO g1 (aA lz (aB (v:=ir q.t) bO u.p2.hb rfl ?_)));exact aG (aC (λE=>aK kB u.p3.dS bL Zf λq2 h2=>bT x.i qd h2 rfl rfl λr2 g2=>aE (x:=x.i) bO g2 (aA qd (aB (v:=ir q.i) bO u.p2.hb rfl (aG (aC (λc5=>aA nP (aB (v:=jr (M:SV)) dX u.p2.hb rfl (aI cQ (Dz _ u.aF) (aG ⟨vb (by rw[Ae,ew J,ew E,ew c5];exact fN.2 bL),u⟩)))) λc5=>⟨vb (by rw[Ae,ez c5];simp),u⟩))))) λE=>⟨vb (by rw[Ae,ez E];simp),u⟩)
 rintro _ w17 ⟨rfl,u⟩ yl;refine aW (λJ=>?_) (λJ=>?_);rotate_left
 .refine aJ bL ?_;refine⟨_,bL,k+1,rfl,rfl,bL,λj x' hj hx'=>?_,u⟩
  by_cases e:j=k
  .subst e;rw[hxk]at hx';cases hx';exact J
  exact U j x' bL hx'
 have wL:(eW m).any (nd q)=true:=List.any_eq_true.2 ⟨x,kO hxk,J⟩;obtain⟨hf0,h0,_,t,ht,hkd⟩:=alL wL;have Y:kx m q=(if (eW m).any (nd q)=true then(if q.kind=2 then(match m.l[q.t.toNat]? with|some t=>((tq m t q,tj q.t (dF t.buf q.i),0):gC×cA×Int)|none=>(m,⟨0,0,0,0,0⟩,13))else((im m q.t).1,(im m q.t).2,0))else(m,⟨0,0,0,0,0⟩,13)):=by unfold kx;rw[G];rfl
 rw[Y,ej wL];refine aA qc (aB (v:=ir q.kind) bO u.p2.hb rfl (aG (aC (λE=>?_) λE=>?_)))
 .rw[ej E,ht];refine aA lz (aB (v:=ir q.t) bO u.p2.hb rfl (aA qd (aB (v:=ir q.i) bO u.p2.hb rfl (aY az7 u (H':=λ_=>mM K p (tq m t q)) (Φ:=λv _=>v=jr (tj q.t (dF t.buf q.i))) (λV Z W=>?_) ?_))))
  .exact C95 K p m q q.t q.i rfl rfl t V _ Z O mO h0 ht
  rintro _ w18 rfl u;exact aM (x:=tj q.t (dF t.buf q.i)) u.p1 eQ rfl rfl (λw19 u=>aE (x:=tj q.t (dF t.buf q.i)) eQ u.At (have u:=u.drop.p1.drop.p1.drop.p1.drop;⟨rfl,u.mut⟩))
 rw[ei E]
 have uo:sQ m t=true:=by
  rcases hkd with h|h
  .exact h.2
  .exact absurd h.1 E
 refine aA lz (aB (v:=ir q.t) bO u.p2.hb rfl (aY az6 u (H':=λ_=>mM K p (im m q.t).1) (Φ:=λv _=>v=jr (im m q.t).2) (λV Z W=>?_) ?_))
 .exact C96 K p m q.t t V _ Z (λw' hc=>hK w' (W w' hc).aF) O hvo mO h0 ht uo Wq
 rintro _ w20 rfl u;exact aM (x:=(im m q.t).2) u.p1 eQ rfl rfl (λw21 u=>aE (x:=(im m q.t).2) eQ u.At (have u:=u.drop.p1.drop.p1.drop.p1.drop;⟨rfl,u.mut⟩))
def C217(V:Value)(ps:List Ptr)(G:Nat)(first cap:List Value)(g:Nat->Bool)(w:World)(U:cZ (λ_=>True) w V ps)(Z:Plain hH G)(W:∀(i:Nat) (s:Ptr) (B:World),ps[i]?=some s->Ext w B->Calls hH G (first++[jr s]++cap).toArray B (tu λv M=>v=.bool (g i)/\Ext B M))(hn:ps.length<=1073741824):CR 217 [V,(.func (.func G) first.toArray cap.toArray)] w (λv w'=>v=ir (sg g (tg ps.length))/\Ext w w'):=by
 have u:=St.start w;refine fb Tryz.func217 ?_;refine aI AA (U.ext u.aF) ?_;refine⟨λJ y B=>∃k:Nat,y=ir (k:Int)/\J=ps.length-k/\k<=ps.length/\(∀y∈(tg ps.length).take k,g y=false)/\St w aX [] B,⟨_,0,rfl,rfl,l2 _,ee,u⟩,?_⟩;rintro J _ B ⟨k,rfl,rfl,hk,E,u⟩ _;refine aN (aC (λc1=>?_) λ_=>⟨gL (n3 .i64) (jb (by rw[la (by rw[P6];omega)]at E;exact E)).symm,u.aF⟩);obtain⟨e,O⟩:=gx ps (i:=((k:Nat):Int).toNat) bL;refine aK AA (U.ext u.aF) bL O (λq Y=>aE CV Y (gS Z (W k e B O u.aF) ?_))
 rintro _ M ⟨rfl,h2⟩;have u:=u.ext h2;exact aW (λI=>⟨gL (n3 .i64) (l6 E (Jv bL) I).symm,u.aF⟩) (λI=>aJ bL ⟨_,bL,k+1,rfl,rfl,bL,dY E (Jv bL) I,u⟩)
def C142(G:Value)(ps:List Ptr)(E:Nat)(first cap:List Value)(g:Nat->Bool)(w:World)(M:cZ (λ_=>True) w G ps)(O:Plain hH E)(J:∀(i:Nat) (s:Ptr) (B:World),ps[i]?=some s->Ext w B->Calls hH E (first++[jr s]++cap).toArray B (tu λv I=>v=.bool (g i)/\Ext B I))(U:ps.length<=1073741824):CR 142 [G,(.func (.func E) first.toArray cap.toArray)] w (λv w'=>v=.bool ((tg ps.length).any g)/\Ext w w'):=by
 have u:=St.start w;refine fb Tryz.func142 ?_;exact aV aso u (C217 _ ps E first cap g _ (M.ext u.aF) O (λi s B h e=>J i s B h (u.aF.then e)) U) (λ_ _ u=>cO ⟨vb (kN _ _),u.aF⟩)
def C140(K Φ:hM)(p:Nat)(room:Int)(t:jd)(w:World)(B:Has (eJ K Φ p room t) w)(J:K w)(U:t.buf.length<=1000):CR 140 [.pointer (some ⟨p,0,none⟩)] w (λv w'=>v=.bool (!mJ t)/\Ext w w'):=by
 obtain⟨Y,nv,rg,pl,es,W,O,hB,V,M,E,_⟩:=eJ.rd B;have I:=O.cell (o:=3) rfl;have GJ:=E.len;have Z:=qj es;have u:=St.start w;refine fb Tryz.func140 ?_;refine⟨λG w'=>G=.bool (!mJ t)/\Ext w w',?_,?_⟩
 .exact aD (aA iU (bE oK (I.ext u.aF) (aI rU (M.ext u.aF) (cL (aC (λ_=>⟨vb (by unfold mJ;rw[ez (show ¬ t.bV.length=0 from bL)];rfl),u.aF⟩) λ_=>aV ahM u (C141 K Φ p room t _ (B.ext u.aF) U) λ_ _ u=>bN ⟨vb (by unfold mJ;rw[ew (show t.bV.length=0 from bL),Et]),u.aF⟩)))))
 rintro _ _ h _;exact h
def C68(K:hM)(p:Nat)(m:gC)(w:World)(hm:Has (fm K p m) w)(W:∀w',Ext w w'->K w')(Z:lX m):CR 68 [.pointer (some ⟨p,0,none⟩)] w (λv w'=>v=jr (j9 m)/\Ext w w'):=by
 obtain⟨a,B⟩:=fm.rd hm (W _ (Ext.refl _));have wH:=B.b.cell (o:=11) rfl;have I:=B.b.cell (o:=12) rfl;have M:=B.b.cell (o:=13) rfl;have J:=B.b.cell (o:=14) rfl;have hlen:=B.len;have Hu:=Z.tl;have u:=St.start w;refine pj Tryz.func68 (pl:=P68) ?_;refine aQ u AB (λb2 w1 u=>have u:=(u.enc (cs':=kp (⟨0,0,0,false,false⟩:gy)) rfl).drew;aD (aA Jm (bE bO (I.ext u.aF) (aD (aA vy (bE bO (M.ext u.aF) (aD (aA R9 (bE bO (J.ext u.aF) (pop (Ka m.dz m.fault m.iY) (aQ u AB λb4 _ u=>?_)))))))))))
 refine⟨aH bO (I.ext u.aF),?_⟩;refine⟨aH bO (M.ext u.aF),?_⟩;refine⟨aH bO (J.ext u.aF),?_⟩;refine aM (x:=(⟨m.dz,m.fault,m.iY,false,false⟩:gy)) u yR rfl rfl (λ_ u=>?_);refine⟨λw'=>St w aX [bX b4 (kp (⟨m.dz,m.fault,m.iY,qK m,false⟩:gy)),bX b2 (kp (⟨0,0,0,false,false⟩:gy))] w',?_,?_⟩
 .refine aD (aA vy (bE bO (M.ext u.aF) (aG (aC (λE=>?_) λE=>?_))))
  .refine aD (aA mS (bE zz (wH.ext u.aF) ?_))
   refine aV asn u (C142 _ a.ps 140 [] [] (λi=>match m.l[i]? with|some t=>!mJ t|none=>false) _ (B.ll.ext u.aF) asj (λi s w1 h e=>by
    obtain⟨t,ht⟩:∃t,m.l[i]?=some t:=⟨_,List.getElem?_eq_getElem (by have:=(kE.1 h).1;omega)⟩;rw[ht];exact C140 K _ s.b m.room t w1 ((B.th i s t h ht).ext (u.aF.then e)) (W _ (u.aF.then e)) (Z.th t (kO ht)).bl) bL) (λ_ he u=>?_)
   refine bN (aA wU (aR u DH (dQ rfl) rfl λw5 u=>?_));have G:qK m = !((tg a.ps.length).any λi=>match m.l[i]? with|some t=>!mJ t|none=>false):=by unfold qK;rw[ew E,B.len];rfl
   rw[G];exact u
  refine aA wU (aR u DH (dQ rfl) rfl λw5 u=>?_);have G:qK m=false:=by unfold qK;rw[ez E];rfl
  rw[G];exact u
 intro _ u _
 have V:∀(b:Bool) (w':World),vR m=b->St w aX [bX b4 (kp (⟨m.dz,m.fault,m.iY,qK m,b⟩:gy)),bX b2 (kp (⟨0,0,0,false,false⟩:gy))] w'->St w aX [bX b4 (kp (j9 m)),bX b2 (kp (⟨0,0,0,false,false⟩:gy))] w':=λb w' h1 h2=>by
  subst h1;exact h2
 refine⟨λw'=>St w aX [bX b4 (kp (j9 m)),bX b2 (kp (⟨0,0,0,false,false⟩:gy))] w',?_,?_⟩
 .refine aD (aA vy (bE bO (M.ext u.aF) (aG (aC (λE=>?_) λE=>?_))));rotate_left
  .exact aA uE (aR u DH (dQ rfl) rfl λ_ u=>V false _ (by unfold vR;rw[ez E];rfl) u)
  refine aA wU (aB (v:=.bool (qK m)) DH u.hb rfl (bN (aW (λO=>?_) λO=>?_)));rotate_left
  .exact aA uE (aR u DH (dQ rfl) rfl λ_ u=>V false _ (by unfold vR;rw[show qK m=true from by simpa using O];simp) u)
  refine dB aeY u (C67 K p m _ (hm.ext u.aF) (λ_ e=>W _ (u.aF.then e)) Z) (λx45 w7 cE u=>?_);obtain⟨Y,abM,U⟩:=u.dl;refine aI kB abM ?_;rw[show Y.length=(eW m).length from U.1];exact aG (have u:=u.drop;aA uE (aR u DH (dQ rfl) rfl λ_ u=>V (decide (((eW m).length:Int)=0)) _ (by unfold vR;rw[ew E,show qK m=false from by simpa using O];rfl) u))
 intro _ u _;exact aE (x:=j9 m) yR u.At (aM (x:=j9 m) u.p1 yR rfl rfl λ_ u=>aE yR u.At ⟨rfl,u.drop.drop.aF⟩)
def amu{φ:bM->Prop}{p:PD}(h:F8 φ p):(wB p).length=0↔p.length=0:=by
 constructor
 .intro B
  rcases afx (p:=p)with h1|⟨q,u,h2⟩
  .omega
  exact absurd h2 (h.ne q u)
 simp_all[Dq,wB]
def V1(g:Nat->Bool)(k:Nat):(tg (k+1)).any g=((tg k).any g||g k):=cD
def C74(K:hM)(p:Nat)(m:gC)(w:World)(hm:Has (mM K p m) w)(hw:∀w',Ext w w'->K w')(gJ:lX m):CR 74 [.pointer (some ⟨p,0,none⟩)] w (λv w'=>v=jr (j9 m)/\Ext w w'):=by
 obtain⟨a,B⟩:=mM.rd hm;have J:=B.b.cell (o:=7) rfl;have V:=B.b.cell (o:=10) rfl;have G:=B.b.cell (o:=11) rfl;have I:=B.b.cell (o:=12) rfl;have hlen:=B.len;have Hu:=gJ.tl;have u:=St.start w;refine pj Tryz.func74 (pl:=P74) ?_;refine aQ u AB (λb2 _ u=>have u:=(u.enc (cs':=kp (⟨0,0,0,false,false⟩:gy)) rfl).drew;aD (aA Az (bE bO (J.ext u.aF) (aD (aA vw (bE bO (G.ext u.aF) (aD (aA R7 (bE bO (I.ext u.aF) (aD (aA vw (bE bO (G.ext u.aF) ?_))))))))))));refine aG (pop (Gv m.dz m.fault m.iY (decide (m.fault=0))) (aQ u AB λb3 _ u=>?_))
 refine⟨aH bO (J.ext u.aF),?_⟩;refine⟨aH bO (G.ext u.aF),?_⟩;refine⟨aH bO (I.ext u.aF),?_⟩;refine⟨aH bO (G.ext u.aF),?_⟩;refine aM (x:=(⟨m.dz,m.fault,m.iY,decide (m.fault=0),false⟩:gy)) u yR rfl rfl (λ_ u=>?_);refine⟨λmm y w'=>∃k:Nat,y=ir (k:Int)/\mm=a.ps.length-k/\k<=a.ps.length/\St w aX [bX b3 (kp (⟨m.dz,m.fault,m.iY,(decide (m.fault=0)&&!(tg k).any λi=>match m.l[i]? with|some t=>!mJ t|none=>false),false⟩:gy)),bX b2 (kp (⟨0,0,0,false,false⟩:gy))] w',⟨_,0,rfl,rfl,l2 _,by rw[show(decide (m.fault=0)&&!(tg 0).any λi=>match m.l[i]? with|some t=>!mJ t|none=>false)=decide (m.fault=0)by simp];exact u⟩,?_⟩
 rintro mm _ w4 ⟨k,rfl,rfl,hk,u⟩ _;refine aD (aA lY (bE Ay (V.ext u.aF) (aI B4 (B.ll.ext u.aF) (aN (aC (λc1=>?_) λc1=>?_)))))
 .obtain⟨t,ht⟩:=gx m.l (i:=k) bL;obtain⟨e,O⟩:=gx a.ps (i:=((k:Nat):Int).toNat) bL;have We:=B.th k e t (by rw[<- tx k];exact O) ht;have iv:=gJ.th t (kO ht);obtain⟨bp,nv,rg,lv,ds,uR,mX,hB,zY,UO⟩:=ma.rd We;obtain⟨bsv,ye,te,hBL⟩:=hB;have OF:=mX.cell (o:=0) rfl;have Wp:=mX.cell (o:=3) rfl;have DP:=uR.2.1.1;have DE:=amu iv.p;have wL:(tg (k+1)).any (λi=>match m.l[i]? with|some t=>!mJ t|none=>false)=((tg k).any (λi=>match m.l[i]? with|some t=>!mJ t|none=>false)||!mJ t):=(V1 _ k).trans (by rw[ht]);refine⟨λw'=>St w aX [bX b3 (kp (⟨m.dz,m.fault,m.iY,(decide (m.fault=0)&&!(tg (k+1)).any λi=>match m.l[i]? with|some t=>!mJ t|none=>false),false⟩:gy)),bX b2 (kp (⟨0,0,0,false,false⟩:gy))] w',?_,?_⟩
  rotate_left
  .intro w9 u _;exact aJ bL ⟨_,bL,k+1,rfl,rfl,bL,u⟩
  refine⟨λjv w'=>jv=.bool (!mJ t)/\w'=w4,?_,?_⟩
  .refine aD (aA lY (bE Ay (V.ext u.aF) (aK B4 (B.ll.ext u.aF) bL O λq Y=>aE CU Y (aD (aA jF (bE rT (OF.ext u.aF) (aI mi (UO.ext u.aF) (cL (aC (λ_=>⟨vb (by unfold mJ;rw[ez (show ¬ t.bV.length=0 from bL)];rfl),rfl⟩) λM=>aD (aA lY ?_))))))))));refine bE Ay (V.ext u.aF) (aK B4 (B.ll.ext u.aF) bL O λq Y=>aE CU Y (aD (aA nz (bE yQ (Wp.ext u.aF) (aD (aA gW (bE iK (te.ext u.aF) (aI fT (hBL.ext u.aF) (cL ?_)))))))))
   refine⟨vb ?_,rfl⟩;unfold mJ;rw[ew (show t.bV.length=0 from bL),Et,<- decide_not];exact fN.2 bL
  rintro _ _ ⟨rfl,rfl⟩ vp;refine aW (λE=>?_) (λE=>?_)
  .refine aA wU (aR u DH (dQ rfl) rfl λ_ u=>?_);rw[wL,E,Bool.or_true,Bool.not_true,Bool.and_false];exact u
  rw[wL,E,Bool.or_false];exact u
 have W:(decide (m.fault=0)&&!(tg k).any λi=>match m.l[i]? with|some t=>!mJ t|none=>false)=qK m:=by unfold qK;rw[show k=m.l.length from bL];rfl
 rw[W]at u
 have Z:∀(b:Bool) (w':World),vR m=b->St w aX [bX b3 (kp (⟨m.dz,m.fault,m.iY,qK m,b⟩:gy)),bX b2 (kp (⟨0,0,0,false,false⟩:gy))] w'->St w aX [bX b3 (kp (j9 m)),bX b2 (kp (⟨0,0,0,false,false⟩:gy))] w':=λb w' h1 h2=>by
  subst h1;exact h2
 refine⟨λw'=>St w aX [bX b3 (kp (j9 m)),bX b2 (kp (⟨0,0,0,false,false⟩:gy))] w',?_,?_⟩
 .refine aD (aA vw (bE bO (G.ext u.aF) (aG (aC (λM=>?_) λM=>?_))));rotate_left
  .exact aA uE (aR u DH (dQ rfl) rfl λ_ u=>Z false _ (by unfold vR;rw[ez M];rfl) u)
  refine aA wU (aB (v:=.bool (qK m)) DH u.hb rfl (bN (aW (λE=>?_) λE=>?_)));rotate_left
  .exact aA uE (aR u DH (dQ rfl) rfl λ_ u=>Z false _ (by unfold vR;rw[show qK m=true from by simpa using E];simp) u)
  refine dB aa5 u (C22 K p m _ (hm.ext u.aF) (λ_ e=>hw _ (u.aF.then e)) gJ) (λx45 w7 cE u=>?_);obtain⟨amt,abM,U⟩:=u.dl;refine aI kB abM ?_;rw[show amt.length=(eW m).length from U.1];exact aG (have u:=u.drop;aA uE (aR u DH (dQ rfl) rfl λ_ u=>Z (decide (((eW m).length:Int)=0)) _ (by unfold vR;rw[ew M,show qK m=false from by simpa using E];rfl) u))
 intro w9 u vp;exact aE (x:=j9 m) yR u.At (aM (x:=j9 m) u.p1 yR rfl rfl λ_ u=>aE (x:=j9 m) yR u.At ⟨rfl,u.drop.drop.aF⟩)
def C75(K:hM)(p:Nat)(m:gC)(w:World)(hm:Has (mM K p m) w)(W:∀w',Ext w w'->K w')(G:lX m)(hvo:Kx m)(Wq:m.mem.ef=fB m.p):CR 75 [.pointer (some ⟨p,0,none⟩)] w (λv w'=>lf (bF v (Bn m)) w w'):=by
 obtain⟨a,E⟩:=mM.rd hm;have B:=E.b.cell (o:=5) rfl;have M:=E.b.cell (o:=8) rfl;have ie:=vi m.p;have hml0:m.mem.l.length=(iJ m.p).length:=by rw[G.mem.ll,Wq];unfold fB;grind
 have Ag:(cT m.p).length=(iJ m.p).length:=by unfold cT;grind
 have V9:(iJ m.p).length<=20:=by have:=G.mem.fl;have:=G.mem.ll;omega
 have hcb:=G.pz.dV;have hcz:=G.pz.zc;obtain⟨g0,g1,g2,g3,g4,g5,hpv,_,_,_,_,_,DP⟩:=E.uk.pr _ (W _ (Ext.refl _));rw[hpv]at B;obtain⟨I,Dg,yr⟩:=DP.open;have Wb:=yr.1;obtain⟨ov,fv,lv,kv,wv,ws,jN,J,hmo,hmf,Hs,aAv,hmw⟩:=E.mem.ex;have u:=St.start w;refine alT _ _ _ ?_;unfold S75;refine bD ([]:List Bool) u rR rfl rfl (dQ rfl) (λs8 _ u=>aD (aA pZ (rk a.pv fp (pk.ext E.b u.aF) rfl (aV acD u (C62 m.p a.pv _ (E.uk.pr _ (W _ u.aF)) G.pz) λ_ he u=>?_))));refine⟨λmm o y w'=>∃k:Nat,y=ir (k:Int)/\mm=I.length-k/\k<=I.length/\St w aX [bF o ((m.p.dV.take k).map (pa m))] w',⟨_,0,rfl,rfl,l2 _,u⟩,?_⟩
 rintro mm o _ _ ⟨k,rfl,rfl,hk,u⟩ _;refine aD (aA pZ (aA jn (bE qN (B.ext u.aF) (aI tf (Dg.ext u.aF) (aN (aC (λc1=>?_) λc1=>?_))))));rotate_left
 .rw[la bL]at u;exact u.fresh
 obtain⟨ct,ZQ⟩:=gx I (i:=((k:Nat):Int).toNat) bL;obtain⟨cl,U⟩:=gx m.p.dV (i:=((k:Nat):Int).toNat) bL;obtain⟨ge,rfl,Ul⟩:=yr.2 _ ct cl ZQ U;obtain⟨Y,aAO⟩:=hcz cl (kO U);refine⟨λjv w'=>St w aX [bF jv ((m.p.dV.take (k+1)).map (pa m))] w',?_,?_⟩;rotate_left
 .rintro o2 _ u _;exact aJ bL ⟨_,bL,k+1,rfl,rfl,bL,u⟩
 have u:=u.drew;refine aD (aA pZ (aA jn (bE qN (B.ext u.aF) (aK tf Dg bL ZQ λq hq=>bT ge vx hq rfl rfl λq2 KL=>aE jo (KL.ext u.aF) (aD (aA pZ (rk a.pv fp (pk.ext E.b u.aF) rfl (aD (aA oJ (bE Ax (M.ext u.aF) ?_))))))))));refine aD (aA rS (bE dX ((J.cell (o:=2) rfl).ext u.aF) (uB cQ Hs bL bL λs49 V=>dB Lf u (C124 m.p a.pv _ (E.uk.pr _ (W _ u.aF)) G.pz) λx38 _ cE u=>?_)));refine⟨aH qN (B.ext u.aF),?_⟩;refine⟨fq jo (KL.ext u.aF),?_⟩
 refine⟨aH Ax (M.ext u.aF),?_⟩;refine⟨aH dX ((J.cell (o:=2) rfl).ext u.aF),?_⟩;refine uB iu u.dS bL bL (λs40 h40=>aV ah6 u (C146 _ _ _ cl.e (gm m.p) (m.mem.l.take (eL m.p).toNat) _ (DL.flat (Ul.ext u.aF)) h40 (V.ext u.aF) Y (by unfold gm;rw[l9];omega) aAO (hvo.mem.l.take _)) λ_ he u=>aO rfl (aO rfl (aG ?_)));have O:pa m cl=(decide ((pN (gm m.p) (m.mem.l.take (eL m.p).toNat) cl.e).2=0)&&decide ((pN (gm m.p) (m.mem.l.take (eL m.p).toNat) cl.e).1≠0)):=rfl;refine aC (λc2=>?_) (λc2=>?_)
 .refine bW (bD (([pa m cl]):List Bool) u rR rfl (by rw[O,ew c2,Et];rfl) (dQ rfl) λs47 w7 u=>?_);have Z:=u.dS;refine bJ u.p2 rR Z (by rw[mW,l9,nh];omega) dy (λs48 w8 u=>?_);rw[<- fV (k:=k) U];exact u.p1.drop.p1.drop
 refine bD (([pa m cl]):List Bool) u rR rfl (by rw[O,ez c2,Tv];rfl) (dQ rfl) (λs47 w7 u=>?_);have Z:=u.dS;refine bJ u.p2 rR Z (by rw[mW,l9,nh];omega) dy (λs48 w8 u=>?_);rw[<- fV (k:=k) U];exact u.p1.drop.p1.drop
def afY(m:gC)(t:jd)(i:Int)(x:bM):(ea m t i x).1.dz=m.dz:=by
 unfold ea
 repeat' split
 all_goals first|rfl|(unfold rB;split<;>rfl)
theorem abO(m:gC)(i:Int):(im m i).1.dz=m.dz:=by
 unfold im
 repeat' split
 all_goals first|rfl|exact afY _ _ _ _
def amy(m:gC)(q:cS):m.dz<=(kx m q).1.dz/\(kx m q).1.dz<=m.dz+1:=by
 unfold kx
 split
 .show m.dz<=m.dz+1/\m.dz+1<=m.dz+1;omega
 split
 .split
  .split<;>(show m.dz<=m.dz/\m.dz<=m.dz+1)<;>omega
  show m.dz<=(im m q.t).1.dz/\(im m q.t).1.dz<=_;rw[abO];omega
 grind
structure CK(p:cR)(n:Nat)(m:gC):Prop where
 ok:lX m
 pr:m.p=p
 mb:MB m.mem n
 cr:0<=m.dz/\m.dz<=n
def CK.step{p:cR}{n:Nat}{m:gC}{q:cS}(h:CK p n m)(hc:IC p):CK p (n+1) (kx m q).1:=by
 obtain⟨h1,h2,h3⟩:=alM (q:=q) h.ok (h.pr▸hc)
 have h4:=amy m q
 have h5:=h.cr
 exact⟨h1,h2.trans h.pr,h3 _ h.mb,bL,bL⟩
def CK.new{p:cR}{room:Int}(B:PZ p)(hc:IC p)(u:1<=room/\room<=16):CK p 0 (Bp p room):=
 ⟨afs B hc u,rfl,λk=>CL rfl,Ot 0,Ot 0⟩
def afZ(m:gC)(t:jd)(x:bM):(rB m t x).mem.ef=m.mem.ef:=by
 unfold rB;split
 .exact ui _ _ _
 rfl
def af0(m:gC)(t:jd)(i:Int)(x:bM):(ea m t i x).1.mem.ef=m.mem.ef:=by
 unfold ea
 repeat' split
 all_goals first|rfl|exact afZ _ _ _
def abP(m:gC)(i:Int):(im m i).1.mem.ef=m.mem.ef:=by
 unfold im
 repeat' split
 all_goals first|rfl|exact af0 _ _ _ _
def amz{m:gC}(u:lX m)(q:cS):(kx m q).1.mem.ef=m.mem.ef:=by
 unfold kx
 split
 .rfl
 split
 .split
  .split
   .exact(IB u.mem).2.2
   rfl
  exact abP _ _
 rfl
def af1(x y:aZ)(h:kp x=kp y):x=y:=by
 obtain⟨a,b,c,⟨d,n,k⟩,⟨M,O,I⟩,e,f,g,i⟩:=x
 obtain⟨J,b2,G,⟨u,n2,U⟩,⟨E,V,B⟩,e2,W,Z,Y⟩:=y
 simp[kp,jr]at h
 simp[h]
def af2(x y:cB)(h:kp x=kp y):x=y:=by
 obtain⟨a,⟨d,n,k⟩,⟨J,M,G⟩,e⟩:=x
 obtain⟨I,⟨u,V,O⟩,⟨E,U,B⟩,W⟩:=y
 simp[kp,jr]at h
 simp[h]
def IS.of{E:Nat->Prop}{w:World}{lv:SV}{rF:List cK}(h:∀w',ke E w w'->DL w' (jr lv) rF):IS (ke E w) lv rF:=by
 obtain⟨V,U,ht⟩:=ke.fix af2 h
 refine⟨V,λw' u=>(ht w' u).1,U,λj J t h1 h2=>?_⟩
 have hd:∀w',ke E w w'->n5 w' J t:=λw' u=>(ht w' u).2.2 j J t h1 h2
 obtain⟨I,M,rfl,_,_⟩:=hd w (ke.refl _ _)
 have B:∀w',ke E w w'->DL w' (jr I) t.dO/\DL w' (jr M) t.body:=λw' u=>by
  obtain⟨Y,W,e,h4,h5⟩:=hd w' u
  grind
 obtain⟨rows,_,G⟩:=ke.fix af1 λw' u=>(B w' u).2
 exact⟨I,M,rows,rfl,λw' u=>DL.flat (B w' u).1,λw'=>⟨λO u=>(G O u).2,λu=>(G w' u).1⟩⟩
def PrK.of{B:Nat->Prop}{w:World}{pv:bP}{p:cR}(h:∀w',ke B w w'->n5 w' pv p):PrK (ke B w) pv p:=by
 obtain⟨I,Z,W,E,G,Y,rfl,_⟩:=h w (ke.refl _ _)
 have hd:∀w',ke B w w'->DL w' (jr E) p.threads/\DL w' (jr G) p.recover:=λw' u=>by
  obtain⟨M,V,O,U,J,a5,e,_,_,_,h4,h5,_⟩:=h w' u
  grind
 exact⟨h,IS.of λw' u=>(hd w' u).1,IS.of λw' u=>(hd w' u).2⟩
def C72(K:hM)(p:Nat)(m:gC)(w:World)(G:Has (fm K p m) w)(J:∀w',Ext w w'->K w')(I:lX m):CR 72 [.pointer (some ⟨p,0,none⟩)] w (λv w'=>lf (bF v m.mem.l) w w'):=by
 obtain⟨a,E⟩:=fm.rd G (J _ (Ext.refl _));have B:=E.b.cell (o:=9) rfl;have u:=St.start w;refine fb Tryz.func72 ?_;exact aD (aA nQ (bE Dk (B.ext u.aF) (dB WR u (C144 a.q m.mem _ (E.mem.ext u.aF) I.mem) λ_ _ _ u=>u.fresh)))
def C70(K:hM)(p:Nat)(m:gC)(w:World)(hm:Has (fm K p m) w)(I:∀w',Ext w w'->K w')(G:lX m)(Wq:m.mem.ef=fB m.p):CR 70 [.pointer (some ⟨p,0,none⟩)] w (λv w'=>lf (bF v (Bn m)) w w'):=by
 obtain⟨a,B⟩:=fm.rd hm (I _ (Ext.refl _));have O:=B.b.cell (o:=6) rfl;have M:=B.b.cell (o:=5) rfl;have ie:=vi m.p;have Hs:m.mem.l.length=(iJ m.p).length:=by rw[G.mem.ll,Wq];unfold fB;grind
 have Ag:(cT m.p).length=(iJ m.p).length:=by unfold cT;grind
 have V9:(iJ m.p).length<=20:=by have:=G.mem.fl;have:=G.mem.ll;omega
 have hcb:=G.pz.dV;have hcz:=G.pz.zc;obtain⟨g0,g1,g2,g3,g4,g5,hpv,_,_,_,_,_,DP⟩:=B.uk.pr _ (I _ (Ext.refl _));rw[hpv]at M;obtain⟨E,Dg,yr⟩:=DP.open;have Wb:=yr.1;have u:=St.start w;refine akD _ _ _ ?_;unfold S70;refine aD (aA DI (rk a.pv fp (pk.ext B.b u.aF) rfl (aV arh u (C54 m.p a.pv _ (B.uk.pr _ (I _ u.aF)) G.pz) λ_ he u=>aD (aA DI (aA jn (bE qN (M.ext u.aF) (aI tf (Dg.ext u.aF) ?_)))))));refine⟨λmm o y w'=>∃k:Nat,y=ir (k:Int)/\mm=E.length-k/\k<=E.length/\St w aX [bF o ((m.p.dV.take k).map (pa m))] w',⟨_,0,rfl,rfl,l2 _,u.eU⟩,?_⟩
 rintro mm o _ _ ⟨k,rfl,rfl,hk,u⟩ _;refine aN (aC (λc1=>?_) λc1=>?_);rotate_left
 .rw[la bL]at u;exact u.fresh
 obtain⟨ct,ZQ⟩:=gx E (i:=((k:Nat):Int).toNat) bL;obtain⟨cl,U⟩:=gx m.p.dV (i:=((k:Nat):Int).toNat) bL;obtain⟨ge,rfl,Ul⟩:=yr.2 _ ct cl ZQ U;have amx:=(hcz cl (kO U)).1;refine⟨λjv w'=>St w aX [bF jv ((m.p.dV.take (k+1)).map (pa m))] w',?_,?_⟩;rotate_left
 .rintro o2 _ u _;exact aJ bL ⟨_,bL,k+1,rfl,rfl,bL,u⟩
 refine aK tf (Dg.ext u.aF) bL ZQ (λq hq=>aE Ji hq (aQ u O0 λb6 _ u=>aM (x:=(⟨ge,cl.at_⟩:jq)) u Ji rfl rfl λ_ u=>have u:=u.drew;aA vx (aB (v:=jr (ge:SV)) jo u.hb rfl (aD (aA Jk (bE je (O.ext u.aF) (kh iu (B.uk.cs _ (I _ u.aF)) bL bL λs32 W=>dB akH u (C72 K p m _ (hm.ext u.aF) (λ_ e=>I _ (u.aF.then e)) G) λx34 _ cE u=>?_)))))));refine⟨aH jo (u.p1.hb.cell rfl),?_⟩;refine⟨aH je (O.ext u.aF),?_⟩;refine uB cQ u.dS bL bL (λs36 h36=>aV ag9 u (C143 _ _ _ cl.e _ _ _ (DL.flat (Ul.ext u.aF)) (W _ (B.uk.cs _ (I _ u.aF))) h36 amx (by rw[l9];omega)) λ_ he u=>aO rfl (aO rfl (aG ?_)))
 have J:pa m cl=(decide ((pN ((cT m.p).take (eL m.p).toNat) (m.mem.l.take (eL m.p).toNat) cl.e).2=0)&&decide ((pN ((cT m.p).take (eL m.p).toNat) (m.mem.l.take (eL m.p).toNat) cl.e).1≠0)):=rfl;refine aC (λZ=>?_) (λZ=>?_)
 .refine bW (bD (([pa m cl]):List Bool) u rR rfl (by rw[J,ew Z,Et];rfl) (dQ rfl) λV w7 u=>?_);have Y:=u.dS;refine bJ u.p3 rR Y (by rw[mW,l9,nh];omega) dy (λs48 w8 u=>?_);rw[<- fV (k:=k) U];exact u.p1.drop.p1.drop.p1.drop
 refine bD (([pa m cl]):List Bool) u rR rfl (by rw[J,ez Z,Tv];rfl) (dQ rfl) (λV w7 u=>?_);have Y:=u.dS;refine bJ u.p3 rR Y (by rw[mW,l9,nh];omega) dy (λs48 w8 u=>?_);rw[<- fV (k:=k) U];exact u.p1.drop.p1.drop.p1.drop
variable (w:World) (K:Value->hM)
def S85(u:Value):Prop:=
 bB .eql 136 u (.slice none 0 0) λa=>cV a (K (.slice none 0 0) w) (bS 136 0 [] w λb c=>aP 136 b u c λd e=>K d e)
theorem amA(u:Value)(h:S85 w K u):CR 85 [u] w K:=
 oe 8 (λ_=>.nil) 4 [.tmp 2] Tryz.func85 h
theorem aAR:PL 85:=dJ Tryz.func85
end Go.Proofs.YtpdlpabnlkofmaaGreatDoor
namespace Go.Proofs.YtpdlpabnlkofmaaGreatDoor
open Go.Fw
def OI(m:gC)(i:Int):Int×Bool:=if i<0\/(m.l.length:Int)<=i then(0,false)else match m.l[i.toNat]? with
 | none=>(0,false)
 | some t=>match mG t.bV with
  | none=>(0,false)
  | some (x,_,_)=>(x.at_,true)
theorem Eh{m:gC}{i:Int}(h:i<0\/(m.l.length:Int)<=i):OI m i=(0,false):=by unfold OI;rw[ej h]
def Rt{m:gC}{i:Int}{t:jd}(h:¬ (i<0\/(m.l.length:Int)<=i))(ht:m.l[i.toNat]?=some t):OI m i=match mG t.bV with|none=>(0,false)|some (x,_,_)=>(x.at_,true):=by unfold OI;rw[ei h,ht]
theorem amB{m:gC}{i:Int}(h:(!(OI m i).2)=true):OI m i=(0,false):=by
 unfold OI at h |-
 split
 .rfl
 rename_i h1
 rw[ei h1]at h
 revert h
 cases m.l[i.toNat]? with
 | none=>intro;rfl
 | some t=>
  dsimp only
  cases mG t.bV with
  | none=>intro;rfl
  | some q=>obtain⟨x,a,b⟩:=q;intro h;cases h
theorem af3{m:gC}{i:Int}(h:(!(OI m i).2)=false):∃t x a b,0<=i/\i<m.l.length/\m.l[i.toNat]?=some t/\mG t.bV=some (x,a,b)/\OI m i=(x.at_,true):=by
 by_cases h1:i<0\/(m.l.length:Int)<=i
 .rw[Eh h1]at h;cases h
 obtain⟨t,ht⟩:=gx m.l (i:=i.toNat) bL
 have e:=Rt h1 ht
 cases ho:mG t.bV with
 | none=>rw[ho]at e;rw[e]at h;cases h
 | some q=>obtain⟨x,a,b⟩:=q;rw[ho]at e;exact⟨t,x,a,b,bL,bL,ht,ho,e⟩
def C73(K:hM)(p:Nat)(m:gC)(w:World)(G:Has (fm K p m) w)(J:∀w',Ext w w'->K w')(I:lX m):CR 73 [.pointer (some ⟨p,0,none⟩)] w (λv w'=>lf (bF v m.mem.kept) w w'):=by
 obtain⟨a,E⟩:=fm.rd G (J _ (Ext.refl _));have B:=E.b.cell (o:=9) rfl;have u:=St.start w;refine akC _ _ _ ?_;unfold S73;exact aD (aA nQ (bE Dk (B.ext u.aF) (dB Lh u (C145 a.q m.mem _ (E.mem.ext u.aF) I.mem) λ_ _ _ u=>u.fresh)))
def C85(E:Value)(xs:List sP)(w:World)(G:cZ (λ_=>True) w E xs)(U:xs.length<=1048576):CR 85 [E] w (λv w'=>lf (bF v xs) w w'):=by
 have u:=St.start w;refine amA _ _ _ ?_;unfold S85;refine B5 Tryz.underlying136 (G.ext u.aF) (λp M=>aW (λI=>?_) λI=>?_)
 .have J:=M I;subst J;exact(u.eU (α:=sP)).fresh
 refine bD ([]:List sP) u rU rfl rfl (dQ rfl) (λO _ u=>?_);have B:=(G.ext u.aF);exact bJ u rU B (by simp;omega) dy (λ_ _ u=>u.fresh)
def C66(K:hM)(p:Nat)(m:gC)(i:Int)(w:World)(O:Has (fm K p m) w)(I:∀w',Ext w w'->K w')(gJ:lX m):CR 66 [.pointer (some ⟨p,0,none⟩),ir i] w (λv w'=>v=.tuple #[ir (OI m i).1,.bool (OI m i).2]/\Ext w w'):=by
 obtain⟨a,B⟩:=fm.rd O (I _ (Ext.refl _));have M:=B.b.cell (o:=11) rfl;have hlen:=B.len;have u:=St.start w;refine akE _ _ _ _ ?_;unfold S66;refine⟨λjv w'=>jv=.bool (decide (i<0\/(m.l.length:Int)<=i))/\w'=w,?_,?_⟩
 .exact aN (aC (λc=>⟨vb (ew (.inl c)).symm,rfl⟩) λ_=>aD (aA mS (bE zz M (aI AA B.ll (cO ⟨vb (fN.2 bL),rfl⟩)))))
 rintro _ _ ⟨rfl,rfl⟩ _;refine aC (λc=>?_) (λc=>?_)
 .exact⟨by rw[Eh c],u.aF⟩
 obtain⟨t,ht⟩:=gx m.l (i:=i.toNat) bL;obtain⟨s,J⟩:=gx a.ps (i:=i.toNat) bL;have E:=Rt c ht;have G:=gJ.th t (kO ht);have ng:=yw G.p;have Ag:=G.cl;obtain⟨bp,nv,rg,pl,es,hk,mX,hB,zY,Gb,Bm,_⟩:=eJ.rd (B.th _ s t J ht);refine aD (aA mS (bE zz M (aK AA B.ll bL J λq hq=>aE CV hq (dR To (C137 K s.b t bp nv rg pl es _ _ mX Gb Bm I G.p bL) ?_))));rintro v _ ⟨Z,V⟩;have u:=u.ext Z
 rcases V with⟨U,rfl⟩|⟨x,xa,xb,xv,av,bv,ra,rb,W,rfl,zb,_⟩
 .rw[U]at E;exact aO rfl (aO rfl (aO rfl (aO rfl (aQ u iN λ_ _ u=>aM (x:=(⟨0,⟨#[]⟩,⟨#[]⟩,cG,cG,0,0,0,0⟩:aZ)) u eD rfl rfl λ_ u=>aA jI (aB (v:=ir 0) bO u.hb rfl ⟨by rw[E],u.drop.aF⟩)))))
 obtain⟨ge,Y,rfl,_,_⟩:=iz (zb _ (I _ u.aF));rw[W]at E;exact aO rfl (aO rfl (aO rfl (aO rfl (aQ u iN λ_ _ u=>aM (x:=(⟨x.kind,x.ey,x.name,ge,Y,x.n,x.body,x.ep,x.at_⟩:aZ)) u eD rfl rfl λ_ u=>aA jI (aB (v:=ir x.at_) bO u.hb rfl ⟨by rw[E],u.drop.aF⟩)))))
theorem C76(K:hM)(p:Nat)(m:gC)(i:Int)(w:World)(hm:Has (mM K p m) w)(hw:∀w',Ext w w'->K w')(gJ:lX m):CR 76 [.pointer (some ⟨p,0,none⟩),ir i] w (λv w'=>v=.tuple #[ir (OI m i).1,.bool (OI m i).2]/\Ext w w'):=by
 obtain⟨a,u⟩:=mM.rd hm;have M:=u.b.cell (o:=10) rfl;have hlen:=u.len;have I:=St.start w;refine alU _ _ _ _ ?_;unfold S76;refine⟨λjv w'=>jv=.bool (!(OI m i).2)/\w'=w,?_,?_⟩
 .refine aN (aC (λc=>⟨by rw[Eh (.inl c)];rfl,rfl⟩) λc=>aD (aA lY (bE Ay M (aI B4 u.ll (cO (aC (λ_=>⟨by rw[Eh (.inr bL)];rfl,rfl⟩) λc1=>?_))))));obtain⟨t,ht⟩:=gx m.l (i:=i.toNat) bL;obtain⟨s,B⟩:=gx a.ps (i:=i.toNat) bL;have Z:=gJ.th t (kO ht);obtain⟨bp,nv,rg,lv,ds,G,W,hB,zY,J⟩:=ma.rd (u.th _ s t B ht);have V:=W.cell (o:=0) rfl;have E:=G.2.1.1;have O:=Rt (i:=i) bL ht;refine aD (aA lY (bE Ay M (aK B4 u.ll bL B λq U=>aE CU U (aD (aA jF (bE rT V (aI mi J (aG ?_))))))))
  refine⟨vb ?_,rfl⟩;rw[O];cases ho:mG t.bV with
  | none=>rw[Cz Z.p ho]at E;exact ew (by rw[E];rfl)
  | some q=>obtain⟨x,xa,xb⟩:=q;obtain⟨e,h2⟩:=vX ho;rw[h2,o5]at E;exact ez bL
 rintro _ _ ⟨rfl,rfl⟩ _;refine aW (λc=>?_) (λc=>?_)
 .exact⟨by rw[amB c],I.aF⟩
 obtain⟨t,x,xa,xb,h0,h1,ht,zW,O⟩:=af3 c;obtain⟨s,B⟩:=gx a.ps (i:=i.toNat) bL;have Z:=gJ.th t (kO ht);obtain⟨bp,nv,rg,lv,ds,G,W,hB,zY,J⟩:=ma.rd (u.th _ s t B ht);have V:=W.cell (o:=0) rfl;have E:=G.2.1.1;obtain⟨en,td⟩:=vX zW;have Y:=G.2.1;rw[td]at Y;obtain⟨d0,pE,rfl,yr,hds⟩:=Y.head;obtain⟨dx,db,de,dn⟩:=d0;obtain⟨ge,gf,rfl,_,_⟩:=iz (yr.x _ (hw _ I.aF));exact aD (aA lY (bE Ay M (aK B4 u.ll bL B λ_ U=>aE CU U (aD (aA jF (bE rT V (aK mi J bL rfl λ_ h1=>AI (⟨x.kind,x.ey,x.name,ge,gf,x.n,x.body,x.ep,x.at_⟩:aZ) nD h1 rfl λ_ h2=>AI x.at_ jI h2 rfl λ_ h3=>aE bO h3 ⟨by rw[O];rfl,I.aF⟩)))))))
variable (w:World) (K:Value->hM)
def S23(I:Value):Prop:=
 nC I λa=>lA 96 a w λb=>aL 96 w λB c=>sA 96 B b c λd=>nC I λe=>fA 96 e 4 λf=>lA 93 f (drew d) λg=>nC I λh=>fA 96 h 5 λj=>lA 41 j (drew d) λk=>
 cF 82 [g] (drew d) λl n=>kA 41 j k n (cF 83 [k] n λo p=>fA 96 B 4 λq=>sA 93 q l p λr=>fA 96 B 5 λs=>sA 41 s o r λt=>fA 96 B 6 λu=>sA 94 u (.slice none 0 0) t λv=>
 nC I λx=>fA 96 x 6 λy=>lA 94 y v λz=>lN 94 z λaa=>jR (λU W M=>∀_:Env,
 bA .lss 3 W aa λad=>cV ad (iA 94 z W λae=>lA 135 ae M λG=>nC G λag=>lA 138 ag M λah=>aL 138 M λE ai=>sA 138 E ah ai λJ=>nC G λak=>fA 138 ak 0 λal=>
 lA 88 al (drew J) λam=>nC G λan=>fA 138 an 2 λZ=>lA 41 Z (drew J) λap=>nC G λaq=>fA 138 aq 3 λV=>lA 136 V (drew J) λasx=>cF 84 [am] (drew J) λau O=>
 kA 41 Z ap O (kA 136 V asx O (cF 83 [ap] O λaw Y=>kA 136 V asx Y (cF 85 [asx] Y λay az=>fA 138 E 0 λa0=>sA 88 a0 au az λa1=>fA 138 E 2 λa2=>sA 41 a2 aw a1 λa3=>
 fA 138 E 3 λa4=>sA 136 a4 ay a3 λa5=>fA 96 B 6 λa6=>lA 94 a6 a5 λa7=>bS 94 1 [(0,E)] a5 λa8 a9=>aP 94 a7 a8 a9 λba bb=>fA 96 B 6 λbc=>sA 94 bc ba bb λbd=>
 bB .add 3 W (i 1) λbe=>U be bd)))) (K B M)) λU=>U (i 0) v)
def P23:dL:=λi=>match i with
 | 2=>(.of [(0,[]),(1,[]),(2,[]),(3,[]),(5,[]),(6,[]),(7,[]),(8,[]),(4,[8]),(9,[]),(10,[]),(11,[]),(12,[]),(13,[]),(14,[]),(15,[])])
 | 7=>(.of [(0,[]),(1,[]),(2,[]),(3,[]),(5,[]),(6,[]),(7,[]),(8,[]),(10,[]),(11,[]),(12,[]),(13,[]),(4,[8,13]),(9,[13]),(14,[]),(15,[]),(16,[]),(17,[]),(18,[]),(19,[]),(20,[])])
 | _=>.nil
theorem amC(u:Value)(h:S23 w K u):CR 23 [u] w K:=
 oe 59 P23 4 [.tmp 2] Tryz.func23 h
theorem atG:PL 23:=dJ Tryz.func23
end Go.Proofs.YtpdlpabnlkofmaaGreatDoor
namespace Go.Proofs.YtpdlpabnlkofmaaGreatDoor
open Go.Fw
def Ru{a:DA}{m:gC}(h1:rN a.ow=true)(h2:rN a.ll=true):∀v∈lC a m,rN v=true:=by
 intro v u
 simp only[s4,abv,or_false]at u
 rcases u with rfl|rfl|rfl|rfl|rfl|rfl|rfl|rfl|rfl|rfl|rfl|rfl|rfl|rfl|rfl<;>first|rfl|exact h1|exact h2
def Ov{B:Nat}{E:SV}{rg pl:Value}{f:Int}(h1:rN rg=true)(h2:rN pl=true):∀v∈qk B E rg pl f,rN v=true:=by
 intro v u
 simp only[s4,abv,or_false]at u
 rcases u with rfl|rfl|rfl|rfl|rfl<;>first|rfl|exact h1|exact h2
def KC(K:hM)(p:Nat)(room:Int)(t:jd)(es:PE):HP:=oO λu:Nat=>oO λB:SV=>oO λrg=>oO λpl=>fact (∀w,K w->cZ (λ_=>True) w (jr B) t.names)
 (sep (bX p (qk u B rg pl t.fault)) (sep (iR u room t.buf) (sep (bF rg t.dO) (bF pl (J7 es)))))
def KD(K:hM)(p:Nat)(room:Int)(t:jd):HP:=oO λes:PE=>fact (∀w,vN K w es t.bV) (KC K p room t es)
abbrev Ow(K:hM)(room:Int)(s:Ptr)(t:jd):HP:=KD K s.b room t
abbrev aib(K:hM)(room:Int)(s:Ptr)(t:jd×PE):HP:=KC K s.b room t.1 t.2
def BG(K:hM)(p:Nat)(m:gC):HP:=oO λa:DA=>fact (DUK K a m) (sep (bX p (lC a m)) (sep (gN a.q a.ov a.fv m.mem) (sep (bF a.ow m.eI) (sep (bF a.ll a.ps) (fR (Ow K m.room) a.ps m.l)))))
section
variable {w w0:World}{A:Nat->Prop}{R:List HP}{p:Nat}{K K2:hM}{room:Int}{t:jd}{m:gC}
theorem vN.share{F:Nat->Prop}:∀{es:PE}{p:PD},(∀w',ke F w w'->vN K w' es p)->∀w',vN (λw'=>K w'/\ke F w w') w' es p
 | [],[],_,_=>trivial
 | _::_,_::_,h,w'=>⟨⟨(h w (ke.refl F w)).1.1,λu h2=>(h w (ke.refl F w)).1.2.1 u h2.1,λh2=>(h w' h2.2).1.2.2 h2.1⟩,vN.share (λu h2=>(h u h2).2) w'⟩
 | [],_::_,h,_=>(h w (ke.refl F w)).elim
 | _::_,[],h,_=>(h w (ke.refl F w)).elim
theorem KC.split(u:St w0 A (qJ K p room t::R) w):∃es,St w0 A (KC K p room t es::eC (λw=>vN K w es t.bV)::R) w:=by
 obtain⟨B,E,rg,pl,es,G,u⟩:=eJ.open u
 have h1:=u.p4.dH (Ψ:=λw=>vN K w es t.bV) λw h=>h.1
 exact⟨es,St.dT B (St.dT E (St.dT rg (St.dT pl (St.l4 G (GD h1.p4.p4.p4.p4)))))⟩
theorem KC.join{es:PE}(G:∀w,K2 w->K w)(u:St w0 A (KC K p room t es::R) w):St w0 A (KC K2 p room t es::R) w:=by
 obtain⟨B,u⟩:=u.dK;obtain⟨E,u⟩:=u.dK;obtain⟨rg,u⟩:=u.dK;obtain⟨pl,u⟩:=u.dK;obtain⟨I,u⟩:=u.j4
 exact St.dT B (St.dT E (St.dT rg (St.dT pl (St.l4 (λw h=>I w (G w h)) u))))
theorem KD.Rv(u:St w0 A (KD K p room t::R) w):St w0 A (qJ K p room t::R) w:=by
 obtain⟨es,u⟩:=u.dK;obtain⟨B,u⟩:=u.j4
 obtain⟨G,u⟩:=u.dK;obtain⟨I,u⟩:=u.dK;obtain⟨rg,u⟩:=u.dK;obtain⟨pl,u⟩:=u.dK;obtain⟨E,u⟩:=u.j4
 have h:=(Ab u).gE (Φ:=λw=>vN K w es t.bV/\True) (λw=>⟨B w,trivial⟩)
 exact eJ.shut E h.p4.p4.p4.p4
theorem KD.rd(h:Has (KD K p room t) w):∃B E rg pl es,(∀w,K w->cZ (λ_=>True) w (jr E) t.names)/\pk w p (qk B E rg pl t.fault)/\sH w B room t.buf/\cZ (λ_=>True) w rg t.dO/\cZ (λ_=>True) w pl (J7 es)/\∀w,vN K w es t.bV:=by
 obtain⟨F,u⟩:=h.st
 obtain⟨es,u⟩:=u.dK;obtain⟨G,u⟩:=u.j4
 obtain⟨B,u⟩:=u.dK;obtain⟨E,u⟩:=u.dK;obtain⟨rg,u⟩:=u.dK;obtain⟨pl,u⟩:=u.dK;obtain⟨I,u⟩:=u.j4
 replace u:=Ab u
 exact⟨B,E,rg,pl,es,I,u.hb,Bh u.p1,u.p2.dS,u.p3.dS,G⟩
theorem Ox.split:∀{ps:List Ptr}{l:List jd}{R:List HP},St w0 A (fR (tn K room) ps l::R) w->∃es:List PE,es.length=l.length/\St w0 A (fR (aib K room) ps (l.zip es)::eC (λw=>∀q∈l.zip es,vN K w q.2 q.1.bV)::R) w
 | [],[],R,u=>⟨[],rfl,(u.drop.gE (Φ:=λw=>∀q∈([]:List jd).zip ([]:List PE),vN K w q.2 q.1.bV) λw q B=>by cases B).qu⟩
 | [],_::_,R,u=>by have:=u.fG;simp at this
 | _::_,[],R,u=>by have:=u.fG;simp at this
 | s::ps,t::l,R,u=>by
  obtain⟨e,h1⟩:=KC.split (St.split u)
  obtain⟨es,E,h2⟩:=Ox.split h1.p2
  refine⟨e::es,by rw[o5,o5,E],?_⟩
  have h3:=(St.join h2.p2).p1.p2.fX.dH (Ψ:=λw=>∀q∈(t::l).zip (e::es),vN K w q.2 q.1.bV) λw h q B=>by
   rw[aar]at B
   rcases s4.1 B with rfl|B
   .exact h.1
   .exact h.2 q B
  exact h3.p1
theorem Ox.join(B:∀w,K2 w->K w):∀{ps:List Ptr}{l:List (jd×PE)}{R:List HP},(∀q∈l,∀w,vN K2 w q.2 q.1.bV)->St w0 A (fR (aib K room) ps l::R) w->St w0 A (fR (Ow K2 room) ps (l.map XC)::R) w
 | [],[],R,_,u=>u.drop.qu
 | [],_::_,R,_,u=>by have:=u.fG;simp at this
 | _::_,[],R,_,u=>by have:=u.fG;simp at this
 | s::ps,t::l,R,h,u=>by
  have h1:=KC.join B (St.split u)
  have h2:St w0 A (Ow K2 room s t.1::_) w:=St.dT t.2 (St.l4 (h t (o4 ..)) h1)
  exact St.join (Ox.join B (λq E=>h q (qa _ E)) h2.p1).p1
theorem aic.Rv:∀{ps:List Ptr}{l:List jd}{R:List HP},St w0 A (fR (Ow K room) ps l::R) w->St w0 A (fR (tn K room) ps l::R) w
 | [],[],R,u=>u.drop.qu
 | [],_::_,R,u=>by have:=u.fG;simp at this
 | _::_,[],R,u=>by have:=u.fG;simp at this
 | s::ps,t::l,R,u=>by
  have h1:St w0 A (tn K room s t::_) w:=KD.Rv (St.split u)
  exact St.join (aic.Rv h1.p1).p1
theorem zip_fst{α β:Type}:∀{l:List α}{es:List β},es.length=l.length->(l.zip es).map XC=l
 | [],_,_=>rfl
 | x::l,[],h=>by cases h
 | x::l,e::es,h=>by rw[aar,Ix,zip_fst (by simpa using h)]
theorem BG.open(u:St w0 A (BG K p m::R) w):∃a,DUK K a m/\St w0 A (bX p (lC a m)::gN a.q a.ov a.fv m.mem::bF a.ow m.eI::bF a.ll a.ps::fR (Ow K m.room) a.ps m.l::R) w:=by
 obtain⟨a,u⟩:=u.dK;obtain⟨B,u⟩:=u.j4;exact⟨a,B,pS u⟩
theorem BG.Rv(u:St w0 A (BG K p m::R) w):St w0 A (fm K p m::R) w:=by
 obtain⟨a,B,u⟩:=BG.open u
 exact fm.shut B (aic.Rv u.p4).p4.p4.p4.p4
theorem fm.share(B:St w0 A (fm K p m::R) w):∃F,St w0 A (BG (λw'=>K w'/\ke F w w') p m::eC (ke F w)::R) w:=by
 obtain⟨a,u,B⟩:=fm.open B
 obtain⟨es,G,h1⟩:=Ox.split B.p4
 obtain⟨F,h2,M⟩:=h1.p1.Th
 have h3:=Ox.join (K2:=λw'=>K w'/\ke F w w') (λw h=>h.1) (λq I=>vN.share λw' h=>M w' h q I) h2.p1
 rw[zip_fst G]at h3
 have E:DUK (λw'=>K w'/\ke F w w') a m:=by
  obtain⟨J,h4,h5⟩:=u.rc
  exact⟨λw h=>u.pr w h.1,λw h=>u.cs w h.1,λw h=>u.ks w h.1,λw h=>u.mem w h.1,⟨J,λw h=>h4 w h.1,h5.mono λw h=>h.1⟩⟩
 exact⟨F,(St.dT a (St.l4 E (pU h3.p5.p5.p5.p5)):St w0 A (BG (λw'=>K w'/\ke F w w') p m::_) w)⟩
structure amD(K:hM)(w:World)(p:Nat)(m:gC)(a:DA):Prop where
 uk:DUK K a m
 b:pk w p (lC a m)
 mem:va w a.q m.mem
 ow:cZ (λ_=>True) w a.ow m.eI
 ll:cZ (λ_=>True) w a.ll a.ps
 th:∀(i:Nat) (s:Ptr) (t:jd),a.ps[i]?=some s->m.l[i]?=some t->Has (KD K s.b m.room t) w
 len:a.ps.length=m.l.length
 c:Cell w a.q 0 a.ov/\Cell w a.q 1 a.fv
theorem BG.rd(h:Has (BG K p m) w)(E:K w):∃a,amD K w p m a:=by
 obtain⟨F,u⟩:=h.st
 obtain⟨a,B,u⟩:=BG.open u
 have hc:Cell w a.q 0 a.ov/\Cell w a.q 1 a.fv:=by
  obtain⟨lv,kv,pm,h⟩:=gN.open u.p1;exact⟨h.hb.cell rfl,h.hb.cell rfl⟩
 exact⟨a,B,u.hb,D2 u.p1 (B.mem _ E),u.p2.dS,u.p3.dS,λi s t h1 h2=>u.p4.adg h1 h2 (Φ:=λw=>Has (KD K s.b m.room t) w) λh=>⟨_,h⟩,u.p4.fG,hc⟩
end
def C23(K:hM)(p:Nat)(m:gC)(w:World)(hm:Has (BG K p m) w)(hw:∀w',Ext w w'->K w')(V:lX m)(mO:MB m.mem 1000000):CR 23 [.pointer (some ⟨p,0,none⟩)] w (λv w'=>∃b,v=.pointer (some ⟨b,0,none⟩)/\lf (fm K b m) w w'):=by
 obtain⟨a,B⟩:=BG.rd hm (hw _ (Ext.refl _));obtain⟨ye,te⟩:=B.c;have cm9:=B.b.cell (o:=9) rfl;have xN:=B.b.cell (o:=10) rfl;have wH:=B.b.cell (o:=11) rfl;have hlen:=B.len;have Hu:=V.tl;have how:=V.ow;have ae0:(cH m.p).length<=500:=by unfold cH;rw[mW];exact V.pz.eE
 obtain⟨J,Tr⟩:=((B.uk.mem _ (hw _ (Ext.refl _))).1).fK;obtain⟨U,O⟩:=((B.uk.mem _ (hw _ (Ext.refl _))).2).fK;rw[Tr]at ye;rw[O]at te;have u:=St.start w;refine amC _ _ _ ?_;unfold S23;refine aD (uA aoR B.b rfl (aQ u aiQ λb3 _ u=>wR (vs:=lC a m) u aoR rfl ee (Ru B.ow.one B.ll.one) λ_ u=>have u:=u.enc (cs':=lC a m) rfl;aD (aA nQ (have u:=u.drew;bE Dk (cm9.ext u.aF) (aD (aA rh (bE dX (xN.ext u.aF) (dR avQ (C82 a.q m.mem J U _ (ye.ext u.aF) (te.ext u.aF) (B.mem.ext u.aF) V.mem mO) ?_))))))));rintro _ _ ⟨b2,rfl,I⟩
 have u:=u.made I;refine⟨aH dX (xN.ext u.aF),?_⟩;refine dB GS u (C83 _ m.eI _ (B.ow.ext u.aF) bL) (λG _ I u=>aA nQ (aR u.p2 Dk (dQ rfl) rfl λwz34 u=>aA rh (aR u dX (dQ rfl) u.p1.dS.one λwz36 u=>aA mS (aR u zz (dQ rfl) rfl λwz38 u=>aD (aA mS (bE zz (wH.ext u.aF) (aI AA (B.ll.ext u.aF) ?_)))))));have u:=((((((u.qu (H:=tn K m.room)).eU (α:=Ptr)).p4).p4).p3).p3).p4;refine⟨λmm y w'=>∃(j:Nat) (Z:Value) (E:List Ptr),y=ir (j:Int)/\mm=a.ps.length-j/\j<=a.ps.length/\St w aX [bX b3 (lC {a with q:=b2,ow:=G,ll:=Z} m),bF Z E,fR (tn K m.room) E (m.l.take j),bF G m.eI,gN b2 (jr J) (jr U) m.mem] w',⟨_,0,.slice none 0 0,[],rfl,rfl,l2 _,u⟩,?_⟩
 rintro mm _ _ ⟨j,Z,E,rfl,rfl,hj1,u⟩ _;refine aN (aC (λc1=>?_) λc1=>?_);rotate_left
 .rw[la bL,<- Tr,<- O]at u;have u:=u.p2.p2.p3.p4.p4;exact⟨b3,rfl,(fm.shut (m:=m) (a:={a with q:=b2,ow:=G,ll:=Z,ps:=E}) ⟨B.uk.pr,B.uk.cs,B.uk.ks,B.uk.mem,B.uk.rc⟩ u).fresh⟩
 obtain⟨e,he⟩:=gx a.ps (i:=((j:Nat):Int).toNat) bL;obtain⟨t,ht⟩:=gx m.l (i:=j) bL;have W:=V.th t (kO ht);have GZ:=W.bl;have Wk:=W.nb;have hrgl:=W.rl;have hpl1:=yw W.p;have Ag:=W.cl;obtain⟨bp,nv,rg,pl,es,hk,Y,hB,zY,Gb,Bm⟩:=KD.rd (B.th j e t he ht);have hesl:=(Bm w).len;have OF:=Y.cell (o:=0) rfl;have M:=Y.cell (o:=2) rfl;have Wp:=Y.cell (o:=3) rfl;refine aK AA (B.ll.ext u.aF) bL he (λq30 h30=>aE CV h30 (aD (uA agG (pk.ext Y u.aF) rfl (aQ u ac4 λb6 _ u=>wR (vs:=qk bp nv rg pl t.fault) u agG rfl ee (Ov zY.one Gb.one) λ_ u=>have u:=u.enc (cs':=qk bp nv rg pl t.fault) rfl;aD (aA mj (have u:=u.drew;bE yG (OF.ext u.aF) (aD (aA uG (bE dX (M.ext u.aF) (aD ?_))))))))))
 refine aA iU (bE oK (Wp.ext u.aF) (dR avR (C84 bp m.room t.buf _ (hB.ext u.aF) bL) ?_));rintro _ _ ⟨bq,rfl,I⟩;have u:=u.made I;refine⟨aH dX (M.ext u.aF),?_⟩;refine⟨aH oK (Wp.ext u.aF),?_⟩;refine dB GS u (C83 _ t.dO _ (zY.ext u.aF) bL) (λx44 _ I u=>?_);refine⟨aH oK (Wp.ext u.aF),?_⟩;refine dB aAR u (C85 _ (J7 es) _ (Gb.ext u.aF) (by rw[qj];omega)) (λx49 _ I u=>aA mj (aR u.p3 yG (dQ rfl) rfl λwz101 u=>aA uG (aR u dX (dQ rfl) u.p2.dS.one λwz103 u=>aA iU (aR u oK (dQ rfl) u.p1.dS.one λwz105 u=>?_))))
 have u:=u.gE (Φ:=λw=>vN K w es t.bV/\True) (λw'=>⟨Bm w',trivial⟩);have u:=eJ.shut (Φ:=λ_=>True) (t:=t) (room:=m.room) (es:=es) hk u.p2.p3.p4.p4;have ng:=u.p3.fG;rw[l9]at ng;refine aA mS (aB zz u.p1.hb rfl (bD ([(⟨b6⟩:Ptr)]) u AA rfl rfl (dQ rfl) λs55 _ u=>?_));have aAT:=u.dS;exact bJ u.p3 AA aAT (by simp;omega) dy (λs56 _ u=>have u:=u.p1.drop;aA mS (aR u.p2 zz (dQ rfl) u.dS.one λ_ u=>have u:=(((((St.AN (H:=tn K m.room) (p:=⟨b6⟩) (x:=t) u.p2.p3).p4).p4).p2).p4).p4;aJ bL ⟨_,bL,j+1,s56,E++[⟨b6⟩],rfl,rfl,bL,by rw[<- gg (k:=j) ht];exact u⟩))
def Rw{p:cR}(hc:IC p):yI (fB p):=λv E=>by
 obtain⟨c,u,rfl⟩:=o1.1 E
 have h:iQ 4294967296 c=false:=by
  rcases List.mem_append.1 u with h1|h1
  .obtain⟨l,B,h2⟩:=List.mem_flatten.1 h1
   exact(hc.f.lines l B).2 c h2
  .exact hc.f.iP c h1
 unfold iQ at h
 simp only[Bool.or_eq_false_iff,decide_eq_false_iff_not]at h
 show -9223372036854775808<=c.n/\c.n<=9223372036854775807
 omega
def af4{p:cR}{room:Int}(hc:IC p):Kx (Bp p room):=by
 have h:=Rw hc
 exact Kx.begin (m:=xM p room) ⟨h,h.take _,h,λk x u=>by cases u⟩
structure BH(p:cR)(n:Nat)(m:gC):Prop where
 go:CK p n m
 vo:Kx m
 fi:m.mem.ef=fB p
def BH.step{p:cR}{n:Nat}{m:gC}{q:cS}(h:BH p n m)(hc:IC p):BH p (n+1) (kx m q).1:=⟨h.go.step hc,h.vo.do,(amz h.go.ok q).trans h.fi⟩
def BH.new{p:cR}{room:Int}(B:PZ p)(hc:IC p)(u:1<=room/\room<=16):BH p 0 (Bp p room):=⟨CK.new B hc u,af4 hc,rfl⟩
def IU:vt hH 56=some [0,0,0,0,0]:=by kernel_rfl
def V2(x y:cA):rQ (kp x) (kp y)=decide (x=y):=by
 obtain⟨a,b,c,d,e⟩:=x
 obtain⟨B,b2,u,E,G⟩:=y
 rw[show rQ (kp (⟨a,b,c,d,e⟩:cA)) (kp (⟨B,b2,u,E,G⟩:cA))=(decide (a=B)&&(decide (b=b2)&&(decide (c=u)&&(decide (d=E)&&(decide (e=G)&&true)))))from rfl]
 grind
def atI(x y:gy):rQ (kp x) (kp y)=decide (x=y):=by
 obtain⟨a,b,c,d,e⟩:=x
 obtain⟨B,b2,u,E,G⟩:=y
 rw[show rQ (kp (⟨a,b,c,d,e⟩:gy)) (kp (⟨B,b2,u,E,G⟩:gy))=(decide (a=B)&&(decide (b=b2)&&(decide (c=u)&&((d == E)&&((e == G)&&true)))))from rfl]
 grind
variable (w:World) (K:Value->hM)
def S15(B E:Value):Prop:=
 eH (λG=>cF 67 [B] (drew w) λa b=>cF 22 [E] b λc d=>cF 19 [a,c] d λe f=>eK hH (Op.unary .not e) λg=>cV g (G tt f) (cF 68 [B] f λh j=>cF 74 [E] j λk l=>
 bA .neq 114 h k λn=>cV n (G tt l) (nC E λo=>fA 44 o 3 λp=>lA 40 p l λq=>nC q λr=>fA 122 r 2 λs=>lA 41 s l λt=>cF 72 [B] l λu v=>kA 40 p q v (kA 41 s t v (
 cF 71 [u,t] v λx y=>eK hH (Op.unary .not x) λz=>cV z (G tt y) (nC E λaa=>fA 44 aa 3 λab=>lA 40 ab y λac=>nC ac λad=>fA 122 ad 3 λO=>lA 41 O y λU=>
 cF 73 [B] y λag J=>kA 40 ab ac J (kA 41 O U J (cF 71 [ag,U] J λai aj=>eK hH (Op.unary .not ai) λak=>cV ak (G tt aj) (cF 70 [B] aj λal am=>cF 75 [E] am λan ao=>
 cF 69 [al,an] ao λap aq=>eK hH (Op.unary .not ap) λar=>G ar aq))))))))) (λasx V=>∀_:Env,
 cV asx (K ff V) (jR (λK2 I W=>∀_:Env,
 bB .lss 3 I (i 4) λaw=>cV aw (cF 66 [B,I] W λax ay=>xT ax 0 λaz=>xT ax 1 λa0=>cF 76 [E,I] ay λa1 Z=>xT a1 0 λa3=>xT a1 1 λa4=>eH (λM=>
 bA .neq 3 az a3 λa5=>cV a5 (M tt Z) (bA .neq 4 a0 a4 λa6=>M a6 Z)) (λa7 Y=>∀_:Env,
 cV a7 (K ff Y) (bB .add 3 I (i 1) λa9=>K2 a9 Y))) (K tt W)) λK2=>K2 (i (-1)) V))
def P15:dL:=λi=>match i with
 | 1=>(.of [(0,[]),(2,[]),(1,[]),(3,[]),(4,[]),(5,[]),(6,[]),(7,[]),(9,[]),(8,[]),(10,[]),(11,[]),(12,[]),(13,[]),(14,[]),(16,[]),(17,[]),(18,[]),(19,[]),(20,[]),(21,[]),(22,[]),(15,[19,22]),(23,[]),(24,[]),(25,[]),(26,[]),(27,[]),(29,[]),(30,[]),(31,[]),(32,[]),(33,[]),(34,[]),(35,[]),(28,[32,35]),(36,[]),(37,[]),(38,[]),(39,[]),(40,[]),(42,[]),(41,[]),(43,[]),(44,[]),(45,[]),(46,[])])
 | _=>.nil
theorem amE(u B:Value)(h:S15 w K u B):CR 15 [u,B] w K:=
 oe 81 P15 16 [.tmp 4] Tryz.func15 h
theorem atJ:PL 15:=dJ Tryz.func15
end Go.Proofs.YtpdlpabnlkofmaaGreatDoor
namespace Go.Proofs.YtpdlpabnlkofmaaGreatDoor
open Go.Fw
def abQ:vt hH 114=some [0,0,0,1,1]:=by kernel_rfl
theorem Ac{m:gC}{x:cS}(h:x∈eW m):x.cut=[]:=by
 unfold eW at h
 split at h
 .cases h
 obtain⟨i,t,_,_,h3⟩:=Bz h
 exact(Gn h3).2.1
def C15(K K2:hM)(p q:Nat)(m:gC)(w:World)(J:Has (fm K p m) w)(E:Has (mM K2 q m) w)(M:∀w',Ext w w'->K w')(G:∀w',Ext w w'->K2 w')(B:lX m)(hvo:Kx m)(Wq:m.mem.ef=fB m.p):CR 15 [.pointer (some ⟨p,0,none⟩),.pointer (some ⟨q,0,none⟩)] w (λv w'=>v=.bool true/\Ext w w'):=by
 obtain⟨a,hr⟩:=mM.rd E;have I:=hr.b.cell (o:=8) rfl;obtain⟨ov,fv,lv,kv,wv,ws,jN,mO,hmo,hmf,Hs,Oi,hmw⟩:=hr.mem.ex;have cl:=mO.cell (o:=2) rfl;have ck:=mO.cell (o:=3) rfl;have HC:=B.mem.ll;have Ca:=B.mem.kl;have GI:=B.mem.G5;have td:=B.mem.fl;have hcb:=B.pz.dV;have ng:=vQ B;have Z:∀x∈eW m,x.cut.length<=1000000:=λ_ hx=>by rw[Ac hx];exact l2 _
 have u:=St.start w;refine amE _ _ _ _ ?_;unfold S15;refine⟨λY w'=>Y=.bool false/\St w aX [] w',?_,?_⟩
 .have u:=u.drew;refine dB aeY u (C67 K p m _ (J.ext u.aF) (λ_ e=>M _ (u.aF.then e)) B) (λx11 _ cE u=>dB aa5 u (C22 K2 q m _ (E.ext u.aF) (λ_ e=>G _ (u.aF.then e)) B) λW _ cE u=>aV aix u (C19 x11 W (eW m) (eW m) _ u.p1.dl u.dl bL Z) λ_ O u=>have u:=u.drop.drop;bN (eO ee (aV asi u (C68 K p m _ (J.ext u.aF) (λ_ e=>M _ (u.aF.then e)) B) λ_ O u=>aV az9 u (C74 K2 q m _ (E.ext u.aF) (λ_ e=>G _ (u.aF.then e)) B) λ_ O u=>Hv abQ rfl rfl (atI (j9 m) (j9 m)) (aC (λh=>absurd rfl h) λ_=>aD (aA oJ (bE Ax (I.ext u.aF) (aD ?_)))))))
  refine aA rS (bE dX (cl.ext u.aF) (dB akH u (C72 K p m _ (J.ext u.aF) (λ_ e=>M _ (u.aF.then e)) B) λU _ cE u=>?_));refine⟨aH Ax (I.ext u.aF),?_⟩;refine⟨aH dX (cl.ext u.aF),?_⟩;refine aV Uj u (C71 U lv m.mem.l m.mem.l _ u.dS (Hs.ext u.aF) bL) (λ_ O u=>have u:=u.drop;bN (eO ee (aD (aA oJ (bE Ax (I.ext u.aF) (aD (aA wV (bE dX (ck.ext u.aF) (dB asl u (C73 K p m _ (J.ext u.aF) (λ_ e=>M _ (u.aF.then e)) B) λx38 _ cE u=>?_)))))))));refine⟨aH Ax (I.ext u.aF),?_⟩;refine⟨aH dX (ck.ext u.aF),?_⟩
  exact aV Uj u (C71 x38 kv m.mem.kept m.mem.kept _ u.dS (Oi.ext u.aF) bL) (λ_ _ u=>have u:=u.drop;bN (eO ee (dB asm u (C70 K p m _ (J.ext u.aF) (λ_ e=>M _ (u.aF.then e)) B Wq) λx51 _ _ u=>dB aAa u (C75 K2 q m _ (E.ext u.aF) (λ_ e=>G _ (u.aF.then e)) B hvo Wq) λV _ _ u=>aV anL u (C69 x51 V (Bn m) (Bn m) _ u.p1.dS u.dS (by show(m.p.dV.map _).length<=_;rw[mW];omega)) λ_ _ u=>bN ⟨vb ee,u.drop.drop⟩)))
 rintro _ _ ⟨rfl,u⟩ _;refine eR ?_;refine⟨λmm y w'=>∃i:Int,y=ir i/\-1<=i/\i<=4/\mm=(4-i).toNat/\St w aX [] w',⟨_,-1,rfl,dy,dy,rfl,u⟩,?_⟩;rintro mm _ _ ⟨i,rfl,hi1,UW,rfl,u⟩ _;refine aN (aC (λc1=>?_) λ_=>⟨rfl,u.aF⟩);refine aV akI u (C66 K p m i _ (J.ext u.aF) (λ_ e=>M _ (u.aF.then e)) B) (λ_ O u=>aO rfl (aO rfl (aV aAb u (C76 K2 q m i _ (E.ext u.aF) (λ_ e=>G _ (u.aF.then e)) B) λw16 O u=>aO rfl (aO rfl ?_))));refine⟨λY w'=>Y=.bool false/\w'=w16,?_,?_⟩
 .exact bW (aC (λh=>absurd rfl h) λ_=>mh EB ⟨vb ee,rfl⟩)
 rintro _ _ ⟨rfl,rfl⟩ _;exact eR (aJ bL ⟨_,bL,i+1,rfl,bL,bL,rfl,u⟩)
def T5(u:Int):pr hH (mE 50 [(0,ir u)].toArray)=some (.agg [ir u,ir 0,ir 0,.slice none 0 0].toArray):=by kernel_rfl
section
variable {α σ:Type}[Flat σ] [Deep α σ] {w:World}
theorem aid{t:σ}{x:α}{ts:List σ}{xs:List α}(h:n5 w t x)(g:gd ts xs w):gd (t::ts) (x::xs) w:=by
 grind[gd]
end
def pk0(w:World)(a b c:Int):n5 w (⟨a,b,c,cG⟩:dC) (⟨a,b,c,[]⟩:cS):=⟨_,rfl,DL.nil w⟩
theorem e0(w:World){u:SV}(a b c:Int){l:List Int}(h:cZ (λ_=>True) w (jr u) l):n5 w (⟨a,b,c,u⟩:dC) (⟨a,b,c,l⟩:cS):=⟨_,rfl,DL.ki h⟩
def aie(t:ByteArray):Bool:=match wy t with
 | some r=>decide (r.1.length<=5000)&&r.1.all (λx=>decide (0<=x.at_/\x.at_<=1000000/\x.text.size<=1000000))
 | none=>false
def af5{t:ByteArray}(h:aie t=true):∀l e a,wy t=some (l,e,a)->jg l:=by
 intro l e a u
 unfold aie at h
 rw[u]at h
 simp only[Bool.and_eq_true,decide_eq_true_eq,List.all_eq_true]at h
 exact⟨h.1,λx B=>h.2 x B⟩
variable (w:World) (K:Value->hM)
def S14:Prop:=
 cF 65 [(Go.Value.string (j0 (#[108,105,110,101,32,97,59,32,116,104,114,101,97,100,32,116,32,123,32,114,101,103,32,114,59,32,108,111,111,112,32,50,32,123,32,105,102,32,114,32,123,32,98,114,101,97,107,59,32,125,32,115,116,111,114,101,32,97,32,61,32,49,59,32,114,32,61,32,49,59,32,125,32,108,111,97,100,32,114,32,61,32,97,59,32,99,104,101,99,107,32,114,32,61,61,32,48,59,32,125,32,97,108,119,97,121,115,32,97,32,61,61,32,49,59])))] w λa b=>
 xT a 0 λc=>xT a 1 λ_=>xT a 2 λ_=>aL 27 b λp1 d=>sA 27 p1 c d λe=>lA 27 p1 e λf=>cF 12 [f,(i 2)] e λg h=>xT g 0 λj=>xT g 1 λk=>eK hH (mE 27 [].toArray) λl=>
 cF 12 [l,(i 2)] h λn o=>xT n 0 λ_=>xT n 1 λp=>lA 27 p1 o λq=>cF 12 [q,(i 0)] o λr s=>xT r 0 λ_=>xT r 1 λt=>eH (λK1=>bB .eql 30 j (.pointer none) λu=>
 cV u (K1 tt s) (bB .neq 31 k (i 0) λv=>K1 v s)) (λx y=>∀_:Env,
 cV x (K ff y) (eK hH (mE 50 [(0,(i 1))].toArray) λz=>eK hH (mE 50 [(0,(i 2))].toArray) λaa=>aL 50 y λI ab=>aL 50 ab λG ac=>
 sA 50 I z ac λad=>sA 50 G aa ad λae=>cF 66 [j,(i 0)] ae λaf ag=>xT af 0 λah=>xT af 1 λai=>lA 50 I ag λaj=>cF 24 [j,aj] ag λak al=>xT ak 0 λam=>
 xT ak 1 λan=>aL 56 al λU ao=>sA 56 U am ao λap=>cF 67 [j] ap λaq ar=>cF 23 [j] ar λasx au=>lA 50 G au λav=>cF 24 [j,av] au λaw ax=>xT aw 0 λay=>
 xT aw 1 λ_=>aL 56 ax λO az=>sA 56 O ay az λa0=>lA 50 I a0 λa1=>cF 24 [j,a1] a0 λa2 a3=>xT a2 0 λa4=>xT a2 1 λ_=>aL 56 a3 λJ a5=>sA 56 J a4 a5 λZ=>
 lA 50 I Z λa7=>cF 24 [j,a7] Z λa8 a9=>xT a8 0 λba=>xT a8 1 λ_=>aL 56 a9 λM bb=>sA 56 M ba bb λbc=>cF 68 [j] bc λbd V=>aL 114 V λbf bg=>
 sA 114 bf bd bg λbh=>cF 66 [j,(i 1)] bh λbi W=>xT bi 0 λ_=>xT bi 1 λbk=>bB .eql 30 asx (.pointer none) λbl=>cV bl (K ff W) (lA 50 I W λbm=>cF 24 [asx,bm] W λY bo=>
 xT Y 0 λbp=>xT Y 1 λ_=>aL 56 bo λV bq=>sA 56 V bp bq λE=>eH (λK2=>bB .eql 31 p (i 2) λbs=>cV bs (bB .eql 31 t (i 1) λbt=>cV bt (bB .eql 3 ah (i 51) λbu=>
 cV bu (cV ai (lA 56 U E λbv=>eK hH (mE 56 [(0,(i 3)),(3,(i 1))].toArray) λbw=>bA .eql 56 bv bw λbx=>cV bx (bB .eql 31 an (i 0) λbz=>cV bz (lA 50 I E λb0=>
 lA 50 G E λb1=>bS 39 2 [(0,b0),(1,b1)] E λb2 b3=>cF 19 [aq,b2] b3 λb4 B=>cV b4 (lA 56 O B λb6=>eK hH (mE 56 [(0,(i 12)),(3,(i 1))].toArray) λb7=>
 bA .eql 56 b6 b7 λb8=>cV b8 (lA 56 J B λb9=>eK hH (mE 56 [(0,(i 1)),(3,(i 1))].toArray) λca=>bA .eql 56 b9 ca λcb=>cV cb (lA 56 M B λcc=>
 eK hH (mE 56 [(0,(i 16)),(2,(i 1))].toArray) λcd=>bA .eql 56 cc cd λce=>cV ce (lA 114 bf B λcf=>eK hH (mE 114 [(1,(i 1))].toArray) λcg=>
 bA .eql 114 cf cg λch=>cV ch (eK hH (Op.unary .not bk) λci=>cV ci (lA 56 V B λcj=>eK hH (mE 56 [(0,(i 2)),(3,(i 1))].toArray) λck=>bA .eql 56 cj ck λcl=>
 cV cl (cF 70 [j] B λcm cn=>bS 117 1 [(0,tt)] cn λco cp=>cF 69 [cm,co] cp λcq cr=>cV cq (cF 72 [j] cr λcs ct=>bS 41 1 [(0,(i 1))] ct λcu cv=>cF 71 [cs,cu] cv λcw cx=>
 cV cw (cF 73 [j] cx λcy cz=>bS 41 1 [(0,(i 0))] cz λc0 c1=>cF 71 [cy,c0] c1 λc2 c3=>cV c2 (cF 20 [j] c3 λc4 c5=>lN 39 c4 λc6=>bB .eql 3 c6 (i 0) λc7=>K2 c7 c5) (
 K2 ff c3)) (K2 ff cx)) (K2 ff cr)) (K2 ff B)) (K2 ff B)) (K2 ff B)) (K2 ff B)) (K2 ff B)) (K2 ff B)) (K2 ff B)) (K2 ff E)) (K2 ff E)) (K2 ff E)) (K2 ff E)) (K2 ff E)) (
 K2 ff E)) (λc8 c9=>∀_:Env,
 K c8 c9))))
theorem amF(h:S14 w K):CR 14 [] w K:=
 oe 187 (λ_=>.nil) 1 [.tmp 0] Tryz.func14 h
theorem atL:PL 14:=dJ Tryz.func14
end Go.Proofs.YtpdlpabnlkofmaaGreatDoor
namespace Go.Proofs.YtpdlpabnlkofmaaGreatDoor
open Go.Fw
def abS(u:Int):pr hH (mE 114 [(1,ir u)].toArray)=some (.agg [ir 0,ir u,ir 0,.bool false,.bool false].toArray):=by kernel_rfl
def T6:ByteArray:=⟨#[108,105,110,101,32,97,59,32,116,104,114,101,97,100,32,116,32,123,32,114,101,103,32,114,59,32,108,111,111,112,32,50,32,123,32,105,102,32,114,32,123,32,98,114,101,97,107,59,32,125,32,115,116,111,114,101,32,97,32,61,32,49,59,32,114,32,61,32,49,59,32,125,32,108,111,97,100,32,114,32,61,32,97,59,32,99,104,101,99,107,32,114,32,61,61,32,48,59,32,125,32,97,108,119,97,121,115,32,97,32,61,61,32,49,59]⟩
def sZ:cR:=((vT T6).getD (Bv,0,0)).1
def Rx:vT T6=some (sZ,0,0):=by decide +kernel
def V3:∀l e a,wy T6=some (l,e,a)->jg l:=af5 (by decide +kernel)
theorem abT:oG sZ=sZ:=by decide +kernel
def KE:PZ sZ:=by rw[<- abT];exact JL _
def fx0:gC:=Bp sZ 2
def GK:gC:=(kx fx0 (⟨1,0,0,[]⟩:cS)).1
def fx2:gC:=(kx GK (⟨2,0,0,[]⟩:cS)).1
def fx3:gC:=(kx fx2 (⟨1,0,0,[]⟩:cS)).1
def IV:gC:=(kx fx3 (⟨1,0,0,[]⟩:cS)).1
def atM:(fr sZ=0/\fr Bv=2/\oG Bv=Bv)/\OI fx0 0=(51,true)/\(kx fx0 (⟨1,0,0,[]⟩:cS)).2=((⟨3,0,0,1,0⟩:cA),0)/\eW GK=[(⟨1,0,0,[]⟩:cS),(⟨2,0,0,[]⟩:cS)]/\(kx GK (⟨2,0,0,[]⟩:cS)).2.1=(⟨12,0,0,1,0⟩:cA)/\(kx fx2 (⟨1,0,0,[]⟩:cS)).2.1=(⟨1,0,0,1,0⟩:cA)/\(kx fx3 (⟨1,0,0,[]⟩:cS)).2.1=(⟨16,0,1,0,0⟩:cA)/\(kx GK (⟨1,0,0,[]⟩:cS)).2.1=(⟨2,0,0,1,0⟩:cA):=by decide +kernel
def atO:j9 IV=⟨0,1,0,false,false⟩/\(OI IV 1).2=false/\Bn IV=[true]/\IV.mem.l=[1]/\IV.mem.kept=[0]/\iG IV=[]/\(dA (ry IV.mem)).length<=1000/\IV.mem.ef=fB IV.p:=by decide +kernel
def C14(w:World):CR 14 [] w (λv w'=>v=.bool true/\Ext w w'):=by
 obtain⟨⟨r1,r2,r3⟩,r4,r5,r6,r7,r8,r9,r10⟩:=atM;obtain⟨a1,a2,a3,a4,a5,a6,a7,a8⟩:=atO;have u:=St.start w;refine amF _ _ ?_;unfold S14;refine dR avH (C65 T6 (sZ,0,0) _ dy Rx V3) ?_;rintro _ _ ⟨pv,rfl,O⟩;have u:=u.made O;refine aO rfl (aO rfl (aO rfl (aQ u vu λb1 _ u=>aM (x:=pv) u fp rfl rfl λw2 u=>?_)));have u:=u.p1;obtain⟨FF,u,hX⟩:=u.Th;have hp:PrK (ke FF w2) pv sZ:=PrK.of hX;have U:=Ea r1;have Ws:CK sZ 0 fx0:=CK.new KE U dy;have J:CK sZ 1 GK:=Ws.step U;have DY:CK sZ 2 fx2:=J.step U
 have JI:CK sZ 3 fx3:=DY.step U;have I:CK sZ 4 IV:=JI.step U;refine aE (x:=pv) fp u.p1.At (dR aeZ (C12 (ke FF w2) sZ pv 2 _ (λ_ e=>(u.ext e).eC) hp KE) ?_);rintro _ _ hh;obtain⟨_,_,b,X,rfl,O⟩:=(hh.resolve_left λh=>h.1 r1).resolve_left (λh=>by have:=h.2.1;omega);have u:=(u.made O).split;refine aO rfl (aO rfl (pop (v:=jr (⟨cG,cG,cG,cG,cG,cG⟩:bP)) (by kernel_rfl) (dR aeZ (C12 (ke FF w2) Bv (⟨cG,cG,cG,cG,cG,cG⟩:bP) 2 _ (λ_ e=>((u.ext e).p2).eC) (PrK.of λw _=>⟨_,_,_,_,_,_,rfl,DL.nil w,DL.nil w,DL.nil w,DL.nil w,DL.nil w,DL.nil w⟩) (by rw[<- r3];exact JL _)) ?_)))
 rintro _ _ hh
 rcases hh with⟨_,rfl,M⟩|⟨h,_⟩|⟨h,_⟩
 rotate_left
 .rw[r2]at h;cases h
 .rw[r2]at h;cases h
 have u:=u.ext M;refine aO rfl (aO rfl (aE (x:=pv) fp u.p3.At (dR aeZ (C12 (ke FF w2) sZ pv 0 _ (λ_ e=>((u.ext e).p2).eC) hp KE) ?_)));rintro _ w5 hh
 rcases hh with⟨h,_⟩|⟨_,_,rfl,M⟩|⟨_,h,_⟩
 .exact absurd r1 h
 rotate_left
 .exact absurd h.1 dy
 have u:=u.ext M;refine aO rfl (aO rfl ?_);refine⟨λjv w'=>jv=.bool false/\w'=w5,?_,?_⟩
 .exact ny EC (eO rfl (bW ⟨rfl,rfl⟩))
 rintro _ _ ⟨rfl,rfl⟩ rn;refine eR (pop (T5 1) (pop (T5 2) (aQ u zy λb4 _ u=>aQ u zy λb5 _ u=>aM (x:=(⟨1,0,0,cG⟩:dC)) u.p1 oB rfl rfl λ_ u=>aM (x:=(⟨2,0,0,cG⟩:dC)) u.p1 oB rfl rfl λ_ u=>?_)));have u:=u.p3.p4;obtain⟨B,eKF⟩:∃B:hM,B=λw=>ke FF w2 w/\X w:=⟨_,rfl⟩;have u:=u.fX;rw[<- eKF]at u;refine aV akI u (C66 B b fx0 0 _ u.p3.has (λ_ e=>(u.ext e).eC) Ws.ok) (λ_ M u=>aO rfl (aO rfl (aE (x:=(⟨1,0,0,cG⟩:dC)) oB u.p2.At (aY QE u.p3 (H':=λ_=>fm B b GK) (Φ:=λv _=>v=.tuple #[jr (kx fx0 (⟨1,0,0,[]⟩:cS)).2.1,ir (kx fx0 (⟨1,0,0,[]⟩:cS)).2.2]) (λZ V Y=>?_) ?_))))
 .exact C24 B b fx0 (⟨1,0,0,[]⟩:cS) cG Z _ V (λw' W=>(Y w' W).eC) Ws.ok (by rw[Ws.pr];exact U) (Ws.mb.mono dy) (by have:=Ws.cr;omega) (λ_ _=>cZ.nil _ _) dy
 rintro _ _ rfl u;refine aO rfl (aO rfl (aQ u kf λe1 _ u=>aM (x:=(kx fx0 (⟨1,0,0,[]⟩:cS)).2.1) u eQ rfl rfl λ_ u=>dB aeY u (C67 B b GK _ u.p1.has (λ_ e=>((u.ext e).p2).eC) J.ok) λx69 OC O u=>?_));have u:=u.p2;obtain⟨E,ewc⟩:∃E,E=OC:=⟨_,rfl⟩;rw[<- ewc]at u |-;obtain⟨G,u⟩:=fm.share u;have u:=u.p1.p4.fX;refine dR atG (C23 (λw'=>B w'/\ke G E w') b GK _ u.p1.has (λ_ e=>(u.ext e).eC) J.ok (J.mb.mono dy)) ?_;rintro _ _ ⟨bc,rfl,O⟩;have u:=BG.Rv ((u.made O).p2);refine aE (x:=(⟨2,0,0,cG⟩:dC)) oB u.p5.At (aY QE u (H':=λ_=>fm (λw'=>B w'/\ke G E w') b fx2) (Φ:=λv _=>v=.tuple #[jr (kx GK (⟨2,0,0,[]⟩:cS)).2.1,ir (kx GK (⟨2,0,0,[]⟩:cS)).2.2]) (λZ V Y=>?_) ?_)
 .exact C24 (λw'=>B w'/\ke G E w') b GK (⟨2,0,0,[]⟩:cS) cG Z _ V (λw' W=>((Y w' W).p1).eC) J.ok (by rw[J.pr];exact U) (J.mb.mono dy) (by have:=J.cr;omega) (λ_ _=>cZ.nil _ _) dy
 rintro _ _ rfl u;refine aO rfl (aO rfl (aQ u kf λe2 _ u=>aM (x:=(kx GK (⟨2,0,0,[]⟩:cS)).2.1) u eQ rfl rfl λ_ u=>aE (x:=(⟨1,0,0,cG⟩:dC)) oB u.p7.At (aY QE u.p1 (H':=λ_=>fm (λw'=>B w'/\ke G E w') b fx3) (Φ:=λv _=>v=.tuple #[jr (kx fx2 (⟨1,0,0,[]⟩:cS)).2.1,ir (kx fx2 (⟨1,0,0,[]⟩:cS)).2.2]) (λZ V Y=>?_) ?_)))
 .exact C24 (λw'=>B w'/\ke G E w') b fx2 (⟨1,0,0,[]⟩:cS) cG Z _ V (λw' W=>((Y w' W).p2).eC) DY.ok (by rw[DY.pr];exact U) (DY.mb.mono dy) (by have:=DY.cr;omega) (λ_ _=>cZ.nil _ _) dy
 rintro _ _ rfl u;refine aO rfl (aO rfl (aQ u kf λe3 _ u=>aM (x:=(kx fx2 (⟨1,0,0,[]⟩:cS)).2.1) u eQ rfl rfl λ_ u=>aE (x:=(⟨1,0,0,cG⟩:dC)) oB u.p8.At (aY QE u.p1 (H':=λ_=>fm (λw'=>B w'/\ke G E w') b IV) (Φ:=λv _=>v=.tuple #[jr (kx fx3 (⟨1,0,0,[]⟩:cS)).2.1,ir (kx fx3 (⟨1,0,0,[]⟩:cS)).2.2]) (λZ V Y=>?_) ?_)))
 .exact C24 (λw'=>B w'/\ke G E w') b fx3 (⟨1,0,0,[]⟩:cS) cG Z _ V (λw' W=>((Y w' W).p3).eC) JI.ok (by rw[JI.pr];exact U) (JI.mb.mono dy) (by have:=JI.cr;omega) (λ_ _=>cZ.nil _ _) dy
 rintro _ _ rfl u;refine aO rfl (aO rfl (aQ u kf λe4 _ u=>aM (x:=(kx fx3 (⟨1,0,0,[]⟩:cS)).2.1) u eQ rfl rfl λ_ u=>aV asi u (C68 (λw'=>B w'/\ke G E w') b IV _ u.p1.has (λ_ e=>((u.ext e).p5).eC) I.ok) λ_ M u=>aQ u AB λbs _ u=>aM (x:=j9 IV) u yR rfl rfl λ_ u=>aV akI u (C66 (λw'=>B w'/\ke G E w') b IV 1 _ u.p2.has (λ_ e=>((u.ext e).p6).eC) I.ok) λ_ M u=>aO rfl (aO rfl (ny EC (eO rfl (aE (x:=(⟨1,0,0,cG⟩:dC)) oB u.p10.At ?_))))));refine aY QE u.p5 (H':=λ_=>fm (λw'=>B w'/\ke G E w') bc (kx GK (⟨1,0,0,[]⟩:cS)).1) (Φ:=λv _=>v=.tuple #[jr (kx GK (⟨1,0,0,[]⟩:cS)).2.1,ir (kx GK (⟨1,0,0,[]⟩:cS)).2.2]) (λZ V Y=>?_) ?_
 .exact C24 (λw'=>B w'/\ke G E w') bc GK (⟨1,0,0,[]⟩:cS) cG Z _ V (λw' W=>((Y w' W).p5).eC) J.ok (by rw[J.pr];exact U) (J.mb.mono dy) (by have:=J.cr;omega) (λ_ _=>cZ.nil _ _) dy
 rintro _ _ rfl u;refine aO rfl (aO rfl (aQ u kf λe5 _ u=>aM (x:=(kx GK (⟨1,0,0,[]⟩:cS)).2.1) u eQ rfl rfl λ_ u=>?_));refine⟨λjv w'=>jv=.bool true/\Ext w w',?_,?_⟩;rotate_left
 .rintro _ _ h rn;exact h
 refine aG (aC (λ_=>?_) λh=>absurd rfl h);refine aG (aC (λ_=>?_) λh=>absurd rfl h);refine aG (aC (λ_=>?_) λh=>absurd (by rw[r4]) h);refine qf (by rw[r4]) (aE (x:=(kx fx0 (⟨1,0,0,[]⟩:cS)).2.1) eQ u.p9.At (pop (rI 3 1) (oo IU rfl rfl (V2 (kx fx0 (⟨1,0,0,[]⟩:cS)).2.1 (⟨3,0,0,1,0⟩:cA)) (aC (λ_=>?_) λh=>absurd (by rw[r5]) h))));refine aG (aC (λ_=>?_) λh=>absurd (by rw[r5]) h);refine aE (x:=(⟨1,0,0,cG⟩:dC)) oB u.p11.At (aE (x:=(⟨2,0,0,cG⟩:dC)) oB u.p10.At (bD ([(⟨1,0,0,cG⟩:dC),(⟨2,0,0,cG⟩:dC)]:List dC) u kB rfl rfl (dQ rfl) λxl _ u=>aV aix u (C19 x69 xl (eW GK) [(⟨1,0,0,[]⟩:cS),(⟨2,0,0,[]⟩:cS)] _ u.p9.dl (DL.of u.dS (aid (pk0 _ 1 0 0) (aid (pk0 _ 2 0 0) gd.nil))) (by rw[r6];decide) λ_ hq=>by rw[Ac hq];exact l2 _) λ_ M u=>aC (λ_=>?_) λh=>absurd r6 h))
 have u:=u.drop;refine aE (x:=(kx GK (⟨2,0,0,[]⟩:cS)).2.1) eQ u.p6.At (pop (rI 12 1) (oo IU rfl rfl (V2 (kx GK (⟨2,0,0,[]⟩:cS)).2.1 (⟨12,0,0,1,0⟩:cA)) (aC (λ_=>?_) λh=>absurd r7 h)));refine aE (x:=(kx fx2 (⟨1,0,0,[]⟩:cS)).2.1) eQ u.p5.At (pop (rI 1 1) (oo IU rfl rfl (V2 (kx fx2 (⟨1,0,0,[]⟩:cS)).2.1 (⟨1,0,0,1,0⟩:cA)) (aC (λ_=>?_) λh=>absurd r8 h)));refine aE (x:=(kx fx3 (⟨1,0,0,[]⟩:cS)).2.1) eQ u.p3.At (pop (mY 16 1) (oo IU rfl rfl (V2 (kx fx3 (⟨1,0,0,[]⟩:cS)).2.1 (⟨16,0,1,0,0⟩:cA)) (aC (λ_=>?_) λh=>absurd r9 h)))
 refine aE (x:=j9 IV) yR u.p2.At (pop (abS 1) (oo abQ rfl rfl (atI (j9 IV) ⟨0,1,0,false,false⟩) (aC (λ_=>?_) λh=>absurd a1 h)));refine bN (qf (by rw[a2];rfl) (aE (x:=(kx GK (⟨1,0,0,[]⟩:cS)).2.1) eQ u.At (pop (rI 2 1) (oo IU rfl rfl (V2 (kx GK (⟨1,0,0,[]⟩:cS)).2.1 (⟨2,0,0,1,0⟩:cA)) (aC (λ_=>?_) λh=>absurd r10 h)))));refine dB asm u (C70 (λw'=>B w'/\ke G E w') b IV _ u.p4.has (λ_ e=>((u.ext e).p7).eC) I.ok a8) (λk1 _ O u=>bD ([true]:List Bool) u rR rfl rfl (dQ rfl) λzk1 _ u=>aV anL u (C69 k1 zk1 _ [true] _ u.p1.dS u.dS (by rw[a3];decide)) λ_ M u=>aC (λ_=>?_) λh=>absurd a3 h)
 have u:=u.drop.drop;refine dB akH u (C72 (λw'=>B w'/\ke G E w') b IV _ u.p4.has (λ_ e=>((u.ext e).p7).eC) I.ok) (λk2 _ O u=>bD ([1]:List Int) u cQ rfl rfl (dQ rfl) λzk2 _ u=>aV Uj u (C71 k2 zk2 _ [1] _ u.p1.dS u.dS (by rw[a4];decide)) λ_ M u=>aC (λ_=>?_) λh=>absurd a4 h);have u:=u.drop.drop;refine dB asl u (C73 (λw'=>B w'/\ke G E w') b IV _ u.p4.has (λ_ e=>((u.ext e).p7).eC) I.ok) (λk3 _ O u=>bD ([0]:List Int) u cQ rfl rfl (dQ rfl) λzk3 _ u=>aV Uj u (C71 k3 zk3 _ [0] _ u.p1.dS u.dS (by rw[a5];decide)) λ_ M u=>aC (λ_=>?_) λh=>absurd a5 h)
 have u:=u.drop.drop;refine dB ase u (C20 (λw'=>B w'/\ke G E w') b IV _ u.p4.has (λ_ e=>((u.ext e).p7).eC) I.ok (I.mb.mono dy) bL) (λx183 _ O u=>?_);rw[a6]at u;obtain⟨ts,u⟩:=u.v8;have Hu:=u.XA;refine aI kB u.dS ?_;rw[Hu];exact aG ⟨rfl,u.aF⟩
theorem BI{α β:Type}{n:Nat}:∀{l:List α}{f:α->List β},(∀x∈l,(f x).length=n)->(l.flatMap f).length=l.length*n
 | [],_,_=>(Nat.zero_mul n).symm
 | x::l,f,h=>by
  rw[List.flatMap_cons,List.length_append,BI λy u=>h y (qa _ u),h x (o4 ..),o5,Nat.succ_mul,Nat.add_comm]
theorem KG(p:Nat)(ps:List Nat):(dA (p::ps)).length=(p+1)*(dA ps).length:=by
 rw[dA,BI (n:=(dA ps).length) λx _=>by rw[mW],P6]
theorem IW:∀(ps:List Nat) (n:Int),1<=n->zi (ps.map fun (k:Nat)=>(k:Int)) n<=100->n*((dA ps).length:Int)<=100
 | [],n,h,h2=>by
  have e:(dA []).length=1:=rfl
  rw[e]
  have:n<=100:=h2
  omega
 | p::ps,n,h,h2=>by
  rw[Ix,zi]at h2
  split at h2
  .have h3:1<=n*((p:Int)+1):=by
    have:=Int.mul_le_mul_of_nonneg_left (show(1:Int)<=(p:Int)+1 by omega) (show(0:Int)<=n by omega)
    omega
   have u:=IW ps _ h3 h2
   rw[KG,Int.natCast_mul,<- Int.mul_assoc]
   exact u
  .omega
def GG{m:Mem}(h:IT (sW m)<=100):(dA (ry m)).length<=100:=by
 have:=IW (ry m) 1 (Ot 1) h
 omega
def BJ{m:gC}(u:lX m){x:cS}(h:x∈iG m):x.cut.length<=20:=by
 unfold iG at h
 split at h
 .cases h
 obtain⟨c,hc,rfl⟩:=o1.1 h
 exact(Re u.mem hc).2
def BK{m:gC}(u:lX m)(h:IT (sW m.mem)<=100):(iG m).length<=100:=by
 unfold iG
 split
 .exact l2 _
 rw[mW]
 exact vJ (Bl _ _) (GG h)
variable (w:World) (K:Value->hM)
def S3(p0 q8 yE:Value):Prop:=
 qM hH (Instr.box 27 p0) w λp3 a=>lA 27 p3 a λb=>cF 11 [b] a λc d=>sA 27 p3 c d λe=>bB .and 3 q8 (i 3) λf=>bC .add 3 (i 1) f λg=>lA 27 p3 e λh=>
 cF 12 [h,g] e λj k=>xT j 0 λl=>xT j 1 λn=>lA 27 p3 k λo=>cF 13 [o,g] k λp q=>xT p 0 λr=>xT p 1 λs=>eH (λK1=>bA .neq 31 n s λt=>cV t (K1 tt q) (
 bB .eql 30 l (.pointer none) λu=>bB .eql 34 r (.pointer none) λv=>bA .neq 4 u v λx=>K1 x q)) (λy z=>∀_:Env,
 cV y (K ff z) (eH (λK2=>bB .eql 30 l (.pointer none) λaa=>cV aa (K2 tt z) (bB .eql 34 r (.pointer none) λab=>K2 ab z)) (λac ad=>∀_:Env,
 cV ac (cF 14 [] ad λae af=>K ae af) (cF 15 [l,r] ad λag ah=>eK hH (Op.unary .not ag) λai=>cV ai (K ff ah) (od (λK3 s8 B aj=>∀_:Env,
 eH (λK4=>lN 28 yE λak=>bA .lss 3 B ak λal=>cV al (bB .lss 3 B (i 60) λam=>K4 am aj) (K4 ff aj)) (λan ao=>∀_:Env,
 cV an (eH (λK5=>bS 39 0 [] ao λap aq=>eH (λK6=>eH (λK7=>nC r λar=>fA 44 ar 2 λasx=>lA 3 asx aq λau=>bB .lss 3 au (i 2) λav=>cV av (nC r λaw=>
 fA 44 aw 3 λax=>lA 40 ax aq λay=>cF 17 [ay] aq λaz a0=>cF 16 [az] a0 λa1 a2=>bB .leq 3 a1 (i 100) λa3=>K7 a3 a2) (K7 ff aq)) (λa4 a5=>∀_:Env,
 cV a4 (cF 18 [r] a5 λa6 a7=>cF 20 [s8] a7 λa8 a9=>cF 19 [a8,a6] a9 λba bb=>eK hH (Op.unary .not ba) λbc=>cV bc (K ff bb) (K6 a6 bb)) (K6 ap a5))) (λWh bd=>∀_:Env,
 eH (λK8=>iA 28 yE B λO=>lA 53 O (drew bd) λE=>nC r λbg=>fA 44 bg 2 λU=>lA 3 U (drew bd) λG=>((cF 22 [r] (drew bd) λbj bk=>kA 53 O E bk (
 kA 3 U G bk ((cF 21 [E,bj,Wh,G] bk λbl bm=>aL 50 bm λa14 bn=>kA 53 O E bn (kA 3 U G bn (sA 50 a14 bl bn λbo=>K8 a14 bo)))
 /\((aL 50 bk λW bp=>kA 53 O E bp (kA 3 U G bp (cF 21 [E,bj,Wh,G] bp λbq br=>sA 50 W bq br λbs=>K8 W bs)))
 /\
 True))))
 /\((aL 50 (drew bd) λY bt=>kA 53 O E bt (kA 3 U G bt (cF 22 [r] bt λbu bv=>kA 53 O E bv (kA 3 U G bv (cF 21 [E,bu,Wh,G] bv λbw bx=>sA 50 Y bw bx λbz=>
 K8 Y bz)))))
 /\
 True))) (λM b0=>∀_:Env,
 eH (λK9=>iA 28 yE B λb1=>fA 53 b1 0 λb2=>lA 3 b2 b0 λb3=>bB .eql 3 b3 (i 3) λb4=>cV b4 (cF 23 [s8] b0 λb5 b6=>lA 50 M b6 λb7=>cF 24 [s8,b7] b6 λ_ b8=>
 bB .eql 30 b5 (.pointer none) λb9=>cV b9 (K ff b8) (K9 b5 b8)) (K9 s8 b0)) (λJ ca=>∀_:Env,
 lA 50 M ca λcb=>cF 24 [J,cb] ca λcc cd=>xT cc 0 λce=>xT cc 1 λcf=>aL 56 cd λcg ch=>sA 56 cg ce ch λci=>lA 50 M ci λcj=>cF 25 [r,cj] ci λck cl=>
 xT ck 0 λcm=>xT ck 1 λcn=>aL 56 cl λZ co=>sA 56 Z cm co λV=>eH (λI=>lA 56 cg V λcq=>lA 56 Z V λcr=>bA .neq 56 cq cr λcs=>cV cs (I tt V) (
 bA .neq 31 cf cn λct=>cV ct (I tt V) (cF 15 [J,r] V λcu cv=>eK hH (Op.unary .not cu) λcw=>I cw cv))) (λcx cy=>∀_:Env,
 cV cx (K ff cy) (K5 J cy)))))) (λaAV cz=>∀_:Env,
 bB .add 3 B (i 1) λc0=>K3 aAV c0 cz)) (cF 14 [] ao λc1 c2=>K c1 c2))) λK3=>K3 l (i 0) ah)))))
def P3:dL:=λi=>match i with
 | 19=>(.op 0 [] (.op 1 [] (.op 2 [] (.op 3 [] (.op 4 [] (.op 6 [] (.op 7 [] (.op 8 [] (.op 9 [] (.op 10 [] (.alt 5 [3,10] (.alt 11 [] (.of [(12,[3,10]),(13,[])]) (.alt 12 [3,10] (.of [(11,[]),(13,[])]) .stop)) (.alt 12 [3,10] (.of [(5,[3,10]),(11,[]),(13,[])]) .stop))))))))))))
 | _=>.nil
theorem atP(p0 B u:Value)(h:S3 w K p0 B u):CR 3 [p0,B,u] w K:=
 oe 143 P3 64 [.tmp 6] Tryz.func3 h
end Go.Proofs.YtpdlpabnlkofmaaGreatDoor
namespace Go.Proofs.YtpdlpabnlkofmaaGreatDoor
open Go.Fw
def amH:PL 21:=dJ Tryz.func21
def mM.c7{K:hM}{p:Nat}{m:gC}{w:World}(h:Has (mM K p m) w):Cell w p 7 (ir m.dz):=by
 obtain⟨a,u⟩:=mM.rd h
 exact u.b.cell rfl
def C3(p:cR)(pv:bP)(n:Int)(lv:Value)(l:List GX)(w:World)(hp:n5 w pv p)(hL:DL w lv l):CR 3 [jr pv,ir n,lv] w (λv w'=>v=.bool true/\Ext w w'):=by
 obtain⟨ats,hRa,hDa⟩:=hL.open;have hna:ats.length=l.length:=hDa.1;have u:=St.start w;refine atP _ _ _ _ _ ?_;unfold S3;refine cP (x:=pv) u (λb0 w1 u=>aE fp u.At (dR avD (C11 p pv _ (NB hp u.aF)) ?_));rintro _ w2 ⟨Z,rfl,cE⟩;have u:=u.made cE;refine aM (x:=Z) u.p1 fp rfl rfl (λw3 u=>?_);have u:=u.p1;obtain⟨B,ewk⟩:∃B,B=w3:=⟨_,rfl⟩;rw[<- ewk]at u |-;obtain⟨E,u,hX⟩:=u.Th;have hp1:PrK (ke E B) Z (oG p):=PrK.of hX;have hz:=JL p;have ha:=zx n (b:=3) dy dy;refine R4 dy dy (aJ bL (aE fp u.p1.At (dR aeZ (C12 (ke E B) (oG p) Z (1+rP n 3) _ (λ_ e=>(u.ext e).eC) hp1 hz) ?_)))
 rintro _ w4 (⟨h1,rfl,he⟩|⟨_,h1,_⟩|⟨yt,_,b1,X,rfl,cE⟩)
 .have u:=u.ext he;refine aO rfl (aO rfl (aE fp u.p1.At (dR atc (C13 (ke E B) (oG p) Z (1+rP n 3) _ (λ_ e=>(u.ext e).eC) hp1 hz) ?_)));rintro _ w5 (⟨_,rfl,he⟩|⟨h2,_⟩|⟨h2,_⟩);rotate_left
  .exact absurd h2 h1
  .exact absurd h2 h1
  have u:=u.ext he;refine aO rfl (aO rfl ?_);refine⟨λM w'=>M=.bool false/\w'=w5,?_,?_⟩
  .exact bW (aC (λh=>absurd rfl h) λ_=>ny EC (ny W9 (mh EB ⟨rfl,rfl⟩)))
  rintro _ w6 ⟨rfl,rfl⟩ rn;refine eR ?_;refine⟨λM w'=>M=.bool true/\w'=w6,?_,?_⟩
  .exact ny EC (qf rfl ⟨rfl,rfl⟩)
  rintro _ w7 ⟨rfl,rfl⟩ vp;exact gO (aV atL u (C14 _) λ_ _ u=>⟨rfl,u.aF⟩)
 .omega
 have u:=(u.made cE).split;refine aO rfl (aO rfl (aE fp u.p3.At (dR atc (C13 (ke E B) (oG p) Z (1+rP n 3) _ (λ_ e=>(u.ext e).p2.eC) hp1 hz) ?_)));rintro _ w5 (⟨h1,_⟩|⟨_,h1,_⟩|⟨_,_,b2,rfl,cE⟩)
 .exact absurd yt h1
 .omega
 have u:=((u.made cE).p2).p3;obtain⟨G,eKd⟩:∃G:hM,G=λw=>ke E B w/\X w:=⟨_,rfl⟩;have u:=u.fX;rw[<- eKd]at u;have I:∀w,G w->ke E B w:=λ_ h=>by rw[eKd]at h;exact h.1
 have u:=u.p3.p1.p3.p3;have wK:=Ea yt;refine aO rfl (aO rfl ?_);refine⟨λM w'=>M=.bool false/\w'=w5,?_,?_⟩
 .exact bW (aC (λh=>absurd rfl h) λ_=>ny EC (ny W9 (mh EB ⟨rfl,rfl⟩)))
 rintro _ w6 ⟨rfl,rfl⟩ rn;refine eR ?_;refine⟨λM w'=>M=.bool false/\w'=w6,?_,?_⟩
 .exact ny EC (eO rfl (ny W9 ⟨rfl,rfl⟩))
 rintro _ w7 ⟨rfl,rfl⟩ vp;refine eR ?_;have Ws:BH (oG p) 0 (Bp (oG p) (1+rP n 3)):=BH.new hz wK bL;refine aV atJ u (C15 G (ke E B) b1 b2 (Bp (oG p) (1+rP n 3)) _ u.p1.has u.has (λ_ e=>((u.ext e).p2).eC) (λ_ e=>I _ ((u.ext e).p2).eC) Ws.go.ok Ws.vo (show(Bp (oG p) (1+rP n 3)).mem.ef=fB (Bp (oG p) (1+rP n 3)).p from by rw[Ws.go.pr];exact Ws.fi)) (λw8 he u=>bN (eO rfl ?_));refine⟨λmm y1 y2 w'=>∃(k b:Nat) (m:gC) (G:hM),y1=.pointer (some ⟨b,0,none⟩)/\y2=ir (k:Int)/\mm=60-k/\k<=60/\BH (oG p) k m/\(∀w,G w->ke E B w)/\St w aX [mM (ke E B) b2 m,fm G b m,eC G,bX b0 (kp Z)] w',⟨_,0,b1,Bp (oG p) (1+rP n 3),G,rfl,rfl,rfl,l2 _,Ws,I,u⟩,?_⟩
 clear eKd I
 rintro mm _ _ w9 ⟨k,b,m,G,rfl,rfl,rfl,hk,hgv,I,u⟩ _;refine⟨λM w'=>M=.bool (decide (k<l.length/\k<60))/\w'=w9,?_,?_⟩
 .exact aI aiM (hRa.ext u.aF) (aN (aC (λ_=>aN ⟨vb (fN.2 bL),rfl⟩) λ_=>⟨vb (ez bL).symm,rfl⟩))
 rintro _ _ ⟨rfl,rfl⟩ _;refine aC (λc1=>?_) (λc1=>?_);rotate_left
 .exact aV atL u (C14 _) (λ_ _ u=>⟨rfl,u.aF⟩)
 obtain⟨a,V6⟩:=gx l (i:=k) bL;obtain⟨av,hav⟩:=gx ats (i:=((k:Nat):Int).toNat) bL;have QJ:=hDa.2 k av a hav V6;obtain⟨gp,rfl,hgp⟩:=id QJ;have hg:=hgv.go;have U:=hg.ok;have hvo:=hgv.vo;have Wq:=(show m.mem.ef=fB m.p from by rw[hgv.go.pr];exact hgv.fi);have mO:=hg.mb.mono (b:=1000000) bL;have EL:=hg.cr;have ng:=vQ U;refine⟨λy w'=>∃(Y:Nat) (m2:gC) (K2:hM),y=.pointer (some ⟨Y,0,none⟩)/\BH (oG p) (k+1) m2/\(∀w,K2 w->ke E B w)/\St w aX [mM (ke E B) b2 m2,fm K2 Y m2,eC K2,bX b0 (kp Z)] w',?_,?_⟩;rotate_left
 .rintro _ _ ⟨Y,m2,K2,rfl,DY,V,u⟩ _;exact aJ bL ⟨60-(k+1),bL,k+1,Y,m2,K2,rfl,rfl,rfl,bL,DY,V,u⟩
 refine ot (α:=cS) u kB (λs68 _ u=>?_);refine⟨λM w'=>∃c:List cS,(c=[]\/(c=iG m/\IT (sW m.mem)<=100))/\St w aX [fy M c,mM (ke E B) b2 m,fm G b m,eC G,bX b0 (kp Z)] w',?_,?_⟩
 .refine⟨λM w'=>(∃b,M=.bool b/\(b=true->IT (sW m.mem)<=100))/\St w aX [fy s68 ([]:List cS),mM (ke E B) b2 m,fm G b m,eC G,bX b0 (kp Z)] w',?_,?_⟩
  .obtain⟨ra,Wj⟩:=mM.rd u.p1.has;refine aD (aA Az (bE bO (Wj.b.cell (o:=7) rfl) (aN (aC (λc2=>?_) λ_=>⟨⟨false,rfl,λh=>by cases h⟩,u⟩))));refine aD (aA oJ (bE Ax (Wj.b.cell (o:=8) rfl) (dB aiw u (C17 ra.q m.mem _ Wj.mem U.mem mO) λx79 _ cE u=>aV avE u (C16 x79 (sW m.mem) _ u.dS (by rw[IL];have:=U.mem.lb;omega) λn hn=>?_) λ_ he u=>?_)))
   .obtain⟨j,hj⟩:=yA.1 hn;have:=mO j;rw[Ok hj];omega
   exact gu ⟨⟨_,rfl,λh=>gM h⟩,u.drop⟩
  rintro _ _ ⟨⟨bb,rfl,hb⟩,u⟩ dd5;refine aW (λc3=>?_) (λ_=>⟨[],.inl rfl,u⟩);have hmy:=hb c3;have hcs:=GG hmy;have Ag:=BK U hmy;exact dB az5 u (C18 (ke E B) b2 m _ u.p1.has (λ_ e=>I _ ((u.ext e).p3).eC) U mO bL) (λx84 _ _ u=>dB ase u (C20 G b m _ u.p3.has (λ_ e=>((u.ext e).p4).eC) U mO bL) λx86 _ _ u=>aV aix u (C19 x86 x84 (iG m) (iG m) _ u.dl u.p1.dl bL λ_ hq=>vJ (BJ U hq) dy) λ_ _ u=>bN (eO ee (have u:=u.drop.p1.drop;⟨_,.inr ⟨rfl,hmy⟩,u⟩)))
 rintro Wh _ ⟨c,hc,u⟩ dd5
 have Ag:c.length<=100/\∀q∈c,q.cut.length<=1000:=by
  rcases hc with rfl|⟨rfl,h⟩
  .exact⟨l2 _,λ_ hq=>by cases hq⟩
  .exact⟨BK U h,λ_ hq=>vJ (BJ U hq) dy⟩
 obtain⟨tc,u⟩:=u.v8;have u:=u.freeze;refine⟨λM w'=>∃(VY:Nat) (sh:dC) (tl:List dC),M=.pointer (some ⟨VY,0,none⟩)/\afu (⟨a.kind,a.n,gp⟩:v9) a tl (eW m) tc c m.dz sh/\St w aX [bX VY (kp sh),eC (λw=>gd tl (eW m) w),eC (λw=>cZ (λ_=>True) w Wh tc),eC (λw=>gd tc c w),mM (ke E B) b2 m,fm G b m,eC G,bX b0 (kp Z)] w',?_,?_⟩
 .have u:=u.drew;refine aK aiM hRa bL hav (λq92 W=>aE Up (W.ext u.aF) (aD (aA Az (bE bO (mM.c7 u.p2.has) ⟨?_,?_,trivial⟩))))
  .refine dB aa5 u (C22 (ke E B) b2 m _ u.p2.has (λ_ e=>I _ ((u.ext e).p4).eC) U) (λx95 _ cE u=>?_);obtain⟨tl,u⟩:=u.v8;have u:=u.freeze;refine⟨fq Up (W.ext u.aF),?_⟩;refine⟨aH bO (mM.c7 u.p4.has),?_⟩;refine⟨?_,?_,trivial⟩
   .refine dR amH (C21 a (⟨a.kind,a.n,gp⟩:v9) x95 Wh tl (eW m) tc c m.dz _ (NB QJ u.aF) u.eC u.p1.eC u.p2.eC u.p3.eC bL bL) ?_;rintro _ _ ⟨sh,rfl,he,Rz⟩;have u:=u.ext he;refine aQ u zy (λVY _ u=>?_);refine⟨fq Up (W.ext u.aF),?_⟩;refine⟨aH bO (mM.c7 u.p5.has),?_⟩;exact aM (x:=sh) u oB rfl rfl (λ_ u=>have u:=u.p1.drop.p7.p7.p7.p7.p7.p7.p7.p7;⟨VY,sh,tl,rfl,Rz,u⟩)
   refine aQ u zy (λVY _ u=>?_);refine⟨fq Up (W.ext u.aF),?_⟩;refine⟨aH bO (mM.c7 u.p5.has),?_⟩;refine dR amH (C21 a (⟨a.kind,a.n,gp⟩:v9) x95 Wh tl (eW m) tc c m.dz _ (NB QJ u.aF) u.p1.eC u.p2.eC u.p3.eC u.p4.eC bL bL) ?_;rintro _ _ ⟨sh,rfl,he,Rz⟩;have u:=u.ext he;exact aM (x:=sh) u oB rfl rfl (λ_ u=>have u:=u.p1.drop.p7.p7.p7.p7.p7.p7.p7.p7;⟨VY,sh,tl,rfl,Rz,u⟩)
  refine aQ u zy (λVY _ u=>?_);refine⟨fq Up (W.ext u.aF),?_⟩;refine⟨aH bO (mM.c7 u.p3.has),?_⟩;refine dB aa5 u (C22 (ke E B) b2 m _ u.p3.has (λ_ e=>I _ ((u.ext e).p5).eC) U) (λx95 _ cE u=>?_);obtain⟨tl,u⟩:=u.v8;have u:=u.freeze;refine⟨fq Up (W.ext u.aF),?_⟩;refine⟨aH bO (mM.c7 u.p5.has),?_⟩;refine dR amH (C21 a (⟨a.kind,a.n,gp⟩:v9) x95 Wh tl (eW m) tc c m.dz _ (NB QJ u.aF) u.eC u.p1.eC u.p3.eC u.p4.eC bL bL) ?_;rintro _ _ ⟨sh,rfl,he,Rz⟩;have u:=u.ext he;exact aM (x:=sh) u.p2 oB rfl rfl (λ_ u=>have u:=u.p1.drop.p7.p7.p7.p7.p7.p7.p7.p7;⟨VY,sh,tl,rfl,Rz,u⟩)
 rintro _ w60 ⟨VY,sh,tl,rfl,Rz,u⟩ _;obtain⟨q,eq⟩:∃q,q=yK a (eW m) c m.dz:=⟨_,rfl⟩;have hql:q.cut.length<=1000:=by rw[eq];exact afv (λ_ hy=>by rw[Ac hy];exact l2 _) Ag.2
 obtain⟨gc,rfl,hgc⟩:=Rz.rd u.p1.eC u.p3.eC;rw[<- eq]at u hgc;have Dz:∀w',Ext w w'->gd tl (eW m) w'->gd tc c w'->cZ (λ_=>True) w' (jr gc) q.cut:=λw' e h1 h2=>hgc w' ((Gp hgp).ext e) h1 h2;refine⟨λy w'=>∃(Y:Nat) (K2:hM),y=.pointer (some ⟨Y,0,none⟩)/\(∀w,K2 w->ke E B w)/\St w aX [bX VY (kp (⟨q.kind,q.t,q.i,gc⟩:dC)),eC (λw=>gd tl (eW m) w),eC (λw=>cZ (λ_=>True) w Wh tc),eC (λw=>gd tc c w),mM (ke E B) b2 m,fm K2 Y m,eC K2,bX b0 (kp Z)] w',?_,?_⟩
 .refine aK aiM (hRa.ext u.aF) bL hav (λq104 aA1=>bT a.kind Jg aA1 rfl rfl λq105 aA2=>aE bO aA2 (aG (aC (λ_=>?_) λ_=>⟨b,G,rfl,I,u⟩)));obtain⟨wc,ewc⟩:∃wc,wc=w60:=⟨_,rfl⟩;rw[<- ewc]at u |-;have u:=u.p5;obtain⟨FC,u⟩:=fm.share u;have u:=u.p1.p7.fX;refine dR atG (C23 (λw'=>G w'/\ke FC wc w') b m _ u.p1.has (λ_ e=>(u.ext e).eC) U mO) ?_;rintro _ _ ⟨bc,rfl,cE⟩;have u:=BG.Rv ((u.made cE).p2);refine aE (x:=(⟨q.kind,q.t,q.i,gc⟩:dC)) oB u.p3.At (aY QE u (H':=λ_=>fm (λw'=>G w'/\ke FC wc w') b (kx m q).1) (Φ:=λv _=>v=.tuple #[jr (kx m q).2.1,ir (kx m q).2.2]) (λFQ Ry O=>?_) ?_)
  .exact C24 (λw'=>G w'/\ke FC wc w') b m q gc FQ _ Ry (λw' J=>((O w' J).p1).eC) U (by rw[hg.pr];exact wK) mO bL (λw' J=>Dz w' (O w' J).aF ((O w' J).p3).eC ((O w' J).p5).eC) hql
  rintro _ _ rfl u;exact ny EC (eO rfl (have u:=u.drop.p7.p2.p2.p7.p7.p7.p7.p7;⟨bc,(λw'=>G w'/\ke FC wc w'),rfl,λw h=>I w h.1,u⟩))
 rintro _ _ ⟨Y,K2,rfl,V,u⟩ _;refine aE (x:=(⟨q.kind,q.t,q.i,gc⟩:dC)) oB u.At (aY QE u.p5 (H':=λ_=>fm K2 Y (kx m q).1) (Φ:=λv _=>v=.tuple #[jr (kx m q).2.1,ir (kx m q).2.2]) (λFQ Ry O=>?_) ?_)
 .exact C24 K2 Y m q gc FQ _ Ry (λw' J=>((O w' J).p5).eC) U (by rw[hg.pr];exact wK) mO bL (λw' J=>Dz w' (O w' J).aF ((O w' J).p1).eC ((O w' J).p3).eC) hql
 rintro _ _ rfl u;refine aO rfl (aO rfl (aQ u kf λb16 _ u=>aM (x:=(kx m q).2.1) u eQ rfl rfl λ_ u=>aE (x:=(⟨q.kind,q.t,q.i,gc⟩:dC)) oB u.p2.At (aY az8 u.p6 (H':=λ_=>mM (ke E B) b2 (kx m q).1) (Φ:=λv _=>v=.tuple #[jr (kx m q).2.1,ir (kx m q).2.2]) (λFQ Ry O=>?_) ?_)))
 .exact C25 (ke E B) b2 m q gc FQ _ Ry (λw' J=>V _ ((O w' J).p6).eC) U hvo (by rw[hg.pr];exact wK) mO bL Wq (λw1 hc _ e=>V _ (((O w1 hc).ext e).p6).eC) (λw' J=>Dz w' (O w' J).aF ((O w' J).p3).eC ((O w' J).p5).eC) hql
 rintro _ _ rfl u;refine aO rfl (aO rfl (aQ u kf λb18 _ u=>aM (x:=(kx m q).2.1) u eQ rfl rfl λ_ u=>?_));have hgn:=hgv.step (q:=q) wK;refine⟨λM w'=>M=.bool false/\St w aX [bX b18 (kp (kx m q).2.1),mM (ke E B) b2 (kx m q).1,bX b16 (kp (kx m q).2.1),fm K2 Y (kx m q).1,bX VY (kp (⟨q.kind,q.t,q.i,gc⟩:dC)),eC (λw=>gd tl (eW m) w),eC (λw=>cZ (λ_=>True) w Wh tc),eC (λw=>gd tc c w),eC K2,bX b0 (kp Z)] w',?_,?_⟩
 .exact aE (x:=(kx m q).2.1) eQ u.p2.At (aE (x:=(kx m q).2.1) eQ u.At (Hv IU rfl rfl (V2 (kx m q).2.1 (kx m q).2.1) (aC (λh=>absurd rfl h) λ_=>bW (aC (λh=>absurd rfl h) λ_=>aV atJ u (C15 K2 (ke E B) Y b2 (kx m q).1 _ u.p3.has u.p1.has (λ_ e=>((u.ext e).p8).eC) (λ_ e=>V _ ((u.ext e).p8).eC) hgn.go.ok hgn.vo (show(kx m q).1.mem.ef=fB (kx m q).1.p from by rw[hgn.go.pr];exact hgn.fi)) λ_ _ u=>bN ⟨rfl,u⟩))))
 rintro _ _ ⟨rfl,u⟩ _;exact eR (have u:=u.p2.drop.drop.p2.drop.p2.drop.p2.drop.p2.drop.p3.p3.p3.p3;⟨Y,(kx m q).1,K2,rfl,hgn,V,u⟩)
def own:ownKnob Tryz.prog.godebug=none:=by kernel_rfl
def rd9:yT hH 9 ByteArray (λy=>y.size<=maxLen):=RdT.deep (aiT Tryz.underlying9 (by kernel_rfl)) λ_ _=>rfl
def KN:yT hH 3 Int eT:=RdT.deep (aiS Tryz.underlying3 (by kernel_rfl)) λ_ _=>rfl
def atT:yT hH 161 cC yj:=λw=>⟨by kernel_rfl,λenc base held fuel cs x h=>by
 obtain⟨O,n,E⟩:=mr Tryz.underlying161 h
 obtain⟨y0,h0⟩:=E 0 _ rfl
 obtain⟨y1,h1⟩:=E 1 _ rfl
 obtain⟨y2,h2⟩:=E 2 _ rfl
 obtain⟨u,e0,U,V,k0⟩:=(rd9 w).rd enc base held n _ _ h0
 obtain⟨G,J,Z,Y,M⟩:=(KN w).rd enc base held n _ _ h1
 obtain⟨B,e2,W,I,k2⟩:=(KN w).rd enc base held n _ _ h2
 obtain rfl:u=U:=V
 obtain rfl:G=Z:=Y
 obtain rfl:B=W:=I
 have p0:=eh (s:=1) e0
 have p1:=eh (s:=1) J
 have p2:=eh (s:=1) e2
 have hz:cs.drop 3=[]:=Es.2 (by rw[O];exact CL (by kernel_rfl))
 refine⟨(⟨u,G,B⟩:cC),?_,(⟨u,G,B⟩:cC),rfl,k0,M,k2⟩
 have e:cs=cs.drop 0:=rfl
 rw[e]
 refine p0.trans ?_
 refine(gL _ p1).trans ?_
 refine(gL _ (gL _ p2)).trans ?_
 exact(gL _ (gL _ (gL _ hz)))⟩
def amI:yT hH 23 (List cC) (λys:(List cC)=>∀y∈ys,yj y):=yT.slice Tryz.underlying23 (by kernel_rfl) atT
def aA3:yT hH 22 (List (List cC)) (λys:(List (List cC))=>∀y∈ys,(λys:(List cC)=>∀y∈ys,yj y) y):=yT.slice Tryz.underlying22 (by kernel_rfl) amI
def aA4:yT hH 91 (List ByteArray) (λys:(List ByteArray)=>∀y∈ys,(λy:ByteArray=>y.size<=maxLen) y):=yT.slice Tryz.underlying91 (by kernel_rfl) rd9
def atU:yT hH 164 bU AO:=λw=>⟨by kernel_rfl,λenc base held fuel cs x h=>by
 obtain⟨W,n,u⟩:=mr Tryz.underlying164 h
 obtain⟨y0,h0⟩:=u 0 _ rfl
 obtain⟨y1,h1⟩:=u 1 _ rfl
 obtain⟨y2,h2⟩:=u 2 _ rfl
 obtain⟨y3,h3⟩:=u 3 _ rfl
 obtain⟨B,e0,Y,Z,k0⟩:=(KN w).rd enc base held n _ _ h0
 obtain⟨G,U,a1,d1,V⟩:=(KN w).rd enc base held n _ _ h1
 obtain⟨E,e2,a2,J,k2⟩:=(rd9 w).rd enc base held n _ _ h2
 obtain⟨I,e3,a3,O,M⟩:=(KN w).rd enc base held n _ _ h3
 obtain rfl:B=Y:=Z
 obtain rfl:G=a1:=d1
 obtain rfl:E=a2:=J
 obtain rfl:I=a3:=O
 have p0:=eh (s:=1) e0
 have p1:=eh (s:=1) U
 have p2:=eh (s:=1) e2
 have p3:=eh (s:=1) e3
 have hz:cs.drop 4=[]:=Es.2 (by rw[W];exact CL (by kernel_rfl))
 refine⟨(⟨B,G,E,I⟩:bU),?_,(⟨B,G,E,I⟩:bU),rfl,k0,V,k2,M⟩
 have e:cs=cs.drop 0:=rfl
 rw[e]
 refine p0.trans ?_
 refine(gL _ p1).trans ?_
 refine(gL _ (gL _ p2)).trans ?_
 refine(gL _ (gL _ (gL _ p3))).trans ?_
 exact(gL _ (gL _ (gL _ (gL _ hz))))⟩
def amJ:yT hH 82 (List bU) (λys:(List bU)=>∀y∈ys,AO y):=yT.slice Tryz.underlying82 (by kernel_rfl) atU
def atV:yT hH 193 bM Js:=λw=>⟨by kernel_rfl,λenc base held fuel cs x h=>by
 obtain⟨hl,n,u⟩:=mr Tryz.underlying193 h
 obtain⟨y0,h0⟩:=u 0 _ rfl
 obtain⟨y1,h1⟩:=u 1 _ rfl
 obtain⟨y2,h2⟩:=u 2 _ rfl
 obtain⟨y3,h3⟩:=u 3 _ rfl
 obtain⟨y4,h4⟩:=u 4 _ rfl
 obtain⟨y5,h5⟩:=u 5 _ rfl
 obtain⟨y6,h6⟩:=u 6 _ rfl
 obtain⟨y7,Z⟩:=u 7 _ rfl
 obtain⟨y8,h8⟩:=u 8 _ rfl
 obtain⟨G,e0,a0,d0,k0⟩:=(KN w).rd enc base held n _ _ h0
 obtain⟨J,e1,a1,d1,k1⟩:=(rd9 w).rd enc base held n _ _ h1
 obtain⟨O,e2,a2,d2,k2⟩:=(rd9 w).rd enc base held n _ _ h2
 obtain⟨V,e3,a3,W,k3⟩:=(amJ w).rd enc base held n _ _ h3
 obtain⟨U,e4,a4,d4,k4⟩:=(amJ w).rd enc base held n _ _ h4
 obtain⟨I,e5,a5,d5,k5⟩:=(KN w).rd enc base held n _ _ h5
 obtain⟨M,e6,Y,d6,k6⟩:=(KN w).rd enc base held n _ _ h6
 obtain⟨B,e7,a7,d7,k7⟩:=(KN w).rd enc base held n _ _ Z
 obtain⟨E,e8,a8,d8,k8⟩:=(KN w).rd enc base held n _ _ h8
 obtain rfl:G=a0:=d0
 obtain rfl:J=a1:=d1
 obtain rfl:O=a2:=d2
 obtain rfl:I=a5:=d5
 obtain rfl:M=Y:=d6
 obtain rfl:B=a7:=d7
 obtain rfl:E=a8:=d8
 have p0:=eh (s:=1) e0
 have p1:=eh (s:=1) e1
 have p2:=eh (s:=1) e2
 have p3:=eh (s:=1) e3
 have p4:=eh (s:=1) e4
 have p5:=eh (s:=1) e5
 have p6:=eh (s:=1) e6
 have p7:=eh (s:=1) e7
 have p8:=eh (s:=1) e8
 have hz:cs.drop 9=[]:=Es.2 (by rw[hl];exact CL (by kernel_rfl))
 refine⟨(⟨G,J,O,V,U,I,M,B,E⟩:aZ),?_,(⟨G,J,O,a3,a4,I,M,B,E⟩:bM),⟨V,U,rfl,W,d4⟩,k0,k1,k2,k3,k4,k5,k6,k7,k8⟩
 have e:cs=cs.drop 0:=rfl
 rw[e]
 refine p0.trans ?_
 refine(gL _ p1).trans ?_
 refine(gL _ (gL _ p2)).trans ?_
 refine(gL _ (gL _ (gL _ p3))).trans ?_
 refine(gL _ (gL _ (gL _ (gL _ p4)))).trans ?_
 refine(gL _ (gL _ (gL _ (gL _ (gL _ p5))))).trans ?_
 refine(gL _ (gL _ (gL _ (gL _ (gL _ (gL _ p6)))))).trans ?_
 refine(gL _ (gL _ (gL _ (gL _ (gL _ (gL _ (gL _ p7))))))).trans ?_
 refine(gL _ (gL _ (gL _ (gL _ (gL _ (gL _ (gL _ (gL _ p8)))))))).trans ?_
 exact(gL _ (gL _ (gL _ (gL _ (gL _ (gL _ (gL _ (gL _ (gL _ hz)))))))))⟩
def atW:yT hH 141 (List bM) (λys:(List bM)=>∀y∈ys,Js y):=yT.slice Tryz.underlying141 (by kernel_rfl) atV
def atX:yT hH 146 cK yk:=λw=>⟨by kernel_rfl,λenc base held fuel cs x h=>by
 obtain⟨W,n,u⟩:=mr Tryz.underlying146 h
 obtain⟨y0,h0⟩:=u 0 _ rfl
 obtain⟨y1,h1⟩:=u 1 _ rfl
 obtain⟨y2,h2⟩:=u 2 _ rfl
 obtain⟨y3,h3⟩:=u 3 _ rfl
 obtain⟨B,e0,Y,Z,k0⟩:=(rd9 w).rd enc base held n _ _ h0
 obtain⟨I,U,a1,d1,V⟩:=(aA4 w).rd enc base held n _ _ h1
 obtain⟨G,e2,a2,J,k2⟩:=(atW w).rd enc base held n _ _ h2
 obtain⟨E,e3,a3,O,M⟩:=(KN w).rd enc base held n _ _ h3
 obtain rfl:B=Y:=Z
 obtain rfl:E=a3:=O
 have p0:=eh (s:=1) e0
 have p1:=eh (s:=1) U
 have p2:=eh (s:=1) e2
 have p3:=eh (s:=1) e3
 have hz:cs.drop 4=[]:=Es.2 (by rw[W];exact CL (by kernel_rfl))
 refine⟨(⟨B,I,G,E⟩:cB),?_,(⟨B,a1,a2,E⟩:cK),⟨I,G,rfl,d1,J⟩,k0,V,k2,M⟩
 have e:cs=cs.drop 0:=rfl
 rw[e]
 refine p0.trans ?_
 refine(gL _ p1).trans ?_
 refine(gL _ (gL _ p2)).trans ?_
 refine(gL _ (gL _ (gL _ p3))).trans ?_
 exact(gL _ (gL _ (gL _ (gL _ hz))))⟩
def atY:yT hH 24 (List cK) (λys:(List cK)=>∀y∈ys,yk y):=yT.slice Tryz.underlying24 (by kernel_rfl) atX
def aA5:yT hH 85 gP ET:=λw=>⟨by kernel_rfl,λenc base held fuel cs x h=>by
 obtain⟨J,n,E⟩:=mr Tryz.underlying85 h
 obtain⟨y0,W⟩:=E 0 _ rfl
 obtain⟨y1,h1⟩:=E 1 _ rfl
 obtain⟨B,e0,M,O,Y⟩:=(amJ w).rd enc base held n _ _ W
 obtain⟨u,G,V,U,I⟩:=(KN w).rd enc base held n _ _ h1
 obtain rfl:u=V:=U
 have p0:=eh (s:=1) e0
 have p1:=eh (s:=1) G
 have Z:cs.drop 2=[]:=Es.2 (by rw[J];exact CL (by kernel_rfl))
 refine⟨(⟨B,u⟩:jq),?_,(⟨M,u⟩:gP),⟨B,rfl,O⟩,Y,I⟩
 have e:cs=cs.drop 0:=rfl
 rw[e]
 refine p0.trans ?_
 refine(gL _ p1).trans ?_
 exact(gL _ (gL _ Z))⟩
def aA6:yT hH 25 (List gP) (λys:(List gP)=>∀y∈ys,ET y):=yT.slice Tryz.underlying25 (by kernel_rfl) aA5
def rd27:yT hH 27 cR adh:=λw=>⟨by kernel_rfl,λenc base held fuel cs x h=>by
 obtain⟨hl,n,u⟩:=mr Tryz.underlying27 h
 obtain⟨y0,h0⟩:=u 0 _ rfl
 obtain⟨y1,h1⟩:=u 1 _ rfl
 obtain⟨y2,h2⟩:=u 2 _ rfl
 obtain⟨y3,h3⟩:=u 3 _ rfl
 obtain⟨y4,h4⟩:=u 4 _ rfl
 obtain⟨y5,h5⟩:=u 5 _ rfl
 obtain⟨B,e0,a0,d0,k0⟩:=(aA3 w).rd enc base held n _ _ h0
 obtain⟨J,W,a1,d1,k1⟩:=(amI w).rd enc base held n _ _ h1
 obtain⟨G,e2,a2,O,k2⟩:=(amI w).rd enc base held n _ _ h2
 obtain⟨M,e3,a3,V,U⟩:=(atY w).rd enc base held n _ _ h3
 obtain⟨E,e4,Z,d4,k4⟩:=(atY w).rd enc base held n _ _ h4
 obtain⟨I,e5,a5,Y,k5⟩:=(aA6 w).rd enc base held n _ _ h5
 have p0:=eh (s:=1) e0
 have p1:=eh (s:=1) W
 have p2:=eh (s:=1) e2
 have p3:=eh (s:=1) e3
 have p4:=eh (s:=1) e4
 have p5:=eh (s:=1) e5
 have hz:cs.drop 6=[]:=Es.2 (by rw[hl];exact CL (by kernel_rfl))
 refine⟨(⟨B,J,G,M,E,I⟩:bP),?_,(⟨a0,a1,a2,a3,Z,a5⟩:cR),⟨B,J,G,M,E,I,rfl,d0,d1,O,V,d4,Y⟩,k0,k1,k2,U,k4,k5⟩
 have e:cs=cs.drop 0:=rfl
 rw[e]
 refine p0.trans ?_
 refine(gL _ p1).trans ?_
 refine(gL _ (gL _ p2)).trans ?_
 refine(gL _ (gL _ (gL _ p3))).trans ?_
 refine(gL _ (gL _ (gL _ (gL _ p4)))).trans ?_
 refine(gL _ (gL _ (gL _ (gL _ (gL _ p5))))).trans ?_
 exact(gL _ (gL _ (gL _ (gL _ (gL _ (gL _ hz))))))⟩
def aA7:yT hH 41 (List Int) (λys:(List Int)=>∀y∈ys,eT y):=yT.slice Tryz.underlying41 (by kernel_rfl) KN
def aA8:yT hH 50 cS Sk:=λw=>⟨by kernel_rfl,λenc base held fuel cs x h=>by
 obtain⟨W,n,u⟩:=mr Tryz.underlying50 h
 obtain⟨y0,h0⟩:=u 0 _ rfl
 obtain⟨y1,h1⟩:=u 1 _ rfl
 obtain⟨y2,h2⟩:=u 2 _ rfl
 obtain⟨y3,h3⟩:=u 3 _ rfl
 obtain⟨B,e0,Y,Z,k0⟩:=(KN w).rd enc base held n _ _ h0
 obtain⟨G,U,a1,d1,V⟩:=(KN w).rd enc base held n _ _ h1
 obtain⟨E,e2,a2,J,k2⟩:=(KN w).rd enc base held n _ _ h2
 obtain⟨I,e3,a3,O,M⟩:=(aA7 w).rd enc base held n _ _ h3
 obtain rfl:B=Y:=Z
 obtain rfl:G=a1:=d1
 obtain rfl:E=a2:=J
 have p0:=eh (s:=1) e0
 have p1:=eh (s:=1) U
 have p2:=eh (s:=1) e2
 have p3:=eh (s:=1) e3
 have hz:cs.drop 4=[]:=Es.2 (by rw[W];exact CL (by kernel_rfl))
 refine⟨(⟨B,G,E,I⟩:dC),?_,(⟨B,G,E,a3⟩:cS),⟨I,rfl,O⟩,k0,V,k2,M⟩
 have e:cs=cs.drop 0:=rfl
 rw[e]
 refine p0.trans ?_
 refine(gL _ p1).trans ?_
 refine(gL _ (gL _ p2)).trans ?_
 refine(gL _ (gL _ (gL _ p3))).trans ?_
 exact(gL _ (gL _ (gL _ (gL _ hz))))⟩
def rd53:yT hH 53 GX aiW:=λw=>⟨by kernel_rfl,λenc base held fuel cs x h=>by
 obtain⟨O,n,B⟩:=mr Tryz.underlying53 h
 obtain⟨y0,h0⟩:=B 0 _ rfl
 obtain⟨y1,h1⟩:=B 1 _ rfl
 obtain⟨y2,h2⟩:=B 2 _ rfl
 obtain⟨u,e0,U,V,k0⟩:=(KN w).rd enc base held n _ _ h0
 obtain⟨E,J,Z,Y,M⟩:=(KN w).rd enc base held n _ _ h1
 obtain⟨G,e2,W,I,k2⟩:=(aA8 w).rd enc base held n _ _ h2
 obtain rfl:u=U:=V
 obtain rfl:E=Z:=Y
 have p0:=eh (s:=1) e0
 have p1:=eh (s:=1) J
 have p2:=eh (s:=4) e2
 have hz:cs.drop 6=[]:=Es.2 (by rw[O];exact CL (by kernel_rfl))
 refine⟨(⟨u,E,G⟩:v9),?_,(⟨u,E,W⟩:GX),⟨G,rfl,I⟩,k0,M,k2⟩
 have e:cs=cs.drop 0:=rfl
 rw[e]
 refine p0.trans ?_
 refine(gL _ p1).trans ?_
 refine(gL _ (gL _ p2)).trans ?_
 exact(gL _ (gL _ (gL _ hz)))⟩
end Go.Proofs.YtpdlpabnlkofmaaGreatDoor
