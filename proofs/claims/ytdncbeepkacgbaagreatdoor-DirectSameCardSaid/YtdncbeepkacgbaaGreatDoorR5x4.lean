/-
  Part 4.
-/
import Derived.Test.YtdncbeepkacgbaaGreatDoorR5x3
set_option maxHeartbeats 8000000
set_option linter.all false
set_option maxRecDepth 100000
open Go.Fw.Flat renaming val->jj,enc->jl,sz->og
open ByteArray renaming mk->jY
open List renaming getElem?_eq_some_iff->j0,length_append->lJ,getElem?_eq_getElem->l0,mem_of_getElem?->ml,length_singleton->mv,take_of_length_le->mH,length_take->n0,length_map->oi,append_assoc->o1,replicate->o6,getD_eq_getElem?_getD->pd,mem_map->pB,getElem?_map->qa,range->qi,mem_cons_self->qs,mem_append->qC,append_nil->rM,take_append_drop->sf,getElem?_append_right->sl,mem_cons_of_mem->so,mem_singleton->sU,getElem?_append_left->s7,mem_cons->ta,length_drop->tx,drop_drop->uL,map_append->vB,nil_append->wc,any_eq_true->wk,drop_eq_nil_of_le->xr,mem_iff_getElem?->zT,range_succ->B8,map_congr_left->C2,eraseIdx_eq_take_drop_succ->H3,mem_range->Ie,flatMap_append->IM,map_cons->IV,filter_append->JC,nodup_cons->JV,map_map->JZ,mem_filter->ND,mem_of_mem_take->OC,take_length->O2,length_eraseIdx_of_lt->Tz,pairwise_iff_getElem->TB,any_cons->Ug,any_append->Wl,pairwise_map->Zu,any_nil->ZN,nodup_append->aaa,getElem_mem->aaO
open Bool renaming and_eq_true->n3,not_eq_true'->sV,or_eq_true->vo,true_and->yx,eq_iff_iff->JD,false_and->P3,or_false->WN
open Go.Fw.Deep renaming dr->n4,ext->B4
open Go.Value renaming int->n5
open Nat renaming zero_le->ob,le_refl->qQ,le_of_eq->zU,add_sub_cancel_left->By,add_assoc->NI,lt_or_ge->P2,sub_self->Vi
open Option renaming some->o5,map_eq_some_iff->Gz
open Go.Instr renaming sliceAt->pA,mapUpdate->rN,lookup->ua,box->zG,keyThatStays->Pw
open Int renaming toNat_natCast->s6,mul_le_mul->Mi
open Array renaming getElem?_eq_some_iff->Gu
open Prod renaming fst->P1
namespace Go.Proofs.YtdncbeepkacgbaaGreatDoor
open Go.Fw
def No(t:cE):Bool:=vd t.at_&&!t.aS.any (λs=>!iu s)&&xN t.body
theorem Wj(t:cE):(!iu t.name||!No t)=rI true t:=by
 unfold rI M5 No
 grind
theorem Wk(t:cE):(decide (¬ t.name=⟨#[]⟩)||!No t)=rI false t:=by
 unfold rI M5 No
 by_cases h:t.name=⟨#[]⟩
 .rw[h,show iu (⟨#[]⟩:ByteArray)=false from er]
  grind
 grind
theorem QL(p:bQ):(!(p.lines.any vg||!vH 4294967296 p.jR||!vH 0 p.locks||decide (1<p.recover.length))&&(!p.threads.any (rI true)&&!p.recover.any (rI false)&&!p.cB.any rJ))=nz p:=by
 unfold nz Db
 grind
def SzS.ok{xs:List bD}(h:∀x∈xs,SzS x):∀x∈xs,x.e.length<=1048576/\x.f.length<=1048576:=λx B=>⟨(h x B).2.2.1,(h x B).2.2.2.1⟩
def C210(n:Int)(w:World):CR 210 [iE n] w (λv w'=>v=.bool (vd n)/\Ext w w'):=by
 have G:=St.start w;refine fD Tryz.func210 ?_;refine⟨λB w'=>B=.bool (decide (0<=n/\n<=4000))/\w=w',dC (aC (λ_=>kq ⟨Hw cU,rfl⟩) λ_=>⟨jvF cU,rfl⟩),?_⟩;rintro _ _ ⟨rfl,E⟩ _;subst E;exact⟨rfl,G.aG⟩
def C290(c:cG)(b2:Nat)(E:Int)(w:World)(hc:Cell w b2 0 (iE E)):CR 290 [jj c,.pointer (some ⟨b2,0,none⟩)] w (λv w'=>v=.bool (nX E c)/\Ext w w'):=by
 have B:=St.start w;refine fD Tryz.func290 ?_;refine cP B (λG _ B=>⟨λI w'=>I=.bool (nX E c)/\St w bE [bU G (jl c)] w',aA ox (aB (v:=.string c.name) ke B.hb rfl (aY PW B (C206 _ _) λ_ M B=>bJ (aX (λ_=>⟨vb (by unfold nX;grind),B⟩) λJ=>?_))),?_⟩)
 .exact aA CL (aB (v:=iE c.n) bL B.hb rfl (aV (aC (λ_=>⟨vb (by unfold nX;grind),B⟩) λ_=>aA CL (aB (v:=iE c.n) bL B.hb rfl (bN bL (hc.ext B.aG) (eh (aC (λ_=>⟨vb (by unfold nX;grind),B⟩) λ_=>aA CM (aB (v:=iE c.at_) bL B.hb rfl (aY ab1 B (C210 _ _) λ_ _ B=>bJ ⟨vb (by unfold nX;grind),B⟩)))))))))
 rintro _ _ ⟨rfl,B⟩ _;exact⟨rfl,B.drop.aG⟩
def C344(O fv:Value)(xs:List cG)(g:cG->Bool)(w:World)(M:dP (λ_=>True) w O xs)(V:vG w fv g)(hn:xs.length<=1073741824):CR 344 [O,fv] w (λv w'=>v=iE (pY g xs)/\Ext w w'):=by
 obtain⟨g0,first,cap,rfl,U,W⟩:=V;have B:=St.start w;refine fD Tryz.func344 ?_;refine aK qq (M.ext B.aG) ?_;refine⟨λm x I=>∃k:Nat,x=iE (k:Int)/\m=xs.length-k/\k<=xs.length/\(∀y∈xs.take k,g y=false)/\St w bE [] I,⟨_,0,rfl,rfl,ob _,et,B⟩,?_⟩;rintro m _ I ⟨k,rfl,rfl,hk,E,B⟩ _;refine aV (aC (λlR=>?_) λ_=>⟨gD (n5 .i64) (gJ (by rw[mH cU]at E;exact E)).symm,B.aG⟩);obtain⟨Y,G⟩:=gx xs (i:=(k:Int).toNat) cU;refine aW qq M cU G (λ_ Z=>aE mU (Z.ext B.aG) (fm U (W Y I B.aG) ?_))
 rintro _ _ ⟨rfl,he⟩;have B:=B.ext he;exact aX (λJ=>⟨gD (n5 .i64) (jT E G J).symm,B.aG⟩) (λJ=>aR cU ⟨xs.length-(k+1),cU,k+1,rfl,rfl,cU,fg E G J,B⟩)
def C289(E fv:Value)(xs:List cG)(g:cG->Bool)(w:World)(G:dP (λ_=>True) w E xs)(I:vG w fv g)(J:xs.length<=1073741824):CR 289 [E,fv] w (λv w'=>v=.bool (xs.any g)/\Ext w w'):=by
 have B:=St.start w;refine fD Tryz.func289 ?_;exact aY ath B (C344 _ _ _ _ _ (G.ext B.aG) (I.ext B.aG) cU) (λ_ _ B=>dC ⟨vb (iJ _ _),B.aG⟩)
def C204(lv:Value)(xs:List cG)(E:Int)(w:World)(M:dP (λ_=>True) w lv xs)(O:xs.length<=1048576):CR 204 [lv,iE E] w (λv w'=>v=.bool (vH E xs)/\Ext w w'):=by
 have B:=St.start w;refine fD Tryz.func204 ?_;refine ni B rfl (λI J B=>?_)
 have G:vG _ (.func (.func 290) [].toArray [.pointer (some ⟨I,0,none⟩)].toArray) (nX E):=
  ⟨290,[],_,rfl,atc,λy J e1=>C290 y I E J ((B.hb.cell rfl).ext e1)⟩
 exact aY atg B (C289 _ _ _ _ _ (M.ext B.aG) G cU) (λ_ _ B=>bJ ⟨rfl,B.drop.aG⟩)
def C296(s:ByteArray)(w:World):CR 296 [.string s] w (λv w'=>v=.bool (!iu s)/\Ext w w'):=by
 have B:=St.start w;refine fD Tryz.func296 ?_;exact aY PW B (C206 _ _) (λ_ _ B=>bJ ⟨rfl,B.aG⟩)
def C207(t:cE)(G:cI)(w:World)(ht:n4 w G t)(Y:SzT t/\t.aS.length<=500/\t.body.length<=500):CR 207 [jj G] w (λv w'=>v=.bool (No t)/\Ext w w'):=by
 obtain⟨U,J,rfl,M,V⟩:=ht;have B:=St.start w;refine fD Tryz.func207 ?_;refine cP B (λO I B=>⟨λW w'=>W=.bool (No t)/\St w bE [bU O (jl (⟨t.name,U,J,t.at_⟩:cI))] w',aA CI (aB (v:=iE t.at_) bL B.hb rfl (aY ab1 B (C210 _ _) λ_ he B=>aX (λZ=>?_) λ_=>⟨vb (by unfold No;grind),B⟩)),?_⟩)
 .refine aA kP (aB nf B.hb rfl ?_);have E:=DL.flat M;exact aY akm B (C124 _ _ _ (λs=>!iu s) _ (E.ext B.aG) ⟨296,[],[],rfl,atd,λy I _=>C296 y I⟩ cU) (λ_ _ B=>bJ (aX (λ_=>aA tG (aB ou B.hb rfl (aY as6 B (C297 _ _ _ (V.ext B.aG) cU (SzS.ok Y.1.2.2)) λ_ _ B=>⟨vb (by unfold No;grind),B⟩))) λ_=>⟨vb (by unfold No;grind),B⟩))
 rintro _ _ ⟨rfl,B⟩ _;exact⟨rfl,B.drop.aG⟩
def C205(t:cE)(E:cI)(w:World)(ht:n4 w E t)(V:SzT t/\t.aS.length<=500/\t.body.length<=500):CR 205 [jj E] w (λv w'=>v=.bool (rI true t)/\Ext w w'):=by
 obtain⟨I,G,rfl,J,U⟩:=ht;have B:=St.start w;refine fD Tryz.func205 ?_;refine cP B (λM _ B=>⟨λO w'=>O=.bool (rI true t)/\St w bE [bU M (jl (⟨t.name,I,G,t.at_⟩:cI))] w',aA zn (aB (v:=.string t.name) ke B.hb rfl (aY PW B (C206 _ _) λ_ _ B=>bJ (aX (λ_=>⟨vb (by rw[<- Wj];grind),B⟩) λ_=>aE lG B.At (aY akA B (C207 t _ _ ⟨I,G,rfl,(J.ext B.aG),(U.ext B.aG)⟩ V) λ_ _ B=>bJ ⟨vb (by rw[<- Wj];grind),B⟩)))),?_⟩);rintro _ _ ⟨rfl,B⟩ _;exact⟨rfl,B.drop.aG⟩
def C208(t:cE)(E:cI)(w:World)(ht:n4 w E t)(V:SzT t/\t.aS.length<=500/\t.body.length<=500):CR 208 [jj E] w (λv w'=>v=.bool (rI false t)/\Ext w w'):=by
 obtain⟨I,G,rfl,J,U⟩:=ht;have B:=St.start w;refine fD Tryz.func208 ?_;refine cP B (λM _ B=>⟨λO w'=>O=.bool (rI false t)/\St w bE [bU M (jl (⟨t.name,I,G,t.at_⟩:cI))] w',aA zn (aB (v:=.string t.name) ke B.hb rfl (EJ (aC (λ_=>⟨vb (by rw[<- Wk];grind),B⟩) λ_=>aE lG B.At (aY akA B (C207 t _ _ ⟨I,G,rfl,(J.ext B.aG),(U.ext B.aG)⟩ V) λ_ _ B=>bJ ⟨vb (by rw[<- Wk];grind),B⟩)))),?_⟩);rintro _ _ ⟨rfl,B⟩ _;exact⟨rfl,B.drop.aG⟩
def C203(lv:Value)(xs:List cG)(w:World)(E:dP (λ_=>True) w lv xs)(I:xs.length<=1048576):CR 203 [lv] w (λv w'=>v=.bool (vg xs)/\Ext w w'):=by
 have B:=St.start w;refine fD Tryz.func203 ?_;refine⟨λG w'=>G=.bool (vg xs)/\St w bE [] w',aK qq (E.ext B.aG) (aI (aC (λ_=>⟨vb (by unfold vg;grind),B⟩) λ_=>aY ab0 B (C204 _ _ _ _ (E.ext B.aG) cU) λ_ _ B=>bJ ⟨vb (by unfold vg;grind),B⟩)),?_⟩;rintro _ _ ⟨rfl,B⟩ _;exact⟨rfl,B.aG⟩
def C209(c:iF)(cv:jy)(w:World)(hc:n4 w cv c)(V:c.e.length<=1048576):CR 209 [jj cv] w (λv w'=>v=.bool (rJ c)/\Ext w w'):=by
 obtain⟨G,rfl,J⟩:=hc;have B:=St.start w;refine fD Tryz.func209 ?_;refine cP B (λI _ B=>⟨λM w'=>M=.bool (rJ c)/\St w bE [bU I (jl (⟨G,c.at_⟩:jy))] w',aA VN (aB (v:=iE c.at_) bL B.hb rfl (aY ab1 B (C210 _ _) λ_ U B=>bJ (aX (λ_=>⟨vb (by unfold rJ;grind),B⟩) λO=>?_))),?_⟩)
 .refine aA CG (aB l5 B.hb rfl ?_);have E:=DL.flat J;exact aY V3 B (C121 _ _ _ (E.ext B.aG) cU) (λ_ _ B=>bJ ⟨vb (by unfold rJ;grind),B⟩)
 rintro _ _ ⟨rfl,B⟩ _;exact⟨rfl,B.drop.aG⟩
def C298(Z fv:Value)(xs:List (List cG))(φ:(List cG)->Prop)(g:(List cG)->Bool)(w:World)(hL:DL w Z xs)(hf:lr hZ w fv φ g)(hφ:∀x∈xs,φ x)(hn:xs.length<=1073741824):CR 298 [Z,fv] w (λv w'=>v=iE (pY g xs)/\Ext w w'):=by
 obtain⟨g0,first,cap,rfl,mM,g9⟩:=hf;have B:=St.start w;refine fD Tryz.func298 ?_;obtain⟨U,E,G⟩:=hL.open;have hn8:=G.1;refine aK BN (E.ext B.aG) ?_;refine⟨λm x M=>∃k:Nat,x=iE (k:Int)/\m=xs.length-k/\k<=xs.length/\(∀y∈xs.take k,g y=false)/\St w bE [] M,⟨_,0,rfl,rfl,ob _,et,B⟩,?_⟩;rintro m _ M ⟨k,rfl,rfl,hk,I,B⟩ _;refine aV (aC (λlR=>?_) λ_=>⟨gD (n5 .i64) (gJ (by rw[mH cU]at I;exact I)).symm,B.aG⟩);obtain⟨jz,V⟩:=gx U (i:=(k:Int).toNat) cU;obtain⟨Y,J⟩:=gx xs (i:=(k:Int).toNat) cU
 have W:DL w (jj jz) Y:=G.2 _ _ _ V J;refine aW BN E cU V (λ_ gC=>aE l4 (gC.ext B.aG) ?_);have hf9:=DL.flat W;refine fm mM (g9 _ Y M B.aG (W.ext B.aG) (hφ _ (ml J))) ?_;rintro _ _ ⟨rfl,he⟩;have B:=B.ext he;exact aX (λO=>⟨gD (n5 .i64) (jT I J O).symm,B.aG⟩) (λO=>aR cU ⟨_,cU,k+1,rfl,rfl,cU,fg I J O,B⟩)
def C211(E fv:Value)(xs:List (List cG))(φ:(List cG)->Prop)(g:(List cG)->Bool)(w:World)(G:DL w E xs)(J:lr hZ w fv φ g)(I:∀x∈xs,φ x)(M:xs.length<=1073741824):CR 211 [E,fv] w (λv w'=>v=.bool (xs.any g)/\Ext w w'):=by
 have B:=St.start w;refine fD Tryz.func211 ?_;exact aY ati B (C298 _ _ _ _ _ _ (G.ext B.aG) (J.ext B.aG) I cU) (λ_ _ B=>dC ⟨vb (iJ _ _),B.aG⟩)
def C299(Y fv:Value)(xs:List cE)(φ:cE->Prop)(g:cE->Bool)(w:World)(Z:DL w Y xs)(hf:lr hZ w fv φ g)(hφ:∀x∈xs,φ x)(hn:xs.length<=1073741824):CR 299 [Y,fv] w (λv w'=>v=iE (pY g xs)/\Ext w w'):=by
 obtain⟨g0,first,cap,rfl,mM,g9⟩:=hf;have B:=St.start w;refine fD Tryz.func299 ?_;obtain⟨O,E,G⟩:=Z.open;have W:=G.1;refine aK kM (E.ext B.aG) ?_;refine⟨λm x M=>∃k:Nat,x=iE (k:Int)/\m=xs.length-k/\k<=xs.length/\(∀y∈xs.take k,g y=false)/\St w bE [] M,⟨_,0,rfl,rfl,ob _,et,B⟩,?_⟩;rintro m _ M ⟨k,rfl,rfl,hk,I,B⟩ _;refine aV (aC (λlR=>?_) λ_=>⟨gD (n5 .i64) (gJ (by rw[mH cU]at I;exact I)).symm,B.aG⟩);obtain⟨jz,V⟩:=gx O (i:=(k:Int).toNat) cU;obtain⟨rL,J⟩:=gx xs (i:=(k:Int).toNat) cU
 obtain⟨TG,TH,rfl,TI,TJ⟩:=G.2 _ _ _ V J;refine aW kM E cU V (λ_ gC=>aE lG (gC.ext B.aG) (fm mM (g9 _ rL M B.aG ⟨TG,TH,rfl,(TI.ext B.aG),(TJ.ext B.aG)⟩ (hφ _ (ml J))) ?_));rintro _ _ ⟨rfl,he⟩;have B:=B.ext he;exact aX (λU=>⟨gD (n5 .i64) (jT I J U).symm,B.aG⟩) (λU=>aR cU ⟨_,cU,k+1,rfl,rfl,cU,fg I J U,B⟩)
def C212(E fv:Value)(xs:List cE)(φ:cE->Prop)(g:cE->Bool)(w:World)(G:DL w E xs)(J:lr hZ w fv φ g)(I:∀x∈xs,φ x)(M:xs.length<=1073741824):CR 212 [E,fv] w (λv w'=>v=.bool (xs.any g)/\Ext w w'):=by
 have B:=St.start w;refine fD Tryz.func212 ?_;exact aY atj B (C299 _ _ _ _ _ _ (G.ext B.aG) (J.ext B.aG) I cU) (λ_ _ B=>dC ⟨vb (iJ _ _),B.aG⟩)
def C300(W fv:Value)(xs:List iF)(φ:iF->Prop)(g:iF->Bool)(w:World)(Z:DL w W xs)(hf:lr hZ w fv φ g)(hφ:∀x∈xs,φ x)(hn:xs.length<=1073741824):CR 300 [W,fv] w (λv w'=>v=iE (pY g xs)/\Ext w w'):=by
 obtain⟨g0,first,cap,rfl,mM,g9⟩:=hf;have B:=St.start w;refine fD Tryz.func300 ?_;obtain⟨M,G,E⟩:=Z.open;have Y:=E.1;refine aK A7 (G.ext B.aG) ?_;refine⟨λm x O=>∃k:Nat,x=iE (k:Int)/\m=xs.length-k/\k<=xs.length/\(∀y∈xs.take k,g y=false)/\St w bE [] O,⟨_,0,rfl,rfl,ob _,et,B⟩,?_⟩;rintro m _ O ⟨k,rfl,rfl,hk,I,B⟩ _;refine aV (aC (λlR=>?_) λ_=>⟨gD (n5 .i64) (gJ (by rw[mH cU]at I;exact I)).symm,B.aG⟩);obtain⟨jz,V⟩:=gx M (i:=(k:Int).toNat) cU;obtain⟨rL,J⟩:=gx xs (i:=(k:Int).toNat) cU
 obtain⟨Dk,rfl,Dl⟩:=E.2 _ _ _ V J;refine aW A7 G cU V (λ_ gC=>aE HF (gC.ext B.aG) (fm mM (g9 _ rL O B.aG ⟨Dk,rfl,(Dl.ext B.aG)⟩ (hφ _ (ml J))) ?_));rintro _ _ ⟨rfl,he⟩;have B:=B.ext he;exact aX (λU=>⟨gD (n5 .i64) (jT I J U).symm,B.aG⟩) (λU=>aR cU ⟨_,cU,k+1,rfl,rfl,cU,fg I J U,B⟩)
def C213(E fv:Value)(xs:List iF)(φ:iF->Prop)(g:iF->Bool)(w:World)(G:DL w E xs)(J:lr hZ w fv φ g)(I:∀x∈xs,φ x)(M:xs.length<=1073741824):CR 213 [E,fv] w (λv w'=>v=.bool (xs.any g)/\Ext w w'):=by
 have B:=St.start w;refine fD Tryz.func213 ?_;exact aY atl B (C300 _ _ _ _ _ _ (G.ext B.aG) (J.ext B.aG) I cU) (λ_ _ B=>dC ⟨vb (iJ _ _),B.aG⟩)
def C109(p:bQ)(pv:bT)(w:World)(G:n4 w pv p)(E:PZ p):CR 109 [jj pv] w (λv w'=>v=.bool (nz p)/\Ext w w'):=by
 obtain⟨dJ,ej,dV,cQ,cT,dA,rfl,fT,iZ,iN,fj,fk,gU⟩:=G;have B:=St.start w;refine fD Tryz.func109 ?_;refine cP B (λB3 I B=>⟨λZ w'=>Z=.bool (p.lines.any vg||!vH 4294967296 p.jR||!vH 0 p.locks||decide (1<p.recover.length))/\St w bE [bU B3 (jl (⟨dJ,ej,dV,cQ,cT,dA⟩:bT))] w',aA nT (aB zh B.hb rfl (aY akB B (C211 _ _ _ (λl=>l.length<=1048576) _ _ (fT.ext B.aG) ⟨203,[],[],rfl,as8,λ_ y I _ J G=>C203 _ y I (DL.flat J) G⟩ (λl hl=>by have:=E.line l hl;omega) (by have:=E.lines;omega)) λ_ he B=>aX (λ_=>⟨vb dH,B⟩) λkj=>?_)),?_⟩)
 .refine aA AD (aB l4 B.hb rfl ?_);have Y:=DL.flat iZ;refine aY ab0 B (C204 _ _ _ _ (Y.ext B.aG) (by have:=E.jR;omega)) (λ_ he B=>bJ (aX (λ_=>⟨vb dH,B⟩) λlS=>aA uV (aB l4 B.hb rfl ?_)));have U:=DL.flat iN;refine aY ab0 B (C204 _ _ _ _ (U.ext B.aG) (by have:=E.locks;omega)) (λ_ he B=>bJ (aX (λ_=>⟨vb dH,B⟩) λjh=>aA uW (aB kf B.hb rfl ?_)));have hzr:=E.recover;obtain⟨ts14,W,O⟩:=fk.open;have hn14:=O.1;exact aK kM (W.ext B.aG) (eh ⟨vb dH,B⟩)
 rintro _ _ ⟨rfl,B⟩ _;refine aX (λV=>?_) (λV=>⟨λZ w'=>Z=.bool (!p.threads.any (rI true)&&!p.recover.any (rI false)&&!p.cB.any rJ)/\St w bE [bU B3 (jl (⟨dJ,ej,dV,cQ,cT,dA⟩:bT))] w',?_,?_⟩)
 .refine⟨vb ?_,B.drop.aG⟩;rw[<- QL,V];simp
 .refine aA sO ?_;exact aB kf B.hb rfl (aY ab2 B (C212 _ _ _ (λt=>SzT t/\t.aS.length<=500/\t.body.length<=500) _ _ (fj.ext B.aG) ⟨205,[],[],rfl,as9,λM y I _ J G=>C205 y M I J G⟩ (λ_ ht=>E.kC (List.mem_append_left _ ht)) (by have:=E.threads;omega)) λ_ _ B=>bJ (aX (λ_=>aA uW (aB kf B.hb rfl (aY ab2 B (C212 _ _ _ (λt=>SzT t/\t.aS.length<=500/\t.body.length<=500) _ _ (fk.ext B.aG) ⟨208,[],[],rfl,ata,λM y I _ J G=>C208 y M I J G⟩ (λ_ ht=>E.kC (List.mem_append_right _ ht)) (by have:=E.recover;omega)) λ_ _ B=>bJ (aX (λ_=>aA oM (aB zi B.hb rfl (aY atk B (C213 _ _ _ (λc=>c.e.length<=1048576) _ _ (gU.ext B.aG) ⟨209,[],[],rfl,atb,λM y I _ J G=>C209 y M I J G⟩ (λc hc=>(E.zc c hc).1) (by have:=E.cB;omega)) λ_ _ B=>bJ ⟨vb dH,B⟩))) λ_=>⟨vb dH,B⟩)))) λ_=>⟨vb dH,B⟩))
 rintro _ _ ⟨rfl,B⟩ _;refine⟨vb ?_,B.drop.aG⟩;rw[<- QL,V];simp
variable (w:World) (K:Value->iD)
def S220(M a:Value):Prop:=
 fA 36 a 0 λb=>lA 31 b w λc=>lN 31 c λd=>lE (λG e f=>∀_:Env,
 bA .lss 3 e d λg=>cV g (iA 31 c e λh=>lA 32 h f λj=>lN 32 j λk=>lE (λK2 l n=>∀_:Env,
 bA .lss 3 l k λo=>cV o (iA 32 j l λp=>lA 175 p n λq=>aL 175 n λU r=>sA 175 U q r λs=>lA 175 U s λt=>gR hZ M [t,e] s λu v=>eK hZ (Op.unary .not u) λx=>
 cV x (K (.tuple #[]) v) (bB .add 3 l (i 1) λy=>K2 y v)) (bB .add 3 e (i 1) λz=>G z n)) λK2=>K2 (i 0) f) (fA 36 a 1 λaa=>lA 32 aa f λW=>lN 32 W λac=>lE (λI B J=>∀_:Env,
 bA .lss 3 B ac λY=>cV Y (iA 32 W B λZ=>lA 175 Z J λah=>aL 175 J λO ai=>sA 175 O ah ai λE=>lA 175 O E λak=>fA 36 a 0 λal=>lA 31 al E λam=>
 lN 31 am λan=>bA .add 3 an B λao=>gR hZ M [ak,ao] E λap V=>eK hZ (Op.unary .not ap) λar=>cV ar (K (.tuple #[]) V) (bB .add 3 B (i 1) λasx=>
 I asx V)) (K (.tuple #[]) J)) λI=>I (i 0) f)) (λG=>G (i 0) w)
theorem ahK(B E:Value)(h:S220 w K B E):CR 220 [B,E] w K:=
 qG 48 (λ_=>.nil) 0 [] Tryz.func220 h
def S110(p0:Value):Prop:=
 se hZ (zG 36 p0) w λp1 a=>fA 36 p1 3 λb=>lA 33 b a λc=>lN 33 c λd=>eW (λB=>fA 36 p1 0 λe=>lA 31 e a λf=>lN 31 f λg=>bB .gtr 3 g (i 4) λh=>
 cV h (B tt a) (fA 36 p1 0 λj=>lA 31 j a λk=>cF 211 [k,(.func (.func 214) #[] #[])] a λl n=>cV l (B tt n) (fA 36 p1 1 λo=>lA 32 o n λp=>lN 32 p λq=>bB .gtr 3 q (i 4) λr=>
 cV r (B tt n) (fA 36 p1 2 λs=>lA 32 s n λt=>lN 32 t λu=>bB .gtr 3 u (i 2) λv=>cV v (B tt n) (bB .eql 3 d (i 0) λx=>cV x (B tt n) (bB .gtr 3 d (i 3) λy=>
 cV y (B tt n) (lA 36 p1 n λz=>cF 111 [z] n λJ U=>cF 212 [J,(.func (.func 215) #[] #[])] U λM E=>cV M (B tt E) (fA 36 p1 5 λY=>lA 34 Y E λG=>lN 34 G λI=>
 bB .gtr 3 I (i 4) λW=>B W E)))))))) (λV O=>∀_:Env,
 K V O)
theorem ahL(p0:Value)(h:S110 w K p0):CR 110 [p0] w K:=
 qG 51 (λ_=>.nil) 4 [.tmp 2] Tryz.func110 h
def S112(G M:Value):Prop:=
 lE (λE B a=>∀_:Env,
 lN 112 G λb=>bA .lss 3 B b λc=>cV c (iA 112 G B λd=>lA 220 d a λe=>aL 220 a λf g=>sA 220 f e g λh=>bB .add 3 B (i 1) λj=>fA 220 f 6 λk=>lA 3 k h λl=>
 bA .add 3 j l λn=>fA 220 f 7 λo=>lA 3 o h λp=>bA .add 3 n p λq=>eW (λK2=>fA 220 f 0 λr=>lA 3 r h λs=>bB .eql 3 s (i 12) λt=>cV t (fA 220 f 5 λu=>
 lA 3 u h λv=>bA .mul 3 M v λx=>K2 x h) (K2 M h)) (λJ y=>∀_:Env,
 bB .gtr 3 J (i 64) λz=>cV z (fA 220 f 8 λV=>lA 3 V y λZ=>K (.tuple #[Z,tt]) y) (bB .add 3 B (i 1) λW=>eK hZ (pA 112 G (some W) (some q) none) λY=>
 cF 112 [Y,J] y λO I=>xT O 0 λU=>xT O 1 λah=>cV ah (K (.tuple #[U,tt]) I) (E q I)))) (K (.tuple #[(i 0),ff]) a)) (λE=>E (i 0) w)
theorem ahM(B E:Value)(h:S112 w K B E):CR 112 [B,E] w K:=
 qG 53 (λ_=>.nil) 48 [.tmp 4,.tmp 5] Tryz.func112 h
theorem Wm:PL 116:=dT Tryz.func116
theorem Wn:PL 220:=dT Tryz.func220
theorem anb:PL 51:=dT Tryz.func51
theorem ahN:PL 55:=dT Tryz.func55
theorem acC:PL 53:=dT Tryz.func53
theorem anc:PL 52:=dT Tryz.func52
theorem ahO:PL 56:=dT Tryz.func56
theorem Bv:PL 146:=dT Tryz.func146
theorem Wo:PL 111:=dT Tryz.func111
theorem auh:PL 110:=dT Tryz.func110
theorem aui:PL 214:=dT Tryz.func214
theorem auj:PL 215:=dT Tryz.func215
theorem akM:PL 112:=dT Tryz.func112
theorem auk:PL 216:=dT Tryz.func216
theorem aul:PL 301:=dT Tryz.func301
end Go.Proofs.YtdncbeepkacgbaaGreatDoor
namespace Go.Fw
section
variable {α:Type}[Flat α] {P:Program}{w w0:World}{A:Nat->Prop}{L:List HP}
theorem QM{T E U I R:Nat}{kn V:IntKind}{K:Value->iD}(hs:St w0 A L w)(ht:SlT P T E (og α) U)(Z:P.underlying I=some (.int kn))(h1:1<=og α)(n:Nat)(Y:0<n)(O:n<=1048576)(hby:U<=8192)
  (k:∀b cap w',n<=cap->St w0 A (bG (.slice (some ⟨b,0,none⟩) 0 cap) ([]:List α)::L) w'->K (.slice (some ⟨b,0,none⟩) n cap) w'):se P (Builtin.append_ #[T,I] R [.slice none 0 0,.int V (n:Int)].toArray) w K:=by
 obtain⟨hu,B,hi,mr,BK,G⟩:=gw ht
 obtain⟨z,hz,J⟩:∃z,B.zero=some z/\z.cells.size=og α:=by
  cases h:B.zero with
  | none=>rw[h]at G;cases G
  | some z=>rw[h]at G;exact⟨z,rfl,by simpa using G⟩
 have M:n*B.bytes<=281474976710656:=by
  have:=Nat.mul_le_mul O (show B.bytes<=8192 by omega)
  omega
 have W:=Lib.run_append_nil_zeros (P:=P) w T I R E B z V kn hu Z hi hz n Y cU cU M
 have zd:=grownCap_ge w n 0 E
 refine⟨_,_,W,k _ _ _ cU ?_⟩
 refine hs.drew.new (F:=(· = w.heap.size)) (Ext.alloc _ _) (.inr ⟨_,_,(Builtin.zeroCells z.cells n++Builtin.zeroCells z.cells (grownCap w n 0 E-n)).toList,rfl,?_,?_,λ_=>Iff.rfl⟩) λb hb=>zU hb.symm
 .exact⟨E,by rw[show flat ([]:List α)=[]from rfl,wc,Array.toArray_toList];exact nh _ _⟩
 refine⟨ob _,zU (Eq.symm ?_)⟩
 show([]++_).length=_
 rw[wc,Array.length_toList,Array.size_append,size_zeroCells,size_zeroCells,J,<- Nat.add_mul]
 congr 1;omega
theorem QN{T E sz B R n c:Nat}{z:Option Nat}{a:Option Addr}{K:Value->Prop}(ht:eQ P T=some (E,sz,B,z))(k:K (iE (c:Int))):eK P (Builtin.cap_ #[T] R [Value.slice a n c].toArray) K:=by
 obtain⟨G,_⟩:=gw ht
 refine⟨_,?_,k⟩
 unfold Builtin.cap_
 simp[cH,cJ G]
 rfl
theorem QO{T E sz B n c:Nat}{z:Option Nat}{a:Option Addr}{K:Value->Prop}(ht:eQ P T=some (E,sz,B,z))(G:a.map (·.add (0*sz))=a)(k:K (.slice a 0 c)):eK P (pA T (.slice a n c) none (some (iE 0)) none) K:=by
 refine⟨_,zb ht (pa (.inl ⟨rfl,rfl⟩) (.inr ⟨0,rfl,Int.le_refl _,rfl⟩) (qQ _) (ob _)),?_⟩
 grind
end
end Go.Fw
namespace Go.Proofs.YtdncbeepkacgbaaGreatDoor
open Go.Fw
theorem z7{α:Type}{ls:List (List α)}{k:Nat}{l:List α}(h:ls[k]?=some l):(ls.take (k+1)).flatten=(ls.take k).flatten++l:=by
 rw[<- gI h];simp
def Np{α:Type}(ls:List (List α))(k:Nat):(ls.take k).flatten.length<=ls.flatten.length:=by
 conv=>rhs;rw[<- sf k ls,List.flatten_append,lJ]
 omega
def akN{α:Type}[Flat α](w:World):dP (λ_=>True) w (.slice none 0 0) ([]:List α):=⟨none,0,rfl,ob _,.inl ⟨rfl,rfl⟩⟩
def C301(n:Nat)(w:World)(G:n<=1048576):CR 301 [.slice none 0 0,iE (n:Int)] w (λv w'=>mf (bG v ([]:List cI)) w w'):=by
 have B:=St.start w;refine fD Tryz.func301 ?_;refine⟨λw'=>w'=w,aV (aC (λc=>absurd c cU) λ_=>rfl),?_⟩;rintro E J _;subst J;refine⟨λI w'=>St E bE [bG I ([]:List cI)] w',?_,?_⟩
 .refine QN kM (aK kM (akN (α:=cI) E) (fO et (fO (by simp;omega) (eh (aC (λc=>?_) λ_=>B.eU)))));refine QN kM (QO kM rfl ?_);have e:(n:Int)-(((0:Nat):Int)-(([]:List cI).length:Int))=(n:Int):=et
  rw[e]at c |-;exact QM (α:=cI) (kn:=.i64) B kM (by kernel_rfl) er n cU G er (λ_ _ _ _ B=>aK kM (akN (α:=cI) E) (QO kM (by simp[Addr.add]) B))
 rintro v _ B _;exact B.fresh
def C216(lv:Value)(E:List (List cI))(w:World)(hL:aAg w lv E)(hn:E.length<=1000)(hf:E.flatten.length<=100000):CR 216 [lv] w (λv w'=>mf (bG v E.flatten) w w'):=by
 obtain⟨M,V,hl,Z⟩:=hL;have B:=St.start w;refine fD Tryz.func216 ?_;refine aK Po (V.ext B.aG) ?_;refine⟨λm y x U=>∃k:Nat,y=iE ((E.take k).flatten.length:Int)/\x=iE (k:Int)/\m=M.length-k/\k<=M.length/\St w bE [] U,⟨_,0,rfl,rfl,rfl,ob _,B⟩,?_⟩;rintro m _ _ U ⟨k,rfl,rfl,rfl,hk,B⟩ _;refine aV (aC (λc=>?_) λc=>?_)
 .obtain⟨s,I⟩:=gx M (i:=(k:Int).toNat) cU;obtain⟨t,O⟩:=gx E (i:=k) cU;have W:=Z k s t I O;have J:=Np E (k+1);have G:=z7 O;rw[G,lJ]at J;refine⟨λjv w'=>jv=iE ((E.take (k+1)).flatten.length:Int)/\St w bE [] w',aW Po V cU I (λ_ Y=>aE kf (Y.ext B.aG) (aK kM (W.ext B.aG) (aR cU (aV (aC (λc=>absurd c cU) λ_=>⟨gD (n5 .i64) (by rw[G,lJ];omega),B⟩))))),?_⟩;rintro _ _ ⟨rfl,B⟩ _;exact aR cU ⟨_,cU,k+1,rfl,rfl,rfl,cU,B⟩
 have oH:E.take k=E:=mH cU;rw[oH];refine cW aul B (C301 _ _ cU) (λx24 _ cA B=>aK Po (V.ext B.aG) ?_);refine⟨λm v x U=>∃k:Nat,x=iE (k:Int)/\m=M.length-k/\k<=M.length/\St w bE [bG v ((E.take k).flatten)] U,⟨_,0,rfl,rfl,ob _,B⟩,?_⟩;rintro m v _ _ ⟨k,rfl,rfl,hk,B⟩ _;refine aV (aC (λc=>?_) λc=>?_)
 .obtain⟨s,I⟩:=gx M (i:=(k:Int).toNat) cU;obtain⟨t,O⟩:=gx E (i:=k) cU;have W:=Z k s t I O;have J:=Np E (k+1);have G:=z7 O;rw[G,lJ]at J;exact aW Po V cU I (λ_ Y=>aE kf (Y.ext B.aG) (cK B kM (W.ext B.aG) cU er λ_ _ B=>aR cU ⟨_,cU,k+1,rfl,rfl,cU,by rw[G];exact B⟩))
 rw[show E.take k=E from mH cU]at B;exact B.fresh
def anf{w:World}{a b:SV}{x y:List cI}(h1:dP (λ_=>True) w (jj a) x)(h2:dP (λ_=>True) w (jj b) y):∀(i:Nat) (s:SV) (t:List cI),[a,b][i]?=some s->[x,y][i]?=some t->dP (λ_=>True) w (jj s) t:=by
 grind
def C111(p:bQ)(pv:bT)(G E:List cI)(w:World)(O:n4 w pv p)(h3:dP (λ_=>True) w (jj pv.threads) G)(h4:dP (λ_=>True) w (jj pv.recover) E)(W:G.length<=500)(U:E.length<=500):CR 111 [jj pv] w (λv w'=>mf (bG v (G++E)) w w'):=by
 obtain⟨dJ,ej,Z,J,M,Y,rfl,fT,iZ,iN,fj,fk,gU⟩:=O;have B:=St.start w;refine fD Tryz.func111 ?_;refine cP B (λB3 _ B=>aA sO (aB kf B.hb rfl (aA uW (aB kf B.hb rfl (bV ([J,M]) B Po rfl rfl (ei rfl) λV _ B=>cW auk B (C216 _ [G,E] _ ⟨_,B.fc,rfl,anf (h3.ext B.aG) (h4.ext B.aG)⟩ et (by simp;omega)) λx8 _ cA B=>?_)))));have I:=B.p1.drop.p1.drop;rw[show [G,E].flatten=G++E from et]at I;exact I.fresh
def ang(p:bQ):(decide (4<(p.lines.length:Int))||p.lines.any (λl=>decide (4<(l.length:Int)))||decide (4<(p.jR.length:Int))||decide (2<(p.locks.length:Int))||decide ((p.threads.length:Int)=0)||decide (3<(p.threads.length:Int))||(je p).any (λt=>decide (4<(t.aS.length:Int)))||decide (4<(p.cB.length:Int)))=yS p:=by
 unfold yS
 grind
def Wp{p:bQ}(h:∀l∈p.lines,l.length<=500)(B:p.lines.length<=500)(k:Nat):(p.lines.take k).flatten.length<=250000:=by
 have h1:=Np p.lines k
 have h2:=dL h
 omega
def C146(E:Value)(ns:List ByteArray)(s:ByteArray)(w:World)(G:dP (λ_=>True) w E ns)(I:ns.length<=1048576):CR 146 [E,.string s] w (λv w'=>v=iE (bR ns s)/\Ext w w'):=by
 have B:=St.start w;refine fD Tryz.func146 ?_;exact aY abB B (C233 _ _ _ _ (G.ext B.aG) cU) (λ_ _ B=>⟨rfl,B.aG⟩)
def C55(p:bQ)(pv:bT)(w:World)(hp:n4 w pv p)(E:PZ p):CR 55 [jj pv] w (λv w'=>v=iE (cZ p)/\Ext w w'):=by
 obtain⟨dJ,ej,dV,cQ,cT,dA,rfl,fT,iZ,iN,fj,fk,gU⟩:=hp;have B:=St.start w;refine fD Tryz.func55 ?_;refine cP B (λB3 w1 B=>aA nT (aB zh B.hb rfl ?_));obtain⟨Y,G,I⟩:=fT.open;have hn15:=I.1;refine aK BN (G.ext B.aG) ?_;refine⟨λm y x w1=>∃k:Nat,y=iE (((p.lines.take k).flatten.length:Nat):Int)/\x=iE (k:Int)/\m=p.lines.length-k/\k<=p.lines.length/\St w bE [bU B3 (jl (⟨dJ,ej,dV,cQ,cT,dA⟩:bT))] w1,⟨_,0,rfl,rfl,rfl,cU,B⟩,?_⟩
 rintro m _ _ _ ⟨k,rfl,rfl,rfl,hk,B⟩ _;have hsk:=Wp E.line E.lines k;have M:=Wp E.line E.lines (k+1);have hzl:=E.lines;refine aV (aC (λiQ=>?_) λiQ=>?_)
 .obtain⟨QP,Z⟩:=gx Y (i:=(k:Int).toNat) cU;obtain⟨O,J⟩:=gx p.lines (i:=(k:Int).toNat) cU;have W:DL w (jj QP) O:=I.2 _ _ _ Z J;refine aW BN G cU Z (λ_ Qp=>?_);have V:=z7 (k:=k) J;rw[V,lJ]at M;refine aE l4 (Qp.ext B.aG) ?_;have U:=DL.flat W;exact aK qq (U.ext B.aG) (aR cU (aR cU ⟨_,cU,k+1,gD (n5 .i64) (by rw[z7 (k:=k) J,lJ];omega),rfl,rfl,cU,B⟩))
 rw[mH cU];exact⟨rfl,B.drop.aG⟩
def C52(p:bQ)(pv:bT)(w:World)(hp:n4 w pv p)(Z:PZ p):CR 52 [jj pv] w (λv w'=>mf (bG v (cR p)) w w'):=by
 obtain⟨dJ,ej,Y,U,cT,V,rfl,fT,iZ,iN,fj,fk,gU⟩:=hp;have B:=St.start w;refine fD Tryz.func52 ?_;refine cP B (λB3 O B=>aA uV (aB l4 B.hb rfl ?_));have E:=DL.flat iN;refine aK qq (E.ext B.aG) ?_;refine⟨λm y x O=>∃k:Nat,x=iE (k:Int)/\m=p.locks.length-k/\k<=p.locks.length/\St w bE [bG y ((p.locks.take k).map cG.name),bU B3 (jl (⟨dJ,ej,Y,U,cT,V⟩:bT))] O,⟨_,0,rfl,rfl,cU,B.eU (α:=ByteArray)⟩,?_⟩;rintro m mw _ _ ⟨k,rfl,rfl,hk,B⟩ _
 have hml:((p.locks.take k).map cG.name).length=k:=by rw[oi,n0];omega
 have hzk:=Z.locks;refine aV (aC (λiQ=>?_) λiQ=>?_)
 .obtain⟨J,M⟩:=gx p.locks (i:=(k:Int).toNat) cU;refine aW qq E cU M (λ_ W=>aE mU (W.ext B.aG) (aJ B pO λahy _ B=>aH (x:=J) B mU rfl rfl λ_ B=>aA ox (aB (v:=.string J.name) ke B.hb rfl (bV ([J.name]) B kN rfl rfl (ei rfl) λG _ B=>?_))));have I:=B.fc;exact cK B.p2 kN I (by simp<;>omega) er (λ_ _ B=>have B:=B.p1.drop;aR cU (have B:=B.p1.drop.p1.p1;⟨_,cU,k+1,rfl,rfl,cU,by rw[<- ig (k:=k) M];exact B⟩))
 have B:=B.p1.drop;rw[mH cU]at B;exact B.fresh
def C214(lv:Value)(xs:List cG)(w:World)(E:dP (λ_=>True) w lv xs)(G:xs.length<=1048576):CR 214 [lv] w (λv w'=>v=.bool (decide (4<(xs.length:Int)))/\Ext w w'):=by
 have B:=St.start w;refine fD Tryz.func214 ?_;exact aK qq (E.ext B.aG) (eh ⟨rfl,B.aG⟩)
def C215(t:cE)(G:cI)(w:World)(ht:n4 w G t)(V:t.aS.length<=500):CR 215 [jj G] w (λv w'=>v=.bool (decide (4<(t.aS.length:Int)))/\Ext w w'):=by
 obtain⟨O,M,rfl,I,U⟩:=ht;have B:=St.start w;refine fD Tryz.func215 ?_;refine cP B (λJ _ B=>aA kP (aB nf B.hb rfl ?_));have E:=DL.flat I;exact aK kN (E.ext B.aG) (eh ⟨rfl,B.drop.aG⟩)
def C110(p:bQ)(pv:bT)(w:World)(I:n4 w pv p)(E:PZ p):CR 110 [jj pv] w (λv w'=>v=.bool (yS p)/\Ext w w'):=by
 obtain⟨dJ,ej,dV,cQ,cT,dA,rfl,fT,iZ,iN,fj,fk,gU⟩:=I;have B:=St.start w;refine ahL _ _ _ ?_;unfold S110;refine cP B (λB3 M B=>?_);have hz1:=E.lines;have hz2:=E.jR;have hz3:=E.locks;have hz4:=E.threads;have hz5:=E.cB;obtain⟨z6,V,G⟩:=fj.open;obtain⟨Eg,TF,J⟩:=fk.open;have hn3:=G.1;have hn4:=J.1;have aBp:=Wc E.toPS;refine aA sO (aB kf B.hb rfl ?_);obtain⟨ts19,W,aBr⟩:=fj.open;have hn19:=aBr.1;refine aK kM (W.ext B.aG) ⟨λjv w'=>jv=.bool (decide (4<(p.lines.length:Int))||p.lines.any (λl=>decide (4<(l.length:Int)))||decide (4<(p.jR.length:Int))||decide (2<(p.locks.length:Int))||decide ((p.threads.length:Int)=0)||decide (3<(p.threads.length:Int))||(je p).any (λt=>decide (4<(t.aS.length:Int)))||decide (4<(p.cB.length:Int)))/\St w bE [bU B3 (jl (⟨dJ,ej,dV,cQ,cT,dA⟩:bT))] w',?_,?_⟩
 .refine aA nT (aB zh B.hb rfl ?_);obtain⟨ts20,aBs,Y⟩:=fT.open;have hn20:=Y.1;refine aK BN (aBs.ext B.aG) (eh (aC (λ_=>⟨vb dH,B⟩) λmX=>aA nT (aB zh B.hb rfl (aY akB B (C211 _ _ _ (λl=>l.length<=1048576) _ _ (fT.ext B.aG) ⟨214,[],[],rfl,aui,λ_ y M _ U I=>C214 _ y M (DL.flat U) I⟩ (λl hl=>by have:=E.line l hl;omega) (by have:=E.lines;omega)) λ_ he B=>aX (λ_=>⟨vb dH,B⟩) λzK=>aA AD (aB l4 B.hb rfl ?_)))));have aBu:=DL.flat iZ;refine aK qq (aBu.ext B.aG) (eh (aC (λ_=>⟨vb dH,B⟩) λmE=>aA uV (aB l4 B.hb rfl ?_)))
  have aBv:=DL.flat iN;refine aK qq (aBv.ext B.aG) (eh (aC (λ_=>⟨vb dH,B⟩) λc_x29=>aI (aC (λ_=>⟨vb dH,B⟩) λrO=>eh (aC (λ_=>⟨vb dH,B⟩) λwN=>aE gO B.At (eC Wo (C111 p _ z6 Eg _ ⟨dJ,ej,dV,cQ,cT,dA,rfl,(fT.ext B.aG),(iZ.ext B.aG),(iN.ext B.aG),(fj.ext B.aG),(fk.ext B.aG),(gU.ext B.aG)⟩ (V.ext B.aG) (TF.ext B.aG) (by have:=E.threads;omega) (by have:=E.recover;omega)) ?_)))));rintro x41 _ cA;have B:=B.made cA;have Z:DL _ _ (je p):=DL.of B.fc ((G.append J).ext B.aG)
  refine aY ab2 B (C212 _ _ _ (λt=>t.aS.length<=500) _ _ Z ⟨215,[],[],rfl,auj,λsv y M _ U I=>C215 y sv M U I⟩ (λ_ ht=>(E.kC ht).2.1) cU) (λ_ he B=>aX (λ_=>have B:=B.drop;⟨vb dH,B⟩) λyA=>aA oM (aB zi B.p1.hb rfl ?_));obtain⟨ts23,O,aBx⟩:=gU.open;have hn23:=aBx.1;exact aK A7 (O.ext B.aG) (eh (have B:=B.drop;⟨vb dH,B⟩))
 rintro _ _ ⟨rfl,B⟩ _;exact⟨vb (ang p),B.drop.aG⟩
theorem xU(x:bD)(a b r:Bk)(n:Int):nF (.cons x a b r) n=(decide (64<qd x n)||(nF a (qd x n)||nF b (qd x n))||nF r n):=rfl
def ahQ{xs:List bD}{k:Nat}{x:bD}{a b r:Bk}(h:xs.drop k=(Bk.cons x a b r).flat)(E:(Bk.cons x a b r).str){hi lo:Int}(h1:hi=k+1+x.body+x.eR)(h2:lo=k+1):(xs.take hi.toNat).drop lo.toNat=(a.app b).flat:=by
 have B:=E
 obtain⟨G,I,_⟩:=B
 have e:=Bk.Eu E (hi:=1+x.body+x.eR) (lo:=1) rfl rfl
 rw[<- e,<- h,List.take_drop,uL]
 grind
def acE{xs:List bD}{k:Nat}{x:bD}{a b r:Bk}(h:xs.drop k=(Bk.cons x a b r).flat)(E:(Bk.cons x a b r).str):xs.drop (k+1+a.len+b.len)=r.flat:=by
 have B:=E
 obtain⟨G,I,_⟩:=B
 rw[<- Bk.atu E (hi:=1+x.body+x.eR) rfl,<- h,uL]
 grind
def acF{α:Type}{xs l:List α}{k:Nat}{x:α}(h:xs.drop k=x::l):xs[k]?=some x:=by
 have:=gD (λl=>l[0]?) h
 grind
theorem C112(lv:Value)(t:Bk)(n:Int)(N:Nat)(w:World)(hL:DL w lv t.flat)(gG:t.str)(hq:∀x∈t.flat,0<=x.at_/\(x.kind=12->1<=x.n/\x.n<=8))(hn:1<=n/\n<=64)(hl:t.len<=1048576)(hN:t.len<N):CR 112 [lv,iE n] w (λv w'=>∃a:Int,v=.tuple #[iE a,.bool (nF t n)]/\Ext w w'):=by
 have J3:=t.dL;have B:=St.start w;refine ahM _ _ _ _ ?_;unfold S112;refine⟨λm y w1=>∃(k:Nat) (u:Bk),y=iE (k:Int)/\m=t.len-k/\t.flat.drop k=u.flat/\k+u.len=t.len/\u.str/\(∀x∈u.flat,0<=x.at_/\(x.kind=12->1<=x.n/\x.n<=8))/\nF t n=nF u n/\St w bE [] w1,⟨_,0,t,rfl,rfl,rfl,cU,gG,hq,rfl,B⟩,?_⟩;rintro m _ w1 ⟨k,u,rfl,rfl,U,V,M,O,I,B⟩ _;obtain⟨aBz,G,J⟩:=hL.open;have hn24:=J.1;refine aK gX (G.ext B.aG) (aV (aC (λlS=>?_) λlS=>?_))
 .obtain⟨x,a,b,r,rfl⟩:=Bk.Wd (t:=u) (by rw[Bk.dL];omega);obtain⟨Il,oW⟩:=gx aBz (i:=(k:Int).toNat) cU;obtain⟨E,W⟩:=gx t.flat (i:=(k:Int).toNat) cU;obtain⟨Wq,Wr,rfl,ax6,ax7⟩:=J.2 _ _ _ oW W;refine aW gX G cU oW (λ_ PQ=>?_);obtain rfl:E=x:=o5.inj (W.symm.trans (acF U));have Y:=O E (by simp[Bk.flat]);have aBA:=M;obtain⟨tf,Gw,OH,hg4,hga,hgb,hgr⟩:=aBA;have Z0:k+(a.len+b.len+r.len+1)=t.len:=V;have QQ:=a.dL;have Su:=b.dL;have hlr:=r.dL;have yt:=ahQ U M (hi:=(k:Int)+1+E.body+E.eR) (lo:=(k:Int)+1) rfl rfl
  have YA:=acE U M;refine aE fh (PQ.ext B.aG) (aJ B kS λBc _ B=>have B:=B.enc (cs':=jl (⟨0,(jY #[]),(jY #[]),bO,bO,0,0,0,0⟩:bF)) rfl;aH (x:=(⟨E.kind,E.eY,E.name,Wq,Wr,E.n,E.body,E.eR,E.at_⟩:bF)) B fh rfl rfl λ_ B=>aR cU (aA nt (aB (v:=iE E.body) bL B.hb rfl (aR cU (aA pQ (aB (v:=iE E.eR) bL B.hb rfl (aR cU ⟨λjv w'=>∃m:Int,jv=iE m/\m=qd E n/\St w bE [bU Bc (jl (⟨E.kind,E.eY,E.name,Wq,Wr,E.n,E.body,E.eR,E.at_⟩:bF))] w',aA iy (aB (v:=iE E.kind) bL B.hb rfl (aI (aC (λu9=>aA pP (aB (v:=iE E.n) bL B.hb rfl (VG (by have wV:=Y.2 u9;have h1:=Mi (a:=1) (b:=1) hn.1 wV.1 cU cU;have h2:=Mi (c:=64) (d:=8) hn.2 wV.2 cU cU;omega) ⟨_,rfl,by grind[qd],B⟩))) λ_=>⟨_,rfl,by grind[qd],B⟩))),?_⟩)))))))
  rintro _ _ ⟨m,rfl,hm,B⟩ _;have hm8:=am0 hn Y.2 hm;refine eh (aC (λwN=>?_) λwN=>?_)
  .refine aA tN (aB (v:=iE E.at_) bL B.hb rfl ?_);refine⟨E.at_,?_,B.drop.aG⟩;rw[I,xU,<- hm,fY (show(64:Int)<m by omega)];rfl
  refine aR cU (qL gX (G.ext B.aG) cU cU cU λacI IW=>?_);have E2:=DL.cut IW G J;refine eC akM (C112 _ (a.app b) m (N-1) _ (by have h:=(E2.ext B.aG);rw[yt]at h;exact h) (Bk.aht hga hgb) (λy Z=>O y (by rw[Bk.IA]at Z;simp only[Bk.flat,ta,qC];rcases qC.1 Z with h|h<;>simp[h])) cU (by rw[We];omega) (by rw[We];omega)) ?_;rintro _ _ ⟨a1,rfl,he⟩;have B:=B.ext he;rw[Yw];refine aN rfl (aN rfl (aX (λyB=>?_) λyB=>⟨_,cU,k+1+a.len+b.len,r,gD (n5 .i64) cU,rfl,YA,cU,hgr,(λy Z=>O y (by simp[Bk.flat,Z])),by rw[I,xU,<- hm,gk (show ¬ (64:Int)<m by omega),yB];rfl,B.drop⟩))
  refine⟨a1,?_,B.drop.aG⟩;rw[I,xU,<- hm,yB];simp
 cases u with
 | nil=>exact⟨_,by rw[I];rfl,B.aG⟩
 | cons x a b r=>exact absurd V (by show ¬ k+(a.len+b.len+r.len+1)=_;omega)
termination_by N
decreasing_by all_goals omega
def TL:Int->List (List cG)->List (cG×Int)
 | _,[]=>[]
 | k,l::r=>l.map (λc=>(c,k))++TL (k+1) r
def Sv:Int->List cG->List (cG×Int)
 | _,[]=>[]
 | k,c::r=>(c,k)::Sv (k+1) r
def vM(p:bQ):List (cG×Int):=TL 0 p.lines++Sv p.lines.length p.jR
theorem Nr:∀(ls:List (List cG)) (k:Int),(TL k ls).length=ls.flatten.length
 | [],_=>rfl
 | l::r,k=>by simp[TL,Nr r]
theorem ahT:∀(vs:List cG) (k:Int),(Sv k vs).length=vs.length
 | [],_=>rfl
 | c::r,k=>by simp[Sv,ahT r]
theorem Ns:∀(ls:List (List cG)) (k:Int),(TL k ls).map P1=ls.flatten
 | [],_=>rfl
 | l::r,k=>by simp[TL,Ns r,Function.comp_def]
theorem Nt:∀(vs:List cG) (k:Int),(Sv k vs).map P1=vs
 | [],_=>rfl
 | c::r,k=>by simp[Sv,Nt r]
theorem acJ{l:List cG}{c:cG}{j:Nat}(B:l[j]?=some c):∀(ls:List (List cG)) (k:Int) (i:Nat),ls[i]?=some l->(TL k ls)[(ls.take i).flatten.length+j]?=some (c,k+i)
 | [],_,_,h=>by simp at h
 | a::r,k,0,h=>by
  grind[TL]
 | a::r,k,i+1,h=>by
  have E:=acJ B r (k+1) i dH
  grind[TL]
theorem acK:∀(vs:List cG) (k:Int) (j:Nat) (c:cG),vs[j]?=some c->(Sv k vs)[j]?=some (c,k+j)
 | [],_,_,_,h=>by simp at h
 | a::r,k,0,c,h=>by simp at h;subst h;simp[Sv]
 | a::r,k,j+1,c,h=>by
  have B:=acK r (k+1) j c dH
  grind[Sv]
theorem Dp(p:bQ):(vM p).map P1=gS p:=by unfold vM gS;rw[vB,Ns,Nt]
theorem wW(p:bQ):(vM p).length=(gS p).length:=by rw[<- Dp,oi]
def YB{p:bQ}{l:List cG}{c:cG}{i j:Nat}(B:p.lines[i]?=some l)(E:l[j]?=some c):(vM p)[(p.lines.take i).flatten.length+j]?=some (c,(i:Int)):=by
 have h:=acJ E p.lines 0 i B
 unfold vM
 grind
def acL{p:bQ}{c:cG}{j:Nat}(B:p.jR[j]?=some c):(vM p)[p.lines.flatten.length+j]?=some (c,(p.lines.length:Int)+j):=by
 unfold vM
 rw[sl (by rw[Nr];omega),Nr,By,acK _ _ _ _ B]
def C220(y:Value)(b:Nat)(g0 g1:SV)(p:bQ)(J:Nat->iD)(Jx:iD)(w0 w:World)(hz:PS p)(hL:DL w0 (jj g0) p.lines)(hV:dP (λ_=>True) w0 (jj g1) p.jR)
  (U:∀k W,J k W->Cell W b 0 (jj g0)/\Cell W b 1 (jj g1)/\Ext w0 W) (I:∀k W M,J k W->Ext W M->J k M) (h0:J 0 w)
  (hy:∀k c i W,(vM p)[k]?=some (c,i)->J k W->gR hZ y [jj c,iE i] W λv M=>(v=.bool true/\J (k+1) M)\/(v=.bool false/\Jx M)) :
  CR 220 [y,.pointer (some ⟨b,0,none⟩)] w (λ_ W=>J (vM p).length W\/Jx W):=by
 obtain⟨ts,hR,hD⟩:=hL.open;have hn:=hD.1;have hzl:=hz.lines;have hzv:=hz.jR;refine ahK _ _ _ _ ?_;unfold S220;obtain⟨Z,Cm,Lm⟩:=U 0 w h0;refine aA nT (bN zh Z (aK BN (hR.ext Lm) ?_));refine⟨λm x G=>∃i:Nat,x=iE (i:Int)/\m=p.lines.length-i/\i<=p.lines.length/\J ((p.lines.take i).flatten.length) G,⟨_,0,rfl,rfl,ob _,h0⟩,?_⟩;rintro m _ G ⟨i,rfl,rfl,hi,E⟩ _;refine aV (aC (λc=>?_) λc=>?_)
 .obtain⟨l,hl⟩:=gx p.lines (i:=i) cU;obtain⟨t,ht⟩:=gx ts (i:=((i:Nat):Int).toNat) cU;have hdt:DL w0 (jj t) l:=hD.2 _ _ _ ht hl;have V:=DL.flat hdt;have Sw:=hz.line l (ml hl);have e1:=(U _ _ E).2.2;refine aW BN hR cU ht (λq O=>aE l4 (O.ext e1) (aK qq (V.ext e1) ?_));refine⟨λm x G=>∃j:Nat,x=iE (j:Int)/\m=l.length-j/\j<=l.length/\J ((p.lines.take i).flatten.length+j) G,⟨_,0,rfl,rfl,ob _,E⟩,?_⟩;rintro m _ w2 ⟨j,rfl,rfl,SN,E⟩ _;refine aV (aC (λc=>?_) λ_=>aR cU ⟨_,cU,i+1,rfl,rfl,cU,by rw[z7 hl,lJ,show l.length=j from cU];exact E⟩)
  obtain⟨x,Y⟩:=gx l (i:=((j:Nat):Int).toNat) cU;have e2:=(U _ _ E).2.2;have B:=St.start w2;refine aW qq V cU Y (λq O=>aE mU (O.ext e2) (aJ B pO λb6 _ B=>aH (x:=x) B mU rfl rfl λw4 B=>aE mU B.At ?_));refine gR.mono (hy _ x i w4 (YB hl Y) (I _ _ _ E B.aG)) ?_;rintro v w5 (⟨rfl,OG⟩|⟨rfl,yZ⟩)
  .exact bJ (eX (aR cU ⟨_,cU,j+1,rfl,rfl,cU,OG⟩))
  exact bJ (jb (.inr yZ))
 rw[show p.lines.take i=p.lines from mH cU]at E;obtain⟨Z,Cm,e1⟩:=U _ _ E;refine aA AD (bN l4 Cm (aK qq (hV.ext e1) ?_));refine⟨λm x G=>∃j:Nat,x=iE (j:Int)/\m=p.jR.length-j/\j<=p.jR.length/\J (p.lines.flatten.length+j) G,⟨_,0,rfl,rfl,ob _,E⟩,?_⟩;rintro m _ w6 ⟨j,rfl,rfl,SN,E⟩ _;refine aV (aC (λc=>?_) λc=>?_)
 .obtain⟨x,Y⟩:=gx p.jR (i:=((j:Nat):Int).toNat) cU;obtain⟨Z,Cm,e2⟩:=U _ _ E;have B:=St.start w6;refine aW qq hV cU Y (λq O=>aE mU (O.ext e2) (aJ B pO λb8 _ B=>aH (x:=x) B mU rfl rfl λw8 B=>aE mU B.At (aA nT (bN zh (Z.ext B.aG) (aK BN (hR.ext (e2.trans B.aG)) (aR cU ?_))))));rw[hn];refine gR.mono (hy _ x _ w8 (acL Y) (I _ _ _ E B.aG)) ?_;rintro v w9 (⟨rfl,OG⟩|⟨rfl,yZ⟩)
  .exact bJ (eX (aR cU ⟨_,cU,j+1,rfl,rfl,cU,OG⟩))
  exact bJ (jb (.inr yZ))
 refine .inl ?_;rw[wW];unfold gS;rw[lJ,show p.jR.length=j from cU];exact E
def C116(pv:bT)(w:World):CR 116 [jj pv] w (λv w'=>∃b,v=.func (.func 220) [].toArray [.pointer (some ⟨b,0,none⟩)].toArray/\mf (bU b (jl pv)) w w'):=by
 have B:=St.start w;refine fD Tryz.func116 ?_;exact cP B (λb _ B=>⟨b,rfl,B.fresh⟩)
def C51(p:bQ)(pv:bT)(w:World)(hp:n4 w pv p)(hz:PZ p):CR 51 [jj pv] w (λv w'=>mf (bG v (bW p)) w w'):=by
 have hac:=wM hz.toPS;have mr:(vM p).length=(gS p).length:=wW p;obtain⟨V,U,dV,cQ,cT,dA,rfl,fT,iZ,iN,fj,fk,gU⟩:=hp;have E:=St.start w;refine fD Tryz.func51 ?_;refine cP E (λbp _ E=>gT E amw rfl λb3 _ E=>aE gO E.p1.At (eC Wm (C116 _ _) ?_));rintro _ _ ⟨b,rfl,cA⟩;have E:=(E.made cA).eU (α:=ByteArray)
 refine zC (cap:=[.pointer (some ⟨b,0,none⟩)]) (xs:=(vM p).map λq=>[jj q.1,iE q.2]) Wn E
  (λk M=>∃I,M=[bG I (((gS p).take k).map cG.name),bU b (jl (⟨V,U,dV,cQ,cT,dA⟩:bT)),bU b3 [I],bU bp (jl (⟨V,U,dV,cQ,cT,dA⟩:bT))]) (λ_ _=>False) ⟨_,rfl⟩ (by intro x hx;obtain⟨q,_,rfl⟩:=pB.1 hx;rfl) ?_ ?_ ?_ ?_ ?_ ?_
 .intro y J Jx W hJ O Yh hy;refine(C220 y b V U p J Jx w W hz.toPS fT (DL.flat iZ) (λk W G=>?_) O Yh λk c i W hx G=>hy k [jj c,iE i] W (by rw[qa,hx];rfl) G).mono λ_ _ r=>r.mono λv W' h=>?_
  .obtain⟨Y,M,⟨I,rfl⟩,Z⟩:=hJ k W G;exact⟨Z.p2.hb.cell rfl,Z.p2.hb.cell rfl,Z.aG⟩
  simpa using h
 .rintro k args Y1 Y2 B Kr M W G ⟨I,rfl⟩ hB hN hR E;rw[qa]at G;obtain⟨q,hq,rfl⟩:=Gz.1 G;have l6:=(j0.1 hq).1;have hc:(gS p)[k]?=some q.1:=by rw[<- Dp,qa,hq];rfl
  have hml:(((gS p).take k).map cG.name).length=k:=by rw[oi,n0];omega
  dsimp only[Ht];refine aJ E pO (λb4 _ E=>aH (x:=q.1) E mU rfl rfl λ_ E=>?_);refine hB _ _ _ E.p1 (λ_ E=>?_);refine aB nf E.p4.hb rfl (aA ox (aB (v:=.string q.1.name) ke E.p1.hb rfl (bV ([cG.name q.1]) E kN rfl rfl (ei rfl) λs8 _ E=>?_)));have hr:=E.fc;refine cK E.p3 kN hr (by rw[hml,mv];omega) er (λs9 _ E=>aO E.p5 nf (ei rfl) (Nc E.fc) λ_ E=>?_);refine hN _ _ ?_ ⟨s9,rfl⟩;rw[<- ig (k:=k) hc];exact E.p2.drop.p3.drop.p3.p2.p3
 .rintro D M W ⟨I,rfl⟩ E;refine aB nf E.p3.hb rfl ?_;refine HV E (λ_ E=>?_);rw[oi,mr,O2]at E;exact E.p1.drop.p1.drop.p1.drop.fresh
 .rintro D M W h;exact h.elim
 .rintro id D M W h;exact h.elim
 rintro c M h;exact h.elim
def C56(p:bQ)(pv:bT)(w:World)(hp:n4 w pv p)(hz:PZ p):CR 56 [jj pv] w (λv w'=>mf (bG v (gK p)) w w'):=by
 have hac:=wM hz.toPS;have mr:(vM p).length=(gS p).length:=wW p;obtain⟨V,U,dV,cQ,cT,dA,rfl,fT,iZ,iN,fj,fk,gU⟩:=hp;have E:=St.start w;refine fD Tryz.func56 ?_;refine cP E (λbp _ E=>gT E ams rfl λb3 _ E=>aE gO E.p1.At (eC Wm (C116 _ _) ?_));rintro _ _ ⟨b,rfl,cA⟩;have E:=(E.made cA).eU (α:=Int)
 refine zC (cap:=[.pointer (some ⟨b,0,none⟩)]) (xs:=(vM p).map λq=>[jj q.1,iE q.2]) Wn E
  (λk M=>∃I,M=[bG I (((gS p).take k).map cG.n),bU b (jl (⟨V,U,dV,cQ,cT,dA⟩:bT)),bU b3 [I],bU bp (jl (⟨V,U,dV,cQ,cT,dA⟩:bT))]) (λ_ _=>False) ⟨_,rfl⟩ (by intro x hx;obtain⟨q,_,rfl⟩:=pB.1 hx;rfl) ?_ ?_ ?_ ?_ ?_ ?_
 .intro y J Jx W hJ O Yh hy;refine(C220 y b V U p J Jx w W hz.toPS fT (DL.flat iZ) (λk W G=>?_) O Yh λk c i W hx G=>hy k [jj c,iE i] W (by rw[qa,hx];rfl) G).mono λ_ _ r=>r.mono λv W' h=>?_
  .obtain⟨Y,M,⟨I,rfl⟩,Z⟩:=hJ k W G;exact⟨Z.p2.hb.cell rfl,Z.p2.hb.cell rfl,Z.aG⟩
  simpa using h
 .rintro k args Y1 Y2 B Kr M W G ⟨I,rfl⟩ hB hN hR E;rw[qa]at G;obtain⟨q,hq,rfl⟩:=Gz.1 G;have l6:=(j0.1 hq).1;have hc:(gS p)[k]?=some q.1:=by rw[<- Dp,qa,hq];rfl
  have hml:(((gS p).take k).map cG.n).length=k:=by rw[oi,n0];omega
  dsimp only[Ht];refine aJ E pO (λb4 _ E=>aH (x:=q.1) E mU rfl rfl λ_ E=>?_);refine hB _ _ _ E.p1 (λ_ E=>?_);refine aB eD E.p4.hb rfl (aA CL (aB (v:=iE q.1.n) bL E.p1.hb rfl (bV ([cG.n q.1]) E dZ rfl rfl (ei rfl) λs8 _ E=>?_)));have hr:=E.fc;refine cK E.p3 dZ hr (by rw[hml,mv];omega) er (λs9 _ E=>aO E.p5 eD (ei rfl) (Nc E.fc) λ_ E=>?_);refine hN _ _ ?_ ⟨s9,rfl⟩;rw[<- ig (k:=k) hc];exact E.p2.drop.p3.drop.p3.p2.p3
 .rintro D M W ⟨I,rfl⟩ E;refine aB eD E.p3.hb rfl ?_;refine HV E (λ_ E=>?_);rw[oi,mr,O2]at E;exact E.p1.drop.p1.drop.p1.drop.fresh
 .rintro D M W h;exact h.elim
 .rintro id D M W h;exact h.elim
 rintro c M h;exact h.elim
theorem Ws:∀(vs:List cG) (k:Int) (j:Nat) (q:cG×Int),(Sv k vs)[j]?=some q->q.2=k+j
 | [],_,_,_,h=>by simp[Sv]at h
 | c::r,k,0,q,h=>by simp[Sv]at h;grind
 | c::r,k,j+1,q,h=>by
  have:=Ws r (k+1) j q (by simpa[Sv]using h)
  omega
theorem QR(vs:List cG):∀(ls:List (List cG)) (i:Int) (a:Nat) (q:cG×Int),(TL i ls++Sv (i+ls.length) vs)[a]?=some q->iR ls i a=q.2
 | [],i,a,q,h=>by
  have:=Ws vs (i+0) a q (by simpa[TL]using h)
  unfold iR;omega
 | l::r,i,a,q,h=>by
  unfold iR
  by_cases B:a<l.length
  .rw[ez cU]
   rw[TL,o1,s7 dH,qa]at h
   grind
  .rw[ew cU]
   rw[TL,o1,sl (by simp;omega),oi]at h
   have e:(i+((l::r).length:Nat):Int)=i+1+(r.length:Nat):=dH
   rw[e]at h
   have:=QR vs r (i+1) (a-l.length) q h
   grind
theorem acN{p:bQ}{k:Nat}{q:cG×Int}(h:(vM p)[k]?=some q):iS p k=q.2:=by
 have B:=(j0.1 h).1
 rw[wW]at B
 unfold iS
 rw[ew cU]
 exact QR p.jR p.lines 0 k q (by unfold vM at h;grind)
def C53(p:bQ)(pv:bT)(c:Int)(w:World)(hp:n4 w pv p)(hz:PZ p):CR 53 [jj pv,iE c] w (λv w'=>v=iE (iS p c)/\Ext w w'):=by
 have hac:=wM hz.toPS;have mr:(vM p).length=(gS p).length:=wW p;obtain⟨V,U,dV,cQ,cT,dA,rfl,fT,iZ,iN,fj,fk,gU⟩:=hp;have E:=St.start w;refine fD Tryz.func53 ?_;refine cP E (λbp _ E=>ni E rfl λb3 _ E=>gT E qA rfl λb4 _ E=>gT E qA rfl λb5 _ E=>aO E bL (ei rfl) rfl λ_ E=>aE gO E.p3.At (eC Wm (C116 _ _) ?_));rintro _ _ ⟨b,rfl,cA⟩;have E:=E.made cA
 refine zC (cap:=[.pointer (some ⟨b,0,none⟩)]) (xs:=(vM p).map λq=>[jj q.1,iE q.2]) Wn E
  (λk M=>(∀j:Nat,j<k->¬ (j:Int)=c)/\M=[bU b (jl (⟨V,U,dV,cQ,cT,dA⟩:bT)),bU b5 [iE (k:Int)],bU b4 [iE 0],bU b3 [iE c],bU bp (jl (⟨V,U,dV,cQ,cT,dA⟩:bT))])
  (λcd M=>cd=.ret/\M=[bU b4 [iE (iS p c)]]) ⟨cU,rfl⟩ (by intro x hx;obtain⟨q,_,rfl⟩:=pB.1 hx;rfl) ?_ ?_ ?_ ?_ ?_ ?_
 .intro y J Jx W hJ O Yh hy;refine(C220 y b V U p J Jx w W hz.toPS fT (DL.flat iZ) (λk W G=>?_) O Yh λk c i W hx G=>hy k [jj c,iE i] W (by rw[qa,hx];rfl) G).mono λ_ _ r=>r.mono λv W' h=>?_
  .obtain⟨Y,M,⟨_,rfl⟩,Z⟩:=hJ k W G;exact⟨Z.p1.hb.cell rfl,Z.p1.hb.cell rfl,Z.aG⟩
  simpa using h
 .rintro k args Y1 Y2 B Kr M W G ⟨I,rfl⟩ hB hN hR E;rw[qa]at G;obtain⟨q,hq,rfl⟩:=Gz.1 G;have l6:=(j0.1 hq).1;dsimp only[Ht];refine hB _ _ _ E (λ_ E=>?_);refine aB bL E.p2.hb rfl (aB bL E.p4.hb rfl (aI (aC (λc1=>?_) λc1=>aB bL E.p2.hb rfl (aR cU (aO E.p2 bL (ei rfl) rfl λ_ E=>hN _ _ E.p2.p2.p0 ⟨λj hj=>?_,rfl⟩)))))
  .refine aO E.p3 bL (ei rfl) rfl (λ_ E=>?_);refine hR _ [bU b4 [iE (iS p c)]] _ ?_ ⟨rfl,rfl⟩;rw[<- c1,acN hq];exact E.p2.drop.p2.drop.p2.drop.p2.drop.p1
  rcases P2 j k with h|h
  .exact I j h
  rw[show j=k from cU];exact c1
 .rintro D M W ⟨I,rfl⟩ E;refine aO E.p3 bL (ei rfl) rfl (λ_ E=>?_);refine HV E.p1 (λ_ E=>?_);refine aB bL E.hb rfl ?_;refine⟨gD (n5 .i64) ?_,E.aG⟩;unfold iS;rw[oi]at I
  rw[ez (by
   rcases Int.lt_or_le c 0 with h|h
   .exact .inl h
   .refine .inr ?_;have:=I c.toNat;omega)]
 .rintro D M W ⟨_,rfl⟩ E;refine HV E (λ_ E=>?_);exact aB bL E.hb rfl ⟨rfl,E.aG⟩
 .rintro id D M W ⟨h,_⟩;cases h
 rintro c M ⟨h,_⟩;exact .inr h
variable (w:World) (K:Value->iD)
def aBD:dM:=λi=>match i with
 | 22=>.run 0 6
 | _=>.nil
theorem aut:PL 108:=dT Tryz.func108
theorem acO:PL 202:=dT Tryz.func202
end Go.Proofs.YtdncbeepkacgbaaGreatDoor
namespace Go.Fw
open Go.MapKept (Stamped IsKey)
open Go.ChangeMaps (setBlock)
def B5(l:List SI)(k:ByteArray)(v:Int):List SI:=if l.any (λp=>decide (p.1=k))then l.map (λp=>if p.1=k then(k,v)else p)else l++[(k,v)]
theorem Lu:∀(l:List SI) (k B:ByteArray) (v:Int),(∀p∈l,p.1≠k)->eJ (l++[(k,v)]) B=if k=B then v else eJ l B
 | [],k,B,v,_=>rfl
 | p::r,k,B,v,h=>by
  have G:=Lu r k B v (λq E=>h q (so _ E))
  have I:=h p (qs ..)
  show(if p.1=B then p.2 else eJ (r++[(k,v)]) B)=_
  rw[G]
  show _=if k=B then v else(if p.1=B then p.2 else eJ r B)
  grind
theorem E3:∀(l:List SI) (k B:ByteArray) (v:Int),l.any (λp=>decide (p.1=k))=true->eJ (l.map λp=>if p.1=k then(k,v)else p) B=if k=B then v else eJ l B
 | [],_,_,_,h=>by simp at h
 | p::r,k,B,v,h=>by
  rw[IV]
  by_cases h1:p.1=k
  .rw[ez h1]
   show(if k=B then v else eJ (r.map _) B)=if k=B then v else(if p.1=B then p.2 else eJ r B)
   by_cases h2:k=B
   .grind
   .rw[ew h2,ew h2,ew λe=>h2 (h1.symm.trans e)]
    by_cases h3:r.any (λp=>decide (p.1=k))=true
    .rw[E3 r k B v h3,ew h2]
    .congr 1
     have:∀q∈r,q.1≠k:=λq E e=>h3 (wk.2 ⟨q,E,fY e⟩)
     conv=>rhs;rw[<- List.map_id r]
     exact C2 λq E=>ew (this q E)
  .rw[ew h1]
   have h3:r.any (λp=>decide (p.1=k))=true:=by
    grind
   show(if p.1=B then p.2 else eJ (r.map _) B)=if k=B then v else(if p.1=B then p.2 else eJ r B)
   rw[E3 r k B v h3]
   grind
theorem E4(l:List SI)(k B:ByteArray)(v:Int):eJ (B5 l k v) B=if k=B then v else eJ l B:=by
 unfold B5
 by_cases h:l.any (λp=>decide (p.1=k))=true
 .rw[ez h,E3 l k B v h]
 rw[ew h,Lu l k B v λp E e=>h (wk.2 ⟨p,E,fY e⟩)]
def ahU{l:List SI}{k:ByteArray}{v:Int}(h:∀p∈l,p.2≠0)(E:v≠0):∀p∈B5 l k v,p.2≠0:=by
 intro p B
 unfold B5 at B
 grind
section
variable {P:Program}{w w0 w':World}{A:Nat->Prop}{L:List HP}{b:Nat}{l:List SI}
theorem acP{T U E:TypeId}{v:Int}{k:ByteArray}(h:wR w b l)(ht:P.underlying T=some (.map U E))(M:P.underlying U=some .string) :
  ∃w',(rN T (.map (some b)) (.string k) (iE v)).run P w=.ok () w'/\gZ (· = b) w w'/\wR w' b (B5 l k v):=by
 by_cases eT:∀p∈l,p.1≠k
 .have:l.any (λp=>decide (p.1=k))=false:=by
   grind
  unfold B5
  rw[ew dH]
  exact Qi h ht M eT
 have Y:l.any (λp=>decide (p.1=k))=true:=by
  grind
 unfold B5
 rw[ez Y]
 have l6:=h.lt
 obtain⟨es,c,h1,h2,h3⟩:=h
 have hc:=MapKept.run_checkKey (P:=P) (w:=w) (kt:=U) (k:=.string k) M (by simp[IsKey]) false 9999
 rcases MapKept.findNow_spec (d:=.string) (k:=.string k) (by simp[IsKey]) es.toList 0 (λx J=>by obtain⟨p,_,e,_⟩:=abG h3 J;rw[e];simp[IsKey])with⟨V,g2⟩|⟨j,e,V,g2,g4⟩
 .obtain⟨p,Z,he⟩:=wk.1 Y
  obtain⟨x,J,e1,_⟩:=abH h3 Z
  grind
 have W:=MapKept.run_findKey (P:=P) (w:=w) M V
 rw[Nat.zero_add]at W
 have OE:es[j]?=some e:=dH
 have gG:(Pw e.key (.string k)).run P w=.ok (.string k) w:=by
  have oH:(k == k)=true:=by cases k with|mk d=>exact beq_self_eq_true d
  rw[g4];unfold Pw;simp[Instr.sameBits,oH]
 refine⟨_,?_,gZ.setBlock w b (.map (es.modify j λe=>{e with key:=.string k,val:=iE v}) c),?_⟩
 .simp[rN,run_underlying ht,MapKept.run_getObj_map h1,hc,W,nD h1,Result.andThen,OE,gG]
 have OD:∀B,es[j]?=some B->({B with key:=.string k,val:=iE v}:MapEntry).key=B.key:=λB G=>by
  grind
 refine⟨_,_,jZ _ l6,MapKept.stamped_modify h2 j _ (λ_ _=>rfl) (λB _ G=>OD B G),?_⟩
 let g:Value×Value->Value×Value:=λq=>match q.1 with|.string s=>if s=k then(.string k,iE v)else q|_=>q
 have hg:(es.modify j λe=>{e with key:=.string k,val:=iE v}).toList.map (λe=>(e.key,e.val))=(es.toList.map λe=>(e.key,e.val)).map g:=by
  apply List.ext_getElem?
  intro i
  simp only[qa,Array.getElem?_toList,Array.getElem?_modify]
  by_cases O:j=i
  .grind
  .rw[ew O]
   cases J:es[i]? with
   | none=>rfl
   | some x=>
    have Ay:x.key≠.string k:=λhxk=>by
     have hi:=(Gu.1 J)
     have hj:=(Gu.1 OE)
     obtain⟨hi1,hi2⟩:=hi
     obtain⟨hj1,OG⟩:=hj
     have Z:=TB.1 h2.2.2
     grind
    grind
 have hl:(l.map λp=>if p.1=k then(k,v)else p).map V6=(l.map V6).map g:=by
  rw[JZ,JZ]
  refine C2 λp _=>?_
  show V6 (if p.1=k then(k,v)else p)=g (V6 p)
  by_cases I:p.1=k
  .rw[ez I];simp[g,V6,I]
  .rw[ew I];simp[g,V6,I]
 grind
theorem acQ{T I E:TypeId}{v:Int}{k:ByteArray}{K:iD}(J:St w0 A (Fw.oe b l::L) w)(ht:P.underlying T=some (.map I E))(B:P.underlying I=some .string)
  (M:∀w',St w0 A (Fw.oe b (B5 l k v)::L) w'->K w'):El P (rN T (.map (some b)) (.string k) (iE v)) w K:=by
 obtain⟨w',h1,h2,h3⟩:=acP (P:=P) (v:=v) (k:=k) J.oe ht B
 exact⟨w',h1,M w' (J.qH λF G=>⟨F,⟨h3,G.2⟩,λb hb=>.inl hb,h2.mono λk B=>(G.2 k).2 B⟩)⟩
end
end Go.Fw
namespace Go.Proofs.YtdncbeepkacgbaaGreatDoor
open Go.Fw
def ub(b3 b4 B bm:Nat)(l:List SI)(tw:Bool)(a:Int):HP:=sep (bU b3 [.map (some bm)]) (sep (bU b4 [.bool tw]) (sep (bU B [iE a]) (oe bm l)))
def ub.shut{w0 w:World}{A:Nat->Prop}{L:List HP}{b3 b4 B bm:Nat}{l:List SI}{tw:Bool}{a:Int}(E:St w0 A (oe bm l::bU B [iE a]::bU b4 [.bool tw]::bU b3 [.map (some bm)]::L) w):St w0 A (ub b3 b4 B bm l tw a::L) w:=
 St.join (St.join (St.join E.p1).p1).p1
def ub.open{w0 w:World}{A:Nat->Prop}{L:List HP}{b3 b4 B bm:Nat}{l:List SI}{tw:Bool}{a:Int}(E:St w0 A (ub b3 b4 B bm l tw a::L) w):St w0 A (oe bm l::bU B [iE a]::bU b4 [.bool tw]::bU b3 [.map (some bm)]::L) w:=
 E.split.p1.split.p1.split.p1
def atN(l:List SI)(name:ByteArray)(tw:Bool)(place a:Int):Int:=if eJ l name≠0/\tw=false then place else a
def twN(l:List SI)(name:ByteArray)(tw:Bool):Bool:=tw||decide (eJ l name≠0)
theorem C202(name:ByteArray)(E place:Int)(b3 b4 G bm:Nat)(l:List SI)(tw:Bool)(a:Int)(F:Nat->Prop)(w:World)(J:(ub b3 b4 G bm l tw a).p w F) :
  CR 202 [.string name,iE E,iE place,.pointer (some ⟨b3,0,none⟩),.pointer (some ⟨b4,0,none⟩),.pointer (some ⟨G,0,none⟩)] w (λv w'=>v=.tuple #[]/\ng F (ub b3 b4 G bm (B5 l name E) (twN l name tw) (atN l name tw place a)) w w'):=by
 have B:=ub.open (St.begin J);refine fD Tryz.func202 ?_;refine⟨λw'=>St w F [oe bm l,bU G [iE (atN l name tw place a)],bU b4 [.bool (twN l name tw)],bU b3 [.map (some bm)]] w',⟨λM w'=>M=.bool (decide (eJ l name≠0)&&!tw)/\w'=w,aB KX B.p3.hb rfl (AM B.oe Tryz.underlying184 Tryz.underlying9 qA (cN (aC (λc=>aB HE B.p2.hb rfl (bJ ⟨vb (by rw[fY c,yx]),rfl⟩)) λc=>⟨vb (by rw[gk c,P3]),rfl⟩))),?_⟩,?_⟩
 .rintro _ _ ⟨rfl,rfl⟩ _;refine aX (λc=>?_) (λc=>?_)
  .have hc:eJ l name≠0/\tw=false:=by simpa using c
   refine aO B.p1 bL (ei rfl) rfl (λ_ B=>aO B.p2 HE (ei rfl) rfl λ_ B=>?_);have e1:atN l name tw place a=place:=ez hc;have I:twN l name tw=true:=by unfold twN;rw[fY hc.1,Bool.or_true]
   rw[e1,I];exact B.p1.p2
  have hc:¬ (eJ l name≠0/\tw=false):=by simpa using c
  have e1:atN l name tw place a=a:=ew hc
  have I:twN l name tw=tw:=by
   unfold twN;cases tw with
   | true=>rfl
   | false=>rw[Bool.false_or];exact gk λh=>hc ⟨h,rfl⟩
  rw[e1,I];exact B
 rintro _ B _;exact aB KX B.p3.hb rfl (acQ B Tryz.underlying184 Tryz.underlying9 λ_ B=>⟨rfl,(ub.shut B).mut⟩)
def nmF(st:List SI×Bool×Int)(q:ByteArray×Int×Int):List SI×Bool×Int:=(B5 st.1 q.1 q.2.1,twN st.1 q.1 st.2.1,atN st.1 q.1 st.2.1 q.2.2 st.2.2)
def F7(p:bQ)(i:Int):Int:=if (p.lines.length:Int)<=i then 2 else 1
def Z1(p:bQ):List (ByteArray×Int×Int):=(vM p).map λq=>(q.1.name,F7 p q.2,q.1.at_)
def YC(p:bQ):List (ByteArray×Int×Int):=p.locks.map λc=>(c.name,3,c.at_)
def Z2(p:bQ):List (ByteArray×Int×Int):=p.threads.map λt=>(t.name,4,t.at_)
def Cn(l:List (ByteArray×Int×Int))(st:List SI×Bool×Int):List SI×Bool×Int:=l.foldl nmF st
def F8(p:bQ):List SI×Bool×Int:=Cn (Z2 p) (Cn (YC p) (Cn (Z1 p) ([],false,0)))
theorem IX{l:List (ByteArray×Int×Int)}{st:List SI×Bool×Int}{k:Nat}{q:ByteArray×Int×Int}(h:l[k]?=some q):Cn (l.take (k+1)) st=nmF (Cn (l.take k) st) q:=by
 unfold Cn;rw[<- gI h,List.foldl_append];rfl
abbrev NO(b3 b4 B bm:Nat)(st:List SI×Bool×Int):HP:=ub b3 b4 B bm st.1 st.2.1 st.2.2
def C108(p:bQ)(pv:bT)(w:World)(hp:n4 w pv p)(hz:PZ p):CR 108 [jj pv] w (λv w'=>∃bm,v=.tuple #[.map (some bm),iE (F8 p).2.2,.bool (F8 p).2.1]/\mf (oe bm (F8 p).1) w w'):=by
 have hac:=wM hz.toPS;have mr:(vM p).length=(gS p).length:=wW p;have hzl:=hz.lines;have hzk:=hz.locks;have hzt:=hz.threads;obtain⟨O,U,Z,V,cT,dA,rfl,fT,iZ,iN,fj,fk,gU⟩:=hp;obtain⟨ts1,hR1,hD1⟩:=fT.open;have hn1:=hD1.1;obtain⟨z6,hR3,hD3⟩:=fj.open;have hn3:=hD3.1;have hKr:=DL.flat iN;have E:=St.start w;refine pG Tryz.func108 (pl:=aBD) ?_;refine cP E (λbp w1 E=>Qj E λbm _ E=>gT E VO rfl λb3 _ E=>aO E KX (ei rfl) rfl λ_ E=>gT E qA rfl λG _ E=>gT E VK rfl λb4 _ E=>aO E HE (ei rfl) rfl λ_ E=>gT E agR rfl λb8 _ E=>aO E VQ (ei rfl) rfl λ_ E=>aE gO E.p5.At (have E:=ub.shut (a:=0) (tw:=false) E.p3.p2.p3.p4;eC Wm (C116 _ _) ?_))
 rintro _ _ ⟨b,rfl,cA⟩;have E:=E.made cA
 refine zC (cap:=[.pointer (some ⟨b,0,none⟩)]) (xs:=(vM p).map λq=>[jj q.1,iE q.2]) Wn E
  (λk M=>M=[bU b (jl (⟨O,U,Z,V,cT,dA⟩:bT)),NO b3 b4 G bm (Cn ((Z1 p).take k) ([],false,0)),bU b8 [(.func (.func 202) [].toArray [.pointer (some ⟨b3,0,none⟩),.pointer (some ⟨b4,0,none⟩),.pointer (some ⟨G,0,none⟩)].toArray)],bU bp (jl (⟨O,U,Z,V,cT,dA⟩:bT))]) (λ_ _=>False) rfl (by intro x hx;obtain⟨q,_,rfl⟩:=pB.1 hx;rfl) ?_ ?_ ?_ ?_ ?_ ?_
 .intro y J Jx W hJ hJe Yh hy;refine(C220 y b O U p J Jx w W hz.toPS fT (DL.flat iZ) (λk W I=>?_) hJe Yh λk c i W hx I=>hy k [jj c,iE i] W (by rw[qa,hx];rfl) I).mono λ_ _ r=>r.mono λv W' h=>?_
  .obtain⟨Y,M,rfl,hS⟩:=hJ k W I;exact⟨hS.p1.hb.cell rfl,hS.p1.hb.cell rfl,hS.aG⟩
  simpa using h
 .rintro k args Y1 Y2 B Kr M W I rfl hB hN hR E;rw[qa]at I;obtain⟨q,hq,rfl⟩:=Gz.1 I;have hc:(Z1 p)[k]?=some (q.1.name,F7 p q.2,q.1.at_):=by unfold Z1;rw[qa,hq];rfl
  dsimp only[Ht];refine aJ E pO (λb9 _ E=>aH (x:=q.1) E mU rfl rfl λ_ E=>?_);refine hB _ _ _ E.p1 (λGx E=>?_);refine⟨λjv w'=>jv=iE (F7 p q.2)/\w'=Gx,aA nT (aB (v:=jj O) zh E.p5.hb rfl (aK BN (hR1.ext E.aG) (dC (aC (λ_=>⟨gD (n5 .i64) (ez cU).symm,rfl⟩) λ_=>⟨gD (n5 .i64) (ew cU).symm,rfl⟩)))),?_⟩;rintro _ _ ⟨rfl,rfl⟩ _;refine aB VQ E.p4.hb rfl (aA ox (aB (v:=.string q.1.name) ke E.p1.hb rfl (aA CM (aB (v:=iE q.1.at_) bL E.p1.hb rfl (zR (first:=[]) (cap:=[.pointer (some ⟨b3,0,none⟩),.pointer (some ⟨b4,0,none⟩),.pointer (some ⟨G,0,none⟩)]) (H':=λ_=>NO b3 b4 G bm (nmF (Cn ((Z1 p).take k) ([],false,0)) (q.1.name,(F7 p q.2),q.1.at_))) (Φ:=λv _=>v=.tuple #[]) acO E.p3 (λF hF _=>C202 q.1.name (F7 p q.2) q.1.at_ b3 b4 G bm _ _ _ F _ hF) λv _ _ E=>?_)))))
  refine hN _ _ ?_ rfl;rw[IX hc];exact E.p2.drop.p2.p2
 .rintro D M W rfl E;rw[oi,show(Z1 p).take (vM p).length=Z1 p from mH (by unfold Z1;rw[oi];exact qQ _)]at E;obtain⟨s0,hs0⟩:∃s,s=Cn (Z1 p) ([],false,0):=⟨_,rfl⟩;rw[<- hs0]at E;refine aA uV (aB (v:=jj Z) l4 E.p4.hb rfl (aK qq (hKr.ext E.aG) ?_));refine⟨λm x w1=>∃k:Nat,x=iE (k:Int)/\m=p.locks.length-k/\k<=p.locks.length/\St w bE [oD D (.deferred (some [])),bU b (jl (⟨O,U,Z,V,cT,dA⟩:bT)),NO b3 b4 G bm (Cn ((YC p).take k) s0),bU b8 [(.func (.func 202) [].toArray [.pointer (some ⟨b3,0,none⟩),.pointer (some ⟨b4,0,none⟩),.pointer (some ⟨G,0,none⟩)].toArray)],bU bp (jl (⟨O,U,Z,V,cT,dA⟩:bT))] w1,⟨_,0,rfl,rfl,ob _,(by rw[show Cn ((YC p).take 0) s0=s0 from rfl];exact E)⟩,?_⟩
  rintro m _ _ ⟨k,rfl,rfl,I,E⟩ _;refine aV (aC (λc=>?_) λc=>?_)
  .obtain⟨x,hx⟩:=gx p.locks (i:=((k:Nat):Int).toNat) cU;have hx':p.locks[k]?=some x:=hx;have hc:(YC p)[k]?=some (x.name,3,x.at_):=by unfold YC;rw[qa,hx'];rfl
   refine aW qq hKr cU hx (λq hq=>aE mU (hq.ext E.aG) (aJ E pO λb9 _ E=>aH (x:=x) E mU rfl rfl λ_ E=>aB VQ E.p4.hb rfl (aA ox (aB (v:=.string x.name) ke E.hb rfl (aA CM (aB (v:=iE x.at_) bL E.hb rfl (zR (first:=[]) (cap:=[.pointer (some ⟨b3,0,none⟩),.pointer (some ⟨b4,0,none⟩),.pointer (some ⟨G,0,none⟩)]) (H':=λ_=>NO b3 b4 G bm (nmF (Cn ((YC p).take k) s0) (x.name,3,x.at_))) (Φ:=λv _=>v=.tuple #[]) acO E.p3 (λF hF _=>C202 x.name 3 x.at_ b3 b4 G bm _ _ _ F _ hF) λv _ _ E=>aR cU ?_)))))));refine⟨_,cU,k+1,rfl,rfl,cU,?_⟩
   rw[IX hc];exact E.p1.drop.p2.p2
  rw[show(YC p).take k=YC p from mH (by unfold YC;rw[oi];omega)]at E;obtain⟨s1,G7⟩:∃s,s=Cn (YC p) s0:=⟨_,rfl⟩;rw[<- G7]at E;refine aA sO (aB (v:=jj V) kf E.p4.hb rfl (aK kM (hR3.ext E.aG) ?_));refine⟨λm x w1=>∃k:Nat,x=iE (k:Int)/\m=z6.length-k/\k<=z6.length/\St w bE [oD D (.deferred (some [])),bU b (jl (⟨O,U,Z,V,cT,dA⟩:bT)),NO b3 b4 G bm (Cn ((Z2 p).take k) s1),bU b8 [(.func (.func 202) [].toArray [.pointer (some ⟨b3,0,none⟩),.pointer (some ⟨b4,0,none⟩),.pointer (some ⟨G,0,none⟩)].toArray)],bU bp (jl (⟨O,U,Z,V,cT,dA⟩:bT))] w1,⟨_,0,rfl,rfl,ob _,(by rw[show Cn ((Z2 p).take 0) s1=s1 from rfl];exact E)⟩,?_⟩
  rintro m _ _ ⟨k,rfl,rfl,I,E⟩ _;refine aV (aC (λc=>?_) λc=>?_)
  .obtain⟨t,ht⟩:=gx z6 (i:=((k:Nat):Int).toNat) cU;obtain⟨r,hr⟩:=gx p.threads (i:=k) cU;obtain⟨gr,gb,rfl,_,_⟩:=hD3.2 _ _ _ ht hr;have hc:(Z2 p)[k]?=some (r.name,4,r.at_):=by unfold Z2;rw[qa,hr];rfl
   refine aW kM hR3 cU ht (λq hq=>aE lG (hq.ext E.aG) (aJ E qZ λb9 _ E=>aH E lG rfl rfl λ_ E=>aB VQ E.p4.hb rfl (aA zn (aB (v:=.string r.name) ke E.hb rfl (aA CI (aB (v:=iE r.at_) bL E.hb rfl (zR (first:=[]) (cap:=[.pointer (some ⟨b3,0,none⟩),.pointer (some ⟨b4,0,none⟩),.pointer (some ⟨G,0,none⟩)]) (H':=λ_=>NO b3 b4 G bm (nmF (Cn ((Z2 p).take k) s1) (r.name,4,r.at_))) (Φ:=λv _=>v=.tuple #[]) acO E.p3 (λF hF _=>C202 r.name 4 r.at_ b3 b4 G bm _ _ _ F _ hF) λv _ _ E=>aR cU ?_)))))));refine⟨_,cU,k+1,rfl,rfl,cU,?_⟩
   rw[IX hc];exact E.p1.drop.p2.p2
  rw[show(Z2 p).take k=Z2 p from mH (by unfold Z2;rw[oi];omega),G7,hs0]at E;have E:=ub.open E.drew.p2;refine aB KX E.p3.hb rfl (aB bL E.p1.hb rfl (aB HE E.p2.hb rfl ?_));refine HV E.p4 (λ_ E=>?_);exact⟨bm,rfl,E.p1.drop.p1.drop.p1.drop.p1.drop.p1.drop.p1.drop.fresh⟩
 .rintro D M W h;exact h.elim
 .rintro id D M W h;exact h.elim
 rintro c M h;exact h.elim
def xV(a0:ByteArray)(a1:Int)(a2:Option Addr)(E B:Nat):pr hZ (Instr.build 196 [(0,.string a0),(1,iE a1),(2,.slice a2 E B)].toArray)=some (.agg [.string a0,iE a1,.slice a2 E B].toArray):=by kernel_rfl
structure Nu where
 name:ByteArray
 at_:Int
 may:SV
instance:Flat Nu where
 agg:=true
 sz:=3
 enc e:=[.string e.name,iE e.at_,.slice e.may.a e.may.n e.may.cap]
 val e:=.agg [.string e.name,iE e.at_,.slice e.may.a e.may.n e.may.cap].toArray
 pos:=er
 len _:=rfl
 one a v h:=by simp at h;rcases h with rfl|rfl|rfl<;>rfl
 ot _ _:=rfl
 oS h:=by cases h
variable (w:World) (K:Value->iD)
theorem akQ:PL 218:=dT Tryz.func218
theorem auy:PL 114:=dT Tryz.func114
theorem auz:PL 217:=dT Tryz.func217
end Go.Proofs.YtdncbeepkacgbaaGreatDoor
namespace Go.Fw
def TM:List Nat->HP
 | []=>ep λ_=>True
 | D::r=>sep (oD D (.deferred (some []))) (TM r)
def ahX(P:Program)(w0:World)(A:Nat->Prop)(I:Nat->List HP->Prop)(G:iD)(y:Value)(E:Nat->List Value->(iD)->Prop):Prop:=
 ∀k args Φ W (R:HP) L,E k args Φ->(∀F B,R.p B F->Φ B)->I k L->St w0 A (R::L) W->gR P y args W (λv B=>(v=.bool true/\∃L',I (k+1) L'/\St w0 A (R::L') B)\/(v=.bool false/\G B))
section
variable {P:Program}{w w0 w':World}{A:Nat->Prop}{L:List HP}
theorem TM.nil(B:St w0 A L w):St w0 A (TM []::L) w:=B.fw λ_=>trivial
theorem TM.take{K:iD}:∀(E:List Nat) {w:World},St w0 A (TM E::L) w->(∀w',St w0 A L w'->K w')->nQ E w K
 | [],_,B,k=>k _ B.drop
 | D::r,_,B,k=>by
  have h1:=B.split
  exact⟨h1.obj,TM.take r (h1.putObj _).drop k⟩
theorem acS{gf np:Nat}{cap:List Value}(n:Nat)(Ar:Nat->List Value->(iD)->Prop){round:List Value->World->(World->(iD)->Prop)->(Option Code->iD)->Prop}
  {N R:Nat->iD}{X:Nat->Nat->iD}(pl:Plain P gf) (hs:St w0 A L w) (I:Nat->List HP->Prop) (V:Code->List HP->Prop) (h0:I 0 L) (hnp:∀k a Φ,Ar k a Φ->a.length=np)
  (hgf:∀(y:Value) (Y:HP) (Jx:iD) (W:World),(∃M,I 0 M/\St w0 A (Y::M) W)->ahX P w0 A (λk L=>∃M,I k M/\L=Y::M) Jx y Ar->
   Calls P gf ([y]++cap).toArray W (rZ λ_ U=>(∃M,I n M/\St w0 A (Y::M) U)\/Jx U))
  (Hu:∀k args Φ (Y1 Y2:HP) (B:World->(iD)->Prop) (Kr:Option Code->iD) M W,Ar k args Φ->I k M->(∀F U,Y2.p U F->Φ U)->
   (∀M E (kk:iD),St w0 A (Y1::M) E->(∀w2,St w0 A (Y2::M) w2->kk w2)->B E kk)->
   (∀M E,St w0 A (Y2::M) E->I (k+1) M->Kr none E)->(∀c M E,St w0 A (Y2::M) E->V c M->Kr (some c) E)->
   St w0 A (Y1::M) W->round args W B Kr)
  (aa8:∀D M W,I n M->St w0 A (oD D (.deferred (some []))::M) W->N D W)
  (amx:∀D M W,V .ret M->St w0 A (oD D (.deferred (some []))::M) W->R D W)
  (aa9:∀id D M W,V (.exit id) M->St w0 A (oD D (.deferred (some []))::M) W->X id D W)
  (Tb:∀c M,V c M->(∃id,c=.exit id)\/c=.ret) :
  Cw P (.func (.func gf) #[] cap.toArray) np w round (aft N R X):=by
 refine⟨gf,cap.toArray,rfl,pl,λJ gG CS hy=>?_⟩
 obtain⟨l,hl⟩:∃l,l=w.heap.size+1:=⟨_,rfl⟩
 obtain⟨D,hD⟩:∃D,D=w.heap.size:=⟨_,rfl⟩
 rw[<- hl]at hy |-
 rw[<- hD]
 let Y:HP:=sep (oD l (.loop J)) (oD D (.deferred (some [])))
 let Jx:iD:=λW=>∃c M,V c M/\St w0 A (oD l (.loop {J with state:=.done,pending:=some c})::oD D (.deferred (some []))::M) W
 have Yh:∃M,I 0 M/\St w0 A (Y::M) ((w.alloc (.deferred (some []))).alloc (.loop J)):=by
  refine⟨L,h0,?_⟩
  have h1:=(hs.alloc (o:=.deferred (some []))).alloc (o:=.loop J)
  rw[show(w.alloc (.deferred (some []))).heap.size=l from by rw[hl];exact Ey w _,<- hD]at h1
  exact St.join h1
 have:=hgf (.func (.yield l) #[] #[]) Y Jx _ Yh ?_
 .have e:([Value.func (.yield l) #[] #[]]++cap).toArray = #[.func (.yield l) #[] #[]]++cap.toArray:=et
  rw[e]at this
  refine this.mono λx U ⟨v,hx,hv⟩=>⟨v,hx,?_⟩
  rcases hv with⟨M,O,G⟩|⟨c,M,O,G⟩
  .have G:=G.split
   refine⟨.ready,none,et,?_,?_⟩
   .rw[<- gG,<- CS];exact G.obj
   exact aa8 D M _ O (G.putObj _).drop
  refine⟨.done,some c,et,G.obj,?_⟩
  rcases Tb c M O with⟨id,rfl⟩|rfl
  .exact aa9 id D M _ O (G.putObj _).drop
  exact amx D M _ O (G.putObj _).drop
 rintro k args Φ W R _ hk hR ⟨M,O,rfl⟩ G
 have Z:=G.p1.split
 refine⟨.inr ⟨l,rfl,?_⟩⟩
 refine hy args W _ (hnp k args Φ hk) Z.obj ?_
 refine Hu k args Φ (sep (sep (oD l (.loop J)) (oD D (.deferred (some [])))) R) (sep (sep (oD l (.loop {J with state:=.busy})) (oD D (.deferred (some [])))) R) _ _ M W hk O (λF W2 ⟨_,F2,_,h2,_⟩=>hR F2 W2 h2)
  (λM E kk h1 h2=>?_) (λM E h1 h2=>?_) (λc M E h1 h2=>?_) (St.join (St.join Z))
 .have h1:=h1.split.split
  exact⟨h1.obj,h2 _ (h1.putObj _).join.join⟩
 .have h1:=h1.split.split
  refine⟨h1.obj,.inl ⟨rfl,_,⟨M,h2,rfl⟩,?_⟩⟩
  have:=h1.putObj (.loop {J with state:=if (none:Option Code).isNone=true then LoopState.ready else LoopState.done,pending:=none})
  rw[HW J gG CS]at this |-
  exact(St.join this).p1
 have h1:=h1.split.split
 refine⟨h1.obj,.inr ⟨rfl,c,M,h2,?_⟩⟩
 exact(h1.putObj _).p2.drop
end
end Go.Fw
namespace Go.Proofs.YtdncbeepkacgbaaGreatDoor
open Go.Fw
abbrev UU:=ByteArray×Int×List Int
def rP(xs:List bY):List bY:=xs.filter λx=>decide (x.op=2)
theorem Lw{xs:List bY}{k:Nat}{x:bY}(h:xs[k]?=some x):rP (xs.take (k+1))=rP (xs.take k)++(if x.op=2 then [x]else []):=by
 unfold rP;rw[<- gI h,JC];grind
def ahY{xs:List bY}{k:Nat}{x:bY}(h:xs[k]?=some x)(B:x.op=2):(rP xs)[(rP (xs.take k)).length]?=some x:=by
 have h1:=drop_cons h
 have e:rP xs=rP (xs.take k)++rP (xs.drop k):=by unfold rP;rw[<- JC,sf]
 grind[rP]
def Wt(l:List UU)(k:Nat)(args:List Value)(Φ:iD):Prop:=∃u s,l[k]?=some u/\args=[jj (⟨u.1,u.2.1,s⟩:Nu)]/\∀W,Φ W->dP (λ_=>True) W (jj s) u.2.2
def aBF{H H':HP}{Φ:iD}(h:∀F W,H.p W F->Φ W):∀F W,(sep H H').p W F->Φ W:=λ_ _ ⟨_,_,h1,_⟩=>h _ _ h1
def Nv{α:Type}[Flat α]{v:Value}{xs:List α}:∀F W,(bG v xs).p W F->dP (λ_=>True) W v xs:=λ_ _ h=>(bG.rd h).mono λ_ _=>trivial
def C218(lv y:Value)(xs:List bY)(may:Int)(ul:List UU)(G:Nat)(w0:World)(A:Nat->Prop)(I:Nat->List HP->Prop)(Z:iD)(w:World)(hn:xs.length<=1048576)
  (hE:∀k L W,I k L->St w0 A L W->dP (λ_=>True) W lv xs) (h0:∃L,I G L/\St w0 A L w) (hu:∀(j:Nat) (x:bY),(rP xs)[j]?=some x->ul[G+j]?=some (x.name,x.at_,[may])) (hy:ahX hZ w0 A I Z y (Wt ul)) :
  CR 218 [lv,iE may,y] w (λv W=>(v=.bool true/\∃L,I (G+(rP xs).length) L/\St w0 A L W)\/(v=.bool false/\Z W)):=by
 refine fD Tryz.func218 ?_;obtain⟨L0,E,J⟩:=h0;refine aK me (hE _ _ _ E J) ?_;refine⟨λm x w1=>∃k:Nat,x=iE (k:Int)/\m=xs.length-k/\k<=xs.length/\∃L,I (G+(rP (xs.take k)).length) L/\St w0 A L w1,⟨_,0,rfl,rfl,ob _,L0,E,J⟩,?_⟩;rintro m _ w1 ⟨k,rfl,rfl,hk,L1,M,B⟩ _;refine aV (aC (λc=>?_) λc=>?_)
 .obtain⟨x,V⟩:=gx xs (i:=((k:Nat):Int).toNat) cU;refine aW me (hE _ _ _ M B) cU V (λq hq=>aE zx hq (aJ B GX λb8 _ B=>aH (x:=x) B zx rfl rfl λ_ B=>⟨λjv w'=>(jv=.bool false/\∃L,I (G+(rP (xs.take (k+1))).length) L/\St w0 A L w')\/(jv=.bool true/\Z w'),aA lK (aB (v:=iE x.op) bL B.hb rfl (aI (aC (λO=>?_) λO=>?_))),?_⟩))
  .refine aA nq (aB (v:=.string x.name) ke B.hb rfl (aA CN (aB (v:=iE x.at_) bL B.hb rfl (bV ([may]:List Int) B.drop dZ rfl rfl (ei rfl) λs25 w4 B=>?_))));obtain⟨U,rfl⟩:=B.fc.fK;refine pop (xV x.name x.at_ U.a U.n U.cap) ?_;refine gR.mono (hy _ _ _ w4 _ _ ⟨_,U,hu _ x (ahY V O),rfl,λ_ h=>h⟩ Nv M B) ?_;rintro v w5 (⟨rfl,Y,Sx,Bd⟩|⟨rfl,yZ⟩)
   .exact bJ (.inl ⟨rfl,Y,by rw[Lw (k:=k) V,ez O,lJ];exact Sx,Bd.drop⟩)
   exact bJ (.inr ⟨rfl,yZ⟩)
  .refine .inl ⟨rfl,L1,?_,B.drop⟩;rw[Lw (k:=k) V,ew O,rM];exact M
  rintro _ w6 (⟨rfl,Y,Sx,B⟩|⟨rfl,yZ⟩) _
  .exact eX (aR cU ⟨_,cU,k+1,rfl,rfl,cU,Y,Sx,B⟩)
  exact jb (.inr ⟨rfl,yZ⟩)
 rw[mH cU]at M;exact .inl ⟨rfl,L1,M,B⟩
def Nw(k:Int):List Int:=if k=5\/k=6 then [1]else if k=9\/k=10 then [3]else [1,2]
def E5(l:List bY):List UU:=(rP l).map λy=>(y.name,y.at_,[5])
def E6(x:bD):List UU:=(if x.eY=⟨#[]⟩then []else [(x.eY,x.at_,[5])])++((if x.name=⟨#[]⟩then []else [(x.name,x.at_,Nw x.kind)])++(E5 x.e++E5 x.f))
def pF(xs:List bD):List UU:=xs.flatMap E6
theorem Lx{xs:List bD}{k:Nat}{x:bD}(h:xs[k]?=some x):pF (xs.take (k+1))=pF (xs.take k)++E6 x:=by
 unfold pF;rw[<- gI h,IM];simp
def ahZ{xs:List bD}{k i:Nat}{x:bD}{u:UU}(h:xs[k]?=some x)(hi:(E6 x)[i]?=some u):(pF xs)[(pF (xs.take k)).length+i]?=some u:=by
 have e:pF xs=pF (xs.take k)++(E6 x++pF (xs.drop (k+1))):=by
  rw[<- o1,<- Lx h];unfold pF;rw[<- IM,sf]
 grind
def Wu{l:List bY}{j:Nat}{y:bY}(h:(rP l)[j]?=some y):(E5 l)[j]?=some (y.name,y.at_,[5]):=by unfold E5;rw[qa,h];rfl
def uc(x:bD):List UU:=if x.eY=⟨#[]⟩then []else [(x.eY,x.at_,[5])]
def vN(x:bD):List UU:=if x.name=⟨#[]⟩then []else [(x.name,x.at_,Nw x.kind)]
theorem E7(x:bD):E6 x=uc x++(vN x++(E5 x.e++E5 x.f)):=rfl
theorem ank{x:bD}(h:¬ x.eY=⟨#[]⟩):(uc x).length=1:=by unfold uc;grind
theorem anl{x:bD}(h:x.eY=⟨#[]⟩):(uc x).length=0:=by unfold uc;grind
theorem anm{x:bD}{n:Nat}(h:¬ x.name=⟨#[]⟩):(n+(vN x).length)=n+1:=by unfold vN;grind
theorem ann{x:bD}{n:Nat}(h:x.name=⟨#[]⟩):(n+(vN x).length)=n:=by unfold vN;grind
def acT{x:bD}(h:¬ x.eY=⟨#[]⟩):(E6 x)[0]?=some (x.eY,x.at_,[5]):=by unfold E6;grind
def acU{x:bD}(h:¬ x.name=⟨#[]⟩):(E6 x)[(uc x).length]?=some (x.name,x.at_,Nw x.kind):=by
 rw[E7,sl (qQ _),Vi];unfold vN;grind
def acV{x:bD}{j:Nat}{y:bY}(h:(rP x.e)[j]?=some y):(E6 x)[(uc x).length+(vN x).length+j]?=some (y.name,y.at_,[5]):=by
 have h1:=Wu h
 rw[E7,sl cU,show(uc x).length+(vN x).length+j-(uc x).length=(vN x).length+j from cU,sl cU,By,s7 (j0.1 h1).1,h1]
def acW{x:bD}{j:Nat}{y:bY}(h:(rP x.f)[j]?=some y):(E6 x)[(uc x).length+(vN x).length+(rP x.e).length+j]?=some (y.name,y.at_,[5]):=by
 have h1:=Wu h
 have h2:(E5 x.e).length=(rP x.e).length:=by unfold E5;grind
 rw[E7,sl cU,show(uc x).length+(vN x).length+(rP x.e).length+j-(uc x).length=(vN x).length+((E5 x.e).length+j)from cU,sl cU,By,sl cU,By,h1]
theorem acX(x:bD):(E6 x).length=(uc x).length+(vN x).length+(rP x.e).length+(rP x.f).length:=by
 rw[E7];unfold E5;grind
def C217(y:Value)(b:Nat)(lv:Value)(ts:List bF)(xs:List bD)(w0:World)(A:Nat->Prop)(I:Nat->List HP->Prop)(Jx:iD)(w:World)(hn:xs.length<=1048576)(hz:∀x∈xs,x.e.length<=1048576/\x.f.length<=1048576)
  (hE:∀k L W,I k L->St w0 A L W->Cell W b 0 lv/\dP (λ_=>True) W lv ts/\jx ts xs W) (h0:∃L,I 0 L/\St w0 A L w) (hy:ahX hZ w0 A I Jx y (Wt (pF xs))) :
  CR 217 [y,.pointer (some ⟨b,0,none⟩)] w (λ_ W=>(∃L,I (pF xs).length L/\St w0 A L W)\/Jx W):=by
 have hyF:∀b4 (cs:List Value),ahX hZ w0 A (λj L=>∃M,I j M/\L=bU b4 cs::M) Jx y (Wt (pF xs)):=by
  rintro b4 cs k args Φ W R _ h1 h2 ⟨M,h3,rfl⟩ h4;refine gR.mono (hy k args Φ W _ M h1 (aBF h2) h3 (St.join h4)) ?_;rintro v W' (⟨rfl,L',h5,h6⟩|h5)
  .exact .inl ⟨rfl,_,⟨L',h5,rfl⟩,h6.split⟩
  .exact .inr h5
 refine fD Tryz.func217 ?_;obtain⟨M0,hI0,hS0⟩:=h0;obtain⟨A5,Kd,Wv⟩:=hE _ _ _ hI0 hS0;have hnl:=Wv.1;refine bN ou A5 (aK gX Kd ?_);refine⟨λm x w1=>∃k:Nat,x=iE (k:Int)/\m=ts.length-k/\k<=ts.length/\∃L,I (pF (xs.take k)).length L/\St w0 A L w1,⟨_,0,rfl,rfl,ob _,M0,hI0,hS0⟩,?_⟩;rintro m _ w1 ⟨k,rfl,rfl,hk,M1,hI,B⟩ _;refine aV (aC (λc=>?_) λc=>?_)
 .obtain⟨t,ht⟩:=gx ts (i:=((k:Nat):Int).toNat) cU;obtain⟨x,hx⟩:=gx xs (i:=k) cU;have hxz:=hz x (ml hx);obtain⟨Cm,Kc,hd1⟩:=hE _ _ _ hI B;obtain⟨ge,U,rfl,_,_⟩:=hd1.2 _ _ _ ht hx
  have hE1:∀k' M W,I k' M->St w0 A M W->dP (λ_=>True) W (jj ge) x.e/\dP (λ_=>True) W (jj U) x.f:=λk' M W h1 h2=>by
   obtain⟨_,_,h3⟩:=hE k' M W h1 h2;obtain⟨_,_,h4,h5,h6⟩:=h3.2 _ _ _ ht hx;cases h4
   exact⟨DL.flat h5,DL.flat h6⟩
  have wg:∀{i:Nat}{u:UU},(E6 x)[i]?=some u->(pF xs)[(pF (xs.take k)).length+i]?=some u:=ahZ hx;refine aW gX Kc cU ht (λq hq=>aE fh hq (aJ B kS λb4 _ B=>aH (x:=(⟨x.kind,x.eY,x.name,ge,U,x.n,x.body,x.eR,x.at_⟩:bF)) B fh rfl rfl λ_ B=>?_));refine⟨λG w'=>(G=.bool false/\∃L,I ((pF (xs.take k)).length+(uc x).length) L/\St w0 A ((bU b4 (jl (⟨x.kind,x.eY,x.name,ge,U,x.n,x.body,x.eR,x.at_⟩:bF)))::L) w')\/(G=.bool true/\Jx w'),?_,?_⟩
  .refine aA lO (aB (v:=.string x.eY) ke B.hb rfl (EJ (aC (λZ=>?_) λZ=>.inl ⟨rfl,M1,by rw[anl (by simpa using Z)];exact hI,B⟩)));refine aA lO (aB (v:=.string x.eY) ke B.hb rfl (aA tN (aB (v:=iE x.at_) bL B.hb rfl (bV ([5]:List Int) B dZ rfl rfl (ei rfl) λs25 _ B=>?_))));obtain⟨E,rfl⟩:=B.fc.fK;refine pop (xV x.eY x.at_ E.a E.n E.cap) ?_;refine gR.mono (hyF b4 _ _ _ _ _ _ _ ⟨_,E,wg (i:=0) (acT Z),rfl,λ_ h=>h⟩ Nv ⟨_,hI,rfl⟩ B) ?_;rintro v w5 (⟨rfl,_,⟨O,J,rfl⟩,Bd⟩|⟨rfl,Y⟩)
   .exact bJ (.inl ⟨rfl,O,by rw[ank Z];exact J,Bd.drop⟩)
   exact bJ (.inr ⟨rfl,Y⟩)
  rintro _ w6 (⟨rfl,O,J,B⟩|⟨rfl,Y⟩) _;rotate_left
  .exact jb (.inr Y)
  refine eX (bV ([1,2]:List Int) B dZ rfl rfl (ei rfl) λs26 w7 B=>?_);refine⟨λG w'=>∃E:SV,G=jj E/\St w0 A (bG (jj E) (Nw x.kind)::(bU b4 (jl (⟨x.kind,x.eY,x.name,ge,U,x.n,x.body,x.eR,x.at_⟩:bF)))::O) w',?_,?_⟩
  .refine aA iy (aB (v:=iE x.kind) bL B.p1.hb rfl ⟨λG w'=>G=.bool (decide (x.kind=5\/x.kind=6))/\w'=w7,aI (aC (λc3=>⟨vb (by simp[c3]),rfl⟩) λc3=>aI ⟨vb (by simp[c3]),rfl⟩),?_⟩);rintro _ w8 ⟨rfl,rfl⟩ _;refine aC (λc3=>?_) (λc3=>⟨λG w'=>G=.bool (decide (x.kind=9\/x.kind=10))/\w'=w8,aI (aC (λc4=>⟨vb (by simp[c4]),rfl⟩) λc4=>aI ⟨vb (by simp[c4]),rfl⟩),?_⟩)
   .refine bV ([1]:List Int) B dZ rfl rfl (ei rfl) (λs32 _ B=>?_);obtain⟨E,rfl⟩:=B.fc.fK;exact⟨E,rfl,by rw[Nw,ez c3];exact B.p1.drop⟩
   rintro _ _ ⟨rfl,rfl⟩ _;refine aC (λc4=>?_) (λc4=>?_)
   .refine bV ([3]:List Int) B dZ rfl rfl (ei rfl) (λs36 _ B=>?_);obtain⟨E,rfl⟩:=B.fc.fK;exact⟨E,rfl,by rw[Nw,ew c3,ez c4];exact B.p1.drop⟩
   obtain⟨E,rfl⟩:=B.fc.fK;exact⟨E,rfl,by rw[Nw,ew c3,ew c4];exact B⟩
  rintro _ _ ⟨E,rfl,B⟩ _;refine⟨λG w'=>(G=.bool false/\∃L,I ((pF (xs.take k)).length+((uc x).length+(vN x).length)) L/\St w0 A ((bU b4 (jl (⟨x.kind,x.eY,x.name,ge,U,x.n,x.body,x.eR,x.at_⟩:bF)))::L) w')\/(G=.bool true/\Jx w'),?_,?_⟩
  .refine aA jJ (aB (v:=.string x.name) ke B.p1.hb rfl (EJ (aC (λZ=>?_) λZ=>.inl ⟨rfl,O,by rw[ann (by simpa using Z)];exact J,B.drop⟩)));refine aA jJ (aB (v:=.string x.name) ke B.p1.hb rfl (aA tN (aB (v:=iE x.at_) bL B.p1.hb rfl (pop (xV x.name x.at_ E.a E.n E.cap) ?_))));refine gR.mono (hyF b4 _ _ _ _ _ _ _ ⟨_,E,wg (i:=(uc x).length) (acU Z),rfl,λ_ h=>h⟩ Nv ⟨_,J,rfl⟩ B) ?_;rintro v Z3 (⟨rfl,_,⟨M3,hI3,rfl⟩,hs3⟩|⟨rfl,Y⟩)
   .exact bJ (.inl ⟨rfl,M3,by rw[anm Z];exact hI3,hs3.drop⟩)
   exact bJ (.inr ⟨rfl,Y⟩)
  rintro _ Gx (⟨rfl,O,J,B⟩|⟨rfl,Y⟩) _;rotate_left
  .exact jb (.inr Y)
  refine eX ?_;refine⟨λG w'=>(G=.bool false/\∃L,I ((pF (xs.take (k+1))).length) L/\St w0 A ((bU b4 (jl (⟨x.kind,x.eY,x.name,ge,U,x.n,x.body,x.eR,x.at_⟩:bF)))::L) w')\/(G=.bool true/\Jx w'),?_,?_⟩
  .refine aA jK (aB (v:=jj ge) l5 B.hb rfl (eC akQ (C218 _ y x.e 5 (pF xs) ((pF (xs.take k)).length+((uc x).length+(vN x).length)) w0 A (λj L=>∃M,I j M/\L=(bU b4 (jl (⟨x.kind,x.eY,x.name,ge,U,x.n,x.body,x.eR,x.at_⟩:bF)))::M) Jx _ (by have:=hxz.1;omega) (λj L W ⟨M,h1,h2⟩ h3=>(hE1 _ _ _ h1 (h2▸h3).drop).1) ⟨_,⟨_,J,rfl⟩,B⟩ (λj _ hz1=>by rw[NI];exact wg (i:=((uc x).length+(vN x).length)+j) (acV hz1)) (hyF b4 _)) ?_));rintro v _ V;rw[NI]at V
   rcases V with⟨rfl,_,⟨O,J,rfl⟩,B⟩|⟨rfl,V⟩
   .refine bJ (eX (aA rA (aB (v:=jj U) l5 B.hb rfl (eC akQ (C218 _ y x.f 5 (pF xs) ((pF (xs.take k)).length+((uc x).length+(vN x).length+(rP x.e).length)) w0 A (λj L=>∃M,I j M/\L=(bU b4 (jl (⟨x.kind,x.eY,x.name,ge,U,x.n,x.body,x.eR,x.at_⟩:bF)))::M) Jx _ (by have:=hxz.2;omega) (λj L W ⟨M,h1,h2⟩ h3=>(hE1 _ _ _ h1 (h2▸h3).drop).2) ⟨_,⟨_,J,rfl⟩,B⟩ (λj _ hz1=>by rw[NI];exact wg (i:=((uc x).length+(vN x).length+(rP x.e).length)+j) (acW hz1)) (hyF b4 _)) ?_))));rintro v _ V;rw[NI]at V
    rcases V with⟨rfl,_,⟨O,J,rfl⟩,B⟩|⟨rfl,V⟩
    .exact bJ (.inl ⟨rfl,O,by rw[Lx hx,lJ,acX];exact J,B⟩)
    exact bJ (.inr ⟨rfl,V⟩)
   exact bJ (jb (.inr ⟨rfl,V⟩))
  rintro _ w17 (⟨rfl,O,J,B⟩|⟨rfl,Y⟩) _;rotate_left
  .exact jb (.inr Y)
  exact eX (aR cU ⟨_,cU,k+1,rfl,rfl,cU,O,J,B.drop⟩)
 rw[mH cU]at hI;exact .inl ⟨M1,hI,B⟩
def C114(lv:SV)(w:World):CR 114 [jj lv] w (λv w'=>∃b,v=.func (.func 217) [].toArray [.pointer (some ⟨b,0,none⟩)].toArray/\mf (bU b [jj lv]) w w'):=by
 have B:=St.start w;refine fD Tryz.func114 ?_;exact ni B rfl (λb _ B=>⟨b,rfl,B.fresh⟩)
variable (w:World) (K:Value->iD)
theorem akR:PL 113:=dT Tryz.func113
end Go.Proofs.YtdncbeepkacgbaaGreatDoor
namespace Go.Proofs.YtdncbeepkacgbaaGreatDoor
open Go.Fw
def IY:List SI->List ByteArray->Option (List SI)
 | g,[]=>some g
 | g,n::r=>if eJ g n=0 then IY (g++[(n,5)]) r else none
def YD(l:List SI)(names:List ByteArray):Option (List SI):=IY (l.filter λp=>decide (¬ p.2=4)) names
def ah0{g:List SI}{ns:List ByteArray}{k:Nat}{n:ByteArray}(h:ns[k]?=some n)(B:eJ g n=0):IY g (ns.drop k)=IY (g++[(n,5)]) (ns.drop (k+1)):=by
 rw[drop_cons h,IY,ez B]
def ah1{g:List SI}{ns:List ByteArray}{k:Nat}{n:ByteArray}(h:ns[k]?=some n)(B:¬ eJ g n=0):IY g (ns.drop k)=none:=by
 rw[drop_cons h,IY,ew B]
def auC(r:Option (List SI))(v:Value)(w w':World):Prop:=
 (r=none/\v=.tuple #[.map none,.bool true]/\Ext w w')\/∃g b,r=some g/\v=.tuple #[.map (some b),.bool false]/\mf (oe b g) w w'
def C113(Z:cI)(names:List ByteArray)(bm:Nat)(l:List SI)(w:World)(hf:dP (λ_=>True) w (jj Z.aS) names)(G:wR w bm l)(hz:∀p∈l,p.2≠0)(hn:names.length<=1073741824) :
  CR 113 [jj Z,.map (some bm)] w (λv w'=>auC (YD l names) v w w'):=by
 have B:=St.start w;have U:=G.nodup;obtain⟨es,clock,OE,W,akS⟩:=G;refine fD Tryz.func113 ?_;refine cP B (λO w1 B=>Qj B λI _ B=>Li B Tryz.underlying184 (wQ OE B.aG) λr13 _ B=>?_);refine⟨λmm w1=>∃(seen:Array Nat) (l1:List SI),mm=(leftOf es seen).size/\(∀p,p∈l1↔(p∈l/\¬ p.2=4/\∃e∈es.toList,seen.contains e.born=true/\e.key=.string p.1))/\St w bE [Is r13 bm clock seen,oe I l1,bU O (jl Z)] w1,⟨_,#[],[],rfl,λ_=>⟨λh=>(by cases h),λ⟨_,_,e,_,h,_⟩=>(by simp at h)⟩,B⟩,?_⟩;rintro mm w4 ⟨seen,l1,rfl,J,B⟩ _;refine Qb B (wQ OE B.aG) W.1 (λh0=>?_) (λe _ V B=>?_)
 .refine aN rfl (eX ?_);have B:=B.drop
  have hg:l1.Perm (l.filter λp=>decide (¬ p.2=4)):=by
   have n1:l1.Nodup:=(Zu.1 B.oe.nodup).imp λh e=>h (by rw[e]);have n2:l.Nodup:=(Zu.1 U).imp λh e=>h (by rw[e]);refine(List.perm_ext_iff_of_nodup n1 (n2.filter _)).2 λp=>?_;rw[J,ND];refine⟨λ⟨h1,h2,_⟩=>⟨h1,fY h2⟩,λ⟨h1,h2⟩=>⟨h1,hG h2,?_⟩⟩;obtain⟨e,V,h3,_⟩:=abH akS h1;exact⟨e,V,all_seen es seen h0 e V,h3⟩
  have B:St w bE [oe I (l.filter λp=>decide (¬ p.2=4)),bU O (jl Z)] w4:=B.qH λF hF=>⟨F,⟨hF.1.perm hg,hF.2⟩,λ_ hb=>.inl hb,gZ.refl _ _⟩;refine aA kP (aB nf B.p1.hb rfl (aK kN (hf.ext B.aG) ?_));refine⟨λmm i w'=>∃(k:Nat) (g:List SI),i=iE (k:Int)/\mm=names.length-k/\k<=names.length/\YD l names=IY g (names.drop k)/\(∀p∈g,p.2≠0)/\St w bE [oe I g,bU O (jl Z)] w',⟨_,0,_,rfl,rfl,ob _,rfl,λp hp=>hz p (ND.1 hp).1,B⟩,?_⟩;rintro mm _ _ ⟨k,g,rfl,rfl,hk,Gw,Y,B⟩ _;refine aV (aC (λQS=>?_) λQS=>?_)
  .obtain⟨Bw,kI⟩:=gx names (i:=(k:Int).toNat) cU;refine aW kN (hf.ext B.aG) cU kI (λ_ C6=>aE ke C6 (AM B.oe Tryz.underlying184 Tryz.underlying9 qA (cN (aC (λkF=>?_) λkF=>?_))))
   .exact .inl ⟨Gw.trans (ah1 kI kF),rfl,B.drop.drop.aG⟩
   .have hz0:eJ g Bw=0:=cU
    refine Qk B Tryz.underlying184 Tryz.underlying9 (Tj B.oe.nodup Y hz0) (λ_ B=>aR cU ?_)
    exact⟨_,cU,k+1,_,rfl,rfl,cU,Gw.trans (ah0 kI hz0),λp hp=>by
     rcases qC.1 hp with h|h
     .exact Y p h
     .rw[sU.1 h];exact(by decide:(5:Int)≠0),B⟩
  .refine .inr ⟨g,I,?_,rfl,B.p1.drop.fresh⟩;rw[Gw,xr cU];rfl
 .refine aN rfl (jb ?_);have G:=mem_left V;refine Lj B (wQ OE B.aG) G.1 W.2.1 ?_;obtain⟨p0,Sy,E,hev⟩:=abG akS G.1;rw[E,hev];refine aN rfl (aN rfl (cN ?_))
  have old:∀q∈l1,q.1≠p0.1:=λq hq e=>by
   obtain⟨_,_,M,he2,h1,h2⟩:=(J q).1 hq;rw[e,<- E]at h2;obtain rfl:=key_inj W.2.2 he2 G.1 h2;exact absurd h1 (by simpa using G.2)
  refine aC (λkB=>?_) (λkB=>?_)
  .have B:=B.p1;refine Qk B Tryz.underlying184 Tryz.underlying9 old (λ_ B=>?_);have B:=B.p1;refine⟨_,left_shrinks es seen e V,seen.push e.born,_,rfl,λp=>?_,B⟩;rw[qC,sU,J]
   constructor
   .rintro(⟨h1,h2,M,h3,h4,h5⟩|rfl)
    .exact⟨h1,h2,M,h3,by simp at h4 |-;exact .inl h4,h5⟩
    .exact⟨Sy,kB,e,G.1,et,E⟩
   .rintro⟨h1,h2,M,h3,h4,h5⟩
    rcases tW h4 with h|h
    .exact .inl ⟨h1,h2,M,h3,h,h5⟩
    .obtain rfl:=born_inj W.2.1 h3 G.1 h;rw[E]at h5;injection h5 with h5;exact .inr (abI U h1 Sy h5.symm)
  .refine⟨_,left_shrinks es seen e V,seen.push e.born,l1,rfl,λp=>?_,B⟩;rw[J]
   constructor
   .rintro⟨h1,h2,M,h3,h4,h5⟩;exact⟨h1,h2,M,h3,by simp at h4 |-;exact .inl h4,h5⟩
   .rintro⟨h1,h2,M,h3,h4,h5⟩
    rcases tW h4 with h|h
    .exact⟨h1,h2,M,h3,h,h5⟩
    .obtain rfl:=born_inj W.2.1 h3 G.1 h;rw[E]at h5;injection h5 with h5;obtain rfl:=abI U h1 Sy h5.symm;exact absurd h2 kB
theorem eB{ns:List ByteArray}{s:ByteArray}:0<=bR ns s↔s∈ns:=by
 have h:=EW ns s
 grind
theorem Dq{ns:List ByteArray}{s:ByteArray}:bR ns s<0↔s ∉ ns:=by rw[<- eB];omega
theorem wX{ns:List ByteArray}{s:ByteArray}(h:s∈ns):∃k:Nat,bR ns s=k/\ns[k]?=some s/\∀j,j<k->ns[j]?≠some s:=by
 unfold bR pY
 cases hf:ns.findIdx? (λy=>decide (y=s))with
 | none=>grind
 | some k=>
  obtain⟨h1,h2,h3⟩:=List.findIdx?_eq_some_iff_getElem.1 hf
  grind
def qS{ns:List ByteArray}{s:ByteArray}{k:Nat}(h:s∈ns):bR ns s<k↔s∈ns.take k:=by
 obtain⟨j,h1,h2,h3⟩:=wX h
 rw[h1]
 constructor
 .intro E;exact zT.2 ⟨j,dH⟩
 intro B
 obtain⟨i,hi⟩:=zT.1 B
 grind
theorem nodup_iff(ns:List ByteArray):ns.Nodup↔∀(k:Nat) (s:ByteArray),ns[k]?=some s->s ∉ ns.take k:=by
 unfold List.Nodup
 rw[TB]
 constructor
 .intro h k s I E
  obtain⟨i,hi⟩:=zT.1 E
  grind
 intro h i j hi G B J
 exact h j _ (l0 G) (zT.2 ⟨i,dH⟩)
theorem B6(l:List cG):mN l=true↔¬ (l.map cG.name).Nodup:=by
 rw[nodup_iff]
 unfold mN
 rw[wk]
 constructor
 .rintro⟨j,E,h⟩ G
  have E:=Ie.1 E
  have M:l[j]?=some l[j]:=l0 E
  rw[Lo M,decide_eq_true_iff]at h
  have B:(l[j]).name∈l.map cG.name:=pB.2 ⟨_,aaO E,rfl⟩
  exact G j _ dH ((qS B).1 h)
 intro G
 apply hU
 intro hc
 refine G λk s J B=>hc ⟨k,?_,?_⟩
 .grind
 rw[qa]at J
 obtain⟨c,I,rfl⟩:=Gz.1 J
 rw[Lo I,decide_eq_true_iff]
 exact(qS (OC B)).2 B
def QT(p:bQ)(rs:List ByteArray):zW p rs=true↔¬ rs.Nodup\/∃s∈rs,s∈bW p\/s∈cR p:=by
 rw[nodup_iff]
 unfold zW
 rw[wk]
 constructor
 .rintro⟨j,B,h⟩
  have B:=Ie.1 B
  have J:rs[j]?=some rs[j]:=l0 B
  have G:=aaO B
  rw[Ng J]at h
  simp only[vo,decide_eq_true_eq,eB]at h
  rcases h with(h|h)|h
  .exact .inl λE=>E j _ J ((qS G).1 h)
  .grind
  grind
 intro E
 rcases E with E|⟨s,M,hc⟩
 .apply hU
  intro hc
  refine E λk s I G=>hc ⟨k,Ie.2 (j0.1 I).1,?_⟩
  rw[Ng I]
  simp only[vo,decide_eq_true_eq]
  exact .inl (.inl ((qS (OC G)).2 G))
 obtain⟨j,B⟩:=zT.1 M
 refine⟨j,Ie.2 (j0.1 B).1,?_⟩
 rw[Ng B]
 simp only[vo,decide_eq_true_eq,eB]
 rcases hc with hc|hc
 .exact .inl (.inr hc)
 exact .inr hc
def nmQ(p:bQ):List (ByteArray×Int×Int):=Z1 p++(YC p++Z2 p)
theorem Ww(p:bQ):F8 p=Cn (nmQ p) ([],false,0):=by simp_all[SI,F8,Cn,nmQ]
theorem E8(p:bQ):(nmQ p).map (·.1)=(kH p).map cG.name:=by
 unfold nmQ Z1 YC Z2 kH
 rw[<- Dp]
 simp only[vB,JZ,o1]
 rfl
theorem acY(p:bQ):∀q∈nmQ p,q.2.1≠0:=by
 intro q B
 unfold nmQ Z1 YC Z2 F7 at B
 grind
theorem acZ:∀(l:List (ByteArray×Int×Int)) (st:List SI×Bool×Int),(∀q∈l,q.2.1≠0)->
  ((Cn l st).2.1=true↔st.2.1=true\/¬ (l.map (·.1)).Nodup\/∃q∈l,eJ st.1 q.1≠0)
 | [],st,_=>by simp[Cn]
 | q::r,st,hz=>by
  have G:=acZ r (nmF st q) λq B=>hz q (so _ B)
  have E:=hz q (qs ..)
  have e:Cn (q::r) st=Cn r (nmF st q):=rfl
  rw[e,G]
  show twN st.1 q.1 st.2.1=true\/_\/(∃x∈r,eJ (B5 st.1 q.1 q.2.1) x.1≠0)↔_
  unfold twN
  rw[IV,JV]
  simp only[vo,decide_eq_true_eq,E4,pB,ta]
  grind
theorem ac0(p:bQ):(F8 p).2.1=mN (kH p):=by
 rw[JD,Ww,acZ _ _ (acY p),B6,E8]
 simp[eJ]
theorem TN:∀(l:List (ByteArray×Int×Int)) (st:List SI×Bool×Int) (n:ByteArray),n ∉ l.map (·.1)->eJ (Cn l st).1 n=eJ st.1 n
 | [],_,_,_=>rfl
 | q::r,st,n,h=>by
  rw[IV,ta,not_or]at h
  have e:Cn (q::r) st=Cn r (nmF st q):=rfl
  rw[e,TN r _ n h.2]
  show eJ (B5 st.1 q.1 q.2.1) n=_
  rw[E4,ew λB=>h.1 B.symm]
theorem IZ:∀(l:List (ByteArray×Int×Int)) (st:List SI×Bool×Int) (q:ByteArray×Int×Int),(l.map (·.1)).Nodup->q∈l->eJ (Cn l st).1 q.1=q.2.1
 | x::r,st,q,hn,h=>by
  rw[IV,JV]at hn
  have e:Cn (x::r) st=Cn r (nmF st x):=rfl
  rw[e]
  rcases ta.1 h with rfl|h
  .rw[TN r _ _ hn.1]
   show eJ (B5 st.1 q.1 q.2.1) q.1=_
   rw[E4,ez rfl]
  .exact IZ r _ q hn.2 h
theorem ac1:∀(l:List (ByteArray×Int×Int)) (st:List SI×Bool×Int),(∀q∈l,q.2.1≠0)->(∀e∈st.1,e.2≠0)->∀e∈(Cn l st).1,e.2≠0
 | [],_,_,h=>h
 | q::r,st,hz,h=>ac1 r (nmF st q) (λq B=>hz q (so _ B)) (ahU h (hz q (qs ..)))
def TO(p:bQ):∀e∈(F8 p).1,e.2≠0:=by
 rw[Ww];exact ac1 _ _ (acY p) λe B=>by cases B
theorem ac2:∀(ls:List (List cG)) (k:Int) (q:cG×Int),q∈TL k ls->k<=q.2/\q.2<k+ls.length
 | [],_,_,h=>by cases h
 | l::r,k,q,h=>by
  unfold TL at h
  rcases qC.1 h with h|h
  .grind
  .have:=ac2 r (k+1) q h;simp;omega
theorem ac3:∀(vs:List cG) (k:Int) (q:cG×Int),q∈Sv k vs->k<=q.2
 | [],_,_,h=>by cases h
 | v::r,k,q,h=>by
  unfold Sv at h
  rcases ta.1 h with rfl|h
  .omega
  .have:=ac3 r (k+1) q h;omega
def vk(p:bQ):List ByteArray:=p.jR.map cG.name
def ah4(p:bQ):List ByteArray:=p.threads.map cE.name
theorem QU(p:bQ):gi p=p.lines.flatten.map cG.name:=by
 unfold gi bW gS cZ
 rw[vB,s6,List.take_left' dH]
theorem rQ(p:bQ):bW p=gi p++vk p:=by
 rw[QU];unfold bW gS vk;grind
theorem Wx(p:bQ):(kH p).map cG.name=gi p++vk p++(cR p++ah4 p):=by
 rw[<- rQ];unfold kH bW cR ah4
 simp_all
theorem Wy{p:bQ}(I:mN (kH p)=false)(s:ByteArray) :
  eJ (F8 p).1 s=if 0<=bR (gi p) s then 1 else if 0<=bR (vk p) s then 2 else if 0<=bR (cR p) s then 3 else if 0<=bR (ah4 p) s then 4 else 0:=by
 have J:((kH p).map cG.name).Nodup:=hU λh=>by rw[(B6 _).2 h]at I;cases I
 have E:((nmQ p).map (·.1)).Nodup:=by rw[E8];exact J
 rw[Ww]
 by_cases h1:s∈gi p
 .rw[ez (eB.2 h1)]
  rw[QU,<- Ns p.lines 0]at h1
  obtain⟨c,hc,rfl⟩:=pB.1 h1
  obtain⟨q,B,rfl⟩:=pB.1 hc
  have G:(q.1.name,F7 p q.2,q.1.at_)∈nmQ p:=List.mem_append_left _ (pB.2 ⟨q,List.mem_append_left _ B,rfl⟩)
  have O:=ac2 _ _ _ B
  exact(IZ _ _ _ E G).trans (ew cU)
 rw[ew λh=>h1 (eB.1 h)]
 by_cases h2:s∈vk p
 .rw[ez (eB.2 h2)]
  unfold vk at h2
  rw[<- Nt p.jR p.lines.length]at h2
  obtain⟨c,hc,rfl⟩:=pB.1 h2
  obtain⟨q,B,rfl⟩:=pB.1 hc
  have G:(q.1.name,F7 p q.2,q.1.at_)∈nmQ p:=List.mem_append_left _ (pB.2 ⟨q,List.mem_append_right _ B,rfl⟩)
  have M:=ac3 _ _ _ B
  exact(IZ _ _ _ E G).trans (ez M)
 rw[ew λh=>h2 (eB.1 h)]
 by_cases h3:s∈cR p
 .rw[ez (eB.2 h3)]
  obtain⟨c,hc,rfl⟩:=pB.1 h3
  exact IZ _ _ (c.name,3,c.at_) E (List.mem_append_right _ (List.mem_append_left _ (pB.2 ⟨c,hc,rfl⟩)))
 rw[ew λh=>h3 (eB.1 h)]
 by_cases h4:s∈ah4 p
 .rw[ez (eB.2 h4)]
  obtain⟨t,ht,rfl⟩:=pB.1 h4
  exact IZ _ _ (t.name,4,t.at_) E (List.mem_append_right _ (List.mem_append_right _ (pB.2 ⟨t,ht,rfl⟩)))
 rw[ew λh=>h4 (eB.1 h),TN _ _ _ (by rw[E8,Wx];grind)]
 rfl
def I0{α:Type}{l:List α}{f g:α->Bool}(h:∀x∈l,f x=g x):l.any f=l.any g:=by
 grind
theorem YE{g:List SI}{n k:ByteArray}{v:Int}(E:∀e∈g,e.2≠0)(h:eJ g n=0):eJ (g++[(n,v)]) k=if n=k then v else eJ g k:=by
 induction g with
 | nil=>simp_all[eJ,SI]
 | cons e r M=>
  have B:=E e (qs ..)
  have I:¬ e.1=n:=λJ=>by
   have:eJ (e::r) n=e.2:=by simp_all[eJ,SI]
   omega
  have G:eJ r n=0:=by
   grind[eJ]
  show(if e.1=k then e.2 else eJ (r++[(n,v)]) k)=if n=k then v else(if e.1=k then e.2 else eJ r k)
  grind
theorem Ly:∀(ns:List ByteArray) (g:List SI),(∀e∈g,e.2≠0)->
  (IY g ns=none/\(¬ ns.Nodup\/∃s∈ns,eJ g s≠0))\/∃J,IY g ns=some J/\ns.Nodup/\(∀s∈ns,eJ g s=0)/\∀s,eJ J s=if 0<=bR ns s then 5 else eJ g s
 | [],g,_=>.inr ⟨g,rfl,List.nodup_nil,λs h=>(by cases h),λs=>by rw[ew];exactλh=>by cases eB.1 h⟩
 | n::r,g,hz=>by
  unfold IY
  split
  .rename_i hl
   have M:∀e∈g++[(n,(5:Int))],e.2≠0:=by
    grind
   have E:=λk=>YE (k:=k) (v:=5) hz hl
   rcases Ly r _ M with⟨h1,h2⟩|⟨J,h1,h2,h3,h4⟩
   .grind
   .have G:n ∉ r:=λO=>dH
    refine .inr ⟨J,h1,JV.2 ⟨G,h2⟩,λs B=>?_,λs=>?_⟩
    .rcases ta.1 B with rfl|B
     .exact hl
     .have:=h3 s B;rw[E,ew λe:n=s=>G (e▸B)]at this;exact this
    .rw[h4,E]
     by_cases B:s∈r
     .rw[ez (eB.2 B),ez (eB.2 (so _ B))]
     .rw[ew λh=>B (eB.1 h)]
      by_cases I:n=s
      .rw[ez I,ez (eB.2 (by rw[I];exact qs ..))]
      .rw[ew I,ew λh=>(ta.1 (eB.1 h)).elim (λe=>I e.symm) B]
  grind
theorem QV{l:List SI}(B:(l.map (·.1)).Nodup)(s:ByteArray):eJ (l.filter λp=>decide (¬ p.2=4)) s=if eJ l s=4 then 0 else eJ l s:=by
 induction l with
 | nil=>rfl
 | cons e r E=>
  rw[IV,JV]at B
  have E:=E B.2
  have I:e.1=s->eJ r s=0:=λh=>BW λq G J=>B.1 (pB.2 ⟨q,G,dH⟩)
  have e1:eJ (e::r) s=if e.1=s then e.2 else eJ r s:=rfl
  rw[List.filter_cons,e1]
  by_cases h4:e.2=4
  .grind
  .rw[ez (by simp[h4])]
   show(if e.1=s then e.2 else eJ _ s)=_
   grind
def ac4{l:List SI}{k:ByteArray}{v:Int}(h:(l.map (·.1)).Nodup):((B5 l k v).map (·.1)).Nodup:=by
 unfold B5
 grind
theorem ac5(p:bQ):((F8 p).1.map (·.1)).Nodup:=by
 rw[Ww]
 have:∀(l:List (ByteArray×Int×Int)) (st:List SI×Bool×Int),(st.1.map (·.1)).Nodup->((Cn l st).1.map (·.1)).Nodup:=by
  intro l
  induction l with
  | nil=>intro st h;exact h
  | cons q r B=>intro st h;exact B (nmF st q) (ac4 h)
 grind
theorem Nx{p:bQ}(M:mN (kH p)=false)(rs:List ByteArray) :
  (YD (F8 p).1 rs=none/\zW p rs=true)\/∃g,YD (F8 p).1 rs=some g/\zW p rs=false/\(∀s∈rs,s ∉ bW p/\s ∉ cR p)/\
   ∀s,eJ g s=if 0<=bR rs s then 5 else if 0<=bR (gi p) s then 1 else if 0<=bR (vk p) s then 2 else if 0<=bR (cR p) s then 3 else 0:=by
 have I:∀s,eJ ((F8 p).1.filter λp=>decide (¬ p.2=4)) s=if 0<=bR (gi p) s then 1 else if 0<=bR (vk p) s then 2 else if 0<=bR (cR p) s then 3 else 0:=by
  intro s
  rw[QV (ac5 p),Wy M]
  omega
 have hc:∀s,eJ ((F8 p).1.filter λp=>decide (¬ p.2=4)) s≠0↔(s∈bW p\/s∈cR p):=by
  intro s
  rw[I,rQ,qC,<- eB (ns:=gi p),<- eB (ns:=vk p),<- eB (ns:=cR p)]
  omega
 unfold YD
 rcases Ly rs ((F8 p).1.filter λp=>decide (¬ p.2=4)) (λe J=>TO p e (ND.1 J).1)with⟨h1,h2⟩|⟨g,h1,h2,h3,h4⟩
 .refine .inl ⟨h1,(QT p rs).2 ?_⟩
  grind
 have E:∀s∈rs,s ∉ bW p/\s ∉ cR p:=λs B=>by
  have h:=h3 s B
  exact⟨λG=>(hc s).2 (.inl G) h,λG=>(hc s).2 (.inr G) h⟩
 refine .inr ⟨g,h1,?_,E,λs=>by rw[h4,I]⟩
 cases hr:zW p rs with
 | false=>rfl
 | true=>
  rcases(QT p rs).1 hr with h|⟨s,B,h⟩
  .grind
  .rcases h with h|h
   .exact absurd h (E s B).1
   .exact absurd h (E s B).2
def Gy(g:List SI)(u:UU):Bool:=!u.2.2.any λm=>decide (m=eJ g u.1)
theorem QW{g:List SI}{rs:List ByteArray}(l:List bY)(h:∀s,eJ g s=5↔s∈rs):(E5 l).any (Gy g)=oI l rs:=by
 rw[JD]
 unfold E5 rP oI Gy
 simp only[List.any_map,wk,ND,Function.comp_apply,Ug,ZN,WN,sV,decide_eq_false_iff_not,n3,decide_eq_true_eq,Dq]
 grind
def TP(p:bQ)(s:ByteArray):s∈gi p↔0<=bR (bW p) s/\bR (bW p) s<cZ p:=by
 rw[eB,show gi p=(bW p).take (cZ p).toNat from rfl]
 have E:0<=cZ p:=by unfold cZ;omega
 constructor
 .intro h
  have B:=OC h
  have:=(qS B).2 h
  exact⟨B,cU⟩
 rintro⟨h1,h2⟩;exact(qS h1).1 cU
theorem auE(k:Int):eF (gQ k) 110=decide (k=2\/k=3\/k=4\/k=5\/k=6\/k=9\/k=10):=by
 unfold gQ
 split
 .rw[gk cU];decide
 rename_i h
 obtain rfl|rfl|rfl|rfl|rfl|rfl|rfl|rfl|rfl|rfl|rfl|rfl|rfl|rfl:k=1\/k=2\/k=3\/k=4\/k=5\/k=6\/k=7\/k=8\/k=9\/k=10\/k=11\/k=12\/k=13\/k=14:=cU
 all_goals decide
theorem QX:iu ⟨#[]⟩=false:=er
def ah5{p:bQ}{rs:List ByteArray}{g:List SI}(J:∀s∈rs,s ∉ bW p/\s ∉ cR p)(I:∀s∈bW p,s ∉ cR p)(Z:∀s∈gi p,s ∉ vk p)
  (E:∀s,eJ g s=if 0<=bR rs s then 5 else if 0<=bR (gi p) s then 1 else if 0<=bR (vk p) s then 2 else if 0<=bR (cR p) s then 3 else 0) {x:bD}(O:atr x) :
  (E6 x).any (Gy g)=oJ p rs x:=by
 have M:∀s,eJ g s=5↔s∈rs:=λs=>by
  rw[E,<- eB];omega
 have U:∀s,eJ g s=1↔s∈gi p:=λs=>by
  rw[E,<- eB]
  split
  .rename_i h
   have:=J s (eB.1 h)
   rw[rQ,qC]at this
   refine⟨λh=>(by cases h),λh=>absurd (eB.1 h) λB=>this.1 (.inl B)⟩
  omega
 have V:∀s,eJ g s=2↔s∈vk p:=λs=>by
  rw[E]
  split
  .rename_i h
   have:=J s (eB.1 h)
   rw[rQ,qC]at this
   grind
  .split
   .grind
   .rw[<- eB];omega
 have g3:∀s,eJ g s=3↔s∈cR p:=λs=>by
  rw[E]
  split
  .grind
  .split
   .rename_i h;exact⟨λh=>(by cases h),λB=>absurd B (I s (by rw[rQ];grind))⟩
   .split
    .rename_i h;exact⟨λh=>(by cases h),λB=>absurd B (I s (by rw[rQ];grind))⟩
    .rw[<- eB];omega
 have G:=O.name
 rw[auE]at G
 rw[E7,Wl,Wl,Wl,QW x.e M,QW x.f M]
 have W:(uc x).any (Gy g)=(decide (¬ x.eY=⟨#[]⟩)&&decide (bR rs x.eY<0)):=by
  unfold uc
  split
  .grind
  .rename_i h
   rw[fY h,yx,JD]
   simp only[Ug,ZN,WN,Gy,sV,decide_eq_false_iff_not,decide_eq_true_eq,Dq]
   grind
 have hB:(vN x).any (Gy g)=(((decide (x.kind=2)||decide (x.kind=3)||decide (x.kind=4))&&decide (bR (bW p) x.name<0)) ||
   ((decide (x.kind=5)||decide (x.kind=6))&&(decide (bR (bW p) x.name<0)||decide (cZ p<=bR (bW p) x.name))) ||
   ((decide (x.kind=9)||decide (x.kind=10))&&decide (bR (cR p) x.name<0))):=by
  have hk:=O.kind
  unfold vN
  split
  .rename_i h
   have Y:¬ (x.kind=2\/x.kind=3\/x.kind=4\/x.kind=5\/x.kind=6\/x.kind=9\/x.kind=10):=by
    intro B
    rcases G with⟨_,h2⟩|⟨h1,_⟩
    .rw[h,QX]at h2;cases h2
    grind
   grind
  .rename_i h
   have Y:x.kind=2\/x.kind=3\/x.kind=4\/x.kind=5\/x.kind=6\/x.kind=9\/x.kind=10:=by
    grind
   have hc:=TP p x.name
   rw[JD]
   unfold Nw
   simp only[Ug,ZN,WN,Gy,sV,vo,n3,decide_eq_true_eq,Dq]
   have e1:=U x.name;have e2:=V x.name;have e3:=g3 x.name
   have ec:x.name∈bW p↔x.name∈gi p\/x.name∈vk p:=by rw[rQ,qC]
   have pn:=eB (ns:=bW p) (s:=x.name)
   grind
 rw[W,hB]
 unfold oJ
 grind
def QY{p:bQ}(E:mN (kH p)=false):(∀s∈bW p,s ∉ cR p)/\∀s∈gi p,s ∉ vk p:=by
 have G:((kH p).map cG.name).Nodup:=hU λh=>by rw[(B6 _).2 h]at E;cases E
 rw[Wx,aaa]at G
 obtain⟨h1,h2,h3⟩:=G
 rw[aaa]at h1
 exact⟨λs B I=>h3 s (by rw[<- rQ];exact B) s (List.mem_append_left _ I) rfl,λs B J=>h1.2.2 s B s J rfl⟩
def ac6{p:bQ}{t:cE}{g:List SI}(B:mN (kH p)=false)(G:YD (F8 p).1 t.aS=some g)(E:∀x∈t.body,sH x=true):(pF t.body).any (Gy g)=t.body.any (oJ p t.aS):=by
 rcases Nx B t.aS with⟨h1,_⟩|⟨J,h1,h2,h3,h4⟩
 .grind
 rw[G]at h1;cases h1
 obtain⟨a1,a2⟩:=QY B
 unfold pF
 rw[List.any_flatMap]
 refine I0 λx I=>ah5 h3 a1 a2 h4 (AN (E x I))
def TQ{p:bQ}(B:mN (kH p)=false)(l:List bY):(l.any λx=>decide (x.op=2)&&decide (¬ eJ (F8 p).1 x.name=1))=oI l (gi p):=by
 unfold oI
 refine I0 λx _=>?_
 congr 1
 refine gv.2 ?_
 rw[Dq,Wy B,<- eB]
 omega
variable (w:World) (K:Value->iD)
def S49(p0:Value):Prop:=
 se hZ (zG 36 p0) w λp1 a=>aL 40 a λb c=>aL 3 c λd e=>lA 36 p1 e λf=>cF 108 [f] e λg h=>xT g 0 λj=>xT g 1 λk=>xT g 2 λl=>lA 36 p1 h λn=>
 cF 109 [n] h λo p=>eK hZ (Op.unary .not o) λq=>cV q (sA 40 b (i 8) p λs=>sA 3 d (i 0) s λt=>lA 40 b t λr=>lA 3 d t λKe=>K (.tuple #[r,Ke]) t) (lA 36 p1 p λu=>
 cF 110 [u] p λv x=>cV v (sA 40 b (i 2) x λy=>sA 3 d (i 0) y λz=>lA 40 b z λX6=>lA 3 d z λr_3=>K (.tuple #[X6,r_3]) z) (lA 36 p1 x λaa=>cF 111 [aa] x λab ac=>
 lN 33 ab λad=>lE (λK1 ae I=>∀_:Env,
 bA .lss 3 ae ad λag=>cV ag (iA 33 ab ae λah=>lA 114 ah I λai=>aL 114 I λt8 aj=>sA 114 t8 ai aj λak=>fA 114 t8 2 λal=>lA 112 al ak λam=>cF 112 [am,(i 1)] ak λan ao=>
 xT an 0 λap=>xT an 1 λaq=>cV aq (sA 40 b (i 11) ao λar=>sA 3 d ap ar λasx=>lA 40 b asx λr_4=>lA 3 d asx λr_5=>K (.tuple #[r_4,r_5]) asx) (bB .add 3 ae (i 1) λau=>
 K1 au ao)) (cV l (sA 40 b (i 10) I λav=>sA 3 d k av λaw=>lA 40 b aw λr_6=>lA 3 d aw λr_7=>K (.tuple #[r_6,r_7]) aw) (lA 36 p1 I λax=>cF 111 [ax] I λay az=>
 lN 33 ay λa0=>lE (λK2 a2 Y=>∀_:Env,
 bA .lss 3 a2 a0 λa4=>cV a4 (iA 33 ay a2 λa5=>lA 114 a5 Y λa6=>aL 114 Y λE a7=>sA 114 E a6 a7 λa8=>lA 114 E a8 λa9=>cF 113 [a9,j] a8 λba bb=>xT ba 0 λ_=>
 xT ba 1 λbc=>cV bc (fA 114 E 3 λbd=>lA 3 bd (drew bb) λbe=>sA 40 b (i 10) (drew bb) λbf=>kA 3 bd be bf (sA 3 d be bf λbg=>lA 40 b bg λr_8=>lA 3 d bg λr_9=>
 K (.tuple #[r_8,r_9]) bg)) (bB .add 3 a2 (i 1) λbh=>K2 bh bb)) (lA 36 p1 Y λbi=>cF 111 [bi] Y λbj bk=>lN 33 bj λbl=>rq (λK3 Z bm W=>∀_:Env,
 bA .lss 3 bm bl λbo=>cV bo (iA 33 bj bm λbp=>lA 114 bp W λbq=>aL 114 W λG br=>sA 114 G bq br λbs=>lA 114 G bs λbt=>cF 113 [bt,j] bs λbu bv=>xT bu 0 λbw=>
 xT bu 1 λ_=>aL 184 bv λO bx=>sA 184 O bw bx λbz=>fA 114 G 2 λb0=>lA 112 b0 bz λb1=>cF 114 [b1] bz λb2 b3=>Cw hZ b2 1 b3 (λa1 b4 B1 R1=>
 aL 196 b4 λB b5=>sA 196 B (Ht a1 0) b5 λb6=>B1 b6 λU=>fA 196 B 2 λb8=>lA 22 b8 U λb9=>lA 184 O U λca=>fA 196 B 0 λcb=>lA 9 cb U λcc=>
 GK hZ (ua 184 ca cc false) U λcd=>cF 115 [b9,cd] U λce cf=>eK hZ (Op.unary .not ce) λcg=>cV cg (fA 196 B 1 λch=>lA 3 ch (drew cf) λci=>
 sA 40 b (i 9) (drew cf) λcj=>kA 3 ch ci cj (sA 3 d ci cj λck=>R1 (some .ret) ck)) (R1 none cf)) (aft (λD cl=>bB .add 3 bm (i 1) λcm=>K3 (mu (D::(Cv Z))) cm cl)
 (λD cn=>nQ (D::(Cv Z)) cn λco=>lA 40 b co λanq=>lA 3 d co λaBG=>K (.tuple #[anq,aBG]) co) λ_ _ _=>False)) (fA 36 p1 5 λcp=>lA 34 cp W λcq=>
 lN 34 cq λcr=>lE (λK4 cs ct=>∀_:Env,
 bA .lss 3 cs cr λcu=>cV cu (iA 34 cq cs λcv=>lA 95 cv ct λcw=>aL 95 ct λM cx=>sA 95 M cw cx λcy=>fA 95 M 0 λcz=>lA 92 cz cy λc0=>lN 92 c0 λc1=>
 lE (λK5 c2 c3=>∀_:Env,
 bA .lss 3 c2 c1 λc4=>cV c4 (iA 92 c0 c2 λc5=>lA 183 c5 c3 λc6=>aL 183 c3 λV c8=>sA 183 V c6 c8 λJ=>eW (λK6=>fA 183 V 0 λda=>lA 3 da J λdb=>
 bB .eql 3 db (i 2) λdc=>cV dc (fA 183 V 2 λdd=>lA 9 dd J λde=>GK hZ (ua 184 j de false) J λdf=>bB .neq 3 df (i 1) λdg=>K6 dg J) (K6 ff J))
 (λdh di=>∀_:Env,
 cV dh (fA 183 V 3 λdj=>lA 3 dj (drew di) λdk=>sA 40 b (i 9) (drew di) λdl=>kA 3 dj dk dl (sA 3 d dk dl λdm=>nQ (Cv Z) dm λdn=>lA 40 b dn λaBH=>lA 3 d dn λaBI=>
 K (.tuple #[aBH,aBI]) dn)) (bB .add 3 c2 (i 1) λdp=>K5 dp di))) (bB .add 3 cs (i 1) λdq=>K4 dq c3)) λK5=>K5 (i 0) cy) (sA 40 b (i 0) ct λdr=>sA 3 d (i 0) dr λdt=>
 nQ (Cv Z) dt λdu=>lA 40 b du λaBJ=>lA 3 d du λaBK=>K (.tuple #[aBJ,aBK]) du)) λK4=>K4 (i 0) W)) λK3=>K3 (mu []) (i 0) bk)) λK2=>K2 (i 0) az)))
 λK1=>K1 (i 0) ac))
def P49:dM:=λi=>match i with
 | 20=>(.of [(0,[]),(1,[]),(2,[1]),(3,[])])
 | 29=>(.of [(0,[]),(1,[]),(2,[1]),(3,[])])
 | 38=>(.of [(0,[]),(1,[]),(2,[1]),(3,[])])
 | _=>.nil
theorem anr(p0:Value)(h:S49 w K p0):CR 49 [p0] w K:=
 qG 128 P49 12 [.cell 2 40,.cell 3 3] Tryz.func49 h
theorem auG:PL 49:=dT Tryz.func49
theorem auH:PL 115:=dT Tryz.func115
theorem auI:PL 219:=dT Tryz.func219
end Go.Proofs.YtdncbeepkacgbaaGreatDoor
namespace Go.Proofs.YtdncbeepkacgbaaGreatDoor
open Go.Fw
def C219(O:Value)(ns:List Int)(s:Int)(w:World)(J:dP (λ_=>True) w O ns)(W:ns.length<=1048576):CR 219 [O,iE s] w (λv w'=>v=iE (pY (λy=>decide (y=s)) ns)/\Ext w w'):=by
 have B:=St.start w;refine fD Tryz.func219 ?_;refine aK dZ (J.ext B.aG) ?_;refine⟨λm x M=>∃k:Nat,x=iE (k:Int)/\m=ns.length-k/\k<=ns.length/\(∀y∈ns.take k,decide (y=s)=false)/\St w bE [] M,⟨_,0,rfl,rfl,ob _,et,B⟩,?_⟩;rintro m _ M ⟨k,rfl,rfl,Y,E,B⟩ _;refine aV (aC (λV=>?_) λ_=>⟨gD (n5 .i64) (gJ (by rw[mH cU]at E;exact E)).symm,B.aG⟩);obtain⟨Z,G⟩:=gx ns (i:=(k:Int).toNat) cU;exact aW dZ J cU G (λ_ U=>aE bL (U.ext B.aG) (aI (aC (λI=>⟨gD (n5 .i64) (jT E G (fY I.symm)).symm,B.aG⟩) λI=>aR cU ⟨_,cU,k+1,rfl,rfl,cU,fg E G (gk λh=>I h.symm),B⟩)))
def C115(E:Value)(ns:List Int)(s:Int)(w:World)(G:dP (λ_=>True) w E ns)(I:ns.length<=1048576):CR 115 [E,iE s] w (λv w'=>v=.bool (ns.any λy=>decide (y=s))/\Ext w w'):=by
 have B:=St.start w;refine fD Tryz.func115 ?_;exact aY auI B (C219 _ _ _ _ (G.ext B.aG) cU) (λ_ _ B=>dC ⟨vb (iJ _ _),B.aG⟩)
def ac7{u:UU}{l:List bD}(h:u∈pF l):u.2.2.length<=1048576:=by
 have:u.2.2.length<=2:=by
  unfold pF at h
  obtain⟨x,_,h⟩:=List.mem_flatMap.1 h
  rw[E7]at h
  unfold uc vN E5 Nw at h
  simp only[qC]at h
  grind
 omega
theorem C49(p:bQ)(pv:bT)(w:World)(hp:n4 w pv p)(Z:PZ p):CR 49 [jj pv] w (λv w'=>∃a:Int,v=.tuple #[iE (fW p),iE a]/\Ext w w'):=by
 have Sy:=hp;have aBp:=Wc Z.toPS;obtain⟨dJ,ej,dV,cQ,cT,dA,rfl,fT,iZ,iN,fj,fk,gU⟩:=hp;obtain⟨U,hR3,hD3⟩:=fj.open;obtain⟨J,TF,hD4⟩:=fk.open;have hn3:=hD3.1;have hn4:=hD4.1;have hD:=hD3.append hD4;have aBL:=hD.1
 change (U++J).length=(je p).length at aBL
 have E:=St.start w;refine anr _ _ _ ?_;unfold S49;refine cP E (λbp w1 E=>gT E amu rfl λb2 _ E=>gT E qA rfl λb3 _ E=>aE gO E.p2.At (eC aut (C108 p _ _ (B4 Sy E.aG) Z) ?_));rintro _ _ ⟨bm,rfl,cA⟩;have E:=E.made cA;refine aN rfl (aN rfl (aN rfl (aE gO E.p3.At (aY as7 E (C109 p _ _ (B4 Sy E.aG) Z) λ_ he E=>bJ (aX (λc=>?_) λc=>?_)))))
 .have h1:nz p=false:=by simpa using c
  have V:fW p=8:=ce8 h1;exact aO E.p2 kh (ei rfl) rfl (λ_ E=>aO E.p2 bL (ei rfl) rfl λ_ E=>aB kh E.p1.hb rfl (aB bL E.hb rfl ⟨_,by rw[V],E.aG⟩))
 have h1:nz p=true:=by simpa using c
 refine aE gO E.p3.At (aY auh E (C110 p _ _ (B4 Sy E.aG) Z) λ_ he E=>aX (λc=>?_) λc=>?_)
 .have h2:yS p=true:=c;have V:fW p=2:=ce2 h1 h2;exact aO E.p2 kh (ei rfl) rfl (λ_ E=>aO E.p2 bL (ei rfl) rfl λ_ E=>aB kh E.p1.hb rfl (aB bL E.hb rfl ⟨_,by rw[V],E.aG⟩))
 have h2:yS p=false:=c;refine aE gO E.p3.At (cW Wo E (C111 p _ U J _ (B4 Sy E.aG) (hR3.ext E.aG) (TF.ext E.aG) (by have:=Z.threads;omega) (by have:=Z.recover;omega)) λx38 w38 cA E=>aK kM E.fc ?_);refine⟨λm x w1=>∃k:Nat,x=iE (k:Int)/\m=(U++J).length-k/\k<=(U++J).length/\(∀y∈(je p).take k,tX y.body=false)/\St w bE [bG x38 (U++J),oe bm (F8 p).1,bU b3 [iE 0],bU b2 [iE 0],bU bp (jl (⟨dJ,ej,dV,cQ,cT,dA⟩:bT))] w1,⟨_,0,rfl,rfl,ob _,et,E⟩,?_⟩;rintro m _ _ ⟨k,rfl,rfl,hk,I,E⟩ _
 refine aV (aC (λc=>?_) λc=>?_)
 .obtain⟨t,ht⟩:=gx (U++J) (i:=((k:Nat):Int).toNat) cU;obtain⟨r,G⟩:=gx (je p) (i:=k) cU;have O:=ml G;have hrz:=Z.kC O;have hrr:=(pq h1).kC O;obtain⟨gr,gb,rfl,dr,db⟩:=hD.2 _ _ _ ht G;have hrs:=kX hrr.2.1;refine aW kM E.fc cU ht (λq hq=>aE lG hq (aJ E qZ λbt wt E=>aH (x:=(⟨r.name,gr,gb,r.at_⟩:cI)) E lG rfl rfl λwu E=>?_));obtain⟨ah7,hbf,tb,hbt,gG,_,_⟩:=hrs;have J4:tb.len<=40:=by rw[<- Bk.dL,<- hbt];exact ah7
  have hwl:tX r.body=nF tb 1:=by rw[hbt];exact BZ gG
  refine aA tG (aB (v:=jj gb) ou E.hb rfl (eC akM (C112 _ tb 1 (tb.len+1) _ (by rw[<- hbt];exact DL.ext db E.aG) gG (by rw[<- hbt];exactλx hx=>IB (hbf x hx)) cU cU (Nat.lt_succ_self _)) ?_));rintro _ _ ⟨aa,rfl,he⟩;have E:=E.ext he;refine aN rfl (aN rfl (aX (λc9=>?_) λc9=>?_))
  .have h3:(je p).any (λt=>tX t.body)=true:=tT G (by rw[hwl];exact c9);have V:fW p=11:=aAA h1 h2 h3;exact aO E.p4 kh (ei rfl) rfl (λ_ E=>aO E.p4 bL (ei rfl) rfl λ_ E=>aB kh E.p1.hb rfl (aB bL E.hb rfl ⟨_,by rw[V],E.aG⟩))
  exact aR cU (have E:=E.drop;⟨_,cU,k+1,rfl,rfl,cU,fg I G (by rw[hwl];exact c9),E⟩)
 have h3:(je p).any (λt=>tX t.body)=false:=pX (by rw[mH cU]at I;exact I);have E:=E.drop;refine aX (λc10=>?_) (λc10=>?_)
 .have h4:mN (kH p)=true:=by rw[<- ac0];exact c10
  have V:fW p=10:=aAB h1 h2 h3 h4;exact aO E.p2 kh (ei rfl) rfl (λ_ E=>aO E.p2 bL (ei rfl) rfl λ_ E=>aB kh E.p1.hb rfl (aB bL E.hb rfl ⟨_,by rw[V],E.aG⟩))
 have h4:mN (kH p)=false:=by rw[<- ac0];exact c10
 refine aE gO E.p3.At (cW Wo E (C111 p _ U J _ (B4 Sy E.aG) (hR3.ext E.aG) (TF.ext E.aG) (by have:=Z.threads;omega) (by have:=Z.recover;omega)) λx56 _ cA E=>aK kM E.fc ?_)
 clear I
 refine⟨λm x w1=>∃k:Nat,x=iE (k:Int)/\m=(U++J).length-k/\k<=(U++J).length/\(∀y∈(je p).take k,zW p y.aS=false)/\St w bE [bG x56 (U++J),oe bm (F8 p).1,bU b3 [iE 0],bU b2 [iE 0],bU bp (jl (⟨dJ,ej,dV,cQ,cT,dA⟩:bT))] w1,⟨_,0,rfl,rfl,ob _,et,E⟩,?_⟩;rintro m _ _ ⟨k,rfl,rfl,hk,I,E⟩ _;refine aV (aC (λc=>?_) λc=>?_)
 .obtain⟨t,ht⟩:=gx (U++J) (i:=((k:Nat):Int).toNat) cU;obtain⟨r,G⟩:=gx (je p) (i:=k) cU;have O:=ml G;have hrz:=Z.kC O;have hrr:=(pq h1).kC O;obtain⟨gr,gb,rfl,dr,db⟩:=hD.2 _ _ _ ht G;have hrs:=kX hrr.2.1;refine aW kM E.fc cU ht (λq hq=>aE lG hq (aJ E qZ λbt wt E=>aH (x:=(⟨r.name,gr,gb,r.at_⟩:cI)) E lG rfl rfl λwu E=>aE lG E.At (eC akR (C113 (⟨r.name,gr,gb,r.at_⟩:cI) r.aS bm (F8 p).1 _ (DL.flat (DL.ext dr E.aG)) E.p2.oe (TO p) cU) ?_)))
  rcases Nx h4 r.aS with⟨tf,Gw⟩|⟨g,tf,Gw,_⟩
  .rintro _ w24 (⟨_,rfl,he⟩|⟨g,bg,OH,_⟩);rotate_left
   .rw[tf]at OH;cases OH
   have E:=E.ext he;have h5:(je p).any (λt=>zW p t.aS)=true:=tT G Gw;refine aN rfl (aN rfl (jb (aA CI (have E:=E.drew;aB (v:=iE r.at_) bL E.hb rfl ?_))));have V:fW p=10:=att h1 h2 h3 h4 h5;refine aO E.p4 kh (ei rfl) rfl (λwa E=>?_);refine⟨aF bL (E.p1.hb.cell rfl),?_⟩;exact aO E.p4 bL (ei rfl) rfl (λ_ E=>aB kh E.p1.hb rfl (aB bL E.hb rfl ⟨_,by rw[V],E.aG⟩))
  rintro _ w24 (⟨OH,_⟩|⟨g2,bg,OH,rfl,cA⟩)
  .rw[tf]at OH;cases OH
  have E:=(E.made cA).drop.drop;exact aN rfl (aN rfl (eX (aR cU ⟨_,cU,k+1,rfl,rfl,cU,fg I G Gw,E⟩)))
 have h5:(je p).any (λt=>zW p t.aS)=false:=pX (by rw[mH cU]at I;exact I);have E:=E.drop;refine aE gO E.p3.At (cW Wo E (C111 p _ U J _ (B4 Sy E.aG) (hR3.ext E.aG) (TF.ext E.aG) (by have:=Z.threads;omega) (by have:=Z.recover;omega)) λx73 _ cA E=>aK kM E.fc ?_)
 clear I
 have E:=TM.nil E;refine⟨λm dv x w1=>∃(k:Nat) (ds:List Nat),dv=mu ds/\x=iE (k:Int)/\m=(U++J).length-k/\k<=(U++J).length/\(∀y∈(je p).take k,y.body.any (oJ p y.aS)=false)/\St w bE [TM ds,bG x73 (U++J),oe bm (F8 p).1,bU b3 [iE 0],bU b2 [iE 0],bU bp (jl (⟨dJ,ej,dV,cQ,cT,dA⟩:bT))] w1,⟨_,0,[],rfl,rfl,rfl,ob _,et,E⟩,?_⟩;rintro m _ _ _ ⟨k,ds,rfl,rfl,rfl,hk,I,E⟩ _;rw[Er];refine aV (aC (λc=>?_) λc=>?_)
 .obtain⟨t,ht⟩:=gx (U++J) (i:=((k:Nat):Int).toNat) cU;obtain⟨r,G⟩:=gx (je p) (i:=k) cU;have O:=ml G;have hrz:=Z.kC O;have hrr:=(pq h1).kC O;obtain⟨gr,gb,rfl,dr,db⟩:=hD.2 _ _ _ ht G;have hrs:=kX hrr.2.1;refine aW kM E.p1.fc cU ht (λq hq=>aE lG hq (aJ E qZ λbt wt E=>aH (x:=(⟨r.name,gr,gb,r.at_⟩:cI)) E lG rfl rfl λwu E=>?_))
  have h5r:zW p r.aS=false:=by
   cases hh:zW p r.aS with
   | false=>rfl
   | true=>exact absurd (tT (g:=λt:cE=>zW p t.aS) G hh) (by rw[h5];decide)
  refine aE lG E.At (eC akR (C113 (⟨r.name,gr,gb,r.at_⟩:cI) r.aS bm (F8 p).1 _ (DL.flat (DL.ext dr E.aG)) E.p3.oe (TO p) cU) ?_)
  rcases Nx h4 r.aS with⟨_,Gw⟩|⟨g,tf,Gw,_⟩
  .rw[Gw]at h5r;cases h5r
  rintro _ w31 (⟨OH,_⟩|⟨g2,bg,OH,rfl,cA⟩)
  .rw[tf]at OH;cases OH
  obtain rfl:g=g2:=o5.inj (tf.symm.trans OH);have E:=E.made cA;refine aN rfl (aN rfl (gT E VO rfl λb17 _ E=>aO E KX (ei rfl) rfl λ_ E=>aA tG (aB (v:=jj gb) ou E.p2.hb rfl (eC auy (C114 gb _) ?_))));rintro _ _ ⟨bu,rfl,auK⟩;have E:=E.made auK;have hbz:=hrz.1.2.2;have auL:=ac6 h4 tf hrs.2.1;obtain⟨tsb,hRb,hDb⟩:=db.open
  refine acS (cap:=[.pointer (some ⟨bu,0,none⟩)]) (pF r.body).length (Wt (pF r.body)) auz E
   (λj M=>(∀i,i<j->∀u,(pF r.body)[i]?=some u->Gy g u=false)/\M=[bU bu [jj gb],bU b17 [.map (some bg)],oe bg g,bU bt (jl (⟨r.name,gr,gb,r.at_⟩:cI)),TM ds,bG x73 (U++J),oe bm (F8 p).1,bU b3 [iE 0],bU b2 [iE 0],bU bp (jl (⟨dJ,ej,dV,cQ,cT,dA⟩:bT))])
   (λcx M=>cx=.ret/\(pF r.body).any (Gy g)=true/\∃a L,M=bU b3 [iE a]::bU b2 [iE 9]::TM ds::L) ⟨λ_ hi=>absurd hi (Nat.not_lt_zero _),rfl⟩ (by rintro j a Φ ⟨u,s,_,rfl,_⟩;rfl) ?_ ?_ ?_ ?_ ?_ ?_
  .intro y Y Jx W h0 hy;refine(C217 y bu (jj gb) tsb r.body w bE _ Jx W cU (λx hx=>⟨(hbz x hx).2.2.1,(hbz x hx).2.2.2.1⟩) ?_ ?_ hy).mono λ_ _ rr=>rr.mono λv W' h=>?_
   .rintro j _ W2 ⟨M,⟨_,rfl⟩,rfl⟩ Bd;exact⟨Bd.p1.hb.cell rfl,hRb.ext Bd.aG,hDb.ext Bd.aG⟩
   .obtain⟨M,h1,h2⟩:=h0;exact⟨_,⟨M,h1,rfl⟩,h2⟩
   rcases h with⟨_,⟨M,h1,rfl⟩,h2⟩|h
   .exact .inl ⟨M,h1,h2⟩
   exact .inr h
  .rintro j args Φ Y1 Y2 B Kr M W ⟨u,s,hu,rfl,G7⟩ ⟨hjn,rfl⟩ hΦ hB hN hR E;dsimp only[Ht];refine aJ E agN (λb9 _ E=>aH (x:=(⟨u.1,u.2.1,s⟩:Nu)) E asc rfl rfl λ_ E=>?_);refine hB _ _ _ E.p1 (λw38 E=>?_);refine aA aaX (aB (v:=jj s) eD E.p1.hb rfl (aB KX E.p3.hb rfl (aA aaV (aB (v:=.string u.1) ke E.p1.hb rfl (AM E.p4.oe Tryz.underlying184 Tryz.underlying9 qA ?_)))))
   have GQ:dP (λ_=>True) w38 (jj s) u.2.2:=by
    obtain⟨F,h1,_⟩:=E.head;exact G7 _ (hΦ _ _ h1)
   have hul:u.2.2.length<=1048576:=ac7 (ml hu);refine aY auH E (C115 _ u.2.2 (eJ g u.1) _ GQ hul) (λ_ he E=>bJ (aX (λc11=>aA aaW (have E:=E.drew;aB (v:=iE u.2.1) bL E.p1.hb rfl (have E:=E.p2.drop;aO E.p9 kh (ei rfl) rfl λ_ E=>⟨aF bL (E.p2.hb.cell rfl),aO E.p9 bL (ei rfl) rfl λ_ E=>hR .ret _ _ E.p7.p2.p2.p3 ⟨rfl,tT hu (by unfold Gy;exact c11),_,_,rfl⟩⟩))) λc11=>?_));refine hN _ _ E.p1.drop ⟨λi hi u2 hu2=>?_,rfl⟩
   rcases P2 i j with h|h
   .exact hjn i h u2 hu2
   obtain rfl:i=j:=cU
   rw[hu]at hu2;cases hu2
   unfold Gy;exact c11
  .rintro D M W ⟨hjn,rfl⟩ E;refine aR cU ?_;have E:=St.join (H1:=oD D (.deferred (some []))) E.p1.drop.p1.drop.p1.drop.p1.drop;refine⟨_,cU,k+1,D::ds,rfl,rfl,rfl,cU,fg I G ?_,E⟩;rw[<- auL];refine pX λu hu=>?_;obtain⟨i,hi⟩:=zT.1 hu;exact hjn i (j0.1 hi).1 u hi
  .rintro D M W ⟨_,aBR,a,L,rfl⟩ E;have h6:(je p).any (λt=>t.body.any (oJ p t.aS))=true:=tT G (by rw[<- auL];exact aBR);have V:fW p=9:=ce9 h1 h2 h3 h4 h5 h6;have E:=St.join (H1:=oD D (.deferred (some []))) E.p3.p1;refine TM.take (D::ds) E (λ_ E=>?_);exact aB kh E.p1.hb rfl (aB bL E.hb rfl ⟨_,by rw[V],E.aG⟩)
  .rintro id D M W ⟨h,_⟩;cases h
  rintro cx M ⟨h,_⟩;exact .inr h
 have h6:(je p).any (λt=>t.body.any (oJ p t.aS))=false:=pX (by rw[mH cU]at I;exact I);have E:=E.p1.drop;have hzc:=Z.cB;obtain⟨ts5,hR5,hD5⟩:=gU.open;have G6:=hD5.1;refine aA oM (aB (v:=jj dA) zi E.p4.hb rfl (aK A7 (hR5.ext E.aG) ?_))
 clear I
 refine⟨λm x w1=>∃k:Nat,x=iE (k:Int)/\m=ts5.length-k/\k<=ts5.length/\(∀y∈p.cB.take k,oI y.e (gi p)=false)/\St w bE [TM ds,oe bm (F8 p).1,bU b3 [iE 0],bU b2 [iE 0],bU bp (jl (⟨dJ,ej,dV,cQ,cT,dA⟩:bT))] w1,⟨_,0,rfl,rfl,ob _,et,E⟩,?_⟩;rintro m _ _ ⟨k2,rfl,rfl,FZ,I,E⟩ _;refine aV (aC (λc12=>?_) λc12=>?_)
 .obtain⟨t,ht⟩:=gx ts5 (i:=((k2:Nat):Int).toNat) cU;obtain⟨r,G⟩:=gx p.cB (i:=k2) cU;have hrz:=Z.zc r (ml G);obtain⟨ge,rfl,de⟩:=hD5.2 _ _ _ ht G;have dE:=DL.flat de;refine aW A7 (hR5.ext E.aG) cU ht (λq hq=>aE HF hq (aJ E MP λbc _ E=>aH (x:=(⟨ge,r.at_⟩:jy)) E HF rfl rfl λ_ E=>aA CG (aB (v:=jj ge) l5 E.hb rfl (aK me (dE.ext E.aG) ?_))));have hvc:=TQ h4 r.e;refine⟨λm x w1=>∃j:Nat,x=iE (j:Int)/\m=r.e.length-j/\j<=r.e.length/\(∀y∈r.e.take j,(decide (y.op=2)&&decide (¬ eJ (F8 p).1 y.name=1))=false)/\St w bE [bU bc (jl (⟨ge,r.at_⟩:jy)),TM ds,oe bm (F8 p).1,bU b3 [iE 0],bU b2 [iE 0],bU bp (jl (⟨dJ,ej,dV,cQ,cT,dA⟩:bT))] w1,⟨_,0,rfl,rfl,ob _,et,E⟩,?_⟩
  rintro m _ _ ⟨j,rfl,rfl,hj,hnj,E⟩ _;refine aV (aC (λc13=>?_) λc13=>?_)
  .obtain⟨y,hy⟩:=gx r.e (i:=((j:Nat):Int).toNat) cU;refine aW me (dE.ext E.aG) cU hy (λq hq=>aE zx hq (aJ E GX λby_ _ E=>aH (x:=y) E zx rfl rfl λw50 E=>?_));refine⟨λjv w'=>jv=.bool (decide (y.op=2)&&decide (¬ eJ (F8 p).1 y.name=1))/\w'=w50,?_,?_⟩
   .exact aA lK (aB (v:=iE y.op) bL E.hb rfl (aI (aC (λc14=>aA nq (aB (v:=.string y.name) ke E.hb rfl (AM E.p3.oe Tryz.underlying184 Tryz.underlying9 qA (cN ⟨vb (by rw[fY c14,yx]),rfl⟩)))) λc14=>⟨vb (by rw[gk c14,P3]),rfl⟩)))
   rintro _ _ ⟨rfl,rfl⟩ _;refine aX (λc15=>?_) (λc15=>aR cU ⟨_,cU,j+1,rfl,rfl,cU,fg hnj hy c15,E.drop⟩);have h7:p.cB.any (λc=>oI c.e (gi p))=true:=tT G (by rw[<- hvc];exact tT hy c15);have V:fW p=9:=aAC h1 h2 h3 h4 h5 h6 h7;refine aA CN (have E:=E.drew;aB (v:=iE y.at_) bL E.hb rfl (aO E.p5 kh (ei rfl) rfl λwa E=>?_));refine⟨aF bL (E.p1.hb.cell rfl),?_⟩;refine aO E.p5 bL (ei rfl) rfl (λwb E=>?_);refine TM.take ds E.p4 (λw54 E=>?_);exact aB kh E.p1.hb rfl (aB bL E.hb rfl ⟨_,by rw[V],E.aG⟩)
  refine aR cU ?_;refine⟨_,cU,k2+1,rfl,rfl,cU,fg I G ?_,E.drop⟩;rw[<- hvc];exact pX (by rw[mH cU]at hnj;exact hnj)
 have h7:p.cB.any (λc=>oI c.e (gi p))=false:=pX (by rw[mH cU]at I;exact I);have V:fW p=0:=ce0 h1 h2 h3 h4 h5 h6 h7;refine aO E.p3 kh (ei rfl) rfl (λwa E=>aO E.p3 bL (ei rfl) rfl λwb E=>?_);refine TM.take ds E.p2 (λw54 E=>?_);exact aB kh E.p1.hb rfl (aB bL E.hb rfl ⟨_,by rw[V],E.aG⟩)
theorem wY{x:aU}{c:gz}{cells lines locks:Int}(h:1<=x.kind/\x.kind<=15):xP x c cells lines locks=(aM x c.aS c.counts&&bM x cells lines locks&&(if vi x.kind=true then fa x.e c.aS else !decide (0<(x.e.length:Int)))&&(if x.kind=4 then fa x.f c.aS else !decide (0<(x.f.length:Int)))):=by
 unfold xP efM
 rw[fY h.1,fY h.2]
 cases aM x c.aS c.counts<;>cases bM x cells lines locks<;>simp
theorem ac8{x:aU}{c:gz}{cells lines locks:Int}(h:¬ (1<=x.kind/\x.kind<=15)):xP x c cells lines locks=false:=by
 unfold xP
 by_cases h1:1<=x.kind
 .rw[gk (show ¬ x.kind<=15 by omega)];simp
 rw[gk h1];simp
def C308(y:aU)(O:bK)(b1:Nat)(a:Int)(w:World)(U:n4 w O y)(hc:Cell w b1 1 (iE a)):CR 308 [jj O,.pointer (some ⟨b1,0,none⟩)] w (λv w'=>v=.bool (vj y a)/\Ext w w'):=by
 obtain⟨G,M,rfl,E,I⟩:=U;have B:=St.start w;refine fD Tryz.func308 ?_;refine cP B (λJ _ B=>⟨λV w'=>V=.bool (vj y a)/\St w bE [bU J (jl (⟨y.kind,y.a,y.b,G,M,y.to⟩:bK))] w',aA kQ (aB (v:=iE y.kind) bL B.hb rfl (aI (aC (λ_=>aA lI (aB (v:=iE y.a) bL B.hb rfl (aA lI (bN bL (hc.ext B.aG) (aI ⟨vb (by unfold vj;grind),B⟩))))) λ_=>⟨vb (by unfold vj;grind),B⟩))),?_⟩);rintro _ _ ⟨rfl,B⟩ _;exact⟨rfl,B.drop.aG⟩
set_option maxRecDepth 512 in
theorem C240(lv:Value)(xs:List aU)(i:Nat)(x:aU)(w:World)(hL:DL w lv xs)(hn:xs.length<=1048576)(hx:xs[i]?=some x):CR 240 [lv,iE (i:Int)] w (λv w'=>v=.bool (F6 xs i x)/\Ext w w'):=by
 have hi:=(j0.1 hx).1;have B:=St.start w;refine agt _ _ _ _ ?_;unfold S240;obtain⟨V,M,W⟩:=hL.open;have hn102:=W.1;obtain⟨e_x8,I⟩:=gx V (i:=(i:Int).toNat) cU;obtain⟨E,O⟩:=gx xs (i:=(i:Int).toNat) cU;obtain⟨U,J,rfl,aBW,aBX⟩:=W.2 _ _ _ I O;refine aW pE M cU I (λ_ Z=>?_);obtain rfl:E=x:=o5.inj (O.symm.trans hx);refine aE ie (Z.ext B.aG) (aJ B oN λA9 w1 B=>have B:=B.enc (cs':=jl (⟨0,0,0,bO,bO,0⟩:bK)) rfl;aH (x:=(⟨E.kind,E.a,E.b,U,J,E.to⟩:bK)) B ie rfl rfl λ_ B=>⟨λjv w'=>jv=.bool (!btM xs i E)/\St w bE [bU A9 (jl (⟨E.kind,E.a,E.b,U,J,E.to⟩:bK))] w',aA jH (have B:=B.drew;aB (v:=iE E.to) bL B.hb rfl (aV (aC (λ_=>⟨vb (by first|(rw[QH cU];rfl)|(rw[acu cU cU G];unfold vj;first|grind|simp_all)),B⟩) λmX=>aA jH (aB (v:=iE E.to) bL B.hb rfl (eh (aC (λ_=>⟨vb (by first|(rw[QH cU];rfl)|(rw[acu cU cU G];unfold vj;first|grind|simp_all)),B⟩) λzK=>?_)))))),?_⟩)
 .refine aA jH (aB (v:=iE E.to) bL B.hb rfl (fO cU ?_));obtain⟨iY,Y⟩:=gx V (i:=(E.to-1).toNat) cU;obtain⟨Ga,G⟩:=gx xs (i:=(E.to-1).toNat) cU;obtain⟨ayi,ayj,rfl,ayk,ayl⟩:=W.2 _ _ _ Y G;refine aW pE M cU Y (λ_ wL=>?_);exact cL Ga.kind kQ wL rfl rfl (λ_ zY=>aE bL (zY.ext B.aG) (cN (aC (λ_=>⟨vb (by first|(rw[QH cU];rfl)|(rw[acu cU cU G];unfold vj;first|grind|simp_all)),B⟩) λ_=>aA jH (aB (v:=iE E.to) bL B.hb rfl (fO cU (aW pE M cU Y λ_ tZ=>cL Ga.a lI tZ rfl rfl λ_ IP=>aE bL (IP.ext B.aG) (aA lI (aB (v:=iE E.a) bL B.hb rfl (cN ⟨vb (by first|(rw[QH cU];rfl)|(rw[acu cU cU G];unfold vj;first|grind|simp_all)),B⟩)))))))))
 rintro _ _ ⟨rfl,B⟩ _;refine aX (λDm=>⟨vb ((acw (by simpa using Dm)).symm),B.drop.aG⟩) (λDm=>?_);have SA:btM xs i E=true:=by simpa using Dm
 have hto:=atV SA;refine aA jH (aB (v:=iE E.to) bL B.hb rfl (qL pE (M.ext B.aG) cU cU cU λacI IW=>?_));have E2:=DL.cut IW M W
 have hfn:lr hZ _ (.func (.func 308) [].toArray [.pointer (some ⟨A9,0,none⟩)].toArray) (λ_:aU=>True) (λy=>vj y E.a):=
  ⟨308,[],_,rfl,arF,λs y w1 e1 hd _=>C308 y s A9 E.a w1 hd ((B.hb.cell rfl).ext e1)⟩
 refine aY arE B (C307 _ _ _ (λ_=>True) _ _ (E2.ext B.aG) hfn (λ_ _=>trivial) (by simp;omega)) (λ_ he B=>bJ ?_);refine⟨vb ?_,B.drop.aG⟩;unfold F6;rw[SA];simp only[yx]
 congr 2
def C241(lv:Value)(xs:List aU)(w:World)(hL:DL w lv xs)(hn:xs.length<=1048576)(hb:akG xs):CR 241 [lv] w (λv w'=>v=.bool (!(qi xs.length).any (sT xs))/\Ext w w'):=by
 have B:=St.start w;refine agu _ _ _ ?_;unfold S241;obtain⟨Z,I,O⟩:=hL.open;have hn103:=O.1;refine aK pE (I.ext B.aG) ?_;have B:=B.eU (α:=Int);refine⟨λm Cx x w1=>∃k:Nat,x=iE (k:Int)/\m=xs.length-k/\k<=xs.length/\(∀j,j<k->sT xs j=false)/\St w bE [bG Cx (qg xs k)] w1,⟨_,0,rfl,rfl,ob _,et,B⟩,?_⟩;rintro m Cx _ w1 ⟨k,rfl,rfl,hk,eT,B⟩ _;have Lb:=Lt xs k;refine aV (aC (λoG=>?_) λoG=>?_)
 .obtain⟨yE,qh⟩:=gx Z (i:=(k:Int).toNat) cU;obtain⟨E,M⟩:=gx xs (i:=(k:Int).toNat) cU;obtain⟨Ny,Nz,rfl,aym,ayn⟩:=O.2 _ _ _ qh M;refine⟨λGU w'=>sT xs k=false/\St w bE [bG GU (qg xs (k+1))] w',aW pE I cU qh (λ_ Dg=>aE ie (Dg.ext B.aG) (aJ B oN λA9 _ B=>have B:=B.enc (cs':=jl (⟨0,0,0,bO,bO,0⟩:bK)) rfl;aH (x:=(⟨E.kind,E.a,E.b,Ny,Nz,E.to⟩:bK)) B ie rfl rfl λ_ B=>aA kQ (aB (v:=iE E.kind) bL B.hb rfl (cN (aC (λjh=>?_) λjh=>?_))))),?_⟩
  .have B:=B.drop;rw[acx (k:=k) M cU]at B;exact⟨by rw[AO (i:=k) M,gk (show ¬ E.kind=14 by omega)];rfl,B⟩
  .have hto:=hb k E M cU;refine aA jH (aB (v:=iE E.to) bL B.hb rfl (fO cU (aK dZ B.p1.fc ?_)));have B:=B.p1.p1;refine⟨λm x w1=>∃q:Nat,x=iE (q:Int)/\m=(qg xs k).length-q/\q<=(qg xs k).length/\(∀e∈(qg xs k).take q,xR xs E e.toNat=false)/\St w bE [bU A9 (jl (⟨E.kind,E.a,E.b,Ny,Nz,E.to⟩:bK)),bG Cx (qg xs k)] w1,⟨_,0,rfl,rfl,ob _,et,B⟩,?_⟩;rintro m _ _ ⟨q,rfl,rfl,hq,G,B⟩ _;refine aV (aC (λzV=>?_) λzV=>?_)
   .obtain⟨W,TR⟩:=gx (qg xs k) (i:=(q:Int).toNat) cU;refine dN B.p1 dZ cU cU (λ_ Q0=>?_);obtain⟨j,U,hjk,y,V,J⟩:=Yy (ml TR);have SN:=(j0.1 V).1;have hyto:=hb j y V J;refine gW B.p1 bL Q0 TR ?_;obtain⟨auP,E9⟩:=gx Z (i:=(W).toNat) cU;obtain⟨akY,Y⟩:=gx xs (i:=(W).toNat) cU;obtain⟨ayo,ayp,rfl,ayq,ayr⟩:=O.2 _ _ _ E9 Y;refine aW pE I cU E9 (λ_ yz=>cL akY.to jH yz rfl rfl λ_ Dh=>aE bL (Dh.ext B.aG) ?_)
    obtain rfl:akY=y:=o5.inj (Y.symm.trans (by rw[U];exact V));refine fO cU ⟨λjv w'=>jv=.bool (xR xs E j)/\St w bE [bU A9 (jl (⟨E.kind,E.a,E.b,Ny,Nz,E.to⟩:bK)),bG Cx (qg xs k)] w',aV (aC (λ_=>dC ⟨vb (by rw[Dj V,fY J];grind),B⟩) λ_=>⟨vb (by rw[Dj V,fY J];grind),B⟩),?_⟩;rintro _ _ ⟨rfl,B⟩ _;refine aX (λpx=>?_) (λpx=>aR cU ⟨_,cU,q+1,rfl,rfl,cU,fg G TR (by rw[U];exact px),B⟩);have B:=B.drop.drop;refine⟨vb ?_,B.aG⟩
    rw[zX (f:=sT xs) (j:=k) cU (by rw[AO (i:=k) M,fY (show E.kind=14 by omega)];exact zX (j:=j) hjk px)];rfl
   refine bV ([(k:Int)]:List Int) B dZ rfl rfl (ei rfl) (λauQ _ B=>?_);have I1:=B.fc;refine cK B.p2 dZ I1 (by have:=Lt xs k;simp;omega) er (λs_x47 _ B=>?_);have B:=B.p1.drop.p1.drop;rw[Yx (k:=k) M cU]at B;exact⟨by rw[AO (i:=k) M,acy (by rw[mH cU]at G;exact G)];simp,B⟩
  rintro GU _ ⟨Lv,B⟩ _;exact aR cU ⟨_,cU,k+1,rfl,rfl,cU,Nf eT Lv,B⟩
 have B:=B.drop;refine⟨vb ?_,B.aG⟩;rw[rK (f:=sT xs) λj _=>eT j cU];rfl
def C134(u:ki)(O:eO)(w:World)(hu:n4 w O u)(hz:UZ u)(hb:∀n∈u.lines,-1<=n/\n<=(u.lines.length:Int)):CR 134 [jj O] w (λv w'=>v=iE (iw u)/\Ext w w'):=by
 obtain⟨jA,iL,fz,vl,W,rfl,U,ko,j3,V,mh⟩:=hu;obtain⟨dY,rfl,jo⟩:=V;have B:=St.start w;refine fD Tryz.func134 ?_;refine cP B (λZ _ B=>⟨λjv w'=>jv=.bool (decide (¬ (1<=u.stays/\u.stays<=u.lines.length)))/\St w bE [bU Z (jl (⟨jA,u.stays,iL,u.locks,fz,(⟨u.recover.aS,u.recover.counts,dY⟩:dI),W⟩:eO))] w',aA qX (aB (v:=iE u.stays) bL B.hb rfl (aV (aC (λ_=>⟨vb dH,B⟩) λauR=>?_))),?_⟩)
 .refine aA qX (aB (v:=iE u.stays) bL B.hb rfl (aA nV (aB eD B.hb rfl ?_)));have G:=DL.flat U;exact aK dZ (G.ext B.aG) (eh ⟨vb dH,B⟩)
 rintro _ _ ⟨rfl,B⟩ _;refine aX (λM=>?_) (λM=>?_)
 .have E:¬ (1<=u.stays/\u.stays<=u.lines.length):=hG M;exact⟨gD (n5 .i64) (by unfold iw;rw[ew E]),B.drop.aG⟩
 have E:1<=u.stays/\u.stays<=u.lines.length:=by simpa using M
 have Y:=hz.lines;refine aA nV (aB eD B.hb rfl ?_);have J:=DL.flat U;refine aA qX (aB (v:=iE u.stays) bL B.hb rfl (fO cU ?_));obtain⟨jN,I⟩:=gx u.lines (i:=(u.stays-1).toNat) cU;refine aW dZ J cU I (λ_ kW=>aE bL (kW.ext B.aG) ?_);have hbe:=hb _ (ml I);exact aR cU ⟨gD (n5 .i64) (by unfold iw;rw[ez E,pd,I];rfl),B.drop.aG⟩
def C131(n:Int)(w:World):CR 131 [iE n] w (λv w'=>v=.bool (mG n)/\Ext w w'):=by
 have B:=St.start w;refine fD Tryz.func131 ?_;refine⟨λE w'=>E=.bool (mG n)/\St w bE [] w',aV (aC (λ_=>⟨vb (by unfold mG;grind),B⟩) λ_=>eh ⟨vb (by unfold mG;grind),B⟩),?_⟩;rintro _ _ ⟨rfl,B⟩ _;exact⟨rfl,B.aG⟩
def C135(lv:Value)(xs:List nW)(b1:Nat)(many:Int)(w:World)(E:dP (λ_=>True) w lv xs)(hc:Cell w b1 1 (iE many))(G:xs.length<=1000):CR 135 [lv,.pointer (some ⟨b1,0,none⟩)] w (λv w'=>v=.bool (!fa xs many)/\Ext w w'):=by
 have B:=St.start w;refine fD Tryz.func135 ?_;exact aA qX (bN bL (hc.ext B.aG) (aY Vu B (C136 _ _ _ _ (E.ext B.aG) cU) λ_ _ B=>bJ ⟨rfl,B.aG⟩))
def adg{c:gz}{cells lines locks:Int}(h:∀j,j<c.l.length->xQ c cells lines locks j=false):akG c.l:=by
 intro i x B E
 have:=h i (j0.1 B).1
 rw[wT B]at this
 simp only[Bool.or_eq_false_iff,Bool.not_eq_false']at this
 exact acv E this.2
theorem I2{l:List Int}{k:Nat}{e:Int}(h:l[k]?=some e):kY l (k+1)=e+1:=by
 unfold kY;rw[ew cU,Nat.add_sub_cancel,pd,h];rfl
def C133(c:gz)(cv:dI)(cells lines locks:Int)(w:World)(hc:n4 w cv c)(hz:CZ c):CR 133 [jj cv,iE cells,iE lines,iE locks] w (λv w'=>v=.bool (mF c cells lines locks)/\Ext w w'):=by
 obtain⟨O,rfl,I3⟩:=hc;have hzl:=hz.l;have B:=St.start w;refine agm _ _ _ _ _ _ ?_;unfold S133;refine cP B (λU w1 B=>⟨λM w'=>M=.bool (xS c)/\St w bE [bU U (jl (⟨c.aS,c.counts,O⟩:dI))] w',?_,?_⟩)
 .refine aA AE (aB (v:=iE c.aS) bL B.hb rfl ?_);exact aV (aC (λ_=>⟨vb (by unfold xS;grind),B⟩) λ_=>aA AE (aB (v:=iE c.aS) bL B.hb rfl (eh (aC (λ_=>⟨vb (by unfold xS;grind),B⟩) λ_=>aA GV (aB (v:=iE c.counts) bL B.hb rfl (aV (aC (λ_=>⟨vb (by unfold xS;grind),B⟩) λ_=>aA GV (aB (v:=iE c.counts) bL B.hb rfl (eh ⟨vb (by unfold xS;grind),B⟩)))))))))
 rintro _ _ ⟨rfl,B⟩ _;refine aX (λkF=>?_) (λkF=>?_)
 .have B:=B.drop;refine⟨vb ?_,B.aG⟩;unfold mF;rw[kF];rfl
 refine aA nU (aB pD B.hb rfl ?_);obtain⟨auU,Z,akZ⟩:=I3.open;have hn106:=akZ.1;refine aK pE (Z.ext B.aG) ?_;refine⟨λm x w1=>∃k:Nat,x=iE (k:Int)/\m=c.l.length-k/\k<=c.l.length/\(∀j,j<k->xQ c cells lines locks j=false)/\St w bE [bU U (jl (⟨c.aS,c.counts,O⟩:dI))] w1,⟨_,0,rfl,rfl,ob _,et,B⟩,?_⟩;rintro m _ _ ⟨k,rfl,rfl,hk,eT,B⟩ _;refine aV (aC (λIk=>?_) λIk=>?_)
 .obtain⟨ak0,NA⟩:=gx auU (i:=(k:Int).toNat) cU;obtain⟨E,Y⟩:=gx c.l (i:=(k:Int).toNat) cU;obtain⟨W,V,rfl,WA,WB⟩:=akZ.2 _ _ _ NA Y;refine aW pE Z cU NA (λ_ Q1=>aE ie (Q1.ext B.aG) (aJ B oN λG _ B=>have B:=B.enc (cs':=jl (⟨0,0,0,bO,bO,0⟩:bK)) rfl;aH (x:=(⟨E.kind,E.a,E.b,W,V,E.to⟩:bK)) B ie rfl rfl λ_ B=>⟨λM w'=>M=.bool (decide (E.kind<1)||decide (16<=E.kind))/\St w bE [bU G (jl (⟨E.kind,E.a,E.b,W,V,E.to⟩:bK)),bU U (jl (⟨c.aS,c.counts,O⟩:dI))] w',aA kQ (aB (v:=iE E.kind) bL B.hb rfl (aV (aC (λ_=>⟨vb dH,B⟩) λ_=>aA kQ (aB (v:=iE E.kind) bL B.hb rfl (dC ⟨vb dH,B⟩))))),?_⟩))
  rintro _ _ ⟨rfl,B⟩ _;refine aX (λauV=>?_) (λauV=>?_)
  .have B:=B.drop.drop;refine⟨vb ?_,B.aG⟩;unfold mF;rw[zX (f:=xQ c cells lines locks) (j:=k) cU (by rw[wT (i:=k) Y,ac8 dH];rfl)];simp
  have I:1<=E.kind/\E.kind<=15:=dH
  refine aA lI (have B:=B.drew;aB (v:=iE E.a) bL B.hb rfl (aA AE (aB (v:=iE c.aS) bL B.p1.hb rfl (fm (first:=[]) (cap:=[.pointer (some ⟨G,0,none⟩)]) uU (C236 E.kind 114 G (decide (E.kind=1\/E.kind=2\/E.kind=4)) _ (B.hb.cell rfl) I ((qf I).1)) ?_))));rintro _ _ ⟨rfl,J⟩;have B:=B.ext J;refine⟨aF bL (B.hb.cell rfl),?_⟩;refine⟨aF bL (B.p1.hb.cell rfl),?_⟩;refine aY O5 B (C239 _ _ _ _) (λ_ J B=>⟨λM w'=>M=.bool (aM E c.aS c.counts)/\St w bE [bU G (jl (⟨E.kind,E.a,E.b,W,V,E.to⟩:bK)),bU U (jl (⟨c.aS,c.counts,O⟩:dI))] w',?_,?_⟩)
  .refine fm (first:=[]) (cap:=[.pointer (some ⟨G,0,none⟩)]) uU (C236 E.kind 107 G (decide (E.kind=13\/E.kind=14)) _ (B.hb.cell rfl) I ((qf I).2.1)) ?_;rintro _ _ ⟨rfl,J⟩;have B:=B.ext J;exact aX (λ_=>aA lI (aB (v:=iE E.a) bL B.hb rfl (aA GV (aB (v:=iE c.counts) bL B.p1.hb rfl (aY O5 B (C239 true _ _ _) λ_ _ B=>⟨vb (by unfold aM;grind),B⟩))))) (λ_=>⟨vb (by unfold aM;grind),B⟩)
  rintro _ _ ⟨rfl,B⟩ _;refine aA fR (aB (v:=iE E.b) bL B.hb rfl (aI ⟨λM w'=>M=.bool (bM E cells lines locks)/\St w bE [bU G (jl (⟨E.kind,E.a,E.b,W,V,E.to⟩:bK)),bU U (jl (⟨c.aS,c.counts,O⟩:dI))] w',?_,?_⟩))
  .refine fm (first:=[]) (cap:=[.pointer (some ⟨G,0,none⟩)]) uU (C236 E.kind 99 G (decide (E.kind=2\/E.kind=3\/E.kind=4)) _ (B.hb.cell rfl) I ((qf I).2.2.1)) ?_;rintro _ _ ⟨rfl,J⟩;have B:=B.ext J;refine aX (λ_=>aA fR (aB (v:=iE E.b) bL B.hb rfl (aY O5 B (C239 true _ _ _) λ_ _ B=>⟨vb (by unfold bM;grind),B⟩))) (λQ3=>fm (first:=[]) (cap:=[.pointer (some ⟨G,0,none⟩)]) uU (C236 E.kind 108 G (decide (E.kind=5\/E.kind=6)) _ (B.hb.cell rfl) I ((qf I).2.2.2.1)) ?_);rintro _ _ ⟨rfl,J⟩;have B:=B.ext J;refine aX (λ_=>aA fR (aB (v:=iE E.b) bL B.hb rfl (aY O5 B (C239 true _ _ _) λ_ _ B=>⟨vb (by unfold bM;grind),B⟩))) (λc_x78=>fm (first:=[]) (cap:=[.pointer (some ⟨G,0,none⟩)]) uU (C236 E.kind 109 G (decide (E.kind=9\/E.kind=10)) _ (B.hb.cell rfl) I ((qf I).2.2.2.2.1)) ?_)
   rintro _ _ ⟨rfl,J⟩;have B:=B.ext J;refine aX (λ_=>aA fR (aB (v:=iE E.b) bL B.hb rfl (aY O5 B (C239 true _ _ _) λ_ _ B=>⟨vb (by unfold bM;grind),B⟩))) (λc_x85=>fm (first:=[]) (cap:=[.pointer (some ⟨G,0,none⟩)]) uU (C236 E.kind 110 G (decide (E.kind=13)) _ (B.hb.cell rfl) I ((qf I).2.2.2.2.2.1)) ?_);rintro _ _ ⟨rfl,J⟩;have B:=B.ext J;exact aX (λ_=>aA fR (aB (v:=iE E.b) bL B.hb rfl (dC (aC (λ_=>aA fR (aB (v:=iE E.b) bL B.hb rfl (kq ⟨vb (by unfold bM;grind),B⟩))) λ_=>⟨vb (by unfold bM;grind),B⟩)))) (λ_=>⟨vb (by unfold bM;grind),B⟩)
  rintro _ _ ⟨rfl,B⟩ _;refine⟨λM w'=>M=.bool (if vi E.kind=true then fa E.e c.aS else !decide (0<(E.e.length:Int)))/\St w bE [bU G (jl (⟨E.kind,E.a,E.b,W,V,E.to⟩:bK)),bU U (jl (⟨c.aS,c.counts,O⟩:dI))] w',?_,?_⟩
  .refine fm (first:=[]) (cap:=[.pointer (some ⟨G,0,none⟩)]) uU (C236 E.kind 101 G (vi E.kind) _ (B.hb.cell rfl) I ((qf I).2.2.2.2.2.2.1)) ?_;rintro _ _ ⟨rfl,J⟩;have B:=B.ext J;refine aX (λanv=>?_) (λanv=>?_)
   .refine aA wz (aB sE B.hb rfl ?_);have ak1:=DL.flat WA;refine aA AE (aB (v:=iE c.aS) bL B.p1.hb rfl (aY Vu B (C136 _ _ _ _ (ak1.ext B.aG) (by have:=hz.ef _ (ml Y);omega)) λ_ J B=>aX (λ_=>⟨vb dH,B⟩) λanw=>fm (first:=[]) (cap:=[.pointer (some ⟨G,0,none⟩)]) uU (C236 E.kind 101 G (vi E.kind) _ (B.hb.cell rfl) I ((qf I).2.2.2.2.2.2.1)) ?_));rintro _ _ ⟨rfl,J⟩;have B:=B.ext J;exact bJ (aX (λ_=>aA wz (aB sE B.hb rfl (aK rz (ak1.ext B.aG) (aI ⟨vb dH,B⟩)))) λ_=>⟨vb dH,B⟩)
   refine fm (first:=[]) (cap:=[.pointer (some ⟨G,0,none⟩)]) uU (C236 E.kind 101 G (vi E.kind) _ (B.hb.cell rfl) I ((qf I).2.2.2.2.2.2.1)) ?_;rintro _ _ ⟨rfl,J⟩;have B:=B.ext J;refine bJ (aX (λauW=>?_) λ_=>⟨vb dH,B⟩);refine aA wz (aB sE B.hb rfl ?_);have auX:=DL.flat WA;exact aK rz (auX.ext B.aG) (aI ⟨vb dH,B⟩)
  rintro _ _ ⟨rfl,B⟩ _;refine⟨λM w'=>M=.bool (if E.kind=4 then fa E.f c.aS else !decide (0<(E.f.length:Int)))/\St w bE [bU G (jl (⟨E.kind,E.a,E.b,W,V,E.to⟩:bK)),bU U (jl (⟨c.aS,c.counts,O⟩:dI))] w',?_,?_⟩
  .refine fm (first:=[]) (cap:=[.pointer (some ⟨G,0,none⟩)]) uU (C236 E.kind 102 G (decide (E.kind=4)) _ (B.hb.cell rfl) I ((qf I).2.2.2.2.2.2.2.1)) ?_;rintro _ _ ⟨rfl,J⟩;have B:=B.ext J;refine aX (λIU=>?_) (λIU=>?_)
   .refine aA wA (aB sE B.hb rfl ?_);have ak2:=DL.flat WB;refine aA AE (aB (v:=iE c.aS) bL B.p1.hb rfl (aY Vu B (C136 _ _ _ _ (ak2.ext B.aG) (by have:=hz.ef _ (ml Y);omega)) λ_ J B=>aX (λ_=>⟨vb dH,B⟩) λaBZ=>fm (first:=[]) (cap:=[.pointer (some ⟨G,0,none⟩)]) uU (C236 E.kind 102 G (decide (E.kind=4)) _ (B.hb.cell rfl) I ((qf I).2.2.2.2.2.2.2.1)) ?_));rintro _ _ ⟨rfl,J⟩;have B:=B.ext J;exact bJ (aX (λ_=>aA wA (aB sE B.hb rfl (aK rz (ak2.ext B.aG) (aI ⟨vb dH,B⟩)))) λ_=>⟨vb dH,B⟩)
   refine fm (first:=[]) (cap:=[.pointer (some ⟨G,0,none⟩)]) uU (C236 E.kind 102 G (decide (E.kind=4)) _ (B.hb.cell rfl) I ((qf I).2.2.2.2.2.2.2.1)) ?_;rintro _ _ ⟨rfl,J⟩;have B:=B.ext J;refine bJ (aX (λauY=>?_) λ_=>⟨vb dH,B⟩);refine aA wA (aB sE B.hb rfl ?_);have auZ:=DL.flat WB;exact aK rz (auZ.ext B.aG) (aI ⟨vb dH,B⟩)
  rintro _ _ ⟨rfl,B⟩ _;refine aA jH (aB (v:=iE E.to) bL B.hb rfl (aI ⟨λM w'=>M=.bool (Nl c.l k E)/\St w bE [bU G (jl (⟨E.kind,E.a,E.b,W,V,E.to⟩:bK)),bU U (jl (⟨c.aS,c.counts,O⟩:dI))] w',⟨λM w'=>M=.bool (decide (E.kind=14))/\St w bE [bU G (jl (⟨E.kind,E.a,E.b,W,V,E.to⟩:bK)),bU U (jl (⟨c.aS,c.counts,O⟩:dI))] w',?_,?_⟩,?_⟩))
  .refine fm (first:=[]) (cap:=[.pointer (some ⟨G,0,none⟩)]) uU (C236 E.kind 116 G (decide (E.kind=11\/E.kind=12\/E.kind=14)) _ (B.hb.cell rfl) I ((qf I).2.2.2.2.2.2.2.2)) ?_;rintro _ _ ⟨rfl,J⟩;have B:=B.ext J;exact aX (λ_=>aA kQ (aB (v:=iE E.kind) bL B.hb rfl (aI ⟨vb dH,B⟩))) (λ_=>⟨vb dH,B⟩)
  .rintro _ _ ⟨rfl,B⟩ _;refine aX (λ_=>aA nU (aB pD B.p1.hb rfl (aY ari B (C240 _ _ _ _ _ (I3.ext B.aG) cU Y) λ_ _ B=>⟨vb (by unfold Nl;grind),B⟩))) (λaB0=>fm (first:=[]) (cap:=[.pointer (some ⟨G,0,none⟩)]) uU (C236 E.kind 116 G (decide (E.kind=11\/E.kind=12\/E.kind=14)) _ (B.hb.cell rfl) I ((qf I).2.2.2.2.2.2.2.2)) ?_);rintro _ _ ⟨rfl,J⟩;have B:=B.ext J;exact aX (λ_=>aA jH (aB (v:=iE E.to) bL B.hb rfl (eh (aC (λ_=>aA jH (aB (v:=iE E.to) bL B.hb rfl (aA nU (aB pD B.p1.hb rfl (aK pE (Z.ext B.aG) (kq ⟨vb (by unfold Nl;grind),B⟩)))))) λ_=>⟨vb (by unfold Nl;grind),B⟩)))) (λ_=>⟨vb (by unfold Nl;grind),B⟩)
  rintro _ _ ⟨rfl,B⟩ _;refine⟨λM w'=>M=.bool (!xP E c cells lines locks||!Nl c.l k E)/\St w bE [bU G (jl (⟨E.kind,E.a,E.b,W,V,E.to⟩:bK)),bU U (jl (⟨c.aS,c.counts,O⟩:dI))] w',bJ (aX (λ_=>⟨vb (by rw[wY I];grind),B⟩) λ_=>bJ (aX (λ_=>⟨vb (by rw[wY I];grind),B⟩) λ_=>bJ (aX (λ_=>⟨vb (by rw[wY I];grind),B⟩) λ_=>bJ (aX (λ_=>⟨vb (by rw[wY I];grind),B⟩) λ_=>bJ ⟨vb (by rw[wY I];grind),B⟩)))),?_⟩;rintro _ _ ⟨rfl,B⟩ _;refine aX (λTS=>?_) (λTS=>aR cU (have B:=B.drop;⟨_,cU,k+1,rfl,rfl,cU,Nf eT (by rw[wT (i:=k) Y];exact TS),B⟩))
  have B:=B.drop.drop;refine⟨vb ?_,B.aG⟩;unfold mF;rw[zX (f:=xQ c cells lines locks) (j:=k) cU (by rw[wT (i:=k) Y];exact TS)];simp
 refine aA nU (aB pD B.hb rfl (aY arj B (C241 _ _ _ (I3.ext B.aG) cU (adg (cells:=cells) (lines:=lines) (locks:=locks) λj _=>eT j cU)) λ_ J B=>?_));have B:=B.drop;refine⟨vb ?_,B.aG⟩;unfold mF;rw[kF,rK (f:=xQ c cells lines locks) λj _=>eT j cU];simp
def C132(c:gz)(cv:dI)(u:ki)(J:eO)(b1:Nat)(w:World)(hc:n4 w cv c)(G:At (λ_=>True) w (.pointer (some ⟨b1,0,none⟩)) J)(hu:n4 w J u)(hz:CZ c)(E:UZ u)(hb:∀n∈u.lines,-1<=n/\n<=(u.lines.length:Int)):CR 132 [jj cv,.pointer (some ⟨b1,0,none⟩)] w (λv w'=>v=.bool (!mF c u.lines.length (iw u) u.locks)/\Ext w w'):=by
 obtain⟨wZ,rfl,I3⟩:=hc;obtain⟨O,iL,fz,vl,fM,rfl,U,ko,j3,Z,mh⟩:=hu;obtain⟨W,rfl,Y⟩:=Z;have B:=St.start w;refine pG Tryz.func132 (pl:=azy) ?_;refine cP B (λat7 _ B=>have B:=B.drew;aE si B.At (cL O nV G rfl rfl λ_ M=>aE eD (M.ext B.aG) ?_));have I:=DL.flat U;refine aK dZ (I.ext B.aG) (aE zj (G.ext B.aG) (cL u.locks GW G rfl rfl λ_ V=>aE bL (V.ext B.aG) (aY aqY B (C134 u _ _ ⟨O,iL,fz,(⟨u.recover.aS,u.recover.counts,W⟩:dI),fM,rfl,(U.ext B.aG),(ko.ext B.aG),(j3.ext B.aG),⟨W,rfl,(Y.ext B.aG)⟩,(mh.ext B.aG)⟩ E hb) λ_ he B=>?_)))
 refine⟨fJ si B.At,?_⟩;refine⟨fJ eD (M.ext B.aG),?_⟩;refine⟨fJ bL (V.ext B.aG),?_⟩;exact aY aqX B (C133 c _ _ _ _ _ ⟨wZ,rfl,(I3.ext B.aG)⟩ hz) (λ_ _ B=>bJ ⟨rfl,B.drop.aG⟩)
def C62(u:ki)(uv:eO)(w:World)(hu:n4 w uv u)(I:UZ u):CR 62 [jj uv] w (λv w'=>v=.bool (qR u)/\Ext w w'):=by
 have Z:=hu;obtain⟨jA,iL,W,vl,fM,rfl,jB,ko,j3,kZ,mh⟩:=hu;obtain⟨V,rfl,jo⟩:=kZ;have B:=St.start w;refine fD Tryz.func62 ?_;refine cP B (λE J B=>⟨λM w'=>M=.bool (mg u)/\St w bE [bU E (jl (⟨jA,u.stays,iL,u.locks,W,(⟨u.recover.aS,u.recover.counts,V⟩:dI),fM⟩:eO))] w',?_,?_⟩)
 .refine aA nV (aB eD B.hb rfl ?_);have O:=DL.flat jB;refine aK dZ (O.ext B.aG) (eh (aC (λ_=>⟨vb (by unfold mg;grind),B⟩) λoG=>aA qX (aB (v:=iE u.stays) bL B.hb rfl (aV (aC (λ_=>⟨vb (by unfold mg;grind),B⟩) λzK=>aA qX (aB (v:=iE u.stays) bL B.hb rfl (aA nV (aB eD B.hb rfl (aK dZ (O.ext B.aG) (eh (aC (λ_=>⟨vb (by unfold mg;grind),B⟩) λji=>aA CD (aB eD B.hb rfl ?_))))))))))));have au1:=DL.flat ko;refine aK dZ (au1.ext B.aG) (aA nV (aB eD B.hb rfl (aK dZ (O.ext B.aG) (cN (aC (λ_=>⟨vb (by unfold mg;grind),B⟩) λkF=>aA GW (aB (v:=iE u.locks) bL B.hb rfl (aV (aC (λ_=>⟨vb (by unfold mg;grind),B⟩) λIk=>aA GW (aB (v:=iE u.locks) bL B.hb rfl (eh (aC (λ_=>⟨vb (by unfold mg;grind),B⟩) λQ4=>aA uX (aB Ki B.hb rfl ?_))))))))))))
  obtain⟨ts114,ak3,au2⟩:=j3.open;have hn114:=au2.1;exact aK ED (ak3.ext B.aG) (aV (aC (λ_=>⟨vb (by unfold mg;grind),B⟩) λ_=>aA uX (aB Ki B.hb rfl (aK ED (ak3.ext B.aG) (eh ⟨vb (by unfold mg;grind),B⟩)))))
 rintro _ _ ⟨rfl,B⟩ _;refine aX (λWC=>?_) (λWC=>?_)
 .have B:=B.drop;refine⟨vb ?_,B.aG⟩;unfold qR;rw[WC];rfl
 obtain⟨FT,TT,OI,hb4,hb5,hb6,hb7,hb8⟩:=TE WC;have hzc:=I.cB;have hzt:=I.threads;have hzf:=I.dD;refine aA nV (aB eD B.hb rfl ?_);have Y:=DL.flat jB;refine aK dZ (Y.ext B.aG) ?_;refine⟨λm y x J=>∃(k:Nat) (last:Int),y=iE last/\x=iE (k:Int)/\m=u.lines.length-k/\k<=u.lines.length/\last=kY u.lines k-1/\(∀j,j<k->ly u j=false)/\St w bE [bU E (jl (⟨jA,u.stays,iL,u.locks,W,(⟨u.recover.aS,u.recover.counts,V⟩:dI),fM⟩:eO))] J,⟨_,0,-1,rfl,rfl,rfl,ob _,rfl,et,B⟩,?_⟩
 rintro m _ _ w3 ⟨k,last,rfl,rfl,rfl,hk,ak6,G,B⟩ _;refine aV (aC (λBx=>?_) λBx=>?_)
 .obtain⟨ak7,NB⟩:=gx u.lines (i:=(k:Int).toNat) cU;refine aW dZ Y cU NB (λ_ acr=>?_)
  have hwb : -1<=last/\last<=(k:Int):=by
   by_cases h0:k=0
   .subst h0;rw[ak6];unfold kY;simp
   .obtain⟨m,hm⟩:=gx u.lines (i:=k-1) cU;have h1:=IT G (k-1) m cU hm;have h2:=I2 hm;rw[show k-1+1=k from cU]at h2;omega
  refine aE bL (acr.ext B.aG) ⟨λM w'=>M=.bool (decide (0<(k:Int))&&decide ((k:Int)<u.stays)&&decide (ak7=last))/\St w bE [bU E (jl (⟨jA,u.stays,iL,u.locks,W,(⟨u.recover.aS,u.recover.counts,V⟩:dI),fM⟩:eO))] w',eh (aC (λ_=>aA qX (aB (v:=iE u.stays) bL B.hb rfl (aV (aC (λ_=>aI ⟨vb dH,B⟩) λ_=>⟨vb dH,B⟩)))) λ_=>⟨vb dH,B⟩),?_⟩;rintro _ _ ⟨rfl,B⟩ _;refine⟨λM w'=>M=.bool (ly u k)/\St w bE [bU E (jl (⟨jA,u.stays,iL,u.locks,W,(⟨u.recover.aS,u.recover.counts,V⟩:dI),fM⟩:eO))] w',bJ (aX (λ_=>aR cU (cN ⟨vb (by rw[Ls (k:=k) NB];grind),B⟩)) λ_=>⟨vb (by rw[Ls (k:=k) NB];grind),B⟩),?_⟩
  rintro _ _ ⟨rfl,B⟩ _;refine aX (λU=>?_) (λU=>aR cU ⟨_,cU,k+1,ak7,rfl,rfl,rfl,cU,by rw[I2 (k:=k) NB];omega,Nf G U,B⟩);have B:=B.drop;refine⟨vb ?_,B.aG⟩;unfold qR;rw[zX (f:=ly u) (j:=k) cU U];simp
 have hL:(qi u.lines.length).any (ly u)=false:=rK (λj _=>G j cU);have hsm:=QI (u:=u) (λj _=>G j cU);refine⟨λM w'=>M=.bool ((!u.dD.any mG)&&(!u.threads.any λc=>!mF c u.lines.length (iw u) u.locks)&&mF u.recover u.lines.length (iw u) u.locks&&(!u.cB.any λl=>!fa l u.stays))/\St w bE [bU E (jl (⟨jA,u.stays,iL,u.locks,W,(⟨u.recover.aS,u.recover.counts,V⟩:dI),fM⟩:eO))] w',?_,?_⟩
 .refine aA CD (aB eD B.hb rfl ?_);have au3:=DL.flat ko;have hf1:vG w3 (.func (.func 131) #[] #[]) mG:=⟨131,[],[],rfl,aqW,λx J _=>C131 x J⟩;refine aY aq0 B (C137 _ _ _ mG _ (au3.ext B.aG) hf1 cU) (λ_ he B=>bJ (aX (λc_x95=>?_) λ_=>⟨vb dH,B⟩));refine aA uX (aB Ki B.hb rfl ?_);have KM:lr hZ _ (.func (.func 132) [].toArray [.pointer (some ⟨E,0,none⟩)].toArray) CZ (λc=>!mF c u.lines.length (iw u) u.locks):=⟨132,[],_,rfl,ajC,λs c J e1 hd hzc=>C132 c s u _ E J hd (B.At.ext e1) (B4 Z (Ext.trans B.aG e1)) hzc I hsm⟩
  refine aY aq1 B (C138 _ _ _ CZ (λc=>!mF c u.lines.length (iw u) u.locks) _ (j3.ext B.aG) KM I.th cU) (λ_ he B=>bJ (aX (λadk=>?_) λ_=>⟨vb dH,B⟩));refine aA CE (oO (⟨u.recover.aS,u.recover.counts,V⟩:dI) si B.hb rfl (fm (first:=[]) (cap:=[.pointer (some ⟨E,0,none⟩)]) ajC (C132 u.recover _ u _ E _ ⟨V,rfl,(jo.ext B.aG)⟩ B.At (B4 Z B.aG) I.rc I hsm) ?_));rintro _ _ ⟨rfl,he⟩;have B:=B.ext he;refine bJ (aX (λanw=>?_) λ_=>⟨vb dH,B⟩);refine aA AF (aB Yf B.hb rfl ?_)
  have hf3:lr hZ _ (.func (.func 135) [].toArray [.pointer (some ⟨E,0,none⟩)].toArray) (λl:List nW=>l.length<=1000) (λl=>!fa l u.stays):=⟨135,[],_,rfl,aqZ,λ_ l J e1 hd hl=>C135 _ l E u.stays J (DL.flat hd) ((B.hb.cell rfl).ext e1) hl⟩;exact aY aq2 B (C139 _ _ _ (λl:List nW=>l.length<=1000) (λl=>!fa l u.stays) _ (mh.ext B.aG) hf3 I.cl cU) (λ_ _ B=>bJ ⟨vb dH,B⟩)
 rintro _ _ ⟨rfl,B⟩ _;have B:=B.drop;refine⟨vb ?_,B.aG⟩;unfold qR;rw[WC,hL];simp only[Bool.not_false,yx,Bool.and_true];cases u.dD.any mG<;>cases u.threads.any (λc=>!mF c u.lines.length (iw u) u.locks)<;>cases u.cB.any (λl=>!fa l u.stays)<;>cases mF u.recover u.lines.length (iw u) u.locks<;>rfl
def adl{α:Type}{B d:List α}{e y E:α}{k:Nat}(G:B.length=k):((B++e::d).set k y).set k E=B++[E]++d:=by
 simp_all
def set_self?{α:Type}{l:List α}{k:Nat}{y e:α}(h:(l.set k y)[k]?=some e):e=y:=by
 grind
def YG{α:Type}(l:List α)(n:Nat):l.take (min (l.length:Int) n).toNat=l.take n:=by
 rcases P2 l.length n with h|h
 .rw[mH cU,mH cU]
 grind
def C141(I:Value)(xs:List nW)(w:World)(G:dP (λ_=>True) w I xs)(V:xs.length<=1000000):CR 141 [I] w (λv w'=>mf (bG v xs) w w'):=by
 have B:=St.start w;refine fD Tryz.func141 ?_;refine wJ Tryz.underlying116 (G.ext B.aG) (λp O=>aX (λE=>?_) λE=>?_)
 .have M:=O E;subst M;exact(B.eU (α:=nW)).fresh
 refine bV ([]:List nW) B rz rfl rfl (ei rfl) (λU _ B=>?_);have J:=(G.ext B.aG);exact cK B rz J (by simp;omega) er (λ_ _ B=>B.fresh)
def C117(I:Value)(xs:List Int)(w:World)(G:dP (λ_=>True) w I xs)(V:xs.length<=1000000):CR 117 [I] w (λv w'=>mf (bG v xs) w w'):=by
 have B:=St.start w;refine fD Tryz.func117 ?_;refine wJ Tryz.underlying22 (G.ext B.aG) (λp O=>aX (λE=>?_) λE=>?_)
 .have M:=O E;subst M;exact(B.eU (α:=Int)).fresh
 refine bV ([]:List Int) B dZ rfl rfl (ei rfl) (λU _ B=>?_);have J:=(G.ext B.aG);exact cK B dZ J (by simp;omega) er (λ_ _ B=>B.fresh)
def C248(G:Value)(xs:List bK)(w:World)(E:dP (λ_=>True) w G xs)(O:xs.length<=1000000):CR 248 [G] w (λv w'=>mf (bG v xs) w w'):=by
 have B:=St.start w;refine fD Tryz.func248 ?_;refine wJ Tryz.underlying44 (E.ext B.aG) (λp M=>aX (λI=>?_) λ_=>bV ([]:List bK) B pE rfl rfl (ei rfl) λ_ _ B=>cK B pE (E.ext B.aG) (by simp;omega) er λ_ _ B=>B.fresh);have J:=M I;subst J;exact(B.eU (α:=bK)).fresh
def C140(c:gz)(cv:dI)(w:World)(hc:n4 w cv c)(hz:CZ c):CR 140 [jj cv] w (λv w'=>∃Y:dI,v=jj Y/\mf (ep λw=>n4 w Y c) w w'):=by
 obtain⟨wZ,rfl,I3⟩:=hc;obtain⟨E,hRA,W⟩:=I3.open;have hnA:=W.1;have hzl:=hz.l;have B:=St.start w;refine pG Tryz.func140 (pl:=azB) ?_;refine cP B (λana w1 B=>aJ B MM λqt _ B=>have B:=B.enc (cs':=jl (⟨0,0,bO⟩:dI)) rfl;aA nU (aB pD B.p1.hb rfl (cW ars B (C248 _ E _ (hRA.ext B.aG) cU) λx6 _ cA B=>aA nU ?_)));obtain⟨I,rfl⟩:=B.fK;refine aO B.p2 pD (ei rfl) (rfl) (λ_ B=>have B:=B.enc (cs':=jl (⟨c.aS,c.counts,I⟩:dI)) rfl;aA nU (aB (v:=jj (I:SV)) pD B.hb rfl (aK pE B.p1.fc ?_)))
 have B:=B.fw (Φ:=jx ([]:List bK) ([]:List aU)) (λ_=>jx.nil);have B:=B.p3.p1.p3.p3;refine⟨λm x w1=>∃(k:Nat) (G:List bK),x=iE (k:Int)/\m=E.length-k/\k<=E.length/\G.length=k/\St w bE [bU ana (jl (⟨c.aS,c.counts,I⟩:dI)),bG (jj I) (G++E.drop k),ep (jx G (c.l.take k)),bU qt (jl (⟨0,0,bO⟩:dI))] w1,⟨_,0,[],rfl,rfl,ob _,rfl,B⟩,?_⟩;rintro m _ _ ⟨k,G,rfl,rfl,hk,U,B⟩ _;refine aV (aC (λmX=>?_) λmX=>?_)
 .obtain⟨e0,Lm⟩:=gx E (i:=k) cU;obtain⟨r0,Kd⟩:=gx c.l (i:=k) cU;obtain⟨ge,gf,rfl,hE,hF⟩:=W.2 k _ _ Lm Kd;have hdc:=drop_cons Lm;obtain⟨J,M,Z⟩:∃e,e=(⟨r0.kind,r0.a,r0.b,ge,gf,r0.to⟩:bK)/\(G++E.drop k)[(k:Int).toNat]?=some e:=⟨_,rfl,by show(G++E.drop k)[k]?=_;rw[sl cU,U,Vi,List.getElem?_drop,Nat.add_zero];exact Lm⟩;have hfE:dP (λ_=>True) w (jj J.e) r0.e:=by rw[M];exact DL.flat hE
  have hfF:dP (λ_=>True) w (jj J.f) r0.f:=by rw[M];exact DL.flat hF
  have hzz:=hz.ef _ (ml Kd);have hlL:(G++E.drop k).length=E.length:=by rw[lJ,tx];omega
  refine aA nU (have B:=B.drew;aB (v:=jj (I:SV)) pD B.hb rfl (aA nU (aB (v:=jj (I:SV)) pD B.hb rfl (aA nU (aB (v:=jj (I:SV)) pD B.hb rfl (dN B.p1 pE cU cU λ_ Dr=>mD wz Dr λ_ wL=>tP J.e B.p1 sE wL Z rfl (aA nU (aB (v:=jj (I:SV)) pD B.hb rfl (dN B.p1 pE cU cU λ_ zM=>mD wA zM λ_ yz=>?_)))))))));refine tP J.f B.p1 sE yz Z rfl (cW aay B (C141 _ _ _ (hfE.ext B.aG) cU) λx26 _ cA B=>?_)
  refine⟨aF pD (B.p1.hb.cell rfl),?_⟩;refine⟨aF pD (B.p1.hb.cell rfl),?_⟩;refine⟨aF pD (B.p1.hb.cell rfl),?_⟩;refine⟨abh J.f B.p2 sE yz Z rfl,?_⟩;refine cW aay B (C141 _ _ _ (hfF.ext B.aG) cU) (λx33 _ cA B=>?_);refine⟨aF pD (B.p2.hb.cell rfl),?_⟩;refine⟨aF pD (B.p2.hb.cell rfl),?_⟩;refine dN B.p3 pE cU cU (λ_ tZ=>mD wz tZ λ_ IP=>?_);obtain⟨O,rfl⟩:=B.p1.fK;refine wG {J with e:=O} (O:SV) B.p3 sE IP Z er rfl (λ_ B=>?_);refine⟨aF pD (B.p3.hb.cell rfl),?_⟩
  have hlS:((G++E.drop k).set (k:Int).toNat {J with e:=O}).length=E.length:=by rw[List.length_set];exact hlL
  obtain⟨ak9,I5⟩:=gx ((G++E.drop k).set (k:Int).toNat {J with e:=O}) (i:=(k:Int).toNat) cU;refine dN B pE cU cU (λ_ Ds=>mD wA Ds λ_ Iv=>?_);obtain⟨V,rfl⟩:=B.p1.fK;refine wG {ak9 with f:=V} (V:SV) B sE Iv I5 er rfl (λ_ B=>aR cU ?_);have aB1:=set_self? (k:=k) I5;have B:=B.p2.freeze.p2.freeze.p1.fu.p3.fu.cS (Ψ:=jx (G++[(⟨r0.kind,r0.a,r0.b,O,V,r0.to⟩:bK)]) (c.l.take (k+1))) (λ_ h=>by rw[<- gI (k:=k) Kd];exact h.1.snoc ⟨_,_,rfl,DL.fP h.2.1,DL.fP h.2.2⟩)
  have B:=B.p3.p1.p3.p3.asv (ys:=G++[(⟨r0.kind,r0.a,r0.b,O,V,r0.to⟩:bK)]++E.drop (k+1)) (by rw[hdc];exact(adl U).trans (by rw[aB1,M]));have B:=B.p1;exact⟨_,cU,k+1,G++[(⟨r0.kind,r0.a,r0.b,O,V,r0.to⟩:bK)],rfl,rfl,cU,by rw[lJ,mv];omega,B⟩
 rw[xr cU,rM,mH cU]at B;have B:=B.p2.p2.zE;exact aE si B.p1.At (aH (x:=(⟨c.aS,c.counts,I⟩:dI)) B.p2 si rfl rfl λ_ B=>aE si B.At (have B:=B.p1.kV.cS (Ψ:=(λw=>n4 w (⟨c.aS,c.counts,I⟩:dI) (⟨c.aS,c.counts,c.l⟩:gz))) (λ_ h=>⟨_,rfl,h⟩);have B:=B.p1.drop.p1.drop;⟨_,rfl,B.fresh⟩))
def C63(u:ki)(uv:eO)(w:World)(hu:n4 w uv u)(J:UZ u):CR 63 [jj uv] w (λv w'=>∃Y:eO,v=jj Y/\mf (ep λw=>n4 w Y u) w w'):=by
 obtain⟨jA,iL,U,vl,O,rfl,jB,ko,j3,kZ,mh⟩:=hu;obtain⟨V,rfl,jo⟩:=kZ;have B:=St.start w;refine pG Tryz.func63 (pl:=P63) ?_;refine cP B (λBe w1 B=>aJ B BO λqt _ B=>have B:=B.enc (cs':=jl (⟨bO,0,bO,0,bO,(⟨0,0,bO⟩:dI),bO⟩:eO)) rfl;aA nV ?_);have B:=B.drew;have hzl:=J.lines;have hzf:=J.dD;have hzt:=J.threads;have hzc:=J.cB;refine aB eD B.p1.hb rfl ?_;have au4:=DL.flat jB;refine aA CD (aB eD B.p1.hb rfl ?_);have au5:=DL.flat ko
 refine aA CE (oO (⟨u.recover.aS,u.recover.counts,V⟩:dI) si B.p1.hb rfl (cW yq B (C117 _ _ _ (au4.ext B.aG) cU) λx11 _ W B=>?_));refine⟨aF eD (B.p2.hb.cell rfl),?_⟩;refine⟨GZ (⟨u.recover.aS,u.recover.counts,V⟩:dI) si B.p2.hb rfl,?_⟩;refine aA nV (cW yq B (C117 _ _ _ (au5.ext B.aG) cU) λx14 _ W B=>?_);refine⟨GZ (⟨u.recover.aS,u.recover.counts,V⟩:dI) si B.p3.hb rfl,?_⟩;refine eC ajD (C140 u.recover _ _ ⟨V,rfl,(jo.ext B.aG)⟩ J.rc) ?_;rintro _ _ ⟨I,rfl,W⟩
 have B:=B.made W;obtain⟨E,rfl⟩:=B.p2.fK;refine aO B.p4 eD (ei rfl) (rfl) (λ_ B=>have B:=B.enc (cs':=jl (⟨E,u.stays,iL,u.locks,U,(⟨u.recover.aS,u.recover.counts,V⟩:dI),O⟩:eO)) rfl;aA CD ?_);obtain⟨G,rfl⟩:=B.p2.fK;refine aO B eD (ei rfl) (rfl) (λ_ B=>have B:=B.enc (cs':=jl (⟨E,u.stays,G,u.locks,U,(⟨u.recover.aS,u.recover.counts,V⟩:dI),O⟩:eO)) rfl;aA CE (ry (vs:=jl I) B si rfl (ei rfl) (Flat.one _) λ_ B=>have B:=B.enc (cs':=jl (⟨E,u.stays,G,u.locks,U,I,O⟩:eO)) rfl;aA uX (aB (v:=jj (U:SV)) Ki B.hb rfl ?_)))
 obtain⟨au6,ala,alb⟩:=j3.open;have hn119:=alb.1;refine aK ED (ala.ext B.aG) ?_;have B:=((((((B.xK (α:=gz)).p5).p3).p4).p5).p5).p5;refine⟨λm I6 x w1=>∃k:Nat,x=iE (k:Int)/\m=u.threads.length-k/\k<=u.threads.length/\St w bE [fe I6 (u.threads.take k),bU Be (jl (⟨E,u.stays,G,u.locks,U,I,O⟩:eO)),bG (jj E) u.lines,bG (jj G) u.dD,ep (λw=>n4 w I u.recover),bU qt (jl (⟨bO,0,bO,0,bO,(⟨0,0,bO⟩:dI),bO⟩:eO))] w1,⟨_,0,rfl,rfl,ob _,B⟩,?_⟩;rintro m I6 _ _ ⟨k,rfl,rfl,hk,B⟩ _
 refine aV (aC (λji=>?_) λji=>?_)
 .obtain⟨e_x26,adn⟩:=gx au6 (i:=(k:Int).toNat) cU;obtain⟨WE,TU⟩:=gx u.threads (i:=(k:Int).toNat) cU;obtain⟨WG,rfl,ah9⟩:=alb.2 _ _ _ adn TU;refine aW ED ala cU adn (λ_ zZ=>aE si (zZ.ext B.aG) (aJ B MM λahy _ B=>have B:=B.enc (cs':=jl (⟨0,0,bO⟩:dI)) rfl;aH (x:=(⟨WE.aS,WE.counts,WG⟩:dI)) B si rfl rfl λ_ B=>aE si B.At (eC ajD (C140 WE _ _ ⟨WG,rfl,(ah9.ext B.aG)⟩ (J.th _ (ml TU))) ?_)));rintro _ _ ⟨anz,rfl,W⟩;have B:=B.made W;exact fH (s:=anz) (x:=WE) B ED er (λ_ _ B=>have B:=B.p2;fI B ED (by rw[n0,mv];omega) er λ_ _ B=>aR cU (have B:=B.p1.drop.p5.p5.p5.p5.p5.p5;⟨_,cU,k+1,rfl,rfl,cU,by rw[<- gI (k:=k) TU];exact B⟩))
 rw[mH cU]at B;refine aA AF (aB (v:=jj (O:SV)) Yf B.p1.hb rfl ?_);obtain⟨au7,Z,ald⟩:=mh.open;have hn120:=ald.1;refine aK Kj (Z.ext B.aG) ?_;have B:=(((((((B.xK (α:=(List nW))).p6).p6).p6).p6).p6).p6).p6;refine⟨λm WH x w1=>∃q:Nat,x=iE (q:Int)/\m=u.cB.length-q/\q<=u.cB.length/\St w bE [fe WH (u.cB.take q),fe I6 u.threads,bU Be (jl (⟨E,u.stays,G,u.locks,U,I,O⟩:eO)),bG (jj E) u.lines,bG (jj G) u.dD,ep (λw=>n4 w I u.recover),bU qt (jl (⟨bO,0,bO,0,bO,(⟨0,0,bO⟩:dI),bO⟩:eO))] w1,⟨_,0,rfl,rfl,ob _,B⟩,?_⟩
 rintro m WH _ _ ⟨q,rfl,rfl,hq,B⟩ _;refine aV (aC (λud=>?_) λud=>?_)
 .obtain⟨sI,sm⟩:=gx au7 (i:=(q:Int).toNat) cU;obtain⟨M,I7⟩:=gx u.cB (i:=(q:Int).toNat) cU;have au8:DL w (jj sI) M:=ald.2 _ _ _ sm I7;refine aW Kj Z cU sm (λ_ Di=>aE sE (Di.ext B.aG) ?_);have au9:=DL.flat au8;have hzk:=J.cl _ (ml I7);refine cW aay B (C141 _ _ _ (au9.ext B.aG) cU) (λx43 _ W B=>?_);obtain⟨EY,rfl⟩:=B.fK;have B:=B.freeze.cS (Ψ:=λw=>n4 w EY M) (λ_ h=>DL.fP h);exact fH (s:=EY) (x:=M) B Kj er (λ_ _ B=>have B:=B.p1;fI B Kj (by rw[n0,mv];omega) er λ_ _ B=>aR cU (have B:=B.p6.p6.p6.p6.p6.p6.p6;⟨_,cU,q+1,rfl,rfl,cU,by rw[<- gI (k:=q) I7];exact B⟩))
 rw[mH cU]at B;refine aA uX ?_;obtain⟨vm,rfl⟩:=B.p1.mW;refine aO B.p2 Ki (ei rfl) (rfl) (λ_ B=>have B:=B.enc (cs':=jl (⟨E,u.stays,G,u.locks,vm,I,O⟩:eO)) rfl;aA AF ?_);obtain⟨B9,rfl⟩:=B.p1.mW;exact aO B Yf (ei rfl) (rfl) (λ_ B=>have B:=B.enc (cs':=jl (⟨E,u.stays,G,u.locks,vm,I,B9⟩:eO)) rfl;aE zj B.At (aH (x:=(⟨E,u.stays,G,u.locks,vm,I,B9⟩:eO)) B.p6 zj rfl rfl λ_ B=>aE zj B.At (have B:=B.p4.freeze.p5.freeze.p1.fu.p4.kV.p1.fu.p4.p1.fu.p3.kV.p1.fu.cS (Ψ:=(λw=>n4 w (⟨E,u.stays,G,u.locks,vm,I,B9⟩:eO) (⟨u.lines,u.stays,u.dD,u.locks,u.threads,u.recover,u.cB⟩:ki))) (λ_ h=>⟨_,_,_,_,_,rfl,DL.fP h.1.1.1.1,DL.fP h.1.1.1.2,h.1.1.2,h.1.2,h.2⟩);have B:=B.p1.drop.p1.drop;⟨_,rfl,B.fresh⟩)))
def ue(x y:bH):Bool:=decide (x.kind≠7/\y.kind≠7/\(x.kind=6\/y.kind=6)/\x.line≠y.line)
def right(x:bH):Bool:=decide ((x.kind=3/\0<=x.line/\0<=x.cell)\/((x.kind=5\/x.kind=6)/\0<=x.line/\x.cell=0/\x.n=0)\/(x.kind=7/\x.line=0/\x.cell=0/\x.n=0))
def C252(x y:bH)(w:World):CR 252 [jj x,jj y] w (λv w'=>v=.bool (ue x y)/\Ext w w'):=by
 have B:=St.start w;refine fD Tryz.func252 ?_;refine cP B (λV _ B=>cP B λJ _ B=>?_);refine⟨_,?_,λ_ _ h=>h⟩;refine aA pR (aB bL B.p1.hb rfl (aI (aC (λI=>?_) λI=>?_)))
 .intro M;refine⟨_,?_,λ_ _ h=>h⟩;refine bJ (eX ?_);intro E;refine⟨vb ?_,B.aG⟩;unfold ue
  first|exact(fY cU).symm|exact(gk cU).symm|exact gv.2 cU|exact gv.2 (bH.ext_iff.trans (by dsimp only;omega))
 refine aA pR (aB bL B.hb rfl (aI ?_));intro M;refine⟨_,?_,λ_ _ h=>h⟩
 first|refine HC ?_|refine bJ ?_
 refine aC (λO=>aA pR (aB bL B.p1.hb rfl (aI (aC (λG=>?_) λG=>aA pR (aB bL B.hb rfl (aI (aC (λU=>?_) λU=>?_))))))) (λO=>?_)
 .refine aA kT (aB bL B.p1.hb rfl (aA kT (aB bL B.hb rfl (cN ?_))));intro E;refine⟨vb ?_,B.aG⟩;unfold ue
  first|exact(fY cU).symm|exact(gk cU).symm|exact gv.2 cU|exact gv.2 (bH.ext_iff.trans (by dsimp only;omega))
 .refine aA kT (aB bL B.p1.hb rfl (aA kT (aB bL B.hb rfl (cN ?_))));intro E;refine⟨vb ?_,B.aG⟩;unfold ue
  first|exact(fY cU).symm|exact(gk cU).symm|exact gv.2 cU|exact gv.2 (bH.ext_iff.trans (by dsimp only;omega))
 .intro E;refine⟨vb ?_,B.aG⟩;unfold ue
  first|exact(fY cU).symm|exact(gk cU).symm|exact gv.2 cU|exact gv.2 (bH.ext_iff.trans (by dsimp only;omega))
 intro E;refine⟨vb ?_,B.aG⟩;unfold ue
 first|exact(fY cU).symm|exact(gk cU).symm|exact gv.2 cU|exact gv.2 (bH.ext_iff.trans (by dsimp only;omega))
def eqE(x y:bH):tB (jl x) (jl y)=decide (x=y):=by
 obtain⟨a,b,c,d⟩:=x
 obtain⟨a2,b2,B,d2⟩:=y
 simp[jl,tB,eqV,JD]
def C261(x:bH)(w:World):CR 261 [jj x] w (λv w'=>v=.bool (right x)/\Ext w w'):=by
 have B:=St.start w;refine fD Tryz.func261 ?_;refine cP B (λY _ B=>aA pR (aB bL B.hb rfl (aI (aC (λO=>⟨_,aA kT (aB bL B.hb rfl (dC (aC (λU=>?_) λU=>?_))),λ_ _ h=>h⟩) λO=>⟨_,aI (aC (λW=>?_) λW=>?_),λ_ _ h=>h⟩))))
 .refine aA nu (aB bL B.hb rfl (dC ?_));intro V;refine⟨vb ?_,B.aG⟩;unfold right
  first|exact(fY cU).symm|exact(gk cU).symm|exact gv.2 cU|exact gv.2 (bH.ext_iff.trans (by dsimp only;omega))
 .intro V;refine⟨vb ?_,B.aG⟩;unfold right
  first|exact(fY cU).symm|exact(gk cU).symm|exact gv.2 cU|exact gv.2 (bH.ext_iff.trans (by dsimp only;omega))
 .intro M;refine aC (λI=>⟨_,aA kT (aB bL B.hb rfl (dC (aC (λG=>aA nu (aB bL B.hb rfl (aI (aC (λJ=>?_) λJ=>?_)))) λG=>?_))),λ_ _ h=>h⟩) (λI=>?_)
  .refine aA mC (aB bL B.hb rfl (aI ?_));intro E;refine⟨vb ?_,B.aG⟩;unfold right
   first|exact(fY cU).symm|exact(gk cU).symm|exact gv.2 cU|exact gv.2 (bH.ext_iff.trans (by dsimp only;omega))
  .intro E;refine⟨vb ?_,B.aG⟩;unfold right
   first|exact(fY cU).symm|exact(gk cU).symm|exact gv.2 cU|exact gv.2 (bH.ext_iff.trans (by dsimp only;omega))
  .intro E;refine⟨vb ?_,B.aG⟩;unfold right
   first|exact(fY cU).symm|exact(gk cU).symm|exact gv.2 cU|exact gv.2 (bH.ext_iff.trans (by dsimp only;omega))
  refine aE lP B.At (pop (HU _) (nS aa5 rfl rfl (eqE x ⟨7,0,0,0⟩) ?_));refine⟨vb ?_,B.aG⟩;unfold right
  first|exact(fY cU).symm|exact(gk cU).symm|exact gv.2 cU|exact gv.2 (bH.ext_iff.trans (by dsimp only;omega))
 refine aI ?_;intro M;refine aC (λI=>⟨_,aA kT (aB bL B.hb rfl (dC (aC (λG=>aA nu (aB bL B.hb rfl (aI (aC (λJ=>?_) λJ=>?_)))) λG=>?_))),λ_ _ h=>h⟩) (λI=>?_)
 .refine aA mC (aB bL B.hb rfl (aI ?_));intro E;refine⟨vb ?_,B.aG⟩;unfold right
  first|exact(fY cU).symm|exact(gk cU).symm|exact gv.2 cU|exact gv.2 (bH.ext_iff.trans (by dsimp only;omega))
 .intro E;refine⟨vb ?_,B.aG⟩;unfold right
  first|exact(fY cU).symm|exact(gk cU).symm|exact gv.2 cU|exact gv.2 (bH.ext_iff.trans (by dsimp only;omega))
 .intro E;refine⟨vb ?_,B.aG⟩;unfold right
  first|exact(fY cU).symm|exact(gk cU).symm|exact gv.2 cU|exact gv.2 (bH.ext_iff.trans (by dsimp only;omega))
 refine aE lP B.At (pop (HU _) (nS aa5 rfl rfl (eqE x ⟨7,0,0,0⟩) ?_));refine⟨vb ?_,B.aG⟩;unfold right
 first|exact(fY cU).symm|exact(gk cU).symm|exact gv.2 cU|exact gv.2 (bH.ext_iff.trans (by dsimp only;omega))
def xc(l:List bH)(i:Int):Bool:=decide (0<=i/\i<l.length)&&(match l[i.toNat]? with|some x=>(l.take i.toNat).all (ue x)|none=>false)
def qj(l:List bH):List Int:=((qi l.length).map fun (k:Nat)=>(k:Int)).filter (xc l)
theorem xd{l:List bH}{i:Int}(h:i<0\/(l.length:Int)<=i):xc l i=false:=by
 grind[xc]
def aia{l:List bH}{i:Int}{x:bH}(B:0<=i)(h1:i<l.length)(E:l[i.toNat]?=some x):xc l i = !(l.take i.toNat).any λy=>!ue x y:=by
 grind[xc,ue]
def vQ(l:List bH)(k:Nat):List Int:=((qi k).map fun (k:Nat)=>(k:Int)).filter (xc l)
def Lz(l:List bH)(k:Nat):(vQ l k).length<=k:=by
 grind[vQ]
theorem TV{l:List bH}{k:Nat}(h:xc l k=true):vQ l (k+1)=vQ l k++[(k:Int)]:=by
 unfold vQ;rw[B8,vB,JC];simp[h]
theorem YI{l:List bH}{k:Nat}(h:xc l k=false):vQ l (k+1)=vQ l k:=by
 unfold vQ;rw[B8,vB,JC];simp[h]
theorem I8(l:List bH){k:Nat}(h:k=l.length):vQ l k=qj l:=by subst h;rfl
def xX(w:World)(p:Nat)(room:Int)(l:List bH):Prop:=∃B,Cell w p 0 (iE room)/\Cell w p 1 B/\dP (λ_=>True) w B l
def lV(p:Nat)(room:Int)(l:List bH):HP:=ph λB=>sep (bU p [iE room,B]) (bG B l)
theorem xX.ext{w w':World}{p:Nat}{room:Int}{l:List bH}(h:xX w p room l)(e:Ext w w'):xX w' p room l:=by
 obtain⟨B,h1,h2,h3⟩:=h;exact⟨B,h1.ext e,h2.ext e,h3.ext e⟩
def lV.rd{w:World}{F:Nat->Prop}{p:Nat}{room:Int}{l:List bH}(h:(lV p room l).p w F):xX w p room l:=by
 obtain⟨B,E,G,h1,h2,_⟩:=h
 exact⟨B,h1.1.cell rfl,h1.1.cell rfl,(bG.rd h2).mono λ_ _=>trivial⟩
def C310(O fv:Value)(xs:List bH)(g:bH->Bool)(w:World)(M:dP (λ_=>True) w O xs)(V:vG w fv g)(hn:xs.length<=1073741824):CR 310 [O,fv] w (λv w'=>v=iE (pY g xs)/\Ext w w'):=by
 obtain⟨g0,first,cap,rfl,U,W⟩:=V;have B:=St.start w;refine fD Tryz.func310 ?_;refine aK lL (M.ext B.aG) ?_;refine⟨λm x I=>∃k:Nat,x=iE (k:Int)/\m=xs.length-k/\k<=xs.length/\(∀y∈xs.take k,g y=false)/\St w bE [] I,⟨_,0,rfl,rfl,ob _,et,B⟩,?_⟩;rintro m _ I ⟨k,rfl,rfl,hk,E,B⟩ _;refine aV (aC (λlR=>?_) λ_=>⟨gD (n5 .i64) (gJ (by rw[mH cU]at E;exact E)).symm,B.aG⟩);obtain⟨Y,G⟩:=gx xs (i:=(k:Int).toNat) cU;refine aW lL (M.ext B.aG) cU G (λ_ Z=>aE lP Z (fm U (W Y I B.aG) ?_))
 rintro _ _ ⟨rfl,he⟩;have B:=B.ext he;exact aX (λJ=>⟨gD (n5 .i64) (jT E G J).symm,B.aG⟩) (λJ=>aR cU ⟨xs.length-(k+1),cU,k+1,rfl,rfl,cU,fg E G J,B⟩)
def C253(E fv:Value)(xs:List bH)(g:bH->Bool)(w:World)(G:dP (λ_=>True) w E xs)(I:vG w fv g)(J:xs.length<=1073741824):CR 253 [E,fv] w (λv w'=>v=.bool (xs.any g)/\Ext w w'):=by
 have B:=St.start w;refine fD Tryz.func253 ?_;exact aY arH B (C310 _ _ _ _ _ (G.ext B.aG) (I.ext B.aG) cU) (λ_ _ B=>dC ⟨vb (iJ _ _),B.aG⟩)
def C251(x y:bH)(p b2 b3:Nat)(i:Int)(room:Int)(l:List bH)(w:World)(h2:Cell w b2 0 (.pointer (some ⟨p,0,none⟩)))(h3:Cell w b3 0 (iE i))(hb:xX w p room l)(I:0<=i)(E:l[i.toNat]?=some x):CR 251 [jj y,.pointer (some ⟨b2,0,none⟩),.pointer (some ⟨b3,0,none⟩)] w (λv w'=>v=.bool (!ue x y)/\Ext w w'):=by
 obtain⟨V,U,M,G⟩:=hb;have O:=(j0.1 E).1;have B:=St.start w;refine pG Tryz.func251 (pl:=azY) ?_;exact cP B (λ_ _ B=>have B:=B.drew;bN sj (h2.ext B.aG) (aD (aA lM (bN sF (M.ext B.aG) (bN bL (h3.ext B.aG) (aW lL (G.ext B.aG) I E λ_ J=>aE lP J (aE lP B.At (aY aru B (C252 x y _) λ_ _ B=>bJ ⟨rfl,B.aG⟩))))))))
def C147(p:Nat)(i:Int)(room:Int)(l:List bH)(w:World)(hb:xX w p room l)(hn:l.length<=1073741824):CR 147 [.pointer (some ⟨p,0,none⟩),iE i] w (λv w'=>v=.bool (xc l i)/\Ext w w'):=by
 have OJ:=hb;obtain⟨sv,A5,U,M⟩:=hb;have B:=St.start w;refine pG Tryz.func147 (pl:=azF) ?_;refine ni B rfl (λE O B=>ni B rfl λG _ B=>?_);refine⟨_,?_,λ_ _ h=>h⟩;have B:=B.drew;refine aB bL B.hb rfl (aV (aC (λW=>?_) λW=>?_))
 .intro Y;exact jb ⟨vb (xd cU).symm,B.aG⟩
 refine aB bL B.hb rfl (aB sj B.p1.hb rfl (aD (aA lM (bN sF (U.ext B.aG) (aK lL (M.ext B.aG) (dC ?_))))));intro Y;refine aC (λ_=>⟨vb (xd cU).symm,B.aG⟩) (λdK=>have B:=B.drew;aB sj B.p1.hb rfl (aD (aA lM (bN sF (U.ext B.aG) (aB bL B.hb rfl (EB lL (M.ext B.aG) cU cU λI Z=>?_))))));obtain⟨x,V⟩:=gx l (i:=i.toNat) cU
 have J:vG _ (.func (.func 251) [].toArray [.pointer (some ⟨E,0,none⟩),.pointer (some ⟨G,0,none⟩)].toArray) (λy=>!ue x y):=
  ⟨251,[],_,rfl,art,λy O e1=>C251 x y p E G i room l O ((B.p1.hb.cell rfl).ext e1) ((B.hb.cell rfl).ext e1) ((OJ.ext B.aG).ext e1) cU V⟩
 exact aY arv B (C253 _ _ _ _ _ Z J (by rw[n0];omega)) (λ_ _ B=>bJ ⟨vb (aia cU cU V).symm,B.aG⟩)
def C145(p:Nat)(room:Int)(l:List bH)(w:World)(hb:xX w p room l):CR 145 [.pointer (some ⟨p,0,none⟩)] w (λv w'=>v=.bool (decide (room<=l.length))/\Ext w w'):=by
 obtain⟨J,I,G,E⟩:=hb;have B:=St.start w;refine pG Tryz.func145 (pl:=azE) ?_;exact aD (aA lM (have B:=B.drew;bN sF (G.ext B.aG) (aK lL (E.ext B.aG) (aD (aA Pg (bN bL (I.ext B.aG) (dC ⟨rfl,B.aG⟩)))))))
def C69(p:Nat)(room:Int)(l:List bH)(w:World)(hb:xX w p room l)(Z:l.length<=1048576):CR 69 [.pointer (some ⟨p,0,none⟩)] w (λv w'=>mf (bG v (qj l)) w w'):=by
 have Y:=hb;obtain⟨sv,A5,U,I⟩:=hb;have B:=St.start w;refine fD Tryz.func69 ?_;refine aD (aA lM (bN sF (U.ext B.aG) (aK lL (I.ext B.aG) ?_)));refine⟨λm o x G=>∃k:Nat,x=iE (k:Int)/\m=l.length-k/\k<=l.length/\St w bE [bG o (vQ l k)] G,⟨_,0,rfl,rfl,ob _,B.eU⟩,?_⟩;rintro m o _ G ⟨k,rfl,rfl,hk,B⟩ _;have F9:=Lz l k;refine aV (aC (λM=>⟨_,aY ajF B (C147 _ _ _ _ _ (Y.ext B.aG) cU) (λ_ he B=>aX (λE=>?_) λE=>?_),λ_ _ h=>h⟩) λM=>?_)
 .refine bV ([(k:Int)]:List Int) B dZ rfl rfl (ei rfl) (λV _ B=>?_);have O:=B.fc;refine cK B.p1 dZ O (by simp<;>omega) er (λW _ B=>?_);have B:=B.p1.drop;intro J;exact aR cU ⟨l.length-(k+1),cU,k+1,rfl,rfl,cU,by rw[TV E];exact B⟩
 .intro J;exact aR cU ⟨l.length-(k+1),cU,k+1,rfl,rfl,cU,by rw[YI E];exact B⟩
 rw[I8 l cU]at B;exact B.fresh
def TX(room:Int)(l:List bH)(x:bH):Int:=if right x=true then(if room<=l.length then 2 else 0)else 1
def qw(room:Int)(l:List bH)(x:bH):List bH:=if right x=true/\¬ room<=l.length then l++[x]else l
def cO(l:List bH)(i:Int):bH:=if xc l i=true then(l[i.toNat]?).getD ⟨0,0,0,0⟩else⟨0,0,0,0⟩
def Aa(l:List bH)(i:Int):Int:=if 0<=i/\i<l.length then(if xc l i=true then 0 else 13)else 1
def iH(l:List bH)(i:Int):List bH:=if xc l i=true then l.eraseIdx i.toNat else l
theorem aib{l:List bH}{i:Int}(h:xc l i=true):0<=i/\i<l.length:=by
 unfold xc at h;grind
def xX.mk'{w:World}{p:Nat}{room:Int}{B:Value}{l:List bH}(h1:oR w p [iE room,B])(h2:dP (λ_=>True) w B l):xX w p room l:=
 ⟨B,h1.cell rfl,h1.cell rfl,h2⟩
def lV.shut{w0 w:World}{A:Nat->Prop}{R:List HP}{p:Nat}{room:Int}{B:Value}{l:List bH}(E:St w0 A (bU p [iE room,B]::bG B l::R) w):St w0 A (lV p room l::R) w:=
 St.dX (H:=λB=>sep (bU p [iE room,B]) (bG B l)) B (St.join E)
def Dt{w0 w:World}{A:Nat->Prop}{R:List HP}{p:Nat}{room:Int}{l:List bH}(B:St w0 A (lV p room l::R) w):xX w p room l:=by
 obtain⟨F,h,_⟩:=B.head;exact lV.rd h
def C258(v:Value)(i:Int)(xs:List bH)(F:Nat->Prop)(w:World)(hv:(bG v xs).p w F)(h0:0<=i)(hi:i<xs.length)(hn:xs.length<=1073741824) :
  CR 258 [v,iE i,iE (i+1)] w (λv' w'=>True/\ng F (bG v' (xs.eraseIdx i.toNat)) w w'):=by
 obtain⟨i,rfl⟩:=Int.eq_ofNat_of_zero_le h0;replace hi:i<xs.length:=cU
 rw[s6];have GQ:=bG.rd hv;obtain⟨b,cap,rest,rfl,hb,E,O⟩:=td hv hi;have hlen:(flat xs).length=xs.length*4:=dO xs;have Gq:xs.length<=cap:=E.1;replace E:=E.2
 change cap*4<=_ at E
 refine agx _ _ _ _ _ ?_;unfold S258;refine pop (MH lL) (aa7 lL cU cU cU cU λ_=>aI (aC (λc=>absurd c cU) λ_=>pop (MH lL) ?_))
 have V:pr hZ (pA 198 (.slice (some ⟨b,0,none⟩) xs.length cap) none (some (iE (i:Int))) none)=some (.slice (some ⟨b,0,none⟩) i cap):=by
  rw[zb lL (l:=0) (h:=i) (pa (.inl ⟨rfl,rfl⟩) (.inr ⟨_,rfl,cU,cU⟩) cU cU)];simp[ix]
 refine pop V (Yb lL GQ cU cU λs25 G=>?_);rw[show((i:Int)+1).toNat=i+1 from cU]at G;have B:(xs.drop (i+1)).length=xs.length-(i+1):=et
 obtain⟨w1,r1,b1,g1⟩:=Kk (P:=hZ) (R:=198) (n:=i) (cap:=cap) lL (hb.of_eq (w':=drew w) rfl) (G.ext (Ext.drew w)) cU (by rw[lJ,hlen,B];change i*4+(xs.length-(i+1))*4<=_;omega);rw[B,show i+(xs.length-(i+1))=xs.length-1 from cU]at r1;refine⟨_,w1,r1,?_⟩;refine pop (MH lL) ?_
 have M:pr hZ (pA 198 (.slice (some ⟨b,0,none⟩) (xs.length-1) cap) (some (iE ((xs.length-1:Nat):Int))) (some (iE (xs.length:Int))) none)=some (.slice (some ⟨b,(xs.length-1)*4,none⟩) 1 (cap-(xs.length-1))):=by
  rw[zb lL (l:=xs.length-1) (h:=xs.length) (pa (.inr ⟨_,rfl,cU,cU⟩) (.inr ⟨_,rfl,cU,cU⟩) cU cU),ew cU];simp[ix];omega
 refine pop M ?_;have hx:xs[i]?=some xs[i]:=by simp[hi]
 have So:=BL hx;have I:(flat (xs.take i)).length=i*4:=by rw[dO,n0,Nat.min_eq_left cU];rfl
 have U:(flat (xs.drop (i+1))).length=(xs.length-(i+1))*4:=by rw[dO,B];rfl
 have W:(jl xs[i]).length=4:=rfl;have Y:(flat (o6 1 (⟨0,0,0,0⟩:bH))).length=4:=rfl
 have s1:iV (flat xs++rest) (i*og bH) (flat (xs.drop (i+1))) =
   flat (xs.take i)++flat (xs.drop (i+1))++((jl xs[i]++flat (xs.drop (i+1))).drop (flat (xs.drop (i+1))).length++rest):=by
  have:=mc (flat (xs.take i)) ((jl xs[i]++flat (xs.drop (i+1))).take (flat (xs.drop (i+1))).length)
   ((jl xs[i]++flat (xs.drop (i+1))).drop (flat (xs.drop (i+1))).length++rest) (flat (xs.drop (i+1))) (by rw[n0,lJ];omega)
  rw[I]at this
  change iV (flat xs++rest) (i*4) _=_
  rw[<- this,So]
  have e0:∀(a b c d:List Value) (n:Nat),a++(b++c)++d=a++(b++c).take n++((b++c).drop n++d):=λa b c d n=>by
   rw[o1 a ((b++c).take n),<- o1 ((b++c).take n),sf,o1 a]
  exact gD (λz=>iV z (i*4) (flat (xs.drop (i+1)))) (by first|exact e0 _ _ _ _ _|(rw[<- e0];simp only[o1])|(simp only[o1];rw[<- o1 (List.take _ _),sf,o1]))
 rw[s1]at b1
 obtain⟨w2,r2,b2,g2⟩:=Yg (P:=hZ) (R:=0) (o:=(xs.length-1)*4) (n:=1) (c:=cap-(xs.length-1)) (z:=(⟨0,0,0,0⟩:bH)) lL sP b1
  (by simp only[lJ,tx,I,U,W];change _+1*4<=_;omega)
 refine⟨_,w2,r2,?_⟩
 have Z:=mc (flat (xs.take i)++flat (xs.drop (i+1))) ((jl xs[i]++flat (xs.drop (i+1))).drop (flat (xs.drop (i+1))).length) rest (flat (o6 1 (⟨0,0,0,0⟩:bH)))
  (by rw[tx,lJ,W,Y];omega)
 rw[show(flat (xs.take i)++flat (xs.drop (i+1))).length=(xs.length-1)*4 from by rw[lJ,I,U];omega,o1 _ _ rest]at Z;rw[Z]at b2;refine⟨trivial,F,.inr ⟨b,cap,flat (o6 1 (⟨0,0,0,0⟩:bH))++rest,?_,?_,?_,O⟩,λ_ hb=>.inl hb,((Ext.drew w).aG (A:=F)).trans (g1.trans (C:=F) g2 (λk J=>(O k).2 J) λk _ J=>(O k).2 J) (λ_ h=>h) λ_ _ h=>h⟩
 .rw[Tz hi]
 .rw[H3,iP,<- o1];exact b2
 refine⟨by rw[Tz hi];omega,?_⟩;rw[H3,iP]
 change cap*4<=_
 rw[lJ,hlen]at E;simp only[lJ,I,U,Y];omega
def C250(J:Value)(xs:List bH)(w:World)(G:dP (λ_=>True) w J xs)(Y:xs.length<=1073741824):CR 250 [J] w (λv w'=>mf (bG v xs) w w'):=by
 have E:=G;obtain⟨a,cap,rfl,Z,h3⟩:=G;have B:=St.start w;refine fD Tryz.func250 ?_;refine aaR (gw lL).1 (λU=>?_) ?_
 .rcases h3 with⟨h,hc⟩|⟨b,o,h,_⟩
  .exact⟨by rw[h];rfl,hc⟩
  rw[U]at h;cases h
 refine aX (λI=>?_) (λI=>?_)
 .have M:a=none:=by cases a with|none=>rfl|some _=>cases I
  have V:xs=[]:=by
   rcases h3 with⟨h,_⟩|⟨b,o,h,_⟩
   .exact h
   .rw[M]at h;cases h
  subst V;exact B.eU.fresh
 refine bV ([]:List bH) B lL rfl rfl (ei rfl) (λW _ B=>?_);have O:=(E.ext B.aG);exact cK B lL O (by simp<;>omega) er (λ_ _ B=>B.fresh)
def C143(p:Nat)(room:Int)(l:List bH)(w:World)(hb:xX w p room l)(J:l.length<=1073741824):CR 143 [.pointer (some ⟨p,0,none⟩)] w (λv w'=>mf (bG v l) w w'):=by
 obtain⟨O,M,I,G⟩:=hb;have B:=St.start w;refine fD Tryz.func143 ?_;refine aD (aA lM (bN sF (I.ext B.aG) (eC ajK (C250 _ _ _ (G.ext B.aG) cU) ?_)));rintro _ _ E;have B:=B.made E;exact B.fresh
theorem adp{room:Int}{l:List bH}{x:bH}(h:right x=false):TX room l x=1:=by unfold TX;rw[h];rfl
theorem adq{room:Int}{l:List bH}{x:bH}(h:right x=false):qw room l x=l:=by unfold qw;rw[h];rfl
theorem YJ{room:Int}{l:List bH}{x:bH}(h:right x=true)(B:room<=l.length):TX room l x=2:=by grind[TX]
theorem YK{room:Int}{l:List bH}{x:bH}(B:room<=l.length):qw room l x=l:=by grind[qw]
theorem aic{room:Int}{l:List bH}{x:bH}(h:right x=true)(B:¬ room<=l.length):TX room l x=0:=by grind[TX]
theorem aid{room:Int}{l:List bH}{x:bH}(h:right x=true)(B:¬ room<=l.length):qw room l x=l++[x]:=by unfold qw;grind
def C164(p:Nat)(room:Int)(l:List bH)(x:bH)(F:Nat->Prop)(w:World)(I:(lV p room l).p w F)(W:l.length<=1048576):CR 164 [.pointer (some ⟨p,0,none⟩),jj x] w (λv w'=>v=iE (TX room l x)/\ng F (lV p room (qw room l x)) w w'):=by
 have B:=St.begin I;obtain⟨Y,B⟩:=B.dU;have B:=B.split;refine pG Tryz.func164 (pl:=azM) ?_;refine cP B (λM _ B=>aE lP B.At (aY arz B (C261 _ _) λ_ V B=>bJ (aX (λE=>?_) λE=>aY aaA B (C145 _ _ _ _ (xX.mk' B.p1.hb B.p2.fc)) λ_ V B=>aC (λG=>?_) λG=>?_)))
 .have B:=B.p2.p2;rw[adp (by simpa using E),adq (by simpa using E)];exact⟨rfl,(lV.shut B).mut⟩
 .have B:=B.p2.p2;rw[YJ (by simpa using E) G,YK G];exact⟨rfl,(lV.shut B).mut⟩
 refine aD (aA lM (have B:=B.drew;aB sF B.p1.hb rfl (aE lP B.At (bV ([x]) B lL rfl rfl (ei rfl) λO _ B=>?_))));refine⟨aF sF (B.p2.hb.cell rfl),?_⟩;have J:=B.fc;refine cK B.p3 lL J (by simp<;>omega) er (λU _ B=>have B:=B.p1.drop;aD (aA lM (aO B.p2 sF (ei rfl) B.fc.one λ_ B=>?_)));have B:=B.p1.p1;rw[aic (by simpa using E) G,aid (by simpa using E) G];exact⟨rfl,(lV.shut B).mut⟩
theorem Fa{l:List bH}{i:Int}(h:xc l i=false):cO l i=⟨0,0,0,0⟩:=by unfold cO;rw[h];rfl
theorem Fb{l:List bH}{i:Int}(h:xc l i=false):iH l i=l:=by unfold iH;rw[h];rfl
theorem LA{l:List bH}{i:Int}(h:i<0\/(l.length:Int)<=i):Aa l i=1:=by unfold Aa;omega
theorem adr{l:List bH}{i:Int}(B:0<=i/\i<l.length)(h:xc l i=false):Aa l i=13:=by unfold Aa;grind
theorem ads{l:List bH}{i:Int}(h:xc l i=true):Aa l i=0:=by unfold Aa;rw[ez (aib h),h];rfl
theorem adt{l:List bH}{i:Int}{x:bH}(h:xc l i=true)(B:l[i.toNat]?=some x):cO l i=x:=by unfold cO;grind
theorem adu{l:List bH}{i:Int}(h:xc l i=true):iH l i=l.eraseIdx i.toNat:=by unfold iH;rw[h];rfl
def C158(p:Nat)(room:Int)(l:List bH)(i:Int)(F:Nat->Prop)(w:World)(G:(lV p room l).p w F)(hn:l.length<=1048576):CR 158 [.pointer (some ⟨p,0,none⟩),iE i] w (λv w'=>v=.tuple #[jj (cO l i),iE (Aa l i)]/\ng F (lV p room (iH l i)) w w'):=by
 have B:=St.begin G;obtain⟨sv,B⟩:=B.dU;have B:=B.split;refine fD Tryz.func158 ?_;refine aJ B sP (λQ6 _ B=>?_);refine⟨_,?_,λ_ _ h=>h⟩;refine aV (aC (λY=>?_) λY=>?_)
 .intro V;refine jb (pop MU (aH (x:=(⟨0,0,0,0⟩:bH)) B lP rfl rfl λU B=>aE lP B.At ?_));have B:=B.p2.p2;rw[Fa (xd cU),LA cU,Fb (xd cU)];exact⟨rfl,(lV.shut B).mut⟩
 refine aD (aA lM (aB sF B.p1.hb rfl (aK lL B.p2.fc (dC ?_))));intro V;refine aC (λO=>?_) (λO=>aY ajF B (C147 _ _ _ _ _ (xX.mk' B.p1.hb B.p2.fc) cU) λ_ he B=>bJ (aX (λE=>?_) λE=>?_))
 .refine pop MU (aH (x:=(⟨0,0,0,0⟩:bH)) B lP rfl rfl λU B=>aE lP B.At ?_);have B:=B.p2.p2;rw[Fa (xd cU),LA cU,Fb (xd cU)];exact⟨rfl,(lV.shut B).mut⟩
 .refine pop MU (aH (x:=(⟨0,0,0,0⟩:bH)) B lP rfl rfl λ_ B=>aE lP B.At ?_);have B:=B.p2.p2;rw[Fa (by simpa using E),adr cU (by simpa using E),Fb (by simpa using E)];exact⟨rfl,(lV.shut B).mut⟩
 refine aD (aA lM (aB sF B.p1.hb rfl ?_));obtain⟨I,J⟩:=gx l (i:=(i).toNat) cU;refine dN B.p2 lL cU cU (λ_ Z=>gW B.p2 lP Z J (aJ B sP λTY _ B=>aH (x:=I) B lP rfl rfl λ_ B=>aD (aA lM (aB sF B.p2.hb rfl (eC ajK (C250 _ _ _ B.p3.fc cU) ?_)))));rintro _ _ W;have B:=B.made W;refine aR cU (q7 ary B (H':=λv=>bG v (l.eraseIdx i.toNat)) (Φ:=λ_ _=>True) (λF G=>?_) ?_)
 .exact C258 _ i _ F _ G cU cU cU
 rintro M _ _ B;refine aD (aA lM (aO B.p3 sF (ei rfl) B.fc.one λ_ B=>aE lP B.p2.At (aH (x:=I) B.p3 lP rfl rfl λ_ B=>aE lP B.At ?_)));have B:=B.p2.p2;rw[adt (by simpa using E) J,ads (by simpa using E),adu (by simpa using E)];exact⟨rfl,(lV.shut B).mut⟩
end Go.Proofs.YtdncbeepkacgbaaGreatDoor
