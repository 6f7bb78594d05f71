/-
  Part 7.
-/
import Derived.Test.YtpdlpabnlkofmaaGreatDoorR3x6
set_option maxHeartbeats 8000000
set_option linter.all false
set_option maxRecDepth 100000
open Go.Fw.Flat renaming val->jr,enc->kp,sz->nk
open List renaming getElem?_eq_some_iff->kE,mem_of_getElem?->kO,take_of_length_le->la,getElem?_eq_getElem->lU,length_append->l0,length_take->l9,length_map->mW,length_singleton->nh,getElem?_eq_none->n0,append_assoc->n4,getD_eq_getElem?_getD->oi,replicate->oz,mem_map->o1,mem_cons_self->o4,length_cons->o5,getElem?_map->o6,mem_append->pd,mem_cons_of_mem->qa,append_nil->qb,length_drop->sJ,range->tg,getElem?_append_left->uc,drop_drop->u3,drop_eq_nil_of_le->u6,map_append->vG,mem_singleton->vS,take_add_one->v7,ext_getElem?->xq,any_eq_true->xy,mem_of_mem_take->x7,nil_append->zS,filter_append->Bt,map_congr_left->B0,getElem?_set_self->Eu,drop_left->GA,getElem?_set_ne->IQ,length_set->Jc,range_succ->Ju,map_map->Jz,take_left->Oy,filter_filter->Tx,drop_take->Z2,mem_of_mem_drop->Z6,filter->abL
open Nat renaming zero_le->l2,le_trans->vJ,mul_le_mul_right->D6,lt_or_ge->Pk
open Option renaming bind_some->mv,some->ob,toList_some->K0
open Go.Instr renaming build->mE,sliceAt->oa,box->BF,indexAt->H5,makeSlice->NA
open Go.Value renaming int->n3,tuple->G3
open Go.Fw.Deep renaming dr->n5
open Int renaming toNat_natCast->tx
open Decidable renaming not_not->A0
namespace Go.Proofs.YtpdlpabnlkofmaaGreatDoor
open Go.Fw
theorem TX(f:List Int->List Int):∀(l:List (List Int)) (s:List (List Int)×List (List Int)),∀x∈(l.foldl (λs c=>if f c∈s.2 then s else(s.1++[c],s.2++[f c])) s).1,x∈s.1\/x∈l
 | [],s,x,h=>.inl h
 | c::l,s,x,h=>by
  rw[List.foldl_cons]at h
  rcases TX f l _ x h with h1|h1
  .split at h1
   .exact .inl h1
   .rcases pd.1 h1 with h2|h2
    .exact .inl h2
    .exact .inr (by rw[vS.1 h2];exact o4 ..)
  .exact .inr (qa _ h1)
def VL{m:Mem}{c:List Int}(h:c∈tP m):c∈dA (ry m):=by
 have:=TX (sL m) (dA (ry m)) ([],[]) c h
 rcases this with h1|h1
 .cases h1
 exact h1
def Re{m:Mem}(u:tO m){c:List Int}(h:c∈tP m):fh m c=some (nn m c c.length)/\c.length<=20:=by
 have h1:=VL h
 have h2:=oy h1
 have h3:=vL m
 have h4:=kT u
 have h5:=u.lb
 refine⟨vd bL λk x G E=>?_,bL⟩
 have B:(ry m)[k]?=some (m.fj k).length:=ve bL
 exact yv h1 B E
theorem Ob{ns:List Int}{many:Int}(B:yI ns):∀{xs:List ou}{S:List Int},yI S->(∀x∈xs,qU many x=false)->eT (wF ns xs S).1
 | [],S,u,_=>LU u
 | x::r,S,u,h=>by
  unfold wF
  split
  .exact Ob B (XN B u (h x (o4 ..))) λy E=>h y (qa _ E)
  .exact iy
def afw{xs:List ou}{ns:List Int}(B:yI ns):eT (runM xs ns).1:=by
 unfold runM
 split
 .rename_i h
  exact Ob B (λv u=>by cases u) (yU h).2.2
 exact iy
def yI.set{S:List Int}(h:yI S){i:Nat}{v:Int}(u:eT v):yI (S.set i v):=λe B=>by
 rcases List.mem_or_eq_of_mem_set B with h1|rfl
 .exact h e h1
 .exact u
def Ex.val(ns:List ByteArray)(nums:List Int):Ex->Int×Int
 | .leaf x=>(if x.op=2 then nums.getD (cU ns x.name).toNat 0 else x.n,0)
 | .un x a=>if (a.val ns nums).2=0 then(yH x.op (a.val ns nums).1,0)else(0,(a.val ns nums).2)
 | .bin x a b=>if (a.val ns nums).2=0 then(if (b.val ns nums).2=0 then(gz x.op (a.val ns nums).1 (b.val ns nums).1,gF x.op (b.val ns nums).1)else(0,(b.val ns nums).2))else(0,(a.val ns nums).2)
theorem Ex.Gq(ns:List ByteArray)(nums:List Int)(x:bU)(a:Ex):(Ex.un x a).val ns nums=if (a.val ns nums).2=0 then(yH x.op (a.val ns nums).1,0)else(0,(a.val ns nums).2):=rfl
theorem Ex.BC(ns:List ByteArray)(nums:List Int)(x:bU)(a b:Ex):(Ex.bin x a b).val ns nums=if (a.val ns nums).2=0 then(if (b.val ns nums).2=0 then(gz x.op (a.val ns nums).1 (b.val ns nums).1,gF x.op (b.val ns nums).1)else(0,(b.val ns nums).2))else(0,(a.val ns nums).2):=rfl
theorem z7{k:Int}(h:0<=kids k):eA k=kids k:=by
 grind[eA,kids]
theorem sV(S:List Int)(v:Int):j6 (S++[v])=v:=by
 grind[j6]
theorem Gr(S:List Int)(v:Int):(S++[v]).take ((S++[v]).length-1)=S:=by
 simp_all
theorem Rf(S:List Int)(v u:Int):(S++[v]++[u]).take ((S++[v]++[u]).length-2)=S:=by
 simp_all
theorem VM(ns:List ByteArray)(nums:List Int):∀(t:Ex),t.wf->∀(r:List ou) (S:List Int),wF nums (t.steps ns++r) S=if (t.val ns nums).2=0 then wF nums r (S++[(t.val ns nums).1])else(0,(t.val ns nums).2):=by
 intro t
 induction t with
 | leaf x=>
  intro E r S
  have G:kids x.op=0:=E
  have u:eA x.op=0:=by rw[z7 bL,G]
  show(if vA S ⟨x.op,Ex.numOf ns x⟩=0 then wF nums r (lq nums S ⟨x.op,Ex.numOf ns x⟩)else _)=_
  have h1:vA S ⟨x.op,Ex.numOf ns x⟩=0:=by unfold vA;rw[show eA (⟨x.op,Ex.numOf ns x⟩:ou).kind=0 from u];rfl
  have h2:lq nums S ⟨x.op,Ex.numOf ns x⟩=S++[((Ex.leaf x).val ns nums).1]:=by
   unfold lq;rw[ej (show eA (⟨x.op,Ex.numOf ns x⟩:ou).kind=0 from u)]
   show S++[if x.op=2 then nums.getD (Ex.numOf ns x).toNat 0 else Ex.numOf ns x]=S++[if x.op=2 then _ else _]
   unfold Ex.numOf
   split<;>simp[*]
  rw[ej h1,h2];rfl
 | un x a U=>
  intro E r S
  have G:kids x.op=1:=E.1
  have u:eA x.op=1:=by rw[z7 bL,G]
  show wF nums (a.steps ns++[⟨x.op,Ex.numOf ns x⟩]++r) S=_
  rw[n4,U E.2,Ex.Gq]
  by_cases B:(a.val ns nums).2=0
  .rw[ej B,ej B]
   show(if vA _ ⟨x.op,Ex.numOf ns x⟩=0 then wF nums r (lq nums _ ⟨x.op,Ex.numOf ns x⟩)else _)=_
   have h1:∀J,vA J ⟨x.op,Ex.numOf ns x⟩=0:=λJ=>by unfold vA;rw[show eA (⟨x.op,Ex.numOf ns x⟩:ou).kind=1 from u];rfl
   rw[ej (h1 _)]
   unfold lq
   rw[ei (show ¬ eA (⟨x.op,Ex.numOf ns x⟩:ou).kind=0 by show ¬ eA x.op=0;omega),ej (show eA (⟨x.op,Ex.numOf ns x⟩:ou).kind=1 from u),sV,Gr]
   rfl
  .rw[ei B,ei B,ei B]
 | bin x a b O M=>
  intro E r S
  have G:kids x.op=2:=E.1
  have u:eA x.op=2:=by rw[z7 bL,G]
  show wF nums (a.steps ns++b.steps ns++[⟨x.op,Ex.numOf ns x⟩]++r) S=_
  rw[n4,n4,O E.2.1,Ex.BC]
  by_cases B:(a.val ns nums).2=0
  .rw[ej B,ej B,M E.2.2]
   by_cases hb:(b.val ns nums).2=0
   .rw[ej hb,ej hb]
    show(if vA _ ⟨x.op,Ex.numOf ns x⟩=0 then wF nums r (lq nums _ ⟨x.op,Ex.numOf ns x⟩)else _)=_
    have h1:vA (S++[(a.val ns nums).1]++[(b.val ns nums).1]) ⟨x.op,Ex.numOf ns x⟩=gF x.op (b.val ns nums).1:=by
     unfold vA;rw[ej (show eA (⟨x.op,Ex.numOf ns x⟩:ou).kind=2 from u),sV]
    rw[h1]
    by_cases I:gF x.op (b.val ns nums).1=0
    .rw[ej I,ej I]
     unfold lq
     rw[ei (show ¬ eA (⟨x.op,Ex.numOf ns x⟩:ou).kind=0 by show ¬ eA x.op=0;omega),ei (show ¬ eA (⟨x.op,Ex.numOf ns x⟩:ou).kind=1 by show ¬ eA x.op=1;omega),sV,Gr,sV,Rf]
    .rw[ei I,ei I]
   .rw[ei hb,ei hb,ei hb]
  .rw[ei B,ei B,ei B]
theorem VN{ns:List ByteArray}{nums:List Int}{xs:List bU}(h:kQ ns xs=0)(J:ns.length=nums.length):∃t,BO xs 0 t/\pN ns nums xs=t.val ns nums/\(∀y∈xs,y.op=2->0<=cU ns y.name)/\∀y∈xs,eT y.n:=by
 unfold kQ at h
 split at h
 .cases h
 rename_i u
 have u:fz xs=true:=cD
 split at h
 .cases h
 rename_i hv
 have U:=zG u
 obtain⟨t,ht⟩:=BO.of (xs:=xs) (i:=0) bL
 obtain⟨h1,h2⟩:=ht.zero U
 have G:kQ ns xs=0:=by grind[kQ]
 have B:=(N3 (ns:=ns) (l:=xs) (many:=(nums.length:Int)) u (by simpa[oZ]using hv) bL).1
 refine⟨t,ht,?_,λy M h2=>?_,λy M=>?_⟩
 .unfold pN runM
  rw[ej J,ej G,ej B]
  have O:qz ns xs=t.steps ns:=by unfold qz Cc;grind
  have:=VM ns nums t ht.2.1 [] []
  rw[qb]at this
  rw[O,this]
  split
  .rename_i h0
   show(j6 ([]++_),0)=_
   rw[sV,<- h0]
  rename_i h0
  have E:∀t:Ex,¬ (t.val ns nums).2=0->(t.val ns nums).1=0:=by
   intro t
   cases t with
   | leaf x=>intro h;exact absurd rfl h
   | un x a=>rw[Ex.Gq];split<;>intro h<;>first|exact absurd rfl h|rfl
   | bin x a b=>
    rw[Ex.BC];repeat' split
    all_goals intro h
    .show gz _ _ _=0;unfold gz;rw[ei h]
    .rfl
    .rfl
  rw[<- E t h0]
 .grind
 have I:kX y=false:=by
  unfold fz at u
  grind
 unfold kX at I
 unfold eT
 grind
theorem Ex.Rg{ns:List ByteArray}{nums:List Int}(u:yI nums):∀t:Ex,(∀y∈t.flat,eT y.n)->eT (t.val ns nums).1
 | .leaf x,h=>by
  unfold Ex.val;dsimp only
  split
  .rw[oi]
   cases hh:nums[(cU ns x.name).toNat]? with
   | none=>exact iy
   | some e=>exact u e (kO hh)
  .exact h x (List.mem_singleton_self x)
 | .un x a,h=>by rw[Ex.Gq];split;exact XM;exact iy
 | .bin x a b,h=>by
  rw[Ex.BC];repeat' split
  .exact XL (Ex.Rg u a λy B=>h y (by simp[Ex.flat,B]))
  .exact iy
  .exact iy
abbrev Dq:=bM×Bk×Bk×Bool
def Ed:Bool->Bk->List Dq
 | _,.nil=>[]
 | e,.cons x a b r=>(x,a,b,e)::Ed false r
def wB:PD->List Dq
 | []=>[]
 | q::p=>Ed q.2 q.1++wB p
def Gs(p:PD):Prop:=∀q∈p,q.2=true->∃x a,q.1=Bk.cons x a .nil .nil
def uu:List Dq->List Dq
 | []=>[]
 | q::l=>if q.2.2.2=true then l else uu l
section
variable {p:PD}{b:Bk}{x:bM}{a:Bk}{t:jd}{l:List Dq}
theorem vm:wB (jm b false p)=Ed false b++wB p:=by cases b<;>rfl
theorem vX{c:Bk}(h:mG p=some (x,a,c)):∃e,wB p=(x,a,c,e)::wB (gB p):=by
 obtain⟨r,e,u,rfl⟩:=Ig h
 exact⟨e,by show _::(Ed false r++wB u)=_::wB (jm r false u);rw[vm]⟩
theorem IG:∀b:Bk,uu (Ed false b++l)=uu l
 | .nil=>rfl
 | .cons _ _ _ r=>IG r
theorem IH:∀{p:PD},Gs p->wB (ku p)=uu (wB p)
 | [],_=>rfl
 | (b,true)::p,h=>by
  obtain⟨x,a,hb⟩:=h _ (o4 ..) rfl
  have hb:b=Bk.cons x a .nil .nil:=hb
  subst hb;rfl
 | (b,false)::p,h=>by
  show wB (ku p)=uu (Ed false b++wB p)
  rw[IG,IH λq u=>h q (qa _ u)]
theorem VO(h:¬ x.n=0):wB (mH x a p)=Ed false a++({x with n:=x.n-1},a,.nil,true)::wB (gB p):=by
 unfold mH;rw[ei h,vm];rfl
theorem II:∀(l:List Dq) (k:Nat),(∀j q,j<k->l[j]?=some q->q.2.2.2=false)->(∀q,l[k]?=some q->q.2.2.2=true)->k<=l.length->uu l=l.drop (k+1)
 | [],k,_,_,_=>by simp[uu]
 | q::l,0,_,h,_=>by
  simp_all[Dq,uu]
 | q::l,k+1,h1,h2,h3=>by
  have:=h1 0 q bL rfl
  show(if q.2.2.2=true then l else uu l)=_
  rw[ei cD,II l k (λj B E u=>h1 (j+1) B bL u) (λB u=>h2 B u) cD]
  rfl
theorem Gs.tail{q:Bk×Bool}(h:Gs (q::p)):Gs p:=λr u=>h r (qa _ u)
theorem Gs.push(h:Gs p):Gs (jm b false p):=by
 cases b with
 | nil=>exact h
 | cons x a c r=>
  grind[Gs,jm]
theorem Gs.pop(h:Gs p):Gs (gB p):=by
 match p,h with
 | [],h=>exact h
 | (.nil,_)::p,h=>exact h.tail
 | (.cons x a b r,_)::p,h=>exact h.tail.push
theorem Gs.leave:∀{p:PD},Gs p->Gs (ku p)
 | [],h=>h
 | (_,e)::p,h=>by
  unfold ku;split
  .exact h.tail
  .exact h.tail.leave
theorem Gs.round(h:Gs p):Gs (mH x a p):=by
 unfold mH;split
 .exact h.pop
 refine Gs.push λq u B=>?_
 rcases List.mem_cons.1 u with rfl|u
 .grind
 exact h.pop q u B
theorem afx:p.length<=(wB p).length\/∃q∈p,q.1=.nil:=by
 induction p with
 | nil=>left;simp
 | cons q p u=>
  rcases u with u|⟨r,B,h⟩
  .cases hb:q.1 with
   | nil=>grind
   | cons x a c r=>left;show p.length+1<=(Ed q.2 q.1++wB p).length;rw[hb];simp only[Ed,l0,o5];omega
  grind
theorem TY:∀(e:Bool) (b:Bk),(Ed e b).length<=lT b
 | _,.nil=>l2 _
 | _,.cons x a b r=>by have:=TY false r;simp only[Ed,o5];rw[sN];omega
theorem Gt:∀p:PD,(wB p).length<=gT p
 | []=>l2 _
 | q::p=>by have:=Gt p;have:=TY q.2 q.1;rw[pR];show(Ed q.2 q.1++wB p).length<=_;grind
end
structure Mo(m:Mem):Prop where
 l:yI m.l
 k:yI m.kept
 f:yI m.ef
 p:∀k,∀x∈m.fj k,eT x.n
theorem Gu:∀{ws:List iw}{k:List Int},yI k->(∀x∈ws,eT x.n)->yI (nN k ws)
 | [],k,u,_=>u
 | w::ws,k,u,h=>by
  show yI (nN (k.set w.cell.toNat w.n) ws)
  exact Gu (u.set (h w (o4 ..))) λx B=>h x (qa _ B)
section
variable {m:Mem}
theorem Mo.write(h:Mo m){c n:Int}(B:eT n):Mo (fg m c n):=by
 unfold fg
 split
 .refine⟨h.l.set B,h.k,h.f,λk x u=>?_⟩
  dsimp only at u
  split at u
  .rcases D9 u with h1|h1
   .rcases pd.1 h1 with h2|h2
    .exact h.p _ x h2
    grind
   exact h.p _ x h1
  exact h.p _ x u
 exact h
theorem Mo.out(h:Mo m){n:Int}:Mo (n7 m n):=by
 unfold n7
 split
 .refine⟨h.l,Gu h.k (h.p _),h.f,λk x u=>?_⟩
  rcases D9 u with h1|h1
  .cases h1
  exact h.p _ x h1
 exact h
theorem Oc(h:Mo m)(cut:List Int):∀k,yI (nn m cut k)
 | 0=>h.k
 | k+1=>by
  have u:=Oc h cut k
  unfold nn at u |-
  rw[Ju,List.foldl_append]
  exact Gu u λx B=>h.p _ x (x7 B)
theorem Mo.as6(h:Mo m){cut u:List Int}(hi:fh m cut=some u):Mo (mF m u):=by
 have B:yI u:=by
  unfold fh at hi
  split at hi
  .cases hi;exact Oc h cut _
  .cases hi
 refine⟨λv E=>?_,B,h.f,λk x G=>by cases G⟩
 rcases pd.1 (show v∈u++m.ef.drop u.length from E)with h1|h1
 .exact B v h1
 exact h.f v (Z6 h1)
theorem aa1(h:Mo m)(c:Int):eT (jy m c):=by
 unfold jy
 split
 .rw[oi]
  cases hg:m.l[c.toNat]? with
  | none=>exact iy
  | some v=>exact h.l v (kO hg)
 exact iy
end
theorem aa2{l:List bH}{c:Int}(h:∀y∈l,eT y.n):eT ((lu l c).getD 0):=by
 unfold lu
 cases hf:l.reverse.find? (λx=>decide (x.kind=3/\x.cell=c))with
 | none=>exact iy
 | some y=>grind
theorem VP{l:List bH}{i:Int}(h:∀y∈l,eT y.n):eT (dF l i).n:=by
 unfold dF
 split
 .cases hg:l[i.toNat]? with
  | none=>exact iy
  | some y=>grind
 exact iy
def VQ{l:List bH}{i:Int}{y:bH}(h:y∈jL l i):y∈l:=by
 unfold jL at h
 split at h
 .exact List.mem_of_mem_eraseIdx h
 exact h
def aa3{room:Int}{l:List bH}{x y:bH}(h:y∈sI room l x):y∈l\/y=x:=by
 unfold sI at h
 grind
structure BQ(t:jd):Prop where
 r:yI t.dO
 b:∀y∈t.buf,eT y.n
def afy{ns:List ByteArray}{nums:List Int}{xs:List bU}(h:yI nums):eT (pN ns nums xs).1:=by
 unfold pN
 repeat' split
 .exact afw h
 .exact iy
 exact iy
def Kw{t:jd}{xs:List bU}(h:yI t.dO):eT (eF t xs).1:=by
 unfold eF;split
 .exact iy
 exact afy h
def BQ.goS{t:jd}(h:BQ t):BQ (qH t).1:=by
 unfold qH
 split
 .exact h
 split
 .unfold qG
  repeat' split
  all_goals first|exact⟨h.r.set (Kw h.r),h.b⟩|exact⟨h.r,h.b⟩
 exact⟨h.r,h.b⟩
theorem BQ.goF:∀(n:Nat) {t tR:jd},BQ t->tm n t=some tR->BQ tR
 | 0,_,_,_,u=>by cases u
 | n+1,t,tR,h,u=>by
  unfold tm at u
  split at u
  .exact BQ.goF n h.goS u
  .cases u;exact h.goS
theorem BQ.go{t:jd}(h:BQ t):BQ (goD t):=by
 unfold goD
 cases hg:tm (gT t.bV+1) t with
 | none=>exact h
 | some tR=>exact BQ.goF _ h hg
def BQ.th(t:cK):BQ (Vf t):=BQ.go ⟨λv B=>by rw[(List.mem_replicate.1 B).2];exact iy,λy u=>by cases u⟩
structure Kx(m:gC):Prop where
 th:∀t∈m.l,BQ t
 mem:Mo m.mem
section
variable {m:gC}{t:jd}
theorem aa4{i:Int}{x:bM}(h:Mo m.mem)(h2:BQ t):BQ (ea m t i x).2.1/\Mo (ea m t i x).1.mem:=by
 have E:=λc=>aa1 h c
 have G:∀c,eT (g9 m t c):=λc=>by
  unfold g9
  split
  .exact aa2 h2.b
  grind
 have B:∀y:bH,eT y.n->BQ (pW m t y):=λy M=>⟨h2.r,λz I=>by
  rcases aa3 I with h3|h3
  .exact h2.b z h3
  grind⟩
 have hc:Mo (rB m t x).mem:=by
  unfold rB;split
  .exact h.write (Kw h2.r)
  .exact h
 have u:∀n,eT n->BQ (o7 t x.ey n):=λn J=>⟨h2.r.set J,h2.b⟩
 unfold ea
 repeat' split
 all_goals first
  | exact⟨u _ (G _),h⟩
  | exact⟨B _ (Kw h2.r),h⟩
  | exact⟨B _ iy,h⟩
  | exact⟨h2,h⟩
  | exact⟨u _ (E _),hc⟩
theorem Kx.step{i:Int}(h:Kx m):Kx (im m i).1:=by
 unfold im
 split
 .exact h
 rename_i t ht
 have B:=h.th t (kO ht)
 split
 .exact⟨h.th,h.mem⟩
 split
 .exact h
 rename_i x _ _ _
 split
 .exact⟨h.th,h.mem⟩
 obtain⟨h1,h2⟩:=aa4 (i:=i) (x:=x) h.mem B
 refine⟨λt' u=>?_,h2⟩
 rcases vj u with rfl|h3
 .exact BQ.go ⟨h1.r,h1.b⟩
 exact h.th t' h3
theorem Kx.out{q:cS}(h:Kx m)(ht:m.l[q.t.toNat]?=some t):Kx (tq m t q):=by
 have h2:=h.th t (kO ht)
 refine⟨λt' u=>?_,?_⟩
 .rcases vj u with rfl|h3
  .exact⟨h2.r,λy B=>h2.b y (VQ B)⟩
  exact h.th t' h3
 show Mo (jM m.mem (dF t.buf q.i))
 unfold jM
 split
 .exact h.mem.write (VP h2.b)
 split
 .exact h.mem
 exact h.mem.out
theorem Kx.begin{l:List cK}(h:Mo m.mem):Kx (qP m l):=⟨λt ht=>by
 obtain⟨u,_,rfl⟩:=o1.1 (show t∈l.map Vf from ht);exact BQ.th u,h⟩
theorem Kx.do{q:cS}(h:Kx m):Kx (kx m q).1:=by
 unfold kx
 cases hi:iS m q with
 | some u=>
  have B:fh m.mem q.cut=some u:=by unfold iS at hi;grind
  exact Kx.begin (m:=o9 m u) (h.mem.as6 B)
 | none=>
  dsimp only
  split
  .split
   .split
    .rename_i t ht;exact h.out ht
    .exact h
   .exact h.step
  .exact h
end
def Od(B:Option Addr)(Z E:Nat)(Nt:Option Addr)(V M:Nat)(Nu:Option Addr)(Z7 Z8:Nat)(Nv:Option Addr)(Nw U:Nat)(W:Option Addr)(J G:Nat)(I:Option Addr)(Z9 u:Nat)(Y:Int)(O:Option Addr):pr hH (mE 44 [(0,.agg [.slice B Z E,.slice Nt V M,.slice Nu Z7 Z8,.slice Nv Nw U,.slice W J G,.slice I Z9 u].toArray),(1,ir Y),(3,.pointer O)].toArray)=some (.agg [.slice B Z E,.slice Nt V M,.slice Nu Z7 Z8,.slice Nv Nw U,.slice W J G,.slice I Z9 u,ir Y,ir 0,.pointer O,.slice none 0 0,.slice none 0 0,ir 0,ir 0].toArray):=by kernel_rfl
def Gv(E:Int)(B:Int)(u:Int)(G:Bool):pr hH (mE 114 [(0,ir E),(1,ir B),(2,ir u),(3,.bool G)].toArray)=some (.agg [ir E,ir B,ir u,.bool G,.bool false].toArray):=by kernel_rfl
def xU(B:Option Addr)(J V:Nat)(U:Option Addr)(M G:Nat)(E:Option Addr)(O u:Nat)(I:Option Addr):pr hH (mE 132 [(0,.slice B J V),(1,.slice U M G),(2,.slice E O u),(3,.pointer I)].toArray)=some (.agg [.slice B J V,.slice U M G,.slice E O u,.pointer I,ir 0].toArray):=by kernel_rfl
def Ky(G:Int)(Nt:ByteArray)(Nu:ByteArray)(Nv:Option Addr)(Nw W:Nat)(Z:Option Addr)(M I:Nat)(J:Int)(E:Int)(u:Int)(B:Int)(a1:Option Addr)(Y V:Nat)(U:Option Addr)(n2 O:Nat):pr hH (mE 218 [(0,.agg [ir G,.string Nt,.string Nu,.slice Nv Nw W,.slice Z M I,ir J,ir E,ir u,ir B].toArray),(1,.slice a1 Y V),(2,.slice U n2 O)].toArray)=some (.agg [ir G,.string Nt,.string Nu,.slice Nv Nw W,.slice Z M I,ir J,ir E,ir u,ir B,.slice a1 Y V,.slice U n2 O,.bool false].toArray):=by kernel_rfl
structure pg where
 x:aZ
 body:SV
 ep:SV
 in_:Bool
instance:Flat pg where
 agg:=true
 sz:=12
 enc e:=[ir e.x.kind,.string e.x.ey,.string e.x.name,.slice e.x.e.a e.x.e.n e.x.e.cap,.slice e.x.f.a e.x.f.n e.x.f.cap,ir e.x.n,ir e.x.body,ir e.x.ep,ir e.x.at_,.slice e.body.a e.body.n e.body.cap,.slice e.ep.a e.ep.n e.ep.cap,.bool e.in_]
 val e:=.agg [ir e.x.kind,.string e.x.ey,.string e.x.name,.slice e.x.e.a e.x.e.n e.x.e.cap,.slice e.x.f.a e.x.f.n e.x.f.cap,ir e.x.n,ir e.x.body,ir e.x.ep,ir e.x.at_,.slice e.body.a e.body.n e.body.cap,.slice e.ep.a e.ep.n e.ep.cap,.bool e.in_].toArray
 pos:=dy
 len _:=rfl
 one a v h:=by simp at h;rcases h with rfl|rfl|rfl|rfl|rfl|rfl|rfl|rfl|rfl|rfl|rfl|rfl<;>rfl
 nU _ _:=rfl
 nV h:=by cases h
variable (w:World) (K:Value->hM)
def S128(B:Value):Prop:=
 bS 130 0 [] w λa b=>od (λG I E c=>∀_:Env,
 lN 141 B λd=>bA .lss 3 E d λe=>cV e (iA 141 B E λf=>lA 193 f c λg=>aL 193 c λh j=>sA 193 h g j λk=>bB .add 3 E (i 1) λl=>fA 193 h 6 λn=>lA 3 n k λo=>
 bA .add 3 l o λp=>fA 193 h 7 λq=>lA 3 q k λr=>bA .add 3 p r λs=>lA 193 h (drew k) λt=>bB .add 3 E (i 1) λu=>eK hH (oa 141 B (some u) (some p) none) λv=>
 eK hH (oa 141 B (some p) (some s) none) λx=>eK hH (mE 218 [(0,t),(1,v),(2,x)].toArray) λy=>bS 130 1 [(0,y)] (drew k) λz J=>
 aP 130 I z J λO M=>G O s M) (K I c)) (λG=>G a (i 0) b)
def az1:dL:=λi=>match i with
 | 6=>.run 0 15
 | _=>.nil
theorem afz(u:Value)(h:S128 w K u):CR 128 [u] w K:=
 oe 42 az1 4 [.tmp 2] Tryz.func128 h
def S13(p0 I:Value):Prop:=
 qM hH (BF 27 p0) w λp2 a=>lA 27 p2 a λb=>cF 57 [b] a λc d=>xT c 0 λe=>xT c 1 λ_=>bB .neq 31 e (i 0) λf=>cV f (K (.tuple #[(.pointer none),e]) d) (
 cF 58 [I] d λg h=>xT g 0 λ_=>xT g 1 λj=>bB .neq 31 j (i 0) λk=>cV k (K (.tuple #[(.pointer none),j]) h) (bS 41 0 [] h λl n=>od (λG E B o=>∀_:Env,
 lA 27 p2 o λp=>cF 59 [p] o λq r=>lN 23 q λs=>bA .lss 3 B s λt=>cV t (lA 27 p2 r λu=>cF 60 [u,B] r λv x=>bS 41 1 [(0,v)] x λy z=>aP 41 E y z λaa ab=>
 bB .add 3 B (i 1) λac=>G aa ac ab) (lA 27 p2 (drew r) λad=>lA 27 p2 (drew r) λJ=>cF 62 [ad] (drew r) λaf O=>kA 27 p2 J O (cF 63 [J] O λY ai=>cF 61 [E,af,Y] ai λV U=>
 xT V 0 λal=>xT V 1 λ_=>lA 27 p2 U λam=>eK hH (mE 44 [(0,am),(1,I),(3,al)].toArray) λZ=>qM hH (BF 44 Z) U λM W=>
 fA 27 p2 3 λaq=>lA 24 aq W λar=>cF 64 [M,ar] W λ_ asx=>K (.tuple #[M,(i 0)]) asx))) λG=>G l (i 0) n))
def P13:dL:=λi=>match i with
 | 12=>(.of [(0,[]),(1,[]),(3,[]),(2,[3]),(4,[]),(5,[]),(6,[]),(7,[]),(8,[]),(9,[]),(10,[])])
 | _=>.nil
theorem alR(p0 u:Value)(h:S13 w K p0 u):CR 13 [p0,u] w K:=
 oe 64 P13 48 [.tmp 4,.tmp 5] Tryz.func13 h
def az2:dL:=λi=>match i with
 | 3=>.run 0 15
 | _=>.nil
def S129(B:Value):Prop:=
 RL (λI a=>∀_:Env,
 nC B λb=>fA 132 b 0 λc=>lA 130 c a λd=>lN 130 d λe=>bB .gtr 3 e (i 0) λf=>cV f (nC B λg=>fA 132 g 0 λh=>lA 130 h a λj=>iA 130 j (i 0) λk=>lA 218 k a λl=>
 aL 218 a λG n=>sA 218 G l n λo=>fA 218 G 0 λp=>fA 193 p 3 λq=>lA 82 q o λr=>cF 203 [B,r] o λs t=>xT s 0 λu=>xT s 1 λv=>fA 218 G 0 λx=>fA 193 x 4 λy=>
 lA 82 y t λz=>cF 203 [B,z] t λaa ab=>xT aa 0 λ_=>xT aa 1 λac=>eH (λK2=>eK hH (Op.unary .not v) λad=>cV ad (K2 tt ab) (eK hH (Op.unary .not ac) λae=>
 K2 ae ab)) (λaf E=>∀_:Env,
 cV af (nC B λah=>fA 132 ah 4 λai=>sA 3 ai (i 2) E λaj=>K (.tuple #[]) aj) (fA 218 G 0 λak=>fA 193 ak 0 λal=>lA 3 al E λJ=>bB .eql 3 J (i 1) λan=>
 cV an (fA 218 G 0 λao=>fA 193 ao 1 λap=>lA 9 ap E λaq=>cF 204 [B,aq,u] E λ_ ar=>cF 171 [B,(.slice none 0 0)] ar λ_ asx=>I asx) (bB .eql 3 J (i 11) λau=>
 cV au (bB .neq 3 u (i 0) λav=>cV av (fA 218 G 1 λaw=>lA 141 aw E λax=>cF 128 [ax] E λay az=>cF 171 [B,ay] az λ_ a0=>I a0) (fA 218 G 2 λa1=>lA 141 a1 E λa2=>
 cF 128 [a2] E λa3 a4=>cF 171 [B,a3] a4 λ_ a5=>I a5)) (bB .eql 3 J (i 12) λa6=>cV a6 (bS 130 0 [] E λa7 U=>eH (λK3=>fA 218 G 0 λa9=>fA 193 a9 5 λba=>
 lA 3 ba U λbb=>bB .gtr 3 bb (i 0) λbc=>cV bc (lA 218 G U λbd=>aL 218 U λO be=>sA 218 O bd be λbf=>fA 218 G 0 λbg=>fA 193 bg 5 λbh=>lA 3 bh bf λbi=>
 bB .sub 3 bi (i 1) λbj=>fA 218 O 0 λbk=>fA 193 bk 5 λbl=>sA 3 bl bj bf λbm=>fA 218 O 3 λbn=>sA 4 bn tt bm λZ=>fA 218 G 1 λbp=>lA 141 bp Z λbq=>
 cF 128 [bq] Z λbr bs=>aP 130 a7 br bs λbt bu=>lA 218 O bu λbv=>bS 130 1 [(0,bv)] bu λbw bx=>aP 130 bt bw bx λbz b0=>K3 bz b0) (K3 a7 U)) (λl7 b1=>∀_:Env,
 cF 171 [B,l7] b1 λ_ b2=>I b2)) (bB .eql 3 J (i 13) λb3=>cV b3 (jR (λW M b4=>∀_:Env,
 eH (λY=>nC B λb5=>fA 132 b5 0 λb6=>lA 130 b6 b4 λb7=>lN 130 b7 λb8=>bA .lss 3 M b8 λb9=>cV b9 (nC B λca=>fA 132 ca 0 λcb=>lA 130 cb b4 λcc=>
 iA 130 cc M λcd=>fA 218 cd 3 λce=>lA 4 ce b4 λcf=>eK hH (Op.unary .not cf) λcg=>Y cg b4) (Y ff b4)) (λch V=>∀_:Env,
 cV ch (bB .add 3 M (i 1) λcj=>W cj V) (nC B λck=>fA 132 ck 0 λcl=>lA 130 cl (drew V) λcm=>bB .add 3 M (i 1) λcn=>nC B λco=>fA 132 co 0 λcp=>lA 130 cp (drew V) λcq=>
 lN 130 cq λcr=>eK hH (Builtin.min_ #[3,3] 3 [cn,cr].toArray) λcs=>eK hH (oa 130 cm (some cs) none none) λct=>nC B λcu=>fA 132 cu 0 λcv=>
 sA 130 cv ct (drew V) λcw=>I cw))) λW=>W (i 0) E) (bB .eql 3 J (i 14) λcx=>cV cx (bB .eql 3 u (i 0) λcy=>cV cy (nC B λcz=>fA 132 cz 4 λc0=>sA 3 c0 (i 1) E λc1=>
 K (.tuple #[]) c1) (cF 171 [B,(.slice none 0 0)] E λ_ c2=>I c2)) (K (.tuple #[]) E)))))))) (K (.tuple #[]) a)) (λI=>I w)
def az3:dL:=λi=>match i with
 | 27=>.run 0 17
 | _=>.nil
theorem afA(u:Value)(h:S129 w K u):CR 129 [u] w K:=
 oe 148 az3 0 [] Tryz.func129 h
def P80:dL:=λi=>match i with
 | 7=>.run 0 14
 | 8=>(.of [(0,[]),(1,[]),(2,[]),(3,[]),(4,[]),(5,[]),(6,[]),(7,[]),(8,[]),(9,[]),(10,[]),(11,[]),(12,[]),(13,[]),(14,[]),(15,[]),(16,[]),(17,[]),(18,[]),(19,[]),(20,[]),(21,[]),(23,[]),(24,[]),(22,[17,24]),(25,[17]),(26,[]),(27,[]),(28,[]),(29,[]),(30,[]),(31,[])])
 | _=>.nil
def S169(M I a E:Value):Prop:=
 qM hH (BF 193 a) w λb c=>aL 56 c λd e=>fA 193 b 3 λf=>lA 82 f e λg=>cF 203 [I,g] e λh j=>xT h 0 λk=>xT h 1 λ_=>fA 193 b 4 λl=>lA 82 l j λn=>
 cF 203 [I,n] j λo p=>xT o 0 λq=>xT o 1 λ_=>nC I λs=>fA 132 s 3 λt=>lA 103 t p λu=>cF 229 [u,E] p λv x=>xT v 0 λy=>xT v 1 λz=>eH (λU=>
 eK hH (Op.unary .not z) λaa=>cV aa (nC M λab=>fA 44 ab 3 λac=>lA 40 ac x λad=>nC ad λae=>fA 122 ae 2 λaf=>lA 41 af x λag=>iA 41 ag E λah=>
 lA 3 ah x λai=>U ai x) (U y x)) (λB Y=>∀_:Env,
 fA 193 b 1 λak=>lA 9 ak Y λal=>cF 204 [I,al,B] Y λ_ G=>fA 193 b 0 λan=>lA 3 an G λao=>bB .eql 3 ao (i 2) λap=>cV ap (cV z (eK hH (mE 56 [(0,(i 2)),(2,E),(3,B)].toArray) λaq=>
 sA 56 d aq G λZ=>lA 56 d Z λr=>K r Z) (eK hH (mE 56 [(0,(i 1)),(2,E),(3,B)].toArray) λasx=>sA 56 d asx G λO=>lA 56 d O λLg=>K Lg O)) (
 bA .neq 3 B k λav=>cV av (eK hH (mE 56 [(0,(i 9)),(2,E),(3,B)].toArray) λaw=>sA 56 d aw G λV=>lA 56 d V λUk=>K Uk V) (nC M λay=>
 fA 44 ay 3 λaz=>lA 40 az G λa0=>cF 166 [a0,E,q] G λ_ a1=>eK hH (mE 56 [(0,(i 8)),(2,E),(3,B),(4,q)].toArray) λa2=>sA 56 d a2 a1 λW=>
 lA 56 d W λJ=>K J W)))
theorem afB(B u G E:Value)(h:S169 w K B u G E):CR 169 [B,u,G,E] w K:=
 oe 82 (λ_=>.nil) 256 [.cell 8 56] Tryz.func169 h
def S96(E J:Value):Prop:=
 aL 56 w λa b=>nC E λc=>fA 44 c 5 λd=>lA 42 d b λe=>iA 42 e J λf=>lA 129 f b λg=>nC g λh=>fA 132 h 4 λj=>lA 3 j b λk=>bB .neq 3 k (i 0) λl=>
 cV l (nC g λn=>fA 132 n 4 λo=>lA 3 o b λp=>cF 168 [E,J,p] b λq s=>sA 56 a q s λt=>lA 56 a t λr=>K r t) (nC g λu=>fA 132 u 0 λv=>lA 130 v b λx=>
 iA 130 x (i 0) λy=>fA 218 y 0 λz=>lA 193 z b λaa=>eK hH (mE 56 [].toArray) λab=>aL 193 b λI ad=>aL 56 ad λG ae=>sA 193 I aa ae λaf=>
 sA 56 G ab af λO=>nC E λah=>fA 44 ah 0 λai=>lA 27 ai (drew O) λaj=>fA 193 I 2 λak=>lA 9 ak (drew O) λal=>nC E λam=>fA 44 am 0 λan=>lA 27 an (drew O) λZ=>
 fA 193 I 2 λW=>lA 9 W (drew O) λY=>cF 124 [aj] (drew O) λar asx=>kA 9 ak al asx (kA 27 an Z asx (kA 9 W Y asx (cF 123 [ar,al] asx λau av=>kA 27 an Z av (kA 9 W Y av (
 cF 125 [Z] av λaw ax=>kA 9 W Y ax (cF 123 [aw,Y] ax λU az=>yM (λM=>fA 193 I 0 λa0=>lA 3 a0 az λV=>eH (λK2=>bB .eql 3 V (i 2) λa2=>cV a2 (
 K2 a2 az) (bB .eql 3 V (i 4) λa3=>K2 a3 az)) (λa4 B=>∀_:Env,
 cV a4 (lA 193 I B λa6=>cF 169 [E,g,a6,au] B λa7 a8=>sA 56 G a7 a8 λa9=>M a9) (bB .eql 3 V (i 8) λba=>cV ba (fA 56 G 0 λbb=>sA 3 bb (i 7) B λbc=>
 M bc) (bB .eql 3 V (i 9) λbd=>cV bd (nC E λbe=>fA 44 be 4 λbf=>lA 41 bf B λbg=>iA 41 bg U λbh=>sA 3 bh J B λbi=>eK hH (mE 56 [(0,(i 10)),(2,U)].toArray) λbj=>
 sA 56 G bj bi λbk=>M bk) (bB .eql 3 V (i 10) λbl=>cV bl (nC E λbm=>fA 44 bm 4 λbn=>lA 41 bn B λbo=>iA 41 bo U λbp=>lA 3 bp B λbq=>bA .neq 3 bq J λbr=>
 cV br (cF 168 [E,J,(i 3)] B λbs bt=>sA 56 a bs bt λbu=>lA 56 a bu λLg=>K Lg bu) (nC E λbv=>fA 44 bv 4 λbw=>lA 41 bw B λbx=>iA 41 bx U λbz=>sA 3 bz (i (-1)) B λb0=>
 eK hH (mE 56 [(0,(i 11)),(2,U)].toArray) λb1=>sA 56 G b1 b0 λb2=>M b2)) (lA 193 I (drew B) λb3=>nC E λb4=>fA 44 b4 0 λb5=>lA 27 b5 (drew B) λb6=>
 cF 60 [b6,au] (drew B) λb7 b8=>kA 193 I b3 b8 (cF 170 [E,g,b3,au,b7] b8 λb9 ca=>sA 56 G b9 ca λcb=>M cb))))))) (λcc=>∀_:Env,
 fA 56 G 1 λcd=>sA 3 cd J cc λce=>cF 171 [g,(.slice none 0 0)] ce λ_ cf=>cF 129 [g] cf λ_ cg=>lA 56 G cg λch=>sA 56 a ch cg λci=>lA 56 a ci λUk=>K Uk ci))))))))
def P96:dL:=λi=>match i with
 | 5=>(.of [(0,[]),(1,[]),(2,[]),(3,[]),(5,[]),(6,[]),(8,[]),(9,[]),(10,[]),(11,[]),(13,[]),(14,[]),(4,[6,11,14]),(7,[11,14]),(12,[14]),(15,[]),(16,[]),(17,[])])
 | 7=>(.of [(0,[]),(1,[]),(2,[]),(3,[]),(4,[]),(5,[]),(6,[]),(7,[]),(8,[]),(9,[2]),(10,[]),(11,[])])
 | _=>.nil
theorem alS(u B:Value)(h:S96 w K u B):CR 96 [u,B] w K:=
 oe 117 P96 16 [.cell 4 56] Tryz.func96 h
def P95:dL:=λi=>match i with
 | 3=>.run 0 9
 | 7=>.run 0 7
 | _=>.nil
def P25:dL:=λi=>match i with
 | 2=>.run 0 12
 | 5=>.run 0 7
 | 15=>.run 0 34
 | _=>.nil
def P74:dL:=λi=>match i with
 | 1=>(.of [(0,[]),(1,[]),(2,[]),(3,[]),(4,[]),(5,[]),(6,[]),(7,[]),(8,[]),(9,[]),(10,[]),(11,[]),(12,[]),(13,[]),(14,[]),(15,[]),(16,[]),(17,[]),(18,[3,7,11,15]),(19,[])])
 | _=>.nil
def S75(B:Value):Prop:=
 bS 117 0 [] w λa b=>nC B λc=>fA 44 c 0 λd=>lA 27 d b λe=>cF 62 [e] b λf g=>od (λJ I G h=>∀_:Env,
 nC B λj=>fA 44 j 0 λk=>fA 27 k 5 λl=>lA 25 l h λn=>lN 25 n λo=>bA .lss 3 G o λp=>cV p (eH (λK2=>nC B λq=>fA 44 q 0 λr=>fA 27 r 5 λs=>
 lA 25 s (drew h) λt=>iA 25 t G λu=>fA 85 u 0 λv=>lA 82 v (drew h) λx=>nC B λy=>fA 44 y 0 λz=>lA 27 z (drew h) λaa=>nC B λab=>fA 44 ab 3 λV=>
 lA 40 V (drew h) λO=>nC O λae=>fA 122 ae 2 λM=>lA 41 M (drew h) λU=>eK hH (oa 41 U none (some f) none) λY=>cF 124 [aa] (drew h) λai E=>
 kA 25 s t E (kA 82 v x E (kA 40 V O E (kA 41 M U E (eK hH (oa 91 ai none (some f) none) λak=>cF 146 [x,ak,Y] E λal W=>xT al 0 λZ=>xT al 1 λao=>
 bB .eql 31 ao (i 0) λap=>cV ap (bB .neq 3 Z (i 0) λaq=>bS 117 1 [(0,aq)] W λar asx=>aP 117 I ar asx λau av=>K2 au av) (bS 117 1 [(0,ff)] W λaw ax=>aP 117 I aw ax λay az=>
 K2 ay az)))))) (λwO a0=>∀_:Env,
 bB .add 3 G (i 1) λa1=>J wO a1 a0)) (K I h)) (λJ=>J a (i 0) g)
def P75:dL:=λi=>match i with
 | 5=>(.of [(0,[]),(1,[]),(2,[]),(3,[]),(4,[]),(5,[]),(6,[]),(7,[]),(8,[]),(9,[]),(10,[]),(11,[]),(12,[]),(14,[]),(16,[]),(17,[]),(18,[]),(19,[]),(20,[]),(21,[]),(22,[]),(23,[]),(24,[]),(13,[4,8,19,22]),(15,[]),(25,[]),(26,[]),(27,[]),(28,[]),(29,[]),(30,[])])
 | _=>.nil
theorem alT(u:Value)(h:S75 w K u):CR 75 [u] w K:=
 oe 63 P75 4 [.tmp 2] Tryz.func75 h
def S76(E B:Value):Prop:=
 eH (λG=>bB .lss 3 B (i 0) λa=>cV a (G tt w) (nC E λb=>fA 44 b 5 λc=>lA 42 c w λd=>lN 42 d λe=>bA .geq 3 B e λf=>cV f (G tt w) (nC E λg=>fA 44 g 5 λh=>
 lA 42 h w λj=>iA 42 j B λk=>lA 129 k w λl=>nC l λn=>fA 132 n 0 λo=>lA 130 o w λp=>lN 130 p λq=>bB .eql 3 q (i 0) λr=>G r w))) (λs t=>∀_:Env,
 cV s (K (.tuple #[(i 0),ff]) t) (nC E λu=>fA 44 u 5 λv=>lA 42 v t λx=>iA 42 x B λy=>lA 129 y t λz=>nC z λO=>fA 132 O 0 λW=>lA 130 W t λV=>iA 130 V (i 0) λM=>
 fA 218 M 0 λI=>fA 193 I 8 λJ=>lA 3 J t λU=>K (.tuple #[U,tt]) t))
theorem alU(u B:Value)(h:S76 w K u B):CR 76 [u,B] w K:=
 oe 45 (λ_=>.nil) 48 [.tmp 4,.tmp 5] Tryz.func76 h
def S64(B M:Value):Prop:=
 nC B λa=>fA 44 a 5 λb=>sA 42 b (.slice none 0 0) w λc=>nC B λd=>fA 44 d 4 λe=>sA 41 e (.slice none 0 0) c λf=>jR (λV i4 g=>∀_:Env,
 nC B λh=>fA 44 h 0 λj=>fA 27 j 2 λk=>lA 23 k g λl=>lN 23 l λn=>bA .lss 3 i4 n λo=>cV o (nC B λp=>fA 44 p 4 λq=>lA 41 q g λr=>bS 41 1 [(0,(i (-1)))] g λs t=>
 aP 41 r s t λu v=>nC B λx=>fA 44 x 4 λy=>sA 41 y u v λz=>bB .add 3 i4 (i 1) λaa=>V aa z) (jR (λK2 I ab=>∀_:Env,
 lN 24 M λac=>bA .lss 3 I ac λad=>cV ad (yM (λK3=>nC B λae=>fA 44 ae 1 λaf=>lA 3 af ab λag=>cF 58 [ag] ab λah J=>xT ah 0 λaj=>xT ah 1 λ_=>
 eH (λK4=>iA 24 M I λak=>fA 146 ak 2 λal=>lA 141 al (drew J) λU=>iA 24 M I λan=>fA 146 an 1 λG=>lA 91 G (drew J) λE=>iA 24 M I λaq=>fA 146 aq 1 λar=>
 lA 91 ar (drew J) λasx=>lN 91 asx λO=>((cF 128 [U] (drew J) λav Z=>kA 91 G E Z (kA 91 ar asx Z (qM hH (NA 41 O O) Z λax W=>kA 141 al U W (
 kA 91 G E W (eK hH (mE 132 [(0,av),(1,E),(2,ax),(3,aj)].toArray) λaz=>qM hH (BF 132 az) W λa0 a1=>K4 a0 a1)))))
 /\((qM hH (NA 41 O O) (drew J) λa2 a3=>kA 141 al U a3 (kA 91 G E a3 (cF 128 [U] a3 λa4 Y=>kA 91 G E Y (kA 91 ar asx Y (eK hH (mE 132 [(0,a4),(1,E),(2,a2),(3,aj)].toArray) λa6=>
 qM hH (BF 132 a6) Y λa7 a8=>K4 a7 a8)))))
 /\
 True))) (λt8 a9=>∀_:Env,
 cF 129 [t8] a9 λ_ ba=>nC B λbb=>fA 44 bb 5 λbc=>lA 42 bc ba λbd=>bS 42 1 [(0,t8)] ba λbe bf=>aP 42 bd be bf λbg bh=>nC B λbi=>fA 44 bi 5 λbj=>sA 42 bj bg bh λbk=>
 K3 bk)) (λbl=>∀_:Env,
 bB .add 3 I (i 1) λbm=>K2 bm bl)) (K (.tuple #[]) ab)) λK2=>K2 (i 0) g)) (λV=>V (i 0) f)
def P64:dL:=λi=>match i with
 | 10=>(.op 0 [] (.op 1 [] (.op 2 [] (.op 3 [] (.op 4 [] (.op 6 [] (.op 7 [] (.op 8 [] (.op 9 [] (.op 10 [] (.op 11 [] (.op 12 [] (.op 13 [] (.op 14 [] (.op 15 [] (.op 16 [] (.op 18 [] (.alt 5 [10,15] (.of [(17,[4,10]),(19,[]),(20,[]),(21,[])]) (.alt 17 [4,10] (.of [(5,[10,15]),(19,[]),(20,[]),(21,[])]) .stop)))))))))))))))))))
 | _=>.nil
theorem alV(u B:Value)(h:S64 w K u B):CR 64 [u,B] w K:=
 oe 81 P64 0 [] Tryz.func64 h
theorem Oe:PL 128:=dJ Tryz.func128
theorem atc:PL 13:=dJ Tryz.func13
theorem Of:PL 203:=dJ Tryz.func203
theorem ah0:PL 204:=dJ Tryz.func204
theorem IJ:PL 171:=dJ Tryz.func171
theorem ah1:PL 129:=dJ Tryz.func129
theorem az4:PL 80:=dJ Tryz.func80
theorem aa5:PL 22:=dJ Tryz.func22
theorem az5:PL 18:=dJ Tryz.func18
theorem ah2:PL 168:=dJ Tryz.func168
theorem atd:PL 170:=dJ Tryz.func170
theorem ate:PL 169:=dJ Tryz.func169
theorem az6:PL 96:=dJ Tryz.func96
theorem az7:PL 95:=dJ Tryz.func95
theorem az8:PL 25:=dJ Tryz.func25
theorem az9:PL 74:=dJ Tryz.func74
theorem aAa:PL 75:=dJ Tryz.func75
theorem aAb:PL 76:=dJ Tryz.func76
theorem atf:PL 64:=dJ Tryz.func64
end Go.Proofs.YtpdlpabnlkofmaaGreatDoor
namespace Go.Proofs.YtpdlpabnlkofmaaGreatDoor
open Go.Fw
def Gw{α:Type}[Flat α]{P:Program}{S:Nat->Prop}{Wd:hM}{w0:World}{xs:List α}{T E M:Nat}{z:Option Nat}{v:Value}{i:Int}{x:α}{K:Value->Prop}(ht:eM P T=some (E,nk α,M,z))(h:∀w,Wd w->cZ S w v xs)(O:Wd w0)(V:0<=i)(u:xs[i.toNat]?=some x)
  (k:∀p,(∀w,Wd w->At S w p x)->K p):eK P (H5 T v (ir i)) K:=by
 obtain⟨a,cap,rfl,BZ,h3⟩:=h w0 O
 have nw:i.toNat<xs.length:=(kE.1 u).1
 rcases h3 with⟨rfl,_⟩|⟨b,o,rfl,h4,_⟩
 .simp at u
 obtain⟨W,inf,hi,Y,_⟩:=ft ht
 refine⟨.pointer (some ⟨b,o+i.toNat*nk α,none⟩),?_,k _ λw' B=>⟨b,_,rfl,h4 cD,λj c Z=>?_⟩⟩
 .unfold H5
  rw[cI]
  show pr P _=_
  simp only[asIntOf]
  have J:pr P (underlying T)=some (.slice E):=cJ W
  have I:pr P (sizeOf E)=some (nk α):=by rw[mQ hi,Y]
  simp only[cI,J,I,mv,eS]
  have U:0<=i/\i<(xs.length:Int):=⟨V,bL⟩
  simp only[ej U,cI,I,mv,eS,gi]
 obtain⟨a',Ez,G,_,h6⟩:=h w' B
 cases G
 rcases h6 with⟨rfl,_⟩|⟨b',o',G,_,h5⟩
 .simp at u
 cases G
 have:=h5 (i.toNat*nk α+j) c (rO u Z)
 grind
def pC(ws:List mV)(m:Mem):Prop:=(∀n,m.fj n=(ws.filter λx=>decide (x.line=n)).map λx=>⟨x.cell,x.n⟩)/\∀x∈ws,0<=x.cell/\m.of[x.cell.toNat]?=some x.line
def gq(p:Nat)(m:Mem):HP:=oO λq:Value×Value×Value×Value×Value=>oO λws:List mV=>fact (pC ws m) (sep (bX p [q.1,q.2.1,q.2.2.1,q.2.2.2.1,q.2.2.2.2]) (sep (bF q.1 m.of) (sep (bF q.2.1 m.ef) (sep (bF q.2.2.1 m.l) (sep (bF q.2.2.2.1 m.kept) (bF q.2.2.2.2 ws))))))
structure xV(w:World)(p:Nat)(m:Mem):Prop where
 ex:∃ov fv lv kv wv ws,pC ws m/\pk w p [ov,fv,lv,kv,wv]/\cZ (λ_=>True) w ov m.of/\cZ (λ_=>True) w fv m.ef/\cZ (λ_=>True) w lv m.l/\cZ (λ_=>True) w kv m.kept/\cZ (λ_=>True) w wv ws
section
variable {w w0:World}{A:Nat->Prop}{R:List HP}{p:Nat}{m:Mem}{ov fv lv kv wv:Value}{ws:List mV}
theorem gq.shut(h:pC ws m)(u:St w0 A (bX p [ov,fv,lv,kv,wv]::bF ov m.of::bF fv m.ef::bF lv m.l::bF kv m.kept::bF wv ws::R) w):St w0 A (gq p m::R) w:=by
 have h5:=St.join u.p5.p5
 have h4:=St.join h5.p4
 have h3:=St.join h4.p3
 have h2:=St.join h3.p2
 have h1:=St.join h2.p1
 exact St.dT (ov,fv,lv,kv,wv) (St.dT ws (St.l4 h h1))
theorem gq.open(u:St w0 A (gq p m::R) w):∃ov fv lv kv wv ws,pC ws m/\St w0 A (bX p [ov,fv,lv,kv,wv]::bF ov m.of::bF fv m.ef::bF lv m.l::bF kv m.kept::bF wv ws::R) w:=by
 obtain⟨⟨ov,fv,lv,kv,wv⟩,u⟩:=u.dK;obtain⟨ws,u⟩:=u.dK;obtain⟨B,u⟩:=u.j4
 have h1:=u.split
 have h2:=h1.p1.split
 have h3:=h2.p1.split
 have h4:=h3.p1.split
 have h5:=h4.p1.split
 exact⟨ov,fv,lv,kv,wv,ws,B,h5.p2.p3.p4.p5⟩
end
def Gx{w:World}{p:Nat}{m:Mem}(h:Has (gq p m) w):xV w p m:=by
 obtain⟨F,u⟩:=h.st
 obtain⟨ov,fv,lv,kv,wv,ws,B,u⟩:=gq.open u
 exact⟨ov,fv,lv,kv,wv,ws,B,u.hb,u.p1.dS,u.p2.dS,u.p3.dS,u.p4.dS,u.p5.dS⟩
def Gy{α β:Type}[Flat α][Flat β]{P:Program}{S:Nat->Prop}{Wd:hM}{w0:World}{T f u:Nat}{p:Value}{x:α}(y:β){K:Value->Prop}(ht:wQ P T f u)(h:∀w,Wd w->At S w p x)(B:Wd w0)(M:(kp x)[u]?=some (jr y))(G:Flat.agg β=false)
  (k:∀q,(∀w,Wd w->At S w q y)->K q):eK P (Instr.fieldAt T p f) K:=by
 obtain⟨b,o,rfl,h2,_⟩:=h w0 B
 refine aA ht (k _ λw B=>?_)
 obtain⟨O,J,E,_,h3⟩:=h w B
 cases E
 refine⟨b,o+u,rfl,h2,λj c I=>?_⟩
 rw[Flat.nV G]at I
 grind
theorem afC{l:List Int}{k:Nat}{e:Int}(u:0<k)(h:l[((k:Int)-1).toNat]?=some e):tM l k=e+1:=by
 unfold tM
 rw[ei bL,oi,show k-1=((k:Int)-1).toNat from bL,h];rfl
def aa6{of fi:List Int}{st:Int}:pC [] (J4 of st fi):=⟨λ_=>rfl,λx h=>by cases h⟩
def C61(of fi:List Int)(st:Int)(ov fv:Value)(w:World)(B:cZ (λ_=>True) w ov of)(I:cZ (λ_=>True) w fv fi)(hle:of.length=fi.length)(Ia:of.length<=20)(ie:0<=st/\st<=of.length)(GJ:∀(k:Nat) (n:Int),(k:Int)<st->of[k]?=some n->(n=tM of k\/(0<k/\n=tM of k-1))/\-10<=n/\n<=100):CR 61 [ov,ir st,fv] w (λv w'=>∃b,v=.tuple #[.pointer (some ⟨b,0,none⟩),ir 0]/\lf (gq b (J4 of st fi)) w w'):=by
 have u:=St.start w;refine ait _ _ _ _ _ ?_;unfold S61;refine⟨_,?_,λ_ _ h=>h⟩;refine aI cQ (B.ext u.aF) (aI cQ (I.ext u.aF) (bW (eO (ez bL) (aI cQ (B.ext u.aF) (cL (eO (ez bL) (aN (eO (ez bL) (aI cQ (B.ext u.aF) (cL ?_))))))))));intro _;refine eO (ez bL) ?_;refine⟨λmm x w1=>∃k:Nat,x=ir (k:Int)/\mm=st.toNat-k/\(k:Int)<=st/\St w aX [] w1,⟨_,0,rfl,rfl,bL,u⟩,?_⟩;rintro mm _ _ ⟨k,rfl,rfl,hk,u⟩ _;refine aN (aC (λj5=>⟨_,aG (aC (λCX=>?_) λCX=>?_),λ_ _ h=>h⟩) λj5=>?_)
 .obtain⟨xH,vM⟩:=gx of (i:=(0:Int).toNat) bL;refine aK cQ B bL vM (λ_ xt=>have u:=u.drew;aE bO (xt.ext u.aF) ?_);have G:=GJ 0 xH bL (by simpa using vM);have hw1:tM of 0=0:=rfl;refine bW (eO (ez bL) (cL (eO (ez bL) ?_)));intro yl;exact eR (aJ bL ⟨_,bL,k+1,rfl,rfl,bL,u⟩)
 .refine cL (qf (ew bL) ?_);obtain⟨afD,Gz⟩:=gx of (i:=(k:Int).toNat) bL;refine aK cQ B bL Gz (λ_ afE=>have u:=u.drew;aE bO (afE.ext u.aF) (fc bL ?_));obtain⟨au0,Y⟩:=gx of (i:=((k:Int)-1).toNat) bL;refine aK cQ B bL Y (λ_ afF=>aE bO (afF.ext u.aF) ?_);have G:=GJ k afD bL (by simpa using Gz);rw[afC bL Y]at G;refine bW (aC (λM=>?_) λM=>?_)
  .refine aK cQ B bL Gz (λ_ V=>aE bO (V.ext u.aF) (fc bL (aK cQ B bL Y λ_ afI=>aE bO (afI.ext u.aF) (aJ bL (bW ?_)))));intro yl;exact eO (ez bL) (aJ bL ⟨_,bL,k+1,rfl,rfl,bL,u⟩)
  intro yl;exact eR (aJ bL ⟨_,bL,k+1,rfl,rfl,bL,u⟩)
 refine bD ([]:List Int) u cQ rfl rfl (dQ rfl) (λs_x72 _ u=>kh cQ (B.ext u.aF) bL bL λasP alW=>?_);have alX:=alW _ B;have alY:=(alX.ext u.aF);refine bJ u cQ alY (by simp;omega) dy (λZ _ u=>bD ([]:List Int) u cQ rfl rfl (dQ rfl) λU _ u=>?_);have PV:=(I.ext u.aF);refine bJ u cQ PV (by simp;omega) dy (λaqZ _ u=>?_);obtain⟨Rh,rfl⟩:=u.p1.fK;obtain⟨Cn,rfl⟩:=u.fK;refine pop (O1 _ _ _ _ _ _) (cP (x:=(⟨Rh,Cn,cG,cG,cG⟩:Sl)) u λb_x81 _ u=>bD ([]:List Int) u cQ rfl rfl (dQ rfl) λahv _ u=>?_)
 have alZ:=(I.ext u.aF);refine bJ u cQ alZ (by simp;omega) dy (λs_x85 _ u=>aD (aA rS ?_));obtain⟨E,rfl⟩:=u.fK;refine aR u.p1 dX (dQ rfl) (rfl) (λ_ u=>have u:=u.enc (cs':=kp (⟨Rh,Cn,E,cG,cG⟩:Sl)) rfl;bD ([]:List Int) u cQ rfl rfl (dQ rfl) λs_x89 _ u=>kh cQ (I.ext u.aF) bL bL λs_x92 al0=>?_);have W:=al0 _ I;have J:=(W.ext u.aF);refine bJ u cQ J (by simp;omega) dy (λO _ u=>aD (aA wV ?_));obtain⟨al3,rfl⟩:=u.fK;refine aR u.p1 dX (dQ rfl) (rfl) (λ_ u=>?_)
 have u:=(((u.enc (cs':=kp (⟨Rh,Cn,E,al3,cG⟩:Sl)) rfl).p1).p2).p3;have u:=u.p4.p4;simp only[zS]at u;have u:=(u.eU (α:=mV)).p5.p5.p5.p5.p5;exact⟨_,rfl,(gq.shut (m:=J4 of st fi) aa6 u).fresh⟩
theorem xV.ext{w w':World}{p:Nat}{m:Mem}(h:xV w p m)(e:Ext w w'):xV w' p m:=by
 obtain⟨ov,fv,lv,kv,wv,ws,h1,h2,h3,h4,h5,h6,u⟩:=h.ex
 exact⟨ov,fv,lv,kv,wv,ws,h1,h2.of_eq (e.bX _ h2.lt λx=>x),h3.ext e,h4.ext e,h5.ext e,h6.ext e,u.ext e⟩
def Og{w:World}{p:Nat}{m:Mem}{ov fv lv kv wv:Value}{ws:List mV}(h1:pC ws m)(h2:pk w p [ov,fv,lv,kv,wv])(h3:cZ (λ_=>True) w ov m.of)(h4:cZ (λ_=>True) w fv m.ef)
  (h5:cZ (λ_=>True) w lv m.l) (h6:cZ (λ_=>True) w kv m.kept) (u:cZ (λ_=>True) w wv ws):xV w p m:=⟨ov,fv,lv,kv,wv,ws,h1,h2,h3,h4,h5,h6,u⟩
section
variable {ws:List mV}{m:Mem}{x:mV}{L:Nat}
theorem rJ(u:pC ws m)(B:tO m)(E:x∈ws):0<=x.line/\x.line<fP m.of/\0<=x.cell/\x.cell<m.of.length:=by
 obtain⟨G,h1⟩:=u.2 x E
 have h2:=B.ofr _ (kO h1)
 grind
theorem IK(f:mV->Bool):∀l:List mV,l.length=(l.filter f).length+(l.filter λx=>!f x).length
 | []=>rfl
 | x::l=>by
  have u:=IK f l
  grind
theorem Oh(N:Nat):∀(L:Nat) (ws:List mV),(∀x∈ws,0<=x.line/\x.line<L)->(∀n:Int,(ws.filter λx=>decide (x.line=n)).length<=N)->ws.length<=L*N
 | 0,ws,h,_=>by
  cases ws with
  | nil=>simp
  | cons x r=>have:=h x (o4 ..);omega
 | L+1,ws,h,u=>by
  have B:=Oh N L (ws.filter λx=>!decide (x.line=(L:Int))) (λx E=>by
   grind) (λn=>by
   refine vJ ?_ (u n)
   have e:∀p q:mV->Bool,(ws.filter q).filter p=(ws.filter p).filter q:=λp q=>by
    rw[Tx,Tx]
    grind
   grind)
  have e:=IK (λx=>decide (x.line=(L:Int))) ws
  have:=u L
  grind
theorem BD{N:Nat}(B:pC ws m)(u:tO m)(hb:MB m N):ws.length<=20*N:=by
 have h1:=Oh N (fP m.of).toNat ws (λx E=>by have:=rJ B u E;omega) λn=>by
  have:=hb n
  rw[B.1,mW]at this
  exact this
 have:=u.lb
 exact vJ h1 (D6 _ bL)
def z8(ws:List mV)(L:Nat):List Int:=(tg L).map fun (i:Nat)=>(((ws.filter λx=>decide (x.line=(i:Int))).length:Nat):Int)
theorem xW:(z8 ws L).length=L:=by simp[z8]
theorem aa8(L:Nat):oz L (0:Int)=z8 [] L:=by
 unfold z8
 simp[List.map_const']
theorem Ee{i:Nat}(h:i<L):(z8 ws L)[i]?=some (((ws.filter λx=>decide (x.line=(i:Int))).length:Nat):Int):=by
 unfold z8;rw[o6,List.getElem?_range h];rfl
theorem al4{i:Nat}{e:Int}(h:(z8 ws L)[i]?=some e):0<=e/\e<=ws.length:=by
 have hi:i<L:=by have:=(kE.1 h).1;rwa [xW]at this
 rw[Ee hi]at h
 grind
theorem VR{k:Nat}{e:Int}(E:ws[k]?=some x)(G:0<=x.line)(h1:x.line<L)(B:(z8 (ws.take k) L)[x.line.toNat]?=some e) :
  (z8 (ws.take k) L).set x.line.toNat (e+1)=z8 (ws.take (k+1)) L:=by
 have ht:ws.take (k+1)=ws.take k++[x]:=by rw[v7,E];rfl
 apply xq
 intro i
 by_cases hi:i<L
 .rw[Ee hi,ht,Bt,l0]
  by_cases u:i=x.line.toNat
  .subst u
   rw[Eu (by rw[xW];exact hi)]
   rw[Ee hi]at B
   have I:([x].filter λx=>decide (x.line=((x.line.toNat:Nat):Int)))=[x]:=by
    have:((x.line.toNat:Nat):Int)=x.line:=bL
    simp[abL,this]
   have:((x.line.toNat:Nat):Int)=x.line:=bL
   simp only[this]at B |-
   simp only[ob.injEq]at B
   simp[abL,B]
  rw[IQ (Ne.symm u),Ee hi]
  have:¬ x.line=(i:Int):=bL
  simp[abL,this]
 rw[n0 (by rw[Jc,xW];omega),n0 (by rw[xW];omega)]
def sW(m:Mem):List Int:=(ry m).map fun (k:Nat)=>(k:Int)
theorem aa9(u:pC ws m):z8 ws (fP m.of).toNat=sW m:=by
 unfold z8 sW ry za
 rw[Jz]
 refine B0 λi _=>?_
 simp[u.1]
theorem IL:(sW m).length=(fP m.of).toNat:=by unfold sW;rw[mW,vL]
end
section
variable {ws:List mV}{m:Mem}{x:mV}
theorem Ri{cell n u:Int}{l:List Int}(B:pC ws m)(G:0<=cell)(h1:m.of[cell.toNat]?=some u) :
  pC (ws++[⟨u,cell,n⟩]) {m with l:=l,fj:=oX m.fj u (m.fj u++[⟨cell,n⟩])}:=by
 refine⟨λk=>?_,λx E=>?_⟩
 .show oX m.fj u (m.fj u++[⟨cell,n⟩]) k=_
  rw[Bt,vG,<- B.1]
  unfold oX
  grind
 rcases pd.1 E with h|h
 .exact B.2 x h
 grind
def n8(line:Int)(ws:List mV):List iw:=(ws.filter λx=>decide (x.line=line)).map λx=>⟨x.cell,x.n⟩
def Dy(line:Int)(ws:List mV):List mV:=ws.filter λx=>!decide (x.line=line)
theorem aba{k:Nat}{line:Int}(h:ws[k]?=some x)(u:x.line=line):n8 line (ws.take (k+1))=n8 line (ws.take k)++[⟨x.cell,x.n⟩]:=by
 unfold n8;rw[v7,h,K0,Bt,vG];grind
theorem afJ{k:Nat}{line:Int}(h:ws[k]?=some x)(u:¬ x.line=line):n8 line (ws.take (k+1))=n8 line (ws.take k):=by
 unfold n8;rw[v7,h,K0,Bt,vG];grind
theorem abb{k:Nat}{line:Int}(h:ws[k]?=some x)(u:x.line=line):Dy line (ws.take (k+1))=Dy line (ws.take k):=by
 unfold Dy;rw[v7,h,K0,Bt];grind
theorem afK{k:Nat}{line:Int}(h:ws[k]?=some x)(u:¬ x.line=line):Dy line (ws.take (k+1))=Dy line (ws.take k)++[x]:=by
 unfold Dy;rw[v7,h,K0,Bt];grind
theorem abc{k:Nat}{line:Int}:(Dy line (ws.take k)).length<=ws.length:=vJ (List.length_filter_le ..) cD
theorem abd{line:Int}{B:List Int}(u:pC ws m):pC (Dy line ws) {m with kept:=B,fj:=oX m.fj line []}:=by
 refine⟨λk=>?_,λx G=>u.2 x (List.mem_filter.1 G).1⟩
 show oX m.fj line [] k=_
 unfold oX Dy
 rw[Tx]
 by_cases E:k=line
 .simp_all
 rw[ei E,u.1]
 grind
theorem IM(u:pC ws m)(line:Int):n8 line ws=m.fj line:=(u.1 line).symm
end
def al5{k:List Int}{a:List iw}:(nN k a).length=k.length:=xG a k
def C77(p:Nat)(m:Mem)(w:World)(M:xV w p m)(B:tO m):CR 77 [(.pointer (some ⟨p,0,none⟩))] w (λv w'=>v=ir (fP m.of)/\Ext w w'):=by
 have zV:=M;obtain⟨ov,fv,lv,kv,wv,ws,Y,G,E,V,Hs,Oi,O⟩:=M.ex;have J:=G.cell (o:=0) rfl;have q1:=G.cell (o:=1) rfl;have q2:=G.cell (o:=2) rfl;have q3:=G.cell (o:=3) rfl;have q4:=G.cell (o:=4) rfl;have Ia:=B.fl;have GI:=B.G5;have HC:=B.ll;have Ca:=B.kl;have Jy:=B.lb;have GJ:=kT B;have u:=St.start w;refine pj Tryz.func77 (pl:=P77) ?_;refine aD (aA uF (bE dX (J.ext u.aF) (aI cQ (E.ext u.aF) (aG (aC (λ_=>⟨gL (n3 .i64) (by unfold fP;rw[ej bL]),u.aF⟩) λZ=>aD (aA uF (have u:=u.drew;bE dX (J.ext u.aF) (aD (aA uF (bE dX (J.ext u.aF) (aI cQ (E.ext u.aF) (fc bL ?_))))))))))))
 obtain⟨jS,I⟩:=gx m.of (i:=((m.of.length:Int)-1).toNat) bL;refine aK cQ E bL I (λ_ U=>aE bO (U.ext u.aF) ?_);have W:=B.ofr _ (kO I);exact aJ bL ⟨gL (n3 .i64) (by unfold fP;rw[ei bL,oi,show m.of.length-1=((m.of.length:Int)-1).toNat from bL,I];rfl),u.aF⟩
def C17(p:Nat)(m:Mem)(w:World)(U:xV w p m)(B:tO m)(hb:MB m 1000000):CR 17 [(.pointer (some ⟨p,0,none⟩))] w (λv w'=>lf (bF v (sW m)) w w'):=by
 have zV:=U;obtain⟨ov,fv,lv,kv,wv,ws,I,G,hmo,hmf,Hs,Oi,E⟩:=U.ex;have q0:=G.cell (o:=0) rfl;have q1:=G.cell (o:=1) rfl;have q2:=G.cell (o:=2) rfl;have q3:=G.cell (o:=3) rfl;have W:=G.cell (o:=4) rfl;have Ia:=B.fl;have GI:=B.G5;have HC:=B.ll;have Ca:=B.kl;have Jy:=B.lb;have GJ:=kT B;have hwl:=BD I B hb;have u:=St.start w;refine fb Tryz.func17 ?_;refine aV anM u (C77 _ m _ (zV.ext u.aF) B) (λY he u=>uD (0:Int) u cQ tB bL bL dy λO _ u=>?_);refine⟨λV x Y=>∃k:Nat,x=ir (k:Int)/\V=ws.length-k/\k<=ws.length/\St w aX [bF O (z8 (ws.take k) (fP m.of).toNat)] Y,⟨_,0,rfl,rfl,l2 _,by rw[aa8]at u;exact u⟩,?_⟩
 rintro V _ _ ⟨k,rfl,rfl,hkw,u⟩ _;refine aD (aA kI (bE tC (W.ext u.aF) (aI tD (E.ext u.aF) (aN (aC (λjk=>?_) λjk=>?_)))))
 .refine aD (aA kI (bE tC (W.ext u.aF) ?_));obtain⟨Z,J⟩:=gx ws (i:=(k:Int).toNat) bL;refine aK tD E bL J (λ_ oV=>bT Z.line wW oV rfl rfl λ_ xj=>aE bO (xj.ext u.aF) ?_);have ng:=rJ I B (kO J);have Ag:(z8 (ws.take k) (fP m.of).toNat).length=(fP m.of).toNat:=xW;obtain⟨qV,M⟩:=gx (z8 (ws.take k) (fP m.of).toNat) (i:=Z.line.toNat) bL;refine dG u cQ bL bL (λ_ mw=>fM u bO mw M ?_);have hcb:=al4 M;have HS:(ws.take k).length<=ws.length:=by rw[l9];omega
  refine aJ bL (dG u cQ bL bL λ_ qW=>iM _ u bO qW bL λ_ u=>aJ bL ?_);exact⟨_,bL,k+1,rfl,rfl,bL,by rw[<- VR (k:=k) J ng.1 bL M];exact u⟩
 .rw[la bL,aa9 I]at u;exact u.fresh
def C166(p:Nat)(m:Mem)(F:Nat->Prop)(cell n:Int)(w:World)(hF:(gq p m).p w F)(E:tO m)(hb:MB m 1000000):CR 166 [(.pointer (some ⟨p,0,none⟩)),ir cell,ir n] w (λv w'=>v=ir (if G4 m cell=true then 0 else 1)/\mT F (gq p (fg m cell n)) w w'):=by
 have u:=St.begin hF;obtain⟨ov,fv,lv,kv,wv,ws,I,u⟩:=gq.open u;have Ia:=E.fl;have GI:=E.G5;have HC:=E.ll;have Ca:=E.kl;have Jy:=E.lb;have GJ:=kT E;have hwl:=BD I E hb;refine pj Tryz.func166 (pl:=av6) ?_;refine⟨λW w'=>W=.bool (decide (cell<0\/m.l.length<=cell))/\w=w',aN (aC (λ_=>⟨Oz bL,rfl⟩) λ_=>aD (aA rS (aB dX u.hb rfl (aI cQ u.p3.dS (cO ⟨yd bL,rfl⟩))))),?_⟩;rintro _ _ ⟨rfl,hw⟩ _;subst hw;refine aC (λZ=>?_) (λZ=>?_)
 .have u:=u.p5.p5.p5.p5.p5.p5;have G:G4 m cell=false:=by unfold G4;rw[decide_eq_false_iff_not];omega
  unfold fg;rw[G];exact⟨rfl,(gq.shut I u).mut⟩
 have G:G4 m cell=true:=by unfold G4;rw[decide_eq_true_eq];omega
 refine aD (aA rS (aB dX u.hb rfl ?_));obtain⟨iF,jJ⟩:=gx m.l (i:=cell.toNat) bL;refine dG u.p3 cQ bL bL (λ_ xj=>iM _ u.p3 bO xj bL λ_ u=>⟨λw'=>St w F [gq p (fg m cell n)] w',aD (aA uF (aB dX u.p1.hb rfl (aI cQ u.p2.dS (aN (aC (λO=>?_) λO=>?_))))),?_⟩)
 .refine aD (aA kI (have u:=u.drew;aB tC u.p1.hb rfl (aD (aA uF (aB dX u.p1.hb rfl ?_)))));obtain⟨J,M⟩:=gx m.of (i:=cell.toNat) bL;refine dG u.p2 cQ bL bL (λ_ V=>fM u.p2 bO V M (pop (Jo _ _ _) (bD ([(⟨J,cell,n⟩:mV)]) u tD rfl rfl (dQ rfl) λU _ u=>?_)));refine⟨aH tC (u.p2.hb.cell rfl),?_⟩;have Y:=u.dS;refine bJ u.p6 tD Y (by simp;omega) dy (λarS _ u=>have u:=u.p1.drop;aD (aA kI (aR u.p2 tC (dQ rfl) u.dS.one λ_ u=>?_)))
  have u:=u.p5.p2.p3.p5.p5.p5.p4.p5.p5.p5.p5.p5;have B:fg m cell n={m with l:=m.l.set cell.toNat n,fj:=oX m.fj J (m.fj J++[⟨cell,n⟩])}:=by unfold fg;rw[ej G,ej bL,oi,M];rfl
  rw[B];exact gq.shut (m:={m with l:=_,fj:=_}) (Ri I bL M) u
 .have u:=u.p5.p5.p2.p5.p5.p5;have B:fg m cell n={m with l:=m.l.set cell.toNat n}:=by unfold fg;rw[ej G,ei bL]
  rw[B];exact gq.shut (m:={m with l:=_}) I u
 intro _ u _;exact⟨by rw[G];rfl,u.mut⟩
def C167(p:Nat)(m:Mem)(F:Nat->Prop)(line:Int)(w:World)(hF:(gq p m).p w F)(B:tO m)(hb:MB m 1000000):CR 167 [(.pointer (some ⟨p,0,none⟩)),ir line] w (λv w'=>v=ir (if F4 m line=true then 0 else 1)/\mT F (gq p (n7 m line)) w w'):=by
 have u:=St.begin hF;obtain⟨ov,fv,lv,kv,wv,ws,G,u⟩:=gq.open u;have Ia:=B.fl;have GI:=B.G5;have HC:=B.ll;have Ca:=B.kl;have Jy:=B.lb;have GJ:=kT B;have hwl:=BD G B hb;refine pj Tryz.func167 (pl:=av7) ?_;refine⟨λjv w'=>jv=.bool (decide (line<0\/fP m.of<=line))/\St w F [bX p [ov,fv,lv,kv,wv],bF ov m.of,bF fv m.ef,bF lv m.l,bF kv m.kept,bF wv ws] w',aN (aC (λ_=>⟨vb (by first|exact(ew bL).symm|exact fN.2 bL),u⟩) λ_=>aV anM u (C77 _ m _ (Og G u.hb u.p1.dS u.p2.dS u.p3.dS u.p4.dS u.p5.dS) B) λ_ _ u=>cO ⟨vb (by first|exact(ew bL).symm|exact fN.2 bL),u⟩),?_⟩
 rintro _ _ ⟨rfl,u⟩ _;refine aC (λja=>?_) (λja=>?_)
 .have u:=u.p5.p5.p5.p5.p5.p5;have M:F4 m line=false:=by unfold F4;rw[decide_eq_false_iff_not];omega
  unfold n7;rw[M];exact⟨rfl,(gq.shut G u).mut⟩
 refine bD ([]:List mV) u tD rfl rfl (dQ rfl) (λah4 _ u=>?_);have u:=u.p6.p6.p6.p6.p6.p6.p6;refine⟨λV o x w1=>∃k:Nat,x=ir (k:Int)/\V=ws.length-k/\k<=ws.length/\St w F [bF o (Dy line (ws.take k)),bX p [ov,fv,lv,kv,wv],bF ov m.of,bF fv m.ef,bF lv m.l,bF kv (nN m.kept (n8 line (ws.take k))),bF wv ws] w1,⟨_,0,rfl,rfl,l2 _,u⟩,?_⟩;rintro V l5 _ _ ⟨k,rfl,rfl,hkw,u⟩ _;refine aD (aA kI (aB tC u.p1.hb rfl (aI tD u.p6.dS (aN (aC (λik=>⟨λo w'=>St w F [bF o (Dy line (ws.take (k+1))),bX p [ov,fv,lv,kv,wv],bF ov m.of,bF fv m.ef,bF lv m.l,bF kv (nN m.kept (n8 line (ws.take (k+1)))),bF wv ws] w',?_,?_⟩) λik=>?_)))))
 .refine aD (aA kI (aB tC u.p1.hb rfl ?_));obtain⟨J,E⟩:=gx ws (i:=(k:Int).toNat) bL;refine dG u.p6 tD bL bL (λ_ mw=>mq wW mw λ_ qA=>nH J.line u.p6 bO qA E rfl (aG (aC (λI=>?_) λI=>?_)))
  .refine aD (aA wV (have u:=u.drew;aB dX u.p1.hb rfl (aD (aA kI (aB tC u.p1.hb rfl (dG u.p6 tD bL bL λ_ u7=>mq Lv u7 λ_ Fa=>nH J.cell u.p6 bO Fa E rfl (aD (aA kI (aB tC u.p1.hb rfl (dG u.p6 tD bL bL λ_ Z=>?_))))))))));refine mq Lw Z (λ_ O=>nH J.n u.p6 bO O E rfl ?_);have ng:=rJ G B (kO E);have V9:(nN m.kept (n8 line (ws.take k))).length=m.kept.length:=al5;obtain⟨XI,Pf⟩:=gx (nN m.kept (n8 line (ws.take k))) (i:=J.cell.toNat) bL
   refine dG u.p5 cQ bL bL (λ_ AS=>iM _ u.p5 bO AS bL λ_ u=>?_);have u:=u.p6.p1.p6.p6.p6.p6.p6;rw[abb (k:=k) E I,aba (k:=k) E I,Cx];exact u
  refine aD (aA kI (aB tC u.p1.hb rfl (dG u.p6 tD bL bL λ_ FN=>fM u.p6 Xb FN E (bD ([J]) u tD rfl rfl (dQ rfl) λY _ u=>?_))));have WA:(Dy line (ws.take k)).length<=ws.length:=abc;have U:=u.dS;refine bJ u.p1 tD U (by simp;omega) dy (λasS _ u=>?_);have u:=u.p1.drop.p6.p6.p6.p6.p6.p6.p6;rw[afK (k:=k) E I,afJ (k:=k) E I];exact u
 .rintro W _ u _;exact aJ bL (have u:=u.p6.p6.p6.p6.p6.p6.p6;⟨_,bL,k+1,rfl,rfl,bL,u⟩)
 refine aD (aA kI (aR u.p1 tC (dQ rfl) u.dS.one λ_ u=>?_));have u:=u.p6.drop.p1.p5.p5.p5.p5.p5;have M:F4 m line=true:=by unfold F4;rw[decide_eq_true_eq];omega
 have Qv:n7 m line={m with kept:=nN m.kept (m.fj line),fj:=oX m.fj line []}:=by unfold n7;rw[ej M]
 rw[la bL,IM G]at u;rw[Qv,M];exact⟨rfl,(gq.shut (m:={m with kept:=_,fj:=_}) (abd G) u).mut⟩
section
variable {ws:List mV}{m:Mem}{x:mV}{cut:List Int}
def rf(m:Mem)(us:List mV):Mem:={m with fj:=λi=>n8 i us}
theorem VS(u:pC ws m):rf m ws=m:=by
 unfold rf
 have:(λi=>n8 i ws)=m.fj:=funext λi=>IM u i
 rw[this]
theorem IN{j:Nat}{v:Int}:∀(us:List iw) (k:List Int),(∀u∈us,u.cell.toNat≠j)->nN (k.set j v) us=(nN k us).set j v
 | [],k,_=>rfl
 | u::us,k,h=>by
  show nN ((k.set j v).set u.cell.toNat u.n) us=(nN (k.set u.cell.toNat u.n) us).set j v
  rw[List.set_comm _ _ (h u (o4 ..)).symm,IN us _ λw B=>h w (qa _ B)]
theorem IP(i:Int)(us:List mV)(x:mV):n8 i (us++[x])=if x.line=i then n8 i us++[⟨x.cell,x.n⟩]else n8 i us:=by
 unfold n8;grind
theorem Oj{us:List mV}(M:∀y∈us,0<=y.cell/\m.of[y.cell.toNat]?=some y.line)(U:0<=x.cell/\m.of[x.cell.toNat]?=some x.line)(O:0<=x.line)(K:Nat) :
  nn (rf m (us++[x])) cut K=if x.line<K/\((n8 x.line us).length:Int)<cut.getD x.line.toNat 0 then(nn (rf m us) cut K).set x.cell.toNat x.n else nn (rf m us) cut K:=by
 induction K with
 | zero=>rw[ei bL];rfl
 | succ K I=>
  rw[vc,vc,I]
  show nN _ ((n8 (K:Int) (us++[x])).take _)=if _ then(nN _ ((n8 (K:Int) us).take _)).set _ _ else nN _ ((n8 (K:Int) us).take _)
  rw[IP]
  by_cases G:x.line=(K:Int)
  .have E:x.line.toNat=K:=bL
   rw[ej G,ei bL,<- E,show((x.line.toNat:Nat):Int)=x.line from bL]
   by_cases hc:((n8 x.line us).length:Int)<cut.getD x.line.toNat 0
   .rw[ej ⟨bL,hc⟩,la cD,Cx,la bL]
   grind
  .rw[ei G]
   by_cases hc:x.line<(K:Int)/\((n8 x.line us).length:Int)<cut.getD x.line.toNat 0
   .rw[ej hc,ej ⟨bL,hc.2⟩,IN]
    intro u B V
    obtain⟨y,J,rfl⟩:=o1.1 (x7 B)
    grind
   grind
def pe(us:List mV)(cut:List Int):List Int:=(tg cut.length).map fun (i:Nat)=>max 0 (cut.getD i 0-((n8 i us).length:Int))
theorem vn{us:List mV}:(pe us cut).length=cut.length:=by simp[pe]
theorem BE{us:List mV}{i:Nat}(h:i<cut.length):(pe us cut)[i]?=some (max 0 (cut.getD i 0-((n8 i us).length:Int))):=by
 grind[pe,n8]
theorem VT(h:∀(i:Nat) (c:Int),cut[i]?=some c->0<=c):cut=pe [] cut:=by
 apply xq
 intro i
 by_cases hi:i<cut.length
 .rw[BE hi,lU hi]
  grind[n8]
 grind[pe]
theorem KA{us:List mV}{l e:Int}(E:0<=l)(u:(pe us cut)[l.toNat]?=some e):l.toNat<cut.length/\e=max 0 (cut.getD l.toNat 0-((n8 l us).length:Int)):=by
 have B:l.toNat<cut.length:=by have:=(kE.1 u).1;rwa [vn]at this
 rw[BE B,show((l.toNat:Nat):Int)=l from bL]at u
 grind
theorem GB{us:List mV}(E:0<=x.line)(B:x.line.toNat<cut.length):pe (us++[x]) cut=(pe us cut).set x.line.toNat (max 0 (cut.getD x.line.toNat 0-((n8 x.line us).length:Int)-1)):=by
 apply xq
 intro i
 by_cases hi:i<cut.length
 .rw[BE hi,IP]
  by_cases u:i=x.line.toNat
  .subst u
   rw[Eu (by rw[vn];exact hi),ej bL,l0,nh,show((x.line.toNat:Nat):Int)=x.line from bL]
   congr 1;omega
  rw[IQ (Ne.symm u),BE hi,ei bL]
 rw[n0 (by rw[vn];omega),n0 (by rw[Jc,vn];omega)]
theorem sX{α:Type}{l:List α}{k:Nat}{y:α}(h:l[k]?=some y):l.take (k+1)=l.take k++[y]:=by rw[v7,h];rfl
theorem TZ{k:Nat}{e:Int}(B:pC ws m)(I:tO m)(M:(cut.length:Int)=fP m.of)(h:ws[k]?=some x)(J:(pe (ws.take k) cut)[x.line.toNat]?=some e)(h1:0<e) :
  (pe (ws.take k) cut).set x.line.toNat (e-1)=pe (ws.take (k+1)) cut/\(nn (rf m (ws.take k)) cut cut.length).set x.cell.toNat x.n=nn (rf m (ws.take (k+1))) cut cut.length:=by
 have E:=kO h
 have u:=rJ B I E
 obtain⟨h2,h3⟩:=KA u.1 J
 rw[sX h,GB u.1 h2,Oj (λy G=>B.2 y (x7 G)) (B.2 x E) u.1,ej ⟨bL,bL⟩]
 grind
theorem T0{k:Nat}{e:Int}(B:pC ws m)(M:tO m)(h:ws[k]?=some x)(E:(pe (ws.take k) cut)[x.line.toNat]?=some e)(h1:¬ 0<e) :
  pe (ws.take k) cut=pe (ws.take (k+1)) cut/\nn (rf m (ws.take k)) cut cut.length=nn (rf m (ws.take (k+1))) cut cut.length:=by
 have G:=kO h
 have u:=rJ B M G
 have J:=E
 obtain⟨h2,h3⟩:=KA u.1 E
 rw[sX h,GB u.1 h2,Oj (λy I=>B.2 y (x7 I)) (B.2 x G) u.1,ei bL]
 refine⟨?_,rfl⟩
 rw[show max 0 (cut.getD x.line.toNat 0-((n8 x.line (ws.take k)).length:Int)-1)=e from bL]
 apply xq
 grind
theorem Ok{k:Nat}{e:Int}(u:(sW m)[k]?=some e):e=(m.fj k).length:=by
 unfold sW ry at u
 rw[o6]at u
 have B:k<(fP m.of).toNat:=by
  cases h:(za m (fP m.of).toNat)[k]? with
  | none=>grind
  | some y=>have:=(kE.1 h).1;unfold za at this;grind
 rw[ve B]at u
 grind
theorem VU(m:Mem)(cut:List Int):m.kept=nn (rf m []) cut cut.length:=by
 have:∀K,nn (rf m []) cut K=m.kept:=λK=>by
  induction K with
  | zero=>rfl
  | succ K u=>rw[vc,u];simp[rf,n8,nN]
 grind
theorem Rj(u:List Int):pC [] (mF m u):=⟨λ_=>rfl,λx h=>by cases h⟩
end
def C92(p:Nat)(m:Mem)(cut:List Int)(cv:Value)(w:World)(hm:xV w p m)(B:tO m)(hb:MB m 1000000)(O:cZ (λ_=>True) w cv cut)(Nd:cut.length<=1000):CR 92 [(.pointer (some ⟨p,0,none⟩)),cv] w (λv w'=>(fh m cut=none/\v=.tuple #[.slice none 0 0,ir 1]/\Ext w w')\/∃kC o,fh m cut=some kC/\v=.tuple #[o,ir 0]/\lf (bF o kC) w w'):=by
 have zV:=hm;obtain⟨ov,fv,lv,kv,wv,ws,J,Z,hmo,hmf,Hs,Oi,Y⟩:=hm.ex;have q0:=Z.cell (o:=0) rfl;have q1:=Z.cell (o:=1) rfl;have q2:=Z.cell (o:=2) rfl;have G:=Z.cell (o:=3) rfl;have q4:=Z.cell (o:=4) rfl;have Ia:=B.fl;have GI:=B.G5;have HC:=B.ll;have Ca:=B.kl;have Jy:=B.lb;have GJ:=kT B;have hwl:=BD J B hb;have hpil:=IL (m:=m);have u:=St.start w;refine aiC _ _ _ _ ?_;unfold S92;refine dB aiw u (C17 _ m _ (zV.ext u.aF) B hb) (λx13 w1 cE u=>aI cQ (O.ext u.aF) (aI cQ u.dS (bW (aC (λ_=>.inl ⟨Nc bL,rfl,u.aF⟩) λlL=>?_))))
 refine⟨λmm x w1=>∃k:Nat,x=ir (k:Int)/\mm=cut.length-k/\k<=cut.length/\(∀(i:Nat) (c:Int),i<k->cut[i]?=some c->0<=c/\c<=(m.fj i).length)/\St w aX [bF x13 (sW m)] w1,⟨_,0,rfl,rfl,l2 _,λ_ _ h=>absurd h bL,u⟩,?_⟩;rintro mm _ _ ⟨k,rfl,rfl,uR,iv,u⟩ _;refine aI cQ u.dS (aN (aC (λik=>?_) λik=>?_))
 .obtain⟨F3,pQ⟩:=gx cut (i:=(k:Int).toNat) bL;refine⟨λjv w'=>jv=.bool (decide (F3<0\/((m.fj k).length:Int)<F3))/\St w aX [bF x13 (sW m)] w',aK cQ O bL pQ (λ_ sm=>have u:=u.drew;aE bO (sm.ext u.aF) (aN (aC (λ_=>⟨vb (by first|exact(ew bL).symm|exact fN.2 bL),u⟩) λahs=>?_))),?_⟩
  .refine aK cQ O bL pQ (λ_ qW=>aE bO (qW.ext u.aF) ?_);obtain⟨e_x37,W⟩:=gx (sW m) (i:=(k:Int).toNat) bL;refine dG u cQ bL bL (λ_ xu=>fM u bO xu W (cL ?_));have BL:=Ok (k:=k) W;exact⟨vb (by first|exact(ew bL).symm|exact fN.2 bL),u⟩
  rintro _ _ ⟨rfl,u⟩ _;refine aC (λ_=>.inl ⟨Nb (k:=k) pQ bL,rfl,u.aF⟩) (λxn=>aJ bL ?_);refine⟨_,bL,k+1,rfl,rfl,bL,λi c hi hc=>?_,u⟩
  by_cases e:i=k
  .subst e;obtain rfl:=ob.inj (hc.symm.trans pQ);omega
  exact iv i c bL hc
 have I:(cut.length:Int)=fP m.of:=bL
 refine⟨λa b w'=>St w aX [bF a cut,bF b m.kept] w',aD (aA wV (have u:=u.drew;bE dX (G.ext u.aF) ⟨bD ([]:List Int) u cQ rfl rfl (dQ rfl) (λasQ _ u=>⟨aH dX (G.ext u.aF),⟨?_,⟨?_,?_⟩⟩⟩),⟨?_,?_⟩⟩)),?_⟩
 .have al7:=(O.ext u.aF);refine bJ u cQ al7 (by simp<;>omega) dy (λahr _ u=>?_);refine⟨aH dX (G.ext u.aF),?_⟩;refine bD ([]:List Int) u cQ rfl rfl (dQ rfl) (λs_x44 _ u=>?_);refine⟨aH dX (G.ext u.aF),?_⟩;have Q7:=(Oi.ext u.aF);exact bJ u cQ Q7 (by simp<;>omega) dy (λ_ _ u=>have u:=u.p2.drop.p1;u)
 .refine bD ([]:List Int) u cQ rfl rfl (dQ rfl) (λau2 _ u=>?_);refine⟨aH dX (G.ext u.aF),?_⟩;have abg:=(O.ext u.aF);refine bJ u.p1 cQ abg (by simp<;>omega) dy (λau3 _ u=>?_);refine⟨aH dX (G.ext u.aF),?_⟩;have abh:=(Oi.ext u.aF);exact bJ u.p1 cQ abh (by simp<;>omega) dy (λ_ _ u=>have u:=u.p2.drop.p1;u)
 .trivial
 .refine bD ([]:List Int) u cQ rfl rfl (dQ rfl) (λau4 _ u=>?_);refine⟨aH dX (G.ext u.aF),?_⟩;refine bD ([]:List Int) u cQ rfl rfl (dQ rfl) (λau5 _ u=>?_);refine⟨aH dX (G.ext u.aF),?_⟩;have abi:=(O.ext u.aF);refine bJ u cQ abi (by simp<;>omega) dy (λau6 _ u=>?_);refine⟨aH dX (G.ext u.aF),?_⟩;have abj:=(Oi.ext u.aF);exact bJ u.p1 cQ abj (by simp<;>omega) dy (λ_ _ u=>have u:=u.p2.drop.p1;u)
 .trivial
 rintro Hk WN _ u _;have u:=u.p1.p1;refine⟨λmm x w1=>∃j:Nat,x=ir (j:Int)/\mm=ws.length-j/\j<=ws.length/\St w aX [bF Hk (pe (ws.take j) cut),bF WN (nn (rf m (ws.take j)) cut cut.length)] w1,⟨_,0,rfl,rfl,l2 _,by rw[VT (λi c hc=>(iv i c (by have:=(kE.1 hc).1;omega) hc).1),VU m cut]at u;simpa using u⟩,?_⟩;rintro mm _ _ ⟨j,rfl,rfl,hj,u⟩ _;refine aD (aA kI (bE tC (q4.ext u.aF) (aI tD (Y.ext u.aF) (aN (aC (λahm=>⟨λw'=>St w aX [bF Hk (pe (ws.take (j+1)) cut),bF WN (nn (rf m (ws.take (j+1))) cut cut.length)] w',?_,?_⟩) λahm=>?_)))))
 .refine aD (aA kI (bE tC (q4.ext u.aF) ?_));obtain⟨E,U⟩:=gx ws (i:=(j:Int).toNat) bL;refine aK tD Y bL U (λ_ Fc=>aE Xb (Fc.ext u.aF) (aQ u ac3 λb_w11 _ u=>aM (x:=E) u Xb rfl rfl λ_ u=>aA wW (aB (v:=ir E.line) bO u.hb rfl ?_)));have ng:=rJ J B (kO U);have hlw:(pe (ws.take j) cut).length=cut.length:=vn;obtain⟨e_x69,M⟩:=gx (pe (ws.take j) cut) (i:=E.line.toNat) bL;refine dG u.p1 cQ bL bL (λ_ MI=>fM u.p1 bO MI M ?_)
  have hlb2:=(KA ng.1 M).2
  have hcg:cut.getD E.line.toNat 0<=1000000:=by
   have hl9:E.line.toNat<cut.length:=bL
   rw[oi,lU hl9];have h1:=iv _ _ bL (lU hl9);have h2:=hb ((E.line.toNat:Nat):Int);simp only[Option.getD_some];omega
  refine cL (aC (λV=>?_) λV=>?_)
  .refine aA wW (have u:=u.drew;aB (v:=ir E.line) bO u.hb rfl (aA wW (aB (v:=ir E.line) bO u.hb rfl (dG u.p1 cQ bL bL λ_ NN=>fM u.p1 bO NN M (fc bL (dG u.p1 cQ bL bL λ_ ati=>iM _ u.p1 bO ati bL λ_ u=>aA Lv (aB (v:=ir E.cell) bO u.p1.hb rfl (aA Lw (aB (v:=ir E.n) bO u.p1.hb rfl ?_)))))))));have ZP:(nn (rf m (ws.take j)) cut cut.length).length=m.kept.length:=lS _ _ _;obtain⟨e_x87,aAd⟩:=gx (nn (rf m (ws.take j)) cut cut.length) (i:=E.cell.toNat) bL
   refine dG u.p2 cQ bL bL (λ_ atj=>iM _ u.p2 bO atj bL λ_ u=>?_);have u:=u.p2.drop.p1;rw[<- (TZ (k:=j) J B I U M V).1,<- (TZ (k:=j) J B I U M V).2];exact u
  have u:=u.drop.p1.p1;rw[<- (T0 (k:=j) J B U M V).1,<- (T0 (k:=j) J B U M V).2];exact u
 .rintro _ u _;exact aJ bL (have u:=u.p1.p1;⟨_,bL,j+1,rfl,rfl,bL,u⟩)
 have u:=u.drop;rw[la bL,VS J]at u;exact .inr ⟨_,_,vd I (λi c _ hc=>iv i c bL hc),rfl,u.fresh⟩
def C93(p:Nat)(m:Mem)(F:Nat->Prop)(cut:List Int)(cv:Value)(w:World)(hF:(gq p m).p w F)(E:tO m)(hb:MB m 1000000)(hC:∀w',gD F w w'->cZ (λ_=>True) w' cv cut)(Nd:cut.length<=1000):CR 93 [(.pointer (some ⟨p,0,none⟩)),cv] w (λv w'=>(fh m cut=none/\v=ir 1/\mT F (gq p m) w w')\/∃Y,fh m cut=some Y/\v=ir 0/\mT F (gq p (mF m Y)) w w'):=by
 have u:=St.begin hF;obtain⟨ov,fv,lv,kv,wv,ws,W,u⟩:=gq.open u;have Ia:=E.fl;have GI:=E.G5;have HC:=E.ll;have M:=E.kl;have Jy:=E.lb;have GJ:=kT E;refine pj Tryz.func93 (pl:=P93) ?_;refine dR aiE (C92 _ m cut _ _ (Og W u.hb u.p1.dS u.p2.dS u.p3.dS u.p4.dS u.p5.dS) E hb (hC _ u.aF) bL) ?_;rintro V _ O
 rcases O with⟨B,rfl,he⟩|⟨G,I,B,rfl,cE⟩
 .have u:=u.ext he;exact aO rfl (aO rfl (bW (qf dy (have u:=u.p5.p5.p5.p5.p5.p5;.inl ⟨B,rfl,(gq.shut W u).mut⟩))))
 have u:=u.made cE;refine aO rfl (aO rfl (bW (eO dy (bD ([]:List Int) u cQ rfl rfl (dQ rfl) λU _ u=>?_))));have lB:=u.p1.dS;refine bJ u cQ lB (by have Z:G.length=m.of.length:=(by unfold fh at B;split at B<;>simp at B;rw[<- B,lS];exact M);simp;omega) dy (λYv _ u=>aD (aA Xa (have u:=u.drew;aB dX u.p2.hb rfl (aD (aA uF (aB dX u.p2.hb rfl (aI cQ u.p3.dS (zC cQ u.p4.dS bL bL λatk J=>?_))))))));have Rk:=(J _ u.p4.dS);refine bJ u cQ Rk (by have Z:G.length=m.of.length:=(by unfold fh at B;split at B<;>simp at B;rw[<- B,lS];exact M);simp;omega) dy (λYV _ u=>aD (aA rS (aR u.p2 dX (dQ rfl) u.dS.one λ_ u=>aD (aA wV (aR u dX (dQ rfl) u.p2.dS.one λ_ u=>aD (aA kI (aR u tC (dQ rfl) (rfl) λ_ u=>?_)))))))
 have u:=(((((((((((u.eU (α:=mV)).p6).drop).p6).drop).p6).drop).p3).p3).p5).p5).p5;have Z:G.length=m.of.length:=by unfold fh at B;split at B<;>simp at B;rw[<- B,lS];exact M
 rw[show(m.of.length:Int).toNat=G.length from bL,zS]at u;exact .inr ⟨_,B,rfl,(gq.shut (m:=mF m G) (Rj _) u).mut⟩
def sY(ps:List Nat)(hd:List Int):List (List Int):=(dA (ps.drop hd.length)).map λt=>hd++t
def vY(ps:List Nat)(hd:List Int)(n:Nat):List (List Int):=(tg n).flatMap fun (i:Nat)=>sY ps (hd++[(i:Int)])
section
variable {ps:List Nat}{hd:List Int}{P n:Nat}
theorem VV(h:hd.length=ps.length):sY ps hd=[hd]:=by
 unfold sY;rw[h,List.drop_length];simp[dA]
theorem VW(ps:List Nat):sY ps []=dA ps:=by unfold sY;simp
theorem CH:(sY ps hd).length=(dA (ps.drop hd.length)).length:=by unfold sY;rw[mW]
theorem xX:vY ps hd (n+1)=vY ps hd n++sY ps (hd++[(n:Int)]):=by
 unfold vY;rw[Ju,List.flatMap_append];simp
theorem afM(h:ps[hd.length]?=some P):ps.drop hd.length=P::ps.drop (hd.length+1):=by
 obtain⟨h1,h2⟩:=kE.1 h
 rw[List.drop_eq_getElem_cons h1,h2]
theorem GC(h:ps[hd.length]?=some P):vY ps hd (P+1)=sY ps hd:=by
 unfold vY sY
 rw[afM h,dA,List.map_flatMap]
 congr 1
 funext i
 rw[l0,nh,Jz]
 refine B0 λt _=>?_
 simp
theorem Aa:∀n:Nat,(vY ps hd n).length=n*(dA (ps.drop (hd.length+1))).length
 | 0=>by simp[vY]
 | n+1=>by rw[xX,l0,Aa n,CH,l0,nh,Nat.add_mul,Nat.one_mul]
theorem abk(h:ps[hd.length]?=some P)(u:n<=P):(vY ps hd n).length+(sY ps (hd++[(n:Int)])).length<=(dA (ps.drop hd.length)).length:=by
 rw[<- l0,<- xX,<- CH,<- GC h,Aa,Aa]
 exact D6 _ bL
theorem VX(h:ps[hd.length]?=some P):(dA (ps.drop (hd.length+1))).length<=(dA (ps.drop hd.length)).length:=by
 have:=abk (n:=0) h (l2 _)
 rw[CH,l0,nh]at this
 omega
end
def oD(m:Mem)(c:List Int):List Int:=nn m c c.length
def xY(m:Mem)(k:Nat):List (List Int)×List (List Int):=Cy (oD m) ((dA (ry m)).take k)
section
variable {m:Mem}{k:Nat}{a:List Int}
theorem afN(h:(dA (ry m))[k]?=some a)(hi:oD m a∈(xY m k).2):xY m (k+1)=xY m k:=by
 unfold xY at *;rw[sX h,sK,ej hi]
theorem ama(h:(dA (ry m))[k]?=some a)(hi:¬ oD m a∈(xY m k).2):xY m (k+1)=((xY m k).1++[a],(xY m k).2++[oD m a]):=by
 unfold xY at *;rw[sX h,sK,ei hi]
theorem T1{α:Type}{p:List α->Prop}(u:p [])(h1:∀l a,p l->p (l++[a]))(l:List α):p l:=by
 have h:∀l:List α,p l.reverse:=λl=>by
  induction l with
  | nil=>exact u
  | cons a l B=>rw[List.reverse_cons];exact h1 _ _ B
 have:=h l.reverse
 rwa [List.reverse_reverse]at this
theorem abl{x y:List Int}(h:x.length=y.length)(e:Qw x=Qw y):x=y:=(List.append_inj e h).1
theorem T3(m:Mem)(l:List (List Int)):Cy (sL m) l=((Cy (oD m) l).1,(Cy (oD m) l).2.map Qw)/\∀y∈(Cy (oD m) l).2,y.length=m.kept.length:=by
 refine T1 (p:=λl=>Cy (sL m) l=((Cy (oD m) l).1,(Cy (oD m) l).2.map Qw)/\∀y∈(Cy (oD m) l).2,y.length=m.kept.length) ⟨rfl,λy h=>by cases h⟩ (λl c G=>?_) l
 obtain⟨I,B⟩:=G
 rw[sK,sK,I]
 have hc:sL m c=Qw (oD m c):=rfl
 have E:(oD m c).length=m.kept.length:=lS _ _ _
 by_cases h:oD m c∈(Cy (oD m) l).2
 .rw[ej h,ej (by rw[hc];exact List.mem_map_of_mem h)];exact⟨rfl,B⟩
 rw[ei h,ei (λJ=>by
  obtain⟨y,u,e⟩:=o1.1 J
  rw[hc]at e
  exact h (by rw[<- abl (by rw[B y u,E]) e];exact u))]
 refine⟨by rw[hc,vG];rfl,λy u=>?_⟩
 rcases pd.1 u with u|u
 .exact B y u
 rw[vS.1 u];exact E
theorem afO(h:(dA (ry m)).length<=k):(xY m k).1=tP m:=by
 unfold xY tP;rw[la h,(T3 m _).1]
theorem abm:(xY m k).1.length<=(dA (ry m)).length:=by
 unfold xY;exact vJ (Bl _ _) (by rw[l9];omega)
theorem abn:(xY m k).2.length=(xY m k).1.length:=by
 unfold xY
 generalize (dA (ry m)).take k=l
 exact T1 (p:=λl=>(Cy (oD m) l).2.length=(Cy (oD m) l).1.length) rfl (λl c u=>by rw[sK];split<;>simp[u]) l
theorem afP{a:List Int}(h:a∈dA (ry m))(u:tO m):fh m a=some (oD m a)/\a.length<=1000:=by
 have B:=oy h
 rw[vL]at B
 have E:=kT u
 have:=u.lb
 refine⟨vd bL λi c hi hc=>yv h (i:=i) (p:=(m.fj i).length) (by unfold ry;exact ve bL) hc,bL⟩
theorem any_succ{α:Type}{l:List α}{j:Nat}{b:α}{f:α->Bool}(h:l[j]?=some b):(l.take (j+1)).any f=((l.take j).any f||f b):=by rw[sX h,List.any_append];simp
end
theorem C147(ps:List Nat)(hd:List Int)(pv:Value)(E:SV)(N:Nat)(w:World)(O:cZ (λ_=>True) w pv (ps.map fun (k:Nat)=>(k:Int)))(V:cZ (λ_=>True) w (jr E) hd)(hlen:hd.length<=ps.length)(M:ps.length<=1000)(hC:(dA (ps.drop hd.length)).length<=1000000000)(I:∀q∈ps,q<=1000000)(hN:ps.length-hd.length<N):CR 147 [pv,jr E] w (λv w'=>∃G:List SV,lf (sep (bF v G) (eC λw'=>cZ (λ_=>True) w' (jr E) hd->gd G (sY ps hd) w')) w w'):=by
 have hpml:(ps.map fun (k:Nat)=>(k:Int)).length=ps.length:=mW ..;have u:=St.start w;refine fb Tryz.func147 ?_;refine aI cQ (V.ext u.aF) (aI cQ (O.ext u.aF) (aG (aC (λ_=>bD ([E]) u ld rfl rfl (dQ rfl) λ_ _ u=>have u:=u.gE (Φ:=λw'=>cZ (λ_=>True) w' (jr E) hd->gd [E] (sY ps hd) w') (λ_ h=>by rw[VV bL];exact gd.nil.snoc (DL.ki h));⟨_,(St.join u.p1).fresh⟩) λlg=>ot (α:=(List Int)) u ld λah4 _ u=>?_)));obtain⟨P,B⟩:=gx ps (i:=hd.length) bL;have hPb:=I P (kO B);have W:=VX B
 refine⟨λZ o x w1=>∃n:Nat,x=ir (n:Int)/\Z=P+1-n/\n<=P+1/\St w aX [fy o (vY ps hd n)] w1,⟨_,0,rfl,rfl,l2 _,u⟩,?_⟩;rintro Z yF _ _ ⟨n,rfl,rfl,hn,u⟩ _;refine aI cQ (V.ext u.aF) ?_;obtain⟨SR,Y⟩:=gx (ps.map fun (k:Nat)=>(k:Int)) (i:=(hd.length:Int).toNat) bL;refine aK cQ O bL Y (λ_ FL=>aE bO (FL.ext u.aF) ?_)
 have hex:SR=(P:Int):=by
  have h0:=Y;rw[o6,show(hd.length:Int).toNat=hd.length from bL,B]at h0;exact(ob.inj h0).symm
 refine gu (aC (λik=>?_) λik=>?_)
 .refine bD ([]:List Int) u cQ rfl rfl (dQ rfl) (λarP _ u=>?_);have J:=(V.ext u.aF);refine bJ u cQ J (by simp;omega) dy (λagW _ u=>bD ([(n:Int)]) u cQ rfl rfl (dQ rfl) λatk _ u=>?_);have Rk:=u.dS;refine bJ u.p1 cQ Rk (by simp;omega) dy (λYV _ u=>?_);have u:=u.p1.drop;obtain⟨Kn,rfl⟩:=u.fK;refine dR agk (C147 ps (hd++[(n:Int)]) _ Kn (N-1) _ (O.ext u.aF) u.dS (by simp;omega) M (by rw[l0,nh];exact vJ W hC) I (by simp;omega)) ?_;rintro x35 _ ⟨U,cE⟩;have u:=((((((u.made cE).split).p2).freeze).p2).fX).dH (Ψ:=gd U (sY ps (hd++[(n:Int)]))) (λ_ h=>h.1 h.2)
  have u:=u.p1.xg.p1;exact fU u ld (by have:=abk (n:=n) B bL;omega) dy (λ_ _ u=>aJ bL ⟨_,bL,n+1,rfl,rfl,bL,by rw[xX];exact u⟩)
 obtain rfl:n=P+1:=bL
 rw[GC B]at u;obtain⟨G,u⟩:=u.v8;have u:=u.p1.dH (Ψ:=λw'=>cZ (λ_=>True) w' (jr E) hd->gd G (sY ps hd) w') (λ_ h _=>h);exact⟨G,(St.join u.p1).fresh⟩
termination_by N
decreasing_by all_goals omega
def aAe(p:Nat)(m:Mem)(cut:List Int)(cv:Value)(w:World)(E:xV w p m)(I:tO m)(hb:MB m 1000000)(G:cZ (λ_=>True) w cv cut)(J:cut.length<=1000){u:List Int}(hi:fh m cut=some u) :
  Calls hH 92 [(.pointer (some ⟨p,0,none⟩)),cv].toArray w (tu λv w'=>∃o,v=.tuple #[o,ir 0]/\lf (bF o u) w w'):=
 aoN (C92 p m cut cv w E I hb G J) λv w' h=>by
  rcases h with⟨h1,_⟩|⟨B,o,h1,h2,h3⟩
  .rw[hi]at h1;cases h1
  .rw[hi]at h1;cases h1;exact⟨o,h2,h3⟩
def C78(p:Nat)(m:Mem)(w:World)(hm:xV w p m)(I:tO m)(hb:MB m 1000000)(hC:(dA (ry m)).length<=1000000000):CR 78 [(.pointer (some ⟨p,0,none⟩))] w (λv w'=>lf (fy v (tP m)) w w'):=by
 have zV:=hm;obtain⟨ov,fv,lv,kv,wv,ws,jN,mO,hmo,hmf,Hs,Oi,hmw⟩:=hm.ex;have q0:=mO.cell (o:=0) rfl;have q1:=mO.cell (o:=1) rfl;have q2:=mO.cell (o:=2) rfl;have q3:=mO.cell (o:=3) rfl;have q4:=mO.cell (o:=4) rfl;have Ia:=I.fl;have GI:=I.G5;have HC:=I.ll;have Ca:=I.kl;have Jy:=I.lb;have GJ:=kT I;have hpsl:=vL m;have hpb:∀q∈ry m,q<=1000000:=λ_ hq=>by obtain⟨i,_,rfl⟩:=o1.1 hq;exact hb _
 have u:=St.start w;refine aiv _ _ _ ?_;unfold S78;refine dB aiw u (C17 _ m _ (zV.ext u.aF) I hb) (λx12 w1 cE u=>bD ([]:List Int) u cQ rfl rfl (dQ rfl) λar0 _ u=>?_);obtain⟨amc,rfl⟩:=u.fK;refine dR agk (C147 (ry m) [] _ amc ((ry m).length+1) _ u.p1.dS u.dS (l2 _) bL hC hpb ee) ?_;rintro J _ ⟨B,cE⟩;have u:=((((((u.made cE).split).p2).freeze).p2).fX).dH (Ψ:=gd B (dA (ry m))) (λ_ h=>by have Y:=h.1 h.2;rwa [VW]at Y);have u:=u.p1;have Pl:=u.XA;refine bD (@List.nil SV) u ld rfl rfl (dQ rfl) (λah4 _ u=>ot (α:=(List Int)) u ld λarv _ u=>?_)
 have u:=u.p4.drop.p3.p3.p2.p3;refine⟨λmm o h x w1=>∃(k:Nat) (os:List SV),x=ir (k:Int)/\mm=(dA (ry m)).length-k/\k<=(dA (ry m)).length/\(∀w',gd B (dA (ry m)) w'->gd os (xY m k).1 w')/\St w aX [bF o os,fy h (xY m k).2,bF J B,eC (gd B (dA (ry m)))] w1,⟨_,0,[],rfl,rfl,l2 _,λ_ _=>gd.nil,u⟩,?_⟩;rintro mm GR OU _ _ ⟨k,os,rfl,rfl,uR,E,u⟩ _;refine aI ld u.p2.dS (aN (aC (λm7=>?_) λm7=>?_))
 .obtain⟨a,ha⟩:=gx (dA (ry m)) (i:=(k:Int).toNat) bL;have V6:a∈dA (ry m):=kO ha;have Z:=afP V6 I;have hl1:=abm (m:=m) (k:=k);have Df:=abn (m:=m) (k:=k);have ZP:(oD m a).length=m.kept.length:=lS _ _ _;obtain⟨F3,pQ⟩:=gx B (i:=(k:Int).toNat) bL;refine⟨λo h w'=>∃G:List SV,(∀w',gd B (dA (ry m)) w'->gd G (xY m (k+1)).1 w')/\St w aX [bF o G,fy h (xY m (k+1)).2,bF J B,eC (gd B (dA (ry m)))] w',?_,?_⟩
  .refine dG u.p2 ld bL bL (λ_ sm=>fM u.p2 dX sm pQ (dR aiE (aAe _ m a _ _ (zV.ext u.aF) I hb (DL.flat (u.p3.eC.2 _ _ _ pQ ha)) Z.2 Z.1) ?_));rintro x29 _ ⟨ah5,rfl,cE⟩;have u:=u.made cE;refine aO rfl (aO rfl ?_);have u:=u.p2;obtain⟨O,u⟩:=u.v8;have hhl:=u.XA;have u:=u.p5.p5.p5.p4.p4.p5;refine⟨λmm b x w1=>∃j:Nat,b=.bool ((((xY m k).2).take j).any λy=>decide (y=oD m a))/\x=ir (j:Int)/\mm=((xY m k).2).length-j/\j<=((xY m k).2).length/\St w aX [bF ah5 (oD m a),bF OU O,eC (gd O ((xY m k).2)),bF GR os,bF J B,eC (gd B (dA (ry m)))] w1,⟨_,0,rfl,rfl,rfl,l2 _,u⟩,?_⟩
   rintro mm _ _ _ ⟨j,rfl,rfl,rfl,hj,u⟩ _;refine aI ld u.p1.dS (aN (aC (λlj=>?_) λlj=>?_))
   .obtain⟨V,M⟩:=gx ((xY m k).2) (i:=(j:Int).toNat) bL;obtain⟨Gf,qS⟩:=gx O (i:=(j:Int).toNat) bL;refine⟨λjv w'=>jv=.bool ((((xY m k).2).take (j+1)).any λy=>decide (y=oD m a))/\St w aX [bF ah5 (oD m a),bF OU O,eC (gd O ((xY m k).2)),bF GR os,bF J B,eC (gd B (dA (ry m)))] w',aW (λU=>have u:=u.p5.p5.p5.p5.p5.p5;⟨vb (by rw[any_succ (j:=j) M,U];rfl),u⟩) (λU=>dG u.p1 ld bL bL λ_ NM=>fM u.p1 dX NM qS (aV Uj u (C71 _ _ V (oD m a) _ (DL.flat (u.p2.eC.2 _ _ _ qS M)) u.dS (by have Y:=(T3 m ((dA (ry m)).take k)).2 V (show V∈(xY m k).2 from kO M);omega)) λ_ _ u=>have u:=u.p5.p5.p5.p5.p5.p5;⟨vb (by rw[any_succ (j:=j) M,show((((xY m k).2).take j).any λy=>decide (y=oD m a))=false from U];rfl),u⟩)),?_⟩
    rintro _ _ ⟨rfl,u⟩ _;exact aJ bL (have u:=u.p5.p5.p5.p5.p5.p5;⟨_,bL,j+1,rfl,rfl,rfl,bL,u⟩)
   have CO:((xY m k).2.take j)=(xY m k).2:=la bL;have u:=u.p2.p2.xg;refine bN (aW (λW=>?_) λW=>?_)
   .obtain⟨Ol,rfl⟩:=u.p1.fK;have u:=u.p1.freeze.dH (Ψ:=λw=>n5 w Ol (oD m a)) (λ_ h=>DL.ki h);refine ga (s:=Ol) (x:=(oD m a)) u ld dy (λs_x51 _ u=>have u:=u.p1;fU u ld (by simp;omega) dy λs_x52 _ u=>dG u.p2 ld bL bL λ_ Nf=>fM u.p2 dX Nf pQ (bD ([F3]) u ld rfl rfl (dQ rfl) λarT _ u=>?_));have amd:=u.dS;refine bJ u.p2 ld amd (by simp;have:=(E _ u.p4.eC).1;omega) dy (λape _ u=>?_);have u:=u.p1.drop.p3.p3.p3.p3
    have hni:¬ oD m a∈(xY m k).2:=λO=>by
     have Y:((xY m k).2.any λy=>decide (y=oD m a))=true:=xy.2 ⟨_,O,ew rfl⟩;rw[CO]at W;rw[Y]at W;cases W
    rw[ama (k:=k) ha hni];exact⟨os++[F3],λw' h=>(E w' h).snoc (h.2 _ _ _ pQ ha),u⟩
   have u:=u.p1.drop.p3.p3.p2.p3
   have hyi:oD m a∈(xY m k).2:=by
    rw[CO]at W;have Y:((xY m k).2.any λy=>decide (y=oD m a))=true:=by simpa using W
    obtain⟨y,h1,h2⟩:=xy.1 Y;rw[<- gM h2];exact h1
   rw[afN (k:=k) ha hyi];exact⟨os,E,u⟩
  rintro I6 WM _ ⟨G,aAg,u⟩ _;exact aJ bL (have u:=u.p3.p3.p3.p3;⟨_,bL,k+1,G,rfl,rfl,bL,aAg,u⟩)
 have u:=(u.p1.drop.p1.drop.p1.p1.p1.dH λw h=>E w h).p1.xg;rw[afO bL]at u;exact u.fresh
structure DoK(K:hM)(d:pg)(q:Dq):Prop where
 x:∀w,K w->n5 w d.x q.1
 a:∃ra,∀w,q7 K d.body ra q.2.1.flat w
 b:∃rb,∀w,q7 K d.ep rb q.2.2.1.flat w
 e:d.in_=q.2.2.2
def kY(K:hM)(ds:List pg)(qs:List Dq):Prop:=ds.length=qs.length/\∀(j:Nat) (d:pg) (q:Dq),ds[j]?=some d->qs[j]?=some q->DoK K d q
section
variable {K K2:hM}{ds es:List pg}{qs rs:List Dq}{d:pg}{q:Dq}
theorem kY.nil:kY K [] []:=⟨rfl,λj d q h=>by cases h⟩
theorem kY.cons(h:DoK K d q)(u:kY K ds qs):kY K (d::ds) (q::qs):=by
 refine⟨by simp[u.1],λj e r h1 h2=>?_⟩
 cases j with
 | zero=>cases h1;cases h2;exact h
 | succ j=>exact u.2 j e r h1 h2
theorem kY.head(h:kY K ds (q::qs)):∃d es,ds=d::es/\DoK K d q/\kY K es qs:=by
 cases ds with
 | nil=>have:=h.1;grind
 | cons d es=>exact⟨d,es,rfl,h.2 0 d q rfl rfl,by have:=h.1;grind,λj e r h1 h2=>h.2 (j+1) e r h1 h2⟩
theorem kY.append(h:kY K ds qs)(u:kY K es rs):kY K (ds++es) (qs++rs):=by
 refine⟨by simp[h.1,u.1],λj d q h1 h2=>?_⟩
 have B:=h.1
 by_cases E:j<ds.length
 .rw[uc E]at h1
  rw[uc bL]at h2
  exact h.2 j d q h1 h2
 rw[List.getElem?_append_right bL]at h1 h2
 rw[<- B]at h2
 exact u.2 _ d q h1 h2
theorem kY.drop(h:kY K ds qs)(k:Nat):kY K (ds.drop k) (qs.drop k):=by
 refine⟨by simp[h.1],λj d q h1 h2=>?_⟩
 rw[List.getElem?_drop]at h1 h2
 exact h.2 _ d q h1 h2
end
@[reducible] def yD(lv:Value)(B:SV)(rg:Value)(u:Nat)(f:Int):List Value:=[lv,jr B,rg,.pointer (some ⟨u,0,none⟩),.int .i64 f]
def ma(K:hM)(p:Nat)(room:Int)(t:jd):HP:=oO λu:Nat=>oO λB:SV=>oO λrg=>oO λlv=>oO λds:List pg=>fact ((∀w,K w->cZ (λ_=>True) w (jr B) t.names)/\kY K ds (wB t.bV)/\Gs t.bV)
 (sep (bX p (yD lv B rg u t.fault)) (sep (iR u room t.buf) (sep (bF rg t.dO) (eC λw=>cZ (λ_=>True) w lv ds))))
abbrev RTK(K:hM)(u:SV)(ds:List pg)(t:jd):Prop:=(∀w,K w->cZ (λ_=>True) w (jr u) t.names)/\kY K ds (wB t.bV)/\Gs t.bV
section
variable {w w0:World}{A:Nat->Prop}{R:List HP}{p:Nat}{K:hM}{room:Int}{t:jd}
theorem Ab{H1 H2 B u:HP}(E:St w0 A (sep H1 (sep H2 (sep B u))::R) w):St w0 A (H1::H2::B::u::R) w:=by
 have h1:=E.split
 have h2:=h1.p1.split
 have h3:=h2.p1.split
 exact h3.p2.p3
theorem GD{H1 H2 B u:HP}(E:St w0 A (H1::H2::B::u::R) w):St w0 A (sep H1 (sep H2 (sep B u))::R) w:=by
 have h3:=St.join E.p3.p3
 have h2:=St.join h3.p2
 exact St.join h2.p1
theorem ma.open(u:St w0 A (ma K p room t::R) w):∃B E rg lv ds,RTK K E ds t/\
  St w0 A (bX p (yD lv E rg B t.fault)::iR B room t.buf::bF rg t.dO::eC (λw=>cZ (λ_=>True) w lv ds)::R) w:=by
 obtain⟨B,u⟩:=u.dK;obtain⟨E,u⟩:=u.dK;obtain⟨rg,u⟩:=u.dK;obtain⟨lv,u⟩:=u.dK;obtain⟨ds,u⟩:=u.dK;obtain⟨G,u⟩:=u.j4
 exact⟨B,E,rg,lv,ds,G,Ab u⟩
theorem ma.shut{u:Nat}{B:SV}{rg lv:Value}{ds:List pg}(G:RTK K B ds t)
  (E:St w0 A (bX p (yD lv B rg u t.fault)::iR u room t.buf::bF rg t.dO::eC (λw=>cZ (λ_=>True) w lv ds)::R) w):St w0 A (ma K p room t::R) w:=
 St.dT u (St.dT B (St.dT rg (St.dT lv (St.dT ds (St.l4 G (GD E))))))
theorem ma.rd(h:Has (ma K p room t) w):∃B E rg lv ds,RTK K E ds t/\pk w p (yD lv E rg B t.fault)/\sH w B room t.buf/\cZ (λ_=>True) w rg t.dO/\cZ (λ_=>True) w lv ds:=by
 obtain⟨F,u⟩:=h.st
 obtain⟨B,E,rg,lv,ds,G,u⟩:=ma.open u
 exact⟨B,E,rg,lv,ds,G,u.hb,Bh u.p1,u.p2.dS,u.p3.eC⟩
end
structure RA where
 pv:bP
 q:Nat
 ow:Value
 ll:Value
 ps:List Ptr
@[reducible] def pf(a:RA)(s:gC):List Value:=[jr a.pv.lines,jr a.pv.iP,jr a.pv.eE,jr a.pv.threads,jr a.pv.recover,jr a.pv.dV,.int .i64 s.room,.int .i64 s.dz,.pointer (some ⟨a.q,0,none⟩),a.ow,a.ll,.int .i64 s.fault,.int .i64 s.iY]
structure RSK(K:hM)(a:RA)(s:gC):Prop where
 pr:∀w,K w->n5 w a.pv s.p
 rc:∃vP,(∀w,K w->cZ (λ_=>True) w (jr a.pv.recover) vP)/\Du K vP s.p.recover
abbrev Om(K:hM)(room:Int)(s:Ptr)(t:jd):HP:=ma K s.b room t
def mM(K:hM)(p:Nat)(m:gC):HP:=oO λa:RA=>fact (RSK K a m) (sep (bX p (pf a m)) (sep (gq a.q m.mem) (sep (bF a.ow m.eI) (sep (bF a.ll a.ps) (fR (Om K m.room) a.ps m.l)))))
section
variable {w w' w0:World}{A:Nat->Prop}{R:List HP}{p:Nat}{K:hM}{m:gC}{a:RA}{i:Nat}{tp:Ptr}{t:jd}
theorem mM.open(u:St w0 A (mM K p m::R) w):∃a,RSK K a m/\St w0 A (bX p (pf a m)::gq a.q m.mem::bF a.ow m.eI::bF a.ll a.ps::fR (Om K m.room) a.ps m.l::R) w:=by
 obtain⟨a,u⟩:=u.dK;obtain⟨B,u⟩:=u.j4;exact⟨a,B,pS u⟩
theorem mM.shut(B:RSK K a m)(u:St w0 A (bX p (pf a m)::gq a.q m.mem::bF a.ow m.eI::bF a.ll a.ps::fR (Om K m.room) a.ps m.l::R) w):St w0 A (mM K p m::R) w:=
 St.dT a (St.l4 B (pU u))
structure aAi(K:hM)(w:World)(p:Nat)(m:gC)(a:RA):Prop where
 uk:RSK K a m
 b:pk w p (pf a m)
 mem:xV w a.q m.mem
 ow:cZ (λ_=>True) w a.ow m.eI
 ll:cZ (λ_=>True) w a.ll a.ps
 th:∀(i:Nat) (s:Ptr) (t:jd),a.ps[i]?=some s->m.l[i]?=some t->Has (ma K s.b m.room t) w
 len:a.ps.length=m.l.length
theorem mM.rd(h:Has (mM K p m) w):∃a,aAi K w p m a:=by
 obtain⟨F,u⟩:=h.st
 obtain⟨a,B,u⟩:=mM.open u
 exact⟨a,B,u.hb,Gx (St.has u.p1),u.p2.dS,u.p3.dS,λi s t h1 h2=>u.p4.adg h1 h2 (Φ:=λw=>Has (ma K s.b m.room t) w) λh=>⟨_,h⟩,u.p4.fG⟩
end
variable (w:World) (K:Value->hM)
def S221(B J I G:Value):Prop:=
 iA 82 B J λa=>lA 164 a w λb=>aL 164 w λc d=>sA 164 c b d λe=>fA 164 c 0 λf=>lA 3 f e λg=>bB .eql 3 g (i 1) λh=>cV h (fA 164 c 1 λj=>lA 3 j e λk=>
 K (.tuple #[k,(i 0)]) e) (fA 164 c 0 λl=>lA 3 l e λn=>bB .eql 3 n (i 2) λo=>cV o (fA 164 c 2 λp=>lA 9 p e λq=>cF 123 [I,q] e λr s=>iA 41 G r λt=>
 lA 3 t s λu=>K (.tuple #[u,(i 0)]) s) (bB .add 3 J (i 1) λv=>cF 221 [B,v,I,G] e λx y=>xT x 0 λz=>xT x 1 λU=>bB .neq 31 U (i 0) λab=>cV ab (
 K (.tuple #[(i 0),U]) y) (fA 164 c 0 λac=>lA 3 ac y λad=>cF 273 [ad] y λae E=>bB .eql 3 ae (i 1) λag=>cV ag (fA 164 c 0 λZ=>lA 3 Z E λai=>cF 274 [ai,z] E λV ak=>
 xT V 0 λal=>xT V 1 λam=>K (.tuple #[al,am]) ak) (bB .add 3 J (i 1) λan=>cF 251 [B,an] E λao ap=>cF 221 [B,ao,I,G] ap λY M=>xT Y 0 λasx=>
 xT Y 1 λO=>bB .neq 31 O (i 0) λav=>cV av (K (.tuple #[(i 0),O]) M) (fA 164 c 0 λaw=>lA 3 aw M λax=>cF 275 [ax,z,asx] M λW az=>xT W 0 λa0=>xT W 1 λa1=>
 K (.tuple #[a0,a1]) az)))))
theorem afR(E G B u:Value)(h:S221 w K E G B u):CR 221 [E,G,B,u] w K:=
 oe 77 (λ_=>.nil) 768 [.tmp 8,.tmp 9] Tryz.func221 h
theorem ah6:PL 146:=dJ Tryz.func146
theorem abp:PL 221:=dJ Tryz.func221
end Go.Proofs.YtpdlpabnlkofmaaGreatDoor
namespace Go.Proofs.YtpdlpabnlkofmaaGreatDoor
open Go.Fw
theorem Ex.T4{t:Ex}(h:t.wf)(u:kids t.root.op=0):t=.leaf t.root:=by
 have:=Ex.oU h
 cases t with
 | leaf x=>rfl
 | un x a=>rw[u]at this;cases this
 | bin x a b=>rw[u]at this;cases this
theorem Ex.ah7{t:Ex}(h:t.wf)(u:kids t.root.op=1):∃a,t=.un t.root a:=by
 have:=Ex.oU h
 cases t with
 | leaf x=>rw[u]at this;cases this
 | un x a=>exact⟨a,rfl⟩
 | bin x a b=>rw[u]at this;cases this
theorem Ex.abq{t:Ex}(h:t.wf)(u:kids t.root.op=2):∃a b,t=.bin t.root a b:=by
 have:=Ex.oU h
 cases t with
 | leaf x=>rw[u]at this;cases this
 | un x a=>rw[u]at this;cases this
 | bin x a b=>exact⟨a,b,rfl⟩
theorem amg{k:Int}(h:kids k=1):GY k=0:=by
 unfold kids at h;grind[GY]
def BO.On{xs:List bU}{i:Int}{t:Ex}(h:BO xs i t){y:bU}(u:y∈t.flat):y∈xs:=by
 obtain⟨_,_,r,h⟩:=h
 exact Z6 (show y∈xs.drop i.toNat by grind)
theorem C221(lv nv uv:Value)(xs:List bU)(ns:List ByteArray)(nums:List Int)(i:Int)(t:Ex)(N:Nat)(w:World)(hL:cZ (λ_=>True) w lv xs)(hN:cZ (λ_=>True) w nv ns)(hU:cZ (λ_=>True) w uv nums)(hn:xs.length<=1048576)(BN:ns.length<=1048576)(Y:ns.length=nums.length)(iv:yI nums)(U:∀y∈xs,y.op=2->0<=cU ns y.name)(M:∀y∈xs,eT y.n)(O:BO xs i t)(hNt:t.size<N) :
   CR 221 [lv,ir i,nv,uv] w (λv w'=>v=.tuple #[ir (t.val ns nums).1,ir (t.val ns nums).2]/\Ext w w'):=by
 obtain⟨e,G⟩:∃e,e=t.root:=⟨_,rfl⟩;have hxe:xs[i.toNat]?=some e:=by rw[G];exact O.root.1
 have hem:=kO hxe;have hri:=O.root.2;have hie:=O.end;have Pg:=Ex.oU O.2.1;rw[<- G]at Pg;have XU:=ua e.op;have hi0:=O.1;have E:=O.2.1;have B:=St.start w;refine afR _ _ _ _ _ _ ?_;unfold S221;refine aK gU (hL.ext B.aF) bL hxe (λq hq=>aE rW hq (aQ B yg λb _ B=>aM (x:=e) B rW rfl rfl λ_ B=>aA eX (aB bO B.hb rfl (aG (aC (λc1=>?_) λc1=>?_)))))
 .refine aA ji (aB bO B.hb rfl ?_);have ht:=Ex.T4 E (by rw[<- G,c1];rfl);rw[ht,<- G];refine⟨?_,B.drop.aF⟩;show _=G3 #[ir (if e.op=2 then _ else e.n),ir 0];rw[ei bL]
 refine aA eX (aB bO B.hb rfl (aG (aC (λc2=>?_) λc2=>?_)))
 .refine aA gj (aB gv B.hb rfl (aV rK B (C123 _ ns _ _ (hN.ext B.aF) BN) λ_ W B=>?_));obtain⟨j,hj,Cm,_⟩:=lQ (dM.1 (U e hem c2));have CO:=(kE.1 Cm).1;obtain⟨u,hu⟩:=gx nums (i:=(cU ns e.name).toNat) bL;refine aK cQ (hU.ext B.aF) bL hu (λq2 KL=>aE bO KL ?_);have ht:=Ex.T4 E (by rw[<- G,c2];rfl);rw[ht,<- G];refine⟨?_,B.drop.aF⟩;show _=G3 #[ir (if e.op=2 then nums.getD (cU ns e.name).toNat 0 else e.n),ir 0];rw[ej c2,oi,hu];rfl
 have hk0:kids e.op=1\/kids e.op=2:=by
  have:kids e.op≠0:=λh=>by unfold kids at h;split at h;omega;split at h;omega;split at h;omega;omega
  omega
 obtain⟨a,I⟩:=gx t.eu (i:=0) bL;have hka:=Ex.ub E (kO I);have J:=O.kid I;have V8:=J.end;rw[show i+1+((qy t.eu 0:Nat):Int)=i+1 by simp[qy]]at J V8;refine aJ bL (aV abp B (C221 lv nv uv xs ns nums _ a (N-1) _ (hL.ext B.aF) (hN.ext B.aF) (hU.ext B.aF) hn BN Y iv U M J bL) λ_ W B=>aO rfl (aO rfl (bW (aC (λZ=>?_) λZ=>?_))))
 .refine⟨?_,B.drop.aF⟩
  rcases hk0 with h|h
  .obtain⟨a2,ht⟩:=Ex.ah7 E (by rw[<- G];exact h);rw[ht]at I |-;cases I
   rw[Ex.Gq,ei Z]
  obtain⟨a2,b2,ht⟩:=Ex.abq E (by rw[<- G];exact h);rw[ht]at I |-;cases I
  rw[Ex.BC,ei Z]
 have hao:=Ex.Rg (ns:=ns) iv a (λy hy=>M y (J.On hy));refine aA eX (aB bO B.hb rfl (aV Lm B (C273 _ _) λ_ W B=>aG (aC (λc4=>?_) λc4=>?_)))
 .refine aA eX (aB bO B.hb rfl (aV aoj B (C274 _ _ _) λ_ W B=>aO rfl (aO rfl ?_)));refine⟨?_,B.drop.aF⟩;obtain⟨a2,ht⟩:=Ex.ah7 E (by rw[<- G];exact c4);rw[ht]at I |-;cases I
  rw[Ex.Gq,ej (A0.1 Z),<- G,amg c4]
 have uR:kids e.op=2:=bL
 refine aJ bL (aV Lk B (C251 _ _ _ (xs.length+1) _ (hL.ext B.aF) bL bL bL) λ_ W B=>?_);rw[V8.1];obtain⟨b',hb⟩:∃b,t.eu[1]?=some b:=⟨_,lU bL⟩;have hkb':=Ex.ub E (kO hb);have V:=O.kid hb;rw[uO I,show i+1+((qy t.eu 0+a.size:Nat):Int)=i+1+(a.size:Int)by simp[qy]]at V;refine aV abp B (C221 lv nv uv xs ns nums _ b' (N-1) _ (hL.ext B.aF) (hN.ext B.aF) (hU.ext B.aF) hn BN Y iv U M V bL) (λ_ W B=>aO rfl (aO rfl ?_));obtain⟨a2,b2,ht⟩:=Ex.abq E (by rw[<- G];exact uR);rw[ht]at I hb |-
 cases I;cases hb
 rw[Ex.BC,ej (A0.1 Z),<- G];refine bW (aC (λc5=>?_) λc5=>?_)
 .refine⟨?_,B.drop.aF⟩;rw[ei c5]
 have hbo:=Ex.Rg (ns:=ns) iv b' (λy hy=>M y (V.On hy));refine aA eX (aB bO B.hb rfl (aV aok B (C275 _ _ _ _ hao hbo) λ_ W B=>aO rfl (aO rfl ?_)));refine⟨?_,B.drop.aF⟩;rw[ej (A0.1 c5)]
termination_by N
decreasing_by all_goals omega
def C146(lv O U:Value)(xs:List bU)(ns:List ByteArray)(nums:List Int)(w:World)(V:cZ (λ_=>True) w lv xs)(J:cZ (λ_=>True) w O ns)(W:cZ (λ_=>True) w U nums)(Y:xs.length<=1048576)(Z:ns.length<=1048576)(Su:∀x∈xs,x.name.size<=1048576)(iv:yI nums) :
  CR 146 [lv,O,U] w (λv w'=>v=.tuple #[ir (pN ns nums xs).1,ir (pN ns nums xs).2]/\Ext w w'):=by
 have u:=St.start w;refine fb Tryz.func146 ?_;refine aI iu J (aI cQ W (bW (aC (λc1=>?_) λc1=>?_)))
 .have B:pN ns nums xs=(0,1):=by unfold pN;rw[ei bL]
  rw[B];exact⟨rfl,u.aF⟩
 refine dR an3 (C220 _ _ xs ns _ V J Y Z Su) ?_;rintro _ _ ⟨s,rfl,cE⟩;have u:=(u.made cE).drop;refine aO rfl (aO rfl (bW (aC (λI=>?_) λI=>?_)))
 .have B:pN ns nums xs=(0,kQ ns xs):=by unfold pN;rw[ej bL,ei I]
  rw[B];exact⟨rfl,u.aF⟩
 have E:kQ ns xs=0:=A0.1 I;obtain⟨t,hT,B,G,M⟩:=VN (nums:=nums) E bL;refine aV abp u (C221 lv O U xs ns nums _ t (t.size+1) _ (V.ext u.aF) (J.ext u.aF) (W.ext u.aF) Y Z bL iv G M hT bL) (λ_ he u=>aO rfl (aO rfl ?_));rw[B];exact⟨rfl,u.aF⟩
def Bk.aAj{L:List bM}{k:Nat}{x:bM}{a c r:Bk}(h:L.drop k=(Bk.cons x a c r).flat)(I:(Bk.cons x a c r).str){i j e:Int}(hi:i=k+1)(Y:j=k+1+x.body)(U:e=k+1+x.body+x.ep) :
  L[k]?=some x/\(L.take j.toNat).drop i.toNat=a.flat/\(L.take e.toNat).drop j.toNat=c.flat/\L.drop e.toNat=r.flat/\e.toNat<=L.length:=by
 obtain⟨W,V,_⟩:=I
 have O:=a.cX
 have M:=c.cX
 have h1:L.drop (k+1)=a.flat++(c.flat++r.flat):=by rw[<- u3,h];rfl
 have h2:L.drop (k+1+a.flat.length)=c.flat++r.flat:=by rw[<- u3,h1,GA]
 have h3:L.drop (k+1+a.flat.length+c.flat.length)=r.flat:=by rw[<- u3,h2,GA]
 have G:=gL List.length h
 have B:(Bk.cons x a c r).flat.length=1+(a.flat.length+(c.flat.length+r.flat.length)):=by simp[Bk.flat];omega
 rw[B,sJ]at G
 have E:i.toNat=k+1:=bL
 have u:j.toNat=k+1+a.flat.length:=bL
 have J:e.toNat=k+1+a.flat.length+c.flat.length:=bL
 refine⟨?_,?_,?_,cD,bL⟩
 .have:(L.drop k)[0]?=some x:=by rw[h];rfl
  grind
 .rw[Z2,E,u,h1,show k+1+a.flat.length-(k+1)=a.flat.length by omega,Oy]
 rw[Z2,u,J,h2,show k+1+a.flat.length+c.flat.length-(k+1+a.flat.length)=c.flat.length by omega,Oy]
theorem C128(K:hM)(sv:SV)(rows:List aZ)(b:Bk)(w:World)(G:∀w',Ext w w'->K w')(hb:b.str)(Pl:∀w,q7 K sv rows b.flat w)(GZ:b.flat.length<=100000) :
   CR 128 [jr sv] w (λv w'=>∃ds,kY K ds (Ed false b)/\lf (bF v ds) w w'):=by
 have u:=St.start w;refine afz _ _ _ ?_;unfold S128;have I:∀w',K w'->cZ (λ_=>True) w' (jr sv) rows:=λw' h=>(Pl w').2 h;have Z:∀w',K w'->gd rows b.flat w':=λw' h=>(Pl w').1 w' h;have G6:rows.length=b.flat.length:=(Z _ (G _ (Ext.refl _))).1;refine bD ([]:List pg) u mi rfl rfl (dQ rfl) (λs8 O u=>?_);refine⟨λmm o y w'=>∃(k:Nat) (ds:List pg) (qs:List Dq) (r:Bk),y=ir (k:Int)/\mm=b.flat.length-k/\r.str/\b.flat.drop k=r.flat/\Ed false b=qs++Ed false r/\kY K ds qs/\ds.length<=k/\k<=b.flat.length/\St w aX [bF o ds] w',⟨_,0,[],[],b,rfl,rfl,hb,rfl,rfl,kY.nil,Nat.le_refl _,l2 _,u⟩,?_⟩
 rintro mm o _ _ ⟨k,ds,qs,r,rfl,rfl,hr,US,Ae,Y,DP,hk,u⟩ _;refine aI fk (I _ (G _ u.aF)) (aN (aC (λc=>?_) λc=>?_));rotate_left
 .have h0:r.flat.length=0:=by rw[<- US,sJ];omega
  have hrn:r=.nil:=by
   cases r with
   | nil=>rfl
   | cons _ _ _ _=>simp[Bk.flat]at h0
  subst hrn;exact⟨ds,by rw[Ae];show kY K ds (qs++[]);rw[qb];exact Y,u.fresh⟩
 obtain⟨x,a,c',r',rfl⟩:=Bk.DW (t:=r) (by rw[<- US,sJ];omega);obtain⟨g1,g2,g3,g4,sa,sc,sr⟩:=id hr;obtain⟨e1,e2,e3,e4,e5⟩:=Bk.aAj US hr (i:=(k:Int)+1) (j:=(k:Int)+1+x.body) (e:=(k:Int)+1+x.body+x.ep) rfl rfl rfl;obtain⟨t0,Ve⟩:∃t0,rows[k]?=some t0:=⟨_,lU (by have:=(kE.1 e1).1;omega)⟩;have W:∀w',K w'->n5 w' t0 x:=λw' h=>(Z w' h).2 k t0 x Ve e1;obtain⟨M,J,rfl,_,_⟩:=iz (W _ (G _ u.aF));refine aK fk (I _ (G _ u.aF)) bL (by rw[tx];exact Ve) (λq hq=>aE eD hq (aQ u iN λb5 _ u=>aM (x:=(⟨x.kind,x.ey,x.name,M,J,x.n,x.body,x.ep,x.at_⟩:aZ)) u eD rfl rfl λ_ u=>aJ bL (aA iW (aB (v:=ir x.body) bO u.hb rfl (aJ bL (aA iD (aB (v:=ir x.ep) bO u.hb rfl (aJ bL (have u:=u.drew;aE (x:=(⟨x.kind,x.ey,x.name,M,J,x.n,x.body,x.ep,x.at_⟩:aZ)) eD u.At (aJ bL ?_))))))))))
 refine oq fk (I _ (G _ u.aF)) bL bL bL (λs32 U=>?_);obtain⟨E,rfl⟩:=(U _ (I _ (G _ u.aF))).fK;refine oq fk (I _ (G _ u.aF)) bL bL bL (λs36 V=>?_);obtain⟨B,rfl⟩:=(V _ (I _ (G _ u.aF))).fK;refine pop (Ky x.kind x.ey x.name M.a M.n M.cap J.a J.n J.cap x.n x.body x.ep x.at_ E.a E.n E.cap B.a B.n B.cap) (bD ([⟨(⟨x.kind,x.ey,x.name,M,J,x.n,x.body,x.ep,x.at_⟩:aZ),E,B,false⟩]:List pg) u mi rfl rfl (dQ rfl) λs38 _ u=>?_);have aAk:=u.dS;refine bJ u.p2 mi aAk (by rw[nh];omega) dy (λs39 _ u=>⟨_,?_,((k:Int)+1+x.body+x.ep).toNat,ds++[⟨(⟨x.kind,x.ey,x.name,M,J,x.n,x.body,x.ep,x.at_⟩:aZ),E,B,false⟩],qs++[(x,a,c',false)],r',gL (n3 .i64) bL,rfl,sr,e4,by rw[Ae];simp[Ed],Y.append (kY.cons ⟨W,⟨_,λO=>⟨λw' h=>?_,λh=>U O (I O h)⟩⟩,⟨_,λO=>⟨λw' h=>?_,λh=>V O (I O h)⟩⟩,rfl⟩ kY.nil),?_,e5,u.p1.drop.p1.drop⟩)
 .omega
 .have:=gd.cut (i:=((k:Int)+1).toNat) (j:=((k:Int)+1+x.body).toNat) (Z w' h);rw[e2]at this;exact this
 .have:=gd.cut (i:=((k:Int)+1+x.body).toNat) (j:=((k:Int)+1+x.body+x.ep).toNat) (Z w' h);rw[e3]at this;exact this
 rw[l0,nh];omega
def C203(p:Nat)(t:jd)(Rl:Value)(O:SV)(rg:Value)(Y:Nat)(lv:Value)(xs:List bU)(w:World)(M:pk w p (yD Rl O rg Y t.fault))(U:cZ (λ_=>True) w (jr O) t.names)(V:cZ (λ_=>True) w rg t.dO)(J:cZ (λ_=>True) w lv xs)
  (Z:xs.length<=1048576) (BN:t.names.length<=1048576) (E:∀x∈xs,x.name.size<=1000) (W:yI t.dO):CR 203 [.pointer (some ⟨p,0,none⟩),lv] w (λv w'=>v=.tuple #[ir (eF t xs).1,.bool (eF t xs).2]/\Ext w w'):=by
 have G:=M.cell (o:=1) rfl;have I:=M.cell (o:=2) rfl;have u:=St.start w;refine pj Tryz.func203 (pl:=az2) ?_;refine aI gU J (aG (aC (λc=>?_) λc=>?_))
 .have B:eF t xs=(0,true):=by unfold eF;rw[ej bL]
  rw[B];exact⟨rfl,u.aF⟩
 have B:eF t xs=((pN t.names t.dO xs).1,decide ((pN t.names t.dO xs).2=0)):=by unfold eF;rw[ei bL]
 have u:=u.drew;refine aD (aA Lx (bE je (G.ext u.aF) (aD (aA Ly (bE dX (I.ext u.aF) (aV ah6 u (C146 _ _ _ xs t.names t.dO _ (J.ext u.aF) (U.ext u.aF) (V.ext u.aF) Z BN (λx h=>vJ (E x h) dy) W) λ_ he u=>aO rfl (aO rfl (aG ?_))))))));rw[B];exact⟨rfl,u.aF⟩
def C204(K:hM)(p:Nat)(room:Int)(t:jd)(F:Nat->Prop)(s:ByteArray)(n:Int)(w:World)(I:(ma K p room t).p w F)(G:∀w',gD F w w'->K w')(E:0<=cU t.names s)(Z:t.dO.length=t.names.length)(U:t.names.length<=1000) :
   CR 204 [.pointer (some ⟨p,0,none⟩),.string s,ir n] w (λv w'=>v=.tuple #[]/\mT F (ma K p room (o7 t s n)) w w'):=by
 obtain⟨j,W,J,_⟩:=lQ (dM.1 E);have M:=(kE.1 J).1;have u:=St.begin I;refine fb Tryz.func204 ?_;obtain⟨O,V,rg,Y,ds,B,u⟩:=ma.open u;exact aD (aA Lx (aB je u.hb rfl (aV rK u (C123 _ t.names s _ (B.1 _ (G _ u.aF)) bL) λ_ _ u=>aD (aA Ly (aB dX u.hb rfl (dG u.p2 cQ bL bL λ_ h=>iM (n:Int) u.p2 bO h bL λ_ u=>have u:=ma.shut (t:=o7 t s n) B u.p3.p1.p3.p3;⟨rfl,u.mut⟩))))))
def C171(K:hM)(p:Nat)(room:Int)(t:jd)(F:Nat->Prop)(lv:Value)(es:List pg)(qs rest:List Dq)(Z:Dq)(p2:PD)(w:World)(hF:(ma K p room t).p w F)(hK:∀w',gD F w w'->K w')(Y:∀w',gD F w w'->cZ (λ_=>True) w' lv es)(HD:kY K es qs)(U:wB t.bV=Z::rest)(J:wB p2=qs++rest)(HX:Gs p2)(LK:es.length<=100000)(G6:rest.length<=100000) :
   CR 171 [.pointer (some ⟨p,0,none⟩),lv] w (λv w'=>v=.tuple #[]/\mT F (ma K p room {t with bV:=p2}) w w'):=by
 have u:=St.begin hF;refine fb Tryz.func171 ?_;obtain⟨bp,nv,rg,Rl,ds,O,u⟩:=ma.open u;have M:=O.2.1;rw[U]at M;obtain⟨W,G,rfl,_,B⟩:=M.head;have DP:=B.1;refine bD ([]:List pg) u mi rfl rfl (dQ rfl) (λs5 _ u=>bJ u mi (Y _ u.aF) (by simp;omega) dy λs7 _ u=>aD (aA jF (aB rT u.p1.hb rfl (B2 mi u.p4.eC bL (by rw[o5];omega) λV E=>bJ u mi E (by simp;omega) dy λs14 _ u=>aD (aA jF (aR u.p1 rT (dQ rfl) u.dS.one λ_ u=>?_))))));have u:=u.p4.drop.p1.freeze.p3.p3.p3
 have e:([]++es++(W::G).drop (1:Int).toNat)=es++G:=rfl;rw[e]at u;have I:RTK K nv (es++G) {t with bV:=p2}:=⟨O.1,by rw[J];exact HD.append B,HX⟩;exact⟨rfl,(ma.shut (t:={t with bV:=p2}) I u).mut⟩
theorem CJ{b:Bk}{n:Nat}(h:b.len<=n):∀{e:Bool},(Ed e b).length<=n:=by
 intro e
 have:∀(b:Bk) (e:Bool),(Ed e b).length<=b.len:=by
  intro b
  induction b with
  | nil=>intro e;exact l2 _
  | cons x a c r _ _ u=>intro e;have:=u false;simp only[Ed,o5,Bk.len];omega
 grind
theorem C129(K:hM)(p:Nat)(room:Int)(t tR:jd)(n:Nat)(cs ls:List ByteArray)(F:Nat->Prop)(w:World)(hF:(ma K p room t).p w F)(O:∀w',gD F w w'->K w')(iv:yx cs ls t)(hto:BQ t)(hg:tm n t=some tR) :
   CR 129 [.pointer (some ⟨p,0,none⟩)] w (λv w'=>v=.tuple #[]/\mT F (ma K p room tR) w w'):=by
 have u:=St.begin hF;refine afA _ _ _ ?_;unfold S129;refine⟨λmm w'=>∃B:jd,tm mm B=some tR/\yx cs ls B/\BQ B/\St w F [ma K p room B] w',⟨n,t,hg,iv,hto,u⟩,?_⟩;rintro mm w1 ⟨B,uZ,xI,amh,u⟩ _;obtain⟨k,rfl⟩:=Ii uZ;have Ag:=xI.cl;have Wk:=xI.nb;have G6:=xI.rl;have hfc:=Gt B.bV;obtain⟨bp,nv,rg,Rl,ds,E,u⟩:=ma.open u;have DP:=E.2.1.1;refine aD (aA jF (aB rT u.hb rfl (aI mi u.p3.eC (cL (aC (λc0=>?_) λc0=>?_)))));rotate_left
 .have er:mG B.bV=none:=by
   cases h:mG B.bV with
   | none=>rfl
   | some q=>obtain⟨x,a,b⟩:=q;obtain⟨e,h2⟩:=vX h;rw[h2,o5]at DP;omega
  rw[o8 uZ (ZW er)];exact⟨rfl,(ma.shut E u).mut⟩
 obtain⟨x,a,b,zW⟩:∃x a b,mG B.bV=some (x,a,b):=by
  cases h:mG B.bV with
  | none=>have h2:=Cz xI.p h;have h3:(wB B.bV).length=0:=(by rw[h2];rfl);omega
  | some q=>exact⟨q.1,q.2.1,q.2.2,rfl⟩
 obtain⟨en,td⟩:=vX zW;have Rm:(wB (gB B.bV)).length<=100000:=by rw[td,o5]at hfc;omega
 have uR:=E.2.1;rw[td]at uR;obtain⟨d0,pE,rfl,yr,hds⟩:=uR.head;have hKn:K w1:=O _ u.aF;obtain⟨dx,I,U,dn⟩:=d0;obtain⟨J,G,rfl,_,_⟩:=iz (yr.x _ hKn);have zb:∀w,K w->n5 w (⟨x.kind,x.ey,x.name,J,G,x.n,x.body,x.ep,x.at_⟩:aZ) x:=yr.x
 have QC:∀w,K w->cZ (λ_=>True) w (jr J) x.e/\cZ (λ_=>True) w (jr G) x.f:=λw hw=>by
  obtain⟨_,_,h4,h5,h6⟩:=iz (zb w hw);cases h4
  exact⟨h5,h6⟩
 obtain⟨ra,QJ⟩:=yr.a;obtain⟨rb,Uz⟩:=yr.b;obtain⟨hx,sa,sb,aa,ab,KJ,hb2,V9,r,e,p',BL,sr,ar⟩:=xI.top zW;have ie:(Bk.cons x a b r).str:=xI.p.st _ (by rw[BL];exact o4 ..);have GZ:b.len<=40:=ie.2.2.2.1;have hxe:=hx.e;have hxn:=hx.nm;refine aD (aA jF (aB rT u.hb rfl (aK mi u.p3.eC bL rfl λq hq=>aE LC hq (aQ u Sb λb2 _ u=>aM (x:=(⟨⟨x.kind,x.ey,x.name,J,G,x.n,x.body,x.ep,x.at_⟩,I,U,dn⟩:pg)) u LC rfl rfl λ_ u=>aA nD (aA iV (aB (v:=jr J) jo u.hb rfl (aV Of u (C203 p B Rl nv rg bp _ x.e _ u.p1.hb (E.1 _ (O _ u.aF)) u.p3.dS (QC _ (O _ u.aF)).1 bL bL hxn.1 amh.r) λ_ he u=>aO rfl (aO rfl ?_))))))))
 refine aA nD (aA j1 (aB (v:=jr G) jo u.hb rfl (aV Of u (C203 p B Rl nv rg bp _ x.f _ u.p1.hb (E.1 _ (O _ u.aF)) u.p3.dS (QC _ (O _ u.aF)).2 bL bL hxn.2 amh.r) λw5 he u=>aO rfl (aO rfl ?_))));refine⟨λjv w'=>jv=.bool (!((eF B x.e).2&&(eF B x.f).2))/\w'=w5,?_,?_⟩
 .exact bN (aW (λc=>⟨vb (by rw[Bool.not_eq_true']at c;rw[c];rfl),rfl⟩) λc=>bN ⟨vb (by rw[Bool.not_eq_false']at c;rw[c];rfl),rfl⟩)
 rintro _ w6 ⟨rfl,rfl⟩ _;refine aW (λc1=>?_) (λc1=>?_)
 .refine aD (aA wX (aR u.p1 bO (dQ rfl) rfl λw7 u=>?_))
  have Ul:qH B=({B with fault:=2},false):=by
   cases h1:(eF B x.e).2 with
   | false=>exact ZX zW h1
   | true=>exact ZY zW (by rw[h1]at c1;simpa using c1)
  rw[o8 uZ Ul];have u:=u.p1.drop;exact⟨rfl,(ma.shut (t:={B with fault:=2}) E u).mut⟩
 have UP:(eF B x.e).2=true/\(eF B x.f).2=true:=by simpa using c1
 have hgk:=ZZ zW UP.1 UP.2
 have wx:∀(t2:jd) (w':World),qG B x a b (eF B x.e).1=(t2,true)->St w F [ma K p room t2,bX b2 (kp (⟨⟨x.kind,x.ey,x.name,J,G,x.n,x.body,x.ep,x.at_⟩,I,U,dn⟩:pg))] w'->∃m',m'<k+1/\∃B:jd,tm m' B=some tR/\yx cs ls B/\BQ B/\St w F [ma K p room B] w':=λt2 w' h3 h4=>by
  have h5:=hgk.trans h3;obtain⟨h6,h7,_⟩:=D3 xI;have h8:=amh.goS;rw[h5]at h6 h7 h8;exact⟨k,Nat.lt_succ_self k,t2,Ti uZ h5,h6,h8,h4.p1.drop⟩
 have Dt:=E.2.2.pop;refine aA nD (aA dN (aB (v:=ir x.kind) bO u.hb rfl (aG (aC (λk1=>?_) λk1=>?_))))
 .refine aA nD (aA iC (aB (v:=.string x.ey) gv u.hb rfl (have u:=ma.shut (t:=B) E u.p4.p4.p4.p4;aY ah0 u (H':=λ_=>ma K p room (o7 B x.ey (eF B x.e).1)) (Φ:=λ_ _=>True) (λW ek M=>?_) ?_)))
  .exact(C204 K p room B W x.ey _ _ ek (λw' hc=>O w' (M w' hc).aF) (hx.rg (.inl k1)) G6 Wk).mono λ_ _ r=>r.mono λ_ _ h=>⟨trivial,h.2⟩
  rintro _ w8 _ u;refine aY IJ u (H':=λ_=>ma K p room {o7 B x.ey (eF B x.e).1 with bV:=(gB B.bV)}) (Φ:=λ_ _=>True) (λW ek M=>?_) ?_
  .exact(C171 K p room (o7 B x.ey (eF B x.e).1) W (.slice none 0 0) [] [] _ _ (gB B.bV) _ ek (λw' hc=>O w' (M w' hc).aF) (λ_ _=>cZ.nil _ _) kY.nil td rfl Dt (l2 _) Rm).mono λ_ _ r=>r.mono λ_ _ h=>⟨trivial,h.2⟩
  rintro _ w9 _ u;exact wx _ _ (ZV k1) u
 refine aG (aC (λk2=>?_) λk2=>?_)
 .refine bW (aC (λc=>?_) λc=>?_)
  .refine aA LD (aB (v:=jr I) jG u.hb rfl (have u:=ma.shut (t:=B) E u.p4.p4.p4.p4;dR Oe (C128 K I _ a _ (λ_ e=>O _ (u.aF.then e)) sa QJ (by have:=Bk.cX a;omega)) ?_));rintro s20 w8 ⟨V,Z,cE⟩;have u:=u.made cE;have aAn:V.length<=40:=by have:=Z.1;have:=CJ (b:=a) (n:=40) bL (e:=false);omega
   have u:=u.p1;refine aY IJ u (H':=λ_=>ma K p room {B with bV:=(jm a false (gB B.bV))}) (Φ:=λ_ _=>True) (λW ek M=>?_) ?_
   .exact(C171 K p room B W s20 V (Ed false a) _ _ (jm a false (gB B.bV)) _ ek (λw' hc=>O w' (M w' hc).aF) (λw' hc=>(M w' hc).dS) Z td vm Dt.push bL Rm).mono λ_ _ r=>r.mono λ_ _ h=>⟨trivial,h.2⟩
   rintro _ w9 _ u;exact wx _ _ (by rw[J5 k2,ei c]) u.p1.drop
  refine aA Xh (aB (v:=jr U) jG u.hb rfl (have u:=ma.shut (t:=B) E u.p4.p4.p4.p4;dR Oe (C128 K U _ b _ (λ_ e=>O _ (u.aF.then e)) sb Uz (by have:=Bk.cX b;omega)) ?_));rintro s20 w8 ⟨V,Z,cE⟩;have u:=u.made cE;have aAn:V.length<=40:=by have:=Z.1;have:=CJ (b:=b) (n:=40) bL (e:=false);omega
  have u:=u.p1;refine aY IJ u (H':=λ_=>ma K p room {B with bV:=(jm b false (gB B.bV))}) (Φ:=λ_ _=>True) (λW ek M=>?_) ?_
  .exact(C171 K p room B W s20 V (Ed false b) _ _ (jm b false (gB B.bV)) _ ek (λw' hc=>O w' (M w' hc).aF) (λw' hc=>(M w' hc).dS) Z td vm Dt.push bL Rm).mono λ_ _ r=>r.mono λ_ _ h=>⟨trivial,h.2⟩
  rintro _ w9 _ u;exact wx _ _ (by rw[J5 k2,ej (A0.1 c)]) u.p1.drop
 refine aG (aC (λk3=>?_) λk3=>?_)
 .have hxn0:=hx.n k3
  have U4:b=.nil:=by
   have h1:b.len=0:=by have:=hx.el bL;omega
   cases b with
   | nil=>rfl
   | cons _ _ _ _=>simp[Bk.len]at h1
  refine bD ([]:List pg) u mi rfl rfl (dQ rfl) (λs76 _ u=>?_);refine⟨λlv7 w'=>∃(Y:List pg) (qs7:List Dq),kY K Y qs7/\Y.length<=41/\wB (mH x a B.bV)=qs7++wB (gB B.bV)/\St w F [bF lv7 Y,bX b2 (kp (⟨⟨x.kind,x.ey,x.name,J,G,x.n,x.body,x.ep,x.at_⟩,I,U,dn⟩:pg)),bX p (yD Rl nv rg bp B.fault),iR bp room B.buf,bF rg B.dO,eC λw=>cZ (λ_=>True) w Rl ((⟨⟨x.kind,x.ey,x.name,J,G,x.n,x.body,x.ep,x.at_⟩,I,U,dn⟩:pg)::pE)] w',?_,?_⟩
  .refine aA nD (aA jH (aB (v:=ir x.n) bO u.p1.hb rfl (cL (aC (λc=>?_) λc=>?_))));rotate_left
   .exact⟨[],[],kY.nil,l2 _,by unfold mH;rw[ej bL];rfl,u⟩
   refine aE (x:=(⟨⟨x.kind,x.ey,x.name,J,G,x.n,x.body,x.ep,x.at_⟩,I,U,dn⟩:pg)) LC u.p1.At (aQ u Sb λb8 w15 u=>aM (x:=(⟨⟨x.kind,x.ey,x.name,J,G,x.n,x.body,x.ep,x.at_⟩,I,U,dn⟩:pg)) u LC rfl rfl λw16 u=>aA nD (aA jH (aB (v:=ir x.n) bO u.p2.hb rfl (fc bL (aA nD (aA jH (aR u bO (dQ rfl) rfl λ_ u=>aA LF (aR u DH (dQ rfl) rfl λ_ u=>have u:=u.enc (cs':=kp (⟨⟨x.kind,x.ey,x.name,J,G,x.n-1,x.body,x.ep,x.at_⟩,I,U,true⟩:pg)) rfl;aA LD ?_))))))))
   refine aB (v:=jr I) jG u.p2.hb rfl (dR Oe (C128 K I _ a _ (λ_ e=>O _ (u.aF.then e)) sa QJ (by have:=Bk.cX a;omega)) ?_);rintro s92 _ ⟨aAp,atp,cE⟩;have u:=u.made cE;have s92l:aAp.length<=40:=by have:=atp.1;have:=CJ (b:=a) (n:=40) bL (e:=false);omega
   have aAq:=u.dS;refine bJ u.p2 mi aAq (by simp;omega) dy (λs93 _ u=>aE (x:=(⟨⟨x.kind,x.ey,x.name,J,G,x.n-1,x.body,x.ep,x.at_⟩,I,U,true⟩:pg)) LC u.p2.At (bD ([(⟨⟨x.kind,x.ey,x.name,J,G,x.n-1,x.body,x.ep,x.at_⟩,I,U,true⟩:pg)]:List pg) u mi rfl rfl (dQ rfl) λs96 _ u=>?_));have aAr:=u.dS;refine bJ u.p1 mi aAr (by simp;omega) dy (λs97 _ u=>have u:=u.p1.drop.p1.drop.p1.drop;⟨_,Ed false a++[({x with n:=x.n-1},a,.nil,true)],(kY.append (kY.append kY.nil atp) (kY.cons (d:=(⟨⟨x.kind,x.ey,x.name,J,G,x.n-1,x.body,x.ep,x.at_⟩,I,U,true⟩:pg)) (q:=({x with n:=x.n-1},a,.nil,true)) ⟨λw hw=>?_,⟨ra,QJ⟩,⟨rb,by rw[<- U4];exact Uz⟩,rfl⟩ kY.nil)),by simp;omega,?_,u⟩)
   .obtain⟨_,_,h4,h5,h6⟩:=zb w hw;cases h4
    exact⟨J,G,rfl,h5,h6⟩
   rw[VO bL];simp
  rintro lv7 _ ⟨Y,qs7,h71,h72,h73,u⟩ _;have u:=((ma.shut (t:=B) E u.p5.p5.p5.p5).p1).p1;refine aY IJ u (H':=λ_=>ma K p room {B with bV:=(mH x a B.bV)}) (Φ:=λ_ _=>True) (λW ek M=>?_) ?_
  .exact(C171 K p room B W lv7 Y qs7 _ _ (mH x a B.bV) _ ek (λw' hc=>O w' (M w' hc).aF) (λw' hc=>(M w' hc).dS) h71 td h73 E.2.2.round bL Rm).mono λ_ _ r=>r.mono λ_ _ h=>⟨trivial,h.2⟩
  rintro _ _ _ u;exact wx _ _ (Tl k3) u.p1.drop
 refine aG (aC (λk4=>?_) λk4=>?_)
 .obtain⟨D,hD⟩:∃D,D=(⟨⟨x.kind,x.ey,x.name,J,G,x.n,x.body,x.ep,x.at_⟩,I,U,dn⟩:pg)::pE:=⟨_,rfl⟩;have hDK:kY K D (wB B.bV):=by rw[hD];exact E.2.1
  have hDl:D.length=(wB B.bV).length:=hDK.1;rw[<- hD]at u;refine⟨λmm y w'=>∃j:Nat,y=ir (j:Int)/\mm=D.length-j/\j<=D.length/\(∀(i:Nat) (q:Dq),i<j->(wB B.bV)[i]?=some q->q.2.2.2=false)/\w'=w6,⟨_,0,rfl,rfl,l2 _,λ_ _ h=>absurd h (Nat.not_lt_zero _),rfl⟩,?_⟩;rintro mm _ w7 ⟨j,rfl,rfl,hj,hjn,rfl⟩ _;refine⟨λjv w'=>jv=.bool (match D[j]? with|some d=>!d.in_|none=>false)/\w'=w7,?_,?_⟩
  .refine aD (aA jF (aB rT u.p1.hb rfl (aI mi u.p4.eC (aN (aC (λc=>?_) λc=>⟨vb (by rw[n0 bL]),rfl⟩)))));obtain⟨d,hd⟩:=gx D (i:=((j:Nat):Int).toNat) bL;refine aD (aA jF (aB rT u.p1.hb rfl (aK mi u.p4.eC bL hd λq hq=>bT d.in_ LF hq rfl rfl λq2 KL=>aE DH KL (bN ?_))));rw[tx]at hd;exact⟨vb (by rw[hd]),rfl⟩
  rintro _ w8 ⟨rfl,rfl⟩ _;refine aW (λc=>?_) (λc=>?_)
  .have CO:j<D.length:=by
    rcases Pk j D.length with h|h
    .exact h
    .rw[n0 h]at c;cases c
   refine aJ bL ?_;refine⟨_,bL,j+1,rfl,rfl,bL,λi q hi hq=>?_,rfl⟩
   by_cases e:i=j
   .subst e;rw[lU CO]at c;have:=(hDK.2 i _ q (lU CO) hq).e;rw[<- this];simpa using c
   exact hjn i q bL hq
  have hdi:uu (wB B.bV)=(wB B.bV).drop (j+1):=II _ j hjn (λq hq=>by
   have CO:j<D.length:=by have:=(kE.1 hq).1;omega
   rw[lU CO]at c;have:=(hDK.2 j _ q (lU CO) hq).e;rw[<- this];simpa using c) bL
  have u:=u.drew;refine aD (aA jF (aB rT u.p1.hb rfl (aJ bL (aD (aA jF (aB rT u.p1.hb rfl (aI mi u.p4.eC (rj (zC mi u.p4.eC bL bL λaAs atq=>?_)))))))));have atr:=atq _ u.p4.eC;refine aD (aA jF (aR u.p1 rT (dQ rfl) atr.one λ_ u=>?_));have u:=u.p4.dH (Ψ:=λw=>cZ (λ_=>True) w aAs (D.drop (min ((j:Int)+1) (D.length:Int)).toNat)) (λw h=>atq w h)
  have ed:D.drop (min ((j:Int)+1) (D.length:Int)).toNat=D.drop (j+1):=by
   rcases Pk j D.length with h|h
   .congr 1;omega
   .rw[u6 bL,u6 bL]
  rw[ed]at u;have hk9:RTK K nv (D.drop (j+1)) {B with bV:=ku B.bV}:=⟨E.1,by show kY K _ (wB (ku B.bV));rw[IH E.2.2,hdi];exact hDK.drop _,E.2.2.leave⟩;have u:=((ma.shut (t:={B with bV:=ku B.bV}) hk9 u.p4.p4.p3).p1).p1;exact wx _ _ (Tm k4) u
 refine aG (aC (λk5=>?_) λk5=>?_)
 .refine aG (aC (λc=>?_) λc=>?_)
  .refine aD (aA wX (aR u.p1 bO (dQ rfl) rfl λw15 u=>?_));have u:=ma.shut (t:={B with fault:=1}) E u.p4.p4.p4.p3;rw[o8 uZ (hgk.trans (Nm k5 c))];have u:=u.p1.p1;exact⟨rfl,u.p1.drop.mut⟩
  have u:=u.p4;have u:=((ma.shut (t:=B) E u.p4.p4.p4).p1).p1;refine aY IJ u (H':=λ_=>ma K p room {B with bV:=(gB B.bV)}) (Φ:=λ_ _=>True) (λW ek M=>?_) ?_
  .exact(C171 K p room B W (.slice none 0 0) [] [] _ _ (gB B.bV) _ ek (λw' hc=>O w' (M w' hc).aF) (λ_ _=>cZ.nil _ _) kY.nil td rfl Dt (l2 _) Rm).mono λ_ _ r=>r.mono λ_ _ h=>⟨trivial,h.2⟩
  rintro _ w16 _ u;exact wx _ _ (Nn k5 c) u
 rw[o8 uZ (hgk.trans (Tn k1 k2 k3 k4 k5))];have u:=((ma.shut (t:=B) E u.p4.p4.p4.p4).p1).p1;exact⟨rfl,u.p1.drop.mut⟩
theorem C80(K:hM)(p:Nat)(m:gC)(q:Nat)(t:jd)(w:World)(hm:Has (mM K p m) w)(hw:∀w',Ext w w'->K w')(O:lX m)(hh:Has (ma K q m.room t) w)(CA:t∈m.l):CR 80 [.pointer (some ⟨p,0,none⟩),.pointer (some ⟨q,0,none⟩)] w (λv w'=>v=.bool (sQ m t)/\Ext w w'):=by
 obtain⟨a,G⟩:=mM.rd hm;have cm6:=G.b.cell (o:=6) rfl;have B:=G.b.cell (o:=9) rfl;have iv:=O.th t CA;have GZ:=iv.bl;have ae0:(cH m.p).length<=500:=by unfold cH;rw[mW];exact O.pz.eE
 obtain⟨bp,nv,rg,lv,ds,hk,V,hB,zY,UO⟩:=ma.rd hh;obtain⟨bsv,ye,te,M⟩:=hB;have OF:=V.cell (o:=0) rfl;have Wp:=V.cell (o:=3) rfl;have W:=V.cell (o:=4) rfl;have DP:=hk.2.1.1;have u:=St.start w;refine pj Tryz.func80 (pl:=P80) ?_;refine aD (aA jF (bE rT (OF.ext u.aF) (aI mi (UO.ext u.aF) (aG (aC (λc0=>?_) λc0=>?_)))))
 .have er:mG t.bV=none:=by
   cases h:mG t.bV with
   | none=>rfl
   | some q=>obtain⟨x,a,b⟩:=q;obtain⟨e,h2⟩:=vX h;rw[h2,o5]at DP;omega
  exact⟨vb (by unfold sQ;rw[er]),u.aF⟩
 obtain⟨x,xa,xb,U⟩:∃x a b,mG t.bV=some (x,a,b):=by
  cases h:mG t.bV with
  | none=>have h2:=Cz iv.p h;have h3:(wB t.bV).length=0:=(by rw[h2];rfl);omega
  | some q=>exact⟨q.1,q.2.1,q.2.2,rfl⟩
 obtain⟨en,td⟩:=vX U;have uR:=hk.2.1;rw[td]at uR;obtain⟨d0,pE,rfl,yr,hds⟩:=uR.head;obtain⟨dx,db,de,dn⟩:=d0;obtain⟨ge,gf,rfl,_,_⟩:=iz (yr.x _ (hw _ u.aF));have hx:=(iv.top U).1;have E:sQ m t=(if t.fault≠0\/x.kind=2 then true else if x.kind=3\/x.kind=5\/x.kind=6\/x.kind=7 then !decide (m.room<=t.buf.length)else if x.kind=9/\m.eI.getD (cU (cH m.p) x.name).toNat 0≠-1 then false else decide (t.buf.length=0)):=by unfold sQ;rw[U]
 refine aD (aA jF (bE rT (OF.ext u.aF) (aK mi (UO.ext u.aF) bL rfl λq1 h1=>AI (⟨x.kind,x.ey,x.name,ge,gf,x.n,x.body,x.ep,x.at_⟩:aZ) nD h1 rfl λq2 h2=>aE eD h2 (aQ u iN λb5 _ u=>aM (x:=(⟨x.kind,x.ey,x.name,ge,gf,x.n,x.body,x.ep,x.at_⟩:aZ)) u eD rfl rfl λw2 u=>?_))));refine⟨λI w'=>I=.bool (decide (t.fault≠0\/x.kind=2))/\w'=w2,?_,?_⟩
 .exact aD (aA wX (bE bO (W.ext u.aF) (bW (aC (λ_=>⟨vb (ew bL).symm,rfl⟩) λ_=>aA dN (aB (v:=ir x.kind) bO u.hb rfl (aG ⟨vb (fN.2 bL),rfl⟩))))))
 rintro _ w4 ⟨rfl,rfl⟩ _;refine aC (λc1=>?_) (λc1=>?_)
 .exact⟨vb (by rw[E,ej c1]),u.drop.aF⟩
 rw[ei c1]at E;refine⟨λI w'=>I=.bool (decide (x.kind=3\/x.kind=5\/x.kind=6\/x.kind=7))/\w'=w4,?_,?_⟩
 .refine aA dN (aB (v:=ir x.kind) bO u.hb rfl ?_);exact aG (aC (λ_=>⟨vb (ew bL).symm,rfl⟩) λ_=>aA dN (aB (v:=ir x.kind) bO u.hb rfl (aG (aC (λ_=>⟨vb (ew bL).symm,rfl⟩) λ_=>aA dN (aB (v:=ir x.kind) bO u.hb rfl (aG (aC (λ_=>⟨vb (ew bL).symm,rfl⟩) λ_=>aA dN (aB (v:=ir x.kind) bO u.hb rfl (aG ⟨vb (fN.2 bL),rfl⟩)))))))))
 rintro _ _ ⟨rfl,rfl⟩ _;refine aC (λZ=>?_) (λZ=>?_)
 .have u:=u.drew;refine aD (aA nz (bE yQ (Wp.ext u.aF) (aD (aA gW (bE iK (te.ext u.aF) (aI fT (M.ext u.aF) (aD (aA R6 (bE bO (cm6.ext u.aF) (aN ?_))))))))));refine⟨vb ?_,u.drop.aF⟩;rw[E,ej Z,<- decide_not];exact fN.2 bL
 rw[ei Z]at E;refine⟨λI w'=>I=.bool (sQ m t)/\Ext w w',?_,?_⟩;rotate_left
 .rintro _ _ h _;exact h
 have u:=u.drew;refine aD (aA nz (bE yQ (Wp.ext u.aF) (aD (aA gW (bE iK (te.ext u.aF) (aI fT (M.ext u.aF) (aG (aC (λc3=>?_) λc3=>?_))))))));rotate_left
 .refine⟨vb ?_,u.drop.aF⟩;rw[E];split
  .rfl
  exact(ez bL).symm
 refine aA dN (aB (v:=ir x.kind) bO u.hb rfl (bW (aC (λY=>?_) λY=>?_)))
 .exact⟨vb (by rw[E,ei (λh=>Y h.1),ew bL]),u.drop.aF⟩
 have J:x.kind=9:=A0.1 Y;obtain⟨j,hj,Cm,_⟩:=lQ (dM.1 (hx.lk (.inl J)));have CO:=(kE.1 Cm).1;have how:=O.ow;refine aD (aA vv (bE dX (B.ext u.aF) (aD (aA pZ (rk a.pv fp (pk.ext G.b u.aF) rfl (aA fY (aB (v:=.string x.name) gv u.hb rfl (dB RO u (C125 m.p a.pv _ (G.uk.pr _ (hw _ u.aF)) O.pz) λx82 _ cE u=>?_))))))));refine⟨aH dX (B.ext u.aF),?_⟩;refine⟨aH gv (u.p1.hb.cell (v:=.string x.name) rfl),?_⟩;refine aV rK u (C123 _ (cH m.p) x.name _ u.dS bL) (λ_ he u=>?_)
 refine⟨aH dX (B.ext u.aF),?_⟩;obtain⟨ov,Tr⟩:=gx m.eI (i:=(cU (cH m.p) x.name).toNat) bL;refine aK cQ (G.ow.ext u.aF) bL Tr (λq71 h71=>aE bO h71 (aG ?_));refine⟨vb ?_,u.drop.drop.aF⟩;rw[E,oi,Tr];show _=if x.kind=9/\ov≠-1 then false else decide (t.buf.length=0)
 by_cases e:ov = -1
 .rw[ei (λh=>h.2 e),ew e,ew bL]
 rw[ej ⟨J,e⟩,ez e]
def C22(K:hM)(p:Nat)(m:gC)(w:World)(Y:Has (mM K p m) w)(hw:∀w',Ext w w'->K w')(J:lX m):CR 22 [.pointer (some ⟨p,0,none⟩)] w (λv w'=>lf (fy v (eW m)) w w'):=by
 obtain⟨a,B⟩:=mM.rd Y;have U:=B.b.cell (o:=10) rfl;have wH:=B.b.cell (o:=11) rfl;have hlen:=B.len;have Hu:=J.tl;have u:=St.start w;refine fb Tryz.func22 ?_;refine ot (α:=cS) u kB (λs7 I u=>?_);refine⟨λE o y I=>∃k:Nat,y=ir (k:Int)/\E=a.ps.length-k/\k<=a.ps.length/\(m.fault≠0->k=0)/\St w aX [fy o (g8 m k)] I,⟨_,0,rfl,rfl,l2 _,λ_=>rfl,u⟩,?_⟩;rintro E o _ w2 ⟨k,rfl,rfl,RK,W,u⟩ _;refine⟨λjv w'=>jv=.bool (decide (k<a.ps.length/\m.fault=0))/\w'=w2,?_,?_⟩
 .exact aD (aA lY (bE Ay (U.ext u.aF) (aI B4 (B.ll.ext u.aF) (aN (aC (λ_=>aD (aA vw (bE bO (wH.ext u.aF) (aG ⟨vb (fN.2 bL),rfl⟩)))) λ_=>⟨vb (ez bL).symm,rfl⟩)))))
 rintro _ _ ⟨rfl,rfl⟩ _;refine aC (λc1=>?_) (λc1=>?_);rotate_left
 .have QD:eW m=g8 m k:=by
   unfold eW
   by_cases Z:m.fault=0
   .rw[ei bL,show k=m.l.length from bL]
   .rw[ej Z,W Z];rfl
  rw[QD];exact u.fresh
 obtain⟨c2,c3⟩:=c1;obtain⟨t,ht⟩:=gx m.l (i:=k) bL;obtain⟨e,O⟩:=gx a.ps (i:=((k:Nat):Int).toNat) bL;have CA:=kO ht;have We:=B.th k e t (by rw[<- tx k];exact O) ht;have GZ:=(J.th t CA).bl;have ng:=rA J k;have aAu:k*1001<=1001000:=D6 1001 (show k<=1000 by omega);obtain⟨bp,nv,rg,lv,ds,hk,mX,hB,zY,UO⟩:=ma.rd We;have Wp:=mX.cell (o:=3) rfl;refine⟨λo w'=>St w aX [fy o (g8 m k++(if sQ m t=true then [(⟨1,k,0,[]⟩:cS)]else []))] w',?_,?_⟩
 .refine aD (aA lY (bE Ay (U.ext u.aF) (aK B4 (B.ll.ext u.aF) bL O λq G=>aE CU G (aV az4 u (C80 K p m e.b t _ (Y.ext u.aF) (λ_ e=>hw _ (u.aF.then e)) J (We.ext u.aF) CA) λ_ HX u=>aW (λM=>?_) λM=>?_))))
  .refine pop (Ij 1 (k:Int)) (have u:=u.gE (Φ:=λw=>n5 w (⟨1,(k:Int),0,cG⟩:dC) (⟨1,(k:Int),0,[]⟩:cS)) (λw=>⟨cG,rfl,DL.nil w⟩);ga (x:=(⟨1,(k:Int),0,[]⟩:cS)) (s:=(⟨1,(k:Int),0,cG⟩:dC)) u kB dy λs45 _ u=>fU u.p1 kB (by simp;omega) dy λs46 _ u=>?_);rw[M,ej rfl];exact u
  rw[M,ei dy,qb];exact u
 rintro o2 _ u _;refine aD (aA lY (bE Ay (U.ext u.aF) (aK B4 (B.ll.ext u.aF) bL O λq G=>aE CU G (aD (aA nz (bE yQ (Wp.ext u.aF) (dB avP u (C81 bp _ _ _ (hB.ext u.aF) bL) λV _ cE u=>?_)))))));have Ag:=zX t.buf;refine⟨λE o y I=>∃j:Nat,y=ir (j:Int)/\E=(py t.buf).length-j/\j<=(py t.buf).length/\St w aX [fy o (g8 m k++(if sQ m t=true then [(⟨1,k,0,[]⟩:cS)]else [])++((py t.buf).take j).map λi=>(⟨2,k,i,[]⟩:cS)),bF V (py t.buf)] I,⟨_,0,rfl,rfl,l2 _,by rw[List.take_zero,List.map_nil,qb];exact u.p1⟩,?_⟩
 rintro E o3 _ _ ⟨j,rfl,rfl,hj,u⟩ _;refine aI cQ u.p1.dS (aN (aC (λc5=>?_) λc5=>?_))
 .obtain⟨y,hy⟩:=gx (py t.buf) (i:=((j:Nat):Int).toNat) bL;exact aK cQ u.p1.dS bL hy (λ_ G=>aE bO G (pop (C9 2 (k:Int) y) (have u:=u.gE (Φ:=λw=>n5 w (⟨2,(k:Int),y,cG⟩:dC) (⟨2,(k:Int),y,[]⟩:cS)) (λw=>⟨cG,rfl,DL.nil w⟩);ga (x:=(⟨2,(k:Int),y,[]⟩:cS)) (s:=(⟨2,(k:Int),y,cG⟩:dC)) u kB dy λ_ _ u=>fU u.p1 kB (by simp only[l0,mW,l9,nh];split<;>simp<;>omega) dy λ_ _ u=>aJ bL ⟨_,bL,j+1,rfl,rfl,bL,by rw[<- fV (k:=j) hy,<- n4];exact u⟩)))
 rw[la bL]at u;refine aJ bL ?_;refine⟨_,bL,k+1,rfl,rfl,bL,λh=>absurd c3 h,?_⟩;rw[uj ht];unfold rz;rw[<- n4];exact u.p1.drop
def C18(K:hM)(p:Nat)(m:gC)(w:World)(hm:Has (mM K p m) w)(hw:∀w',Ext w w'->K w')(gJ:lX m)(mO:MB m.mem 1000000)(U:(dA (ry m.mem)).length<=1000000000):CR 18 [.pointer (some ⟨p,0,none⟩)] w (λv w'=>lf (fy v (iG m)) w w'):=by
 obtain⟨a,G⟩:=mM.rd hm;have O:=G.b.cell (o:=8) rfl;have wH:=G.b.cell (o:=11) rfl;have Ag:(tP m.mem).length<=1000000000:=vJ (Bl _ _) U;have u:=St.start w;refine fb Tryz.func18 ?_;refine bD ([]:List dC) u kB rfl rfl (dQ rfl) (λs6 w1 u=>aD (aA oJ (bE Ax (O.ext u.aF) (dB avI u (C78 a.q m.mem _ (G.mem.ext u.aF) gJ.mem mO U) λM _ cE u=>?_))));obtain⟨B,u⟩:=u.v8;have Pl:=u.p1.eC.1;refine⟨λV o y w1=>∃k:Nat,y=ir (k:Int)/\V=B.length-k/\k<=B.length/\(m.fault≠0->k=0)/\St w aX [bF o ((B.take k).map pk3),bF M B,eC (gd B (tP m.mem))] w1,⟨_,0,rfl,rfl,l2 _,λ_=>rfl,u.p2⟩,?_⟩
 rintro V o _ w3 ⟨k,rfl,rfl,hk,J,u⟩ _;refine⟨λjv w'=>jv=.bool (decide (k<B.length/\m.fault=0))/\w'=w3,?_,?_⟩
 .exact aI ld u.p1.dS (aN (aC (λ_=>aD (aA vw (bE bO (wH.ext u.aF) (aG ⟨vb (fN.2 bL),rfl⟩)))) λ_=>⟨vb (ez bL).symm,rfl⟩))
 rintro _ _ ⟨rfl,rfl⟩ _;refine aC (λZ=>?_) (λZ=>?_)
 .obtain⟨e,Y⟩:=gx B (i:=((k:Nat):Int).toNat) bL;refine aK ld u.p1.dS bL Y (λq hq=>aE dX hq (pop (Ik 3 e.a e.n e.cap) (bD ([pk3 e]:List dC) u kB rfl rfl (dQ rfl) λs24 _ u=>?_)));have E:=u.dS;exact bJ u.p1 kB E (by rw[mW,l9,nh];omega) dy (λ_ _ u=>aJ bL ⟨_,bL,k+1,rfl,rfl,bL,λh=>absurd Z.2 h,by rw[<- fV (k:=k) Y];exact u.p1.drop⟩)
 by_cases W:m.fault=0
 .have I:iG m=(tP m.mem).map λc=>(⟨3,0,0,c⟩:cS):=by unfold iG;rw[ei bL]
  rw[I];rw[la bL]at u;exact(St.xg (u.p1.drop.p1.dH λ_ h=>Tg h).p1).fresh
 have I:iG m=[]:=by unfold iG;rw[ej W]
 rw[I];rw[J W]at u;exact(St.xg (u.p1.drop.p1.dH (Ψ:=gd ([]:List dC) ([]:List cS)) λ_ _=>gd.nil).p1).fresh
def C168(K:hM)(p:Nat)(m:gC)(i kind:Int)(F:Nat->Prop)(w:World)(E:(mM K p m).p w F):CR 168 [.pointer (some ⟨p,0,none⟩),ir i,ir kind] w (λv w'=>v=jr (⟨16,i,kind,0,0⟩:cA)/\mT F (mM K p {m with fault:=kind,iY:=i}) w w'):=by
 have u:=St.begin E;refine fb Tryz.func168 ?_;obtain⟨a,B,u⟩:=mM.open u;exact aQ u kf (λ_ _ u=>have u:=u.enc (cs':=kp (⟨0,0,0,0,0⟩:cA)) rfl;aD (aA vw (aR u.p1 bO (dQ rfl) rfl λ_ u=>aD (aA R7 (aR u bO (dQ rfl) rfl λ_ u=>pop (tQ 16 i kind) (aM (x:=(⟨16,i,kind,0,0⟩:cA)) u.p1 eQ rfl rfl λ_ u=>aE eQ u.At ⟨rfl,(mM.shut (m:={m with fault:=kind,iY:=i}) ⟨B.pr,B.rc⟩ u.drop).mut⟩))))))
def Dc(K:hM)(p:Nat)(m:gC)(i:Nat)(tp:Ptr):HP:=oO λa:RA=>fact (RSK K a m/\a.ps[i]?=some tp/\a.ps.length=m.l.length/\i<m.l.length) (sep (bX p (pf a m)) (sep (gq a.q m.mem) (sep (bF a.ow m.eI) (sep (bF a.ll a.ps) (nJ (Om K m.room) a.ps m.l i)))))
section
variable {w w' w0:World}{A:Nat->Prop}{R:List HP}{p:Nat}{K:hM}{m:gC}{a:RA}{i:Nat}{tp:Ptr}{t:jd}
theorem Dc.open(u:St w0 A (Dc K p m i tp::R) w):∃a,(RSK K a m/\a.ps[i]?=some tp/\a.ps.length=m.l.length/\i<m.l.length)/\St w0 A (bX p (pf a m)::gq a.q m.mem::bF a.ow m.eI::bF a.ll a.ps::nJ (Om K m.room) a.ps m.l i::R) w:=by
 obtain⟨a,u⟩:=u.dK;obtain⟨B,u⟩:=u.j4;exact⟨a,B,pS u⟩
theorem Dc.shut(B:RSK K a m/\a.ps[i]?=some tp/\a.ps.length=m.l.length/\i<m.l.length)(u:St w0 A (bX p (pf a m)::gq a.q m.mem::bF a.ow m.eI::bF a.ll a.ps::nJ (Om K m.room) a.ps m.l i::R) w):St w0 A (Dc K p m i tp::R) w:=
 St.dT a (St.l4 B (pU u))
theorem abw{ps:List Ptr}(B:St w0 A (fR (Om K m.room) ps m.l::R) w)(u:ps[i]?=some tp)(ht:m.l[i]?=some t):St w0 A (ma K tp.b m.room t::nJ (Om K m.room) ps m.l i::R) w:=B.focus u ht
theorem xZ(u:St w0 A (ma K tp.b m.room t::Dc K p m i tp::R) w):St w0 A (mM K p {m with l:=m.l.set i t}::R) w:=by
 obtain⟨a,⟨B,G,E,hi⟩,u⟩:=Dc.open u.p1
 have h1:St w0 A (Om K m.room tp t::nJ (Om K m.room) a.ps m.l i::_) w:=u.p4.p5
 have h2:=h1.DK hi E G
 have h3:=h2.p4.p4.p4.p4
 exact mM.shut (m:={m with l:=m.l.set i t}) ⟨B.pr,B.rc⟩ h3
end
section
variable {m:gC}{t:jd}{i:Int}{x:bM}
theorem abx(h:x.kind=2):ea m t i x=(m,o7 t x.ey (g9 m t (dP m x)),xL m t x):=by unfold ea;grind
theorem aby(h:x.kind=3):ea m t i x=(m,pW m t ⟨3,fx m x,dP m x,(eF t x.e).1⟩,⟨3,0,dP m x,(eF t x.e).1,0⟩):=by unfold ea;grind
theorem abz(h:x.kind=5):ea m t i x=(m,pW m t ⟨5,fx m x,0,0⟩,⟨4,0,fx m x,0,0⟩):=by grind[ea,pW,fx]
theorem abA(h:x.kind=6):ea m t i x=(m,pW m t ⟨6,fx m x,0,0⟩,⟨5,0,fx m x,0,0⟩):=by grind[ea,pW,fx]
theorem abB(h:x.kind=7):ea m t i x=(m,pW m t ⟨7,0,0,0⟩,⟨6,0,0,0,0⟩):=by grind[ea,pW]
theorem ami(h:x.kind=8):ea m t i x=(m,t,⟨7,0,0,0,0⟩):=by grind[ea]
theorem amj(h:x.kind=4):ea m t i x=(rB m t x,o7 t x.ey (jy m.mem (dP m x)),tS m t x):=by unfold ea;grind
theorem amk(h:x.kind=9):ea m t i x=(pA m x i,t,⟨10,0,fD m x,0,0⟩):=by grind[ea,pA,fD]
theorem afT(h:x.kind=10):ea m t i x=(pA m x (-1),t,⟨11,0,fD m x,0,0⟩):=by grind[ea,pA,fD]
theorem abC{a b:Bk}(h:sQ m t=true)(u:t.fault=0)(ht:mG t.bV=some (x,a,b))(B:x.kind=4):t.buf=[]:=by
 unfold sQ at h
 grind
theorem abD{u:Mem}{c e:Int}(B:0<=c)(h:u.l[c.toNat]?=some e):jy u c=e:=by
 have:=(kE.1 h).1
 unfold jy
 rw[ej (by unfold G4;rw[decide_eq_true_eq];omega),oi,h];rfl
end
def C170(K:hM)(sv:Value)(m:gC)(i:Int)(tp:Ptr)(t:jd)(x:bM)(xv:aZ)(F:Nat->Prop)(w:World)(hF:(ma K tp.b m.room t).p w F)(O:∀w',gD F w w'->K w')(M:yx (cT m.p) (cH m.p) t)(W:BQ t)(zb:∀w,K w->n5 w xv x)(hx:Vc (cT m.p) (cH m.p) t.names x)(hkd:x.kind=3\/x.kind=5\/x.kind=6\/x.kind=7) :
   CR 170 [sv,.pointer (some ⟨tp.b,0,none⟩),jr xv,ir (dP m x),ir (fx m x)] w (λv w'=>v=jr (ea m t i x).2.2/\mT F (ma K tp.b m.room (ea m t i x).2.1) w w'):=by
 have u:=St.begin hF;obtain⟨U,Z,rfl,_,_⟩:=iz (zb _ (O _ u.aF))
 have QC:∀w,K w->cZ (λ_=>True) w (jr U) x.e/\cZ (λ_=>True) w (jr Z) x.f:=λw hw=>by
  obtain⟨_,_,h4,h5,h6⟩:=iz (zb w hw);cases h4
  exact⟨h5,h6⟩
 have hxe:=hx.e;have J:=hx.nm;have Wk:=M.nb;have G6:=M.rl;have GZ:=M.bl;refine fb Tryz.func170 ?_;refine cP (x:=(⟨x.kind,x.ey,x.name,U,Z,x.n,x.body,x.ep,x.at_⟩:aZ)) u (λb7 _ u=>aQ u kf λb10 _ u=>?_);have u:=(u.enc (cs':=kp (⟨0,0,0,0,0⟩:cA)) rfl).p2;obtain⟨B,nv,rg,Rl,ds,I,u⟩:=ma.open u;refine aA iV (aB (v:=jr U) jo u.p5.hb rfl (aV Of u (C203 tp.b t Rl nv rg B _ x.e _ u.hb (I.1 _ (O _ u.aF)) u.p2.dS (QC _ (O _ u.aF)).1 bL bL J.1 W.r) λ_ he u=>aO rfl (aO rfl (aA dN (aB (v:=ir x.kind) bO u.p5.hb rfl (aG (aC (λY=>?_) λY=>?_)))))))
 .refine aD (aA nz (aB yQ u.hb rfl (pop (xJ 3 (fx m x) (dP m x) (eF t x.e).1) (have u:=u.p1;aY RV u (H':=λ_=>iR B m.room (sI m.room t.buf (⟨3,fx m x,dP m x,(eF t x.e).1⟩:bH))) (Φ:=λ_ _=>True) (λE G V=>?_) ?_))))
  .exact(C230 B m.room t.buf (⟨3,fx m x,dP m x,(eF t x.e).1⟩:bH) E _ G bL).mono λ_ _ r=>r.mono λ_ _ h=>⟨trivial,h.2⟩
  rintro _ _ _ u;refine pop (mI 3 (dP m x) (eF t x.e).1) (aM (x:=(⟨3,0,dP m x,(eF t x.e).1,0⟩:cA)) u.p4 eQ rfl rfl λw30' u=>aE (x:=(⟨3,0,dP m x,(eF t x.e).1,0⟩:cA)) eQ u.At ?_);have u:=ma.shut (t:=pW m t (⟨3,fx m x,dP m x,(eF t x.e).1⟩:bH)) I u.drop.p4.drop.p3.p3.p2.p3;rw[aby Y];exact⟨rfl,u.mut⟩
 refine aG (aC (λk5=>?_) λk5=>?_)
 .refine aD (aA nz (aB yQ u.hb rfl (pop (vO 5 (fx m x)) (have u:=u.p1;aY RV u (H':=λ_=>iR B m.room (sI m.room t.buf (⟨5,fx m x,0,0⟩:bH))) (Φ:=λ_ _=>True) (λE G V=>?_) ?_))))
  .exact(C230 B m.room t.buf (⟨5,fx m x,0,0⟩:bH) E _ G bL).mono λ_ _ r=>r.mono λ_ _ h=>⟨trivial,h.2⟩
  rintro _ _ _ u;refine pop (mY 4 (fx m x)) (aM (x:=(⟨4,0,fx m x,0,0⟩:cA)) u.p4 eQ rfl rfl λw50' u=>aE (x:=(⟨4,0,fx m x,0,0⟩:cA)) eQ u.At ?_);have u:=ma.shut (t:=pW m t (⟨5,fx m x,0,0⟩:bH)) I u.drop.p4.drop.p3.p3.p2.p3;rw[abz k5];exact⟨rfl,u.mut⟩
 refine aG (aC (λk6=>?_) λk6=>?_)
 .refine aD (aA nz (aB yQ u.hb rfl (pop (vO 6 (fx m x)) (have u:=u.p1;aY RV u (H':=λ_=>iR B m.room (sI m.room t.buf (⟨6,fx m x,0,0⟩:bH))) (Φ:=λ_ _=>True) (λE G V=>?_) ?_))))
  .exact(C230 B m.room t.buf (⟨6,fx m x,0,0⟩:bH) E _ G bL).mono λ_ _ r=>r.mono λ_ _ h=>⟨trivial,h.2⟩
  rintro _ _ _ u;refine pop (mY 5 (fx m x)) (aM (x:=(⟨5,0,fx m x,0,0⟩:cA)) u.p4 eQ rfl rfl λw60' u=>aE (x:=(⟨5,0,fx m x,0,0⟩:cA)) eQ u.At ?_);have u:=ma.shut (t:=pW m t (⟨6,fx m x,0,0⟩:bH)) I u.drop.p4.drop.p3.p3.p2.p3;rw[abA k6];exact⟨rfl,u.mut⟩
 refine aD (aA nz (aB yQ u.hb rfl (pop (AH 7) (have u:=u.p1;aY RV u (H':=λ_=>iR B m.room (sI m.room t.buf (⟨7,0,0,0⟩:bH))) (Φ:=λ_ _=>True) (λE G V=>?_) ?_))))
 .exact(C230 B m.room t.buf (⟨7,0,0,0⟩:bH) E _ G bL).mono λ_ _ r=>r.mono λ_ _ h=>⟨trivial,h.2⟩
 rintro _ _ _ u;refine pop (J9 6) (aM (x:=(⟨6,0,0,0,0⟩:cA)) u.p4 eQ rfl rfl λw70' u=>aE (x:=(⟨6,0,0,0,0⟩:cA)) eQ u.At ?_);have u:=ma.shut (t:=pW m t (⟨7,0,0,0⟩:bH)) I u.drop.p4.drop.p3.p3.p2.p3;rw[abB bL];exact⟨rfl,u.mut⟩
def C169(K:hM)(p:Nat)(m:gC)(i:Int)(n:Nat)(tp:Ptr)(t:jd)(x:bM)(xv:aZ)(F:Nat->Prop)(w:World)(hF:(sep (ma K tp.b m.room t) (Dc K p m n tp)).p w F)(I:∀w',gD F w w'->K w')(iv:yx (cT m.p) (cH m.p) t)(O:BQ t)(zb:∀w,K w->n5 w xv x)(Y:Vc (cT m.p) (cH m.p) t.names x)(W:tO m.mem)(mO:MB m.mem 1000000)(hkd:x.kind=2\/x.kind=4)(hb4:x.kind=4->t.buf=[])(Ag:0<=dP m x/\dP m x<m.mem.l.length) :
   CR 169 [.pointer (some ⟨p,0,none⟩),.pointer (some ⟨tp.b,0,none⟩),jr xv,ir (dP m x)] w (λv w'=>v=jr (ea m t i x).2.2/\mT F (sep (ma K tp.b m.room (ea m t i x).2.1) (Dc K p (ea m t i x).1 n tp)) w w'):=by
 have u:=(St.begin hF).split;obtain⟨ge,V,rfl,_,_⟩:=iz (zb _ (I _ u.aF))
 have QC:∀w,K w->cZ (λ_=>True) w (jr ge) x.e/\cZ (λ_=>True) w (jr V) x.f:=λw hw=>by
  obtain⟨_,_,h4,h5,h6⟩:=iz (zb w hw);cases h4
  exact⟨h5,h6⟩
 have hxe:=Y.e;have M:=Y.nm;have Wk:=iv.nb;have G6:=iv.rl;have GZ:=iv.bl;have zY:=Y.rg bL;obtain⟨c,hc⟩:∃c,c=dP m x:=⟨_,rfl⟩;refine afB _ _ _ _ _ _ ?_;unfold S169;refine cP (x:=(⟨x.kind,x.ey,x.name,ge,V,x.n,x.body,x.ep,x.at_⟩:aZ)) u (λb6 _ u=>aQ u kf λb8 _ u=>?_);have u:=(u.enc (cs':=kp (⟨0,0,0,0,0⟩:cA)) rfl).p2;obtain⟨bp,nv,rg,Rl,ds,hk,u⟩:=ma.open u;refine aA iV (aB (v:=jr ge) jo u.p5.hb rfl (aV Of u (C203 tp.b t Rl nv rg bp _ x.e _ u.hb (hk.1 _ (I _ u.aF)) u.p2.dS (QC _ (I _ u.aF)).1 bL bL M.1 O.r) λ_ U u=>aO rfl (aO rfl (aA j1 (aB (v:=jr V) jo u.p5.hb rfl (aV Of u (C203 tp.b t Rl nv rg bp _ x.f _ u.hb (hk.1 _ (I _ u.aF)) u.p2.dS (QC _ (I _ u.aF)).2 bL bL M.2 O.r) λ_ U u=>aO rfl (aO rfl (aD (aA nz (aB yQ u.hb rfl ?_))))))))))
 refine aV an8 u (C229 bp (dP m x) m.room t.buf _ (Bh u.p1) bL) (λw5 U u=>aO rfl (aO rfl ?_));have u:=u.p6;obtain⟨a,G,u⟩:=Dc.open u;refine⟨λjv w'=>jv=ir (g9 m t (dP m x))/\w'=w5,?_,?_⟩
 .refine bN (aW (λB=>?_) λB=>?_);rotate_left
  .have h1:(lu t.buf (dP m x)).isSome=true:=by simpa using B
   exact⟨gL (n3 .i64) (by unfold g9;rw[ej h1]),rfl⟩
  have h1:(lu t.buf (dP m x)).isSome=false:=by simpa using B
  refine aD (aA oJ (aB Ax u.hb rfl ?_));obtain⟨ov,fv,lv,kv,wv,ws,jN,afU,hmo,hmf,Hs,aAv,hmw⟩:=(Gx u.p1.has).ex;refine aD (aA rS (bE dX (afU.cell (o:=2) rfl) ?_));obtain⟨e,U⟩:=gx m.mem.l (i:=(dP m x).toNat) bL;exact aK cQ Hs Ag.1 U (λ_ hq=>aE bO hq ⟨gL (n3 .i64) (by unfold g9;rw[ei (by rw[h1];decide),abD Ag.1 U]),rfl⟩)
 rintro _ _ ⟨rfl,rfl⟩ _;refine aA iC (aB (v:=.string x.ey) gv u.p10.hb rfl (have u:=ma.shut (t:=t) hk u.p8.p8.p8.p8;aY ah0 u (H':=λ_=>ma K tp.b m.room (o7 t x.ey (g9 m t (dP m x)))) (Φ:=λ_ _=>True) (λZ ek dU=>?_) ?_))
 .exact(C204 K tp.b m.room t Z x.ey _ _ ek (λw' hc=>I w' (dU w' hc).aF) zY G6 Wk).mono λ_ _ r=>r.mono λ_ _ h=>⟨trivial,h.2⟩
 rintro _ _ _ u;refine aA dN (aB (v:=ir x.kind) bO u.p7.hb rfl (aG (aC (λk2=>?_) λk2=>?_)))
 .have J:xL m t x=⟨if (lu t.buf (dP m x)).isSome=true then 2 else 1,0,dP m x,g9 m t (dP m x),0⟩:=rfl;refine aW (λB=>?_) (λB=>?_)
  .refine pop (mI 2 (dP m x) (g9 m t (dP m x))) (aM (x:=(⟨2,0,dP m x,g9 m t (dP m x),0⟩:cA)) u.p6 eQ rfl rfl λw8 u=>aE (x:=(⟨2,0,dP m x,g9 m t (dP m x),0⟩:cA)) eQ u.At ?_);have u:=(Dc.shut (m:=m) G u.drop.p6.drop.p5.p5.p5.p5.p5).p1;rw[abx k2];show jr _=jr (xL m t x)/\_;rw[J,ej B];exact⟨rfl,(St.join u).mut⟩
  refine pop (mI 1 (dP m x) (g9 m t (dP m x))) (aM (x:=(⟨1,0,dP m x,g9 m t (dP m x),0⟩:cA)) u.p6 eQ rfl rfl λw8 u=>aE (x:=(⟨1,0,dP m x,g9 m t (dP m x),0⟩:cA)) eQ u.At ?_);have u:=(Dc.shut (m:=m) G u.drop.p6.drop.p5.p5.p5.p5.p5).p1;rw[abx k2];show jr _=jr (xL m t x)/\_;rw[J,ei (by rw[B];decide)];exact⟨rfl,(St.join u).mut⟩
 have k4:x.kind=4:=bL
 have hld:g9 m t (dP m x)=jy m.mem (dP m x):=by unfold g9;rw[hb4 k4];rfl
 rw[hld]at u |-;rw[amj k4];refine bW (aC (λB=>?_) λB=>?_)
 .have E:rB m t x=m:=by unfold rB;rw[ei B]
  have yt:tS m t x=⟨9,0,dP m x,jy m.mem (dP m x),0⟩:=by unfold tS;rw[ei B]
  refine pop (mI 9 (dP m x) (jy m.mem (dP m x))) (aM (x:=(⟨9,0,dP m x,jy m.mem (dP m x),0⟩:cA)) u.p6 eQ rfl rfl λw8 u=>aE (x:=(⟨9,0,dP m x,jy m.mem (dP m x),0⟩:cA)) eQ u.At ?_);have u:=(Dc.shut (m:=m) G u.drop.p6.drop.p5.p5.p5.p5.p5).p1;rw[E,yt];exact⟨rfl,(St.join u).mut⟩
 have E:rB m t x={m with mem:=fg m.mem (dP m x) (eF t x.f).1}:=by unfold rB;rw[ej (by simpa using B)]
 have yt:tS m t x=⟨8,0,dP m x,jy m.mem (dP m x),(eF t x.f).1⟩:=by unfold tS;rw[ej (by simpa using B)]
 refine aD (aA oJ (aB Ax u.p1.hb rfl (have u:=u.p2;aY agq u (H':=λ_=>gq a.q (fg m.mem (dP m x) (eF t x.f).1)) (Φ:=λ_ _=>True) (λZ ek dU=>?_) ?_)))
 .exact(C166 a.q m.mem Z (dP m x) _ _ ek W mO).mono λ_ _ r=>r.mono λ_ _ h=>⟨trivial,h.2⟩
 rintro _ _ _ u;refine pop (ze 8 (dP m x) (jy m.mem (dP m x)) (eF t x.f).1) (aM (x:=(⟨8,0,dP m x,jy m.mem (dP m x),(eF t x.f).1⟩:cA)) u.p6 eQ rfl rfl λ_ u=>aE (x:=(⟨8,0,dP m x,jy m.mem (dP m x),(eF t x.f).1⟩:cA)) eQ u.At ?_);have u:=Dc.shut (m:={m with mem:=fg m.mem (dP m x) (eF t x.f).1}) (⟨⟨G.1.pr,G.1.rc⟩,G.2⟩) u.drop.p6.drop.p5.p5.p5.p3.p5;have u:=u.p1;rw[E,yt];exact⟨rfl,(St.join u).mut⟩
def C95(K:hM)(p:Nat)(m:gC)(q:cS)(i k:Int)(Y:q.t=i)(W:q.i=k)(t:jd)(F:Nat->Prop)(w:World)(hF:(mM K p m).p w F)(Z:lX m)(mO:MB m.mem 1000000)(h0:0<=i)(ht:m.l[i.toNat]?=some t) :
   CR 95 [.pointer (some ⟨p,0,none⟩),ir i,ir k] w (λv w'=>v=jr (tj i (dF t.buf k))/\mT F (mM K p (tq m t q)) w w'):=by
 subst Y W;have u:=St.begin hF;have CA:=kO ht;have iv:=Z.th t CA;have nw:=(kE.1 ht).1;have GZ:=iv.bl;refine pj Tryz.func95 (pl:=P95) ?_;refine aQ u kf (λb6 _ u=>?_);have u:=(u.enc (cs':=kp (⟨0,0,0,0,0⟩:cA)) rfl).p1;obtain⟨a,E,u⟩:=mM.open u;have V:=u.p4.fG;obtain⟨e,I⟩:=gx a.ps (i:=q.t.toNat) bL;refine aD (aA lY (aB Ay u.hb rfl (aK B4 u.p3.dS h0 I λq0 hq=>aE CU hq ?_)));have u:=abw u.p4 I ht;obtain⟨bp,nv,rg,Rl,ds,hk,u⟩:=ma.open u;refine aD (aA nz (aB yQ u.hb rfl (have u:=u.p1;aY anY u (H':=λ_=>iR bp m.room (jL t.buf q.i)) (Φ:=λv _=>v=.tuple #[jr (dF t.buf q.i),ir (xF t.buf q.i)]) (λG M dU=>?_) ?_)))
 .exact C165 bp m.room t.buf q.i G _ M bL
 rintro _ _ rfl u;refine aO rfl (aO rfl (aQ u ri λb7 _ u=>aM (x:=(dF t.buf q.i)) u ij rfl rfl λ_ u=>have u:=(((((ma.shut (t:={t with buf:=jL t.buf q.i}) hk u.p4.p4.p3.p4).p2).p6).p6).p6).p6;have u:=u.p5.p7.p7;aA gH (aB (v:=ir (dF t.buf q.i).kind) bO u.hb rfl (aG (aC (λc=>?_) λc=>?_)))))
 .have u:=u.drew;refine aD (aA oJ (aB Ax u.p3.hb rfl (aA mn (aB (v:=ir (dF t.buf q.i).cell) bO u.hb rfl (aA oM (aB (v:=ir (dF t.buf q.i).n) bO u.hb rfl (have u:=u.p4;aY agq u (H':=λ_=>gq a.q (fg m.mem (dF t.buf q.i).cell (dF t.buf q.i).n)) (Φ:=λ_ _=>True) (λG M dU=>?_) ?_)))))))
  .exact(C166 a.q m.mem G _ _ _ M Z.mem mO).mono λ_ _ r=>r.mono λ_ _ h=>⟨trivial,h.2⟩
  rintro _ _ _ u;refine aA mn (aB (v:=ir (dF t.buf q.i).cell) bO u.p1.hb rfl (aA oM (aB (v:=ir (dF t.buf q.i).n) bO u.p1.hb rfl (pop (zd 12 q.t (dF t.buf q.i).cell (dF t.buf q.i).n) (aM (x:=(⟨12,q.t,(dF t.buf q.i).cell,(dF t.buf q.i).n,0⟩:cA)) u.p2 eQ rfl rfl λ_ u=>aE (x:=(⟨12,q.t,(dF t.buf q.i).cell,(dF t.buf q.i).n,0⟩:cA)) eQ u.At ?_)))));have u:=u.drop.p1.drop;have O:jM m.mem (dF t.buf q.i)=fg m.mem (dF t.buf q.i).cell (dF t.buf q.i).n:=by unfold jM;rw[ej c]
  have B:tj q.t (dF t.buf q.i)=⟨12,q.t,(dF t.buf q.i).cell,(dF t.buf q.i).n,0⟩:=by unfold tj;rw[ej c]
  have u:=Dc.shut (m:={m with mem:=fg m.mem (dF t.buf q.i).cell (dF t.buf q.i).n}) (i:=q.t.toNat) (tp:=e) ⟨⟨E.pr,E.rc⟩,I,V,by show q.t.toNat<m.l.length;omega⟩ u.p5.p5.p5.p3.p5;have u:=xZ (m:={m with mem:=fg m.mem (dF t.buf q.i).cell (dF t.buf q.i).n}) (tp:=e) (t:={t with buf:=jL t.buf q.i}) u.p1;have U:tq m t q={ {m with mem:=fg m.mem (dF t.buf q.i).cell (dF t.buf q.i).n}with l:=m.l.set q.t.toNat ({t with buf:=jL t.buf q.i})}:=by unfold tq;rw[O]
  rw[U,B];exact⟨rfl,u.mut⟩
 refine aA gH (aB (v:=ir (dF t.buf q.i).kind) bO u.hb rfl (aG (aC (λJ=>?_) λJ=>?_)))
 .refine pop (Il 14 q.t) (aM (x:=(⟨14,q.t,0,0,0⟩:cA)) u.p1 eQ rfl rfl λ_ u=>aE (x:=(⟨14,q.t,0,0,0⟩:cA)) eQ u.At ?_);have u:=u.drop.drop;have O:jM m.mem (dF t.buf q.i)=m.mem:=by unfold jM;rw[ei c,ej J]
  have B:tj q.t (dF t.buf q.i)=⟨14,q.t,0,0,0⟩:=by unfold tj;rw[ei c,ej J]
  have u:=Dc.shut (m:={m with mem:=m.mem}) (i:=q.t.toNat) (tp:=e) ⟨⟨E.pr,E.rc⟩,I,V,by show q.t.toNat<m.l.length;omega⟩ u.p5.p5.p5.p5.p5;have u:=xZ (m:={m with mem:=m.mem}) (tp:=e) (t:={t with buf:=jL t.buf q.i}) u.p1;have U:tq m t q={ {m with mem:=m.mem}with l:=m.l.set q.t.toNat ({t with buf:=jL t.buf q.i})}:=by unfold tq;rw[O]
  rw[U,B];exact⟨rfl,u.mut⟩
 have u:=u.drew;refine aD (aA oJ (aB Ax u.p3.hb rfl (aA gX (aB (v:=ir (dF t.buf q.i).line) bO u.hb rfl (have u:=u.p4;aY anZ u (H':=λ_=>gq a.q (n7 m.mem (dF t.buf q.i).line)) (Φ:=λ_ _=>True) (λG M dU=>?_) ?_)))))
 .exact(C167 a.q m.mem G _ _ M Z.mem mO).mono λ_ _ r=>r.mono λ_ _ h=>⟨trivial,h.2⟩
 rintro _ _ _ u;refine aA gX (aB (v:=ir (dF t.buf q.i).line) bO u.p1.hb rfl (pop (tQ 13 q.t (dF t.buf q.i).line) (aM (x:=(⟨13,q.t,(dF t.buf q.i).line,0,0⟩:cA)) u.p2 eQ rfl rfl λ_ u=>aE (x:=(⟨13,q.t,(dF t.buf q.i).line,0,0⟩:cA)) eQ u.At ?_)));have u:=u.drop.p1.drop;have O:jM m.mem (dF t.buf q.i)=n7 m.mem (dF t.buf q.i).line:=by unfold jM;rw[ei c,ei J]
 have B:tj q.t (dF t.buf q.i)=⟨13,q.t,(dF t.buf q.i).line,0,0⟩:=by unfold tj;rw[ei c,ei J]
 have u:=Dc.shut (m:={m with mem:=n7 m.mem (dF t.buf q.i).line}) (i:=q.t.toNat) (tp:=e) ⟨⟨E.pr,E.rc⟩,I,V,by show q.t.toNat<m.l.length;omega⟩ u.p5.p5.p5.p3.p5;have u:=xZ (m:={m with mem:=n7 m.mem (dF t.buf q.i).line}) (tp:=e) (t:={t with buf:=jL t.buf q.i}) u.p1;have U:tq m t q={ {m with mem:=n7 m.mem (dF t.buf q.i).line}with l:=m.l.set q.t.toNat ({t with buf:=jL t.buf q.i})}:=by unfold tq;rw[O]
 rw[U,B];exact⟨rfl,u.mut⟩
def att:PL 60:=dJ Tryz.func60
def C96(K:hM)(p:Nat)(m:gC)(i:Int)(t:jd)(F:Nat->Prop)(w:World)(hF:(mM K p m).p w F)(U:∀w',gD F w w'->K w')(G:lX m)(hvo:Kx m)(mO:MB m.mem 1000000)(h0:0<=i)(ht:m.l[i.toNat]?=some t)(uo:sQ m t=true)(Wq:m.mem.ef=fB m.p) :
   CR 96 [.pointer (some ⟨p,0,none⟩),ir i] w (λv w'=>v=jr (im m i).2/\mT F (mM K p (im m i).1) w w'):=by
 have u:=St.begin hF;have CA:=kO ht;have iv:=G.th t CA;have hto:=hvo.th t CA;have nw:=(kE.1 ht).1;have Wk:=iv.nb;have how:=G.ow;have ae0:(cH m.p).length<=500:=by unfold cH;rw[mW];exact G.pz.eE
 have aAw:(cT m.p).length<=250500:=mD G.pz.toPS;have Hs:m.mem.l.length=(cT m.p).length:=by rw[G.mem.ll,Wq];unfold fB cT;rw[mW,mW]
 have asY:=iv.cl;have hfc:=Gt t.bV;refine alS _ _ _ _ ?_;unfold S96;refine aQ u kf (λb4 _ u=>?_);have u:=(u.enc (cs':=kp (⟨0,0,0,0,0⟩:cA)) rfl).p1;obtain⟨a,hu,u⟩:=mM.open u;have pD:=u.p4.fG;refine aD (aA lY (aB Ay u.hb rfl ?_));obtain⟨e,he⟩:=gx a.ps (i:=i.toNat) bL;refine aK B4 u.p3.dS h0 he (λq hq=>aE CU hq ?_);have u:=abw u.p4 he ht;obtain⟨bp,nv,rg,Rl,ds,hk,u⟩:=ma.open u;have DP:=hk.2.1.1;refine aD (aA wX (aB bO u.hb rfl (bW (aC (λc=>?_) λc=>?_))))
 .have hse:im m i=({m with fault:=t.fault,iY:=i},⟨16,i,t.fault,0,0⟩):=by unfold im;rw[ht];dsimp only;rw[ej c]
  refine aD (aA wX (aB bO u.hb rfl ?_));have u:=St.DK (H:=Om K m.room) (x:=t) (((ma.shut (t:=t) hk u.p3.p3.p3.p3).p1).p1) bL pD he;rw[mU ht]at u;have u:=mM.shut (m:=m) hu u.p4.p4.p4.p4;refine aY ah2 u (H':=λ_=>mM K p {m with fault:=t.fault,iY:=i}) (Φ:=λv _=>v=jr (⟨16,i,t.fault,0,0⟩:cA)) (λE I M=>?_) ?_
  .exact C168 K p m i t.fault E _ I
  rintro _ _ rfl u;refine aM (x:=(⟨16,i,t.fault,0,0⟩:cA)) u.p1 eQ rfl rfl (λ_ u=>aE (x:=(⟨16,i,t.fault,0,0⟩:cA)) eQ u.At ?_);rw[hse];exact⟨rfl,u.drop.mut⟩
 have hf0:t.fault=0:=bL
 obtain⟨x,xa,xb,zW⟩:=N7 uo;obtain⟨en,td⟩:=vX zW;have Rm:(wB (gB t.bV)).length<=100000:=by rw[td,o5]at hfc;omega
 have uR:=hk.2.1;rw[td]at uR;obtain⟨d0,pE,rfl,yr,hds⟩:=uR.head;obtain⟨dx,db,de,dn⟩:=d0;obtain⟨O,J,rfl,_,_⟩:=iz (yr.x _ (U _ u.aF));have zb:∀w,K w->n5 w (⟨x.kind,x.ey,x.name,O,J,x.n,x.body,x.ep,x.at_⟩:aZ) x:=yr.x;obtain⟨⟨RK,hk3⟩,hv1,hv2⟩:=G.st t CA hf0 _ _ _ zW;obtain⟨hx,_,_,_,_,_,_,_,r,en',p',BL,sr,ar⟩:=iv.top zW;refine aD (aA jF (aB rT u.hb rfl (aK mi u.p3.eC bL rfl λq1 h1=>AI (⟨x.kind,x.ey,x.name,O,J,x.n,x.body,x.ep,x.at_⟩:aZ) nD h1 rfl λq2 h2=>aE eD h2 (pop J8 (have u:=ma.shut (t:=t) hk u.p3.p3.p3.p3;aQ u iN λb6 _ u=>aQ u kf λb7 _ u=>aM (x:=(⟨x.kind,x.ey,x.name,O,J,x.n,x.body,x.ep,x.at_⟩:aZ)) u.p1 eD rfl rfl λ_ u=>aM (x:=(⟨0,0,0,0,0⟩:cA)) u.p1 eQ rfl rfl λ_ u=>have u:=u.drew;aD (aA pZ ?_))))))
 refine rk a.pv fp u.p4.hb rfl (aA fY (aB (v:=.string x.name) gv u.p1.hb rfl (aD (aA pZ (rk a.pv fp u.p4.hb rfl (aA fY (aB (v:=.string x.name) gv u.p1.hb rfl (dB Lf u (C124 m.p a.pv _ (hu.pr _ (U _ u.aF)) G.pz) λx41 _ cE u=>?_))))))));refine⟨aH gv (u.p2.hb.cell (v:=.string x.name) rfl),?_⟩;refine⟨Si a.pv fp u.p5.hb rfl,?_⟩;refine⟨aH gv (u.p2.hb.cell (v:=.string x.name) rfl),?_⟩;refine aV rK u (C123 _ (cT m.p) x.name _ u.dS bL) (λ_ HX u=>?_);refine⟨Si a.pv fp u.p5.hb rfl,?_⟩;refine⟨aH gv (u.p2.hb.cell (v:=.string x.name) rfl),?_⟩
 refine dB RO u (C125 m.p a.pv _ (hu.pr _ (U _ u.aF)) G.pz) (λx49 _ cE u=>?_);refine⟨aH gv (u.p3.hb.cell (v:=.string x.name) rfl),?_⟩;refine aV rK u (C123 _ (cH m.p) x.name _ u.dS bL) (λw11 HX u=>?_);have u:=Dc.shut (m:=m) (i:=i.toNat) (tp:=e) ⟨hu,he,pD,bL⟩ u.drop.drop.p3.p7.p7.p7.p7;have u:=u.p3.p4.p4.p4;have Oo:im m i=(if x.kind=10/\m.eI.getD (fD m x).toNat 0≠i then({m with fault:=3,iY:=i},⟨16,i,3,0,0⟩)else({ (ea m t i x).1 with l:=m.l.set i.toNat (um m t i x)},{ (ea m t i x).2.2 with t:=i})):=by unfold im;rw[ht];dsimp only;rw[ei bL,zW]
 refine⟨λw'=>¬ (x.kind=10/\m.eI.getD (fD m x).toNat 0≠i)/\St w F [bX b7 (kp ((ea m t i x).2.2)),bX b6 (kp (⟨x.kind,x.ey,x.name,O,J,x.n,x.body,x.ep,x.at_⟩:aZ)),bX b4 (kp (⟨0,0,0,0,0⟩:cA)),ma K e.b m.room (ea m t i x).2.1,Dc K p (ea m t i x).1 i.toNat e] w',?_,?_⟩
 .refine aA dN (aB (v:=ir x.kind) bO u.p1.hb rfl ?_);refine⟨λjv w'=>jv=.bool (decide (x.kind=2\/x.kind=4))/\w'=w11,?_,?_⟩
  .exact aG (aC (λc=>⟨vb (by rw[ew c,ew (Or.inl c)]),rfl⟩) λ_=>aG ⟨vb (fN.2 bL),rfl⟩)
  rintro _ _ ⟨rfl,rfl⟩ rn;refine aC (λk24=>?_) (λk24=>?_)
  .have mN:¬ (x.kind=10/\m.eI.getD (fD m x).toNat 0≠i):=bL
   obtain⟨jc,hjc,aAy,_⟩:=lQ (dM.1 (hx.cl bL));have hjcl:=(kE.1 aAy).1;have hcc:dP m x=(jc:Int):=hjc;refine aE (x:=(⟨x.kind,x.ey,x.name,O,J,x.n,x.body,x.ep,x.at_⟩:aZ)) eD u.p1.At (have u:=St.join u.p4.p4;aY ate u (H':=λ_=>sep (ma K e.b m.room (ea m t i x).2.1) (Dc K p (ea m t i x).1 i.toNat e)) (Φ:=λv _=>v=jr (ea m t i x).2.2) (λE I M=>?_) ?_)
   .exact C169 K p m i i.toNat e t x (⟨x.kind,x.ey,x.name,O,J,x.n,x.body,x.ep,x.at_⟩:aZ) E _ I (λw' hc=>U w' (M w' hc).aF) iv hto zb hx G.mem mO k24 (λh=>abC uo hf0 zW h) bL
   rintro _ _ rfl u;have u:=u.split;exact aM (x:=((ea m t i x).2.2:cA)) u.p2 eQ rfl rfl (λ_ u=>have u:=u.p2.p2.p4.p4.p4;⟨mN,u⟩)
  refine aG (aC (λk8=>?_) λk8=>?_)
  .have mN:¬ (x.kind=10/\m.eI.getD (fD m x).toNat 0≠i):=bL
   refine aA ac1 (aR u bO (dQ rfl) rfl λ_ u=>?_);have u:=(((((u.enc (cs':=kp (⟨7,0,0,0,0⟩:cA)) rfl).p4).p4).p4).p4).p4;rw[ami k8];exact⟨mN,u⟩
  refine aG (aC (λk9=>?_) λk9=>?_)
  .have mN:¬ (x.kind=10/\m.eI.getD (fD m x).toNat 0≠i):=bL
   have Y:x.kind=9\/x.kind=10:=bL
   obtain⟨j,hj,Cm,_⟩:=lQ (dM.1 (hx.lk Y));have CO:=(kE.1 Cm).1;have hjk:fD m x=(j:Int):=hj;have u:=u.p4;obtain⟨a,B,u⟩:=Dc.open u;refine aD (aA vv (aB dX u.hb rfl (dG u.p2 cQ (show 0<=fD m x by omega) (show fD m x<_ by omega) λ_ aAz=>iM (i:Int) u.p2 bO aAz bL λ_ u=>pop (mY 10 (fD m x)) (have u:=Dc.shut (m:=pA m x i) (⟨⟨B.1.pr,B.1.rc⟩,B.2⟩) u.p4.p4.p2.p4.p4;aM (x:=(⟨10,0,fD m x,0,0⟩:cA)) u.p1 eQ rfl rfl λ_ u=>?_))));have u:=u.p1.p4.p4.p4.p4;rw[amk k9];exact⟨mN,u⟩
  refine aG (aC (λV=>?_) λV=>?_)
  .have Y:x.kind=9\/x.kind=10:=bL
   obtain⟨j,hj,Cm,_⟩:=lQ (dM.1 (hx.lk Y));have CO:=(kE.1 Cm).1;have hjk:fD m x=(j:Int):=hj;have u:=u.p4;obtain⟨a,B,u⟩:=Dc.open u;have hwl:=u.p2.dS;obtain⟨ov,Tr⟩:=gx m.eI (i:=(fD m x).toNat) bL;have hgd:m.eI.getD (fD m x).toNat 0=ov:=by rw[oi,Tr];rfl
   refine aD (aA vv (aB dX u.hb rfl (aK cQ hwl (show 0<=fD m x by omega) Tr λq69 h69=>aE bO h69 (bW (aC (λW=>?_) λW=>?_)))))
   .have u:=u.p4;have u:=xZ ((Dc.shut (m:=m) B u.p4.p4.p4.p4).p4);rw[mU ht]at u;refine aY ah2 u (H':=λ_=>mM K p {m with fault:=3,iY:=i}) (Φ:=λv _=>v=jr (⟨16,i,3,0,0⟩:cA)) (λE I M=>?_) ?_
    .exact C168 K p m i 3 E _ I
    rintro _ _ rfl u;refine aM (x:=(⟨16,i,3,0,0⟩:cA)) u.p3 eQ rfl rfl (λ_ u=>aE (x:=(⟨16,i,3,0,0⟩:cA)) eQ u.At ?_);have u:=u.drop.p1.drop.p1.drop;rw[Oo,ej ⟨V,by rw[hgd];exact W⟩];exact⟨rfl,u.mut⟩
   refine aD (aA vv (aB dX u.hb rfl (dG u.p2 cQ (show 0<=fD m x by omega) (show fD m x<_ by omega) λ_ amm=>iM (-1:Int) u.p2 bO amm bL λ_ u=>pop (mY 11 (fD m x)) (have u:=Dc.shut (m:=pA m x (-1)) (⟨⟨B.1.pr,B.1.rc⟩,B.2⟩) u.p4.p4.p2.p4.p4;aM (x:=(⟨11,0,fD m x,0,0⟩:cA)) u.p1 eQ rfl rfl λ_ u=>?_))));have u:=u.p1.p4.p4.p4.p4;rw[afT V];exact⟨by rw[hgd];exactλh=>W h.2,u⟩
  have mN:¬ (x.kind=10/\m.eI.getD (fD m x).toNat 0≠i):=bL
  have u:=u.drew;refine aE (x:=(⟨x.kind,x.ey,x.name,O,J,x.n,x.body,x.ep,x.at_⟩:aZ)) eD u.p1.At ?_;have u:=u.p4;obtain⟨a,B,u⟩:=Dc.open u;refine aD (aA pZ (rk a.pv fp u.hb rfl (aV att u (C60 m.p a.pv (dP m x) _ (B.1.pr _ (U _ u.aF)) G.pz) λ_ HX u=>?_)));refine⟨fq (x:=(⟨x.kind,x.ey,x.name,O,J,x.n,x.body,x.ep,x.at_⟩:aZ)) eD u.p6.At,?_⟩;have u:=(Dc.shut (m:=m) B u.p4.p4.p4.p4.p4).p4
  have ha1:(ea m t i x).1=m:=by
   rcases(show x.kind=3\/x.kind=5\/x.kind=6\/x.kind=7 by omega)with h|h|h|h
   .rw[aby h]
   .rw[abz h]
   .rw[abA h]
   .rw[abB h]
  refine aY atd u (H':=λ_=>ma K e.b m.room (ea m t i x).2.1) (Φ:=λv _=>v=jr (ea m t i x).2.2) (λE I M=>?_) ?_
  .exact C170 K _ m i e t x (⟨x.kind,x.ey,x.name,O,J,x.n,x.body,x.ep,x.at_⟩:aZ) E _ I (λw' hc=>U w' (M w' hc).aF) iv hto zb hx bL
  rintro _ _ rfl u;refine aM (x:=((ea m t i x).2.2:cA)) u.p2 eQ rfl rfl (λ_ u=>?_);have u:=u.p2.p2.p4.p4.p4;rw[ha1];exact⟨mN,u⟩
 rintro _ ⟨abG,u⟩ rn;have yP:=CF (m:=m) (t:=t) (i:=i) (x:=x);have amn:sO (Vc (cT m.p) (cH m.p) t.names) (ea m t i x).2.1:=Kp iv G.rm.2
 have abH:yx (cT m.p) (cH m.p) { (ea m t i x).2.1 with bV:=gB (ea m t i x).2.1.bV}:=by
  show sO (Vc _ _ (ea m t i x).2.1.names) _;rw[vW];exact Kq amn
 have atv:=(aa4 (i:=i) (x:=x) hvo.mem hto).1;have aAB:BQ { (ea m t i x).2.1 with bV:=gB (ea m t i x).2.1.bV}:=⟨atv.r,atv.b⟩;have Z:=CG (m:=m) (t:=t) (i:=i) (x:=x);refine aA R8 (aR u bO (dQ rfl) rfl λ_ u=>have u:=(u.enc (cs':=kp ({ (ea m t i x).2.2 with t:=i}:cA)) rfl).p3;aY IJ u (H':=λ_=>ma K e.b m.room { (ea m t i x).2.1 with bV:=gB (ea m t i x).2.1.bV}) (Φ:=λ_ _=>True) (λE I M=>?_) ?_)
 .exact(C171 K e.b m.room (ea m t i x).2.1 E (.slice none 0 0) [] [] (wB (gB t.bV)) _ (gB (ea m t i x).2.1.bV) _ I (λw' hc=>U w' (M w' hc).aF) (λ_ _=>cZ.nil _ _) kY.nil (by rw[Z];exact td) (by rw[Z];rfl) (by rw[Z];exact hk.2.2.pop) (l2 _) Rm).mono λ_ _ r=>r.mono λ_ _ h=>⟨trivial,h.2⟩
 rintro _ _ _ u;refine aY ah1 u (H':=λ_=>ma K e.b m.room (um m t i x)) (Φ:=λ_ _=>True) (λE I M=>?_) ?_
 .exact(C129 K e.b m.room { (ea m t i x).2.1 with bV:=gB (ea m t i x).2.1.bV} (um m t i x) _ _ _ E _ I (λw' hc=>U w' (M w' hc).aF) abH aAB (qI abH).1).mono λ_ _ r=>r.mono λ_ _ h=>⟨trivial,h.2⟩
 rintro _ _ _ u;refine aE (x:=({ (ea m t i x).2.2 with t:=i}:cA)) eQ u.p1.At (aM (x:=({ (ea m t i x).2.2 with t:=i}:cA)) u.p3 eQ rfl rfl λ_ u=>aE (x:=({ (ea m t i x).2.2 with t:=i}:cA)) eQ u.At ?_);have u:=u.drop.p1.drop.p1.drop.p1.p1;rw[<- yP]at u;have u:=xZ u;rw[aaQ]at u;rw[Oo,ei abG];exact⟨rfl,u.mut⟩
def C91(K:hM)(p:Nat)(m:gC)(i:Int)(t:jd)(F:Nat->Prop)(w:World)(hF:(fm K p m).p w F)(V:∀w',gD F w w'->K w')(Z:lX m)(mO:MB m.mem 1000000)(h0:0<=i)(ht:m.l[i.toNat]?=some t)(aAC:t.fault=0->∃x a b,mG t.bV=some (x,a,b)) :
   CR 91 [.pointer (some ⟨p,0,none⟩),ir i] w (λv w'=>v=jr (im m i).2/\mT F (fm K p (im m i).1) w w'):=by
 have u:=St.begin hF;have CA:=kO ht;have U:=Z.th t CA;have nw:=(kE.1 ht).1;have ng:=yw U.p;have Ag:=U.cl;have GZ:=U.bl;have Wk:=U.nb;have G6:=U.rl;have how:=Z.ow;have ae0:(cH m.p).length<=500:=by unfold cH;rw[mW];exact Z.pz.eE
 have aAw:(cT m.p).length<=250500:=mD Z.pz.toPS;refine akB _ _ _ _ ?_;unfold S91;refine aQ u kf (λb4 _ u=>?_);have u:=(u.enc (cs':=kp (⟨0,0,0,0,0⟩:cA)) rfl).p1;obtain⟨a,hu,u⟩:=fm.open u;have pD:=u.p4.fG;refine aD (aA mS (aB zz u.hb rfl ?_));obtain⟨e,he⟩:=gx a.ps (i:=i.toNat) bL;refine aK AA u.p3.dS h0 he (λq hq=>aE CV hq ?_);have u:=aac u.p4 he ht;obtain⟨O,nv,rg,pl,es,Y,u⟩:=eJ.open u;refine aD (aA wY (aB bO u.hb rfl (bW (aC (λc=>?_) λc=>?_))))
 .have hse:im m i=({m with fault:=t.fault,iY:=i},⟨16,i,t.fault,0,0⟩):=by unfold im;rw[ht];dsimp only;rw[ej c]
  refine aD (aA wY (aB bO u.hb rfl ?_));have u:=eJ.shut (Φ:=λ_=>True) (t:=t) Y u.p4.p4.p4.p4.p4;have u:=St.DK (H:=tn K m.room) (x:=t) u.p1.p1 bL pD he;rw[mU ht]at u;have u:=fm.shut (m:=m) hu u.p4.p4.p4.p4;refine aY ahP u (H':=λ_=>fm K p {m with fault:=t.fault,iY:=i}) (Φ:=λv _=>v=jr (⟨16,i,t.fault,0,0⟩:cA)) (λB E I=>?_) ?_
  .exact C158 K p m i t.fault B _ E
  rintro _ _ rfl u;refine aM (x:=(⟨16,i,t.fault,0,0⟩:cA)) u.p1 eQ rfl rfl (λ_ u=>aE eQ u.At ?_);rw[hse];exact⟨rfl,u.drop.mut⟩
 have hf0:t.fault=0:=bL
 refine dR To (C137 K e.b t O nv rg pl es _ _ u.hb u.p3.dS u.p4.eC.1 (λ_ e=>V _ (u.aF.then e)) U.p bL) ?_;rintro v _ ⟨hex,hv⟩;have u:=u.ext hex
 rcases hv with⟨er,_⟩|⟨x,xa,xb,xv,av,bv,ra,rb,zW,rfl,zb,_⟩
 .obtain⟨_,_,_,h⟩:=aAC hf0;rw[er]at h;cases h
 obtain⟨ge,gf,rfl,_,_⟩:=iz (zb _ (V _ u.aF))
 have QC:∀w,K w->cZ (λ_=>True) w (jr ge) x.e/\cZ (λ_=>True) w (jr gf) x.f:=λw hw=>by
  obtain⟨_,_,h4,h5,h6⟩:=iz (zb w hw);cases h4
  exact⟨h5,h6⟩
 obtain⟨⟨RK,uR⟩,hv1,hv2⟩:=Z.st t CA hf0 _ _ _ zW;obtain⟨hx,_,_,_,_,_,_,_,r,en,p',BL,sr,ar⟩:=U.top zW;have ie:(Bk.cons x xa xb r).str:=U.p.st _ (by rw[BL];exact o4 ..);have hxe:=hx.e;have ht1:{t with fault:=if (eF t x.e).2=true then t.fault else 2}=t:=by rw[hv1];rfl
 refine aO rfl (aO rfl (aO rfl (aO rfl (have u:=eJ.shut (Φ:=λ_=>True) (t:=t) Y u.p4.p4.p4.p4.p4;aQ u iN λb6 _ u=>aM (x:=(⟨x.kind,x.ey,x.name,ge,gf,x.n,x.body,x.ep,x.at_⟩:aZ)) u eD rfl rfl λ_ u=>have u:=u.drew;aD (aA Jk (aB je u.p3.hb rfl (aA fY (aB (v:=.string x.name) gv u.hb rfl (aD (aA Jl ?_))))))))));refine aB je u.p3.hb rfl (aA fY (aB (v:=.string x.name) gv u.hb rfl (aV HQ u (C159 _ (cT m.p) x.name _ (hu.cs _ (V _ u.aF)) bL) λ_ HX u=>?_)));refine⟨aH je (u.p3.hb.cell rfl),?_⟩
 refine⟨aH gv (u.hb.cell rfl),?_⟩;refine aV HQ u (C159 _ (cH m.p) x.name _ (hu.ks _ (V _ u.aF)) bL) (λ_ HX u=>aD (aA DI (rk a.pv fp u.p3.hb rfl (aV ari u (C52 m.p a.pv _ _ (hu.pr _ (V _ u.aF)) Z.pz) λ_ HX u=>aQ u kf λVY _ u=>?_))));have u:=mZ.shut (m:=m) (⟨hu,he,pD,bL⟩) ((((((u.enc (cs':=kp (⟨0,0,0,0,0⟩:cA)) rfl).p3).p7).p7).p7).p7);obtain⟨c,hc⟩:∃c,c=dP m x:=⟨_,rfl⟩;obtain⟨lk,hlk⟩:∃lk,lk=fD m x:=⟨_,rfl⟩;obtain⟨ln,GJ⟩:∃ln,ln=fx m x:=⟨_,rfl⟩;have u:=u.p3.p4.p4.p4;have Oo:im m i=(if x.kind=10/\m.eI.getD (fD m x).toNat 0≠i then({m with fault:=3,iY:=i},⟨16,i,3,0,0⟩)else({ (ea m t i x).1 with l:=m.l.set i.toNat (um m t i x)},{ (ea m t i x).2.2 with t:=i})):=by unfold im;rw[ht];dsimp only;rw[ei bL,zW]
 refine⟨λw'=>¬ (x.kind=10/\m.eI.getD (fD m x).toNat 0≠i)/\St w F [bX VY (kp ((ea m t i x).2.2)),bX b6 (kp (⟨x.kind,x.ey,x.name,ge,gf,x.n,x.body,x.ep,x.at_⟩:aZ)),bX b4 (kp (⟨0,0,0,0,0⟩:cA)),qJ K e.b m.room (ea m t i x).2.1,mZ K p (ea m t i x).1 i.toNat e] w',?_,?_⟩
 .refine aA dN (aB (v:=ir x.kind) bO u.p1.hb rfl (aG (aC (λW=>?_) λW=>?_)))
  .have G:(ea m t i x)=(m,o7 t x.ey (g9 m t (dP m x)),xL m t x):=by unfold ea;rw[ej W]
   have J:¬ (x.kind=10/\m.eI.getD (fD m x).toNat 0≠i):=bL
   refine aE eD u.p1.At (have u:=St.join u.p4.p4;aY asf u (H':=λ_=>sep (qJ K e.b m.room (o7 t x.ey (g9 m t (dP m x)))) (mZ K p m i.toNat e)) (Φ:=λv _=>v=jr (xL m t x)) (λB E I=>?_) ?_)
   .exact C160 K p m i.toNat e t x ⟨x.kind,x.ey,x.name,ge,gf,x.n,x.body,x.ep,x.at_⟩ B (dP m x) _ E (λw' hc=>V w' (I w' hc).aF) U Z.mem zb (hx.rg bL)
   rintro _ _ rfl u;have u:=u.split;refine aM (x:=(xL m t x:cA)) u.p2 eQ rfl rfl (λ_ u=>?_);have u:=u.p2.p2.p4.p4.p4;rw[G];exact⟨J,u⟩
  refine aG (aC (λk3=>?_) λk3=>?_)
  .have G:(ea m t i x)=(m,pW m t ⟨3,fx m x,dP m x,(eF t x.e).1⟩,⟨3,0,dP m x,(eF t x.e).1,0⟩):=by unfold ea;rw[ei W,ej k3]
   have J:¬ (x.kind=10/\m.eI.getD (fD m x).toNat 0≠i):=bL
   refine aA iV (aB (v:=jr ge) jo u.p1.hb rfl (have u:=u.p3;aY Nq u (H':=λ_=>qJ K e.b m.room t) (Φ:=λv _=>v=.tuple #[ir (eF t x.e).1,.bool (eF t x.e).2]) (λB E I=>?_) ?_))
   .have:=C161 K _ e.b m.room t B _ x.e _ E (λw' hc=>V w' (I w' hc).aF) (QC _ (V _ u.aF)).1 bL bL;rw[ht1]at this;exact this
   rintro _ _ rfl u;refine aO rfl (aO rfl ?_);obtain⟨O,nv,rg,pl,es,Y,u⟩:=eJ.open u;refine aD (aA mj (aB yG u.hb rfl (pop (xJ 3 (fx m x) (dP m x) (eF t x.e).1) (have u:=u.p1;aY RR u (H':=λ_=>iR O m.room (sI m.room t.buf (⟨3,fx m x,dP m x,(eF t x.e).1⟩:bH))) (Φ:=λ_ _=>True) (λB E I=>?_) ?_))))
   .exact(C162 O m.room t.buf (⟨3,fx m x,dP m x,(eF t x.e).1⟩:bH) B _ E bL).mono λ_ _ r=>r.mono λ_ _ h=>⟨trivial,h.2⟩
   rintro _ _ _ u;refine pop (mI 3 (dP m x) (eF t x.e).1) (have u:=eJ.shut (Φ:=λ_=>True) (t:=pW m t (⟨3,fx m x,dP m x,(eF t x.e).1⟩:bH)) Y u.p4.p4.p4.p3.p4;aM (x:=(⟨3,0,dP m x,(eF t x.e).1,0⟩:cA)) u.p1 eQ rfl rfl λw14' u=>?_);have u:=u.p4.p2.p4.p4.p4;rw[G];exact⟨J,u⟩
  refine aG (aC (λk5=>?_) λk5=>?_)
  .have G:(ea m t i x)=(m,pW m t ⟨5,fx m x,0,0⟩,⟨4,0,fx m x,0,0⟩):=by unfold ea;rw[ei W,ei k3,ej k5]
   have J:¬ (x.kind=10/\m.eI.getD (fD m x).toNat 0≠i):=bL
   have u:=u.p3;obtain⟨O,nv,rg,pl,es,Y,u⟩:=eJ.open u;refine aD (aA mj (aB yG u.hb rfl (pop (vO 5 (fx m x)) (have u:=u.p1;aY RR u (H':=λ_=>iR O m.room (sI m.room t.buf (⟨5,fx m x,0,0⟩:bH))) (Φ:=λ_ _=>True) (λB E I=>?_) ?_))))
   .exact(C162 O m.room t.buf (⟨5,fx m x,0,0⟩:bH) B _ E bL).mono λ_ _ r=>r.mono λ_ _ h=>⟨trivial,h.2⟩
   rintro _ _ _ u;refine pop (mY 4 (fx m x)) (have u:=eJ.shut (Φ:=λ_=>True) (t:=pW m t (⟨5,fx m x,0,0⟩:bH)) Y u.p4.p4.p4.p3.p4;aM (x:=(⟨4,0,fx m x,0,0⟩:cA)) u.p1 eQ rfl rfl λw16' u=>?_);have u:=u.p4.p2.p4.p4.p4;rw[G];exact⟨J,u⟩
  refine aG (aC (λk6=>?_) λk6=>?_)
  .have G:(ea m t i x)=(m,pW m t ⟨6,fx m x,0,0⟩,⟨5,0,fx m x,0,0⟩):=by unfold ea;rw[ei W,ei k3,ei k5,ej k6]
   have J:¬ (x.kind=10/\m.eI.getD (fD m x).toNat 0≠i):=bL
   have u:=u.p3;obtain⟨O,nv,rg,pl,es,Y,u⟩:=eJ.open u;refine aD (aA mj (aB yG u.hb rfl (pop (vO 6 (fx m x)) (have u:=u.p1;aY RR u (H':=λ_=>iR O m.room (sI m.room t.buf (⟨6,fx m x,0,0⟩:bH))) (Φ:=λ_ _=>True) (λB E I=>?_) ?_))))
   .exact(C162 O m.room t.buf (⟨6,fx m x,0,0⟩:bH) B _ E bL).mono λ_ _ r=>r.mono λ_ _ h=>⟨trivial,h.2⟩
   rintro _ _ _ u;refine pop (mY 5 (fx m x)) (have u:=eJ.shut (Φ:=λ_=>True) (t:=pW m t (⟨6,fx m x,0,0⟩:bH)) Y u.p4.p4.p4.p3.p4;aM (x:=(⟨5,0,fx m x,0,0⟩:cA)) u.p1 eQ rfl rfl λw18' u=>?_);have u:=u.p4.p2.p4.p4.p4;rw[G];exact⟨J,u⟩
  refine aG (aC (λk7=>?_) λk7=>?_)
  .have G:(ea m t i x)=(m,pW m t ⟨7,0,0,0⟩,⟨6,0,0,0,0⟩):=by unfold ea;rw[ei W,ei k3,ei k5,ei k6,ej k7]
   have J:¬ (x.kind=10/\m.eI.getD (fD m x).toNat 0≠i):=bL
   have u:=u.p3;obtain⟨O,nv,rg,pl,es,Y,u⟩:=eJ.open u;refine aD (aA mj (aB yG u.hb rfl (pop (AH 7) (have u:=u.p1;aY RR u (H':=λ_=>iR O m.room (sI m.room t.buf (⟨7,0,0,0⟩:bH))) (Φ:=λ_ _=>True) (λB E I=>?_) ?_))))
   .exact(C162 O m.room t.buf (⟨7,0,0,0⟩:bH) B _ E bL).mono λ_ _ r=>r.mono λ_ _ h=>⟨trivial,h.2⟩
   rintro _ _ _ u;refine pop (J9 6) (have u:=eJ.shut (Φ:=λ_=>True) (t:=pW m t (⟨7,0,0,0⟩:bH)) Y u.p4.p4.p4.p3.p4;aM (x:=(⟨6,0,0,0,0⟩:cA)) u.p1 eQ rfl rfl λw20' u=>?_);have u:=u.p4.p2.p4.p4.p4;rw[G];exact⟨J,u⟩
  refine aG (aC (λk8=>?_) λk8=>?_)
  .have G:(ea m t i x)=(m,t,⟨7,0,0,0,0⟩):=by unfold ea;rw[ei W,ei k3,ei k5,ei k6,ei k7,ej k8]
   have J:¬ (x.kind=10/\m.eI.getD (fD m x).toNat 0≠i):=bL
   refine pop (J9 7) (aM (x:=(⟨7,0,0,0,0⟩:cA)) u eQ rfl rfl λ_ u=>?_);have u:=u.p4.p4.p4.p4.p4;rw[G];exact⟨J,u⟩
  refine aG (aC (λk4=>?_) λk4=>?_)
  .have G:(ea m t i x)=(rB m t x,o7 t x.ey (jy m.mem (dP m x)),tS m t x):=by unfold ea;rw[ei W,ei k3,ei k5,ei k6,ei k7,ei k8,ej k4]
   have J:¬ (x.kind=10/\m.eI.getD (fD m x).toNat 0≠i):=bL
   refine aE eD u.p1.At (have u:=St.join u.p4.p4;aY asg u (H':=λ_=>sep (qJ K e.b m.room (o7 t x.ey (jy m.mem (dP m x)))) (mZ K p (rB m t x) i.toNat e)) (Φ:=λv _=>v=jr (tS m t x)) (λB E I=>?_) ?_)
   .exact C163 K p m i.toNat e t x ⟨x.kind,x.ey,x.name,ge,gf,x.n,x.body,x.ep,x.at_⟩ B _ E (λw' hc=>V w' (I w' hc).aF) U Z.mem zb (hx.rg bL) mO hxe hv1 hv2
   rintro _ _ rfl u;have u:=u.split;refine aM (x:=(tS m t x:cA)) u.p2 eQ rfl rfl (λ_ u=>?_);have u:=u.p2.p2.p4.p4.p4;rw[G];exact⟨J,u⟩
  have abF:x.kind=9\/x.kind=10:=bL
  obtain⟨j,hj,Cm,_⟩:=lQ (dM.1 (hx.lk abF));have CO:=(kE.1 Cm).1;have hjk:fD m x=(j:Int):=hj;refine aG (aC (λk9=>?_) λk9=>?_)
  .have G:(ea m t i x)=(pA m x i,t,⟨10,0,fD m x,0,0⟩):=by unfold ea;rw[ei W,ei k3,ei k5,ei k6,ei k7,ei k8,ei k4,ej k9]
   have J:¬ (x.kind=10/\m.eI.getD (fD m x).toNat 0≠i):=bL
   have u:=u.p4;obtain⟨a,M,u⟩:=mZ.open u;refine aD (aA rh (aB dX u.hb rfl (dG u.p2 cQ (show 0<=fD m x by omega) (show fD m x<_ by omega) λ_ atw=>iM (i:Int) u.p2 bO atw bL λ_ u=>pop (mY 10 (fD m x)) (have u:=mZ.shut (m:=pA m x i) (⟨⟨M.1.pr,M.1.cs,M.1.ks,M.1.mem,M.1.rc⟩,M.2⟩) u.p4.p4.p2.p4.p4;aM (x:=(⟨10,0,fD m x,0,0⟩:cA)) u.p1 eQ rfl rfl λ_ u=>?_))));have u:=u.p1.p4.p4.p4.p4;rw[G];exact⟨J,u⟩
  have G:(ea m t i x)=(pA m x (-1),t,⟨11,0,fD m x,0,0⟩):=by unfold ea;rw[ei W,ei k3,ei k5,ei k6,ei k7,ei k8,ei k4,ei k9]
  have u:=u.p4;obtain⟨a,M,u⟩:=mZ.open u;have hwl:=u.p2.dS;obtain⟨ov,Tr⟩:=gx m.eI (i:=(fD m x).toNat) bL;have hgd:m.eI.getD (fD m x).toNat 0=ov:=by rw[oi,Tr];rfl
  refine aD (aA rh (aB dX u.hb rfl (aK cQ hwl (show 0<=fD m x by omega) Tr λq69 h69=>aE bO h69 (bW (aC (λc72=>?_) λc72=>?_)))))
  .have u:=u.p4;have u:=xK ((mZ.shut (m:=m) M u.p4.p4.p4.p4).p4);rw[mU ht]at u;refine aY ahP u (H':=λ_=>fm K p {m with fault:=3,iY:=i}) (Φ:=λv _=>v=jr (⟨16,i,3,0,0⟩:cA)) (λB E I=>?_) ?_
   .exact C158 K p m i 3 B _ E
   rintro _ _ rfl u;refine aM (x:=(⟨16,i,3,0,0⟩:cA)) u.p3 eQ rfl rfl (λ_ u=>aE eQ u.At ?_);have u:=u.drop.p1.drop.p1.drop;rw[Oo,ej ⟨bL,by rw[hgd];exact c72⟩];exact⟨rfl,u.mut⟩
  refine aD (aA rh (aB dX u.hb rfl (dG u.p2 cQ (show 0<=fD m x by omega) (show fD m x<_ by omega) λ_ amm=>iM (-1:Int) u.p2 bO amm bL λ_ u=>pop (mY 11 (fD m x)) (have u:=mZ.shut (m:=pA m x (-1)) (⟨⟨M.1.pr,M.1.cs,M.1.ks,M.1.mem,M.1.rc⟩,M.2⟩) u.p4.p4.p2.p4.p4;aM (x:=(⟨11,0,fD m x,0,0⟩:cA)) u.p1 eQ rfl rfl λ_ u=>?_))));have u:=u.p1.p4.p4.p4.p4;rw[G];exact⟨by rw[hgd];exactλh=>c72 h.2,u⟩
 rintro _ ⟨abG,u⟩ _;have aAD:(ea m t i x).2.1.bV=(.cons x xa xb r,en)::p':=by rw[CG];exact BL
 have yP:=CF (m:=m) (t:=t) (i:=i) (x:=x);have amn:sO (Vc (cT m.p) (cH m.p) t.names) (ea m t i x).2.1:=Kp U Z.rm.2
 have abH:yx (cT m.p) (cH m.p) { (ea m t i x).2.1 with bV:=gB (ea m t i x).2.1.bV}:=by
  show sO (Vc _ _ (ea m t i x).2.1.names) _;rw[vW];exact Kq amn
 refine aA R8 (aR u bO (dQ rfl) rfl λ_ u=>have u:=(u.enc (cs':=kp ({ (ea m t i x).2.2 with t:=i}:cA)) rfl).p3;aY Np u (H':=λ_=>qJ K e.b m.room { (ea m t i x).2.1 with bV:=gB (ea m t i x).2.1.bV}) (Φ:=λ_ _=>True) (λB E I=>?_) ?_)
 .exact(C164 K _ e.b m.room (ea m t i x).2.1 B x xa xb r en p' _ E (λw' hc=>V w' (I w' hc).aF) aAD ie (by rw[CG];omega)).mono λ_ _ r=>r.mono λ_ _ h=>⟨trivial,h.2⟩
 rintro _ _ _ u;refine aY ahL u (H':=λ_=>qJ K e.b m.room (um m t i x)) (Φ:=λ_ _=>True) (λB E I=>?_) ?_
 .exact(C117 K e.b m.room { (ea m t i x).2.1 with bV:=gB (ea m t i x).2.1.bV} (um m t i x) _ _ _ B _ E (λw' hc=>V w' (I w' hc).aF) abH (qI abH).1).mono λ_ _ r=>r.mono λ_ _ h=>⟨trivial,h.2⟩
 rintro _ _ _ u;refine aE (x:=({ (ea m t i x).2.2 with t:=i}:cA)) eQ u.p1.At (aM (x:=({ (ea m t i x).2.2 with t:=i}:cA)) u.p3 eQ rfl rfl λ_ u=>aE eQ u.At ?_);have u:=u.drop.p1.drop.p1.drop.p1.p1;rw[<- yP]at u;have u:=xK u;rw[aaQ]at u;rw[Oo,ei abG];exact⟨rfl,u.mut⟩
def C90(K:hM)(p:Nat)(m:gC)(q:cS)(gc:SV)(t:jd)(F:Nat->Prop)(w:World)(hF:(fm K p m).p w F)(hK:∀w',gD F w w'->K w')(gJ:lX m)(mO:MB m.mem 1000000)(h0:0<=q.t)(ht:m.l[q.t.toNat]?=some t) :
   CR 90 [.pointer (some ⟨p,0,none⟩),jr (⟨q.kind,q.t,q.i,gc⟩:dC)] w (λv w'=>v=jr (tj q.t (dF t.buf q.i))/\mT F (fm K p (tq m t q)) w w'):=by
 have u:=St.begin hF;have CA:=kO ht;have iv:=gJ.th t CA;have nw:=(kE.1 ht).1;have GZ:=iv.bl;refine pj Tryz.func90 (pl:=P90) ?_;refine cP (x:=(⟨q.kind,q.t,q.i,gc⟩:dC)) u (λb3 _ u=>aQ u kf λb4 _ u=>?_);have u:=(u.enc (cs':=kp (⟨0,0,0,0,0⟩:cA)) rfl).p2;obtain⟨a,hu,u⟩:=fm.open u;have pD:=u.p4.fG;obtain⟨e,M⟩:=gx a.ps (i:=q.t.toNat) bL;refine⟨λx5 w'=>∃J,x5=.pointer (some ⟨J,0,none⟩)/\St w F [bX J (kp (dF t.buf q.i)),bX b4 (kp (⟨0,0,0,0,0⟩:cA)),bX b3 (kp (⟨q.kind,q.t,q.i,gc⟩:dC)),qJ K e.b m.room ({t with buf:=jL t.buf q.i}),mZ K p m q.t.toNat e] w',?_,?_⟩
 .have u:=u.drew;refine aD (aA mS (aB zz u.hb rfl (aA lz (aB (v:=ir q.t) bO u.p6.hb rfl (dG u.p3 AA h0 (by have:=pD;omega) λq14 Z=>fM u.p3 CV Z M ?_)))));have u:=aac u.p4 M ht;obtain⟨Y,nv,rg,pl,es,hk,u⟩:=eJ.open u;refine aD (aA mj (aB yG u.hb rfl (aA qd (aB (v:=ir q.i) bO u.p11.hb rfl ⟨?_,?_,trivial⟩))))
  .have u:=u.p1;refine aY ago u (H':=λ_=>iR Y m.room (jL t.buf q.i)) (Φ:=λv _=>v=.tuple #[jr (dF t.buf q.i),ir (xF t.buf q.i)]) (λG I V=>?_) ?_
   .exact C155 Y m.room t.buf q.i G _ I bL
   rintro _ _ rfl u;refine aO rfl (aO rfl (aQ u ri λJ _ u=>?_));refine⟨aH zz (u.p7.hb.cell rfl),?_⟩;refine⟨aH bO (u.p12.hb.cell (v:=ir q.t) rfl),?_⟩;refine⟨Sg u.p10 CV Z M,?_⟩;refine⟨aH yG (u.p2.hb.cell rfl),?_⟩;refine⟨aH bO (u.p12.hb.cell (v:=ir q.i) rfl),?_⟩;exact aM (x:=(dF t.buf q.i)) u ij rfl rfl (λ_ u=>have u:=eJ.shut (Φ:=λ_=>True) (t:={t with buf:=jL t.buf q.i}) hk u.p5.p5.p5.p4.p5;have u:=mZ.shut (m:=m) ⟨hu,M,pD,bL⟩ u.p2.p6.p6.p6.p6;have u:=u.p1.p4.p4.p4;⟨J,rfl,u⟩)
  refine aQ u ri (λJ _ u=>?_);refine⟨aH zz (u.p7.hb.cell rfl),?_⟩;refine⟨aH bO (u.p12.hb.cell (v:=ir q.t) rfl),?_⟩;refine⟨Sg u.p10 CV Z M,?_⟩;refine⟨aH yG (u.p1.hb.cell rfl),?_⟩;refine⟨aH bO (u.p12.hb.cell (v:=ir q.i) rfl),?_⟩;have u:=u.p2;refine aY ago u (H':=λ_=>iR Y m.room (jL t.buf q.i)) (Φ:=λv _=>v=.tuple #[jr (dF t.buf q.i),ir (xF t.buf q.i)]) (λG I V=>?_) ?_
  .exact C155 Y m.room t.buf q.i G _ I bL
  rintro _ _ rfl u;exact aO rfl (aO rfl (aM (x:=(dF t.buf q.i)) u.p1 ij rfl rfl λ_ u=>have u:=eJ.shut (Φ:=λ_=>True) (t:={t with buf:=jL t.buf q.i}) hk u.p5.p5.p5.p4.p5;have u:=mZ.shut (m:=m) ⟨hu,M,pD,bL⟩ u.p2.p6.p6.p6.p6;have u:=u.p1.p4.p4.p4;⟨J,rfl,u⟩))
 rintro _ _ ⟨J,rfl,u⟩ _;refine aA gH (aB (v:=ir (dF t.buf q.i).kind) bO u.hb rfl (aG (aC (λc=>?_) λc=>?_)))
 .have u:=u.p4;obtain⟨a,B,u⟩:=mZ.open u;have u:=u.drew;refine aD (aA nQ (aB Dk u.hb rfl (aA mn (aB (v:=ir (dF t.buf q.i).cell) bO u.p5.hb rfl (aA oM (aB (v:=ir (dF t.buf q.i).n) bO u.p5.hb rfl (have u:=u.p1;aY agp u (H':=λ_=>gN a.q a.ov a.fv (fg m.mem (dF t.buf q.i).cell (dF t.buf q.i).n)) (Φ:=λ_ _=>True) (λG I V=>?_) ?_)))))))
  .exact(C156 a.q a.ov a.fv m.mem G _ _ _ I (λw' hc=>B.1.mem _ (hK w' (V w' hc).aF)) gJ.mem mO).mono λ_ _ r=>r.mono λ_ _ h=>⟨trivial,h.2⟩
  rintro _ _ _ u;refine aA lz (aB (v:=ir q.t) bO u.p7.hb rfl (aA mn (aB (v:=ir (dF t.buf q.i).cell) bO u.p5.hb rfl (aA oM (aB (v:=ir (dF t.buf q.i).n) bO u.p5.hb rfl (pop (zd 12 q.t (dF t.buf q.i).cell (dF t.buf q.i).n) (aM (x:=(⟨12,q.t,(dF t.buf q.i).cell,(dF t.buf q.i).n,0⟩:cA)) u.p6 eQ rfl rfl λ_ u=>aE eQ u.At ?_)))))));have U:jM m.mem (dF t.buf q.i)=fg m.mem (dF t.buf q.i).cell (dF t.buf q.i).n:=by unfold jM;rw[ej c]
  have E:tj q.t (dF t.buf q.i)=⟨12,q.t,(dF t.buf q.i).cell,(dF t.buf q.i).n,0⟩:=by unfold tj;rw[ej c]
  have u:=mZ.shut (m:={m with mem:=fg m.mem (dF t.buf q.i).cell (dF t.buf q.i).n}) ⟨⟨B.1.pr,B.1.cs,B.1.ks,λw hw=>(B.1.mem w hw).write,B.1.rc⟩,B.2⟩ u.drop.p6.drop.p5.drop.p4.p4.p4.p3.p4;have u:=xK (m:={m with mem:=fg m.mem (dF t.buf q.i).cell (dF t.buf q.i).n}) (tp:=e) (t:={t with buf:=jL t.buf q.i}) u.p1;have W:tq m t q={ {m with mem:=fg m.mem (dF t.buf q.i).cell (dF t.buf q.i).n}with l:=m.l.set q.t.toNat ({t with buf:=jL t.buf q.i})}:=by unfold tq;rw[U]
  rw[W,E];exact⟨rfl,u.mut⟩
 refine aG (aC (λO=>?_) λO=>?_)
 .refine aA lz (aB (v:=ir q.t) bO u.p2.hb rfl (pop (Il 14 q.t) (aM (x:=(⟨14,q.t,0,0,0⟩:cA)) u.p1 eQ rfl rfl λ_ u=>aE eQ u.At ?_)));have u:=u.p4;obtain⟨a,B,u⟩:=mZ.open u;have U:jM m.mem (dF t.buf q.i)=m.mem:=by unfold jM;rw[ei c,ej O]
  have E:tj q.t (dF t.buf q.i)=⟨14,q.t,0,0,0⟩:=by unfold tj;rw[ei c,ej O]
  have u:=mZ.shut (m:={m with mem:=m.mem}) B u.p5.drop.p6.drop.p5.drop.p4.p4.p4.p4.p4;have u:=xK (m:={m with mem:=m.mem}) (tp:=e) (t:={t with buf:=jL t.buf q.i}) u.p1;have W:tq m t q={ {m with mem:=m.mem}with l:=m.l.set q.t.toNat ({t with buf:=jL t.buf q.i})}:=by unfold tq;rw[U]
  rw[W,E];exact⟨rfl,u.mut⟩
 have u:=u.p4;obtain⟨a,B,u⟩:=mZ.open u;have u:=u.drew;refine aD (aA nQ (aB Dk u.hb rfl (aA gX (aB (v:=ir (dF t.buf q.i).line) bO u.p5.hb rfl (have u:=u.p1;aY anX u (H':=λ_=>gN a.q a.ov a.fv (n7 m.mem (dF t.buf q.i).line)) (Φ:=λ_ _=>True) (λG I V=>?_) ?_)))))
 .exact(C157 a.q a.ov a.fv m.mem G _ _ I (λw' hc=>B.1.mem _ (hK w' (V w' hc).aF)) gJ.mem mO).mono λ_ _ r=>r.mono λ_ _ h=>⟨trivial,h.2⟩
 rintro _ _ _ u;refine aA lz (aB (v:=ir q.t) bO u.p7.hb rfl (aA gX (aB (v:=ir (dF t.buf q.i).line) bO u.p5.hb rfl (pop (tQ 13 q.t (dF t.buf q.i).line) (aM (x:=(⟨13,q.t,(dF t.buf q.i).line,0,0⟩:cA)) u.p6 eQ rfl rfl λ_ u=>aE eQ u.At ?_)))));have U:jM m.mem (dF t.buf q.i)=n7 m.mem (dF t.buf q.i).line:=by unfold jM;rw[ei c,ei O]
 have E:tj q.t (dF t.buf q.i)=⟨13,q.t,(dF t.buf q.i).line,0,0⟩:=by unfold tj;rw[ei c,ei O]
 have u:=mZ.shut (m:={m with mem:=n7 m.mem (dF t.buf q.i).line}) ⟨⟨B.1.pr,B.1.cs,B.1.ks,λw hw=>(B.1.mem w hw).out,B.1.rc⟩,B.2⟩ u.drop.p6.drop.p5.drop.p4.p4.p4.p3.p4;have u:=xK (m:={m with mem:=n7 m.mem (dF t.buf q.i).line}) (tp:=e) (t:={t with buf:=jL t.buf q.i}) u.p1;have W:tq m t q={ {m with mem:=n7 m.mem (dF t.buf q.i).line}with l:=m.l.set q.t.toNat ({t with buf:=jL t.buf q.i})}:=by unfold tq;rw[U]
 rw[W,E];exact⟨rfl,u.mut⟩
def C56(K:hM)(p:Nat)(m:gC)(rF:List cK)(lv:Value)(M:List cB)(F:Nat->Prop)(w:World)(hF:(fm K p m).p w F)(U:∀w',gD F w w'->K w')(hrm:1<=m.room/\m.room<=16)(hlk:(cH m.p).length<=1000)(hl:∀w',gD F w w'->cZ (λ_=>True) w' lv M)(I:Du K M rF)
   (iv:∀t∈rF,yx (cT m.p) (cH m.p) (wG t)/\t.body=(Im t.body).flat) (hn:rF.length<=1000) :
   CR 56 [.pointer (some ⟨p,0,none⟩),lv] w (λv w'=>v=.tuple #[]/\mT F (fm K p (qP m rF)) w w'):=by
 have u:=St.begin hF;have Hu:=I.1;refine pj Tryz.func56 (pl:=P56) ?_;obtain⟨a,G,u⟩:=fm.open u;have pD:=u.p4.fG;refine aD (aA mS (aR u zz (dQ rfl) rfl λ_ u=>aD (aA rh (aR u dX (dQ rfl) rfl λ_ u=>aD (aA Jl (aB je u.hb rfl (aI iu (G.ks _ (U _ u.aF)) ?_)))))));have u:=(((u.p2.drop.p2.drop.p2.drop.eU (α:=Int)).p2).p1).p2;refine⟨λJ x w'=>∃(k:Nat) (ov:Value),x=ir (k:Int)/\J=(cH m.p).length-k/\k<=(cH m.p).length/\St w F [bX p (lC {a with ow:=ov,ll:=.slice none 0 0} m),bF ov (oz k (-1:Int)),gN a.q a.ov a.fv m.mem] w',⟨_,0,_,rfl,rfl,l2 _,u⟩,?_⟩
 rintro J _ _ ⟨k,ov,rfl,rfl,RK,u⟩ _;refine aN (aC (λc=>?_) λc=>?_)
 .refine aD (aA rh (aB dX u.hb rfl (bD ([-1]:List Int) u cQ rfl rfl (dQ rfl) λs27 _ u=>?_)));have amp:=u.dS;exact bJ u.p2 cQ amp (by rw[List.length_replicate,nh];omega) dy (λs28 _ u=>have u:=u.p1.drop;aD (aA rh (aR u.p1 dX (dQ rfl) u.dS.one λ_ u=>aJ bL ⟨_,bL,k+1,s28,rfl,rfl,bL,by rw[List.replicate_succ'];exact u⟩)))
 refine aI fu (hl _ u.aF) ?_;rw[show k=(cH m.p).length from bL]at u;have u:=((((((u.qu (H:=tn K m.room)).eU (α:=Ptr)).p4).p4).p3).p3).p4;refine⟨λJ x w'=>∃(j:Nat) (V:Value) (ps:List Ptr),x=ir (j:Int)/\J=M.length-j/\j<=M.length/\St w F [bX p (lC {a with ow:=ov,ll:=V} m),bF V ps,fR (tn K m.room) ps ((rF.take j).map Vf),bF ov (oz (cH m.p).length (-1:Int)),gN a.q a.ov a.fv m.mem] w',⟨_,0,_,_,rfl,rfl,l2 _,u⟩,?_⟩;rintro J _ _ ⟨j,V,ps,rfl,rfl,hj1,u⟩ _;refine aN (aC (λc2=>?_) λc2=>?_);rotate_left
 .rw[la bL]at u;have u:=u.p2.p2.p3.p4.p4;exact⟨rfl,(fm.shut (m:=qP m rF) (a:={a with ow:=ov,ll:=V,ps:=ps}) ⟨G.pr,G.cs,G.ks,G.mem,G.rc⟩ u).mut⟩
 obtain⟨tv,Rn⟩:=gx M (i:=((j:Nat):Int).toNat) bL;obtain⟨t,ht⟩:=gx rF (i:=j) bL;obtain⟨B,gb,rows,rfl,O,hgb⟩:=I.2 j _ _ Rn ht;obtain⟨W,hbk⟩:=iv t (kO ht);have G6:t.dO.length<=1000:=W.nb;refine aK fu (hl _ u.aF) bL Rn (λq36 Y=>aE m6 Y (aQ u tE λb5 _ u=>aM (x:=(⟨t.name,B,gb,t.at_⟩:cB)) u m6 rfl rfl λ_ u=>aD (aA ac2 (aB bO u.p1.hb rfl (dR anJ (C49 m.room _) ?_)))));rintro v43 _ hh;obtain⟨_,_,b43,rfl,cE⟩:=hh.resolve_left (λ_=>bL);have u:=u.made cE;refine aO rfl (aO rfl (have u:=u.drew;aA fS (aB (v:=jr B) je u.p1.hb rfl (aA fS (aB (v:=jr B) je u.p1.hb rfl (aI iu (O _ (U _ u.aF)) (uD (0:Int) u cQ tB bL bL dy λs52 _ u=>?_)))))))
 rw[tx]at u;refine⟨aH je (u.p2.hb.cell (v:=jr B) rfl),?_⟩;obtain⟨Z,rfl⟩:=u.fK;refine pop (Kb (some ⟨b43,0,none⟩) B.a B.n B.cap Z.a Z.n Z.cap) (jZ u λE _ u=>have u:=(u.eU (α:=sP)).gE (Φ:=λw=>vN K w [] []/\True) (λ_=>⟨trivial,trivial⟩);have u:=eJ.shut (Φ:=λ_=>True) (t:=(⟨t.dO,oz t.dO.length 0,[],0,[]⟩:jd)) (es:=[]) O u.p1.p3.p4.p4;aA lG (aB (v:=jr gb) jG u.p1.hb rfl (aY No u (H':=λ_=>qJ K E m.room (wG t)) (Φ:=λ_ _=>True) (λF2 ek dU=>?_) ?_)))
 .exact(C116 K _ E m.room ⟨t.dO,oz t.dO.length 0,[],0,[]⟩ F2 gb rows (Im t.body) false _ ek (λw' hc=>U w' (dU w' hc).aF) (λw _=>by rw[<- hbk];exact hgb w) (show(0:Nat)<=100000 by decide)).mono λ_ _ r=>r.mono λ_ _ h=>⟨trivial,h.2⟩
 rintro _ _ _ u;refine aY ahL u (H':=λ_=>qJ K E m.room (Vf t)) (Φ:=λ_ _=>True) (λF2 ek dU=>?_) ?_
 .exact(C117 K E m.room (wG t) (Vf t) _ _ _ F2 _ ek (λw' hc=>U w' (dU w' hc).aF) W (qI W).1).mono λ_ _ r=>r.mono λ_ _ h=>⟨trivial,h.2⟩
 rintro _ _ _ u;refine aD (aA mS ?_);have ng:=u.p4.fG;rw[mW,l9]at ng;refine aB zz u.p2.hb rfl (bD ([(⟨E⟩:Ptr)]) u AA rfl rfl (dQ rfl) λs67 _ u=>?_);have abI:=u.dS;exact bJ u.p4 AA abI (by simp;omega) dy (λs68 _ u=>have u:=u.p1.drop;aD (aA mS (aR u.p3 zz (dQ rfl) u.dS.one λ_ u=>have u:=(((St.AN (H:=tn K m.room) (p:=⟨E⟩) (x:=Vf t) u.p3.drop.p2.p3).p4).p4).p2;have u:=u.p4.p4;aJ bL ⟨_,bL,j+1,s68,ps++[⟨E⟩],rfl,rfl,bL,by rw[<- fV (k:=j) ht];exact u⟩)))
def ThK.mono{K K2:hM}{E:cB}{t:cK}(h:ThK K E t)(B:∀w,K2 w->K w):ThK K2 E t:=by
 obtain⟨G,I,rows,e,h1,h2⟩:=h
 exact⟨G,I,rows,e,λw u=>h1 w (B w u),λw=>⟨λw' u=>(h2 w).1 w' (B w' u),λu=>(h2 w).2 (B w u)⟩⟩
def Du.mono{K K2:hM}{u:List cB}{rF:List cK}(h:Du K u rF)(E:∀w,K2 w->K w):Du K2 u rF:=⟨h.1,λj B t h1 h2=>(h.2 j B t h1 h2).mono E⟩
def Ef{p:cR}(hc:IC p){t:cK}(ht:t∈gl p):t.body=(Im t.body).flat:=by
 obtain⟨_,h2,_⟩:=hc.f.rF ht
 obtain⟨_,_,b,h5,h6,_⟩:=lr h2
 rw[h5,N6 h6]
def IS(K:hM)(lv:SV)(rF:List cK):Prop:=∃u,(∀w,K w->cZ (λ_=>True) w (jr lv) u)/\Du K u rF
structure PrK(K:hM)(pv:bP)(p:cR):Prop where
 pr:∀w,K w->n5 w pv p
 th:IS K pv.threads p.threads
 rc:IS K pv.recover p.recover
def crD(m:gC)(q:cS):gC:=match iS m q with|some u=>{m with mem:=mF m.mem u}|none=>m
def Eg(m:Mem)(cut:List Int)(v:Value)(B:Mem):Prop:=(fh m cut=none/\B=m/\v=ir 1)\/∃u,fh m cut=some u/\B=mF m u/\v=ir 0
def Ro{m:Mem}{cut:List Int}{v:Value}{p:Nat}{ov fv:Value}{F:Nat->Prop}{w w':World}
  (h:(fh m cut=none/\v=ir 1/\mT F (gN p ov fv m) w w')\/∃u,fh m cut=some u/\v=ir 0/\mT F (gN p ov fv (mF m u)) w w') :
  True/\mT F (oO λE=>fact (Eg m cut v E) (gN p ov fv E)) w w':=by
 refine⟨trivial,?_⟩
 rcases h with⟨h1,h2,B,h3,h4,h5⟩|⟨u,h1,h2,B,h3,h4,h5⟩
 .exact⟨B,⟨m,.inl ⟨h1,rfl,h2⟩,h3⟩,h4,h5⟩
 exact⟨B,⟨mF m u,.inr ⟨u,h1,rfl,h2⟩,h3⟩,h4,h5⟩
theorem ah8(K:hM):Du K [(⟨⟨#[]⟩,cG,cG,0⟩:cB)] [⟨⟨#[]⟩,[],[],0⟩]:=by
 refine⟨rfl,λj u t h1 h2=>?_⟩
 cases j with
 | zero=>
  cases h1;cases h2
  exact⟨cG,cG,[],rfl,λw _=>cZ.nil _ w,λw=>⟨λ_ _=>gd.nil,λ_=>cZ.nil _ w⟩⟩
 | succ j=>simp at h1
def aAF:PL 89:=dJ Tryz.func89
def C12(K:hM)(p:cR)(pv:bP)(room:Int)(w:World)(J:∀w',Ext w w'->K w')(I:PrK K pv p)(O:PZ p):CR 12 [jr pv,ir room] w (λv w'=>(fr p≠0/\v=.tuple #[.pointer none,ir (fr p)]/\Ext w w')\/(fr p=0/\(room<1\/16<room)/\v=.tuple #[.pointer none,ir 1]/\Ext w w')\/
  (fr p=0/\(1<=room/\room<=16)/\∃(b:Nat) (X:hM),v=.tuple #[.pointer (some ⟨b,0,none⟩),ir 0]/\lf (sep (fm (λw=>K w/\X w) b (Bp p room)) (eC X)) w w')):=by
 have u:=St.start w;refine akF _ _ _ _ ?_;unfold S12;refine cP (x:=pv) u (λbp w1 u=>aE fp u.At (dR ayH (C48 p pv _ (I.pr _ (J _ u.aF)) O) ?_));rintro _ _ ⟨aa,rfl,W⟩;have u:=u.ext W;refine aO rfl (aO rfl (bW (aC (λc=>?_) λc=>?_)))
 .exact .inl ⟨c,rfl,u.drop.aF⟩
 have yt:fr p=0:=bL
 have Z:=Ea yt;have Ia:=aaU Z;have Ag:=BA p;refine dR anJ (C49 room _) ?_;rintro v3 _ hh
 rcases hh with⟨hrb,rfl,W⟩|⟨GQ,GH,b3,rfl,V⟩
 .have u:=u.ext W;exact aO rfl (aO rfl (bW (qf dy (.inr (.inl ⟨yt,hrb,rfl,u.drop.aF⟩)))))
 have u:=(u.made V).drop;refine aO rfl (aO rfl (bW (eO dy (have u:=u.drew;aE fp u.At (aE fp u.At (aE fp u.At (dB ayh u (C50 p pv _ (I.pr _ (J _ u.aF)) O) λx31 _ V u=>?_)))))));refine⟨fq fp u.p1.At,?_⟩;refine⟨fq fp u.p1.At,?_⟩;refine dB ayi u (C51 p pv _ (I.pr _ (J _ u.aF)) O) (λx33 _ V u=>?_);refine⟨fq fp u.p2.At,?_⟩;obtain⟨E,rfl⟩:=u.fK;obtain⟨G,rfl⟩:=u.p1.fK;refine pop (G7 _ _ _ _ _ _ _ _ _ _ _ _ _ _ _ _ _ _ _ _ _ _ _ _ _) (jZ u λB w6 u=>aD (aA Jk (aB je u.hb rfl (aI iu u.p2.dS ?_))))
 have u:=u.eU (α:=Int);have hcs:St w aX [bF (.slice none 0 0) ([]:List Int),bX B (lC ⟨pv,G,E,0,.slice none 0 0,.slice none 0 0,.slice none 0 0,.slice none 0 0,[]⟩ (xM p room) |>.set 9 (.pointer none)),bF (jr E) (cH p),bF (jr G) (cT p),bX bp (kp pv)] w6:=u;refine⟨λmm o y w1=>∃k:Nat,y=ir (k:Int)/\mm=(cT p).length-k/\k<=(cT p).length/\St w aX [bF o ((Bo p).take k),bX B (lC ⟨pv,G,E,0,.slice none 0 0,.slice none 0 0,.slice none 0 0,.slice none 0 0,[]⟩ (xM p room) |>.set 9 (.pointer none)),bF (jr E) (cH p),bF (jr G) (cT p),bX bp (kp pv)] w1,⟨_,0,rfl,rfl,l2 _,hcs⟩,?_⟩
 rintro mm o _ _ ⟨k,rfl,rfl,hk,u⟩ _;have GI:(Bo p).length=(cT p).length:=by unfold Bo;rw[mW,List.length_range]
 refine aN (aC (λc1=>?_) λc1=>?_)
 .refine aE fp u.p4.At (aV ari u (C52 p pv (k:Int) _ (I.pr _ (J _ u.aF)) O) λ_ W u=>bD ([pw p (k:Int)]:List Int) u cQ rfl rfl (dQ rfl) λs49 _ u=>?_);have amq:=u.dS;exact bJ u.p1 cQ amq (by rw[l9,nh];omega) dy (λ_ _ u=>aJ bL ⟨_,bL,k+1,rfl,rfl,bL,by rw[<- gg (Kv (p:=p) (i:=k) bL)];exact u.p1.drop⟩)
 rw[la bL]at u;have u:=u.drew;refine aE fp u.p4.At (aE fp u.p4.At (aV arh u (C54 p pv _ (I.pr _ (J _ u.aF)) O) λ_ W u=>?_));refine⟨fq fp u.p4.At,?_⟩;refine dB ayj u (C55 p pv _ (I.pr _ (J _ u.aF)) O) (λx58 _ V u=>?_);have ie:=vi p;have td:(fB p).length=(iJ p).length:=by unfold fB;rw[mW]
 refine dR azg (C53 (Bo p) (fB p) (eL p) _ _ _ u.p1.dS u.dS bL bL bL λk n h1 h2=>?_) ?_
 .have h3:=Rb Z h1 h2;have h4:=(kE.1 h2).1;exact⟨h3.1,bL,bL⟩
 rintro v59 _ ⟨q,ov,fv,rfl,V⟩;have u:=((u.made V).split).p1.split;refine aO rfl (aO rfl (aD (aA nQ (aR u.p5 Dk (dQ rfl) rfl λM u=>aA kD (aB (v:=jr pv.threads) iq u.p8.hb rfl ?_)))));have u:=u.p8.drop.p5.drop.p4.drop.p3.freeze.p2.freeze.fX.p3.freeze.fX.p3.freeze.fX;obtain⟨U,u,Y⟩:=u.Th;have u:=u.qu (H:=tn (λw=>K w/\ke U M w) room);have u:=(u.eU (α:=Ptr)).eU (α:=Int)
 have u:St w aX (bX B (lC ⟨pv,G,E,q,jr ov,jr fv,.slice none 0 0,.slice none 0 0,[]⟩ (xM p room))::gN q (jr ov) (jr fv) (J4 (Bo p) (eL p) (fB p))::bF (.slice none 0 0) ([]:List Int)::bF (.slice none 0 0) ([]:List Ptr)::fR (tn (λw=>K w/\ke U M w) room) [] []::eC (ke U M)::[]) M:=by
  have h1:=u.p5.p5;exact h1
 obtain⟨vP,ht1,ht2⟩:=I.th;obtain⟨Wr,QS,hr4⟩:=I.rc;have u:=fm.shut (K:=(λw=>K w/\ke U M w)) (m:=xM p room) ⟨λw' h=>I.pr w' h.1,λw' h=>?_,λw' h=>?_,λw' h=>⟨?_,?_⟩,⟨Wr,λw' h=>QS w' h.1,hr4.mono λ_ h=>h.1⟩⟩ u;rotate_left
 .have:=Y w' h.2;first|exact this.1|exact this.2|exact this.2.1|exact this.2.2|exact this.2.2.1|exact this.2.2.2
 .have:=Y w' h.2;first|exact this.1|exact this.2|exact this.2.1|exact this.2.2|exact this.2.2.1|exact this.2.2.2
 .have:=Y w' h.2;first|exact this.1|exact this.2|exact this.2.1|exact this.2.2|exact this.2.2.1|exact this.2.2.2
 .have:=Y w' h.2;first|exact this.1|exact this.2|exact this.2.1|exact this.2.2|exact this.2.2.1|exact this.2.2.2
 refine aY ash u (H':=λ_=>fm (λw=>K w/\ke U M w) B (Bp p room)) (Φ:=λ_ _=>True) (λF2 ek dU=>?_) ?_
 .exact(C56 (λw=>K w/\ke U M w) B (xM p room) p.threads _ vP F2 _ ek (λw' hc=>⟨J _ (dU w' hc).aF,(dU w' hc).eC⟩) ⟨GQ,GH⟩ (by have:=O.eE;show(cH p).length<=_;unfold cH;rw[mW];omega) (λw' hc=>ht1 w' (J _ (dU w' hc).aF)) (ht2.mono λ_ h=>h.1)
   (λ_ ht=>⟨Eb Z (List.mem_append_left _ ht),Ef Z (List.mem_append_left _ ht)⟩) (by have:=O.threads;omega)).mono λ_ _ r=>r.mono λ_ _ h=>⟨trivial,h.2⟩
 rintro _ _ _ u;exact .inr (.inr ⟨yt,⟨GQ,GH⟩,B,ke U M,rfl,(St.join u).fresh⟩)
theorem C24(K:hM)(p:Nat)(m:gC)(q:cS)(E:SV)(F:Nat->Prop)(w:World)(hF:(fm K p m).p w F)(Z:∀w',gD F w w'->K w')(V:lX m)(wK:IC m.p)(mO:MB m.mem 1000000)(hcb:0<=m.dz/\m.dz<=1000000)(Dz:∀w',gD F w w'->cZ (λ_=>True) w' (jr E) q.cut)(hql:q.cut.length<=1000) :
   CR 24 [.pointer (some ⟨p,0,none⟩),jr (⟨q.kind,q.t,q.i,E⟩:dC)] w (λv w'=>v=.tuple #[jr (kx m q).2.1,ir (kx m q).2.2]/\mT F (fm K p (kx m q).1) w w'):=by
 have u:=St.begin hF;refine pj Tryz.func24 (pl:=P24) ?_;refine cP (x:=(⟨q.kind,q.t,q.i,E⟩:dC)) u (λb3 w1 u=>aQ u kf λb4 _ u=>?_);have u:=u.enc (cs':=kp (⟨0,0,0,0,0⟩:cA)) rfl;refine⟨λjv w'=>jv=.bool (iS m q).isSome/\St w F [fm K p (crD m q),bX b4 (kp (⟨0,0,0,0,0⟩:cA)),bX b3 (kp (⟨q.kind,q.t,q.i,E⟩:dC))] w',?_,?_⟩
 .have u:=u.drew
  have er:∀w',iS m q=none->St w F [fm K p m,bX b4 (kp (⟨0,0,0,0,0⟩:cA)),bX b3 (kp (⟨q.kind,q.t,q.i,E⟩:dC))] w'->(Value.bool false=.bool (iS m q).isSome/\St w F [fm K p (crD m q),bX b4 (kp (⟨0,0,0,0,0⟩:cA)),bX b3 (kp (⟨q.kind,q.t,q.i,E⟩:dC))] w'):=λw' h1 h2=>by
   have e:crD m q=m:=by unfold crD;rw[h1]
   rw[h1,e];exact⟨rfl,h2⟩
  have Wi:iS m q=(if q.kind=3/\q.t=0/\q.i=0/\m.fault=0 then fh m.mem q.cut else none):=rfl;refine aA qc (aB (v:=ir q.kind) bO u.p1.hb rfl (aG (aC (λc1=>?_) λ_=>er _ (by rw[Wi,ei bL]) u.p2)));refine aA lz (aB (v:=ir q.t) bO u.p1.hb rfl (aG (aC (λW=>?_) λ_=>er _ (by rw[Wi,ei bL]) u.p2)));refine aA qd (aB (v:=ir q.i) bO u.p1.hb rfl (aG (aC (λc3=>?_) λ_=>er _ (by rw[Wi,ei bL]) u.p2)));have u:=u.p2;obtain⟨a,B,u⟩:=fm.open u;have pD:=u.p4.fG;refine aD (aA vy (aB bO u.hb rfl (aG (aC (λc4=>?_) λ_=>er _ (by rw[Wi,ei bL]) (fm.shut B u)))))
  have hpi:iS m q=fh m.mem q.cut:=by rw[Wi,ej ⟨c1,W,c3,c4⟩]
  refine aD (aA nQ (aB Dk u.hb rfl (aA nP (aB (v:=jr (E:SV)) dX u.p6.hb rfl (have u:=u.p1;aY avS u (H':=λv=>oO λm2=>fact (Eg m.mem q.cut v m2) (gN a.q a.ov a.fv m2)) (Φ:=λ_ _=>True) (λU Y I=>?_) ?_)))))
  .exact(C86 a.q a.ov a.fv m.mem U q.cut _ _ Y (λw' hc=>B.mem _ (Z w' (I w' hc).aF)) V.mem mO (λw' hc=>Dz w' (I w' hc).aF) hql).mono λ_ _ r=>r.mono λ_ _ h=>Ro h
  rintro v34 _ _ xE;obtain⟨m2c,zh⟩:=xE.dK
  clear xE
  obtain⟨hcf,D8⟩:=zh.j4
  clear zh
  rcases hcf with⟨O,rfl,rfl⟩|⟨G,O,rfl,rfl⟩
  .have u:=D8;exact aG (have u:=u.p4.p4.p4.p3.p4;er _ (hpi.trans O) (fm.shut B u))
  have u:=D8;refine aG ?_;have M:=hpi.trans O;have e:crD m q={m with mem:=mF m.mem G}:=by unfold crD;rw[M]
  rw[M,e];have u:=u.p4.p4.p4.p3.p4;exact⟨rfl,fm.shut (m:={m with mem:=mF m.mem G}) ⟨B.pr,B.cs,B.ks,B.mem,B.rc⟩ u⟩
 rintro _ _ ⟨rfl,u⟩ _;refine aW (λc=>?_) (λc=>?_)
 .obtain⟨G,M⟩:=Option.isSome_iff_exists.1 c;have e:crD m q={m with mem:=mF m.mem G}:=by unfold crD;rw[M]
  have J:kx m q=(qP (o9 m G) (vf m),⟨15,0,0,qF q.cut q.cut.length,0⟩,0):=by unfold kx;rw[M]
  rw[e]at u;rw[J];obtain⟨a,B,u⟩:=fm.open u;have pD:=u.p4.fG;refine aD (aA Jm (aB bO u.hb rfl (aJ (show -9223372036854775808<=m.dz+1/\m.dz+1<=9223372036854775807 by omega) (aD (aA Jm (aR u bO (dQ rfl) rfl λ_ u=>?_))))));obtain⟨Wr,QS,hr4⟩:=id B.rc;have G6:=hr4.1;refine aD (aA DI (aA oI (aB iq u.hb rfl ?_)));have u:=(fm.shut (m:=o9 m G) ⟨B.pr,B.cs,B.ks,B.mem,B.rc⟩ u.p4.p4.p4.p4.p4).p2;have u:=u.p2.p2;refine⟨λjv w'=>∃vP,Du K vP (vf m)/\St w F [eC (λw=>K w->cZ (λ_=>True) w jv vP),fm K p (o9 m G),bX b4 (kp (⟨0,0,0,0,0⟩:cA)),bX b3 (kp (⟨q.kind,q.t,q.i,E⟩:dC))] w',?_,?_⟩
  .refine aI fu (QS _ (Z _ u.aF)) (aG (aC (λW=>?_) λW=>?_))
   .refine pop (v:=jr (⟨⟨#[]⟩,cG,cG,0⟩:cB)) (by kernel_rfl) (bD ([⟨⟨#[]⟩,cG,cG,0⟩]:List cB) u fu rfl rfl (dQ rfl) λs54 _ u=>?_);refine⟨_,?_,u.freeze.dH (Ψ:=λw=>K w->cZ (λ_=>True) w s54 [(⟨⟨#[]⟩,cG,cG,0⟩:cB)]) λ_ h _=>h⟩;have V5:vf m=[⟨⟨#[]⟩,[],[],0⟩]:=by unfold vf;rw[ej (by have:Wr.length=m.p.recover.length:=G6;omega)]
    rw[V5];exact ah8 K
   have V5:vf m=m.p.recover:=by unfold vf;rw[ei (by have:Wr.length=m.p.recover.length:=G6;omega)]
   exact⟨Wr,by rw[V5];exact hr4,u.gE λw h=>QS w h⟩
  rintro rv _ ⟨vP,htv,u⟩ _;obtain⟨aAH,amr⟩:=Ku wK;refine aY ash u.p1 (H':=λ_=>fm K p (qP (o9 m G) (vf m))) (Φ:=λ_ _=>True) (λU Y I=>?_) ?_
  .refine(C56 K p (o9 m G) (vf m) _ vP U _ Y (λw' hc=>Z w' (I w' hc).aF) V.rm (by have:=V.pz.eE;show(cH m.p).length<=_;unfold cH;rw[mW];omega) (λw' hc=>(I w' hc).eC (Z w' (I w' hc).aF)) htv (λt ht=>⟨amr t ht,?_⟩) bL).mono λ_ _ r=>r.mono λ_ _ h=>⟨trivial,h.2⟩;unfold vf at ht
   split at ht
   .rw[vS.1 ht];rfl
   exact Ef wK (List.mem_append_right _ ht)
  rintro _ _ _ u;exact aA nP (aB (v:=jr (E:SV)) dX u.p3.hb rfl (aV aze u (C87 _ q.cut _ (Dz _ u.aF) bL) λ_ _ u=>pop (rI 15 (qF q.cut q.cut.length)) (aM (x:=(⟨15,0,0,qF q.cut q.cut.length,0⟩:cA)) u.p2 eQ rfl rfl λ_ u=>aE eQ u.At ⟨rfl,u.p3.drop.drop.p1.drop.mut⟩)))
 have M:iS m q=none:=by
  cases h:iS m q with
  | none=>rfl
  | some G=>rw[h]at c;cases c
 have e:crD m q=m:=by unfold crD;rw[M]
 have J:kx m q=(if (eW m).any (nd q)=true then(if q.kind=2 then(match m.l[q.t.toNat]? with|some t=>((tq m t q,tj q.t (dF t.buf q.i),0):gC×cA×Int)|none=>(m,⟨0,0,0,0,0⟩,13))else((im m q.t).1,(im m q.t).2,0))else(m,⟨0,0,0,0,0⟩,13)):=by unfold kx;rw[M];rfl
 rw[e]at u;refine dB aeY u (C67 K p m _ u.has (λ_ e=>Z _ (u.aF.then e)) V) (λx64 _ cE u=>?_);have hpk:=u.p3.At
 have hfn:tI hH _ (.func (.func 88) [].toArray [.pointer (some ⟨b3,0,none⟩)].toArray) (λ_:cS=>True) (nd q):=
  ⟨88,[],_,rfl,azd,λsx y w1 e1 hd2 _=>C88 y q sx b3 (⟨q.kind,q.t,q.i,E⟩:dC) w1 hd2 (hpk.ext e1) ⟨E,rfl,DL.ki (Dz _ (u.aF.then e1))⟩⟩
 refine aV aAF u (C89 _ _ _ (λ_=>True) _ _ u.dl hfn (λ_ _=>trivial) (by have:=vQ V;omega)) (λ_ he u=>have u:=u.drop;bN (aW (λW=>?_) λW=>?_))
 .rw[J,ei (by simpa using W)];exact pop J8 (aM (x:=(⟨0,0,0,0,0⟩:cA)) u.p1 eQ rfl rfl λ_ u=>aE eQ u.At ⟨rfl,u.drop.p1.drop.mut⟩)
 have wL:(eW m).any (nd q)=true:=by simpa using W
 obtain⟨hf0,h0,_,t,ht,hkd⟩:=alL wL;rw[J,ej wL];refine aA qc (aB (v:=ir q.kind) bO u.p2.hb rfl (aG (aC (λc3=>?_) λc3=>?_)))
 .rw[ej c3,ht];refine aE oB u.p2.At (aY azc u (H':=λ_=>fm K p (tq m t q)) (Φ:=λv _=>v=jr (tj q.t (dF t.buf q.i))) (λU Y I=>?_) ?_)
  .exact C90 K p m q E t U _ Y (λw' hc=>Z w' (I w' hc).aF) V mO h0 ht
  rintro _ _ rfl u;exact aM (x:=tj q.t (dF t.buf q.i)) u.p1 eQ rfl rfl (λ_ u=>aE eQ u.At ⟨rfl,u.drop.p1.drop.mut⟩)
 rw[ei c3]
 have uo:sQ m t=true:=by
  rcases hkd with h|h
  .exact h.2
  .exact absurd h.1 c3
 refine aA lz (aB (v:=ir q.t) bO u.p2.hb rfl (aY azb u (H':=λ_=>fm K p (im m q.t).1) (Φ:=λv _=>v=jr (im m q.t).2) (λU Y I=>?_) ?_))
 .exact C91 K p m q.t t U _ Y (λw' hc=>Z w' (I w' hc).aF) V mO h0 ht (λ_=>N7 uo)
 rintro _ _ rfl u;exact aM (x:=(im m q.t).2) u.p1 eQ rfl rfl (λ_ u=>aE eQ u.At ⟨rfl,u.drop.p1.drop.mut⟩)
end Go.Proofs.YtpdlpabnlkofmaaGreatDoor
