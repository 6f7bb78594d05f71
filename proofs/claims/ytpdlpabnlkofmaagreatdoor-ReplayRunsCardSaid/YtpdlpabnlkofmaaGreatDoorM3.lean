/-
  Part 3.
-/
import Derived.Test.YtpdlpabnlkofmaaGreatDoorM2
set_option maxHeartbeats 8000000
set_option linter.all false
set_option maxRecDepth 100000
namespace Go.Proofs.YtpdlpabnlkofmaaGreatDoor
open Go.Fw
inductive Bk where
 | nil
 | cons (x:bN) (a b r:Bk)
namespace Bk
def flat:Bk->List bN|nil=>[]|cons x a b r=>x::(a.flat++(b.flat++r.flat))
def len:Bk->Nat|nil=>0|cons _ a b r=>a.len+b.len+r.len+1
def str:Bk->Prop|nil=>True|cons x a b r=>x.body=a.len/\x.eo=b.len/\a.len<=40/\b.len<=40/\a.str/\b.str/\r.str
def CY(x:bN)(loops:Int):Int:=if x.kind=12 then loops+1 else loops
def yR(x:bN):Bool:=decide (x.kind=11\/x.kind=12)
def xC(x:bN)(loops:Int):Bool:=decide ((x.body<=0\/x.kind=11\/x.kind=12)/\(x.eo<=0\/x.kind=11)/\(¬ x.kind=13\/¬ loops=0))
def ok:Bk->Int->Bool|nil,_=>true|cons x a b r,n=>xC x n&&a.ok (CY x n)&&b.ok (CY x n)&&r.ok n
def depth:Bk->Int|nil=>0|cons x a b r=>if yR x then max (max (1+a.depth) (1+b.depth)) r.depth else r.depth
end Bk
theorem Bk.cY(t:Bk):t.flat.length=t.len:=by
 induction t with
 | nil=>rfl
 | cons x a b r Is It ihr=>grind[flat,len]
theorem Bk.An(t:Bk):0<=t.depth/\t.depth<=t.len:=by
 induction t with
 | nil=>simp[Bk.depth,Bk.len]
 | cons x a b r Is It ihr=>
  grind[depth,len]
def UG:Nat->List bN->Option Bk
 | _,[]=>some .nil
 | 0,_::_=>none
 | n+1,x::l=>
  if 0<=x.body/\0<=x.eo/\x.body<=40/\x.eo<=40/\x.body+x.eo<=l.length then
   match UG n (l.take x.body.toNat),UG n ((l.drop x.body.toNat).take x.eo.toNat),UG n (l.drop (x.body.toNat+x.eo.toNat))with
   | some a,some b,some r=>some (.cons x a b r)
   | _,_,_=>none
  else none
theorem xD:∀n l t,UG n l=some t->l=t.flat/\t.str
 | _,[],t,h=>by
  have h:some Bk.nil=some t:=by unfold UG at h;exact h
  cases h;exact⟨rfl,trivial⟩
 | 0,x::l,t,h=>by cases h
 | n+1,x::l,t,h=>by
  unfold UG at h
  split at h
  ·rename_i hb
   obtain⟨h1,h2,h3,h4,h5⟩:=hb
   cases ha:UG n (l.take x.body.toNat)with
   | none=>grind
   | some a=>
    cases hb:UG n ((l.drop x.body.toNat).take x.eo.toNat)with
    | none=>grind
    | some b=>
     cases hr:UG n (l.drop (x.body.toNat+x.eo.toNat))with
     | none=>grind
     | some r=>
      rw[ha,hb,hr]at h
      cases h
      obtain⟨a1,a2⟩:=xD n _ _ ha
      obtain⟨b1,b2⟩:=xD n _ _ hb
      obtain⟨r1,r2⟩:=xD n _ _ hr
      have la:=congrArg List.length a1
      have lb:=congrArg List.length b1
      rw[Bk.cY,List.length_take]at la
      rw[Bk.cY,List.length_take,List.length_drop]at lb
      refine⟨?_,by omega,by omega,by omega,by omega,a2,b2,r2⟩
      unfold Bk.flat
      rw[<- a1,<- b1,<- r1,<- List.drop_drop,List.take_append_drop,List.take_append_drop]
  ·cases h
theorem Ws(t:Bk):t.str->∀n,t.len<=n->UG n t.flat=some t:=by
 induction t with
 | nil=>intro _ n _;cases n<;>rfl
 | cons x a b r Is It ihr=>
  intro h n hn
  obtain⟨h1,h2,h3,h4,ha,hb,hr⟩:=h
  cases n with
  | zero=>simp[Bk.len]at hn
  | succ n=>
   have hn:a.len+b.len+r.len<=n:=by simp[Bk.len]at hn;omega
   have la:=a.cY
   have lb:=b.cY
   unfold Bk.flat UG
   rw[if_pos ⟨by omega,by omega,by omega,by omega,by grind⟩,show x.body.toNat=a.flat.length from by omega,List.take_left,List.drop_left,show x.eo.toNat=b.flat.length from by omega,List.take_left,<- List.drop_drop,List.drop_left,List.drop_left,
    Is ha n (by omega),It hb n (by omega),ihr hr n (by omega)]
def sM(l:List bN):Option Bk:=UG l.length l
theorem nR{l:List bN}{t:Bk}(h:sM l=some t):l=t.flat/\t.str:=xD _ _ _ h
theorem rq{t:Bk}(h:t.str):sM t.flat=some t:=Ws t h _ (by rw[Bk.cY];omega)
def fx(l:List bN)(loops:Int):Int:=match sM l with|some t=>if t.ok loops then t.depth else -1|none=>-1
theorem Bs(loops:Int):fx [] loops=0:=rfl
theorem tg(l:List bN)(loops:Int) : -1<=fx l loops/\fx l loops<=l.length:=by
 unfold fx
 cases h:sM l with
 | none=>grind
 | some t=>
  obtain⟨rfl,_⟩:=nR h
  have:=t.An
  simp only[Bk.cY]
  omega
def uy(x:bN)(l:List bN):Prop:=0<=x.body/\0<=x.eo/\x.body<=40/\x.eo<=40/\x.body+x.eo<=l.length
theorem Th{x:bN}{l:List bN}{loops:Int}(h:¬ (uy x l/\Bk.xC x loops=true)):fx (x::l) loops = -1:=by
 unfold fx
 cases hb:sM (x::l)with
 | none=>rfl
 | some t=>
  obtain⟨he,hs⟩:=nR hb
  cases t with
  | nil=>cases he
  | cons y a b r=>
   obtain⟨rfl,rfl⟩:=List.cons.inj he
   obtain⟨h1,h2,h3,h4,_⟩:=hs
   have:Bk.xC x loops=false:=by
    cases hk:Bk.xC x loops with
    | false=>rfl
    | true=>exact absurd ⟨⟨by omega,by omega,by omega,by omega,by simp[Bk.cY];omega⟩,hk⟩ h
   have h:(Bk.cons x a b r).ok loops=false:=by unfold Bk.ok;grind
   grind
theorem Ea{x:bN}{l:List bN}{loops:Int}(h:uy x l)(ho:Bk.xC x loops=true) :
  fx (x::l) loops=(let A:=fx (l.take x.body.toNat) (Bk.CY x loops);let B:=fx ((l.drop x.body.toNat).take x.eo.toNat) (Bk.CY x loops);let R:=fx (l.drop (x.body.toNat+x.eo.toNat)) loops
   if A<0\/B<0\/R<0 then -1 else if Bk.yR x then max (max (1+A) (1+B)) R else R):=by
 obtain⟨h1,h2,h3,h4,h5⟩:=h
 have e:l=l.take x.body.toNat++((l.drop x.body.toNat).take x.eo.toNat++l.drop (x.body.toNat+x.eo.toNat)):=by
  rw[<- List.drop_drop,List.take_append_drop,List.take_append_drop]
 have la:(l.take x.body.toNat).length=x.body.toNat:=by grind
 have lb:((l.drop x.body.toNat).take x.eo.toNat).length=x.eo.toNat:=by rw[List.length_take,List.length_drop];omega
 simp only[]
 have key:∀t,sM (x::l)=some t->∃a b r,t=.cons x a b r/\sM (l.take x.body.toNat)=some a/\sM ((l.drop x.body.toNat).take x.eo.toNat)=some b/\sM (l.drop (x.body.toNat+x.eo.toNat))=some r:=by
  intro t ht
  obtain⟨he,hs⟩:=nR ht
  cases t with
  | nil=>cases he
  | cons y a b r=>
   obtain⟨rfl,hl⟩:=List.cons.inj he
   obtain⟨g1,g2,_,_,ha,hb,hr⟩:=hs
   have q1:x.body.toNat=a.flat.length:=by rw[Bk.cY];omega
   have q2:x.eo.toNat=b.flat.length:=by rw[Bk.cY];omega
   refine⟨a,b,r,rfl,?_,?_,?_⟩
   ·rw[hl,q1,List.take_left];exact rq ha
   ·rw[hl,q1,q2,List.drop_left,List.take_left];exact rq hb
   ·rw[hl,<- List.drop_drop,q1,q2,List.drop_left,List.drop_left];exact rq hr
 cases ha:sM (l.take x.body.toNat)with
 | none=>
  have:sM (x::l)=none:=by
   cases hh:sM (x::l)with
   | none=>rfl
   | some t=>grind
  unfold fx;rw[this,ha];simp
 | some a=>
  cases hb:sM ((l.drop x.body.toNat).take x.eo.toNat)with
  | none=>
   have:sM (x::l)=none:=by
    cases hh:sM (x::l)with
    | none=>rfl
    | some t=>grind
   unfold fx;rw[this,hb];simp
  | some b=>
   cases hr:sM (l.drop (x.body.toNat+x.eo.toNat))with
   | none=>
    have:sM (x::l)=none:=by
     cases hh:sM (x::l)with
     | none=>rfl
     | some t=>grind
    unfold fx;rw[this,hr];simp
   | some r=>
    obtain⟨a1,a2⟩:=nR ha
    obtain⟨b1,b2⟩:=nR hb
    obtain⟨r1,r2⟩:=nR hr
    have hl:x::l=(Bk.cons x a b r).flat:=by unfold Bk.flat;grind
    rw[a1,Bk.cY]at la
    rw[b1,Bk.cY]at lb
    have:sM (x::l)=some (.cons x a b r):=by rw[hl];exact rq ⟨by omega,by omega,by omega,by omega,a2,b2,r2⟩
    have na:=a.An
    have nb:=b.An
    have nr:=r.An
    unfold fx
    rw[this,ha,hb,hr]
    simp only[Bk.ok,ho,Bool.true_and]
    cases h1:a.ok (Bk.CY x loops)<;>cases h2:b.ok (Bk.CY x loops)<;>cases h3:r.ok loops<;>simp[Bk.depth]
    omega
def rV(n d:Int):Int:=if d<0 then -1 else max n d
theorem Iu{xs l:List bN}{x:bN}{loops n:Int}(h:fx xs loops=rV n (fx (x::l) loops))(hb:¬ (uy x l/\Bk.xC x loops=true)):fx xs loops = -1:=by
 rw[h,Th hb];rfl
theorem Wt{xs l:List bN}{x:bN}{loops n:Int}(h:fx xs loops=rV n (fx (x::l) loops))(hs:uy x l)(ho:Bk.xC x loops=true)(hb:Bk.yR x=true)(A B:Int)
  (hA:A=fx (l.take x.body.toNat) (Bk.CY x loops)) (hB:B=fx ((l.drop x.body.toNat).take x.eo.toNat) (Bk.CY x loops)) :
  (A<0\/B<0->fx xs loops = -1)/\(¬ (A<0\/B<0)->fx xs loops=rV (max (max n (1+A)) (1+B)) (fx (l.drop (x.body.toNat+x.eo.toNat)) loops)):=by
 have hR:=tg (l.drop (x.body.toNat+x.eo.toNat)) loops
 rw[h,Ea hs ho]
 simp only[<- hA,<- hB,hb,if_true]
 unfold rV
 constructor<;>intro h<;>repeat' split
 all_goals omega
theorem afx{xs l:List bN}{x:bN}{loops n:Int}(h:fx xs loops=rV n (fx (x::l) loops))(hs:uy x l)(ho:Bk.xC x loops=true)(hb:Bk.yR x=false) :
  fx xs loops=rV n (fx (l.drop (x.body.toNat+x.eo.toNat)) loops):=by
 have h0:x.body=0/\x.eo=0:=by
  unfold Bk.xC at ho
  unfold Bk.yR at hb
  obtain⟨h1,h2,_⟩:=hs
  grind
 rw[h,Ea hs ho,h0.1,h0.2]
 have e1:l.take (Int.toNat 0)=[]:=rfl
 have e2:(l.drop (Int.toNat 0)).take (Int.toNat 0)=[]:=rfl
 simp only[hb,e1,e2,Bs]
 unfold rV
 repeat' split
 all_goals first|omega|simp_all
theorem drop_cons{α:Type}{xs:List α}{k:Nat}{x:α}(h:xs[k]?=some x):xs.drop k=x::xs.drop (k+1):=by
 obtain⟨h1,h2⟩:=List.getElem?_eq_some_iff.1 h
 rw[List.drop_eq_getElem_cons h1,h2]
theorem vd{α:Type}(xs:List α){a b c n:Nat}(h:b=a+n)(hc:c=a):(xs.take b).drop c=(xs.drop a).take n:=by
 subst h hc;rw[List.drop_take,Nat.add_sub_cancel_left]
def Ti:List ByteArray:=[⟨#[]⟩,⟨#[114,101]⟩,⟨#[114,110]⟩,⟨#[110,101]⟩,⟨#[114,110,101,102]⟩,⟨#[110]⟩,⟨#[110]⟩,⟨#[]⟩,⟨#[]⟩,⟨#[110]⟩,⟨#[110]⟩,⟨#[101,98]⟩,⟨#[107,98]⟩,⟨#[]⟩,⟨#[101]⟩]
def fz(k:Int):ByteArray:=if k<1\/14<k then⟨#[]⟩else Ti.getD k.toNat ⟨#[]⟩
def eO(s:ByteArray)(c:Int):Bool:=(iH s).any λ b=>decide ((b.toNat:Int)=c)
def mT(x:bN):Bool:=
 !(decide (x.kind<1)||decide (14<x.kind)||decide (x.at_<0)||decide (4000<x.at_)) &&
 !((eO (fz x.kind) 114 != gB x.eC)||(!eO (fz x.kind) 114&&decide (¬ x.eC=⟨#[]⟩))||(eO (fz x.kind) 110 != gB x.name)||(!eO (fz x.kind) 110&&decide (¬ x.name=⟨#[]⟩))) &&
 !((eO (fz x.kind) 101 != fu x.e)||(!eO (fz x.kind) 101&&decide (0<x.e.length))||(eO (fz x.kind) 102 != fu x.f)||(!eO (fz x.kind) 102&&decide (0<x.f.length))) &&
 (if eO (fz x.kind) 107=true then decide (1<=x.n/\x.n<=8)else decide (x.n=0))
def pw(l:List bN):Bool:=decide (l.length<=40)&&!l.any (λ x=>!mT x)&&decide (0<=fx l 0/\fx l 0<=12)
def q8(n:Int):Bool:=decide (0<=n/\n<=4000)
def iJ(wE:Int)(c:cJ):Bool:=!gB c.name||decide (c.n<0)||decide (wE<c.n)||!q8 c.at_
def nS(wE:Int)(l:List cJ):Bool:=!l.any (iJ wE)
def rW(nb:Bool)(t:cN):Bool:=(nb != gB t.name)||(!nb&&decide (¬ t.name=⟨#[]⟩))||!q8 t.at_||!pw t.body
def ml(nb:Bool)(t:cN):Bool:=rW nb t||t.dL.any (λ s=>!gB s)
def nE(nb:Bool)(l:List cN):Bool:=!l.any (ml nb)
def nK(l:List cJ):Bool:=decide ((l.length:Int)=0)||!nS 4294967296 l
def lC(c:gG):Bool:=!q8 c.at_||!fu c.e
def j7(p:cG):Bool:=!p.lines.any nK&&!p.dP.any lC&&(nS 4294967296 p.iI&&nS 0 p.eG&&nE true p.threads&&nE false p.recover&&decide (p.recover.length<=1))
def SzS(x:bN):Prop:=x.eC.size<=1048576/\x.name.size<=1048576/\x.e.length<=1048576/\x.f.length<=1048576/\(∀y∈x.e,y.name.size<=1048576)/\(∀y∈x.f,y.name.size<=1048576)
def Wu(t:cN):Prop:=t.name.size<=1048576/\(∀s∈t.dL,s.size<=1048576)/\(∀x∈t.body,SzS x)
structure PZ(p:cG):Prop extends PS p where
 zl:∀l∈p.lines,∀c∈l,c.name.size<=1048576
 zv:∀c∈p.iI,c.name.size<=1048576
 zk:∀c∈p.eG,c.name.size<=1048576
 zt:∀t∈p.threads,Wu t
 zr:∀t∈p.recover,Wu t
 zc:∀c∈p.dP,c.e.length<=1048576/\∀y∈c.e,y.name.size<=1048576
theorem Eb(k:Int):(fz k).size<=1048576:=by
 unfold fz
 split
 ·decide
 rename_i h
 obtain rfl|rfl|rfl|rfl|rfl|rfl|rfl|rfl|rfl|rfl|rfl|rfl|rfl|rfl:k=1\/k=2\/k=3\/k=4\/k=5\/k=6\/k=7\/k=8\/k=9\/k=10\/k=11\/k=12\/k=13\/k=14:=by omega
 all_goals decide
theorem C315(k:Int)(w:World):CR 315 [.int .i64 k] w (λ v w'=>v=.string (fz k)/\Ext w w'):=by
 have hs:=St.start w;refine abu _ _ _ ?_;unfold S315;refine⟨λ jv w'=>jv=.bool (decide (k<1\/14<k))/\w=w',aQ (aC (λ _=>⟨JX (by omega),rfl⟩) (λ _=>cP ⟨xS (by omega),rfl⟩)),?_⟩;rintro _ _ ⟨rfl,hw⟩ _;subst hw;refine aC (λ fL=>?_) (λ fL=>?_)
 ·refine⟨?_,hs.aF⟩;unfold fz;rw[if_pos fL]
 refine aX (Ti) hs ik rfl rfl (dI rfl) (λ anl _ hs=>?_);have FJ:Ti.length=15:=rfl;obtain⟨GJ,wF⟩:=gx (Ti) (i:=(k).toNat) (by omega);refine dM hs ik (by omega) (by omega) (λ _ Ec=>gD hs gj Ec wF ?_);refine⟨?_,hs.aF⟩;unfold fz;rw[if_neg fL,List.getD_eq_getElem?_getD,wF];rfl
theorem C316(s:ByteArray)(c:Int)(w:World)(hn:s.size<=1048576):CR 316 [.string s,.int .u8 c] w (λ v w'=>v=.bool (eO s c)/\Ext w w'):=by
 have hs:=St.start w;refine eS Tryz.func316 ?_;refine⟨λ m x w1=>∃k:Nat,x=.int .i64 (k:Int)/\m=(iH s).length-k/\k<=(iH s).length/\(∀y∈(iH s).take k,decide ((y.toNat:Int)=c)=false)/\St w aY [] w1,⟨_,0,rfl,rfl,Nat.zero_le _,by simp,hs⟩,?_⟩;rintro m _ w1 ⟨k,rfl,rfl,hk,eD,hs⟩ _;rw[eT]at hk;have GH:=eT s;refine fg gZ (aQ (aC (λ jj=>?_) (λ jj=>?_)))
 ·obtain⟨gV,dw⟩:∃xx,(iH (s))[((k:Int)).toNat]?=some xx:=⟨_,List.getElem?_eq_getElem (by rw[eT];omega)⟩;exact jN gZ (by omega) dw (nA (aC (λ dO=>⟨vb (gU dw (decide_eq_true dO)).symm,hs.aF⟩) (λ dO=>aK (by omega) ⟨_,by omega,k+1,rfl,rfl,by omega,dR eD dw (decide_eq_false dO),hs⟩)))
 rw[List.take_of_length_le (by omega)]at eD;exact⟨vb (il eD).symm,hs.aF⟩
theorem C288(x:bN)(xv:aZ)(w:World)(hx:Deep.dr w xv x)(hz:SzS x):CR 288 [Flat.val xv] w (λ v w'=>v=.bool (mT x)/\Ext w w'):=by
 obtain⟨vB,vC,rfl,KS,GK⟩:=hx;have hs:=St.start w;refine eS Tryz.func288 ?_;refine cI hs (λ yS _ hs=>⟨λ jv w'=>jv=.bool (decide (x.kind<1)||decide (14<x.kind)||decide (x.at_<0)||decide (4000<x.at_))/\St w aY [bY yS (Flat.enc (⟨(x).kind,(x).eC,(x).name,vB,vC,(x).n,(x).body,(x).eo,(x).at_⟩:aZ))] w',?_,?_⟩)
 ·refine aA dJ (aB (v:=.int .i64 ((x).kind)) bL hs.hb rfl ?_);exact aQ (aC (λ _=>⟨vb (by grind),hs⟩) (λ _=>aA dJ (aB (v:=.int .i64 ((x).kind)) bL hs.hb rfl (cP (aC (λ _=>⟨vb (by grind),hs⟩) (λ _=>aA lq (aB (v:=.int .i64 ((x).at_)) bL hs.hb rfl (aQ (aC (λ _=>⟨vb (by grind),hs⟩) (λ _=>aA lq (aB (v:=.int .i64 ((x).at_)) bL hs.hb rfl (cP ⟨vb (by grind),hs⟩))))))))))))
 rintro _ _ ⟨rfl,hs⟩ _;refine aW (λ jw=>?_) (λ jw=>aA dJ (aB (v:=.int .i64 ((x).kind)) bL hs.hb rfl (aT amG hs (C315 _ _) (λ _ he hs=>aT J7 hs (C316 _ _ _ (Eb _)) (λ _ he hs=>aT J7 hs (C316 _ _ _ (Eb _)) (λ _ he hs=>aT J7 hs (C316 _ _ _ (Eb _)) (λ _ he hs=>aT J7 hs (C316 _ _ _ (Eb _)) (λ _ he hs=>⟨λ jv w'=>jv=.bool ((eO (fz x.kind) 114 != gB x.eC)||(!eO (fz x.kind) 114&&decide (¬ x.eC=⟨#[]⟩))||(eO (fz x.kind) 110 != gB x.name)||(!eO (fz x.kind) 110&&decide (¬ x.name=⟨#[]⟩)))/\St w aY [bY yS (Flat.enc (⟨(x).kind,(x).eC,(x).name,vB,vC,(x).n,(x).body,(x).eo,(x).at_⟩:aZ))] w',?_,?_⟩))))))))
 ·refine⟨vb ?_,hs.drop.aF⟩;unfold mT;simp only[*]
  first|done|rfl|simp
 ·refine aA iv (aB (v:=.string ((x).eC)) gj hs.hb rfl (aT ub hs (C211 _ _ hz.1) (λ _ he hs=>rG Ki (aW (λ _=>⟨vb (by grind),hs⟩) (λ vA=>bQ (aW (λ Ao=>?_) (λ _=>aA fU (aB (v:=.string ((x).name)) gj hs.hb rfl (aT ub hs (C211 _ _ hz.2.1) (λ _ _ hs=>rG Ki (aW (λ _=>⟨vb (by grind),hs⟩) (λ _=>bQ (aW (λ _=>aA fU (aB (v:=.string ((x).name)) gj hs.hb rfl (lM ⟨vb (by grind),hs⟩))) (λ _=>⟨vb (by grind),hs⟩))))))))))))));refine aA iv ?_;exact aB (v:=.string ((x).eC)) gj hs.hb rfl (lM (aC (λ _=>⟨vb (by grind),hs⟩) (λ _=>aA fU (aB (v:=.string ((x).name)) gj hs.hb rfl (aT ub hs (C211 _ _ hz.2.1) (λ _ _ hs=>rG Ki (aW (λ _=>⟨vb (by grind),hs⟩) (λ _=>bQ (aW (λ _=>aA fU (aB (v:=.string ((x).name)) gj hs.hb rfl (lM ⟨vb (by grind),hs⟩))) (λ _=>⟨vb (by grind),hs⟩))))))))))
 rintro _ _ ⟨rfl,hs⟩ _;refine aW (λ afz=>?_) (λ afz=>⟨λ jv w'=>jv=.bool ((eO (fz x.kind) 101 != fu x.e)||(!eO (fz x.kind) 101&&decide (0<x.e.length))||(eO (fz x.kind) 102 != fu x.f)||(!eO (fz x.kind) 102&&decide (0<x.f.length)))/\St w aY [bY yS (Flat.enc (⟨(x).kind,(x).eC,(x).name,vB,vC,(x).n,(x).body,(x).eo,(x).at_⟩:aZ))] w',?_,?_⟩)
 ·refine⟨vb ?_,hs.drop.aF⟩;unfold mT;simp only[*]
  first|done|rfl|simp
 ·refine aA iN (aB jo hs.hb rfl ?_);have hf4:=DL.flat (KS);refine aT J2 hs (C200 _ _ _ (hf4.ext hs.aF) hz.2.2.1 hz.2.2.2.2.1) (λ _ he hs=>rG Ki (aW (λ _=>⟨vb (by grind),hs⟩) (λ GL=>bQ (aW (λ afA=>aA iN (aB jo hs.hb rfl (aI gN (hf4.ext hs.aF) (cP (aC (λ _=>⟨vb (by grind),hs⟩) (λ Re=>?_)))))) (λ afA=>?_)))))
  ·refine aA jU (aB jo hs.hb rfl ?_);have hf5:=DL.flat (GK);exact aT J2 hs (C200 _ _ _ (hf5.ext hs.aF) hz.2.2.2.1 hz.2.2.2.2.2) (λ _ _ hs=>rG Ki (aW (λ _=>⟨vb (by grind),hs⟩) (λ _=>bQ (aW (λ _=>aA jU (aB jo hs.hb rfl (aI gN (hf5.ext hs.aF) (cP ⟨vb (by grind),hs⟩)))) (λ _=>⟨vb (by grind),hs⟩)))))
  refine aA jU (aB jo hs.hb rfl ?_);have hf6:=DL.flat (GK);exact aT J2 hs (C200 _ _ _ (hf6.ext hs.aF) hz.2.2.2.1 hz.2.2.2.2.2) (λ _ _ hs=>rG Ki (aW (λ _=>⟨vb (by grind),hs⟩) (λ _=>bQ (aW (λ _=>aA jU (aB jo hs.hb rfl (aI gN (hf6.ext hs.aF) (cP ⟨vb (by grind),hs⟩)))) (λ _=>⟨vb (by grind),hs⟩)))))
 rintro _ _ ⟨rfl,hs⟩ _;refine aW (λ anm=>?_) (λ anm=>aT J7 hs (C316 _ _ _ (Eb _)) (λ _ he hs=>aW (λ Bt=>⟨λ jv w'=>jv=.bool (decide (1<=x.n/\x.n<=8))/\St w aY [bY yS (Flat.enc (⟨(x).kind,(x).eC,(x).name,vB,vC,(x).n,(x).body,(x).eo,(x).at_⟩:aZ))] w',aA jG (aB (v:=.int .i64 ((x).n)) bL hs.hb rfl (cS (aC (λ _=>aA jG (aB (v:=.int .i64 ((x).n)) bL hs.hb rfl (im ⟨vb (by grind),hs⟩))) (λ _=>⟨vb (by grind),hs⟩)))),?_⟩) (λ Bt=>?_)))
 ·refine⟨vb ?_,hs.drop.aF⟩;unfold mT;simp only[*]
  first|done|rfl|simp
 ·rintro _ _ ⟨rfl,hs⟩ _;refine⟨vb ?_,hs.drop.aF⟩;unfold mT;simp only[*]
  first|done|rfl|simp
 refine aA jG (aB (v:=.int .i64 ((x).n)) bL hs.hb rfl (aH ?_));refine⟨vb ?_,hs.drop.aF⟩;unfold mT;simp only[*]
 first|done|rfl|simp
theorem C289(lv:Value)(xs:List bN)(loops:Int)(N:Nat)(w:World)(hL:DL w lv xs)(hn:xs.length<=1048576)(hlo:0<=loops)(Nw:loops+N<=4194304)(hN:xs.length<N):CR 289 [lv,.int .i64 loops] w (λ v w'=>v=.int .i64 (fx xs loops)/\Ext w w'):=by
 have hs:=St.start w;refine abp _ _ _ _ ?_;unfold S289;refine⟨λ m y x w1=>∃(k:Nat) (n:Int),y=.int .i64 n/\x=.int .i64 (k:Int)/\m=xs.length-k/\k<=xs.length/\0<=n/\n<=41/\fx xs loops=rV n (fx (xs.drop k) loops)/\St w aY [] w1,⟨_,0,0,rfl,rfl,rfl,by omega,by omega,by omega,by have:=tg xs loops;rw[List.drop_zero];unfold rV;split<;>omega,hs⟩,?_⟩;rintro m _ _ w1 ⟨k,n,rfl,rfl,rfl,hk,UH,Wj,hinv,hs⟩ _;obtain⟨ts7,hR7,hD7⟩:=(hL).open;have hn7:=hD7.1;refine aI fo (hR7.ext hs.aF) (aQ (aC (λ ji=>?_) (λ ji=>?_)))
 ·obtain⟨qM,iQ⟩:=gx ts7 (i:=((k:Int)).toNat) (by omega);obtain⟨cK,Ed⟩:=gx (xs) (i:=((k:Int)).toNat) (by omega);obtain⟨pO,pP,rfl,ab0,ab1⟩:=hD7.2 _ _ _ iQ Ed;refine aO fo (hR7.ext hs.aF) (by omega) iQ (λ _ uu=>?_);have hdk:=drop_cons (xs:=xs) (k:=k) Ed;rw[hdk]at hinv;have JF:(xs.drop (k+1)).length=xs.length-(k+1):=List.length_drop;refine aE eI (uu) (aM hs jq (λ wG _ hs=>aJ (x:=(⟨(cK).kind,(cK).eC,(cK).name,pO,pP,(cK).n,(cK).body,(cK).eo,(cK).at_⟩:aZ)) hs eI rfl rfl (λ _ hs=>⟨λ jv w'=>jv=.bool (decide (cK.body<0)||decide (cK.eo<0)||decide (40<cK.body)||decide (40<cK.eo)||decide ((xs.length:Int)<k+1+cK.body+cK.eo))/\St w aY [bY wG (Flat.enc (⟨(cK).kind,(cK).eC,(cK).name,pO,pP,(cK).n,(cK).body,(cK).eo,(cK).at_⟩:aZ))] w',aA iO (aB (v:=.int .i64 ((cK).body)) bL hs.hb rfl (aQ (aC (λ _=>⟨vb (by grind),hs⟩) (λ iF=>aA iw (aB (v:=.int .i64 ((cK).eo)) bL hs.hb rfl (aQ (aC (λ _=>⟨vb (by grind),hs⟩) (λ ym=>aA iO (aB (v:=.int .i64 ((cK).body)) bL hs.hb rfl (cP (aC (λ _=>⟨vb (by grind),hs⟩) (λ lT=>?_)))))))))))),?_⟩)))
  ·exact aA iw (aB (v:=.int .i64 ((cK).eo)) bL hs.hb rfl (cP (aC (λ _=>⟨vb (by grind),hs⟩) (λ _=>aK (by omega) (aA iO (aB (v:=.int .i64 ((cK).body)) bL hs.hb rfl (aK (by omega) (aA iw (aB (v:=.int .i64 ((cK).eo)) bL hs.hb rfl (aK (by omega) (aI fo (hR7.ext hs.aF) (cP ⟨vb (by grind),hs⟩))))))))))))
  rintro _ _ ⟨rfl,hs⟩ _;refine aW (λ _=>⟨congrArg (Value.int .i64) (Iu hinv (by unfold uy;grind)).symm,hs.drop.aF⟩) (λ KP=>?_);have o7:uy cK (xs.drop (k+1)):=by unfold uy;grind
  refine⟨λ jv w'=>jv=.bool (!Bk.xC cK loops)/\St w aY [bY wG (Flat.enc (⟨(cK).kind,(cK).eC,(cK).name,pO,pP,(cK).n,(cK).body,(cK).eo,(cK).at_⟩:aZ))] w',aA iO (aB (v:=.int .i64 ((cK).body)) bL hs.hb rfl (cP (aC (λ Cd=>aA dJ (aB (v:=.int .i64 ((cK).kind)) bL hs.hb rfl (bV (aC (λ ann=>aA dJ (aB (v:=.int .i64 ((cK).kind)) bL hs.hb rfl (bV (aC (λ _=>⟨vb (by unfold Bk.xC;grind),hs⟩) (λ Rf=>?_))))) (λ ann=>?_))))) (λ Cd=>?_)))),?_⟩
  ·refine aA iw (aB (v:=.int .i64 ((cK).eo)) bL hs.hb rfl (cP (aC (λ _=>aA dJ (aB (v:=.int .i64 ((cK).kind)) bL hs.hb rfl (bV (aC (λ _=>⟨vb (by unfold Bk.xC;grind),hs⟩) (λ _=>aA dJ (aB (v:=.int .i64 ((cK).kind)) bL hs.hb rfl (aH (aC (λ _=>aH ⟨vb (by unfold Bk.xC;grind),hs⟩) (λ _=>⟨vb (by unfold Bk.xC;grind),hs⟩))))))))) (λ D2=>?_))));exact aA dJ (aB (v:=.int .i64 ((cK).kind)) bL hs.hb rfl (aH (aC (λ _=>aH ⟨vb (by unfold Bk.xC;grind),hs⟩) (λ _=>⟨vb (by unfold Bk.xC;grind),hs⟩))))
  ·refine aA iw (aB (v:=.int .i64 ((cK).eo)) bL hs.hb rfl (cP (aC (λ _=>aA dJ (aB (v:=.int .i64 ((cK).kind)) bL hs.hb rfl (bV (aC (λ _=>⟨vb (by unfold Bk.xC;grind),hs⟩) (λ _=>aA dJ (aB (v:=.int .i64 ((cK).kind)) bL hs.hb rfl (aH (aC (λ _=>aH ⟨vb (by unfold Bk.xC;grind),hs⟩) (λ _=>⟨vb (by unfold Bk.xC;grind),hs⟩))))))))) (λ ar6=>?_))));exact aA dJ (aB (v:=.int .i64 ((cK).kind)) bL hs.hb rfl (aH (aC (λ _=>aH ⟨vb (by unfold Bk.xC;grind),hs⟩) (λ _=>⟨vb (by unfold Bk.xC;grind),hs⟩))))
  ·refine aA iw (aB (v:=.int .i64 ((cK).eo)) bL hs.hb rfl (cP (aC (λ _=>aA dJ (aB (v:=.int .i64 ((cK).kind)) bL hs.hb rfl (bV (aC (λ _=>⟨vb (by unfold Bk.xC;grind),hs⟩) (λ _=>aA dJ (aB (v:=.int .i64 ((cK).kind)) bL hs.hb rfl (aH (aC (λ _=>aH ⟨vb (by unfold Bk.xC;grind),hs⟩) (λ _=>⟨vb (by unfold Bk.xC;grind),hs⟩))))))))) (λ ar7=>?_))));exact aA dJ (aB (v:=.int .i64 ((cK).kind)) bL hs.hb rfl (aH (aC (λ _=>aH ⟨vb (by unfold Bk.xC;grind),hs⟩) (λ _=>⟨vb (by unfold Bk.xC;grind),hs⟩))))
  rintro _ _ ⟨rfl,hs⟩ _;refine aW (λ _=>⟨congrArg (Value.int .i64) (Iu hinv (by grind)).symm,hs.drop.aF⟩) (λ afB=>?_);have ki:Bk.xC cK loops=true:=by grind
  have ahv:=o7;unfold uy at ahv;refine aK (by omega) (aA iO (have hs:=hs.drew;aB (v:=.int .i64 ((cK).body)) bL hs.hb rfl (aK (by omega) ⟨λ jv w'=>jv=.int .i64 (Bk.CY cK loops)/\St w aY [bY wG (Flat.enc (⟨(cK).kind,(cK).eC,(cK).name,pO,pP,(cK).n,(cK).body,(cK).eo,(cK).at_⟩:aZ))] w',aA dJ (aB (v:=.int .i64 ((cK).kind)) bL hs.hb rfl (aH (aC (λ _=>aK (by omega) ⟨congrArg (Value.int .i64) (by unfold Bk.CY;grind),hs⟩) (λ _=>⟨congrArg (Value.int .i64) (by unfold Bk.CY;grind),hs⟩)))),?_⟩)));rintro _ _ ⟨rfl,hs⟩ _;have sR:loops<=Bk.CY cK loops/\Bk.CY cK loops<=loops+1:=by unfold Bk.CY;split<;>omega
  refine⟨λ jv w'=>∃n':Int,jv=.int .i64 n'/\0<=n'/\n'<=41/\fx xs loops=rV n' (fx (xs.drop (k+1+(cK.body.toNat+cK.eo.toNat))) loops)/\St w aY [bY wG (Flat.enc (⟨(cK).kind,(cK).eC,(cK).name,pO,pP,(cK).n,(cK).body,(cK).eo,(cK).at_⟩:aZ))] w',⟨λ jv w'=>jv=.bool (decide (cK.kind=11)||decide (cK.kind=12))/\St w aY [bY wG (Flat.enc (⟨(cK).kind,(cK).eC,(cK).name,pO,pP,(cK).n,(cK).body,(cK).eo,(cK).at_⟩:aZ))] w',aA dJ (aB (v:=.int .i64 ((cK).kind)) bL hs.hb rfl (aH (aC (λ _=>⟨vb (by grind),hs⟩) (λ _=>aA dJ (aB (v:=.int .i64 ((cK).kind)) bL hs.hb rfl (aH ⟨vb (by grind),hs⟩)))))),?_⟩,?_⟩
  ·rintro _ _ ⟨rfl,hs⟩ _;refine aW (λ ahw=>?_) (λ ahw=>?_)
   ·refine aK (by omega) (od fo (hR7.ext hs.aF) (by omega) (by omega) (by omega) (λ auB ab2=>?_));have ab3:=DL.cut ab2 hR7 hD7;refine aA iw (have hs:=hs.drew;aB (v:=.int .i64 ((cK).eo)) bL hs.hb rfl (aK (by omega) (od fo (hR7.ext hs.aF) (by omega) (by omega) (by omega) (λ auC ab4=>?_))));have ab5:=DL.cut ab4 hR7 hD7;have hcA:(((xs).take (((k:Int)+1)+(cK).body).toNat).drop ((k:Int)+1).toNat)=(xs.drop (k+1)).take (cK).body.toNat:=vd xs (by omega) (by omega);have hcB:(((xs).take ((((k:Int)+1)+(cK).body)+(cK).eo).toNat).drop (((k:Int)+1)+(cK).body).toNat)=((xs.drop (k+1)).drop (cK).body.toNat).take (cK).eo.toNat:=by rw[List.drop_drop];exact vd xs (by omega) (by omega)
    have hlA:(((xs).take (((k:Int)+1)+(cK).body).toNat).drop ((k:Int)+1).toNat).length<=xs.length-1/\(((xs).take (((k:Int)+1)+(cK).body).toNat).drop ((k:Int)+1).toNat).length<=40:=by rw[hcA,List.length_take];omega
    have hlB:(((xs).take ((((k:Int)+1)+(cK).body)+(cK).eo).toNat).drop (((k:Int)+1)+(cK).body).toNat).length<=xs.length-1/\(((xs).take ((((k:Int)+1)+(cK).body)+(cK).eo).toNat).drop (((k:Int)+1)+(cK).body).toNat).length<=40:=by rw[hcB,List.length_take,List.length_drop];omega
    refine aT Vp hs (C289 _ _ _ (N-1) _ (ab3.ext hs.aF) (by omega) (by omega) (by omega) (by omega)) (λ _ he hs=>?_);refine⟨aG bL (hs.hb.cell rfl),?_⟩;refine dN Vp (C289 _ _ _ (N-1) _ (ab5.ext hs.aF) (by omega) (by omega) (by omega) (by omega)) ?_;rintro _ _ ⟨rfl,he⟩;have hs:=hs.ext he;obtain⟨A,hA⟩:∃A,A=fx (((xs).take (((k:Int)+1)+(cK).body).toNat).drop ((k:Int)+1).toNat) (Bk.CY cK loops):=⟨_,rfl⟩;obtain⟨B,hB⟩:∃B,B=fx (((xs).take ((((k:Int)+1)+(cK).body)+(cK).eo).toNat).drop (((k:Int)+1)+(cK).body).toNat) (Bk.CY cK loops):=⟨_,rfl⟩;have hAb:=tg (((xs).take (((k:Int)+1)+(cK).body).toNat).drop ((k:Int)+1).toNat) (Bk.CY cK loops)
    have hBb:=tg (((xs).take ((((k:Int)+1)+(cK).body)+(cK).eo).toNat).drop (((k:Int)+1)+(cK).body).toNat) (Bk.CY cK loops);rw[<- hA]at hAb;rw[<- hB]at hBb;rw[<- hA,<- hB];have Tf:=Wt hinv o7 ki (by unfold Bk.yR;grind) A B (by rw[hA,hcA]) (by rw[hB,hcB]);refine⟨λ jv w'=>jv=.bool (decide (A<0\/B<0))/\St w aY [bY wG (Flat.enc (⟨(cK).kind,(cK).eC,(cK).name,pO,pP,(cK).n,(cK).body,(cK).eo,(cK).at_⟩:aZ))] w',aQ (aC (λ _=>⟨vb (by grind),hs⟩) (λ _=>aQ ⟨vb (by grind),hs⟩)),?_⟩;rintro _ _ ⟨rfl,hs⟩ _;refine aW (λ Ok=>⟨congrArg (Value.int .i64) (Tf.1 (of_decide_eq_true Ok)).symm,hs.drop.aF⟩) (λ Ok=>aK (by omega) (aK (by omega) (KG ?_)))
    have Wv:=Tf.2 (of_decide_eq_false Ok);rw[List.drop_drop]at Wv;exact⟨_,rfl,by omega,by omega,Wv,hs⟩
   have hdn:=afx hinv o7 ki (by unfold Bk.yR;grind);rw[List.drop_drop]at hdn;exact⟨_,rfl,UH,Wj,hdn,hs⟩
  rintro _ _ ⟨n',rfl,ahy,ahz,Ww,hs⟩ _;exact aA iw (aB (v:=.int .i64 ((cK).eo)) bL hs.hb rfl (aK (by omega) ⟨_,by omega,k+1+((cK).body.toNat+(cK).eo.toNat),n',rfl,congrArg (Value.int .i64) (by omega),rfl,by omega,ahy,ahz,Ww,hs.drop⟩))
 rw[List.drop_eq_nil_of_le (by omega),Bs]at hinv;exact⟨congrArg (Value.int .i64) (by rw[hinv];unfold rV;omega),hs.aF⟩
termination_by N
decreasing_by all_goals omega
theorem C253(lv:Value)(xs:List bN)(w:World)(hL:DL w lv xs)(hn:xs.length<=1048576)(hz:∀x∈xs,SzS x):CR 253 [lv] w (λ v w'=>v=.bool (pw xs)/\Ext w w'):=by
 have hs:=St.start w;refine eS Tryz.func253 ?_;obtain⟨ts8,hR8,hD8⟩:=(hL).open;have hn8:=hD8.1;refine aI fo (hR8.ext hs.aF) (cP (aC (λ gH=>?_) (λ gH=>?_)))
 ·refine⟨vb ?_,hs.aF⟩;unfold pw;rw[decide_eq_false (by omega)];rfl
 refine⟨λ m x w1=>∃k:Nat,x=.int .i64 (k:Int)/\m=xs.length-k/\k<=xs.length/\(∀y∈xs.take k,(!mT y)=false)/\St w aY [] w1,⟨_,0,rfl,rfl,Nat.zero_le _,by simp,hs⟩,?_⟩;rintro m _ w1 ⟨k,rfl,rfl,hk,eD,hs⟩ _;refine aI fo (hR8.ext hs.aF) (aQ (aC (λ ju=>?_) (λ ju=>aT Vp hs (C289 _ _ _ (xs.length+1) _ (hL.ext hs.aF) (by omega) (by omega) (by omega) (by omega)) (λ _ he hs=>⟨λ jv w'=>jv=.bool (decide (0<=fx xs 0/\fx xs 0<=12))/\St w aY [] w',cS (aC (λ _=>im ⟨vb (by grind),hs⟩) (λ _=>⟨vb (by grind),hs⟩)),?_⟩))))
 ·obtain⟨Wx,nT⟩:=gx ts8 (i:=((k:Int)).toNat) (by omega);obtain⟨rX,oM⟩:=gx (xs) (i:=((k:Int)).toNat) (by omega);obtain⟨ab6,ab7,rfl,ab8,ab9⟩:=hD8.2 _ _ _ nT oM;refine aO fo (hR8.ext hs.aF) (by omega) nT (λ _ Aj=>aE eI (Aj) (aT amv hs (C288 rX _ _ ⟨ab6,ab7,rfl,(ab8).ext hs.aF,(ab9).ext hs.aF⟩ (hz _ (List.mem_of_getElem? oM))) (λ _ he hs=>bQ (aW (λ eQ=>?_) (λ eQ=>aK (by omega) ⟨_,by omega,k+1,rfl,rfl,by omega,dR eD oM eQ,hs⟩)))));refine⟨vb ?_,hs.aF⟩;unfold pw;rw[gU oM eQ];simp
 rintro _ _ ⟨rfl,hs⟩ _;rw[List.take_of_length_le (by omega)]at eD;refine⟨vb ?_,hs.aF⟩;unfold pw;rw[il eD,decide_eq_true (show xs.length<=40 by omega)];rfl
theorem C199(n:Int)(w:World):CR 199 [.int .i64 n] w (λ v w'=>v=.bool (q8 n)/\Ext w w'):=by
 have hs:=St.start w;refine eS Tryz.func199 ?_;refine⟨λ jv w'=>jv=.bool (decide (0<=n/\n<=4000))/\w=w',cS (aC (λ _=>im ⟨xS (by omega),rfl⟩) (λ _=>⟨jvF (by omega),rfl⟩)),?_⟩;rintro _ _ ⟨rfl,hw⟩ _;subst hw;exact⟨rfl,hs.aF⟩
theorem C198(lv:Value)(xs:List cJ)(wE:Int)(w:World)(hL:dC (λ _=>True) w lv xs)(hn:xs.length<=1048576)(hz:∀c∈xs,c.name.size<=1048576):CR 198 [lv,.int .i64 wE] w (λ v w'=>v=.bool (nS wE xs)/\Ext w w'):=by
 have hs:=St.start w;refine eS Tryz.func198 ?_;refine⟨λ m x w1=>∃k:Nat,x=.int .i64 (k:Int)/\m=xs.length-k/\k<=xs.length/\(∀y∈xs.take k,iJ wE y=false)/\St w aY [] w1,⟨_,0,rfl,rfl,Nat.zero_le _,by simp,hs⟩,?_⟩;rintro m _ w1 ⟨k,rfl,rfl,hk,eD,hs⟩ _;refine aI g8 (hL.ext hs.aF) (aQ (aC (λ jj=>?_) (λ jj=>?_)))
 ·obtain⟨gV,dw⟩:=gx (xs) (i:=((k:Int)).toNat) (by omega);refine⟨λ jv w'=>jv=.bool (iJ wE gV)/\St w aY [] w',aO g8 (hL.ext hs.aF) (by omega) dw (λ _ gA=>bW (gV).name kz gA rfl rfl (λ _ ur=>aE gj (ur) (aT ub hs (C211 _ _ (hz _ (List.mem_of_getElem? dw))) (λ _ he hs=>bQ (aW (λ _=>⟨vb (by unfold iJ;grind),hs⟩) (λ lB=>?_)))))),?_⟩
  ·refine aO g8 (hL.ext hs.aF) (by omega) dw (λ _ wH=>bW (gV).n rJ wH rfl rfl (λ _ qi=>?_));exact aE bL (qi) (aQ (aC (λ _=>⟨vb (by unfold iJ;grind),hs⟩) (λ _=>aO g8 (hL.ext hs.aF) (by omega) dw (λ _ mj=>bW (gV).n rJ mj rfl rfl (λ _ uz=>aE bL (uz) (cP (aC (λ _=>⟨vb (by unfold iJ;grind),hs⟩) (λ _=>aO g8 (hL.ext hs.aF) (by omega) dw (λ _ wI=>bW (gV).at_ ui wI rfl rfl (λ _ Wq=>aE bL (Wq) (aT QG hs (C199 _ _) (λ _ _ hs=>bQ ⟨vb (by unfold iJ;grind),hs⟩))))))))))))
  rintro _ _ ⟨rfl,hs⟩ _;refine aW (λ Ao=>?_) (λ Ao=>aK (by omega) ⟨_,by omega,k+1,rfl,rfl,by omega,dR eD dw Ao,hs⟩);refine⟨vb ?_,hs.aF⟩;unfold nS;rw[gU dw Ao];rfl
 rw[List.take_of_length_le (by omega)]at eD;refine⟨vb ?_,hs.aF⟩;unfold nS;rw[il eD];rfl
theorem C201(lv:Value)(xs:List cN)(nb:Bool)(w:World)(hL:DL w lv xs)(hn:xs.length<=1048576)(hz:∀t∈xs,Wu t/\t.dL.length<=500/\t.body.length<=500):CR 201 [lv,.bool nb] w (λ v w'=>v=.bool (nE nb xs)/\Ext w w'):=by
 have hs:=St.start w;refine eS Tryz.func201 ?_;refine⟨λ m x w1=>∃k:Nat,x=.int .i64 (k:Int)/\m=xs.length-k/\k<=xs.length/\(∀y∈xs.take k,ml nb y=false)/\St w aY [] w1,⟨_,0,rfl,rfl,Nat.zero_le _,by simp,hs⟩,?_⟩;rintro m _ w1 ⟨k,rfl,rfl,hk,eD,hs⟩ _;obtain⟨ts9,hR9,hD9⟩:=(hL).open;have hn9:=hD9.1;refine aI fq (hR9.ext hs.aF) (aQ (aC (λ gL=>?_) (λ gL=>?_)))
 ·obtain⟨Wx,nT⟩:=gx ts9 (i:=((k:Int)).toNat) (by omega);obtain⟨rX,oM⟩:=gx (xs) (i:=((k:Int)).toNat) (by omega);obtain⟨Ee,Ef,rfl,Ol,Eg⟩:=hD9.2 _ _ _ nT oM;have hzt:=hz _ (List.mem_of_getElem? oM);refine⟨λ jv w'=>jv=.bool (rW nb rX)/\St w aY [] w',aO fq (hR9.ext hs.aF) (by omega) nT (λ _ Aj=>bW (rX).name pW Aj rfl rfl (λ _ KM=>aE gj (KM) (aT ub hs (C211 _ _ hzt.1.1) (λ _ he hs=>rG Ki (aW (λ _=>⟨vb (by unfold rW;grind),hs⟩) (λ og=>?_)))))),?_⟩
  ·refine bQ (aW (λ mS=>?_) (λ _=>aO fq (hR9.ext hs.aF) (by omega) nT (λ _ acb=>bW (rX).at_ pX acb rfl rfl (λ _ acd=>aE bL (acd) (aT QG hs (C199 _ _) (λ _ _ hs=>bQ (aW (λ _=>⟨vb (by unfold rW;grind),hs⟩) (λ _=>aO fq (hR9.ext hs.aF) (by omega) nT (λ _ ace=>bW Ef lj ace rfl rfl (λ _ acf=>aE jF (acf) (aT ae4 hs (C253 _ _ _ (Eg.ext hs.aF) (by omega) hzt.1.2.2) (λ _ _ hs=>bQ ⟨vb (by unfold rW;grind),hs⟩))))))))))));refine aO fq (hR9.ext hs.aF) (by omega) nT (λ _ ux=>bW (rX).name pW ux rfl rfl (λ _ Eh=>aE gj (Eh) ?_))
   exact lM (aC (λ _=>⟨vb (by unfold rW;grind),hs⟩) (λ _=>aO fq (hR9.ext hs.aF) (by omega) nT (λ _ D9=>bW (rX).at_ pX D9 rfl rfl (λ _ Ap=>aE bL (Ap) (aT QG hs (C199 _ _) (λ _ _ hs=>bQ (aW (λ _=>⟨vb (by unfold rW;grind),hs⟩) (λ _=>aO fq (hR9.ext hs.aF) (by omega) nT (λ _ KT=>bW Ef lj KT rfl rfl (λ _ KU=>aE jF (KU) (aT ae4 hs (C253 _ _ _ (Eg.ext hs.aF) (by omega) hzt.1.2.2) (λ _ _ hs=>bQ ⟨vb (by unfold rW;grind),hs⟩))))))))))))
  rintro _ _ ⟨rfl,hs⟩ _;refine aW (λ KP=>?_) (λ KP=>?_)
  ·refine⟨vb ?_,hs.aF⟩;unfold nE;rw[gU oM (show ml nb rX=true by unfold ml;rw[KP];rfl)];rfl
  refine⟨λ m x w1=>∃k2:Nat,x=.int .i64 (k2:Int)/\m=rX.dL.length-k2/\k2<=rX.dL.length/\(∀s∈rX.dL.take k2,(!gB s)=false)/\St w aY [] w1,⟨_,0,rfl,rfl,Nat.zero_le _,by simp,hs⟩,?_⟩;rintro m _ _ ⟨k2,rfl,rfl,vD,Ei,hs⟩ _;refine aO fq (hR9.ext hs.aF) (by omega) nT (λ _ Wr=>bW Ee fN Wr rfl rfl (λ _ Ai=>aE iZ (Ai) ?_));have ans:=DL.flat (Ol);refine aI ik (ans.ext hs.aF) (aQ (aC (λ GM=>?_) (λ _=>aK (by omega) ⟨_,by omega,k+1,rfl,rfl,by omega,dR eD oM (by unfold ml;rw[KP,il (by rw[List.take_of_length_le (by omega)]at Ei;exact Ei)];rfl),hs⟩)))
  refine aO fq (hR9.ext hs.aF) (by omega) nT (λ _ Wy=>bW Ee fN Wy rfl rfl (λ _ Ej=>aE iZ (Ej) ?_));obtain⟨e_x67,Iv⟩:=gx ((rX).dL) (i:=((k2:Int)).toNat) (by omega);refine aO ik (ans.ext hs.aF) (by omega) Iv (λ _ ant=>aE gj (ant) (aT ub hs (C211 _ _ (hzt.1.2.1 _ (List.mem_of_getElem? Iv))) (λ _ he hs=>bQ (aW (λ Ek=>?_) (λ Ek=>aK (by omega) ⟨_,by omega,k2+1,rfl,rfl,by omega,dR Ei Iv Ek,hs⟩)))));refine⟨vb ?_,hs.aF⟩;unfold nE;rw[gU oM (show ml nb rX=true by unfold ml;rw[gU Iv Ek];simp)];rfl
 rw[List.take_of_length_le (by omega)]at eD;refine⟨vb ?_,hs.aF⟩;unfold nE;rw[il eD];rfl
variable (w:World) (K:Value->World->Prop)
def S236(s0 so1:Value):Prop:=
 kh (λ K1 n5 a=>∀_:Env,
 fc (λ K2=>lN 9 s0 λ b=>bA .lss 3 n5 b λ c=>cV c (eN Tryz.prog (Instr.index 9 s0 n5) λ d=>kq Tryz.prog so1 [d] a λ e f=>K2 e f) (K2 ff a)) (λ g h=>∀_:Env,
 cV g (bB .add 3 n5 (i 1) λ j=>K1 j h) (K n5 h))) (λ K1=>K1 (i 0) w)
theorem acg(s0 so1:Value)(h:S236 w K s0 so1):CR 236 [s0,so1] w K:=
 qz 20 (λ _=>.nil) 16 [.tmp 4] Tryz.func236 h
def S246(l0 i1:Value):Prop:=
 cF 287 [l0,i1] w λ a b=>lN 41 a λ c=>o8 (λ K1 n5 d e=>∀_:Env,
 bA .lss 3 d c λ f=>cV f (iA 41 a d λ g=>lA 3 g e λ h=>cF 246 [l0,h] e λ j k=>eN Tryz.prog (Builtin.max_ #[3,3] 3 [n5,j].toArray) λ l=>bB .add 3 d (i 1) λ n=>
 K1 l n k) (bB .add 3 n5 (i 1) λ o=>K o e)) (λ K1=>K1 (i 0) (i 0) b)
theorem ach(l0 i1:Value)(h:S246 w K l0 i1):CR 246 [l0,i1] w K:=
 qz 24 (λ _=>.nil) 16 [.tmp 4] Tryz.func246 h
def auF:dD:=λ i=>match i with
 | 8=>(.of [(0,[]),(1,[]),(2,[]),(3,[]),(4,[]),(5,[]),(6,[]),(7,[]),(8,[]),(9,[]),(10,[]),(11,[4,9]),(12,[])])
 | _=>.nil
def S218(l0 m4:Value):Prop:=
 rC Tryz.prog (Instr.box 91 m4) w λ Wz a=>cF 185 [l0] a λ b c=>eN Tryz.prog (Op.unary .not b) λ d=>cV d (K (.tuple #[(.slice none 0 0),(i 8)]) c) (cF 264 [l0] c λ e f=>
 cF 240 [e,(.func (Go.Fn.func 262) [].toArray [Wz].toArray)] f λ g h=>cV g (K (.tuple #[(.slice none 0 0),(i 9)]) h) (lA 91 Wz h λ j=>cF 265 [l0,(i 0),j] h λ k l=>
 K (.tuple #[k,(i 0)]) l))
theorem aci(l0 m4:Value)(h:S218 w K l0 m4):CR 218 [l0,m4] w K:=
 qz 18 (λ _=>.nil) 48 [.tmp 4,.tmp 5] Tryz.func218 h
def S143(l0 m4 KV:Value):Prop:=
 lN 91 m4 λ a=>lN 41 KV λ b=>bA .neq 3 a b λ c=>cV c (K (.tuple #[(i 0),(i 1)]) w) (cF 218 [l0,m4] w λ d e=>xT d 0 λ f=>xT d 1 λ g=>bB .neq 31 g (i 0) λ h=>
 cV h (K (.tuple #[(i 0),g]) e) (cF 219 [f,KV] e λ j k=>xT j 0 λ l=>xT j 1 λ n=>K (.tuple #[l,n]) k))
theorem acj(l0 m4 KV:Value)(h:S143 w K l0 m4 KV):CR 143 [l0,m4,KV] w K:=
 qz 29 (λ _=>.nil) 192 [.tmp 6,.tmp 7] Tryz.func143 h
theorem afC:PL 234:=dF Tryz.func234
theorem anu:PL 238:=dF Tryz.func238
theorem anv:PL 236:=dF Tryz.func236
theorem anw:PL 237:=dF Tryz.func237
theorem anx:PL 235:=dF Tryz.func235
theorem KW:PL 180:=dF Tryz.func180
theorem WA:PL 286:=dF Tryz.func286
theorem anz:PL 243:=dF Tryz.func243
theorem anA:PL 242:=dF Tryz.func242
theorem WB:PL 245:=dF Tryz.func245
theorem anB:PL 287:=dF Tryz.func287
theorem afD:PL 246:=dF Tryz.func246
theorem Rg:PL 185:=dF Tryz.func185
theorem anC:PL 264:=dF Tryz.func264
theorem afE:PL 265:=dF Tryz.func265
theorem anD:PL 218:=dF Tryz.func218
theorem anE:PL 262:=dF Tryz.func262
theorem afF:PL 143:=dF Tryz.func143
theorem anF:PL 244:=dF Tryz.func244
theorem anG:PL 285:=dF Tryz.func285
theorem afG:PL 240:=dF Tryz.func240
theorem anH:PL 281:=dF Tryz.func281
theorem afH:PL 263:=dF Tryz.func263
theorem WC:PL 225:=dF Tryz.func225
end Go.Proofs.YtpdlpabnlkofmaaGreatDoor
namespace Go.Fw
open Go.MapKept (Stamped IsKey)
open Go.ChangeMaps (setBlock)
def mn(w:World)(b:Nat)(ks:List Int)(vs:List Value):Prop:=
 ∃es clock,w.heap[b]?=some (.map es clock)/\Stamped es clock/\es.toList.map (·.key)=ks.map (Value.int .i64)/\es.toList.map (·.val)=vs
def kJ:List Int->Int->Option Nat
 | [],_=>none
 | x::xs,k=>if x=k then some 0 else(kJ xs k).map (· + 1)
theorem j8:∀{ks:List Int}{k:Int}{j:Nat},kJ ks k=some j->ks[j]?=some k
 | x::xs,k,j,h=>by
  unfold kJ at h
  split at h
  ·grind
  ·cases hh:kJ xs k with
   | none=>grind
   | some i=>rw[hh]at h;simp at h;subst h;simpa using j8 hh
theorem mq:∀{ks:List Int}{k:Int},kJ ks k=none↔k ∉ ks
 | [],_=>by simp[kJ]
 | x::xs,k=>by
  unfold kJ
  by_cases e:x=k
  ·simp[e]
  ·rw[if_neg e,Option.map_eq_none_iff,mq,List.mem_cons]
   grind
theorem rY:∀{ks:List Int}{k:Int}{j:Nat},ks.Nodup->ks[j]?=some k->kJ ks k=some j
 | x::xs,k,0,_,h=>by simp at h;simp[kJ,h]
 | x::xs,k,j+1,hn,h=>by
  rw[List.getElem?_cons_succ]at h
  have hm:=List.mem_of_getElem? h
  have:x≠k:=λ e=>(List.nodup_cons.1 hn).1 (e▸hm)
  simp[kJ,this,rY (List.nodup_cons.1 hn).2 h]
def look{β:Type}(ks:List Int)(vs:List β)(k:Int):Option β:=(kJ ks k).bind (vs[·]?)
def px{β:Type}(f:Int->β)(k:Int)(x:β):Int->β:=λ j=>if j=k then x else f j
section
variable {P:Program}{w w0 w':World}{A:Nat->Prop}{L:List HP}{b:Nat}{ks:List Int}{vs:List Value}
theorem mn.of_eq(h:mn w b ks vs)(hh:w'.heap[b]?=w.heap[b]?):mn w' b ks vs:=by
 grind[mn]
theorem mn.lt(h:mn w b ks vs):b<w.heap.size:=by obtain⟨es,c,h1,_⟩:=h;grind
theorem mn.ext(h:mn w b ks vs)(e:Ext w w'):mn w' b ks vs:=h.of_eq (e.bY b h.lt λ h=>h)
theorem mn.len(h:mn w b ks vs):ks.length=vs.length:=by
 obtain⟨es,c,_,_,h3,h4⟩:=h
 have:=congrArg List.length h3;grind
theorem mn.nodup(h:mn w b ks vs):ks.Nodup:=by
 obtain⟨es,c,_,h2,h3,h4⟩:=h
 have:=h2.2.2
 grind
def KX(b:Nat)(ks:List Int)(vs:List Value):HP where
 p w F:=mn w b ks vs/\∀k,F k↔k=b
 loc w w' F h hh:=⟨h.1.of_eq (hh b ((h.2 b).2 rfl)),h.2⟩
 lt w F b' h hb:=by rw[(h.2 b').1 hb];exact h.1.lt
theorem Tj{es:Array MapEntry}(h3:es.toList.map (·.key)=ks.map (Value.int .i64)):∀x∈es.toList,IsKey (.int .i64) x.key:=by
 intro x hx
 have:x.key∈es.toList.map (·.key):=List.mem_map.2 ⟨x,hx,rfl⟩
 rw[h3]at this
 obtain⟨k,_,e⟩:=List.mem_map.1 this
 rw[<- e];simp[IsKey]
theorem El{T:TypeId}{k:Int}{es:Array MapEntry}(hT:P.underlying T=some (.int .i64))(hn:ks.Nodup)(h3:es.toList.map (·.key)=ks.map (Value.int .i64)) :
  (kJ ks k=none/\(Instr.findKey T (.int .i64 k) es.toList).run P w=.ok none w)\/∃j e,kJ ks k=some j/\es.toList[j]?=some e/\e.key=.int .i64 k/\(Instr.findKey T (.int .i64 k) es.toList).run P w=.ok (some (j,e.val)) w:=by
 rcases MapKept.findNow_spec (d:=.int .i64) (k:=.int .i64 k) (by simp[IsKey]) es.toList 0 (Tj h3)with⟨h1,h2⟩|⟨j,e,h1,h2,h4⟩
 ·refine .inl ⟨mq.2 λ hm=>?_,MapKept.run_findKey hT h1⟩
  have:Value.int .i64 k∈es.toList.map (·.key):=by grind
  grind
 refine .inr ⟨j,e,rY hn ?_,h2,h4,by rw[Nat.zero_add]at h1;exact MapKept.run_findKey hT h1⟩
 have:(es.toList.map (·.key))[j]?=some (.int .i64 k):=by grind
 grind
theorem yT{T Kt E:TypeId}{z:Value}{k:Int}(h:mn w b ks vs)(ht:P.underlying T=some (.map Kt E))(hk:P.underlying Kt=some (.int .i64))(hz:n6 P E z) :
  (Instr.lookup T (.map (some b)) (.int .i64 k) false).run P w=.ok ((look ks vs k).getD z) w:=by
 have hn:=h.nodup
 obtain⟨es,c,h1,h2,h3,h4⟩:=h
 have hz':(zeroValue E).run P w=.ok z w:=by
  unfold n6 eh at hz
  cases hi:P.info? E with
  | none=>grind
  | some i=>
   rw[hi]at hz
   simp only[Option.map_some,Option.some.injEq]at hz
   refine fS ?_ w
   unfold zeroValue;rw[cX,l6 hi];simp only[Option.bind_some,hz];rfl
 have hc:=MapKept.run_checkKey (P:=P) (w:=w) (kt:=Kt) (k:=.int .i64 k) hk (by simp[IsKey]) es.isEmpty 9999
 rcases El (w:=w) (k:=k) hk hn h3 with⟨h5,h6⟩|⟨j,e,h5,h6,h7,h8⟩
 ·simp[Instr.lookup,run_underlying ht,MapKept.run_getObj_map h1,hc,h6,hz',Result.andThen,look,h5]
 have:vs[j]?=some e.val:=by grind
 simp[Instr.lookup,run_underlying ht,MapKept.run_getObj_map h1,hc,h8,Result.andThen,look,h5,this]
theorem jZ(o:Obj)(hb:b<w.heap.size):(setBlock w b o).heap[b]?=some o:=by simp[setBlock,hb]
theorem gq.setBlock(w:World)(b:Nat)(o:Obj):gq (· = b) w (setBlock w b o):=
 ⟨rfl,rfl,rfl,by simp[ChangeMaps.setBlock],λ k _ hn=>by simp only[ChangeMaps.setBlock];grind⟩
theorem nU{es:Array MapEntry}{clock:Nat}{o:Obj}(h1:w.heap[b]?=some (.map es clock)):(setObj b o).run P w=.ok () (setBlock w b o):=by
 simp[setObj,Sem.run,h1,setBlock]
theorem ack{T Kt E:TypeId}{v:Value}{k:Int}(h:mn w b ks vs)(ht:P.underlying T=some (.map Kt E))(hk:P.underlying Kt=some (.int .i64)) :
  ∃w',(Instr.mapUpdate T (.map (some b)) (.int .i64 k) v).run P w=.ok () w'/\gq (· = b) w w'/\
   (match kJ ks k with|some j=>mn w' b ks (vs.set j v)|none=>mn w' b (ks++[k]) (vs++[v])):=by
 have hn:=h.nodup
 have nH:=h.lt
 obtain⟨es,c,h1,h2,h3,h4⟩:=h
 have hc:=MapKept.run_checkKey (P:=P) (w:=w) (kt:=Kt) (k:=.int .i64 k) hk (by simp[IsKey]) false 9999
 rcases El (w:=w) (k:=k) hk hn h3 with⟨h5,h6⟩|⟨j,e,h5,h6,h7,h8⟩
 ·refine⟨_,?_,gq.setBlock w b (.map (es.push ⟨.int .i64 k,v,c⟩) (c+1)),?_⟩
  ·simp[Instr.mapUpdate,run_underlying ht,MapKept.run_getObj_map h1,hc,h6,nU h1,Result.andThen]
  rw[h5]
  refine⟨_,_,jZ _ nH,MapKept.stamped_push h2 λ x hx e=>?_,by simp[h3],by simp[h4]⟩
  have:x.key∈es.toList.map (·.key):=List.mem_map.2 ⟨x,hx,rfl⟩
  rw[h3,e]at this
  obtain⟨k',JD,e'⟩:=List.mem_map.1 this
  simp at e'
  exact mq.1 h5 (e'▸JD)
 have UD:es[j]?=some e:=by grind
 have iL:(Instr.keyThatStays e.key (.int .i64 k)).run P w=.ok (.int .i64 k) w:=by
  rw[h7];unfold Instr.keyThatStays;simp[Instr.sameBits]
 refine⟨_,?_,gq.setBlock w b (.map (es.modify j λ e=>{e with key:=.int .i64 k,val:=v}) c),?_⟩
 ·simp[Instr.mapUpdate,run_underlying ht,MapKept.run_getObj_map h1,hc,h8,nU h1,Result.andThen,UD,iL]
 rw[h5]
 have JD:∀e',es[j]?=some e'->({e' with key:=.int .i64 k,val:=v}:MapEntry).key=e'.key:=λ e' he'=>by
  grind
 refine⟨_,_,jZ _ nH,MapKept.stamped_modify h2 j _ (λ _ _=>rfl) (λ e' _ he'=>JD e' he'),?_,?_⟩
 ·rw[MapKept.modify_keys j _ JD,h3]
 rw[<- h4]
 apply List.ext_getElem?
 grind
theorem acm{T Kt E R:TypeId}{A2:Array TypeId}{k:Int}(h:mn w b ks vs)(ha:A2[0]?=some T)(ht:P.underlying T=some (.map Kt E))(hk:P.underlying Kt=some (.int .i64)) :
  ∃w',(Builtin.delete_ A2 R [.map (some b),.int .i64 k].toArray).run P w=.ok (.tuple #[]) w'/\gq (· = b) w w'/\
   (match kJ ks k with|some j=>mn w' b (ks.eraseIdx j) (vs.eraseIdx j)|none=>mn w' b ks vs):=by
 have hn:=h.nodup
 have nH:=h.lt
 obtain⟨es,c,h1,h2,h3,h4⟩:=h
 have hc:=MapKept.run_checkKey (P:=P) (w:=w) (kt:=Kt) (k:=.int .i64 k) hk (by simp[IsKey]) es.isEmpty 9999
 rcases El (w:=w) (k:=k) hk hn h3 with⟨h5,h6⟩|⟨j,e,h5,h6,h7,h8⟩
 ·refine⟨_,?_,gq.setBlock w b (.map es c),?_⟩
  ·simp[Builtin.delete_,ha,run_underlying ht,MapKept.run_getObj_map h1,hc,h6,nU h1,Result.andThen]
  rw[h5]
  exact⟨_,_,jZ _ nH,h2,h3,h4⟩
 have hj:j<es.size:=by grind
 refine⟨_,?_,gq.setBlock w b (.map (es.eraseIdxIfInBounds j) c),?_⟩
 ·simp[Builtin.delete_,ha,run_underlying ht,MapKept.run_getObj_map h1,hc,h8,nU h1,Result.andThen]
 rw[h5]
 have he:(es.eraseIdxIfInBounds j).toList=es.toList.eraseIdx j:=by
  simp_all
 refine⟨_,_,jZ _ nH,MapKept.stamped_erase h2 j,?_,?_⟩
 ·rw[he,ChangeMaps.map_eraseIdx,h3,ChangeMaps.map_eraseIdx]
 rw[he,ChangeMaps.map_eraseIdx,h4]
theorem KY{T:TypeId}{K:Value->World->Prop}(hs:St w0 A L w)(k:∀b w',St w0 A (KX b [] []::L) w'->K (.map (some b)) w'):rC P (Instr.makeMap T none) w K:=
 ⟨_,_,rfl,k _ _ (hs.new (Ext.push w (.map #[] 0)) (F:=λ k=>k=w.heap.size) ⟨⟨#[],0,ni _ _,MapKept.stamped_empty 0,rfl,rfl⟩,λ _=>Iff.rfl⟩ λ b hb=>by rw[hb];exact Nat.le_refl _)⟩
theorem St.KZ(hs:St w0 A (KX b ks vs::L) w):mn w b ks vs:=by obtain⟨F,h,_⟩:=hs.head;exact h.1
end
section
variable {α:Type}[Flat α] {P:Program}{w w0 w':World}{A:Nat->Prop}{L:List HP}{b:Nat}{f:Int->List α}
abbrev CB(s:SV)(x:List α):HP:=bG (Flat.val s) x
def qN(b:Nat)(f:Int->List α):HP:=qd λ ks=>qd λ ss:List SV=>qd λ tJ:List (List α)=>fact (f=λ k=>(look ks tJ k).getD []) (sep (KX b ks (ss.map Flat.val)) (gS CB ss tJ))
def vE(w:World)(b:Nat)(f:Int->List α):Prop:=∃ks,∃ss:List SV,mn w b ks (ss.map Flat.val)/\(∀(i:Nat) (k:Int) (s:SV),ks[i]?=some k->ss[i]?=some s->dC (λ _=>True) w (Flat.val s) (f k))/\∀k,k ∉ ks->f k=[]
theorem vE.ext(h:vE w b f)(e:Ext w w'):vE w' b f:=by
 obtain⟨ks,ss,h1,h2,h3⟩:=h;exact⟨ks,ss,h1.ext e,λ i k s a c=>(h2 i k s a c).ext e,h3⟩
theorem pQ{β:Type}{ks:List Int}{xs:List β}{k:Int}{i:Nat}{x:β}(hn:ks.Nodup)(h1:ks[i]?=some k)(h2:xs[i]?=some x):look ks xs k=some x:=by
 unfold look;rw[rY hn h1];exact h2
theorem py{β:Type}{ks:List Int}{xs:List β}{k:Int}(h:k ∉ ks):look ks xs k=none:=by unfold look;rw[mq.2 h];rfl
theorem qN.rd{F:Nat->Prop}(h:(qN b f).p w F):vE w b f:=by
 obtain⟨ks,ss,tJ,hf,F1,F2,h1,h2,_,_⟩:=h
 refine⟨ks,ss,h1.1,λ i k s hk hs=>?_,λ k hk=>by rw[hf];dsimp only;rw[py hk];rfl⟩
 have hl:=Bm h2
 have hi:i<tJ.length:=by have:=(List.getElem?_eq_some_iff.1 hs).1;omega
 have hx:tJ[i]?=some tJ[i]:=List.getElem?_eq_getElem hi
 have iL:St w F2 [gS CB ss tJ] w:=St.begin h2
 have:=iL.ahh hs hx (Φ:=λ w=>dC (λ _=>True) w (Flat.val s) tJ[i]) λ h=>(bG.rd h).mono λ _ _=>trivial
 rw[hf];dsimp only
 rw[pQ h1.1.nodup hk hx];exact this
theorem St.WD(hs:St w0 A (qN b f::L) w):vE w b f:=by obtain⟨F,h,_⟩:=hs.head;exact qN.rd h
theorem vE.look{T Kt E:TypeId}{k:Int}(h:vE w b f)(ht:P.underlying T=some (.map Kt E))(hk:P.underlying Kt=some (.int .i64))(hz:n6 P E (.slice none 0 0)) :
  ∃s:SV,(Instr.lookup T (.map (some b)) (.int .i64 k) false).run P w=.ok (Flat.val s) w/\dC (λ _=>True) w (Flat.val s) (f k):=by
 obtain⟨ks,ss,h1,h2,h3⟩:=h
 have hr:=yT (P:=P) (k:=k) h1 ht hk hz
 cases vF:kJ ks k with
 | none=>
  have:Fw.look ks (ss.map Flat.val) k=none:=by unfold Fw.look;grind
  rw[this]at hr
  exact⟨cH,hr,by rw[h3 k (mq.1 vF)];exact dC.nil _ _⟩
 | some j=>
  have hj:=j8 vF
  have hl:=h1.len
  have hjs:j<ss.length:=by grind
  have hsj:ss[j]?=some ss[j]:=List.getElem?_eq_getElem hjs
  have:Fw.look ks (ss.map Flat.val) k=some (Flat.val ss[j]):=by unfold Fw.look;grind
  grind
theorem vE.anJ{T Kt E:TypeId}{k:Int}(h:vE w0 b f)(ht:P.underlying T=some (.map Kt E))(hk:P.underlying Kt=some (.int .i64))(hz:n6 P E (.slice none 0 0)) :
  ∃s:SV,(∀w,Ext w0 w->(Instr.lookup T (.map (some b)) (.int .i64 k) false).run P w=.ok (Flat.val s) w)/\dC (λ _=>True) w0 (Flat.val s) (f k):=by
 obtain⟨ks,ss,h1,h2,h3⟩:=h
 have hr:∀w,Ext w0 w->_:=λ w e=>yT (P:=P) (k:=k) (h1.ext e) ht hk hz
 cases vF:kJ ks k with
 | none=>
  have:Fw.look ks (ss.map Flat.val) k=none:=by unfold Fw.look;grind
  rw[this]at hr
  exact⟨cH,hr,by rw[h3 k (mq.1 vF)];exact dC.nil _ _⟩
 | some j=>
  have hj:=j8 vF
  have hl:=h1.len
  have hjs:j<ss.length:=by grind
  have hsj:ss[j]?=some ss[j]:=List.getElem?_eq_getElem hjs
  have:Fw.look ks (ss.map Flat.val) k=some (Flat.val ss[j]):=by unfold Fw.look;grind
  grind
theorem GN{T Kt E:TypeId}{k:Int}{K:Value->Prop}(h:vE w0 b f)(e:Ext w0 w)(ht:P.underlying T=some (.map Kt E))(hk:P.underlying Kt=some (.int .i64))(hz:n6 P E (.slice none 0 0))
  (kk:∀s:SV,dC (λ _=>True) w0 (Flat.val s) (f k)->K (Flat.val s)):JB P (Instr.lookup T (.map (some b)) (.int .i64 k) false) w K:=by
 obtain⟨s,h1,h2⟩:=h.anJ (P:=P) (k:=k) ht hk hz;exact⟨_,h1 w e,kk s h2⟩
def La(b:Nat)(f:Int->List α)(k:Int)(s:SV):HP:=qd λ ks=>qd λ ss:List SV=>qd λ tJ:List (List α)=>qd λ vs:List Value=>
 fact ((∀k',k'≠k->f k'=(look ks tJ k').getD [])/\look ks vs k=(kJ ks k).map (λ _=>Flat.val s)/\(kJ ks k=none->s=cH)/\vs.length=ss.length/\∀(i:Nat) (k':Int),ks[i]?=some k'->k'≠k->vs[i]?=(ss[i]?).map Flat.val) (sep (KX b ks vs) (gS CB ss tJ))
theorem St.Lb{k:Int}(hs:St w0 A (qN b f::L) w):∃s:SV,St w0 A (bG (Flat.val s) (f k)::La b f k s::L) w:=by
 obtain⟨ks,hs⟩:=hs.er;obtain⟨ss,hs⟩:=hs.er;obtain⟨tJ,hs⟩:=hs.er;obtain⟨hf,hs⟩:=hs.me
 replace hs:=hs.split
 have hm:=hs.KZ
 have hl:=hm.len
 have FH:=hs.p1.iP
 have hn:=hm.nodup
 rw[List.length_map]at hl
 cases vF:kJ ks k with
 | none=>
  refine⟨cH,?_⟩
  have hx:look ks tJ k=none:=by unfold look;rw[vF];rfl
  have e:f k=[]:=by rw[hf];dsimp only;rw[hx];rfl
  rw[e]
  refine(St.et ks (St.et ss (St.et tJ (St.et (ss.map Flat.val) (St.oc ⟨λ k' _=>by rw[hf],by unfold look;rw[vF];rfl,λ _=>rfl,by rw[List.length_map],λ i k' _ _=>by rw[List.getElem?_map]⟩ (St.join hs)))))).eJ
 | some j=>
  have hj:=j8 vF
  have hjk:=(List.getElem?_eq_some_iff.1 hj).1
  have hsj:ss[j]?=some (ss[j]'(by omega)):=List.getElem?_eq_getElem _
  have hxj:tJ[j]?=some (tJ[j]'(by omega)):=List.getElem?_eq_getElem _
  refine⟨ss[j]'(by omega),?_⟩
  have e:f k=tJ[j]'(by omega):=by rw[hf];dsimp only;rw[pQ hn hj hxj];rfl
  rw[e]
  have h1:=(hs.p1.focus hsj hxj).p1
  have h2:=(h1.eJ (α:=α)).p1
  have h3:St w0 A (CB (cH:SV) ([]:List α)::nB CB ss tJ j::_::_::L) w:=h2.p1
  have h4:=h3.DY (by omega) FH
  have h5:=h4.p2
  refine(St.et ks (St.et (ss.set j cH) (St.et (tJ.set j []) (St.et (ss.map Flat.val) (St.oc ⟨λ k' JD=>?_,by unfold look;rw[vF];simp[hsj],λ h=>(by cases vF.symm.trans h),(by simp),λ i k' hi JD=>?_⟩ (St.join h5)))))).p1
  ·rw[hf];dsimp only
   unfold look
   cases hq:kJ ks k' with
   | none=>rfl
   | some i=>
    have:j≠i:=λ e=>JD (by have:=j8 hq;rw[<- e,hj]at this;exact(Option.some.inj this).symm)
    simp[this]
  ·rw[List.getElem?_map,List.getElem?_set_ne]
   rintro rfl
   rw[hj]at hi;exact JD (Option.some.inj hi).symm
theorem St.Bu{T Kt E:TypeId}{k:Int}{s:SV}(hs:St w0 A (La b f k s::L) w)(ht:P.underlying T=some (.map Kt E))(hk:P.underlying Kt=some (.int .i64))(hz:n6 P E (.slice none 0 0)) :
  (Instr.lookup T (.map (some b)) (.int .i64 k) false).run P w=.ok (Flat.val s) w:=by
 obtain⟨ks,hs⟩:=hs.er;obtain⟨ss,hs⟩:=hs.er;obtain⟨tJ,hs⟩:=hs.er;obtain⟨vs,hs⟩:=hs.er;obtain⟨⟨_,h2,h3,_⟩,hs⟩:=hs.me
 have:=yT (P:=P) (k:=k) hs.split.KZ ht hk hz
 rw[h2]at this
 cases vF:kJ ks k with
 | none=>rw[vF]at this;rw[h3 vF];exact this
 | some j=>rw[vF]at this;exact this
theorem St.WE{k:Int}{s:SV}{xs:List α}(hs:St w0 A (bG (Flat.val s) xs::La b f k s::L) w):St w0 A (qN b (px f k xs)::L) w:=by
 replace hs:=hs.p1
 obtain⟨ks,hs⟩:=hs.er;obtain⟨ss,hs⟩:=hs.er;obtain⟨tJ,hs⟩:=hs.er;obtain⟨vs,hs⟩:=hs.er;obtain⟨⟨hf,h2,h3,hvs,WG⟩,hs⟩:=hs.me
 replace hs:=hs.split
 have hm:=hs.KZ
 have hl:=hm.len
 have hn:=hm.nodup
 have FH:=hs.p1.iP
 cases vF:kJ ks k with
 | none=>
  have Nx:=mq.1 vF
  have hval:vs=ss.map Flat.val:=List.ext_getElem? λ i=>by
   cases hi:ks[i]? with
   | none=>rw[List.getElem?_eq_none_iff]at hi;rw[List.getElem?_eq_none (by omega),List.getElem?_eq_none (by rw[List.length_map];omega)]
   | some k'=>rw[WG i k' hi (λ e=>Nx (e▸List.mem_of_getElem? hi)),List.getElem?_map]
  have hx:xs=[]:=by
   obtain⟨F,h,_⟩:=hs.p2.head
   rw[h3 vF]at h
   rcases h with⟨_,h,_⟩|⟨b',cap,rest,h,_⟩
   ·exact h
   ·cases h
  subst hx
  refine St.et ks (St.et ss (St.et tJ (St.oc ?_ (St.join ?_))))
  ·funext k'
   unfold px
   by_cases e:k'=k
   ·subst e;rw[if_pos rfl,py Nx];rfl
   ·rw[if_neg e,hf k' e]
  ·rw[<- hval];exact hs.p2.drop
 | some j=>
  have hj:=j8 vF
  have hjk:=(List.getElem?_eq_some_iff.1 hj).1
  have hsj:ss[j]?=some (ss[j]'(by omega)):=List.getElem?_eq_getElem _
  have hxj:tJ[j]?=some (tJ[j]'(by omega)):=List.getElem?_eq_getElem _
  have hvj:vs[j]?=some (Flat.val s):=by unfold look at h2;rw[vF]at h2;exact h2
  have h6:=((hs.p1.focus hsj hxj).drop).p2
  have h7:St w0 A (CB s xs::nB CB ss tJ j::_::L) w:=h6.p0
  have h8:=h7.DY (by omega) FH
  refine St.et ks (St.et (ss.set j s) (St.et (tJ.set j xs) (St.oc ?_ (St.join ?_))))
  ·funext k'
   unfold px
   by_cases e:k'=k
   ·subst e
    rw[if_pos rfl,pQ hn hj (x:=xs) (by rw[List.getElem?_set_self (by omega)])];rfl
   ·rw[if_neg e,hf k' e]
    unfold look
    cases hq:kJ ks k' with
    | none=>rfl
    | some i=>
     have:j≠i:=λ e'=>e (by have:=j8 hq;rw[<- e',hj]at this;exact(Option.some.inj this).symm)
     simp[this]
  ·have e:(ss.set j s).map Flat.val=vs:=by
    apply List.ext_getElem?
    intro i
    rw[List.getElem?_map]
    by_cases e:j=i
    ·subst e;rw[List.getElem?_set_self (by omega),hvj];rfl
    ·rw[List.getElem?_set_ne e]
     cases hi:ks[i]? with
     | none=>rw[List.getElem?_eq_none_iff]at hi;rw[List.getElem?_eq_none (show vs.length<=i by omega),List.getElem?_eq_none (show ss.length<=i by omega)];rfl
     | some k'=>rw[WG i k' hi (λ e'=>e (by rw[e']at hi;have h1:=rY hn hi;rw[vF]at h1;exact Option.some.inj h1))]
   rw[e];exact h8.p1
omit [Flat α]in
theorem Tl{f:Int->List α}{k:Int}:px f k (f k)=f:=by
 grind[px]
theorem Lc{T Kt E:TypeId}{k:Int}{s s':SV}{xs:List α}{K:World->Prop}(hs:St w0 A (bG (Flat.val s') xs::La b f k s::L) w)(ht:P.underlying T=some (.map Kt E))(hk:P.underlying Kt=some (.int .i64))
  (kk:∀w',St w0 A (qN b (px f k xs)::L) w'->K w'):Uz P (Instr.mapUpdate T (.map (some b)) (.int .i64 k) (Flat.val s')) w K:=by
 replace hs:=hs.p1
 obtain⟨ks,hs⟩:=hs.er;obtain⟨ss,hs⟩:=hs.er;obtain⟨tJ,hs⟩:=hs.er;obtain⟨vs,hs⟩:=hs.er;obtain⟨⟨hf,h2,h3,hvs,WG⟩,hs⟩:=hs.me
 replace hs:=hs.split
 have hm:=hs.KZ
 have hl:=hm.len
 have hn:=hm.nodup
 have FH:=hs.p1.iP
 obtain⟨w',r1,r2,r3⟩:=ack (P:=P) (v:=Flat.val s') (k:=k) hm ht hk
 refine⟨w',r1,kk w' ?_⟩
 cases vF:kJ ks k with
 | none=>
  rw[vF]at r3
  have h5:St w0 A (KX b (ks++[k]) (vs++[Flat.val s'])::_::_::L) w':=hs.qW λ F hF=>⟨F,⟨r3,hF.2⟩,λ b hb=>.inl hb,r2.mono λ k hk=>(hF.2 k).2 hk⟩
  have Nx:=mq.1 vF
  have hval:vs=ss.map Flat.val:=List.ext_getElem? λ i=>by
   cases hi:ks[i]? with
   | none=>rw[List.getElem?_eq_none_iff]at hi;rw[List.getElem?_eq_none (by omega),List.getElem?_eq_none (by rw[List.length_map];omega)]
   | some k'=>rw[WG i k' hi (λ e=>Nx (e▸List.mem_of_getElem? hi)),List.getElem?_map]
  have h6:=h5.p1
  have h7:St w0 A (gS CB (ss++[s']) (tJ++[xs])::_::L) w':=St.DX (H:=CB (α:=α)) (p:=s') (x:=xs) h6.p2.p1
  refine St.et (ks++[k]) (St.et (ss++[s']) (St.et (tJ++[xs]) (St.oc ?_ (St.join ?_))))
  ·funext k'
   unfold px
   by_cases e:k'=k
   ·subst e
    rw[if_pos rfl,pQ (i:=ks.length) r3.nodup (by simp) (x:=xs) (by rw[List.getElem?_append_right (by omega)];simp[show ks.length-tJ.length=0 from by omega])];rfl
   ·rw[if_neg e,hf k' e]
    by_cases sR:k'∈ks
    ·obtain⟨i,hi,hik⟩:=List.getElem_of_mem sR
     have hki:ks[i]?=some k':=by rw[List.getElem?_eq_getElem hi,hik]
     have hxi:tJ[i]?=some (tJ[i]'(by omega)):=List.getElem?_eq_getElem _
     rw[pQ hn hki hxi,pQ (i:=i) r3.nodup (by rw[List.getElem?_append_left hi];exact hki) (by rw[List.getElem?_append_left (by omega)];exact hxi)]
    ·rw[py sR,py (by simp[sR,e])]
  ·have e:(ss++[s']).map Flat.val=vs++[Flat.val s']:=by rw[hval,List.map_append];rfl
   rw[e];exact h7.p1
 | some j=>
  rw[vF]at r3
  have h5:St w0 A (KX b ks (vs.set j (Flat.val s'))::_::_::L) w':=hs.qW λ F hF=>⟨F,⟨r3,hF.2⟩,λ b hb=>.inl hb,r2.mono λ k hk=>(hF.2 k).2 hk⟩
  have hj:=j8 vF
  have hjk:=(List.getElem?_eq_some_iff.1 hj).1
  have hsj:ss[j]?=some (ss[j]'(by omega)):=List.getElem?_eq_getElem _
  have hxj:tJ[j]?=some (tJ[j]'(by omega)):=List.getElem?_eq_getElem _
  have h6:=((h5.p1.focus hsj hxj).drop).p2
  have h7:St w0 A (CB s' xs::nB CB ss tJ j::_::L) w':=h6.p0
  have h8:=h7.DY (by omega) FH
  refine St.et ks (St.et (ss.set j s') (St.et (tJ.set j xs) (St.oc ?_ (St.join ?_))))
  ·funext k'
   unfold px
   by_cases e:k'=k
   ·subst e
    rw[if_pos rfl,pQ hn hj (x:=xs) (by rw[List.getElem?_set_self (by omega)])];rfl
   ·rw[if_neg e,hf k' e]
    unfold look
    cases hq:kJ ks k' with
    | none=>rfl
    | some i=>
     have:j≠i:=λ e'=>e (by have:=j8 hq;rw[<- e',hj]at this;exact(Option.some.inj this).symm)
     simp[this]
  ·have e:(ss.set j s').map Flat.val=vs.set j (Flat.val s'):=by
    apply List.ext_getElem?
    intro i
    rw[List.getElem?_map]
    by_cases e:j=i
    ·subst e;rw[List.getElem?_set_self (by omega),List.getElem?_set_self (by omega)];rfl
    ·rw[List.getElem?_set_ne e,List.getElem?_set_ne e]
     cases hi:ks[i]? with
     | none=>rw[List.getElem?_eq_none_iff]at hi;rw[List.getElem?_eq_none (show vs.length<=i by omega),List.getElem?_eq_none (show ss.length<=i by omega)];rfl
     | some k'=>rw[WG i k' hi (λ e'=>e (by rw[e']at hi;have h1:=rY hn hi;rw[vF]at h1;exact Option.some.inj h1))]
   rw[e];exact h8.p1
theorem Aq{T:TypeId}{K:Value->World->Prop}(hs:St w0 A L w)(k:∀b w',St w0 A (qN b (λ _=>([]:List α))::L) w'->K (.map (some b)) w'):rC P (Instr.makeMap T none) w K:=
 KY hs λ b w' h=>k b w' (St.et [] (St.et [] (St.et ([]:List (List α)) (St.oc rfl (St.join ((h.new (Ext.refl w') (H:=gS CB [] []) (F:=aY) (λ _ h=>h) λ _ h=>h.elim).p1))))))
theorem Ld{T Kt E R:TypeId}{k:Int}{A2:Array TypeId}{K:Value->World->Prop}(hs:St w0 A (qN b f::L) w)(ha:A2[0]?=some T)(ht:P.underlying T=some (.map Kt E))(hk:P.underlying Kt=some (.int .i64))
  (kk:∀v w',St w0 A (qN b (px f k [])::L) w'->K v w'):rC P (Builtin.delete_ A2 R [.map (some b),.int .i64 k].toArray) w K:=by
 obtain⟨ks,hs⟩:=hs.er;obtain⟨ss,hs⟩:=hs.er;obtain⟨tJ,hs⟩:=hs.er;obtain⟨hf,hs⟩:=hs.me
 replace hs:=hs.split
 have hm:=hs.KZ
 have hl:=hm.len
 have FH:=hs.p1.iP
 have hn:=hm.nodup
 rw[List.length_map]at hl
 obtain⟨w',r1,r2,r3⟩:=acm (P:=P) (R:=R) (k:=k) hm ha ht hk
 refine⟨_,w',r1,kk _ w' ?_⟩
 cases vF:kJ ks k with
 | none=>
  rw[vF]at r3
  have h5:St w0 A (KX b ks (ss.map Flat.val)::_::L) w':=hs.qW λ F hF=>⟨F,⟨r3,hF.2⟩,λ b hb=>.inl hb,r2.mono λ k hk=>(hF.2 k).2 hk⟩
  refine St.et ks (St.et ss (St.et tJ (St.oc ?_ (St.join h5))))
  funext k'
  unfold px
  by_cases e:k'=k
  ·subst e;rw[if_pos rfl];unfold look;rw[vF];rfl
  ·rw[if_neg e,hf]
 | some j=>
  rw[vF]at r3
  have hj:=j8 vF
  have hjk:=(List.getElem?_eq_some_iff.1 hj).1
  have h5:St w0 A (KX b (ks.eraseIdx j) ((ss.map Flat.val).eraseIdx j)::_::L) w':=hs.qW λ F hF=>⟨F,⟨r3,hF.2⟩,λ b hb=>.inl hb,r2.mono λ k hk=>(hF.2 k).2 hk⟩
  have hsj:ss[j]?=some (ss[j]'(by omega)):=List.getElem?_eq_getElem _
  have hxj:tJ[j]?=some (tJ[j]'(by omega)):=List.getElem?_eq_getElem _
  have h6:=(h5.p1.focus hsj hxj).drop.S6
  dsimp only at r3
  rw[<- ChangeMaps.map_eraseIdx]at h6 r3
  refine St.et (ks.eraseIdx j) (St.et (ss.eraseIdx j) (St.et (tJ.eraseIdx j) (St.oc ?_ (St.join h6.p1))))
  funext k'
  unfold px
  by_cases e:k'=k
  ·subst e
   rw[if_pos rfl,py];rfl
   intro JS
   obtain⟨i,hi,hik⟩:=List.getElem_of_mem JS
   rw[List.getElem_eraseIdx]at hik
   split at hik
   ·have:=rY (j:=i) hn (k:=k') (by rw[<- hik];exact List.getElem?_eq_getElem _);rw[vF]at this;have:=Option.some.inj this;omega
   ·have:=rY (j:=i+1) hn (k:=k') (by rw[<- hik];exact List.getElem?_eq_getElem _);rw[vF]at this;have:=Option.some.inj this;omega
  ·rw[if_neg e,hf];dsimp only
   by_cases sR:k'∈ks
   ·obtain⟨i,hi,hik⟩:=List.getElem_of_mem sR
    have hki:ks[i]?=some k':=by rw[List.getElem?_eq_getElem hi,hik]
    have hxi:tJ[i]?=some (tJ[i]'(by omega)):=List.getElem?_eq_getElem _
    have hij:i≠j:=λ e'=>e (by rw[e',hj]at hki;exact(Option.some.inj hki).symm)
    rw[pQ hn hki hxi]
    by_cases nH:i<j
    ·rw[pQ (i:=i) r3.nodup (by rw[List.getElem?_eraseIdx_of_lt nH];exact hki) (by rw[List.getElem?_eraseIdx_of_lt nH];exact hxi)]
    ·rw[pQ (i:=i-1) r3.nodup (by rw[List.getElem?_eraseIdx_of_ge (by omega),show i-1+1=i from by omega];exact hki) (by rw[List.getElem?_eraseIdx_of_ge (by omega),show i-1+1=i from by omega];exact hxi)]
   ·rw[py sR,py (λ h=>sR ((List.eraseIdx_sublist ks j).subset h))]
end
section
variable {α:Type}[Flat α] {P:Program}{w w0 w':World}{A S:Nat->Prop}{L:List HP}{xs ys:List α}
theorem Om{T T2 E kS b o dn dc:Nat}{z:Option Nat}{R:TypeId}{src:Value}{cs:List Value}(ht:eK P T=some (E,Flat.sz α,kS,z))(hb:ng w b cs)(vO:dC S w src ys)
  (hn:ys.length<=dn) (SY:o+ys.length*Flat.sz α<=cs.length) :
  ∃w',(Builtin.copy_ #[T,T2] R [.slice (some ⟨b,o,none⟩) dn dc,src].toArray).run P w=.ok (.int .i64 ys.length) w'/\ng w' b (iX cs o (flat ys))/\gq (· = b) w w':=by
 obtain⟨hu,inf,hi,o7,yG,_⟩:=fp ht
 have hf:=xq (α:=α) (P:=P) (sz:=Flat.sz α) rfl vO
 have rd:=vO
 obtain⟨sa,Vu,rfl,hsc,hs3⟩:=rd
 obtain⟨w',h1,h2,h3⟩:=mJ (P:=P) (o:=o) (flat ys) 0 cs w hb (by rw[dG];omega) zN
 refine⟨w',?_,by omega,h3⟩
 simp[Builtin.copy_,run_underlying hu,sizeOf,typeInfo,hi,Builtin.lenOf,Nat.min_eq_left hn,hf,o7,h1,goInt]
theorem Le{T T2 E kS:Nat}{z:Option Nat}{R:TypeId}{v src:Value}{K:Value->World->Prop}(hs:St w0 A (bG v xs::L) w)(ht:eK P T=some (E,Flat.sz α,kS,z))(vO:dC S w src ys)(hn:ys.length<=xs.length)
  (k:∀w',St w0 A (bG v (ys++xs.drop ys.length)::L) w'->K (.int .i64 ys.length) w'):rC P (Builtin.copy_ #[T,T2] R [v,src].toArray) w K:=by
 obtain⟨U,F,U',g1,g2,g3,g4,g5⟩:=hs.tF
 rcases g1 with⟨rfl,rfl,hF⟩|⟨b,cap,rest,rfl,hb,hl,hF⟩
 ·obtain rfl:ys=[]:=by simpa using hn
  obtain⟨hu,inf,hi,o7,yG,_⟩:=fp ht
  have hf:=xq (α:=α) (P:=P) (sz:=Flat.sz α) rfl vO
  obtain⟨sa,Vu,rfl,hsc,hs3⟩:=vO
  refine⟨_,w,?_,k w hs⟩
  simp at hf
  simp[Builtin.copy_,run_underlying hu,sizeOf,typeInfo,hi,Builtin.lenOf,o7,hf,goInt]
 have hle:ys.length*Flat.sz α<=xs.length*Flat.sz α:=Nat.mul_le_mul_right _ hn
 obtain⟨w',h1,h2,h3⟩:=Om (P:=P) (o:=0) (dn:=xs.length) (dc:=cap) (T2:=T2) (R:=R) ht hb vO hn (by rw[List.length_append,dG];omega)
 refine⟨_,w',h1,k w' (hs.qW λ F' hF'=>?_)⟩
 rcases hF' with⟨h,_⟩|⟨b',DD,rest',hv,hb',hl',hF'⟩
 ·cases h
 simp only[Value.slice.injEq,Option.some.injEq,Addr.mk.injEq,and_true,true_and]at hv
 obtain⟨rfl,rfl⟩:=hv
 refine⟨F',.inr ⟨b,cap,rest,?_,?_,?_,hF'⟩,λ b hb=>.inl hb,h3.mono λ k hk=>(hF' k).2 hk⟩
 ·congr 1;rw[List.length_append,List.length_drop];omega
 ·have e:flat xs=[]++flat (xs.take ys.length)++flat (xs.drop ys.length):=by rw[List.nil_append,<- hG,List.take_append_drop]
  have:=l9 [] (flat (xs.take ys.length)) (flat (xs.drop ys.length)++rest) (flat ys) (by rw[dG,dG,List.length_take,Nat.min_eq_left hn])
  rw[List.length_nil]at this
  rw[e,List.append_assoc,this]at h2
  rw[hG,List.append_assoc];exact h2
 have e3:(ys++xs.drop ys.length).length=xs.length:=by rw[List.length_append,List.length_drop];omega
 exact⟨by rw[e3];exact hl.1,by have:=hl.2;rw[List.length_append,dG]at this |-;rw[e3];exact this⟩
end
section
variable {P:Program}{w w0 w':World}{A:Nat->Prop}{L:List HP}{b r:Nat}
def GO(r m since:Nat)(seen:Array Nat):HP where
 p w F:=w.heap[r]?=some (.mapIter (some m) since seen since)/\∀k,F k↔k=r
 loc w w' F h hh:=⟨(hh r ((h.2 r).2 rfl)).trans h.1,h.2⟩
 lt w F b' h hb:=by grind
theorem Tm{T Kt E:TypeId}{es:Array MapEntry}{clock:Nat}{K:Value->World->Prop}(hs:St w0 A L w)(ht:P.underlying T=some (.map Kt E))(hb:w.heap[b]?=some (.map es clock))
  (k:∀r w',St w0 A (GO r b clock #[]::L) w'->K (.pointer (some ⟨r,0,none⟩)) w'):rC P (Instr.range T (.map (some b))) w K:=
 ⟨_,_,run_range_map w T Kt E b es clock ht hb,k _ _ (hs.new (Ext.push w _) (F:=λ k=>k=w.heap.size) ⟨ni _ _,λ _=>Iff.rfl⟩ λ b hb=>by rw[hb];exact Nat.le_refl _)⟩
theorem WH{T since:Nat}{seen:Array Nat}{es:Array MapEntry}{K:Value->World->Prop}(hs:St w0 A (GO r b since seen::L) w)(hb:w.heap[b]?=some (.map es since))(hold:∀x∈es.toList,x.born<since)
  (k0:(leftOf es seen).size=0->K (.tuple #[.bool false]) w)
  (k1:∀e w',e∈(leftOf es seen).toList->St w0 A (GO r b since (seen.push e.born)::L) w'->K (.tuple #[.bool true,e.key,e.val]) w'):rC P (Instr.next (.pointer (some ⟨r,0,none⟩)) false T) w K:=by
 obtain⟨F,h,_⟩:=hs.head
 rcases run_next_at (P:=P) w T r b since since seen es since h.1 hb hold (Nat.le_refl _)with⟨h1,h2⟩|⟨e,he,w1,hw,h2⟩
 ·exact⟨_,w,h2,k0 h1⟩
 have e1:St w0 A (GO r b since seen::L) w1:=by
  rcases hw with rfl|rfl
  ·exact hs
  ·exact hs.ext ⟨rfl,rfl,rfl,Nat.le_refl _,λ _ _ _=>rfl⟩
 refine⟨_,_,h2,k1 e _ he (e1.qW λ F hF=>⟨F,⟨jZ _ (uU hF.1),hF.2⟩,λ b hb=>.inl hb,(gq.setBlock w1 r _).mono λ k hk=>(hF.2 k).2 hk⟩)⟩
theorem Tn{since:Nat}{seen:Array Nat}{es:Array MapEntry}{e:MapEntry}{K:Value->Prop}(hs:St w0 A (GO r b since (seen.push e.born)::L) w)(hb:w.heap[b]?=some (.map es since))(he:e∈es.toList)(hn:(es.toList.map (·.born)).Nodup)
  (k:K (.tuple #[e.key,e.val])):JB P (Instr.entry (.pointer (some ⟨r,0,none⟩))) w K:=by
 obtain⟨F,h,_⟩:=hs.head
 exact⟨_,run_entry_at w r b since seen es since e h.1 hb he hn,k⟩
theorem Em{o:Obj}(h:w.heap[b]?=some o)(e:Ext w w'):w'.heap[b]?=some o:=(e.bY b (uU h) λ h=>h).trans h
theorem wJ{seen:Array Nat}{x y:Nat}(h:(seen.push x).contains y=true):seen.contains y=true\/y=x:=by
 grind
theorem born_inj{es:Array MapEntry}(hn:(es.toList.map (·.born)).Nodup){e e':MapEntry}(h:e∈es.toList)(h':e'∈es.toList)(hb:e.born=e'.born):e=e':=by
 obtain⟨i,hi,rfl⟩:=List.getElem_of_mem h
 obtain⟨j,hj,rfl⟩:=List.getElem_of_mem h'
 have:=(List.getElem_inj (i:=i) (j:=j) (h₀:=by grind) (h₁:=by grind) hn).1 (by grind)
 grind
end
section
variable {P:Program}{w w0 w':World}{A:Nat->Prop}{L:List HP}{b r:Nat}
theorem bD{f:FuncId}{args:List Value}{H:HP}{H':Value->HP}{Φ:Value->World->Prop}{K:Value->World->Prop}(pl:Plain P f)(hs:St w0 A (H::L) w)
  (hc:∀F,H.p w F->(∀w',gq F w w'->St w0 A L w')->Calls P f args.toArray w (tX λ v w'=>Φ v w'/\mL F (H' v) w w')) (k:∀v w',Φ v w'->St w0 A (H' v::L) w'->K v w'):B2 P f args w K:=by
 obtain⟨U,F,U',h1,h2,h3,h4,h5⟩:=hs.tF
 refine dN pl (hc F h1 λ w' hw=>⟨hs.aF.trans hw (λ _ h=>h) λ b hb hf=>(h2 b hf).elim id λ hh=>by omega,U',h5.loc λ b hb=>hw.bY b (h5.lt b hb) λ hf=>h3 b hf hb⟩) λ v w' ⟨hΦ,hM⟩=>k v w' hΦ (hs.VT h2 h3 h5 hM)
theorem En{g:FuncId}{args first cap:List Value}{H:HP}{H':Value->HP}{Φ:Value->World->Prop}{K:Value->World->Prop}(pl:Plain P g)(hs:St w0 A (H::L) w)
  (hc:∀F,H.p w F->(∀w',gq F w w'->St w0 A L w')->Calls P g (first++args++cap).toArray w (tX λ v w'=>Φ v w'/\mL F (H' v) w w')) (k:∀v w',Φ v w'->St w0 A (H' v::L) w'->K v w'):kq P (.func (.func g) first.toArray cap.toArray) args w K:=by
 obtain⟨U,F,U',h1,h2,h3,h4,h5⟩:=hs.tF
 refine gK pl (hc F h1 λ w' hw=>⟨hs.aF.trans hw (λ _ h=>h) λ b hb hf=>(h2 b hf).elim id λ hh=>by omega,U',h5.loc λ b hb=>hw.bY b (h5.lt b hb) λ hf=>h3 b hf hb⟩) λ v w' ⟨hΦ,hM⟩=>k v w' hΦ (hs.VT h2 h3 h5 hM)
end
def Has(H:HP)(w:World):Prop:=∃F,H.p w F
theorem St.has{w w0:World}{A:Nat->Prop}{L:List HP}{H:HP}(hs:St w0 A (H::L) w):Has H w:=by obtain⟨F,h,_⟩:=hs.head;exact⟨F,h⟩
theorem Has.ext{H:HP}{w w':World}(h:Has H w)(e:Ext w w'):Has H w':=by
 obtain⟨F,h⟩:=h;exact⟨F,H.loc _ _ _ h λ b hb=>e.bY b (H.lt _ _ _ h hb) λ x=>x⟩
theorem Has.st{H:HP}{w:World}(h:Has H w):∃F,St w F [H] w:=by obtain⟨F,h⟩:=h;exact⟨F,St.begin h⟩
abbrev SI:=ByteArray×Int
def Rh(p:SI):Value×Value:=(.string p.1,.int .i64 p.2)
def uA(w:World)(b:Nat)(l:List SI):Prop:=
 ∃es clock,w.heap[b]?=some (.map es clock)/\Stamped es clock/\(es.toList.map λ e=>(e.key,e.val)).Perm (l.map Rh)
def eE:List SI->ByteArray->Int
 | [],_=>0
 | p::r,k=>if p.1=k then p.2 else eE r k
theorem uB:∀{l:List SI}{p:SI},(l.map (·.1)).Nodup->p∈l->eE l p.1=p.2
 | q::r,p,hn,hm=>by
  rw[List.map_cons,List.nodup_cons]at hn
  rcases List.mem_cons.1 hm with rfl|hm
  ·unfold eE;grind
  ·have:q.1≠p.1:=λ e=>hn.1 (List.mem_map.2 ⟨p,hm,e.symm⟩)
   unfold eE;rw[if_neg this];exact uB hn.2 hm
theorem yU:∀{l:List SI}{k:ByteArray},(∀p∈l,p.1≠k)->eE l k=0
 | [],_,_=>rfl
 | q::r,k,h=>by
  unfold eE;rw[if_neg (h q (List.mem_cons_self ..))];exact yU λ p hp=>h p (List.mem_cons_of_mem _ hp)
theorem On{l:List SI}{k:ByteArray}(hn:(l.map (·.1)).Nodup)(hz:∀p∈l,p.2≠0)(h:eE l k=0):∀p∈l,p.1≠k:=λ p hp e=>by
 subst e;exact hz p hp ((uB hn hp).symm.trans h)
section
variable {P:Program}{w w0 w':World}{A:Nat->Prop}{L:List HP}{b:Nat}{l:List SI}
theorem uA.of_eq(h:uA w b l)(hh:w'.heap[b]?=w.heap[b]?):uA w' b l:=by
 grind[uA]
theorem uA.lt(h:uA w b l):b<w.heap.size:=by obtain⟨es,c,h1,_⟩:=h;grind
theorem uA.nodup(h:uA w b l):(l.map (·.1)).Nodup:=by
 obtain⟨es,c,_,h2,h3⟩:=h
 have h4:=(h3.map Prod.fst)
 rw[List.map_map,List.map_map]at h4
 have h5:(l.map λ p=>Value.string p.1).Nodup:=h4.nodup_iff.1 h2.2.2
 grind
theorem uA.perm{l':List SI}(h:uA w b l)(hp:l.Perm l'):uA w b l':=by
 obtain⟨es,c,h1,h2,h3⟩:=h;exact⟨es,c,h1,h2,h3.trans (hp.map _)⟩
def nc(b:Nat)(l:List SI):HP where
 p w F:=uA w b l/\∀k,F k↔k=b
 loc w w' F h hh:=⟨h.1.of_eq (hh b ((h.2 b).2 rfl)),h.2⟩
 lt w F b' h hb:=by rw[(h.2 b').1 hb];exact h.1.lt
theorem WI{es:Array MapEntry}(h3:(es.toList.map λ e=>(e.key,e.val)).Perm (l.map Rh)){e:MapEntry}(he:e∈es.toList):∃p∈l,e.key=.string p.1/\e.val=.int .i64 p.2:=by
 have:(e.key,e.val)∈l.map Rh:=h3.mem_iff.1 (List.mem_map.2 ⟨e,he,rfl⟩)
 obtain⟨p,hp,hk⟩:=List.mem_map.1 this
 unfold Rh at hk
 grind
theorem WJ{es:Array MapEntry}(h3:(es.toList.map λ e=>(e.key,e.val)).Perm (l.map Rh)){p:SI}(hp:p∈l):∃e∈es.toList,e.key=.string p.1/\e.val=.int .i64 p.2:=by
 have:Rh p∈es.toList.map λ e=>(e.key,e.val):=h3.mem_iff.2 (List.mem_map.2 ⟨p,hp,rfl⟩)
 obtain⟨e,he,hk⟩:=List.mem_map.1 this
 unfold Rh at hk
 grind
theorem GP{T:TypeId}{k:ByteArray}{es:Array MapEntry}(hT:P.underlying T=some .string)(h3:(es.toList.map λ e=>(e.key,e.val)).Perm (l.map Rh)) :
  ((∀p∈l,p.1≠k)/\(Instr.findKey T (.string k) es.toList).run P w=.ok none w)\/∃j p,p∈l/\p.1=k/\(Instr.findKey T (.string k) es.toList).run P w=.ok (some (j,.int .i64 p.2)) w:=by
 rcases MapKept.findNow_spec (d:=.string) (k:=.string k) (by simp[IsKey]) es.toList 0 (λ x hx=>by obtain⟨p,_,e,_⟩:=WI h3 hx;rw[e];simp[IsKey])with⟨h1,h2⟩|⟨j,e,h1,h2,h4⟩
 ·refine .inl ⟨λ p hp e=>?_,MapKept.run_findKey hT h1⟩
  obtain⟨x,hx,e1,_⟩:=WJ h3 hp
  grind
 obtain⟨p,hp,e1,e2⟩:=WI h3 (List.mem_of_getElem? h2)
 rw[h4]at e1;injection e1 with e1
 refine .inr ⟨j,p,hp,e1.symm,?_⟩
 rw[Nat.zero_add,e2]at h1
 exact MapKept.run_findKey hT h1
theorem Lf{T Kt E:TypeId}{k:ByteArray}(h:uA w b l)(ht:P.underlying T=some (.map Kt E))(hk:P.underlying Kt=some .string)(hz:n6 P E (.int .i64 0)) :
  (Instr.lookup T (.map (some b)) (.string k) false).run P w=.ok (.int .i64 (eE l k)) w:=by
 have hn:=h.nodup
 obtain⟨es,c,h1,h2,h3⟩:=h
 have hz':(zeroValue E).run P w=.ok (.int .i64 0) w:=by
  unfold n6 eh at hz
  cases hi:P.info? E with
  | none=>grind
  | some i=>
   rw[hi]at hz
   simp only[Option.map_some,Option.some.injEq]at hz
   refine fS ?_ w
   unfold zeroValue;rw[cX,l6 hi];simp only[Option.bind_some,hz];rfl
 have hc:=MapKept.run_checkKey (P:=P) (w:=w) (kt:=Kt) (k:=.string k) hk (by simp[IsKey]) es.isEmpty 9999
 rcases GP (w:=w) (k:=k) hk h3 with⟨h5,h6⟩|⟨j,p,h5,h6,h7⟩
 ·simp[Instr.lookup,run_underlying ht,MapKept.run_getObj_map h1,hc,h6,hz',Result.andThen,yU h5]
 subst h6
 simp[Instr.lookup,run_underlying ht,MapKept.run_getObj_map h1,hc,h7,Result.andThen,uB hn h5]
theorem Lg{T Kt E:TypeId}{v:Int}{k:ByteArray}(h:uA w b l)(ht:P.underlying T=some (.map Kt E))(hk:P.underlying Kt=some .string)(eD:∀p∈l,p.1≠k) :
  ∃w',(Instr.mapUpdate T (.map (some b)) (.string k) (.int .i64 v)).run P w=.ok () w'/\gq (· = b) w w'/\uA w' b (l++[(k,v)]):=by
 have nH:=h.lt
 obtain⟨es,c,h1,h2,h3⟩:=h
 have hc:=MapKept.run_checkKey (P:=P) (w:=w) (kt:=Kt) (k:=.string k) hk (by simp[IsKey]) false 9999
 rcases GP (w:=w) (k:=k) hk h3 with⟨h5,h6⟩|⟨j,p,h5,h6,h7⟩
 ·refine⟨_,?_,gq.setBlock w b (.map (es.push ⟨.string k,.int .i64 v,c⟩) (c+1)),?_⟩
  ·simp[Instr.mapUpdate,run_underlying ht,MapKept.run_getObj_map h1,hc,h6,nU h1,Result.andThen]
  refine⟨_,_,jZ _ nH,MapKept.stamped_push h2 λ x hx e=>?_,?_⟩
  ·obtain⟨p,hp,e1,_⟩:=WI h3 hx
   grind
  rw[Array.toList_push,List.map_append,List.map_append]
  exact h3.append (List.Perm.refl _)
 grind
theorem Lh{T:TypeId}{K:Value->World->Prop}(hs:St w0 A L w)(k:∀b w',St w0 A (nc b []::L) w'->K (.map (some b)) w'):rC P (Instr.makeMap T none) w K:=
 ⟨_,_,rfl,k _ _ (hs.new (Ext.push w (.map #[] 0)) (F:=λ k=>k=w.heap.size) ⟨⟨#[],0,ni _ _,⟨by simp,by simp,by simp⟩,by simp⟩,λ _=>Iff.rfl⟩ λ b hb=>by rw[hb];exact Nat.le_refl _)⟩
theorem St.nc(hs:St w0 A (nc b l::L) w):uA w b l:=by obtain⟨F,h,_⟩:=hs.head;exact h.1
theorem xE{T Kt E:TypeId}{k:ByteArray}{K:Value->Prop}(h:uA w b l)(ht:P.underlying T=some (.map Kt E))(hk:P.underlying Kt=some .string)(hz:n6 P E (.int .i64 0))(kk:K (.int .i64 (eE l k))):JB P (Instr.lookup T (.map (some b)) (.string k) false) w K:=
 ⟨_,Lf h ht hk hz,kk⟩
theorem Li{T Kt E:TypeId}{v:Int}{k:ByteArray}{K:World->Prop}(hs:St w0 A (Fw.nc b l::L) w)(ht:P.underlying T=some (.map Kt E))(hk:P.underlying Kt=some .string)(eD:∀p∈l,p.1≠k)
  (kk:∀w',St w0 A (Fw.nc b (l++[(k,v)])::L) w'->K w'):Uz P (Instr.mapUpdate T (.map (some b)) (.string k) (.int .i64 v)) w K:=by
 obtain⟨w',h1,h2,h3⟩:=Lg (P:=P) (v:=v) (k:=k) hs.nc ht hk eD
 exact⟨w',h1,kk w' (hs.qW λ F hF=>⟨F,⟨h3,hF.2⟩,λ b hb=>.inl hb,h2.mono λ k hk=>(hF.2 k).2 hk⟩)⟩
theorem key_inj{es:Array MapEntry}(hn:(es.toList.map (·.key)).Nodup){e e':MapEntry}(h:e∈es.toList)(h':e'∈es.toList)(hb:e.key=e'.key):e=e':=by
 obtain⟨i,hi,rfl⟩:=List.getElem_of_mem h
 obtain⟨j,hj,rfl⟩:=List.getElem_of_mem h'
 have:=(List.getElem_inj (i:=i) (j:=j) (h₀:=by grind) (h₁:=by grind) hn).1 (by grind)
 grind
theorem WK{l:List SI}(hn:(l.map (·.1)).Nodup){p q:SI}(hp:p∈l)(hq:q∈l)(h:p.1=q.1):p=q:=by
 have h1:=uB hn hp
 have h2:=uB hn hq
 grind
end
open Go.MapKept (IsKey)
section
variable {P:Program}{w w':World}{b:Nat}{l:List ByteArray}
def Iw(w:World)(b:Nat)(l:List ByteArray):Prop:=
 ∃es clock,w.heap[b]?=some (.map es clock)/\(es.toList.map λ e=>(e.key,e.val))=l.map λ s=>(Value.string s,Value.bool true)
theorem Lj{T Kt E:TypeId}{k:ByteArray}(h:Iw w b l)(ht:P.underlying T=some (.map Kt E))(hk:P.underlying Kt=some .string)(hz:n6 P E (.bool false)) :
  (Instr.lookup T (.map (some b)) (.string k) false).run P w=.ok (.bool (l.any λ y=>decide (y=k))) w:=by
 obtain⟨es,c,h1,h2⟩:=h
 have hz':(zeroValue E).run P w=.ok (.bool false) w:=by
  unfold n6 eh at hz
  cases hi:P.info? E with
  | none=>grind
  | some i=>
   rw[hi]at hz
   simp only[Option.map_some,Option.some.injEq]at hz
   refine fS ?_ w
   unfold zeroValue;rw[cX,l6 hi];simp only[Option.bind_some,hz];rfl
 have hc:=MapKept.run_checkKey (P:=P) (w:=w) (kt:=Kt) (k:=.string k) hk (by simp[IsKey]) es.isEmpty 9999
 have mem:∀e∈es.toList,∃s∈l,e.key=.string s/\e.val=.bool true:=λ e he=>by
  have:(e.key,e.val)∈l.map λ s=>(Value.string s,Value.bool true):=by grind
  grind
 rcases MapKept.findNow_spec (d:=.string) (k:=.string k) (by simp[IsKey]) es.toList 0 (λ x hx=>by obtain⟨p,_,e,_⟩:=mem x hx;rw[e];simp[IsKey])with⟨h3,h4⟩|⟨j,e,h3,h4,h5⟩
 ·have:(l.any λ y=>decide (y=k))=false:=by
   rw[List.any_eq_false]
   intro s hs
   have:(Value.string s,Value.bool true)∈es.toList.map λ e=>(e.key,e.val):=by rw[h2];exact List.mem_map.2 ⟨s,hs,rfl⟩
   obtain⟨e,he,e1⟩:=List.mem_map.1 this
   simp only[Prod.mk.injEq]at e1
   intro h
   exact h4 e he (by rw[e1.1,of_decide_eq_true h])
  rw[this]
  simp[Instr.lookup,run_underlying ht,MapKept.run_getObj_map h1,hc,MapKept.run_findKey hk h3,hz',Result.andThen]
 obtain⟨s,hs,e1,e2⟩:=mem e (List.mem_of_getElem? h4)
 rw[h5]at e1;injection e1 with e1
 have:(l.any λ y=>decide (y=k))=true:=List.any_eq_true.2 ⟨s,hs,decide_eq_true e1.symm⟩
 rw[this]
 rw[Nat.zero_add,e2]at h3
 simp[Instr.lookup,run_underlying ht,MapKept.run_getObj_map h1,hc,MapKept.run_findKey hk h3,Result.andThen]
theorem Lk{T Kt E:TypeId}{k:ByteArray}{K:Value->Prop}(h:Iw w b l)(ht:P.underlying T=some (.map Kt E))(hk:P.underlying Kt=some .string)(hz:n6 P E (.bool false))(kk:K (.bool (l.any λ y=>decide (y=k)))):JB P (Instr.lookup T (.map (some b)) (.string k) false) w K:=
 ⟨_,Lj h ht hk hz,kk⟩
end
section
variable {P:Program}{w w0 w':World}{A:Nat->Prop}{L:List HP}{b:Nat}{l:List ByteArray}
theorem Iw.lt(h:Iw w b l):b<w.heap.size:=by obtain⟨es,c,h1,_⟩:=h;grind
def Oo(b:Nat)(l:List ByteArray):HP where
 p w F:=Iw w b l/\∀k,F k↔k=b
 loc w w' F h hh:=⟨by grind[Iw],h.2⟩
 lt w F b' h hb:=by rw[(h.2 b').1 hb];exact h.1.lt
theorem WL{T:TypeId}{K:Value->World->Prop}(hs:St w0 A L w)(k:∀b w',St w0 A (Oo b []::L) w'->K (.map (some b)) w'):rC P (Instr.makeMap T none) w K:=
 ⟨_,_,rfl,k _ _ (hs.new (Ext.push w (.map #[] 0)) (F:=λ k=>k=w.heap.size) ⟨⟨#[],0,ni _ _,rfl⟩,λ _=>Iff.rfl⟩ λ b hb=>by rw[hb];exact Nat.le_refl _)⟩
theorem WM{T Kt E:TypeId}{k:ByteArray}{K:World->Prop}(hs:St w0 A (Oo b l::L) w)(ht:P.underlying T=some (.map Kt E))(hk:P.underlying Kt=some .string)(eD:∀s∈l,s≠k)
  (kk:∀w',St w0 A (Oo b (l++[k])::L) w'->K w'):Uz P (Instr.mapUpdate T (.map (some b)) (.string k) (.bool true)) w K:=by
 have key:∃w',(Instr.mapUpdate T (.map (some b)) (.string k) (.bool true)).run P w=.ok () w'/\gq (· = b) w w'/\Iw w' b (l++[k]):=by
  obtain⟨F,h,_⟩:=hs.head
  have nH:=h.1.lt
  obtain⟨es,c,h1,h2⟩:=h.1
  have mem:∀e∈es.toList,∃s∈l,e.key=.string s:=λ e he=>by
   have:(e.key,e.val)∈l.map λ s=>(Value.string s,Value.bool true):=by rw[<- h2];exact List.mem_map.2 ⟨e,he,rfl⟩
   obtain⟨s,hs,e1⟩:=List.mem_map.1 this
   simp only[Prod.mk.injEq]at e1
   exact⟨s,hs,e1.1.symm⟩
  have hc:=MapKept.run_checkKey (P:=P) (w:=w) (kt:=Kt) (k:=.string k) hk (by simp[IsKey]) false 9999
  rcases MapKept.findNow_spec (d:=.string) (k:=.string k) (by simp[IsKey]) es.toList 0 (λ x hx=>by obtain⟨p,_,e⟩:=mem x hx;rw[e];simp[IsKey])with⟨h3,h4⟩|⟨j,e,h3,h4,h5⟩
  ·have h6:=MapKept.run_findKey (P:=P) (w:=w) hk h3
   refine⟨_,?_,gq.setBlock w b (.map (es.push ⟨.string k,.bool true,c⟩) (c+1)),_,_,jZ _ nH,?_⟩
   ·simp[Instr.mapUpdate,run_underlying ht,MapKept.run_getObj_map h1,hc,h6,nU h1,Result.andThen]
   ·rw[Array.toList_push,List.map_append,List.map_append,h2];rfl
  ·obtain⟨s,hs,e1⟩:=mem e (List.mem_of_getElem? h4)
   rw[h5]at e1;injection e1 with e1
   exact absurd e1.symm (eD s hs)
 obtain⟨w',h1,h2,h3⟩:=key
 exact⟨w',h1,kk w' (hs.qW λ F hF=>⟨F,⟨h3,hF.2⟩,λ b hb=>.inl hb,h2.mono λ k hk=>(hF.2 k).2 hk⟩)⟩
theorem St.Oo(hs:St w0 A (Fw.Oo b l::L) w):Iw w b l:=by obtain⟨F,h,_⟩:=hs.head;exact h.1
theorem Ll{f : FuncId}{fn : Func}{e : Array Value -> Sem Value}{args : List Value}{v : Value}{K : Value -> World -> Prop}(hf : P.funcs[f]?=some fn)(hb : (fn.name == "runtime.NumGoroutine")=false /\ fn.body.isNone=true /\ Extern.findNext fn=none)(he : Extern.find fn=some e)
  (hr:pr P (e args.toArray)=some v) (k:K v w):B2 P f args w K:=by
 refine⟨.inr ⟨v,w,?_,k⟩⟩
 show(match P.funcs[f]? with|none=>_|some fn=>_:Sem Next).run P w=_
 rw[hf]
 simp only[hb.1,hb.2.1,hb.2.2,he]
 have:=fS hr w
 simp_all
theorem Oq{T:Nat}{s:ByteArray}{i:Int}{K:Value->Prop}(hT:P.underlying T=some .string)(h0:0<=i)(h1:i<=s.size)(k:K (.string (s.extract i.toNat s.size))):eN P (Instr.sliceAt T (.string s) (some (.int .i64 i)) none none) K:=by
 refine⟨_,?_,k⟩
 unfold Instr.sliceAt
 rw[cX,cZ hT]
 simp only[Option.bind_some]
 unfold Instr.slice
 rw[cX,cZ hT]
 simp only[Option.bind_some]
 rw[if_neg (by decide)]
 have hb:pr P (Instr.sliceBounds false s.size s.size (some (.int .i64 i)) none none)=some (i.toNat,s.size,s.size):=by
  simp only[Instr.sliceBounds,cX,fM,Option.bind_some]
  rw[jd h0 (by omega)];rfl
 rw[cX,hb];rfl
theorem Iy(s:ByteArray)(i j:Nat):iH (s.extract i j)=((iH s).drop i).take (j-i):=by
 simp_all[iH]
theorem Ri{s t:ByteArray}(h:iH s=iH t):s=t:=by
 cases s;cases t
 exact congrArg ByteArray.mk (Array.toList_inj.1 h)
def FX:List UInt8->UInt8->Option Nat
 | [],_=>none
 | x::r,c=>if x=c then some 0 else(FX r c).map (· + 1)
def Eo(l:List UInt8)(c:UInt8):Int:=match FX l c with|some k=>(k:Int)|none=>-1
theorem GQ(l:List UInt8)(c:UInt8)(g:Nat->Bool):∀(r:List UInt8) (o:Nat),(∀j x,r[j]?=some x->g (o+j)=(x == c))->(List.range' o r.length).find? g=(FX r c).map (o + ·)
 | [],o,h=>rfl
 | x::r,o,h=>by
  have h0:=h 0 x rfl
  rw[List.length_cons,List.range'_succ,List.find?_cons,show g o=(x == c)from h0]
  unfold FX
  by_cases e:x=c
  ·grind
  ·rw[if_neg e,show(x == c)=false from beq_eq_false_iff_ne.2 e]
   show List.find? g _=_
   rw[GQ l c g r (o+1) λ j x hj=>by rw[show o+1+j=o+(j+1)from by omega];simp_all]
   rw[Option.map_map]
   congr 1;grind
theorem ahB(s:ByteArray)(c:UInt8):pr P (Extern.BytealgIndexByte.indexByte #[.string s,.int .u8 (c.toNat:Int)])=some (.int .i64 (Eo (iH s) c)):=by
 have he:Extern.BytealgIndexByte.indexByte #[.string s,.int .u8 (c.toNat:Int)]=(do let b <- Extern.Bytes.bytesOf (.string s);let d <- Extern.Bytes.asByte (.int .u8 (c.toNat:Int));match (List.range b.size).find? λ i=>b[i]! == d with|some i=>pure (goInt i)|none=>pure (goInt (-1))):=rfl
 have hc:(Extern.Bytes.asByte (.int .u8 (c.toNat:Int)))=pure c:=by
  show pure ((c.toNat:Int).toNat.toUInt8)=_
  simp_all
 have hb:(Extern.Bytes.bytesOf (.string s))=pure s:=rfl
 have hf:(List.range s.size).find? (λ i=>s[i]! == c)=FX (iH s) c:=by
  have:=GQ (iH s) c (λ i=>s[i]! == c) (iH s) 0 λ j x hj=>by
   rw[Q2]at hj
   grind
  rw[eT]at this
  rw[List.range_eq_range',this]
  simp_all
 rw[he]
 simp only[hc,hb,cX,fM,Option.bind_some,hf]
 unfold Eo
 cases FX (iH s) c<;>rfl
theorem WN(l:List UInt8)(c:UInt8):0<=Eo l c↔l.any (λ b=>decide (b=c))=true:=by
 unfold Eo
 induction l with
 | nil=>exact⟨λ h=>absurd (show(0:Int)<=-1 from h) (by decide),λ h=>by cases h⟩
 | cons x r ih=>
  rw[List.any_cons]
  unfold FX
  by_cases e:x=c
  ·rw[if_pos e,decide_eq_true e];exact⟨λ _=>rfl,λ _=>by show(0:Int)<=((0:Nat):Int);omega⟩
  ·rw[if_neg e,decide_eq_false e,Bool.false_or,<- ih]
   cases FX r c with
   | none=>exact Iff.rfl
   | some k=>exact⟨λ _=>by show(0:Int)<=(k:Int);omega,λ _=>by show(0:Int)<=((k+1:Nat):Int);omega⟩
end
end Go.Fw
namespace Go.Proofs.YtpdlpabnlkofmaaGreatDoor
open Go.Fw
variable (w:World) (K:Value->World->Prop)
def S335(s0 Ot As n3:Value):Prop:=
 bB .eql 3 n3 (i 0) λ a=>cV a (K (.slice none 0 0) w) (eN Tryz.prog (jz .eql 9 false true Ot (Go.Value.string (ByteArray.mk (#[])))) λ b=>cV b (cF 338 [s0,n3] w λ c d=>
 K c d) (fc (λ K1=>bB .lss 3 n3 (i 0) λ e=>cV e (cF 339 [s0,Ot] w λ f g=>bB .add 3 f (i 1) λ h=>K1 h g) (K1 n3 w)) (λ auG j=>∀_:Env,
 lN 9 s0 λ k=>bB .add 3 k (i 1) λ l=>eN Tryz.prog (Builtin.min_ #[3,3] 3 [auG,l].toArray) λ n=>rC Tryz.prog (Instr.makeSlice 91 n n) j λ o p=>bB .sub 3 n (i 1) λ q=>
 Gk (λ K2=>o8 (λ K3 WO i10 r=>∀_:Env,
 bA .lss 3 i10 q λ s=>cV s (cF 337 [WO,Ot] r λ t u=>bB .lss 3 t (i 0) λ v=>cV v (K2 WO i10 u) (bA .add 3 t As λ x=>eN Tryz.prog (Instr.sliceAt 9 WO none (some x) none) λ y=>
 iA 91 o i10 λ z=>sA 9 z y u λ aa=>lN 9 Ot λ ab=>bA .add 3 t ab λ ac=>eN Tryz.prog (Instr.sliceAt 9 WO (some ac) none none) λ ad=>bB .add 3 i10 (i 1) λ ae=>K3 ad ae aa)) (
 K2 WO i10 r)) (λ K3=>K3 s0 (i 0) p)) (λ auH afL af=>∀_:Env,
 iA 91 o afL λ ag=>sA 9 ag auH af λ ah=>bB .add 3 afL (i 1) λ ai=>eN Tryz.prog (Instr.sliceAt 91 o none (some ai) none) λ aj=>K aj ah))))
theorem aco(s0 Ot As n3:Value)(h:S335 w K s0 Ot As n3):CR 335 [s0,Ot,As,n3] w K:=
 qz 66 (λ _=>.nil) 256 [.tmp 8] Tryz.func335 h
theorem anK:PL 280:=dF Tryz.func280
theorem anL:PL 308:=dF Tryz.func308
theorem anM:PL 335:=dF Tryz.func335
theorem anN:PL 339:=dF Tryz.func339
theorem afM:PL 337:=dF Tryz.func337
theorem anO:PL 344:=dF Tryz.func344
end Go.Proofs.YtpdlpabnlkofmaaGreatDoor
namespace Go.Proofs.YtpdlpabnlkofmaaGreatDoor
open Go.Fw
theorem C344(s:ByteArray)(c:UInt8)(w:World):CR 344 [.string s,.int .u8 (c.toNat:Int)] w (λ v w'=>v=.int .i64 (Eo (iH s) c)/\Ext w w'):=by
 have hs:=St.start w;refine eS Tryz.func344 ?_;exact Ll Tryz.func349 ⟨by kernel_rfl,by kernel_rfl,by kernel_rfl⟩ (by kernel_rfl) (ahB s c) ⟨rfl,hs.aF⟩
def Iz(c:UInt8):ByteArray:=⟨#[c]⟩
theorem C340(s:ByteArray)(c:UInt8)(w:World):CR 340 [.string s,.string (Iz c)] w (λ v w'=>v=.int .i64 (Eo (iH s) c)/\Ext w w'):=by
 have hs:=St.start w;refine eS Tryz.func340 ?_;refine fg gZ ?_;refine⟨λ jv w'=>jv=.bool (decide (Iz c=s))/\w'=w,?_,?_⟩
 ·exact aH (aC (λ h=>absurd (show(1:Int)=0 from h) (by decide)) (λ _=>iD ⟨rfl,rfl⟩))
 rintro _ _ ⟨rfl,rfl⟩ _;refine aC (λ h=>?_) (λ _=>?_)
 ·subst h;exact⟨congrArg (Value.int .i64) (show(0:Int)=Eo [c] c by unfold Eo FX;rw[if_pos rfl];rfl),hs.aF⟩
 exact aH (aC (λ _=>jN (s:=Iz c) (e:=c) gZ (by decide) rfl (aT anO hs (C344 s c _) (λ _ _ hs=>⟨rfl,hs.aF⟩))) (λ h=>absurd (show(1:Int)=1 from rfl) h))
theorem C337(s:ByteArray)(c:UInt8)(w:World):CR 337 [.string s,.string (Iz c)] w (λ v w'=>v=.int .i64 (Eo (iH s) c)/\Ext w w'):=by
 have hs:=St.start w;refine eS Tryz.func337 ?_;exact aT ⟨_,Tryz.func340,by kernel_rfl,by kernel_rfl⟩ hs (C340 s c _) (λ _ _ hs=>⟨rfl,hs.aF⟩)
def kwT:ByteArray:=⟨#[108,105,110,101,32,118,111,108,32,108,111,99,107,32,116,104,114,101,97,100,32,114,101,103,32,108,111,97,100,32,115,116,111,114,101,32,99,97,115,32,102,108,117,115,104,32,111,112,116,32,115,102,101,110,99,101,32,109,102,101,110,99,101,32,116,97,107,101,32,103,105,118,101,32,105,102,32,101,108,115,101,32,108,111,111,112,32,98,114,101,97,107,32,99,104,101,99,107,32,114,101,99,111,118,101,114,32,97,108,119,97,121,115]⟩
def kwl:List UInt8:=iH kwT
def kwo(k:Nat):Nat:=(jJ.take k).foldl (λ n x=>n+x.size+1) 0
def To(k:Nat):ByteArray:=kwT.extract (kwo k) kwT.size
def zz(k:Nat):ByteArray:=jJ.getD k ⟨#[]⟩
def anP(k:Nat):Bool:=decide (FX (kwl.drop (kwo k)) 32=some (zz k).size)&&(decide ((kwl.drop (kwo k)).take (zz k).size=iH (zz k))&&(decide (kwo (k+1)=kwo k+((zz k).size+1))&&decide (kwo k+(zz k).size+1<=kwl.length)))
theorem acp:(List.range 20).all anP=true:=by decide +kernel
theorem Lm(k:Nat):iH (To k)=kwl.drop (kwo k):=by
 unfold To kwl
 rw[Iy]
 exact List.take_of_length_le (by rw[List.length_drop,eT];omega)
theorem ahD(k:Nat)(h:k<20):Eo (iH (To k)) 32=(zz k).size/\(zz k).size+1<=(To k).size/\(To k).extract 0 (zz k).size=zz k/\(To k).extract ((zz k).size+1) (To k).size=To (k+1):=by
 have:=List.all_eq_true.1 acp k (List.mem_range.2 h)
 unfold anP at this
 simp only[Bool.and_eq_true,decide_eq_true_eq]at this
 obtain⟨h1,h2,h3,h4⟩:=this
 have hl:(To k).size=kwl.length-kwo k:=by rw[<- eT,Lm,List.length_drop]
 refine⟨by rw[Lm];unfold Eo;rw[h1],by omega,Ri ?_,Ri ?_⟩
 ·rw[Iy,Lm,List.drop_zero,Nat.sub_zero];exact h2
 rw[Iy,Lm,Lm,List.drop_drop,h3]
 exact List.take_of_length_le (by grind)
theorem kwB(k:Nat):(zz k).size<=100:=by
 by_cases h:k<21
 ·exact(by decide +kernel:∀k,k<21->(zz k).size<=100) k h
 unfold zz;rw[List.getD_eq_getElem?_getD,List.getElem?_eq_none (show jJ.length<=k from Nat.le_of_not_lt h)];decide
theorem anQ:∀k,k<21->∀s∈jJ.take k,s≠zz k:=by decide +kernel
theorem WQ{k:Nat}(h:k<21):jJ[k]?=some (zz k):=by simp_all[jJ,zz]
theorem ahE{k:Nat}(h:k<21):(jJ.take k++List.replicate (21-k) (⟨#[]⟩:ByteArray)).set k (zz k)=(jJ.take (k+1)++List.replicate (21-(k+1)) (⟨#[]⟩:ByteArray)):=by
 have hl:(jJ.take k).length=k:=by rw[List.length_take];exact Nat.min_eq_left (Nat.le_of_lt h)
 rw[List.set_append_right _ _ (by omega),hl,Nat.sub_self,show 21-k=(21-(k+1))+1 from by omega,List.replicate_succ,List.set_cons_zero,List.take_add_one,WQ h,List.append_assoc]
 rfl
theorem IA{k:Nat}(h:k<21):(jJ.take k++List.replicate (21-k) (⟨#[]⟩:ByteArray)).length=21:=by
 rw[List.length_append,List.length_take,List.length_replicate,Nat.min_eq_left (show k<=jJ.length from Nat.le_of_lt h)];omega
theorem C339(w:World):CR 339 [.string kwT,.string (Iz 32)] w (λ v w'=>v=.int .i64 20/\Ext w w'):=by
 have hs:=St.start w;refine eS Tryz.func339 ?_;exact fg gZ (aH (aC (λ h=>absurd (show(1:Int)=0 from h) (by decide)) (λ _=>fg gZ (aH (aC (λ _=>jN (s:=Iz 32) (e:=32) gZ (by decide) rfl (Ll (e:=Extern.BytealgCount.count) (v:=.int .i64 20) Tryz.func343 ⟨by kernel_rfl,by kernel_rfl,by kernel_rfl⟩ (by kernel_rfl) (by kernel_rfl) ⟨rfl,hs.aF⟩)) (λ h=>absurd (show(1:Int)=1 from rfl) h))))))
theorem C335(w:World):CR 335 [.string kwT,.string (Iz 32),.int .i64 0,.int .i64 (-1)] w (λ v w'=>lL (bG v jJ) w w'):=by
 have hs:=St.start w;refine aco _ _ _ _ _ _ ?_;unfold S335;refine aH (aC (λ h=>absurd h (by decide)) (λ _=>iD (aC (λ h=>absurd h (by decide)) (λ _=>?_))));refine⟨λ jv w'=>jv=.int .i64 21/\St w aY [] w',?_,?_⟩
 ·exact aQ (aC (λ _=>aT anN hs (C339 _) (λ _ _ hs=>aK (by decide) ⟨rfl,hs⟩)) (λ h=>absurd (by decide) h))
 rintro _ _ ⟨rfl,hs⟩ _;refine fg gZ (aK (by decide) (qY ?_));rw[show min ((21:Int)) ((kwT.size:Int)+1)=21 from by decide];refine we (⟨#[]⟩:ByteArray) hs ik afc (by decide) (by decide) (by decide) (λ x31 _ hs=>fe (by decide) ?_);refine⟨λ s y w'=>s=.string (To 20)/\y=.int .i64 20/\St w aY [bG x31 (jJ.take 20++List.replicate (21-20) (⟨#[]⟩:ByteArray))] w',?_,?_⟩
 ·refine⟨λ mm s y w'=>∃k:Nat,s=.string (To k)/\y=.int .i64 (k:Int)/\mm=20-k/\k<=20/\St w aY [bG x31 (jJ.take k++List.replicate (21-k) (⟨#[]⟩:ByteArray))] w',⟨_,0,congrArg Value.string (by decide),rfl,rfl,Nat.zero_le _,hs⟩,?_⟩;rintro mm _ _ _ ⟨k,rfl,rfl,rfl,hk,hs⟩ _;refine aQ (aC (λ c1=>?_) (λ c1=>?_));rotate_left
  ·obtain rfl:k=20:=by omega
   exact⟨rfl,rfl,hs⟩
  obtain⟨t1,t2,t3,t4⟩:=ahD k (by omega);refine aT afM hs (C337 (To k) 32 _) (λ _ he hs=>?_);rw[t1];refine aQ (aC (λ h=>absurd h (by omega)) (λ _=>aK (show -9223372036854775808<=((zz k).size:Int)+0/\((zz k).size:Int)+0<=9223372036854775807 by have:=kwB k;omega) (nP gZ (by omega) (by omega) ?_)));rw[show(((zz k).size:Int)+0).toNat=(zz k).size from by omega,t3];refine dM hs ik (by omega) (by rw[IA (by omega)];omega) (λ q hq=>jm (zz k) hs gj hq (by rw[IA (by omega)];omega) (λ _ hs=>?_));rw[Int.toNat_natCast,ahE (by omega)]at hs;refine fg gZ (aK (show -9223372036854775808<=((zz k).size:Int)+1/\((zz k).size:Int)+1<=9223372036854775807 by have:=kwB k;omega) (Oq gZ (show(0:Int)<=((zz k).size:Int)+1 by omega) (show((zz k).size:Int)+1<=_ by omega) ?_))
  rw[show((zz k).size:Int)+(((Iz 32).size:Nat):Int)=((zz k).size:Int)+1 from rfl,show(((zz k).size:Int)+1).toNat=(zz k).size+1 from by omega,t4];exact aK (by omega) ⟨_,by omega,k+1,rfl,rfl,rfl,by omega,hs⟩
 rintro _ _ _ ⟨rfl,rfl,hs⟩ _;exact dM hs ik (by decide) (by rw[IA (by decide)];decide) (λ _ hq=>jm (To 20) hs gj hq (by rw[IA (by decide)];decide) (λ _ hs=>aK (by decide) (rQ ik hs (by decide) (by decide) (λ _ hs=>hs.fresh))))
theorem C308(w:World):CR 308 [.string kwT,.string (Iz 32)] w (λ v w'=>lL (bG v jJ) w w'):=by
 have hs:=St.start w;refine eS Tryz.func308 ?_;exact ek anM hs (C335 _) (λ _ _ _ hs=>hs.fresh)
theorem C280(w:World):CR 280 [] w (λ v w'=>∃b,v=.map (some b)/\Iw w' b jJ/\Ext w w'):=by
 have hs:=St.start w;refine eS Tryz.func280 ?_;refine WL hs (λ b _ hs=>ek anL hs (C308 _) (λ x5 _ cO hs=>aI ik (hs).dX ?_));refine⟨λ mm y w'=>∃k:Nat,y=.int .i64 (k:Int)/\mm=21-k/\k<=21/\St w aY [Oo b (jJ.take k),bG x5 jJ] w',⟨_,0,rfl,rfl,Nat.zero_le _,hs.p1⟩,?_⟩;rintro mm _ _ ⟨k,rfl,rfl,hk,hs⟩ _;refine aQ (aC (λ c1=>?_) (λ c1=>?_));rotate_left
 ·obtain rfl:k=21:=by have h:¬ (k:Int)<21:=c1;omega
  exact⟨b,rfl,hs.Oo,hs.aF⟩
 have vD:k<21:=by have h:(k:Int)<21:=c1;omega
 refine aO ik (hs.p1).dX (by omega) (WQ (show((k:Nat):Int).toNat<21 by omega)) (λ q hq=>aE gj hq ?_);rw[Int.toNat_natCast];refine WM hs Tryz.underlying329 gZ (anQ k vD) (λ _ hs=>aK (by omega) ?_);refine⟨_,by omega,k+1,rfl,rfl,by omega,?_⟩;rw[List.take_add_one,WQ vD];exact hs
def FnU(w:World)(f:Value)(g:UInt8->Bool):Prop:=∃g0 first cap,f=.func (.func g0) (List.toArray first) (List.toArray cap)/\Plain Tryz.prog g0/\
 ∀(c:UInt8) w1,Ext w w1->Calls Tryz.prog g0 (first++[Value.int .u8 c.toNat]++cap).toArray w1 (tX λ v w2=>v=.bool (g c)/\Ext w1 w2)
theorem acq{g:UInt8->Bool}{l:List UInt8}{k:Nat}(eD:∀y∈l.take k,g y=true)(hk:k<=l.length)(h:(match l[k]? with|some c=>g c|none=>false)=false):k=l.length↔l.all g=true:=by
 grind
def wK(s:ByteArray):Bool:=decide (s.size<1\/16<s.size)||(match (iH s)[0]? with|some c=>!gm c.toNat|none=>true)||jJ.any (λ y=>decide (y=s))
theorem WR{s:ByteArray}(h:wK s=false):s.size<=1048576:=by
 unfold wK at h
 grind
theorem WT{s:ByteArray}(h:wK s=true):gB s=false:=by
 show(!(wK s)&&_)=false
 rw[h];rfl
theorem WU{s:ByteArray}{n:Nat}(h:wK s=false)(hn:n=(iH s).length↔(iH s).all (λ c=>gm c.toNat||j6 c.toNat)=true):decide ((n:Int)=(s.size:Int))=gB s:=by
 show _=(!(wK s)&&!(iH s).any λ c=>!gm c.toNat&&!j6 c.toNat)
 rw[h,Bool.not_false,Bool.true_and,<- eT]
 grind
theorem ahF{s:ByteArray}(h:s.size=0):s=ByteArray.mk #[]:=by
 cases s with
 | mk a=>cases a with
  | mk l=>cases l with
   | nil=>rfl
   | cons x r=>simp[ByteArray.size]at h
theorem C234(c:Int)(w:World):CR 234 [.int .u8 c] w (λ v w'=>v=.bool (gm c)/\Ext w w'):=by
 have hs:=St.start w;refine eS Tryz.func234 ?_;refine⟨λ jv w'=>jv=.bool (decide (97<=c/\c<=122\/c=95))/\w=w',Ab (aC (λ _=>Aa (aC (λ _=>⟨JX (by omega),rfl⟩) (λ _=>nA ⟨xS (by omega),rfl⟩))) (λ _=>nA ⟨xS (by omega),rfl⟩)),?_⟩;rintro _ _ ⟨rfl,hw⟩ _;subst hw;exact⟨rfl,hs.aF⟩
theorem C238(c:Int)(w:World):CR 238 [.int .u8 c] w (λ v w'=>v=.bool (j6 c)/\Ext w w'):=by
 have hs:=St.start w;refine eS Tryz.func238 ?_;refine⟨λ jv w'=>jv=.bool (decide (48<=c/\c<=57))/\w=w',Ab (aC (λ _=>Aa ⟨xS (by omega),rfl⟩) (λ _=>⟨jvF (by omega),rfl⟩)),?_⟩;rintro _ _ ⟨rfl,hw⟩ _;subst hw;exact⟨rfl,hs.aF⟩
theorem C237(c:Int)(w:World):CR 237 [.int .u8 c] w (λ v w'=>v=.bool (gm c||j6 c)/\Ext w w'):=by
 have hs:=St.start w;refine eS Tryz.func237 ?_;refine⟨λ jv w'=>jv=.bool (gm c||j6 c)/\St w aY [] w',aT afC hs (C234 _ _) (λ _ _ hs=>aW (λ _=>⟨vb (by grind),hs⟩) (λ _=>aT anu hs (C238 _ _) (λ _ _ hs=>⟨vb (by grind),hs⟩))),?_⟩;rintro _ _ ⟨rfl,hs⟩ _;exact⟨rfl,hs.aF⟩
theorem C236(s:ByteArray)(fv:Value)(g:UInt8->Bool)(w:World)(hf:FnU w fv g)(hn:s.size<=1048576):CR 236 [.string s,fv] w (λ v w'=>∃n:Nat,v=.int .i64 (n:Int)/\(n=(iH s).length↔(iH s).all g=true)/\Ext w w'):=by
 obtain⟨g0,first,cap,rfl,oZ,jT⟩:=hf;have hs:=St.start w;refine acg _ _ _ _ ?_;unfold S236;refine⟨λ m x w1=>∃k:Nat,x=.int .i64 (k:Int)/\m=(iH s).length-k/\k<=(iH s).length/\(∀y∈(iH s).take k,g y=true)/\St w aY [] w1,⟨_,0,rfl,rfl,Nat.zero_le _,by simp,hs⟩,?_⟩;rintro m _ w1 ⟨k,rfl,rfl,hk,eD,hs⟩ _;have GH:=eT s;refine⟨λ jv w'=>jv=.bool (match (iH s)[k]? with|some c=>g c|none=>false)/\St w aY [] w',fg gZ (aQ (aC (λ jj=>?_) (λ _=>⟨vb (by grind),hs⟩))),?_⟩
 ·obtain⟨gV,dw⟩:∃xx,(iH (s))[((k:Int)).toNat]?=some xx:=⟨_,List.getElem?_eq_getElem (by rw[eT];omega)⟩;refine jN gZ (by omega) dw (gK oZ (jT gV _ hs.aF) ?_);rintro _ _ ⟨rfl,he⟩;have hs:=hs.ext he;exact⟨vb (by grind),hs⟩
 rintro _ _ ⟨rfl,hs⟩ _;refine aW (λ dO=>?_) (λ dO=>⟨k,rfl,acq eD hk (by simpa using dO),hs.aF⟩);obtain⟨gV,dw⟩:∃xx,(iH s)[k]?=some xx:=by cases h:(iH s)[k]? with|none=>rw[h]at dO;cases dO|some x=>exact⟨x,rfl⟩
 have Qz:=(List.getElem?_eq_some_iff.1 dw).1;exact aK (by omega) ⟨_,by omega,k+1,rfl,rfl,by omega,dR eD dw (by grind),hs⟩
theorem C235(s:ByteArray)(w:World):CR 235 [.string s] w (λ v w'=>v=.bool (jJ.any λ y=>decide (y=s))/\Ext w w'):=by
 have hs:=St.start w;refine eS Tryz.func235 ?_;refine dN anK (C280 _) ?_;rintro _ _ ⟨bk,rfl,hK,he⟩;have hs:=hs.ext he;exact Lk hK Tryz.underlying329 Tryz.underlying9 Vx ⟨rfl,hs.aF⟩
theorem C180(s:ByteArray)(w:World):CR 180 [.string s] w (λ v w'=>v=.bool (gB s)/\Ext w w'):=by
 have hs:=St.start w;refine eS Tryz.func180 ?_;refine⟨λ jv w'=>jv=.bool (wK s)/\St w aY [] w',iD (aC (λ IB=>?_) (λ IB=>?_)),?_⟩
 ·have hz:s.size=0:=by rw[IB];rfl
  exact⟨vb (by unfold wK;grind),hs⟩
 ·have hz:s.size≠0:=λ h=>IB (ahF h);refine fg gZ (cP (aC (λ _=>⟨vb (by unfold wK;grind),hs⟩) (λ fL=>?_)));obtain⟨WV,wL⟩:∃xx,(iH (s))[((0:Int)).toNat]?=some xx:=⟨_,List.getElem?_eq_getElem (by rw[eT];omega)⟩;refine jN gZ (by omega) wL ?_;have he0:(iH s)[0]?=some WV:=wL;have hz2:¬ (s.size<1\/16<s.size):=by omega
  exact aT afC hs (C234 _ _) (λ _ _ hs=>bQ (aW (λ _=>⟨vb (by unfold wK;grind),hs⟩) (λ _=>aT anx hs (C235 _ _) (λ _ _ hs=>⟨vb (by unfold wK;grind),hs⟩))))
 rintro _ _ ⟨rfl,hs⟩ _;refine aW (λ eQ=>⟨vb (WT eQ).symm,hs.aF⟩) (λ eQ=>dN anv (C236 s _ (λ c=>gm c.toNat||j6 c.toNat) _ ⟨237,[],[],rfl,anw,λ _ w1 _=>C237 _ w1⟩ (WR (by simpa using eQ))) ?_);rintro _ _ ⟨nr,rfl,hnr,he⟩;have hs:=hs.ext he;exact fg gZ (aH ⟨vb (WU (by simpa using eQ) hnr),hs.aF⟩)
def Tp(xs:List bX)(i:Int)(n:Nat):Int:=if n=0 then i else if i<0 then -1 else Cz xs.length (skip n (xs.drop i.toNat))
theorem acr(xs:List bX)(i:Int):Tp xs i 1=qe xs i:=by unfold Tp qe;omega
theorem WW(xs:List bX)(i:Int):Tp xs i 0=i:=rfl
theorem acs{xs:List bX}{i:Int}{n:Nat}(hn:0<n)(h:i<0\/(xs.length:Int)<=i):Tp xs i n = -1:=by
 unfold Tp
 rw[if_neg (by omega)]
 split
 ·rfl
 rw[List.drop_eq_nil_of_le (by omega)]
 cases n with
 | zero=>omega
 | succ n=>rfl
theorem acu{xs:List bX}{i:Int}{n:Nat}{x:bX}(hn:0<n)(h0:0<=i)(hx:xs[i.toNat]?=some x)(hk:kids x.op<0):Tp xs i n = -1:=by
 unfold Tp
 obtain⟨hl,he⟩:=List.getElem?_eq_some_iff.1 hx
 rw[if_neg (by omega),if_neg (by omega),List.drop_eq_getElem_cons hl,he]
 cases n with
 | zero=>omega
 | succ n=>
  grind[Cz,skip]
theorem WX{xs:List bX}{i:Int}{n m:Nat}{x:bX}(hn:0<n)(h0:0<=i)(hx:xs[i.toNat]?=some x)(hk:0<=kids x.op)(hm:(m:Int)=n+kids x.op-1):Tp xs i n=Tp xs (i+1) m:=by
 obtain⟨hl,he⟩:=List.getElem?_eq_some_iff.1 hx
 have h1:Tp xs i n=Cz xs.length (skip m (xs.drop (i+1).toNat)):=by
  unfold Tp
  rw[if_neg (by omega),if_neg (by omega),List.drop_eq_getElem_cons hl,he,show(i+1).toNat=i.toNat+1 from by omega]
  cases n with
  | zero=>omega
  | succ n=>
   grind[Cz,skip]
 rw[h1]
 grind[Cz,skip,Tp]
def WY(i:Int)(ks:List Ex)(k:Nat):List Int:=(List.range k).map λ j=>i+1+(qf ks j:Int)
theorem WZ(i:Int)(ks:List Ex)(k:Nat):WY i ks (k+1)=WY i ks k++[i+1+(qf ks k:Int)]:=by
 unfold WY;rw[List.range_succ,List.map_append];rfl
theorem Rj(i:Int)(ks:List Ex)(k:Nat):(WY i ks k).length=k:=by simp[WY]
theorem acv{i:Int}{ks:List Ex}{n k:Nat}{e:Int}(h:(WY i ks n)[k]?=some e):e=i+1+(qf ks k:Int)/\k<n:=by
 unfold WY at h
 grind
theorem C286(k:Int)(w:World):CR 286 [.int .i64 k] w (λ v w'=>v=.int .i64 (kids k)/\Ext w w'):=by
 have hs:=St.start w;refine eS Tryz.func286 ?_;refine⟨λ jv w'=>jv=.bool (decide (k=1\/k=2))/\w=w',aH (aC (λ _=>⟨JX (by omega),rfl⟩) (λ _=>aH ⟨xS (by omega),rfl⟩)),?_⟩;rintro _ _ ⟨rfl,hw⟩ _;subst hw;refine aC (λ Af=>?_) (λ Af=>⟨λ jv w'=>jv=.bool (decide (k=3\/k=4))/\w=w',aH (aC (λ _=>⟨JX (by omega),rfl⟩) (λ _=>aH ⟨xS (by omega),rfl⟩)),?_⟩)
 ·unfold kids;exact⟨congrArg (Value.int .i64) (by grind),hs.aF⟩
 rintro _ _ ⟨rfl,hw⟩ _;subst hw;refine aC (λ gL=>?_) (λ gL=>⟨λ jv w'=>jv=.bool (decide (5<=k/\k<=15))/\w=w',cS (aC (λ _=>im ⟨xS (by omega),rfl⟩) (λ _=>⟨jvF (by omega),rfl⟩)),?_⟩)
 ·unfold kids;exact⟨congrArg (Value.int .i64) (by grind),hs.aF⟩
 rintro _ _ ⟨rfl,hw⟩ _;subst hw;refine aC (λ jY=>?_) (λ jY=>?_)
 ·unfold kids;exact⟨congrArg (Value.int .i64) (by grind),hs.aF⟩
 unfold kids;exact⟨congrArg (Value.int .i64) (by grind),hs.aF⟩
theorem C243(x:bX)(w:World):CR 243 [Flat.val x] w (λ v w'=>v=.bool (!kQ x)/\Ext w w'):=by
 have hs:=St.start w;refine eS Tryz.func243 ?_;refine cI hs (λ yS _ hs=>⟨λ jv w'=>jv=.bool (decide (x.at_<0\/4000<x.at_))/\St w aY [bY yS (Flat.enc x)] w',aA rL (aB (v:=.int .i64 ((x).at_)) bL hs.hb rfl (aQ (aC (λ _=>⟨vb (by grind),hs⟩) (λ _=>aA rL (aB (v:=.int .i64 ((x).at_)) bL hs.hb rfl (cP ⟨vb (by grind),hs⟩)))))),?_⟩);rintro _ _ ⟨rfl,hs⟩ _;refine aW (λ Af=>?_) (λ Af=>?_)
 ·refine⟨vb ?_,hs.drop.aF⟩;unfold kQ
  grind
 refine aA eU (aB (v:=.int .i64 ((x).op)) bL hs.hb rfl (aH (aC (λ ji=>⟨λ jv w'=>jv=.bool (decide (0<=x.n/\x.n<=4294967296/\x.name=⟨#[]⟩))/\St w aY [bY yS (Flat.enc x)] w',aA je (aB (v:=.int .i64 ((x).n)) bL hs.hb rfl (cS (aC (λ _=>aA je (aB (v:=.int .i64 ((x).n)) bL hs.hb rfl (im (aC (λ _=>aA fY (aB (v:=.string ((x).name)) gj hs.hb rfl (iD ⟨vb (by grind),hs⟩))) (λ _=>⟨vb (by grind),hs⟩))))) (λ _=>⟨vb (by grind),hs⟩)))),?_⟩) (λ ji=>?_))))
 ·rintro _ _ ⟨rfl,hs⟩ _;refine⟨vb ?_,hs.drop.aF⟩;unfold kQ
  grind
 refine aA eU (aB (v:=.int .i64 ((x).op)) bL hs.hb rfl (aH (aC (λ jW=>⟨λ jv w'=>jv=.bool (decide (x.n=0)&&gB x.name)/\St w aY [bY yS (Flat.enc x)] w',aA je (aB (v:=.int .i64 ((x).n)) bL hs.hb rfl (aH (aC (λ _=>aA fY (aB (v:=.string ((x).name)) gj hs.hb rfl (aT KW hs (C180 _ _) (λ _ _ hs=>⟨vb (by grind),hs⟩)))) (λ _=>⟨vb (by grind),hs⟩)))),?_⟩) (λ jW=>?_))))
 ·rintro _ _ ⟨rfl,hs⟩ _;refine⟨vb ?_,hs.drop.aF⟩;unfold kQ
  grind
 refine⟨λ jv w'=>jv=.bool (decide (x.n=0/\x.name=⟨#[]⟩))/\St w aY [bY yS (Flat.enc x)] w',aA je (aB (v:=.int .i64 ((x).n)) bL hs.hb rfl (aH (aC (λ _=>aA fY (aB (v:=.string ((x).name)) gj hs.hb rfl (iD ⟨vb (by grind),hs⟩))) (λ _=>⟨vb (by grind),hs⟩)))),?_⟩;rintro _ _ ⟨rfl,hs⟩ _;refine⟨vb ?_,hs.drop.aF⟩;unfold kQ
 grind
theorem C242(x:bX)(w:World):CR 242 [Flat.val x] w (λ v w'=>v=.bool (kQ x)/\Ext w w'):=by
 have hs:=St.start w;refine eS Tryz.func242 ?_;exact cI hs (λ _ _ hs=>aE rK hs.At (aT anz hs (C243 _ _) (λ _ _ hs=>bQ ⟨vb (by simp),hs.drop.aF⟩)))
theorem C285(sv fv:Value)(xs:List bX)(g:bX->Bool)(w:World)(hL:dC (λ _=>True) w sv xs)(hf:vP w fv g)(hn:xs.length<=1073741824):CR 285 [sv,fv] w (λ v w'=>v=.int .i64 (rT g xs)/\Ext w w'):=by
 obtain⟨g0,first,cap,rfl,oZ,jT⟩:=hf;have hs:=St.start w;refine eS Tryz.func285 ?_;refine aI gN (hL.ext hs.aF) ?_;refine⟨λ m x w1=>∃k:Nat,x=.int .i64 (k:Int)/\m=xs.length-k/\k<=xs.length/\(∀y∈xs.take k,g y=false)/\St w aY [] w1,⟨_,0,rfl,rfl,Nat.zero_le _,by simp,hs⟩,?_⟩;rintro m _ w1 ⟨k,rfl,rfl,hk,eD,hs⟩ _;refine aQ (aC (λ jj=>?_) (λ _=>⟨congrArg (Value.int .i64) (iU (by rw[List.take_of_length_le (by omega)]at eD;exact eD)).symm,hs.aF⟩));obtain⟨gV,dw⟩:=gx (xs) (i:=((k:Int)).toNat) (by omega);refine aO gN hL (by omega) dw (λ _ gA=>aE rK (gA.ext hs.aF) (gK oZ (jT gV w1 hs.aF) ?_))
 rintro _ _ ⟨rfl,he⟩;have hs:=hs.ext he;exact aW (λ dO=>⟨congrArg (Value.int .i64) (lS eD dw dO).symm,hs.aF⟩) (λ dO=>aK (by omega) ⟨xs.length-(k+1),by omega,k+1,rfl,rfl,by omega,dR eD dw dO,hs⟩)
theorem C244(sv fv:Value)(xs:List bX)(g:bX->Bool)(w:World)(hL:dC (λ _=>True) w sv xs)(hf:vP w fv g)(hn:xs.length<=1073741824):CR 244 [sv,fv] w (λ v w'=>v=.bool (xs.any g)/\Ext w w'):=by
 have hs:=St.start w;refine eS Tryz.func244 ?_;exact aT anG hs (C285 _ _ _ _ _ (hL.ext hs.aF) (hf.ext hs.aF) (by omega)) (λ _ _ hs=>cS ⟨vb (kF _ _),hs.aF⟩)
theorem C245(lv:Value)(xs:List bX)(i:Int)(w:World)(hL:dC (λ _=>True) w lv xs)(hn:xs.length<=1048576):CR 245 [lv,.int .i64 i] w (λ v w'=>v=.int .i64 (qe xs i)/\Ext w w'):=by
 have hs:=St.start w;refine eS Tryz.func245 ?_;refine⟨λ m x y w1=>∃(a:Int) (n:Nat),x=.int .i64 a/\y=.int .i64 (n:Int)/\m=xs.length-a.toNat/\n<=1+a.toNat/\Tp xs a n=qe xs i/\St w aY [] w1,⟨_,i,1,rfl,rfl,rfl,by omega,acr _ _,hs⟩,?_⟩;rintro m _ _ w1 ⟨a,n,rfl,rfl,rfl,hna,A4,hs⟩ _;refine cP (aC (λ gH=>⟨λ jv w'=>jv=.bool (decide (a<0\/(xs.length:Int)<=a)||(match xs[a.toNat]? with|some x=>decide (kids x.op = -1)|none=>true))/\St w aY [] w',aQ (aC (λ _=>⟨vb (by grind),hs⟩) (λ ju=>aI gN (hL.ext hs.aF) (cS (aC (λ _=>⟨vb (by grind),hs⟩) (λ dO=>?_))))),?_⟩) (λ gH=>?_))
 ·obtain⟨po,rU⟩:=gx xs (i:=(a).toNat) (by omega);have Wm:=tH po.op;exact aO gN hL (by omega) rU (λ _ Ep=>bW (po).op eU Ep rfl rfl (λ _ wH=>aE bL (wH.ext hs.aF) (aT WA hs (C286 _ _) (λ _ _ hs=>aH ⟨vb (by grind),hs⟩))))
 ·rintro _ _ ⟨rfl,hs⟩ _;refine aW (λ ym=>?_) (λ ym=>?_)
  ·refine⟨congrArg (Value.int .i64) ?_,hs.aF⟩;rw[<- A4]
   by_cases hq:a<0\/(xs.length:Int)<=a
   ·exact(acs (by omega) hq).symm
   have hl:a.toNat<xs.length:=by omega
   rw[List.getElem?_eq_getElem hl]at ym;exact(acu (by omega) (by omega) (List.getElem?_eq_getElem hl) (by grind)).symm
  have h23:¬ (a<0\/(xs.length:Int)<=a):=by grind
  obtain⟨po,rU⟩:=gx xs (i:=(a).toNat) (by omega);have Wm:=tH po.op;have Of:0<=kids po.op:=by grind
  exact aO gN hL (by omega) rU (λ _ mj=>bW (po).op eU mj rfl rfl (λ _ uz=>aE bL (uz.ext hs.aF) (aT WA hs (C286 _ _) (λ _ _ hs=>aK (by omega) (aK (by omega) (fe (by omega) ⟨_,by omega,a+1,((n:Int)+kids po.op-1).toNat,rfl,congrArg (Value.int .i64) (by omega),rfl,by omega,by rw[<- A4];exact(WX (by omega) (by omega) rU Of (by omega)).symm,hs⟩))))))
 have UH:n=0:=by omega
 rw[UH,WW]at A4;exact⟨congrArg (Value.int .i64) A4,hs.aF⟩
theorem Ce{l:List bX}:fu l=(decide (l.length<=40)&&decide (qe l 0=l.length)&&!l.any kQ&&decide (Rc l<=12)):=by
 unfold fu;rw[D8]
theorem C287(lv:Value)(xs:List bX)(i:Int)(t:Ex)(w:World)(hL:dC (λ _=>True) w lv xs)(hn:xs.length<=1048576)(hT:A5 xs i t):CR 287 [lv,.int .i64 i] w (λ v w'=>lL (bG v (WY i t.eA t.eA.length)) w w'):=by
 obtain⟨po,hq,rU⟩:∃e,e=t.root/\xs[(i).toNat]?=some e:=⟨_,rfl,hT.root.1⟩;have hri:=hT.root.2;have hie:=hT.end;have Of:=Ex.oL hT.2.1;rw[<- hq]at Of;have Wm:=tH po.op;have hi0:=hT.1;have hs:=St.start w;refine eS Tryz.func287 ?_;refine aK (by omega) (aO gN hL (by omega) rU (λ _ Ec=>bW (po).op eU Ec rfl rfl (λ _ W0=>aE bL (W0.ext hs.aF) (aT WA hs (C286 _ _) (λ w1 he hs=>?_)))));refine⟨λ m uT a x w1=>∃k:Nat,a=.int .i64 (i+1+qf t.eA k)/\x=.int .i64 (k:Int)/\m=t.eA.length-k/\k<=t.eA.length/\St w aY [bG uT (WY i t.eA k)] w1,⟨_,0,congrArg (Value.int .i64) (by simp[qf]),rfl,rfl,by omega,hs.eJ (α:=Int)⟩,?_⟩
 rintro m uT _ _ _ ⟨k,rfl,rfl,rfl,hk,hs⟩ _;refine aQ (aC (λ dO=>?_) (λ dO=>?_))
 ·obtain⟨a,sL⟩:=gx t.eA (i:=k) (by omega);have hka:=Ex.tI hT.2.1 (List.mem_of_getElem? sL);have Te:=hT.kid sL;have UE:=Te.end;have Tf:=a.q7;refine aX ([(i+1+qf t.eA k:Int)]) hs cM rfl rfl (dI rfl) (λ W3 _ hs=>?_);have IC:=(hs).dX;exact bI hs.p1 cM IC (by rw[Rj];exact Nat.le_of_lt (by simp;omega)) (by decide) (λ _ _ hs=>have hs:=hs.p1.drop;aT WB hs (C245 _ _ _ _ (hL.ext hs.aF) (by omega)) (λ _ _ hs=>aK (by omega) ⟨_,by omega,k+1,congrArg (Value.int .i64) (by rw[UE.1,uw sL];omega),rfl,rfl,by omega,by rw[WZ];exact hs⟩))
 rw[show t.eA.length=k from by omega];exact hs.fresh
theorem C246(lv:Value)(xs:List bX)(i:Int)(t:Ex)(N:Nat)(w:World)(hL:dC (λ _=>True) w lv xs)(hn:xs.length<=1048576)(hT:A5 xs i t)(hN:t.size<N):CR 246 [lv,.int .i64 i] w (λ v w'=>v=.int .i64 t.depth/\Ext w w'):=by
 obtain⟨po,hq,rU⟩:∃e,e=t.root/\xs[(i).toNat]?=some e:=⟨_,rfl,hT.root.1⟩;have hri:=hT.root.2;have hie:=hT.end;have Of:=Ex.oL hT.2.1;rw[<- hq]at Of;have Wm:=tH po.op;have hi0:=hT.1;have hs:=St.start w;refine ach _ _ _ _ ?_;unfold S246;refine ek anB hs (C287 _ _ _ t _ (hL.ext hs.aF) (by omega) hT) (λ x10 w1 cO hs=>?_);have JG:=Rj i t.eA t.eA.length;refine aI cM (hs).dX ?_;refine⟨λ m n x w1=>∃k:Nat,n=.int .i64 (CA t.eA k)/\x=.int .i64 (k:Int)/\m=t.eA.length-k/\k<=t.eA.length/\St w aY [bG x10 (WY i t.eA t.eA.length)] w1,⟨_,0,rfl,rfl,rfl,by omega,hs⟩,?_⟩;rintro m _ _ _ ⟨k,rfl,rfl,rfl,hk,hs⟩ _
 have hdk:=Og (ks:=t.eA) (N:=(t.size:Int)) (by omega) (λ a ha=>by have:=(Ex.tI hT.2.1 ha).2;have:=a.q7;omega) k;refine aQ (aC (λ wB=>?_) (λ _=>aK (by omega) ⟨congrArg (Value.int .i64) (by rw[t.KN,show k=t.eA.length from by omega]),hs.aF⟩));obtain⟨gV,dw⟩:=gx ((WY i t.eA t.eA.length)) (i:=((k:Int)).toNat) (by omega);refine dM hs cM (by omega) (by omega) (λ _ gA=>gD hs bL gA dw ?_);obtain⟨rfl,FJ⟩:=acv dw;obtain⟨a,sL⟩:=gx t.eA (i:=k) (by omega);have hka:=Ex.tI hT.2.1 (List.mem_of_getElem? sL);have Te:=hT.kid sL;have UE:=Te.end;have Tf:=a.q7
 exact aT afD hs (C246 _ _ _ _ (N-1) _ (hL.ext hs.aF) hn Te (by omega)) (λ _ _ hs=>CU (aK (by omega) ⟨_,by omega,k+1,by rw[Bq sL],rfl,rfl,by omega,hs⟩))
termination_by N
decreasing_by all_goals omega
theorem C185(lv:Value)(xs:List bX)(w:World)(hL:dC (λ _=>True) w lv xs)(hn:xs.length<=1048576):CR 185 [lv] w (λ v w'=>v=.bool (fu xs)/\Ext w w'):=by
 have hs:=St.start w;refine eS Tryz.func185 ?_;refine⟨λ jv w'=>jv=.bool (decide (xs.length=0\/40<xs.length)||xs.any kQ||decide (¬ qe xs 0=xs.length))/\St w aY [] w',aI gN (hL.ext hs.aF) (aH (aC (λ _=>⟨vb (by grind),hs⟩) (λ pk=>aI gN (hL.ext hs.aF) (cP (aC (λ _=>⟨vb (by grind),hs⟩) (λ gL=>?_)))))),?_⟩
 ·have hfn:vP w (.func (.func 242) [].toArray [].toArray) kQ:=
   ⟨242,[],[],rfl,anA,λ y w1 _=>C242 y w1⟩
  exact aT anF hs (C244 _ _ _ _ _ (hL.ext hs.aF) hfn (by omega)) (λ _ _ hs=>aW (λ _=>⟨vb (by grind),hs⟩) (λ _=>aT WB hs (C245 _ _ _ _ (hL.ext hs.aF) (by omega)) (λ _ _ hs=>aI gN (hL.ext hs.aF) (bV ⟨vb (by grind),hs⟩))))
 rintro _ _ ⟨rfl,hs⟩ _;refine aW (λ mS=>?_) (λ mS=>?_)
 ·refine⟨vb ?_,hs.aF⟩;rw[Ce]
  by_cases h0:xs.length=0
  ·obtain rfl:=List.length_eq_zero_iff.1 h0;rfl
  grind
 have Wp:qe xs 0=xs.length:=by grind
 obtain⟨t,ht⟩:=A5.of (xs:=xs) (i:=0) (by omega);have hz:=ht.zero Wp;refine aT afD hs (C246 _ _ _ t (t.size+1) _ (hL.ext hs.aF) hn ht (by omega)) (λ _ he hs=>im ?_);refine⟨vb ?_,hs.aF⟩;rw[Ce];unfold Rc;rw[hz.2]
 grind
def nL(o:List ByteArray)(x:bX):List ByteArray:=if x.op=2/\o.any (λ y=>decide (y=x.name))=false then o++[x.name]else o
theorem W4{o:List ByteArray}{x:bX}(h:x.op=2/\o.any (λ y=>decide (y=x.name))=false):nL o x=o++[x.name]:=if_pos h
theorem W5{o:List ByteArray}{x:bX}(h:¬ (x.op=2/\o.any (λ y=>decide (y=x.name))=false)):nL o x=o:=if_neg h
def nM(xs:List bX):List ByteArray:=xs.foldl nL []
theorem Ln{xs:List bX}{k:Nat}{x:bX}(h:xs[k]?=some x):nM (xs.take (k+1))=nL (nM (xs.take k)) x:=by
 unfold nM;rw[<- gz h,List.foldl_append];rfl
theorem Cf(xs:List bX):(nM xs).length<=xs.length:=by
 have:∀(l:List bX) (o:List ByteArray),(l.foldl nL o).length<=o.length+l.length:=by
  intro l
  induction l with
  | nil=>grind
  | cons x l ih=>
   grind[nL]
 simpa[nM]using this xs []
theorem Ou(g:ByteArray->Bool)(xs:List bX):(nM xs).any g=xs.any λ x=>decide (x.op=2)&&g x.name:=by
 have:∀(l:List bX) (o:List ByteArray),(l.foldl nL o).any g=(o.any g||l.any λ x=>decide (x.op=2)&&g x.name):=by
  intro l
  induction l with
  | nil=>grind
  | cons x l ih=>
   intro o
   show(l.foldl nL (nL o x)).any g=_
   rw[ih]
   have h2:(nL o x).any g=(o.any g||(decide (x.op=2)&&g x.name)):=by
    unfold nL
    grind
   grind
 exact(this xs []).trans (by simp)
theorem Bv(ns:List ByteArray)(s:ByteArray):decide (0<=cU ns s)=ns.any λ y=>decide (y=s):=kF _ _
theorem Tq(ns:List ByteArray)(s:ByteArray):decide (cU ns s<0) = !ns.any λ y=>decide (y=s):=by
 rw[<- Bv]
 grind
theorem Ov{k:Int}(h:0<=kids k):eB k=kids k:=by unfold eB kids at *;grind
theorem acw{ns:List ByteArray}{xs:List bX}(h:fu xs=false):kH ns xs=8:=by unfold kH;grind
theorem acx{ns:List ByteArray}{xs:List bX}(h:fu xs=true):kH ns xs=if (nM xs).any (λ s=>!ns.any λ y=>decide (y=s))=true then 9 else 0:=by
 unfold kH
 rw[if_neg (by simp[h]),Ou]
 simp only[Tq]
theorem Lo{ns:List ByteArray}{xs:List bX}(h:¬ kH ns xs=0):qg ns xs=[]:=by unfold qg;grind
def pA(ns:List ByteArray)(nums:List Int)(xs:List bX):Int×Int:=if ns.length=nums.length then(if kH ns xs=0 then runM (qg ns xs) nums else(0,kH ns xs))else(0,1)
theorem C225(sv:Value)(ns:List ByteArray)(s:ByteArray)(w:World)(hL:dC (λ _=>True) w sv ns)(hn:ns.length<=1048576):CR 225 [sv,.string s] w (λ v w'=>v=.int .i64 (cU ns s)/\Ext w w'):=by
 have hs:=St.start w;refine eS Tryz.func225 ?_;refine aI ik (hL.ext hs.aF) ?_;refine⟨λ m x w1=>∃k:Nat,x=.int .i64 (k:Int)/\m=ns.length-k/\k<=ns.length/\(∀y∈ns.take k,decide (y=s)=false)/\St w aY [] w1,⟨_,0,rfl,rfl,Nat.zero_le _,by simp,hs⟩,?_⟩;rintro m _ w1 ⟨k,rfl,rfl,hk,eD,hs⟩ _;refine aQ (aC (λ jj=>?_) (λ _=>⟨congrArg (Value.int .i64) (iU (by rw[List.take_of_length_le (by omega)]at eD;exact eD)).symm,hs.aF⟩));obtain⟨gV,dw⟩:=gx (ns) (i:=((k:Int)).toNat) (by omega);exact aO ik hL (by omega) dw (λ _ gA=>aE gj (gA.ext hs.aF) (iD (aC (λ dO=>⟨congrArg (Value.int .i64) (lS eD dw (decide_eq_true dO.symm)).symm,hs.aF⟩) (λ dO=>aK (by omega) ⟨_,by omega,k+1,rfl,rfl,by omega,dR eD dw (decide_eq_false (λ h=>dO h.symm)),hs⟩))))
theorem C263(sv:Value)(ns:List ByteArray)(s:ByteArray)(w:World)(hL:dC (λ _=>True) w sv ns)(hn:ns.length<=1048576):CR 263 [sv,.string s] w (λ v w'=>v=.bool (ns.any λ y=>decide (y=s))/\Ext w w'):=by
 have hs:=St.start w;refine eS Tryz.func263 ?_;exact aT WC hs (C225 _ _ _ _ (hL.ext hs.aF) (by omega)) (λ _ _ hs=>cS ⟨vb (Bv _ _),hs.aF⟩)
theorem C281(sv fv:Value)(xs:List ByteArray)(g:ByteArray->Bool)(w:World)(hL:dC (λ _=>True) w sv xs)(hf:vP w fv g)(hn:xs.length<=1073741824):CR 281 [sv,fv] w (λ v w'=>v=.int .i64 (rT g xs)/\Ext w w'):=by
 obtain⟨g0,first,cap,rfl,oZ,jT⟩:=hf;have hs:=St.start w;refine eS Tryz.func281 ?_;refine aI ik (hL.ext hs.aF) ?_;refine⟨λ m x w1=>∃k:Nat,x=.int .i64 (k:Int)/\m=xs.length-k/\k<=xs.length/\(∀y∈xs.take k,g y=false)/\St w aY [] w1,⟨_,0,rfl,rfl,Nat.zero_le _,by simp,hs⟩,?_⟩;rintro m _ w1 ⟨k,rfl,rfl,hk,eD,hs⟩ _;refine aQ (aC (λ jj=>?_) (λ _=>⟨congrArg (Value.int .i64) (iU (by rw[List.take_of_length_le (by omega)]at eD;exact eD)).symm,hs.aF⟩));obtain⟨gV,dw⟩:=gx (xs) (i:=((k:Int)).toNat) (by omega);refine aO ik hL (by omega) dw (λ _ gA=>aE gj (gA.ext hs.aF) (gK oZ (jT gV w1 hs.aF) ?_))
 rintro _ _ ⟨rfl,he⟩;have hs:=hs.ext he;exact aW (λ dO=>⟨congrArg (Value.int .i64) (lS eD dw dO).symm,hs.aF⟩) (λ dO=>aK (by omega) ⟨xs.length-(k+1),by omega,k+1,rfl,rfl,by omega,dR eD dw dO,hs⟩)
theorem C240(sv fv:Value)(xs:List ByteArray)(g:ByteArray->Bool)(w:World)(hL:dC (λ _=>True) w sv xs)(hf:vP w fv g)(hn:xs.length<=1073741824):CR 240 [sv,fv] w (λ v w'=>v=.bool (xs.any g)/\Ext w w'):=by
 have hs:=St.start w;refine eS Tryz.func240 ?_;exact aT anH hs (C281 _ _ _ _ _ (hL.ext hs.aF) (hf.ext hs.aF) (by omega)) (λ _ _ hs=>cS ⟨vb (kF _ _),hs.aF⟩)
theorem C264(lv:Value)(xs:List bX)(w:World)(hL:dC (λ _=>True) w lv xs)(hn:xs.length<=1048576)(hr:fu xs=true):CR 264 [lv] w (λ v w'=>lL (bG v (nM xs)) w w'):=by
 have hs:=St.start w;refine eS Tryz.func264 ?_;refine aT Rg hs (C185 _ _ _ (hL.ext hs.aF) (by omega)) (λ w1 he hs=>bQ (aW (λ fL=>?_) (λ fL=>?_)))
 ·rw[hr]at fL;cases fL
 refine aI gN (hL.ext hs.aF) ?_;refine⟨λ m m9 x w1=>∃k:Nat,x=.int .i64 (k:Int)/\m=xs.length-k/\k<=xs.length/\St w aY [bG m9 (nM (xs.take k))] w1,⟨_,0,rfl,rfl,by omega,hs.eJ (α:=ByteArray)⟩,?_⟩;rintro m m9 _ _ ⟨k,rfl,rfl,hk,hs⟩ _;refine aQ (aC (λ mR=>?_) (λ mR=>?_))
 ·obtain⟨uq,u6⟩:=gx (xs) (i:=((k:Int)).toNat) (by omega);refine⟨λ jv w'=>St w aY [bG jv (nL (nM (xs.take k)) uq)] w',?_,?_⟩
  ·have U5:=Cf (xs.take k);rw[List.length_take]at U5;refine aO gN hL (by omega) u6 (λ _ D3=>aE rK (D3.ext hs.aF) (aM hs xw (λ ID _ hs=>aJ (x:=uq) hs rK rfl rfl (λ _ hs=>⟨λ jv w'=>jv=.bool (decide (uq.op=2)&&!(nM (xs.take k)).any (λ y=>decide (y=uq.name)))/\St w aY [bY ID (Flat.enc uq),bG m9 (nM (xs.take k))] w',aA eU (aB (v:=.int .i64 ((uq).op)) bL hs.hb rfl (aH (aC (λ _=>aA fY (aB (v:=.string ((uq).name)) gj hs.hb rfl (aT afH hs (C263 _ _ _ _ (hs.p1).dX (by omega)) (λ _ _ hs=>bQ ⟨vb (by grind),hs⟩)))) (λ _=>⟨vb (by grind),hs⟩)))),?_⟩))))
   rintro _ _ ⟨rfl,hs⟩ _;refine aW (λ nD=>?_) (λ nD=>?_)
   ·refine aA fY (aB (v:=.string ((uq).name)) gj hs.hb rfl (aX ([uq.name]) hs ik rfl rfl (dI rfl) (λ s_x28 _ hs=>?_)));have Oj:=(hs).dX;refine bI hs.p2 ik Oj (by simp<;>omega) (by decide) (λ s_x29 _ hs=>?_);have hs:=hs.p1.drop;rw[W4 (by simpa using nD)];exact hs.p1.drop
   rw[W5 (by simpa using nD)];exact hs.drop
  rintro Er _ hs _;exact aK (by omega) ⟨_,by omega,k+1,rfl,rfl,by omega,by rw[Ln (k:=k) u6];exact hs⟩
 rw[List.take_of_length_le (by omega)]at hs;exact hs.fresh
theorem IE{α:Type}[Flat α]{S:Nat->Prop}{w:World}{v:Value}{xs:List α}(h:dC S w v xs):uV v=true:=by obtain⟨a,c,rfl,_⟩:=h;rfl
theorem Tr(ns:List ByteArray)(xs:List bX):(qg ns xs).length<=xs.length:=by
 unfold qg
 split
 ·unfold Br
  cases h:yP xs with
  | none=>grind
  | some t=>
   rw[Ex.pq,<- Ex.cY,<- (vc h).2];omega
 grind
theorem C265(lv nv:Value)(xs:List bX)(ns:List ByteArray)(i:Int)(t:Ex)(N:Nat)(w:World)(hL:dC (λ _=>True) w lv xs)(hN:dC (λ _=>True) w nv ns)(hn:xs.length<=1048576)(A3:ns.length<=1048576)(hT:A5 xs i t)(hNt:t.size<N):CR 265 [lv,.int .i64 i,nv] w (λ v w'=>lL (bG v (t.steps ns)) w w'):=by
 obtain⟨po,hq,rU⟩:∃e,e=t.root/\xs[(i).toNat]?=some e:=⟨_,rfl,hT.root.1⟩;have hri:=hT.root.2;have hie:=hT.end;have Of:=Ex.oL hT.2.1;rw[<- hq]at Of;have Wm:=tH po.op;have hi0:=hT.1;have hwk:=Ov (k:=po.op) (by omega);have hs:=St.start w;refine oY Tryz.func265 (pl:=auF) ?_;refine aK (by omega) (aO gN hL (by omega) rU (λ _ gA=>bW (po).op eU gA rfl rfl (λ _ ur=>aE bL (ur.ext hs.aF) (aT Vo hs (C267 _ _) (λ w1 he hs=>?_)))));refine⟨λ m Oi a x w1=>∃k:Nat,a=.int .i64 (i+1+qf t.eA k)/\x=.int .i64 (k:Int)/\m=t.eA.length-k/\k<=t.eA.length/\St w aY [bG Oi (Wn ns t.eA k)] w1,⟨_,0,congrArg (Value.int .i64) (by simp[qf]),rfl,rfl,by omega,hs.eJ (α:=oe)⟩,?_⟩
 rintro m Oi _ _ _ ⟨k,rfl,rfl,rfl,hk,hs⟩ _;refine aQ (aC (λ eQ=>?_) (λ eQ=>?_))
 ·obtain⟨a,sL⟩:=gx t.eA (i:=k) (by omega);have hka:=Ex.tI hT.2.1 (List.mem_of_getElem? sL);have Te:=hT.kid sL;have UE:=Te.end;have Tf:=a.q7;have UF:=CX (ns:=ns) (ks:=t.eA) (k:=k);have Tg:=Ex.pq ns a;refine ek afE hs (C265 _ _ _ _ _ _ (N-1) _ (hL.ext hs.aF) (hN.ext hs.aF) hn A3 Te (by omega)) (λ x24 _ cO hs=>?_);have Ow:=(hs).dX;exact bI hs.p1 tc Ow (by omega) (by decide) (λ _ _ hs=>have hs:=hs.p1.drop;aT WB hs (C245 _ _ _ _ (hL.ext hs.aF) (by omega)) (λ _ _ hs=>aK (by omega) ⟨_,by omega,k+1,congrArg (Value.int .i64) (by rw[UE.1,uw sL];omega),rfl,rfl,by omega,by rw[KO sL];exact hs⟩))
 have UF:=CX (ns:=ns) (ks:=t.eA) (k:=k);refine aO gN hL (by omega) rU (λ _ Au=>bW (po).op eU Au rfl rfl (λ _ qO=>have hs:=hs.drew;aE bL (qO.ext hs.aF) (aO gN hL (by omega) rU (λ _ Ap=>bW (po).n je Ap rfl rfl (λ _ yn=>aE bL (yn.ext hs.aF) (pop (DM _ _) (aM hs Ij (λ Bp _ hs=>?_))))))));refine⟨eZ bL (qO.ext hs.aF),?_⟩;refine⟨eZ bL (yn.ext hs.aF),?_⟩;refine aJ (x:=(⟨(po).op,(po).n⟩:oe)) hs DH rfl rfl (λ _ hs=>⟨λ w'=>St w aY [bY Bp (Flat.enc (⟨po.op,Ex.numOf ns po⟩:oe)),bG Oi (Wn ns t.eA k)] w',aA nw (aB (v:=.int .i64 (((⟨(po).op,(po).n⟩:oe)).kind)) bL hs.hb rfl (aH (aC (λ vy=>?_) (λ vy=>?_)))),?_⟩)
 ·refine aO gN hL (by omega) rU (λ _ Am=>bW (po).name fY Am rfl rfl (λ _ KR=>aE gj (KR.ext hs.aF) (aT WC hs (C225 _ _ _ _ (hN.ext hs.aF) (by omega)) (λ _ he hs=>aA qc (aS hs bL (dI rfl) (rfl) (λ _ hs=>?_))))));have hs:=hs.enc (cs':=Flat.enc ({ (⟨(po).op,(po).n⟩:oe)with n:=(cU ns (po).name)}:oe)) rfl;have Rd:Ex.numOf ns po=cU ns (po).name:=if_pos vy;rw[<- Rd]at hs;exact hs
 ·have Rd:Ex.numOf ns po=po.n:=if_neg vy;rw[<- Rd]at hs;exact hs
 rintro _ hs _;refine aE DH hs.At (aX ([(⟨po.op,Ex.numOf ns po⟩:oe)]) hs tc rfl rfl (dI rfl) (λ anT _ hs=>?_));have Ox:=(hs).dX;refine bI hs.p2 tc Ox (by rw[UF,List.length_singleton];have:(t.steps ns).length=t.size:=Ex.pq ns t;rw[Ex.u9,List.length_append,List.length_singleton,<- show k=t.eA.length from by omega]at this;omega) (by decide) (λ anU _ hs=>?_);have hs:=hs.p1.drop;rw[Ex.u9,<- show k=t.eA.length from by omega,<- hq];exact hs.p1.drop.fresh
termination_by N
decreasing_by all_goals omega
theorem C262(s:ByteArray)(b2:Nat)(nv:Value)(ns:List ByteArray)(w:World)(hc:Cell w b2 0 nv)(hN:dC (λ _=>True) w nv ns)(A3:ns.length<=1048576):CR 262 [.string s,.pointer (some ⟨b2,0,none⟩)] w (λ v w'=>v=.bool (!ns.any λ y=>decide (y=s))/\Ext w w'):=by
 have hs:=St.start w;refine eS Tryz.func262 ?_;exact bM iZ (hc.ext hs.aF) (aT afH hs (C263 _ _ _ _ (hN.ext hs.aF) (by omega)) (λ _ _ hs=>bQ ⟨rfl,hs.aF⟩))
theorem C218(lv nv:Value)(xs:List bX)(ns:List ByteArray)(w:World)(hL:dC (λ _=>True) w lv xs)(hN:dC (λ _=>True) w nv ns)(hn:xs.length<=1048576)(A3:ns.length<=1048576):CR 218 [lv,nv] w (λ v w'=>∃s,v=.tuple #[s,.int .i64 (kH ns xs)]/\lL (bG s (qg ns xs)) w w'):=by
 have hs:=St.start w;refine aci _ _ _ _ ?_;unfold S218;refine nj hs (IE hN) (λ Lp w1 hs=>aT Rg hs (C185 _ _ _ (hL.ext hs.aF) (by omega)) (λ _ he hs=>bQ (aW (λ jj=>?_) (λ jj=>?_))))
 ·have h8:kH ns xs=8:=acw (by simpa using jj);refine⟨_,by rw[h8],?_⟩;rw[Lo (by rw[h8];decide)];exact(hs.drop.eJ (α:=oe)).fresh
 have hre:fu xs=true:=by simpa using jj
 have U5:=Cf xs;have SX:=acx (ns:=ns) hre;refine ek anC hs (C264 _ _ _ (hL.ext hs.aF) hn hre) (λ x12 _ cO hs=>?_)
 have hfn:vP _ (.func (.func 262) [].toArray [.pointer (some ⟨Lp,0,none⟩)].toArray) (λ s=>!ns.any λ y=>decide (y=s)):=
  ⟨262,[],_,rfl,anE,λ y w1 e1=>C262 y Lp nv ns w1 ((hs.p1.hb.cell rfl).ext e1) ((hN.ext hs.aF).ext e1) A3⟩
 refine aT afG hs (C240 _ _ _ _ _ (hs).dX hfn (by omega)) (λ _ he hs=>aW (λ jI=>?_) (λ jI=>?_))
 ·have h9:kH ns xs=9:=by rw[SX,if_pos jI]
  refine⟨_,by rw[h9],?_⟩;rw[Lo (by rw[h9];decide)];exact(hs.drop.drop.eJ (α:=oe)).fresh
 refine aB iZ hs.p1.hb rfl ?_;have h0:kH ns xs=0:=by rw[SX,if_neg (by simpa using jI)]
 have Wp:=yQ hre;obtain⟨t,ht⟩:=A5.of (xs:=xs) (i:=0) (by omega);have hz:=ht.zero Wp;refine ek afE hs (C265 _ _ _ _ _ t (t.size+1) _ (hL.ext hs.aF) (hN.ext hs.aF) hn A3 ht (by omega)) (λ x17 _ cO hs=>?_);refine⟨x17,by rw[h0],?_⟩;unfold qg Br;rw[if_pos h0,hz.2];exact hs.p1.drop.p1.drop.fresh
theorem C143(lv nv mv:Value)(xs:List bX)(ns:List ByteArray)(nums:List Int)(w:World)(hL:dC (λ _=>True) w lv xs)(hN:dC (λ _=>True) w nv ns)(hM:dC (λ _=>True) w mv nums)(hn:xs.length<=1048576)(A3:ns.length<=1048576):CR 143 [lv,nv,mv] w (λ v w'=>v=.tuple #[.int .i64 (pA ns nums xs).1,.int .i64 (pA ns nums xs).2]/\Ext w w'):=by
 have hs:=St.start w;refine acj _ _ _ _ _ ?_;unfold S143;refine aI ik (hN.ext hs.aF) (aI cM (hM.ext hs.aF) (bV (aC (λ jI=>?_) (λ jI=>?_))))
 ·refine⟨?_,hs.aF⟩;unfold pA;rw[if_neg (by omega)]
 refine dN anD (C218 _ _ _ _ _ (hL.ext hs.aF) (hN.ext hs.aF) (by omega) (by omega)) ?_;rintro None _ ⟨Wh,rfl,cO⟩;have hs:=hs.made cO;refine aN rfl (aN rfl (bV (aC (λ iF=>?_) (λ iF=>?_))))
 ·refine⟨?_,hs.aF⟩;unfold pA;rw[if_pos (by omega),if_neg iF]
 have B8:=Tr ns xs;refine aT amb hs (C219 _ _ _ _ _ (hs).dX (hM.ext hs.aF) (by omega)) (λ _ he hs=>aN rfl (aN rfl ?_));refine⟨?_,hs.aF⟩;unfold pA;rw[if_pos (by omega),if_pos (by simpa using iF)]
variable (w:World) (K:Value->World->Prop)
def auI:dD:=λ i=>match i with
 | 9=>(.of [(0,[]),(1,[]),(2,[]),(3,[]),(4,[]),(6,[]),(7,[]),(5,[7]),(8,[]),(9,[]),(10,[]),(11,[]),(12,[]),(13,[]),(15,[]),(16,[]),(14,[16]),(17,[]),(18,[]),(19,[]),(20,[]),(21,[]),(22,[]),(24,[]),(25,[]),(23,[25]),(26,[]),(27,[]),(28,[]),(29,[]),(30,[]),(31,[]),(33,[]),(34,[]),(32,[34]),(35,[]),(36,[]),(37,[]),(38,[])])
 | _=>.nil
def S284(l0 l4:Value):Prop:=
 o8 (λ K1 n5 i6 a=>∀_:Env,
 lN 141 l0 λ b=>bA .lss 3 i6 b λ c=>cV c (iA 141 l0 i6 λ d=>lA 193 d a λ e=>aL 193 a λ f g=>sA 193 f e g λ h=>bB .add 3 i6 (i 1) λ j=>fA 193 f 6 λ k=>lA 3 k h λ l=>
 bA .add 3 j l λ n=>fA 193 f 7 λ o=>lA 3 o h λ p=>bA .add 3 n p λ q=>fc (λ K2=>fA 193 f 0 λ r=>lA 3 r h λ s=>bB .eql 3 s (i 11) λ t=>cV t (K2 tt h) (fA 193 f 0 λ u=>
 lA 3 u h λ v=>bB .eql 3 v (i 12) λ x=>K2 x h)) (λ Rk y=>∀_:Env,
 fc (λ K3=>fA 193 f 6 λ z=>lA 3 z y λ aa=>bB .lss 3 aa (i 0) λ ab=>cV ab (K3 tt y) (fA 193 f 7 λ ac=>lA 3 ac y λ ad=>bB .lss 3 ad (i 0) λ ae=>cV ae (K3 tt y) (
 fA 193 f 6 λ af=>lA 3 af y λ ag=>lN 141 l0 λ ah=>bA .gtr 3 ag ah λ ai=>cV ai (K3 tt y) (fA 193 f 7 λ aj=>lA 3 aj y λ ak=>lN 141 l0 λ al=>bA .gtr 3 ak al λ am=>
 cV am (K3 tt y) (lN 141 l0 λ an=>bA .gtr 3 q an λ ao=>K3 ao y))))) (λ ap aq=>∀_:Env,
 cV ap (K (i (-1)) aq) (fc (λ K4=>fc (λ K5=>eN Tryz.prog (Op.unary .not Rk) λ ar=>cV ar (fA 193 f 6 λ asx=>lA 3 asx aq λ au=>bB .gtr 3 au (i 0) λ av=>K5 av aq) (
 K5 ff aq)) (λ aw ax=>∀_:Env,
 cV aw (K4 aw ax) (fc (λ K6=>fA 193 f 0 λ ay=>lA 3 ay ax λ az=>bB .neq 3 az (i 11) λ a0=>cV a0 (fA 193 f 7 λ a1=>lA 3 a1 ax λ a2=>bB .gtr 3 a2 (i 0) λ a3=>K6 a3 ax) (
 K6 ff ax)) (λ a4 a5=>∀_:Env,
 cV a4 (K4 a4 a5) (fA 193 f 0 λ a6=>lA 3 a6 a5 λ a7=>bB .eql 3 a7 (i 13) λ a8=>cV a8 (bB .eql 3 l4 (i 0) λ a9=>K4 a9 a5) (K4 ff a5)))))) (λ ba bb=>∀_:Env,
 cV ba (K (i (-1)) bb) (fc (λ K7=>cV Rk (fA 193 f 0 λ bc=>lA 3 bc bb λ bd=>bB .eql 3 bd (i 12) λ be=>cF 302 [be] bb λ bf bg=>bA .add 3 l4 bf λ bh=>bB .add 3 i6 (i 1) λ bi=>
 bB .add 3 i6 (i 1) λ bj=>fA 193 f 6 λ bk=>lA 3 bk (drew bg) λ bl=>bA .add 3 bj bl λ bm=>eN Tryz.prog (Instr.sliceAt 141 l0 (some bi) (some bm) none) λ bn=>bB .add 3 i6 (i 1) λ bo=>
 fA 193 f 6 λ bp=>lA 3 bp (drew bg) λ bq=>bA .add 3 bo bq λ br=>eN Tryz.prog (Instr.sliceAt 141 l0 (some br) (some q) none) λ bs=>cF 284 [bn,bh] (drew bg) λ bt bu=>
 kA 3 bp bq bu (cF 284 [bs,bh] bu λ bv bw=>fc (λ K8=>bB .eql 3 bt (i (-1)) λ bx=>cV bx (K8 tt bw) (bB .eql 3 bv (i (-1)) λ bz=>K8 bz bw)) (λ b0 b1=>∀_:Env,
 cV b0 (K (i (-1)) b1) (bB .add 3 bt (i 1) λ b2=>bB .add 3 bv (i 1) λ b3=>eN Tryz.prog (Builtin.max_ #[3,3,3] 3 [n5,b2,b3].toArray) λ b4=>K7 b4 b1)))) (K7 n5 bb)) (λ ag2 b5=>∀_:Env,
 K1 ag2 q b5))))))) (K n5 a)) (λ K1=>K1 (i 0) (i 0) w)
def auJ:dD:=λ i=>match i with
 | 15=>(.of [(0,[]),(1,[]),(2,[]),(3,[]),(4,[]),(5,[]),(6,[]),(7,[]),(8,[]),(9,[]),(11,[]),(12,[]),(13,[]),(14,[]),(15,[]),(16,[]),(17,[]),(18,[]),(19,[]),(10,[15]),(20,[]),(21,[]),(22,[])])
 | _=>.nil
theorem acy(l0 l4:Value)(h:S284 w K l0 l4):CR 284 [l0,l4] w K:=
 qz 131 auJ 16 [.tmp 4] Tryz.func284 h
theorem anW:PL 310:=dF Tryz.func310
theorem anX:PL 283:=dF Tryz.func283
theorem Lq:PL 311:=dF Tryz.func311
theorem afO:PL 313:=dF Tryz.func313
theorem afP:PL 314:=dF Tryz.func314
theorem W6:PL 284:=dF Tryz.func284
theorem anY:PL 241:=dF Tryz.func241
theorem anZ:PL 108:=dF Tryz.func108
theorem an0:PL 177:=dF Tryz.func177
theorem an1:PL 179:=dF Tryz.func179
theorem an2:PL 182:=dF Tryz.func182
theorem an3:PL 183:=dF Tryz.func183
theorem W7:PL 178:=dF Tryz.func178
theorem an4:PL 233:=dF Tryz.func233
theorem afQ:PL 181:=dF Tryz.func181
theorem an5:PL 239:=dF Tryz.func239
theorem W8:PL 184:=dF Tryz.func184
theorem an6:PL 282:=dF Tryz.func282
theorem an7:PL 309:=dF Tryz.func309
theorem an8:PL 232:=dF Tryz.func232
theorem an9:PL 279:=dF Tryz.func279
theorem afR:PL 186:=dF Tryz.func186
theorem aoa:PL 247:=dF Tryz.func247
theorem W9:PL 187:=dF Tryz.func187
theorem aob:PL 248:=dF Tryz.func248
theorem aoc:PL 188:=dF Tryz.func188
theorem aod:PL 249:=dF Tryz.func249
end Go.Proofs.YtpdlpabnlkofmaaGreatDoor
namespace Go.Proofs.YtpdlpabnlkofmaaGreatDoor
open Go.Fw
variable (w:World) (K:Value->World->Prop)
theorem aoe:PL 336:=dF Tryz.func336
theorem aof:PL 312:=dF Tryz.func312
end Go.Proofs.YtpdlpabnlkofmaaGreatDoor
namespace Go.Proofs.YtpdlpabnlkofmaaGreatDoor
open Go.Fw
structure K15 where
instance:Flat K15 where
 agg:=true
 sz:=15
 enc _:=Ti.map Value.string
 val _:=.agg (Ti.map Value.string).toArray
 pos:=by decide
 len _:=rfl
 one a v h:=by grind[uV]
 m6 _ _:=rfl
 nn h:=by cases h
theorem C336(w:World):CR 336 [] w (λ v w'=>v=Flat.val (⟨⟩:K15)/\Ext w w'):=by
 have hs:=St.start w;refine eS Tryz.func336 ?_;exact aM hs abH (λ _ _ hs=>pop (v:=Flat.val (⟨⟩:K15)) (by kernel_rfl) (aJ (x:=(⟨⟩:K15)) hs aff rfl rfl (λ _ hs=>aE (x:=(⟨⟩:K15)) aff hs.At ⟨rfl,hs.drop.aF⟩)))
theorem C310(k:Int)(w:World):CR 310 [.int .i64 k] w (λ v w'=>v=.string (fz k)/\Ext w w'):=by
 have hs:=St.start w;refine eS Tryz.func310 ?_;refine⟨λ jv w'=>jv=.bool (decide (k<0\/15<=k))/\w'=w,?_,?_⟩
 ·exact aQ (aC (λ c=>⟨vb (decide_eq_true (.inl c)).symm,rfl⟩) (λ _=>cS ⟨vb (decide_eq_decide.2 (by omega)),rfl⟩))
 rintro _ _ ⟨rfl,rfl⟩ _;refine aC (λ _=>⟨congrArg Value.string (by unfold fz;rw[if_pos (by omega)]),hs.aF⟩) (λ c=>aT aoe hs (C336 _) (λ _ he hs=>?_));obtain⟨n,rfl⟩:∃n:Nat,k=n:=⟨k.toNat,by omega⟩;refine pop (v:=.string (fz n)) ?_ ⟨rfl,hs.aF⟩
 match n,c with
 | 0,_=>exact(by kernel_rfl:pr Tryz.prog (Instr.index 364 (Flat.val (K15.mk)) (.int .i64 ((0:Nat):Int)))=some (.string (fz ((0:Nat):Int))))
 | 1,_=>exact(by kernel_rfl:pr Tryz.prog (Instr.index 364 (Flat.val (K15.mk)) (.int .i64 ((1:Nat):Int)))=some (.string (fz ((1:Nat):Int))))
 | 2,_=>exact(by kernel_rfl:pr Tryz.prog (Instr.index 364 (Flat.val (K15.mk)) (.int .i64 ((2:Nat):Int)))=some (.string (fz ((2:Nat):Int))))
 | 3,_=>exact(by kernel_rfl:pr Tryz.prog (Instr.index 364 (Flat.val (K15.mk)) (.int .i64 ((3:Nat):Int)))=some (.string (fz ((3:Nat):Int))))
 | 4,_=>exact(by kernel_rfl:pr Tryz.prog (Instr.index 364 (Flat.val (K15.mk)) (.int .i64 ((4:Nat):Int)))=some (.string (fz ((4:Nat):Int))))
 | 5,_=>exact(by kernel_rfl:pr Tryz.prog (Instr.index 364 (Flat.val (K15.mk)) (.int .i64 ((5:Nat):Int)))=some (.string (fz ((5:Nat):Int))))
 | 6,_=>exact(by kernel_rfl:pr Tryz.prog (Instr.index 364 (Flat.val (K15.mk)) (.int .i64 ((6:Nat):Int)))=some (.string (fz ((6:Nat):Int))))
 | 7,_=>exact(by kernel_rfl:pr Tryz.prog (Instr.index 364 (Flat.val (K15.mk)) (.int .i64 ((7:Nat):Int)))=some (.string (fz ((7:Nat):Int))))
 | 8,_=>exact(by kernel_rfl:pr Tryz.prog (Instr.index 364 (Flat.val (K15.mk)) (.int .i64 ((8:Nat):Int)))=some (.string (fz ((8:Nat):Int))))
 | 9,_=>exact(by kernel_rfl:pr Tryz.prog (Instr.index 364 (Flat.val (K15.mk)) (.int .i64 ((9:Nat):Int)))=some (.string (fz ((9:Nat):Int))))
 | 10,_=>exact(by kernel_rfl:pr Tryz.prog (Instr.index 364 (Flat.val (K15.mk)) (.int .i64 ((10:Nat):Int)))=some (.string (fz ((10:Nat):Int))))
 | 11,_=>exact(by kernel_rfl:pr Tryz.prog (Instr.index 364 (Flat.val (K15.mk)) (.int .i64 ((11:Nat):Int)))=some (.string (fz ((11:Nat):Int))))
 | 12,_=>exact(by kernel_rfl:pr Tryz.prog (Instr.index 364 (Flat.val (K15.mk)) (.int .i64 ((12:Nat):Int)))=some (.string (fz ((12:Nat):Int))))
 | 13,_=>exact(by kernel_rfl:pr Tryz.prog (Instr.index 364 (Flat.val (K15.mk)) (.int .i64 ((13:Nat):Int)))=some (.string (fz ((13:Nat):Int))))
 | 14,_=>exact(by kernel_rfl:pr Tryz.prog (Instr.index 364 (Flat.val (K15.mk)) (.int .i64 ((14:Nat):Int)))=some (.string (fz ((14:Nat):Int))))
 | n+15,c=>exact absurd (.inr (by omega)) c
def ahG:List Nat:=[107,114,110,101,102]
def aog(c:Nat):ByteArray:=⟨#[c.toUInt8]⟩
theorem C312(k:Int)(c:Nat)(hc:c∈ahG)(w:World):CR 312 [.string (fz k),.string (aog c)] w (λ v w'=>v=.bool (eO (fz k) c)/\Ext w w'):=by
 have hs:=St.start w;refine eS Tryz.func312 ?_;refine aT afM hs (C337 (fz k) c.toUInt8 _) (λ _ he hs=>cS ?_);refine⟨vb ?_,hs.aF⟩;have h1:=WN (iH (fz k)) c.toUInt8;have h2:c.toUInt8.toNat=c:=(by decide:∀c∈ahG,c.toUInt8.toNat=c) c hc;unfold eO;rw[show(λ b:UInt8=>decide ((b.toNat:Int)=(c:Int)))=λ b=>decide (b=c.toUInt8)from funext λ _=>decide_eq_decide.2 ⟨λ _=>UInt8.toNat_inj.1 (by omega),λ h=>by rw[h,h2]⟩];exact(Bool.eq_iff_iff.2 ((decide_eq_true_iff).trans h1))
theorem C311(k:Int)(c b2:Nat)(w:World)(hc:Cell w b2 0 (.string (fz k)))(hm:c∈ahG):CR 311 [.string (aog c),.pointer (some ⟨b2,0,none⟩)] w (λ v w'=>v=.bool (eO (fz k) c)/\Ext w w'):=by
 have hs:=St.start w;refine eS Tryz.func311 ?_;exact bM gj (hc.ext hs.aF) (aT aof hs (C312 k c hm _) (λ _ _ hs=>⟨rfl,hs.aF⟩))
theorem C313(b:Bool)(s:ByteArray)(w:World):CR 313 [.bool b,.string s] w (λ v w'=>v=.bool ((b&&gB s)||(!b&&decide (s=⟨#[]⟩)))/\Ext w w'):=by
 have hs:=St.start w;refine eS Tryz.func313 ?_;refine⟨λ jv w'=>jv=.bool ((b&&gB s)||(!b&&decide (s=⟨#[]⟩)))/\St w aY [] w',aW (λ _=>aT KW hs (C180 _ _) (λ _ _ hs=>aW (λ _=>⟨vb (by grind),hs⟩) (λ _=>bQ (aW (λ _=>iD ⟨vb (by grind),hs⟩) (λ _=>⟨vb (by grind),hs⟩))))) (λ _=>bQ (aW (λ _=>iD ⟨vb (by grind),hs⟩) (λ _=>⟨vb (by grind),hs⟩))),?_⟩;rintro _ _ ⟨rfl,hs⟩ _;exact⟨rfl,hs.aF⟩
theorem C314(b:Bool)(lv:Value)(xs:List bX)(w:World)(hL:dC (λ _=>True) w lv xs)(hn:xs.length<=1048576):CR 314 [.bool b,lv] w (λ v w'=>v=.bool ((b&&fu xs)||(!b&&decide (xs.length=0)))/\Ext w w'):=by
 have hs:=St.start w;refine eS Tryz.func314 ?_;refine⟨λ jv w'=>jv=.bool ((b&&fu xs)||(!b&&decide (xs.length=0)))/\St w aY [] w',aW (λ _=>aT Rg hs (C185 _ _ _ (hL.ext hs.aF) (by omega)) (λ _ _ hs=>aW (λ _=>⟨vb (by grind),hs⟩) (λ _=>bQ (aW (λ _=>aI gN (hL.ext hs.aF) (aH ⟨vb (by grind),hs⟩)) (λ _=>⟨vb (by grind),hs⟩))))) (λ _=>bQ (aW (λ _=>aI gN (hL.ext hs.aF) (aH ⟨vb (by grind),hs⟩)) (λ _=>⟨vb (by grind),hs⟩))),?_⟩;rintro _ _ ⟨rfl,hs⟩ _;exact⟨rfl,hs.aF⟩
theorem Lr{x:bN}{ro:Bool}(h:ro=(if eO (fz x.kind) 107=true then decide (1<=x.n/\x.n<=8)else decide (x.n=0))) :
  (!(decide (1<=x.kind/\x.kind<15/\0<=x.at_/\x.at_<=4000)&&ro)||(!(eO (fz x.kind) 114&&gB x.eC||!eO (fz x.kind) 114&&decide (x.eC=⟨#[]⟩))||(!(eO (fz x.kind) 110&&gB x.name||!eO (fz x.kind) 110&&decide (x.name=⟨#[]⟩)) ||
  (!(eO (fz x.kind) 101&&fu x.e||!eO (fz x.kind) 101&&decide (x.e.length=0))||!(eO (fz x.kind) 102&&fu x.f||!eO (fz x.kind) 102&&decide (x.f.length=0)))))) = !mT x:=by
 subst h
 have hr:gB x.eC=true->¬ x.eC=⟨#[]⟩:=λ h e=>by rw[e]at h;exact absurd h (by decide)
 have hm:gB x.name=true->¬ x.name=⟨#[]⟩:=λ h e=>by rw[e]at h;exact absurd h (by decide)
 have he:fu x.e=true->¬ x.e.length=0:=λ h e=>by rw[List.length_eq_zero_iff.1 e]at h;exact absurd h (by decide)
 have hf:fu x.f=true->¬ x.f.length=0:=λ h e=>by rw[List.length_eq_zero_iff.1 e]at h;exact absurd h (by decide)
 unfold mT
 cases h1:eO (fz x.kind) 114<;>cases h2:eO (fz x.kind) 110<;>cases h3:eO (fz x.kind) 101<;>cases h4:eO (fz x.kind) 102<;>cases h5:eO (fz x.kind) 107<;>simp<;>grind
theorem C283(x:bN)(xv:aZ)(w:World)(hx:Deep.dr w xv x)(he0:x.e.length<=1048576)(hf0:x.f.length<=1048576):CR 283 [Flat.val xv] w (λ v w'=>v=.bool (!mT x)/\Ext w w'):=by
 obtain⟨vB,vC,rfl,KS,GK⟩:=hx;have hs:=St.start w;refine oY Tryz.func283 (pl:=auI) ?_;refine cI hs (λ yS _ hs=>aA dJ (aB (v:=.int .i64 ((x).kind)) bL hs.hb rfl (aT anW hs (C310 _ _) (λ _ he hs=>gO hs afc rfl (λ Ls _ hs=>aS hs gj (dI rfl) (rfl) (λ _ hs=>aA jG (aB (v:=.int .i64 ((x).n)) bL hs.p1.hb rfl (aH ⟨λ jv w'=>jv=.bool ((if eO (fz x.kind) 107=true then decide (1<=x.n/\x.n<=8)else decide (x.n=0)))/\St w aY [bY Ls [.string (fz x.kind)],bY yS (Flat.enc (⟨(x).kind,(x).eC,(x).name,vB,vC,(x).n,(x).body,(x).eo,(x).at_⟩:aZ))] w',?_,?_⟩))))))))
 ·refine gK Lq (C311 x.kind 107 Ls _ (hs.hb.cell rfl) (by decide)) ?_;rintro _ _ ⟨rfl,he⟩;have hs:=hs.ext he;exact aW (λ _=>aA jG (aB (v:=.int .i64 ((x).n)) bL hs.p1.hb rfl (cS (aC (λ _=>aA jG (aB (v:=.int .i64 ((x).n)) bL hs.p1.hb rfl (im ⟨vb (by grind),hs⟩))) (λ _=>⟨vb (by grind),hs⟩))))) (λ _=>⟨vb (by grind),hs⟩)
 rintro _ _ ⟨rfl,hs⟩ _;refine⟨λ jv w'=>jv=.bool (decide (1<=x.kind/\x.kind<15/\0<=x.at_/\x.at_<=4000)&&(if eO (fz x.kind) 107=true then decide (1<=x.n/\x.n<=8)else decide (x.n=0)))/\St w aY [bY Ls [.string (fz x.kind)],bY yS (Flat.enc (⟨(x).kind,(x).eC,(x).name,vB,vC,(x).n,(x).body,(x).eo,(x).at_⟩:aZ))] w',?_,?_⟩
 ·refine aA dJ (aB (v:=.int .i64 ((x).kind)) bL hs.p1.hb rfl (cS ?_));exact aC (λ _=>aA dJ (aB (v:=.int .i64 ((x).kind)) bL hs.p1.hb rfl (aQ (aC (λ _=>aA lq (aB (v:=.int .i64 ((x).at_)) bL hs.p1.hb rfl (cS (aC (λ _=>aA lq (aB (v:=.int .i64 ((x).at_)) bL hs.p1.hb rfl (im (aC (λ _=>⟨vb (by grind),hs⟩) (λ _=>⟨vb (by grind),hs⟩))))) (λ _=>⟨vb (by grind),hs⟩))))) (λ _=>⟨vb (by grind),hs⟩))))) (λ _=>⟨vb (by grind),hs⟩)
 rintro _ _ ⟨rfl,hs⟩ _;refine⟨λ jv w'=>jv=.bool (!mT x)/\St w aY [bY Ls [.string (fz x.kind)],bY yS (Flat.enc (⟨(x).kind,(x).eC,(x).name,vB,vC,(x).n,(x).body,(x).eo,(x).at_⟩:aZ))] w',bQ (aW (λ _=>have hs:=hs.drew;⟨vb (by rw[<- Lr rfl];grind),hs⟩) (λ Rl=>?_)),?_⟩
 ·refine aA iv (have hs:=hs.drew;aB (v:=.string ((x).eC)) gj hs.p1.hb rfl (gK Lq (C311 x.kind 114 Ls _ (hs.hb.cell rfl) (by decide)) ?_));rintro _ _ ⟨rfl,he⟩;have hs:=hs.ext he;refine⟨aG gj (hs.p1.hb.cell rfl),?_⟩;refine gK afO (C313 _ x.eC _) ?_;rintro _ _ ⟨rfl,he⟩;have hs:=hs.ext he;refine bQ (aW (λ _=>⟨vb (by rw[<- Lr rfl];grind),hs⟩) (λ afS=>aA fU (aB (v:=.string ((x).name)) gj hs.p1.hb rfl (gK Lq (C311 x.kind 110 Ls _ (hs.hb.cell rfl) (by decide)) ?_))));rintro _ _ ⟨rfl,he⟩;have hs:=hs.ext he;refine⟨aG gj (hs.p1.hb.cell rfl),?_⟩;refine gK afO (C313 _ x.name _) ?_
  rintro _ _ ⟨rfl,he⟩;have hs:=hs.ext he;refine bQ (aW (λ _=>⟨vb (by rw[<- Lr rfl];grind),hs⟩) (λ c_x65=>aA iN (aB jo hs.p1.hb rfl ?_)));have hf1:=DL.flat (KS);refine gK Lq (C311 x.kind 101 Ls _ (hs.hb.cell rfl) (by decide)) ?_;rintro _ _ ⟨rfl,he⟩;have hs:=hs.ext he;refine⟨aG jo (hs.p1.hb.cell rfl),?_⟩;refine gK afP (C314 _ _ x.e _ (hf1.ext hs.aF) he0) ?_;rintro _ _ ⟨rfl,he⟩;have hs:=hs.ext he;refine bQ (aW (λ _=>⟨vb (by rw[<- Lr rfl];grind),hs⟩) (λ afA=>aA jU (aB jo hs.p1.hb rfl ?_)));have hf2:=DL.flat (GK);refine gK Lq (C311 x.kind 102 Ls _ (hs.hb.cell rfl) (by decide)) ?_
  rintro _ _ ⟨rfl,he⟩;have hs:=hs.ext he;refine⟨aG jo (hs.p1.hb.cell rfl),?_⟩;refine gK afP (C314 _ _ x.f _ (hf2.ext hs.aF) hf0) ?_;rintro _ _ ⟨rfl,he⟩;have hs:=hs.ext he;exact bQ ⟨vb (by rw[<- Lr rfl];grind),hs⟩
 rintro _ _ ⟨rfl,hs⟩ _;exact⟨rfl,hs.drop.drop.aF⟩
theorem Bw{l:List bX}(h:fu l=true):∀y∈l,0<=y.at_:=by
 intro y hy
 unfold fu at h
 have hn:l.any kQ=false:=by grind
 rw[List.any_eq_false]at hn
 have:=hn y hy
 unfold kQ at this
 grind
structure aoh(x:bN):Prop where
 kind:1<=x.kind/\x.kind<=14
 at0:0<=x.at_/\x.at_<=4000
 e:(eO (fz x.kind) 101=true/\fu x.e=true)\/(eO (fz x.kind) 101=false/\x.e=[])
 f:(eO (fz x.kind) 102=true/\fu x.f=true)\/(eO (fz x.kind) 102=false/\x.f=[])
 eC:(eO (fz x.kind) 114=true/\gB x.eC=true)\/(eO (fz x.kind) 114=false/\x.eC=⟨#[]⟩)
 name:(eO (fz x.kind) 110=true/\gB x.name=true)\/(eO (fz x.kind) 110=false/\x.name=⟨#[]⟩)
 n:(eO (fz x.kind) 107=true/\1<=x.n/\x.n<=8)\/(eO (fz x.kind) 107=false/\x.n=0)
theorem xF{x:bN}(h:mT x=true):aoh x:=by
 unfold mT at h
 simp only[Bool.and_eq_true,Bool.not_eq_true',Bool.or_eq_false_iff,decide_eq_false_iff_not,bne_eq_false_iff_eq,Bool.and_eq_false_iff,Bool.not_eq_false',Decidable.not_not]at h
 obtain⟨⟨⟨h1,h2⟩,h3⟩,h4⟩:=h
 constructor
 ·omega
 ·omega
 ·grind
 ·grind
 ·grind
 ·grind
 grind
theorem acA{x:bN}(h:mT x=true):0<=x.at_/\(∀y∈x.e,0<=y.at_)/\(∀y∈x.f,0<=y.at_):=by
 have h:=xF h
 refine⟨h.at0.1,?_,?_⟩
 ·rcases h.e with h|h
  ·exact Bw h.2
  grind
 rcases h.f with h|h
 ·exact Bw h.2
 grind
theorem ahH:eO (fz 12) 107=true:=by decide
theorem kU{l:List bN}(h:pw l=true):l.length<=40/\(∀x∈l,mT x=true)/\∃t:Bk,l=t.flat/\t.str/\t.ok 0=true/\t.depth<=12:=by
 unfold pw at h
 simp only[Bool.and_eq_true,decide_eq_true_eq,Bool.not_eq_true']at h
 obtain⟨⟨h1,h2⟩,h3⟩:=h
 rw[List.any_eq_false]at h2
 refine⟨h1,λ x hx=>by grind,?_⟩
 unfold fx at h3
 cases hb:sM l with
 | none=>grind
 | some t=>
  rw[hb]at h3
  obtain⟨g1,g2⟩:=nR hb
  grind
structure PF(p:cG):Prop where
 lines:∀l∈p.lines,l≠[]/\∀c∈l,iJ 4294967296 c=false
 iI:∀c∈p.iI,iJ 4294967296 c=false
 eG:∀c∈p.eG,iJ 0 c=false
 th:∀t∈p.threads,ml true t=false
 rc:∀t∈p.recover,ml false t=false
 cl:∀c∈p.dP,0<=c.at_/\fu c.e=true
 one:p.recover.length<=1
theorem qj{p:cG}(h:j7 p=true):PF p:=by
 unfold j7 nS nE at h
 simp only[Bool.and_eq_true,Bool.not_eq_true',List.any_eq_false,decide_eq_true_eq]at h
 obtain⟨⟨h1,h2⟩,⟨⟨h3,h4⟩,h5⟩,h6⟩:=h
 refine⟨λ l hl=>?_,λ c hc=>by grind,λ c hc=>by grind,λ t ht=>by grind,λ t ht=>by grind,λ c hc=>?_,h6⟩
 ·have:=h1 l hl
  unfold nK nS at this
  grind
 have:=h2 c hc
 unfold lC q8 at this
 grind
theorem yV{nb:Bool}{t:cN}(h:ml nb t=false):0<=t.at_/\pw t.body=true/\(∀s∈t.dL,gB s=true)/\gB t.name=nb:=by
 unfold ml rW q8 at h
 grind
theorem yW{m:Int}{c:cJ}(h:iJ m c=false):0<=c.at_/\gB c.name=true/\0<=c.n/\c.n<=m:=by
 unfold iJ q8 at h
 grind
def gd(p:cG):List cN:=p.threads++p.recover
theorem PF.qE{p:cG}(h:PF p){t:cN}(ht:t∈gd p):0<=t.at_/\pw t.body=true/\∀s∈t.dL,gB s=true:=by
 unfold gd at ht
 rcases List.mem_append.1 ht with ht|ht
 ·have:=yV (h.th t ht);grind
 have:=yV (h.rc t ht);grind
def eX(p:cG):List Int:=(g9 p).map cJ.n
def eu(p:cG):Int:=(p.lines.flatten.length:Int)
theorem Xa(p:cG):((g9 p).length:Int)-p.iI.length=eu p:=by unfold g9 eu;rw[List.length_append];omega
def cT(p:cG):List ByteArray:=(g9 p).map cJ.name
def cL(p:cG):List ByteArray:=p.eG.map cJ.name
def jk:List (List cJ)->Int->Int->Int
 | [],i,a=>i+a
 | l::r,i,a=>if a<l.length then i else jk r (i+1) (a-l.length)
def o9(p:cG)(c:Int):Int:=if c<0\/(g9 p).length<=c then -1 else jk p.lines 0 c
def oN(l:List bX)(ns:List ByteArray):Bool:=l.any λ x=>decide (x.op=2)&&decide (cU ns x.name<0)
def qP(x:bN)(n:Int):Int:=if x.kind=12 then n*x.n else n
def mr:Bk->Int->Bool
 | .nil,_=>false
 | .cons x a b r,n=>decide (64<qP x n)||(mr a (qP x n)||mr b (qP x n))||mr r n
def Bk.app:Bk->Bk->Bk
 | .nil,t=>t
 | .cons x a b r,t=>.cons x a b (r.app t)
theorem Bk.Av(a b:Bk):(a.app b).flat=a.flat++b.flat:=by
 induction a with
 | nil=>rfl
 | cons x c d r _ _ ih=>grind[flat,app]
theorem Bk.Rm{a b:Bk}(ha:a.str)(hb:b.str):(a.app b).str:=by
 induction a with
 | nil=>exact hb
 | cons x c d r _ _ ih=>
  grind[str,app]
theorem GR(a b:Bk)(n:Int):mr (a.app b) n=(mr a n||mr b n):=by
 induction a with
 | nil=>simp[Bk.app,mr]
 | cons x c d r _ _ ih=>simp only[Bk.app,mr,ih,Bool.or_assoc]
def qQ(l:List bN):Bool:=match sM l with|some t=>mr t 1|none=>false
theorem ve{t:Bk}(h:t.str):qQ t.flat=mr t 1:=by unfold qQ;rw[rq h]
def fJ(p:cG):List cJ:=g9 p++p.eG++p.threads.map (λ t=>⟨t.name,0,t.at_⟩)
def CZ(l:List cJ)(j:Nat):Bool:=match l[j]? with|some c=>decide (cU (l.map cJ.name) c.name<j)|none=>false
def j9(l:List cJ):Bool:=(List.range l.length).any (CZ l)
def Rn(p:cG)(rs:List ByteArray)(j:Nat):Bool:=match rs[j]? with|some s=>decide (cU rs s<j)||decide (0<=cU (cT p) s)||decide (0<=cU (cL p) s)|none=>false
def uC(p:cG)(rs:List ByteArray):Bool:=(List.range rs.length).any (Rn p rs)
theorem Lt{f:Nat->Bool}{n:Nat}(h:∀j,j<n->f j=false):(List.range n).any f=false:=by
 grind
theorem Lu{f:Nat->Bool}{n j:Nat}(hj:j<n)(h:f j=true):(List.range n).any f=true:=List.any_eq_true.2 ⟨j,List.mem_range.2 hj,h⟩
theorem Ro{f:Nat->Bool}{k:Nat}(h:∀j,j<k->f j=false)(hk:f k=false):∀j,j<k+1->f j=false:=λ j hj=>by
 grind
def mU(p:cG)(rs:List ByteArray)(x:bN):Bool:=
 (decide (¬ x.eC=⟨#[]⟩)&&decide (cU rs x.eC<0)) ||
 ((decide (x.kind=2)||decide (x.kind=3)||decide (x.kind=4))&&decide (cU (cT p) x.name<0)) ||
 ((decide (x.kind=5)||decide (x.kind=6))&&(decide (cU (cT p) x.name<0)||decide (eu p<=cU (cT p) x.name))) ||
 ((decide (x.kind=9)||decide (x.kind=10))&&decide (cU (cL p) x.name<0))||oN x.e rs||oN x.f rs
def uD(p:cG):Bool:=p.lines.any (λ l=>decide (4<(l.length:Int)))||(gd p).any (λ t=>decide (4<(t.dL.length:Int))) ||
 (decide (4<(p.lines.length:Int))||decide (4<(p.iI.length:Int))||decide (2<(p.eG.length:Int))||decide ((p.threads.length:Int)<1)||decide (3<(p.threads.length:Int))||decide (4<(p.dP.length:Int)))
def gg(p:cG):List ByteArray:=(cT p).take (eu p).toNat
def fj(p:cG):Int:=
 if j7 p=false then 8 else if uD p=true then 2 else if (gd p).any (λ t=>qQ t.body)=true then 11 else if j9 (fJ p)=true then 10
 else if (gd p).any (λ t=>uC p t.dL)=true then 10 else if (gd p).any (λ t=>t.body.any (mU p t.dL))=true then 9
 else if p.dP.any (λ c=>oN c.e (gg p))=true then 9 else 0
theorem IF{x:bN}(h:mT x=true):0<=x.at_/\(x.kind=12->1<=x.n/\x.n<=8):=by
 have h:=xF h
 refine⟨h.at0.1,λ hk=>?_⟩
 rcases h.n with h|h
 ·exact h.2
 rw[hk,ahH]at h;grind
section
variable {p:cG}
theorem ce8(h1:j7 p=false):fj p=8:=by unfold fj;grind
theorem ce2(h1:j7 p=true)(h2:uD p=true):fj p=2:=by grind[fj]
theorem aoi(h1:j7 p=true)(h2:uD p=false)(h3:(gd p).any (λ t=>qQ t.body)=true):fj p=11:=by grind[fj]
theorem aoj(h1:j7 p=true)(h2:uD p=false)(h3:(gd p).any (λ t=>qQ t.body)=false)(h4:j9 (fJ p)=true):fj p=10:=by
 grind[fj]
theorem afT(h1:j7 p=true)(h2:uD p=false)(h3:(gd p).any (λ t=>qQ t.body)=false)(h4:j9 (fJ p)=false)(h5:(gd p).any (λ t=>uC p t.dL)=true):fj p=10:=by
 grind[fj]
theorem ce9(h1:j7 p=true)(h2:uD p=false)(h3:(gd p).any (λ t=>qQ t.body)=false)(h4:j9 (fJ p)=false)(h5:(gd p).any (λ t=>uC p t.dL)=false)
  (h6:(gd p).any (λ t=>t.body.any (mU p t.dL))=true):fj p=9:=by
 grind[fj]
theorem aok(h1:j7 p=true)(h2:uD p=false)(h3:(gd p).any (λ t=>qQ t.body)=false)(h4:j9 (fJ p)=false)(h5:(gd p).any (λ t=>uC p t.dL)=false)
  (h6:(gd p).any (λ t=>t.body.any (mU p t.dL))=false) (h7:p.dP.any (λ c=>oN c.e (gg p))=true):fj p=9:=by
 grind[fj]
theorem ce0(h1:j7 p=true)(h2:uD p=false)(h3:(gd p).any (λ t=>qQ t.body)=false)(h4:j9 (fJ p)=false)(h5:(gd p).any (λ t=>uC p t.dL)=false)
  (h6:(gd p).any (λ t=>t.body.any (mU p t.dL))=false) (h7:p.dP.any (λ c=>oN c.e (gg p))=false):fj p=0:=by
 grind[fj]
theorem PF.decl(h:PF p):∀c∈fJ p,0<=c.at_:=by
 intro c hc
 unfold fJ g9 at hc
 rcases List.mem_append.1 hc with hc|hc
 ·rcases List.mem_append.1 hc with hc|hc
  ·rcases List.mem_append.1 hc with hc|hc
   ·obtain⟨l,hl,hc⟩:=List.mem_flatten.1 hc
    exact(yW ((h.lines l hl).2 c hc)).1
   exact(yW (h.iI c hc)).1
  exact(yW (h.eG c hc)).1
 obtain⟨t,ht,rfl⟩:=List.mem_map.1 hc
 exact(yV (h.th t ht)).1
theorem Ts(hz:PS p):(fJ p).length<=252000:=by
 have:=kG hz
 have:=hz.eG
 have:=hz.threads
 grind[fJ]
theorem mu(hz:PS p):(cT p).length<=250500:=by unfold cT;rw[List.length_map];exact kG hz
theorem C0(hz:PS p):(gd p).length<=1000:=by
 have:=hz.threads
 have:=hz.recover
 grind[gd]
theorem PZ.qE(hz:PZ p){t:cN}(ht:t∈gd p):Wu t/\t.dL.length<=500/\t.body.length<=500:=by
 refine⟨?_,hz.dL t ht,hz.body t ht⟩
 rcases List.mem_append.1 ht with h|h
 ·exact hz.zt t h
 exact hz.zr t h
end
theorem C118(p:cG)(pv:bO)(w:World)(hp:Deep.dr w pv p)(hz:PZ p):CR 118 [Flat.val pv] w (λ v w'=>v=.bool (j7 p)/\Ext w w'):=by
 obtain⟨bJ,bT,bK,aU,aV,bE,rfl,cR,dA,cW,cB,cC,cQ⟩:=hp;have hs:=St.start w;refine eS Tryz.func118 ?_;refine cI hs (λ j5 w1 hs=>?_);refine⟨λ m x w1=>∃k:Nat,x=.int .i64 (k:Int)/\m=p.lines.length-k/\k<=p.lines.length/\(∀y∈p.lines.take k,nK y=false)/\St w aY [bY j5 (Flat.enc (⟨bJ,bT,bK,aU,aV,bE⟩:bO))] w1,⟨_,0,rfl,rfl,Nat.zero_le _,by simp,hs⟩,?_⟩;rintro m _ _ ⟨k,rfl,rfl,hk,eD,hs⟩ _;have hzl:=hz.lines;refine aA gk (aB oz hs.hb rfl ?_);obtain⟨ahI,Tt,Xb⟩:=(cR).open
 have auK:=Xb.1;refine aI pj (Tt.ext hs.aF) (aQ (aC (λ jj=>?_) (λ jj=>?_)))
 ·obtain⟨D4,qD⟩:=gx ahI (i:=((k:Int)).toNat) (by omega);obtain⟨afU,Es⟩:=gx ((p).lines) (i:=((k:Int)).toNat) (by omega);have aol:DL w (Flat.val D4) afU:=Xb.2 _ _ _ qD Es;refine⟨λ jv w'=>jv=.bool (nK afU)/\St w aY [bY j5 (Flat.enc (⟨bJ,bT,bK,aU,aV,bE⟩:bO))] w',?_,?_⟩
  ·refine aA gk (aB oz hs.hb rfl (aO pj (Tt.ext hs.aF) (by omega) qD (λ _ ur=>aE jC (ur) ?_)));have acB:=DL.flat (aol);exact aI g8 (acB.ext hs.aF) (aH (aC (λ _=>⟨vb (by unfold nK;grind),hs⟩) (λ _=>aA gk (aB oz hs.hb rfl (aO pj (Tt.ext hs.aF) (by omega) qD (λ _ qi=>aE jC (qi) (aT Vj hs (C198 _ _ _ _ (acB.ext hs.aF) (by have:=hz.line _ (List.mem_of_getElem? Es);omega) (hz.zl _ (List.mem_of_getElem? Es))) (λ _ _ hs=>bQ ⟨vb (by unfold nK;grind),hs⟩))))))))
  rintro _ _ ⟨rfl,hs⟩ _;refine aW (λ ly=>?_) (λ ly=>aK (by omega) ⟨_,by omega,k+1,rfl,rfl,by omega,dR eD Es ly,hs⟩);refine⟨vb ?_,hs.drop.aF⟩;unfold j7;rw[gU Es ly];rfl
 have aom:=eD;refine⟨λ m x w1=>∃kb:Nat,x=.int .i64 (kb:Int)/\m=p.dP.length-kb/\kb<=p.dP.length/\(∀y∈p.dP.take kb,lC y=false)/\St w aY [bY j5 (Flat.enc (⟨bJ,bT,bK,aU,aV,bE⟩:bO))] w1,⟨_,0,rfl,rfl,Nat.zero_le _,by simp,hs⟩,?_⟩;rintro m _ _ ⟨kb,rfl,rfl,Wm,Oy,hs⟩ _;have hzc:=hz.dP;refine aA jn (aB qB hs.hb rfl ?_);obtain⟨auL,ahJ,aon⟩:=(cQ).open;have hn13:=aon.1;refine aI sJ (ahJ.ext hs.aF) (aQ (aC (λ jW=>?_) (λ jW=>⟨λ jv w'=>jv=.bool (nS 4294967296 p.iI&&nS 0 p.eG&&nE true p.threads&&nE false p.recover&&decide (p.recover.length<=1))/\St w aY [bY j5 (Flat.enc (⟨bJ,bT,bK,aU,aV,bE⟩:bO))] w',?_,?_⟩)))
 ·obtain⟨Lv,Bx⟩:=gx auL (i:=((kb:Int)).toNat) (by omega);obtain⟨afV,Et⟩:=gx ((p).dP) (i:=((kb:Int)).toNat) (by omega);obtain⟨acC,rfl,acD⟩:=aon.2 _ _ _ Bx Et;refine⟨λ jv w'=>jv=.bool (lC afV)/\St w aY [bY j5 (Flat.enc (⟨bJ,bT,bK,aU,aV,bE⟩:bO))] w',aA jn (aB qB hs.hb rfl (aO sJ (ahJ.ext hs.aF) (by omega) Bx (λ _ yn=>bW (afV).at_ Ic yn rfl rfl (λ _ wI=>aE bL (wI) (aT QG hs (C199 _ _) (λ _ he hs=>bQ (aW (λ _=>⟨vb (by unfold lC;grind),hs⟩) (λ qk=>?_)))))))),?_⟩
  ·refine aA jn (aB qB hs.hb rfl (aO sJ (ahJ.ext hs.aF) (by omega) Bx (λ _ Am=>bW acC uZ Am rfl rfl (λ _ KR=>aE jo (KR) ?_))));have auM:=DL.flat (acD);exact aT J2 hs (C200 _ _ _ (auM.ext hs.aF) (hz.zc _ (List.mem_of_getElem? Et)).1 (hz.zc _ (List.mem_of_getElem? Et)).2) (λ _ _ hs=>bQ ⟨vb (by unfold lC;grind),hs⟩)
  rintro _ _ ⟨rfl,hs⟩ _;refine aW (λ vG=>?_) (λ vG=>aK (by omega) ⟨_,by omega,kb+1,rfl,rfl,by omega,dR Oy Et vG,hs⟩);refine⟨vb ?_,hs.drop.aF⟩;unfold j7;rw[gU Et vG];simp
 ·refine aA pK (aB jC hs.hb rfl ?_);have auN:=DL.flat (dA);refine aT Vj hs (C198 _ _ _ _ (auN.ext hs.aF) (by have:=hz.iI;omega) hz.zv) (λ _ he hs=>aW (λ Q6=>?_) (λ _=>⟨vb (by grind),hs⟩));refine aA nI (aB jC hs.hb rfl ?_);have ahK:=DL.flat (cW);refine aT Vj hs (C198 _ _ _ _ (ahK.ext hs.aF) (by have:=hz.eG;omega) hz.zk) (λ _ he hs=>aW (λ c_x59=>aA kj (aB ij hs.hb rfl (aT aeY hs (C201 _ _ true _ (cB.ext hs.aF) (by have:=hz.threads;omega) (λ _ ht=>hz.qE (List.mem_append_left _ ht))) (λ _ he hs=>aW (λ uE=>aA oA (aB ij hs.hb rfl (aT aeY hs (C201 _ _ false _ (cC.ext hs.aF) (by have:=hz.recover;omega) (λ _ ht=>hz.qE (List.mem_append_right _ ht))) (λ _ he hs=>aW (λ afp=>?_) (λ _=>⟨vb (by grind),hs⟩))))) (λ _=>⟨vb (by grind),hs⟩))))) (λ _=>⟨vb (by grind),hs⟩))
  refine aA oA (aB ij hs.hb rfl ?_);obtain⟨ts17,auO,auP⟩:=(cC).open;have hn17:=auP.1;exact aI fq (auO.ext hs.aF) (im ⟨vb (by grind),hs⟩)
 rintro _ _ ⟨rfl,hs⟩ _;refine⟨vb ?_,hs.drop.aF⟩;unfold j7;rw[il (by rw[List.take_of_length_le (by omega)]at aom;exact aom),il (by rw[List.take_of_length_le (by omega)]at Oy;exact Oy)];rfl
theorem C63(p:cG)(pv:bO)(w:World)(hp:Deep.dr w pv p)(hz:PZ p):CR 63 [Flat.val pv] w (λ v w'=>lL (bG v (eX p)) w w'):=by
 obtain⟨bJ,bT,bK,aU,aV,bE,rfl,cR,dA,cW,cB,cC,cQ⟩:=hp;have hs:=St.start w;refine eS Tryz.func63 ?_;refine cI hs (λ j5 w1 hs=>aX (([]:List Int)) hs cM rfl rfl (dI rfl) (λ acE _ hs=>aE ep hs.p1.At (ek SU hs (C59 p _ _ ⟨bJ,bT,bK,aU,aV,bE,rfl,(cR).ext hs.aF,(dA).ext hs.aF,(cW).ext hs.aF,(cB).ext hs.aF,(cC).ext hs.aF,(cQ).ext hs.aF⟩ hz.toPS) (λ x8 _ cO hs=>?_))));have hs:=hs.p2.p1.p2;refine⟨λ m y x w1=>∃k:Nat,x=.int .i64 (k:Int)/\m=(g9 p).length-k/\k<=(g9 p).length/\St w aY [bG y (((g9 p).take k).map cJ.n),bG x8 (g9 p),bY j5 (Flat.enc (⟨bJ,bT,bK,aU,aV,bE⟩:bO))] w1,⟨_,0,rfl,rfl,by omega,hs⟩,?_⟩
 rintro m m9 _ _ ⟨k,rfl,rfl,hk,hs⟩ _;have hac:=kG hz.toPS;have B8:(((g9 p).take k).map cJ.n).length=k:=by rw[List.length_map,List.length_take];omega
 refine aI g8 (hs.p1).dX (aQ (aC (λ mR=>?_) (λ mR=>?_)))
 ·obtain⟨qM,iQ⟩:=gx ((g9 p)) (i:=((k:Int)).toNat) (by omega);refine dM hs.p1 g8 (by omega) (by omega) (λ _ uu=>mf rJ uu (λ _ mi=>nz (qM).n hs.p1 bL mi iQ rfl (aX (([(qM).n]:List Int)) hs cM rfl rfl (dI rfl) (λ afW _ hs=>?_))));have ahL:=(hs).dX;exact bI hs.p1 cM ahL (by simp<;>omega) (by decide) (λ _ _ hs=>have hs:=hs.p1.drop;aK (by omega) (have hs:=hs.p2.p2.p2;⟨_,by omega,k+1,rfl,rfl,by omega,by rw[<- fW (k:=k) iQ];exact hs⟩))
 have hs:=hs.p1.drop.p1.drop;rw[List.take_of_length_le (by omega)]at hs;exact hs.fresh
theorem C124(p:cG)(pv:bO)(w:World)(hp:Deep.dr w pv p)(hz:PZ p):CR 124 [Flat.val pv] w (λ v w'=>lL (bG v (cT p)) w w'):=by
 obtain⟨bJ,bT,bK,aU,aV,bE,rfl,cR,dA,cW,cB,cC,cQ⟩:=hp;have hs:=St.start w;refine eS Tryz.func124 ?_;exact cI hs (λ _ _ hs=>aE ep hs.At (ek SU hs (C59 p _ _ ⟨bJ,bT,bK,aU,aV,bE,rfl,(cR).ext hs.aF,(dA).ext hs.aF,(cW).ext hs.aF,(cB).ext hs.aF,(cC).ext hs.aF,(cQ).ext hs.aF⟩ hz.toPS) (λ _ _ _ hs=>ek Vk hs (C202 _ _ _ (hs).dX (by have:=kG hz.toPS;omega)) (λ _ _ _ hs=>have hs:=((hs.p1.drop).p1).drop;hs.fresh))))
theorem C125(p:cG)(pv:bO)(w:World)(hp:Deep.dr w pv p)(hz:PZ p):CR 125 [Flat.val pv] w (λ v w'=>lL (bG v (cL p)) w w'):=by
 obtain⟨bJ,bT,bK,aU,aV,bE,rfl,cR,dA,cW,cB,cC,cQ⟩:=hp;have hs:=St.start w;refine eS Tryz.func125 ?_;refine cI hs (λ j5 _ hs=>aA nI (aB jC hs.hb rfl ?_));have ahM:=DL.flat (cW);exact ek Vk hs (C202 _ _ _ (ahM.ext hs.aF) (by have:=hz.eG;omega)) (λ _ _ _ hs=>have hs:=(hs.p1).drop;hs.fresh)
theorem C62(p:cG)(pv:bO)(w:World)(hp:Deep.dr w pv p)(hz:PZ p):CR 62 [Flat.val pv] w (λ v w'=>v=.int .i64 (eu p)/\Ext w w'):=by
 obtain⟨bJ,bT,bK,aU,aV,bE,rfl,cR,dA,cW,cB,cC,cQ⟩:=hp;have hs:=St.start w;refine oY Tryz.func62 (pl:=P62) ?_;refine cI hs (λ j5 _ hs=>have hs:=hs.drew;aE ep hs.At (aA pK (aB jC hs.hb rfl ?_)));have auQ:=DL.flat (dA);refine aI g8 (auQ.ext hs.aF) (ek SU hs (C59 p _ _ ⟨bJ,bT,bK,aU,aV,bE,rfl,(cR).ext hs.aF,(dA).ext hs.aF,(cW).ext hs.aF,(cB).ext hs.aF,(cC).ext hs.aF,(cQ).ext hs.aF⟩ hz.toPS) (λ x4 _ cO hs=>?_));refine⟨aG jC (hs.p1.hb.cell rfl),?_⟩
 refine aI g8 (hs).dX ?_;have hac:=kG hz.toPS;have hzv:=hz.iI;exact fe (by omega) (have hs:=((hs.drop)).drop;⟨congrArg (Value.int .i64) (Xa p),hs.aF⟩)
theorem Xc{l:List cJ}{r:List (List cJ)}{i a:Int}(h:¬ a<l.length):jk (l::r) i a=jk r (i+1) (a-l.length):=by rw[jk,if_neg h]
theorem Xd{x:bN}{n m:Int}(hn:1<=n/\n<=64)(h:x.kind=12->1<=x.n/\x.n<=8)(hm:m=qP x n):1<=m/\m<=512:=by
 rw[hm];unfold qP
 split
 ·rename_i hk
  have:=h hk
  have h1:=Int.mul_le_mul (a:=1) (b:=1) hn.1 this.1 (by omega) (by omega)
  have h2:=Int.mul_le_mul (c:=64) (d:=8) hn.2 this.2 (by omega) (by omega)
  omega
 omega
theorem Bk.C1{t:Bk}(h:¬ (t.flat.length:Int)=0):∃x a b r,t=.cons x a b r:=by
 cases t with
 | nil=>exact absurd rfl h
 | cons x a b r=>grind
theorem Bk.Cv{x:bN}{a b r:Bk}(h:(Bk.cons x a b r).str){hi lo:Int}(h1:hi=1+x.body+x.eo)(h2:lo=1):((Bk.cons x a b r).flat.take hi.toNat).drop lo.toNat=(a.app b).flat:=by
 obtain⟨g1,g2,_⟩:=h
 have la:=a.cY
 have lb:=b.cY
 rw[Bk.Av,vd _ (a:=1) (n:=(a.flat++b.flat).length) (by grind) (by omega)]
 grind[flat]
theorem Bk.ahN{x:bN}{a b r:Bk}(h:(Bk.cons x a b r).str){hi:Int}(h1:hi=1+x.body+x.eo):(Bk.cons x a b r).flat.drop hi.toNat=r.flat:=by
 obtain⟨g1,g2,_⟩:=h
 have la:=a.cY
 have lb:=b.cY
 have e:(Bk.cons x a b r).flat=(x::(a.flat++b.flat))++r.flat:=by simp[Bk.flat]
 rw[e,show hi.toNat=(x::(a.flat++b.flat)).length from by simp;omega,List.drop_left]
theorem xG{l:List cJ}{k:Nat}{c:cJ}(h:l[k]?=some c):CZ l k=decide (cU (l.map cJ.name) c.name<k):=by unfold CZ;rw[h]
theorem Aw{p:cG}{l:List ByteArray}{k:Nat}{c:ByteArray}(h:l[k]?=some c):Rn p l k=(decide (cU l c<k)||decide (0<=cU (cT p) c)||decide (0<=cU (cL p) c)):=by unfold Rn;rw[h]
theorem C2(a b:Bk):(a.app b).len=a.len+b.len:=by rw[<- Bk.cY,Bk.Av,List.length_append,Bk.cY,Bk.cY]
theorem C60(p:cG)(pv:bO)(c:Int)(w:World)(hp:Deep.dr w pv p)(hz:PZ p):CR 60 [Flat.val pv,.int .i64 c] w (λ v w'=>v=.int .i64 (o9 p c)/\Ext w w'):=by
 obtain⟨bJ,bT,bK,aU,aV,bE,rfl,cR,dA,cW,cB,cC,cQ⟩:=hp;have hs:=St.start w;refine eS Tryz.func60 ?_;refine cI hs (λ aoo w1 hs=>⟨λ jv w'=>jv=.bool (decide (c<0)||decide (((g9 p).length:Int)<=c))/\St w aY [bY aoo (Flat.enc (⟨bJ,bT,bK,aU,aV,bE⟩:bO))] w',aQ (aC (λ _=>⟨vb (by grind),hs⟩) (λ _=>aE ep hs.At (ek SU hs (C59 p _ _ ⟨bJ,bT,bK,aU,aV,bE,rfl,(cR).ext hs.aF,(dA).ext hs.aF,(cW).ext hs.aF,(cB).ext hs.aF,(cC).ext hs.aF,(cQ).ext hs.aF⟩ hz.toPS) (λ _ _ _ hs=>aI g8 (hs).dX (cS (have hs:=(hs).drop;⟨vb (by grind),hs⟩)))))),?_⟩)
 rintro _ _ ⟨rfl,hs⟩ _;have hac:=kG hz.toPS;refine aW (λ ji=>?_) (λ ji=>?_)
 ·refine⟨congrArg (Value.int .i64) ?_,hs.drop.aF⟩;unfold o9;rw[if_pos (by grind)]
 have hc2:0<=c/\c<(g9 p).length:=by grind
 refine⟨λ m y x w1=>∃(k:Nat) (a:Int),y=.int .i64 a/\x=.int .i64 (k:Int)/\m=p.lines.length-k/\k<=p.lines.length/\0<=a/\a<=c/\jk p.lines 0 c=jk (p.lines.drop k) k a/\St w aY [bY aoo (Flat.enc (⟨bJ,bT,bK,aU,aV,bE⟩:bO))] w1,⟨_,0,c,rfl,rfl,rfl,by omega,by omega,by omega,rfl,hs⟩,?_⟩;rintro m _ _ _ ⟨k,a,rfl,rfl,rfl,hk,ha0,hac1,Xe,hs⟩ _;have hzl:=hz.lines;refine aA gk (aB oz hs.hb rfl ?_);obtain⟨aop,Tu,acF⟩:=(cR).open;have auS:=acF.1;refine aI pj (Tu.ext hs.aF) (aQ (aC (λ kD=>?_) (λ kD=>?_)))
 ·refine aA gk (aB oz hs.hb rfl ?_);obtain⟨aoq,Oz⟩:=gx aop (i:=((k:Int)).toNat) (by omega);obtain⟨aor,OA⟩:=gx ((p).lines) (i:=((k:Int)).toNat) (by omega);have aos:DL w (Flat.val aoq) aor:=acF.2 _ _ _ Oz OA;refine aO pj (Tu.ext hs.aF) (by omega) Oz (λ _ Eh=>aE jC (Eh) ?_);have acG:=DL.flat (aos);refine aI g8 (acG.ext hs.aF) (aQ (aC (λ lT=>?_) (λ lT=>?_)))
  ·refine⟨congrArg (Value.int .i64) ?_,hs.drop.aF⟩;rw[drop_cons (k:=k) OA]at Xe;unfold o9;rw[if_neg (by omega),Xe];unfold jk;rw[if_pos (by omega)]
  refine aA gk (aB oz hs.hb rfl (aO pj (Tu.ext hs.aF) (by omega) Oz (λ _ Ap=>aE jC (Ap) (aI g8 (acG.ext hs.aF) (fe (by omega) (aK (by omega) ?_))))));rw[drop_cons (k:=k) OA,Xc (by omega)]at Xe;exact⟨_,by omega,k+1,_,rfl,rfl,rfl,by omega,by omega,by omega,Xe,hs⟩
 refine aA gk (aB oz hs.hb rfl (aI pj (Tu.ext hs.aF) (aK (by omega) ?_)));refine⟨congrArg (Value.int .i64) ?_,hs.drop.aF⟩;rw[List.drop_eq_nil_of_le (by omega)]at Xe;unfold o9;rw[if_neg (by omega),Xe];unfold jk;omega
theorem C127(lv nv:Value)(xs:List bX)(ns:List ByteArray)(w:World)(hL:dC (λ _=>True) w lv xs)(hN:dC (λ _=>True) w nv ns)(hn:xs.length<=1048576)(A3:ns.length<=1048576)(rZ:∀y∈xs,0<=y.at_):CR 127 [lv,nv] w (λ v w'=>∃a:Int,v=.int .i64 a/\decide (0<=a)=oN xs ns/\Ext w w'):=by
 have hs:=St.start w;refine eS Tryz.func127 ?_;refine⟨λ m x w1=>∃k:Nat,x=.int .i64 (k:Int)/\m=xs.length-k/\k<=xs.length/\(∀y∈xs.take k,(decide (y.op=2)&&decide (cU ns y.name<0))=false)/\St w aY [] w1,⟨_,0,rfl,rfl,Nat.zero_le _,by simp,hs⟩,?_⟩;rintro m _ w1 ⟨k,rfl,rfl,hk,eD,hs⟩ _;refine aI gN (hL.ext hs.aF) (aQ (aC (λ jj=>?_) (λ jj=>?_)))
 ·obtain⟨gV,dw⟩:=gx (xs) (i:=((k:Int)).toNat) (by omega);refine⟨λ jv w'=>jv=.bool (decide (gV.op=2)&&decide (cU ns gV.name<0))/\St w aY [] w',aO gN (hL.ext hs.aF) (by omega) dw (λ _ gA=>bW (gV).op eU gA rfl rfl (λ _ ur=>aE bL (ur) (aH (aC (λ _=>aO gN (hL.ext hs.aF) (by omega) dw (λ _ wH=>bW (gV).name fY wH rfl rfl (λ _ qi=>aE gj (qi) (aT rD hs (C123 _ ns _ _ (hN.ext hs.aF) (by omega)) (λ _ _ hs=>aQ ⟨vb (by grind),hs⟩))))) (λ _=>⟨vb (by grind),hs⟩))))),?_⟩;rintro _ _ ⟨rfl,hs⟩ _;exact aW (λ ly=>aO gN (hL.ext hs.aF) (by omega) dw (λ _ mj=>bW (gV).at_ rL mj rfl rfl (λ _ uz=>aE bL (uz) ⟨_,rfl,by unfold oN;rw[gU dw ly];exact decide_eq_true (rZ _ (List.mem_of_getElem? dw)),hs.aF⟩))) (λ ly=>aK (by omega) ⟨_,by omega,k+1,rfl,rfl,by omega,dR eD dw ly,hs⟩)
 rw[List.take_of_length_le (by omega)]at eD;exact⟨_,rfl,by unfold oN;rw[il eD];rfl,hs.aF⟩
theorem C121(lv:Value)(t:Bk)(n:Int)(N:Nat)(w:World)(hL:DL w lv t.flat)(iL:t.str)(hq:∀x∈t.flat,0<=x.at_/\(x.kind=12->1<=x.n/\x.n<=8))(hn:1<=n/\n<=64)(hl:t.len<=1048576)(hN:t.len<N):CR 121 [lv,.int .i64 n] w (λ v w'=>∃a:Int,v=.int .i64 a/\decide (0<=a)=mr t n/\Ext w w'):=by
 have sS:=t.cY;have hs:=St.start w;refine eS Tryz.func121 ?_;obtain⟨auT,Tv,acH⟩:=(hL).open;have hn22:=acH.1;refine aI fo (Tv.ext hs.aF) (aH (aC (λ ju=>?_) (λ ju=>?_)))
 ·cases t with
  | nil=>exact⟨_,rfl,rfl,hs.aF⟩
  | cons x a b r=>exact absurd sS (by rw[show(Bk.cons x a b r).len=a.len+b.len+r.len+1 from rfl];omega)
 obtain⟨x,a,b,r,rfl⟩:=Bk.C1 (t:=t) (by omega);obtain⟨uq,u6⟩:=gx auT (i:=((0:Int)).toNat) (by omega);obtain⟨mw,Xf⟩:=gx ((Bk.cons x a b r).flat) (i:=((0:Int)).toNat) (by omega);obtain⟨Rp,Rq,rfl,asb,asc⟩:=acH.2 _ _ _ u6 Xf;refine aO fo (Tv.ext hs.aF) (by omega) u6 (λ _ D3=>?_);obtain rfl:mw=x:=(Option.some.inj Xf).symm;have hqx:=hq mw (by simp[Bk.flat]);have Xg:=iL;obtain⟨A6,IG,Tw,hg4,hga,hgb,hgr⟩:=Xg;have FY:a.len+b.len+r.len+1<=1048576:=hl;have hNn:a.len+b.len+r.len+1<N:=hN;have hla:=a.cY;have Nw:=b.cY;have hlr:=r.cY
 have Xe:(Bk.cons mw a b r).flat.length=a.len+b.len+r.len+1:=Bk.cY _;refine aE eI (D3) (aM hs jq (λ ID _ hs=>aJ (x:=(⟨(mw).kind,(mw).eC,(mw).name,Rp,Rq,(mw).n,(mw).body,(mw).eo,(mw).at_⟩:aZ)) hs eI rfl rfl (λ _ hs=>⟨λ jv w'=>∃m:Int,jv=.int .i64 m/\m=qP mw n/\St w aY [bY ID (Flat.enc (⟨(mw).kind,(mw).eC,(mw).name,Rp,Rq,(mw).n,(mw).body,(mw).eo,(mw).at_⟩:aZ))] w',aA dJ (aB (v:=.int .i64 ((mw).kind)) bL hs.hb rfl (aH (aC (λ lB=>aA jG (aB (v:=.int .i64 ((mw).n)) bL hs.hb rfl (H6 (by have Tx:=hqx.2 lB;have h1:=Int.mul_le_mul (a:=1) (b:=1) hn.1 Tx.1 (by omega) (by omega);have h2:=Int.mul_le_mul (c:=64) (d:=8) hn.2 Tx.2 (by omega) (by omega);omega) ⟨_,rfl,by grind[qP],hs⟩))) (λ _=>⟨_,rfl,by grind[qP],hs⟩)))),?_⟩)))
 rintro _ _ ⟨m,rfl,hm,hs⟩ _;have hm8:=Xd hn hqx.2 hm;refine cP (aC (λ _=>aA lq (aB (v:=.int .i64 ((mw).at_)) bL hs.hb rfl ⟨_,rfl,by unfold mr;rw[<- hm,decide_eq_true (show(64:Int)<m by omega)];exact decide_eq_true hqx.1,hs.drop.aF⟩)) (λ nD=>aA iO (aB (v:=.int .i64 ((mw).body)) bL hs.hb rfl (aK (by omega) (aA iw (aB (v:=.int .i64 ((mw).eo)) bL hs.hb rfl (aK (by omega) (od fo (Tv.ext hs.aF) (by omega) (by omega) (by omega) (λ aot ahO=>?_)))))))));have ahP:=DL.cut ahO Tv acH;refine dN Vh (C121 _ (a.app b) m (N-1) _ (by have h:=ahP.ext hs.aF;rw[Bk.Cv iL (by omega) (by omega)]at h;exact h) (Bk.Rm hga hgb) (λ y hy=>hq y (by rw[Bk.Av]at hy;simp only[Bk.flat,List.mem_cons,List.mem_append];rcases List.mem_append.1 hy with h|h<;>simp[h])) (by omega) (by rw[C2];omega) (by rw[C2];omega)) ?_
 rintro _ _ ⟨a1,rfl,ha1,he⟩;have hs:=hs.ext he;rw[GR]at ha1;refine cS (aC (λ Cb=>⟨_,rfl,by unfold mr;rw[<- hm];rw[decide_eq_true Cb]at ha1;rw[<- ha1,decide_eq_true Cb];simp,hs.drop.aF⟩) (λ Cb=>yM fo (Tv.ext hs.aF) (by omega) (by omega) (λ afY ahQ=>?_)));have ahR:=DL.V2 ahQ Tv acH;refine dN Vh (C121 _ r n (N-1) _ (by have h:=ahR.ext hs.aF;rw[Bk.ahN iL (by omega)]at h;exact h) hgr (λ y hy=>hq y (by simp[Bk.flat,hy])) hn (by omega) (by omega)) ?_;rintro _ _ ⟨a2,rfl,ha2,he⟩;have hs:=hs.ext he;exact⟨_,rfl,by unfold mr;rw[<- hm];rw[<- ha1,ha2,decide_eq_false (show ¬ (64:Int)<m by omega),decide_eq_false Cb];rfl,hs.drop.aF⟩
termination_by N
decreasing_by all_goals omega
theorem C120(p:cG)(pv:bO)(vf yo:List cE)(w:World)(hp:Deep.dr w pv p)(h3:dC (λ _=>True) w (Flat.val pv.threads) vf)(h4:dC (λ _=>True) w (Flat.val pv.recover) yo)(hz3:vf.length<=500)(hz4:yo.length<=500):CR 120 [Flat.val pv] w (λ v w'=>lL (bG v (vf++yo)) w w'):=by
 obtain⟨bJ,bT,bK,aU,aV,bE,rfl,cR,dA,cW,cB,cC,cQ⟩:=hp;have hs:=St.start w;refine eS Tryz.func120 ?_;refine cI hs (λ j5 _ hs=>aX (([]:List cE)) hs fq rfl rfl (dI rfl) (λ auV _ hs=>aA kj (aB ij hs.p1.hb rfl ?_)));have Lw:=(h3.ext hs.aF);refine bI hs fq Lw (by simp<;>omega) (by decide) (λ acJ _ hs=>aA oA (aB ij hs.p1.hb rfl ?_));have yN:=(h4.ext hs.aF);exact bI hs fq yN (by simp;omega) (by decide) (λ _ _ hs=>have hs:=(hs.p1).drop;hs.fresh)
theorem C122(p:cG)(pv:bO)(w:World)(hp:Deep.dr w pv p)(hz:PZ p)(rZ:∀c∈fJ p,0<=c.at_):CR 122 [Flat.val pv] w (λ v w'=>∃a:Int,v=.int .i64 a/\decide (0<=a)=j9 (fJ p)/\Ext w w'):=by
 obtain⟨bJ,bT,bK,aU,aV,bE,rfl,cR,dA,cW,cB,cC,cQ⟩:=hp;have hs:=St.start w;refine abb _ _ _ ?_;unfold S122;refine cI hs (λ j5 w1 hs=>aX (([]:List cJ)) hs g8 rfl rfl (dI rfl) (λ acJ _ hs=>aE ep hs.p1.At (ek SU hs (C59 p _ _ ⟨bJ,bT,bK,aU,aV,bE,rfl,(cR).ext hs.aF,(dA).ext hs.aF,(cW).ext hs.aF,(cB).ext hs.aF,(cC).ext hs.aF,(cQ).ext hs.aF⟩ hz.toPS) (λ x9 _ cO hs=>?_))));have ahS:=(hs).dX;refine bI hs.p1 g8 ahS (by simp;have:=kG hz.toPS;omega) (by decide) (λ am7 _ hs=>have hs:=hs.p1.drop;aA nI (aB jC hs.p1.hb rfl ?_))
 have auW:=DL.flat (cW);have iR:=(auW.ext hs.aF);refine bI hs g8 iR (by simp;have:=kG hz.toPS;have:=hz.eG;omega) (by decide) (λ s_x14 _ hs=>?_);have hs:=hs.p1.p1;refine⟨λ m y x w1=>∃k:Nat,x=.int .i64 (k:Int)/\m=p.threads.length-k/\k<=p.threads.length/\St w aY [bG y (g9 p++p.eG++(p.threads.take k).map (λ t=>(⟨t.name,0,t.at_⟩:cJ))),bY j5 (Flat.enc (⟨bJ,bT,bK,aU,aV,bE⟩:bO))] w1,⟨_,0,rfl,rfl,by omega,by simpa using hs⟩,?_⟩;rintro m l3 _ _ ⟨k,rfl,rfl,hk,hs⟩ _;have hzt:=hz.threads;refine aA kj (aB ij hs.p1.hb rfl ?_)
 obtain⟨ahT,Lx,Ty⟩:=(cB).open;have auX:=Ty.1;refine aI fq (Lx.ext hs.aF) (aQ (aC (λ eQ=>?_) (λ eQ=>?_)))
 ·refine aA kj (have hs:=hs.drew;aB ij hs.p1.hb rfl ?_);obtain⟨e_x26,OB⟩:=gx ahT (i:=((k:Int)).toNat) (by omega);obtain⟨Rr,Xh⟩:=gx ((p).threads) (i:=((k:Int)).toNat) (by omega);obtain⟨ahU,ahV,rfl,ahW,ahX⟩:=Ty.2 _ _ _ OB Xh;refine aO fq (Lx.ext hs.aF) (by omega) OB (λ _ wD=>bW (Rr).name pW wD rfl rfl (λ _ ux=>aE gj (ux) (aA kj (aB ij hs.p1.hb rfl (aO fq (Lx.ext hs.aF) (by omega) OB (λ _ Au=>bW (Rr).at_ pX Au rfl rfl (λ _ qO=>aE bL (qO) (pop (DI _ _) (aX ([(⟨(Rr).name,0,(Rr).at_⟩:cJ)]) hs g8 rfl rfl (dI rfl) (λ aou _ hs=>?_))))))))))
  have ahY:=(hs).dX;exact bI hs.p1 g8 ahY (by have:=kG hz.toPS;have:=hz.eG;have:=hz.threads;simp;omega) (by decide) (λ _ _ hs=>have hs:=hs.p1.drop;aK (by omega) (have hs:=hs.p1.p1;⟨_,by omega,k+1,rfl,rfl,by omega,by rw[<- fW (k:=k) Xh,<- List.append_assoc];exact hs⟩))
 rw[List.take_of_length_le (by omega)]at hs;have JF:=Ts hz.toPS;have hs:St w aY [bG l3 (fJ p),bY j5 (Flat.enc (⟨bJ,bT,bK,aU,aV,bE⟩:bO))] _:=hs;refine ek Vk hs (C202 _ _ _ (hs).dX (by omega)) (λ x39 _ cO hs=>?_);have hs:=hs.p2.p2.p2;refine⟨λ m x w1=>∃k:Nat,x=.int .i64 (k:Int)/\m=(fJ p).length-k/\k<=(fJ p).length/\(∀j,j<k->CZ (fJ p) j=false)/\St w aY [bG x39 ((fJ p).map cJ.name),bG l3 (fJ p),bY j5 (Flat.enc (⟨bJ,bT,bK,aU,aV,bE⟩:bO))] w1,⟨_,0,rfl,rfl,by omega,by simp,hs⟩,?_⟩
 rintro m _ _ ⟨k,rfl,rfl,hk,eD,hs⟩ _;refine aI g8 (hs.p1).dX (aQ (aC (λ vy=>?_) (λ _=>have hs:=((((hs.drop)).drop)).drop;⟨_,rfl,by unfold j9;rw[Lt (λ j _=>eD j (by omega))];rfl,hs.aF⟩)));obtain⟨Eu,vg⟩:=gx ((fJ p)) (i:=((k:Int)).toNat) (by omega);exact dM hs.p1 g8 (by omega) (by omega) (λ _ Ly=>mf kz Ly (λ _ aov=>nz (Eu).name hs.p1 gj aov vg rfl (aT rD hs (C123 _ (((fJ p)).map cJ.name) _ _ (hs).dX (by rw[List.length_map];omega)) (λ _ _ hs=>aQ (aC (λ Ax=>dM hs.p1 g8 (by omega) (by omega) (λ _ Lz=>mf ui Lz (λ _ Ev=>nz (Eu).at_ hs.p1 bL Ev vg rfl (have hs:=((((hs.drop)).drop)).drop;⟨_,rfl,by unfold j9;rw[Lu (j:=k) (by omega) (by rw[xG (k:=k) vg];exact decide_eq_true Ax)];exact decide_eq_true (rZ _ (List.mem_of_getElem? vg)),hs.aF⟩)))) (λ Ax=>aK (by omega) ⟨_,by omega,k+1,rfl,rfl,by omega,Ro eD (by rw[xG (k:=k) vg];exact decide_eq_false Ax),hs⟩))))))
theorem C126(p:cG)(pv:bO)(t:cN)(tv:cE)(x:bN)(xv:aZ)(w:World)(hp:Deep.dr w pv p)(ht:Deep.dr w tv t)(hx:Deep.dr w xv x)(hz:PZ p)(hzt:t.dL.length<=500)(hzx:SzS x)(rZ:0<=x.at_/\(∀y∈x.e,0<=y.at_)/\(∀y∈x.f,0<=y.at_)):CR 126 [Flat.val pv,Flat.val tv,Flat.val xv] w (λ v w'=>∃a:Int,v=.int .i64 a/\decide (0<=a)=mU p t.dL x/\Ext w w'):=by
 obtain⟨bJ,bT,bK,aU,aV,bE,rfl,cR,dA,cW,cB,cC,cQ⟩:=hp;obtain⟨lD,lE,rfl,nF,r8⟩:=ht;obtain⟨vB,vC,rfl,KS,GK⟩:=hx;have Ew:=mu hz.toPS;have FJ:(cL p).length<=500:=by unfold cL;rw[List.length_map];exact hz.eG
 have hs:=St.start w;refine oY Tryz.func126 (pl:=ats) ?_;refine cI hs (λ ahZ _ hs=>cI hs (λ ah0 _ hs=>cI hs (λ ID _ hs=>⟨λ jv w'=>jv=.bool (decide (¬ x.eC=⟨#[]⟩)&&decide (cU t.dL x.eC<0))/\St w aY [bY ID (Flat.enc (⟨(x).kind,(x).eC,(x).name,vB,vC,(x).n,(x).body,(x).eo,(x).at_⟩:aZ)),bY ah0 (Flat.enc (⟨(t).name,lD,lE,(t).at_⟩:cE)),bY ahZ (Flat.enc (⟨bJ,bT,bK,aU,aV,bE⟩:bO))] w',aA iv (aB (v:=.string ((x).eC)) gj hs.hb rfl (lM (aC (λ ju=>?_) (λ _=>⟨vb (by grind),hs⟩)))),?_⟩)))
 ·refine aA fN (aB iZ hs.p1.hb rfl ?_);have ah1:=DL.flat (nF);exact aA iv (aB (v:=.string ((x).eC)) gj hs.hb rfl (aT rD hs (C123 _ (t).dL _ _ (ah1.ext hs.aF) (by omega)) (λ _ _ hs=>aQ ⟨vb (by grind),hs⟩)))
 rintro _ _ ⟨rfl,hs⟩ _;refine aW (λ _=>aA lq (aB (v:=.int .i64 ((x).at_)) bL hs.hb rfl (have hs:=((((hs.drop)).drop)).drop;⟨_,rfl,by rw[decide_eq_true rZ.1];unfold mU;grind,hs.aF⟩))) (λ eQ=>have hs:=hs.drew;aE ep hs.p2.At (aA fU (aB (v:=.string ((x).name)) gj hs.hb rfl (ek J0 hs (C124 p _ _ ⟨bJ,bT,bK,aU,aV,bE,rfl,(cR).ext hs.aF,(dA).ext hs.aF,(cW).ext hs.aF,(cB).ext hs.aF,(cC).ext hs.aF,(cQ).ext hs.aF⟩ hz) (λ x23 _ cO hs=>?_)))));refine⟨aG gj (hs.p1.hb.cell rfl),?_⟩;refine aT rD hs (C123 _ (cT p) _ _ (hs).dX (by omega)) (λ w7 he hs=>⟨λ w'=>(((decide (x.kind=2)||decide (x.kind=3)||decide (x.kind=4))&&decide (cU (cT p) x.name<0))||((decide (x.kind=5)||decide (x.kind=6))&&(decide (cU (cT p) x.name<0)||decide (eu p<=cU (cT p) x.name)))||((decide (x.kind=9)||decide (x.kind=10))&&decide (cU (cL p) x.name<0)))=false/\St w aY [bY ID (Flat.enc (⟨(x).kind,(x).eC,(x).name,vB,vC,(x).n,(x).body,(x).eo,(x).at_⟩:aZ)),bY ah0 (Flat.enc (⟨(t).name,lD,lE,(t).at_⟩:cE)),bY ahZ (Flat.enc (⟨bJ,bT,bK,aU,aV,bE⟩:bO))] w',aA dJ (aB (v:=.int .i64 ((x).kind)) bL hs.p1.hb rfl ⟨λ jv w'=>jv=.bool (decide (x.kind=2\/x.kind=3\/x.kind=4))/\w7=w',aH (aC (λ _=>⟨xS (by omega),rfl⟩) (λ _=>aH (aC (λ _=>⟨xS (by omega),rfl⟩) (λ _=>aH ⟨xS (by omega),rfl⟩)))),?_⟩),?_⟩)
 ·rintro _ _ ⟨rfl,hw⟩ _;subst hw;refine aC (λ _=>aQ (aC (λ _=>aA lq (aB (v:=.int .i64 ((x).at_)) bL hs.p1.hb rfl (have hs:=((((((hs.drop)).drop)).drop)).drop;⟨_,rfl,by rw[decide_eq_true rZ.1];unfold mU;grind,hs.aF⟩))) (λ _=>have hs:=(hs.drop.p2.p2).p2;⟨by grind,hs⟩))) (λ afZ=>⟨λ jv w'=>jv=.bool (decide (x.kind=5\/x.kind=6))/\w7=w',aH (aC (λ _=>⟨xS (by omega),rfl⟩) (λ _=>aH ⟨xS (by omega),rfl⟩)),?_⟩);rintro _ _ ⟨rfl,hw⟩ _;subst hw;refine aC (λ oK=>⟨λ jv w'=>jv=.bool (decide (cU (cT p) x.name<0)||decide (eu p<=cU (cT p) x.name))/\St w aY [bG x23 (cT p),bY ID (Flat.enc (⟨(x).kind,(x).eC,(x).name,vB,vC,(x).n,(x).body,(x).eo,(x).at_⟩:aZ)),bY ah0 (Flat.enc (⟨(t).name,lD,lE,(t).at_⟩:cE)),bY ahZ (Flat.enc (⟨bJ,bT,bK,aU,aV,bE⟩:bO))] w',aQ (aC (λ _=>⟨vb (by grind),hs⟩) (λ _=>aE ep hs.p3.At (aT HX hs (C62 p _ _ ⟨bJ,bT,bK,aU,aV,bE,rfl,(cR).ext hs.aF,(dA).ext hs.aF,(cW).ext hs.aF,(cB).ext hs.aF,(cC).ext hs.aF,(cQ).ext hs.aF⟩ hz) (λ _ _ hs=>cS ⟨vb (by grind),hs⟩)))),?_⟩) (λ oK=>⟨λ jv w'=>jv=.bool (decide (x.kind=9\/x.kind=10))/\w7=w',aH (aC (λ _=>⟨xS (by omega),rfl⟩) (λ _=>aH ⟨xS (by omega),rfl⟩)),?_⟩)
  ·rintro _ _ ⟨rfl,hs⟩ _;exact aW (λ _=>aA lq (aB (v:=.int .i64 ((x).at_)) bL hs.p1.hb rfl (have hs:=((((((hs.drop)).drop)).drop)).drop;⟨_,rfl,by rw[decide_eq_true rZ.1];unfold mU;grind,hs.aF⟩))) (λ _=>have hs:=(hs.drop.p2.p2).p2;⟨by grind,hs⟩)
  rintro _ _ ⟨rfl,hw⟩ _;subst hw;exact aC (λ _=>have hs:=hs.drew;aE ep hs.p3.At (aA fU (aB (v:=.string ((x).name)) gj hs.p1.hb rfl (ek QC hs (C125 p _ _ ⟨bJ,bT,bK,aU,aV,bE,rfl,(cR).ext hs.aF,(dA).ext hs.aF,(cW).ext hs.aF,(cB).ext hs.aF,(cC).ext hs.aF,(cQ).ext hs.aF⟩ hz) (λ _ _ _ hs=>⟨aG gj (hs.p2.hb.cell rfl),aT rD hs (C123 _ (cL p) _ _ (hs).dX (by omega)) (λ _ _ hs=>aQ (aC (λ _=>aA lq (aB (v:=.int .i64 ((x).at_)) bL hs.p2.hb rfl (have hs:=((((((((hs.drop)).drop)).drop)).drop)).drop;⟨_,rfl,by rw[decide_eq_true rZ.1];unfold mU;grind,hs.aF⟩))) (λ _=>have hs:=(((((hs.drop)).drop).p2).p2).p2;⟨by grind,hs⟩)))⟩))))) (λ _=>have hs:=(hs.drop.p2.p2).p2;⟨by grind,hs⟩)
 rintro _ ⟨hmid,hs⟩ _;refine aA iN (aB jo hs.hb rfl ?_);have ah2:=DL.flat (KS);refine aA fN (aB iZ hs.p1.hb rfl ?_);have acK:=DL.flat (nF);refine dN Vi (C127 _ _ _ _ _ (ah2.ext hs.aF) (acK.ext hs.aF) hzx.2.2.1 (by omega) rZ.2.1) ?_;rintro _ _ ⟨a_x65,rfl,auY,he⟩;have hs:=hs.ext he;refine cS (aC (λ _=>have hs:=((((hs.drop)).drop)).drop;⟨_,rfl,by unfold mU;grind,hs.aF⟩) (λ D2=>aA jU (aB jo hs.hb rfl ?_)));have auZ:=DL.flat (GK);refine aA fN (aB iZ hs.p1.hb rfl (dN Vi (C127 _ _ _ _ _ (auZ.ext hs.aF) (acK.ext hs.aF) hzx.2.2.2.1 (by omega) rZ.2.2) ?_))
 rintro _ _ ⟨a_x73,rfl,au0,he⟩;have hs:=((((((hs.ext he)).drop)).drop)).drop;exact⟨_,rfl,by unfold mU;grind,hs.aF⟩
theorem C119(p:cG)(pv:bO)(w:World)(hp:Deep.dr w pv p)(hz:PZ p):CR 119 [Flat.val pv] w (λ v w'=>v=.bool (uD p)/\Ext w w'):=by
 obtain⟨bJ,bT,bK,aU,aV,bE,rfl,cR,dA,cW,cB,cC,cQ⟩:=hp;have hs:=St.start w;refine eS Tryz.func119 ?_;refine cI hs (λ j5 w1 hs=>?_);refine⟨λ m x w1=>∃k:Nat,x=.int .i64 (k:Int)/\m=p.lines.length-k/\k<=p.lines.length/\(∀y∈p.lines.take k,decide (4<(y.length:Int))=false)/\St w aY [bY j5 (Flat.enc (⟨bJ,bT,bK,aU,aV,bE⟩:bO))] w1,⟨_,0,rfl,rfl,Nat.zero_le _,by simp,hs⟩,?_⟩;rintro m _ _ ⟨k,rfl,rfl,hk,eD,hs⟩ _;have hzl:=hz.lines;refine aA gk (aB oz hs.hb rfl ?_)
 obtain⟨au1,ah3,aow⟩:=(cR).open;have hn29:=aow.1;refine aI pj (ah3.ext hs.aF) (aQ (aC (λ gL=>?_) (λ gL=>?_)))
 ·refine aA gk (aB oz hs.hb rfl ?_);obtain⟨Wx,nT⟩:=gx au1 (i:=((k:Int)).toNat) (by omega);obtain⟨rX,oM⟩:=gx ((p).lines) (i:=((k:Int)).toNat) (by omega);have aox:DL w (Flat.val Wx) rX:=aow.2 _ _ _ nT oM;refine aO pj (ah3.ext hs.aF) (by omega) nT (λ _ Aj=>aE jC (Aj) ?_);have au2:=DL.flat (aox);refine aI g8 (au2.ext hs.aF) (cP (aC (λ eQ=>?_) (λ eQ=>aK (by omega) ⟨_,by omega,k+1,rfl,rfl,by omega,dR eD oM (decide_eq_false eQ),hs⟩)));have hs:=(hs).drop;refine⟨vb ?_,hs.aF⟩;unfold uD;rw[gU oM (decide_eq_true (by omega))];rfl
 refine aE ep hs.At ?_;obtain⟨aoy,ah4,aoz⟩:=(cB).open;have hn31:=aoz.1;obtain⟨aoA,au3,aoB⟩:=(cC).open;have hn32:=aoB.1;refine dN aeQ (C120 p _ aoy aoA _ ⟨bJ,bT,bK,aU,aV,bE,rfl,(cR).ext hs.aF,(dA).ext hs.aF,(cW).ext hs.aF,(cB).ext hs.aF,(cC).ext hs.aF,(cQ).ext hs.aF⟩ (ah4.ext hs.aF) (au3.ext hs.aF) (by have:=hz.threads;omega) (by have:=hz.recover;omega)) ?_;rintro x21 _ cO;have hs:=hs.made cO;obtain⟨Ay,LA⟩:∃t,t=aoy++aoA:=⟨_,rfl⟩;rw[<- LA]at hs;have OC:jh Ay (gd p) w:=by rw[LA];exact jh.append aoz aoB
 have au4:=OC.1;have ah5:=C0 hz.toPS;have hs:=hs.p1.p1;refine⟨λ m x w1=>∃kb:Nat,x=.int .i64 (kb:Int)/\m=(gd p).length-kb/\kb<=(gd p).length/\(∀y∈(gd p).take kb,decide (4<(y.dL.length:Int))=false)/\St w aY [bG x21 Ay,bY j5 (Flat.enc (⟨bJ,bT,bK,aU,aV,bE⟩:bO))] w1,⟨_,0,rfl,rfl,Nat.zero_le _,by simp,hs⟩,?_⟩;rintro m _ _ ⟨kb,rfl,rfl,Wm,Oy,hs⟩ _;refine aI fq (hs).dX (aQ (aC (λ jw=>?_) (λ jw=>⟨λ jv w'=>jv=.bool (decide (4<(p.lines.length:Int))||decide (4<(p.iI.length:Int))||decide (2<(p.eG.length:Int))||decide ((p.threads.length:Int)<1)||decide (3<(p.threads.length:Int))||decide (4<(p.dP.length:Int)))/\St w aY [] w',aA gk (aB oz hs.p1.hb rfl (aI pj (ah3.ext hs.aF) (cP (aC (λ _=>have hs:=((hs.drop)).drop;⟨vb (by grind),hs⟩) (λ ti=>?_))))),?_⟩)))
 ·obtain⟨qL,fZ⟩:=gx Ay (i:=((kb:Int)).toNat) (by omega);obtain⟨aoC,wM⟩:=gx ((gd p)) (i:=((kb:Int)).toNat) (by omega);obtain⟨Ey,Ez,rfl,EA,EB⟩:=OC.2 _ _ _ fZ wM;refine aO fq (hs).dX (by omega) fZ (λ _ mj=>bW Ey fN mj rfl rfl (λ _ uz=>aE iZ (uz) ?_));have au5:=DL.flat (EA);refine aI ik (au5.ext hs.aF) (cP (aC (λ lz=>?_) (λ _=>aK (by omega) ⟨_,by omega,kb+1,rfl,rfl,by omega,dR Oy wM (decide_eq_false (by omega)),hs⟩)));have hs:=((hs.drop)).drop;refine⟨vb ?_,hs.aF⟩;unfold uD;rw[gU wM (decide_eq_true (by omega))];simp
 ·refine aA pK (aB jC hs.p1.hb rfl ?_);have au6:=DL.flat (dA);refine aI g8 (au6.ext hs.aF) (cP (aC (λ _=>have hs:=((hs.drop)).drop;⟨vb (by grind),hs⟩) (λ vy=>aA nI (aB jC hs.p1.hb rfl ?_))));have au7:=DL.flat (cW);refine aI g8 (au7.ext hs.aF) (cP (aC (λ _=>have hs:=((hs.drop)).drop;⟨vb (by grind),hs⟩) (λ rR=>aA kj (aB ij hs.p1.hb rfl (aI fq (ah4.ext hs.aF) (aQ (aC (λ _=>have hs:=((hs.drop)).drop;⟨vb (by grind),hs⟩) (λ Q6=>aA kj (aB ij hs.p1.hb rfl (aI fq (ah4.ext hs.aF) (cP (aC (λ _=>have hs:=((hs.drop)).drop;⟨vb (by grind),hs⟩) (λ afo=>aA jn (aB qB hs.p1.hb rfl ?_))))))))))))))
  obtain⟨ts36,au8,au9⟩:=(cQ).open;have hn36:=au9.1;exact aI sJ (au8.ext hs.aF) (cP (have hs:=((hs.drop)).drop;⟨vb (by grind),hs⟩))
 rintro _ _ ⟨rfl,hs⟩ _;refine⟨vb ?_,hs.aF⟩;unfold uD;rw[il (by rw[List.take_of_length_le (by omega)]at eD;exact eD),il (by rw[List.take_of_length_le (by omega)]at Oy;exact Oy)];rfl
theorem C57(p:cG)(pv:bO)(w:World)(hp:Deep.dr w pv p)(hz:PZ p):CR 57 [Flat.val pv] w (λ v w'=>∃a:Int,v=.tuple #[.int .i64 (fj p),.int .i64 a]/\Ext w w'):=by
 obtain⟨bJ,bT,bK,aU,aV,bE,rfl,cR,dA,cW,cB,cC,cQ⟩:=hp;have hs:=St.start w;refine agV _ _ _ ?_;unfold S57;refine cI hs (λ j5 w1 hs=>aE ep hs.At (aT alU hs (C118 p _ _ ⟨bJ,bT,bK,aU,aV,bE,rfl,(cR).ext hs.aF,(dA).ext hs.aF,(cW).ext hs.aF,(cB).ext hs.aF,(cC).ext hs.aF,(cQ).ext hs.aF⟩ hz) (λ _ he hs=>bQ (aW (λ jY=>have hs:=(hs).drop;⟨_,congrArg (λ q=>Value.tuple #[.int .i64 q,_]) (ce8 (by simpa using jY)).symm,hs.aF⟩) (λ jY=>?_)))))
 have hrp:j7 p=true:=by simpa using jY
 have hPF:=qj hrp;refine aE ep hs.At (aT alV hs (C119 p _ _ ⟨bJ,bT,bK,aU,aV,bE,rfl,(cR).ext hs.aF,(dA).ext hs.aF,(cW).ext hs.aF,(cB).ext hs.aF,(cC).ext hs.aF,(cQ).ext hs.aF⟩ hz) (λ _ he hs=>aW (λ eQ=>have hs:=(hs).drop;⟨_,congrArg (λ q=>Value.tuple #[.int .i64 q,_]) (ce2 hrp eQ).symm,hs.aF⟩) (λ eQ=>aE ep hs.At ?_)));obtain⟨aoD,ava,aoE⟩:=(cB).open;have hn37:=aoE.1;obtain⟨aoF,avb,aoG⟩:=(cC).open;have hn38:=aoG.1;refine dN aeQ (C120 p _ aoD aoF _ ⟨bJ,bT,bK,aU,aV,bE,rfl,(cR).ext hs.aF,(dA).ext hs.aF,(cW).ext hs.aF,(cB).ext hs.aF,(cC).ext hs.aF,(cQ).ext hs.aF⟩ (ava.ext hs.aF) (avb.ext hs.aF) (by have:=hz.threads;omega) (by have:=hz.recover;omega)) ?_
 rintro x21 _ cO;have hs:=hs.made cO;obtain⟨Ay,LA⟩:∃t,t=aoD++aoF:=⟨_,rfl⟩;rw[<- LA]at hs;have OC:jh Ay (gd p) w:=by rw[LA];exact jh.append aoE aoG
 have au4:=OC.1;have ah5:=C0 hz.toPS;have hs:=hs.p1.p1;refine⟨λ m x w1=>∃k1:Nat,x=.int .i64 (k1:Int)/\m=(gd p).length-k1/\k1<=(gd p).length/\(∀y∈(gd p).take k1,qQ y.body=false)/\St w aY [bG x21 Ay,bY j5 (Flat.enc (⟨bJ,bT,bK,aU,aV,bE⟩:bO))] w1,⟨_,0,rfl,rfl,Nat.zero_le _,by simp,hs⟩,?_⟩;rintro m _ _ ⟨k1,rfl,rfl,Qz,ah6,hs⟩ _;refine aI fq (hs).dX (aQ (aC (λ jw=>?_) (λ jw=>?_)))
 ·obtain⟨qL,fZ⟩:=gx Ay (i:=((k1:Int)).toNat) (by omega);obtain⟨aoC,wM⟩:=gx ((gd p)) (i:=((k1:Int)).toNat) (by omega);obtain⟨Ey,Ez,rfl,EA,EB⟩:=OC.2 _ _ _ fZ wM;refine aO fq (hs).dX (by omega) fZ (λ _ mj=>bW Ez lj mj rfl rfl (λ _ uz=>aE jF (uz) ?_));obtain⟨aoH,SY,tr,htr,ah8,ki,_⟩:=kU (hPF.qE (List.mem_of_getElem? wM)).2.1;have sS:=congrArg List.length htr;rw[Bk.cY]at sS;refine dN Vh (C121 _ tr 1 (tr.len+1) _ (by rw[<- htr];exact(EB.ext hs.aF)) ah8 (λ y hy=>IF (SY y (by rw[htr];exact hy))) (by omega) (by omega) (by omega)) ?_
  rintro _ _ ⟨wa,rfl,hwa,he⟩;have hs:=hs.ext he;exact cS (aC (λ lU=>have hs:=((hs.drop)).drop;⟨_,congrArg (λ q=>Value.tuple #[.int .i64 q,_]) (aoi hrp eQ (gU wM (by rw[htr,ve ah8,<- hwa];exact decide_eq_true lU))).symm,hs.aF⟩) (λ lU=>aK (by omega) (have hs:=hs.p1.p1;⟨_,by omega,k1+1,rfl,rfl,by omega,dR ah6 wM (by rw[htr,ve ah8,<- hwa];exact decide_eq_false lU),hs⟩)))
 rw[List.take_of_length_le (by omega)]at ah6;have h11:(gd p).any (λ t=>qQ t.body)=false:=il ah6;refine aE ep hs.p1.At (dN alW (C122 p _ _ ⟨bJ,bT,bK,aU,aV,bE,rfl,(cR).ext hs.aF,(dA).ext hs.aF,(cW).ext hs.aF,(cB).ext hs.aF,(cC).ext hs.aF,(cQ).ext hs.aF⟩ hz hPF.decl) ?_);rintro _ _ ⟨a_x38,rfl,Xi,he⟩;have hs:=hs.ext he;refine cS (aC (λ wC=>have hs:=((hs.drop)).drop;⟨_,congrArg (λ q=>Value.tuple #[.int .i64 q,_]) (aoj hrp eQ h11 (by rw[<- Xi];exact decide_eq_true wC)).symm,hs.aF⟩) (λ wC=>?_));have h10:j9 (fJ p)=false:=by rw[<- Xi];exact decide_eq_false wC
 have hs:=hs.p1.p1;refine⟨λ m x w1=>∃k2:Nat,x=.int .i64 (k2:Int)/\m=(gd p).length-k2/\k2<=(gd p).length/\(∀y∈(gd p).take k2,uC p y.dL=false)/\St w aY [bG x21 Ay,bY j5 (Flat.enc (⟨bJ,bT,bK,aU,aV,bE⟩:bO))] w1,⟨_,0,rfl,rfl,Nat.zero_le _,by simp,hs⟩,?_⟩;rintro m _ _ ⟨k2,rfl,rfl,vD,Ei,hs⟩ _;refine aI fq (hs).dX (aQ (aC (λ LB=>?_) (λ LB=>?_)))
 ·obtain⟨e_x51,EC⟩:=gx Ay (i:=((k2:Int)).toNat) (by omega);obtain⟨Az,IH⟩:=gx ((gd p)) (i:=((k2:Int)).toNat) (by omega);obtain⟨yX,ah9,rfl,OD,aia⟩:=OC.2 _ _ _ EC IH;have hzt2:=hz.qE (List.mem_of_getElem? IH);refine⟨λ m x w1=>∃k3:Nat,x=.int .i64 (k3:Int)/\m=Az.dL.length-k3/\k3<=Az.dL.length/\(∀j,j<k3->Rn p Az.dL j=false)/\St w aY [bG x21 Ay,bY j5 (Flat.enc (⟨bJ,bT,bK,aU,aV,bE⟩:bO))] w1,⟨_,0,rfl,rfl,Nat.zero_le _,by simp,hs⟩,?_⟩;rintro m _ _ ⟨k3,rfl,rfl,hk3,aoJ,hs⟩ _;refine aO fq (hs).dX (by omega) EC (λ _ aoK=>bW yX fN aoK rfl rfl (λ _ Xj=>aE iZ (Xj) ?_))
  have aib:=DL.flat (OD);refine aI ik (aib.ext hs.aF) (aQ (aC (λ Q6=>?_) (λ _=>aK (by omega) (have hs:=hs.p1.p1;⟨_,by omega,k2+1,rfl,rfl,by omega,dR Ei IH (show uC p Az.dL=false from Lt (λ j _=>aoJ j (by omega))),hs⟩))));refine aO fq (hs).dX (by omega) EC (λ _ aoL=>bW yX fN aoL rfl rfl (λ _ Xk=>aE iZ (Xk) ?_));obtain⟨r9,tK⟩:=gx ((Az).dL) (i:=((k3:Int)).toNat) (by omega);refine aO ik (aib.ext hs.aF) (by omega) tK (λ _ Ej=>aE gj (Ej) ⟨λ jv w'=>jv=.bool (decide (cU Az.dL r9<k3)||decide (0<=cU (cT p) r9)||decide (0<=cU (cL p) r9))/\St w aY [bG x21 Ay,bY j5 (Flat.enc (⟨bJ,bT,bK,aU,aV,bE⟩:bO))] w',?_,?_⟩)
  ·refine aO fq (hs).dX (by omega) EC (λ _ aoM=>bW yX fN aoM rfl rfl (λ _ LC=>?_));exact aE iZ (LC) (aT rD hs (C123 _ (Az).dL _ _ (aib.ext hs.aF) (by have:=mu hz.toPS;have hk:(cL p).length<=500:=(by unfold cL;rw[List.length_map];exact hz.eG);omega)) (λ _ _ hs=>aQ (aC (λ _=>have hs:=hs.p1.p1;⟨vb (by grind),hs⟩) (λ _=>aE ep hs.p1.At (ek J0 hs (C124 p _ _ ⟨bJ,bT,bK,aU,aV,bE,rfl,(cR).ext hs.aF,(dA).ext hs.aF,(cW).ext hs.aF,(cB).ext hs.aF,(cC).ext hs.aF,(cQ).ext hs.aF⟩ hz) (λ _ _ _ hs=>aT rD hs (C123 _ (cT p) _ _ (hs).dX (by have:=mu hz.toPS;have hk:(cL p).length<=500:=(by unfold cL;rw[List.length_map];exact hz.eG);omega)) (λ _ _ hs=>cS (aC (λ _=>have hs:=(hs.drop.p1).p1;⟨vb (by grind),hs⟩) (λ _=>aE ep hs.p2.At (ek QC hs (C125 p _ _ ⟨bJ,bT,bK,aU,aV,bE,rfl,(cR).ext hs.aF,(dA).ext hs.aF,(cW).ext hs.aF,(cB).ext hs.aF,(cC).ext hs.aF,(cQ).ext hs.aF⟩ hz) (λ _ _ _ hs=>aT rD hs (C123 _ (cL p) _ _ (hs).dX (by have:=mu hz.toPS;have hk:(cL p).length<=500:=(by unfold cL;rw[List.length_map];exact hz.eG);omega)) (λ _ _ hs=>cS (have hs:=((((hs.drop)).drop).p1).p1;⟨vb (by grind),hs⟩)))))))))))))
  rintro _ _ ⟨rfl,hs⟩ _;exact aW (λ ED=>aO fq (hs).dX (by omega) EC (λ _ aoN=>bW (Az).at_ pX aoN rfl rfl (λ _ aoO=>have hs:=hs.drew;aE bL (aoO) (have hs:=((hs.drop)).drop;⟨_,congrArg (λ q=>Value.tuple #[.int .i64 q,_]) (afT hrp eQ h11 h10 (gU IH (show uC p Az.dL=true from Lu (j:=k3) (by omega) (by rw[Aw (k:=k3) tK];exact ED)))).symm,hs.aF⟩)))) (λ ED=>aK (by omega) ⟨_,by omega,k3+1,rfl,rfl,by omega,Ro aoJ (by rw[Aw (k:=k3) tK];exact ED),hs⟩)
 rw[List.take_of_length_le (by omega)]at Ei;have aic:(gd p).any (λ t=>uC p t.dL)=false:=il Ei;have hs:=hs.p1.p1;refine⟨λ m x w1=>∃k5:Nat,x=.int .i64 (k5:Int)/\m=(gd p).length-k5/\k5<=(gd p).length/\(∀y∈(gd p).take k5,y.body.any (mU p y.dL)=false)/\St w aY [bG x21 Ay,bY j5 (Flat.enc (⟨bJ,bT,bK,aU,aV,bE⟩:bO))] w1,⟨_,0,rfl,rfl,Nat.zero_le _,by simp,hs⟩,?_⟩;rintro m _ _ ⟨k5,rfl,rfl,hk5,aid,hs⟩ _;refine aI fq (hs).dX (aQ (aC (λ aoP=>?_) (λ aoP=>?_)))
 ·obtain⟨avd,C3⟩:=gx Ay (i:=((k5:Int)).toNat) (by omega);obtain⟨By,AA⟩:=gx ((gd p)) (i:=((k5:Int)).toNat) (by omega);obtain⟨LD,wN,rfl,LF,Cg⟩:=OC.2 _ _ _ C3 AA;have aoQ:=hz.qE (List.mem_of_getElem? AA);have ave:=hPF.qE (List.mem_of_getElem? AA);obtain⟨hb45,aoR,_⟩:=kU ave.2.1;refine⟨λ m x w1=>∃k6:Nat,x=.int .i64 (k6:Int)/\m=By.body.length-k6/\k6<=By.body.length/\(∀y∈By.body.take k6,mU p By.dL y=false)/\St w aY [bG x21 Ay,bY j5 (Flat.enc (⟨bJ,bT,bK,aU,aV,bE⟩:bO))] w1,⟨_,0,rfl,rfl,Nat.zero_le _,by simp,hs⟩,?_⟩
  rintro m _ _ ⟨k6,rfl,rfl,hk6,aie,hs⟩ _;refine aO fq (hs).dX (by omega) C3 (λ _ aif=>bW wN lj aif rfl rfl (λ _ aih=>aE jF (aih) ?_));obtain⟨avf,aoS,aoT⟩:=(Cg).open;have hn40:=aoT.1;refine aI fo (aoS.ext hs.aF) (aQ (aC (λ avg=>?_) (λ _=>aK (by omega) (have hs:=hs.p1.p1;⟨_,by omega,k5+1,rfl,rfl,by omega,dR aid AA (il (by rw[List.take_of_length_le (by omega)]at aie;exact aie)),hs⟩))));have hs:=hs.drew;refine aE ep hs.p1.At (aO fq (hs).dX (by omega) C3 (λ _ OE=>aE mQ (OE) (aO fq (hs).dX (by omega) C3 (λ _ aii=>bW wN lj aii rfl rfl (λ _ aij=>aE jF (aij) ?_)))))
  obtain⟨avh,Rs⟩:=gx avf (i:=((k6:Int)).toNat) (by omega);obtain⟨aik,AB⟩:=gx ((By).body) (i:=((k6:Int)).toNat) (by omega);obtain⟨Xl,Xm,rfl,Xn,Xo⟩:=aoT.2 _ _ _ Rs AB;refine aO fo (aoS.ext hs.aF) (by omega) Rs (λ _ ail=>aE eI (ail) ?_);have hf5:=acA (aoR _ (List.mem_of_getElem? AB));refine dN alX (C126 p _ By _ aik _ _ ⟨bJ,bT,bK,aU,aV,bE,rfl,(cR).ext hs.aF,(dA).ext hs.aF,(cW).ext hs.aF,(cB).ext hs.aF,(cC).ext hs.aF,(cQ).ext hs.aF⟩ ⟨LD,wN,rfl,(LF).ext hs.aF,(Cg).ext hs.aF⟩ ⟨Xl,Xm,rfl,(Xn).ext hs.aF,(Xo).ext hs.aF⟩ hz aoQ.2.1 (aoQ.1.2.2 _ (List.mem_of_getElem? AB)) hf5) ?_
  rintro _ _ ⟨avi,rfl,Rt,he⟩;have hs:=hs.ext he;exact cS (aC (λ yY=>have hs:=((hs.drop)).drop;⟨_,congrArg (λ q=>Value.tuple #[.int .i64 q,_]) (ce9 hrp eQ h11 h10 aic (gU AA (gU AB (by rw[<- Rt];exact decide_eq_true yY)))).symm,hs.aF⟩) (λ yY=>aK (by omega) ⟨_,by omega,k6+1,rfl,rfl,by omega,dR aie AB (by rw[<- Rt];exact decide_eq_false yY),hs⟩))
 rw[List.take_of_length_le (by omega)]at aid;have h9:(gd p).any (λ t=>t.body.any (mU p t.dL))=false:=il aid;have hs:=hs.drew;refine aE ep hs.p1.At (aE ep hs.p1.At (ek J0 hs (C124 p _ _ ⟨bJ,bT,bK,aU,aV,bE,rfl,(cR).ext hs.aF,(dA).ext hs.aF,(cW).ext hs.aF,(cB).ext hs.aF,(cC).ext hs.aF,(cQ).ext hs.aF⟩ hz) (λ avj _ cO hs=>?_)));refine⟨eZ ep hs.p2.At,?_⟩;refine aT HX hs (C62 p _ _ ⟨bJ,bT,bK,aU,aV,bE,rfl,(cR).ext hs.aF,(dA).ext hs.aF,(cW).ext hs.aF,(cB).ext hs.aF,(cC).ext hs.aF,(cQ).ext hs.aF⟩ hz) (λ _ he hs=>?_)
 have Ew:=mu hz.toPS;have UF:0<=eu p/\eu p<=(cT p).length:=by unfold eu cT g9;rw[List.length_map,List.length_append];omega
 refine jH ik (hs).dX (by omega) (by omega) (λ avk acL=>?_);have hs:=(hs.p1.drop.p1).p1;refine⟨λ m x w1=>∃k7:Nat,x=.int .i64 (k7:Int)/\m=p.dP.length-k7/\k7<=p.dP.length/\(∀y∈p.dP.take k7,oN y.e (gg p)=false)/\St w aY [bG avj (cT p),bY j5 (Flat.enc (⟨bJ,bT,bK,aU,aV,bE⟩:bO))] w1,⟨_,0,rfl,rfl,Nat.zero_le _,by simp,hs⟩,?_⟩;rintro m _ _ ⟨k7,rfl,rfl,hk7,aim,hs⟩ _;have hzc:=hz.dP;refine aA jn (aB qB hs.p1.hb rfl ?_);obtain⟨avl,aoU,aoV⟩:=(cQ).open;have hn41:=aoV.1;refine aI sJ (aoU.ext hs.aF) (aQ (aC (λ avm=>?_) (λ _=>have hs:=((hs.drop)).drop;⟨_,congrArg (λ q=>Value.tuple #[.int .i64 q,_]) (ce0 hrp eQ h11 h10 aic h9 (il (by rw[List.take_of_length_le (by omega)]at aim;exact aim))).symm,hs.aF⟩)))
 refine aA jn (aB qB hs.p1.hb rfl ?_);obtain⟨avn,Ru⟩:=gx avl (i:=((k7:Int)).toNat) (by omega);obtain⟨avo,AD⟩:=gx ((p).dP) (i:=((k7:Int)).toNat) (by omega);obtain⟨Xp,rfl,Xq⟩:=aoV.2 _ _ _ Ru AD;refine aO sJ (aoU.ext hs.aF) (by omega) Ru (λ _ OF=>bW Xp uZ OF rfl rfl (λ _ ain=>aE jo (ain) ?_));have avp:=DL.flat (Xq);refine dN Vi (C127 _ _ _ _ _ (avp.ext hs.aF) (acL _ (hs).dX) (hz.zc _ (List.mem_of_getElem? AD)).1 (by have:=mu hz.toPS;simp;omega) (Bw (hPF.cl _ (List.mem_of_getElem? AD)).2)) ?_;rintro _ _ ⟨avq,rfl,Rv,he⟩
 have hs:=hs.ext he;exact cS (aC (λ OG=>have hs:=((hs.drop)).drop;⟨_,congrArg (λ q=>Value.tuple #[.int .i64 q,_]) (aok hrp eQ h11 h10 aic h9 (gU AD (by unfold gg;rw[<- Rv];exact decide_eq_true OG))).symm,hs.aF⟩) (λ OG=>aK (by omega) ⟨_,by omega,k7+1,rfl,rfl,by omega,dR aim AD (by unfold gg;rw[<- Rv];exact decide_eq_false OG),hs⟩))
theorem Bk.aoW{x:bN}{a b r:Bk}(h:(Bk.cons x a b r).str){hi lo:Int}(h1:hi=1+x.body)(h2:lo=1):((Bk.cons x a b r).flat.take hi.toNat).drop lo.toNat=a.flat:=by
 obtain⟨g1,g2,_⟩:=h
 have la:=a.cY
 rw[vd _ (a:=1) (n:=a.flat.length) (by omega) (by omega)]
 grind[flat]
theorem Bk.aoX{x:bN}{a b r:Bk}(h:(Bk.cons x a b r).str){hi lo:Int}(h1:hi=1+x.body+x.eo)(h2:lo=1+x.body):((Bk.cons x a b r).flat.take hi.toNat).drop lo.toNat=b.flat:=by
 obtain⟨g1,g2,_⟩:=h
 have la:=a.cY
 have lb:=b.cY
 rw[vd _ (a:=1+a.flat.length) (n:=b.flat.length) (by omega) (by omega)]
 grind[flat]
def yp:Bk->Int
 | .nil=>0
 | .cons x a b r=>(if x.kind=12 then 2+yp a else if x.kind=11 then(if 0<x.eo then 1+yp a+yp b+1 else 1+yp a+yp b)else 1)+yp r
def toT(x:bN)(a:Bk)(at_:Int):Int:=if 0<x.eo then at_+1+yp a+1 else at_+1+yp a
end Go.Proofs.YtpdlpabnlkofmaaGreatDoor
