/-
  What the proof needs, part 4.
-/
import Derived.Test.YtnjcingfdhjfkaaGreatVeM3
set_option linter.all false
namespace Go.Proofs.YtnjcingfdhjfkaaGreat
open Go.Fw
inductive Bk where
 | nil
 | cons (x:cE) (a b r:Bk)
namespace Bk
def flat:Bk→List cE | nil=>[] | cons x a b r=>x::(a.flat++(b.flat++r.flat))
def len:Bk→Nat | nil=>0 | cons _ a b r=>a.len+b.len+r.len+1
def str:Bk→Prop | nil=>True | cons x a b r=>x.body=a.len∧x.fw=b.len∧a.len≤40∧b.len≤40∧a.str∧b.str∧r.str
def BZ (x:cE) (loops:Int):Int:=if x.kind=12 then loops+1 else loops
def D4 (x:cE):Bool:=decide (x.kind=11∨x.kind=12)
def zf (x:cE) (loops:Int):Bool:=decide ((x.body≤0∨x.kind=11∨x.kind=12)∧(x.fw≤0∨x.kind=11)∧(¬ x.kind=13∨¬ loops=0))
def ok:Bk→Int→Bool | nil,_=>true | cons x a b r,n=>zf x n && a.ok (BZ x n) && b.ok (BZ x n) && r.ok n
def depth:Bk→Int | nil=>0 | cons x a b r=>if D4 x then max (max (1+a.depth) (1+b.depth)) r.depth else r.depth
end Bk
theorem Bk.cJ (t:Bk):t.flat.length=t.len:=by
 induction t with
 | nil=>rfl
 | cons x a b r uX wk Fv=>simp only [Bk.flat,Bk.len,List.length_cons,List.length_append,uX,wk,Fv]; omega
theorem Bk.rz (t:Bk):0≤t.depth∧t.depth≤t.len:=by
 induction t with
 | nil=>simp [Bk.depth,Bk.len]
 | cons x a b r uX wk Fv=>
  unfold Bk.depth Bk.len
  split <;> omega
def Ti:Nat→List cE→Option Bk
 | _,[]=>some .nil
 | 0,_::_=>none
 | n+1,x::l=>
  if 0≤x.body∧0≤x.fw∧x.body≤40∧x.fw≤40∧x.body+x.fw≤l.length then
   match Ti n (l.take x.body.toNat),Ti n ((l.drop x.body.toNat).take x.fw.toNat),Ti n (l.drop (x.body.toNat+x.fw.toNat)) with
   | some a,some b,some r=>some (.cons x a b r)
   | _,_,_=>none
  else none
theorem xm:∀ n l t,Ti n l=some t→l=t.flat∧t.str
 | _,[],t,h=>by
  have h:some Bk.nil=some t:=by unfold Ti at h; exact h
  cases h; exact ⟨rfl,trivial⟩
 | 0,x::l,t,h=>by cases h
 | n+1,x::l,t,h=>by
  unfold Ti at h
  split at h
  ·rename_i hb
   obtain ⟨h1,h2,h3,h4,h5⟩:=hb
   cases ha:Ti n (l.take x.body.toNat) with
   | none=>rw [ha] at h; cases h
   | some a=>
    cases hb:Ti n ((l.drop x.body.toNat).take x.fw.toNat) with
    | none=>rw [ha,hb] at h; cases h
    | some b=>
     cases hr:Ti n (l.drop (x.body.toNat+x.fw.toNat)) with
     | none=>rw [ha,hb,hr] at h; cases h
     | some r=>
      rw [ha,hb,hr] at h
      cases h
      obtain ⟨a1,a2⟩:=xm n _ _ ha
      obtain ⟨b1,b2⟩:=xm n _ _ hb
      obtain ⟨r1,r2⟩:=xm n _ _ hr
      have la:=congrArg List.length a1
      have lb:=congrArg List.length b1
      rw [Bk.cJ,List.length_take] at la
      rw [Bk.cJ,List.length_take,List.length_drop] at lb
      refine ⟨?_,by omega,by omega,by omega,by omega,a2,b2,r2⟩
      unfold Bk.flat
      rw [← a1,← b1,← r1,← List.drop_drop,List.take_append_drop,List.take_append_drop]
  ·cases h
theorem U8 (t:Bk):t.str→∀ n,t.len≤n→Ti n t.flat=some t:=by
 induction t with
 | nil=>intro _ n _; cases n <;> rfl
 | cons x a b r uX wk Fv=>
  intro h n hn
  obtain ⟨h1,h2,h3,h4,ha,hb,hr⟩:=h
  cases n with
  | zero=>simp [Bk.len] at hn
  | succ n=>
   have hn:a.len+b.len+r.len≤n:=by simp [Bk.len] at hn; omega
   have la:=a.cJ
   have lb:=b.cJ
   unfold Bk.flat Ti
   rw [if_pos ⟨by omega,by omega,by omega,by omega,by simp [la,lb]; omega⟩,show x.body.toNat=a.flat.length from by omega,List.take_left,List.drop_left,show x.fw.toNat=b.flat.length from by omega,List.take_left,← List.drop_drop,List.drop_left,List.drop_left,
    uX ha n (by omega),wk hb n (by omega),Fv hr n (by omega)]
def oe (l:List cE):Option Bk:=Ti l.length l
theorem nw {l:List cE} {t:Bk} (h:oe l=some t):l=t.flat∧t.str:=xm _ _ _ h
theorem oW {t:Bk} (h:t.str):oe t.flat=some t:=U8 t h _ (by rw [Bk.cJ]; exact Nat.le_refl _)
def gG (l:List cE) (loops:Int):Int:=match oe l with | some t=>if t.ok loops then t.depth else -1 | none=>-1
theorem GP (loops:Int):gG [] loops=0:=rfl
theorem CL (l:List cE) (loops:Int) : -1≤gG l loops∧gG l loops≤l.length:=by
 unfold gG
 cases h:oe l with
 | none=>simp only []; omega
 | some t=>
  obtain ⟨rfl,_⟩:=nw h
  have:=t.rz
  simp only [Bk.cJ]
  split <;> omega
def zT (x:cE) (l:List cE):Prop:=0≤x.body∧0≤x.fw∧x.body≤40∧x.fw≤40∧x.body+x.fw≤l.length
theorem R6 {x:cE} {l:List cE} {loops:Int} (h:¬ (zT x l∧Bk.zf x loops=true)):gG (x::l) loops = -1:=by
 unfold gG
 cases hb:oe (x::l) with
 | none=>rfl
 | some t=>
  obtain ⟨he,hs⟩:=nw hb
  cases t with
  | nil=>cases he
  | cons y a b r=>
   obtain ⟨rfl,rfl⟩:=List.cons.inj he
   obtain ⟨h1,h2,h3,h4,_⟩:=hs
   have:Bk.zf x loops=false:=by
    cases hk:Bk.zf x loops with
    | false=>rfl
    | true=>exact absurd ⟨⟨by omega,by omega,by omega,by omega,by simp [Bk.cJ]; omega⟩,hk⟩ h
   have h:(Bk.cons x a b r).ok loops=false:=by unfold Bk.ok; rw [this]; rfl
   simp only [h]; rfl
theorem D5 {x:cE} {l:List cE} {loops:Int} (h:zT x l) (ho:Bk.zf x loops=true) :
  gG (x::l) loops=(let A:=gG (l.take x.body.toNat) (Bk.BZ x loops); let B:=gG ((l.drop x.body.toNat).take x.fw.toNat) (Bk.BZ x loops); let R:=gG (l.drop (x.body.toNat+x.fw.toNat)) loops
   if A<0∨B<0∨R<0 then -1 else if Bk.D4 x then max (max (1+A) (1+B)) R else R):=by
 obtain ⟨h1,h2,h3,h4,h5⟩:=h
 have e:l=l.take x.body.toNat++((l.drop x.body.toNat).take x.fw.toNat++l.drop (x.body.toNat+x.fw.toNat)):=by
  rw [← List.drop_drop,List.take_append_drop,List.take_append_drop]
 have la:(l.take x.body.toNat).length=x.body.toNat:=by rw [List.length_take]; omega
 have lb:((l.drop x.body.toNat).take x.fw.toNat).length=x.fw.toNat:=by rw [List.length_take,List.length_drop]; omega
 simp only []
 have key:∀ t,oe (x::l)=some t→∃ a b r,t = .cons x a b r∧oe (l.take x.body.toNat)=some a∧oe ((l.drop x.body.toNat).take x.fw.toNat)=some b∧oe (l.drop (x.body.toNat+x.fw.toNat))=some r:=by
  intro t ht
  obtain ⟨he,hs⟩:=nw ht
  cases t with
  | nil=>cases he
  | cons y a b r=>
   obtain ⟨rfl,hl⟩:=List.cons.inj he
   obtain ⟨g1,g2,_,_,ha,hb,hr⟩:=hs
   have q1:x.body.toNat=a.flat.length:=by rw [Bk.cJ]; omega
   have q2:x.fw.toNat=b.flat.length:=by rw [Bk.cJ]; omega
   refine ⟨a,b,r,rfl,?_,?_,?_⟩
   ·rw [hl,q1,List.take_left]; exact oW ha
   ·rw [hl,q1,q2,List.drop_left,List.take_left]; exact oW hb
   ·rw [hl,← List.drop_drop,q1,q2,List.drop_left,List.drop_left]; exact oW hr
 cases ha:oe (l.take x.body.toNat) with
 | none=>
  have:oe (x::l)=none:=by
   cases hh:oe (x::l) with
   | none=>rfl
   | some t=>obtain ⟨a,b,r,_,q,_⟩:=key t hh; rw [ha] at q; cases q
  unfold gG; rw [this,ha]; simp
 | some a=>
  cases hb:oe ((l.drop x.body.toNat).take x.fw.toNat) with
  | none=>
   have:oe (x::l)=none:=by
    cases hh:oe (x::l) with
    | none=>rfl
    | some t=>obtain ⟨a,b,r,_,_,q,_⟩:=key t hh; rw [hb] at q; cases q
   unfold gG; rw [this,hb]; simp
  | some b=>
   cases hr:oe (l.drop (x.body.toNat+x.fw.toNat)) with
   | none=>
    have:oe (x::l)=none:=by
     cases hh:oe (x::l) with
     | none=>rfl
     | some t=>obtain ⟨a,b,r,_,_,_,q⟩:=key t hh; rw [hr] at q; cases q
    unfold gG; rw [this,hr]; simp
   | some r=>
    obtain ⟨a1,a2⟩:=nw ha
    obtain ⟨b1,b2⟩:=nw hb
    obtain ⟨r1,r2⟩:=nw hr
    have hl:x::l=(Bk.cons x a b r).flat:=by unfold Bk.flat; rw [← a1,← b1,← r1,← e]
    rw [a1,Bk.cJ] at la
    rw [b1,Bk.cJ] at lb
    have:oe (x::l)=some (.cons x a b r):=by rw [hl]; exact oW ⟨by omega,by omega,by omega,by omega,a2,b2,r2⟩
    have na:=a.rz
    have nb:=b.rz
    have nr:=r.rz
    unfold gG
    rw [this,ha,hb,hr]
    simp only [Bk.ok,ho,Bool.true_and]
    cases h1:a.ok (Bk.BZ x loops) <;> cases h2:b.ok (Bk.BZ x loops) <;> cases h3:r.ok loops <;> simp [Bk.depth]
    split <;> omega
def wo (n d:Int):Int:=if d<0 then -1 else max n d
theorem U9 {xs l:List cE} {x:cE} {loops n:Int} (h:gG xs loops=wo n (gG (x::l) loops)) (hb:¬ (zT x l∧Bk.zf x loops=true)):gG xs loops = -1:=by
 rw [h,R6 hb]; rfl
theorem ah1 {xs l:List cE} {x:cE} {loops n:Int} (h:gG xs loops=wo n (gG (x::l) loops)) (hs:zT x l) (ho:Bk.zf x loops=true) (hb:Bk.D4 x=true) (A B:Int)
  (hA:A=gG (l.take x.body.toNat) (Bk.BZ x loops)) (hB:B=gG ((l.drop x.body.toNat).take x.fw.toNat) (Bk.BZ x loops)) :
  (A<0∨B<0→gG xs loops = -1)∧(¬ (A<0∨B<0)→gG xs loops=wo (max (max n (1+A)) (1+B)) (gG (l.drop (x.body.toNat+x.fw.toNat)) loops)):=by
 have hR:=CL (l.drop (x.body.toNat+x.fw.toNat)) loops
 rw [h,D5 hs ho]
 simp only [← hA,← hB,hb,if_true]
 unfold wo
 constructor <;> intro h <;> repeat' split
 all_goals omega
theorem aox {xs l:List cE} {x:cE} {loops n:Int} (h:gG xs loops=wo n (gG (x::l) loops)) (hs:zT x l) (ho:Bk.zf x loops=true) (hb:Bk.D4 x=false) :
  gG xs loops=wo n (gG (l.drop (x.body.toNat+x.fw.toNat)) loops):=by
 have h0:x.body=0∧x.fw=0:=by
  unfold Bk.zf at ho
  unfold Bk.D4 at hb
  obtain ⟨h1,h2,_⟩:=hs
  have ho:=of_decide_eq_true ho
  have hb:=of_decide_eq_false hb
  omega
 rw [h,D5 hs ho,h0.1,h0.2]
 have e1:l.take (Int.toNat 0)=[]:=rfl
 have e2:(l.drop (Int.toNat 0)).take (Int.toNat 0)=[]:=rfl
 simp only [hb,e1,e2,GP]
 unfold wo
 repeat' split
 all_goals first | omega | simp_all
theorem drop_cons {α:Type} {xs:List α} {k:Nat} {x:α} (h:xs[k]? = some x):xs.drop k=x::xs.drop (k+1):=by
 obtain ⟨h1,h2⟩:=List.getElem?_eq_some_iff.1 h
 rw [List.drop_eq_getElem_cons h1,h2]
theorem D6 {α:Type} (xs:List α) {a b c n:Nat} (h:b=a+n) (hc:c=a):(xs.take b).drop c=(xs.drop a).take n:=by
 subst h hc; rw [List.drop_take,Nat.add_sub_cancel_left]
def abR:List ByteArray:=[⟨#[]⟩,⟨#[114,101]⟩,⟨#[114,110]⟩,⟨#[110,101]⟩,⟨#[114,110,101,102]⟩,⟨#[110]⟩,⟨#[110]⟩,⟨#[]⟩,⟨#[]⟩,⟨#[110]⟩,⟨#[110]⟩,⟨#[101,98]⟩,⟨#[107,98]⟩,⟨#[]⟩,⟨#[101]⟩]
def ke (k:Int):ByteArray:=if k<1∨14<k then ⟨#[]⟩ else abR.getD k.toNat ⟨#[]⟩
def ej (s:ByteArray) (c:Int):Bool:=(lx s).any λ b=>decide ((b.toNat:Int)=c)
def rA (x:cE):Bool:=
 !(decide (x.kind<1) || decide (14<x.kind) || decide (x.at_<0) || decide (4000<x.at_)) &&
 !((ej (ke x.kind) 114 != j6 x.gM) || (!ej (ke x.kind) 114 && decide (¬ x.gM=⟨#[]⟩)) || (ej (ke x.kind) 110 != j6 x.name) || (!ej (ke x.kind) 110 && decide (¬ x.name=⟨#[]⟩))) &&
 !((ej (ke x.kind) 101 != jG x.e) || (!ej (ke x.kind) 101 && decide (0<x.e.length)) || (ej (ke x.kind) 102 != jG x.f) || (!ej (ke x.kind) 102 && decide (0<x.f.length))) &&
 (if ej (ke x.kind) 107=true then decide (1≤x.n∧x.n≤8) else decide (x.n=0))
def uY (l:List cE):Bool:=decide (l.length≤40) && !l.any (λ x=>!rA x) && decide (0≤gG l 0∧gG l 0≤12)
def uZ (n:Int):Bool:=decide (0≤n∧n≤4000)
def ni (Lc:Int) (c:dH):Bool:=!j6 c.name || decide (c.n<0) || decide (Lc<c.n) || !uZ c.at_
def tc (Lc:Int) (l:List dH):Bool:=!l.any (ni Lc)
def u3 (nb:Bool) (t:dF):Bool:=(nb != j6 t.name) || (!nb && decide (¬ t.name=⟨#[]⟩)) || !uZ t.at_ || !uY t.body
def wq (nb:Bool) (t:dF):Bool:=u3 nb t || t.aK.any (λ s=>!j6 s)
def og (nb:Bool) (l:List dF):Bool:=!l.any (wq nb)
def xn (l:List dH):Bool:=decide ((l.length:Int)=0) || !tc 4294967296 l
def uf (c:jE):Bool:=!uZ c.at_ || !jG c.e
def mg (p:cO):Bool:=!p.lines.any xn && !p.cB.any uf && (tc 4294967296 p.jX && tc 0 p.locks && og true p.threads && og false p.recover && decide (p.recover.length≤1))
def SzS (x:cE):Prop:=x.gM.size≤1048576∧x.name.size≤1048576∧x.e.length≤1048576∧x.f.length≤1048576∧(∀ y∈x.e,y.name.size≤1048576)∧(∀ y∈x.f,y.name.size≤1048576)
def SzT (t:dF):Prop:=t.name.size≤1048576∧(∀ s∈t.aK,s.size≤1048576)∧(∀ x∈t.body,SzS x)
structure PZ (p:cO):Prop extends PS p where
 zl:∀ l∈p.lines,∀ c∈l,c.name.size≤1048576
 zv:∀ c∈p.jX,c.name.size≤1048576
 zk:∀ c∈p.locks,c.name.size≤1048576
 zt:∀ t∈p.threads,SzT t
 zr:∀ t∈p.recover,SzT t
 zc:∀ c∈p.cB,c.e.length≤1048576∧∀ y∈c.e,y.name.size≤1048576
theorem D7 (k:Int):(ke k).size≤1048576:=by
 unfold ke
 split
 ·decide
 ·rename_i h
  obtain rfl | rfl | rfl | rfl | rfl | rfl | rfl | rfl | rfl | rfl | rfl | rfl | rfl | rfl:k=1∨k=2∨k=3∨k=4∨k=5∨k=6∨k=7∨k=8∨k=9∨k=10∨k=11∨k=12∨k=13∨k=14:=by omega
  all_goals decide
theorem C251 (k:Int) (w:World):CR 251 [.int .i64 k] w (λ v w'=>v = .string (ke k)∧Ext w w'):=by
 have hs:=St.start w;refine aaV _ _ _ ?_;unfold S251;refine ⟨λ jv w'=>jv = .bool (decide (k<1∨14<k))∧w=w',?_,?_⟩
 ·refine aR (aC (λ oB=>?_) (λ oB=>?_))
  ·exact ⟨Pq (by omega),rfl⟩
  ·refine cZ ?_;exact ⟨tD (by omega),rfl⟩
 ·rintro _ w1 ⟨rfl,hw⟩ fu;subst hw;refine aC (λ gi=>?_) (λ gi=>?_)
  ·refine ⟨?_,hs.aE⟩;unfold ke;rw [if_pos gi]
  ·refine bX (abR) hs mZ rfl rfl (eE rfl) (λ aoy w2 hs=>?_);have KW:abR.length=15:=rfl;obtain ⟨Va,rB⟩:=gx (abR) (i:=(k).toNat) (by omega);refine dT hs mZ (by omega) (by omega) (λ _ D8=>ga hs kf D8 rB ?_);refine ⟨?_,hs.aE⟩;unfold ke;rw [if_neg gi,List.getD_eq_getElem?_getD,rB]; rfl
theorem C252 (s:ByteArray) (c:Int) (w:World) (hn:s.size≤1048576):CR 252 [.string s,.int .u8 c] w (λ v w'=>v = .bool (ej s c)∧Ext w w'):=by
 have hs:=St.start w;refine aaW _ _ _ _ ?_;unfold S252;refine ⟨λ m x w1=>∃ k:Nat,x = .int .i64 (k:Int)∧m=(lx s).length - k∧k≤(lx s).length∧(∀ y∈(lx s).take k,decide ((y.toNat:Int)=c)=false)∧St w bD [] w1,⟨_,0,rfl,rfl,Nat.zero_le _,by simp,hs⟩,?_⟩;rintro m _ w1 ⟨k,rfl,rfl,hk,fQ,hs⟩ fu;rw [dX] at hk;have yh:=dX s;refine gh gP (aR (aC (λ gr=>?_) (λ gr=>?_)))
 ·obtain ⟨js,dD⟩:∃ xx,(lx (s))[((k:Int)).toNat]? = some xx:=⟨_,List.getElem?_eq_getElem (by rw [dX]; omega)⟩;refine lS gP (by omega) dD (nY (aC (λ eM=>?_) (λ eM=>?_)))
  ·exact ⟨vb (jF dD (decide_eq_true eM)).symm,hs.aE⟩
  ·refine aN (by omega) ?_;exact ⟨_,by omega,k+1,rfl,rfl,by omega,ew fQ dD (decide_eq_false eM),hs⟩
 ·rw [List.take_of_length_le (by omega)] at fQ;exact ⟨vb (iO fQ).symm,hs.aE⟩
theorem C230 (x:cE) (xv:bV) (w:World) (hx:cD.dr w xv x) (hz:SzS x):CR 230 [Flat.val xv] w (λ v w'=>v = .bool (rA x)∧Ext w w'):=by
 obtain ⟨zU,zV,rfl,Ld,GQ⟩:=hx;have hs:=St.start w;refine aaz _ _ _ ?_;unfold S230;refine dE hs (λ Vb w1 hs=>?_);refine ⟨λ jv w'=>jv = .bool (decide (x.kind<1) || decide (14<x.kind) || decide (x.at_<0) || decide (4000<x.at_))∧St w bD [cC Vb (Flat.enc (⟨(x).kind,(x).gM,(x).name,zU,zV,(x).n,(x).body,(x).fw,(x).at_⟩:bV))] w',?_,?_⟩
 ·refine aA eZ (aB (v:=.int .i64 ((x).kind)) bN hs.hb rfl (aR (aC (λ fB=>?_) (λ fB=>?_))))
  ·exact ⟨vb (by grind),hs⟩
  ·refine aA eZ (aB (v:=.int .i64 ((x).kind)) bN hs.hb rfl (cZ (aC (λ gV=>?_) (λ gV=>?_))))
   ·exact ⟨vb (by grind),hs⟩
   ·refine aA qZ (aB (v:=.int .i64 ((x).at_)) bN hs.hb rfl (aR (aC (λ fi=>?_) (λ fi=>?_))))
    ·exact ⟨vb (by grind),hs⟩
    ·refine aA qZ (aB (v:=.int .i64 ((x).at_)) bN hs.hb rfl (cZ ?_));exact ⟨vb (by grind),hs⟩
 ·rintro _ w2 ⟨rfl,hs⟩ fu;refine aY (λ fH=>?_) (λ fH=>?_)
  ·refine ⟨vb ?_,hs.drop.aE⟩;unfold rA;simp only [*]
   first | done | rfl | simp
  ·refine aA eZ (aB (v:=.int .i64 ((x).kind)) bN hs.hb rfl (aZ anL hs (C251 _ _) (λ w3 he hs=>aZ Ke hs (C252 _ _ _ (D7 _)) (λ w4 he hs=>aZ Ke hs (C252 _ _ _ (D7 _)) (λ w5 he hs=>aZ Ke hs (C252 _ _ _ (D7 _)) (λ w6 he hs=>aZ Ke hs (C252 _ _ _ (D7 _)) (λ w7 he hs=>?_)))))));refine ⟨λ jv w'=>jv = .bool ((ej (ke x.kind) 114 != j6 x.gM) || (!ej (ke x.kind) 114 && decide (¬ x.gM=⟨#[]⟩)) || (ej (ke x.kind) 110 != j6 x.name) || (!ej (ke x.kind) 110 && decide (¬ x.name=⟨#[]⟩)))∧St w bD [cC Vb (Flat.enc (⟨(x).kind,(x).gM,(x).name,zU,zV,(x).n,(x).body,(x).fw,(x).at_⟩:bV))] w',?_,?_⟩
   ·refine aA l6 (aB (v:=.string ((x).gM)) kf hs.hb rfl (aZ tL hs (C161 _ _ hz.1) (λ w8 he hs=>pD Ko (aY (λ kK=>?_) (λ kK=>?_)))))
    ·exact ⟨vb (by grind),hs⟩
    ·refine bZ (aY (λ qA=>?_) (λ qA=>?_))
     ·refine aA l6 (aB (v:=.string ((x).gM)) kf hs.hb rfl (oT (aC (λ zW=>?_) (λ zW=>?_))))
      ·exact ⟨vb (by grind),hs⟩
      ·refine aA jq (aB (v:=.string ((x).name)) kf hs.hb rfl (aZ tL hs (C161 _ _ hz.2.1) (λ w9 he hs=>pD Ko (aY (λ U4=>?_) (λ U4=>?_)))))
       ·exact ⟨vb (by grind),hs⟩
       ·refine bZ (aY (λ GI=>?_) (λ GI=>?_))
        ·refine aA jq (aB (v:=.string ((x).name)) kf hs.hb rfl (oT ?_));exact ⟨vb (by grind),hs⟩
        ·exact ⟨vb (by grind),hs⟩
     ·refine aA jq (aB (v:=.string ((x).name)) kf hs.hb rfl (aZ tL hs (C161 _ _ hz.2.1) (λ qd he hs=>pD Ko (aY (λ IE=>?_) (λ IE=>?_)))))
      ·exact ⟨vb (by grind),hs⟩
      ·refine bZ (aY (λ abS=>?_) (λ abS=>?_))
       ·refine aA jq (aB (v:=.string ((x).name)) kf hs.hb rfl (oT ?_));exact ⟨vb (by grind),hs⟩
       ·exact ⟨vb (by grind),hs⟩
   ·rintro _ tG ⟨rfl,hs⟩ jz;refine aY (λ KZ=>?_) (λ KZ=>?_)
    ·refine ⟨vb ?_,hs.drop.aE⟩;unfold rA;simp only [*]
     first | done | rfl | simp
    ·refine ⟨λ jv w'=>jv = .bool ((ej (ke x.kind) 101 != jG x.e) || (!ej (ke x.kind) 101 && decide (0<x.e.length)) || (ej (ke x.kind) 102 != jG x.f) || (!ej (ke x.kind) 102 && decide (0<x.f.length)))∧St w bD [cC Vb (Flat.enc (⟨(x).kind,(x).gM,(x).name,zU,zV,(x).n,(x).body,(x).fw,(x).at_⟩:bV))] w',?_,?_⟩
     ·refine aA l7 (aB mY hs.hb rfl ?_);have hf4:=DL.flat (Ld);refine aZ J8 hs (C105 _ _ _ (hf4.ext hs.aE) hz.2.2.1 hz.2.2.2.2.1) (λ vt he hs=>pD Ko (aY (λ vu=>?_) (λ vu=>?_)))
      ·exact ⟨vb (by grind),hs⟩
      ·refine bZ (aY (λ Vc=>?_) (λ Vc=>?_))
       ·refine aA l7 (aB mY hs.hb rfl (aJ lZ (hf4.ext hs.aE) (cZ (aC (λ Le=>?_) (λ Le=>?_)))))
        ·exact ⟨vb (by grind),hs⟩
        ·refine aA nT (aB mY hs.hb rfl ?_);have hf5:=DL.flat (GQ);refine aZ J8 hs (C105 _ _ _ (hf5.ext hs.aE) hz.2.2.2.1 hz.2.2.2.2.2) (λ uU he hs=>pD Ko (aY (λ ug=>?_) (λ ug=>?_)))
         ·exact ⟨vb (by grind),hs⟩
         ·refine bZ (aY (λ D9=>?_) (λ D9=>?_))
          ·refine aA nT (aB mY hs.hb rfl (aJ lZ (hf5.ext hs.aE) (cZ ?_)));exact ⟨vb (by grind),hs⟩
          ·exact ⟨vb (by grind),hs⟩
       ·refine aA nT (aB mY hs.hb rfl ?_);have hf6:=DL.flat (GQ);refine aZ J8 hs (C105 _ _ _ (hf6.ext hs.aE) hz.2.2.2.1 hz.2.2.2.2.2) (λ sw he hs=>pD Ko (aY (λ abT=>?_) (λ abT=>?_)))
        ·exact ⟨vb (by grind),hs⟩
        ·refine bZ (aY (λ abU=>?_) (λ abU=>?_))
         ·refine aA nT (aB mY hs.hb rfl (aJ lZ (hf6.ext hs.aE) (cZ ?_)));exact ⟨vb (by grind),hs⟩
         ·exact ⟨vb (by grind),hs⟩
     ·rintro _ wc ⟨rfl,hs⟩ oG;refine aY (λ aoz=>?_) (λ aoz=>?_)
      ·refine ⟨vb ?_,hs.drop.aE⟩;unfold rA;simp only [*]
       first | done | rfl | simp
      ·refine aZ Ke hs (C252 _ _ _ (D7 _)) (λ ze he hs=>aY (λ Bm=>?_) (λ Bm=>?_))
       ·refine ⟨λ jv w'=>jv = .bool (decide (1≤x.n∧x.n≤8))∧St w bD [cC Vb (Flat.enc (⟨(x).kind,(x).gM,(x).name,zU,zV,(x).n,(x).body,(x).fw,(x).at_⟩:bV))] w',?_,?_⟩
        ·refine aA qY (aB (v:=.int .i64 ((x).n)) bN hs.hb rfl (dI (aC (λ ah4=>?_) (λ ah4=>?_))))
         ·refine aA qY (aB (v:=.int .i64 ((x).n)) bN hs.hb rfl (jL ?_));exact ⟨vb (by grind),hs⟩
         ·exact ⟨vb (by grind),hs⟩
        ·rintro _ Cn ⟨rfl,hs⟩ GR;refine ⟨vb ?_,hs.drop.aE⟩;unfold rA;simp only [*]
         first | done | rfl | simp
       ·refine aA qY (aB (v:=.int .i64 ((x).n)) bN hs.hb rfl (aH ?_));refine ⟨vb ?_,hs.drop.aE⟩;unfold rA;simp only [*]
        first | done | rfl | simp
theorem C231 (lv:Value) (xs:List cE) (loops:Int) (N:Nat) (w:World) (hL:DL w lv xs) (hn:xs.length≤1048576) (hlo:0≤loops) (NB:loops+N≤4194304) (hN:xs.length<N):CR 231 [lv,.int .i64 loops] w (λ v w'=>v = .int .i64 (gG xs loops)∧Ext w w'):=by
 have hs:=St.start w;refine aaA _ _ _ _ ?_;unfold S231;refine ⟨λ m y x w1=>∃ (k:Nat) (n:Int),y = .int .i64 n∧x = .int .i64 (k:Int)∧m=xs.length - k∧k≤xs.length∧0≤n∧n≤41∧gG xs loops=wo n (gG (xs.drop k) loops)∧St w bD [] w1,⟨_,0,0,rfl,rfl,rfl,by omega,by omega,by omega,by have:=CL xs loops; rw [List.drop_zero]; unfold wo; split <;> omega,hs⟩,?_⟩;rintro m _ _ w1 ⟨k,n,rfl,rfl,rfl,hk,hn0,Th,hinv,hs⟩ fu;obtain ⟨ts7,hR7,hD7⟩:=(hL).open;have hn7:=hD7.1;refine aJ jj (hR7.ext hs.aE) (aR (aC (λ jQ=>?_) (λ jQ=>?_)))
 ·obtain ⟨rn,jt⟩:=gx ts7 (i:=((k:Int)).toNat) (by omega);obtain ⟨cK,Vd⟩:=gx (xs) (i:=((k:Int)).toNat) (by omega);obtain ⟨u4,u5,rfl,asL,asM⟩:=hD7.2 _ _ _ jt Vd;refine aQ jj (hR7.ext hs.aE) (by omega) jt (λ _ wj=>?_);have hdk:=drop_cons (xs:=xs) (k:=k) Vd;rw [hdk] at hinv;have hdl:(xs.drop (k+1)).length=xs.length - (k+1):=List.length_drop;refine aD fO (wj) (aO hs pn (λ Bn w2 hs=>aI (x:=(⟨(cK).kind,(cK).gM,(cK).name,u4,u5,(cK).n,(cK).body,(cK).fw,(cK).at_⟩:bV)) hs fO rfl rfl (λ w3 hs=>?_)));refine ⟨λ jv w'=>jv = .bool (decide (cK.body<0) || decide (cK.fw<0) || decide (40<cK.body) || decide (40<cK.fw) || decide ((xs.length:Int)<k+1+cK.body+cK.fw))∧St w bD [cC Bn (Flat.enc (⟨(cK).kind,(cK).gM,(cK).name,u4,u5,(cK).n,(cK).body,(cK).fw,(cK).at_⟩:bV))] w',?_,?_⟩
  ·refine aA l8 (aB (v:=.int .i64 ((cK).body)) bN hs.hb rfl (aR (aC (λ iS=>?_) (λ iS=>?_))))
   ·exact ⟨vb (by grind),hs⟩
   ·refine aA iy (aB (v:=.int .i64 ((cK).fw)) bN hs.hb rfl (aR (aC (λ sC=>?_) (λ sC=>?_))))
    ·exact ⟨vb (by grind),hs⟩
    ·refine aA l8 (aB (v:=.int .i64 ((cK).body)) bN hs.hb rfl (cZ (aC (λ lV=>?_) (λ lV=>?_))))
     ·exact ⟨vb (by grind),hs⟩
     ·refine aA iy (aB (v:=.int .i64 ((cK).fw)) bN hs.hb rfl (cZ (aC (λ lz=>?_) (λ lz=>?_))))
      ·exact ⟨vb (by grind),hs⟩
      ·refine aN (by omega) (aA l8 (aB (v:=.int .i64 ((cK).body)) bN hs.hb rfl (aN (by omega) (aA iy (aB (v:=.int .i64 ((cK).fw)) bN hs.hb rfl (aN (by omega) (aJ jj (hR7.ext hs.aE) (cZ ?_))))))));exact ⟨vb (by grind),hs⟩
  ·rintro _ w4 ⟨rfl,hs⟩ jz;refine aY (λ pP=>?_) (λ pP=>?_)
   ·exact ⟨congrArg (Value.int .i64) (U9 hinv (by unfold zT; grind)).symm,hs.drop.aE⟩
   ·have kJ:zT cK (xs.drop (k+1)):=by unfold zT; grind
    refine ⟨λ jv w'=>jv = .bool (!Bk.zf cK loops)∧St w bD [cC Bn (Flat.enc (⟨(cK).kind,(cK).gM,(cK).name,u4,u5,(cK).n,(cK).body,(cK).fw,(cK).at_⟩:bV))] w',?_,?_⟩
    ·refine aA l8 (aB (v:=.int .i64 ((cK).body)) bN hs.hb rfl (cZ (aC (λ B0=>?_) (λ B0=>?_))))
     ·refine aA eZ (aB (v:=.int .i64 ((cK).kind)) bN hs.hb rfl (cT (aC (λ GS=>?_) (λ GS=>?_))))
      ·refine aA eZ (aB (v:=.int .i64 ((cK).kind)) bN hs.hb rfl (cT (aC (λ qB=>?_) (λ qB=>?_))))
       ·exact ⟨vb (by unfold Bk.zf; grind),hs⟩
       ·refine aA iy (aB (v:=.int .i64 ((cK).fw)) bN hs.hb rfl (cZ (aC (λ oh=>?_) (λ oh=>?_))))
        ·refine aA eZ (aB (v:=.int .i64 ((cK).kind)) bN hs.hb rfl (cT (aC (λ vu=>?_) (λ vu=>?_))))
         ·exact ⟨vb (by unfold Bk.zf; grind),hs⟩
         ·refine aA eZ (aB (v:=.int .i64 ((cK).kind)) bN hs.hb rfl (aH (aC (λ Lf=>?_) (λ Lf=>?_))))
          ·refine aH ?_;exact ⟨vb (by unfold Bk.zf; grind),hs⟩
          ·exact ⟨vb (by unfold Bk.zf; grind),hs⟩
        ·refine aA eZ (aB (v:=.int .i64 ((cK).kind)) bN hs.hb rfl (aH (aC (λ abV=>?_) (λ abV=>?_))))
         ·refine aH ?_;exact ⟨vb (by unfold Bk.zf; grind),hs⟩
         ·exact ⟨vb (by unfold Bk.zf; grind),hs⟩
      ·refine aA iy (aB (v:=.int .i64 ((cK).fw)) bN hs.hb rfl (cZ (aC (λ abW=>?_) (λ abW=>?_))))
       ·refine aA eZ (aB (v:=.int .i64 ((cK).kind)) bN hs.hb rfl (cT (aC (λ abX=>?_) (λ abX=>?_))))
        ·exact ⟨vb (by unfold Bk.zf; grind),hs⟩
        ·refine aA eZ (aB (v:=.int .i64 ((cK).kind)) bN hs.hb rfl (aH (aC (λ abY=>?_) (λ abY=>?_))))
         ·refine aH ?_;exact ⟨vb (by unfold Bk.zf; grind),hs⟩
         ·exact ⟨vb (by unfold Bk.zf; grind),hs⟩
       ·refine aA eZ (aB (v:=.int .i64 ((cK).kind)) bN hs.hb rfl (aH (aC (λ abZ=>?_) (λ abZ=>?_))))
        ·refine aH ?_;exact ⟨vb (by unfold Bk.zf; grind),hs⟩
        ·exact ⟨vb (by unfold Bk.zf; grind),hs⟩
     ·refine aA iy (aB (v:=.int .i64 ((cK).fw)) bN hs.hb rfl (cZ (aC (λ ab0=>?_) (λ ab0=>?_))))
      ·refine aA eZ (aB (v:=.int .i64 ((cK).kind)) bN hs.hb rfl (cT (aC (λ ab1=>?_) (λ ab1=>?_))))
       ·exact ⟨vb (by unfold Bk.zf; grind),hs⟩
       ·refine aA eZ (aB (v:=.int .i64 ((cK).kind)) bN hs.hb rfl (aH (aC (λ ab2=>?_) (λ ab2=>?_))))
        ·refine aH ?_;exact ⟨vb (by unfold Bk.zf; grind),hs⟩
        ·exact ⟨vb (by unfold Bk.zf; grind),hs⟩
      ·refine aA eZ (aB (v:=.int .i64 ((cK).kind)) bN hs.hb rfl (aH (aC (λ ab3=>?_) (λ ab3=>?_))))
       ·refine aH ?_;exact ⟨vb (by unfold Bk.zf; grind),hs⟩
       ·exact ⟨vb (by unfold Bk.zf; grind),hs⟩
    ·rintro _ w5 ⟨rfl,hs⟩ oG;refine aY (λ zX=>?_) (λ zX=>?_)
     ·exact ⟨congrArg (Value.int .i64) (U9 hinv (by grind)).symm,hs.drop.aE⟩
     ·have oF:Bk.zf cK loops=true:=by grind
      have avY:=kJ;unfold zT at avY;refine aN (by omega) (aA l8 (have hs:=hs.drew;aB (v:=.int .i64 ((cK).body)) bN hs.hb rfl (aN (by omega) ?_)));refine ⟨λ jv w'=>jv = .int .i64 (Bk.BZ cK loops)∧St w bD [cC Bn (Flat.enc (⟨(cK).kind,(cK).gM,(cK).name,u4,u5,(cK).n,(cK).body,(cK).fw,(cK).at_⟩:bV))] w',?_,?_⟩
      ·refine aA eZ (aB (v:=.int .i64 ((cK).kind)) bN hs.hb rfl (aH (aC (λ D9=>?_) (λ D9=>?_))))
       ·refine aN (by omega) ?_;exact ⟨congrArg (Value.int .i64) (by unfold Bk.BZ; grind),hs⟩
       ·exact ⟨congrArg (Value.int .i64) (by unfold Bk.BZ; grind),hs⟩
      ·rintro _ w6 ⟨rfl,hs⟩ GR;have vq:loops≤Bk.BZ cK loops∧Bk.BZ cK loops≤loops+1:=by unfold Bk.BZ; split <;> omega
       refine ⟨λ jv w'=>∃ n':Int,jv = .int .i64 n'∧0≤n'∧n'≤41∧gG xs loops=wo n' (gG (xs.drop (k+1+(cK.body.toNat+cK.fw.toNat))) loops)∧St w bD [cC Bn (Flat.enc (⟨(cK).kind,(cK).gM,(cK).name,u4,u5,(cK).n,(cK).body,(cK).fw,(cK).at_⟩:bV))] w',?_,?_⟩
       ·refine ⟨λ jv w'=>jv = .bool (decide (cK.kind=11) || decide (cK.kind=12))∧St w bD [cC Bn (Flat.enc (⟨(cK).kind,(cK).gM,(cK).name,u4,u5,(cK).n,(cK).body,(cK).fw,(cK).at_⟩:bV))] w',?_,?_⟩
        ·refine aA eZ (aB (v:=.int .i64 ((cK).kind)) bN hs.hb rfl (aH (aC (λ Lg=>?_) (λ Lg=>?_))))
         ·exact ⟨vb (by grind),hs⟩
         ·refine aA eZ (aB (v:=.int .i64 ((cK).kind)) bN hs.hb rfl (aH ?_));exact ⟨vb (by grind),hs⟩
        ·rintro _ w7 ⟨rfl,hs⟩ R7;refine aY (λ Ea=>?_) (λ Ea=>?_)
         ·refine aN (by omega) (iJ jj (hR7.ext hs.aE) (by omega) (by omega) (by omega) (λ avZ ab4=>?_));have ab5:=DL.cut ab4 hR7 hD7;refine aA iy (have hs:=hs.drew;aB (v:=.int .i64 ((cK).fw)) bN hs.hb rfl (aN (by omega) (iJ jj (hR7.ext hs.aE) (by omega) (by omega) (by omega) (λ av0 ab6=>?_))));have ab7:=DL.cut ab6 hR7 hD7;have hcA:(((xs).take (((k:Int)+1)+(cK).body).toNat).drop ((k:Int)+1).toNat)=(xs.drop (k+1)).take (cK).body.toNat:=D6 xs (by omega) (by omega);have hcB:(((xs).take ((((k:Int)+1)+(cK).body)+(cK).fw).toNat).drop (((k:Int)+1)+(cK).body).toNat)=((xs.drop (k+1)).drop (cK).body.toNat).take (cK).fw.toNat:=by rw [List.drop_drop]; exact D6 xs (by omega) (by omega)
          have hlA:(((xs).take (((k:Int)+1)+(cK).body).toNat).drop ((k:Int)+1).toNat).length≤xs.length - 1∧(((xs).take (((k:Int)+1)+(cK).body).toNat).drop ((k:Int)+1).toNat).length≤40:=by rw [hcA,List.length_take]; omega
          have hlB:(((xs).take ((((k:Int)+1)+(cK).body)+(cK).fw).toNat).drop (((k:Int)+1)+(cK).body).toNat).length≤xs.length - 1∧(((xs).take ((((k:Int)+1)+(cK).body)+(cK).fw).toNat).drop (((k:Int)+1)+(cK).body).toNat).length≤40:=by rw [hcB,List.length_take,List.length_drop]; omega
          refine aZ T6 hs (C231 _ _ _ (N - 1) _ (ab5.ext hs.aE) (by omega) (by omega) (by omega) (by omega)) (λ w8 he hs=>?_);refine ⟨aG bN (hs.hb.cell rfl),?_⟩;refine eu T6 (C231 _ _ _ (N - 1) _ (ab7.ext hs.aE) (by omega) (by omega) (by omega) (by omega)) ?_;rintro _ w9 ⟨rfl,he⟩;have hs:=hs.ext he;obtain ⟨A,hA⟩:∃ A,A=gG (((xs).take (((k:Int)+1)+(cK).body).toNat).drop ((k:Int)+1).toNat) (Bk.BZ cK loops):=⟨_,rfl⟩;obtain ⟨B,hB⟩:∃ B,B=gG (((xs).take ((((k:Int)+1)+(cK).body)+(cK).fw).toNat).drop (((k:Int)+1)+(cK).body).toNat) (Bk.BZ cK loops):=⟨_,rfl⟩;have hAb:=CL (((xs).take (((k:Int)+1)+(cK).body).toNat).drop ((k:Int)+1).toNat) (Bk.BZ cK loops)
          have hBb:=CL (((xs).take ((((k:Int)+1)+(cK).body)+(cK).fw).toNat).drop (((k:Int)+1)+(cK).body).toNat) (Bk.BZ cK loops);rw [← hA] at hAb;rw [← hB] at hBb;rw [← hA,← hB];have hdb:=ah1 hinv kJ oF (by unfold Bk.D4; grind) A B (by rw [hA,hcA]) (by rw [hB,hcB]);refine ⟨λ jv w'=>jv = .bool (decide (A<0∨B<0))∧St w bD [cC Bn (Flat.enc (⟨(cK).kind,(cK).gM,(cK).name,u4,u5,(cK).n,(cK).body,(cK).fw,(cK).at_⟩:bV))] w',?_,?_⟩
          ·refine aR (aC (λ ah7=>?_) (λ ah7=>?_))
           ·exact ⟨vb (by grind),hs⟩
           ·refine aR ?_;exact ⟨vb (by grind),hs⟩
          ·rintro _ qd ⟨rfl,hs⟩ dd6;refine aY (λ NC=>?_) (λ NC=>?_)
           ·exact ⟨congrArg (Value.int .i64) (hdb.1 (of_decide_eq_true NC)).symm,hs.drop.aE⟩
           ·refine aN (by omega) (aN (by omega) (UG ?_));have aoA:=hdb.2 (of_decide_eq_false NC);rw [List.drop_drop] at aoA;exact ⟨_,rfl,by omega,by omega,aoA,hs⟩
         ·have hdn:=aox hinv kJ oF (by unfold Bk.D4; grind);rw [List.drop_drop] at hdn;exact ⟨_,rfl,hn0,Th,hdn,hs⟩
       ·rintro _ tG ⟨n',rfl,av2,av3,aoB,hs⟩ dd7;refine aA iy (aB (v:=.int .i64 ((cK).fw)) bN hs.hb rfl (aN (by omega) ?_));exact ⟨_,by omega,k+1+((cK).body.toNat+(cK).fw.toNat),n',rfl,congrArg (Value.int .i64) (by omega),rfl,by omega,av2,av3,aoB,hs.drop⟩
 ·rw [List.drop_eq_nil_of_le (by omega),GP] at hinv;exact ⟨congrArg (Value.int .i64) (by rw [hinv]; unfold wo; omega),hs.aE⟩
termination_by N
decreasing_by all_goals omega
theorem C205 (lv:Value) (xs:List cE) (w:World) (hL:DL w lv xs) (hn:xs.length≤1048576) (hz:∀ x∈xs,SzS x):CR 205 [lv] w (λ v w'=>v = .bool (uY xs)∧Ext w w'):=by
 have hs:=St.start w;refine aac _ _ _ ?_;unfold S205;obtain ⟨ts8,hR8,hD8⟩:=(hL).open;have hn8:=hD8.1;refine aJ jj (hR8.ext hs.aE) (cZ (aC (λ iN=>?_) (λ iN=>?_)))
 ·refine ⟨vb ?_,hs.aE⟩;unfold uY;rw [decide_eq_false (by omega)]; rfl
 ·refine ⟨λ m x w1=>∃ k:Nat,x = .int .i64 (k:Int)∧m=xs.length - k∧k≤xs.length∧(∀ y∈xs.take k,(!rA y)=false)∧St w bD [] w1,⟨_,0,rfl,rfl,Nat.zero_le _,by simp,hs⟩,?_⟩;rintro m _ w1 ⟨k,rfl,rfl,hk,fQ,hs⟩ fu;refine aJ jj (hR8.ext hs.aE) (aR (aC (λ gJ=>?_) (λ gJ=>?_)))
  ·obtain ⟨GU,kT⟩:=gx ts8 (i:=((k:Int)).toNat) (by omega);obtain ⟨mG,kU⟩:=gx (xs) (i:=((k:Int)).toNat) (by omega);obtain ⟨ab8,ab9,rfl,aca,acb⟩:=hD8.2 _ _ _ kT kU;refine aQ jj (hR8.ext hs.aE) (by omega) kT (λ _ uc=>aD fO (uc) (aZ anw hs (C230 mG _ _ ⟨ab8,ab9,rfl,(aca).ext hs.aE,(acb).ext hs.aE⟩ (hz _ (List.mem_of_getElem? kU))) (λ w2 he hs=>bZ (aY (λ fi=>?_) (λ fi=>?_)))))
   ·refine ⟨vb ?_,hs.aE⟩;unfold uY;rw [jF kU fi]; simp
   ·refine aN (by omega) ?_;exact ⟨_,by omega,k+1,rfl,rfl,by omega,ew fQ kU fi,hs⟩
  ·refine aZ T6 hs (C231 _ _ _ (xs.length+1) _ (hL.ext hs.aE) (by omega) (by omega) (by omega) (by omega)) (λ w3 he hs=>?_);refine ⟨λ jv w'=>jv = .bool (decide (0≤gG xs 0∧gG xs 0≤12))∧St w bD [] w',?_,?_⟩
   ·refine dI (aC (λ iU=>?_) (λ iU=>?_))
    ·refine jL ?_;exact ⟨vb (by grind),hs⟩
    ·exact ⟨vb (by grind),hs⟩
   ·rintro _ w4 ⟨rfl,hs⟩ jz;rw [List.take_of_length_le (by omega)] at fQ;refine ⟨vb ?_,hs.aE⟩;unfold uY;rw [iO fQ,decide_eq_true (show xs.length≤40 by omega)]; rfl
theorem C156 (n:Int) (w:World):CR 156 [.int .i64 n] w (λ v w'=>v = .bool (uZ n)∧Ext w w'):=by
 have hs:=St.start w;refine Zw _ _ _ ?_;unfold S156;refine ⟨λ jv w'=>jv = .bool (decide (0≤n∧n≤4000))∧w=w',?_,?_⟩
 ·refine dI (aC (λ oB=>?_) (λ oB=>?_))
  ·refine jL ?_;exact ⟨tD (by omega),rfl⟩
  ·exact ⟨jvF (by omega),rfl⟩
 ·rintro _ w1 ⟨rfl,hw⟩ fu;subst hw;exact ⟨rfl,hs.aE⟩
theorem C155 (lv:Value) (xs:List dH) (Lc:Int) (w:World) (hL:eL (λ _=>True) w lv xs) (hn:xs.length≤1048576) (hz:∀ c∈xs,c.name.size≤1048576):CR 155 [lv,.int .i64 Lc] w (λ v w'=>v = .bool (tc Lc xs)∧Ext w w'):=by
 have hs:=St.start w;refine Zv _ _ _ _ ?_;unfold S155;refine ⟨λ m x w1=>∃ k:Nat,x = .int .i64 (k:Int)∧m=xs.length - k∧k≤xs.length∧(∀ y∈xs.take k,ni Lc y=false)∧St w bD [] w1,⟨_,0,rfl,rfl,Nat.zero_le _,by simp,hs⟩,?_⟩;rintro m _ w1 ⟨k,rfl,rfl,hk,fQ,hs⟩ fu;refine aJ j9 (hL.ext hs.aE) (aR (aC (λ gr=>?_) (λ gr=>?_)))
 ·obtain ⟨js,dD⟩:∃ xx,(xs)[((k:Int)).toNat]? = some xx:=⟨_,List.getElem?_eq_getElem (by omega)⟩;refine ⟨λ jv w'=>jv = .bool (ni Lc js)∧St w bD [] w',?_,?_⟩
  ·refine aQ j9 (hL.ext hs.aE) (by omega) dD (λ _ iT=>bT (js).name pI iT rfl rfl (λ _ rk=>aD kf (rk) (aZ tL hs (C161 _ _ (hz _ (List.mem_of_getElem? dD))) (λ w2 he hs=>bZ (aY (λ gj=>?_) (λ gj=>?_))))))
   ·exact ⟨vb (by unfold ni; grind),hs⟩
   ·refine aQ j9 (hL.ext hs.aE) (by omega) dD (λ _ Lh=>bT (js).n zF Lh rfl rfl (λ _ pO=>aD bN (pO) (aR (aC (λ fH=>?_) (λ fH=>?_)))))
    ·exact ⟨vb (by unfold ni; grind),hs⟩
    ·refine aQ j9 (hL.ext hs.aE) (by omega) dD (λ _ od=>bT (js).n zF od rfl rfl (λ _ oH=>aD bN (oH) (cZ (aC (λ gX=>?_) (λ gX=>?_)))))
     ·exact ⟨vb (by unfold ni; grind),hs⟩
     ·refine aQ j9 (hL.ext hs.aE) (by omega) dD (λ _ uh=>bT (js).at_ Dw uh rfl rfl (λ _ U6=>aD bN (U6) (aZ Py hs (C156 _ _) (λ w3 he hs=>bZ ?_))));exact ⟨vb (by unfold ni; grind),hs⟩
  ·rintro _ w4 ⟨rfl,hs⟩ jz;refine aY (λ qA=>?_) (λ qA=>?_)
   ·refine ⟨vb ?_,hs.aE⟩;unfold tc;rw [jF dD qA]; rfl
   ·refine aN (by omega) ?_;exact ⟨_,by omega,k+1,rfl,rfl,by omega,ew fQ dD qA,hs⟩
 ·rw [List.take_of_length_le (by omega)] at fQ;refine ⟨vb ?_,hs.aE⟩;unfold tc;rw [iO fQ]; rfl
theorem C157 (lv:Value) (xs:List dF) (nb:Bool) (w:World) (hL:DL w lv xs) (hn:xs.length≤1048576) (hz:∀ t∈xs,SzT t∧t.aK.length≤500∧t.body.length≤500):CR 157 [lv,.bool nb] w (λ v w'=>v = .bool (og nb xs)∧Ext w w'):=by
 have hs:=St.start w;refine Zx _ _ _ _ ?_;unfold S157;refine ⟨λ m x w1=>∃ k:Nat,x = .int .i64 (k:Int)∧m=xs.length - k∧k≤xs.length∧(∀ y∈xs.take k,wq nb y=false)∧St w bD [] w1,⟨_,0,rfl,rfl,Nat.zero_le _,by simp,hs⟩,?_⟩;rintro m _ w1 ⟨k,rfl,rfl,hk,fQ,hs⟩ fu;obtain ⟨ts9,hR9,hD9⟩:=(hL).open;have hn9:=hD9.1;refine aJ im (hR9.ext hs.aE) (aR (aC (λ fB=>?_) (λ fB=>?_)))
 ·obtain ⟨GU,kT⟩:∃ xx,ts9[((k:Int)).toNat]? = some xx:=⟨_,List.getElem?_eq_getElem (by omega)⟩;obtain ⟨mG,kU⟩:∃ xx,(xs)[((k:Int)).toNat]? = some xx:=⟨_,List.getElem?_eq_getElem (by omega)⟩;obtain ⟨Eb,Ec,rfl,ND,Ed⟩:=hD9.2 _ _ _ kT kU;have JJ:=hz _ (List.mem_of_getElem? kU);refine ⟨λ jv w'=>jv = .bool (u3 nb mG)∧St w bD [] w',?_,?_⟩
  ·refine aQ im (hR9.ext hs.aE) (by omega) kT (λ _ uc=>bT (mG).name zD uc rfl rfl (λ _ KV=>aD kf (KV) (aZ tL hs (C161 _ _ JJ.1.1) (λ w2 he hs=>pD Ko (aY (λ jC=>?_) (λ jC=>?_))))))
   ·exact ⟨vb (by unfold u3; grind),hs⟩
   ·refine bZ (aY (λ iU=>?_) (λ iU=>?_))
    ·refine aQ im (hR9.ext hs.aE) (by omega) kT (λ _ wm=>bT (mG).name zD wm rfl rfl (λ _ wu=>aD kf (wu) (oT (aC (λ mH=>?_) (λ mH=>?_)))))
     ·exact ⟨vb (by unfold u3; grind),hs⟩
     ·refine aQ im (hR9.ext hs.aE) (by omega) kT (λ _ rq=>bT (mG).at_ zE rq rfl rfl (λ _ wv=>aD bN (wv) (aZ Py hs (C156 _ _) (λ w3 he hs=>bZ (aY (λ qz=>?_) (λ qz=>?_))))))
      ·exact ⟨vb (by unfold u3; grind),hs⟩
      ·refine aQ im (hR9.ext hs.aE) (by omega) kT (λ _ Li=>bT Ec nO Li rfl rfl (λ _ Lj=>aD qW (Lj) (aZ aew hs (C205 _ _ _ (Ed.ext hs.aE) (by omega) JJ.1.2.2) (λ w4 he hs=>bZ ?_))));exact ⟨vb (by unfold u3; grind),hs⟩
    ·refine aQ im (hR9.ext hs.aE) (by omega) kT (λ _ ace=>bT (mG).at_ zE ace rfl rfl (λ _ acf=>aD bN (acf) (aZ Py hs (C156 _ _) (λ w5 he hs=>bZ (aY (λ acg=>?_) (λ acg=>?_))))))
     ·exact ⟨vb (by unfold u3; grind),hs⟩
     ·refine aQ im (hR9.ext hs.aE) (by omega) kT (λ _ ach=>bT Ec nO ach rfl rfl (λ _ aci=>aD qW (aci) (aZ aew hs (C205 _ _ _ (Ed.ext hs.aE) (by omega) JJ.1.2.2) (λ w6 he hs=>bZ ?_))));exact ⟨vb (by unfold u3; grind),hs⟩
  ·rintro _ w7 ⟨rfl,hs⟩ jz;refine aY (λ pP=>?_) (λ pP=>?_)
   ·refine ⟨vb ?_,hs.aE⟩;unfold og;rw [jF kU (show wq nb mG=true by unfold wq; rw [pP]; rfl)]; rfl
   ·refine ⟨λ m x w1=>∃ k2:Nat,x = .int .i64 (k2:Int)∧m=mG.aK.length - k2∧k2≤mG.aK.length∧(∀ s∈mG.aK.take k2,(!j6 s)=false)∧St w bD [] w1,⟨_,0,rfl,rfl,Nat.zero_le _,by simp,hs⟩,?_⟩;rintro m _ w8 ⟨k2,rfl,rfl,JF,Ee,hs⟩ oG;refine aQ im (hR9.ext hs.aE) (by omega) kT (λ _ U7=>bT Eb jy U7 rfl rfl (λ _ DV=>aD pF (DV) ?_));have aoC:=DL.flat (ND);refine aJ mZ (aoC.ext hs.aE) (aR (aC (λ rC=>?_) (λ rC=>?_)))
    ·refine aQ im (hR9.ext hs.aE) (by omega) kT (λ _ Lk=>bT Eb jy Lk rfl rfl (λ _ Ef=>aD pF (Ef) ?_));obtain ⟨e_x67,IF⟩:=gx ((mG).aK) (i:=((k2:Int)).toNat) (by omega);refine aQ mZ (aoC.ext hs.aE) (by omega) IF (λ _ aoD=>aD kf (aoD) (aZ tL hs (C161 _ _ (JJ.1.2.1 _ (List.mem_of_getElem? IF))) (λ w9 he hs=>bZ (aY (λ Eg=>?_) (λ Eg=>?_)))))
     ·refine ⟨vb ?_,hs.aE⟩;unfold og;rw [jF kU (show wq nb mG=true by unfold wq; rw [jF IF Eg]; simp)]; rfl
     ·refine aN (by omega) ?_;exact ⟨_,by omega,k2+1,rfl,rfl,by omega,ew Ee IF Eg,hs⟩
    ·refine aN (by omega) ?_;exact ⟨_,by omega,k+1,rfl,rfl,by omega,ew fQ kU (by unfold wq; rw [pP,iO (by rw [List.take_of_length_le (by omega)] at Ee; exact Ee)]; rfl),hs⟩
 ·rw [List.take_of_length_le (by omega)] at fQ;refine ⟨vb ?_,hs.aE⟩;unfold og;rw [iO fQ]; rfl
theorem Bo {l:List cY} (h:jG l=true):∀ y∈l,0≤y.at_:=by
 intro y hy
 unfold jG at h
 have hn:l.any oV=false:=by grind
 rw [List.any_eq_false] at hn
 have:=hn y hy
 unfold oV at this
 grind
structure av5 (x:cE):Prop where
 kind:1≤x.kind∧x.kind≤14
 Tj:0≤x.at_∧x.at_≤4000
 e:(ej (ke x.kind) 101=true∧jG x.e=true)∨(ej (ke x.kind) 101=false∧x.e=[])
 f:(ej (ke x.kind) 102=true∧jG x.f=true)∨(ej (ke x.kind) 102=false∧x.f=[])
 gM:(ej (ke x.kind) 114=true∧j6 x.gM=true)∨(ej (ke x.kind) 114=false∧x.gM=⟨#[]⟩)
 name:(ej (ke x.kind) 110=true∧j6 x.name=true)∨(ej (ke x.kind) 110=false∧x.name=⟨#[]⟩)
 n:(ej (ke x.kind) 107=true∧1≤x.n∧x.n≤8)∨(ej (ke x.kind) 107=false∧x.n=0)
theorem Bp {x:cE} (h:rA x=true):av5 x:=by
 unfold rA at h
 simp only [Bool.and_eq_true,Bool.not_eq_true',Bool.or_eq_false_iff,decide_eq_false_iff_not,bne_eq_false_iff_eq,Bool.and_eq_false_iff,Bool.not_eq_false',Decidable.not_not] at h
 obtain ⟨⟨⟨h1,h2⟩,h3⟩,h4⟩:=h
 constructor
 ·omega
 ·omega
 ·cases hh:ej (ke x.kind) 101 <;> grind
 ·cases hh:ej (ke x.kind) 102 <;> grind
 ·cases hh:ej (ke x.kind) 114 <;> grind
 ·cases hh:ej (ke x.kind) 110 <;> grind
 ·cases hh:ej (ke x.kind) 107 <;> grind
theorem acj {x:cE} (h:rA x=true):0≤x.at_∧(∀ y∈x.e,0≤y.at_)∧(∀ y∈x.f,0≤y.at_):=by
 have h:=Bp h
 refine ⟨h.Tj.1,?_,?_⟩
 ·rcases h.e with h | h
  ·exact Bo h.2
  ·rw [h.2]; simp
 ·rcases h.f with h | h
  ·exact Bo h.2
  ·rw [h.2]; simp
theorem ah8:ej (ke 12) 107=true:=by decide
theorem nD {l:List cE} (h:uY l=true):l.length≤40∧(∀ x∈l,rA x=true)∧∃ t:Bk,l=t.flat∧t.str∧t.ok 0=true∧t.depth≤12:=by
 unfold uY at h
 simp only [Bool.and_eq_true,decide_eq_true_eq,Bool.not_eq_true'] at h
 obtain ⟨⟨h1,h2⟩,h3⟩:=h
 rw [List.any_eq_false] at h2
 refine ⟨h1,λ x hx=>by simpa using h2 x hx,?_⟩
 unfold gG at h3
 cases hb:oe l with
 | none=>rw [hb] at h3; simp only [] at h3; omega
 | some t=>
  rw [hb] at h3
  obtain ⟨g1,g2⟩:=nw hb
  refine ⟨t,g1,g2,?_⟩
  cases ho:t.ok 0 with
  | true=>simp only [ho,if_true] at h3; exact ⟨rfl,h3.2⟩
  | false=>simp [ho] at h3
structure PF (p:cO):Prop where
 lines:∀ l∈p.lines,l≠[]∧∀ c∈l,ni 4294967296 c=false
 jX:∀ c∈p.jX,ni 4294967296 c=false
 locks:∀ c∈p.locks,ni 0 c=false
 th:∀ t∈p.threads,wq true t=false
 rc:∀ t∈p.recover,wq false t=false
 cl:∀ c∈p.cB,0≤c.at_∧jG c.e=true
 one:p.recover.length≤1
theorem wx {p:cO} (h:mg p=true):PF p:=by
 unfold mg tc og at h
 simp only [Bool.and_eq_true,Bool.not_eq_true',List.any_eq_false,decide_eq_true_eq] at h
 obtain ⟨⟨h1,h2⟩,⟨⟨h3,h4⟩,h5⟩,h6⟩:=h
 refine ⟨λ l hl=>?_,λ c hc=>by simpa using h3.1 c hc,λ c hc=>by simpa using h3.2 c hc,λ t ht=>by simpa using h4 t ht,λ t ht=>by simpa using h5 t ht,λ c hc=>?_,h6⟩
 ·have:=h1 l hl
  unfold xn tc at this
  simp only [Bool.or_eq_true,decide_eq_true_eq,not_or,Bool.not_not,List.any_eq_true,not_exists,not_and,Bool.not_eq_true] at this
  exact ⟨λ h=>this.1 (by rw [h]; rfl),this.2⟩
 ·have:=h2 c hc
  unfold uf uZ at this
  simp only [Bool.or_eq_true,Bool.not_eq_true',not_or,Bool.not_eq_false,decide_eq_true_eq,decide_eq_false_iff_not,Decidable.not_not] at this
  exact ⟨this.1.1,by simpa using this.2⟩
theorem yH {nb:Bool} {t:dF} (h:wq nb t=false):0≤t.at_∧uY t.body=true∧(∀ s∈t.aK,j6 s=true)∧j6 t.name=nb:=by
 unfold wq u3 uZ at h
 simp only [Bool.or_eq_false_iff,Bool.not_eq_false',decide_eq_true_eq,List.any_eq_false,bne_eq_false_iff_eq] at h
 obtain ⟨⟨⟨⟨h1,_⟩,h2⟩,h3⟩,h4⟩:=h
 exact ⟨h2.1,h3,λ s hs=>by simpa using h4 s hs,h1.symm⟩
theorem rD {m:Int} {c:dH} (h:ni m c=false):0≤c.at_∧j6 c.name=true∧0≤c.n∧c.n≤m:=by
 unfold ni uZ at h
 simp only [Bool.or_eq_false_iff,Bool.not_eq_false',decide_eq_true_eq,decide_eq_false_iff_not] at h
 exact ⟨by omega,h.1.1.1,by omega,by omega⟩
def iG (p:cO):List dF:=p.threads++p.recover
theorem PF.lB {p:cO} (h:PF p) {t:dF} (ht:t∈iG p):0≤t.at_∧uY t.body=true∧∀ s∈t.aK,j6 s=true:=by
 unfold iG at ht
 rcases List.mem_append.1 ht with ht | ht
 ·have:=yH (h.th t ht); exact ⟨this.1,this.2.1,this.2.2.1⟩
 ·have:=yH (h.rc t ht); exact ⟨this.1,this.2.1,this.2.2.1⟩
def pw (p:cO):List Int:=(gK p).map dH.n
def eo (p:cO):Int:=(p.lines.flatten.length:Int)
theorem Ve (p:cO):((gK p).length:Int) - p.jX.length=eo p:=by unfold gK eo; rw [List.length_append]; omega
def fb (p:cO):List ByteArray:=(gK p).map dH.name
def ie (p:cO):List ByteArray:=p.locks.map dH.name
def iC:List (List dH)→Int→Int→Int
 | [],i,a=>i+a
 | l::r,i,a=>if a<l.length then i else iC r (i+1) (a - l.length)
def mh (p:cO) (c:Int):Int:=if c<0∨(gK p).length≤c then -1 else iC p.lines 0 c
def vv (l:List cY) (ns:List ByteArray):Bool:=l.any λ x=>decide (x.op=2) && decide (dR ns x.name<0)
def sD (x:cE) (n:Int):Int:=if x.kind=12 then n * x.n else n
def oI:Bk→Int→Bool
 | .nil,_=>false
 | .cons x a b r,n=>decide (64<sD x n) || (oI a (sD x n) || oI b (sD x n)) || oI r n
def Bk.app:Bk→Bk→Bk
 | .nil,t=>t
 | .cons x a b r,t=>.cons x a b (r.app t)
theorem Bk.Eh (a b:Bk):(a.app b).flat=a.flat++b.flat:=by
 induction a with
 | nil=>rfl
 | cons x c d r _ _ ih=>simp only [Bk.app,Bk.flat,ih,List.cons_append,List.append_assoc]
theorem Bk.ack {a b:Bk} (ha:a.str) (hb:b.str):(a.app b).str:=by
 induction a with
 | nil=>exact hb
 | cons x c d r _ _ ih=>
  obtain ⟨h1,h2,h3,h4,h5,h6,h7⟩:=ha
  exact ⟨h1,h2,h3,h4,h5,h6,ih h7⟩
theorem R8 (a b:Bk) (n:Int):oI (a.app b) n=(oI a n || oI b n):=by
 induction a with
 | nil=>simp [Bk.app,oI]
 | cons x c d r _ _ ih=>simp only [Bk.app,oI,ih,Bool.or_assoc]
def vw (l:List cE):Bool:=match oe l with | some t=>oI t 1 | none=>false
theorem yI {t:Bk} (h:t.str):vw t.flat=oI t 1:=by unfold vw; rw [oW h]
def jH (p:cO):List dH:=gK p++p.locks++p.threads.map (λ t=>⟨t.name,0,t.at_⟩)
def CM (l:List dH) (j:Nat):Bool:=match l[j]? with | some c=>decide (dR (l.map dH.name) c.name<j) | none=>false
def rE (l:List dH):Bool:=(List.range l.length).any (CM l)
def Ql (p:cO) (rs:List ByteArray) (j:Nat):Bool:=match rs[j]? with | some s=>decide (dR rs s<j) || decide (0≤dR (fb p) s) || decide (0≤dR (ie p) s) | none=>false
def FT (p:cO) (rs:List ByteArray):Bool:=(List.range rs.length).any (Ql p rs)
theorem nf {f:Nat→Bool} {n:Nat} (h:∀ j,j<n→f j=false):(List.range n).any f=false:=by
 rw [List.any_eq_false]; intro j hj; rw [h j (List.mem_range.1 hj)]; simp
theorem rF {f:Nat→Bool} {n j:Nat} (hj:j<n) (h:f j=true):(List.range n).any f=true:=List.any_eq_true.2 ⟨j,List.mem_range.2 hj,h⟩
theorem zY {f:Nat→Bool} {k:Nat} (h:∀ j,j<k→f j=false) (hk:f k=false):∀ j,j<k+1→f j=false:=λ j hj=>by
 rcases Nat.lt_or_ge j k with h1 | h1
 ·exact h j h1
 ·obtain rfl:j=k:=by omega
  exact hk
def om (p:cO) (rs:List ByteArray) (x:cE):Bool:=
 (decide (¬ x.gM=⟨#[]⟩) && decide (dR rs x.gM<0)) ||
 ((decide (x.kind=2) || decide (x.kind=3) || decide (x.kind=4)) && decide (dR (fb p) x.name<0)) ||
 ((decide (x.kind=5) || decide (x.kind=6)) && (decide (dR (fb p) x.name<0) || decide (eo p≤dR (fb p) x.name))) ||
 ((decide (x.kind=9) || decide (x.kind=10)) && decide (dR (ie p) x.name<0)) || vv x.e rs || vv x.f rs
def zZ (p:cO):Bool:=p.lines.any (λ l=>decide (4<(l.length:Int))) || (iG p).any (λ t=>decide (4<(t.aK.length:Int))) ||
 (decide (4<(p.lines.length:Int)) || decide (4<(p.jX.length:Int)) || decide (2<(p.locks.length:Int)) || decide ((p.threads.length:Int)<1) || decide (3<(p.threads.length:Int)) || decide (4<(p.cB.length:Int)))
def oX (p:cO):List ByteArray:=(fb p).take (eo p).toNat
def fV (p:cO):Int:=
 if mg p=false then 8 else if zZ p=true then 2 else if (iG p).any (λ t=>vw t.body)=true then 11 else if rE (jH p)=true then 10
 else if (iG p).any (λ t=>FT p t.aK)=true then 10 else if (iG p).any (λ t=>t.body.any (om p t.aK))=true then 9
 else if p.cB.any (λ c=>vv c.e (oX p))=true then 9 else 0
theorem NF {x:cE} (h:rA x=true):0≤x.at_∧(x.kind=12→1≤x.n∧x.n≤8):=by
 have h:=Bp h
 refine ⟨h.Tj.1,λ hk=>?_⟩
 rcases h.n with h | h
 ·exact h.2
 ·rw [hk,ah8] at h; exact absurd h.1 (by decide)
section
variable {p:cO}
theorem ce8 (h1:mg p=false):fV p=8:=by unfold fV; rw [if_pos h1]
theorem ce2 (h1:mg p=true) (h2:zZ p=true):fV p=2:=by unfold fV; rw [if_neg (by rw [h1]; decide),if_pos h2]
theorem av6 (h1:mg p=true) (h2:zZ p=false) (h3:(iG p).any (λ t=>vw t.body)=true):fV p=11:=by unfold fV; rw [if_neg (by rw [h1]; decide),if_neg (by rw [h2]; decide),if_pos h3]
theorem av7 (h1:mg p=true) (h2:zZ p=false) (h3:(iG p).any (λ t=>vw t.body)=false) (h4:rE (jH p)=true):fV p=10:=by
 unfold fV; rw [if_neg (by rw [h1]; decide),if_neg (by rw [h2]; decide),if_neg (by rw [h3]; decide),if_pos h4]
theorem aoE (h1:mg p=true) (h2:zZ p=false) (h3:(iG p).any (λ t=>vw t.body)=false) (h4:rE (jH p)=false) (h5:(iG p).any (λ t=>FT p t.aK)=true):fV p=10:=by
 unfold fV; rw [if_neg (by rw [h1]; decide),if_neg (by rw [h2]; decide),if_neg (by rw [h3]; decide),if_neg (by rw [h4]; decide),if_pos h5]
theorem ce9 (h1:mg p=true) (h2:zZ p=false) (h3:(iG p).any (λ t=>vw t.body)=false) (h4:rE (jH p)=false) (h5:(iG p).any (λ t=>FT p t.aK)=false)
  (h6:(iG p).any (λ t=>t.body.any (om p t.aK))=true):fV p=9:=by
 unfold fV; rw [if_neg (by rw [h1]; decide),if_neg (by rw [h2]; decide),if_neg (by rw [h3]; decide),if_neg (by rw [h4]; decide),if_neg (by rw [h5]; decide),if_pos h6]
theorem av8 (h1:mg p=true) (h2:zZ p=false) (h3:(iG p).any (λ t=>vw t.body)=false) (h4:rE (jH p)=false) (h5:(iG p).any (λ t=>FT p t.aK)=false)
  (h6:(iG p).any (λ t=>t.body.any (om p t.aK))=false) (h7:p.cB.any (λ c=>vv c.e (oX p))=true):fV p=9:=by
 unfold fV; rw [if_neg (by rw [h1]; decide),if_neg (by rw [h2]; decide),if_neg (by rw [h3]; decide),if_neg (by rw [h4]; decide),if_neg (by rw [h5]; decide),if_neg (by rw [h6]; decide),if_pos h7]
theorem ce0 (h1:mg p=true) (h2:zZ p=false) (h3:(iG p).any (λ t=>vw t.body)=false) (h4:rE (jH p)=false) (h5:(iG p).any (λ t=>FT p t.aK)=false)
  (h6:(iG p).any (λ t=>t.body.any (om p t.aK))=false) (h7:p.cB.any (λ c=>vv c.e (oX p))=false):fV p=0:=by
 unfold fV; rw [if_neg (by rw [h1]; decide),if_neg (by rw [h2]; decide),if_neg (by rw [h3]; decide),if_neg (by rw [h4]; decide),if_neg (by rw [h5]; decide),if_neg (by rw [h6]; decide),if_neg (by rw [h7]; decide)]
theorem PF.decl (h:PF p):∀ c∈jH p,0≤c.at_:=by
 intro c hc
 unfold jH gK at hc
 rcases List.mem_append.1 hc with hc | hc
 ·rcases List.mem_append.1 hc with hc | hc
  ·rcases List.mem_append.1 hc with hc | hc
   ·obtain ⟨l,hl,hc⟩:=List.mem_flatten.1 hc
    exact (rD ((h.lines l hl).2 c hc)).1
   ·exact (rD (h.jX c hc)).1
  ·exact (rD (h.locks c hc)).1
 ·obtain ⟨t,ht,rfl⟩:=List.mem_map.1 hc
  exact (yH (h.th t ht)).1
theorem R9 (hz:PS p):(jH p).length≤252000:=by
 have:=nd hz
 have:=hz.locks
 have:=hz.threads
 unfold jH; simp only [List.length_append,List.length_map]; omega
theorem mi (hz:PS p):(fb p).length≤250500:=by unfold fb; rw [List.length_map]; exact nd hz
theorem Qm (hz:PS p):(iG p).length≤1000:=by
 have:=hz.threads
 have:=hz.recover
 unfold iG; rw [List.length_append]; omega
theorem PZ.lB (hz:PZ p) {t:dF} (ht:t∈iG p):SzT t∧t.aK.length≤500∧t.body.length≤500:=by
 refine ⟨?_,hz.aK t ht,hz.body t ht⟩
 rcases List.mem_append.1 ht with h | h
 ·exact hz.zt t h
 ·exact hz.zr t h
end
theorem C93 (p:cO) (pv:bK) (w:World) (hp:cD.dr w pv p) (hz:PZ p):CR 93 [Flat.val pv] w (λ v w'=>v = .bool (mg p)∧Ext w w'):=by
 obtain ⟨bE,bP,bF,aS,aT,aX,rfl,cH,cU,cI,bR,bO,bY⟩:=hp;have hs:=St.start w;refine ahw _ _ _ ?_;unfold S93;refine dE hs (λ kI w1 hs=>?_);refine ⟨λ m x w1=>∃ k:Nat,x = .int .i64 (k:Int)∧m=p.lines.length - k∧k≤p.lines.length∧(∀ y∈p.lines.take k,xn y=false)∧St w bD [cC kI (Flat.enc (⟨bE,bP,bF,aS,aT,aX⟩:bK))] w1,⟨_,0,rfl,rfl,Nat.zero_le _,by simp,hs⟩,?_⟩;rintro m _ w2 ⟨k,rfl,rfl,hk,fQ,hs⟩ fu;have hzl:=hz.lines;refine aA jx (aB r8 hs.hb rfl ?_);obtain ⟨av9,ah9,aoF⟩:=(cH).open
 have aia:=aoF.1;refine aJ vE (ah9.ext hs.aE) (aR (aC (λ gr=>?_) (λ gr=>?_)))
 ·obtain ⟨pN,jY⟩:∃ xx,av9[((k:Int)).toNat]? = some xx:=⟨_,List.getElem?_eq_getElem (by omega)⟩;obtain ⟨mI,oY⟩:∃ xx,((p).lines)[((k:Int)).toNat]? = some xx:=⟨_,List.getElem?_eq_getElem (by omega)⟩;have aoG:DL w (Flat.val pN) mI:=aoF.2 _ _ _ jY oY;refine ⟨λ jv w'=>jv = .bool (xn mI)∧St w bD [cC kI (Flat.enc (⟨bE,bP,bF,aS,aT,aX⟩:bK))] w',?_,?_⟩
  ·refine aA jx (aB r8 hs.hb rfl (aQ vE (ah9.ext hs.aE) (by omega) jY (λ _ rk=>aD jD (rk) ?_)));have aoH:=DL.flat (aoG);refine aJ j9 (aoH.ext hs.aE) (aH (aC (λ gj=>?_) (λ gj=>?_)))
   ·exact ⟨vb (by unfold xn; grind),hs⟩
   ·refine aA jx (aB r8 hs.hb rfl (aQ vE (ah9.ext hs.aE) (by omega) jY (λ _ pO=>aD jD (pO) (aZ T1 hs (C155 _ _ _ _ (aoH.ext hs.aE) (by have:=hz.line _ (List.mem_of_getElem? oY); omega) (hz.zl _ (List.mem_of_getElem? oY))) (λ w3 he hs=>bZ ?_)))));exact ⟨vb (by unfold xn; grind),hs⟩
  ·rintro _ w4 ⟨rfl,hs⟩ jz;refine aY (λ gn=>?_) (λ gn=>?_)
   ·refine ⟨vb ?_,hs.drop.aE⟩;unfold mg;rw [jF oY gn]; rfl
   ·refine aN (by omega) ?_;exact ⟨_,by omega,k+1,rfl,rfl,by omega,ew fQ oY gn,hs⟩
 ·have aoI:=fQ;refine ⟨λ m x w1=>∃ kb:Nat,x = .int .i64 (kb:Int)∧m=p.cB.length - kb∧kb≤p.cB.length∧(∀ y∈p.cB.take kb,uf y=false)∧St w bD [cC kI (Flat.enc (⟨bE,bP,bF,aS,aT,aX⟩:bK))] w1,⟨_,0,rfl,rfl,Nat.zero_le _,by simp,hs⟩,?_⟩;rintro m _ w5 ⟨kb,rfl,rfl,hkb,NG,hs⟩ oG;have hzc:=hz.cB;refine aA kR (aB sY hs.hb rfl ?_);obtain ⟨awa,aib,aoJ⟩:=(bY).open;have hn13:=aoJ.1;refine aJ yB (aib.ext hs.aE) (aR (aC (λ kx=>?_) (λ kx=>?_)))
  ·obtain ⟨Ll,Bq⟩:∃ xx,awa[((kb:Int)).toNat]? = some xx:=⟨_,List.getElem?_eq_getElem (by omega)⟩;obtain ⟨ae6,Ei⟩:∃ xx,((p).cB)[((kb:Int)).toNat]? = some xx:=⟨_,List.getElem?_eq_getElem (by omega)⟩;obtain ⟨acm,rfl,acn⟩:=aoJ.2 _ _ _ Bq Ei;refine ⟨λ jv w'=>jv = .bool (uf ae6)∧St w bD [cC kI (Flat.enc (⟨bE,bP,bF,aS,aT,aX⟩:bK))] w',?_,?_⟩
   ·refine aA kR (aB sY hs.hb rfl (aQ yB (aib.ext hs.aE) (by omega) Bq (λ _ Ej=>bT (ae6).at_ PW Ej rfl rfl (λ _ uh=>aD bN (uh) (aZ Py hs (C156 _ _) (λ w6 he hs=>bZ (aY (λ mJ=>?_) (λ mJ=>?_))))))))
    ·exact ⟨vb (by unfold uf; grind),hs⟩
    ·refine aA kR (aB sY hs.hb rfl (aQ yB (aib.ext hs.aE) (by omega) Bq (λ _ D3=>bT acm CI D3 rfl rfl (λ _ Lb=>aD mY (Lb) ?_))));have awb:=DL.flat (acn);refine aZ J8 hs (C105 _ _ _ (awb.ext hs.aE) (hz.zc _ (List.mem_of_getElem? Ei)).1 (hz.zc _ (List.mem_of_getElem? Ei)).2) (λ w7 he hs=>bZ ?_);exact ⟨vb (by unfold uf; grind),hs⟩
   ·rintro _ w8 ⟨rfl,hs⟩ GR;refine aY (λ sE=>?_) (λ sE=>?_)
    ·refine ⟨vb ?_,hs.drop.aE⟩;unfold mg;rw [jF Ei sE]; simp
    ·refine aN (by omega) ?_;exact ⟨_,by omega,kb+1,rfl,rfl,by omega,ew NG Ei sE,hs⟩
  ·refine ⟨λ jv w'=>jv = .bool (tc 4294967296 p.jX && tc 0 p.locks && og true p.threads && og false p.recover && decide (p.recover.length≤1))∧St w bD [cC kI (Flat.enc (⟨bE,bP,bF,aS,aT,aX⟩:bK))] w',?_,?_⟩
   ·refine aA uO (aB jD hs.hb rfl ?_);have awc:=DL.flat (cU);refine aZ T1 hs (C155 _ _ _ _ (awc.ext hs.aE) (by have:=hz.jX; omega) hz.zv) (λ w9 he hs=>aY (λ Ek=>?_) (λ Ek=>?_))
    ·refine aA sg (aB jD hs.hb rfl ?_);have awd:=DL.flat (cI);refine aZ T1 hs (C155 _ _ _ _ (awd.ext hs.aE) (by have:=hz.locks; omega) hz.zk) (λ qd he hs=>aY (λ aoK=>?_) (λ aoK=>?_))
     ·refine aA lQ (aB iF hs.hb rfl (aZ aep hs (C157 _ _ true _ (bR.ext hs.aE) (by have:=hz.threads; omega) (λ t ht=>hz.lB (List.mem_append_left _ ht))) (λ tG he hs=>aY (λ qC=>?_) (λ qC=>?_))))
      ·refine aA ph (aB iF hs.hb rfl (aZ aep hs (C157 _ _ false _ (bO.ext hs.aE) (by have:=hz.recover; omega) (λ t ht=>hz.lB (List.mem_append_right _ ht))) (λ vt he hs=>aY (λ aoL=>?_) (λ aoL=>?_))))
       ·refine aA ph (aB iF hs.hb rfl ?_);obtain ⟨ts17,awe,awf⟩:=(bO).open;have hn17:=awf.1;refine aJ im (awe.ext hs.aE) (jL ?_);exact ⟨vb (by grind),hs⟩
       ·exact ⟨vb (by grind),hs⟩
      ·exact ⟨vb (by grind),hs⟩
     ·exact ⟨vb (by grind),hs⟩
    ·exact ⟨vb (by grind),hs⟩
   ·rintro _ uU ⟨rfl,hs⟩ R7;refine ⟨vb ?_,hs.drop.aE⟩;unfold mg;rw [iO (by rw [List.take_of_length_le (by omega)] at aoI; exact aoI),iO (by rw [List.take_of_length_le (by omega)] at NG; exact NG)]; rfl
theorem C42 (p:cO) (pv:bK) (w:World) (hp:cD.dr w pv p) (hz:PZ p):CR 42 [Flat.val pv] w (λ v w'=>mc (bL v (pw p)) w w'):=by
 obtain ⟨bE,bP,bF,aS,aT,aX,rfl,cH,cU,cI,bR,bO,bY⟩:=hp;have hs:=St.start w;refine agR _ _ _ ?_;unfold S42;refine dE hs (λ kI w1 hs=>bX (([]:List Int)) hs eg rfl rfl (eE rfl) (λ aco w2 hs=>aD gy hs.p1.At (dG J6 hs (C102 p _ _ ⟨bE,bP,bF,aS,aT,aX,rfl,(cH).ext hs.aE,(cU).ext hs.aE,(cI).ext hs.aE,(bR).ext hs.aE,(bO).ext hs.aE,(bY).ext hs.aE⟩ hz.toPS) (λ x8 w3 cA hs=>?_))));have hs:=hs.p2.p1.p2;refine ⟨λ m y x w1=>∃ k:Nat,x = .int .i64 (k:Int)∧m=(gK p).length - k∧k≤(gK p).length∧St w bD [bL y (((gK p).take k).map dH.n),bL x8 (gK p),cC kI (Flat.enc (⟨bE,bP,bF,aS,aT,aX⟩:bK))] w1,⟨_,0,rfl,rfl,by omega,hs⟩,?_⟩
 rintro m fX _ w4 ⟨k,rfl,rfl,hk,hs⟩ fu;have hac:=nd hz.toPS;have hml:(((gK p).take k).map dH.n).length=k:=by rw [List.length_map,List.length_take]; omega
 refine aJ j9 (hs.p1).fM (aR (aC (λ jB=>?_) (λ jB=>?_)))
 ·obtain ⟨rn,jt⟩:=gx ((gK p)) (i:=((k:Int)).toNat) (by omega);refine dT hs.p1 j9 (by omega) (by omega) (λ _ wj=>nc zF wj (λ _ jR=>nW (rn).n hs.p1 bN jR jt rfl (bX (([(rn).n]:List Int)) hs eg rfl rfl (eE rfl) (λ s_x21 w5 hs=>?_))));have aic:=(hs).fM;refine cP hs.p1 eg aic (by simp <;> omega) (by decide) (λ aoM w6 hs=>have hs:=hs.p1.drop;aN (by omega) ?_);have hs:=hs.p2.p2.p2;exact ⟨_,by omega,k+1,rfl,rfl,by omega,by rw [← iV (k:=k) jt]; exact hs⟩
 ·have hs:=hs.p1.drop.p1.drop;rw [List.take_of_length_le (by omega)] at hs;exact hs.fresh
theorem C46 (p:cO) (pv:bK) (w:World) (hp:cD.dr w pv p) (hz:PZ p):CR 46 [Flat.val pv] w (λ v w'=>mc (bL v (fb p)) w w'):=by
 obtain ⟨bE,bP,bF,aS,aT,aX,rfl,cH,cU,cI,bR,bO,bY⟩:=hp;have hs:=St.start w;refine agW _ _ _ ?_;unfold S46;refine dE hs (λ kI w1 hs=>aD gy hs.At (dG J6 hs (C102 p _ _ ⟨bE,bP,bF,aS,aT,aX,rfl,(cH).ext hs.aE,(cU).ext hs.aE,(cI).ext hs.aE,(bR).ext hs.aE,(bO).ext hs.aE,(bY).ext hs.aE⟩ hz.toPS) (λ x4 w2 cA hs=>dG TX hs (C107 _ _ _ (hs).fM (by have:=nd hz.toPS; omega)) (λ x5 w3 cA hs=>?_))));have hs:=((hs.p1.drop).p1).drop;exact hs.fresh
theorem C99 (p:cO) (pv:bK) (w:World) (hp:cD.dr w pv p) (hz:PZ p):CR 99 [Flat.val pv] w (λ v w'=>mc (bL v (ie p)) w w'):=by
 obtain ⟨bE,bP,bF,aS,aT,aX,rfl,cH,cU,cI,bR,bO,bY⟩:=hp;have hs:=St.start w;refine ahC _ _ _ ?_;unfold S99;refine dE hs (λ kI w1 hs=>aA sg (aB jD hs.hb rfl ?_));have awg:=DL.flat (cI);refine dG TX hs (C107 _ _ _ (awg.ext hs.aE) (by have:=hz.locks; omega)) (λ x5 w2 cA hs=>?_);have hs:=(hs.p1).drop;exact hs.fresh
theorem C41 (p:cO) (pv:bK) (w:World) (hp:cD.dr w pv p) (hz:PZ p):CR 41 [Flat.val pv] w (λ v w'=>v = .int .i64 (eo p)∧Ext w w'):=by
 obtain ⟨bE,bP,bF,aS,aT,aX,rfl,cH,cU,cI,bR,bO,bY⟩:=hp;have hs:=St.start w;refine agQ _ _ _ ?_;unfold S41;refine dE hs (λ kI w1 hs=>have hs:=hs.drew;aD gy hs.At (aA uO (aB jD hs.hb rfl ?_)));have awh:=DL.flat (cU);refine aJ j9 (awh.ext hs.aE) (dG J6 hs (C102 p _ _ ⟨bE,bP,bF,aS,aT,aX,rfl,(cH).ext hs.aE,(cU).ext hs.aE,(cI).ext hs.aE,(bR).ext hs.aE,(bO).ext hs.aE,(bY).ext hs.aE⟩ hz.toPS) (λ x4 w2 cA hs=>?_));refine ⟨aG jD (hs.p1.hb.cell rfl),?_⟩
 refine aJ j9 (hs).fM ?_;have hac:=nd hz.toPS;have hzv:=hz.jX;refine gD (by omega) ?_;have hs:=((hs.drop)).drop;exact ⟨congrArg (Value.int .i64) (Ve p),hs.aE⟩
theorem Vf {l:List dH} {r:List (List dH)} {i a:Int} (h:¬ a<l.length):iC (l::r) i a=iC r (i+1) (a - l.length):=by rw [iC,if_neg h]
theorem aid {x:cE} {n m:Int} (hn:1≤n∧n≤64) (h:x.kind=12→1≤x.n∧x.n≤8) (hm:m=sD x n):1≤m∧m≤512:=by
 rw [hm]; unfold sD
 split
 ·rename_i hk
  have:=h hk
  have h1:=Int.mul_le_mul (a:=1) (b:=1) hn.1 this.1 (by omega) (by omega)
  have h2:=Int.mul_le_mul (c:=64) (d:=8) hn.2 this.2 (by omega) (by omega)
  omega
 ·omega
theorem Bk.z6 {t:Bk} (h:¬ (t.flat.length:Int)=0):∃ x a b r,t = .cons x a b r:=by
 cases t with
 | nil=>exact absurd rfl h
 | cons x a b r=>exact ⟨x,a,b,r,rfl⟩
theorem Bk.vD {x:cE} {a b r:Bk} (h:(Bk.cons x a b r).str) {hi lo:Int} (h1:hi=1+x.body+x.fw) (h2:lo=1):((Bk.cons x a b r).flat.take hi.toNat).drop lo.toNat=(a.app b).flat:=by
 obtain ⟨g1,g2,_⟩:=h
 have la:=a.cJ
 have lb:=b.cJ
 rw [Bk.Eh,D6 _ (a:=1) (n:=(a.flat++b.flat).length) (by rw [List.length_append]; omega) (by omega)]
 show (a.flat++(b.flat++r.flat)).take _=_
 rw [← List.append_assoc,List.take_left]
theorem Bk.Vg {x:cE} {a b r:Bk} (h:(Bk.cons x a b r).str) {hi:Int} (h1:hi=1+x.body+x.fw):(Bk.cons x a b r).flat.drop hi.toNat=r.flat:=by
 obtain ⟨g1,g2,_⟩:=h
 have la:=a.cJ
 have lb:=b.cJ
 have e:(Bk.cons x a b r).flat=(x::(a.flat++b.flat))++r.flat:=by simp [Bk.flat]
 rw [e,show hi.toNat=(x::(a.flat++b.flat)).length from by simp; omega,List.drop_left]
theorem GV {l:List dH} {k:Nat} {c:dH} (h:l[k]? = some c):CM l k=decide (dR (l.map dH.name) c.name<k):=by unfold CM; rw [h]
theorem Qn {p:cO} {l:List ByteArray} {k:Nat} {c:ByteArray} (h:l[k]? = some c):Ql p l k=(decide (dR l c<k) || decide (0≤dR (fb p) c) || decide (0≤dR (ie p) c)):=by unfold Ql; rw [h]
theorem Qo (a b:Bk):(a.app b).len=a.len+b.len:=by rw [← Bk.cJ,Bk.Eh,List.length_append,Bk.cJ,Bk.cJ]
theorem C43 (p:cO) (pv:bK) (c:Int) (w:World) (hp:cD.dr w pv p) (hz:PZ p):CR 43 [Flat.val pv,.int .i64 c] w (λ v w'=>v = .int .i64 (mh p c)∧Ext w w'):=by
 obtain ⟨bE,bP,bF,aS,aT,aX,rfl,cH,cU,cI,bR,bO,bY⟩:=hp;have hs:=St.start w;refine agT _ _ _ _ ?_;unfold S43;refine dE hs (λ NH w1 hs=>?_);refine ⟨λ jv w'=>jv = .bool (decide (c<0) || decide (((gK p).length:Int)≤c))∧St w bD [cC NH (Flat.enc (⟨bE,bP,bF,aS,aT,aX⟩:bK))] w',?_,?_⟩
 ·refine aR (aC (λ gi=>?_) (λ gi=>?_))
  ·exact ⟨vb (by grind),hs⟩
  ·refine aD gy hs.At (dG J6 hs (C102 p _ _ ⟨bE,bP,bF,aS,aT,aX,rfl,(cH).ext hs.aE,(cU).ext hs.aE,(cI).ext hs.aE,(bR).ext hs.aE,(bO).ext hs.aE,(bY).ext hs.aE⟩ hz.toPS) (λ x12 w2 cA hs=>aJ j9 (hs).fM (dI ?_)));have hs:=(hs).drop;exact ⟨vb (by grind),hs⟩
 ·rintro _ w3 ⟨rfl,hs⟩ fu;have hac:=nd hz.toPS;refine aY (λ jQ=>?_) (λ jQ=>?_)
  ·refine ⟨congrArg (Value.int .i64) ?_,hs.drop.aE⟩;unfold mh;rw [if_pos (by grind)]
  ·have YI:0≤c∧c<(gK p).length:=by grind
   refine ⟨λ m y x w1=>∃ (k:Nat) (a:Int),y = .int .i64 a∧x = .int .i64 (k:Int)∧m=p.lines.length - k∧k≤p.lines.length∧0≤a∧a≤c∧iC p.lines 0 c=iC (p.lines.drop k) k a∧St w bD [cC NH (Flat.enc (⟨bE,bP,bF,aS,aT,aX⟩:bK))] w1,⟨_,0,c,rfl,rfl,rfl,by omega,by omega,by omega,rfl,hs⟩,?_⟩;rintro m _ _ w4 ⟨k,a,rfl,rfl,rfl,hk,ha0,hac1,NI,hs⟩ jz;have hzl:=hz.lines;refine aA jx (aB r8 hs.hb rfl ?_);obtain ⟨awj,acp,aoN⟩:=(cH).open;have aoO:=aoN.1;refine aJ vE (acp.ext hs.aE) (aR (aC (λ gz=>?_) (λ gz=>?_)))
   ·refine aA jx (aB r8 hs.hb rfl ?_);obtain ⟨yj,yJ⟩:=gx awj (i:=((k:Int)).toNat) (by omega);obtain ⟨aoP,El⟩:=gx ((p).lines) (i:=((k:Int)).toNat) (by omega);have aoQ:DL w (Flat.val yj) aoP:=aoN.2 _ _ _ yJ El;refine aQ vE (acp.ext hs.aE) (by omega) yJ (λ _ wu=>aD jD (wu) ?_);have aoR:=DL.flat (aoQ);refine aJ j9 (aoR.ext hs.aE) (aR (aC (λ lV=>?_) (λ lV=>?_)))
    ·refine ⟨congrArg (Value.int .i64) ?_,hs.drop.aE⟩;rw [drop_cons (k:=k) El] at NI;unfold mh;rw [if_neg (by omega),NI];unfold iC;rw [if_pos (by omega)]
    ·refine aA jx (aB r8 hs.hb rfl (aQ vE (acp.ext hs.aE) (by omega) yJ (λ _ wv=>aD jD (wv) (aJ j9 (aoR.ext hs.aE) (gD (by omega) (aN (by omega) ?_))))));rw [drop_cons (k:=k) El,Vf (by omega)] at NI;exact ⟨_,by omega,k+1,_,rfl,rfl,rfl,by omega,by omega,by omega,NI,hs⟩
   ·refine aA jx (aB r8 hs.hb rfl (aJ vE (acp.ext hs.aE) (aN (by omega) ?_)));refine ⟨congrArg (Value.int .i64) ?_,hs.drop.aE⟩;rw [List.drop_eq_nil_of_le (by omega)] at NI;unfold mh;rw [if_neg (by omega),NI];unfold iC;omega
theorem C101 (lv nv:Value) (xs:List cY) (ns:List ByteArray) (w:World) (hL:eL (λ _=>True) w lv xs) (hN:eL (λ _=>True) w nv ns) (hn:xs.length≤1048576) (hns:ns.length≤1048576) (td:∀ y∈xs,0≤y.at_):CR 101 [lv,nv] w (λ v w'=>∃ a:Int,v = .int .i64 a∧decide (0≤a)=vv xs ns∧Ext w w'):=by
 have hs:=St.start w;refine YP _ _ _ _ ?_;unfold S101;refine ⟨λ m x w1=>∃ k:Nat,x = .int .i64 (k:Int)∧m=xs.length - k∧k≤xs.length∧(∀ y∈xs.take k,(decide (y.op=2) && decide (dR ns y.name<0))=false)∧St w bD [] w1,⟨_,0,rfl,rfl,Nat.zero_le _,by simp,hs⟩,?_⟩;rintro m _ w1 ⟨k,rfl,rfl,hk,fQ,hs⟩ fu;refine aJ lZ (hL.ext hs.aE) (aR (aC (λ gr=>?_) (λ gr=>?_)))
 ·obtain ⟨js,dD⟩:∃ xx,(xs)[((k:Int)).toNat]? = some xx:=⟨_,List.getElem?_eq_getElem (by omega)⟩;refine ⟨λ jv w'=>jv = .bool (decide (js.op=2) && decide (dR ns js.name<0))∧St w bD [] w',?_,?_⟩
  ·refine aQ lZ (hL.ext hs.aE) (by omega) dD (λ _ iT=>bT (js).op jo iT rfl rfl (λ _ rk=>aD bN (rk) (aH (aC (λ mf=>?_) (λ mf=>?_)))))
   ·refine aQ lZ (hL.ext hs.aE) (by omega) dD (λ _ Lh=>bT (js).name lq Lh rfl rfl (λ _ pO=>aD kf (pO) (aZ A7 hs (C98 _ ns _ _ (hN.ext hs.aE) (by omega)) (λ w2 he hs=>aR ?_))));exact ⟨vb (by grind),hs⟩
   ·exact ⟨vb (by grind),hs⟩
  ·rintro _ w3 ⟨rfl,hs⟩ jz;refine aY (λ gn=>?_) (λ gn=>?_)
   ·refine aQ lZ (hL.ext hs.aE) (by omega) dD (λ _ od=>bT (js).at_ Dx od rfl rfl (λ _ oH=>aD bN (oH) ?_));exact ⟨_,rfl,by unfold vv; rw [jF dD gn]; exact decide_eq_true (td _ (List.mem_of_getElem? dD)),hs.aE⟩
   ·refine aN (by omega) ?_;exact ⟨_,by omega,k+1,rfl,rfl,by omega,ew fQ dD gn,hs⟩
 ·rw [List.take_of_length_le (by omega)] at fQ;exact ⟨_,rfl,by unfold vv; rw [iO fQ]; rfl,hs.aE⟩
theorem C96 (lv:Value) (t:Bk) (n:Int) (N:Nat) (w:World) (hL:DL w lv t.flat) (gb:t.str) (hq:∀ x∈t.flat,0≤x.at_∧(x.kind=12→1≤x.n∧x.n≤8)) (hn:1≤n∧n≤64) (hl:t.len≤1048576) (hN:t.len<N):CR 96 [lv,.int .i64 n] w (λ v w'=>∃ a:Int,v = .int .i64 a∧decide (0≤a)=oI t n∧Ext w w'):=by
 have Bd:=t.cJ;have hs:=St.start w;refine ahz _ _ _ _ ?_;unfold S96;obtain ⟨awk,Sa,acq⟩:=(hL).open;have hn22:=acq.1;refine aJ jj (Sa.ext hs.aE) (aH (aC (λ gJ=>?_) (λ gJ=>?_)))
 ·cases t with
  | nil=>exact ⟨_,rfl,rfl,hs.aE⟩
  | cons x a b r=>exact absurd Bd (by rw [show (Bk.cons x a b r).len=a.len+b.len+r.len+1 from rfl]; omega)
 ·obtain ⟨x,a,b,r,rfl⟩:=Bk.z6 (t:=t) (by omega);obtain ⟨UN,Bl⟩:=gx awk (i:=((0:Int)).toNat) (by omega);obtain ⟨mj,Vh⟩:=gx ((Bk.cons x a b r).flat) (i:=((0:Int)).toNat) (by omega);obtain ⟨Qp,Qq,rfl,asN,asO⟩:=acq.2 _ _ _ Bl Vh;refine aQ jj (Sa.ext hs.aE) (by omega) Bl (λ _ KU=>?_);obtain rfl:mj=x:=(Option.some.inj Vh).symm;have hqx:=hq mj (by simp [Bk.flat]);have FU:=gb;obtain ⟨Em,hg2,hg3,hg4,Qr,Yp,hgr⟩:=FU;have Sb:a.len+b.len+r.len+1≤1048576:=hl;have hNn:a.len+b.len+r.len+1<N:=hN;have Lm:=a.cJ;have NB:=b.cJ;have hlr:=r.cJ
  have NI:(Bk.cons mj a b r).flat.length=a.len+b.len+r.len+1:=Bk.cJ _;refine aD fO (KU) (aO hs pn (λ ui w1 hs=>aI (x:=(⟨(mj).kind,(mj).gM,(mj).name,Qp,Qq,(mj).n,(mj).body,(mj).fw,(mj).at_⟩:bV)) hs fO rfl rfl (λ w2 hs=>?_)));refine ⟨λ jv w'=>∃ m:Int,jv = .int .i64 m∧m=sD mj n∧St w bD [cC ui (Flat.enc (⟨(mj).kind,(mj).gM,(mj).name,Qp,Qq,(mj).n,(mj).body,(mj).fw,(mj).at_⟩:bV))] w',?_,?_⟩
  ·refine aA eZ (aB (v:=.int .i64 ((mj).kind)) bN hs.hb rfl (aH (aC (λ gj=>?_) (λ gj=>?_))))
   ·refine aA qY (aB (v:=.int .i64 ((mj).n)) bN hs.hb rfl (CD (by have uJ:=hqx.2 gj; have h1:=Int.mul_le_mul (a:=1) (b:=1) hn.1 uJ.1 (by omega) (by omega); have h2:=Int.mul_le_mul (c:=64) (d:=8) hn.2 uJ.2 (by omega) (by omega); omega) ?_));exact ⟨_,rfl,by grind [sD],hs⟩
   ·exact ⟨_,rfl,by grind [sD],hs⟩
  ·rintro _ w3 ⟨m,rfl,hm,hs⟩ fu;have hm8:=aid hn hqx.2 hm;refine cZ (aC (λ gQ=>?_) (λ gQ=>?_))
   ·refine aA qZ (aB (v:=.int .i64 ((mj).at_)) bN hs.hb rfl ?_);exact ⟨_,rfl,by unfold oI; rw [← hm,decide_eq_true (show (64:Int)<m by omega)]; exact decide_eq_true hqx.1,hs.drop.aE⟩
   ·refine aA l8 (aB (v:=.int .i64 ((mj).body)) bN hs.hb rfl (aN (by omega) (aA iy (aB (v:=.int .i64 ((mj).fw)) bN hs.hb rfl (aN (by omega) (iJ jj (Sa.ext hs.aE) (by omega) (by omega) (by omega) (λ aoS aif=>?_)))))));have aih:=DL.cut aif Sa acq;refine eu ahE (C96 _ (a.app b) m (N - 1) _ (by have h:=aih.ext hs.aE; rw [Bk.vD gb (by omega) (by omega)] at h; exact h) (Bk.ack Qr Yp) (λ y hy=>hq y (by rw [Bk.Eh] at hy; simp only [Bk.flat,List.mem_cons,List.mem_append]; rcases List.mem_append.1 hy with h | h <;> simp [h])) (by omega) (by rw [Qo]; omega) (by rw [Qo]; omega)) ?_
    rintro _ w4 ⟨a1,rfl,ha1,he⟩;have hs:=hs.ext he;rw [R8] at ha1;refine dI (aC (λ sB=>?_) (λ sB=>?_))
    ·exact ⟨_,rfl,by unfold oI; rw [← hm]; rw [decide_eq_true sB] at ha1; rw [← ha1,decide_eq_true sB]; simp,hs.drop.aE⟩
    ·refine rh jj (Sa.ext hs.aE) (by omega) (by omega) (λ ae8 NJ=>?_);have NK:=DL.KJ NJ Sa acq;refine eu ahE (C96 _ r n (N - 1) _ (by have h:=NK.ext hs.aE; rw [Bk.Vg gb (by omega)] at h; exact h) hgr (λ y hy=>hq y (by simp [Bk.flat,hy])) hn (by omega) (by omega)) ?_;rintro _ w5 ⟨a2,rfl,Yk,he⟩;have hs:=hs.ext he;exact ⟨_,rfl,by unfold oI; rw [← hm]; rw [← ha1,Yk,decide_eq_false (show ¬ (64:Int)<m by omega),decide_eq_false sB]; rfl,hs.drop.aE⟩
termination_by N
decreasing_by all_goals omega
theorem C95 (p:cO) (pv:bK) (ts3 ts4:List ed) (w:World) (hp:cD.dr w pv p) (h3:eL (λ _=>True) w (Flat.val pv.threads) ts3) (h4:eL (λ _=>True) w (Flat.val pv.recover) ts4) (hz3:ts3.length≤500) (hz4:ts4.length≤500):CR 95 [Flat.val pv] w (λ v w'=>mc (bL v (ts3++ts4)) w w'):=by
 obtain ⟨bE,bP,bF,aS,aT,aX,rfl,cH,cU,cI,bR,bO,bY⟩:=hp;have hs:=St.start w;refine ahy _ _ _ ?_;unfold S95;refine dE hs (λ kI w1 hs=>bX (([]:List ed)) hs im rfl rfl (eE rfl) (λ awm w2 hs=>aA lQ (aB iF hs.p1.hb rfl ?_)));have z7:=(h3.ext hs.aE);refine cP hs im z7 (by simp <;> omega) (by decide) (λ Ln w3 hs=>aA ph (aB iF hs.p1.hb rfl ?_));have qe:=(h4.ext hs.aE);refine cP hs im qe (by simp; omega) (by decide) (λ aeZ w4 hs=>?_);have hs:=(hs.p1).drop;exact hs.fresh
theorem C97 (p:cO) (pv:bK) (w:World) (hp:cD.dr w pv p) (hz:PZ p) (td:∀ c∈jH p,0≤c.at_):CR 97 [Flat.val pv] w (λ v w'=>∃ a:Int,v = .int .i64 a∧decide (0≤a)=rE (jH p)∧Ext w w'):=by
 obtain ⟨bE,bP,bF,aS,aT,aX,rfl,cH,cU,cI,bR,bO,bY⟩:=hp;have hs:=St.start w;refine ahA _ _ _ ?_;unfold S97;refine dE hs (λ kI w1 hs=>bX (([]:List dH)) hs j9 rfl rfl (eE rfl) (λ Ln w2 hs=>aD gy hs.p1.At (dG J6 hs (C102 p _ _ ⟨bE,bP,bF,aS,aT,aX,rfl,(cH).ext hs.aE,(cU).ext hs.aE,(cI).ext hs.aE,(bR).ext hs.aE,(bO).ext hs.aE,(bY).ext hs.aE⟩ hz.toPS) (λ x9 w3 cA hs=>?_))));have aii:=(hs).fM;refine cP hs.p1 j9 aii (by simp; have:=nd hz.toPS; omega) (by decide) (λ aoo w4 hs=>have hs:=hs.p1.drop;aA sg (aB jD hs.p1.hb rfl ?_))
 have awn:=DL.flat (cI);have jZ:=(awn.ext hs.aE);refine cP hs j9 jZ (by simp; have:=nd hz.toPS; have:=hz.locks; omega) (by decide) (λ s_x14 w5 hs=>?_);have hs:=hs.p1.p1;refine ⟨λ m y x w1=>∃ k:Nat,x = .int .i64 (k:Int)∧m=p.threads.length - k∧k≤p.threads.length∧St w bD [bL y (gK p++p.locks++(p.threads.take k).map (λ t=>(⟨t.name,0,t.at_⟩:dH))),cC kI (Flat.enc (⟨bE,bP,bF,aS,aT,aX⟩:bK))] w1,⟨_,0,rfl,rfl,by omega,by simpa using hs⟩,?_⟩;rintro m l3 _ w6 ⟨k,rfl,rfl,hk,hs⟩ fu;have JJ:=hz.threads;refine aA lQ (aB iF hs.p1.hb rfl ?_)
 obtain ⟨awo,aij,aoT⟩:=(bR).open;have hn24:=aoT.1;refine aJ im (aij.ext hs.aE) (aR (aC (λ fi=>?_) (λ fi=>?_)))
 ·refine aA lQ (have hs:=hs.drew;aB iF hs.p1.hb rfl ?_);obtain ⟨aoU,Br⟩:=gx awo (i:=((k:Int)).toNat) (by omega);obtain ⟨z8,Bs⟩:=gx ((p).threads) (i:=((k:Int)).toNat) (by omega);obtain ⟨aik,ail,rfl,aim,ain⟩:=aoT.2 _ _ _ Br Bs;refine aQ im (aij.ext hs.aE) (by omega) Br (λ _ ry=>bT (z8).name zD ry rfl rfl (λ _ wm=>aD kf (wm) (aA lQ (aB iF hs.p1.hb rfl (aQ im (aij.ext hs.aE) (by omega) Br (λ _ z9=>bT (z8).at_ zE z9 rfl rfl (λ _ Aa=>aD bN (Aa) (pop (DC _ _) (bX ([(⟨(z8).name,0,(z8).at_⟩:dH)]) hs j9 rfl rfl (eE rfl) (λ ae9 w7 hs=>?_))))))))))
  have aio:=(hs).fM;refine cP hs.p1 j9 aio (by have:=nd hz.toPS; have:=hz.locks; have:=hz.threads; simp; omega) (by decide) (λ aoV w8 hs=>have hs:=hs.p1.drop;aN (by omega) ?_);have hs:=hs.p1.p1;exact ⟨_,by omega,k+1,rfl,rfl,by omega,by rw [← iV (k:=k) Bs,← List.append_assoc]; exact hs⟩
 ·rw [List.take_of_length_le (by omega)] at hs;have hdl:=R9 hz.toPS;have hs:St w bD [bL l3 (jH p),cC kI (Flat.enc (⟨bE,bP,bF,aS,aT,aX⟩:bK))] _:=hs;refine dG TX hs (C107 _ _ _ (hs).fM (by omega)) (λ x39 w9 cA hs=>?_);have hs:=hs.p2.p2.p2;refine ⟨λ m x w1=>∃ k:Nat,x = .int .i64 (k:Int)∧m=(jH p).length - k∧k≤(jH p).length∧(∀ j,j<k→CM (jH p) j=false)∧St w bD [bL x39 ((jH p).map dH.name),bL l3 (jH p),cC kI (Flat.enc (⟨bE,bP,bF,aS,aT,aX⟩:bK))] w1,⟨_,0,rfl,rfl,by omega,by simp,hs⟩,?_⟩
  rintro m _ qd ⟨k,rfl,rfl,hk,fQ,hs⟩ jz;refine aJ j9 (hs.p1).fM (aR (aC (λ ue=>?_) (λ ue=>?_)))
  ·obtain ⟨En,u9⟩:=gx ((jH p)) (i:=((k:Int)).toNat) (by omega);refine dT hs.p1 j9 (by omega) (by omega) (λ _ Eo=>nc pI Eo (λ _ Vi=>nW (En).name hs.p1 kf Vi u9 rfl (aZ A7 hs (C98 _ (((jH p)).map dH.name) _ _ (hs).fM (by rw [List.length_map]; omega)) (λ tG he hs=>aR (aC (λ wy=>?_) (λ wy=>?_))))))
   ·refine dT hs.p1 j9 (by omega) (by omega) (λ _ Ab=>nc Dw Ab (λ _ Ac=>nW (En).at_ hs.p1 bN Ac u9 rfl ?_));have hs:=((((hs.drop)).drop)).drop;exact ⟨_,rfl,by unfold rE; rw [rF (j:=k) (by omega) (by rw [GV (k:=k) u9]; exact decide_eq_true wy)]; exact decide_eq_true (td _ (List.mem_of_getElem? u9)),hs.aE⟩
   ·refine aN (by omega) ?_;exact ⟨_,by omega,k+1,rfl,rfl,by omega,zY fQ (by rw [GV (k:=k) u9]; exact decide_eq_false wy),hs⟩
  ·have hs:=((((hs.drop)).drop)).drop;exact ⟨_,rfl,by unfold rE; rw [nf (λ j hj=>fQ j (by omega))]; rfl,hs.aE⟩
theorem C100 (p:cO) (pv:bK) (t:dF) (tv:ed) (x:cE) (xv:bV) (w:World) (hp:cD.dr w pv p) (ht:cD.dr w tv t) (hx:cD.dr w xv x) (hz:PZ p) (JJ:t.aK.length≤500) (hzx:SzS x) (td:0≤x.at_∧(∀ y∈x.e,0≤y.at_)∧(∀ y∈x.f,0≤y.at_)):CR 100 [Flat.val pv,Flat.val tv,Flat.val xv] w (λ v w'=>∃ a:Int,v = .int .i64 a∧decide (0≤a)=om p t.aK x∧Ext w w'):=by
 obtain ⟨bE,bP,bF,aS,aT,aX,rfl,cH,cU,cI,bR,bO,bY⟩:=hp;obtain ⟨uj,Ad,rfl,Ae,Ep⟩:=ht;obtain ⟨zU,zV,rfl,Ld,GQ⟩:=hx;have Qs:=mi hz.toPS;have KW:(ie p).length≤500:=by unfold ie; rw [List.length_map]; exact hz.locks
 have hs:=St.start w;refine YO _ _ _ _ _ ?_;unfold S100;refine dE hs (λ wz w1 hs=>dE hs (λ aiq w2 hs=>dE hs (λ ui w3 hs=>?_)));refine ⟨λ jv w'=>jv = .bool (decide (¬ x.gM=⟨#[]⟩) && decide (dR t.aK x.gM<0))∧St w bD [cC ui (Flat.enc (⟨(x).kind,(x).gM,(x).name,zU,zV,(x).n,(x).body,(x).fw,(x).at_⟩:bV)),cC aiq (Flat.enc (⟨(t).name,uj,Ad,(t).at_⟩:ed)),cC wz (Flat.enc (⟨bE,bP,bF,aS,aT,aX⟩:bK))] w',?_,?_⟩
 ·refine aA l6 (aB (v:=.string ((x).gM)) kf hs.hb rfl (oT (aC (λ gJ=>?_) (λ gJ=>?_))))
  ·refine aA jy (aB pF hs.p1.hb rfl ?_);have awp:=DL.flat (Ae);refine aA l6 (aB (v:=.string ((x).gM)) kf hs.hb rfl (aZ A7 hs (C98 _ (t).aK _ _ (awp.ext hs.aE) (by omega)) (λ w4 he hs=>aR ?_)));exact ⟨vb (by grind),hs⟩
  ·exact ⟨vb (by grind),hs⟩
 ·rintro _ w5 ⟨rfl,hs⟩ fu;refine aY (λ fi=>?_) (λ fi=>?_)
  ·refine aA qZ (aB (v:=.int .i64 ((x).at_)) bN hs.hb rfl ?_);have hs:=((((hs.drop)).drop)).drop;exact ⟨_,rfl,by rw [decide_eq_true td.1]; unfold om; grind,hs.aE⟩
  ·have hs:=hs.drew;refine aD gy hs.p2.At (aA jq (aB (v:=.string ((x).name)) kf hs.hb rfl (dG TP hs (C46 p _ _ ⟨bE,bP,bF,aS,aT,aX,rfl,(cH).ext hs.aE,(cU).ext hs.aE,(cI).ext hs.aE,(bR).ext hs.aE,(bO).ext hs.aE,(bY).ext hs.aE⟩ hz) (λ x23 w6 cA hs=>?_))));refine ⟨aG kf (hs.p1.hb.cell rfl),?_⟩;refine aZ A7 hs (C98 _ (fb p) _ _ (hs).fM (by omega)) (λ w7 he hs=>?_);refine ⟨λ w'=>(((decide (x.kind=2) || decide (x.kind=3) || decide (x.kind=4)) && decide (dR (fb p) x.name<0)) || ((decide (x.kind=5) || decide (x.kind=6)) && (decide (dR (fb p) x.name<0) || decide (eo p≤dR (fb p) x.name))) || ((decide (x.kind=9) || decide (x.kind=10)) && decide (dR (ie p) x.name<0)))=false∧St w bD [cC ui (Flat.enc (⟨(x).kind,(x).gM,(x).name,zU,zV,(x).n,(x).body,(x).fw,(x).at_⟩:bV)),cC aiq (Flat.enc (⟨(t).name,uj,Ad,(t).at_⟩:ed)),cC wz (Flat.enc (⟨bE,bP,bF,aS,aT,aX⟩:bK))] w',?_,?_⟩
   ·refine aA eZ (aB (v:=.int .i64 ((x).kind)) bN hs.p1.hb rfl ?_);refine ⟨λ jv w'=>jv = .bool (decide (x.kind=2∨x.kind=3∨x.kind=4))∧w7=w',?_,?_⟩
    ·refine aH (aC (λ mH=>?_) (λ mH=>?_))
     ·exact ⟨tD (by omega),rfl⟩
     ·refine aH (aC (λ lV=>?_) (λ lV=>?_))
      ·exact ⟨tD (by omega),rfl⟩
      ·refine aH ?_;exact ⟨tD (by omega),rfl⟩
    ·rintro _ w8 ⟨rfl,hw⟩ jz;subst hw;refine aC (λ Lo=>?_) (λ Lo=>?_)
     ·refine aR (aC (λ gX=>?_) (λ gX=>?_))
      ·refine aA qZ (aB (v:=.int .i64 ((x).at_)) bN hs.p1.hb rfl ?_);have hs:=((((((hs.drop)).drop)).drop)).drop;exact ⟨_,rfl,by rw [decide_eq_true td.1]; unfold om; grind,hs.aE⟩
      ·have hs:=(hs.drop.p2.p2).p2;exact ⟨by grind,hs⟩
     ·refine ⟨λ jv w'=>jv = .bool (decide (x.kind=5∨x.kind=6))∧w7=w',?_,?_⟩
      ·refine aH (aC (λ ml=>?_) (λ ml=>?_))
       ·exact ⟨tD (by omega),rfl⟩
       ·refine aH ?_;exact ⟨tD (by omega),rfl⟩
      ·rintro _ w9 ⟨rfl,hw⟩ oG;subst hw;refine aC (λ ud=>?_) (λ ud=>?_)
       ·refine ⟨λ jv w'=>jv = .bool (decide (dR (fb p) x.name<0) || decide (eo p≤dR (fb p) x.name))∧St w bD [bL x23 (fb p),cC ui (Flat.enc (⟨(x).kind,(x).gM,(x).name,zU,zV,(x).n,(x).body,(x).fw,(x).at_⟩:bV)),cC aiq (Flat.enc (⟨(t).name,uj,Ad,(t).at_⟩:ed)),cC wz (Flat.enc (⟨bE,bP,bF,aS,aT,aX⟩:bK))] w',?_,?_⟩
        ·refine aR (aC (λ kK=>?_) (λ kK=>?_))
         ·exact ⟨vb (by grind),hs⟩
         ·refine aD gy hs.p3.At (aZ YL hs (C41 p _ _ ⟨bE,bP,bF,aS,aT,aX,rfl,(cH).ext hs.aE,(cU).ext hs.aE,(cI).ext hs.aE,(bR).ext hs.aE,(bO).ext hs.aE,(bY).ext hs.aE⟩ hz) (λ qd he hs=>dI ?_));exact ⟨vb (by grind),hs⟩
        ·rintro _ tG ⟨rfl,hs⟩ GR;refine aY (λ rG=>?_) (λ rG=>?_)
         ·refine aA qZ (aB (v:=.int .i64 ((x).at_)) bN hs.p1.hb rfl ?_);have hs:=((((((hs.drop)).drop)).drop)).drop;exact ⟨_,rfl,by rw [decide_eq_true td.1]; unfold om; grind,hs.aE⟩
         ·have hs:=(hs.drop.p2.p2).p2;exact ⟨by grind,hs⟩
       ·refine ⟨λ jv w'=>jv = .bool (decide (x.kind=9∨x.kind=10))∧w7=w',?_,?_⟩
        ·refine aH (aC (λ rj=>?_) (λ rj=>?_))
         ·exact ⟨tD (by omega),rfl⟩
         ·refine aH ?_;exact ⟨tD (by omega),rfl⟩
        ·rintro _ vt ⟨rfl,hw⟩ R7;subst hw;refine aC (λ pP=>?_) (λ pP=>?_)
         ·have hs:=hs.drew;refine aD gy hs.p3.At (aA jq (aB (v:=.string ((x).name)) kf hs.p1.hb rfl (dG ahF hs (C99 p _ _ ⟨bE,bP,bF,aS,aT,aX,rfl,(cH).ext hs.aE,(cU).ext hs.aE,(cI).ext hs.aE,(bR).ext hs.aE,(bO).ext hs.aE,(bY).ext hs.aE⟩ hz) (λ x54 uU cA hs=>?_))));refine ⟨aG kf (hs.p2.hb.cell rfl),?_⟩;refine aZ A7 hs (C98 _ (ie p) _ _ (hs).fM (by omega)) (λ sw he hs=>aR (aC (λ rC=>?_) (λ rC=>?_)))
          ·refine aA qZ (aB (v:=.int .i64 ((x).at_)) bN hs.p2.hb rfl ?_);have hs:=((((((((hs.drop)).drop)).drop)).drop)).drop;exact ⟨_,rfl,by rw [decide_eq_true td.1]; unfold om; grind,hs.aE⟩
          ·have hs:=(((((hs.drop)).drop).p2).p2).p2;exact ⟨by grind,hs⟩
         ·have hs:=(hs.drop.p2.p2).p2;exact ⟨by grind,hs⟩
   ·rintro wc ⟨hmid,hs⟩ dd6;refine aA l7 (aB mY hs.hb rfl ?_);have awq:=DL.flat (Ld);refine aA jy (aB pF hs.p1.hb rfl ?_);have aoW:=DL.flat (Ae);refine eu TV (C101 _ _ _ _ _ (awq.ext hs.aE) (aoW.ext hs.aE) hzx.2.2.1 (by omega) td.2.1) ?_;rintro _ ze ⟨a_x65,rfl,awr,he⟩;have hs:=hs.ext he;refine dI (aC (λ oh=>?_) (λ oh=>?_))
    ·have hs:=((((hs.drop)).drop)).drop;exact ⟨_,rfl,by unfold om; grind,hs.aE⟩
    ·refine aA nT (aB mY hs.hb rfl ?_);have aws:=DL.flat (GQ);refine aA jy (aB pF hs.p1.hb rfl (eu TV (C101 _ _ _ _ _ (aws.ext hs.aE) (aoW.ext hs.aE) hzx.2.2.2.1 (by omega) td.2.2) ?_));rintro _ Cn ⟨a_x73,rfl,awt,he⟩;have hs:=((((((hs.ext he)).drop)).drop)).drop;exact ⟨_,rfl,by unfold om; grind,hs.aE⟩
theorem C94 (p:cO) (pv:bK) (w:World) (hp:cD.dr w pv p) (hz:PZ p):CR 94 [Flat.val pv] w (λ v w'=>v = .bool (zZ p)∧Ext w w'):=by
 obtain ⟨bE,bP,bF,aS,aT,aX,rfl,cH,cU,cI,bR,bO,bY⟩:=hp;have hs:=St.start w;refine ahx _ _ _ ?_;unfold S94;refine dE hs (λ kI w1 hs=>?_);refine ⟨λ m x w1=>∃ k:Nat,x = .int .i64 (k:Int)∧m=p.lines.length - k∧k≤p.lines.length∧(∀ y∈p.lines.take k,decide (4<(y.length:Int))=false)∧St w bD [cC kI (Flat.enc (⟨bE,bP,bF,aS,aT,aX⟩:bK))] w1,⟨_,0,rfl,rfl,Nat.zero_le _,by simp,hs⟩,?_⟩;rintro m _ w2 ⟨k,rfl,rfl,hk,fQ,hs⟩ fu;have hzl:=hz.lines;refine aA jx (aB r8 hs.hb rfl ?_)
 obtain ⟨awu,air,aoX⟩:=(cH).open;have hn29:=aoX.1;refine aJ vE (air.ext hs.aE) (aR (aC (λ fB=>?_) (λ fB=>?_)))
 ·refine aA jx (aB r8 hs.hb rfl ?_);obtain ⟨GU,kT⟩:=gx awu (i:=((k:Int)).toNat) (by omega);obtain ⟨mG,kU⟩:=gx ((p).lines) (i:=((k:Int)).toNat) (by omega);have Vj:DL w (Flat.val GU) mG:=aoX.2 _ _ _ kT kU;refine aQ vE (air.ext hs.aE) (by omega) kT (λ _ uc=>aD jD (uc) ?_);have awv:=DL.flat (Vj);refine aJ j9 (awv.ext hs.aE) (cZ (aC (λ fi=>?_) (λ fi=>?_)))
  ·have hs:=(hs).drop;refine ⟨vb ?_,hs.aE⟩;unfold zZ;rw [jF kU (decide_eq_true (by omega))]; rfl
  ·refine aN (by omega) ?_;exact ⟨_,by omega,k+1,rfl,rfl,by omega,ew fQ kU (decide_eq_false fi),hs⟩
 ·refine aD gy hs.At ?_;obtain ⟨aoY,ais,aoZ⟩:=(bR).open;have hn31:=aoZ.1;obtain ⟨ao0,aww,ao1⟩:=(bO).open;have hn32:=ao1.1;refine eu amz (C95 p _ aoY ao0 _ ⟨bE,bP,bF,aS,aT,aX,rfl,(cH).ext hs.aE,(cU).ext hs.aE,(cI).ext hs.aE,(bR).ext hs.aE,(bO).ext hs.aE,(bY).ext hs.aE⟩ (ais.ext hs.aE) (aww.ext hs.aE) (by have:=hz.threads; omega) (by have:=hz.recover; omega)) ?_;rintro Vk w3 cA;have hs:=hs.made cA;obtain ⟨xP,Lp⟩:∃ t,t=aoY++ao0:=⟨_,rfl⟩;rw [← Lp] at hs;have FV:lg xP (iG p) w:=by rw [Lp]; exact lg.append aoZ ao1
  have ao2:=FV.1;have awx:=Qm hz.toPS;have hs:=hs.p1.p1;refine ⟨λ m x w1=>∃ kb:Nat,x = .int .i64 (kb:Int)∧m=(iG p).length - kb∧kb≤(iG p).length∧(∀ y∈(iG p).take kb,decide (4<(y.aK.length:Int))=false)∧St w bD [bL Vk xP,cC kI (Flat.enc (⟨bE,bP,bF,aS,aT,aX⟩:bK))] w1,⟨_,0,rfl,rfl,Nat.zero_le _,by simp,hs⟩,?_⟩;rintro m _ w4 ⟨kb,rfl,rfl,hkb,NG,hs⟩ jz;refine aJ im (hs).fM (aR (aC (λ fH=>?_) (λ fH=>?_)))
  ·obtain ⟨DY,lJ⟩:=gx xP (i:=((kb:Int)).toNat) (by omega);obtain ⟨ao3,wA⟩:=gx ((iG p)) (i:=((kb:Int)).toNat) (by omega);obtain ⟨Er,Es,rfl,Eu,Ev⟩:=FV.2 _ _ _ lJ wA;refine aQ im (hs).fM (by omega) lJ (λ _ od=>bT Er jy od rfl rfl (λ _ oH=>aD pF (oH) ?_));have awy:=DL.flat (Eu);refine aJ mZ (awy.ext hs.aE) (cZ (aC (λ gX=>?_) (λ gX=>?_)))
   ·have hs:=((hs.drop)).drop;refine ⟨vb ?_,hs.aE⟩;unfold zZ;rw [jF wA (decide_eq_true (by omega))]; simp
   ·refine aN (by omega) ?_;exact ⟨_,by omega,kb+1,rfl,rfl,by omega,ew NG wA (decide_eq_false (by omega)),hs⟩
  ·refine ⟨λ jv w'=>jv = .bool (decide (4<(p.lines.length:Int)) || decide (4<(p.jX.length:Int)) || decide (2<(p.locks.length:Int)) || decide ((p.threads.length:Int)<1) || decide (3<(p.threads.length:Int)) || decide (4<(p.cB.length:Int)))∧St w bD [] w',?_,?_⟩
   ·refine aA jx (aB r8 hs.p1.hb rfl (aJ vE (air.ext hs.aE) (cZ (aC (λ ml=>?_) (λ ml=>?_)))))
    ·have hs:=((hs.drop)).drop;exact ⟨vb (by grind),hs⟩
    ·refine aA uO (aB jD hs.p1.hb rfl ?_);have awz:=DL.flat (cU);refine aJ j9 (awz.ext hs.aE) (cZ (aC (λ ue=>?_) (λ ue=>?_)))
     ·have hs:=((hs.drop)).drop;exact ⟨vb (by grind),hs⟩
     ·refine aA sg (aB jD hs.p1.hb rfl ?_);have awA:=DL.flat (cI);refine aJ j9 (awA.ext hs.aE) (cZ (aC (λ vx=>?_) (λ vx=>?_)))
      ·have hs:=((hs.drop)).drop;exact ⟨vb (by grind),hs⟩
      ·refine aA lQ (aB iF hs.p1.hb rfl (aJ im (ais.ext hs.aE) (aR (aC (λ Ek=>?_) (λ Ek=>?_)))))
       ·have hs:=((hs.drop)).drop;exact ⟨vb (by grind),hs⟩
       ·refine aA lQ (aB iF hs.p1.hb rfl (aJ im (ais.ext hs.aE) (cZ (aC (λ kz=>?_) (λ kz=>?_)))))
        ·have hs:=((hs.drop)).drop;exact ⟨vb (by grind),hs⟩
        ·refine aA kR (aB sY hs.p1.hb rfl ?_);obtain ⟨ts36,awB,awC⟩:=(bY).open;have hn36:=awC.1;refine aJ yB (awB.ext hs.aE) (cZ ?_);have hs:=((hs.drop)).drop;exact ⟨vb (by grind),hs⟩
   ·rintro _ w5 ⟨rfl,hs⟩ oG;refine ⟨vb ?_,hs.aE⟩;unfold zZ;rw [iO (by rw [List.take_of_length_le (by omega)] at fQ; exact fQ),iO (by rw [List.take_of_length_le (by omega)] at NG; exact NG)]; rfl
theorem C40 (p:cO) (pv:bK) (w:World) (hp:cD.dr w pv p) (hz:PZ p):CR 40 [Flat.val pv] w (λ v w'=>∃ a:Int,v = .tuple #[.int .i64 (fV p),.int .i64 a]∧Ext w w'):=by
 obtain ⟨bE,bP,bF,aS,aT,aX,rfl,cH,cU,cI,bR,bO,bY⟩:=hp;have hs:=St.start w;refine agP _ _ _ ?_;unfold S40;refine dE hs (λ kI w1 hs=>aD gy hs.At (aZ auK hs (C93 p _ _ ⟨bE,bP,bF,aS,aT,aX,rfl,(cH).ext hs.aE,(cU).ext hs.aE,(cI).ext hs.aE,(bR).ext hs.aE,(bO).ext hs.aE,(bY).ext hs.aE⟩ hz) (λ w2 he hs=>bZ (aY (λ mf=>?_) (λ mf=>?_)))))
 ·have hs:=(hs).drop;exact ⟨_,congrArg (λ q=>Value.tuple #[.int .i64 q,_]) (ce8 (by simpa using mf)).symm,hs.aE⟩
 ·have hrp:mg p=true:=by simpa using mf
  have hPF:=wx hrp;refine aD gy hs.At (aZ auL hs (C94 p _ _ ⟨bE,bP,bF,aS,aT,aX,rfl,(cH).ext hs.aE,(cU).ext hs.aE,(cI).ext hs.aE,(bR).ext hs.aE,(bO).ext hs.aE,(bY).ext hs.aE⟩ hz) (λ w3 he hs=>aY (λ fi=>?_) (λ fi=>?_)))
  ·have hs:=(hs).drop;exact ⟨_,congrArg (λ q=>Value.tuple #[.int .i64 q,_]) (ce2 hrp fi).symm,hs.aE⟩
  ·refine aD gy hs.At ?_;obtain ⟨ao4,awD,ao5⟩:=(bR).open;have hn37:=ao5.1;obtain ⟨ao6,awE,ao7⟩:=(bO).open;have hn38:=ao7.1;refine eu amz (C95 p _ ao4 ao6 _ ⟨bE,bP,bF,aS,aT,aX,rfl,(cH).ext hs.aE,(cU).ext hs.aE,(cI).ext hs.aE,(bR).ext hs.aE,(bO).ext hs.aE,(bY).ext hs.aE⟩ (awD.ext hs.aE) (awE.ext hs.aE) (by have:=hz.threads; omega) (by have:=hz.recover; omega)) ?_;rintro Vk w4 cA;have hs:=hs.made cA;obtain ⟨xP,Lp⟩:∃ t,t=ao4++ao6:=⟨_,rfl⟩;rw [← Lp] at hs;have FV:lg xP (iG p) w:=by rw [Lp]; exact lg.append ao5 ao7
   have ao2:=FV.1;have awx:=Qm hz.toPS;have hs:=hs.p1.p1;refine ⟨λ m x w1=>∃ k1:Nat,x = .int .i64 (k1:Int)∧m=(iG p).length - k1∧k1≤(iG p).length∧(∀ y∈(iG p).take k1,vw y.body=false)∧St w bD [bL Vk xP,cC kI (Flat.enc (⟨bE,bP,bF,aS,aT,aX⟩:bK))] w1,⟨_,0,rfl,rfl,Nat.zero_le _,by simp,hs⟩,?_⟩;rintro m _ w5 ⟨k1,rfl,rfl,Tf,ait,hs⟩ fu;refine aJ im (hs).fM (aR (aC (λ fH=>?_) (λ fH=>?_)))
   ·obtain ⟨DY,lJ⟩:=gx xP (i:=((k1:Int)).toNat) (by omega);obtain ⟨ao3,wA⟩:=gx ((iG p)) (i:=((k1:Int)).toNat) (by omega);obtain ⟨Er,Es,rfl,Eu,Ev⟩:=FV.2 _ _ _ lJ wA;refine aQ im (hs).fM (by omega) lJ (λ _ od=>bT Es nO od rfl rfl (λ _ oH=>aD qW (oH) ?_));obtain ⟨hb40,M9,tr,htr,IG,oF,_⟩:=nD (hPF.lB (List.mem_of_getElem? wA)).2.1;have Bd:=congrArg List.length htr;rw [Bk.cJ] at Bd;refine eu ahE (C96 _ tr 1 (tr.len+1) _ (by rw [← htr]; exact (Ev.ext hs.aE)) IG (λ y hy=>NF (M9 y (by rw [htr]; exact hy))) (by omega) (by omega) (by omega)) ?_
    rintro _ w6 ⟨wa,rfl,hwa,he⟩;have hs:=hs.ext he;refine dI (aC (λ j4=>?_) (λ j4=>?_))
    ·have hs:=((hs.drop)).drop;exact ⟨_,congrArg (λ q=>Value.tuple #[.int .i64 q,_]) (av6 hrp fi (jF wA (by rw [htr,yI IG,← hwa]; exact decide_eq_true j4))).symm,hs.aE⟩
    ·refine aN (by omega) ?_;have hs:=hs.p1.p1;exact ⟨_,by omega,k1+1,rfl,rfl,by omega,ew ait wA (by rw [htr,yI IG,← hwa]; exact decide_eq_false j4),hs⟩
   ·rw [List.take_of_length_le (by omega)] at ait;have sF:(iG p).any (λ t=>vw t.body)=false:=iO ait;refine aD gy hs.p1.At (eu auM (C97 p _ _ ⟨bE,bP,bF,aS,aT,aX,rfl,(cH).ext hs.aE,(cU).ext hs.aE,(cI).ext hs.aE,(bR).ext hs.aE,(bO).ext hs.aE,(bY).ext hs.aE⟩ hz hPF.decl) ?_);rintro _ w7 ⟨a_x38,rfl,Vl,he⟩;have hs:=hs.ext he;refine dI (aC (λ qz=>?_) (λ qz=>?_))
    ·have hs:=((hs.drop)).drop;exact ⟨_,congrArg (λ q=>Value.tuple #[.int .i64 q,_]) (av7 hrp fi sF (by rw [← Vl]; exact decide_eq_true qz)).symm,hs.aE⟩
    ·have h10:rE (jH p)=false:=by rw [← Vl]; exact decide_eq_false qz
     have hs:=hs.p1.p1;refine ⟨λ m x w1=>∃ k2:Nat,x = .int .i64 (k2:Int)∧m=(iG p).length - k2∧k2≤(iG p).length∧(∀ y∈(iG p).take k2,FT p y.aK=false)∧St w bD [bL Vk xP,cC kI (Flat.enc (⟨bE,bP,bF,aS,aT,aX⟩:bK))] w1,⟨_,0,rfl,rfl,Nat.zero_le _,by simp,hs⟩,?_⟩;rintro m _ w8 ⟨k2,rfl,rfl,JF,Ee,hs⟩ jz;refine aJ im (hs).fM (aR (aC (λ kL=>?_) (λ kL=>?_)))
     ·obtain ⟨ao8,wB⟩:∃ xx,xP[((k2:Int)).toNat]? = some xx:=⟨_,List.getElem?_eq_getElem (by omega)⟩;obtain ⟨Af,IH⟩:∃ xx,((iG p))[((k2:Int)).toNat]? = some xx:=⟨_,List.getElem?_eq_getElem (by omega)⟩;obtain ⟨yK,aiv,rfl,NL,aiw⟩:=FV.2 _ _ _ wB IH;have hzt2:=hz.lB (List.mem_of_getElem? IH);refine ⟨λ m x w1=>∃ k3:Nat,x = .int .i64 (k3:Int)∧m=Af.aK.length - k3∧k3≤Af.aK.length∧(∀ j,j<k3→Ql p Af.aK j=false)∧St w bD [bL Vk xP,cC kI (Flat.enc (⟨bE,bP,bF,aS,aT,aX⟩:bK))] w1,⟨_,0,rfl,rfl,Nat.zero_le _,by simp,hs⟩,?_⟩
      rintro m _ w9 ⟨k3,rfl,rfl,hk3,ao9,hs⟩ oG;refine aQ im (hs).fM (by omega) wB (λ _ Vm=>bT yK jy Vm rfl rfl (λ _ apa=>aD pF (apa) ?_));have aix:=DL.flat (NL);refine aJ mZ (aix.ext hs.aE) (aR (aC (λ Ek=>?_) (λ Ek=>?_)))
      ·refine aQ im (hs).fM (by omega) wB (λ _ apb=>bT yK jy apb rfl rfl (λ _ Vn=>aD pF (Vn) ?_));obtain ⟨GW,wC⟩:=gx ((Af).aK) (i:=((k3:Int)).toNat) (by omega);refine aQ mZ (aix.ext hs.aE) (by omega) wC (λ _ Ef=>aD kf (Ef) ?_);refine ⟨λ jv w'=>jv = .bool (decide (dR Af.aK GW<k3) || decide (0≤dR (fb p) GW) || decide (0≤dR (ie p) GW))∧St w bD [bL Vk xP,cC kI (Flat.enc (⟨bE,bP,bF,aS,aT,aX⟩:bK))] w',?_,?_⟩
       ·refine aQ im (hs).fM (by omega) wB (λ _ apc=>bT yK jy apc rfl rfl (λ _ Vo=>aD pF (Vo) (aZ A7 hs (C98 _ (Af).aK _ _ (aix.ext hs.aE) (by have:=mi hz.toPS; have hk:(ie p).length≤500:=(by unfold ie; rw [List.length_map]; exact hz.locks); omega)) (λ qd he hs=>aR (aC (λ Vc=>?_) (λ Vc=>?_))))))
        ·have hs:=hs.p1.p1;exact ⟨vb (by grind),hs⟩
        ·refine aD gy hs.p1.At (dG TP hs (C46 p _ _ ⟨bE,bP,bF,aS,aT,aX,rfl,(cH).ext hs.aE,(cU).ext hs.aE,(cI).ext hs.aE,(bR).ext hs.aE,(bO).ext hs.aE,(bY).ext hs.aE⟩ hz) (λ x77 tG cA hs=>aZ A7 hs (C98 _ (fb p) _ _ (hs).fM (by have:=mi hz.toPS; have hk:(ie p).length≤500:=(by unfold ie; rw [List.length_map]; exact hz.locks); omega)) (λ vt he hs=>dI (aC (λ Vp=>?_) (λ Vp=>?_)))))
         ·have hs:=(hs.drop.p1).p1;exact ⟨vb (by grind),hs⟩
         ·refine aD gy hs.p2.At (dG ahF hs (C99 p _ _ ⟨bE,bP,bF,aS,aT,aX,rfl,(cH).ext hs.aE,(cU).ext hs.aE,(cI).ext hs.aE,(bR).ext hs.aE,(bO).ext hs.aE,(bY).ext hs.aE⟩ hz) (λ x84 uU cA hs=>aZ A7 hs (C98 _ (ie p) _ _ (hs).fM (by have:=mi hz.toPS; have hk:(ie p).length≤500:=(by unfold ie; rw [List.length_map]; exact hz.locks); omega)) (λ sw he hs=>dI ?_)));have hs:=((((hs.drop)).drop).p1).p1;exact ⟨vb (by grind),hs⟩
       ·rintro _ wc ⟨rfl,hs⟩ GR;refine aY (λ Ew=>?_) (λ Ew=>?_)
        ·refine aQ im (hs).fM (by omega) wB (λ _ apd=>bT (Af).at_ zE apd rfl rfl (λ _ Vq=>have hs:=hs.drew;aD bN (Vq) ?_));have hs:=((hs.drop)).drop;exact ⟨_,congrArg (λ q=>Value.tuple #[.int .i64 q,_]) (aoE hrp fi sF h10 (jF IH (show FT p Af.aK=true from rF (j:=k3) (by omega) (by rw [Qn (k:=k3) wC]; exact Ew)))).symm,hs.aE⟩
        ·refine aN (by omega) ?_;exact ⟨_,by omega,k3+1,rfl,rfl,by omega,zY ao9 (by rw [Qn (k:=k3) wC]; exact Ew),hs⟩
      ·refine aN (by omega) ?_;have hs:=hs.p1.p1;exact ⟨_,by omega,k2+1,rfl,rfl,by omega,ew Ee IH (show FT p Af.aK=false from nf (λ j hj=>ao9 j (by omega))),hs⟩
     ·rw [List.take_of_length_le (by omega)] at Ee;have aiy:(iG p).any (λ t=>FT p t.aK)=false:=iO Ee;have hs:=hs.p1.p1;refine ⟨λ m x w1=>∃ k5:Nat,x = .int .i64 (k5:Int)∧m=(iG p).length - k5∧k5≤(iG p).length∧(∀ y∈(iG p).take k5,y.body.any (om p y.aK)=false)∧St w bD [bL Vk xP,cC kI (Flat.enc (⟨bE,bP,bF,aS,aT,aX⟩:bK))] w1,⟨_,0,rfl,rfl,Nat.zero_le _,by simp,hs⟩,?_⟩;rintro m _ ze ⟨k5,rfl,rfl,hk5,aiz,hs⟩ R7;refine aJ im (hs).fM (aR (aC (λ ape=>?_) (λ ape=>?_)))
      ·obtain ⟨awF,CN⟩:∃ xx,xP[((k5:Int)).toNat]? = some xx:=⟨_,List.getElem?_eq_getElem (by omega)⟩;obtain ⟨Bt,Ag⟩:∃ xx,((iG p))[((k5:Int)).toNat]? = some xx:=⟨_,List.getElem?_eq_getElem (by omega)⟩;obtain ⟨Lq,wD,rfl,Lr,B2⟩:=FV.2 _ _ _ CN Ag;have apf:=hz.lB (List.mem_of_getElem? Ag);have awG:=hPF.lB (List.mem_of_getElem? Ag);obtain ⟨hb45,apg,_⟩:=nD awG.2.1;refine ⟨λ m x w1=>∃ k6:Nat,x = .int .i64 (k6:Int)∧m=Bt.body.length - k6∧k6≤Bt.body.length∧(∀ y∈Bt.body.take k6,om p Bt.aK y=false)∧St w bD [bL Vk xP,cC kI (Flat.enc (⟨bE,bP,bF,aS,aT,aX⟩:bK))] w1,⟨_,0,rfl,rfl,Nat.zero_le _,by simp,hs⟩,?_⟩
       rintro m _ Cn ⟨k6,rfl,rfl,hk6,aiA,hs⟩ dd6;refine aQ im (hs).fM (by omega) CN (λ _ aiB=>bT wD nO aiB rfl rfl (λ _ aiC=>aD qW (aiC) ?_));obtain ⟨awH,aph,api⟩:=(B2).open;have hn40:=api.1;refine aJ jj (aph.ext hs.aE) (aR (aC (λ aiD=>?_) (λ aiD=>?_)))
       ·have hs:=hs.drew;refine aD gy hs.p1.At (aQ im (hs).fM (by omega) CN (λ _ NM=>aD Ij (NM) (aQ im (hs).fM (by omega) CN (λ _ aiE=>bT wD nO aiE rfl rfl (λ _ aiF=>aD qW (aiF) ?_)))));obtain ⟨awI,Qt⟩:=gx awH (i:=((k6:Int)).toNat) (by omega);obtain ⟨aiG,Ah⟩:=gx ((Bt).body) (i:=((k6:Int)).toNat) (by omega);obtain ⟨Vr,Vs,rfl,Vt,Vu⟩:=api.2 _ _ _ Qt Ah;refine aQ jj (aph.ext hs.aE) (by omega) Qt (λ _ aiH=>aD fO (aiH) ?_);have hf5:=acj (apg _ (List.mem_of_getElem? Ah));refine eu amA (C100 p _ Bt _ aiG _ _ ⟨bE,bP,bF,aS,aT,aX,rfl,(cH).ext hs.aE,(cU).ext hs.aE,(cI).ext hs.aE,(bR).ext hs.aE,(bO).ext hs.aE,(bY).ext hs.aE⟩ ⟨Lq,wD,rfl,(Lr).ext hs.aE,(B2).ext hs.aE⟩ ⟨Vr,Vs,rfl,(Vt).ext hs.aE,(Vu).ext hs.aE⟩ hz apf.2.1 (apf.1.2.2 _ (List.mem_of_getElem? Ah)) hf5) ?_
        rintro _ Iy ⟨awJ,rfl,Qu,he⟩;have hs:=hs.ext he;refine dI (aC (λ yL=>?_) (λ yL=>?_))
        ·have hs:=((hs.drop)).drop;exact ⟨_,congrArg (λ q=>Value.tuple #[.int .i64 q,_]) (ce9 hrp fi sF h10 aiy (jF Ag (jF Ah (by rw [← Qu]; exact decide_eq_true yL)))).symm,hs.aE⟩
        ·refine aN (by omega) ?_;exact ⟨_,by omega,k6+1,rfl,rfl,by omega,ew aiA Ah (by rw [← Qu]; exact decide_eq_false yL),hs⟩
       ·refine aN (by omega) ?_;have hs:=hs.p1.p1;exact ⟨_,by omega,k5+1,rfl,rfl,by omega,ew aiz Ag (iO (by rw [List.take_of_length_le (by omega)] at aiA; exact aiA)),hs⟩
      ·rw [List.take_of_length_le (by omega)] at aiz;have h9:(iG p).any (λ t=>t.body.any (om p t.aK))=false:=iO aiz;have hs:=hs.drew;refine aD gy hs.p1.At (aD gy hs.p1.At (dG TP hs (C46 p _ _ ⟨bE,bP,bF,aS,aT,aX,rfl,(cH).ext hs.aE,(cU).ext hs.aE,(cI).ext hs.aE,(bR).ext hs.aE,(bO).ext hs.aE,(bY).ext hs.aE⟩ hz) (λ awK JG cA hs=>?_)));refine ⟨fP gy hs.p2.At,?_⟩;refine aZ YL hs (C41 p _ _ ⟨bE,bP,bF,aS,aT,aX,rfl,(cH).ext hs.aE,(cU).ext hs.aE,(cI).ext hs.aE,(bR).ext hs.aE,(bO).ext hs.aE,(bY).ext hs.aE⟩ hz) (λ KR he hs=>?_)
       have Qs:=mi hz.toPS;have U5:0≤eo p∧eo p≤(fb p).length:=by unfold eo fb gK; rw [List.length_map,List.length_append]; omega
       refine nq mZ (hs).fM (by omega) (by omega) (λ awL acs=>?_);have hs:=(hs.p1.drop.p1).p1;refine ⟨λ m x w1=>∃ k7:Nat,x = .int .i64 (k7:Int)∧m=p.cB.length - k7∧k7≤p.cB.length∧(∀ y∈p.cB.take k7,vv y.e (oX p)=false)∧St w bD [bL awK (fb p),cC kI (Flat.enc (⟨bE,bP,bF,aS,aT,aX⟩:bK))] w1,⟨_,0,rfl,rfl,Nat.zero_le _,by simp,hs⟩,?_⟩;rintro m _ MN ⟨k7,rfl,rfl,hk7,aiI,hs⟩ dd7;have hzc:=hz.cB;refine aA kR (aB sY hs.p1.hb rfl ?_);obtain ⟨awM,apj,apk⟩:=(bY).open;have hn41:=apk.1;refine aJ yB (apj.ext hs.aE) (aR (aC (λ NN=>?_) (λ NN=>?_)))
       ·refine aA kR (aB sY hs.p1.hb rfl ?_);obtain ⟨awN,Qv⟩:=gx awM (i:=((k7:Int)).toNat) (by omega);obtain ⟨awO,Ai⟩:=gx ((p).cB) (i:=((k7:Int)).toNat) (by omega);obtain ⟨Vv,rfl,Vw⟩:=apk.2 _ _ _ Qv Ai;refine aQ yB (apj.ext hs.aE) (by omega) Qv (λ _ NO=>bT Vv CI NO rfl rfl (λ _ aiJ=>aD mY (aiJ) ?_));have awP:=DL.flat (Vw);refine eu TV (C101 _ _ _ _ _ (awP.ext hs.aE) (acs _ (hs).fM) (hz.zc _ (List.mem_of_getElem? Ai)).1 (by have:=mi hz.toPS; simp; omega) (Bo (hPF.cl _ (List.mem_of_getElem? Ai)).2)) ?_;rintro _ Qw ⟨awQ,rfl,Qx,he⟩
        have hs:=hs.ext he;refine dI (aC (λ NP=>?_) (λ NP=>?_))
        ·have hs:=((hs.drop)).drop;exact ⟨_,congrArg (λ q=>Value.tuple #[.int .i64 q,_]) (av8 hrp fi sF h10 aiy h9 (jF Ai (by unfold oX; rw [← Qx]; exact decide_eq_true NP))).symm,hs.aE⟩
        ·refine aN (by omega) ?_;exact ⟨_,by omega,k7+1,rfl,rfl,by omega,ew aiI Ai (by unfold oX; rw [← Qx]; exact decide_eq_false NP),hs⟩
       ·have hs:=((hs.drop)).drop;exact ⟨_,congrArg (λ q=>Value.tuple #[.int .i64 q,_]) (ce0 hrp fi sF h10 aiy h9 (iO (by rw [List.take_of_length_le (by omega)] at aiI; exact aiI))).symm,hs.aE⟩
theorem Bk.II {x:cE} {a b r:Bk} (h:(Bk.cons x a b r).str) {hi lo:Int} (h1:hi=1+x.body) (h2:lo=1):((Bk.cons x a b r).flat.take hi.toNat).drop lo.toNat=a.flat:=by
 obtain ⟨g1,g2,_⟩:=h
 have la:=a.cJ
 rw [D6 _ (a:=1) (n:=a.flat.length) (by omega) (by omega)]
 show (a.flat++(b.flat++r.flat)).take _=_
 rw [List.take_left]
theorem Bk.Vx {x:cE} {a b r:Bk} (h:(Bk.cons x a b r).str) {hi lo:Int} (h1:hi=1+x.body+x.fw) (h2:lo=1+x.body):((Bk.cons x a b r).flat.take hi.toNat).drop lo.toNat=b.flat:=by
 obtain ⟨g1,g2,_⟩:=h
 have la:=a.cJ
 have lb:=b.cJ
 rw [D6 _ (a:=1+a.flat.length) (n:=b.flat.length) (by omega) (by omega)]
 have e:(Bk.cons x a b r).flat=(x::a.flat)++(b.flat++r.flat):=by simp [Bk.flat]
 rw [e,show 1+a.flat.length=(x::a.flat).length from by simp; omega,List.drop_left,List.take_left]
def oJ (k:Int):Int:=if k=2∨k=4∨k=8∨k=9∨k=10 then 1 else if k=3∨k=5∨k=6∨k=7 then 2 else 0
theorem IJ (k:Int):0≤oJ k∧oJ k≤2:=by
 unfold oJ
 repeat' split
 all_goals omega
def gY:Bk→Int
 | .nil=>0
 | .cons x a b r=>(if x.kind=12 then x.n * gY a else if x.kind=11 then max (gY a) (gY b) else oJ x.kind)+gY r
def ju (t:Bk):Prop:=∀ x∈t.flat,x.kind=12→1≤x.n∧x.n≤8
theorem ju.a {x:cE} {a b r:Bk} (h:ju (.cons x a b r)):ju a:=λ y hy=>h y (by simp [Bk.flat,hy])
theorem ju.b {x:cE} {a b r:Bk} (h:ju (.cons x a b r)):ju b:=λ y hy=>h y (by simp [Bk.flat,hy])
theorem ju.r {x:cE} {a b r:Bk} (h:ju (.cons x a b r)):ju r:=λ y hy=>h y (by simp [Bk.flat,hy])
theorem ju.x {x:cE} {a b r:Bk} (h:ju (.cons x a b r)):x.kind=12→1≤x.n∧x.n≤8:=h x (by simp [Bk.flat])
theorem xo (t:Bk):ju t→0≤gY t:=by
 induction t with
 | nil=>intro _; simp [gY]
 | cons x a b r uX wk Fv=>
  intro h
  have h1:=uX h.a
  have h2:=wk h.b
  have h3:=Fv h.r
  have hc:=IJ x.kind
  unfold gY
  split
  ·rename_i hk
   have:=Int.mul_nonneg (a:=x.n) (by have:=h.x hk; omega) h1
   omega
  ·split <;> omega
theorem aiK {x:cE} {a b r:Bk} (h:ju (.cons x a b r)) (hk:x.kind=12):gY a≤x.n * gY a∧x.n * gY a≤gY (.cons x a b r):=by
 have h1:=xo a h.a
 have h3:=xo r h.r
 have hx:=h.x hk
 refine ⟨?_,by rw [gY,if_pos hk]; omega⟩
 have:=Int.mul_le_mul_of_nonneg_right hx.1 h1
 omega
def bW:Bk→Int
 | .nil=>0
 | .cons x a b r=>(if x.kind=12 then 2+bW a else if x.kind=11 then (if 0<x.fw then 1+bW a+bW b+1 else 1+bW a+bW b) else 1)+bW r
theorem iY (t:Bk):0≤bW t∧bW t≤2 * t.len:=by
 induction t with
 | nil=>simp [bW,Bk.len]
 | cons x a b r uX wk Fv=>
  unfold bW Bk.len
  repeat' split
  all_goals omega
def iZ:Bk→Int
 | .nil=>0
 | .cons x a b r=>max (if x.kind=12 then max (iZ a) (iZ b)+1 else max (iZ a) (iZ b)) (iZ r)
theorem te (t:Bk):0≤iZ t∧iZ t≤t.len:=by
 induction t with
 | nil=>simp [iZ,Bk.len]
 | cons x a b r uX wk Fv=>
  unfold iZ Bk.len
  split <;> omega
def lK (p:cO) (rs:List ByteArray) (x:cE):aW:=
 ⟨if x.kind=14 then 15 else x.kind,max 0 (dR rs x.gM),
  if x.kind=2∨x.kind=3∨x.kind=4 then dR (fb p) x.name else if x.kind=5∨x.kind=6 then mh p (dR (fb p) x.name) else if x.kind=9∨x.kind=10 then dR (ie p) x.name else 0,
  gk rs x.e,gk rs x.f,0⟩
def rH (x:cE) (a:Bk) (at_:Int):Int:=if 0<x.fw then at_+1+bW a+1 else at_+1+bW a
def eO (p:cO) (rs:List ByteArray):Bk→Int→Int→Int→List aW
 | .nil,_,_,_=>[]
 | .cons x a b r,at_,lp,out=>
  (if x.kind=11 then [⟨12,0,0,gk rs x.e,[],rH x a at_⟩]++eO p rs a (at_+1) lp out++(if 0<x.fw then [⟨11,0,0,[],[],rH x a at_+bW b⟩] else [])++eO p rs b (rH x a at_) lp out
   else if x.kind=12 then [⟨13,lp,x.n,[],[],0⟩]++eO p rs a (at_+1) (lp+1) (at_+2+bW a)++[⟨14,lp,0,[],[],at_+1⟩]
   else if x.kind=13 then [⟨11,0,0,[],[],out⟩] else [lK p rs x])++
  eO p rs r (at_+(bW (.cons x a b r) - bW r)) lp out
theorem ig (p:cO) (rs:List ByteArray) (t:Bk):∀ at_ lp out,((eO p rs t at_ lp out).length:Int)=bW t:=by
 induction t with
 | nil=>intro _ _ _; rfl
 | cons x a b r uX wk Fv=>
  intro at_ lp out
  unfold eO
  rw [List.length_append,Int.natCast_add,Fv]
  rw [show bW (.cons x a b r)=(if x.kind=12 then 2+bW a else if x.kind=11 then (if 0<x.fw then 1+bW a+bW b+1 else 1+bW a+bW b) else 1)+bW r from rfl]
  congr 1
  by_cases h1:x.kind=11
  ·simp only [if_pos h1,if_neg (show ¬ x.kind=12 by omega)]
   have ha:=uX (at_+1) lp out
   have hb:=wk (rH x a at_) lp out
   by_cases h2:0<x.fw
   ·simp only [if_pos h2,List.length_append,List.length_singleton]; omega
   ·simp only [if_neg h2,List.length_append,List.length_singleton,List.length_nil]; omega
  ·simp only [if_neg h1]
   by_cases h2:x.kind=12
   ·have ha:=uX (at_+1) (lp+1) (at_+2+bW a)
    simp only [if_pos h2,List.length_append,List.length_singleton]; omega
   ·simp only [if_neg h2]
    split <;> simp
def kM (p:cO) (t:dF):fm:=match oe t.body with | some b=>⟨t.aK.length,iZ b,eO p t.aK b 0 0 0⟩ | none=>⟨t.aK.length,0,[]⟩
def xQ (l:List cE):Int:=match oe l with | some b=>gY b | none=>0
def B3 (p:cO):Int:=1+(p.threads.map (λ t=>xQ t.body)).sum
def en (p:cO):iz:=
 ⟨(List.range (gK p).length).map (fun (i:Nat)=>mh p i),eo p,pw p,p.locks.length,p.threads.map (kM p),(match p.recover[0]? with | some t=>kM p t | none=>⟨0,0,[]⟩),p.cB.map (λ c=>gk (oX p) c.e)⟩
theorem C158 (lv:Value) (t:Bk) (N:Nat) (w:World) (hL:DL w lv t.flat) (gb:t.str) (hl:t.len≤1048576) (hN:t.len<N):CR 158 [lv] w (λ v w'=>v = .int .i64 (bW t)∧Ext w w'):=by
 have Bd:=t.cJ;have hs:=St.start w;refine Zy _ _ _ ?_;unfold S158;obtain ⟨awR,FW,Sc⟩:=(hL).open;have hn43:=Sc.1;refine aJ jj (FW.ext hs.aE) (aH (aC (λ gr=>?_) (λ gr=>?_)))
 ·cases t with
  | nil=>exact ⟨rfl,hs.aE⟩
  | cons x a b r=>exact absurd Bd (by rw [show (Bk.cons x a b r).len=a.len+b.len+r.len+1 from rfl]; omega)
 ·obtain ⟨x,a,b,r,rfl⟩:=Bk.z6 (t:=t) (by omega);obtain ⟨Va,rB⟩:=gx awR (i:=((0:Int)).toNat) (by omega);obtain ⟨dB,qe⟩:=gx ((Bk.cons x a b r).flat) (i:=((0:Int)).toNat) (by omega);obtain ⟨px,py,rfl,Qy,Qz⟩:=Sc.2 _ _ _ rB qe;refine aQ jj FW (by omega) rB (λ _ D8=>?_);obtain rfl:dB=x:=(Option.some.inj qe).symm;have FU:=gb;obtain ⟨Em,hg2,hg3,hg4,Qr,Yp,hgr⟩:=FU;have Sb:a.len+b.len+r.len+1≤1048576:=hl;have hNn:a.len+b.len+r.len+1<N:=hN;have Lm:=a.cJ;have NB:=b.cJ;have hlr:=r.cJ;have NI:(Bk.cons dB a b r).flat.length=a.len+b.len+r.len+1:=Bk.cJ _
  have hsa:=iY a;have hsb:=iY b;have hsr:=iY r;refine aD fO (D8.ext hs.aE) (aO hs pn (λ Ey w1 hs=>have hs:=hs.enc (cs':=Flat.enc (⟨0,(ByteArray.mk #[]),(ByteArray.mk #[]),⟨none,0,0⟩,⟨none,0,0⟩,0,0,0,0⟩:bV)) rfl;aI (x:=(⟨(dB).kind,(dB).gM,(dB).name,px,py,(dB).n,(dB).body,(dB).fw,(dB).at_⟩:bV)) hs fO rfl rfl (λ w2 hs=>aA l8 (have hs:=hs.drew;aB (v:=.int .i64 ((dB).body)) bN hs.hb rfl (aN (by omega) (aA iy (aB (v:=.int .i64 ((dB).fw)) bN hs.hb rfl (aN (by omega) ?_))))))));refine ⟨λ jv w'=>∃ n1:Int,jv = .int .i64 n1∧n1=(if dB.kind=11 then (if 0<dB.fw then 1+bW a+bW b+1 else 1+bW a+bW b) else 1)∧0≤n1∧n1≤4000000∧St w bD [cC Ey (Flat.enc (⟨(dB).kind,(dB).gM,(dB).name,px,py,(dB).n,(dB).body,(dB).fw,(dB).at_⟩:bV))] w',?_,?_⟩
  ·refine aA eZ (aB (v:=.int .i64 ((dB).kind)) bN hs.hb rfl (aH (aC (λ iS=>?_) (λ iS=>?_))))
   ·refine iJ jj (FW.ext hs.aE) (by omega) (by omega) (by omega) (λ apm aiL=>?_);have aiM:=DL.cut aiL FW Sc;refine iJ jj (FW.ext hs.aE) (by omega) (by omega) (by omega) (λ Vy aiN=>?_);have aiO:=DL.cut aiN FW Sc;have hs:=hs.drew;refine aZ Dj hs (C158 _ a (N - 1) _ (by have h:=aiM.ext hs.aE; rw [Bk.II gb (by omega) (by omega)] at h; exact h) Qr (by omega) (by omega)) (λ w3 he hs=>aN (by omega) (aZ Dj hs (C158 _ b (N - 1) _ (by have h:=aiO.ext hs.aE; rw [Bk.Vx gb (by omega) (by omega)] at h; exact h) Yp (by omega) (by omega)) (λ w4 he hs=>aN (by omega) (aA iy (aB (v:=.int .i64 ((dB).fw)) bN hs.hb rfl (cZ (aC (λ lz=>?_) (λ lz=>?_))))))))
    ·refine aN (by omega) ?_;exact ⟨_,rfl,by grind,by omega,by omega,hs⟩
    ·exact ⟨_,rfl,by grind,by omega,by omega,hs⟩
   ·exact ⟨_,rfl,by grind,by omega,by omega,hs⟩
  ·rintro _ w5 ⟨n1,rfl,Th,apn,aia,hs⟩ fu;refine ⟨λ jv w'=>∃ n2:Int,jv = .int .i64 n2∧n2=(if dB.kind=12 then 2+bW a else if dB.kind=11 then (if 0<dB.fw then 1+bW a+bW b+1 else 1+bW a+bW b) else 1)∧0≤n2∧n2≤4000000∧St w bD [cC Ey (Flat.enc (⟨(dB).kind,(dB).gM,(dB).name,px,py,(dB).n,(dB).body,(dB).fw,(dB).at_⟩:bV))] w',?_,?_⟩
   ·refine aA eZ (aB (v:=.int .i64 ((dB).kind)) bN hs.hb rfl (aH (aC (λ kK=>?_) (λ kK=>?_))))
    ·refine iJ jj (FW.ext hs.aE) (by omega) (by omega) (by omega) (λ apo aiP=>?_);have aiQ:=DL.cut aiP FW Sc;refine aZ Dj hs (C158 _ a (N - 1) _ (by have h:=aiQ.ext hs.aE; rw [Bk.II gb (by omega) (by omega)] at h; exact h) Qr (by omega) (by omega)) (λ w6 he hs=>aN (by omega) ?_);exact ⟨_,rfl,by grind,by omega,by omega,hs⟩
    ·exact ⟨_,rfl,by grind,by omega,by omega,hs⟩
   ·rintro _ w7 ⟨n2,rfl,Vz,aoO,hn21,hs⟩ jz;refine rh jj (FW.ext hs.aE) (by omega) (by omega) (λ VA aiR=>?_);have aiS:=DL.KJ aiR FW Sc;refine aZ Dj hs (C158 _ r (N - 1) _ (by have h:=aiS.ext hs.aE; rw [Bk.Vg gb (by omega)] at h; exact h) hgr (by omega) (by omega)) (λ w8 he hs=>aN (by omega) ?_);exact ⟨congrArg (Value.int .i64) (by rw [Vz]; rfl),hs.drop.aE⟩
termination_by N
decreasing_by all_goals omega
theorem C103 (lv:Value) (t:Bk) (N:Nat) (w:World) (hL:DL w lv t.flat) (gb:t.str) (hl:t.len≤1048576) (hN:t.len<N):CR 103 [lv] w (λ v w'=>v = .int .i64 (iZ t)∧Ext w w'):=by
 have Bd:=t.cJ;have hs:=St.start w;refine YR _ _ _ ?_;unfold S103;obtain ⟨awS,Ls,VB⟩:=(hL).open;have hn44:=VB.1;refine aJ jj (Ls.ext hs.aE) (aH (aC (λ gr=>?_) (λ gr=>?_)))
 ·cases t with
  | nil=>exact ⟨rfl,hs.aE⟩
  | cons x a b r=>exact absurd Bd (by rw [show (Bk.cons x a b r).len=a.len+b.len+r.len+1 from rfl]; omega)
 ·obtain ⟨x,a,b,r,rfl⟩:=Bk.z6 (t:=t) (by omega);obtain ⟨Va,rB⟩:=gx awS (i:=((0:Int)).toNat) (by omega);obtain ⟨dB,qe⟩:=gx ((Bk.cons x a b r).flat) (i:=((0:Int)).toNat) (by omega);obtain ⟨px,py,rfl,Qy,Qz⟩:=VB.2 _ _ _ rB qe;refine aQ jj Ls (by omega) rB (λ _ D8=>?_);obtain rfl:dB=x:=(Option.some.inj qe).symm;have FU:=gb;obtain ⟨Em,hg2,hg3,hg4,Qr,Yp,hgr⟩:=FU;have Sb:a.len+b.len+r.len+1≤1048576:=hl;have hNn:a.len+b.len+r.len+1<N:=hN;have Lm:=a.cJ;have NB:=b.cJ;have hlr:=r.cJ;have NI:(Bk.cons dB a b r).flat.length=a.len+b.len+r.len+1:=Bk.cJ _
  have hsa:=te a;have hsb:=te b;have hsr:=te r;refine aD fO (D8.ext hs.aE) (aO hs pn (λ Ey w1 hs=>have hs:=hs.enc (cs':=Flat.enc (⟨0,(ByteArray.mk #[]),(ByteArray.mk #[]),⟨none,0,0⟩,⟨none,0,0⟩,0,0,0,0⟩:bV)) rfl;aI (x:=(⟨(dB).kind,(dB).gM,(dB).name,px,py,(dB).n,(dB).body,(dB).fw,(dB).at_⟩:bV)) hs fO rfl rfl (λ w2 hs=>aA l8 (aB (v:=.int .i64 ((dB).body)) bN hs.hb rfl (aN (by omega) (aA iy (aB (v:=.int .i64 ((dB).fw)) bN hs.hb rfl (aN (by omega) (iJ jj (Ls.ext hs.aE) (by omega) (by omega) (by omega) (λ aoM aiT=>?_))))))))))
  have aiU:=DL.cut aiT Ls VB;refine iJ jj (Ls.ext hs.aE) (by omega) (by omega) (by omega) (λ UP NQ=>?_);have aiV:=DL.cut NQ Ls VB;have hs:=hs.drew;refine aZ Ps hs (C103 _ a (N - 1) _ (by have h:=aiU.ext hs.aE; rw [Bk.II gb (by omega) (by omega)] at h; exact h) Qr (by omega) (by omega)) (λ w3 he hs=>aZ Ps hs (C103 _ b (N - 1) _ (by have h:=aiV.ext hs.aE; rw [Bk.Vx gb (by omega) (by omega)] at h; exact h) Yp (by omega) (by omega)) (λ w4 he hs=>uS ?_));refine ⟨λ jv w'=>∃ n1:Int,jv = .int .i64 n1∧n1=(if dB.kind=12 then max (iZ a) (iZ b)+1 else max (iZ a) (iZ b))∧0≤n1∧n1≤4000000∧St w bD [cC Ey (Flat.enc (⟨(dB).kind,(dB).gM,(dB).name,px,py,(dB).n,(dB).body,(dB).fw,(dB).at_⟩:bV))] w',?_,?_⟩
  ·refine aA eZ (aB (v:=.int .i64 ((dB).kind)) bN hs.hb rfl (aH (aC (λ kx=>?_) (λ kx=>?_))))
   ·refine aN (by omega) ?_;exact ⟨_,rfl,by grind,by omega,by omega,hs⟩
   ·exact ⟨_,rfl,by grind,by omega,by omega,hs⟩
  ·rintro _ w5 ⟨n1,rfl,Th,apn,aia,hs⟩ fu;refine rh jj (Ls.ext hs.aE) (by omega) (by omega) (λ afb aiW=>?_);have aiX:=DL.KJ aiW Ls VB;refine aZ Ps hs (C103 _ r (N - 1) _ (by have h:=aiX.ext hs.aE; rw [Bk.Vg gb (by omega)] at h; exact h) hgr (by omega) (by omega)) (λ w6 he hs=>uS ?_);exact ⟨congrArg (Value.int .i64) (by rw [Th]; rfl),hs.drop.aE⟩
termination_by N
decreasing_by all_goals omega
theorem C108 (k:Int) (w:World):CR 108 [.int .i64 k] w (λ v w'=>v = .int .i64 (oJ k)∧Ext w w'):=by
 have hs:=St.start w;refine YW _ _ _ ?_;unfold S108;refine ⟨λ jv w'=>jv = .bool (decide (k=2∨k=4∨k=8∨k=9∨k=10))∧w=w',?_,?_⟩
 ·refine aH (aC (λ Nu=>?_) (λ Nu=>?_))
  ·exact ⟨tD (by omega),rfl⟩
  ·refine aH (aC (λ oA=>?_) (λ oA=>?_))
   ·exact ⟨tD (by omega),rfl⟩
   ·refine aH (aC (λ iN=>?_) (λ iN=>?_))
    ·exact ⟨tD (by omega),rfl⟩
    ·refine aH (aC (λ gi=>?_) (λ gi=>?_))
     ·exact ⟨tD (by omega),rfl⟩
     ·refine aH ?_;exact ⟨tD (by omega),rfl⟩
 ·rintro _ w1 ⟨rfl,hw⟩ fu;subst hw;refine aC (λ oB=>?_) (λ oB=>?_)
  ·unfold oJ;exact ⟨congrArg (Value.int .i64) (by grind),hs.aE⟩
  ·refine ⟨λ jv w'=>jv = .bool (decide (k=3∨k=5∨k=6∨k=7))∧w=w',?_,?_⟩
   ·refine aH (aC (λ gJ=>?_) (λ gJ=>?_))
    ·exact ⟨tD (by omega),rfl⟩
    ·refine aH (aC (λ jB=>?_) (λ jB=>?_))
     ·exact ⟨tD (by omega),rfl⟩
     ·refine aH (aC (λ j7=>?_) (λ j7=>?_))
      ·exact ⟨tD (by omega),rfl⟩
      ·refine aH ?_;exact ⟨tD (by omega),rfl⟩
   ·rintro _ w2 ⟨rfl,hw⟩ jz;subst hw;refine aC (λ fB=>?_) (λ fB=>?_)
    ·unfold oJ;exact ⟨congrArg (Value.int .i64) (by grind),hs.aE⟩
    ·unfold oJ;exact ⟨congrArg (Value.int .i64) (by grind),hs.aE⟩
theorem C47 (lv:Value) (t:Bk) (N:Nat) (w:World) (hL:DL w lv t.flat) (gb:t.str) (hq:ju t) (hS:gY t≤1099511627776) (hl:t.len≤1048576) (hN:t.len<N):CR 47 [lv] w (λ v w'=>v = .int .i64 (gY t)∧Ext w w'):=by
 have Bd:=t.cJ;have hs:=St.start w;refine agX _ _ _ ?_;unfold S47;obtain ⟨awT,FX,Sd⟩:=(hL).open;have hn45:=Sd.1;refine aJ jj (FX.ext hs.aE) (aH (aC (λ gr=>?_) (λ gr=>?_)))
 ·cases t with
  | nil=>exact ⟨rfl,hs.aE⟩
  | cons x a b r=>exact absurd Bd (by rw [show (Bk.cons x a b r).len=a.len+b.len+r.len+1 from rfl]; omega)
 ·obtain ⟨x,a,b,r,rfl⟩:=Bk.z6 (t:=t) (by omega);obtain ⟨Va,rB⟩:=gx awT (i:=((0:Int)).toNat) (by omega);obtain ⟨dB,qe⟩:=gx ((Bk.cons x a b r).flat) (i:=((0:Int)).toNat) (by omega);obtain ⟨px,py,rfl,Qy,Qz⟩:=Sd.2 _ _ _ rB qe;refine aQ jj FX (by omega) rB (λ _ D8=>?_);obtain rfl:dB=x:=(Option.some.inj qe).symm;have FU:=gb;obtain ⟨Em,hg2,hg3,hg4,Qr,Yp,hgr⟩:=FU;have Sb:a.len+b.len+r.len+1≤1048576:=hl;have hNn:a.len+b.len+r.len+1<N:=hN;have Lm:=a.cJ;have NB:=b.cJ;have hlr:=r.cJ;have NI:(Bk.cons dB a b r).flat.length=a.len+b.len+r.len+1:=Bk.cJ _
  have hsa:=xo a hq.a;have hsb:=xo b hq.b;have hsr:=xo r hq.r;have hcb:=IJ dB.kind;have hSe:gY (.cons dB a b r)=(if dB.kind=12 then dB.n * gY a else if dB.kind=11 then max (gY a) (gY b) else oJ dB.kind)+gY r:=rfl;refine aD fO (D8.ext hs.aE) (aO hs pn (λ Ey w1 hs=>have hs:=hs.enc (cs':=Flat.enc (⟨0,(ByteArray.mk #[]),(ByteArray.mk #[]),⟨none,0,0⟩,⟨none,0,0⟩,0,0,0,0⟩:bV)) rfl;aI (x:=(⟨(dB).kind,(dB).gM,(dB).name,px,py,(dB).n,(dB).body,(dB).fw,(dB).at_⟩:bV)) hs fO rfl rfl (λ w2 hs=>aA l8 (aB (v:=.int .i64 ((dB).body)) bN hs.hb rfl (aN (by omega) (aA iy (aB (v:=.int .i64 ((dB).fw)) bN hs.hb rfl (aN (by omega) (aA eZ (aB (v:=.int .i64 ((dB).kind)) bN hs.hb rfl (aZ amC hs (C108 _ _) (λ w3 he hs=>?_))))))))))))
  refine ⟨λ jv w'=>∃ n1:Int,jv = .int .i64 n1∧n1=(if dB.kind=11 then max (gY a) (gY b) else oJ dB.kind)∧0≤n1∧n1≤1099511627776∧St w bD [cC Ey (Flat.enc (⟨(dB).kind,(dB).gM,(dB).name,px,py,(dB).n,(dB).body,(dB).fw,(dB).at_⟩:bV))] w',?_,?_⟩
  ·refine aA eZ (aB (v:=.int .i64 ((dB).kind)) bN hs.hb rfl (aH (aC (λ fH=>?_) (λ fH=>?_))))
   ·have sF:max (gY a) (gY b)+gY r=gY (.cons dB a b r):=by rw [hSe,if_neg (by omega),if_pos (by omega)]
    refine iJ jj (FX.ext hs.aE) (by omega) (by omega) (by omega) (λ afc aiY=>?_);have aiZ:=DL.cut aiY FX Sd;refine iJ jj (FX.ext hs.aE) (by omega) (by omega) (by omega) (λ apr ai0=>?_);have ai1:=DL.cut ai0 FX Sd;have hs:=hs.drew;refine aZ RL hs (C47 _ a (N - 1) _ (by have h:=aiZ.ext hs.aE; rw [Bk.II gb (by omega) (by omega)] at h; exact h) Qr hq.a (by omega) (by omega) (by omega)) (λ w4 he hs=>aZ RL hs (C47 _ b (N - 1) _ (by have h:=ai1.ext hs.aE; rw [Bk.Vx gb (by omega) (by omega)] at h; exact h) Yp hq.b (by omega) (by omega) (by omega)) (λ w5 he hs=>uS ?_));exact ⟨_,rfl,by grind,by omega,by omega,hs⟩
   ·exact ⟨_,rfl,by grind,by omega,by omega,hs⟩
  ·rintro _ w6 ⟨n1,rfl,Th,apn,aia,hs⟩ fu;refine ⟨λ jv w'=>∃ n2:Int,jv = .int .i64 n2∧n2=(if dB.kind=12 then dB.n * gY a else if dB.kind=11 then max (gY a) (gY b) else oJ dB.kind)∧0≤n2∧St w bD [cC Ey (Flat.enc (⟨(dB).kind,(dB).gM,(dB).name,px,py,(dB).n,(dB).body,(dB).fw,(dB).at_⟩:bV))] w',?_,?_⟩
   ·refine aA eZ (aB (v:=.int .i64 ((dB).kind)) bN hs.hb rfl (aH (aC (λ ml=>?_) (λ ml=>?_))))
    ·have uJ:=aiK hq (by omega);refine aA qY (have hs:=hs.drew;aB (v:=.int .i64 ((dB).n)) bN hs.hb rfl (iJ jj (FX.ext hs.aE) (by omega) (by omega) (by omega) (λ ae8 NJ=>?_)));have NK:=DL.cut NJ FX Sd;refine aZ RL hs (C47 _ a (N - 1) _ (by have h:=NK.ext hs.aE; rw [Bk.II gb (by omega) (by omega)] at h; exact h) Qr hq.a (by omega) (by omega) (by omega)) (λ w7 he hs=>?_);refine ⟨aG bN (hs.hb.cell rfl),?_⟩;refine CD (by omega) ?_;exact ⟨_,rfl,by grind,by omega,hs⟩
    ·exact ⟨_,rfl,by grind,by omega,hs⟩
   ·rintro _ w8 ⟨n2,rfl,Vz,aoO,hs⟩ jz;have hrS:n2+gY r=gY (.cons dB a b r):=by rw [Vz,hSe]
    refine rh jj (FX.ext hs.aE) (by omega) (by omega) (λ afd ai2=>?_);have ai3:=DL.KJ ai2 FX Sd;refine aZ RL hs (C47 _ r (N - 1) _ (by have h:=ai3.ext hs.aE; rw [Bk.Vg gb (by omega)] at h; exact h) hgr hq.r (by omega) (by omega) (by omega)) (λ w9 he hs=>aN (by omega) ?_);exact ⟨congrArg (Value.int .i64) hrS,hs.drop.aE⟩
termination_by N
decreasing_by all_goals omega
theorem VC (t:Bk):∀ n:Int,ju t→1≤n→oI t n=false→n * gY t≤128 * (t.len:Int)∧0≤gY t:=by
 induction t with
 | nil=>intro n _ _ _; simp [gY,Bk.len]
 | cons x a b r uX wk Fv=>
  intro n hq hn hw
  unfold oI at hw
  simp only [Bool.or_eq_false_iff,decide_eq_false_iff_not] at hw
  obtain ⟨⟨h64,ha,hb⟩,hr⟩:=hw
  have hm1:1≤sD x n:=by
   unfold sD
   split
   ·rename_i hk
    have:=hq.x hk
    have:=Int.mul_le_mul (a:=1) (b:=1) hn this.1 (by omega) (by omega)
    omega
   ·exact hn
  have h1:=uX _ hq.a hm1 ha
  have h2:=wk _ hq.b hm1 hb
  have h3:=Fv _ hq.r hn hr
  have hnn:=xo _ hq
  refine ⟨?_,hnn⟩
  have hl:((Bk.cons x a b r).len:Int)=a.len+b.len+r.len+1:=rfl
  rw [hl,show gY (.cons x a b r)=(if x.kind=12 then x.n * gY a else if x.kind=11 then max (gY a) (gY b) else oJ x.kind)+gY r from rfl,Int.mul_add]
  have key:n * (if x.kind=12 then x.n * gY a else if x.kind=11 then max (gY a) (gY b) else oJ x.kind)≤128 * (a.len+b.len+1):=by
   by_cases hk:x.kind=12
   ·rw [if_pos hk,← Int.mul_assoc]
    have:sD x n=n * x.n:=by unfold sD; rw [if_pos hk]
    rw [this] at h1; omega
   ·have hwn:sD x n=n:=by unfold sD; rw [if_neg hk]
    rw [hwn] at h1 h2 h64
    rw [if_neg hk]
    split
    ·rcases Int.le_total (gY a) (gY b) with h | h
     ·rw [Int.max_eq_right h]; omega
     ·rw [Int.max_eq_left h]; omega
    ·have hc:=IJ x.kind
     have:=Int.mul_le_mul (a:=n) (b:=oJ x.kind) (c:=64) (d:=2) (by omega) hc.2 hc.1 (by omega)
     omega
  omega
structure yM (p:cO):Prop where
 right:mg p=true
 big:zZ p=false
 awW:∀ t∈iG p,vw t.body=false
 twice:rE (jH p)=false
 aK:∀ t∈iG p,FT p t.aK=false
 names:∀ t∈iG p,∀ x∈t.body,om p t.aK x=false
 cB:∀ c∈p.cB,vv c.e (oX p)=false
theorem Aj {p:cO} (h:fV p=0):yM p:=by
 unfold fV at h
 split at h
 ·omega
 ·rename_i h1
  split at h
  ·omega
  ·rename_i h2
   split at h
   ·omega
   ·rename_i h3
    split at h
    ·omega
    ·rename_i h4
     split at h
     ·omega
     ·rename_i h5
      split at h
      ·omega
      ·rename_i h6
       split at h
       ·omega
       ·rename_i h7
        simp only [Bool.not_eq_true,Bool.not_eq_false,List.any_eq_false] at h1 h2 h3 h4 h5 h6 h7
        exact ⟨h1,h2,λ t ht=>h3 t ht,h4,λ t ht=>h5 t ht,λ t ht x hx=>h6 t ht x hx,λ c hc=>h7 c hc⟩
theorem yM.tree {p:cO} (h:yM p) {t:dF} (ht:t∈iG p):∃ b:Bk,t.body=b.flat∧b.str∧b.ok 0=true∧b.len≤40∧ju b∧(∀ x∈b.flat,rA x=true)∧oI b 1=false∧oe t.body=some b∧0≤gY b∧gY b≤5120:=by
 obtain ⟨h1,h2,b,h3,h4,h5,_⟩:=nD ((wx h.right).lB ht).2.1
 have hl:b.len≤40:=by rw [← Bk.cJ,← h3]; exact h1
 have hq:ju b:=λ x hx=>(NF (h2 x (by rw [h3]; exact hx))).2
 have hw:oI b 1=false:=by have:=h.awW t ht; rw [h3,yI h4] at this; exact this
 have hs:=VC b 1 hq (by omega) hw
 exact ⟨b,h3,h4,h5,hl,hq,λ x hx=>h2 x (by rw [h3]; exact hx),hw,by rw [h3]; exact oW h4,hs.2,by omega⟩
def FY (p:cO) (rs:List ByteArray) (x:cE) (a b:Bk) (at_ lp out:Int):List aW:=
  if x.kind=11 then [⟨12,0,0,gk rs x.e,[],rH x a at_⟩]++eO p rs a (at_+1) lp out++(if 0<x.fw then [⟨11,0,0,[],[],rH x a at_+bW b⟩] else [])++eO p rs b (rH x a at_) lp out
   else if x.kind=12 then [⟨13,lp,x.n,[],[],0⟩]++eO p rs a (at_+1) (lp+1) (at_+2+bW a)++[⟨14,lp,0,[],[],at_+1⟩]
   else if x.kind=13 then [⟨11,0,0,[],[],out⟩] else [lK p rs x]
theorem va (p:cO) (rs:List ByteArray) (x:cE) (a b r:Bk) (at_ lp out:Int):eO p rs (.cons x a b r) at_ lp out=FY p rs x a b at_ lp out++eO p rs r (at_+((FY p rs x a b at_ lp out).length:Int)) lp out:=by
 have h1:=ig p rs (.cons x a b r) at_ lp out
 have e:eO p rs (.cons x a b r) at_ lp out=FY p rs x a b at_ lp out++eO p rs r (at_+(bW (.cons x a b r) - bW r)) lp out:=rfl
 have h2:=ig p rs r (at_+(bW (.cons x a b r) - bW r)) lp out
 rw [e,List.length_append] at h1
 rw [e,show ((FY p rs x a b at_ lp out).length:Int)=bW (.cons x a b r) - bW r from by omega]
theorem IK (p:cO) (rs:List ByteArray) (x:cE) (a b r:Bk) (at_ lp out:Int):((FY p rs x a b at_ lp out).length:Int)=bW (.cons x a b r) - bW r:=by
 have h1:=ig p rs (.cons x a b r) at_ lp out
 have h2:=ig p rs r (at_+(bW (.cons x a b r) - bW r)) lp out
 have e:eO p rs (.cons x a b r) at_ lp out=FY p rs x a b at_ lp out++eO p rs r (at_+(bW (.cons x a b r) - bW r)) lp out:=rfl
 rw [e,List.length_append] at h1
 omega
def Lt:fm:=⟨0,0,[]⟩
def Ez:iz:=⟨[],0,[],0,[],Lt,[]⟩
def Lu (p:cO):fm:=match p.recover[0]? with | some t=>kM p t | none=>Lt
theorem EA {p:cO} {t:dF} {b:Bk} (h:oe t.body=some b):kM p t=⟨t.aK.length,iZ b,eO p t.aK b 0 0 0⟩:=by unfold kM; rw [h]
theorem IL {t:dF} {b:Bk} (h:oe t.body=some b):xQ t.body=gY b:=by unfold xQ; rw [h]
theorem Lv {l:List dF} {k:Nat} {t:dF} (h:l[k]? = some t):((l.take (k+1)).map (λ t=>xQ t.body)).sum=((l.take k).map (λ t=>xQ t.body)).sum+xQ t.body:=by
 rw [← gN h]; simp
theorem C159 (q:UJ) (qv:wb) (x:cE) (xv:bV) (w:World) (hv:cD.dr w qv q) (hx:cD.dr w xv x) (hz:PZ q.p) (B4:q.aK.length≤500) (hzx:SzS x):CR 159 [Flat.val qv,Flat.val xv] w (λ v w'=>∃ iv:bU,v=Flat.val iv∧mc (eY (λ w=>cD.dr w iv (lK q.p q.aK x))) w w'):=by
 obtain ⟨aps,oo,rfl,VD,pQ⟩:=hv;obtain ⟨eH,eX,eI,dV,dW,ek,rfl,jS,kV,jT,iq,ir,ja⟩:=VD;obtain ⟨zU,zV,rfl,Ld,GQ⟩:=hx;have Qs:=mi hz.toPS;have KW:(ie q.p).length≤500:=by unfold ie; rw [List.length_map]; exact hz.locks
 have hs:=St.start w;refine Zz _ _ _ _ ?_;unfold S159;refine dE hs (λ b_v2 w1 hs=>dE hs (λ Ey w2 hs=>aO hs mB (λ Cq w3 hs=>have hs:=hs.enc (cs':=Flat.enc (⟨0,0,0,⟨none,0,0⟩,⟨none,0,0⟩,0⟩:bU)) rfl;aA zG (have hs:=hs.drew;aB pF hs.p2.hb rfl ?_))));have ai5:=DL.flat (pQ);refine aA l6 (aB (v:=.string ((x).gM)) kf hs.p1.hb rfl (aA Dy (xh (⟨eH,eX,eI,dV,dW,ek⟩:bK) gy hs.p2.hb rfl (aA jq (aB (v:=.string ((x).name)) kf hs.p1.hb rfl (aZ A7 hs (C98 _ (q).aK _ _ (ai5.ext hs.aE) (by omega)) (λ w4 he hs=>?_)))))))
 refine ⟨Iv (⟨eH,eX,eI,dV,dW,ek⟩:bK) gy hs.p2.hb rfl,?_⟩;refine ⟨aG kf (hs.p1.hb.cell rfl),?_⟩;refine uS (dG TP hs (C46 (q).p _ _ ⟨eH,eX,eI,dV,dW,ek,rfl,(jS.ext hs.aE),(kV.ext hs.aE),(jT.ext hs.aE),(iq.ext hs.aE),(ir.ext hs.aE),(ja.ext hs.aE)⟩ hz) (λ x20 w5 cA hs=>?_));refine ⟨aG kf (hs.p2.hb.cell rfl),?_⟩;refine aZ A7 hs (C98 _ (fb (q).p) _ _ (hs).fM (by omega)) (λ w6 he hs=>aA l7 (aB mY hs.p2.hb rfl ?_));have awX:=DL.flat (Ld)
 refine aA zG (aB pF hs.p3.hb rfl (eu YM (C45 _ _ _ _ _ (awX.ext hs.aE) (ai5.ext hs.aE) hzx.2.2.1 (by omega) hzx.2.2.2.2.1) ?_));rintro _ w7 ⟨ae4,rfl,cA⟩;have hs:=hs.made cA;refine bG rfl (bG rfl (aA nT (aB mY hs.p3.hb rfl ?_)));have awY:=DL.flat (GQ);refine aA zG (aB pF hs.p4.hb rfl (eu YM (C45 _ _ _ _ _ (awY.ext hs.aE) (ai5.ext hs.aE) hzx.2.2.2.1 (by omega) hzx.2.2.2.2.2) ?_));rintro _ w8 ⟨aoV,rfl,cA⟩;have hs:=hs.made cA;refine bG rfl (bG rfl (aA eZ (aB (v:=.int .i64 ((x).kind)) bN hs.p4.hb rfl ?_)));obtain ⟨vc,rfl⟩:=(hs.p1).fT;obtain ⟨oZ,rfl⟩:=(hs).fT
 refine pop (DA _ _ _ _ _ _ _ _) (aO hs mB (λ apt w9 hs=>have hs:=hs.enc (cs':=Flat.enc (⟨0,0,0,⟨none,0,0⟩,⟨none,0,0⟩,0⟩:bU)) rfl;aI (x:=(⟨(x).kind,(max 0 (dR (q).aK (x).gM)),0,vc,oZ,0⟩:bU)) hs lR rfl rfl (λ qd hs=>?_)));refine ⟨λ w'=>∃ kk bb:Int,kk=(if x.kind=14 then 15 else x.kind)∧bb=(if x.kind=2∨x.kind=3∨x.kind=4 then dR (fb q.p) x.name else if x.kind=5∨x.kind=6 then mh q.p (dR (fb q.p) x.name) else if x.kind=9∨x.kind=10 then dR (ie q.p) x.name else 0)∧St w bD [cC apt (Flat.enc (⟨kk,max 0 (dR q.aK x.gM),bb,vc,oZ,0⟩:bU)),bL (Flat.val vc) (gk q.aK x.e),bL (Flat.val oZ) (gk q.aK x.f),cC Cq (Flat.enc (⟨0,0,0,⟨none,0,0⟩,⟨none,0,0⟩,0⟩:bU))] w',?_,?_⟩
 ·refine aA eZ (aB (v:=.int .i64 ((x).kind)) bN hs.p5.hb rfl ?_);refine ⟨λ jv w'=>jv = .bool (decide (x.kind=2∨x.kind=3∨x.kind=4))∧qd=w',?_,?_⟩
  ·refine aH (aC (λ vx=>?_) (λ vx=>?_))
   ·exact ⟨tD (by omega),rfl⟩
   ·refine aH (aC (λ pP=>?_) (λ pP=>?_))
    ·exact ⟨tD (by omega),rfl⟩
    ·refine aH ?_;exact ⟨tD (by omega),rfl⟩
  ·rintro _ tG ⟨rfl,hw⟩ fu;subst hw;refine aC (λ zW=>?_) (λ zW=>?_)
   ·refine aA eT (aV hs bN (eE rfl) (rfl) (λ vt hs=>?_));have hs:=hs.enc (cs':=Flat.enc (⟨(x).kind,(max 0 (dR (q).aK (x).gM)),(dR (fb (q).p) (x).name),vc,oZ,0⟩:bU)) rfl;have hs:=(((hs.p3.drop.p4.drop.p4.drop.p3).p2).p3).p3;exact ⟨_,_,by grind,by grind,hs⟩
   ·refine ⟨λ jv w'=>jv = .bool (decide (x.kind=5∨x.kind=6))∧qd=w',?_,?_⟩
    ·refine aH (aC (λ Ek=>?_) (λ Ek=>?_))
     ·exact ⟨tD (by omega),rfl⟩
     ·refine aH ?_;exact ⟨tD (by omega),rfl⟩
    ·rintro _ uU ⟨rfl,hw⟩ jz;subst hw;refine aC (λ wy=>?_) (λ wy=>?_)
     ·refine aA Dy (xh (⟨eH,eX,eI,dV,dW,ek⟩:bK) gy hs.p6.hb rfl (aZ amt hs (C43 (q).p _ _ _ ⟨eH,eX,eI,dV,dW,ek,rfl,(jS.ext hs.aE),(kV.ext hs.aE),(jT.ext hs.aE),(iq.ext hs.aE),(ir.ext hs.aE),(ja.ext hs.aE)⟩ hz) (λ sw he hs=>aA eT (aV hs bN (eE rfl) (rfl) (λ wc hs=>?_)))));have hs:=hs.enc (cs':=Flat.enc (⟨(x).kind,(max 0 (dR (q).aK (x).gM)),(mh (q).p (dR (fb (q).p) (x).name)),vc,oZ,0⟩:bU)) rfl;have hs:=(((hs.p3.drop.p4.drop.p4.drop.p3).p2).p3).p3
      exact ⟨_,_,by grind,by grind,hs⟩
     ·refine ⟨λ jv w'=>jv = .bool (decide (x.kind=9∨x.kind=10))∧qd=w',?_,?_⟩
      ·refine aH (aC (λ VE=>?_) (λ VE=>?_))
       ·exact ⟨tD (by omega),rfl⟩
       ·refine aH ?_;exact ⟨tD (by omega),rfl⟩
      ·rintro _ ze ⟨rfl,hw⟩ oG;subst hw;refine aC (λ qB=>?_) (λ qB=>?_)
       ·refine aA Dy (have hs:=hs.drew;xh (⟨eH,eX,eI,dV,dW,ek⟩:bK) gy hs.p6.hb rfl (aA jq (aB (v:=.string ((x).name)) kf hs.p5.hb rfl (dG ahF hs (C99 (q).p _ _ ⟨eH,eX,eI,dV,dW,ek,rfl,(jS.ext hs.aE),(kV.ext hs.aE),(jT.ext hs.aE),(iq.ext hs.aE),(ir.ext hs.aE),(ja.ext hs.aE)⟩ hz) (λ x67 Cn cA hs=>?_)))));refine ⟨aG kf (hs.p6.hb.cell rfl),?_⟩;refine aZ A7 hs (C98 _ (ie (q).p) _ _ (hs).fM (by omega)) (λ Iy he hs=>aA eT (aV hs.p1 bN (eE rfl) (rfl) (λ JG hs=>?_)))
        have hs:=hs.enc (cs':=Flat.enc (⟨(x).kind,(max 0 (dR (q).aK (x).gM)),(dR (ie (q).p) (x).name),vc,oZ,0⟩:bU)) rfl;have hs:=((((hs.p1.drop.p3.drop.p4.drop.p4.drop).p3).p2).p3).p3;exact ⟨_,_,by grind,by grind,hs⟩
       ·refine aH (aC (λ La=>?_) (λ La=>?_))
        ·refine aA jn (aV hs bN (eE rfl) (rfl) (λ KR hs=>?_));have hs:=hs.enc (cs':=Flat.enc (⟨15,(max 0 (dR (q).aK (x).gM)),0,vc,oZ,0⟩:bU)) rfl;have hs:=(((hs.p3.drop.p4.drop.p4.drop.p3).p2).p3).p3;exact ⟨_,_,by grind,by grind,hs⟩
        ·have hs:=(((hs.p3.drop.p4.drop.p4.drop.p3).p2).p3).p3;exact ⟨_,_,by grind,by grind,hs⟩
 ·rintro MN ⟨kk,bb,mU,hbb,hs⟩ GR;refine aD lR hs.At (aI (x:=(⟨kk,max 0 (dR q.aK x.gM),bb,vc,oZ,0⟩:bU)) hs.p3 lR rfl rfl (λ Qw hs=>aD lR hs.At ?_));have hs:=hs.p2.freeze.p3.freeze.p1.fK.dQ (Ψ:=(λ w=>cD.dr w (⟨kk,max 0 (dR q.aK x.gM),bb,vc,oZ,0⟩:bU) (⟨kk,max 0 (dR q.aK x.gM),bb,(gk q.aK x.e),(gk q.aK x.f),0⟩:aW))) (λ w h=>⟨_,_,rfl,DL.fp h.1,DL.fp h.2⟩);have hs:=((hs.p1.drop).p1).drop;have h1:lK q.p q.aK x=(⟨kk,max 0 (dR q.aK x.gM),bb,gk q.aK x.e,gk q.aK x.f,0⟩:aW):=by unfold lK; rw [← mU,← hbb]
  exact ⟨_,rfl,by rw [h1]; exact hs.fresh⟩
set_option maxHeartbeats 4000000 in
theorem C104 (q:UJ) (qv:wb) (lv:Value) (t:Bk) (at_ lp out:Int) (N:Nat) (w:World) (hv:cD.dr w qv q) (hL:DL w lv t.flat) (hz:PZ q.p) (B4:q.aK.length≤500) (gb:t.str) (hq:∀ x∈t.flat,SzS x) (hb:(0≤at_∧at_+bW t≤16777216)∧(0≤lp∧lp+t.len≤16777216)) (hl:t.len≤1048576) (hN:t.len<N) (hN2:0<N):CR 104 [Flat.val qv,lv,.int .i64 at_,.int .i64 lp,.int .i64 out] w (λ v w'=>mc (fj v (eO q.p q.aK t at_ lp out)) w w'):=by
 obtain ⟨aps,oo,rfl,VD,pQ⟩:=hv;obtain ⟨eH,eX,eI,dV,dW,ek,rfl,jS,kV,jT,iq,ir,ja⟩:=VD;have Bd:=t.cJ;have hs:=St.start w;refine YS _ _ _ _ _ _ _ ?_;unfold S104;refine dE hs (λ acu w1 hs=>?_);obtain ⟨awZ,Lw,VF⟩:=(hL).open;have hn49:=VF.1;refine aJ jj (Lw.ext hs.aE) (aH (aC (λ iU=>?_) (λ iU=>?_)))
 ·cases t with
  | nil=>exact (hs.xO (α:=aW)).fresh
  | cons x a b r=>exact absurd Bd (by rw [show (Bk.cons x a b r).len=a.len+b.len+r.len+1 from rfl]; omega)
 ·obtain ⟨x,a,b,r,rfl⟩:=Bk.z6 (t:=t) (by omega);obtain ⟨GX,qf⟩:=gx awZ (i:=((0:Int)).toNat) (by omega);obtain ⟨ei,wE⟩:=gx ((Bk.cons x a b r).flat) (i:=((0:Int)).toNat) (by omega);obtain ⟨xp,xq,rfl,IM,QA⟩:=VF.2 _ _ _ qf wE;refine aQ jj Lw (by omega) qf (λ _ um=>?_);obtain rfl:ei=x:=(Option.some.inj wE).symm;have FU:=gb;obtain ⟨Em,hg2,hg3,hg4,Qr,Yp,hgr⟩:=FU;have Sb:a.len+b.len+r.len+1≤1048576:=hl;have hNn:a.len+b.len+r.len+1<N:=hN;have Lm:=a.cJ;have NB:=b.cJ;have hlr:=r.cJ;have NI:(Bk.cons ei a b r).flat.length=a.len+b.len+r.len+1:=Bk.cJ _
  have hsa:=iY a;have hsb:=iY b;have hsr:=iY r;have hSe:bW (.cons ei a b r)=(if ei.kind=12 then 2+bW a else if ei.kind=11 then (if 0<ei.fw then 1+bW a+bW b+1 else 1+bW a+bW b) else 1)+bW r:=rfl;have hqx:=hq ei (by simp [Bk.flat]);refine aD fO (um.ext hs.aE) (aO hs pn (λ VG w2 hs=>have hs:=hs.enc (cs':=Flat.enc (⟨0,(ByteArray.mk #[]),(ByteArray.mk #[]),⟨none,0,0⟩,⟨none,0,0⟩,0,0,0,0⟩:bV)) rfl;aI (x:=(⟨(ei).kind,(ei).gM,(ei).name,xp,xq,(ei).n,(ei).body,(ei).fw,(ei).at_⟩:bV)) hs fO rfl rfl (λ w3 hs=>aA l8 (aB (v:=.int .i64 ((ei).body)) bN hs.hb rfl (aN (by omega) (aA iy (aB (v:=.int .i64 ((ei).fw)) bN hs.hb rfl (aN (by omega) (iJ jj (Lw.ext hs.aE) (by omega) (by omega) (by omega) (λ ae9 ai6=>?_))))))))))
  have IN:=DL.cut ai6 Lw VF;refine iJ jj (Lw.ext hs.aE) (by omega) (by omega) (by omega) (λ apu ai7=>?_);have VH:=DL.cut ai7 Lw VF;have hs:=hs.drew;refine v7 (α:=aW) hs kS (λ VI w4 hs=>?_);refine ⟨λ J5 w'=>St w bD [fj J5 (FY q.p q.aK ei a b at_ lp out),cC acu (Flat.enc (⟨(⟨eH,eX,eI,dV,dW,ek⟩:bK),oo⟩:wb))] w',?_,?_⟩
  ·refine aA eZ (aB (v:=.int .i64 ((ei).kind)) bN hs.p1.hb rfl (aH (aC (λ rj=>?_) (λ rj=>?_))))
   ·have aw0:bW (.cons ei a b r)=(if 0<ei.fw then 1+bW a+bW b+1 else 1+bW a+bW b)+bW r:=by rw [hSe,if_neg (by omega),if_pos (by omega)]
    have hma:=ig q.p q.aK a (at_+1) lp out;have aw1:1+bW a+bW b+bW r≤bW (.cons ei a b r):=by rw [aw0]; split <;> omega
    refine aA l7 (aB mY hs.p1.hb rfl ?_);have aw2:=DL.flat (IM);refine aA zG (aB pF hs.p2.hb rfl ?_);have aw3:=DL.flat (pQ);refine eu YM (C45 _ _ _ _ _ (aw2.ext hs.aE) (aw3.ext hs.aE) hqx.2.2.1 (by omega) hqx.2.2.2.2.1) ?_;rintro _ w5 ⟨apv,rfl,cA⟩;have hs:=hs.made cA;refine bG rfl (bG rfl (aN (by omega) (aZ Dj hs (C158 _ a (a.len+1) _ (by have h:=IN.ext hs.aE; rw [Bk.II gb (by omega) (by omega)] at h; exact h) Qr (by omega) (by omega)) (λ w6 he hs=>aN (by omega) ?_))));refine ⟨λ jv w'=>∃ to:Int,jv = .int .i64 to∧to=rH ei a at_∧0≤to∧to≤at_+2+bW a∧St w bD [bL apv (gk q.aK ei.e),fj VI ([]:List aW),cC VG (Flat.enc (⟨(ei).kind,(ei).gM,(ei).name,xp,xq,(ei).n,(ei).body,(ei).fw,(ei).at_⟩:bV)),cC acu (Flat.enc (⟨(⟨eH,eX,eI,dV,dW,ek⟩:bK),oo⟩:wb))] w',?_,?_⟩
    ·refine aA iy (aB (v:=.int .i64 ((ei).fw)) bN hs.p2.hb rfl (cZ (aC (λ oh=>?_) (λ oh=>?_))))
     ·refine aN (by omega) ?_;have hs:=hs.p3.p3.p3.p3;exact ⟨_,rfl,by unfold rH; grind,by omega,by omega,hs⟩
     ·have hs:=hs.p3.p3.p3.p3;exact ⟨_,rfl,by unfold rH; grind,by omega,by omega,hs⟩
    ·rintro _ w7 ⟨to,rfl,hto,hto0,hto1,hs⟩ fu;obtain ⟨VJ,rfl⟩:=(hs).fT;refine pop (Io _ _ _ _ _) (have hs:=hs.freeze.dQ (Ψ:=(λ w=>cD.dr w (⟨12,0,0,VJ,⟨none,0,0⟩,to⟩:bU) (⟨12,0,0,(gk ((q).aK) ((ei).e)),[],to⟩:aW))) (λ w h=>⟨_,_,rfl,DL.fp h,DL.nil _⟩);eF (s:=(⟨12,0,0,VJ,⟨none,0,0⟩,to⟩:bU)) (x:=(⟨12,0,0,(gk ((q).aK) ((ei).e)),[],to⟩:aW)) hs kS (by decide) (λ afe w8 hs=>have hs:=hs.p1;dY hs kS (by simp only [List.length_append,List.length_cons,List.length_nil]; omega) (by decide) (λ apw w9 hs=>aD BV hs.p2.At (aN (by omega) (dG J7 hs (C104 q _ _ a (at_+1) (lp) (out) (N - 1) _ ⟨(⟨eH,eX,eI,dV,dW,ek⟩:bK),oo,rfl,⟨eH,eX,eI,dV,dW,ek,rfl,(jS.ext hs.aE),(kV.ext hs.aE),(jT.ext hs.aE),(iq.ext hs.aE),(ir.ext hs.aE),(ja.ext hs.aE)⟩,(pQ.ext hs.aE)⟩ (by have h:=IN.ext hs.aE; rw [Bk.II gb (by omega) (by omega)] at h; exact h) hz B4 Qr (λ y hy=>hq y (by simp [Bk.flat,hy])) (by omega) (by omega) (by omega) (by omega)) (λ x83 qd cA hs=>have hs:=hs.p1;dY hs kS (by simp only [List.length_append,List.length_cons,List.length_nil]; omega) (by decide) (λ aff tG hs=>?_)))))))
     refine ⟨λ r16 w'=>St w bD [fj r16 (((([]:List aW)++[(⟨12,0,0,(gk (q.aK) ((ei).e)),[],to⟩:aW)])++(eO q.p q.aK a (at_+1) (lp) (out)))++(if 0<ei.fw then [(⟨11,0,0,[],[],(to+(bW b))⟩:aW)] else [])),cC VG (Flat.enc (⟨(ei).kind,(ei).gM,(ei).name,xp,xq,(ei).n,(ei).body,(ei).fw,(ei).at_⟩:bV)),cC acu (Flat.enc (⟨(⟨eH,eX,eI,dV,dW,ek⟩:bK),oo⟩:wb))] w',?_,?_⟩
     ·refine aA iy (aB (v:=.int .i64 ((ei).fw)) bN hs.p1.hb rfl (cZ (aC (λ ug=>?_) (λ ug=>?_))))
      ·refine aZ Dj hs (C158 _ b (b.len+1) _ (by have h:=VH.ext hs.aE; rw [Bk.Vx gb (by omega) (by omega)] at h; exact h) Yp (by omega) (by omega)) (λ vt he hs=>aN (by omega) (pop (DB _ _) (have hs:=hs.gI (Φ:=(λ w=>cD.dr w (⟨11,0,0,⟨none,0,0⟩,⟨none,0,0⟩,(to+(bW b))⟩:bU) (⟨11,0,0,[],[],(to+(bW b))⟩:aW))) (λ w=>⟨_,_,rfl,DL.nil _,DL.nil _⟩);eF (s:=(⟨11,0,0,⟨none,0,0⟩,⟨none,0,0⟩,(to+(bW b))⟩:bU)) (x:=(⟨11,0,0,[],[],(to+(bW b))⟩:aW)) hs kS (by decide) (λ s_x94 uU hs=>have hs:=hs.p1;dY hs kS (by simp only [List.length_append,List.length_cons,List.length_nil]; omega) (by decide) (λ s_x95 sw hs=>?_)))))
       have hs:=hs.p2.p2.p2;have hh:(((([]:List aW)++[(⟨12,0,0,(gk ((q).aK) ((ei).e)),[],to⟩:aW)])++(eO q.p q.aK a (at_+1) (lp) (out)))++[(⟨11,0,0,[],[],(to+(bW b))⟩:aW)])=(((([]:List aW)++[(⟨12,0,0,(gk (q.aK) ((ei).e)),[],to⟩:aW)])++(eO q.p q.aK a (at_+1) (lp) (out)))++(if 0<ei.fw then [(⟨11,0,0,[],[],(to+(bW b))⟩:aW)] else [])):=by rw [if_pos (by omega)]
       rw [hh] at hs;exact hs
      ·have hs:=hs.p2.p2.p2;have hh:((([]:List aW)++[(⟨12,0,0,(gk ((q).aK) ((ei).e)),[],to⟩:aW)])++(eO q.p q.aK a (at_+1) (lp) (out)))=(((([]:List aW)++[(⟨12,0,0,(gk (q.aK) ((ei).e)),[],to⟩:aW)])++(eO q.p q.aK a (at_+1) (lp) (out)))++(if 0<ei.fw then [(⟨11,0,0,[],[],(to+(bW b))⟩:aW)] else [])):=by rw [if_neg (by omega)]; simp
       rw [hh] at hs;exact hs
     ·rintro r16 wc hs jz;have tH:=ig q.p q.aK b to lp out;refine aD BV hs.p2.At (dG J7 hs (C104 q _ _ b (to) (lp) (out) (N - 1) _ ⟨(⟨eH,eX,eI,dV,dW,ek⟩:bK),oo,rfl,⟨eH,eX,eI,dV,dW,ek,rfl,(jS.ext hs.aE),(kV.ext hs.aE),(jT.ext hs.aE),(iq.ext hs.aE),(ir.ext hs.aE),(ja.ext hs.aE)⟩,(pQ.ext hs.aE)⟩ (by have h:=VH.ext hs.aE; rw [Bk.Vx gb (by omega) (by omega)] at h; exact h) hz B4 Yp (λ y hy=>hq y (by simp [Bk.flat,hy])) (by rw [hto]; unfold rH; split <;> omega) (by omega) (by omega) (by omega)) (λ x102 ze cA hs=>have hs:=hs.p1;dY hs kS (by simp only [List.length_append,List.length_cons,List.length_nil]; split <;> simp only [List.length_cons,List.length_nil] <;> omega) (by decide) (λ aw5 Cn hs=>?_)))
      have hs:=(hs.p1.drop.p1).p1;have hh:((((([]:List aW)++[(⟨12,0,0,(gk (q.aK) ((ei).e)),[],to⟩:aW)])++(eO q.p q.aK a (at_+1) (lp) (out)))++(if 0<ei.fw then [(⟨11,0,0,[],[],(to+(bW b))⟩:aW)] else []))++(eO q.p q.aK b (to) (lp) (out)))=FY q.p q.aK ei a b at_ lp out:=by unfold FY; simp [*]
      rw [hh] at hs;exact hs
   ·refine aH (aC (λ Bu=>?_) (λ Bu=>?_))
    ·have aw1:bW (.cons ei a b r)=2+bW a+bW r:=by rw [hSe,if_pos (by omega)]
     have hma:=ig q.p q.aK a (at_+1) (lp+1) (at_+2+bW a);refine aN (by omega) (aZ Dj hs (C158 _ a (a.len+1) _ (by have h:=IN.ext hs.aE; rw [Bk.II gb (by omega) (by omega)] at h; exact h) Qr (by omega) (by omega)) (λ Iy he hs=>aN (by omega) (aA qY (aB (v:=.int .i64 ((ei).n)) bN hs.p1.hb rfl (pop (Il _ _ _) (have hs:=hs.gI (Φ:=(λ w=>cD.dr w (⟨13,lp,(ei).n,⟨none,0,0⟩,⟨none,0,0⟩,0⟩:bU) (⟨13,lp,(ei).n,[],[],0⟩:aW))) (λ w=>⟨_,_,rfl,DL.nil _,DL.nil _⟩);eF (s:=(⟨13,lp,(ei).n,⟨none,0,0⟩,⟨none,0,0⟩,0⟩:bU)) (x:=(⟨13,lp,(ei).n,[],[],0⟩:aW)) hs kS (by decide) (λ ai8 JG hs=>have hs:=hs.p1;dY hs kS (by simp only [List.length_append,List.length_cons,List.length_nil]; omega) (by decide) (λ aw6 KR hs=>aD BV hs.p2.At (aN (by omega) (aN (by omega) (dG J7 hs (C104 q _ _ a (at_+1) (lp+1) (at_+2+bW a) (N - 1) _ ⟨(⟨eH,eX,eI,dV,dW,ek⟩:bK),oo,rfl,⟨eH,eX,eI,dV,dW,ek,rfl,(jS.ext hs.aE),(kV.ext hs.aE),(jT.ext hs.aE),(iq.ext hs.aE),(ir.ext hs.aE),(ja.ext hs.aE)⟩,(pQ.ext hs.aE)⟩ (by have h:=IN.ext hs.aE; rw [Bk.II gb (by omega) (by omega)] at h; exact h) hz B4 Qr (λ y hy=>hq y (by simp [Bk.flat,hy])) (by omega) (by omega) (by omega) (by omega)) (λ x126 MN cA hs=>have hs:=hs.p1;dY hs kS (by simp only [List.length_append,List.length_cons,List.length_nil]; omega) (by decide) (λ aw7 Qw hs=>?_)))))))))))))
     refine aN (by omega) (pop (Im _ _ _) (have hs:=hs.gI (Φ:=(λ w=>cD.dr w (⟨14,lp,0,⟨none,0,0⟩,⟨none,0,0⟩,(at_+1)⟩:bU) (⟨14,lp,0,[],[],(at_+1)⟩:aW))) (λ w=>⟨_,_,rfl,DL.nil _,DL.nil _⟩);eF (s:=(⟨14,lp,0,⟨none,0,0⟩,⟨none,0,0⟩,(at_+1)⟩:bU)) (x:=(⟨14,lp,0,[],[],(at_+1)⟩:aW)) hs kS (by decide) (λ aw8 Tl hs=>have hs:=hs.p1;dY hs kS (by simp only [List.length_append,List.length_cons,List.length_nil]; omega) (by decide) (λ aw9 VK hs=>?_))));have hs:=(hs.p1.drop.p1).p1;have hh:(((([]:List aW)++[(⟨13,lp,(ei).n,[],[],0⟩:aW)])++(eO q.p q.aK a (at_+1) (lp+1) (at_+2+bW a)))++[(⟨14,lp,0,[],[],(at_+1)⟩:aW)])=FY q.p q.aK ei a b at_ lp out:=by unfold FY; simp [*]
     rw [hh] at hs;exact hs
    ·refine aH (aC (λ NN=>?_) (λ NN=>?_))
     ·refine pop (DB _ _) (have hs:=hs.gI (Φ:=(λ w=>cD.dr w (⟨11,0,0,⟨none,0,0⟩,⟨none,0,0⟩,out⟩:bU) (⟨11,0,0,[],[],out⟩:aW))) (λ w=>⟨_,_,rfl,DL.nil _,DL.nil _⟩);eF (s:=(⟨11,0,0,⟨none,0,0⟩,⟨none,0,0⟩,out⟩:bU)) (x:=(⟨11,0,0,[],[],out⟩:aW)) hs kS (by decide) (λ axa Se hs=>have hs:=hs.p1;dY hs kS (by simp only [List.length_append,List.length_cons,List.length_nil]; omega) (by decide) (λ axb w26 hs=>?_)));have hs:=(hs.p1.drop.p1).p1;have hh:(([]:List aW)++[(⟨11,0,0,[],[],out⟩:aW)])=FY q.p q.aK ei a b at_ lp out:=by unfold FY; simp [*]
      rw [hh] at hs;exact hs
     ·refine aD BV hs.p2.At (aD fO hs.p1.At (eu amW (C159 q _ ei _ _ ⟨(⟨eH,eX,eI,dV,dW,ek⟩:bK),oo,rfl,⟨eH,eX,eI,dV,dW,ek,rfl,(jS.ext hs.aE),(kV.ext hs.aE),(jT.ext hs.aE),(iq.ext hs.aE),(ir.ext hs.aE),(ja.ext hs.aE)⟩,(pQ.ext hs.aE)⟩ ⟨xp,xq,rfl,(IM.ext hs.aE),(QA.ext hs.aE)⟩ hz B4 hqx) ?_));rintro _ w27 ⟨ai9,rfl,cA⟩;have hs:=hs.made cA;refine eF (s:=ai9) (x:=(lK q.p q.aK ei)) hs kS (by decide) (λ apx w28 hs=>have hs:=hs.p1;dY hs kS (by simp only [List.length_append,List.length_cons,List.length_nil]; omega) (by decide) (λ afd w29 hs=>?_))
      have hs:=(hs.p1.drop.p1).p1;have hh:(([]:List aW)++[(lK q.p q.aK ei)])=FY q.p q.aK ei a b at_ lp out:=by unfold FY; simp [*]
      rw [hh] at hs;exact hs
  ·rintro J5 w30 hs oG;have hs:=hs.drew;refine aD BV hs.p1.At (rh jj (Lw.ext hs.aE) (by omega) (by omega) (λ axc acx=>?_));have acy:=DL.KJ acx Lw VF;have Lx:=IK q.p q.aK ei a b r at_ lp out;have hmr:=ig q.p q.aK r (at_+((FY q.p q.aK ei a b at_ lp out).length:Int)) lp out;obtain ⟨asW,acz,acA,_⟩:=(hs).dl;refine aJ kS acz ?_;rw [acA];refine aN (by omega) (dG J7 hs (C104 q _ _ r (at_+((FY q.p q.aK ei a b at_ lp out).length:Int)) (lp) (out) (N - 1) _ ⟨(⟨eH,eX,eI,dV,dW,ek⟩:bK),oo,rfl,⟨eH,eX,eI,dV,dW,ek,rfl,(jS.ext hs.aE),(kV.ext hs.aE),(jT.ext hs.aE),(iq.ext hs.aE),(ir.ext hs.aE),(ja.ext hs.aE)⟩,(pQ.ext hs.aE)⟩ (by have h:=acy.ext hs.aE; rw [Bk.Vg gb (by omega)] at h; exact h) hz B4 hgr (λ y hy=>hq y (by simp [Bk.flat,hy])) (by omega) (by omega) (by omega) (by omega)) (λ x153 w31 cA hs=>have hs:=hs.p1;dY hs kS (by omega) (by decide) (λ axd w32 hs=>?_)))
   have hs:=(hs.p1).drop;rw [va];exact hs.fresh
termination_by N
decreasing_by all_goals omega
theorem NR (f:Nat→Int) (k:Nat):(List.range k).map f++[f k]=(List.range (k+1)).map f:=by rw [List.range_succ,List.map_append]; rfl
theorem NS (p:cO):(pw p).length=(gK p).length:=by unfold pw; rw [List.length_map]
theorem Ly (p:cO):∀ k,k≤p.threads.length→(∀ t∈p.threads,0≤xQ t.body∧xQ t.body≤5120)→0≤((p.threads.take k).map (λ t=>xQ t.body)).sum∧((p.threads.take k).map (λ t=>xQ t.body)).sum≤5120 * (k:Int)
 | 0,_,_=>by simp
 | k+1,hk,h=>by
  have ih:=Ly p k (by omega) h
  obtain ⟨t,ht⟩:∃ t,p.threads[k]? = some t:=⟨_,List.getElem?_eq_getElem (by omega)⟩
  rw [Lv ht]
  have:=h t (List.mem_of_getElem? ht)
  omega
theorem yM.sum {p:cO} (h:yM p) {t:dF} (ht:t∈iG p):0≤xQ t.body∧xQ t.body≤5120:=by
 obtain ⟨b,_,_,_,_,_,_,_,hb,h1,h2⟩:=h.tree ht
 rw [IL hb]; exact ⟨h1,h2⟩
theorem C44 (p:cO) (pv:bK) (t:dF) (tv:ed) (b:Bk) (w:World) (hp:cD.dr w pv p) (ht:cD.dr w tv t) (hz:PZ p) (JJ:SzT t∧t.aK.length≤500) (VL:t.body=b.flat) (gb:b.str) (hl:b.len≤40) (FZ:oe t.body=some b):CR 44 [Flat.val pv,Flat.val tv] w (λ v w'=>∃ cv:cL,v=Flat.val cv∧mc (eY (λ w=>cD.dr w cv (kM p t))) w w'):=by
 obtain ⟨bE,bP,bF,aS,aT,aX,rfl,cH,cU,cI,bR,bO,bY⟩:=hp;obtain ⟨uj,Ad,rfl,Ae,Ep⟩:=ht;have hs:=St.start w;refine agU _ _ _ _ ?_;unfold S44;refine dE hs (λ NH w1 hs=>dE hs (λ acB w2 hs=>aO hs Ih (λ Cq w3 hs=>have hs:=hs.enc (cs':=Flat.enc (⟨0,0,⟨none,0,0⟩⟩:cL)) rfl;aD gy hs.p2.At (aA jy (aB pF hs.p1.hb rfl ?_)))));have apy:=DL.flat (Ae);refine pop (Nk _ _ _ _ _ _ _ _ _ _ _ _ _ _ _ _ _ _ _ _ _) (aO hs abh (λ acu w4 hs=>have hs:=hs.enc (cs':=Flat.enc (⟨(⟨⟨none,0,0⟩,⟨none,0,0⟩,⟨none,0,0⟩,⟨none,0,0⟩,⟨none,0,0⟩,⟨none,0,0⟩⟩:bK),⟨none,0,0⟩⟩:wb)) rfl;aI (x:=(⟨(⟨bE,bP,bF,aS,aT,aX⟩:bK),uj⟩:wb)) hs BV rfl rfl (λ w5 hs=>?_)))
 have kJ:=iY b;refine aA jy (have hs:=hs.drew;aB pF hs.p2.hb rfl (aJ mZ (apy.ext hs.aE) (aA nO (aB qW hs.p2.hb rfl (aD BV hs.At (aA nO (aB qW hs.p2.hb rfl (aZ Ps hs (C103 _ b (b.len+1) _ (by rw [← VL]; exact (Ep.ext hs.aE)) gb (by omega) (by omega)) (λ w6 he hs=>?_)))))))));refine ⟨aG pF (hs.p2.hb.cell rfl),?_⟩;refine ⟨fP BV hs.At,?_⟩;refine ⟨aG qW (hs.p2.hb.cell rfl),?_⟩;refine dG J7 hs (C104 (⟨p,t.aK⟩:UJ) _ _ b 0 0 0 (b.len+1) _ (show cD.dr _ (⟨(⟨bE,bP,bF,aS,aT,aX⟩:bK),uj⟩:wb) (⟨p,(t).aK⟩:UJ) from ⟨_,_,rfl,⟨bE,bP,bF,aS,aT,aX,rfl,(cH.ext hs.aE),(cU.ext hs.aE),(cI.ext hs.aE),(bR.ext hs.aE),(bO.ext hs.aE),(bY.ext hs.aE)⟩,DL.fp (apy.ext hs.aE)⟩) (by rw [← VL]; exact (Ep.ext hs.aE)) hz (by have:=JJ.2; show t.aK.length≤500; omega) gb (λ y hy=>JJ.1.2.2 y (by rw [VL]; exact hy)) (by omega) (by omega) (by omega) (by omega)) (λ x19 w7 cA hs=>?_)
 refine ⟨aG pF (hs.p3.hb.cell rfl),?_⟩;obtain ⟨IP,rfl⟩:=(hs).lT;refine pop (Kz _ _ _ _ _) (aI (x:=(⟨(((t).aK).length:Int),(iZ b),IP⟩:cL)) hs.p2 qa rfl rfl (λ w8 hs=>aD qa hs.At ?_));have hs:=hs.p1.jP.dQ (Ψ:=(λ w=>cD.dr w (⟨(((t).aK).length:Int),(iZ b),IP⟩:cL) (⟨(((t).aK).length:Int),(iZ b),(eO p t.aK b 0 0 0)⟩:fm))) (λ w h=>⟨_,rfl,h⟩);have hs:=((((hs.p1.drop.p1.drop).p1).drop).p1).drop;rw [EA FZ];exact ⟨_,rfl,hs.fresh⟩
theorem C13 (p:cO) (pv:bK) (w:World) (hp:cD.dr w pv p) (hz:PZ p):CR 13 [Flat.val pv,.int .i64 0] w (λ v w'=>v = .int .i64 (if fV p=0 then B3 p else -1)∧Ext w w'):=by
 obtain ⟨bE,bP,bF,aS,aT,aX,rfl,cH,cU,cI,bR,bO,bY⟩:=hp;have hs:=St.start w;refine agv _ _ _ _ ?_;unfold S13;refine dE hs (λ NH w1 hs=>aD gy hs.At (eu ams (C40 p _ _ ⟨bE,bP,bF,aS,aT,aX,rfl,(cH.ext hs.aE),(cU.ext hs.aE),(cI.ext hs.aE),(bR.ext hs.aE),(bO.ext hs.aE),(bY.ext hs.aE)⟩ hz) ?_));rintro _ w2 ⟨a_x12,rfl,he⟩;have hs:=hs.ext he;refine bG rfl (bG rfl ?_);refine ⟨λ jv w'=>jv = .bool (decide (¬ fV p=0))∧St w bD [cC NH (Flat.enc (⟨bE,bP,bF,aS,aT,aX⟩:bK))] w',?_,?_⟩
 ·refine cT (aC (λ eM=>?_) (λ eM=>?_))
  ·exact ⟨vb (by grind),hs⟩
  ·refine aR (aC (λ fi=>?_) (λ fi=>?_))
   ·exact ⟨vb (by grind),hs⟩
   ·refine cZ ?_;exact ⟨vb (by grind),hs⟩
 ·rintro _ w3 ⟨rfl,hs⟩ fu;refine aY (λ gQ=>?_) (λ gQ=>?_)
  ·have vr:¬ fV p=0:=by simpa using gQ
   exact ⟨by rw [if_neg vr],hs.drop.aE⟩
  ·have vr:fV p=0:=by simpa using gQ
   have EB:=Aj vr;have Yq:=Ly p;refine ⟨λ m y x w1=>∃ k:Nat,y = .int .i64 (1+((p.threads.take k).map (λ t=>xQ t.body)).sum)∧x = .int .i64 (k:Int)∧m=p.threads.length - k∧k≤p.threads.length∧St w bD [cC NH (Flat.enc (⟨bE,bP,bF,aS,aT,aX⟩:bK))] w1,⟨_,0,rfl,rfl,rfl,by omega,hs⟩,?_⟩;rintro m _ _ w4 ⟨k,rfl,rfl,rfl,hk,hs⟩ jz;have JJ:=hz.threads;have hsk:=Yq k hk (λ t ht=>EB.sum (List.mem_append_left _ ht));refine aA lQ (aB iF hs.hb rfl ?_);obtain ⟨axe,apz,apA⟩:=(bR).open;have hn53:=apA.1;refine aJ im (apz.ext hs.aE) (aR (aC (λ Lo=>?_) (λ Lo=>?_)))
   ·refine aA lQ (aB iF hs.hb rfl ?_);obtain ⟨VM,wF⟩:=gx axe (i:=((k:Int)).toNat) (by omega);obtain ⟨apB,EC⟩:=gx ((p).threads) (i:=((k:Int)).toNat) (by omega);obtain ⟨ajf,NT,rfl,ajg,NU⟩:=apA.2 _ _ _ wF EC;refine aQ im apz (by omega) wF (λ _ rq=>bT NT nO rq rfl rfl (λ _ wv=>aD qW (wv.ext hs.aE) ?_));obtain ⟨tb,VL,hbs,hbo,yh,hbq,hbx,hbw,FZ,hs0,NV⟩:=EB.tree (t:=apB) (List.mem_append_left _ (List.mem_of_getElem? EC));have U5:=IL FZ;refine aZ RL hs (C47 _ tb (tb.len+1) _ (by rw [← VL]; exact (NU.ext hs.aE)) hbs hbq (by omega) (by omega) (by omega)) (λ w5 he hs=>aN (by omega) (aN (by omega) ?_))
    exact ⟨_,by omega,k+1,by rw [Lv (k:=k) EC,U5,Int.add_assoc],rfl,rfl,by omega,hs⟩
   ·refine ⟨λ jv w'=>∃ rc:Int,jv = .int .i64 rc∧0≤rc∧rc≤1000000∧St w bD [cC NH (Flat.enc (⟨bE,bP,bF,aS,aT,aX⟩:bK))] w',?_,?_⟩
    ·refine aA ph (aB iF hs.hb rfl ?_);obtain ⟨axi,apD,apE⟩:=(bO).open;have hn54:=apE.1;refine aJ im (apD.ext hs.aE) (cZ (aC (λ qA=>?_) (λ qA=>?_)))
     ·refine aA ph (aB iF hs.hb rfl ?_);obtain ⟨e_x47,VN⟩:=gx axi (i:=((0:Int)).toNat) (by omega);obtain ⟨apF,IQ⟩:=gx ((p).recover) (i:=((0:Int)).toNat) (by omega);obtain ⟨aji,NW,rfl,ajj,NX⟩:=apE.2 _ _ _ VN IQ;refine aQ im apD (by omega) VN (λ _ D3=>bT NW nO D3 rfl rfl (λ _ Lb=>aD qW (Lb.ext hs.aE) ?_));obtain ⟨tb,VL,hbs,hbo,yh,hbq,hbx,hbw,FZ,hs0,NV⟩:=EB.tree (t:=apF) (List.mem_append_right _ (List.mem_of_getElem? IQ));have U5:=IL FZ;refine aZ RL hs (C47 _ tb (tb.len+1) _ (by rw [← VL]; exact (NX.ext hs.aE)) hbs hbq (by omega) (by omega) (by omega)) (λ w6 he hs=>aN (by omega) ?_)
      exact ⟨_,rfl,by omega,by omega,hs⟩
     ·exact ⟨_,rfl,by omega,by omega,hs⟩
    ·rintro _ w7 ⟨rc,rfl,hrc0,hrc1,hs⟩ oG;refine CD (by omega) (aN (by omega) ?_);refine ⟨?_,hs.drop.aE⟩;rw [if_pos vr,List.take_of_length_le (by omega)];exact congrArg (Value.int .i64) (by unfold B3; omega)
set_option maxHeartbeats 4000000 in
theorem C12 (p:cO) (pv:bK) (w:World) (hp:cD.dr w pv p) (hz:PZ p):CR 12 [Flat.val pv] w (λ v w'=>∃ uv:dO,v = .tuple #[Flat.val uv,.int .i64 (fV p)]∧mc (eY (λ w=>cD.dr w uv (if fV p=0 then en p else Ez))) w w'):=by
 obtain ⟨bE,bP,bF,aS,aT,aX,rfl,cH,cU,cI,bR,bO,bY⟩:=hp;have hs:=St.start w;refine agu _ _ _ ?_;unfold S12;refine dE hs (λ kI w1 hs=>aO hs vS (λ me w2 hs=>have hs:=hs.enc (cs':=Flat.enc (⟨⟨none,0,0⟩,0,⟨none,0,0⟩,0,⟨none,0,0⟩,(⟨0,0,⟨none,0,0⟩⟩:cL),⟨none,0,0⟩⟩:dO)) rfl;aD gy hs.p1.At (eu ams (C40 p _ _ ⟨bE,bP,bF,aS,aT,aX,rfl,(cH.ext hs.aE),(cU.ext hs.aE),(cI.ext hs.aE),(bR.ext hs.aE),(bO.ext hs.aE),(bY.ext hs.aE)⟩ hz) ?_)))
 rintro _ w3 ⟨a_x14,rfl,he⟩;have hs:=hs.ext he;refine bG rfl (bG rfl (cT (aC (λ gj=>?_) (λ gj=>?_))))
 ·refine pop (v:=Flat.val (⟨⟨none,0,0⟩,0,⟨none,0,0⟩,0,⟨none,0,0⟩,(⟨0,0,⟨none,0,0⟩⟩:cL),⟨none,0,0⟩⟩:dO)) (by kernel_rfl) (aI (x:=(⟨⟨none,0,0⟩,0,⟨none,0,0⟩,0,⟨none,0,0⟩,(⟨0,0,⟨none,0,0⟩⟩:cL),⟨none,0,0⟩⟩:dO)) hs tP rfl rfl (λ w4 hs=>aD tP hs.At ?_));have hs:=hs.gI (Φ:=(λ w=>cD.dr w (⟨⟨none,0,0⟩,0,⟨none,0,0⟩,0,⟨none,0,0⟩,(⟨0,0,⟨none,0,0⟩⟩:cL),⟨none,0,0⟩⟩:dO) (⟨[],0,[],0,[],(⟨0,0,[]⟩:fm),[]⟩:iz))) (λ w=>⟨_,_,_,_,_,rfl,DL.nil _,DL.nil _,DL.nil _,⟨_,rfl,DL.nil _⟩,DL.nil _⟩);have hs:=((hs.p1.drop).p1).drop;rw [if_neg (by simpa using gj)]
  exact ⟨_,rfl,hs.fresh⟩
 ·have vr:fV p=0:=by simpa using gj
  have EB:=Aj vr;have hacl:=nd hz.toPS;have hffl:=NS p;refine ⟨λ jv w'=>∃ (yN:Nat) (sf:SV),jv = .pointer (some ⟨yN,0,none⟩)∧St w bD [cC yN (Flat.enc (⟨⟨none,0,0⟩,(eo p),sf,((p.locks).length:Int),⟨none,0,0⟩,(⟨0,0,⟨none,0,0⟩⟩:cL),⟨none,0,0⟩⟩:dO)),bL (Flat.val sf) (pw p),cC kI (Flat.enc (⟨bE,bP,bF,aS,aT,aX⟩:bK)),cC me (Flat.enc (⟨⟨none,0,0⟩,0,⟨none,0,0⟩,0,⟨none,0,0⟩,(⟨0,0,⟨none,0,0⟩⟩:cL),⟨none,0,0⟩⟩:dO))] w',?_,?_⟩
  ·have hs:=hs.drew;refine aD gy hs.p1.At (aD gy hs.p1.At (aA sg (aB jD hs.p1.hb rfl ?_)));have axj:=DL.flat (cI);refine aJ j9 (axj.ext hs.aE) ?_;refine ⟨?_,?_⟩
   ·refine aZ YL hs (C41 p _ _ ⟨bE,bP,bF,aS,aT,aX,rfl,(cH.ext hs.aE),(cU.ext hs.aE),(cI.ext hs.aE),(bR.ext hs.aE),(bO.ext hs.aE),(bY.ext hs.aE)⟩ hz) (λ w5 he hs=>?_);refine ⟨fP gy hs.p1.At,?_⟩;refine ⟨aG jD (hs.p1.hb.cell rfl),?_⟩;refine ⟨?_,?_⟩
    ·refine dG ahp hs (C42 p _ _ ⟨bE,bP,bF,aS,aT,aX,rfl,(cH.ext hs.aE),(cU.ext hs.aE),(cI.ext hs.aE),(bR.ext hs.aE),(bO.ext hs.aE),(bY.ext hs.aE)⟩ hz) (λ x24 w6 cA hs=>?_);refine ⟨aG jD (hs.p2.hb.cell rfl),?_⟩;obtain ⟨ajk,rfl⟩:=(hs).fT;refine pop (vY _ _ _ _ _) (aO hs vS (λ axk w7 hs=>?_));have hs:=hs.enc (cs':=Flat.enc (⟨⟨none,0,0⟩,0,⟨none,0,0⟩,0,⟨none,0,0⟩,(⟨0,0,⟨none,0,0⟩⟩:cL),⟨none,0,0⟩⟩:dO)) rfl;refine ⟨fP gy hs.p3.At,?_⟩;refine ⟨fP gy hs.p3.At,?_⟩;refine ⟨aG jD (hs.p3.hb.cell rfl),?_⟩
     refine aI (x:=(⟨⟨none,0,0⟩,(eo p),ajk,(((p).locks).length:Int),⟨none,0,0⟩,(⟨0,0,⟨none,0,0⟩⟩:cL),⟨none,0,0⟩⟩:dO)) hs tP rfl rfl (λ w8 hs=>?_);have hs:=hs.p2.p3.p3.p3;exact ⟨_,_,rfl,hs⟩
    ·refine ⟨?_,?_⟩
     ·refine aO hs vS (λ axl w9 hs=>?_);have hs:=hs.enc (cs':=Flat.enc (⟨⟨none,0,0⟩,0,⟨none,0,0⟩,0,⟨none,0,0⟩,(⟨0,0,⟨none,0,0⟩⟩:cL),⟨none,0,0⟩⟩:dO)) rfl;refine ⟨fP gy hs.p2.At,?_⟩;refine ⟨fP gy hs.p2.At,?_⟩;refine ⟨aG jD (hs.p2.hb.cell rfl),?_⟩;refine dG ahp hs (C42 p _ _ ⟨bE,bP,bF,aS,aT,aX,rfl,(cH.ext hs.aE),(cU.ext hs.aE),(cI.ext hs.aE),(bR.ext hs.aE),(bO.ext hs.aE),(bY.ext hs.aE)⟩ hz) (λ x24_1 qd cA hs=>?_);refine ⟨aG jD (hs.p3.hb.cell rfl),?_⟩;obtain ⟨VO,rfl⟩:=(hs).fT;refine pop (vY _ _ _ _ _) (aI (x:=(⟨⟨none,0,0⟩,(eo p),VO,(((p).locks).length:Int),⟨none,0,0⟩,(⟨0,0,⟨none,0,0⟩⟩:cL),⟨none,0,0⟩⟩:dO)) hs.p1 tP rfl rfl (λ tG hs=>?_))
      have hs:=hs.p2.p3.p3.p3;exact ⟨_,_,rfl,hs⟩
     ·trivial
   ·refine ⟨?_,?_⟩
    ·refine aO hs vS (λ axm vt hs=>?_);have hs:=hs.enc (cs':=Flat.enc (⟨⟨none,0,0⟩,0,⟨none,0,0⟩,0,⟨none,0,0⟩,(⟨0,0,⟨none,0,0⟩⟩:cL),⟨none,0,0⟩⟩:dO)) rfl;refine ⟨fP gy hs.p2.At,?_⟩;refine ⟨fP gy hs.p2.At,?_⟩;refine ⟨aG jD (hs.p2.hb.cell rfl),?_⟩;refine aZ YL hs (C41 p _ _ ⟨bE,bP,bF,aS,aT,aX,rfl,(cH.ext hs.aE),(cU.ext hs.aE),(cI.ext hs.aE),(bR.ext hs.aE),(bO.ext hs.aE),(bY.ext hs.aE)⟩ hz) (λ uU he hs=>?_);refine ⟨fP gy hs.p2.At,?_⟩;refine ⟨aG jD (hs.p2.hb.cell rfl),?_⟩;refine dG ahp hs (C42 p _ _ ⟨bE,bP,bF,aS,aT,aX,rfl,(cH.ext hs.aE),(cU.ext hs.aE),(cI.ext hs.aE),(bR.ext hs.aE),(bO.ext hs.aE),(bY.ext hs.aE)⟩ hz) (λ x24_2 sw cA hs=>?_)
     refine ⟨aG jD (hs.p3.hb.cell rfl),?_⟩;obtain ⟨VP,rfl⟩:=(hs).fT;refine pop (vY _ _ _ _ _) (aI (x:=(⟨⟨none,0,0⟩,(eo p),VP,(((p).locks).length:Int),⟨none,0,0⟩,(⟨0,0,⟨none,0,0⟩⟩:cL),⟨none,0,0⟩⟩:dO)) hs.p1 tP rfl rfl (λ wc hs=>?_));have hs:=hs.p2.p3.p3.p3;exact ⟨_,_,rfl,hs⟩
    ·trivial
  ·rintro _ ze ⟨yN,sf,rfl,hs⟩ fu;have hs:=(((((hs.fY (α:=Int)).p4).p4).p4).p3).p4;refine ⟨λ m x w1=>∃ (k:Nat) (sl:SV),x = .int .i64 (k:Int)∧m=(gK p).length - k∧k≤(gK p).length∧St w bD [cC yN (Flat.enc (⟨sl,(eo p),sf,((p.locks).length:Int),⟨none,0,0⟩,(⟨0,0,⟨none,0,0⟩⟩:cL),⟨none,0,0⟩⟩:dO)),bL (Flat.val sl) ((List.range k).map (fun (i:Nat)=>mh p i)),bL (Flat.val sf) (pw p),cC kI (Flat.enc (⟨bE,bP,bF,aS,aT,aX⟩:bK)),cC me (Flat.enc (⟨⟨none,0,0⟩,0,⟨none,0,0⟩,0,⟨none,0,0⟩,(⟨0,0,⟨none,0,0⟩⟩:cL),⟨none,0,0⟩⟩:dO))] w1,⟨_,0,⟨none,0,0⟩,rfl,rfl,by omega,hs⟩,?_⟩
   rintro m _ Cn ⟨k,sl,rfl,rfl,hk,hs⟩ jz;refine aA xc (aB (v:=Flat.val (sf:SV)) er hs.hb rfl (aJ eg (hs.p2).fM (aR (aC (λ nB=>?_) (λ nB=>?_)))))
   ·refine aA mA (have hs:=hs.drew;aB (v:=Flat.val (sl:SV)) er hs.hb rfl (aD gy hs.p3.At (aZ amt hs (C43 p _ _ _ ⟨bE,bP,bF,aS,aT,aX,rfl,(cH.ext hs.aE),(cU.ext hs.aE),(cI.ext hs.aE),(bR.ext hs.aE),(bO.ext hs.aE),(bY.ext hs.aE)⟩ hz) (λ Iy he hs=>?_))));refine ⟨aG er (hs.hb.cell rfl),?_⟩;refine bX (([(mh p (k:Int))]:List Int)) hs eg rfl rfl (eE rfl) (λ VI JG hs=>?_);refine ⟨aG er (hs.p1.hb.cell rfl),?_⟩;have ajl:=(hs).fM;refine cP hs.p2 eg ajl (by rw [List.length_map,List.length_range,List.length_singleton]; omega) (by decide) (λ s_x42 KR hs=>have hs:=hs.p1.drop;aA mA ?_)
    obtain ⟨VQ,rfl⟩:=(hs).fT;refine aV hs.p1 er (eE rfl) (rfl) (λ MN hs=>have hs:=hs.enc (cs':=Flat.enc (⟨VQ,(eo p),sf,((p.locks).length:Int),⟨none,0,0⟩,(⟨0,0,⟨none,0,0⟩⟩:cL),⟨none,0,0⟩⟩:dO)) rfl;aN (by omega) ?_);have hs:=hs.p4.p4.p4.p4.p4;exact ⟨_,by omega,k+1,VQ,rfl,rfl,by omega,by rw [← NR]; exact hs⟩
   ·have UX:k=(gK p).length:=by omega
    subst UX;have hs:=((((((hs.xO (α:=fm)).p5).p5).p5).p5).p4).p5;refine ⟨λ m x w1=>∃ (kt:Nat) (st:SV),x = .int .i64 (kt:Int)∧m=p.threads.length - kt∧kt≤p.threads.length∧St w bD [cC yN (Flat.enc (⟨sl,(eo p),sf,((p.locks).length:Int),st,(⟨0,0,⟨none,0,0⟩⟩:cL),⟨none,0,0⟩⟩:dO)),fj (Flat.val st) ((p.threads.take kt).map (kM p)),bL (Flat.val sl) ((List.range (gK p).length).map (fun (i:Nat)=>mh p i)),bL (Flat.val sf) (pw p),cC kI (Flat.enc (⟨bE,bP,bF,aS,aT,aX⟩:bK)),cC me (Flat.enc (⟨⟨none,0,0⟩,0,⟨none,0,0⟩,0,⟨none,0,0⟩,(⟨0,0,⟨none,0,0⟩⟩:cL),⟨none,0,0⟩⟩:dO))] w1,⟨_,0,⟨none,0,0⟩,rfl,rfl,by omega,hs⟩,?_⟩
    rintro m _ Qw ⟨kt,st,rfl,rfl,hkt,hs⟩ oG;have hzth:=hz.threads;refine aA lQ (aB iF hs.p4.hb rfl ?_);obtain ⟨axn,apG,apH⟩:=(bR).open;have hn56:=apH.1;refine aJ im (apG.ext hs.aE) (aR (aC (λ zW=>?_) (λ zW=>?_)))
    ·refine aA si (have hs:=hs.drew;aB (v:=Flat.val (st:SV)) FJ hs.hb rfl (aD gy hs.p4.At (aA lQ (aB iF hs.p4.hb rfl ?_))));obtain ⟨QB,vd⟩:=gx axn (i:=((kt:Int)).toNat) (by omega);obtain ⟨vy,yO⟩:=gx ((p).threads) (i:=((kt:Int)).toNat) (by omega);obtain ⟨NY,NZ,rfl,N2,N3⟩:=apH.2 _ _ _ vd yO;refine aQ im apG (by omega) vd (λ _ Ab=>aD Ij (Ab.ext hs.aE) ?_);obtain ⟨tb,VL,hbs,hbo,yh,hbq,hbx,hbw,FZ,hs0,NV⟩:=EB.tree (t:=vy) (List.mem_append_left _ (List.mem_of_getElem? yO));have JJ:=hz.lB (t:=vy) (List.mem_append_left _ (List.mem_of_getElem? yO))
     refine eu amu (C44 p _ vy _ tb _ ⟨bE,bP,bF,aS,aT,aX,rfl,(cH.ext hs.aE),(cU.ext hs.aE),(cI.ext hs.aE),(bR.ext hs.aE),(bO.ext hs.aE),(bY.ext hs.aE)⟩ ⟨NY,NZ,rfl,(N2.ext hs.aE),(N3.ext hs.aE)⟩ hz ⟨JJ.1,JJ.2.1⟩ VL hbs yh FZ) ?_;rintro _ Tl ⟨ajm,rfl,cA⟩;have hs:=hs.made cA;refine ⟨aG FJ (hs.p1.hb.cell rfl),?_⟩;refine eF (s:=ajm) (x:=(kM p vy)) hs Be (by decide) (λ aow VK hs=>?_);refine ⟨aG FJ (hs.p1.hb.cell rfl),?_⟩;have hs:=hs.p2;refine dY hs Be (by simp; omega) (by decide) (λ s_x61 Se hs=>aA si ?_)
     obtain ⟨IS,rfl⟩:=(hs).lT;refine aV hs.p1 FJ (eE rfl) (rfl) (λ w26 hs=>have hs:=hs.enc (cs':=Flat.enc (⟨sl,(eo p),sf,((p.locks).length:Int),IS,(⟨0,0,⟨none,0,0⟩⟩:cL),⟨none,0,0⟩⟩:dO)) rfl;aN (by omega) ?_);have hs:=hs.p5.p5.p5.p5.p5.p5;exact ⟨_,by omega,kt+1,IS,rfl,rfl,by omega,by rw [← iV (k:=kt) yO]; exact hs⟩
    ·have UX:kt=p.threads.length:=by omega
     subst UX;rw [List.take_length] at hs;refine ⟨λ w'=>∃ rc:cL,St w bD [cC yN (Flat.enc (⟨sl,(eo p),sf,((p.locks).length:Int),st,rc,⟨none,0,0⟩⟩:dO)),eY (λ w=>cD.dr w rc (Lu p)),fj (Flat.val st) (p.threads.map (kM p)),bL (Flat.val sl) ((List.range (gK p).length).map (fun (i:Nat)=>mh p i)),bL (Flat.val sf) (pw p),cC kI (Flat.enc (⟨bE,bP,bF,aS,aT,aX⟩:bK)),cC me (Flat.enc (⟨⟨none,0,0⟩,0,⟨none,0,0⟩,0,⟨none,0,0⟩,(⟨0,0,⟨none,0,0⟩⟩:cL),⟨none,0,0⟩⟩:dO))] w',?_,?_⟩
     ·refine aA ph (aB iF hs.p4.hb rfl ?_);obtain ⟨axo,apI,apJ⟩:=(bO).open;have hn57:=apJ.1;refine aJ im (apI.ext hs.aE) (cZ (aC (λ KZ=>?_) (λ KZ=>?_)))
      ·have hs:=hs.drew;refine aD gy hs.p4.At (aA ph (aB iF hs.p4.hb rfl ?_));obtain ⟨e_x70,VR⟩:=gx axo (i:=((0:Int)).toNat) (by omega);obtain ⟨Lz,Bv⟩:=gx ((p).recover) (i:=((0:Int)).toNat) (by omega);obtain ⟨N4,N5,rfl,N6,N7⟩:=apJ.2 _ _ _ VR Bv;refine aQ im apI (by omega) VR (λ _ LA=>aD Ij (LA.ext hs.aE) ?_);obtain ⟨tb,VL,hbs,hbo,yh,hbq,hbx,hbw,FZ,hs0,NV⟩:=EB.tree (t:=Lz) (List.mem_append_right _ (List.mem_of_getElem? Bv));have JJ:=hz.lB (t:=Lz) (List.mem_append_right _ (List.mem_of_getElem? Bv));refine eu amu (C44 p _ Lz _ tb _ ⟨bE,bP,bF,aS,aT,aX,rfl,(cH.ext hs.aE),(cU.ext hs.aE),(cI.ext hs.aE),(bR.ext hs.aE),(bO.ext hs.aE),(bY.ext hs.aE)⟩ ⟨N4,N5,rfl,(N6.ext hs.aE),(N7.ext hs.aE)⟩ hz ⟨JJ.1,JJ.2.1⟩ VL hbs yh FZ) ?_
       rintro _ w27 ⟨VS,rfl,cA⟩;have hs:=hs.made cA;refine aA zB (pC (vs:=Flat.enc VS) hs.p1 qa rfl (eE rfl) (Flat.one _) (λ w28 hs=>?_));have hs:=hs.enc (cs':=Flat.enc (⟨sl,(eo p),sf,((p.locks).length:Int),st,VS,⟨none,0,0⟩⟩:dO)) rfl;have hs:=hs.p6.p6.p6.p6.p6.p6.p6;have hrm:Lu p=kM p Lz:=by unfold Lu; rw [show p.recover[0]? = some Lz from Bv]
       exact ⟨_,by rw [hrm]; exact hs⟩
      ·have hs:=hs.gI (Φ:=λ w=>cD.dr w (⟨0,0,⟨none,0,0⟩⟩:cL) (Lu p)) (λ w=>by rw [show Lu p=Lt from by unfold Lu; rw [List.getElem?_eq_none (by omega)]]; exact ⟨_,rfl,DL.nil _⟩);have hs:=hs.p6.p6.p6.p6.p6.p5.p6;exact ⟨_,hs⟩
     ·rintro w29 ⟨rc,hs⟩ GR;have hs:=((((((((hs.xO (α:=(List nt))).p7).p7).p7).p7).p7).p7).p6).p7;refine ⟨λ m x w1=>∃ (kc:Nat) (sc:SV),x = .int .i64 (kc:Int)∧m=p.cB.length - kc∧kc≤p.cB.length∧St w bD [cC yN (Flat.enc (⟨sl,(eo p),sf,((p.locks).length:Int),st,rc,sc⟩:dO)),fj (Flat.val sc) ((p.cB.take kc).map (λ c=>gk (oX p) c.e)),eY (λ w=>cD.dr w rc (Lu p)),fj (Flat.val st) (p.threads.map (kM p)),bL (Flat.val sl) ((List.range (gK p).length).map (fun (i:Nat)=>mh p i)),bL (Flat.val sf) (pw p),cC kI (Flat.enc (⟨bE,bP,bF,aS,aT,aX⟩:bK)),cC me (Flat.enc (⟨⟨none,0,0⟩,0,⟨none,0,0⟩,0,⟨none,0,0⟩,(⟨0,0,⟨none,0,0⟩⟩:cL),⟨none,0,0⟩⟩:dO))] w1,⟨_,0,⟨none,0,0⟩,rfl,rfl,by omega,hs⟩,?_⟩
      rintro m _ w30 ⟨kc,sc,rfl,rfl,hkc,hs⟩ R7;have hzcl:=hz.cB;refine aA kR (aB sY hs.p6.hb rfl ?_);obtain ⟨axp,apK,apL⟩:=(bY).open;have hn58:=apL.1;refine aJ yB (apK.ext hs.aE) (aR (aC (λ VT=>?_) (λ VT=>?_)))
      ·refine aA kR (have hs:=hs.drew;aB sY hs.p6.hb rfl ?_);obtain ⟨e_x85,VU⟩:=gx axp (i:=((kc:Int)).toNat) (by omega);obtain ⟨afg,IT⟩:=gx ((p).cB) (i:=((kc:Int)).toNat) (by omega);obtain ⟨acC,rfl,acD⟩:=apL.2 _ _ _ VU IT;refine aQ yB apK (by omega) VU (λ _ apM=>bT acC CI apM rfl rfl (λ _ afh=>aD mY (afh.ext hs.aE) ?_));have axq:=DL.flat (acD);refine aD gy hs.p6.At (aA pj (aB (v:=.int .i64 (eo p)) bN hs.hb rfl (dG TP hs (C46 p _ _ ⟨bE,bP,bF,aS,aT,aX,rfl,(cH.ext hs.aE),(cU.ext hs.aE),(cI.ext hs.aE),(bR.ext hs.aE),(bO.ext hs.aE),(bY.ext hs.aE)⟩ hz) (λ x89 w31 cA hs=>?_))))
       refine ⟨aG sY (hs.p7.hb.cell rfl),?_⟩;refine ⟨fP mY (afh.ext hs.aE),?_⟩;refine ⟨aG bN (hs.p1.hb.cell rfl),?_⟩;have Qs:=mi hz.toPS;have U5:0≤eo p∧eo p≤(fb p).length:=by unfold eo fb gK; rw [List.length_map,List.length_append]; omega
       refine nq mZ (hs).fM (by omega) (by omega) (λ s_x92 ajn=>eu YM (C45 _ _ _ _ _ (axq.ext hs.aE) (ajn _ (hs).fM) (hz.zc _ (List.mem_of_getElem? IT)).1 (by rw [List.length_take]; omega) (hz.zc _ (List.mem_of_getElem? IT)).2) ?_);rintro _ w32 ⟨s_x93,rfl,cA⟩;have hs:=hs.made cA;refine bG rfl (bG rfl (aA xd (aB (v:=Flat.val (sc:SV)) RT hs.p2.hb rfl ?_)));obtain ⟨VV,rfl⟩:=(hs).fT;have hs:=hs.freeze.dQ (Ψ:=λ w=>cD.dr w VV ((gk ((((fb p)).take ((eo p)).toNat)) ((afg).e)))) (λ w h=>DL.fp h);refine eF (s:=VV) (x:=(gk ((((fb p)).take ((eo p)).toNat)) ((afg).e))) hs FK (by decide) (λ s_x99 w33 hs=>have hs:=hs.p3;dY hs FK (by simp; omega) (by decide) (λ axr w34 hs=>aA xd ?_))
       obtain ⟨QC,rfl⟩:=(hs).lT;refine aV hs.p2 RT (eE rfl) (rfl) (λ w35 hs=>have hs:=hs.enc (cs':=Flat.enc (⟨sl,(eo p),sf,((p.locks).length:Int),st,rc,QC⟩:dO)) rfl;aN (by omega) ?_);have hs:=(hs.p2.drop.p7.p7.p7.p7.p7.p7.p7).p7;exact ⟨_,by omega,kc+1,QC,rfl,rfl,by omega,by rw [← iV (k:=kc) IT]; exact hs⟩
      ·have UX:kc=p.cB.length:=by omega
       subst UX;rw [List.take_length] at hs;refine aD tP hs.At (aI (x:=(⟨sl,(eo p),sf,((p.locks).length:Int),st,rc,sc⟩:dO)) hs.p7 tP rfl rfl (λ w36 hs=>aD tP hs.At ?_));have hs:=hs.p5.freeze.p6.freeze.p1.fK.p5.jP.p1.fK.p4.p1.fK.p3.jP.p1.fK.dQ (Ψ:=(λ w=>cD.dr w (⟨sl,(eo p),sf,((p.locks).length:Int),st,rc,sc⟩:dO) (⟨((List.range (gK p).length).map (fun (i:Nat)=>mh p i)),(eo p),(pw p),((p.locks).length:Int),(p.threads.map (kM p)),(Lu p),(p.cB.map (λ c=>gk (oX p) c.e))⟩:iz))) (λ w h=>⟨_,_,_,_,_,rfl,DL.fp h.1.1.1.1,DL.fp h.1.1.1.2,h.1.1.2,h.1.2,h.2⟩)
       have hs:=(((hs.p1.drop.p1).drop).p1).drop;rw [if_pos vr];exact ⟨_,by rw [vr],hs.fresh⟩
def nE (s:ByteArray):ByteArray:=s.extract 0 (min (s.size:Int) 40).toNat
theorem o0 (s:ByteArray):(nE s).size≤40:=by
 unfold nE
 rw [ByteArray.size_extract]; omega
def acE (x:cY):cY:={x with name:=nE x.name}
def xR (l:List cY):List cY:=(l.take 60).map acE
def QD (x:cE):cE:=⟨x.kind,nE x.gM,nE x.name,xR x.e,xR x.f,x.n,x.body,x.fw,x.at_⟩
def ED (l:List cE):List cE:=(l.take 50).map QD
def acF (c:dH):dH:={c with name:=nE c.name}
def je (l:List dH):List dH:=(l.take 8).map acF
def yk (t:dF):dF:=⟨nE t.name,(t.aK.take 6).map nE,ED t.body,t.at_⟩
def kB (l:List dF):List dF:=(l.take 4).map yk
def EE (c:jE):jE:=⟨xR c.e,c.at_⟩
def mW (p:cO):cO:=⟨(p.lines.take 6).map je,je p.jX,je p.locks,kB p.threads,kB p.recover,(p.cB.take 6).map EE⟩
theorem rI {α:Type} {xs:List α} {k m:Nat} (h:k≤m) (h2:k≤xs.length) (h3:¬ (k<xs.length∧k<m)):xs.take k=xs.take m:=by
 rcases Nat.lt_or_ge k m with h4 | h4
 ·rw [List.take_of_length_le (by omega),List.take_of_length_le (by omega)]
 ·rw [show k=m from by omega]
theorem EF (l:List cY):(xR l).length≤60:=by unfold xR; rw [List.length_map,List.length_take]; omega
theorem IU (l:List cY):∀ y∈xR l,y.name.size≤1048576:=by
 intro y hy
 obtain ⟨x,_,rfl⟩:=List.mem_map.1 hy
 have:=o0 x.name
 show (nE x.name).size≤_
 omega
theorem EG (l:List dH):∀ y∈je l,y.name.size≤1048576:=by
 intro y hy
 obtain ⟨x,_,rfl⟩:=List.mem_map.1 hy
 have:=o0 x.name
 show (nE x.name).size≤_
 omega
theorem Bw (l:List dH):(je l).length≤8:=by unfold je; rw [List.length_map,List.length_take]; omega
theorem VW (l:List cE):(ED l).length≤50:=by unfold ED; rw [List.length_map,List.length_take]; omega
theorem EH (l:List dF):(kB l).length≤4:=by unfold kB; rw [List.length_map,List.length_take]; omega
theorem acG (l:List cE):∀ y∈ED l,SzS y:=by
 intro y hy
 obtain ⟨x,_,rfl⟩:=List.mem_map.1 hy
 have h1:=o0 x.gM
 have h2:=o0 x.name
 have h3:=EF x.e
 have h4:=EF x.f
 exact ⟨by show (nE x.gM).size≤_; omega,by show (nE x.name).size≤_; omega,by show (xR x.e).length≤_; omega,by show (xR x.f).length≤_; omega,IU _,IU _⟩
theorem N8 (t:dF):(yk t).aK.length≤6:=by show ((t.aK.take 6).map nE).length≤6; rw [List.length_map,List.length_take]; omega
theorem GY (l:List dF):∀ y∈kB l,SzT y∧y.aK.length≤500∧y.body.length≤500:=by
 intro y hy
 obtain ⟨x,_,rfl⟩:=List.mem_map.1 hy
 have h1:=o0 x.name
 have h2:=N8 x
 have h3:=VW x.body
 refine ⟨⟨by show (nE x.name).size≤_; omega,λ s hs=>?_,acG _⟩,by omega,by show (ED x.body).length≤_; omega⟩
 obtain ⟨z,_,rfl⟩:=List.mem_map.1 (show s∈(x.aK.take 6).map nE from hs)
 have:=o0 z
 omega
theorem IV (p:cO):PZ (mW p):=by
 have hl:(mW p).lines.length≤6:=by show ((p.lines.take 6).map je).length≤6; rw [List.length_map,List.length_take]; omega
 have hc:(mW p).cB.length≤6:=by show ((p.cB.take 6).map EE).length≤6; rw [List.length_map,List.length_take]; omega
 have h1:=Bw p.jX
 have h2:=Bw p.locks
 have h3:=EH p.threads
 have h4:=EH p.recover
 have hth:∀ t∈(mW p).threads++(mW p).recover,SzT t∧t.aK.length≤500∧t.body.length≤500:=by
  intro t ht
  rcases List.mem_append.1 ht with h | h
  ·exact GY _ t h
  ·exact GY _ t h
 refine {lines:=by omega,line:=λ l h=>?_,jX:=by show (je p.jX).length≤500; omega,locks:=by show (je p.locks).length≤500; omega,threads:=by show (kB p.threads).length≤500; omega,recover:=by show (kB p.recover).length≤500; omega,cB:=by omega,aK:=λ t ht=>(hth t ht).2.1,body:=λ t ht=>(hth t ht).2.2,zl:=λ l h c hc=>?_,zv:=EG _,zk:=EG _,zt:=λ t ht=>(hth t (List.mem_append_left _ ht)).1,zr:=λ t ht=>(hth t (List.mem_append_right _ ht)).1,zc:=λ c h=>?_}
 ·obtain ⟨x,_,rfl⟩:=List.mem_map.1 (show l∈(p.lines.take 6).map je from h)
  have:=Bw x; omega
 ·obtain ⟨x,_,rfl⟩:=List.mem_map.1 (show l∈(p.lines.take 6).map je from h)
  exact EG x c hc
 ·obtain ⟨x,_,rfl⟩:=List.mem_map.1 (show c∈(p.cB.take 6).map EE from h)
  have:=EF x.e
  exact ⟨by show (xR x.e).length≤_; omega,IU _⟩
theorem C39 (lv:Value) (xs:List cY) (w:World) (hL:eL (λ _=>True) w lv xs):CR 39 [lv] w (λ v w'=>mc (bL v (xR xs)) w w'):=by
 have hs:=St.start w;refine agO _ _ _ ?_;unfold S39;refine bX (([]:List cY)) hs lZ rfl rfl (eE rfl) (λ aco w1 hs=>?_);refine ⟨λ m fX x w1=>∃ k:Nat,x = .int .i64 (k:Int)∧m=60 - k∧k≤60∧k≤xs.length∧St w bD [bL fX ((xs.take k).map acE)] w1,⟨_,0,rfl,rfl,by omega,by omega,hs⟩,?_⟩;rintro m fX _ w2 ⟨k,rfl,rfl,hk,JF,hs⟩ fu;have IW:((xs.take k).map acE).length=k:=by rw [List.length_map,List.length_take]; omega
 refine ⟨λ jv w'=>jv = .bool (decide (k<xs.length∧k<60))∧St w bD [bL fX ((xs.take k).map acE)] w',?_,?_⟩
 ·refine aJ lZ (hL.ext hs.aE) (aR (aC (λ fB=>?_) (λ fB=>?_)))
  ·refine aR ?_;exact ⟨vb (by grind),hs⟩
  ·exact ⟨vb (by grind),hs⟩
 ·rintro _ w3 ⟨rfl,hs⟩ jz;refine aY (λ gV=>?_) (λ gV=>?_)
  ·have apN:k<xs.length∧k<60:=by simpa using gV
   obtain ⟨jg,fE⟩:=gx (xs) (i:=((k:Int)).toNat) (by omega);refine aQ lZ hL (by omega) fE (λ _ jR=>aD Kq (jR.ext hs.aE) (aO hs PX (λ ui w4 hs=>aI (x:=jg) hs Kq rfl rfl (λ w5 hs=>aA lq (aB (v:=.string ((jg).name)) kf hs.hb rfl (aA lq (aB (v:=.string ((jg).name)) kf hs.hb rfl (gh gP (xg (oU gP (by omega) (by omega) (aA lq (aV hs kf (eE rfl) (rfl) (λ w6 hs=>?_)))))))))))));have hs:=hs.enc (cs':=Flat.enc ({jg with name:=(((jg).name).extract 0 ((min (((jg).name).size:Int) 40)).toNat)}:cY)) rfl;refine aD Kq hs.At (bX ([({jg with name:=(((jg).name).extract 0 ((min (((jg).name).size:Int) 40)).toNat)}:cY)]) hs lZ rfl rfl (eE rfl) (λ Vy w7 hs=>?_))
   have N9:=(hs).fM;refine cP hs.p2 lZ N9 (by rw [IW,List.length_singleton]; omega) (by decide) (λ VX w8 hs=>have hs:=hs.p1.drop;aN (by omega) ?_);have hs:=(hs.p1).drop;exact ⟨_,by omega,k+1,rfl,rfl,by omega,by omega,by rw [← iV (k:=k) fE]; exact hs⟩
  ·rw [rI (xs:=xs) (k:=k) (m:=60) (by omega) (by omega) (of_decide_eq_false gV)] at hs;exact hs.fresh
theorem C37 (lv:Value) (xs:List dH) (w:World) (hL:eL (λ _=>True) w lv xs):CR 37 [lv] w (λ v w'=>mc (bL v (je xs)) w w'):=by
 have hs:=St.start w;refine agL _ _ _ ?_;unfold S37;refine bX (([]:List dH)) hs j9 rfl rfl (eE rfl) (λ aco w1 hs=>?_);refine ⟨λ m fX x w1=>∃ k:Nat,x = .int .i64 (k:Int)∧m=8 - k∧k≤8∧k≤xs.length∧St w bD [bL fX ((xs.take k).map acF)] w1,⟨_,0,rfl,rfl,by omega,by omega,hs⟩,?_⟩;rintro m fX _ w2 ⟨k,rfl,rfl,hk,JF,hs⟩ fu;have IW:((xs.take k).map acF).length=k:=by rw [List.length_map,List.length_take]; omega
 refine ⟨λ jv w'=>jv = .bool (decide (k<xs.length∧k<8))∧St w bD [bL fX ((xs.take k).map acF)] w',?_,?_⟩
 ·refine aJ j9 (hL.ext hs.aE) (aR (aC (λ fB=>?_) (λ fB=>?_)))
  ·refine aR ?_;exact ⟨vb (by grind),hs⟩
  ·exact ⟨vb (by grind),hs⟩
 ·rintro _ w3 ⟨rfl,hs⟩ jz;refine aY (λ gV=>?_) (λ gV=>?_)
  ·have apN:k<xs.length∧k<8:=by simpa using gV
   obtain ⟨jg,fE⟩:=gx (xs) (i:=((k:Int)).toNat) (by omega);refine aQ j9 hL (by omega) fE (λ _ jR=>aD yd (jR.ext hs.aE) (aO hs CJ (λ ajo w4 hs=>aI (x:=jg) hs yd rfl rfl (λ w5 hs=>aA pI (aB (v:=.string ((jg).name)) kf hs.hb rfl (aA pI (aB (v:=.string ((jg).name)) kf hs.hb rfl (gh gP (xg (oU gP (by omega) (by omega) (aA pI (aV hs kf (eE rfl) (rfl) (λ w6 hs=>?_)))))))))))));have hs:=hs.enc (cs':=Flat.enc ({jg with name:=(((jg).name).extract 0 ((min (((jg).name).size:Int) 40)).toNat)}:dH)) rfl;refine aD yd hs.At (bX ([({jg with name:=(((jg).name).extract 0 ((min (((jg).name).size:Int) 40)).toNat)}:dH)]) hs j9 rfl rfl (eE rfl) (λ Vy w7 hs=>?_))
   have N9:=(hs).fM;refine cP hs.p2 j9 N9 (by rw [IW,List.length_singleton]; omega) (by decide) (λ VX w8 hs=>have hs:=hs.p1.drop;aN (by omega) ?_);have hs:=(hs.p1).drop;exact ⟨_,by omega,k+1,rfl,rfl,by omega,by omega,by rw [← iV (k:=k) fE]; exact hs⟩
  ·rw [rI (xs:=xs) (k:=k) (m:=8) (by omega) (by omega) (of_decide_eq_false gV)] at hs;exact hs.fresh
theorem C92 (lv:Value) (xs:List cE) (w:World) (hL:DL w lv xs):CR 92 [lv] w (λ v w'=>mc (fj v (ED xs)) w w'):=by
 have hs:=St.start w;refine ahv _ _ _ ?_;unfold S92;refine v7 (α:=cE) hs jj (λ aco w1 hs=>?_);refine ⟨λ m fX x w1=>∃ k:Nat,x = .int .i64 (k:Int)∧m=50 - k∧k≤50∧k≤xs.length∧St w bD [fj fX ((xs.take k).map QD)] w1,⟨_,0,rfl,rfl,by omega,by omega,hs⟩,?_⟩;rintro m fX _ w2 ⟨k,rfl,rfl,hk,JF,hs⟩ fu;have IW:((xs.take k).map QD).length=k:=by rw [List.length_map,List.length_take]; omega
 refine ⟨λ jv w'=>jv = .bool (decide (k<xs.length∧k<50))∧St w bD [fj fX ((xs.take k).map QD)] w',?_,?_⟩
 ·obtain ⟨ts60,axs,axt⟩:=(hL).open;have hn60:=axt.1;refine aJ jj (axs.ext hs.aE) (aR (aC (λ fB=>?_) (λ fB=>?_)))
  ·refine aR ?_;exact ⟨vb (by grind),hs⟩
  ·exact ⟨vb (by grind),hs⟩
 ·rintro _ w3 ⟨rfl,hs⟩ jz;refine aY (λ gV=>?_) (λ gV=>?_)
  ·have apN:k<xs.length∧k<50:=by simpa using gV
   obtain ⟨axu,axv,apO⟩:=(hL).open;have hn61:=apO.1;obtain ⟨jg,fE⟩:=gx axu (i:=((k:Int)).toNat) (by omega);obtain ⟨dK,oc⟩:=gx (xs) (i:=((k:Int)).toNat) (by omega);obtain ⟨CO,Ak,rfl,acI,acJ⟩:=apO.2 _ _ _ fE oc;refine aQ jj axv (by omega) fE (λ _ jR=>aD fO (jR.ext hs.aE) (aO hs pn (λ ui w4 hs=>have hs:=hs.enc (cs':=Flat.enc (⟨0,(ByteArray.mk #[]),(ByteArray.mk #[]),⟨none,0,0⟩,⟨none,0,0⟩,0,0,0,0⟩:bV)) rfl;aI (x:=(⟨(dK).kind,(dK).gM,(dK).name,CO,Ak,(dK).n,(dK).body,(dK).fw,(dK).at_⟩:bV)) hs fO rfl rfl (λ w5 hs=>aA l6 (aB (v:=.string ((dK).gM)) kf hs.hb rfl (aA l6 (aB (v:=.string ((dK).gM)) kf hs.hb rfl (gh gP (xg (oU gP (by omega) (by omega) (aA l6 ?_)))))))))))
   have axw:=DL.flat (acI);have axx:=DL.flat (acJ);refine aV hs kf (eE rfl) (rfl) (λ w6 hs=>have hs:=hs.enc (cs':=Flat.enc (⟨(dK).kind,(((dK).gM).extract 0 ((min (((dK).gM).size:Int) 40)).toNat),(dK).name,CO,Ak,(dK).n,(dK).body,(dK).fw,(dK).at_⟩:bV)) rfl;aA jq (aB (v:=.string (dK).name) kf hs.hb rfl (aA jq (aB (v:=.string (dK).name) kf hs.hb rfl (gh gP (xg (oU gP (by omega) (by omega) (aA jq (aV hs kf (eE rfl) (rfl) (λ w7 hs=>have hs:=hs.enc (cs':=Flat.enc (⟨(dK).kind,(((dK).gM).extract 0 ((min (((dK).gM).size:Int) 40)).toNat),(((dK).name).extract 0 ((min (((dK).name).size:Int) 40)).toNat),CO,Ak,(dK).n,(dK).body,(dK).fw,(dK).at_⟩:bV)) rfl;aA l7 (aB (v:=Flat.val (CO:SV)) mY hs.hb rfl (dG aho hs (C39 _ _ _ (axw.ext hs.aE)) (λ x39 w8 cA hs=>?_)))))))))))))
   refine aA l7 ?_;obtain ⟨yP,rfl⟩:=(hs).fT;refine aV hs.p1 mY (eE rfl) (rfl) (λ w9 hs=>have hs:=hs.enc (cs':=Flat.enc (⟨(dK).kind,(((dK).gM).extract 0 ((min (((dK).gM).size:Int) 40)).toNat),(((dK).name).extract 0 ((min (((dK).name).size:Int) 40)).toNat),yP,Ak,(dK).n,(dK).body,(dK).fw,(dK).at_⟩:bV)) rfl;aA nT (aB (v:=Flat.val (Ak:SV)) mY hs.hb rfl (dG aho hs (C39 _ _ _ (axx.ext hs.aE)) (λ x43 qd cA hs=>aA nT ?_))));obtain ⟨Bx,rfl⟩:=(hs).fT;refine aV hs.p1 mY (eE rfl) (rfl) (λ tG hs=>have hs:=hs.enc (cs':=Flat.enc (⟨(dK).kind,(((dK).gM).extract 0 ((min (((dK).gM).size:Int) 40)).toNat),(((dK).name).extract 0 ((min (((dK).name).size:Int) 40)).toNat),yP,Bx,(dK).n,(dK).body,(dK).fw,(dK).at_⟩:bV)) rfl;aD fO hs.At (have hs:=hs.p2.freeze.p2.freeze.p1.fK.dQ (Ψ:=(λ w=>cD.dr w (⟨(dK).kind,(((dK).gM).extract 0 ((min (((dK).gM).size:Int) 40)).toNat),(((dK).name).extract 0 ((min (((dK).name).size:Int) 40)).toNat),yP,Bx,(dK).n,(dK).body,(dK).fw,(dK).at_⟩:bV) (⟨(dK).kind,(((dK).gM).extract 0 ((min (((dK).gM).size:Int) 40)).toNat),(((dK).name).extract 0 ((min (((dK).name).size:Int) 40)).toNat),(xR (dK).e),(xR (dK).f),(dK).n,(dK).body,(dK).fw,(dK).at_⟩:cE))) (λ w h=>⟨_,_,rfl,DL.fp h.1,DL.fp h.2⟩);eF (s:=(⟨(dK).kind,(((dK).gM).extract 0 ((min (((dK).gM).size:Int) 40)).toNat),(((dK).name).extract 0 ((min (((dK).name).size:Int) 40)).toNat),yP,Bx,(dK).n,(dK).body,(dK).fw,(dK).at_⟩:bV)) (x:=(⟨(dK).kind,(((dK).gM).extract 0 ((min (((dK).gM).size:Int) 40)).toNat),(((dK).name).extract 0 ((min (((dK).name).size:Int) 40)).toNat),(xR (dK).e),(xR (dK).f),(dK).n,(dK).body,(dK).fw,(dK).at_⟩:cE)) hs jj (by decide) (λ apP vt hs=>have hs:=hs.p2;dY hs jj (by rw [IW,List.length_singleton]; omega) (by decide) (λ apx uU hs=>aN (by omega) ?_))))
   have hs:=(hs.p1).drop;exact ⟨_,by omega,k+1,rfl,rfl,by omega,by omega,by rw [← iV (k:=k) oc]; exact hs⟩
  ·rw [rI (xs:=xs) (k:=k) (m:=50) (by omega) (by omega) (of_decide_eq_false gV)] at hs;exact hs.fresh
set_option maxHeartbeats 4000000 in
theorem C38 (lv:Value) (xs:List dF) (w:World) (hL:DL w lv xs):CR 38 [lv] w (λ v w'=>mc (fj v (kB xs)) w w'):=by
 have hs:=St.start w;refine agN _ _ _ ?_;unfold S38;refine v7 (α:=dF) hs im (λ Ln w1 hs=>?_);refine ⟨λ m fX x w1=>∃ k:Nat,x = .int .i64 (k:Int)∧m=4 - k∧k≤4∧k≤xs.length∧St w bD [fj fX ((xs.take k).map yk)] w1,⟨_,0,rfl,rfl,by omega,by omega,hs⟩,?_⟩;rintro m fX _ w2 ⟨k,rfl,rfl,hk,JF,hs⟩ fu;have IW:((xs.take k).map yk).length=k:=by rw [List.length_map,List.length_take]; omega
 refine ⟨λ jv w'=>jv = .bool (decide (k<xs.length∧k<4))∧St w bD [fj fX ((xs.take k).map yk)] w',?_,?_⟩
 ·obtain ⟨ts64,axy,axz⟩:=(hL).open;have hn64:=axz.1;refine aJ im (axy.ext hs.aE) (aR (aC (λ gJ=>?_) (λ gJ=>?_)))
  ·refine aR ?_;exact ⟨vb (by grind),hs⟩
  ·exact ⟨vb (by grind),hs⟩
 ·rintro _ w3 ⟨rfl,hs⟩ jz;refine aY (λ jQ=>?_) (λ jQ=>?_)
  ·have hc15:k<xs.length∧k<4:=by simpa using jQ
   obtain ⟨axA,Oa,apQ⟩:=(hL).open;have hn65:=apQ.1;obtain ⟨afi,o7⟩:∃ xx,axA[((k:Int)).toNat]? = some xx:=⟨_,List.getElem?_eq_getElem (by omega)⟩;obtain ⟨fI,VY⟩:∃ xx,(xs)[((k:Int)).toNat]? = some xx:=⟨_,List.getElem?_eq_getElem (by omega)⟩;obtain ⟨yQ,Ob,rfl,EI,EJ⟩:=apQ.2 _ _ _ o7 VY;refine ⟨λ nj w'=>St w bD [fj nj ((xs.take k).map yk++[yk fI])] w',?_,?_⟩
   ·refine ⟨λ jv w'=>∃ (EK:Nat) (F0:SV),jv = .pointer (some ⟨EK,0,none⟩)∧St w bD [cC EK (Flat.enc (⟨((fI).name.extract 0 (min (((fI).name).size:Int) 40).toNat),⟨none,0,0⟩,F0,(fI).at_⟩:ed)),fj (Flat.val F0) (ED (fI).body),fj fX ((xs.take k).map yk)] w',?_,?_⟩
    ·refine aQ im Oa (by omega) o7 (λ _ LB=>bT (fI).name zD LB rfl rfl (λ _ Al=>have hs:=hs.drew;aD kf (Al.ext hs.aE) (aQ im Oa (by omega) o7 (λ _ um=>bT (fI).name zD um rfl rfl (λ _ ry=>aD kf (ry.ext hs.aE) (gh gP (xg (oU gP (by omega) (by omega) (aQ im Oa (by omega) o7 (λ _ Aa=>bT (fI).at_ zE Aa rfl rfl (λ _ rJ=>aD bN (rJ.ext hs.aE) (aQ im Oa (by omega) o7 (λ _ Ej=>?_)))))))))))));refine bT Ob nO Ej rfl rfl (λ _ uh=>aD qW (uh.ext hs.aE) ?_);refine ⟨?_,?_⟩
     ·refine dG amy hs (C92 _ _ _ (EJ.ext hs.aE)) (λ x41 w4 cA hs=>?_);refine ⟨fP kf (Al.ext hs.aE),?_⟩;refine ⟨fP kf (ry.ext hs.aE),?_⟩;refine ⟨fP bN (rJ.ext hs.aE),?_⟩;obtain ⟨IX,rfl⟩:=(hs).lT;refine pop (BW _ _ _ _ _) (aO hs Ng (λ b_t5 w5 hs=>?_));have hs:=hs.enc (cs':=Flat.enc (⟨(ByteArray.mk #[]),⟨none,0,0⟩,⟨none,0,0⟩,0⟩:ed)) rfl;refine ⟨fP kf (Al.ext hs.aE),?_⟩;refine ⟨fP kf (ry.ext hs.aE),?_⟩;refine ⟨fP bN (rJ.ext hs.aE),?_⟩;refine ⟨fP qW (uh.ext hs.aE),?_⟩;refine aI (x:=(⟨(((fI).name).extract 0 ((min (((fI).name).size:Int) 40)).toNat),⟨none,0,0⟩,IX,(fI).at_⟩:ed)) hs Ij rfl rfl (λ w6 hs=>?_)
      have hs:=hs.p2.p2.p2;exact ⟨_,_,rfl,hs⟩
     ·refine ⟨?_,?_⟩
      ·refine aO hs Ng (λ axB w7 hs=>?_);have hs:=hs.enc (cs':=Flat.enc (⟨(ByteArray.mk #[]),⟨none,0,0⟩,⟨none,0,0⟩,0⟩:ed)) rfl;refine ⟨fP kf (Al.ext hs.aE),?_⟩;refine ⟨fP kf (ry.ext hs.aE),?_⟩;refine ⟨fP bN (rJ.ext hs.aE),?_⟩;refine ⟨fP qW (uh.ext hs.aE),?_⟩;refine dG amy hs (C92 _ _ _ (EJ.ext hs.aE)) (λ x41_1 w8 cA hs=>?_);refine ⟨fP kf (Al.ext hs.aE),?_⟩;refine ⟨fP kf (ry.ext hs.aE),?_⟩;refine ⟨fP bN (rJ.ext hs.aE),?_⟩;obtain ⟨VZ,rfl⟩:=(hs).lT;refine pop (BW _ _ _ _ _) (aI (x:=(⟨(((fI).name).extract 0 ((min (((fI).name).size:Int) 40)).toNat),⟨none,0,0⟩,VZ,(fI).at_⟩:ed)) hs.p1 Ij rfl rfl (λ w9 hs=>?_))
       have hs:=hs.p2.p2.p2;exact ⟨_,_,rfl,hs⟩
      ·trivial
    ·rintro _ qd ⟨EK,F0,rfl,hs⟩ oG;have hs:=((((hs.fY (α:=ByteArray)).p3).p3).p2).p3;refine ⟨λ m x w1=>∃ (j:Nat) (LC:SV),x = .int .i64 (j:Int)∧m=6 - j∧j≤6∧j≤(fI).aK.length∧St w bD [cC EK (Flat.enc (⟨((fI).name.extract 0 (min (((fI).name).size:Int) 40).toNat),LC,F0,(fI).at_⟩:ed)),bL (Flat.val LC) (((fI).aK.take j).map nE),fj (Flat.val F0) (ED (fI).body),fj fX ((xs.take k).map yk)] w1,⟨_,0,⟨none,0,0⟩,rfl,rfl,by omega,by omega,hs⟩,?_⟩;rintro m _ tG ⟨j,LC,rfl,rfl,hj,hj2,hs⟩ GR;have ajp:(((fI).aK.take j).map nE).length=j:=by rw [List.length_map,List.length_take]; omega
     refine ⟨λ jv w'=>jv = .bool (decide (j<(fI).aK.length∧j<6))∧St w bD [cC EK (Flat.enc (⟨((fI).name.extract 0 (min (((fI).name).size:Int) 40).toNat),LC,F0,(fI).at_⟩:ed)),bL (Flat.val LC) (((fI).aK.take j).map nE),fj (Flat.val F0) (ED (fI).body),fj fX ((xs.take k).map yk)] w',?_,?_⟩
     ·refine aQ im Oa (by omega) o7 (λ _ Lj=>bT yQ jy Lj rfl rfl (λ _ D3=>aD pF (D3.ext hs.aE) ?_));have axD:=DL.flat (EI);refine aJ mZ (axD.ext hs.aE) (aR (aC (λ pP=>?_) (λ pP=>?_)))
      ·refine aR ?_;exact ⟨vb (by grind),hs⟩
      ·exact ⟨vb (by grind),hs⟩
     ·rintro _ vt ⟨rfl,hs⟩ R7;refine aY (λ wy=>?_) (λ wy=>?_)
      ·have hc54:j<(fI).aK.length∧j<6:=by simpa using wy
       refine aA jy (have hs:=hs.drew;aB (v:=Flat.val (LC:SV)) pF hs.hb rfl (aQ im Oa (by omega) o7 (λ _ Vn=>bT yQ jy Vn rfl rfl (λ _ LD=>aD pF (LD.ext hs.aE) ?_))));have apR:=DL.flat (EI);obtain ⟨QE,EL⟩:=gx ((fI).aK) (i:=((j:Int)).toNat) (by omega);refine aQ mZ apR (by omega) EL (λ _ yl=>aD kf (yl.ext hs.aE) (aQ im Oa (by omega) o7 (λ _ Vo=>bT yQ jy Vo rfl rfl (λ _ LA=>aD pF (LA.ext hs.aE) (aQ mZ apR (by omega) EL (λ _ apS=>aD kf (apS.ext hs.aE) (gh gP (xg (oU gP (by omega) (by omega) (bX ([((QE).extract 0 ((min ((QE).size:Int) 40)).toNat)]) hs mZ rfl rfl (eE rfl) (λ apT uU hs=>?_)))))))))))
       refine ⟨aG pF (hs.p1.hb.cell rfl),?_⟩;have ajq:=(hs).fM;refine cP hs.p2 mZ ajq (by rw [ajp,List.length_singleton]; omega) (by decide) (λ s_x79 sw hs=>have hs:=hs.p1.drop;aA jy ?_);obtain ⟨V0,rfl⟩:=(hs).fT;refine aV hs.p1 pF (eE rfl) (rfl) (λ wc hs=>have hs:=hs.enc (cs':=Flat.enc (⟨((fI).name.extract 0 (min (((fI).name).size:Int) 40).toNat),V0,F0,(fI).at_⟩:ed)) rfl;aN (by omega) ?_);have hs:=hs.p3.p3.p3.p3;exact ⟨_,by omega,j+1,V0,rfl,rfl,by omega,by omega,by rw [← iV (k:=j) EL]; exact hs⟩
      ·refine aD Ij hs.At (have hs:=hs.p1.freeze.p2.jP.p1.fK.dQ (Ψ:=(λ w=>cD.dr w (⟨((fI).name.extract 0 (min (((fI).name).size:Int) 40).toNat),LC,F0,(fI).at_⟩:ed) (⟨((fI).name.extract 0 (min (((fI).name).size:Int) 40).toNat),(((fI).aK.take j).map nE),(ED (fI).body),(fI).at_⟩:dF))) (λ w h=>⟨_,_,rfl,DL.fp h.1,h.2⟩);eF (s:=(⟨((fI).name.extract 0 (min (((fI).name).size:Int) 40).toNat),LC,F0,(fI).at_⟩:ed)) (x:=(⟨((fI).name.extract 0 (min (((fI).name).size:Int) 40).toNat),(((fI).aK.take j).map nE),(ED (fI).body),(fI).at_⟩:dF)) hs im (by decide) (λ apU ze hs=>have hs:=hs.p2;dY hs im (by rw [IW,List.length_singleton]; omega) (by decide) (λ aff Cn hs=>?_)))
       have hs:=(hs.p1).drop;rw [rI (xs:=(fI).aK) (k:=j) (m:=6) (by omega) (by omega) (of_decide_eq_false wy)] at hs;exact hs
   ·rintro nj Iy hs dd6;refine aN (by omega) ?_;exact ⟨_,by omega,k+1,rfl,rfl,by omega,by omega,by rw [← iV (k:=k) VY]; exact hs⟩
  ·rw [rI (xs:=xs) (k:=k) (m:=4) (by omega) (by omega) (of_decide_eq_false jQ)] at hs;exact hs.fresh
end Go.Proofs.YtnjcingfdhjfkaaGreat
