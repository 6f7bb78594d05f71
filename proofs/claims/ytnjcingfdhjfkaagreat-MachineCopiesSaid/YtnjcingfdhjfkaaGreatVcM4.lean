/-
  What the proof needs, part 4.
-/
import Derived.Test.YtnjcingfdhjfkaaGreatVcM3
set_option linter.all false
namespace Go.Proofs.YtnjcingfdhjfkaaGreat
open Go.Fw
theorem Be {l:List cX} (h:jy l=true):∀ y∈l,0≤y.at_:=by
 intro y hy
 unfold jy at h
 have hn:l.any oO=false:=by grind
 rw [List.any_eq_false] at hn
 have:=hn y hy
 unfold oO at this
 grind
structure awa (x:cE):Prop where
 kind:1≤x.kind∧x.kind≤14
 Tl:0≤x.at_∧x.at_≤4000
 e:(en (j1 x.kind) 101=true∧jy x.e=true)∨(en (j1 x.kind) 101=false∧x.e=[])
 f:(en (j1 x.kind) 102=true∧jy x.f=true)∨(en (j1 x.kind) 102=false∧x.f=[])
 gJ:(en (j1 x.kind) 114=true∧jX x.gJ=true)∨(en (j1 x.kind) 114=false∧x.gJ=⟨#[]⟩)
 name:(en (j1 x.kind) 110=true∧jX x.name=true)∨(en (j1 x.kind) 110=false∧x.name=⟨#[]⟩)
 n:(en (j1 x.kind) 107=true∧1≤x.n∧x.n≤8)∨(en (j1 x.kind) 107=false∧x.n=0)
theorem Bf {x:cE} (h:rf x=true):awa x:=by
 unfold rf at h
 simp only [Bool.and_eq_true,Bool.not_eq_true',Bool.or_eq_false_iff,decide_eq_false_iff_not,bne_eq_false_iff_eq,Bool.and_eq_false_iff,Bool.not_eq_false',Decidable.not_not] at h
 obtain ⟨⟨⟨h1,h2⟩,h3⟩,h4⟩:=h
 constructor
 ·omega
 ·omega
 ·cases hh:en (j1 x.kind) 101 <;> grind
 ·cases hh:en (j1 x.kind) 102 <;> grind
 ·cases hh:en (j1 x.kind) 114 <;> grind
 ·cases hh:en (j1 x.kind) 110 <;> grind
 ·cases hh:en (j1 x.kind) 107 <;> grind
theorem ack {x:cE} (h:rf x=true):0≤x.at_∧(∀ y∈x.e,0≤y.at_)∧(∀ y∈x.f,0≤y.at_):=by
 have h:=Bf h
 refine ⟨h.Tl.1,?_,?_⟩
 ·rcases h.e with h | h
  ·exact Be h.2
  ·rw [h.2]; simp
 ·rcases h.f with h | h
  ·exact Be h.2
  ·rw [h.2]; simp
theorem aio:en (j1 12) 107=true:=by decide
theorem nB {l:List cE} (h:uT l=true):l.length≤40∧(∀ x∈l,rf x=true)∧∃ t:Bk,l=t.flat∧t.str∧t.ok 0=true∧t.depth≤12:=by
 unfold uT at h
 simp only [Bool.and_eq_true,decide_eq_true_eq,Bool.not_eq_true'] at h
 obtain ⟨⟨h1,h2⟩,h3⟩:=h
 rw [List.any_eq_false] at h2
 refine ⟨h1,λ x hx=>by simpa using h2 x hx,?_⟩
 unfold gB at h3
 cases hb:oP l with
 | none=>rw [hb] at h3; simp only [] at h3; omega
 | some t=>
  rw [hb] at h3
  obtain ⟨g1,g2⟩:=nq hb
  refine ⟨t,g1,g2,?_⟩
  cases ho:t.ok 0 with
  | true=>simp only [ho,if_true] at h3; exact ⟨rfl,h3.2⟩
  | false=>simp [ho] at h3
structure PF (p:cU):Prop where
 lines:∀ l∈p.lines,l≠[]∧∀ c∈l,nd 4294967296 c=false
 jP:∀ c∈p.jP,nd 4294967296 c=false
 locks:∀ c∈p.locks,nd 0 c=false
 th:∀ t∈p.threads,wh true t=false
 rc:∀ t∈p.recover,wh false t=false
 cl:∀ c∈p.cC,0≤c.at_∧jy c.e=true
 one:p.recover.length≤1
theorem wk {p:cU} (h:l5 p=true):PF p:=by
 unfold l5 sR oe at h
 simp only [Bool.and_eq_true,Bool.not_eq_true',List.any_eq_false,decide_eq_true_eq] at h
 obtain ⟨⟨h1,h2⟩,⟨⟨h3,h4⟩,h5⟩,h6⟩:=h
 refine ⟨λ l hl=>?_,λ c hc=>by simpa using h3.1 c hc,λ c hc=>by simpa using h3.2 c hc,λ t ht=>by simpa using h4 t ht,λ t ht=>by simpa using h5 t ht,λ c hc=>?_,h6⟩
 ·have:=h1 l hl
  unfold xe sR at this
  simp only [Bool.or_eq_true,decide_eq_true_eq,not_or,Bool.not_not,List.any_eq_true,not_exists,not_and,Bool.not_eq_true] at this
  exact ⟨λ h=>this.1 (by rw [h]; rfl),this.2⟩
 ·have:=h2 c hc
  unfold tY uU at this
  simp only [Bool.or_eq_true,Bool.not_eq_true',not_or,Bool.not_eq_false,decide_eq_true_eq,decide_eq_false_iff_not,Decidable.not_not] at this
  exact ⟨this.1.1,by simpa using this.2⟩
theorem yx {nb:Bool} {t:dR} (h:wh nb t=false):0≤t.at_∧uT t.body=true∧(∀ s∈t.aK,jX s=true)∧jX t.name=nb:=by
 unfold wh uV uU at h
 simp only [Bool.or_eq_false_iff,Bool.not_eq_false',decide_eq_true_eq,List.any_eq_false,bne_eq_false_iff_eq] at h
 obtain ⟨⟨⟨⟨h1,_⟩,h2⟩,h3⟩,h4⟩:=h
 exact ⟨h2.1,h3,λ s hs=>by simpa using h4 s hs,h1.symm⟩
theorem rh {m:Int} {c:dF} (h:nd m c=false):0≤c.at_∧jX c.name=true∧0≤c.n∧c.n≤m:=by
 unfold nd uU at h
 simp only [Bool.or_eq_false_iff,Bool.not_eq_false',decide_eq_true_eq,decide_eq_false_iff_not] at h
 exact ⟨by omega,h.1.1.1,by omega,by omega⟩
def iG (p:cU):List dR:=p.threads++p.recover
theorem PF.nf {p:cU} (h:PF p) {t:dR} (ht:t∈iG p):0≤t.at_∧uT t.body=true∧∀ s∈t.aK,jX s=true:=by
 unfold iG at ht
 rcases List.mem_append.1 ht with ht | ht
 ·have:=yx (h.th t ht); exact ⟨this.1,this.2.1,this.2.2.1⟩
 ·have:=yx (h.rc t ht); exact ⟨this.1,this.2.1,this.2.2.1⟩
def pe (p:cU):List Int:=(gF p).map dF.n
def ew (p:cU):Int:=(p.lines.flatten.length:Int)
theorem Vb (p:cU):((gF p).length:Int) - p.jP.length=ew p:=by unfold gF ew; rw [List.length_append]; omega
def fc (p:cU):List ByteArray:=(gF p).map dF.name
def gY (p:cU):List ByteArray:=p.locks.map dF.name
def iq:List (List dF)→Int→Int→Int
 | [],i,a=>i+a
 | l::r,i,a=>if a<l.length then i else iq r (i+1) (a - l.length)
def l6 (p:cU) (c:Int):Int:=if c<0∨(gF p).length≤c then -1 else iq p.lines 0 c
def vo (l:List cX) (ns:List ByteArray):Bool:=l.any λ x=>decide (x.op=2) && decide (dP ns x.name<0)
def sn (x:cE) (n:Int):Int:=if x.kind=12 then n * x.n else n
def oE:Bk→Int→Bool
 | .nil,_=>false
 | .cons x a b r,n=>decide (64<sn x n) || (oE a (sn x n) || oE b (sn x n)) || oE r n
def Bk.app:Bk→Bk→Bk
 | .nil,t=>t
 | .cons x a b r,t=>.cons x a b (r.app t)
theorem Bk.Eg (a b:Bk):(a.app b).flat=a.flat++b.flat:=by
 induction a with
 | nil=>rfl
 | cons x c d r _ _ ih=>simp only [Bk.app,Bk.flat,ih,List.cons_append,List.append_assoc]
theorem Bk.acm {a b:Bk} (ha:a.str) (hb:b.str):(a.app b).str:=by
 induction a with
 | nil=>exact hb
 | cons x c d r _ _ ih=>
  obtain ⟨h1,h2,h3,h4,h5,h6,h7⟩:=ha
  exact ⟨h1,h2,h3,h4,h5,h6,ih h7⟩
theorem RZ (a b:Bk) (n:Int):oE (a.app b) n=(oE a n || oE b n):=by
 induction a with
 | nil=>simp [Bk.app,oE]
 | cons x c d r _ _ ih=>simp only [Bk.app,oE,ih,Bool.or_assoc]
def vp (l:List cE):Bool:=match oP l with | some t=>oE t 1 | none=>false
theorem yy {t:Bk} (h:t.str):vp t.flat=oE t 1:=by unfold vp; rw [oQ h]
def jz (p:cU):List dF:=gF p++p.locks++p.threads.map (λ t=>⟨t.name,0,t.at_⟩)
def CH (l:List dF) (j:Nat):Bool:=match l[j]? with | some c=>decide (dP (l.map dF.name) c.name<j) | none=>false
def ri (l:List dF):Bool:=(List.range l.length).any (CH l)
def Qb (p:cU) (rs:List ByteArray) (j:Nat):Bool:=match rs[j]? with | some s=>decide (dP rs s<j) || decide (0≤dP (fc p) s) || decide (0≤dP (gY p) s) | none=>false
def FP (p:cU) (rs:List ByteArray):Bool:=(List.range rs.length).any (Qb p rs)
theorem m6 {f:Nat→Bool} {n:Nat} (h:∀ j,j<n→f j=false):(List.range n).any f=false:=by
 rw [List.any_eq_false]; intro j hj; rw [h j (List.mem_range.1 hj)]; simp
theorem rj {f:Nat→Bool} {n j:Nat} (hj:j<n) (h:f j=true):(List.range n).any f=true:=List.any_eq_true.2 ⟨j,List.mem_range.2 hj,h⟩
theorem zT {f:Nat→Bool} {k:Nat} (h:∀ j,j<k→f j=false) (hk:f k=false):∀ j,j<k+1→f j=false:=λ j hj=>by
 rcases Nat.lt_or_ge j k with h1 | h1
 ·exact h j h1
 ·obtain rfl:j=k:=by omega
  exact hk
def oh (p:cU) (rs:List ByteArray) (x:cE):Bool:=
 (decide (¬ x.gJ=⟨#[]⟩) && decide (dP rs x.gJ<0)) ||
 ((decide (x.kind=2) || decide (x.kind=3) || decide (x.kind=4)) && decide (dP (fc p) x.name<0)) ||
 ((decide (x.kind=5) || decide (x.kind=6)) && (decide (dP (fc p) x.name<0) || decide (ew p≤dP (fc p) x.name))) ||
 ((decide (x.kind=9) || decide (x.kind=10)) && decide (dP (gY p) x.name<0)) || vo x.e rs || vo x.f rs
def zU (p:cU):Bool:=p.lines.any (λ l=>decide (4<(l.length:Int))) || (iG p).any (λ t=>decide (4<(t.aK.length:Int))) ||
 (decide (4<(p.lines.length:Int)) || decide (4<(p.jP.length:Int)) || decide (2<(p.locks.length:Int)) || decide ((p.threads.length:Int)<1) || decide (3<(p.threads.length:Int)) || decide (4<(p.cC.length:Int)))
def oR (p:cU):List ByteArray:=(fc p).take (ew p).toNat
def gK (p:cU):Int:=
 if l5 p=false then 8 else if zU p=true then 2 else if (iG p).any (λ t=>vp t.body)=true then 11 else if ri (jz p)=true then 10
 else if (iG p).any (λ t=>FP p t.aK)=true then 10 else if (iG p).any (λ t=>t.body.any (oh p t.aK))=true then 9
 else if p.cC.any (λ c=>vo c.e (oR p))=true then 9 else 0
theorem Np {x:cE} (h:rf x=true):0≤x.at_∧(x.kind=12→1≤x.n∧x.n≤8):=by
 have h:=Bf h
 refine ⟨h.Tl.1,λ hk=>?_⟩
 rcases h.n with h | h
 ·exact h.2
 ·rw [hk,aio] at h; exact absurd h.1 (by decide)
section
variable {p:cU}
theorem ce8 (h1:l5 p=false):gK p=8:=by unfold gK; rw [if_pos h1]
theorem ce2 (h1:l5 p=true) (h2:zU p=true):gK p=2:=by unfold gK; rw [if_neg (by rw [h1]; decide),if_pos h2]
theorem awb (h1:l5 p=true) (h2:zU p=false) (h3:(iG p).any (λ t=>vp t.body)=true):gK p=11:=by unfold gK; rw [if_neg (by rw [h1]; decide),if_neg (by rw [h2]; decide),if_pos h3]
theorem awc (h1:l5 p=true) (h2:zU p=false) (h3:(iG p).any (λ t=>vp t.body)=false) (h4:ri (jz p)=true):gK p=10:=by
 unfold gK; rw [if_neg (by rw [h1]; decide),if_neg (by rw [h2]; decide),if_neg (by rw [h3]; decide),if_pos h4]
theorem aoO (h1:l5 p=true) (h2:zU p=false) (h3:(iG p).any (λ t=>vp t.body)=false) (h4:ri (jz p)=false) (h5:(iG p).any (λ t=>FP p t.aK)=true):gK p=10:=by
 unfold gK; rw [if_neg (by rw [h1]; decide),if_neg (by rw [h2]; decide),if_neg (by rw [h3]; decide),if_neg (by rw [h4]; decide),if_pos h5]
theorem ce9 (h1:l5 p=true) (h2:zU p=false) (h3:(iG p).any (λ t=>vp t.body)=false) (h4:ri (jz p)=false) (h5:(iG p).any (λ t=>FP p t.aK)=false)
  (h6:(iG p).any (λ t=>t.body.any (oh p t.aK))=true):gK p=9:=by
 unfold gK; rw [if_neg (by rw [h1]; decide),if_neg (by rw [h2]; decide),if_neg (by rw [h3]; decide),if_neg (by rw [h4]; decide),if_neg (by rw [h5]; decide),if_pos h6]
theorem awd (h1:l5 p=true) (h2:zU p=false) (h3:(iG p).any (λ t=>vp t.body)=false) (h4:ri (jz p)=false) (h5:(iG p).any (λ t=>FP p t.aK)=false)
  (h6:(iG p).any (λ t=>t.body.any (oh p t.aK))=false) (h7:p.cC.any (λ c=>vo c.e (oR p))=true):gK p=9:=by
 unfold gK; rw [if_neg (by rw [h1]; decide),if_neg (by rw [h2]; decide),if_neg (by rw [h3]; decide),if_neg (by rw [h4]; decide),if_neg (by rw [h5]; decide),if_neg (by rw [h6]; decide),if_pos h7]
theorem ce0 (h1:l5 p=true) (h2:zU p=false) (h3:(iG p).any (λ t=>vp t.body)=false) (h4:ri (jz p)=false) (h5:(iG p).any (λ t=>FP p t.aK)=false)
  (h6:(iG p).any (λ t=>t.body.any (oh p t.aK))=false) (h7:p.cC.any (λ c=>vo c.e (oR p))=false):gK p=0:=by
 unfold gK; rw [if_neg (by rw [h1]; decide),if_neg (by rw [h2]; decide),if_neg (by rw [h3]; decide),if_neg (by rw [h4]; decide),if_neg (by rw [h5]; decide),if_neg (by rw [h6]; decide),if_neg (by rw [h7]; decide)]
theorem PF.decl (h:PF p):∀ c∈jz p,0≤c.at_:=by
 intro c hc
 unfold jz gF at hc
 rcases List.mem_append.1 hc with hc | hc
 ·rcases List.mem_append.1 hc with hc | hc
  ·rcases List.mem_append.1 hc with hc | hc
   ·obtain ⟨l,hl,hc⟩:=List.mem_flatten.1 hc
    exact (rh ((h.lines l hl).2 c hc)).1
   ·exact (rh (h.jP c hc)).1
  ·exact (rh (h.locks c hc)).1
 ·obtain ⟨t,ht,rfl⟩:=List.mem_map.1 hc
  exact (yx (h.th t ht)).1
theorem R0 (hz:PS p):(jz p).length≤252000:=by
 have:=m4 hz
 have:=hz.locks
 have:=hz.threads
 unfold jz; simp only [List.length_append,List.length_map]; omega
theorem l7 (hz:PS p):(fc p).length≤250500:=by unfold fc; rw [List.length_map]; exact m4 hz
theorem Qc (hz:PS p):(iG p).length≤1000:=by
 have:=hz.threads
 have:=hz.recover
 unfold iG; rw [List.length_append]; omega
theorem PZ.nf (hz:PZ p) {t:dR} (ht:t∈iG p):SzT t∧t.aK.length≤500∧t.body.length≤500:=by
 refine ⟨?_,hz.aK t ht,hz.body t ht⟩
 rcases List.mem_append.1 ht with h | h
 ·exact hz.zt t h
 ·exact hz.zr t h
end
theorem C93 (p:cU) (pv:bN) (w:World) (hp:cA.dr w pv p) (hz:PZ p):CR 93 [Flat.val pv] w (λ v w'=>v = .bool (l5 p)∧Ext w w'):=by
 obtain ⟨bH,bQ,bI,aT,aU,aY,rfl,cI,cZ,cJ,bR,bO,cB⟩:=hp;have hs:=St.start w;refine ahJ _ _ _ ?_;unfold S93;refine dE hs (λ kD w1 hs=>?_);refine ⟨λ m x w1=>∃ k:Nat,x = .int .i64 (k:Int)∧m=p.lines.length - k∧k≤p.lines.length∧(∀ y∈p.lines.take k,xe y=false)∧St w bD [cD kD (Flat.enc (⟨bH,bQ,bI,aT,aU,aY⟩:bN))] w1,⟨_,0,rfl,rfl,Nat.zero_le _,by simp,hs⟩,?_⟩;rintro m _ w2 ⟨k,rfl,rfl,hk,fR,hs⟩ fB;have hzl:=hz.lines;refine aA jn (aB rP hs.hb rfl ?_);obtain ⟨awe,aip,aoP⟩:=(cI).open
 have aoQ:=aoP.1;refine aJ vy (aip.ext hs.aF) (aR (aC (λ gu=>?_) (λ gu=>?_)))
 ·obtain ⟨pF,jQ⟩:∃ xx,awe[((k:Int)).toNat]? = some xx:=⟨_,List.getElem?_eq_getElem (by omega)⟩;obtain ⟨mD,oS⟩:∃ xx,((p).lines)[((k:Int)).toNat]? = some xx:=⟨_,List.getElem?_eq_getElem (by omega)⟩;have aoR:DL w (Flat.val pF) mD:=aoP.2 _ _ _ jQ oS;refine ⟨λ jv w'=>jv = .bool (xe mD)∧St w bD [cD kD (Flat.enc (⟨bH,bQ,bI,aT,aU,aY⟩:bN))] w',?_,?_⟩
  ·refine aA jn (aB rP hs.hb rfl (aQ vy (aip.ext hs.aF) (by omega) jQ (λ _ qZ=>aD jt (qZ) ?_)));have aoS:=DL.flat (aoR);refine aJ jZ (aoS.ext hs.aF) (aH (aC (λ gd=>?_) (λ gd=>?_)))
   ·exact ⟨vb (by unfold xe; grind),hs⟩
   ·refine aA jn (aB rP hs.hb rfl (aQ vy (aip.ext hs.aF) (by omega) jQ (λ _ pH=>aD jt (pH) (aZ T1 hs (C155 _ _ _ _ (aoS.ext hs.aF) (by have:=hz.line _ (List.mem_of_getElem? oS); omega) (hz.zl _ (List.mem_of_getElem? oS))) (λ w3 he hs=>bZ ?_)))));exact ⟨vb (by unfold xe; grind),hs⟩
  ·rintro _ w4 ⟨rfl,hs⟩ jw;refine aX (λ gh=>?_) (λ gh=>?_)
   ·refine ⟨vb ?_,hs.drop.aF⟩;unfold l5;rw [jx oS gh]; rfl
   ·refine aO (by omega) ?_;exact ⟨_,by omega,k+1,rfl,rfl,by omega,eD fR oS gh,hs⟩
 ·have aoT:=fR;refine ⟨λ m x w1=>∃ kb:Nat,x = .int .i64 (kb:Int)∧m=p.cC.length - kb∧kb≤p.cC.length∧(∀ y∈p.cC.take kb,tY y=false)∧St w bD [cD kD (Flat.enc (⟨bH,bQ,bI,aT,aU,aY⟩:bN))] w1,⟨_,0,rfl,rfl,Nat.zero_le _,by simp,hs⟩,?_⟩;rintro m _ w5 ⟨kb,rfl,rfl,hkb,Nq,hs⟩ oN;have hzc:=hz.cC;refine aA kJ (aB sN hs.hb rfl ?_);obtain ⟨awf,aiq,aoU⟩:=(cB).open;have hn13:=aoU.1;refine aJ yp (aiq.ext hs.aF) (aR (aC (λ jH=>?_) (λ jH=>?_)))
  ·obtain ⟨KT,Bg⟩:∃ xx,awf[((kb:Int)).toNat]? = some xx:=⟨_,List.getElem?_eq_getElem (by omega)⟩;obtain ⟨afh,Eh⟩:∃ xx,((p).cC)[((kb:Int)).toNat]? = some xx:=⟨_,List.getElem?_eq_getElem (by omega)⟩;obtain ⟨acn,rfl,aco⟩:=aoU.2 _ _ _ Bg Eh;refine ⟨λ jv w'=>jv = .bool (tY afh)∧St w bD [cD kD (Flat.enc (⟨bH,bQ,bI,aT,aU,aY⟩:bN))] w',?_,?_⟩
   ·refine aA kJ (aB sN hs.hb rfl (aQ yp (aiq.ext hs.aF) (by omega) Bg (λ _ Ei=>bT (afh).at_ PA Ei rfl rfl (λ _ tZ=>aD bL (tZ) (aZ Pg hs (C156 _ _) (λ w6 he hs=>bZ (aX (λ lL=>?_) (λ lL=>?_))))))))
    ·exact ⟨vb (by unfold tY; grind),hs⟩
    ·refine aA kJ (aB sN hs.hb rfl (aQ yp (aiq.ext hs.aF) (by omega) Bg (λ _ D4=>bT acn CB D4 rfl rfl (λ _ U3=>aD mR (U3) ?_))));have awg:=DL.flat (aco);refine aZ JS hs (C105 _ _ _ (awg.ext hs.aF) (hz.zc _ (List.mem_of_getElem? Eh)).1 (hz.zc _ (List.mem_of_getElem? Eh)).2) (λ w7 he hs=>bZ ?_);exact ⟨vb (by unfold tY; grind),hs⟩
   ·rintro _ w8 ⟨rfl,hs⟩ GJ;refine aX (λ so=>?_) (λ so=>?_)
    ·refine ⟨vb ?_,hs.drop.aF⟩;unfold l5;rw [jx Eh so]; simp
    ·refine aO (by omega) ?_;exact ⟨_,by omega,kb+1,rfl,rfl,by omega,eD Nq Eh so,hs⟩
  ·refine ⟨λ jv w'=>jv = .bool (sR 4294967296 p.jP && sR 0 p.locks && oe true p.threads && oe false p.recover && decide (p.recover.length≤1))∧St w bD [cD kD (Flat.enc (⟨bH,bQ,bI,aT,aU,aY⟩:bN))] w',?_,?_⟩
   ·refine aA uI (aB jt hs.hb rfl ?_);have awh:=DL.flat (cZ);refine aZ T1 hs (C155 _ _ _ _ (awh.ext hs.aF) (by have:=hz.jP; omega) hz.zv) (λ w9 he hs=>aX (λ Ej=>?_) (λ Ej=>?_))
    ·refine aA rT (aB jt hs.hb rfl ?_);have awi:=DL.flat (cJ);refine aZ T1 hs (C155 _ _ _ _ (awi.ext hs.aF) (by have:=hz.locks; omega) hz.zk) (λ pP he hs=>aX (λ aoV=>?_) (λ aoV=>?_))
     ·refine aA nc (aB ja hs.hb rfl (aZ aeA hs (C157 _ _ true _ (bR.ext hs.aF) (by have:=hz.threads; omega) (λ t ht=>hz.nf (List.mem_append_left _ ht))) (λ sQ he hs=>aX (λ qn=>?_) (λ qn=>?_))))
      ·refine aA rU (aB ja hs.hb rfl (aZ aeA hs (C157 _ _ false _ (bO.ext hs.aF) (by have:=hz.recover; omega) (λ t ht=>hz.nf (List.mem_append_right _ ht))) (λ vl he hs=>aX (λ aoW=>?_) (λ aoW=>?_))))
       ·refine aA rU (aB ja hs.hb rfl ?_);obtain ⟨ts17,awj,awk⟩:=(bO).open;have hn17:=awk.1;refine aJ iI (awj.ext hs.aF) (j3 ?_);exact ⟨vb (by grind),hs⟩
       ·exact ⟨vb (by grind),hs⟩
      ·exact ⟨vb (by grind),hs⟩
     ·exact ⟨vb (by grind),hs⟩
    ·exact ⟨vb (by grind),hs⟩
   ·rintro _ vm ⟨rfl,hs⟩ RX;refine ⟨vb ?_,hs.drop.aF⟩;unfold l5;rw [iF (by rw [List.take_of_length_le (by omega)] at aoT; exact aoT),iF (by rw [List.take_of_length_le (by omega)] at Nq; exact Nq)]; rfl
theorem C42 (p:cU) (pv:bN) (w:World) (hp:cA.dr w pv p) (hz:PZ p):CR 42 [Flat.val pv] w (λ v w'=>lW (bK v (pe p)) w w'):=by
 obtain ⟨bH,bQ,bI,aT,aU,aY,rfl,cI,cZ,cJ,bR,bO,cB⟩:=hp;have hs:=St.start w;refine ag5 _ _ _ ?_;unfold S42;refine dE hs (λ kD w1 hs=>bW (([]:List Int)) hs ei rfl rfl (eJ rfl) (λ acp w2 hs=>aD gI hs.p1.At (dB JQ hs (C102 p _ _ ⟨bH,bQ,bI,aT,aU,aY,rfl,(cI).ext hs.aF,(cZ).ext hs.aF,(cJ).ext hs.aF,(bR).ext hs.aF,(bO).ext hs.aF,(cB).ext hs.aF⟩ hz.toPS) (λ x8 w3 bY hs=>?_))));have hs:=hs.p2.p1.p2;refine ⟨λ m y x w1=>∃ k:Nat,x = .int .i64 (k:Int)∧m=(gF p).length - k∧k≤(gF p).length∧St w bD [bK y (((gF p).take k).map dF.n),bK x8 (gF p),cD kD (Flat.enc (⟨bH,bQ,bI,aT,aU,aY⟩:bN))] w1,⟨_,0,rfl,rfl,by omega,hs⟩,?_⟩
 rintro m fV _ w4 ⟨k,rfl,rfl,hk,hs⟩ fB;have hac:=m4 hz.toPS;have hml:(((gF p).take k).map dF.n).length=k:=by rw [List.length_map,List.length_take]; omega
 refine aJ jZ (hs.p1).fI (aR (aC (λ jV=>?_) (λ jV=>?_)))
 ·obtain ⟨q7,jl⟩:=gx ((gF p)) (i:=((k:Int)).toNat) (by omega);refine dT hs.p1 jZ (by omega) (by omega) (λ _ wc=>mZ zz wc (λ _ jI=>nX (q7).n hs.p1 bL jI jl rfl (bW (([(q7).n]:List Int)) hs ei rfl rfl (eJ rfl) (λ s_x21 w5 hs=>?_))));have air:=(hs).fI;refine cN hs.p1 ei air (by simp <;> omega) (by decide) (λ aoX w6 hs=>have hs:=hs.p1.drop;aO (by omega) ?_);have hs:=hs.p2.p2.p2;exact ⟨_,by omega,k+1,rfl,rfl,by omega,by rw [← iO (k:=k) jl]; exact hs⟩
 ·have hs:=hs.p1.drop.p1.drop;rw [List.take_of_length_le (by omega)] at hs;exact hs.fresh
theorem C46 (p:cU) (pv:bN) (w:World) (hp:cA.dr w pv p) (hz:PZ p):CR 46 [Flat.val pv] w (λ v w'=>lW (bK v (fc p)) w w'):=by
 obtain ⟨bH,bQ,bI,aT,aU,aY,rfl,cI,cZ,cJ,bR,bO,cB⟩:=hp;have hs:=St.start w;refine aha _ _ _ ?_;unfold S46;refine dE hs (λ kD w1 hs=>aD gI hs.At (dB JQ hs (C102 p _ _ ⟨bH,bQ,bI,aT,aU,aY,rfl,(cI).ext hs.aF,(cZ).ext hs.aF,(cJ).ext hs.aF,(bR).ext hs.aF,(bO).ext hs.aF,(cB).ext hs.aF⟩ hz.toPS) (λ x4 w2 bY hs=>dB TX hs (C107 _ _ _ (hs).fI (by have:=m4 hz.toPS; omega)) (λ x5 w3 bY hs=>?_))));have hs:=((hs.p1.drop).p1).drop;exact hs.fresh
theorem C99 (p:cU) (pv:bN) (w:World) (hp:cA.dr w pv p) (hz:PZ p):CR 99 [Flat.val pv] w (λ v w'=>lW (bK v (gY p)) w w'):=by
 obtain ⟨bH,bQ,bI,aT,aU,aY,rfl,cI,cZ,cJ,bR,bO,cB⟩:=hp;have hs:=St.start w;refine ahP _ _ _ ?_;unfold S99;refine dE hs (λ kD w1 hs=>aA rT (aB jt hs.hb rfl ?_));have awl:=DL.flat (cJ);refine dB TX hs (C107 _ _ _ (awl.ext hs.aF) (by have:=hz.locks; omega)) (λ x5 w2 bY hs=>?_);have hs:=(hs.p1).drop;exact hs.fresh
theorem C41 (p:cU) (pv:bN) (w:World) (hp:cA.dr w pv p) (hz:PZ p):CR 41 [Flat.val pv] w (λ v w'=>v = .int .i64 (ew p)∧Ext w w'):=by
 obtain ⟨bH,bQ,bI,aT,aU,aY,rfl,cI,cZ,cJ,bR,bO,cB⟩:=hp;have hs:=St.start w;refine ag4 _ _ _ ?_;unfold S41;refine dE hs (λ kD w1 hs=>have hs:=hs.drew;aD gI hs.At (aA uI (aB jt hs.hb rfl ?_)));have awm:=DL.flat (cZ);refine aJ jZ (awm.ext hs.aF) (dB JQ hs (C102 p _ _ ⟨bH,bQ,bI,aT,aU,aY,rfl,(cI).ext hs.aF,(cZ).ext hs.aF,(cJ).ext hs.aF,(bR).ext hs.aF,(bO).ext hs.aF,(cB).ext hs.aF⟩ hz.toPS) (λ x4 w2 bY hs=>?_));refine ⟨aG jt (hs.p1.hb.cell rfl),?_⟩
 refine aJ jZ (hs).fI ?_;have hac:=m4 hz.toPS;have hzv:=hz.jP;refine gy (by omega) ?_;have hs:=((hs.drop)).drop;exact ⟨congrArg (Value.int .i64) (Vb p),hs.aF⟩
theorem Vc {l:List dF} {r:List (List dF)} {i a:Int} (h:¬ a<l.length):iq (l::r) i a=iq r (i+1) (a - l.length):=by rw [iq,if_neg h]
theorem ais {x:cE} {n m:Int} (hn:1≤n∧n≤64) (h:x.kind=12→1≤x.n∧x.n≤8) (hm:m=sn x n):1≤m∧m≤512:=by
 rw [hm]; unfold sn
 split
 ·rename_i hk
  have:=h hk
  have h1:=Int.mul_le_mul (a:=1) (b:=1) hn.1 this.1 (by omega) (by omega)
  have h2:=Int.mul_le_mul (c:=64) (d:=8) hn.2 this.2 (by omega) (by omega)
  omega
 ·omega
theorem Bk.CI {t:Bk} (h:¬ (t.flat.length:Int)=0):∃ x a b r,t = .cons x a b r:=by
 cases t with
 | nil=>exact absurd rfl h
 | cons x a b r=>exact ⟨x,a,b,r,rfl⟩
theorem Bk.vx {x:cE} {a b r:Bk} (h:(Bk.cons x a b r).str) {hi lo:Int} (h1:hi=1+x.body+x.fE) (h2:lo=1):((Bk.cons x a b r).flat.take hi.toNat).drop lo.toNat=(a.app b).flat:=by
 obtain ⟨g1,g2,_⟩:=h
 have la:=a.cO
 have lb:=b.cO
 rw [Bk.Eg,D7 _ (a:=1) (n:=(a.flat++b.flat).length) (by rw [List.length_append]; omega) (by omega)]
 show (a.flat++(b.flat++r.flat)).take _=_
 rw [← List.append_assoc,List.take_left]
theorem Bk.acq {x:cE} {a b r:Bk} (h:(Bk.cons x a b r).str) {hi:Int} (h1:hi=1+x.body+x.fE):(Bk.cons x a b r).flat.drop hi.toNat=r.flat:=by
 obtain ⟨g1,g2,_⟩:=h
 have la:=a.cO
 have lb:=b.cO
 have e:(Bk.cons x a b r).flat=(x::(a.flat++b.flat))++r.flat:=by simp [Bk.flat]
 rw [e,show hi.toNat=(x::(a.flat++b.flat)).length from by simp; omega,List.drop_left]
theorem GN {l:List dF} {k:Nat} {c:dF} (h:l[k]? = some c):CH l k=decide (dP (l.map dF.name) c.name<k):=by unfold CH; rw [h]
theorem Qd {p:cU} {l:List ByteArray} {k:Nat} {c:ByteArray} (h:l[k]? = some c):Qb p l k=(decide (dP l c<k) || decide (0≤dP (fc p) c) || decide (0≤dP (gY p) c)):=by unfold Qb; rw [h]
theorem Qe (a b:Bk):(a.app b).len=a.len+b.len:=by rw [← Bk.cO,Bk.Eg,List.length_append,Bk.cO,Bk.cO]
theorem C43 (p:cU) (pv:bN) (c:Int) (w:World) (hp:cA.dr w pv p) (hz:PZ p):CR 43 [Flat.val pv,.int .i64 c] w (λ v w'=>v = .int .i64 (l6 p c)∧Ext w w'):=by
 obtain ⟨bH,bQ,bI,aT,aU,aY,rfl,cI,cZ,cJ,bR,bO,cB⟩:=hp;have hs:=St.start w;refine ag7 _ _ _ _ ?_;unfold S43;refine dE hs (λ acr w1 hs=>?_);refine ⟨λ jv w'=>jv = .bool (decide (c<0) || decide (((gF p).length:Int)≤c))∧St w bD [cD acr (Flat.enc (⟨bH,bQ,bI,aT,aU,aY⟩:bN))] w',?_,?_⟩
 ·refine aR (aC (λ gn=>?_) (λ gn=>?_))
  ·exact ⟨vb (by grind),hs⟩
  ·refine aD gI hs.At (dB JQ hs (C102 p _ _ ⟨bH,bQ,bI,aT,aU,aY,rfl,(cI).ext hs.aF,(cZ).ext hs.aF,(cJ).ext hs.aF,(bR).ext hs.aF,(bO).ext hs.aF,(cB).ext hs.aF⟩ hz.toPS) (λ x12 w2 bY hs=>aJ jZ (hs).fI (dG ?_)));have hs:=(hs).drop;exact ⟨vb (by grind),hs⟩
 ·rintro _ w3 ⟨rfl,hs⟩ fB;have hac:=m4 hz.toPS;refine aX (λ jG=>?_) (λ jG=>?_)
  ·refine ⟨congrArg (Value.int .i64) ?_,hs.drop.aF⟩;unfold l6;rw [if_pos (by grind)]
  ·have YI:0≤c∧c<(gF p).length:=by grind
   refine ⟨λ m y x w1=>∃ (k:Nat) (a:Int),y = .int .i64 a∧x = .int .i64 (k:Int)∧m=p.lines.length - k∧k≤p.lines.length∧0≤a∧a≤c∧iq p.lines 0 c=iq (p.lines.drop k) k a∧St w bD [cD acr (Flat.enc (⟨bH,bQ,bI,aT,aU,aY⟩:bN))] w1,⟨_,0,c,rfl,rfl,rfl,by omega,by omega,by omega,rfl,hs⟩,?_⟩;rintro m _ _ w4 ⟨k,a,rfl,rfl,rfl,hk,ha0,hac1,Qf,hs⟩ jw;have hzl:=hz.lines;refine aA jn (aB rP hs.hb rfl ?_);obtain ⟨awo,acs,aoY⟩:=(cI).open;have awp:=aoY.1;refine aJ vy (acs.ext hs.aF) (aR (aC (λ gr=>?_) (λ gr=>?_)))
   ·refine aA jn (aB rP hs.hb rfl ?_);obtain ⟨xZ,yz⟩:=gx awo (i:=((k:Int)).toNat) (by omega);obtain ⟨aoZ,Ek⟩:=gx ((p).lines) (i:=((k:Int)).toNat) (by omega);have ao0:DL w (Flat.val xZ) aoZ:=aoY.2 _ _ _ yz Ek;refine aQ vy (acs.ext hs.aF) (by omega) yz (λ _ wj=>aD jt (wj) ?_);have ao1:=DL.flat (ao0);refine aJ jZ (ao1.ext hs.aF) (aR (aC (λ lJ=>?_) (λ lJ=>?_)))
    ·refine ⟨congrArg (Value.int .i64) ?_,hs.drop.aF⟩;rw [drop_cons (k:=k) Ek] at Qf;unfold l6;rw [if_neg (by omega),Qf];unfold iq;rw [if_pos (by omega)]
    ·refine aA jn (aB rP hs.hb rfl (aQ vy (acs.ext hs.aF) (by omega) yz (λ _ zS=>aD jt (zS) (aJ jZ (ao1.ext hs.aF) (gy (by omega) (aO (by omega) ?_))))));rw [drop_cons (k:=k) Ek,Vc (by omega)] at Qf;exact ⟨_,by omega,k+1,_,rfl,rfl,rfl,by omega,by omega,by omega,Qf,hs⟩
   ·refine aA jn (aB rP hs.hb rfl (aJ vy (acs.ext hs.aF) (aO (by omega) ?_)));refine ⟨congrArg (Value.int .i64) ?_,hs.drop.aF⟩;rw [List.drop_eq_nil_of_le (by omega)] at Qf;unfold l6;rw [if_neg (by omega),Qf];unfold iq;omega
theorem C101 (lv nv:Value) (xs:List cX) (ns:List ByteArray) (w:World) (hL:eF (λ _=>True) w lv xs) (hN:eF (λ _=>True) w nv ns) (hn:xs.length≤1048576) (hns:ns.length≤1048576) (sS:∀ y∈xs,0≤y.at_):CR 101 [lv,nv] w (λ v w'=>∃ a:Int,v = .int .i64 a∧decide (0≤a)=vo xs ns∧Ext w w'):=by
 have hs:=St.start w;refine YT _ _ _ _ ?_;unfold S101;refine ⟨λ m x w1=>∃ k:Nat,x = .int .i64 (k:Int)∧m=xs.length - k∧k≤xs.length∧(∀ y∈xs.take k,(decide (y.op=2) && decide (dP ns y.name<0))=false)∧St w bD [] w1,⟨_,0,rfl,rfl,Nat.zero_le _,by simp,hs⟩,?_⟩;rintro m _ w1 ⟨k,rfl,rfl,hk,fR,hs⟩ fB;refine aJ lP (hL.ext hs.aF) (aR (aC (λ gu=>?_) (λ gu=>?_)))
 ·obtain ⟨jk,dD⟩:∃ xx,(xs)[((k:Int)).toNat]? = some xx:=⟨_,List.getElem?_eq_getElem (by omega)⟩;refine ⟨λ jv w'=>jv = .bool (decide (jk.op=2) && decide (dP ns jk.name<0))∧St w bD [] w',?_,?_⟩
  ·refine aQ lP (hL.ext hs.aF) (by omega) dD (λ _ iM=>bT (jk).op jh iM rfl rfl (λ _ qZ=>aD bL (qZ) (aH (aC (λ l4=>?_) (λ l4=>?_)))))
   ·refine aQ lP (hL.ext hs.aF) (by omega) dD (λ _ KO=>bT (jk).name kY KO rfl rfl (λ _ pH=>aD j4 (pH) (aZ AY hs (C98 _ ns _ _ (hN.ext hs.aF) (by omega)) (λ w2 he hs=>aR ?_))));exact ⟨vb (by grind),hs⟩
   ·exact ⟨vb (by grind),hs⟩
  ·rintro _ w3 ⟨rfl,hs⟩ jw;refine aX (λ gh=>?_) (λ gh=>?_)
   ·refine aQ lP (hL.ext hs.aF) (by omega) dD (λ _ od=>bT (jk).at_ Dw od rfl rfl (λ _ oD=>aD bL (oD) ?_));exact ⟨_,rfl,by unfold vo; rw [jx dD gh]; exact decide_eq_true (sS _ (List.mem_of_getElem? dD)),hs.aF⟩
   ·refine aO (by omega) ?_;exact ⟨_,by omega,k+1,rfl,rfl,by omega,eD fR dD gh,hs⟩
 ·rw [List.take_of_length_le (by omega)] at fR;exact ⟨_,rfl,by unfold vo; rw [iF fR]; rfl,hs.aF⟩
theorem C96 (lv:Value) (t:Bk) (n:Int) (N:Nat) (w:World) (hL:DL w lv t.flat) (gk:t.str) (hq:∀ x∈t.flat,0≤x.at_∧(x.kind=12→1≤x.n∧x.n≤8)) (hn:1≤n∧n≤64) (hl:t.len≤1048576) (hN:t.len<N):CR 96 [lv,.int .i64 n] w (λ v w'=>∃ a:Int,v = .int .i64 a∧decide (0≤a)=oE t n∧Ext w w'):=by
 have Ce:=t.cO;have hs:=St.start w;refine ahM _ _ _ _ ?_;unfold S96;obtain ⟨awq,R2,acu⟩:=(hL).open;have hn22:=acu.1;refine aJ j0 (R2.ext hs.aF) (aH (aC (λ gP=>?_) (λ gP=>?_)))
 ·cases t with
  | nil=>exact ⟨_,rfl,rfl,hs.aF⟩
  | cons x a b r=>exact absurd Ce (by rw [show (Bk.cons x a b r).len=a.len+b.len+r.len+1 from rfl]; omega)
 ·obtain ⟨x,a,b,r,rfl⟩:=Bk.CI (t:=t) (by omega);obtain ⟨UJ,Ba⟩:=gx awq (i:=((0:Int)).toNat) (by omega);obtain ⟨l8,Vd⟩:=gx ((Bk.cons x a b r).flat) (i:=((0:Int)).toNat) (by omega);obtain ⟨Qg,Qh,rfl,asS,asT⟩:=acu.2 _ _ _ Ba Vd;refine aQ j0 (R2.ext hs.aF) (by omega) Ba (λ _ KC=>?_);obtain rfl:l8=x:=(Option.some.inj Vd).symm;have hqx:=hq l8 (by simp [Bk.flat]);have KU:=gk;obtain ⟨Ft,hg2,hg3,hg4,Ve,hgb,hgr⟩:=KU;have Tm:a.len+b.len+r.len+1≤1048576:=hl;have hNn:a.len+b.len+r.len+1<N:=hN;have Mt:=a.cO;have Qa:=b.cO;have hlr:=r.cO
  have Qf:(Bk.cons l8 a b r).flat.length=a.len+b.len+r.len+1:=Bk.cO _;refine aD fW (KC) (aN hs qw (λ ub w1 hs=>aI (x:=(⟨(l8).kind,(l8).gJ,(l8).name,Qg,Qh,(l8).n,(l8).body,(l8).fE,(l8).at_⟩:bX)) hs fW rfl rfl (λ w2 hs=>?_)));refine ⟨λ jv w'=>∃ m:Int,jv = .int .i64 m∧m=sn l8 n∧St w bD [cD ub (Flat.enc (⟨(l8).kind,(l8).gJ,(l8).name,Qg,Qh,(l8).n,(l8).body,(l8).fE,(l8).at_⟩:bX))] w',?_,?_⟩
  ·refine aA fy (aB (v:=.int .i64 ((l8).kind)) bL hs.hb rfl (aH (aC (λ gd=>?_) (λ gd=>?_))))
   ·refine aA tM (aB (v:=.int .i64 ((l8).n)) bL hs.hb rfl (Pv (by have xF:=hqx.2 gd; have h1:=Int.mul_le_mul (a:=1) (b:=1) hn.1 xF.1 (by omega) (by omega); have h2:=Int.mul_le_mul (c:=64) (d:=8) hn.2 xF.2 (by omega) (by omega); omega) ?_));exact ⟨_,rfl,by grind [sn],hs⟩
   ·exact ⟨_,rfl,by grind [sn],hs⟩
  ·rintro _ w3 ⟨m,rfl,hm,hs⟩ fB;have hm8:=ais hn hqx.2 hm;refine dA (aC (λ iB=>?_) (λ iB=>?_))
   ·refine aA qS (aB (v:=.int .i64 ((l8).at_)) bL hs.hb rfl ?_);exact ⟨_,rfl,by unfold oE; rw [← hm,decide_eq_true (show (64:Int)<m by omega)]; exact decide_eq_true hqx.1,hs.drop.aF⟩
   ·refine aA mV (aB (v:=.int .i64 ((l8).body)) bL hs.hb rfl (aO (by omega) (aA iJ (aB (v:=.int .i64 ((l8).fE)) bL hs.hb rfl (aO (by omega) (km j0 (R2.ext hs.aF) (by omega) (by omega) (by omega) (λ ao2 aiw=>?_)))))));have aix:=DL.cut aiw R2 acu;refine eu ahR (C96 _ (a.app b) m (N - 1) _ (by have h:=aix.ext hs.aF; rw [Bk.vx gk (by omega) (by omega)] at h; exact h) (Bk.acm Ve hgb) (λ y hy=>hq y (by rw [Bk.Eg] at hy; simp only [Bk.flat,List.mem_cons,List.mem_append]; rcases List.mem_append.1 hy with h | h <;> simp [h])) (by omega) (by rw [Qe]; omega) (by rw [Qe]; omega)) ?_
    rintro _ w4 ⟨a1,rfl,ha1,he⟩;have hs:=hs.ext he;rw [RZ] at ha1;refine dG (aC (λ si=>?_) (λ si=>?_))
    ·exact ⟨_,rfl,by unfold oE; rw [← hm]; rw [decide_eq_true si] at ha1; rw [← ha1,decide_eq_true si]; simp,hs.drop.aF⟩
    ·refine uO j0 (R2.ext hs.aF) (by omega) (by omega) (λ ao3 aiy=>?_);have aiz:=DL.PK aiy R2 acu;refine eu ahR (C96 _ r n (N - 1) _ (by have h:=aiz.ext hs.aF; rw [Bk.acq gk (by omega)] at h; exact h) hgr (λ y hy=>hq y (by simp [Bk.flat,hy])) hn (by omega) (by omega)) ?_;rintro _ w5 ⟨a2,rfl,Yi,he⟩;have hs:=hs.ext he;exact ⟨_,rfl,by unfold oE; rw [← hm]; rw [← ha1,Yi,decide_eq_false (show ¬ (64:Int)<m by omega),decide_eq_false si]; rfl,hs.drop.aF⟩
termination_by N
decreasing_by all_goals omega
theorem C95 (p:cU) (pv:bN) (ts3 ts4:List eg) (w:World) (hp:cA.dr w pv p) (h3:eF (λ _=>True) w (Flat.val pv.threads) ts3) (h4:eF (λ _=>True) w (Flat.val pv.recover) ts4) (hz3:ts3.length≤500) (hz4:ts4.length≤500):CR 95 [Flat.val pv] w (λ v w'=>lW (bK v (ts3++ts4)) w w'):=by
 obtain ⟨bH,bQ,bI,aT,aU,aY,rfl,cI,cZ,cJ,bR,bO,cB⟩:=hp;have hs:=St.start w;refine ahL _ _ _ ?_;unfold S95;refine dE hs (λ kD w1 hs=>bW (([]:List eg)) hs iI rfl rfl (eJ rfl) (λ aww w2 hs=>aA nc (aB ja hs.p1.hb rfl ?_)));have zV:=(h3.ext hs.aF);refine cN hs iI zV (by simp <;> omega) (by decide) (λ KV w3 hs=>aA rU (aB ja hs.p1.hb rfl ?_));have uR:=(h4.ext hs.aF);refine cN hs iI uR (by simp; omega) (by decide) (λ ae8 w4 hs=>?_);have hs:=(hs.p1).drop;exact hs.fresh
theorem C97 (p:cU) (pv:bN) (w:World) (hp:cA.dr w pv p) (hz:PZ p) (sS:∀ c∈jz p,0≤c.at_):CR 97 [Flat.val pv] w (λ v w'=>∃ a:Int,v = .int .i64 a∧decide (0≤a)=ri (jz p)∧Ext w w'):=by
 obtain ⟨bH,bQ,bI,aT,aU,aY,rfl,cI,cZ,cJ,bR,bO,cB⟩:=hp;have hs:=St.start w;refine ahN _ _ _ ?_;unfold S97;refine dE hs (λ kD w1 hs=>bW (([]:List dF)) hs jZ rfl rfl (eJ rfl) (λ KV w2 hs=>aD gI hs.p1.At (dB JQ hs (C102 p _ _ ⟨bH,bQ,bI,aT,aU,aY,rfl,(cI).ext hs.aF,(cZ).ext hs.aF,(cJ).ext hs.aF,(bR).ext hs.aF,(bO).ext hs.aF,(cB).ext hs.aF⟩ hz.toPS) (λ x9 w3 bY hs=>?_))));have aiA:=(hs).fI;refine cN hs.p1 jZ aiA (by simp; have:=m4 hz.toPS; omega) (by decide) (λ aov w4 hs=>have hs:=hs.p1.drop;aA rT (aB jt hs.p1.hb rfl ?_))
 have awx:=DL.flat (cJ);have jR:=(awx.ext hs.aF);refine cN hs jZ jR (by simp; have:=m4 hz.toPS; have:=hz.locks; omega) (by decide) (λ s_x14 w5 hs=>?_);have hs:=hs.p1.p1;refine ⟨λ m y x w1=>∃ k:Nat,x = .int .i64 (k:Int)∧m=p.threads.length - k∧k≤p.threads.length∧St w bD [bK y (gF p++p.locks++(p.threads.take k).map (λ t=>(⟨t.name,0,t.at_⟩:dF))),cD kD (Flat.enc (⟨bH,bQ,bI,aT,aU,aY⟩:bN))] w1,⟨_,0,rfl,rfl,by omega,by simpa using hs⟩,?_⟩;rintro m l3 _ w6 ⟨k,rfl,rfl,hk,hs⟩ fB;have KP:=hz.threads;refine aA nc (aB ja hs.p1.hb rfl ?_)
 obtain ⟨awy,aiB,ao4⟩:=(bR).open;have hn24:=ao4.1;refine aJ iI (aiB.ext hs.aF) (aR (aC (λ fw=>?_) (λ fw=>?_)))
 ·refine aA nc (have hs:=hs.drew;aB ja hs.p1.hb rfl ?_);obtain ⟨ao5,Bh⟩:=gx awy (i:=((k:Int)).toNat) (by omega);obtain ⟨zW,Bi⟩:=gx ((p).threads) (i:=((k:Int)).toNat) (by omega);obtain ⟨aiC,aiD,rfl,aiE,aiF⟩:=ao4.2 _ _ _ Bh Bi;refine aQ iI (aiB.ext hs.aF) (by omega) Bh (λ _ q9=>bT (zW).name zx q9 rfl rfl (λ _ we=>aD j4 (we) (aA nc (aB ja hs.p1.hb rfl (aQ iI (aiB.ext hs.aF) (by omega) Bh (λ _ zX=>bT (zW).at_ zy zX rfl rfl (λ _ zY=>aD bL (zY) (pop (DB _ _) (bW ([(⟨(zW).name,0,(zW).at_⟩:dF)]) hs jZ rfl rfl (eJ rfl) (λ afj w7 hs=>?_))))))))))
  have aiG:=(hs).fI;refine cN hs.p1 jZ aiG (by have:=m4 hz.toPS; have:=hz.locks; have:=hz.threads; simp; omega) (by decide) (λ ao6 w8 hs=>have hs:=hs.p1.drop;aO (by omega) ?_);have hs:=hs.p1.p1;exact ⟨_,by omega,k+1,rfl,rfl,by omega,by rw [← iO (k:=k) Bi,← List.append_assoc]; exact hs⟩
 ·rw [List.take_of_length_le (by omega)] at hs;have hdl:=R0 hz.toPS;have hs:St w bD [bK l3 (jz p),cD kD (Flat.enc (⟨bH,bQ,bI,aT,aU,aY⟩:bN))] _:=hs;refine dB TX hs (C107 _ _ _ (hs).fI (by omega)) (λ x39 w9 bY hs=>?_);have hs:=hs.p2.p2.p2;refine ⟨λ m x w1=>∃ k:Nat,x = .int .i64 (k:Int)∧m=(jz p).length - k∧k≤(jz p).length∧(∀ j,j<k→CH (jz p) j=false)∧St w bD [bK x39 ((jz p).map dF.name),bK l3 (jz p),cD kD (Flat.enc (⟨bH,bQ,bI,aT,aU,aY⟩:bN))] w1,⟨_,0,rfl,rfl,by omega,by simp,hs⟩,?_⟩
  rintro m _ pP ⟨k,rfl,rfl,hk,fR,hs⟩ jw;refine aJ jZ (hs.p1).fI (aR (aC (λ tX=>?_) (λ tX=>?_)))
  ·obtain ⟨El,uY⟩:=gx ((jz p)) (i:=((k:Int)).toNat) (by omega);refine dT hs.p1 jZ (by omega) (by omega) (λ _ Em=>mZ py Em (λ _ Vf=>nX (El).name hs.p1 j4 Vf uY rfl (aZ AY hs (C98 _ (((jz p)).map dF.name) _ _ (hs).fI (by rw [List.length_map]; omega)) (λ sQ he hs=>aR (aC (λ wm=>?_) (λ wm=>?_))))))
   ·refine dT hs.p1 jZ (by omega) (by omega) (λ _ wo=>mZ Dv wo (λ _ zZ=>nX (El).at_ hs.p1 bL zZ uY rfl ?_));have hs:=((((hs.drop)).drop)).drop;exact ⟨_,rfl,by unfold ri; rw [rj (j:=k) (by omega) (by rw [GN (k:=k) uY]; exact decide_eq_true wm)]; exact decide_eq_true (sS _ (List.mem_of_getElem? uY)),hs.aF⟩
   ·refine aO (by omega) ?_;exact ⟨_,by omega,k+1,rfl,rfl,by omega,zT fR (by rw [GN (k:=k) uY]; exact decide_eq_false wm),hs⟩
  ·have hs:=((((hs.drop)).drop)).drop;exact ⟨_,rfl,by unfold ri; rw [m6 (λ j hj=>fR j (by omega))]; rfl,hs.aF⟩
theorem C100 (p:cU) (pv:bN) (t:dR) (tv:eg) (x:cE) (xv:bX) (w:World) (hp:cA.dr w pv p) (ht:cA.dr w tv t) (hx:cA.dr w xv x) (hz:PZ p) (KP:t.aK.length≤500) (hzx:SzS x) (sS:0≤x.at_∧(∀ y∈x.e,0≤y.at_)∧(∀ y∈x.f,0≤y.at_)):CR 100 [Flat.val pv,Flat.val tv,Flat.val xv] w (λ v w'=>∃ a:Int,v = .int .i64 a∧decide (0≤a)=oh p t.aK x∧Ext w w'):=by
 obtain ⟨bH,bQ,bI,aT,aU,aY,rfl,cI,cZ,cJ,bR,bO,cB⟩:=hp;obtain ⟨uc,z6,rfl,z7,En⟩:=ht;obtain ⟨zN,zO,rfl,KL,GI⟩:=hx;have Qi:=l7 hz.toPS;have KE:(gY p).length≤500:=by unfold gY; rw [List.length_map]; exact hz.locks
 have hs:=St.start w;refine YS _ _ _ _ _ ?_;unfold S100;refine dE hs (λ xG w1 hs=>dE hs (λ aiI w2 hs=>dE hs (λ ub w3 hs=>?_)));refine ⟨λ jv w'=>jv = .bool (decide (¬ x.gJ=⟨#[]⟩) && decide (dP t.aK x.gJ<0))∧St w bD [cD ub (Flat.enc (⟨(x).kind,(x).gJ,(x).name,zN,zO,(x).n,(x).body,(x).fE,(x).at_⟩:bX)),cD aiI (Flat.enc (⟨(t).name,uc,z6,(t).at_⟩:eg)),cD xG (Flat.enc (⟨bH,bQ,bI,aT,aU,aY⟩:bN))] w',?_,?_⟩
 ·refine aA lS (aB (v:=.string ((x).gJ)) j4 hs.hb rfl (oL (aC (λ gP=>?_) (λ gP=>?_))))
  ·refine aA jo (aB pq hs.p1.hb rfl ?_);have awz:=DL.flat (z7);refine aA lS (aB (v:=.string ((x).gJ)) j4 hs.hb rfl (aZ AY hs (C98 _ (t).aK _ _ (awz.ext hs.aF) (by omega)) (λ w4 he hs=>aR ?_)));exact ⟨vb (by grind),hs⟩
  ·exact ⟨vb (by grind),hs⟩
 ·rintro _ w5 ⟨rfl,hs⟩ fB;refine aX (λ fw=>?_) (λ fw=>?_)
  ·refine aA qS (aB (v:=.int .i64 ((x).at_)) bL hs.hb rfl ?_);have hs:=((((hs.drop)).drop)).drop;exact ⟨_,rfl,by rw [decide_eq_true sS.1]; unfold oh; grind,hs.aF⟩
  ·have hs:=hs.drew;refine aD gI hs.p2.At (aA ji (aB (v:=.string ((x).name)) j4 hs.hb rfl (dB TP hs (C46 p _ _ ⟨bH,bQ,bI,aT,aU,aY,rfl,(cI).ext hs.aF,(cZ).ext hs.aF,(cJ).ext hs.aF,(bR).ext hs.aF,(bO).ext hs.aF,(cB).ext hs.aF⟩ hz) (λ x23 w6 bY hs=>?_))));refine ⟨aG j4 (hs.p1.hb.cell rfl),?_⟩;refine aZ AY hs (C98 _ (fc p) _ _ (hs).fI (by omega)) (λ w7 he hs=>?_);refine ⟨λ w'=>(((decide (x.kind=2) || decide (x.kind=3) || decide (x.kind=4)) && decide (dP (fc p) x.name<0)) || ((decide (x.kind=5) || decide (x.kind=6)) && (decide (dP (fc p) x.name<0) || decide (ew p≤dP (fc p) x.name))) || ((decide (x.kind=9) || decide (x.kind=10)) && decide (dP (gY p) x.name<0)))=false∧St w bD [cD ub (Flat.enc (⟨(x).kind,(x).gJ,(x).name,zN,zO,(x).n,(x).body,(x).fE,(x).at_⟩:bX)),cD aiI (Flat.enc (⟨(t).name,uc,z6,(t).at_⟩:eg)),cD xG (Flat.enc (⟨bH,bQ,bI,aT,aU,aY⟩:bN))] w',?_,?_⟩
   ·refine aA fy (aB (v:=.int .i64 ((x).kind)) bL hs.p1.hb rfl ?_);refine ⟨λ jv w'=>jv = .bool (decide (x.kind=2∨x.kind=3∨x.kind=4))∧w7=w',?_,?_⟩
    ·refine aH (aC (λ nA=>?_) (λ nA=>?_))
     ·exact ⟨xw (by omega),rfl⟩
     ·refine aH (aC (λ lJ=>?_) (λ lJ=>?_))
      ·exact ⟨xw (by omega),rfl⟩
      ·refine aH ?_;exact ⟨xw (by omega),rfl⟩
    ·rintro _ w8 ⟨rfl,hw⟩ jw;subst hw;refine aC (λ Vg=>?_) (λ Vg=>?_)
     ·refine aR (aC (λ iC=>?_) (λ iC=>?_))
      ·refine aA qS (aB (v:=.int .i64 ((x).at_)) bL hs.p1.hb rfl ?_);have hs:=((((((hs.drop)).drop)).drop)).drop;exact ⟨_,rfl,by rw [decide_eq_true sS.1]; unfold oh; grind,hs.aF⟩
      ·have hs:=(hs.drop.p2.p2).p2;exact ⟨by grind,hs⟩
     ·refine ⟨λ jv w'=>jv = .bool (decide (x.kind=5∨x.kind=6))∧w7=w',?_,?_⟩
      ·refine aH (aC (λ m7=>?_) (λ m7=>?_))
       ·exact ⟨xw (by omega),rfl⟩
       ·refine aH ?_;exact ⟨xw (by omega),rfl⟩
      ·rintro _ w9 ⟨rfl,hw⟩ oN;subst hw;refine aC (λ tV=>?_) (λ tV=>?_)
       ·refine ⟨λ jv w'=>jv = .bool (decide (dP (fc p) x.name<0) || decide (ew p≤dP (fc p) x.name))∧St w bD [bK x23 (fc p),cD ub (Flat.enc (⟨(x).kind,(x).gJ,(x).name,zN,zO,(x).n,(x).body,(x).fE,(x).at_⟩:bX)),cD aiI (Flat.enc (⟨(t).name,uc,z6,(t).at_⟩:eg)),cD xG (Flat.enc (⟨bH,bQ,bI,aT,aU,aY⟩:bN))] w',?_,?_⟩
        ·refine aR (aC (λ jW=>?_) (λ jW=>?_))
         ·exact ⟨vb (by grind),hs⟩
         ·refine aD gI hs.p3.At (aZ YP hs (C41 p _ _ ⟨bH,bQ,bI,aT,aU,aY,rfl,(cI).ext hs.aF,(cZ).ext hs.aF,(cJ).ext hs.aF,(bR).ext hs.aF,(bO).ext hs.aF,(cB).ext hs.aF⟩ hz) (λ pP he hs=>dG ?_));exact ⟨vb (by grind),hs⟩
        ·rintro _ sQ ⟨rfl,hs⟩ GJ;refine aX (λ rk=>?_) (λ rk=>?_)
         ·refine aA qS (aB (v:=.int .i64 ((x).at_)) bL hs.p1.hb rfl ?_);have hs:=((((((hs.drop)).drop)).drop)).drop;exact ⟨_,rfl,by rw [decide_eq_true sS.1]; unfold oh; grind,hs.aF⟩
         ·have hs:=(hs.drop.p2.p2).p2;exact ⟨by grind,hs⟩
       ·refine ⟨λ jv w'=>jv = .bool (decide (x.kind=9∨x.kind=10))∧w7=w',?_,?_⟩
        ·refine aH (aC (λ pE=>?_) (λ pE=>?_))
         ·exact ⟨xw (by omega),rfl⟩
         ·refine aH ?_;exact ⟨xw (by omega),rfl⟩
        ·rintro _ vl ⟨rfl,hw⟩ RX;subst hw;refine aC (λ pI=>?_) (λ pI=>?_)
         ·have hs:=hs.drew;refine aD gI hs.p3.At (aA ji (aB (v:=.string ((x).name)) j4 hs.p1.hb rfl (dB ahS hs (C99 p _ _ ⟨bH,bQ,bI,aT,aU,aY,rfl,(cI).ext hs.aF,(cZ).ext hs.aF,(cJ).ext hs.aF,(bR).ext hs.aF,(bO).ext hs.aF,(cB).ext hs.aF⟩ hz) (λ x54 vm bY hs=>?_))));refine ⟨aG j4 (hs.p2.hb.cell rfl),?_⟩;refine aZ AY hs (C98 _ (gY p) _ _ (hs).fI (by omega)) (λ sd he hs=>aR (aC (λ ua=>?_) (λ ua=>?_)))
          ·refine aA qS (aB (v:=.int .i64 ((x).at_)) bL hs.p2.hb rfl ?_);have hs:=((((((((hs.drop)).drop)).drop)).drop)).drop;exact ⟨_,rfl,by rw [decide_eq_true sS.1]; unfold oh; grind,hs.aF⟩
          ·have hs:=(((((hs.drop)).drop).p2).p2).p2;exact ⟨by grind,hs⟩
         ·have hs:=(hs.drop.p2.p2).p2;exact ⟨by grind,hs⟩
   ·rintro v7 ⟨hmid,hs⟩ dd6;refine aA lT (aB mR hs.hb rfl ?_);have awA:=DL.flat (KL);refine aA jo (aB pq hs.p1.hb rfl ?_);have ao7:=DL.flat (z7);refine eu TV (C101 _ _ _ _ _ (awA.ext hs.aF) (ao7.ext hs.aF) hzx.2.2.1 (by omega) sS.2.1) ?_;rintro _ yT ⟨a_x65,rfl,awB,he⟩;have hs:=hs.ext he;refine dG (aC (λ og=>?_) (λ og=>?_))
    ·have hs:=((((hs.drop)).drop)).drop;exact ⟨_,rfl,by unfold oh; grind,hs.aF⟩
    ·refine aA nU (aB mR hs.hb rfl ?_);have awC:=DL.flat (GI);refine aA jo (aB pq hs.p1.hb rfl (eu TV (C101 _ _ _ _ _ (awC.ext hs.aF) (ao7.ext hs.aF) hzx.2.2.2.1 (by omega) sS.2.2) ?_));rintro _ Ch ⟨a_x73,rfl,awD,he⟩;have hs:=((((((hs.ext he)).drop)).drop)).drop;exact ⟨_,rfl,by unfold oh; grind,hs.aF⟩
theorem C94 (p:cU) (pv:bN) (w:World) (hp:cA.dr w pv p) (hz:PZ p):CR 94 [Flat.val pv] w (λ v w'=>v = .bool (zU p)∧Ext w w'):=by
 obtain ⟨bH,bQ,bI,aT,aU,aY,rfl,cI,cZ,cJ,bR,bO,cB⟩:=hp;have hs:=St.start w;refine ahK _ _ _ ?_;unfold S94;refine dE hs (λ kD w1 hs=>?_);refine ⟨λ m x w1=>∃ k:Nat,x = .int .i64 (k:Int)∧m=p.lines.length - k∧k≤p.lines.length∧(∀ y∈p.lines.take k,decide (4<(y.length:Int))=false)∧St w bD [cD kD (Flat.enc (⟨bH,bQ,bI,aT,aU,aY⟩:bN))] w1,⟨_,0,rfl,rfl,Nat.zero_le _,by simp,hs⟩,?_⟩;rintro m _ w2 ⟨k,rfl,rfl,hk,fR,hs⟩ fB;have hzl:=hz.lines;refine aA jn (aB rP hs.hb rfl ?_)
 obtain ⟨awE,aiJ,ao8⟩:=(cI).open;have hn29:=ao8.1;refine aJ vy (aiJ.ext hs.aF) (aR (aC (λ fO=>?_) (λ fO=>?_)))
 ·refine aA jn (aB rP hs.hb rfl ?_);obtain ⟨GL,kM⟩:=gx awE (i:=((k:Int)).toNat) (by omega);obtain ⟨mC,kN⟩:=gx ((p).lines) (i:=((k:Int)).toNat) (by omega);have Vh:DL w (Flat.val GL) mC:=ao8.2 _ _ _ kM kN;refine aQ vy (aiJ.ext hs.aF) (by omega) kM (λ _ tU=>aD jt (tU) ?_);have awF:=DL.flat (Vh);refine aJ jZ (awF.ext hs.aF) (dA (aC (λ fw=>?_) (λ fw=>?_)))
  ·have hs:=(hs).drop;refine ⟨vb ?_,hs.aF⟩;unfold zU;rw [jx kN (decide_eq_true (by omega))]; rfl
  ·refine aO (by omega) ?_;exact ⟨_,by omega,k+1,rfl,rfl,by omega,eD fR kN (decide_eq_false fw),hs⟩
 ·refine aD gI hs.At ?_;obtain ⟨ao9,aiK,apa⟩:=(bR).open;have hn31:=apa.1;obtain ⟨apb,awG,apc⟩:=(bO).open;have hn32:=apc.1;refine eu amH (C95 p _ ao9 apb _ ⟨bH,bQ,bI,aT,aU,aY,rfl,(cI).ext hs.aF,(cZ).ext hs.aF,(cJ).ext hs.aF,(bR).ext hs.aF,(bO).ext hs.aF,(cB).ext hs.aF⟩ (aiK.ext hs.aF) (awG.ext hs.aF) (by have:=hz.threads; omega) (by have:=hz.recover; omega)) ?_;rintro Vi w3 bY;have hs:=hs.made bY;obtain ⟨xH,KW⟩:∃ t,t=ao9++apb:=⟨_,rfl⟩;rw [← KW] at hs;have FQ:jc xH (iG p) w:=by rw [KW]; exact jc.append apa apc
  have apd:=FQ.1;have awH:=Qc hz.toPS;have hs:=hs.p1.p1;refine ⟨λ m x w1=>∃ kb:Nat,x = .int .i64 (kb:Int)∧m=(iG p).length - kb∧kb≤(iG p).length∧(∀ y∈(iG p).take kb,decide (4<(y.aK.length:Int))=false)∧St w bD [bK Vi xH,cD kD (Flat.enc (⟨bH,bQ,bI,aT,aU,aY⟩:bN))] w1,⟨_,0,rfl,rfl,Nat.zero_le _,by simp,hs⟩,?_⟩;rintro m _ w4 ⟨kb,rfl,rfl,hkb,Nq,hs⟩ jw;refine aJ iI (hs).fI (aR (aC (λ fP=>?_) (λ fP=>?_)))
  ·obtain ⟨DZ,lB⟩:=gx xH (i:=((kb:Int)).toNat) (by omega);obtain ⟨ape,wq⟩:=gx ((iG p)) (i:=((kb:Int)).toNat) (by omega);obtain ⟨Eo,Ep,rfl,Er,Es⟩:=FQ.2 _ _ _ lB wq;refine aQ iI (hs).fI (by omega) lB (λ _ od=>bT Eo jo od rfl rfl (λ _ oD=>aD pq (oD) ?_));have awI:=DL.flat (Er);refine aJ mS (awI.ext hs.aF) (dA (aC (λ iC=>?_) (λ iC=>?_)))
   ·have hs:=((hs.drop)).drop;refine ⟨vb ?_,hs.aF⟩;unfold zU;rw [jx wq (decide_eq_true (by omega))]; simp
   ·refine aO (by omega) ?_;exact ⟨_,by omega,kb+1,rfl,rfl,by omega,eD Nq wq (decide_eq_false (by omega)),hs⟩
  ·refine ⟨λ jv w'=>jv = .bool (decide (4<(p.lines.length:Int)) || decide (4<(p.jP.length:Int)) || decide (2<(p.locks.length:Int)) || decide ((p.threads.length:Int)<1) || decide (3<(p.threads.length:Int)) || decide (4<(p.cC.length:Int)))∧St w bD [] w',?_,?_⟩
   ·refine aA jn (aB rP hs.p1.hb rfl (aJ vy (aiJ.ext hs.aF) (dA (aC (λ m7=>?_) (λ m7=>?_)))))
    ·have hs:=((hs.drop)).drop;exact ⟨vb (by grind),hs⟩
    ·refine aA uI (aB jt hs.p1.hb rfl ?_);have awJ:=DL.flat (cZ);refine aJ jZ (awJ.ext hs.aF) (dA (aC (λ tX=>?_) (λ tX=>?_)))
     ·have hs:=((hs.drop)).drop;exact ⟨vb (by grind),hs⟩
     ·refine aA rT (aB jt hs.p1.hb rfl ?_);have awK:=DL.flat (cJ);refine aJ jZ (awK.ext hs.aF) (dA (aC (λ vq=>?_) (λ vq=>?_)))
      ·have hs:=((hs.drop)).drop;exact ⟨vb (by grind),hs⟩
      ·refine aA nc (aB ja hs.p1.hb rfl (aJ iI (aiK.ext hs.aF) (aR (aC (λ Ej=>?_) (λ Ej=>?_)))))
       ·have hs:=((hs.drop)).drop;exact ⟨vb (by grind),hs⟩
       ·refine aA nc (aB ja hs.p1.hb rfl (aJ iI (aiK.ext hs.aF) (dA (aC (λ kp=>?_) (λ kp=>?_)))))
        ·have hs:=((hs.drop)).drop;exact ⟨vb (by grind),hs⟩
        ·refine aA kJ (aB sN hs.p1.hb rfl ?_);obtain ⟨ts36,awL,awM⟩:=(cB).open;have hn36:=awM.1;refine aJ yp (awL.ext hs.aF) (dA ?_);have hs:=((hs.drop)).drop;exact ⟨vb (by grind),hs⟩
   ·rintro _ w5 ⟨rfl,hs⟩ oN;refine ⟨vb ?_,hs.aF⟩;unfold zU;rw [iF (by rw [List.take_of_length_le (by omega)] at fR; exact fR),iF (by rw [List.take_of_length_le (by omega)] at Nq; exact Nq)]; rfl
theorem C40 (p:cU) (pv:bN) (w:World) (hp:cA.dr w pv p) (hz:PZ p):CR 40 [Flat.val pv] w (λ v w'=>∃ a:Int,v = .tuple #[.int .i64 (gK p),.int .i64 a]∧Ext w w'):=by
 obtain ⟨bH,bQ,bI,aT,aU,aY,rfl,cI,cZ,cJ,bR,bO,cB⟩:=hp;have hs:=St.start w;refine ag3 _ _ _ ?_;unfold S40;refine dE hs (λ kD w1 hs=>aD gI hs.At (aZ auO hs (C93 p _ _ ⟨bH,bQ,bI,aT,aU,aY,rfl,(cI).ext hs.aF,(cZ).ext hs.aF,(cJ).ext hs.aF,(bR).ext hs.aF,(bO).ext hs.aF,(cB).ext hs.aF⟩ hz) (λ w2 he hs=>bZ (aX (λ l4=>?_) (λ l4=>?_)))))
 ·have hs:=(hs).drop;exact ⟨_,congrArg (λ q=>Value.tuple #[.int .i64 q,_]) (ce8 (by simpa using l4)).symm,hs.aF⟩
 ·have hrp:l5 p=true:=by simpa using l4
  have hPF:=wk hrp;refine aD gI hs.At (aZ auP hs (C94 p _ _ ⟨bH,bQ,bI,aT,aU,aY,rfl,(cI).ext hs.aF,(cZ).ext hs.aF,(cJ).ext hs.aF,(bR).ext hs.aF,(bO).ext hs.aF,(cB).ext hs.aF⟩ hz) (λ w3 he hs=>aX (λ fw=>?_) (λ fw=>?_)))
  ·have hs:=(hs).drop;exact ⟨_,congrArg (λ q=>Value.tuple #[.int .i64 q,_]) (ce2 hrp fw).symm,hs.aF⟩
  ·refine aD gI hs.At ?_;obtain ⟨apf,awN,apg⟩:=(bR).open;have hn37:=apg.1;obtain ⟨aph,awO,api⟩:=(bO).open;have hn38:=api.1;refine eu amH (C95 p _ apf aph _ ⟨bH,bQ,bI,aT,aU,aY,rfl,(cI).ext hs.aF,(cZ).ext hs.aF,(cJ).ext hs.aF,(bR).ext hs.aF,(bO).ext hs.aF,(cB).ext hs.aF⟩ (awN.ext hs.aF) (awO.ext hs.aF) (by have:=hz.threads; omega) (by have:=hz.recover; omega)) ?_;rintro Vi w4 bY;have hs:=hs.made bY;obtain ⟨xH,KW⟩:∃ t,t=apf++aph:=⟨_,rfl⟩;rw [← KW] at hs;have FQ:jc xH (iG p) w:=by rw [KW]; exact jc.append apg api
   have apd:=FQ.1;have awH:=Qc hz.toPS;have hs:=hs.p1.p1;refine ⟨λ m x w1=>∃ k1:Nat,x = .int .i64 (k1:Int)∧m=(iG p).length - k1∧k1≤(iG p).length∧(∀ y∈(iG p).take k1,vp y.body=false)∧St w bD [bK Vi xH,cD kD (Flat.enc (⟨bH,bQ,bI,aT,aU,aY⟩:bN))] w1,⟨_,0,rfl,rfl,Nat.zero_le _,by simp,hs⟩,?_⟩;rintro m _ w5 ⟨k1,rfl,rfl,Tg,aiL,hs⟩ fB;refine aJ iI (hs).fI (aR (aC (λ fP=>?_) (λ fP=>?_)))
   ·obtain ⟨DZ,lB⟩:=gx xH (i:=((k1:Int)).toNat) (by omega);obtain ⟨ape,wq⟩:=gx ((iG p)) (i:=((k1:Int)).toNat) (by omega);obtain ⟨Eo,Ep,rfl,Er,Es⟩:=FQ.2 _ _ _ lB wq;refine aQ iI (hs).fI (by omega) lB (λ _ od=>bT Ep qu od rfl rfl (λ _ oD=>aD sO (oD) ?_));obtain ⟨hb40,MT,tr,htr,Iv,oC,_⟩:=nB (hPF.nf (List.mem_of_getElem? wq)).2.1;have Ce:=congrArg List.length htr;rw [Bk.cO] at Ce;refine eu ahR (C96 _ tr 1 (tr.len+1) _ (by rw [← htr]; exact (Es.ext hs.aF)) Iv (λ y hy=>Np (MT y (by rw [htr]; exact hy))) (by omega) (by omega) (by omega)) ?_
    rintro _ w6 ⟨wa,rfl,hwa,he⟩;have hs:=hs.ext he;refine dG (aC (λ jr=>?_) (λ jr=>?_))
    ·have hs:=((hs.drop)).drop;exact ⟨_,congrArg (λ q=>Value.tuple #[.int .i64 q,_]) (awb hrp fw (jx wq (by rw [htr,yy Iv,← hwa]; exact decide_eq_true jr))).symm,hs.aF⟩
    ·refine aO (by omega) ?_;have hs:=hs.p1.p1;exact ⟨_,by omega,k1+1,rfl,rfl,by omega,eD aiL wq (by rw [htr,yy Iv,← hwa]; exact decide_eq_false jr),hs⟩
   ·rw [List.take_of_length_le (by omega)] at aiL;have vB:(iG p).any (λ t=>vp t.body)=false:=iF aiL;refine aD gI hs.p1.At (eu auQ (C97 p _ _ ⟨bH,bQ,bI,aT,aU,aY,rfl,(cI).ext hs.aF,(cZ).ext hs.aF,(cJ).ext hs.aF,(bR).ext hs.aF,(bO).ext hs.aF,(cB).ext hs.aF⟩ hz hPF.decl) ?_);rintro _ w7 ⟨a_x38,rfl,Vj,he⟩;have hs:=hs.ext he;refine dG (aC (λ ql=>?_) (λ ql=>?_))
    ·have hs:=((hs.drop)).drop;exact ⟨_,congrArg (λ q=>Value.tuple #[.int .i64 q,_]) (awc hrp fw vB (by rw [← Vj]; exact decide_eq_true ql)).symm,hs.aF⟩
    ·have h10:ri (jz p)=false:=by rw [← Vj]; exact decide_eq_false ql
     have hs:=hs.p1.p1;refine ⟨λ m x w1=>∃ k2:Nat,x = .int .i64 (k2:Int)∧m=(iG p).length - k2∧k2≤(iG p).length∧(∀ y∈(iG p).take k2,FP p y.aK=false)∧St w bD [bK Vi xH,cD kD (Flat.enc (⟨bH,bQ,bI,aT,aU,aY⟩:bN))] w1,⟨_,0,rfl,rfl,Nat.zero_le _,by simp,hs⟩,?_⟩;rintro m _ w8 ⟨k2,rfl,rfl,Jo,Ed,hs⟩ jw;refine aJ iI (hs).fI (aR (aC (λ kG=>?_) (λ kG=>?_)))
     ·obtain ⟨apj,wt⟩:∃ xx,xH[((k2:Int)).toNat]? = some xx:=⟨_,List.getElem?_eq_getElem (by omega)⟩;obtain ⟨z8,Iw⟩:∃ xx,((iG p))[((k2:Int)).toNat]? = some xx:=⟨_,List.getElem?_eq_getElem (by omega)⟩;obtain ⟨yA,aiN,rfl,Nr,aiO⟩:=FQ.2 _ _ _ wt Iw;have hzt2:=hz.nf (List.mem_of_getElem? Iw);refine ⟨λ m x w1=>∃ k3:Nat,x = .int .i64 (k3:Int)∧m=z8.aK.length - k3∧k3≤z8.aK.length∧(∀ j,j<k3→Qb p z8.aK j=false)∧St w bD [bK Vi xH,cD kD (Flat.enc (⟨bH,bQ,bI,aT,aU,aY⟩:bN))] w1,⟨_,0,rfl,rfl,Nat.zero_le _,by simp,hs⟩,?_⟩
      rintro m _ w9 ⟨k3,rfl,rfl,hk3,apl,hs⟩ oN;refine aQ iI (hs).fI (by omega) wt (λ _ ya=>bT yA jo ya rfl rfl (λ _ apm=>aD pq (apm) ?_));have aiP:=DL.flat (Nr);refine aJ mS (aiP.ext hs.aF) (aR (aC (λ Ej=>?_) (λ Ej=>?_)))
      ·refine aQ iI (hs).fI (by omega) wt (λ _ apn=>bT yA jo apn rfl rfl (λ _ Vk=>aD pq (Vk) ?_));obtain ⟨GO,wu⟩:=gx ((z8).aK) (i:=((k3:Int)).toNat) (by omega);refine aQ mS (aiP.ext hs.aF) (by omega) wu (λ _ Ee=>aD j4 (Ee) ?_);refine ⟨λ jv w'=>jv = .bool (decide (dP z8.aK GO<k3) || decide (0≤dP (fc p) GO) || decide (0≤dP (gY p) GO))∧St w bD [bK Vi xH,cD kD (Flat.enc (⟨bH,bQ,bI,aT,aU,aY⟩:bN))] w',?_,?_⟩
       ·refine aQ iI (hs).fI (by omega) wt (λ _ apo=>bT yA jo apo rfl rfl (λ _ Vl=>aD pq (Vl) (aZ AY hs (C98 _ (z8).aK _ _ (aiP.ext hs.aF) (by have:=l7 hz.toPS; have hk:(gY p).length≤500:=(by unfold gY; rw [List.length_map]; exact hz.locks); omega)) (λ pP he hs=>aR (aC (λ U8=>?_) (λ U8=>?_))))))
        ·have hs:=hs.p1.p1;exact ⟨vb (by grind),hs⟩
        ·refine aD gI hs.p1.At (dB TP hs (C46 p _ _ ⟨bH,bQ,bI,aT,aU,aY,rfl,(cI).ext hs.aF,(cZ).ext hs.aF,(cJ).ext hs.aF,(bR).ext hs.aF,(bO).ext hs.aF,(cB).ext hs.aF⟩ hz) (λ x77 sQ bY hs=>aZ AY hs (C98 _ (fc p) _ _ (hs).fI (by have:=l7 hz.toPS; have hk:(gY p).length≤500:=(by unfold gY; rw [List.length_map]; exact hz.locks); omega)) (λ vl he hs=>dG (aC (λ Vm=>?_) (λ Vm=>?_)))))
         ·have hs:=(hs.drop.p1).p1;exact ⟨vb (by grind),hs⟩
         ·refine aD gI hs.p2.At (dB ahS hs (C99 p _ _ ⟨bH,bQ,bI,aT,aU,aY,rfl,(cI).ext hs.aF,(cZ).ext hs.aF,(cJ).ext hs.aF,(bR).ext hs.aF,(bO).ext hs.aF,(cB).ext hs.aF⟩ hz) (λ x84 vm bY hs=>aZ AY hs (C98 _ (gY p) _ _ (hs).fI (by have:=l7 hz.toPS; have hk:(gY p).length≤500:=(by unfold gY; rw [List.length_map]; exact hz.locks); omega)) (λ sd he hs=>dG ?_)));have hs:=((((hs.drop)).drop).p1).p1;exact ⟨vb (by grind),hs⟩
       ·rintro _ v7 ⟨rfl,hs⟩ GJ;refine aX (λ Eu=>?_) (λ Eu=>?_)
        ·refine aQ iI (hs).fI (by omega) wt (λ _ apq=>bT (z8).at_ zy apq rfl rfl (λ _ Vn=>have hs:=hs.drew;aD bL (Vn) ?_));have hs:=((hs.drop)).drop;exact ⟨_,congrArg (λ q=>Value.tuple #[.int .i64 q,_]) (aoO hrp fw vB h10 (jx Iw (show FP p z8.aK=true from rj (j:=k3) (by omega) (by rw [Qd (k:=k3) wu]; exact Eu)))).symm,hs.aF⟩
        ·refine aO (by omega) ?_;exact ⟨_,by omega,k3+1,rfl,rfl,by omega,zT apl (by rw [Qd (k:=k3) wu]; exact Eu),hs⟩
      ·refine aO (by omega) ?_;have hs:=hs.p1.p1;exact ⟨_,by omega,k2+1,rfl,rfl,by omega,eD Ed Iw (show FP p z8.aK=false from m6 (λ j hj=>apl j (by omega))),hs⟩
     ·rw [List.take_of_length_le (by omega)] at Ed;have aiQ:(iG p).any (λ t=>FP p t.aK)=false:=iF Ed;have hs:=hs.p1.p1;refine ⟨λ m x w1=>∃ k5:Nat,x = .int .i64 (k5:Int)∧m=(iG p).length - k5∧k5≤(iG p).length∧(∀ y∈(iG p).take k5,y.body.any (oh p y.aK)=false)∧St w bD [bK Vi xH,cD kD (Flat.enc (⟨bH,bQ,bI,aT,aU,aY⟩:bN))] w1,⟨_,0,rfl,rfl,Nat.zero_le _,by simp,hs⟩,?_⟩;rintro m _ yT ⟨k5,rfl,rfl,hk5,aiR,hs⟩ RX;refine aJ iI (hs).fI (aR (aC (λ apr=>?_) (λ apr=>?_)))
      ·obtain ⟨awP,CJ⟩:∃ xx,xH[((k5:Int)).toNat]? = some xx:=⟨_,List.getElem?_eq_getElem (by omega)⟩;obtain ⟨Bj,z9⟩:∃ xx,((iG p))[((k5:Int)).toNat]? = some xx:=⟨_,List.getElem?_eq_getElem (by omega)⟩;obtain ⟨KX,wv,rfl,KY,BU⟩:=FQ.2 _ _ _ CJ z9;have aps:=hz.nf (List.mem_of_getElem? z9);have awQ:=hPF.nf (List.mem_of_getElem? z9);obtain ⟨hb45,apt,_⟩:=nB awQ.2.1;refine ⟨λ m x w1=>∃ k6:Nat,x = .int .i64 (k6:Int)∧m=Bj.body.length - k6∧k6≤Bj.body.length∧(∀ y∈Bj.body.take k6,oh p Bj.aK y=false)∧St w bD [bK Vi xH,cD kD (Flat.enc (⟨bH,bQ,bI,aT,aU,aY⟩:bN))] w1,⟨_,0,rfl,rfl,Nat.zero_le _,by simp,hs⟩,?_⟩
       rintro m _ Ch ⟨k6,rfl,rfl,hk6,aiS,hs⟩ dd6;refine aQ iI (hs).fI (by omega) CJ (λ _ aiT=>bT wv qu aiT rfl rfl (λ _ aiU=>aD sO (aiU) ?_));obtain ⟨awR,apu,apv⟩:=(BU).open;have hn40:=apv.1;refine aJ j0 (apu.ext hs.aF) (aR (aC (λ aiV=>?_) (λ aiV=>?_)))
       ·have hs:=hs.drew;refine aD gI hs.p1.At (aQ iI (hs).fI (by omega) CJ (λ _ Ns=>aD H8 (Ns) (aQ iI (hs).fI (by omega) CJ (λ _ aiW=>bT wv qu aiW rfl rfl (λ _ aiX=>aD sO (aiX) ?_)))));obtain ⟨awS,Qj⟩:=gx awR (i:=((k6:Int)).toNat) (by omega);obtain ⟨aiY,Aa⟩:=gx ((Bj).body) (i:=((k6:Int)).toNat) (by omega);obtain ⟨Vo,Vp,rfl,Vq,Vr⟩:=apv.2 _ _ _ Qj Aa;refine aQ j0 (apu.ext hs.aF) (by omega) Qj (λ _ aiZ=>aD fW (aiZ) ?_);have hf5:=ack (apt _ (List.mem_of_getElem? Aa));refine eu amI (C100 p _ Bj _ aiY _ _ ⟨bH,bQ,bI,aT,aU,aY,rfl,(cI).ext hs.aF,(cZ).ext hs.aF,(cJ).ext hs.aF,(bR).ext hs.aF,(bO).ext hs.aF,(cB).ext hs.aF⟩ ⟨KX,wv,rfl,(KY).ext hs.aF,(BU).ext hs.aF⟩ ⟨Vo,Vp,rfl,(Vq).ext hs.aF,(Vr).ext hs.aF⟩ hz aps.2.1 (aps.1.2.2 _ (List.mem_of_getElem? Aa)) hf5) ?_
        rintro _ Im ⟨awT,rfl,Qk,he⟩;have hs:=hs.ext he;refine dG (aC (λ yB=>?_) (λ yB=>?_))
        ·have hs:=((hs.drop)).drop;exact ⟨_,congrArg (λ q=>Value.tuple #[.int .i64 q,_]) (ce9 hrp fw vB h10 aiQ (jx z9 (jx Aa (by rw [← Qk]; exact decide_eq_true yB)))).symm,hs.aF⟩
        ·refine aO (by omega) ?_;exact ⟨_,by omega,k6+1,rfl,rfl,by omega,eD aiS Aa (by rw [← Qk]; exact decide_eq_false yB),hs⟩
       ·refine aO (by omega) ?_;have hs:=hs.p1.p1;exact ⟨_,by omega,k5+1,rfl,rfl,by omega,eD aiR z9 (iF (by rw [List.take_of_length_le (by omega)] at aiS; exact aiS)),hs⟩
      ·rw [List.take_of_length_le (by omega)] at aiR;have h9:(iG p).any (λ t=>t.body.any (oh p t.aK))=false:=iF aiR;have hs:=hs.drew;refine aD gI hs.p1.At (aD gI hs.p1.At (dB TP hs (C46 p _ _ ⟨bH,bQ,bI,aT,aU,aY,rfl,(cI).ext hs.aF,(cZ).ext hs.aF,(cJ).ext hs.aF,(bR).ext hs.aF,(bO).ext hs.aF,(cB).ext hs.aF⟩ hz) (λ awU Jp bY hs=>?_)));refine ⟨fh gI hs.p2.At,?_⟩;refine aZ YP hs (C41 p _ _ ⟨bH,bQ,bI,aT,aU,aY,rfl,(cI).ext hs.aF,(cZ).ext hs.aF,(cJ).ext hs.aF,(bR).ext hs.aF,(bO).ext hs.aF,(cB).ext hs.aF⟩ hz) (λ Kz he hs=>?_)
       have Qi:=l7 hz.toPS;have hsl:0≤ew p∧ew p≤(fc p).length:=by unfold ew fc gF; rw [List.length_map,List.length_append]; omega
       refine lX mS (hs).fI (by omega) (by omega) (λ awV acv=>?_);have hs:=(hs.p1.drop.p1).p1;refine ⟨λ m x w1=>∃ k7:Nat,x = .int .i64 (k7:Int)∧m=p.cC.length - k7∧k7≤p.cC.length∧(∀ y∈p.cC.take k7,vo y.e (oR p)=false)∧St w bD [bK awU (fc p),cD kD (Flat.enc (⟨bH,bQ,bI,aT,aU,aY⟩:bN))] w1,⟨_,0,rfl,rfl,Nat.zero_le _,by simp,hs⟩,?_⟩;rintro m _ Mu ⟨k7,rfl,rfl,hk7,ai0,hs⟩ dd7;have hzc:=hz.cC;refine aA kJ (aB sN hs.p1.hb rfl ?_);obtain ⟨awW,apw,apx⟩:=(cB).open;have hn41:=apx.1;refine aJ yp (apw.ext hs.aF) (aR (aC (λ Nt=>?_) (λ Nt=>?_)))
       ·refine aA kJ (aB sN hs.p1.hb rfl ?_);obtain ⟨awX,Ql⟩:=gx awW (i:=((k7:Int)).toNat) (by omega);obtain ⟨awY,Ab⟩:=gx ((p).cC) (i:=((k7:Int)).toNat) (by omega);obtain ⟨Vs,rfl,Vt⟩:=apx.2 _ _ _ Ql Ab;refine aQ yp (apw.ext hs.aF) (by omega) Ql (λ _ Nu=>bT Vs CB Nu rfl rfl (λ _ ai1=>aD mR (ai1) ?_));have awZ:=DL.flat (Vt);refine eu TV (C101 _ _ _ _ _ (awZ.ext hs.aF) (acv _ (hs).fI) (hz.zc _ (List.mem_of_getElem? Ab)).1 (by have:=l7 hz.toPS; simp; omega) (Be (hPF.cl _ (List.mem_of_getElem? Ab)).2)) ?_;rintro _ Qm ⟨aw0,rfl,Qn,he⟩
        have hs:=hs.ext he;refine dG (aC (λ Nv=>?_) (λ Nv=>?_))
        ·have hs:=((hs.drop)).drop;exact ⟨_,congrArg (λ q=>Value.tuple #[.int .i64 q,_]) (awd hrp fw vB h10 aiQ h9 (jx Ab (by unfold oR; rw [← Qn]; exact decide_eq_true Nv))).symm,hs.aF⟩
        ·refine aO (by omega) ?_;exact ⟨_,by omega,k7+1,rfl,rfl,by omega,eD ai0 Ab (by unfold oR; rw [← Qn]; exact decide_eq_false Nv),hs⟩
       ·have hs:=((hs.drop)).drop;exact ⟨_,congrArg (λ q=>Value.tuple #[.int .i64 q,_]) (ce0 hrp fw vB h10 aiQ h9 (iF (by rw [List.take_of_length_le (by omega)] at ai0; exact ai0))).symm,hs.aF⟩
theorem Bk.Nw {x:cE} {a b r:Bk} (h:(Bk.cons x a b r).str) {hi lo:Int} (h1:hi=1+x.body) (h2:lo=1):((Bk.cons x a b r).flat.take hi.toNat).drop lo.toNat=a.flat:=by
 obtain ⟨g1,g2,_⟩:=h
 have la:=a.cO
 rw [D7 _ (a:=1) (n:=a.flat.length) (by omega) (by omega)]
 show (a.flat++(b.flat++r.flat)).take _=_
 rw [List.take_left]
theorem Bk.acw {x:cE} {a b r:Bk} (h:(Bk.cons x a b r).str) {hi lo:Int} (h1:hi=1+x.body+x.fE) (h2:lo=1+x.body):((Bk.cons x a b r).flat.take hi.toNat).drop lo.toNat=b.flat:=by
 obtain ⟨g1,g2,_⟩:=h
 have la:=a.cO
 have lb:=b.cO
 rw [D7 _ (a:=1+a.flat.length) (n:=b.flat.length) (by omega) (by omega)]
 have e:(Bk.cons x a b r).flat=(x::a.flat)++(b.flat++r.flat):=by simp [Bk.flat]
 rw [e,show 1+a.flat.length=(x::a.flat).length from by simp; omega,List.drop_left,List.take_left]
def Ev (k:Int):Int:=if k=2∨k=4∨k=8∨k=9∨k=10 then 1 else if k=3∨k=5∨k=6∨k=7 then 2 else 0
theorem Vu (k:Int):0≤Ev k∧Ev k≤2:=by
 unfold Ev
 repeat' split
 all_goals omega
def rQ:Bk→Int
 | .nil=>0
 | .cons x a b r=>(if x.kind=12 then x.n * rQ a else if x.kind=11 then max (rQ a) (rQ b) else Ev x.kind)+rQ r
def kq (t:Bk):Prop:=∀ x∈t.flat,x.kind=12→1≤x.n∧x.n≤8
theorem kq.a {x:cE} {a b r:Bk} (h:kq (.cons x a b r)):kq a:=λ y hy=>h y (by simp [Bk.flat,hy])
theorem kq.b {x:cE} {a b r:Bk} (h:kq (.cons x a b r)):kq b:=λ y hy=>h y (by simp [Bk.flat,hy])
theorem kq.r {x:cE} {a b r:Bk} (h:kq (.cons x a b r)):kq r:=λ y hy=>h y (by simp [Bk.flat,hy])
theorem kq.x {x:cE} {a b r:Bk} (h:kq (.cons x a b r)):x.kind=12→1≤x.n∧x.n≤8:=h x (by simp [Bk.flat])
theorem acx (t:Bk):kq t→0≤rQ t:=by
 induction t with
 | nil=>intro _; simp [rQ]
 | cons x a b r vA xE GG=>
  intro h
  have h1:=vA h.a
  have h2:=xE h.b
  have h3:=GG h.r
  have hc:=Vu x.kind
  unfold rQ
  split
  ·rename_i hk
   have:=Int.mul_nonneg (a:=x.n) (by have:=h.x hk; omega) h1
   omega
  ·split <;> omega
def bV:Bk→Int
 | .nil=>0
 | .cons x a b r=>(if x.kind=12 then 2+bV a else if x.kind=11 then (if 0<x.fE then 1+bV a+bV b+1 else 1+bV a+bV b) else 1)+bV r
theorem iQ (t:Bk):0≤bV t∧bV t≤2 * t.len:=by
 induction t with
 | nil=>simp [bV,Bk.len]
 | cons x a b r vA xE GG=>
  unfold bV Bk.len
  repeat' split
  all_goals omega
def iR:Bk→Int
 | .nil=>0
 | .cons x a b r=>max (if x.kind=12 then max (iR a) (iR b)+1 else max (iR a) (iR b)) (iR r)
theorem sT (t:Bk):0≤iR t∧iR t≤t.len:=by
 induction t with
 | nil=>simp [iR,Bk.len]
 | cons x a b r vA xE GG=>
  unfold iR Bk.len
  split <;> omega
def lC (p:cU) (rs:List ByteArray) (x:cE):aW:=
 ⟨if x.kind=14 then 15 else x.kind,max 0 (dP rs x.gJ),
  if x.kind=2∨x.kind=3∨x.kind=4 then dP (fc p) x.name else if x.kind=5∨x.kind=6 then l6 p (dP (fc p) x.name) else if x.kind=9∨x.kind=10 then dP (gY p) x.name else 0,
  gg rs x.e,gg rs x.f,0⟩
def rn (x:cE) (a:Bk) (at_:Int):Int:=if 0<x.fE then at_+1+bV a+1 else at_+1+bV a
def eR (p:cU) (rs:List ByteArray):Bk→Int→Int→Int→List aW
 | .nil,_,_,_=>[]
 | .cons x a b r,at_,lp,out=>
  (if x.kind=11 then [⟨12,0,0,gg rs x.e,[],rn x a at_⟩]++eR p rs a (at_+1) lp out++(if 0<x.fE then [⟨11,0,0,[],[],rn x a at_+bV b⟩] else [])++eR p rs b (rn x a at_) lp out
   else if x.kind=12 then [⟨13,lp,x.n,[],[],0⟩]++eR p rs a (at_+1) (lp+1) (at_+2+bV a)++[⟨14,lp,0,[],[],at_+1⟩]
   else if x.kind=13 then [⟨11,0,0,[],[],out⟩] else [lC p rs x])++
  eR p rs r (at_+(bV (.cons x a b r) - bV r)) lp out
theorem gZ (p:cU) (rs:List ByteArray) (t:Bk):∀ at_ lp out,((eR p rs t at_ lp out).length:Int)=bV t:=by
 induction t with
 | nil=>intro _ _ _; rfl
 | cons x a b r vA xE GG=>
  intro at_ lp out
  unfold eR
  rw [List.length_append,Int.natCast_add,GG]
  rw [show bV (.cons x a b r)=(if x.kind=12 then 2+bV a else if x.kind=11 then (if 0<x.fE then 1+bV a+bV b+1 else 1+bV a+bV b) else 1)+bV r from rfl]
  congr 1
  by_cases h1:x.kind=11
  ·simp only [if_pos h1,if_neg (show ¬ x.kind=12 by omega)]
   have ha:=vA (at_+1) lp out
   have hb:=xE (rn x a at_) lp out
   by_cases h2:0<x.fE
   ·simp only [if_pos h2,List.length_append,List.length_singleton]; omega
   ·simp only [if_neg h2,List.length_append,List.length_singleton,List.length_nil]; omega
  ·simp only [if_neg h1]
   by_cases h2:x.kind=12
   ·have ha:=vA (at_+1) (lp+1) (at_+2+bV a)
    simp only [if_pos h2,List.length_append,List.length_singleton]; omega
   ·simp only [if_neg h2]
    split <;> simp
def l9 (p:cU) (t:dR):fo:=match oP t.body with | some b=>⟨t.aK.length,iR b,eR p t.aK b 0 0 0⟩ | none=>⟨t.aK.length,0,[]⟩
def eC (p:cU):il:=
 ⟨(List.range (gF p).length).map (fun (i:Nat)=>l6 p i),ew p,pe p,p.locks.length,p.threads.map (l9 p),(match p.recover[0]? with | some t=>l9 p t | none=>⟨0,0,[]⟩),p.cC.map (λ c=>gg (oR p) c.e)⟩
theorem C158 (lv:Value) (t:Bk) (N:Nat) (w:World) (hL:DL w lv t.flat) (gk:t.str) (hl:t.len≤1048576) (hN:t.len<N):CR 158 [lv] w (λ v w'=>v = .int .i64 (bV t)∧Ext w w'):=by
 have Ce:=t.cO;have hs:=St.start w;refine ZB _ _ _ ?_;unfold S158;obtain ⟨aw1,FR,R3⟩:=(hL).open;have hn43:=R3.1;refine aJ j0 (FR.ext hs.aF) (aH (aC (λ gu=>?_) (λ gu=>?_)))
 ·cases t with
  | nil=>exact ⟨rfl,hs.aF⟩
  | cons x a b r=>exact absurd Ce (by rw [show (Bk.cons x a b r).len=a.len+b.len+r.len+1 from rfl]; omega)
 ·obtain ⟨x,a,b,r,rfl⟩:=Bk.CI (t:=t) (by omega);obtain ⟨aff,wi⟩:=gx aw1 (i:=((0:Int)).toNat) (by omega);obtain ⟨fj,uR⟩:=gx ((Bk.cons x a b r).flat) (i:=((0:Int)).toNat) (by omega);obtain ⟨xf,xg,rfl,acy,acz⟩:=R3.2 _ _ _ wi uR;refine aQ j0 FR (by omega) wi (λ _ KK=>?_);obtain rfl:fj=x:=(Option.some.inj uR).symm;have KU:=gk;obtain ⟨Ft,hg2,hg3,hg4,Ve,hgb,hgr⟩:=KU;have Tm:a.len+b.len+r.len+1≤1048576:=hl;have hNn:a.len+b.len+r.len+1<N:=hN;have Mt:=a.cO;have Qa:=b.cO;have hlr:=r.cO;have Qf:(Bk.cons fj a b r).flat.length=a.len+b.len+r.len+1:=Bk.cO _
  have hsa:=iQ a;have hsb:=iQ b;have hsr:=iQ r;refine aD fW (KK.ext hs.aF) (aN hs qw (λ KZ w1 hs=>have hs:=hs.enc (cs':=Flat.enc (⟨0,(ByteArray.mk #[]),(ByteArray.mk #[]),⟨none,0,0⟩,⟨none,0,0⟩,0,0,0,0⟩:bX)) rfl;aI (x:=(⟨(fj).kind,(fj).gJ,(fj).name,xf,xg,(fj).n,(fj).body,(fj).fE,(fj).at_⟩:bX)) hs fW rfl rfl (λ w2 hs=>aA mV (have hs:=hs.drew;aB (v:=.int .i64 ((fj).body)) bL hs.hb rfl (aO (by omega) (aA iJ (aB (v:=.int .i64 ((fj).fE)) bL hs.hb rfl (aO (by omega) ?_))))))));refine ⟨λ jv w'=>∃ n1:Int,jv = .int .i64 n1∧n1=(if fj.kind=11 then (if 0<fj.fE then 1+bV a+bV b+1 else 1+bV a+bV b) else 1)∧0≤n1∧n1≤4000000∧St w bD [cD KZ (Flat.enc (⟨(fj).kind,(fj).gJ,(fj).name,xf,xg,(fj).n,(fj).body,(fj).fE,(fj).at_⟩:bX))] w',?_,?_⟩
  ·refine aA fy (aB (v:=.int .i64 ((fj).kind)) bL hs.hb rfl (aH (aC (λ iL=>?_) (λ iL=>?_))))
   ·refine km j0 (FR.ext hs.aF) (by omega) (by omega) (by omega) (λ apA ai2=>?_);have ai3:=DL.cut ai2 FR R3;refine km j0 (FR.ext hs.aF) (by omega) (by omega) (by omega) (λ Vv ai4=>?_);have ai5:=DL.cut ai4 FR R3;have hs:=hs.drew;refine aZ Dh hs (C158 _ a (N - 1) _ (by have h:=ai3.ext hs.aF; rw [Bk.Nw gk (by omega) (by omega)] at h; exact h) Ve (by omega) (by omega)) (λ w3 he hs=>aO (by omega) (aZ Dh hs (C158 _ b (N - 1) _ (by have h:=ai5.ext hs.aF; rw [Bk.acw gk (by omega) (by omega)] at h; exact h) hgb (by omega) (by omega)) (λ w4 he hs=>aO (by omega) (aA iJ (aB (v:=.int .i64 ((fj).fE)) bL hs.hb rfl (dA (aC (λ lh=>?_) (λ lh=>?_))))))))
    ·refine aO (by omega) ?_;exact ⟨_,rfl,by grind,by omega,by omega,hs⟩
    ·exact ⟨_,rfl,by grind,by omega,by omega,hs⟩
   ·exact ⟨_,rfl,by grind,by omega,by omega,hs⟩
  ·rintro _ w5 ⟨n1,rfl,UQ,aw2,aoQ,hs⟩ fB;refine ⟨λ jv w'=>∃ n2:Int,jv = .int .i64 n2∧n2=(if fj.kind=12 then 2+bV a else if fj.kind=11 then (if 0<fj.fE then 1+bV a+bV b+1 else 1+bV a+bV b) else 1)∧0≤n2∧n2≤4000000∧St w bD [cD KZ (Flat.enc (⟨(fj).kind,(fj).gJ,(fj).name,xf,xg,(fj).n,(fj).body,(fj).fE,(fj).at_⟩:bX))] w',?_,?_⟩
   ·refine aA fy (aB (v:=.int .i64 ((fj).kind)) bL hs.hb rfl (aH (aC (λ jW=>?_) (λ jW=>?_))))
    ·refine km j0 (FR.ext hs.aF) (by omega) (by omega) (by omega) (λ apB ai6=>?_);have ai7:=DL.cut ai6 FR R3;refine aZ Dh hs (C158 _ a (N - 1) _ (by have h:=ai7.ext hs.aF; rw [Bk.Nw gk (by omega) (by omega)] at h; exact h) Ve (by omega) (by omega)) (λ w6 he hs=>aO (by omega) ?_);exact ⟨_,rfl,by grind,by omega,by omega,hs⟩
    ·exact ⟨_,rfl,by grind,by omega,by omega,hs⟩
   ·rintro _ w7 ⟨n2,rfl,hn2,awp,hn21,hs⟩ jw;refine uO j0 (FR.ext hs.aF) (by omega) (by omega) (λ Vw ai8=>?_);have ai9:=DL.PK ai8 FR R3;refine aZ Dh hs (C158 _ r (N - 1) _ (by have h:=ai9.ext hs.aF; rw [Bk.acq gk (by omega)] at h; exact h) hgr (by omega) (by omega)) (λ w8 he hs=>aO (by omega) ?_);exact ⟨congrArg (Value.int .i64) (by rw [hn2]; rfl),hs.drop.aF⟩
termination_by N
decreasing_by all_goals omega
theorem C103 (lv:Value) (t:Bk) (N:Nat) (w:World) (hL:DL w lv t.flat) (gk:t.str) (hl:t.len≤1048576) (hN:t.len<N):CR 103 [lv] w (λ v w'=>v = .int .i64 (iR t)∧Ext w w'):=by
 have Ce:=t.cO;have hs:=St.start w;refine YV _ _ _ ?_;unfold S103;obtain ⟨aw3,La,Vx⟩:=(hL).open;have hn44:=Vx.1;refine aJ j0 (La.ext hs.aF) (aH (aC (λ gu=>?_) (λ gu=>?_)))
 ·cases t with
  | nil=>exact ⟨rfl,hs.aF⟩
  | cons x a b r=>exact absurd Ce (by rw [show (Bk.cons x a b r).len=a.len+b.len+r.len+1 from rfl]; omega)
 ·obtain ⟨x,a,b,r,rfl⟩:=Bk.CI (t:=t) (by omega);obtain ⟨aff,wi⟩:=gx aw3 (i:=((0:Int)).toNat) (by omega);obtain ⟨fj,uR⟩:=gx ((Bk.cons x a b r).flat) (i:=((0:Int)).toNat) (by omega);obtain ⟨xf,xg,rfl,acy,acz⟩:=Vx.2 _ _ _ wi uR;refine aQ j0 La (by omega) wi (λ _ KK=>?_);obtain rfl:fj=x:=(Option.some.inj uR).symm;have KU:=gk;obtain ⟨Ft,hg2,hg3,hg4,Ve,hgb,hgr⟩:=KU;have Tm:a.len+b.len+r.len+1≤1048576:=hl;have hNn:a.len+b.len+r.len+1<N:=hN;have Mt:=a.cO;have Qa:=b.cO;have hlr:=r.cO;have Qf:(Bk.cons fj a b r).flat.length=a.len+b.len+r.len+1:=Bk.cO _
  have hsa:=sT a;have hsb:=sT b;have hsr:=sT r;refine aD fW (KK.ext hs.aF) (aN hs qw (λ KZ w1 hs=>have hs:=hs.enc (cs':=Flat.enc (⟨0,(ByteArray.mk #[]),(ByteArray.mk #[]),⟨none,0,0⟩,⟨none,0,0⟩,0,0,0,0⟩:bX)) rfl;aI (x:=(⟨(fj).kind,(fj).gJ,(fj).name,xf,xg,(fj).n,(fj).body,(fj).fE,(fj).at_⟩:bX)) hs fW rfl rfl (λ w2 hs=>aA mV (aB (v:=.int .i64 ((fj).body)) bL hs.hb rfl (aO (by omega) (aA iJ (aB (v:=.int .i64 ((fj).fE)) bL hs.hb rfl (aO (by omega) (km j0 (La.ext hs.aF) (by omega) (by omega) (by omega) (λ aoX aja=>?_))))))))))
  have ajb:=DL.cut aja La Vx;refine km j0 (La.ext hs.aF) (by omega) (by omega) (by omega) (λ PV Bl=>?_);have Nx:=DL.cut Bl La Vx;have hs:=hs.drew;refine aZ Pa hs (C103 _ a (N - 1) _ (by have h:=ajb.ext hs.aF; rw [Bk.Nw gk (by omega) (by omega)] at h; exact h) Ve (by omega) (by omega)) (λ w3 he hs=>aZ Pa hs (C103 _ b (N - 1) _ (by have h:=Nx.ext hs.aF; rw [Bk.acw gk (by omega) (by omega)] at h; exact h) hgb (by omega) (by omega)) (λ w4 he hs=>wY ?_));refine ⟨λ jv w'=>∃ n1:Int,jv = .int .i64 n1∧n1=(if fj.kind=12 then max (iR a) (iR b)+1 else max (iR a) (iR b))∧0≤n1∧n1≤4000000∧St w bD [cD KZ (Flat.enc (⟨(fj).kind,(fj).gJ,(fj).name,xf,xg,(fj).n,(fj).body,(fj).fE,(fj).at_⟩:bX))] w',?_,?_⟩
  ·refine aA fy (aB (v:=.int .i64 ((fj).kind)) bL hs.hb rfl (aH (aC (λ jH=>?_) (λ jH=>?_))))
   ·refine aO (by omega) ?_;exact ⟨_,rfl,by grind,by omega,by omega,hs⟩
   ·exact ⟨_,rfl,by grind,by omega,by omega,hs⟩
  ·rintro _ w5 ⟨n1,rfl,UQ,aw2,aoQ,hs⟩ fB;refine uO j0 (La.ext hs.aF) (by omega) (by omega) (λ afl ajc=>?_);have ajd:=DL.PK ajc La Vx;refine aZ Pa hs (C103 _ r (N - 1) _ (by have h:=ajd.ext hs.aF; rw [Bk.acq gk (by omega)] at h; exact h) hgr (by omega) (by omega)) (λ w6 he hs=>wY ?_);exact ⟨congrArg (Value.int .i64) (by rw [UQ]; rfl),hs.drop.aF⟩
termination_by N
decreasing_by all_goals omega
theorem Vy (t:Bk):∀ n:Int,kq t→1≤n→oE t n=false→n * rQ t≤128 * (t.len:Int)∧0≤rQ t:=by
 induction t with
 | nil=>intro n _ _ _; simp [rQ,Bk.len]
 | cons x a b r vA xE GG=>
  intro n hq hn hw
  unfold oE at hw
  simp only [Bool.or_eq_false_iff,decide_eq_false_iff_not] at hw
  obtain ⟨⟨h64,ha,hb⟩,hr⟩:=hw
  have hm1:1≤sn x n:=by
   unfold sn
   split
   ·rename_i hk
    have:=hq.x hk
    have:=Int.mul_le_mul (a:=1) (b:=1) hn this.1 (by omega) (by omega)
    omega
   ·exact hn
  have h1:=vA _ hq.a hm1 ha
  have h2:=xE _ hq.b hm1 hb
  have h3:=GG _ hq.r hn hr
  have hnn:=acx _ hq
  refine ⟨?_,hnn⟩
  have hl:((Bk.cons x a b r).len:Int)=a.len+b.len+r.len+1:=rfl
  rw [hl,show rQ (.cons x a b r)=(if x.kind=12 then x.n * rQ a else if x.kind=11 then max (rQ a) (rQ b) else Ev x.kind)+rQ r from rfl,Int.mul_add]
  have key:n * (if x.kind=12 then x.n * rQ a else if x.kind=11 then max (rQ a) (rQ b) else Ev x.kind)≤128 * (a.len+b.len+1):=by
   by_cases hk:x.kind=12
   ·rw [if_pos hk,← Int.mul_assoc]
    have:sn x n=n * x.n:=by unfold sn; rw [if_pos hk]
    rw [this] at h1; omega
   ·have hwn:sn x n=n:=by unfold sn; rw [if_neg hk]
    rw [hwn] at h1 h2 h64
    rw [if_neg hk]
    split
    ·rcases Int.le_total (rQ a) (rQ b) with h | h
     ·rw [Int.max_eq_right h]; omega
     ·rw [Int.max_eq_left h]; omega
    ·have hc:=Vu x.kind
     have:=Int.mul_le_mul (a:=n) (b:=Ev x.kind) (c:=64) (d:=2) (by omega) hc.2 hc.1 (by omega)
     omega
  omega
structure Bm (p:cU):Prop where
 right:l5 p=true
 big:zU p=false
 aw5:∀ t∈iG p,vp t.body=false
 twice:ri (jz p)=false
 aK:∀ t∈iG p,FP p t.aK=false
 names:∀ t∈iG p,∀ x∈t.body,oh p t.aK x=false
 cC:∀ c∈p.cC,vo c.e (oR p)=false
theorem Ew {p:cU} (h:gK p=0):Bm p:=by
 unfold gK at h
 split at h
 ·omega
 ·rename_i h1
  split at h
  ·omega
  ·rename_i h2
   split at h
   ·omega
   ·rename_i h3
    split at h
    ·omega
    ·rename_i h4
     split at h
     ·omega
     ·rename_i h5
      split at h
      ·omega
      ·rename_i h6
       split at h
       ·omega
       ·rename_i h7
        simp only [Bool.not_eq_true,Bool.not_eq_false,List.any_eq_false] at h1 h2 h3 h4 h5 h6 h7
        exact ⟨h1,h2,λ t ht=>h3 t ht,h4,λ t ht=>h5 t ht,λ t ht x hx=>h6 t ht x hx,λ c hc=>h7 c hc⟩
theorem Bm.tree {p:cU} (h:Bm p) {t:dR} (ht:t∈iG p):∃ b:Bk,t.body=b.flat∧b.str∧b.ok 0=true∧b.len≤40∧kq b∧(∀ x∈b.flat,rf x=true)∧oE b 1=false∧oP t.body=some b∧0≤rQ b∧rQ b≤5120:=by
 obtain ⟨h1,h2,b,h3,h4,h5,_⟩:=nB ((wk h.right).nf ht).2.1
 have hl:b.len≤40:=by rw [← Bk.cO,← h3]; exact h1
 have hq:kq b:=λ x hx=>(Np (h2 x (by rw [h3]; exact hx))).2
 have hw:oE b 1=false:=by have:=h.aw5 t ht; rw [h3,yy h4] at this; exact this
 have hs:=Vy b 1 hq (by omega) hw
 exact ⟨b,h3,h4,h5,hl,hq,λ x hx=>h2 x (by rw [h3]; exact hx),hw,by rw [h3]; exact oQ h4,hs.2,by omega⟩
def FT (p:cU) (rs:List ByteArray) (x:cE) (a b:Bk) (at_ lp out:Int):List aW:=
  if x.kind=11 then [⟨12,0,0,gg rs x.e,[],rn x a at_⟩]++eR p rs a (at_+1) lp out++(if 0<x.fE then [⟨11,0,0,[],[],rn x a at_+bV b⟩] else [])++eR p rs b (rn x a at_) lp out
   else if x.kind=12 then [⟨13,lp,x.n,[],[],0⟩]++eR p rs a (at_+1) (lp+1) (at_+2+bV a)++[⟨14,lp,0,[],[],at_+1⟩]
   else if x.kind=13 then [⟨11,0,0,[],[],out⟩] else [lC p rs x]
theorem uZ (p:cU) (rs:List ByteArray) (x:cE) (a b r:Bk) (at_ lp out:Int):eR p rs (.cons x a b r) at_ lp out=FT p rs x a b at_ lp out++eR p rs r (at_+((FT p rs x a b at_ lp out).length:Int)) lp out:=by
 have h1:=gZ p rs (.cons x a b r) at_ lp out
 have e:eR p rs (.cons x a b r) at_ lp out=FT p rs x a b at_ lp out++eR p rs r (at_+(bV (.cons x a b r) - bV r)) lp out:=rfl
 have h2:=gZ p rs r (at_+(bV (.cons x a b r) - bV r)) lp out
 rw [e,List.length_append] at h1
 rw [e,show ((FT p rs x a b at_ lp out).length:Int)=bV (.cons x a b r) - bV r from by omega]
theorem Iy (p:cU) (rs:List ByteArray) (x:cE) (a b r:Bk) (at_ lp out:Int):((FT p rs x a b at_ lp out).length:Int)=bV (.cons x a b r) - bV r:=by
 have h1:=gZ p rs (.cons x a b r) at_ lp out
 have h2:=gZ p rs r (at_+(bV (.cons x a b r) - bV r)) lp out
 have e:eR p rs (.cons x a b r) at_ lp out=FT p rs x a b at_ lp out++eR p rs r (at_+(bV (.cons x a b r) - bV r)) lp out:=rfl
 rw [e,List.length_append] at h1
 omega
def Lb:fo:=⟨0,0,[]⟩
def Ey:il:=⟨[],0,[],0,[],Lb,[]⟩
def Lc (p:cU):fo:=match p.recover[0]? with | some t=>l9 p t | none=>Lb
theorem Ez {p:cU} {t:dR} {b:Bk} (h:oP t.body=some b):l9 p t=⟨t.aK.length,iR b,eR p t.aK b 0 0 0⟩:=by unfold l9; rw [h]
theorem C159 (q:UF) (qv:vY) (x:cE) (xv:bX) (w:World) (hv:cA.dr w qv q) (hx:cA.dr w xv x) (hz:PZ q.p) (BV:q.aK.length≤500) (hzx:SzS x):CR 159 [Flat.val qv,Flat.val xv] w (λ v w'=>∃ iv:bU,v=Flat.val iv∧lW (eS (λ w=>cA.dr w iv (lC q.p q.aK x))) w w'):=by
 obtain ⟨apC,om,rfl,Vz,pJ⟩:=hv;obtain ⟨eM,fa,eN,dW,dX,eo,rfl,jJ,kP,jK,ic,ie,iS⟩:=Vz;obtain ⟨zN,zO,rfl,KL,GI⟩:=hx;have Qi:=l7 hz.toPS;have KE:(gY q.p).length≤500:=by unfold gY; rw [List.length_map]; exact hz.locks
 have hs:=St.start w;refine ZC _ _ _ _ ?_;unfold S159;refine dE hs (λ b_v2 w1 hs=>dE hs (λ KZ w2 hs=>aN hs mr (λ Cj w3 hs=>have hs:=hs.enc (cs':=Flat.enc (⟨0,0,0,⟨none,0,0⟩,⟨none,0,0⟩,0⟩:bU)) rfl;aA zA (have hs:=hs.drew;aB pq hs.p2.hb rfl ?_))));have ajf:=DL.flat (pJ);refine aA lS (aB (v:=.string ((x).gJ)) j4 hs.p1.hb rfl (aA Dx (uN (⟨eM,fa,eN,dW,dX,eo⟩:bN) gI hs.p2.hb rfl (aA ji (aB (v:=.string ((x).name)) j4 hs.p1.hb rfl (aZ AY hs (C98 _ (q).aK _ _ (ajf.ext hs.aF) (by omega)) (λ w4 he hs=>?_)))))))
 refine ⟨Ik (⟨eM,fa,eN,dW,dX,eo⟩:bN) gI hs.p2.hb rfl,?_⟩;refine ⟨aG j4 (hs.p1.hb.cell rfl),?_⟩;refine wY (dB TP hs (C46 (q).p _ _ ⟨eM,fa,eN,dW,dX,eo,rfl,(jJ.ext hs.aF),(kP.ext hs.aF),(jK.ext hs.aF),(ic.ext hs.aF),(ie.ext hs.aF),(iS.ext hs.aF)⟩ hz) (λ x20 w5 bY hs=>?_));refine ⟨aG j4 (hs.p2.hb.cell rfl),?_⟩;refine aZ AY hs (C98 _ (fc (q).p) _ _ (hs).fI (by omega)) (λ w6 he hs=>aA lT (aB mR hs.p2.hb rfl ?_));have aw6:=DL.flat (KL)
 refine aA zA (aB pq hs.p3.hb rfl (eu YQ (C45 _ _ _ _ _ (aw6.ext hs.aF) (ajf.ext hs.aF) hzx.2.2.1 (by omega) hzx.2.2.2.2.1) ?_));rintro _ w7 ⟨afe,rfl,bY⟩;have hs:=hs.made bY;refine bE rfl (bE rfl (aA nU (aB mR hs.p3.hb rfl ?_)));have aw7:=DL.flat (GI);refine aA zA (aB pq hs.p4.hb rfl (eu YQ (C45 _ _ _ _ _ (aw7.ext hs.aF) (ajf.ext hs.aF) hzx.2.2.2.1 (by omega) hzx.2.2.2.2.2) ?_));rintro _ w8 ⟨ao6,rfl,bY⟩;have hs:=hs.made bY;refine bE rfl (bE rfl (aA fy (aB (v:=.int .i64 ((x).kind)) bL hs.p4.hb rfl ?_)));obtain ⟨u3,rfl⟩:=(hs.p1).fQ;obtain ⟨oT,rfl⟩:=(hs).fQ
 refine pop (Dz _ _ _ _ _ _ _ _) (aN hs mr (λ apD w9 hs=>have hs:=hs.enc (cs':=Flat.enc (⟨0,0,0,⟨none,0,0⟩,⟨none,0,0⟩,0⟩:bU)) rfl;aI (x:=(⟨(x).kind,(max 0 (dP (q).aK (x).gJ)),0,u3,oT,0⟩:bU)) hs lF rfl rfl (λ pP hs=>?_)));refine ⟨λ w'=>∃ kk bb:Int,kk=(if x.kind=14 then 15 else x.kind)∧bb=(if x.kind=2∨x.kind=3∨x.kind=4 then dP (fc q.p) x.name else if x.kind=5∨x.kind=6 then l6 q.p (dP (fc q.p) x.name) else if x.kind=9∨x.kind=10 then dP (gY q.p) x.name else 0)∧St w bD [cD apD (Flat.enc (⟨kk,max 0 (dP q.aK x.gJ),bb,u3,oT,0⟩:bU)),bK (Flat.val u3) (gg q.aK x.e),bK (Flat.val oT) (gg q.aK x.f),cD Cj (Flat.enc (⟨0,0,0,⟨none,0,0⟩,⟨none,0,0⟩,0⟩:bU))] w',?_,?_⟩
 ·refine aA fy (aB (v:=.int .i64 ((x).kind)) bL hs.p5.hb rfl ?_);refine ⟨λ jv w'=>jv = .bool (decide (x.kind=2∨x.kind=3∨x.kind=4))∧pP=w',?_,?_⟩
  ·refine aH (aC (λ vq=>?_) (λ vq=>?_))
   ·exact ⟨xw (by omega),rfl⟩
   ·refine aH (aC (λ pI=>?_) (λ pI=>?_))
    ·exact ⟨xw (by omega),rfl⟩
    ·refine aH ?_;exact ⟨xw (by omega),rfl⟩
  ·rintro _ sQ ⟨rfl,hw⟩ fB;subst hw;refine aC (λ zP=>?_) (λ zP=>?_)
   ·refine aA eY (aV hs bL (eJ rfl) (rfl) (λ vl hs=>?_));have hs:=hs.enc (cs':=Flat.enc (⟨(x).kind,(max 0 (dP (q).aK (x).gJ)),(dP (fc (q).p) (x).name),u3,oT,0⟩:bU)) rfl;have hs:=(((hs.p3.drop.p4.drop.p4.drop.p3).p2).p3).p3;exact ⟨_,_,by grind,by grind,hs⟩
   ·refine ⟨λ jv w'=>jv = .bool (decide (x.kind=5∨x.kind=6))∧pP=w',?_,?_⟩
    ·refine aH (aC (λ Ej=>?_) (λ Ej=>?_))
     ·exact ⟨xw (by omega),rfl⟩
     ·refine aH ?_;exact ⟨xw (by omega),rfl⟩
    ·rintro _ vm ⟨rfl,hw⟩ jw;subst hw;refine aC (λ wm=>?_) (λ wm=>?_)
     ·refine aA Dx (uN (⟨eM,fa,eN,dW,dX,eo⟩:bN) gI hs.p6.hb rfl (aZ amB hs (C43 (q).p _ _ _ ⟨eM,fa,eN,dW,dX,eo,rfl,(jJ.ext hs.aF),(kP.ext hs.aF),(jK.ext hs.aF),(ic.ext hs.aF),(ie.ext hs.aF),(iS.ext hs.aF)⟩ hz) (λ sd he hs=>aA eY (aV hs bL (eJ rfl) (rfl) (λ v7 hs=>?_)))));have hs:=hs.enc (cs':=Flat.enc (⟨(x).kind,(max 0 (dP (q).aK (x).gJ)),(l6 (q).p (dP (fc (q).p) (x).name)),u3,oT,0⟩:bU)) rfl;have hs:=(((hs.p3.drop.p4.drop.p4.drop.p3).p2).p3).p3
      exact ⟨_,_,by grind,by grind,hs⟩
     ·refine ⟨λ jv w'=>jv = .bool (decide (x.kind=9∨x.kind=10))∧pP=w',?_,?_⟩
      ·refine aH (aC (λ VA=>?_) (λ VA=>?_))
       ·exact ⟨xw (by omega),rfl⟩
       ·refine aH ?_;exact ⟨xw (by omega),rfl⟩
      ·rintro _ yT ⟨rfl,hw⟩ oN;subst hw;refine aC (λ sm=>?_) (λ sm=>?_)
       ·refine aA Dx (have hs:=hs.drew;uN (⟨eM,fa,eN,dW,dX,eo⟩:bN) gI hs.p6.hb rfl (aA ji (aB (v:=.string ((x).name)) j4 hs.p5.hb rfl (dB ahS hs (C99 (q).p _ _ ⟨eM,fa,eN,dW,dX,eo,rfl,(jJ.ext hs.aF),(kP.ext hs.aF),(jK.ext hs.aF),(ic.ext hs.aF),(ie.ext hs.aF),(iS.ext hs.aF)⟩ hz) (λ x67 Ch bY hs=>?_)))));refine ⟨aG j4 (hs.p6.hb.cell rfl),?_⟩;refine aZ AY hs (C98 _ (gY (q).p) _ _ (hs).fI (by omega)) (λ Im he hs=>aA eY (aV hs.p1 bL (eJ rfl) (rfl) (λ Jp hs=>?_)))
        have hs:=hs.enc (cs':=Flat.enc (⟨(x).kind,(max 0 (dP (q).aK (x).gJ)),(dP (gY (q).p) (x).name),u3,oT,0⟩:bU)) rfl;have hs:=((((hs.p1.drop.p3.drop.p4.drop.p4.drop).p3).p2).p3).p3;exact ⟨_,_,by grind,by grind,hs⟩
       ·refine aH (aC (λ KI=>?_) (λ KI=>?_))
        ·refine aA jg (aV hs bL (eJ rfl) (rfl) (λ Kz hs=>?_));have hs:=hs.enc (cs':=Flat.enc (⟨15,(max 0 (dP (q).aK (x).gJ)),0,u3,oT,0⟩:bU)) rfl;have hs:=(((hs.p3.drop.p4.drop.p4.drop.p3).p2).p3).p3;exact ⟨_,_,by grind,by grind,hs⟩
        ·have hs:=(((hs.p3.drop.p4.drop.p4.drop.p3).p2).p3).p3;exact ⟨_,_,by grind,by grind,hs⟩
 ·rintro Mu ⟨kk,bb,ng,hbb,hs⟩ GJ;refine aD lF hs.At (aI (x:=(⟨kk,max 0 (dP q.aK x.gJ),bb,u3,oT,0⟩:bU)) hs.p3 lF rfl rfl (λ Qm hs=>aD lF hs.At ?_));have hs:=hs.p2.freeze.p3.freeze.p1.fL.dO (Ψ:=(λ w=>cA.dr w (⟨kk,max 0 (dP q.aK x.gJ),bb,u3,oT,0⟩:bU) (⟨kk,max 0 (dP q.aK x.gJ),bb,(gg q.aK x.e),(gg q.aK x.f),0⟩:aW))) (λ w h=>⟨_,_,rfl,DL.fq h.1,DL.fq h.2⟩);have hs:=((hs.p1.drop).p1).drop;have h1:lC q.p q.aK x=(⟨kk,max 0 (dP q.aK x.gJ),bb,gg q.aK x.e,gg q.aK x.f,0⟩:aW):=by unfold lC; rw [← ng,← hbb]
  exact ⟨_,rfl,by rw [h1]; exact hs.fresh⟩
set_option maxHeartbeats 4000000 in
theorem C104 (q:UF) (qv:vY) (lv:Value) (t:Bk) (at_ lp out:Int) (N:Nat) (w:World) (hv:cA.dr w qv q) (hL:DL w lv t.flat) (hz:PZ q.p) (BV:q.aK.length≤500) (gk:t.str) (hq:∀ x∈t.flat,SzS x) (hb:(0≤at_∧at_+bV t≤16777216)∧(0≤lp∧lp+t.len≤16777216)) (hl:t.len≤1048576) (hN:t.len<N) (hN2:0<N):CR 104 [Flat.val qv,lv,.int .i64 at_,.int .i64 lp,.int .i64 out] w (λ v w'=>lW (fk v (eR q.p q.aK t at_ lp out)) w w'):=by
 obtain ⟨apC,om,rfl,Vz,pJ⟩:=hv;obtain ⟨eM,fa,eN,dW,dX,eo,rfl,jJ,kP,jK,ic,ie,iS⟩:=Vz;have Ce:=t.cO;have hs:=St.start w;refine YW _ _ _ _ _ _ _ ?_;unfold S104;refine dE hs (λ acB w1 hs=>?_);obtain ⟨aw8,Ld,VB⟩:=(hL).open;have hn49:=VB.1;refine aJ j0 (Ld.ext hs.aF) (aH (aC (λ iN=>?_) (λ iN=>?_)))
 ·cases t with
  | nil=>exact (hs.xD (α:=aW)).fresh
  | cons x a b r=>exact absurd Ce (by rw [show (Bk.cons x a b r).len=a.len+b.len+r.len+1 from rfl]; omega)
 ·obtain ⟨x,a,b,r,rfl⟩:=Bk.CI (t:=t) (by omega);obtain ⟨GP,pU⟩:=gx aw8 (i:=((0:Int)).toNat) (by omega);obtain ⟨ek,wx⟩:=gx ((Bk.cons x a b r).flat) (i:=((0:Int)).toNat) (by omega);obtain ⟨xh,xi,rfl,Iz,Qo⟩:=VB.2 _ _ _ pU wx;refine aQ j0 Ld (by omega) pU (λ _ ud=>?_);obtain rfl:ek=x:=(Option.some.inj wx).symm;have KU:=gk;obtain ⟨Ft,hg2,hg3,hg4,Ve,hgb,hgr⟩:=KU;have Tm:a.len+b.len+r.len+1≤1048576:=hl;have hNn:a.len+b.len+r.len+1<N:=hN;have Mt:=a.cO;have Qa:=b.cO;have hlr:=r.cO;have Qf:(Bk.cons ek a b r).flat.length=a.len+b.len+r.len+1:=Bk.cO _
  have hsa:=iQ a;have hsb:=iQ b;have hsr:=iQ r;have hSe:bV (.cons ek a b r)=(if ek.kind=12 then 2+bV a else if ek.kind=11 then (if 0<ek.fE then 1+bV a+bV b+1 else 1+bV a+bV b) else 1)+bV r:=rfl;have hqx:=hq ek (by simp [Bk.flat]);refine aD fW (ud.ext hs.aF) (aN hs qw (λ VC w2 hs=>have hs:=hs.enc (cs':=Flat.enc (⟨0,(ByteArray.mk #[]),(ByteArray.mk #[]),⟨none,0,0⟩,⟨none,0,0⟩,0,0,0,0⟩:bX)) rfl;aI (x:=(⟨(ek).kind,(ek).gJ,(ek).name,xh,xi,(ek).n,(ek).body,(ek).fE,(ek).at_⟩:bX)) hs fW rfl rfl (λ w3 hs=>aA mV (aB (v:=.int .i64 ((ek).body)) bL hs.hb rfl (aO (by omega) (aA iJ (aB (v:=.int .i64 ((ek).fE)) bL hs.hb rfl (aO (by omega) (km j0 (Ld.ext hs.aF) (by omega) (by omega) (by omega) (λ afj ajg=>?_))))))))))
  have IA:=DL.cut ajg Ld VB;refine km j0 (Ld.ext hs.aF) (by omega) (by omega) (by omega) (λ apE ajh=>?_);have VD:=DL.cut ajh Ld VB;have hs:=hs.drew;refine vV (α:=aW) hs kK (λ VE w4 hs=>?_);refine ⟨λ JP w'=>St w bD [fk JP (FT q.p q.aK ek a b at_ lp out),cD acB (Flat.enc (⟨(⟨eM,fa,eN,dW,dX,eo⟩:bN),om⟩:vY))] w',?_,?_⟩
  ·refine aA fy (aB (v:=.int .i64 ((ek).kind)) bL hs.p1.hb rfl (aH (aC (λ pE=>?_) (λ pE=>?_))))
   ·have aw9:bV (.cons ek a b r)=(if 0<ek.fE then 1+bV a+bV b+1 else 1+bV a+bV b)+bV r:=by rw [hSe,if_neg (by omega),if_pos (by omega)]
    have hma:=gZ q.p q.aK a (at_+1) lp out;have axa:1+bV a+bV b+bV r≤bV (.cons ek a b r):=by rw [aw9]; split <;> omega
    refine aA lT (aB mR hs.p1.hb rfl ?_);have axb:=DL.flat (Iz);refine aA zA (aB pq hs.p2.hb rfl ?_);have axc:=DL.flat (pJ);refine eu YQ (C45 _ _ _ _ _ (axb.ext hs.aF) (axc.ext hs.aF) hqx.2.2.1 (by omega) hqx.2.2.2.2.1) ?_;rintro _ w5 ⟨apF,rfl,bY⟩;have hs:=hs.made bY;refine bE rfl (bE rfl (aO (by omega) (aZ Dh hs (C158 _ a (a.len+1) _ (by have h:=IA.ext hs.aF; rw [Bk.Nw gk (by omega) (by omega)] at h; exact h) Ve (by omega) (by omega)) (λ w6 he hs=>aO (by omega) ?_))));refine ⟨λ jv w'=>∃ to:Int,jv = .int .i64 to∧to=rn ek a at_∧0≤to∧to≤at_+2+bV a∧St w bD [bK apF (gg q.aK ek.e),fk VE ([]:List aW),cD VC (Flat.enc (⟨(ek).kind,(ek).gJ,(ek).name,xh,xi,(ek).n,(ek).body,(ek).fE,(ek).at_⟩:bX)),cD acB (Flat.enc (⟨(⟨eM,fa,eN,dW,dX,eo⟩:bN),om⟩:vY))] w',?_,?_⟩
    ·refine aA iJ (aB (v:=.int .i64 ((ek).fE)) bL hs.p2.hb rfl (dA (aC (λ og=>?_) (λ og=>?_))))
     ·refine aO (by omega) ?_;have hs:=hs.p3.p3.p3.p3;exact ⟨_,rfl,by unfold rn; grind,by omega,by omega,hs⟩
     ·have hs:=hs.p3.p3.p3.p3;exact ⟨_,rfl,by unfold rn; grind,by omega,by omega,hs⟩
    ·rintro _ w7 ⟨to,rfl,hto,hto0,hto1,hs⟩ fB;obtain ⟨VF,rfl⟩:=(hs).fQ;refine pop (Ib _ _ _ _ _) (have hs:=hs.freeze.dO (Ψ:=(λ w=>cA.dr w (⟨12,0,0,VF,⟨none,0,0⟩,to⟩:bU) (⟨12,0,0,(gg ((q).aK) ((ek).e)),[],to⟩:aW))) (λ w h=>⟨_,_,rfl,DL.fq h,DL.nil _⟩);eK (s:=(⟨12,0,0,VF,⟨none,0,0⟩,to⟩:bU)) (x:=(⟨12,0,0,(gg ((q).aK) ((ek).e)),[],to⟩:aW)) hs kK (by decide) (λ afm w8 hs=>have hs:=hs.p1;ed hs kK (by simp only [List.length_append,List.length_cons,List.length_nil]; omega) (by decide) (λ apG w9 hs=>aD BO hs.p2.At (aO (by omega) (dB JR hs (C104 q _ _ a (at_+1) (lp) (out) (N - 1) _ ⟨(⟨eM,fa,eN,dW,dX,eo⟩:bN),om,rfl,⟨eM,fa,eN,dW,dX,eo,rfl,(jJ.ext hs.aF),(kP.ext hs.aF),(jK.ext hs.aF),(ic.ext hs.aF),(ie.ext hs.aF),(iS.ext hs.aF)⟩,(pJ.ext hs.aF)⟩ (by have h:=IA.ext hs.aF; rw [Bk.Nw gk (by omega) (by omega)] at h; exact h) hz BV Ve (λ y hy=>hq y (by simp [Bk.flat,hy])) (by omega) (by omega) (by omega) (by omega)) (λ x83 pP bY hs=>have hs:=hs.p1;ed hs kK (by simp only [List.length_append,List.length_cons,List.length_nil]; omega) (by decide) (λ afn sQ hs=>?_)))))))
     refine ⟨λ r16 w'=>St w bD [fk r16 (((([]:List aW)++[(⟨12,0,0,(gg (q.aK) ((ek).e)),[],to⟩:aW)])++(eR q.p q.aK a (at_+1) (lp) (out)))++(if 0<ek.fE then [(⟨11,0,0,[],[],(to+(bV b))⟩:aW)] else [])),cD VC (Flat.enc (⟨(ek).kind,(ek).gJ,(ek).name,xh,xi,(ek).n,(ek).body,(ek).fE,(ek).at_⟩:bX)),cD acB (Flat.enc (⟨(⟨eM,fa,eN,dW,dX,eo⟩:bN),om⟩:vY))] w',?_,?_⟩
     ·refine aA iJ (aB (v:=.int .i64 ((ek).fE)) bL hs.p1.hb rfl (dA (aC (λ zQ=>?_) (λ zQ=>?_))))
      ·refine aZ Dh hs (C158 _ b (b.len+1) _ (by have h:=VD.ext hs.aF; rw [Bk.acw gk (by omega) (by omega)] at h; exact h) hgb (by omega) (by omega)) (λ vl he hs=>aO (by omega) (pop (DA _ _) (have hs:=hs.gE (Φ:=(λ w=>cA.dr w (⟨11,0,0,⟨none,0,0⟩,⟨none,0,0⟩,(to+(bV b))⟩:bU) (⟨11,0,0,[],[],(to+(bV b))⟩:aW))) (λ w=>⟨_,_,rfl,DL.nil _,DL.nil _⟩);eK (s:=(⟨11,0,0,⟨none,0,0⟩,⟨none,0,0⟩,(to+(bV b))⟩:bU)) (x:=(⟨11,0,0,[],[],(to+(bV b))⟩:aW)) hs kK (by decide) (λ s_x94 vm hs=>have hs:=hs.p1;ed hs kK (by simp only [List.length_append,List.length_cons,List.length_nil]; omega) (by decide) (λ s_x95 sd hs=>?_)))))
       have hs:=hs.p2.p2.p2;have hh:(((([]:List aW)++[(⟨12,0,0,(gg ((q).aK) ((ek).e)),[],to⟩:aW)])++(eR q.p q.aK a (at_+1) (lp) (out)))++[(⟨11,0,0,[],[],(to+(bV b))⟩:aW)])=(((([]:List aW)++[(⟨12,0,0,(gg (q.aK) ((ek).e)),[],to⟩:aW)])++(eR q.p q.aK a (at_+1) (lp) (out)))++(if 0<ek.fE then [(⟨11,0,0,[],[],(to+(bV b))⟩:aW)] else [])):=by rw [if_pos (by omega)]
       rw [hh] at hs;exact hs
      ·have hs:=hs.p2.p2.p2;have hh:((([]:List aW)++[(⟨12,0,0,(gg ((q).aK) ((ek).e)),[],to⟩:aW)])++(eR q.p q.aK a (at_+1) (lp) (out)))=(((([]:List aW)++[(⟨12,0,0,(gg (q.aK) ((ek).e)),[],to⟩:aW)])++(eR q.p q.aK a (at_+1) (lp) (out)))++(if 0<ek.fE then [(⟨11,0,0,[],[],(to+(bV b))⟩:aW)] else [])):=by rw [if_neg (by omega)]; simp
       rw [hh] at hs;exact hs
     ·rintro r16 v7 hs jw;have tu:=gZ q.p q.aK b to lp out;refine aD BO hs.p2.At (dB JR hs (C104 q _ _ b (to) (lp) (out) (N - 1) _ ⟨(⟨eM,fa,eN,dW,dX,eo⟩:bN),om,rfl,⟨eM,fa,eN,dW,dX,eo,rfl,(jJ.ext hs.aF),(kP.ext hs.aF),(jK.ext hs.aF),(ic.ext hs.aF),(ie.ext hs.aF),(iS.ext hs.aF)⟩,(pJ.ext hs.aF)⟩ (by have h:=VD.ext hs.aF; rw [Bk.acw gk (by omega) (by omega)] at h; exact h) hz BV hgb (λ y hy=>hq y (by simp [Bk.flat,hy])) (by rw [hto]; unfold rn; split <;> omega) (by omega) (by omega) (by omega)) (λ x102 yT bY hs=>have hs:=hs.p1;ed hs kK (by simp only [List.length_append,List.length_cons,List.length_nil]; split <;> simp only [List.length_cons,List.length_nil] <;> omega) (by decide) (λ axe Ch hs=>?_)))
      have hs:=(hs.p1.drop.p1).p1;have hh:((((([]:List aW)++[(⟨12,0,0,(gg (q.aK) ((ek).e)),[],to⟩:aW)])++(eR q.p q.aK a (at_+1) (lp) (out)))++(if 0<ek.fE then [(⟨11,0,0,[],[],(to+(bV b))⟩:aW)] else []))++(eR q.p q.aK b (to) (lp) (out)))=FT q.p q.aK ek a b at_ lp out:=by unfold FT; simp [*]
      rw [hh] at hs;exact hs
   ·refine aH (aC (λ Bn=>?_) (λ Bn=>?_))
    ·have axa:bV (.cons ek a b r)=2+bV a+bV r:=by rw [hSe,if_pos (by omega)]
     have hma:=gZ q.p q.aK a (at_+1) (lp+1) (at_+2+bV a);refine aO (by omega) (aZ Dh hs (C158 _ a (a.len+1) _ (by have h:=IA.ext hs.aF; rw [Bk.Nw gk (by omega) (by omega)] at h; exact h) Ve (by omega) (by omega)) (λ Im he hs=>aO (by omega) (aA tM (aB (v:=.int .i64 ((ek).n)) bL hs.p1.hb rfl (pop (H9 _ _ _) (have hs:=hs.gE (Φ:=(λ w=>cA.dr w (⟨13,lp,(ek).n,⟨none,0,0⟩,⟨none,0,0⟩,0⟩:bU) (⟨13,lp,(ek).n,[],[],0⟩:aW))) (λ w=>⟨_,_,rfl,DL.nil _,DL.nil _⟩);eK (s:=(⟨13,lp,(ek).n,⟨none,0,0⟩,⟨none,0,0⟩,0⟩:bU)) (x:=(⟨13,lp,(ek).n,[],[],0⟩:aW)) hs kK (by decide) (λ aji Jp hs=>have hs:=hs.p1;ed hs kK (by simp only [List.length_append,List.length_cons,List.length_nil]; omega) (by decide) (λ axf Kz hs=>aD BO hs.p2.At (aO (by omega) (aO (by omega) (dB JR hs (C104 q _ _ a (at_+1) (lp+1) (at_+2+bV a) (N - 1) _ ⟨(⟨eM,fa,eN,dW,dX,eo⟩:bN),om,rfl,⟨eM,fa,eN,dW,dX,eo,rfl,(jJ.ext hs.aF),(kP.ext hs.aF),(jK.ext hs.aF),(ic.ext hs.aF),(ie.ext hs.aF),(iS.ext hs.aF)⟩,(pJ.ext hs.aF)⟩ (by have h:=IA.ext hs.aF; rw [Bk.Nw gk (by omega) (by omega)] at h; exact h) hz BV Ve (λ y hy=>hq y (by simp [Bk.flat,hy])) (by omega) (by omega) (by omega) (by omega)) (λ x126 Mu bY hs=>have hs:=hs.p1;ed hs kK (by simp only [List.length_append,List.length_cons,List.length_nil]; omega) (by decide) (λ axg Qm hs=>?_)))))))))))))
     refine aO (by omega) (pop (Ia _ _ _) (have hs:=hs.gE (Φ:=(λ w=>cA.dr w (⟨14,lp,0,⟨none,0,0⟩,⟨none,0,0⟩,(at_+1)⟩:bU) (⟨14,lp,0,[],[],(at_+1)⟩:aW))) (λ w=>⟨_,_,rfl,DL.nil _,DL.nil _⟩);eK (s:=(⟨14,lp,0,⟨none,0,0⟩,⟨none,0,0⟩,(at_+1)⟩:bU)) (x:=(⟨14,lp,0,[],[],(at_+1)⟩:aW)) hs kK (by decide) (λ axh Tn hs=>have hs:=hs.p1;ed hs kK (by simp only [List.length_append,List.length_cons,List.length_nil]; omega) (by decide) (λ axi VG hs=>?_))));have hs:=(hs.p1.drop.p1).p1;have hh:(((([]:List aW)++[(⟨13,lp,(ek).n,[],[],0⟩:aW)])++(eR q.p q.aK a (at_+1) (lp+1) (at_+2+bV a)))++[(⟨14,lp,0,[],[],(at_+1)⟩:aW)])=FT q.p q.aK ek a b at_ lp out:=by unfold FT; simp [*]
     rw [hh] at hs;exact hs
    ·refine aH (aC (λ Nt=>?_) (λ Nt=>?_))
     ·refine pop (DA _ _) (have hs:=hs.gE (Φ:=(λ w=>cA.dr w (⟨11,0,0,⟨none,0,0⟩,⟨none,0,0⟩,out⟩:bU) (⟨11,0,0,[],[],out⟩:aW))) (λ w=>⟨_,_,rfl,DL.nil _,DL.nil _⟩);eK (s:=(⟨11,0,0,⟨none,0,0⟩,⟨none,0,0⟩,out⟩:bU)) (x:=(⟨11,0,0,[],[],out⟩:aW)) hs kK (by decide) (λ axj R4 hs=>have hs:=hs.p1;ed hs kK (by simp only [List.length_append,List.length_cons,List.length_nil]; omega) (by decide) (λ axk w26 hs=>?_)));have hs:=(hs.p1.drop.p1).p1;have hh:(([]:List aW)++[(⟨11,0,0,[],[],out⟩:aW)])=FT q.p q.aK ek a b at_ lp out:=by unfold FT; simp [*]
      rw [hh] at hs;exact hs
     ·refine aD BO hs.p2.At (aD fW hs.p1.At (eu am3 (C159 q _ ek _ _ ⟨(⟨eM,fa,eN,dW,dX,eo⟩:bN),om,rfl,⟨eM,fa,eN,dW,dX,eo,rfl,(jJ.ext hs.aF),(kP.ext hs.aF),(jK.ext hs.aF),(ic.ext hs.aF),(ie.ext hs.aF),(iS.ext hs.aF)⟩,(pJ.ext hs.aF)⟩ ⟨xh,xi,rfl,(Iz.ext hs.aF),(Qo.ext hs.aF)⟩ hz BV hqx) ?_));rintro _ w27 ⟨ajj,rfl,bY⟩;have hs:=hs.made bY;refine eK (s:=ajj) (x:=(lC q.p q.aK ek)) hs kK (by decide) (λ apH w28 hs=>have hs:=hs.p1;ed hs kK (by simp only [List.length_append,List.length_cons,List.length_nil]; omega) (by decide) (λ apI w29 hs=>?_))
      have hs:=(hs.p1.drop.p1).p1;have hh:(([]:List aW)++[(lC q.p q.aK ek)])=FT q.p q.aK ek a b at_ lp out:=by unfold FT; simp [*]
      rw [hh] at hs;exact hs
  ·rintro JP w30 hs oN;have hs:=hs.drew;refine aD BO hs.p1.At (uO j0 (Ld.ext hs.aF) (by omega) (by omega) (λ axl acE=>?_));have acF:=DL.PK acE Ld VB;have Le:=Iy q.p q.aK ek a b r at_ lp out;have hmr:=gZ q.p q.aK r (at_+((FT q.p q.aK ek a b at_ lp out).length:Int)) lp out;obtain ⟨asX,acG,acH,_⟩:=(hs).dl;refine aJ kK acG ?_;rw [acH];refine aO (by omega) (dB JR hs (C104 q _ _ r (at_+((FT q.p q.aK ek a b at_ lp out).length:Int)) (lp) (out) (N - 1) _ ⟨(⟨eM,fa,eN,dW,dX,eo⟩:bN),om,rfl,⟨eM,fa,eN,dW,dX,eo,rfl,(jJ.ext hs.aF),(kP.ext hs.aF),(jK.ext hs.aF),(ic.ext hs.aF),(ie.ext hs.aF),(iS.ext hs.aF)⟩,(pJ.ext hs.aF)⟩ (by have h:=acF.ext hs.aF; rw [Bk.acq gk (by omega)] at h; exact h) hz BV hgr (λ y hy=>hq y (by simp [Bk.flat,hy])) (by omega) (by omega) (by omega) (by omega)) (λ x153 w31 bY hs=>have hs:=hs.p1;ed hs kK (by omega) (by decide) (λ axm w32 hs=>?_)))
   have hs:=(hs.p1).drop;rw [uZ];exact hs.fresh
termination_by N
decreasing_by all_goals omega
theorem Ny (f:Nat→Int) (k:Nat):(List.range k).map f++[f k]=(List.range (k+1)).map f:=by rw [List.range_succ,List.map_append]; rfl
theorem Nz (p:cU):(pe p).length=(gF p).length:=by unfold pe; rw [List.length_map]
theorem C44 (p:cU) (pv:bN) (t:dR) (tv:eg) (b:Bk) (w:World) (hp:cA.dr w pv p) (ht:cA.dr w tv t) (hz:PZ p) (KP:SzT t∧t.aK.length≤500) (hbf:t.body=b.flat) (gk:b.str) (hl:b.len≤40) (NA:oP t.body=some b):CR 44 [Flat.val pv,Flat.val tv] w (λ v w'=>∃ cv:cK,v=Flat.val cv∧lW (eS (λ w=>cA.dr w cv (l9 p t))) w w'):=by
 obtain ⟨bH,bQ,bI,aT,aU,aY,rfl,cI,cZ,cJ,bR,bO,cB⟩:=hp;obtain ⟨uc,z6,rfl,z7,En⟩:=ht;have hs:=St.start w;refine ag8 _ _ _ _ ?_;unfold S44;refine dE hs (λ acr w1 hs=>dE hs (λ acI w2 hs=>aN hs HZ (λ Cj w3 hs=>have hs:=hs.enc (cs':=Flat.enc (⟨0,0,⟨none,0,0⟩⟩:cK)) rfl;aD gI hs.p2.At (aA jo (aB pq hs.p1.hb rfl ?_)))));have apJ:=DL.flat (z7);refine pop (M4 _ _ _ _ _ _ _ _ _ _ _ _ _ _ _ _ _ _ _ _ _) (aN hs abk (λ acB w4 hs=>have hs:=hs.enc (cs':=Flat.enc (⟨(⟨⟨none,0,0⟩,⟨none,0,0⟩,⟨none,0,0⟩,⟨none,0,0⟩,⟨none,0,0⟩,⟨none,0,0⟩⟩:bN),⟨none,0,0⟩⟩:vY)) rfl;aI (x:=(⟨(⟨bH,bQ,bI,aT,aU,aY⟩:bN),uc⟩:vY)) hs BO rfl rfl (λ w5 hs=>?_)))
 have lz:=iQ b;refine aA jo (have hs:=hs.drew;aB pq hs.p2.hb rfl (aJ mS (apJ.ext hs.aF) (aA qu (aB sO hs.p2.hb rfl (aD BO hs.At (aA qu (aB sO hs.p2.hb rfl (aZ Pa hs (C103 _ b (b.len+1) _ (by rw [← hbf]; exact (En.ext hs.aF)) gk (by omega) (by omega)) (λ w6 he hs=>?_)))))))));refine ⟨aG pq (hs.p2.hb.cell rfl),?_⟩;refine ⟨fh BO hs.At,?_⟩;refine ⟨aG sO (hs.p2.hb.cell rfl),?_⟩;refine dB JR hs (C104 (⟨p,t.aK⟩:UF) _ _ b 0 0 0 (b.len+1) _ (show cA.dr _ (⟨(⟨bH,bQ,bI,aT,aU,aY⟩:bN),uc⟩:vY) (⟨p,(t).aK⟩:UF) from ⟨_,_,rfl,⟨bH,bQ,bI,aT,aU,aY,rfl,(cI.ext hs.aF),(cZ.ext hs.aF),(cJ.ext hs.aF),(bR.ext hs.aF),(bO.ext hs.aF),(cB.ext hs.aF)⟩,DL.fq (apJ.ext hs.aF)⟩) (by rw [← hbf]; exact (En.ext hs.aF)) hz (by have:=KP.2; show t.aK.length≤500; omega) gk (λ y hy=>KP.1.2.2 y (by rw [hbf]; exact hy)) (by omega) (by omega) (by omega) (by omega)) (λ x19 w7 bY hs=>?_)
 refine ⟨aG pq (hs.p3.hb.cell rfl),?_⟩;obtain ⟨IB,rfl⟩:=(hs).lH;refine pop (Kg _ _ _ _ _) (aI (x:=(⟨(((t).aK).length:Int),(iR b),IB⟩:cK)) hs.p2 pQ rfl rfl (λ w8 hs=>aD pQ hs.At ?_));have hs:=hs.p1.jF.dO (Ψ:=(λ w=>cA.dr w (⟨(((t).aK).length:Int),(iR b),IB⟩:cK) (⟨(((t).aK).length:Int),(iR b),(eR p t.aK b 0 0 0)⟩:fo))) (λ w h=>⟨_,rfl,h⟩);have hs:=((((hs.p1.drop.p1.drop).p1).drop).p1).drop;rw [Ez NA];exact ⟨_,rfl,hs.fresh⟩
set_option maxHeartbeats 4000000 in
theorem C12 (p:cU) (pv:bN) (w:World) (hp:cA.dr w pv p) (hz:PZ p):CR 12 [Flat.val pv] w (λ v w'=>∃ uv:dM,v = .tuple #[Flat.val uv,.int .i64 (gK p)]∧lW (eS (λ w=>cA.dr w uv (if gK p=0 then eC p else Ey))) w w'):=by
 obtain ⟨bH,bQ,bI,aT,aU,aY,rfl,cI,cZ,cJ,bR,bO,cB⟩:=hp;have hs:=St.start w;refine agJ _ _ _ ?_;unfold S12;refine dE hs (λ kD w1 hs=>aN hs vO (λ lZ w2 hs=>have hs:=hs.enc (cs':=Flat.enc (⟨⟨none,0,0⟩,0,⟨none,0,0⟩,0,⟨none,0,0⟩,(⟨0,0,⟨none,0,0⟩⟩:cK),⟨none,0,0⟩⟩:dM)) rfl;aD gI hs.p1.At (eu aus (C40 p _ _ ⟨bH,bQ,bI,aT,aU,aY,rfl,(cI.ext hs.aF),(cZ.ext hs.aF),(cJ.ext hs.aF),(bR.ext hs.aF),(bO.ext hs.aF),(cB.ext hs.aF)⟩ hz) ?_)))
 rintro _ w3 ⟨a_x14,rfl,he⟩;have hs:=hs.ext he;refine bE rfl (bE rfl (cS (aC (λ gd=>?_) (λ gd=>?_))))
 ·refine pop (v:=Flat.val (⟨⟨none,0,0⟩,0,⟨none,0,0⟩,0,⟨none,0,0⟩,(⟨0,0,⟨none,0,0⟩⟩:cK),⟨none,0,0⟩⟩:dM)) (by kernel_rfl) (aI (x:=(⟨⟨none,0,0⟩,0,⟨none,0,0⟩,0,⟨none,0,0⟩,(⟨0,0,⟨none,0,0⟩⟩:cK),⟨none,0,0⟩⟩:dM)) hs tG rfl rfl (λ w4 hs=>aD tG hs.At ?_));have hs:=hs.gE (Φ:=(λ w=>cA.dr w (⟨⟨none,0,0⟩,0,⟨none,0,0⟩,0,⟨none,0,0⟩,(⟨0,0,⟨none,0,0⟩⟩:cK),⟨none,0,0⟩⟩:dM) (⟨[],0,[],0,[],(⟨0,0,[]⟩:fo),[]⟩:il))) (λ w=>⟨_,_,_,_,_,rfl,DL.nil _,DL.nil _,DL.nil _,⟨_,rfl,DL.nil _⟩,DL.nil _⟩);have hs:=((hs.p1.drop).p1).drop;rw [if_neg (by simpa using gd)]
  exact ⟨_,rfl,hs.fresh⟩
 ·have zo:gK p=0:=by simpa using gd
  have R5:=Ew zo;have hacl:=m4 hz.toPS;have hffl:=Nz p;refine ⟨λ jv w'=>∃ (yC:Nat) (sf:SV),jv = .pointer (some ⟨yC,0,none⟩)∧St w bD [cD yC (Flat.enc (⟨⟨none,0,0⟩,(ew p),sf,((p.locks).length:Int),⟨none,0,0⟩,(⟨0,0,⟨none,0,0⟩⟩:cK),⟨none,0,0⟩⟩:dM)),bK (Flat.val sf) (pe p),cD kD (Flat.enc (⟨bH,bQ,bI,aT,aU,aY⟩:bN)),cD lZ (Flat.enc (⟨⟨none,0,0⟩,0,⟨none,0,0⟩,0,⟨none,0,0⟩,(⟨0,0,⟨none,0,0⟩⟩:cK),⟨none,0,0⟩⟩:dM))] w',?_,?_⟩
  ·have hs:=hs.drew;refine aD gI hs.p1.At (aD gI hs.p1.At (aA rT (aB jt hs.p1.hb rfl ?_)));have axn:=DL.flat (cJ);refine aJ jZ (axn.ext hs.aF) ?_;refine ⟨?_,?_⟩
   ·refine aZ YP hs (C41 p _ _ ⟨bH,bQ,bI,aT,aU,aY,rfl,(cI.ext hs.aF),(cZ.ext hs.aF),(cJ.ext hs.aF),(bR.ext hs.aF),(bO.ext hs.aF),(cB.ext hs.aF)⟩ hz) (λ w5 he hs=>?_);refine ⟨fh gI hs.p1.At,?_⟩;refine ⟨aG jt (hs.p1.hb.cell rfl),?_⟩;refine ⟨?_,?_⟩
    ·refine dB ahC hs (C42 p _ _ ⟨bH,bQ,bI,aT,aU,aY,rfl,(cI.ext hs.aF),(cZ.ext hs.aF),(cJ.ext hs.aF),(bR.ext hs.aF),(bO.ext hs.aF),(cB.ext hs.aF)⟩ hz) (λ x24 w6 bY hs=>?_);refine ⟨aG jt (hs.p2.hb.cell rfl),?_⟩;obtain ⟨ajl,rfl⟩:=(hs).fQ;refine pop (vT _ _ _ _ _) (aN hs vO (λ axo w7 hs=>?_));have hs:=hs.enc (cs':=Flat.enc (⟨⟨none,0,0⟩,0,⟨none,0,0⟩,0,⟨none,0,0⟩,(⟨0,0,⟨none,0,0⟩⟩:cK),⟨none,0,0⟩⟩:dM)) rfl;refine ⟨fh gI hs.p3.At,?_⟩;refine ⟨fh gI hs.p3.At,?_⟩;refine ⟨aG jt (hs.p3.hb.cell rfl),?_⟩
     refine aI (x:=(⟨⟨none,0,0⟩,(ew p),ajl,(((p).locks).length:Int),⟨none,0,0⟩,(⟨0,0,⟨none,0,0⟩⟩:cK),⟨none,0,0⟩⟩:dM)) hs tG rfl rfl (λ w8 hs=>?_);have hs:=hs.p2.p3.p3.p3;exact ⟨_,_,rfl,hs⟩
    ·refine ⟨?_,?_⟩
     ·refine aN hs vO (λ axp w9 hs=>?_);have hs:=hs.enc (cs':=Flat.enc (⟨⟨none,0,0⟩,0,⟨none,0,0⟩,0,⟨none,0,0⟩,(⟨0,0,⟨none,0,0⟩⟩:cK),⟨none,0,0⟩⟩:dM)) rfl;refine ⟨fh gI hs.p2.At,?_⟩;refine ⟨fh gI hs.p2.At,?_⟩;refine ⟨aG jt (hs.p2.hb.cell rfl),?_⟩;refine dB ahC hs (C42 p _ _ ⟨bH,bQ,bI,aT,aU,aY,rfl,(cI.ext hs.aF),(cZ.ext hs.aF),(cJ.ext hs.aF),(bR.ext hs.aF),(bO.ext hs.aF),(cB.ext hs.aF)⟩ hz) (λ x24_1 pP bY hs=>?_);refine ⟨aG jt (hs.p3.hb.cell rfl),?_⟩;obtain ⟨VH,rfl⟩:=(hs).fQ;refine pop (vT _ _ _ _ _) (aI (x:=(⟨⟨none,0,0⟩,(ew p),VH,(((p).locks).length:Int),⟨none,0,0⟩,(⟨0,0,⟨none,0,0⟩⟩:cK),⟨none,0,0⟩⟩:dM)) hs.p1 tG rfl rfl (λ sQ hs=>?_))
      have hs:=hs.p2.p3.p3.p3;exact ⟨_,_,rfl,hs⟩
     ·trivial
   ·refine ⟨?_,?_⟩
    ·refine aN hs vO (λ axq vl hs=>?_);have hs:=hs.enc (cs':=Flat.enc (⟨⟨none,0,0⟩,0,⟨none,0,0⟩,0,⟨none,0,0⟩,(⟨0,0,⟨none,0,0⟩⟩:cK),⟨none,0,0⟩⟩:dM)) rfl;refine ⟨fh gI hs.p2.At,?_⟩;refine ⟨fh gI hs.p2.At,?_⟩;refine ⟨aG jt (hs.p2.hb.cell rfl),?_⟩;refine aZ YP hs (C41 p _ _ ⟨bH,bQ,bI,aT,aU,aY,rfl,(cI.ext hs.aF),(cZ.ext hs.aF),(cJ.ext hs.aF),(bR.ext hs.aF),(bO.ext hs.aF),(cB.ext hs.aF)⟩ hz) (λ vm he hs=>?_);refine ⟨fh gI hs.p2.At,?_⟩;refine ⟨aG jt (hs.p2.hb.cell rfl),?_⟩;refine dB ahC hs (C42 p _ _ ⟨bH,bQ,bI,aT,aU,aY,rfl,(cI.ext hs.aF),(cZ.ext hs.aF),(cJ.ext hs.aF),(bR.ext hs.aF),(bO.ext hs.aF),(cB.ext hs.aF)⟩ hz) (λ x24_2 sd bY hs=>?_)
     refine ⟨aG jt (hs.p3.hb.cell rfl),?_⟩;obtain ⟨VI,rfl⟩:=(hs).fQ;refine pop (vT _ _ _ _ _) (aI (x:=(⟨⟨none,0,0⟩,(ew p),VI,(((p).locks).length:Int),⟨none,0,0⟩,(⟨0,0,⟨none,0,0⟩⟩:cK),⟨none,0,0⟩⟩:dM)) hs.p1 tG rfl rfl (λ v7 hs=>?_));have hs:=hs.p2.p3.p3.p3;exact ⟨_,_,rfl,hs⟩
    ·trivial
  ·rintro _ yT ⟨yC,sf,rfl,hs⟩ fB;have hs:=(((((hs.fX (α:=Int)).p4).p4).p4).p3).p4;refine ⟨λ m x w1=>∃ (k:Nat) (sl:SV),x = .int .i64 (k:Int)∧m=(gF p).length - k∧k≤(gF p).length∧St w bD [cD yC (Flat.enc (⟨sl,(ew p),sf,((p.locks).length:Int),⟨none,0,0⟩,(⟨0,0,⟨none,0,0⟩⟩:cK),⟨none,0,0⟩⟩:dM)),bK (Flat.val sl) ((List.range k).map (fun (i:Nat)=>l6 p i)),bK (Flat.val sf) (pe p),cD kD (Flat.enc (⟨bH,bQ,bI,aT,aU,aY⟩:bN)),cD lZ (Flat.enc (⟨⟨none,0,0⟩,0,⟨none,0,0⟩,0,⟨none,0,0⟩,(⟨0,0,⟨none,0,0⟩⟩:cK),⟨none,0,0⟩⟩:dM))] w1,⟨_,0,⟨none,0,0⟩,rfl,rfl,by omega,hs⟩,?_⟩
   rintro m _ Ch ⟨k,sl,rfl,rfl,hk,hs⟩ jw;refine aA wU (aB (v:=Flat.val (sf:SV)) et hs.hb rfl (aJ ei (hs.p2).fI (aR (aC (λ nz=>?_) (λ nz=>?_)))))
   ·refine aA mn (have hs:=hs.drew;aB (v:=Flat.val (sl:SV)) et hs.hb rfl (aD gI hs.p3.At (aZ amB hs (C43 p _ _ _ ⟨bH,bQ,bI,aT,aU,aY,rfl,(cI.ext hs.aF),(cZ.ext hs.aF),(cJ.ext hs.aF),(bR.ext hs.aF),(bO.ext hs.aF),(cB.ext hs.aF)⟩ hz) (λ Im he hs=>?_))));refine ⟨aG et (hs.hb.cell rfl),?_⟩;refine bW (([(l6 p (k:Int))]:List Int)) hs ei rfl rfl (eJ rfl) (λ VE Jp hs=>?_);refine ⟨aG et (hs.p1.hb.cell rfl),?_⟩;have ajm:=(hs).fI;refine cN hs.p2 ei ajm (by rw [List.length_map,List.length_range,List.length_singleton]; omega) (by decide) (λ s_x42 Kz hs=>have hs:=hs.p1.drop;aA mn ?_)
    obtain ⟨VJ,rfl⟩:=(hs).fQ;refine aV hs.p1 et (eJ rfl) (rfl) (λ Mu hs=>have hs:=hs.enc (cs':=Flat.enc (⟨VJ,(ew p),sf,((p.locks).length:Int),⟨none,0,0⟩,(⟨0,0,⟨none,0,0⟩⟩:cK),⟨none,0,0⟩⟩:dM)) rfl;aO (by omega) ?_);have hs:=hs.p4.p4.p4.p4.p4;exact ⟨_,by omega,k+1,VJ,rfl,rfl,by omega,by rw [← Ny]; exact hs⟩
   ·have UT:k=(gF p).length:=by omega
    subst UT;have hs:=((((((hs.xD (α:=fo)).p5).p5).p5).p5).p4).p5;refine ⟨λ m x w1=>∃ (kt:Nat) (st:SV),x = .int .i64 (kt:Int)∧m=p.threads.length - kt∧kt≤p.threads.length∧St w bD [cD yC (Flat.enc (⟨sl,(ew p),sf,((p.locks).length:Int),st,(⟨0,0,⟨none,0,0⟩⟩:cK),⟨none,0,0⟩⟩:dM)),fk (Flat.val st) ((p.threads.take kt).map (l9 p)),bK (Flat.val sl) ((List.range (gF p).length).map (fun (i:Nat)=>l6 p i)),bK (Flat.val sf) (pe p),cD kD (Flat.enc (⟨bH,bQ,bI,aT,aU,aY⟩:bN)),cD lZ (Flat.enc (⟨⟨none,0,0⟩,0,⟨none,0,0⟩,0,⟨none,0,0⟩,(⟨0,0,⟨none,0,0⟩⟩:cK),⟨none,0,0⟩⟩:dM))] w1,⟨_,0,⟨none,0,0⟩,rfl,rfl,by omega,hs⟩,?_⟩
    rintro m _ Qm ⟨kt,st,rfl,rfl,hkt,hs⟩ oN;have hzth:=hz.threads;refine aA nc (aB ja hs.p4.hb rfl ?_);obtain ⟨axr,apK,apL⟩:=(bR).open;have hn56:=apL.1;refine aJ iI (apK.ext hs.aF) (aR (aC (λ zP=>?_) (λ zP=>?_)))
    ·refine aA rV (have hs:=hs.drew;aB (v:=Flat.val (st:SV)) FF hs.hb rfl (aD gI hs.p4.At (aA nc (aB ja hs.p4.hb rfl ?_))));obtain ⟨Lf,oU⟩:=gx axr (i:=((kt:Int)).toNat) (by omega);obtain ⟨pK,rp⟩:=gx ((p).threads) (i:=((kt:Int)).toNat) (by omega);obtain ⟨NB,NC,rfl,ND,NF⟩:=apL.2 _ _ _ oU rp;refine aQ iI apK (by omega) oU (λ _ wo=>aD H8 (wo.ext hs.aF) ?_);obtain ⟨tb,hbf,hbs,hbo,yU,hbq,hbx,hbw,NA,hs0,R6⟩:=R5.tree (t:=pK) (List.mem_append_left _ (List.mem_of_getElem? rp));have KP:=hz.nf (t:=pK) (List.mem_append_left _ (List.mem_of_getElem? rp))
     refine eu amC (C44 p _ pK _ tb _ ⟨bH,bQ,bI,aT,aU,aY,rfl,(cI.ext hs.aF),(cZ.ext hs.aF),(cJ.ext hs.aF),(bR.ext hs.aF),(bO.ext hs.aF),(cB.ext hs.aF)⟩ ⟨NB,NC,rfl,(ND.ext hs.aF),(NF.ext hs.aF)⟩ hz ⟨KP.1,KP.2.1⟩ hbf hbs yU NA) ?_;rintro _ Tn ⟨ajn,rfl,bY⟩;have hs:=hs.made bY;refine ⟨aG FF (hs.p1.hb.cell rfl),?_⟩;refine eK (s:=ajn) (x:=(l9 p pK)) hs A5 (by decide) (λ aoD VG hs=>?_);refine ⟨aG FF (hs.p1.hb.cell rfl),?_⟩;have hs:=hs.p2;refine ed hs A5 (by simp; omega) (by decide) (λ s_x61 R4 hs=>aA rV ?_)
     obtain ⟨IC,rfl⟩:=(hs).lH;refine aV hs.p1 FF (eJ rfl) (rfl) (λ w26 hs=>have hs:=hs.enc (cs':=Flat.enc (⟨sl,(ew p),sf,((p.locks).length:Int),IC,(⟨0,0,⟨none,0,0⟩⟩:cK),⟨none,0,0⟩⟩:dM)) rfl;aO (by omega) ?_);have hs:=hs.p5.p5.p5.p5.p5.p5;exact ⟨_,by omega,kt+1,IC,rfl,rfl,by omega,by rw [← iO (k:=kt) rp]; exact hs⟩
    ·have UT:kt=p.threads.length:=by omega
     subst UT;rw [List.take_length] at hs;refine ⟨λ w'=>∃ rc:cK,St w bD [cD yC (Flat.enc (⟨sl,(ew p),sf,((p.locks).length:Int),st,rc,⟨none,0,0⟩⟩:dM)),eS (λ w=>cA.dr w rc (Lc p)),fk (Flat.val st) (p.threads.map (l9 p)),bK (Flat.val sl) ((List.range (gF p).length).map (fun (i:Nat)=>l6 p i)),bK (Flat.val sf) (pe p),cD kD (Flat.enc (⟨bH,bQ,bI,aT,aU,aY⟩:bN)),cD lZ (Flat.enc (⟨⟨none,0,0⟩,0,⟨none,0,0⟩,0,⟨none,0,0⟩,(⟨0,0,⟨none,0,0⟩⟩:cK),⟨none,0,0⟩⟩:dM))] w',?_,?_⟩
     ·refine aA rU (aB ja hs.p4.hb rfl ?_);obtain ⟨axt,apM,apN⟩:=(bO).open;have hn57:=apN.1;refine aJ iI (apM.ext hs.aF) (dA (aC (λ KH=>?_) (λ KH=>?_)))
      ·have hs:=hs.drew;refine aD gI hs.p4.At (aA rU (aB ja hs.p4.hb rfl ?_));obtain ⟨e_x70,VK⟩:=gx axt (i:=((0:Int)).toNat) (by omega);obtain ⟨Lg,Bo⟩:=gx ((p).recover) (i:=((0:Int)).toNat) (by omega);obtain ⟨NG,NH,rfl,NI,NJ⟩:=apN.2 _ _ _ VK Bo;refine aQ iI apM (by omega) VK (λ _ Lh=>aD H8 (Lh.ext hs.aF) ?_);obtain ⟨tb,hbf,hbs,hbo,yU,hbq,hbx,hbw,NA,hs0,R6⟩:=R5.tree (t:=Lg) (List.mem_append_right _ (List.mem_of_getElem? Bo));have KP:=hz.nf (t:=Lg) (List.mem_append_right _ (List.mem_of_getElem? Bo));refine eu amC (C44 p _ Lg _ tb _ ⟨bH,bQ,bI,aT,aU,aY,rfl,(cI.ext hs.aF),(cZ.ext hs.aF),(cJ.ext hs.aF),(bR.ext hs.aF),(bO.ext hs.aF),(cB.ext hs.aF)⟩ ⟨NG,NH,rfl,(NI.ext hs.aF),(NJ.ext hs.aF)⟩ hz ⟨KP.1,KP.2.1⟩ hbf hbs yU NA) ?_
       rintro _ w27 ⟨VL,rfl,bY⟩;have hs:=hs.made bY;refine aA zw (pk (vs:=Flat.enc VL) hs.p1 pQ rfl (eJ rfl) (Flat.one _) (λ w28 hs=>?_));have hs:=hs.enc (cs':=Flat.enc (⟨sl,(ew p),sf,((p.locks).length:Int),st,VL,⟨none,0,0⟩⟩:dM)) rfl;have hs:=hs.p6.p6.p6.p6.p6.p6.p6;have hrm:Lc p=l9 p Lg:=by unfold Lc; rw [show p.recover[0]? = some Lg from Bo]
       exact ⟨_,by rw [hrm]; exact hs⟩
      ·have hs:=hs.gE (Φ:=λ w=>cA.dr w (⟨0,0,⟨none,0,0⟩⟩:cK) (Lc p)) (λ w=>by rw [show Lc p=Lb from by unfold Lc; rw [List.getElem?_eq_none (by omega)]]; exact ⟨_,rfl,DL.nil _⟩);have hs:=hs.p6.p6.p6.p6.p6.p5.p6;exact ⟨_,hs⟩
     ·rintro w29 ⟨rc,hs⟩ GJ;have hs:=((((((((hs.xD (α:=(List nk))).p7).p7).p7).p7).p7).p7).p6).p7;refine ⟨λ m x w1=>∃ (kc:Nat) (sc:SV),x = .int .i64 (kc:Int)∧m=p.cC.length - kc∧kc≤p.cC.length∧St w bD [cD yC (Flat.enc (⟨sl,(ew p),sf,((p.locks).length:Int),st,rc,sc⟩:dM)),fk (Flat.val sc) ((p.cC.take kc).map (λ c=>gg (oR p) c.e)),eS (λ w=>cA.dr w rc (Lc p)),fk (Flat.val st) (p.threads.map (l9 p)),bK (Flat.val sl) ((List.range (gF p).length).map (fun (i:Nat)=>l6 p i)),bK (Flat.val sf) (pe p),cD kD (Flat.enc (⟨bH,bQ,bI,aT,aU,aY⟩:bN)),cD lZ (Flat.enc (⟨⟨none,0,0⟩,0,⟨none,0,0⟩,0,⟨none,0,0⟩,(⟨0,0,⟨none,0,0⟩⟩:cK),⟨none,0,0⟩⟩:dM))] w1,⟨_,0,⟨none,0,0⟩,rfl,rfl,by omega,hs⟩,?_⟩
      rintro m _ w30 ⟨kc,sc,rfl,rfl,hkc,hs⟩ RX;have hzcl:=hz.cC;refine aA kJ (aB sN hs.p6.hb rfl ?_);obtain ⟨axu,apO,apP⟩:=(cB).open;have hn58:=apP.1;refine aJ yp (apO.ext hs.aF) (aR (aC (λ VM=>?_) (λ VM=>?_)))
      ·refine aA kJ (have hs:=hs.drew;aB sN hs.p6.hb rfl ?_);obtain ⟨e_x85,VN⟩:=gx axu (i:=((kc:Int)).toNat) (by omega);obtain ⟨afu,ID⟩:=gx ((p).cC) (i:=((kc:Int)).toNat) (by omega);obtain ⟨acJ,rfl,acK⟩:=apP.2 _ _ _ VN ID;refine aQ yp apO (by omega) VN (λ _ apQ=>bT acJ CB apQ rfl rfl (λ _ afv=>aD mR (afv.ext hs.aF) ?_));have axv:=DL.flat (acK);refine aD gI hs.p6.At (aA o9 (aB (v:=.int .i64 (ew p)) bL hs.hb rfl (dB TP hs (C46 p _ _ ⟨bH,bQ,bI,aT,aU,aY,rfl,(cI.ext hs.aF),(cZ.ext hs.aF),(cJ.ext hs.aF),(bR.ext hs.aF),(bO.ext hs.aF),(cB.ext hs.aF)⟩ hz) (λ x89 w31 bY hs=>?_))))
       refine ⟨aG sN (hs.p7.hb.cell rfl),?_⟩;refine ⟨fh mR (afv.ext hs.aF),?_⟩;refine ⟨aG bL (hs.p1.hb.cell rfl),?_⟩;have Qi:=l7 hz.toPS;have hsl:0≤ew p∧ew p≤(fc p).length:=by unfold ew fc gF; rw [List.length_map,List.length_append]; omega
       refine lX mS (hs).fI (by omega) (by omega) (λ s_x92 ajo=>eu YQ (C45 _ _ _ _ _ (axv.ext hs.aF) (ajo _ (hs).fI) (hz.zc _ (List.mem_of_getElem? ID)).1 (by rw [List.length_take]; omega) (hz.zc _ (List.mem_of_getElem? ID)).2) ?_);rintro _ w32 ⟨s_x93,rfl,bY⟩;have hs:=hs.made bY;refine bE rfl (bE rfl (aA wV (aB (v:=Flat.val (sc:SV)) RJ hs.p2.hb rfl ?_)));obtain ⟨VO,rfl⟩:=(hs).fQ;have hs:=hs.freeze.dO (Ψ:=λ w=>cA.dr w VO ((gg ((((fc p)).take ((ew p)).toNat)) ((afu).e)))) (λ w h=>DL.fq h);refine eK (s:=VO) (x:=(gg ((((fc p)).take ((ew p)).toNat)) ((afu).e))) hs FG (by decide) (λ s_x99 w33 hs=>have hs:=hs.p3;ed hs FG (by simp; omega) (by decide) (λ axw w34 hs=>aA wV ?_))
       obtain ⟨Qp,rfl⟩:=(hs).lH;refine aV hs.p2 RJ (eJ rfl) (rfl) (λ w35 hs=>have hs:=hs.enc (cs':=Flat.enc (⟨sl,(ew p),sf,((p.locks).length:Int),st,rc,Qp⟩:dM)) rfl;aO (by omega) ?_);have hs:=(hs.p2.drop.p7.p7.p7.p7.p7.p7.p7).p7;exact ⟨_,by omega,kc+1,Qp,rfl,rfl,by omega,by rw [← iO (k:=kc) ID]; exact hs⟩
      ·have UT:kc=p.cC.length:=by omega
       subst UT;rw [List.take_length] at hs;refine aD tG hs.At (aI (x:=(⟨sl,(ew p),sf,((p.locks).length:Int),st,rc,sc⟩:dM)) hs.p7 tG rfl rfl (λ w36 hs=>aD tG hs.At ?_));have hs:=hs.p5.freeze.p6.freeze.p1.fL.p5.jF.p1.fL.p4.p1.fL.p3.jF.p1.fL.dO (Ψ:=(λ w=>cA.dr w (⟨sl,(ew p),sf,((p.locks).length:Int),st,rc,sc⟩:dM) (⟨((List.range (gF p).length).map (fun (i:Nat)=>l6 p i)),(ew p),(pe p),((p.locks).length:Int),(p.threads.map (l9 p)),(Lc p),(p.cC.map (λ c=>gg (oR p) c.e))⟩:il))) (λ w h=>⟨_,_,_,_,_,rfl,DL.fq h.1.1.1.1,DL.fq h.1.1.1.2,h.1.1.2,h.1.2,h.2⟩)
       have hs:=(((hs.p1.drop.p1).drop).p1).drop;rw [if_pos zo];exact ⟨_,by rw [zo],hs.fresh⟩
def nD (s:ByteArray):ByteArray:=s.extract 0 (min (s.size:Int) 40).toNat
theorem oV (s:ByteArray):(nD s).size≤40:=by
 unfold nD
 rw [ByteArray.size_extract]; omega
def acL (x:cX):cX:={x with name:=nD x.name}
def xI (l:List cX):List cX:=(l.take 60).map acL
def Qq (x:cE):cE:=⟨x.kind,nD x.gJ,nD x.name,xI x.e,xI x.f,x.n,x.body,x.fE,x.at_⟩
def EA (l:List cE):List cE:=(l.take 50).map Qq
def acM (c:dF):dF:={c with name:=nD c.name}
def iW (l:List dF):List dF:=(l.take 8).map acM
def yb (t:dR):dR:=⟨nD t.name,(t.aK.take 6).map nD,EA t.body,t.at_⟩
def kr (l:List dR):List dR:=(l.take 4).map yb
def EB (c:ju):ju:=⟨xI c.e,c.at_⟩
def qt (p:cU):cU:=⟨(p.lines.take 6).map iW,iW p.jP,iW p.locks,kr p.threads,kr p.recover,(p.cC.take 6).map EB⟩
theorem rq {α:Type} {xs:List α} {k m:Nat} (h:k≤m) (h2:k≤xs.length) (h3:¬ (k<xs.length∧k<m)):xs.take k=xs.take m:=by
 rcases Nat.lt_or_ge k m with h4 | h4
 ·rw [List.take_of_length_le (by omega),List.take_of_length_le (by omega)]
 ·rw [show k=m from by omega]
theorem EC (l:List cX):(xI l).length≤60:=by unfold xI; rw [List.length_map,List.length_take]; omega
theorem IE (l:List cX):∀ y∈xI l,y.name.size≤1048576:=by
 intro y hy
 obtain ⟨x,_,rfl⟩:=List.mem_map.1 hy
 have:=oV x.name
 show (nD x.name).size≤_
 omega
theorem ED (l:List dF):∀ y∈iW l,y.name.size≤1048576:=by
 intro y hy
 obtain ⟨x,_,rfl⟩:=List.mem_map.1 hy
 have:=oV x.name
 show (nD x.name).size≤_
 omega
theorem Bp (l:List dF):(iW l).length≤8:=by unfold iW; rw [List.length_map,List.length_take]; omega
theorem VP (l:List cE):(EA l).length≤50:=by unfold EA; rw [List.length_map,List.length_take]; omega
theorem EE (l:List dR):(kr l).length≤4:=by unfold kr; rw [List.length_map,List.length_take]; omega
theorem acN (l:List cE):∀ y∈EA l,SzS y:=by
 intro y hy
 obtain ⟨x,_,rfl⟩:=List.mem_map.1 hy
 have h1:=oV x.gJ
 have h2:=oV x.name
 have h3:=EC x.e
 have h4:=EC x.f
 exact ⟨by show (nD x.gJ).size≤_; omega,by show (nD x.name).size≤_; omega,by show (xI x.e).length≤_; omega,by show (xI x.f).length≤_; omega,IE _,IE _⟩
theorem NK (t:dR):(yb t).aK.length≤6:=by show ((t.aK.take 6).map nD).length≤6; rw [List.length_map,List.length_take]; omega
theorem GQ (l:List dR):∀ y∈kr l,SzT y∧y.aK.length≤500∧y.body.length≤500:=by
 intro y hy
 obtain ⟨x,_,rfl⟩:=List.mem_map.1 hy
 have h1:=oV x.name
 have h2:=NK x
 have h3:=VP x.body
 refine ⟨⟨by show (nD x.name).size≤_; omega,λ s hs=>?_,acN _⟩,by omega,by show (EA x.body).length≤_; omega⟩
 obtain ⟨z,_,rfl⟩:=List.mem_map.1 (show s∈(x.aK.take 6).map nD from hs)
 have:=oV z
 omega
theorem Qr (p:cU):PZ (qt p):=by
 have hl:(qt p).lines.length≤6:=by show ((p.lines.take 6).map iW).length≤6; rw [List.length_map,List.length_take]; omega
 have hc:(qt p).cC.length≤6:=by show ((p.cC.take 6).map EB).length≤6; rw [List.length_map,List.length_take]; omega
 have h1:=Bp p.jP
 have h2:=Bp p.locks
 have h3:=EE p.threads
 have h4:=EE p.recover
 have hth:∀ t∈(qt p).threads++(qt p).recover,SzT t∧t.aK.length≤500∧t.body.length≤500:=by
  intro t ht
  rcases List.mem_append.1 ht with h | h
  ·exact GQ _ t h
  ·exact GQ _ t h
 refine {lines:=by omega,line:=λ l h=>?_,jP:=by show (iW p.jP).length≤500; omega,locks:=by show (iW p.locks).length≤500; omega,threads:=by show (kr p.threads).length≤500; omega,recover:=by show (kr p.recover).length≤500; omega,cC:=by omega,aK:=λ t ht=>(hth t ht).2.1,body:=λ t ht=>(hth t ht).2.2,zl:=λ l h c hc=>?_,zv:=ED _,zk:=ED _,zt:=λ t ht=>(hth t (List.mem_append_left _ ht)).1,zr:=λ t ht=>(hth t (List.mem_append_right _ ht)).1,zc:=λ c h=>?_}
 ·obtain ⟨x,_,rfl⟩:=List.mem_map.1 (show l∈(p.lines.take 6).map iW from h)
  have:=Bp x; omega
 ·obtain ⟨x,_,rfl⟩:=List.mem_map.1 (show l∈(p.lines.take 6).map iW from h)
  exact ED x c hc
 ·obtain ⟨x,_,rfl⟩:=List.mem_map.1 (show c∈(p.cC.take 6).map EB from h)
  have:=EC x.e
  exact ⟨by show (xI x.e).length≤_; omega,IE _⟩
theorem C39 (lv:Value) (xs:List cX) (w:World) (hL:eF (λ _=>True) w lv xs):CR 39 [lv] w (λ v w'=>lW (bK v (xI xs)) w w'):=by
 have hs:=St.start w;refine ag2 _ _ _ ?_;unfold S39;refine bW (([]:List cX)) hs lP rfl rfl (eJ rfl) (λ acp w1 hs=>?_);refine ⟨λ m fV x w1=>∃ k:Nat,x = .int .i64 (k:Int)∧m=60 - k∧k≤60∧k≤xs.length∧St w bD [bK fV ((xs.take k).map acL)] w1,⟨_,0,rfl,rfl,by omega,by omega,hs⟩,?_⟩;rintro m fV _ w2 ⟨k,rfl,rfl,hk,Jo,hs⟩ fB;have IF:((xs.take k).map acL).length=k:=by rw [List.length_map,List.length_take]; omega
 refine ⟨λ jv w'=>jv = .bool (decide (k<xs.length∧k<60))∧St w bD [bK fV ((xs.take k).map acL)] w',?_,?_⟩
 ·refine aJ lP (hL.ext hs.aF) (aR (aC (λ fO=>?_) (λ fO=>?_)))
  ·refine aR ?_;exact ⟨vb (by grind),hs⟩
  ·exact ⟨vb (by grind),hs⟩
 ·rintro _ w3 ⟨rfl,hs⟩ jw;refine aX (λ gQ=>?_) (λ gQ=>?_)
  ·have apR:k<xs.length∧k<60:=by simpa using gQ
   obtain ⟨iX,fG⟩:=gx (xs) (i:=((k:Int)).toNat) (by omega);refine aQ lP hL (by omega) fG (λ _ jI=>aD J9 (jI.ext hs.aF) (aN hs PB (λ ub w4 hs=>aI (x:=iX) hs J9 rfl rfl (λ w5 hs=>aA kY (aB (v:=.string ((iX).name)) j4 hs.hb rfl (aA kY (aB (v:=.string ((iX).name)) j4 hs.hb rfl (gb gH (uM (oM gH (by omega) (by omega) (aA kY (aV hs j4 (eJ rfl) (rfl) (λ w6 hs=>?_)))))))))))));have hs:=hs.enc (cs':=Flat.enc ({iX with name:=(((iX).name).extract 0 ((min (((iX).name).size:Int) 40)).toNat)}:cX)) rfl;refine aD J9 hs.At (bW ([({iX with name:=(((iX).name).extract 0 ((min (((iX).name).size:Int) 40)).toNat)}:cX)]) hs lP rfl rfl (eJ rfl) (λ Vv w7 hs=>?_))
   have NL:=(hs).fI;refine cN hs.p2 lP NL (by rw [IF,List.length_singleton]; omega) (by decide) (λ VQ w8 hs=>have hs:=hs.p1.drop;aO (by omega) ?_);have hs:=(hs.p1).drop;exact ⟨_,by omega,k+1,rfl,rfl,by omega,by omega,by rw [← iO (k:=k) fG]; exact hs⟩
  ·rw [rq (xs:=xs) (k:=k) (m:=60) (by omega) (by omega) (of_decide_eq_false gQ)] at hs;exact hs.fresh
theorem C37 (lv:Value) (xs:List dF) (w:World) (hL:eF (λ _=>True) w lv xs):CR 37 [lv] w (λ v w'=>lW (bK v (iW xs)) w w'):=by
 have hs:=St.start w;refine agZ _ _ _ ?_;unfold S37;refine bW (([]:List dF)) hs jZ rfl rfl (eJ rfl) (λ acp w1 hs=>?_);refine ⟨λ m fV x w1=>∃ k:Nat,x = .int .i64 (k:Int)∧m=8 - k∧k≤8∧k≤xs.length∧St w bD [bK fV ((xs.take k).map acM)] w1,⟨_,0,rfl,rfl,by omega,by omega,hs⟩,?_⟩;rintro m fV _ w2 ⟨k,rfl,rfl,hk,Jo,hs⟩ fB;have IF:((xs.take k).map acM).length=k:=by rw [List.length_map,List.length_take]; omega
 refine ⟨λ jv w'=>jv = .bool (decide (k<xs.length∧k<8))∧St w bD [bK fV ((xs.take k).map acM)] w',?_,?_⟩
 ·refine aJ jZ (hL.ext hs.aF) (aR (aC (λ fO=>?_) (λ fO=>?_)))
  ·refine aR ?_;exact ⟨vb (by grind),hs⟩
  ·exact ⟨vb (by grind),hs⟩
 ·rintro _ w3 ⟨rfl,hs⟩ jw;refine aX (λ gQ=>?_) (λ gQ=>?_)
  ·have apR:k<xs.length∧k<8:=by simpa using gQ
   obtain ⟨iX,fG⟩:=gx (xs) (i:=((k:Int)).toNat) (by omega);refine aQ jZ hL (by omega) fG (λ _ jI=>aD xU (jI.ext hs.aF) (aN hs CC (λ ajt w4 hs=>aI (x:=iX) hs xU rfl rfl (λ w5 hs=>aA py (aB (v:=.string ((iX).name)) j4 hs.hb rfl (aA py (aB (v:=.string ((iX).name)) j4 hs.hb rfl (gb gH (uM (oM gH (by omega) (by omega) (aA py (aV hs j4 (eJ rfl) (rfl) (λ w6 hs=>?_)))))))))))));have hs:=hs.enc (cs':=Flat.enc ({iX with name:=(((iX).name).extract 0 ((min (((iX).name).size:Int) 40)).toNat)}:dF)) rfl;refine aD xU hs.At (bW ([({iX with name:=(((iX).name).extract 0 ((min (((iX).name).size:Int) 40)).toNat)}:dF)]) hs jZ rfl rfl (eJ rfl) (λ Vv w7 hs=>?_))
   have NL:=(hs).fI;refine cN hs.p2 jZ NL (by rw [IF,List.length_singleton]; omega) (by decide) (λ VQ w8 hs=>have hs:=hs.p1.drop;aO (by omega) ?_);have hs:=(hs.p1).drop;exact ⟨_,by omega,k+1,rfl,rfl,by omega,by omega,by rw [← iO (k:=k) fG]; exact hs⟩
  ·rw [rq (xs:=xs) (k:=k) (m:=8) (by omega) (by omega) (of_decide_eq_false gQ)] at hs;exact hs.fresh
theorem C92 (lv:Value) (xs:List cE) (w:World) (hL:DL w lv xs):CR 92 [lv] w (λ v w'=>lW (fk v (EA xs)) w w'):=by
 have hs:=St.start w;refine ahI _ _ _ ?_;unfold S92;refine vV (α:=cE) hs j0 (λ acp w1 hs=>?_);refine ⟨λ m fV x w1=>∃ k:Nat,x = .int .i64 (k:Int)∧m=50 - k∧k≤50∧k≤xs.length∧St w bD [fk fV ((xs.take k).map Qq)] w1,⟨_,0,rfl,rfl,by omega,by omega,hs⟩,?_⟩;rintro m fV _ w2 ⟨k,rfl,rfl,hk,Jo,hs⟩ fB;have IF:((xs.take k).map Qq).length=k:=by rw [List.length_map,List.length_take]; omega
 refine ⟨λ jv w'=>jv = .bool (decide (k<xs.length∧k<50))∧St w bD [fk fV ((xs.take k).map Qq)] w',?_,?_⟩
 ·obtain ⟨ts60,axx,axy⟩:=(hL).open;have hn60:=axy.1;refine aJ j0 (axx.ext hs.aF) (aR (aC (λ fO=>?_) (λ fO=>?_)))
  ·refine aR ?_;exact ⟨vb (by grind),hs⟩
  ·exact ⟨vb (by grind),hs⟩
 ·rintro _ w3 ⟨rfl,hs⟩ jw;refine aX (λ gQ=>?_) (λ gQ=>?_)
  ·have apR:k<xs.length∧k<50:=by simpa using gQ
   obtain ⟨axz,axA,apS⟩:=(hL).open;have hn61:=apS.1;obtain ⟨iX,fG⟩:=gx axz (i:=((k:Int)).toNat) (by omega);obtain ⟨dI,oc⟩:=gx (xs) (i:=((k:Int)).toNat) (by omega);obtain ⟨CK,Ac,rfl,acP,acQ⟩:=apS.2 _ _ _ fG oc;refine aQ j0 axA (by omega) fG (λ _ jI=>aD fW (jI.ext hs.aF) (aN hs qw (λ ub w4 hs=>have hs:=hs.enc (cs':=Flat.enc (⟨0,(ByteArray.mk #[]),(ByteArray.mk #[]),⟨none,0,0⟩,⟨none,0,0⟩,0,0,0,0⟩:bX)) rfl;aI (x:=(⟨(dI).kind,(dI).gJ,(dI).name,CK,Ac,(dI).n,(dI).body,(dI).fE,(dI).at_⟩:bX)) hs fW rfl rfl (λ w5 hs=>aA lS (aB (v:=.string ((dI).gJ)) j4 hs.hb rfl (aA lS (aB (v:=.string ((dI).gJ)) j4 hs.hb rfl (gb gH (uM (oM gH (by omega) (by omega) (aA lS ?_)))))))))))
   have axB:=DL.flat (acP);have axC:=DL.flat (acQ);refine aV hs j4 (eJ rfl) (rfl) (λ w6 hs=>have hs:=hs.enc (cs':=Flat.enc (⟨(dI).kind,(((dI).gJ).extract 0 ((min (((dI).gJ).size:Int) 40)).toNat),(dI).name,CK,Ac,(dI).n,(dI).body,(dI).fE,(dI).at_⟩:bX)) rfl;aA ji (aB (v:=.string (dI).name) j4 hs.hb rfl (aA ji (aB (v:=.string (dI).name) j4 hs.hb rfl (gb gH (uM (oM gH (by omega) (by omega) (aA ji (aV hs j4 (eJ rfl) (rfl) (λ w7 hs=>have hs:=hs.enc (cs':=Flat.enc (⟨(dI).kind,(((dI).gJ).extract 0 ((min (((dI).gJ).size:Int) 40)).toNat),(((dI).name).extract 0 ((min (((dI).name).size:Int) 40)).toNat),CK,Ac,(dI).n,(dI).body,(dI).fE,(dI).at_⟩:bX)) rfl;aA lT (aB (v:=Flat.val (CK:SV)) mR hs.hb rfl (dB ahB hs (C39 _ _ _ (axB.ext hs.aF)) (λ x39 w8 bY hs=>?_)))))))))))))
   refine aA lT ?_;obtain ⟨yD,rfl⟩:=(hs).fQ;refine aV hs.p1 mR (eJ rfl) (rfl) (λ w9 hs=>have hs:=hs.enc (cs':=Flat.enc (⟨(dI).kind,(((dI).gJ).extract 0 ((min (((dI).gJ).size:Int) 40)).toNat),(((dI).name).extract 0 ((min (((dI).name).size:Int) 40)).toNat),yD,Ac,(dI).n,(dI).body,(dI).fE,(dI).at_⟩:bX)) rfl;aA nU (aB (v:=Flat.val (Ac:SV)) mR hs.hb rfl (dB ahB hs (C39 _ _ _ (axC.ext hs.aF)) (λ x43 pP bY hs=>aA nU ?_))));obtain ⟨Bq,rfl⟩:=(hs).fQ;refine aV hs.p1 mR (eJ rfl) (rfl) (λ sQ hs=>have hs:=hs.enc (cs':=Flat.enc (⟨(dI).kind,(((dI).gJ).extract 0 ((min (((dI).gJ).size:Int) 40)).toNat),(((dI).name).extract 0 ((min (((dI).name).size:Int) 40)).toNat),yD,Bq,(dI).n,(dI).body,(dI).fE,(dI).at_⟩:bX)) rfl;aD fW hs.At (have hs:=hs.p2.freeze.p2.freeze.p1.fL.dO (Ψ:=(λ w=>cA.dr w (⟨(dI).kind,(((dI).gJ).extract 0 ((min (((dI).gJ).size:Int) 40)).toNat),(((dI).name).extract 0 ((min (((dI).name).size:Int) 40)).toNat),yD,Bq,(dI).n,(dI).body,(dI).fE,(dI).at_⟩:bX) (⟨(dI).kind,(((dI).gJ).extract 0 ((min (((dI).gJ).size:Int) 40)).toNat),(((dI).name).extract 0 ((min (((dI).name).size:Int) 40)).toNat),(xI (dI).e),(xI (dI).f),(dI).n,(dI).body,(dI).fE,(dI).at_⟩:cE))) (λ w h=>⟨_,_,rfl,DL.fq h.1,DL.fq h.2⟩);eK (s:=(⟨(dI).kind,(((dI).gJ).extract 0 ((min (((dI).gJ).size:Int) 40)).toNat),(((dI).name).extract 0 ((min (((dI).name).size:Int) 40)).toNat),yD,Bq,(dI).n,(dI).body,(dI).fE,(dI).at_⟩:bX)) (x:=(⟨(dI).kind,(((dI).gJ).extract 0 ((min (((dI).gJ).size:Int) 40)).toNat),(((dI).name).extract 0 ((min (((dI).name).size:Int) 40)).toNat),(xI (dI).e),(xI (dI).f),(dI).n,(dI).body,(dI).fE,(dI).at_⟩:cE)) hs j0 (by decide) (λ apT vl hs=>have hs:=hs.p2;ed hs j0 (by rw [IF,List.length_singleton]; omega) (by decide) (λ apH vm hs=>aO (by omega) ?_))))
   have hs:=(hs.p1).drop;exact ⟨_,by omega,k+1,rfl,rfl,by omega,by omega,by rw [← iO (k:=k) oc]; exact hs⟩
  ·rw [rq (xs:=xs) (k:=k) (m:=50) (by omega) (by omega) (of_decide_eq_false gQ)] at hs;exact hs.fresh
set_option maxHeartbeats 4000000 in
theorem C38 (lv:Value) (xs:List dR) (w:World) (hL:DL w lv xs):CR 38 [lv] w (λ v w'=>lW (fk v (kr xs)) w w'):=by
 have hs:=St.start w;refine ag1 _ _ _ ?_;unfold S38;refine vV (α:=dR) hs iI (λ KV w1 hs=>?_);refine ⟨λ m fV x w1=>∃ k:Nat,x = .int .i64 (k:Int)∧m=4 - k∧k≤4∧k≤xs.length∧St w bD [fk fV ((xs.take k).map yb)] w1,⟨_,0,rfl,rfl,by omega,by omega,hs⟩,?_⟩;rintro m fV _ w2 ⟨k,rfl,rfl,hk,Jo,hs⟩ fB;have IF:((xs.take k).map yb).length=k:=by rw [List.length_map,List.length_take]; omega
 refine ⟨λ jv w'=>jv = .bool (decide (k<xs.length∧k<4))∧St w bD [fk fV ((xs.take k).map yb)] w',?_,?_⟩
 ·obtain ⟨ts64,axD,axE⟩:=(hL).open;have hn64:=axE.1;refine aJ iI (axD.ext hs.aF) (aR (aC (λ gP=>?_) (λ gP=>?_)))
  ·refine aR ?_;exact ⟨vb (by grind),hs⟩
  ·exact ⟨vb (by grind),hs⟩
 ·rintro _ w3 ⟨rfl,hs⟩ jw;refine aX (λ jG=>?_) (λ jG=>?_)
  ·have hc15:k<xs.length∧k<4:=by simpa using jG
   obtain ⟨axF,NM,apU⟩:=(hL).open;have hn65:=apU.1;obtain ⟨afw,oW⟩:∃ xx,axF[((k:Int)).toNat]? = some xx:=⟨_,List.getElem?_eq_getElem (by omega)⟩;obtain ⟨fJ,VR⟩:∃ xx,(xs)[((k:Int)).toNat]? = some xx:=⟨_,List.getElem?_eq_getElem (by omega)⟩;obtain ⟨yE,NN,rfl,EF,EG⟩:=apU.2 _ _ _ oW VR;refine ⟨λ nh w'=>St w bD [fk nh ((xs.take k).map yb++[yb fJ])] w',?_,?_⟩
   ·refine ⟨λ jv w'=>∃ (EH:Nat) (FU:SV),jv = .pointer (some ⟨EH,0,none⟩)∧St w bD [cD EH (Flat.enc (⟨((fJ).name.extract 0 (min (((fJ).name).size:Int) 40).toNat),⟨none,0,0⟩,FU,(fJ).at_⟩:eg)),fk (Flat.val FU) (EA (fJ).body),fk fV ((xs.take k).map yb)] w',?_,?_⟩
    ·refine aQ iI NM (by omega) oW (λ _ Li=>bT (fJ).name zx Li rfl rfl (λ _ Ad=>have hs:=hs.drew;aD j4 (Ad.ext hs.aF) (aQ iI NM (by omega) oW (λ _ ud=>bT (fJ).name zx ud rfl rfl (λ _ q9=>aD j4 (q9.ext hs.aF) (gb gH (uM (oM gH (by omega) (by omega) (aQ iI NM (by omega) oW (λ _ zY=>bT (fJ).at_ zy zY rfl rfl (λ _ ry=>aD bL (ry.ext hs.aF) (aQ iI NM (by omega) oW (λ _ Ei=>?_)))))))))))));refine bT NN qu Ei rfl rfl (λ _ tZ=>aD sO (tZ.ext hs.aF) ?_);refine ⟨?_,?_⟩
     ·refine dB amG hs (C92 _ _ _ (EG.ext hs.aF)) (λ x41 w4 bY hs=>?_);refine ⟨fh j4 (Ad.ext hs.aF),?_⟩;refine ⟨fh j4 (q9.ext hs.aF),?_⟩;refine ⟨fh bL (ry.ext hs.aF),?_⟩;obtain ⟨IG,rfl⟩:=(hs).lH;refine pop (BP _ _ _ _ _) (aN hs MY (λ b_t5 w5 hs=>?_));have hs:=hs.enc (cs':=Flat.enc (⟨(ByteArray.mk #[]),⟨none,0,0⟩,⟨none,0,0⟩,0⟩:eg)) rfl;refine ⟨fh j4 (Ad.ext hs.aF),?_⟩;refine ⟨fh j4 (q9.ext hs.aF),?_⟩;refine ⟨fh bL (ry.ext hs.aF),?_⟩;refine ⟨fh sO (tZ.ext hs.aF),?_⟩;refine aI (x:=(⟨(((fJ).name).extract 0 ((min (((fJ).name).size:Int) 40)).toNat),⟨none,0,0⟩,IG,(fJ).at_⟩:eg)) hs H8 rfl rfl (λ w6 hs=>?_)
      have hs:=hs.p2.p2.p2;exact ⟨_,_,rfl,hs⟩
     ·refine ⟨?_,?_⟩
      ·refine aN hs MY (λ axG w7 hs=>?_);have hs:=hs.enc (cs':=Flat.enc (⟨(ByteArray.mk #[]),⟨none,0,0⟩,⟨none,0,0⟩,0⟩:eg)) rfl;refine ⟨fh j4 (Ad.ext hs.aF),?_⟩;refine ⟨fh j4 (q9.ext hs.aF),?_⟩;refine ⟨fh bL (ry.ext hs.aF),?_⟩;refine ⟨fh sO (tZ.ext hs.aF),?_⟩;refine dB amG hs (C92 _ _ _ (EG.ext hs.aF)) (λ x41_1 w8 bY hs=>?_);refine ⟨fh j4 (Ad.ext hs.aF),?_⟩;refine ⟨fh j4 (q9.ext hs.aF),?_⟩;refine ⟨fh bL (ry.ext hs.aF),?_⟩;obtain ⟨VS,rfl⟩:=(hs).lH;refine pop (BP _ _ _ _ _) (aI (x:=(⟨(((fJ).name).extract 0 ((min (((fJ).name).size:Int) 40)).toNat),⟨none,0,0⟩,VS,(fJ).at_⟩:eg)) hs.p1 H8 rfl rfl (λ w9 hs=>?_))
       have hs:=hs.p2.p2.p2;exact ⟨_,_,rfl,hs⟩
      ·trivial
    ·rintro _ pP ⟨EH,FU,rfl,hs⟩ oN;have hs:=((((hs.fX (α:=ByteArray)).p3).p3).p2).p3;refine ⟨λ m x w1=>∃ (j:Nat) (Lj:SV),x = .int .i64 (j:Int)∧m=6 - j∧j≤6∧j≤(fJ).aK.length∧St w bD [cD EH (Flat.enc (⟨((fJ).name.extract 0 (min (((fJ).name).size:Int) 40).toNat),Lj,FU,(fJ).at_⟩:eg)),bK (Flat.val Lj) (((fJ).aK.take j).map nD),fk (Flat.val FU) (EA (fJ).body),fk fV ((xs.take k).map yb)] w1,⟨_,0,⟨none,0,0⟩,rfl,rfl,by omega,by omega,hs⟩,?_⟩;rintro m _ sQ ⟨j,Lj,rfl,rfl,hj,hj2,hs⟩ GJ;have aju:(((fJ).aK.take j).map nD).length=j:=by rw [List.length_map,List.length_take]; omega
     refine ⟨λ jv w'=>jv = .bool (decide (j<(fJ).aK.length∧j<6))∧St w bD [cD EH (Flat.enc (⟨((fJ).name.extract 0 (min (((fJ).name).size:Int) 40).toNat),Lj,FU,(fJ).at_⟩:eg)),bK (Flat.val Lj) (((fJ).aK.take j).map nD),fk (Flat.val FU) (EA (fJ).body),fk fV ((xs.take k).map yb)] w',?_,?_⟩
     ·refine aQ iI NM (by omega) oW (λ _ KR=>bT yE jo KR rfl rfl (λ _ D4=>aD pq (D4.ext hs.aF) ?_));have axI:=DL.flat (EF);refine aJ mS (axI.ext hs.aF) (aR (aC (λ pI=>?_) (λ pI=>?_)))
      ·refine aR ?_;exact ⟨vb (by grind),hs⟩
      ·exact ⟨vb (by grind),hs⟩
     ·rintro _ vl ⟨rfl,hs⟩ RX;refine aX (λ wm=>?_) (λ wm=>?_)
      ·have hc54:j<(fJ).aK.length∧j<6:=by simpa using wm
       refine aA jo (have hs:=hs.drew;aB (v:=Flat.val (Lj:SV)) pq hs.hb rfl (aQ iI NM (by omega) oW (λ _ Vk=>bT yE jo Vk rfl rfl (λ _ Lk=>aD pq (Lk.ext hs.aF) ?_))));have apV:=DL.flat (EF);obtain ⟨afx,NO⟩:=gx ((fJ).aK) (i:=((j:Int)).toNat) (by omega);refine aQ mS apV (by omega) NO (λ _ BW=>aD j4 (BW.ext hs.aF) (aQ iI NM (by omega) oW (λ _ Vl=>bT yE jo Vl rfl rfl (λ _ Lh=>aD pq (Lh.ext hs.aF) (aQ mS apV (by omega) NO (λ _ apW=>aD j4 (apW.ext hs.aF) (gb gH (uM (oM gH (by omega) (by omega) (bW ([((afx).extract 0 ((min ((afx).size:Int) 40)).toNat)]) hs mS rfl rfl (eJ rfl) (λ apX vm hs=>?_)))))))))))
       refine ⟨aG pq (hs.p1.hb.cell rfl),?_⟩;have ajv:=(hs).fI;refine cN hs.p2 mS ajv (by rw [aju,List.length_singleton]; omega) (by decide) (λ s_x79 sd hs=>have hs:=hs.p1.drop;aA jo ?_);obtain ⟨VT,rfl⟩:=(hs).fQ;refine aV hs.p1 pq (eJ rfl) (rfl) (λ v7 hs=>have hs:=hs.enc (cs':=Flat.enc (⟨((fJ).name.extract 0 (min (((fJ).name).size:Int) 40).toNat),VT,FU,(fJ).at_⟩:eg)) rfl;aO (by omega) ?_);have hs:=hs.p3.p3.p3.p3;exact ⟨_,by omega,j+1,VT,rfl,rfl,by omega,by omega,by rw [← iO (k:=j) NO]; exact hs⟩
      ·refine aD H8 hs.At (have hs:=hs.p1.freeze.p2.jF.p1.fL.dO (Ψ:=(λ w=>cA.dr w (⟨((fJ).name.extract 0 (min (((fJ).name).size:Int) 40).toNat),Lj,FU,(fJ).at_⟩:eg) (⟨((fJ).name.extract 0 (min (((fJ).name).size:Int) 40).toNat),(((fJ).aK.take j).map nD),(EA (fJ).body),(fJ).at_⟩:dR))) (λ w h=>⟨_,_,rfl,DL.fq h.1,h.2⟩);eK (s:=(⟨((fJ).name.extract 0 (min (((fJ).name).size:Int) 40).toNat),Lj,FU,(fJ).at_⟩:eg)) (x:=(⟨((fJ).name.extract 0 (min (((fJ).name).size:Int) 40).toNat),(((fJ).aK.take j).map nD),(EA (fJ).body),(fJ).at_⟩:dR)) hs iI (by decide) (λ apY yT hs=>have hs:=hs.p2;ed hs iI (by rw [IF,List.length_singleton]; omega) (by decide) (λ afn Ch hs=>?_)))
       have hs:=(hs.p1).drop;rw [rq (xs:=(fJ).aK) (k:=j) (m:=6) (by omega) (by omega) (of_decide_eq_false wm)] at hs;exact hs
   ·rintro nh Im hs dd6;refine aO (by omega) ?_;exact ⟨_,by omega,k+1,rfl,rfl,by omega,by omega,by rw [← iO (k:=k) VR]; exact hs⟩
  ·rw [rq (xs:=xs) (k:=k) (m:=4) (by omega) (by omega) (of_decide_eq_false jG)] at hs;exact hs.fresh
set_option maxHeartbeats 4000000 in
theorem C11 (p:cU) (pv:bN) (w:World) (hp:cA.dr w pv p):CR 11 [Flat.val pv] w (λ v w'=>∃ qv:bN,v=Flat.val qv∧lW (eS (λ w=>cA.dr w qv (qt p))) w w'):=by
 obtain ⟨bH,bQ,bI,aT,aU,aY,rfl,cI,cZ,cJ,bR,bO,cB⟩:=hp;have hs:=St.start w;refine agI _ _ _ ?_;unfold S11;refine dE hs (λ kD w1 hs=>aN hs uJ (λ lZ w2 hs=>?_));have hs:=hs.enc (cs':=Flat.enc (⟨⟨none,0,0⟩,⟨none,0,0⟩,⟨none,0,0⟩,⟨none,0,0⟩,⟨none,0,0⟩,⟨none,0,0⟩⟩:bN)) rfl;refine ⟨λ jv w'=>∃ (yF:Nat) (NP NQ NR NS:SV),jv = .pointer (some ⟨yF,0,none⟩)∧St w bD [cD yF (Flat.enc (⟨⟨none,0,0⟩,NP,NQ,NR,NS,⟨none,0,0⟩⟩:bN)),bK (Flat.val NP) (iW p.jP),bK (Flat.val NQ) (iW p.locks),fk (Flat.val NR) (kr p.threads),fk (Flat.val NS) (kr p.recover),cD kD (Flat.enc (⟨bH,bQ,bI,aT,aU,aY⟩:bN)),cD lZ (Flat.enc (⟨⟨none,0,0⟩,⟨none,0,0⟩,⟨none,0,0⟩,⟨none,0,0⟩,⟨none,0,0⟩,⟨none,0,0⟩⟩:bN))] w',?_,?_⟩
 ·refine aA uI (have hs:=hs.drew;aB jt hs.p1.hb rfl ?_);have apZ:=DL.flat (cZ);refine aA rT (aB jt hs.p1.hb rfl ?_);have ajw:=DL.flat (cJ);refine aA nc (aB ja hs.p1.hb rfl (aA rU (aB ja hs.p1.hb rfl ?_)));refine ⟨?_,?_⟩
  ·refine dB Rz hs (C37 _ _ _ (apZ.ext hs.aF)) (λ x8 w3 bY hs=>?_);refine ⟨aG jt (hs.p2.hb.cell rfl),?_⟩;refine ⟨aG ja (hs.p2.hb.cell rfl),?_⟩;refine ⟨aG ja (hs.p2.hb.cell rfl),?_⟩;refine ⟨?_,?_⟩
   ·refine dB Rz hs (C37 _ _ _ (ajw.ext hs.aF)) (λ x11 w4 bY hs=>?_);refine ⟨aG ja (hs.p3.hb.cell rfl),?_⟩;refine ⟨aG ja (hs.p3.hb.cell rfl),?_⟩;refine ⟨?_,?_⟩
    ·refine dB HJ hs (C38 _ _ _ (bR.ext hs.aF)) (λ x14 w5 bY hs=>?_);refine ⟨aG ja (hs.p4.hb.cell rfl),?_⟩;refine ⟨?_,?_⟩
     ·refine dB HJ hs (C38 _ _ _ (bO.ext hs.aF)) (λ x17 w6 bY hs=>?_);obtain ⟨EI,rfl⟩:=(hs.p3).fQ;obtain ⟨ma,rfl⟩:=(hs.p2).fQ;obtain ⟨oo,rfl⟩:=(hs.p1).lH;obtain ⟨VU,rfl⟩:=(hs).lH;refine pop (mY _ _ _ _ _ _ _ _ _ _ _ _) (aN hs uJ (λ b_q3 w7 hs=>?_));have hs:=hs.enc (cs':=Flat.enc (⟨⟨none,0,0⟩,⟨none,0,0⟩,⟨none,0,0⟩,⟨none,0,0⟩,⟨none,0,0⟩,⟨none,0,0⟩⟩:bN)) rfl;refine ⟨aG jt (hs.p6.hb.cell rfl),?_⟩;refine ⟨aG jt (hs.p6.hb.cell rfl),?_⟩;refine ⟨aG ja (hs.p6.hb.cell rfl),?_⟩;refine ⟨aG ja (hs.p6.hb.cell rfl),?_⟩;refine aI (x:=(⟨⟨none,0,0⟩,EI,ma,oo,VU,⟨none,0,0⟩⟩:bN)) hs gI rfl rfl (λ w8 hs=>?_)
      have hs:=hs.p5.p6.p3.p4.p5.p6.p6;exact ⟨_,_,_,_,_,rfl,hs⟩
     ·refine ⟨?_,?_⟩
      ·refine aN hs uJ (λ axJ w9 hs=>?_);have hs:=hs.enc (cs':=Flat.enc (⟨⟨none,0,0⟩,⟨none,0,0⟩,⟨none,0,0⟩,⟨none,0,0⟩,⟨none,0,0⟩,⟨none,0,0⟩⟩:bN)) rfl;refine ⟨aG jt (hs.p5.hb.cell rfl),?_⟩;refine ⟨aG jt (hs.p5.hb.cell rfl),?_⟩;refine ⟨aG ja (hs.p5.hb.cell rfl),?_⟩;refine ⟨aG ja (hs.p5.hb.cell rfl),?_⟩;refine dB HJ hs (C38 _ _ _ (bO.ext hs.aF)) (λ ap0 pP bY hs=>?_);obtain ⟨EI,rfl⟩:=(hs.p4).fQ;obtain ⟨ma,rfl⟩:=(hs.p3).fQ;obtain ⟨oo,rfl⟩:=(hs.p2).lH;obtain ⟨Ll,rfl⟩:=(hs).lH;refine pop (mY _ _ _ _ _ _ _ _ _ _ _ _) (aI (x:=(⟨⟨none,0,0⟩,EI,ma,oo,Ll,⟨none,0,0⟩⟩:bN)) hs.p1 gI rfl rfl (λ sQ hs=>?_))
       have hs:=hs.p5.p6.p3.p4.p5.p6.p6;exact ⟨_,_,_,_,_,rfl,hs⟩
      ·trivial
    ·refine ⟨?_,?_⟩
     ·refine aN hs uJ (λ axK vl hs=>?_);have hs:=hs.enc (cs':=Flat.enc (⟨⟨none,0,0⟩,⟨none,0,0⟩,⟨none,0,0⟩,⟨none,0,0⟩,⟨none,0,0⟩,⟨none,0,0⟩⟩:bN)) rfl;refine ⟨aG jt (hs.p4.hb.cell rfl),?_⟩;refine ⟨aG jt (hs.p4.hb.cell rfl),?_⟩;refine ⟨aG ja (hs.p4.hb.cell rfl),?_⟩;refine ⟨aG ja (hs.p4.hb.cell rfl),?_⟩;refine dB HJ hs (C38 _ _ _ (bR.ext hs.aF)) (λ x14_1 vm bY hs=>?_);refine ⟨aG ja (hs.p5.hb.cell rfl),?_⟩;refine dB HJ hs (C38 _ _ _ (bO.ext hs.aF)) (λ ap1 sd bY hs=>?_);obtain ⟨EI,rfl⟩:=(hs.p4).fQ;obtain ⟨ma,rfl⟩:=(hs.p3).fQ;obtain ⟨VV,rfl⟩:=(hs.p1).lH
      obtain ⟨Lm,rfl⟩:=(hs).lH;refine pop (mY _ _ _ _ _ _ _ _ _ _ _ _) (aI (x:=(⟨⟨none,0,0⟩,EI,ma,VV,Lm,⟨none,0,0⟩⟩:bN)) hs.p2 gI rfl rfl (λ v7 hs=>?_));have hs:=hs.p5.p6.p3.p4.p5.p6.p6;exact ⟨_,_,_,_,_,rfl,hs⟩
     ·trivial
   ·refine ⟨?_,?_⟩
    ·refine aN hs uJ (λ axL yT hs=>?_);have hs:=hs.enc (cs':=Flat.enc (⟨⟨none,0,0⟩,⟨none,0,0⟩,⟨none,0,0⟩,⟨none,0,0⟩,⟨none,0,0⟩,⟨none,0,0⟩⟩:bN)) rfl;refine ⟨aG jt (hs.p3.hb.cell rfl),?_⟩;refine ⟨aG jt (hs.p3.hb.cell rfl),?_⟩;refine ⟨aG ja (hs.p3.hb.cell rfl),?_⟩;refine ⟨aG ja (hs.p3.hb.cell rfl),?_⟩;refine dB Rz hs (C37 _ _ _ (ajw.ext hs.aF)) (λ x11_1 Ch bY hs=>?_);refine ⟨aG ja (hs.p4.hb.cell rfl),?_⟩;refine ⟨aG ja (hs.p4.hb.cell rfl),?_⟩;refine dB HJ hs (C38 _ _ _ (bR.ext hs.aF)) (λ x14_2 Im bY hs=>?_);refine ⟨aG ja (hs.p5.hb.cell rfl),?_⟩
     refine dB HJ hs (C38 _ _ _ (bO.ext hs.aF)) (λ x17_3 Jp bY hs=>?_);obtain ⟨EI,rfl⟩:=(hs.p4).fQ;obtain ⟨VW,rfl⟩:=(hs.p2).fQ;obtain ⟨VX,rfl⟩:=(hs.p1).lH;obtain ⟨VY,rfl⟩:=(hs).lH;refine pop (mY _ _ _ _ _ _ _ _ _ _ _ _) (aI (x:=(⟨⟨none,0,0⟩,EI,VW,VX,VY,⟨none,0,0⟩⟩:bN)) hs.p3 gI rfl rfl (λ Kz hs=>?_));have hs:=hs.p5.p6.p3.p4.p5.p6.p6;exact ⟨_,_,_,_,_,rfl,hs⟩
    ·trivial
  ·refine ⟨?_,?_⟩
   ·refine aN hs uJ (λ axM Mu hs=>?_);have hs:=hs.enc (cs':=Flat.enc (⟨⟨none,0,0⟩,⟨none,0,0⟩,⟨none,0,0⟩,⟨none,0,0⟩,⟨none,0,0⟩,⟨none,0,0⟩⟩:bN)) rfl;refine ⟨aG jt (hs.p2.hb.cell rfl),?_⟩;refine ⟨aG jt (hs.p2.hb.cell rfl),?_⟩;refine ⟨aG ja (hs.p2.hb.cell rfl),?_⟩;refine ⟨aG ja (hs.p2.hb.cell rfl),?_⟩;refine dB Rz hs (C37 _ _ _ (apZ.ext hs.aF)) (λ x8_1 Qm bY hs=>?_);refine ⟨aG jt (hs.p3.hb.cell rfl),?_⟩;refine ⟨aG ja (hs.p3.hb.cell rfl),?_⟩;refine ⟨aG ja (hs.p3.hb.cell rfl),?_⟩;refine dB Rz hs (C37 _ _ _ (ajw.ext hs.aF)) (λ x11_2 Tn bY hs=>?_)
    refine ⟨aG ja (hs.p4.hb.cell rfl),?_⟩;refine ⟨aG ja (hs.p4.hb.cell rfl),?_⟩;refine dB HJ hs (C38 _ _ _ (bR.ext hs.aF)) (λ x14_3 VG bY hs=>?_);refine ⟨aG ja (hs.p5.hb.cell rfl),?_⟩;refine dB HJ hs (C38 _ _ _ (bO.ext hs.aF)) (λ x17_4 R4 bY hs=>?_);obtain ⟨CL,rfl⟩:=(hs.p3).fQ;obtain ⟨VZ,rfl⟩:=(hs.p2).fQ;obtain ⟨V0,rfl⟩:=(hs.p1).lH;obtain ⟨V1,rfl⟩:=(hs).lH;refine pop (mY _ _ _ _ _ _ _ _ _ _ _ _) (aI (x:=(⟨⟨none,0,0⟩,CL,VZ,V0,V1,⟨none,0,0⟩⟩:bN)) hs.p4 gI rfl rfl (λ w26 hs=>?_));have hs:=hs.p5.p6.p3.p4.p5.p6.p6
    exact ⟨_,_,_,_,_,rfl,hs⟩
   ·trivial
 ·rintro _ w27 ⟨yF,NP,NQ,NR,NS,rfl,hs⟩ fB;have hs:=((((((((hs.xD (α:=(List dF))).p7).p7).p7).p7).p7).p7).p6).p7;refine ⟨λ m x w1=>∃ (k:Nat) (sl:SV),x = .int .i64 (k:Int)∧m=6 - k∧k≤6∧k≤p.lines.length∧St w bD [cD yF (Flat.enc (⟨sl,NP,NQ,NR,NS,⟨none,0,0⟩⟩:bN)),fk (Flat.val sl) ((p.lines.take k).map iW),bK (Flat.val NP) (iW p.jP),bK (Flat.val NQ) (iW p.locks),fk (Flat.val NR) (kr p.threads),fk (Flat.val NS) (kr p.recover),cD kD (Flat.enc (⟨bH,bQ,bI,aT,aU,aY⟩:bN)),cD lZ (Flat.enc (⟨⟨none,0,0⟩,⟨none,0,0⟩,⟨none,0,0⟩,⟨none,0,0⟩,⟨none,0,0⟩,⟨none,0,0⟩⟩:bN))] w1,⟨_,0,⟨none,0,0⟩,rfl,rfl,by omega,by omega,hs⟩,?_⟩
  rintro m _ w28 ⟨k,sl,rfl,rfl,hk,Jo,hs⟩ jw;have IF:((p.lines.take k).map iW).length=k:=by rw [List.length_map,List.length_take]; omega
  refine ⟨λ jv w'=>jv = .bool (decide (k<p.lines.length∧k<6))∧St w bD [cD yF (Flat.enc (⟨sl,NP,NQ,NR,NS,⟨none,0,0⟩⟩:bN)),fk (Flat.val sl) ((p.lines.take k).map iW),bK (Flat.val NP) (iW p.jP),bK (Flat.val NQ) (iW p.locks),fk (Flat.val NR) (kr p.threads),fk (Flat.val NS) (kr p.recover),cD kD (Flat.enc (⟨bH,bQ,bI,aT,aU,aY⟩:bN)),cD lZ (Flat.enc (⟨⟨none,0,0⟩,⟨none,0,0⟩,⟨none,0,0⟩,⟨none,0,0⟩,⟨none,0,0⟩,⟨none,0,0⟩⟩:bN))] w',?_,?_⟩
  ·refine aA jn (aB rP hs.p6.hb rfl ?_);obtain ⟨ts70,axN,axO⟩:=(cI).open;have hn70:=axO.1;refine aJ vy (axN.ext hs.aF) (aR (aC (λ iN=>?_) (λ iN=>?_)))
   ·refine aR ?_;exact ⟨vb (by grind),hs⟩
   ·exact ⟨vb (by grind),hs⟩
  ·rintro _ w29 ⟨rfl,hs⟩ oN;refine aX (λ gh=>?_) (λ gh=>?_)
   ·have hc27:k<p.lines.length∧k<6:=by simpa using gh
    refine aA jn (have hs:=hs.drew;aB (v:=Flat.val (sl:SV)) rP hs.hb rfl (aA jn (aB rP hs.p6.hb rfl ?_)));obtain ⟨axP,axQ,ap2⟩:=(cI).open;have hn71:=ap2.1;obtain ⟨ap3,V2⟩:=gx axP (i:=((k:Int)).toNat) (by omega);obtain ⟨V3,V4⟩:=gx ((p).lines) (i:=((k:Int)).toNat) (by omega);have ap4:DL w (Flat.val ap3) V3:=ap2.2 _ _ _ V2 V4;refine aQ vy axQ (by omega) V2 (λ _ zL=>aD jt (zL.ext hs.aF) ?_);have axR:=DL.flat (ap4);refine dB Rz hs (C37 _ _ _ (axR.ext hs.aF)) (λ x37 w30 bY hs=>?_);refine ⟨aG rP (hs.p1.hb.cell rfl),?_⟩;obtain ⟨oT,rfl⟩:=(hs).fQ
    have hs:=hs.freeze.dO (Ψ:=λ w=>cA.dr w oT ((iW V3))) (λ w h=>DL.fq h);refine eK (s:=oT) (x:=(iW V3)) hs vy (by decide) (λ afl w31 hs=>?_);refine ⟨aG rP (hs.p1.hb.cell rfl),?_⟩;have hs:=hs.p2;refine ed hs vy (by rw [IF,List.length_singleton]; omega) (by decide) (λ afy w32 hs=>aA jn ?_);obtain ⟨yD,rfl⟩:=(hs).lH;refine aV hs.p1 rP (eJ rfl) (rfl) (λ w33 hs=>have hs:=hs.enc (cs':=Flat.enc (⟨yD,NP,NQ,NR,NS,⟨none,0,0⟩⟩:bN)) rfl;aO (by omega) ?_);have hs:=hs.p7.p7.p7.p7.p7.p7.p7.p7;exact ⟨_,by omega,k+1,yD,rfl,rfl,by omega,by omega,by rw [← iO (k:=k) V4]; exact hs⟩
   ·rw [rq (xs:=p.lines) (k:=k) (m:=6) (by omega) (by omega) (of_decide_eq_false gh)] at hs;have hs:=(((((((((hs.xD (α:=ju)).p8).p8).p8).p8).p8).p8).p8).p7).p8;refine ⟨λ m x w1=>∃ (j:Nat) (sc:SV),x = .int .i64 (j:Int)∧m=6 - j∧j≤6∧j≤p.cC.length∧St w bD [cD yF (Flat.enc (⟨sl,NP,NQ,NR,NS,sc⟩:bN)),fk (Flat.val sc) ((p.cC.take j).map EB),fk (Flat.val sl) ((p.lines.take 6).map iW),bK (Flat.val NP) (iW p.jP),bK (Flat.val NQ) (iW p.locks),fk (Flat.val NR) (kr p.threads),fk (Flat.val NS) (kr p.recover),cD kD (Flat.enc (⟨bH,bQ,bI,aT,aU,aY⟩:bN)),cD lZ (Flat.enc (⟨⟨none,0,0⟩,⟨none,0,0⟩,⟨none,0,0⟩,⟨none,0,0⟩,⟨none,0,0⟩,⟨none,0,0⟩⟩:bN))] w1,⟨_,0,⟨none,0,0⟩,rfl,rfl,by omega,by omega,hs⟩,?_⟩
    rintro m _ w34 ⟨j,sc,rfl,rfl,hj,hj2,hs⟩ GJ;have aju:((p.cC.take j).map EB).length=j:=by rw [List.length_map,List.length_take]; omega
    refine ⟨λ jv w'=>jv = .bool (decide (j<p.cC.length∧j<6))∧St w bD [cD yF (Flat.enc (⟨sl,NP,NQ,NR,NS,sc⟩:bN)),fk (Flat.val sc) ((p.cC.take j).map EB),fk (Flat.val sl) ((p.lines.take 6).map iW),bK (Flat.val NP) (iW p.jP),bK (Flat.val NQ) (iW p.locks),fk (Flat.val NR) (kr p.threads),fk (Flat.val NS) (kr p.recover),cD kD (Flat.enc (⟨bH,bQ,bI,aT,aU,aY⟩:bN)),cD lZ (Flat.enc (⟨⟨none,0,0⟩,⟨none,0,0⟩,⟨none,0,0⟩,⟨none,0,0⟩,⟨none,0,0⟩,⟨none,0,0⟩⟩:bN))] w',?_,?_⟩
    ·refine aA kJ (aB sN hs.p7.hb rfl ?_);obtain ⟨ts73,axS,axT⟩:=(cB).open;have hn73:=axT.1;refine aJ yp (axS.ext hs.aF) (aR (aC (λ kG=>?_) (λ kG=>?_)))
     ·refine aR ?_;exact ⟨vb (by grind),hs⟩
     ·exact ⟨vb (by grind),hs⟩
    ·rintro _ w35 ⟨rfl,hs⟩ RX;refine aX (λ vq=>?_) (λ vq=>?_)
     ·have hc49:j<p.cC.length∧j<6:=by simpa using vq
      refine aA kJ (have hs:=hs.drew;aB (v:=Flat.val (sc:SV)) sN hs.hb rfl (aA kJ (aB sN hs.p7.hb rfl ?_)));obtain ⟨axU,ap5,ap6⟩:=(cB).open;have hn74:=ap6.1;obtain ⟨Lf,oU⟩:=gx axU (i:=((j:Int)).toNat) (by omega);obtain ⟨pK,rp⟩:=gx ((p).cC) (i:=((j:Int)).toNat) (by omega);obtain ⟨acR,rfl,acS⟩:=ap6.2 _ _ _ oU rp;refine aQ yp ap5 (by omega) oU (λ _ wo=>bT acR CB wo rfl rfl (λ _ zZ=>aD mR (zZ.ext hs.aF) ?_));have axV:=DL.flat (acS);refine aA kJ (aB sN hs.p7.hb rfl (aQ yp ap5 (by omega) oU (λ _ Ee=>bT (pK).at_ PA Ee rfl rfl (λ _ BW=>aD bL (BW.ext hs.aF) (dB ahB hs (C39 _ _ _ (axV.ext hs.aF)) (λ x60 w36 bY hs=>?_))))))
      refine ⟨aG sN (hs.p1.hb.cell rfl),?_⟩;refine ⟨aG sN (hs.p8.hb.cell rfl),?_⟩;refine ⟨fh bL (BW.ext hs.aF),?_⟩;obtain ⟨Br,rfl⟩:=(hs).fQ;refine pop (Gv _ _ _ _) (have hs:=hs.freeze.dO (Ψ:=(λ w=>cA.dr w (⟨Br,(pK).at_⟩:lI) (⟨(xI (pK).e),(pK).at_⟩:ju))) (λ w h=>⟨_,rfl,DL.fq h⟩);eK (s:=(⟨Br,(pK).at_⟩:lI)) (x:=(⟨(xI (pK).e),(pK).at_⟩:ju)) hs yp (by decide) (λ s_x68 w37 hs=>?_));refine ⟨aG sN (hs.p1.hb.cell rfl),?_⟩;have hs:=hs.p2;refine ed hs yp (by rw [aju,List.length_singleton]; omega) (by decide) (λ s_x69 w38 hs=>aA kJ ?_)
      obtain ⟨V5,rfl⟩:=(hs).lH;refine aV hs.p1 sN (eJ rfl) (rfl) (λ V6 hs=>have hs:=hs.enc (cs':=Flat.enc (⟨sl,NP,NQ,NR,NS,V5⟩:bN)) rfl;aO (by omega) ?_);have hs:=hs.p8.p8.p8.p8.p8.p8.p8.p8.p8;exact ⟨_,by omega,j+1,V5,rfl,rfl,by omega,by omega,by rw [← iO (k:=j) rp]; exact hs⟩
     ·refine aD gI hs.At (aI (x:=(⟨sl,NP,NQ,NR,NS,sc⟩:bN)) hs.p8 gI rfl rfl (λ w40 hs=>aD gI hs.At ?_));rw [rq (xs:=p.cC) (k:=j) (m:=6) (by omega) (by omega) (of_decide_eq_false vq)] at hs;have hs:=hs.p3.jF.p4.freeze.p1.fL.p4.freeze.p1.fL.p4.jF.p1.fL.p4.jF.p1.fL;have hs:=hs.p3.jF.p1.fL.dO (Ψ:=(λ w=>cA.dr w (⟨sl,NP,NQ,NR,NS,sc⟩:bN) (⟨((p.lines.take 6).map iW),(iW p.jP),(iW p.locks),(kr p.threads),(kr p.recover),((p.cC.take 6).map EB)⟩:cU))) (λ w h=>⟨_,_,_,_,_,_,rfl,h.1.1.1.1.1,DL.fq h.1.1.1.1.2,DL.fq h.1.1.1.2,h.1.1.2,h.1.2,h.2⟩)
      have hs:=(((hs.p1.drop.p1).drop).p1).drop;exact ⟨_,rfl,hs.fresh⟩
def Ln (n many:Int):Bool:=decide (0≤n) && decide (n<many)
def sq (k:Int):Bool:=decide (k=1) || decide (k=3) || decide (k=4) || decide (k=12) || decide (k=15)
def aM (x:aW) (aK counts:Int):Bool:=if x.kind=13∨x.kind=14 then Ln x.a counts else if x.kind=1∨x.kind=2∨x.kind=4 then Ln x.a aK else decide (x.a=0)
def bM (x:aW) (cells lines locks:Int):Bool:=if x.kind=2∨x.kind=3∨x.kind=4 then Ln x.b cells else if x.kind=5∨x.kind=6 then Ln x.b lines else if x.kind=9∨x.kind=10 then Ln x.b locks else if x.kind=13 then decide (1≤x.b) && decide (x.b≤8) else decide (x.b=0)
def efM (x:aW) (aK:Int):Bool:=(if sq x.kind=true then eL x.e aK else !decide (0<(x.e.length:Int))) && (if x.kind=4 then eL x.f aK else !decide (0<(x.f.length:Int)))
def u4 (x:aW) (c:fo) (cells lines locks:Int):Bool:=efM x c.aK && (decide (1≤x.kind) && decide (x.kind≤15) && aM x c.aK c.counts && bM x cells lines locks)
def sr (y:aW) (a:Int):Bool:=decide (y.kind=13) && decide (y.a=a)
def btM (l:List aW) (i:Nat) (x:aW):Bool:=decide (1≤x.to) && decide (x.to≤i) && (match l[(x.to - 1).toNat]? with | some y=>sr y x.a | none=>false)
theorem V7 {l:List aW} {i:Nat} {x y:aW} (h1:1≤x.to) (h2:x.to≤i) (h:l[(x.to - 1).toNat]? = some y):btM l i x=sr y x.a:=by unfold btM; rw [h,decide_eq_true h1,decide_eq_true h2]; rfl
theorem Lo {l:List aW} {i:Nat} {x:aW} (h:x.to<1∨(i:Int)<x.to):btM l i x=false:=by
 unfold btM
 rcases h with h | h
 ·rw [decide_eq_false (show ¬ 1≤x.to by omega)]; rfl
 ·rw [decide_eq_false (show ¬ x.to≤(i:Int) by omega)]; simp
theorem ap7 {l:List aW} {i:Nat} {x:aW} (h:btM l i x=true):1≤x.to∧x.to≤i:=by
 by_cases h1:x.to<1∨(i:Int)<x.to
 ·rw [Lo h1] at h; cases h
 ·omega
def BX (l:List aW) (i:Nat) (x:aW):Bool:=btM l i x && !((l.take i).drop x.to.toNat).any (λ y=>sr y x.a)
def IH (l:List aW) (i:Nat) (x:aW):Bool:=if x.kind=11∨x.kind=12 then decide ((i:Int)<x.to) && decide (x.to≤l.length) else if x.kind=14 then BX l i x else decide (x.to=0)
def u7 (c:fo) (cells lines locks:Int) (i:Nat):Bool:=match c.l[i]? with | some x=>!u4 x c cells lines locks || !IH c.l i x | none=>false
def u9 (l:List aW) (x:aW) (k:Nat):Bool:=match l[k]? with | some y=>decide (y.kind=14) && !(decide (x.to≤y.to) || decide ((k:Int)+1<x.to)) | none=>false
def qx (l:List aW) (i:Nat):Bool:=match l[i]? with | some x=>decide (x.kind=14) && (List.range i).any (u9 l x) | none=>false
def va (c:fo):Bool:=decide (c.aK<0) || decide (4<c.aK) || decide (c.counts<0) || decide (12<c.counts)
def lj (c:fo) (cells lines locks:Int):Bool:=!va c && !(List.range c.l.length).any (u7 c cells lines locks) && !(List.range c.l.length).any (qx c.l)
def gp (u:il):Int:=if 1≤u.stays∧u.stays≤u.lines.length then u.lines.getD (u.stays - 1).toNat 0+1 else 0
def lq (l:List Int) (i:Nat):Int:=if i=0 then 0 else l.getD (i - 1) 0+1
def j5 (u:il) (i:Nat):Bool:=match u.lines[i]? with | some n=>decide (¬ n=lq u.lines i) && (decide (i=0) || decide (u.stays≤i) || decide (¬ n=lq u.lines i - 1)) | none=>false
def lr (n:Int):Bool:=decide (n<0) || decide (4294967296<n)
def kQ (u:il):Bool:=decide (20<(u.lines.length:Int)) || decide (u.stays<0) || decide ((u.lines.length:Int)<u.stays) || decide (¬ (u.dC.length:Int)=u.lines.length) || decide (u.locks<0) || decide (2<u.locks) || decide ((u.threads.length:Int)<1) || decide (3<(u.threads.length:Int))
def nt (u:il):Bool:=!kQ u && (!u.dC.any lr && !(List.range u.lines.length).any (j5 u) && !u.threads.any (λ c=>!lj c u.lines.length (gp u) u.locks) && !u.cC.any (λ l=>!eL l u.stays) && lj u.recover u.lines.length (gp u) u.locks)
structure CZ (c:fo):Prop where
 l:c.l.length≤1000
 ef:∀ x∈c.l,x.e.length≤1000∧x.f.length≤1000
structure UZ (u:il):Prop where
 lines:u.lines.length≤1000
 dC:u.dC.length≤1000
 threads:u.threads.length≤1000
 cC:u.cC.length≤1000
 th:∀ c∈u.threads,CZ c
 rc:CZ u.recover
 cl:∀ l∈u.cC,l.length≤1000
theorem ue {c:fo} {cells lines locks:Int} {i:Nat} {x:aW} (h:c.l[i]? = some x):u7 c cells lines locks i=(!u4 x c cells lines locks || !IH c.l i x):=by unfold u7; rw [h]
theorem Ae {l:List aW} {x y:aW} {k:Nat} (h:l[k]? = some y):u9 l x k=(decide (y.kind=14) && !(decide (x.to≤y.to) || decide ((k:Int)+1<x.to))):=by unfold u9; rw [h]
theorem xj {l:List aW} {i:Nat} {x:aW} (h:l[i]? = some x):qx l i=(decide (x.kind=14) && (List.range i).any (u9 l x)):=by unfold qx; rw [h]
theorem acU {l:List aW} {i:Nat} {x:aW} (h:BX l i x=true):1≤x.to∧x.to≤i:=by unfold BX at h; rw [Bool.and_eq_true] at h; exact ap7 h.1
theorem V8 {l:List aW} {i:Nat} {x:aW} (hk:x.kind=14) (h:IH l i x=true):1≤x.to∧x.to≤i:=by
 unfold IH at h; rw [if_neg (by omega),if_pos hk] at h; exact acU h
theorem V9 {l:List aW} {i:Nat} {x:aW} (h:btM l i x=false):BX l i x=false:=by unfold BX; rw [h]; rfl
theorem GR {f:Nat→Bool} {n:Nat} (h:(List.range n).any f=false):∀ j,j<n→f j=false:=λ j hj=>by
 rw [List.any_eq_false] at h
 have:=h j (List.mem_range.2 hj)
 simpa using this
theorem EJ {u:il} {k:Nat} (h:∀ j,j<k→j5 u j=false):∀ j n,j<k→u.lines[j]? = some n→-1≤n∧n≤j
 | 0,n,hj,hn=>by
  have:=h 0 hj
  unfold j5 lq at this
  rw [hn] at this
  simp at this
  omega
 | j+1,n,hj,hn=>by
  have mz:=(List.getElem?_eq_some_iff.1 hn).1
  obtain ⟨m,hm⟩:∃ m,u.lines[j]? = some m:=⟨_,List.getElem?_eq_getElem (by omega)⟩
  have ih:=EJ h j m (by omega) hm
  have:=h (j+1) hj
  unfold j5 lq at this
  rw [hn] at this
  simp only [Nat.add_one_ne_zero,if_false,Nat.add_sub_cancel,List.getD_eq_getElem?_getD,hm,Option.getD_some,decide_false,Bool.false_or,Bool.and_eq_false_iff,decide_eq_false_iff_not,Bool.or_eq_false_iff,Decidable.not_not] at this
  omega
theorem GS {u:il} {k:Nat} {n:Int} (h:u.lines[k]? = some n):j5 u k=(decide (¬ n=lq u.lines k) && (decide ((k:Int)=0) || decide (u.stays≤k) || decide (¬ n=lq u.lines k - 1))):=by
 unfold j5; rw [h]; simp only []
 congr 2
 congr 1
 exact decide_eq_decide.2 (by omega)
theorem Lp {u:il} (h:∀ j,j<u.lines.length→j5 u j=false):∀ n∈u.lines,-1≤n∧n≤(u.lines.length:Int):=by
 intro n hn
 obtain ⟨j,hj,he⟩:=List.mem_iff_getElem.1 hn
 have:=EJ h j n hj (by rw [List.getElem?_eq_getElem hj,he])
 omega
theorem NT {u:il} (h:kQ u=false):u.lines.length≤20∧0≤u.stays∧u.stays≤u.lines.length∧u.dC.length=u.lines.length∧0≤u.locks∧u.locks≤2∧1≤u.threads.length∧u.threads.length≤3:=by
 unfold kQ at h
 simp only [Bool.or_eq_false_iff,decide_eq_false_iff_not] at h
 omega
def ajy:List ByteArray:=[⟨#[]⟩,⟨#[114,101]⟩,⟨#[114,99]⟩,⟨#[99,101]⟩,⟨#[114,99,101,102]⟩,⟨#[108]⟩,⟨#[108]⟩,⟨#[]⟩,⟨#[]⟩,⟨#[109]⟩,⟨#[109]⟩,⟨#[116]⟩,⟨#[101,116]⟩,⟨#[107,110]⟩,⟨#[107,116]⟩,⟨#[101]⟩]
def ajz:Array Value:=#[.string ⟨#[]⟩,.string ⟨#[114,101]⟩,.string ⟨#[114,99]⟩,.string ⟨#[99,101]⟩,.string ⟨#[114,99,101,102]⟩,.string ⟨#[108]⟩,.string ⟨#[108]⟩,.string ⟨#[]⟩,.string ⟨#[]⟩,.string ⟨#[109]⟩,.string ⟨#[109]⟩,.string ⟨#[116]⟩,.string ⟨#[101,116]⟩,.string ⟨#[107,110]⟩,.string ⟨#[107,116]⟩,.string ⟨#[101]⟩]
def hasB (k c:Int):Bool:=en (ajy.getD k.toNat ⟨#[]⟩) c
theorem oq {k:Int} (h:1≤k∧k≤15):hasB k 114=decide (k=1∨k=2∨k=4)∧hasB k 107=decide (k=13∨k=14)∧hasB k 99=decide (k=2∨k=3∨k=4)∧hasB k 108=decide (k=5∨k=6)∧hasB k 109=decide (k=9∨k=10)∧hasB k 110=decide (k=13)∧hasB k 101=sq k∧hasB k 102=decide (k=4)∧hasB k 116=decide (k=11∨k=12∨k=14):=by
 obtain rfl | rfl | rfl | rfl | rfl | rfl | rfl | rfl | rfl | rfl | rfl | rfl | rfl | rfl | rfl:k=1∨k=2∨k=3∨k=4∨k=5∨k=6∨k=7∨k=8∨k=9∨k=10∨k=11∨k=12∨k=13∨k=14∨k=15:=by omega
 all_goals decide
def k14 (l:List aW) (i:Nat):Bool:=match l[i]? with | some x=>decide (x.kind=14) | none=>false
def ot (l:List aW) (k:Nat):List Int:=((List.range k).filter (k14 l)).map (fun (n:Nat)=>(n:Int))
theorem GU (l:List aW) (k:Nat):(ot l k).length≤k:=by
 unfold ot
 rw [List.length_map]
 have:=List.length_filter_le (k14 l) (List.range k)
 rw [List.length_range] at this; exact this
theorem Wa {l:List aW} {k:Nat} {x:aW} (h:l[k]? = some x) (hk:¬ x.kind=14):ot l k=ot l (k+1):=by
 have:k14 l k=false:=by unfold k14; rw [h]; exact decide_eq_false hk
 unfold ot; rw [List.range_succ,List.filter_append,List.filter_cons_of_neg (by rw [this]; decide),List.filter_nil,List.append_nil]
theorem R7 {l:List aW} {k:Nat} {x:aW} (h:l[k]? = some x) (hk:x.kind=14):ot l k++[(k:Int)]=ot l (k+1):=by
 have:k14 l k=true:=by unfold k14; rw [h]; exact decide_eq_true hk
 unfold ot; rw [List.range_succ,List.filter_append,List.filter_cons_of_pos this,List.filter_nil,List.map_append]; rfl
theorem R8 {l:List aW} {k:Nat} {e:Int} (h:e∈ot l k):∃ j:Nat,e=j∧j<k∧∃ y,l[j]? = some y∧y.kind=14:=by
 unfold ot at h
 obtain ⟨j,hj,rfl⟩:=List.mem_map.1 h
 obtain ⟨h1,h2⟩:=List.mem_filter.1 hj
 refine ⟨j,rfl,List.mem_range.1 h1,?_⟩
 unfold k14 at h2
 cases hy:l[j]? with
 | none=>rw [hy] at h2; cases h2
 | some y=>rw [hy] at h2; exact ⟨y,rfl,of_decide_eq_true h2⟩
theorem Wb {l:List aW} {k:Nat} {x:aW} (h:∀ e∈ot l k,u9 l x e.toNat=false):(List.range k).any (u9 l x)=false:=by
 refine m6 λ j hj=>?_
 cases hy:l[j]? with
 | none=>unfold u9; rw [hy]
 | some y=>
  by_cases hk:y.kind=14
  ·exact h (j:Int) (List.mem_map.2 ⟨j,List.mem_filter.2 ⟨List.mem_range.2 hj,by unfold k14; rw [hy]; exact decide_eq_true hk⟩,rfl⟩)
  ·rw [Ae hy,decide_eq_false hk]; rfl
def afA (l:List aW):Prop:=∀ (i:Nat) (x:aW),l[i]? = some x→x.kind=14→1≤x.to∧x.to≤i
theorem List.ft {α:Type} {l l':List α} {f g:α→Bool} (h:l=l') (h2:∀ x,f x=g x):l.any f=l'.any g:=by subst h; rw [funext h2]
theorem C178 (w:World):CR 178 [] w (λ v w'=>v = .agg ajz∧Ext w w'):=by
 have hs:=St.start w;refine ZV _ _ ?_;unfold S178;refine aN hs abp (λ avV w1 hs=>pop (lV _ _ _ _ _ _ _ _ _ _ _ _ _) (pk hs aeZ rfl (by decide) (by simp [rO,gV]) (λ w2 hs=>qP aeZ hs.hb rfl ?_)));exact ⟨rfl,hs.drop.aF⟩
theorem C179 (p:Bool) (n many:Int) (w:World):CR 179 [.bool p,.int .i64 n,.int .i64 many] w (λ v w'=>v = .bool (if p=true then Ln n many else decide (n=0))∧Ext w w'):=by
 have hs:=St.start w;refine ZW _ _ _ _ _ ?_;unfold S179;refine bZ (aX (λ gn=>?_) (λ gn=>?_))
 ·refine aH ?_;refine ⟨vb ?_,hs.aF⟩
  grind
 ·refine ⟨λ jv w'=>jv = .bool (Ln n many)∧St w bD [] w',?_,?_⟩
  ·refine dG (aC (λ jV=>?_) (λ jV=>?_))
   ·refine aR ?_;exact ⟨vb (by unfold Ln; grind),hs⟩
   ·exact ⟨vb (by unfold Ln; grind),hs⟩
  ·rintro _ w1 ⟨rfl,hs⟩ fB;refine ⟨vb ?_,hs.aF⟩
   grind
theorem C220 (sv:Value) (xs:List UInt8) (c:Int) (w:World) (hL:eF (λ _=>True) w sv xs) (hn:xs.length≤1048576):CR 220 [sv,.int .u8 c] w (λ v w'=>v = .int .i64 (uQ (λ y=>decide (c=(y.toNat:Int))) xs)∧Ext w w'):=by
 have hs:=St.start w;refine aau _ _ _ _ ?_;unfold S220;refine aJ aeY (hL.ext hs.aF) ?_;refine ⟨λ m x w1=>∃ k:Nat,x = .int .i64 (k:Int)∧m=xs.length - k∧k≤xs.length∧(∀ y∈xs.take k,decide (c=(y.toNat:Int))=false)∧St w bD [] w1,⟨_,0,rfl,rfl,Nat.zero_le _,by simp,hs⟩,?_⟩;rintro m _ w1 ⟨k,rfl,rfl,hk,fR,hs⟩ fB;refine aR (aC (λ gu=>?_) (λ gu=>?_))
 ·obtain ⟨jk,dD⟩:=gx (xs) (i:=((k:Int)).toNat) (by omega);refine aQ aeY hL (by omega) dD (λ _ iM=>aD ty5 (iM.ext hs.aF) (nZ (aC (λ eB=>?_) (λ eB=>?_))))
  ·exact ⟨congrArg (Value.int .i64) (pd fR dD (decide_eq_true eB)).symm,hs.aF⟩
  ·refine aO (by omega) ?_;exact ⟨_,by omega,k+1,rfl,rfl,by omega,eD fR dD (decide_eq_false eB),hs⟩
 ·exact ⟨congrArg (Value.int .i64) (kn (by rw [List.take_of_length_le (by omega)] at fR; exact fR)).symm,hs.aF⟩
theorem C177 (sv:Value) (xs:List UInt8) (c:Int) (w:World) (hL:eF (λ _=>True) w sv xs) (hn:xs.length≤1048576):CR 177 [sv,.int .u8 c] w (λ v w'=>v = .bool (xs.any (λ y=>decide (c=(y.toNat:Int))))∧Ext w w'):=by
 have hs:=St.start w;refine ZU _ _ _ _ ?_;unfold S177;refine aZ anv hs (C220 _ _ _ _ (hL.ext hs.aF) (by omega)) (λ w1 he hs=>dG ?_);exact ⟨vb (n8 _ _),hs.aF⟩
theorem C176 (k c:Int) (b1:Nat) (Q:Bool) (w:World) (hc:Cell w b1 0 (.int .i64 k)) (hk:1≤k∧k≤15) (hQ:hasB k c=Q):CR 176 [.int .u8 c,.pointer (some ⟨b1,0,none⟩)] w (λ v w'=>v = .bool Q∧Ext w w'):=by
 have hs:=St.start w;refine ZT _ _ _ _ ?_;unfold S176;refine aA jg (have hs:=hs.drew;cG bL (hc.ext hs.aF) (aZ am8 hs (C178 _) (λ w1 he hs=>?_)));refine ⟨aG bL (hc.ext hs.aF),?_⟩;obtain rfl | rfl | rfl | rfl | rfl | rfl | rfl | rfl | rfl | rfl | rfl | rfl | rfl | rfl | rfl:k=1∨k=2∨k=3∨k=4∨k=5∨k=6∨k=7∨k=8∨k=9∨k=10∨k=11∨k=12∨k=13∨k=14∨k=15:=by omega
 ·refine pop (v:=.string ⟨#[114,101]⟩) (by kernel_rfl) (gW hs gH Tryz.underlying252 xz (λ xJ w2 hs=>aZ qL hs (C177 _ _ _ _ (hs).eS (by rw [dZ]; decide)) (λ w3 he hs=>?_)));have hs:=(hs).drop;refine ⟨vb ?_,hs.aF⟩;rw [← hQ];unfold hasB en;exact List.ft rfl (λ y=>decide_eq_decide.2 eq_comm)
 ·refine pop (v:=.string ⟨#[114,99]⟩) (by kernel_rfl) (gW hs gH Tryz.underlying252 xz (λ xJ w2 hs=>aZ qL hs (C177 _ _ _ _ (hs).eS (by rw [dZ]; decide)) (λ w3 he hs=>?_)));have hs:=(hs).drop;refine ⟨vb ?_,hs.aF⟩;rw [← hQ];unfold hasB en;exact List.ft rfl (λ y=>decide_eq_decide.2 eq_comm)
 ·refine pop (v:=.string ⟨#[99,101]⟩) (by kernel_rfl) (gW hs gH Tryz.underlying252 xz (λ xJ w2 hs=>aZ qL hs (C177 _ _ _ _ (hs).eS (by rw [dZ]; decide)) (λ w3 he hs=>?_)));have hs:=(hs).drop;refine ⟨vb ?_,hs.aF⟩;rw [← hQ];unfold hasB en;exact List.ft rfl (λ y=>decide_eq_decide.2 eq_comm)
 ·refine pop (v:=.string ⟨#[114,99,101,102]⟩) (by kernel_rfl) (gW hs gH Tryz.underlying252 xz (λ xJ w2 hs=>aZ qL hs (C177 _ _ _ _ (hs).eS (by rw [dZ]; decide)) (λ w3 he hs=>?_)));have hs:=(hs).drop;refine ⟨vb ?_,hs.aF⟩;rw [← hQ];unfold hasB en;exact List.ft rfl (λ y=>decide_eq_decide.2 eq_comm)
 ·refine pop (v:=.string ⟨#[108]⟩) (by kernel_rfl) (gW hs gH Tryz.underlying252 xz (λ xJ w2 hs=>aZ qL hs (C177 _ _ _ _ (hs).eS (by rw [dZ]; decide)) (λ w3 he hs=>?_)));have hs:=(hs).drop;refine ⟨vb ?_,hs.aF⟩;rw [← hQ];unfold hasB en;exact List.ft rfl (λ y=>decide_eq_decide.2 eq_comm)
 ·refine pop (v:=.string ⟨#[108]⟩) (by kernel_rfl) (gW hs gH Tryz.underlying252 xz (λ xJ w2 hs=>aZ qL hs (C177 _ _ _ _ (hs).eS (by rw [dZ]; decide)) (λ w3 he hs=>?_)));have hs:=(hs).drop;refine ⟨vb ?_,hs.aF⟩;rw [← hQ];unfold hasB en;exact List.ft rfl (λ y=>decide_eq_decide.2 eq_comm)
 ·refine pop (v:=.string ⟨#[]⟩) (by kernel_rfl) (gW hs gH Tryz.underlying252 xz (λ xJ w2 hs=>aZ qL hs (C177 _ _ _ _ (hs).eS (by rw [dZ]; decide)) (λ w3 he hs=>?_)));have hs:=(hs).drop;refine ⟨vb ?_,hs.aF⟩;rw [← hQ];unfold hasB en;exact List.ft rfl (λ y=>decide_eq_decide.2 eq_comm)
 ·refine pop (v:=.string ⟨#[]⟩) (by kernel_rfl) (gW hs gH Tryz.underlying252 xz (λ xJ w2 hs=>aZ qL hs (C177 _ _ _ _ (hs).eS (by rw [dZ]; decide)) (λ w3 he hs=>?_)));have hs:=(hs).drop;refine ⟨vb ?_,hs.aF⟩;rw [← hQ];unfold hasB en;exact List.ft rfl (λ y=>decide_eq_decide.2 eq_comm)
 ·refine pop (v:=.string ⟨#[109]⟩) (by kernel_rfl) (gW hs gH Tryz.underlying252 xz (λ xJ w2 hs=>aZ qL hs (C177 _ _ _ _ (hs).eS (by rw [dZ]; decide)) (λ w3 he hs=>?_)));have hs:=(hs).drop;refine ⟨vb ?_,hs.aF⟩;rw [← hQ];unfold hasB en;exact List.ft rfl (λ y=>decide_eq_decide.2 eq_comm)
 ·refine pop (v:=.string ⟨#[109]⟩) (by kernel_rfl) (gW hs gH Tryz.underlying252 xz (λ xJ w2 hs=>aZ qL hs (C177 _ _ _ _ (hs).eS (by rw [dZ]; decide)) (λ w3 he hs=>?_)));have hs:=(hs).drop;refine ⟨vb ?_,hs.aF⟩;rw [← hQ];unfold hasB en;exact List.ft rfl (λ y=>decide_eq_decide.2 eq_comm)
 ·refine pop (v:=.string ⟨#[116]⟩) (by kernel_rfl) (gW hs gH Tryz.underlying252 xz (λ xJ w2 hs=>aZ qL hs (C177 _ _ _ _ (hs).eS (by rw [dZ]; decide)) (λ w3 he hs=>?_)));have hs:=(hs).drop;refine ⟨vb ?_,hs.aF⟩;rw [← hQ];unfold hasB en;exact List.ft rfl (λ y=>decide_eq_decide.2 eq_comm)
 ·refine pop (v:=.string ⟨#[101,116]⟩) (by kernel_rfl) (gW hs gH Tryz.underlying252 xz (λ xJ w2 hs=>aZ qL hs (C177 _ _ _ _ (hs).eS (by rw [dZ]; decide)) (λ w3 he hs=>?_)));have hs:=(hs).drop;refine ⟨vb ?_,hs.aF⟩;rw [← hQ];unfold hasB en;exact List.ft rfl (λ y=>decide_eq_decide.2 eq_comm)
 ·refine pop (v:=.string ⟨#[107,110]⟩) (by kernel_rfl) (gW hs gH Tryz.underlying252 xz (λ xJ w2 hs=>aZ qL hs (C177 _ _ _ _ (hs).eS (by rw [dZ]; decide)) (λ w3 he hs=>?_)));have hs:=(hs).drop;refine ⟨vb ?_,hs.aF⟩;rw [← hQ];unfold hasB en;exact List.ft rfl (λ y=>decide_eq_decide.2 eq_comm)
 ·refine pop (v:=.string ⟨#[107,116]⟩) (by kernel_rfl) (gW hs gH Tryz.underlying252 xz (λ xJ w2 hs=>aZ qL hs (C177 _ _ _ _ (hs).eS (by rw [dZ]; decide)) (λ w3 he hs=>?_)));have hs:=(hs).drop;refine ⟨vb ?_,hs.aF⟩;rw [← hQ];unfold hasB en;exact List.ft rfl (λ y=>decide_eq_decide.2 eq_comm)
 ·refine pop (v:=.string ⟨#[101]⟩) (by kernel_rfl) (gW hs gH Tryz.underlying252 xz (λ xJ w2 hs=>aZ qL hs (C177 _ _ _ _ (hs).eS (by rw [dZ]; decide)) (λ w3 he hs=>?_)));have hs:=(hs).drop;refine ⟨vb ?_,hs.aF⟩;rw [← hQ];unfold hasB en;exact List.ft rfl (λ y=>decide_eq_decide.2 eq_comm)
theorem C185 (sv fv:Value) (xs:List Int) (g:Int→Bool) (w:World) (hL:eF (λ _=>True) w sv xs) (hf:Ci w fv g) (hn:xs.length≤1073741824):CR 185 [sv,fv] w (λ v w'=>v = .int .i64 (uQ g xs)∧Ext w w'):=by
 obtain ⟨g0,first,cap,rfl,vi,lQ⟩:=hf;have hs:=St.start w;refine Z2 _ _ _ _ ?_;unfold S185;refine aJ ei (hL.ext hs.aF) ?_;refine ⟨λ m x w1=>∃ k:Nat,x = .int .i64 (k:Int)∧m=xs.length - k∧k≤xs.length∧(∀ y∈xs.take k,g y=false)∧St w bD [] w1,⟨_,0,rfl,rfl,Nat.zero_le _,by simp,hs⟩,?_⟩;rintro m _ w1 ⟨k,rfl,rfl,hk,fR,hs⟩ fB;refine aR (aC (λ gu=>?_) (λ gu=>?_))
 ·obtain ⟨jk,dD⟩:=gx (xs) (i:=((k:Int)).toNat) (by omega);refine aQ ei hL (by omega) dD (λ _ iM=>aD bL (iM.ext hs.aF) (ga vi (lQ jk w1 hs.aF) ?_));rintro _ w2 ⟨rfl,he⟩;have hs:=hs.ext he;refine aX (λ eB=>?_) (λ eB=>?_)
  ·exact ⟨congrArg (Value.int .i64) (pd fR dD eB).symm,hs.aF⟩
  ·refine aO (by omega) ?_;exact ⟨_,by omega,k+1,rfl,rfl,by omega,eD fR dD eB,hs⟩
 ·exact ⟨congrArg (Value.int .i64) (kn (by rw [List.take_of_length_le (by omega)] at fR; exact fR)).symm,hs.aF⟩
theorem C186 (sv fv:Value) (xs:List fo) (φ:fo→Prop) (g:fo→Bool) (w:World) (hL:DL w sv xs) (hf:n7 PG w fv φ g) (hφ:∀ x∈xs,φ x) (hn:xs.length≤1073741824):CR 186 [sv,fv] w (λ v w'=>v = .int .i64 (uQ g xs)∧Ext w w'):=by
 obtain ⟨g0,first,cap,rfl,vi,lQ⟩:=hf;have hs:=St.start w;refine Z3 _ _ _ _ ?_;unfold S186;obtain ⟨axY,ap8,ap9⟩:=(hL).open;have hn98:=ap9.1;refine aJ A5 (ap8.ext hs.aF) ?_;refine ⟨λ m x w1=>∃ k:Nat,x = .int .i64 (k:Int)∧m=xs.length - k∧k≤xs.length∧(∀ y∈xs.take k,g y=false)∧St w bD [] w1,⟨_,0,rfl,rfl,Nat.zero_le _,by simp,hs⟩,?_⟩;rintro m _ w1 ⟨k,rfl,rfl,hk,fR,hs⟩ fB;refine aR (aC (λ gu=>?_) (λ gu=>?_))
 ·obtain ⟨jk,dD⟩:=gx axY (i:=((k:Int)).toNat) (by omega);obtain ⟨BY,jR⟩:=gx (xs) (i:=((k:Int)).toNat) (by omega);obtain ⟨acV,rfl,acW⟩:=ap9.2 _ _ _ dD jR;refine aQ A5 ap8 (by omega) dD (λ _ iM=>aD pQ (iM.ext hs.aF) (ga vi (lQ _ BY w1 hs.aF ⟨acV,rfl,(acW.ext hs.aF)⟩ (hφ _ (List.mem_of_getElem? jR))) ?_));rintro _ w2 ⟨rfl,he⟩;have hs:=hs.ext he;refine aX (λ eB=>?_) (λ eB=>?_)
  ·exact ⟨congrArg (Value.int .i64) (pd fR jR eB).symm,hs.aF⟩
  ·refine aO (by omega) ?_;exact ⟨_,by omega,k+1,rfl,rfl,by omega,eD fR jR eB,hs⟩
 ·exact ⟨congrArg (Value.int .i64) (kn (by rw [List.take_of_length_le (by omega)] at fR; exact fR)).symm,hs.aF⟩
theorem C187 (sv fv:Value) (xs:List (List nk)) (φ:(List nk)→Prop) (g:(List nk)→Bool) (w:World) (hL:DL w sv xs) (hf:n7 PG w fv φ g) (hφ:∀ x∈xs,φ x) (hn:xs.length≤1073741824):CR 187 [sv,fv] w (λ v w'=>v = .int .i64 (uQ g xs)∧Ext w w'):=by
 obtain ⟨g0,first,cap,rfl,vi,lQ⟩:=hf;have hs:=St.start w;refine Z4 _ _ _ _ ?_;unfold S187;obtain ⟨xH,aqa,FQ⟩:=(hL).open;have apd:=FQ.1;refine aJ FG (aqa.ext hs.aF) ?_;refine ⟨λ m x w1=>∃ k:Nat,x = .int .i64 (k:Int)∧m=xs.length - k∧k≤xs.length∧(∀ y∈xs.take k,g y=false)∧St w bD [] w1,⟨_,0,rfl,rfl,Nat.zero_le _,by simp,hs⟩,?_⟩;rintro m _ w1 ⟨k,rfl,rfl,hk,fR,hs⟩ fB;refine aR (aC (λ gu=>?_) (λ gu=>?_))
 ·obtain ⟨jk,dD⟩:=gx xH (i:=((k:Int)).toNat) (by omega);obtain ⟨BY,jR⟩:=gx (xs) (i:=((k:Int)).toNat) (by omega);have afB:DL w (Flat.val jk) BY:=FQ.2 _ _ _ dD jR;refine aQ FG aqa (by omega) dD (λ _ iM=>aD xB (iM.ext hs.aF) ?_);have hf100:=DL.flat (afB);refine ga vi (lQ _ BY w1 hs.aF (afB.ext hs.aF) (hφ _ (List.mem_of_getElem? jR))) ?_;rintro _ w2 ⟨rfl,he⟩;have hs:=hs.ext he;refine aX (λ eB=>?_) (λ eB=>?_)
  ·exact ⟨congrArg (Value.int .i64) (pd fR jR eB).symm,hs.aF⟩
  ·refine aO (by omega) ?_;exact ⟨_,by omega,k+1,rfl,rfl,by omega,eD fR jR eB,hs⟩
 ·exact ⟨congrArg (Value.int .i64) (kn (by rw [List.take_of_length_le (by omega)] at fR; exact fR)).symm,hs.aF⟩
theorem C249 (sv fv:Value) (xs:List aW) (φ:aW→Prop) (g:aW→Bool) (w:World) (hL:DL w sv xs) (hf:n7 PG w fv φ g) (hφ:∀ x∈xs,φ x) (hn:xs.length≤1073741824):CR 249 [sv,fv] w (λ v w'=>v = .int .i64 (uQ g xs)∧Ext w w'):=by
 obtain ⟨g0,first,cap,rfl,vi,lQ⟩:=hf;have hs:=St.start w;refine aaW _ _ _ _ ?_;unfold S249;obtain ⟨aqb,afC,afD⟩:=(hL).open;have hn101:=afD.1;refine aJ kK (afC.ext hs.aF) ?_;refine ⟨λ m x w1=>∃ k:Nat,x = .int .i64 (k:Int)∧m=xs.length - k∧k≤xs.length∧(∀ y∈xs.take k,g y=false)∧St w bD [] w1,⟨_,0,rfl,rfl,Nat.zero_le _,by simp,hs⟩,?_⟩;rintro m _ w1 ⟨k,rfl,rfl,hk,fR,hs⟩ fB;refine aR (aC (λ gu=>?_) (λ gu=>?_))
 ·obtain ⟨jk,dD⟩:=gx aqb (i:=((k:Int)).toNat) (by omega);obtain ⟨BY,jR⟩:=gx (xs) (i:=((k:Int)).toNat) (by omega);obtain ⟨acX,acY,rfl,acZ,ac0⟩:=afD.2 _ _ _ dD jR;refine aQ kK afC (by omega) dD (λ _ iM=>aD lF (iM.ext hs.aF) (ga vi (lQ _ BY w1 hs.aF ⟨acX,acY,rfl,(acZ.ext hs.aF),(ac0.ext hs.aF)⟩ (hφ _ (List.mem_of_getElem? jR))) ?_));rintro _ w2 ⟨rfl,he⟩;have hs:=hs.ext he;refine aX (λ eB=>?_) (λ eB=>?_)
  ·exact ⟨congrArg (Value.int .i64) (pd fR jR eB).symm,hs.aF⟩
  ·refine aO (by omega) ?_;exact ⟨_,by omega,k+1,rfl,rfl,by omega,eD fR jR eB,hs⟩
 ·exact ⟨congrArg (Value.int .i64) (kn (by rw [List.take_of_length_le (by omega)] at fR; exact fR)).symm,hs.aF⟩
theorem C117 (sv fv:Value) (xs:List Int) (g:Int→Bool) (w:World) (hL:eF (λ _=>True) w sv xs) (hf:Ci w fv g) (hn:xs.length≤1073741824):CR 117 [sv,fv] w (λ v w'=>v = .bool (xs.any g)∧Ext w w'):=by
 have hs:=St.start w;refine Za _ _ _ _ ?_;unfold S117;refine aZ anf hs (C185 _ _ _ _ _ (hL.ext hs.aF) (hf.ext hs.aF) (by omega)) (λ w1 he hs=>dG ?_);exact ⟨vb (n8 _ _),hs.aF⟩
theorem C118 (sv fv:Value) (xs:List fo) (φ:fo→Prop) (g:fo→Bool) (w:World) (hL:DL w sv xs) (hf:n7 PG w fv φ g) (hφ:∀ x∈xs,φ x) (hn:xs.length≤1073741824):CR 118 [sv,fv] w (λ v w'=>v = .bool (xs.any g)∧Ext w w'):=by
 have hs:=St.start w;refine Zb _ _ _ _ ?_;unfold S118;refine aZ ang hs (C186 _ _ _ _ _ _ (hL.ext hs.aF) (hf.ext hs.aF) hφ (by omega)) (λ w1 he hs=>dG ?_);exact ⟨vb (n8 _ _),hs.aF⟩
theorem C119 (sv fv:Value) (xs:List (List nk)) (φ:(List nk)→Prop) (g:(List nk)→Bool) (w:World) (hL:DL w sv xs) (hf:n7 PG w fv φ g) (hφ:∀ x∈xs,φ x) (hn:xs.length≤1073741824):CR 119 [sv,fv] w (λ v w'=>v = .bool (xs.any g)∧Ext w w'):=by
 have hs:=St.start w;refine Zc _ _ _ _ ?_;unfold S119;refine aZ anh hs (C187 _ _ _ _ _ _ (hL.ext hs.aF) (hf.ext hs.aF) hφ (by omega)) (λ w1 he hs=>dG ?_);exact ⟨vb (n8 _ _),hs.aF⟩
theorem C221 (sv fv:Value) (xs:List aW) (φ:aW→Prop) (g:aW→Bool) (w:World) (hL:DL w sv xs) (hf:n7 PG w fv φ g) (hφ:∀ x∈xs,φ x) (hn:xs.length≤1073741824):CR 221 [sv,fv] w (λ v w'=>v = .bool (xs.any g)∧Ext w w'):=by
 have hs:=St.start w;refine aav _ _ _ _ ?_;unfold S221;refine aZ anQ hs (C249 _ _ _ _ _ _ (hL.ext hs.aF) (hf.ext hs.aF) hφ (by omega)) (λ w1 he hs=>dG ?_);exact ⟨vb (n8 _ _),hs.aF⟩
theorem uf {x:aW} {c:fo} {cells lines locks:Int} (h:1≤x.kind∧x.kind≤15):u4 x c cells lines locks=(aM x c.aK c.counts && bM x cells lines locks && (if sq x.kind=true then eL x.e c.aK else !decide (0<(x.e.length:Int))) && (if x.kind=4 then eL x.f c.aK else !decide (0<(x.f.length:Int)))):=by
 unfold u4 efM
 rw [decide_eq_true h.1,decide_eq_true h.2]
 cases aM x c.aK c.counts <;> cases bM x cells lines locks <;> simp
theorem Wc {x:aW} {c:fo} {cells lines locks:Int} (h:¬ (1≤x.kind∧x.kind≤15)):u4 x c cells lines locks=false:=by
 unfold u4
 by_cases h1:1≤x.kind
 ·rw [decide_eq_false (show ¬ x.kind≤15 by omega)]; simp
 ·rw [decide_eq_false h1]; simp
theorem C222 (y:aW) (yv:bU) (b1:Nat) (a:Int) (w:World) (hy:cA.dr w yv y) (hc:Cell w b1 1 (.int .i64 a)):CR 222 [Flat.val yv,.pointer (some ⟨b1,0,none⟩)] w (λ v w'=>v = .bool (sr y a)∧Ext w w'):=by
 obtain ⟨aqc,aqd,rfl,d_e_y,d_f_y⟩:=hy;have hs:=St.start w;refine aaw _ _ _ _ ?_;unfold S222;refine dE hs (λ axZ w1 hs=>?_);refine ⟨λ jv w'=>jv = .bool (sr y a)∧St w bD [cD axZ (Flat.enc (⟨(y).kind,(y).a,(y).b,aqc,aqd,(y).to⟩:bU))] w',?_,?_⟩
 ·refine aA jg (aB (v:=.int .i64 ((y).kind)) bL hs.hb rfl (aH (aC (λ pC=>?_) (λ pC=>?_))))
  ·refine aA kf (aB (v:=.int .i64 ((y).a)) bL hs.hb rfl (aA kf (cG bL (hc.ext hs.aF) (aH ?_))));exact ⟨vb (by unfold sr; grind),hs⟩
  ·exact ⟨vb (by unfold sr; grind),hs⟩
 ·rintro _ w2 ⟨rfl,hs⟩ fB;exact ⟨rfl,hs.drop.aF⟩
theorem C180 (lv:Value) (xs:List aW) (i:Nat) (x:aW) (w:World) (hL:DL w lv xs) (hn:xs.length≤1048576) (hx:xs[i]? = some x):CR 180 [lv,.int .i64 (i:Int)] w (λ v w'=>v = .bool (BX xs i x)∧Ext w w'):=by
 have hi:=(List.getElem?_eq_some_iff.1 hx).1;have hs:=St.start w;refine ZX _ _ _ _ ?_;unfold S180;obtain ⟨afE,Lq,Qs⟩:=(hL).open;have hn102:=Qs.1;obtain ⟨e_x8,afF⟩:=gx afE (i:=((i:Int)).toNat) (by omega);obtain ⟨sU,afG⟩:=gx (xs) (i:=((i:Int)).toNat) (by omega);obtain ⟨Wd,We,rfl,ax0,ax1⟩:=Qs.2 _ _ _ afF afG;refine aQ kK Lq (by omega) afF (λ _ ax2=>?_);obtain rfl:sU=x:=Option.some.inj (afG.symm.trans hx);refine aD lF (ax2.ext hs.aF) (aN hs mr (λ ub w1 hs=>have hs:=hs.enc (cs':=Flat.enc (⟨0,0,0,⟨none,0,0⟩,⟨none,0,0⟩,0⟩:bU)) rfl;aI (x:=(⟨(sU).kind,(sU).a,(sU).b,Wd,We,(sU).to⟩:bU)) hs lF rfl rfl (λ w2 hs=>?_)))
 refine ⟨λ jv w'=>jv = .bool (!btM xs i sU)∧St w bD [cD ub (Flat.enc (⟨(sU).kind,(sU).a,(sU).b,Wd,We,(sU).to⟩:bU))] w',?_,?_⟩
 ·refine aA kh (have hs:=hs.drew;aB (v:=.int .i64 ((sU).to)) bL hs.hb rfl (aR (aC (λ jV=>?_) (λ jV=>?_))))
  ·exact ⟨vb (by first | (rw [Lo (by omega)]; rfl) | (rw [V7 (by omega) (by omega) wy]; unfold sr; first | grind | simp_all)),hs⟩
  ·refine aA kh (aB (v:=.int .i64 ((sU).to)) bL hs.hb rfl (dA (aC (λ l4=>?_) (λ l4=>?_))))
   ·exact ⟨vb (by first | (rw [Lo (by omega)]; rfl) | (rw [V7 (by omega) (by omega) wy]; unfold sr; first | grind | simp_all)),hs⟩
   ·refine aA kh (aB (v:=.int .i64 ((sU).to)) bL hs.hb rfl (gy (by omega) ?_));obtain ⟨gR,im⟩:=gx afE (i:=(((sU).to - 1)).toNat) (by omega);obtain ⟨BZ,wy⟩:=gx (xs) (i:=(((sU).to - 1)).toNat) (by omega);obtain ⟨as1,as2,rfl,as3,as4⟩:=Qs.2 _ _ _ im wy;refine aQ kK Lq (by omega) im (λ _ v9=>bT (BZ).kind jg v9 rfl rfl (λ _ ud=>aD bL (ud.ext hs.aF) (cS (aC (λ gh=>?_) (λ gh=>?_)))))
    ·exact ⟨vb (by first | (rw [Lo (by omega)]; rfl) | (rw [V7 (by omega) (by omega) wy]; unfold sr; first | grind | simp_all)),hs⟩
    ·refine aA kh (aB (v:=.int .i64 ((sU).to)) bL hs.hb rfl (gy (by omega) (aQ kK Lq (by omega) im (λ _ ry=>bT (BZ).a kf ry rfl rfl (λ _ zL=>aD bL (zL.ext hs.aF) (aA kf (aB (v:=.int .i64 ((sU).a)) bL hs.hb rfl (cS ?_))))))));exact ⟨vb (by first | (rw [Lo (by omega)]; rfl) | (rw [V7 (by omega) (by omega) wy]; unfold sr; first | grind | simp_all)),hs⟩
 ·rintro _ w3 ⟨rfl,hs⟩ fB;refine aX (λ ql=>?_) (λ ql=>?_)
  ·refine ⟨vb ?_,hs.drop.aF⟩;exact (V9 (by simpa using ql)).symm
  ·have NA:btM xs i sU=true:=by simpa using ql
   have hto:=ap7 NA;refine aA kh (aB (v:=.int .i64 ((sU).to)) bL hs.hb rfl (km kK (Lq.ext hs.aF) (by omega) (by omega) (by omega) (λ Wf NU=>?_)));have II:=DL.cut NU Lq Qs
   have Km:n7 PG _ (.func (.func 222) [].toArray [.pointer (some ⟨ub,0,none⟩)].toArray) (λ _:aW=>True) (λ y=>sr y sU.a):=
    ⟨222,[],_,rfl,anx,λ s y w1 e1 hd _=>C222 y s ub sU.a w1 hd ((hs.hb.cell rfl).ext e1)⟩
   refine aZ anw hs (C221 _ _ _ (λ _=>True) _ _ (II.ext hs.aF) Km (λ _ _=>trivial) (by simp; omega)) (λ w4 he hs=>bZ ?_);refine ⟨vb ?_,hs.drop.aF⟩;unfold BX;rw [NA];simp only [Bool.true_and]
   congr 2
set_option maxHeartbeats 4000000 in
theorem C181 (lv:Value) (xs:List aW) (w:World) (hL:DL w lv xs) (hn:xs.length≤1048576) (hb:afA xs):CR 181 [lv] w (λ v w'=>v = .bool (!(List.range xs.length).any (qx xs))∧Ext w w'):=by
 have hs:=St.start w;refine ZY _ _ _ ?_;unfold S181;obtain ⟨afH,Wg,Wh⟩:=(hL).open;have hn103:=Wh.1;refine aJ kK (Wg.ext hs.aF) ?_;have hs:=hs.fX (α:=Int);refine ⟨λ m zm x w1=>∃ k:Nat,x = .int .i64 (k:Int)∧m=xs.length - k∧k≤xs.length∧(∀ j,j<k→qx xs j=false)∧St w bD [bK zm (ot xs k)] w1,⟨_,0,rfl,rfl,Nat.zero_le _,by simp,hs⟩,?_⟩;rintro m zm _ w1 ⟨k,rfl,rfl,hk,fR,hs⟩ fB;have hel:=GU xs k;refine aR (aC (λ kF=>?_) (λ kF=>?_))
 ·obtain ⟨pF,jQ⟩:∃ xx,afH[((k:Int)).toNat]? = some xx:=⟨_,List.getElem?_eq_getElem (by omega)⟩;obtain ⟨mD,oS⟩:∃ xx,(xs)[((k:Int)).toNat]? = some xx:=⟨_,List.getElem?_eq_getElem (by omega)⟩;obtain ⟨IJ,IK,rfl,as5,as6⟩:=Wh.2 _ _ _ jQ oS;refine ⟨λ Cy w'=>qx xs k=false∧St w bD [bK Cy (ot xs (k+1))] w',?_,?_⟩
  ·refine aQ kK Wg (by omega) jQ (λ _ qZ=>aD lF (qZ.ext hs.aF) (aN hs mr (λ ub w2 hs=>have hs:=hs.enc (cs':=Flat.enc (⟨0,0,0,⟨none,0,0⟩,⟨none,0,0⟩,0⟩:bU)) rfl;aI (x:=(⟨(mD).kind,(mD).a,(mD).b,IJ,IK,(mD).to⟩:bU)) hs lF rfl rfl (λ w3 hs=>aA jg (aB (v:=.int .i64 ((mD).kind)) bL hs.hb rfl (cS (aC (λ fw=>?_) (λ fw=>?_))))))))
   ·have hs:=(hs).drop;rw [Wa (k:=k) oS (by omega)] at hs;exact ⟨by rw [xj (i:=k) oS,decide_eq_false (show ¬ mD.kind=14 by omega)]; rfl,hs⟩
   ·have hto:=hb k mD oS (by omega);refine aA kh (aB (v:=.int .i64 ((mD).to)) bL hs.hb rfl (gy (by omega) (aJ ei (hs.p1).fI ?_)));have hs:=hs.p1.p1;refine ⟨λ m x w1=>∃ q:Nat,x = .int .i64 (q:Int)∧m=(ot xs k).length - q∧q≤(ot xs k).length∧(∀ e∈(ot xs k).take q,u9 xs mD e.toNat=false)∧St w bD [cD ub (Flat.enc (⟨(mD).kind,(mD).a,(mD).b,IJ,IK,(mD).to⟩:bU)),bK zm (ot xs k)] w1,⟨_,0,rfl,rfl,Nat.zero_le _,by simp,hs⟩,?_⟩;rintro m _ w4 ⟨q,rfl,rfl,hq,ajA,hs⟩ jw;refine aR (aC (λ qm=>?_) (λ qm=>?_))
    ·obtain ⟨afI,NV⟩:=gx ((ot xs k)) (i:=((q:Int)).toNat) (by omega);refine dT hs.p1 ei (by omega) (by omega) (λ _ we=>?_);obtain ⟨j,hej,hjk,y,hy,ajC⟩:=R8 (List.mem_of_getElem? NV);have hjl:=(List.getElem?_eq_some_iff.1 hy).1;have hyto:=hb j y hy ajC;refine gj hs.p1 bL we NV ?_;obtain ⟨aqe,Bs⟩:=gx afH (i:=(afI).toNat) (by omega);obtain ⟨afJ,Wi⟩:=gx (xs) (i:=(afI).toNat) (by omega);obtain ⟨as7,as8,rfl,as9,ata⟩:=Wh.2 _ _ _ Bs Wi;refine aQ kK Wg (by omega) Bs (λ _ oD=>bT (afJ).to kh oD rfl rfl (λ _ zX=>aD bL (zX.ext hs.aF) ?_))
     obtain rfl:afJ=y:=Option.some.inj (Wi.symm.trans (by rw [hej]; exact hy));refine gy (by omega) ?_;refine ⟨λ jv w'=>jv = .bool (u9 xs mD j)∧St w bD [cD ub (Flat.enc (⟨(mD).kind,(mD).a,(mD).b,IJ,IK,(mD).to⟩:bU)),bK zm (ot xs k)] w',?_,?_⟩
     ·refine aR (aC (λ tV=>?_) (λ tV=>?_))
      ·refine dG ?_;exact ⟨vb (by rw [Ae hy,decide_eq_true ajC]; grind),hs⟩
      ·exact ⟨vb (by rw [Ae hy,decide_eq_true ajC]; grind),hs⟩
     ·rintro _ w5 ⟨rfl,hs⟩ oN;refine aX (λ lL=>?_) (λ lL=>?_)
      ·have hs:=((hs.drop)).drop;refine ⟨vb ?_,hs.aF⟩;rw [rj (f:=qx xs) (j:=k) (by omega) (by rw [xj (i:=k) oS,decide_eq_true (show mD.kind=14 by omega)]; exact rj (j:=j) hjk lL)]; rfl
      ·refine aO (by omega) ?_;exact ⟨_,by omega,q+1,rfl,rfl,by omega,eD ajA NV (by rw [hej]; exact lL),hs⟩
    ·refine bW (([(k:Int)]:List Int)) hs ei rfl rfl (eJ rfl) (λ aqf w6 hs=>?_);have EK:=(hs).fI;refine cN hs.p2 ei EK (by have:=GU xs k; simp; omega) (by decide) (λ apT w7 hs=>?_);have hs:=hs.p1.drop.p1.drop;rw [R7 (k:=k) oS (by omega)] at hs;exact ⟨by rw [xj (i:=k) oS,Wb (by rw [List.take_of_length_le (by omega)] at ajA; exact ajA)]; simp,hs⟩
  ·rintro Cy w8 ⟨Wj,hs⟩ GJ;refine aO (by omega) ?_;exact ⟨_,by omega,k+1,rfl,rfl,by omega,zT fR Wj,hs⟩
 ·have hs:=(hs).drop;refine ⟨vb ?_,hs.aF⟩;rw [m6 (f:=qx xs) (λ j hj=>fR j (by omega))]; rfl
theorem C114 (u:il) (uv:dM) (w:World) (hu:cA.dr w uv u) (hz:UZ u) (hb:∀ n∈u.lines,-1≤n∧n≤(u.lines.length:Int)):CR 114 [Flat.val uv] w (λ v w'=>v = .int .i64 (gp u)∧Ext w w'):=by
 obtain ⟨iD,gG,eZ,su,fi,rfl,iE,jm,iY,jL,kR⟩:=hu;obtain ⟨dK,rfl,ig⟩:=jL;have hs:=St.start w;refine Y7 _ _ _ ?_;unfold S114;refine dE hs (λ xK w1 hs=>?_);refine ⟨λ jv w'=>jv = .bool (decide (¬ (1≤u.stays∧u.stays≤u.lines.length)))∧St w bD [cD xK (Flat.enc (⟨iD,(u).stays,gG,(u).locks,eZ,(⟨((u).recover).aK,((u).recover).counts,dK⟩:cK),fi⟩:dM))] w',?_,?_⟩
 ·refine aA o9 (aB (v:=.int .i64 ((u).stays)) bL hs.hb rfl (aR (aC (λ UI=>?_) (λ UI=>?_))))
  ·exact ⟨vb (by grind),hs⟩
  ·refine aA o9 (aB (v:=.int .i64 ((u).stays)) bL hs.hb rfl (aA mn (aB et hs.hb rfl ?_)));have aqg:=DL.flat (iE);refine aJ ei (aqg.ext hs.aF) (dA ?_);exact ⟨vb (by grind),hs⟩
 ·rintro _ w2 ⟨rfl,hs⟩ fB;refine aX (λ kF=>?_) (λ kF=>?_)
  ·have ajD:¬ (1≤u.stays∧u.stays≤u.lines.length):=of_decide_eq_true kF;exact ⟨congrArg (Value.int .i64) (by unfold gp; rw [if_neg ajD]),hs.drop.aF⟩
  ·have ajD:1≤u.stays∧u.stays≤u.lines.length:=by simpa using kF
   have hzl:=hz.lines;refine aA mn (aB et hs.hb rfl ?_);have aqh:=DL.flat (iE);refine aA o9 (aB (v:=.int .i64 ((u).stays)) bL hs.hb rfl (gy (by omega) ?_));obtain ⟨iX,fG⟩:=gx ((u).lines) (i:=(((u).stays - 1)).toNat) (by omega);refine aQ ei aqh (by omega) fG (λ _ jI=>aD bL (jI.ext hs.aF) ?_);have hbe:=hb _ (List.mem_of_getElem? fG);refine aO (by omega) ?_;exact ⟨congrArg (Value.int .i64) (by unfold gp; rw [if_pos ajD,List.getD_eq_getElem?_getD,fG]; rfl),hs.drop.aF⟩
theorem C111 (n:Int) (w:World):CR 111 [.int .i64 n] w (λ v w'=>v = .bool (lr n)∧Ext w w'):=by
 have hs:=St.start w;refine Y4 _ _ _ ?_;unfold S111;refine ⟨λ jv w'=>jv = .bool (lr n)∧St w bD [] w',?_,?_⟩
 ·refine aR (aC (λ pG=>?_) (λ pG=>?_))
  ·exact ⟨vb (by unfold lr; grind),hs⟩
  ·refine dA ?_;exact ⟨vb (by unfold lr; grind),hs⟩
 ·rintro _ w1 ⟨rfl,hs⟩ fB;exact ⟨rfl,hs.aF⟩
theorem C115 (lv:Value) (xs:List nk) (b1:Nat) (many:Int) (w:World) (hL:eF (λ _=>True) w lv xs) (hc:Cell w b1 1 (.int .i64 many)) (hn:xs.length≤1000):CR 115 [lv,.pointer (some ⟨b1,0,none⟩)] w (λ v w'=>v = .bool (!eL xs many)∧Ext w w'):=by
 have hs:=St.start w;refine Y8 _ _ _ _ ?_;unfold S115;refine aA o9 (cG bL (hc.ext hs.aF) (aZ Pb hs (C116 _ _ _ _ (hL.ext hs.aF) (by omega)) (λ w1 he hs=>bZ ?_)));exact ⟨rfl,hs.aF⟩
end Go.Proofs.YtnjcingfdhjfkaaGreat
