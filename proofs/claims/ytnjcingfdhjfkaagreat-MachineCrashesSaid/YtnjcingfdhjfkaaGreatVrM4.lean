/-
  What the proof needs, part 4.
-/
import Derived.Test.YtnjcingfdhjfkaaGreatVrM3
set_option linter.all false
namespace Go.Proofs.YtnjcingfdhjfkaaGreat
open Go.Fw
theorem Bo {l:List cY} (h:jD l=true):∀ y∈l,0≤y.at_:=by
 intro y hy
 unfold jD at h
 have hn:l.any oT=false:=by grind
 rw [List.any_eq_false] at hn
 have:=hn y hy
 unfold oT at this
 grind
structure awl (x:cG):Prop where
 kind:1≤x.kind∧x.kind≤14
 Tm:0≤x.at_∧x.at_≤4000
 e:(ep (j6 x.kind) 101=true∧jD x.e=true)∨(ep (j6 x.kind) 101=false∧x.e=[])
 f:(ep (j6 x.kind) 102=true∧jD x.f=true)∨(ep (j6 x.kind) 102=false∧x.f=[])
 gK:(ep (j6 x.kind) 114=true∧j1 x.gK=true)∨(ep (j6 x.kind) 114=false∧x.gK=⟨#[]⟩)
 name:(ep (j6 x.kind) 110=true∧j1 x.name=true)∨(ep (j6 x.kind) 110=false∧x.name=⟨#[]⟩)
 n:(ep (j6 x.kind) 107=true∧1≤x.n∧x.n≤8)∨(ep (j6 x.kind) 107=false∧x.n=0)
theorem Bp {x:cG} (h:rp x=true):awl x:=by
 unfold rp at h
 simp only [Bool.and_eq_true,Bool.not_eq_true',Bool.or_eq_false_iff,decide_eq_false_iff_not,bne_eq_false_iff_eq,Bool.and_eq_false_iff,Bool.not_eq_false',Decidable.not_not] at h
 obtain ⟨⟨⟨h1,h2⟩,h3⟩,h4⟩:=h
 constructor
 ·omega
 ·omega
 ·cases hh:ep (j6 x.kind) 101 <;> grind
 ·cases hh:ep (j6 x.kind) 102 <;> grind
 ·cases hh:ep (j6 x.kind) 114 <;> grind
 ·cases hh:ep (j6 x.kind) 110 <;> grind
 ·cases hh:ep (j6 x.kind) 107 <;> grind
theorem acw {x:cG} (h:rp x=true):0≤x.at_∧(∀ y∈x.e,0≤y.at_)∧(∀ y∈x.f,0≤y.at_):=by
 have h:=Bp h
 refine ⟨h.Tm.1,?_,?_⟩
 ·rcases h.e with h | h
  ·exact Bo h.2
  ·rw [h.2]; simp
 ·rcases h.f with h | h
  ·exact Bo h.2
  ·rw [h.2]; simp
theorem aiA:ep (j6 12) 107=true:=by decide
theorem nE {l:List cG} (h:uT l=true):l.length≤40∧(∀ x∈l,rp x=true)∧∃ t:Bk,l=t.flat∧t.str∧t.ok 0=true∧t.depth≤12:=by
 unfold uT at h
 simp only [Bool.and_eq_true,decide_eq_true_eq,Bool.not_eq_true'] at h
 obtain ⟨⟨h1,h2⟩,h3⟩:=h
 rw [List.any_eq_false] at h2
 refine ⟨h1,λ x hx=>by simpa using h2 x hx,?_⟩
 unfold gD at h3
 cases hb:oU l with
 | none=>rw [hb] at h3; simp only [] at h3; omega
 | some t=>
  rw [hb] at h3
  obtain ⟨g1,g2⟩:=nw hb
  refine ⟨t,g1,g2,?_⟩
  cases ho:t.ok 0 with
  | true=>simp only [ho,if_true] at h3; exact ⟨rfl,h3.2⟩
  | false=>simp [ho] at h3
structure PF (p:cU):Prop where
 lines:∀ l∈p.lines,l≠[]∧∀ c∈l,nh 4294967296 c=false
 jT:∀ c∈p.jT,nh 4294967296 c=false
 locks:∀ c∈p.locks,nh 0 c=false
 th:∀ t∈p.threads,wh true t=false
 rc:∀ t∈p.recover,wh false t=false
 cl:∀ c∈p.cC,0≤c.at_∧jD c.e=true
 one:p.recover.length≤1
theorem wk {p:cU} (h:mf p=true):PF p:=by
 unfold mf sV og at h
 simp only [Bool.and_eq_true,Bool.not_eq_true',List.any_eq_false,decide_eq_true_eq] at h
 obtain ⟨⟨h1,h2⟩,⟨⟨h3,h4⟩,h5⟩,h6⟩:=h
 refine ⟨λ l hl=>?_,λ c hc=>by simpa using h3.1 c hc,λ c hc=>by simpa using h3.2 c hc,λ t ht=>by simpa using h4 t ht,λ t ht=>by simpa using h5 t ht,λ c hc=>?_,h6⟩
 ·have:=h1 l hl
  unfold xk sV at this
  simp only [Bool.or_eq_true,decide_eq_true_eq,not_or,Bool.not_not,List.any_eq_true,not_exists,not_and,Bool.not_eq_true] at this
  exact ⟨λ h=>this.1 (by rw [h]; rfl),this.2⟩
 ·have:=h2 c hc
  unfold uc uU at this
  simp only [Bool.or_eq_true,Bool.not_eq_true',not_or,Bool.not_eq_false,decide_eq_true_eq,decide_eq_false_iff_not,Decidable.not_not] at this
  exact ⟨this.1.1,by simpa using this.2⟩
theorem yD {nb:Bool} {t:dQ} (h:wh nb t=false):0≤t.at_∧uT t.body=true∧(∀ s∈t.aK,j1 s=true)∧j1 t.name=nb:=by
 unfold wh uV uU at h
 simp only [Bool.or_eq_false_iff,Bool.not_eq_false',decide_eq_true_eq,List.any_eq_false,bne_eq_false_iff_eq] at h
 obtain ⟨⟨⟨⟨h1,_⟩,h2⟩,h3⟩,h4⟩:=h
 exact ⟨h2.1,h3,λ s hs=>by simpa using h4 s hs,h1.symm⟩
theorem rq {m:Int} {c:dG} (h:nh m c=false):0≤c.at_∧j1 c.name=true∧0≤c.n∧c.n≤m:=by
 unfold nh uU at h
 simp only [Bool.or_eq_false_iff,Bool.not_eq_false',decide_eq_true_eq,decide_eq_false_iff_not] at h
 exact ⟨by omega,h.1.1.1,by omega,by omega⟩
def iG (p:cU):List dQ:=p.threads++p.recover
theorem PF.ni {p:cU} (h:PF p) {t:dQ} (ht:t∈iG p):0≤t.at_∧uT t.body=true∧∀ s∈t.aK,j1 s=true:=by
 unfold iG at ht
 rcases List.mem_append.1 ht with ht | ht
 ·have:=yD (h.th t ht); exact ⟨this.1,this.2.1,this.2.2.1⟩
 ·have:=yD (h.rc t ht); exact ⟨this.1,this.2.1,this.2.2.1⟩
def pk (p:cU):List Int:=(gG p).map dG.n
def eg (p:cU):Int:=(p.lines.flatten.length:Int)
theorem Vf (p:cU):((gG p).length:Int) - p.jT.length=eg p:=by unfold gG eg; rw [List.length_append]; omega
def fc (p:cU):List ByteArray:=(gG p).map dG.name
def gY (p:cU):List ByteArray:=p.locks.map dG.name
def iq:List (List dG)→Int→Int→Int
 | [],i,a=>i+a
 | l::r,i,a=>if a<l.length then i else iq r (i+1) (a - l.length)
def lT (p:cU) (c:Int):Int:=if c<0∨(gG p).length≤c then -1 else iq p.lines 0 c
def vp (l:List cY) (ns:List ByteArray):Bool:=l.any λ x=>decide (x.op=2) && decide (dO ns x.name<0)
def sw (x:cG) (n:Int):Int:=if x.kind=12 then n * x.n else n
def oH:Bk→Int→Bool
 | .nil,_=>false
 | .cons x a b r,n=>decide (64<sw x n) || (oH a (sw x n) || oH b (sw x n)) || oH r n
def Bk.app:Bk→Bk→Bk
 | .nil,t=>t
 | .cons x a b r,t=>.cons x a b (r.app t)
theorem Bk.Ej (a b:Bk):(a.app b).flat=a.flat++b.flat:=by
 induction a with
 | nil=>rfl
 | cons x c d r _ _ ih=>simp only [Bk.app,Bk.flat,ih,List.cons_append,List.append_assoc]
theorem Bk.acx {a b:Bk} (ha:a.str) (hb:b.str):(a.app b).str:=by
 induction a with
 | nil=>exact hb
 | cons x c d r _ _ ih=>
  obtain ⟨h1,h2,h3,h4,h5,h6,h7⟩:=ha
  exact ⟨h1,h2,h3,h4,h5,h6,ih h7⟩
theorem R6 (a b:Bk) (n:Int):oH (a.app b) n=(oH a n || oH b n):=by
 induction a with
 | nil=>simp [Bk.app,oH]
 | cons x c d r _ _ ih=>simp only [Bk.app,oH,ih,Bool.or_assoc]
def vq (l:List cG):Bool:=match oU l with | some t=>oH t 1 | none=>false
theorem yE {t:Bk} (h:t.str):vq t.flat=oH t 1:=by unfold vq; rw [oV h]
def jE (p:cU):List dG:=gG p++p.locks++p.threads.map (λ t=>⟨t.name,0,t.at_⟩)
def CP (l:List dG) (j:Nat):Bool:=match l[j]? with | some c=>decide (dO (l.map dG.name) c.name<j) | none=>false
def ry (l:List dG):Bool:=(List.range l.length).any (CP l)
def Qj (p:cU) (rs:List ByteArray) (j:Nat):Bool:=match rs[j]? with | some s=>decide (dO rs s<j) || decide (0≤dO (fc p) s) || decide (0≤dO (gY p) s) | none=>false
def FT (p:cU) (rs:List ByteArray):Bool:=(List.range rs.length).any (Qj p rs)
theorem nc {f:Nat→Bool} {n:Nat} (h:∀ j,j<n→f j=false):(List.range n).any f=false:=by
 rw [List.any_eq_false]; intro j hj; rw [h j (List.mem_range.1 hj)]; simp
theorem rz {f:Nat→Bool} {n j:Nat} (hj:j<n) (h:f j=true):(List.range n).any f=true:=List.any_eq_true.2 ⟨j,List.mem_range.2 hj,h⟩
theorem zZ {f:Nat→Bool} {k:Nat} (h:∀ j,j<k→f j=false) (hk:f k=false):∀ j,j<k+1→f j=false:=λ j hj=>by
 rcases Nat.lt_or_ge j k with h1 | h1
 ·exact h j h1
 ·obtain rfl:j=k:=by omega
  exact hk
def om (p:cU) (rs:List ByteArray) (x:cG):Bool:=
 (decide (¬ x.gK=⟨#[]⟩) && decide (dO rs x.gK<0)) ||
 ((decide (x.kind=2) || decide (x.kind=3) || decide (x.kind=4)) && decide (dO (fc p) x.name<0)) ||
 ((decide (x.kind=5) || decide (x.kind=6)) && (decide (dO (fc p) x.name<0) || decide (eg p≤dO (fc p) x.name))) ||
 ((decide (x.kind=9) || decide (x.kind=10)) && decide (dO (gY p) x.name<0)) || vp x.e rs || vp x.f rs
def z6 (p:cU):Bool:=p.lines.any (λ l=>decide (4<(l.length:Int))) || (iG p).any (λ t=>decide (4<(t.aK.length:Int))) ||
 (decide (4<(p.lines.length:Int)) || decide (4<(p.jT.length:Int)) || decide (2<(p.locks.length:Int)) || decide ((p.threads.length:Int)<1) || decide (3<(p.threads.length:Int)) || decide (4<(p.cC.length:Int)))
def oW (p:cU):List ByteArray:=(fc p).take (eg p).toNat
def gL (p:cU):Int:=
 if mf p=false then 8 else if z6 p=true then 2 else if (iG p).any (λ t=>vq t.body)=true then 11 else if ry (jE p)=true then 10
 else if (iG p).any (λ t=>FT p t.aK)=true then 10 else if (iG p).any (λ t=>t.body.any (om p t.aK))=true then 9
 else if p.cC.any (λ c=>vp c.e (oW p))=true then 9 else 0
theorem Ny {x:cG} (h:rp x=true):0≤x.at_∧(x.kind=12→1≤x.n∧x.n≤8):=by
 have h:=Bp h
 refine ⟨h.Tm.1,λ hk=>?_⟩
 rcases h.n with h | h
 ·exact h.2
 ·rw [hk,aiA] at h; exact absurd h.1 (by decide)
section
variable {p:cU}
theorem ce8 (h1:mf p=false):gL p=8:=by unfold gL; rw [if_pos h1]
theorem ce2 (h1:mf p=true) (h2:z6 p=true):gL p=2:=by unfold gL; rw [if_neg (by rw [h1]; decide),if_pos h2]
theorem awm (h1:mf p=true) (h2:z6 p=false) (h3:(iG p).any (λ t=>vq t.body)=true):gL p=11:=by unfold gL; rw [if_neg (by rw [h1]; decide),if_neg (by rw [h2]; decide),if_pos h3]
theorem awn (h1:mf p=true) (h2:z6 p=false) (h3:(iG p).any (λ t=>vq t.body)=false) (h4:ry (jE p)=true):gL p=10:=by
 unfold gL; rw [if_neg (by rw [h1]; decide),if_neg (by rw [h2]; decide),if_neg (by rw [h3]; decide),if_pos h4]
theorem ao3 (h1:mf p=true) (h2:z6 p=false) (h3:(iG p).any (λ t=>vq t.body)=false) (h4:ry (jE p)=false) (h5:(iG p).any (λ t=>FT p t.aK)=true):gL p=10:=by
 unfold gL; rw [if_neg (by rw [h1]; decide),if_neg (by rw [h2]; decide),if_neg (by rw [h3]; decide),if_neg (by rw [h4]; decide),if_pos h5]
theorem ce9 (h1:mf p=true) (h2:z6 p=false) (h3:(iG p).any (λ t=>vq t.body)=false) (h4:ry (jE p)=false) (h5:(iG p).any (λ t=>FT p t.aK)=false)
  (h6:(iG p).any (λ t=>t.body.any (om p t.aK))=true):gL p=9:=by
 unfold gL; rw [if_neg (by rw [h1]; decide),if_neg (by rw [h2]; decide),if_neg (by rw [h3]; decide),if_neg (by rw [h4]; decide),if_neg (by rw [h5]; decide),if_pos h6]
theorem awo (h1:mf p=true) (h2:z6 p=false) (h3:(iG p).any (λ t=>vq t.body)=false) (h4:ry (jE p)=false) (h5:(iG p).any (λ t=>FT p t.aK)=false)
  (h6:(iG p).any (λ t=>t.body.any (om p t.aK))=false) (h7:p.cC.any (λ c=>vp c.e (oW p))=true):gL p=9:=by
 unfold gL; rw [if_neg (by rw [h1]; decide),if_neg (by rw [h2]; decide),if_neg (by rw [h3]; decide),if_neg (by rw [h4]; decide),if_neg (by rw [h5]; decide),if_neg (by rw [h6]; decide),if_pos h7]
theorem ce0 (h1:mf p=true) (h2:z6 p=false) (h3:(iG p).any (λ t=>vq t.body)=false) (h4:ry (jE p)=false) (h5:(iG p).any (λ t=>FT p t.aK)=false)
  (h6:(iG p).any (λ t=>t.body.any (om p t.aK))=false) (h7:p.cC.any (λ c=>vp c.e (oW p))=false):gL p=0:=by
 unfold gL; rw [if_neg (by rw [h1]; decide),if_neg (by rw [h2]; decide),if_neg (by rw [h3]; decide),if_neg (by rw [h4]; decide),if_neg (by rw [h5]; decide),if_neg (by rw [h6]; decide),if_neg (by rw [h7]; decide)]
theorem PF.decl (h:PF p):∀ c∈jE p,0≤c.at_:=by
 intro c hc
 unfold jE gG at hc
 rcases List.mem_append.1 hc with hc | hc
 ·rcases List.mem_append.1 hc with hc | hc
  ·rcases List.mem_append.1 hc with hc | hc
   ·obtain ⟨l,hl,hc⟩:=List.mem_flatten.1 hc
    exact (rq ((h.lines l hl).2 c hc)).1
   ·exact (rq (h.jT c hc)).1
  ·exact (rq (h.locks c hc)).1
 ·obtain ⟨t,ht,rfl⟩:=List.mem_map.1 hc
  exact (yD (h.th t ht)).1
theorem R7 (hz:PS p):(jE p).length≤252000:=by
 have:=m9 hz
 have:=hz.locks
 have:=hz.threads
 unfold jE; simp only [List.length_append,List.length_map]; omega
theorem mg (hz:PS p):(fc p).length≤250500:=by unfold fc; rw [List.length_map]; exact m9 hz
theorem Qk (hz:PS p):(iG p).length≤1000:=by
 have:=hz.threads
 have:=hz.recover
 unfold iG; rw [List.length_append]; omega
theorem PZ.ni (hz:PZ p) {t:dQ} (ht:t∈iG p):SzT t∧t.aK.length≤500∧t.body.length≤500:=by
 refine ⟨?_,hz.aK t ht,hz.body t ht⟩
 rcases List.mem_append.1 ht with h | h
 ·exact hz.zt t h
 ·exact hz.zr t h
end
theorem C93 (p:cU) (pv:bN) (w:World) (hp:bZ.dr w pv p) (hz:PZ p):CR 93 [Flat.val pv] w (λ v w'=>v = .bool (mf p)∧Ext w w'):=by
 obtain ⟨bH,bQ,bI,aT,aU,aY,rfl,cI,dA,cJ,bR,bO,cA⟩:=hp;have hs:=St.start w;refine ahU _ _ _ ?_;unfold S93;refine dE hs (λ kI w1 hs=>?_);refine ⟨λ m x w1=>∃ k:Nat,x = .int .i64 (k:Int)∧m=p.lines.length - k∧k≤p.lines.length∧(∀ y∈p.lines.take k,xk y=false)∧St w bD [cE kI (Flat.enc (⟨bH,bQ,bI,aT,aU,aY⟩:bN))] w1,⟨_,0,rfl,rfl,Nat.zero_le _,by simp,hs⟩,?_⟩;rintro m _ w2 ⟨k,rfl,rfl,hk,fS,hs⟩ fy;have hzl:=hz.lines;refine aA jt (aB rU hs.hb rfl ?_);obtain ⟨awp,aiB,ao4⟩:=(cI).open
 have ao5:=ao4.1;refine aJ vz (aiB.ext hs.aF) (aR (aC (λ gv=>?_) (λ gv=>?_)))
 ·obtain ⟨pH,jU⟩:∃ xx,awp[((k:Int)).toNat]? = some xx:=⟨_,List.getElem?_eq_getElem (by omega)⟩;obtain ⟨mG,oX⟩:∃ xx,((p).lines)[((k:Int)).toNat]? = some xx:=⟨_,List.getElem?_eq_getElem (by omega)⟩;have ao6:DL w (Flat.val pH) mG:=ao4.2 _ _ _ jU oX;refine ⟨λ jv w'=>jv = .bool (xk mG)∧St w bD [cE kI (Flat.enc (⟨bH,bQ,bI,aT,aU,aY⟩:bN))] w',?_,?_⟩
  ·refine aA jt (aB rU hs.hb rfl (aQ vz (aiB.ext hs.aF) (by omega) jU (λ _ rh=>aD jz (rh) ?_)));have ao7:=DL.flat (ao6);refine aJ j4 (ao7.ext hs.aF) (aH (aC (λ gh=>?_) (λ gh=>?_)))
   ·exact ⟨vb (by unfold xk; grind),hs⟩
   ·refine aA jt (aB rU hs.hb rfl (aQ vz (aiB.ext hs.aF) (by omega) jU (λ _ pJ=>aD jz (pJ) (aZ T5 hs (C155 _ _ _ _ (ao7.ext hs.aF) (by have:=hz.line _ (List.mem_of_getElem? oX); omega) (hz.zl _ (List.mem_of_getElem? oX))) (λ w3 he hs=>cB ?_)))));exact ⟨vb (by unfold xk; grind),hs⟩
  ·rintro _ w4 ⟨rfl,hs⟩ jB;refine aX (λ gj=>?_) (λ gj=>?_)
   ·refine ⟨vb ?_,hs.drop.aF⟩;unfold mf;rw [jC oX gj]; rfl
   ·refine aO (by omega) ?_;exact ⟨_,by omega,k+1,rfl,rfl,by omega,eE fS oX gj,hs⟩
 ·have ao8:=fS;refine ⟨λ m x w1=>∃ kb:Nat,x = .int .i64 (kb:Int)∧m=p.cC.length - kb∧kb≤p.cC.length∧(∀ y∈p.cC.take kb,uc y=false)∧St w bD [cE kI (Flat.enc (⟨bH,bQ,bI,aT,aU,aY⟩:bN))] w1,⟨_,0,rfl,rfl,Nat.zero_le _,by simp,hs⟩,?_⟩;rintro m _ w5 ⟨kb,rfl,rfl,hkb,Nz,hs⟩ oS;have hzc:=hz.cC;refine aA kN (aB sR hs.hb rfl ?_);obtain ⟨awq,aiC,ao9⟩:=(cA).open;have hn13:=ao9.1;refine aJ yx (aiC.ext hs.aF) (aR (aC (λ jK=>?_) (λ jK=>?_)))
  ·obtain ⟨La,Bq⟩:∃ xx,awq[((kb:Int)).toNat]? = some xx:=⟨_,List.getElem?_eq_getElem (by omega)⟩;obtain ⟨afs,Ek⟩:∃ xx,((p).cC)[((kb:Int)).toNat]? = some xx:=⟨_,List.getElem?_eq_getElem (by omega)⟩;obtain ⟨acy,rfl,acz⟩:=ao9.2 _ _ _ Bq Ek;refine ⟨λ jv w'=>jv = .bool (uc afs)∧St w bD [cE kI (Flat.enc (⟨bH,bQ,bI,aT,aU,aY⟩:bN))] w',?_,?_⟩
   ·refine aA kN (aB sR hs.hb rfl (aQ yx (aiC.ext hs.aF) (by omega) Bq (λ _ El=>bT (afs).at_ PK El rfl rfl (λ _ ud=>aD bL (ud) (aZ Pq hs (C156 _ _) (λ w6 he hs=>cB (aX (λ lU=>?_) (λ lU=>?_))))))))
    ·exact ⟨vb (by unfold uc; grind),hs⟩
    ·refine aA kN (aB sR hs.hb rfl (aQ yx (aiC.ext hs.aF) (by omega) Bq (λ _ D7=>bT acy CK D7 rfl rfl (λ _ U7=>aD mU (U7) ?_))));have awr:=DL.flat (acz);refine aZ JZ hs (C105 _ _ _ (awr.ext hs.aF) (hz.zc _ (List.mem_of_getElem? Ek)).1 (hz.zc _ (List.mem_of_getElem? Ek)).2) (λ w7 he hs=>cB ?_);exact ⟨vb (by unfold uc; grind),hs⟩
   ·rintro _ w8 ⟨rfl,hs⟩ GQ;refine aX (λ sy=>?_) (λ sy=>?_)
    ·refine ⟨vb ?_,hs.drop.aF⟩;unfold mf;rw [jC Ek sy]; simp
    ·refine aO (by omega) ?_;exact ⟨_,by omega,kb+1,rfl,rfl,by omega,eE Nz Ek sy,hs⟩
  ·refine ⟨λ jv w'=>jv = .bool (sV 4294967296 p.jT && sV 0 p.locks && og true p.threads && og false p.recover && decide (p.recover.length≤1))∧St w bD [cE kI (Flat.enc (⟨bH,bQ,bI,aT,aU,aY⟩:bN))] w',?_,?_⟩
   ·refine aA uJ (aB jz hs.hb rfl ?_);have aws:=DL.flat (dA);refine aZ T5 hs (C155 _ _ _ _ (aws.ext hs.aF) (by have:=hz.jT; omega) hz.zv) (λ w9 he hs=>aX (λ Em=>?_) (λ Em=>?_))
    ·refine aA rZ (aB jz hs.hb rfl ?_);have awt:=DL.flat (cJ);refine aZ T5 hs (C155 _ _ _ _ (awt.ext hs.aF) (by have:=hz.locks; omega) hz.zk) (λ pS he hs=>aX (λ apa=>?_) (λ apa=>?_))
     ·refine aA ng (aB jb hs.hb rfl (aZ aeL hs (C157 _ _ true _ (bR.ext hs.aF) (by have:=hz.threads; omega) (λ t ht=>hz.ni (List.mem_append_left _ ht))) (λ sU he hs=>aX (λ oI=>?_) (λ oI=>?_))))
      ·refine aA r7 (aB jb hs.hb rfl (aZ aeL hs (C157 _ _ false _ (bO.ext hs.aF) (by have:=hz.recover; omega) (λ t ht=>hz.ni (List.mem_append_right _ ht))) (λ vm he hs=>aX (λ apb=>?_) (λ apb=>?_))))
       ·refine aA r7 (aB jb hs.hb rfl ?_);obtain ⟨ts17,awu,awv⟩:=(bO).open;have hn17:=awv.1;refine aJ iJ (awu.ext hs.aF) (j7 ?_);exact ⟨vb (by grind),hs⟩
       ·exact ⟨vb (by grind),hs⟩
      ·exact ⟨vb (by grind),hs⟩
     ·exact ⟨vb (by grind),hs⟩
    ·exact ⟨vb (by grind),hs⟩
   ·rintro _ vn ⟨rfl,hs⟩ R4;refine ⟨vb ?_,hs.drop.aF⟩;unfold mf;rw [iF (by rw [List.take_of_length_le (by omega)] at ao8; exact ao8),iF (by rw [List.take_of_length_le (by omega)] at Nz; exact Nz)]; rfl
theorem C42 (p:cU) (pv:bN) (w:World) (hp:bZ.dr w pv p) (hz:PZ p):CR 42 [Flat.val pv] w (λ v w'=>lY (bK v (pk p)) w w'):=by
 obtain ⟨bH,bQ,bI,aT,aU,aY,rfl,cI,dA,cJ,bR,bO,cA⟩:=hp;have hs:=St.start w;refine ahf _ _ _ ?_;unfold S42;refine dE hs (λ kI w1 hs=>bW (([]:List Int)) hs dY rfl rfl (eI rfl) (λ acA w2 hs=>aD gJ hs.p1.At (cZ JX hs (C102 p _ _ ⟨bH,bQ,bI,aT,aU,aY,rfl,(cI).ext hs.aF,(dA).ext hs.aF,(cJ).ext hs.aF,(bR).ext hs.aF,(bO).ext hs.aF,(cA).ext hs.aF⟩ hz.toPS) (λ x8 w3 bY hs=>?_))));have hs:=hs.p2.p1.p2;refine ⟨λ m y x w1=>∃ k:Nat,x = .int .i64 (k:Int)∧m=(gG p).length - k∧k≤(gG p).length∧St w bD [bK y (((gG p).take k).map dG.n),bK x8 (gG p),cE kI (Flat.enc (⟨bH,bQ,bI,aT,aU,aY⟩:bN))] w1,⟨_,0,rfl,rfl,by omega,hs⟩,?_⟩
 rintro m fX _ w4 ⟨k,rfl,rfl,hk,hs⟩ fy;have hac:=m9 hz.toPS;have hml:(((gG p).take k).map dG.n).length=k:=by rw [List.length_map,List.length_take]; omega
 refine aJ j4 (hs.p1).fB (aR (aC (λ jZ=>?_) (λ jZ=>?_)))
 ·obtain ⟨ri,jn⟩:=gx ((gG p)) (i:=((k:Int)).toNat) (by omega);refine dR hs.p1 j4 (by omega) (by omega) (λ _ wc=>m8 zE wc (λ _ jL=>nY (ri).n hs.p1 bL jL jn rfl (bW (([(ri).n]:List Int)) hs dY rfl rfl (eI rfl) (λ s_x21 w5 hs=>?_))));have aiD:=(hs).fB;refine cN hs.p1 dY aiD (by simp <;> omega) (by decide) (λ apc w6 hs=>have hs:=hs.p1.drop;aO (by omega) ?_);have hs:=hs.p2.p2.p2;exact ⟨_,by omega,k+1,rfl,rfl,by omega,by rw [← iP (k:=k) jn]; exact hs⟩
 ·have hs:=hs.p1.drop.p1.drop;rw [List.take_of_length_le (by omega)] at hs;exact hs.fresh
theorem C46 (p:cU) (pv:bN) (w:World) (hp:bZ.dr w pv p) (hz:PZ p):CR 46 [Flat.val pv] w (λ v w'=>lY (bK v (fc p)) w w'):=by
 obtain ⟨bH,bQ,bI,aT,aU,aY,rfl,cI,dA,cJ,bR,bO,cA⟩:=hp;have hs:=St.start w;refine ahk _ _ _ ?_;unfold S46;refine dE hs (λ kI w1 hs=>aD gJ hs.At (cZ JX hs (C102 p _ _ ⟨bH,bQ,bI,aT,aU,aY,rfl,(cI).ext hs.aF,(dA).ext hs.aF,(cJ).ext hs.aF,(bR).ext hs.aF,(bO).ext hs.aF,(cA).ext hs.aF⟩ hz.toPS) (λ x4 w2 bY hs=>cZ T0 hs (C107 _ _ _ (hs).fB (by have:=m9 hz.toPS; omega)) (λ x5 w3 bY hs=>?_))));have hs:=((hs.p1.drop).p1).drop;exact hs.fresh
theorem C99 (p:cU) (pv:bN) (w:World) (hp:bZ.dr w pv p) (hz:PZ p):CR 99 [Flat.val pv] w (λ v w'=>lY (bK v (gY p)) w w'):=by
 obtain ⟨bH,bQ,bI,aT,aU,aY,rfl,cI,dA,cJ,bR,bO,cA⟩:=hp;have hs:=St.start w;refine ah0 _ _ _ ?_;unfold S99;refine dE hs (λ kI w1 hs=>aA rZ (aB jz hs.hb rfl ?_));have aww:=DL.flat (cJ);refine cZ T0 hs (C107 _ _ _ (aww.ext hs.aF) (by have:=hz.locks; omega)) (λ x5 w2 bY hs=>?_);have hs:=(hs.p1).drop;exact hs.fresh
theorem C41 (p:cU) (pv:bN) (w:World) (hp:bZ.dr w pv p) (hz:PZ p):CR 41 [Flat.val pv] w (λ v w'=>v = .int .i64 (eg p)∧Ext w w'):=by
 obtain ⟨bH,bQ,bI,aT,aU,aY,rfl,cI,dA,cJ,bR,bO,cA⟩:=hp;have hs:=St.start w;refine ahe _ _ _ ?_;unfold S41;refine dE hs (λ kI w1 hs=>have hs:=hs.drew;aD gJ hs.At (aA uJ (aB jz hs.hb rfl ?_)));have awx:=DL.flat (dA);refine aJ j4 (awx.ext hs.aF) (cZ JX hs (C102 p _ _ ⟨bH,bQ,bI,aT,aU,aY,rfl,(cI).ext hs.aF,(dA).ext hs.aF,(cJ).ext hs.aF,(bR).ext hs.aF,(bO).ext hs.aF,(cA).ext hs.aF⟩ hz.toPS) (λ x4 w2 bY hs=>?_));refine ⟨aG jz (hs.p1.hb.cell rfl),?_⟩
 refine aJ j4 (hs).fB ?_;have hac:=m9 hz.toPS;have hzv:=hz.jT;refine gA (by omega) ?_;have hs:=((hs.drop)).drop;exact ⟨congrArg (Value.int .i64) (Vf p),hs.aF⟩
theorem Vg {l:List dG} {r:List (List dG)} {i a:Int} (h:¬ a<l.length):iq (l::r) i a=iq r (i+1) (a - l.length):=by rw [iq,if_neg h]
theorem aiE {x:cG} {n m:Int} (hn:1≤n∧n≤64) (h:x.kind=12→1≤x.n∧x.n≤8) (hm:m=sw x n):1≤m∧m≤512:=by
 rw [hm]; unfold sw
 split
 ·rename_i hk
  have:=h hk
  have h1:=Int.mul_le_mul (a:=1) (b:=1) hn.1 this.1 (by omega) (by omega)
  have h2:=Int.mul_le_mul (c:=64) (d:=8) hn.2 this.2 (by omega) (by omega)
  omega
 ·omega
theorem Bk.CQ {t:Bk} (h:¬ (t.flat.length:Int)=0):∃ x a b r,t = .cons x a b r:=by
 cases t with
 | nil=>exact absurd rfl h
 | cons x a b r=>exact ⟨x,a,b,r,rfl⟩
theorem Bk.vy {x:cG} {a b r:Bk} (h:(Bk.cons x a b r).str) {hi lo:Int} (h1:hi=1+x.body+x.fF) (h2:lo=1):((Bk.cons x a b r).flat.take hi.toNat).drop lo.toNat=(a.app b).flat:=by
 obtain ⟨g1,g2,_⟩:=h
 have la:=a.cO
 have lb:=b.cO
 rw [Bk.Ej,Ea _ (a:=1) (n:=(a.flat++b.flat).length) (by rw [List.length_append]; omega) (by omega)]
 show (a.flat++(b.flat++r.flat)).take _=_
 rw [← List.append_assoc,List.take_left]
theorem Bk.acB {x:cG} {a b r:Bk} (h:(Bk.cons x a b r).str) {hi:Int} (h1:hi=1+x.body+x.fF):(Bk.cons x a b r).flat.drop hi.toNat=r.flat:=by
 obtain ⟨g1,g2,_⟩:=h
 have la:=a.cO
 have lb:=b.cO
 have e:(Bk.cons x a b r).flat=(x::(a.flat++b.flat))++r.flat:=by simp [Bk.flat]
 rw [e,show hi.toNat=(x::(a.flat++b.flat)).length from by simp; omega,List.drop_left]
theorem GU {l:List dG} {k:Nat} {c:dG} (h:l[k]? = some c):CP l k=decide (dO (l.map dG.name) c.name<k):=by unfold CP; rw [h]
theorem Ql {p:cU} {l:List ByteArray} {k:Nat} {c:ByteArray} (h:l[k]? = some c):Qj p l k=(decide (dO l c<k) || decide (0≤dO (fc p) c) || decide (0≤dO (gY p) c)):=by unfold Qj; rw [h]
theorem Qm (a b:Bk):(a.app b).len=a.len+b.len:=by rw [← Bk.cO,Bk.Ej,List.length_append,Bk.cO,Bk.cO]
theorem C43 (p:cU) (pv:bN) (c:Int) (w:World) (hp:bZ.dr w pv p) (hz:PZ p):CR 43 [Flat.val pv,.int .i64 c] w (λ v w'=>v = .int .i64 (lT p c)∧Ext w w'):=by
 obtain ⟨bH,bQ,bI,aT,aU,aY,rfl,cI,dA,cJ,bR,bO,cA⟩:=hp;have hs:=St.start w;refine ahh _ _ _ _ ?_;unfold S43;refine dE hs (λ aiF w1 hs=>?_);refine ⟨λ jv w'=>jv = .bool (decide (c<0) || decide (((gG p).length:Int)≤c))∧St w bD [cE aiF (Flat.enc (⟨bH,bQ,bI,aT,aU,aY⟩:bN))] w',?_,?_⟩
 ·refine aR (aC (λ gp=>?_) (λ gp=>?_))
  ·exact ⟨vb (by grind),hs⟩
  ·refine aD gJ hs.At (cZ JX hs (C102 p _ _ ⟨bH,bQ,bI,aT,aU,aY,rfl,(cI).ext hs.aF,(dA).ext hs.aF,(cJ).ext hs.aF,(bR).ext hs.aF,(bO).ext hs.aF,(cA).ext hs.aF⟩ hz.toPS) (λ x12 w2 bY hs=>aJ j4 (hs).fB (dF ?_)));have hs:=(hs).drop;exact ⟨vb (by grind),hs⟩
 ·rintro _ w3 ⟨rfl,hs⟩ fy;have hac:=m9 hz.toPS;refine aX (λ jm=>?_) (λ jm=>?_)
  ·refine ⟨congrArg (Value.int .i64) ?_,hs.drop.aF⟩;unfold lT;rw [if_pos (by grind)]
  ·have YT:0≤c∧c<(gG p).length:=by grind
   refine ⟨λ m y x w1=>∃ (k:Nat) (a:Int),y = .int .i64 a∧x = .int .i64 (k:Int)∧m=p.lines.length - k∧k≤p.lines.length∧0≤a∧a≤c∧iq p.lines 0 c=iq (p.lines.drop k) k a∧St w bD [cE aiF (Flat.enc (⟨bH,bQ,bI,aT,aU,aY⟩:bN))] w1,⟨_,0,c,rfl,rfl,rfl,by omega,by omega,by omega,rfl,hs⟩,?_⟩;rintro m _ _ w4 ⟨k,a,rfl,rfl,rfl,hk,ha0,hac1,Qn,hs⟩ jB;have hzl:=hz.lines;refine aA jt (aB rU hs.hb rfl ?_);obtain ⟨awz,acC,apd⟩:=(cI).open;have awA:=apd.1;refine aJ vz (acC.ext hs.aF) (aR (aC (λ gu=>?_) (λ gu=>?_)))
   ·refine aA jt (aB rU hs.hb rfl ?_);obtain ⟨yd,yF⟩:=gx awz (i:=((k:Int)).toNat) (by omega);obtain ⟨ape,En⟩:=gx ((p).lines) (i:=((k:Int)).toNat) (by omega);have apf:DL w (Flat.val yd) ape:=apd.2 _ _ _ yF En;refine aQ vz (acC.ext hs.aF) (by omega) yF (λ _ wj=>aD jz (wj) ?_);have apg:=DL.flat (apf);refine aJ j4 (apg.ext hs.aF) (aR (aC (λ lR=>?_) (λ lR=>?_)))
    ·refine ⟨congrArg (Value.int .i64) ?_,hs.drop.aF⟩;rw [drop_cons (k:=k) En] at Qn;unfold lT;rw [if_neg (by omega),Qn];unfold iq;rw [if_pos (by omega)]
    ·refine aA jt (aB rU hs.hb rfl (aQ vz (acC.ext hs.aF) (by omega) yF (λ _ zY=>aD jz (zY) (aJ j4 (apg.ext hs.aF) (gA (by omega) (aO (by omega) ?_))))));rw [drop_cons (k:=k) En,Vg (by omega)] at Qn;exact ⟨_,by omega,k+1,_,rfl,rfl,rfl,by omega,by omega,by omega,Qn,hs⟩
   ·refine aA jt (aB rU hs.hb rfl (aJ vz (acC.ext hs.aF) (aO (by omega) ?_)));refine ⟨congrArg (Value.int .i64) ?_,hs.drop.aF⟩;rw [List.drop_eq_nil_of_le (by omega)] at Qn;unfold lT;rw [if_neg (by omega),Qn];unfold iq;omega
theorem C101 (lv nv:Value) (xs:List cY) (ns:List ByteArray) (w:World) (hL:eJ (λ _=>True) w lv xs) (hN:eJ (λ _=>True) w nv ns) (hn:xs.length≤1048576) (hns:ns.length≤1048576) (sW:∀ y∈xs,0≤y.at_):CR 101 [lv,nv] w (λ v w'=>∃ a:Int,v = .int .i64 a∧decide (0≤a)=vp xs ns∧Ext w w'):=by
 have hs:=St.start w;refine Y4 _ _ _ _ ?_;unfold S101;refine ⟨λ m x w1=>∃ k:Nat,x = .int .i64 (k:Int)∧m=xs.length - k∧k≤xs.length∧(∀ y∈xs.take k,(decide (y.op=2) && decide (dO ns y.name<0))=false)∧St w bD [] w1,⟨_,0,rfl,rfl,Nat.zero_le _,by simp,hs⟩,?_⟩;rintro m _ w1 ⟨k,rfl,rfl,hk,fS,hs⟩ fy;refine aJ lX (hL.ext hs.aF) (aR (aC (λ gv=>?_) (λ gv=>?_)))
 ·obtain ⟨jl,dD⟩:∃ xx,(xs)[((k:Int)).toNat]? = some xx:=⟨_,List.getElem?_eq_getElem (by omega)⟩;refine ⟨λ jv w'=>jv = .bool (decide (jl.op=2) && decide (dO ns jl.name<0))∧St w bD [] w',?_,?_⟩
  ·refine aQ lX (hL.ext hs.aF) (by omega) dD (λ _ iN=>bT (jl).op ji iN rfl rfl (λ _ rh=>aD bL (rh) (aH (aC (λ me=>?_) (λ me=>?_)))))
   ·refine aQ lX (hL.ext hs.aF) (by omega) dD (λ _ KV=>bT (jl).name ld KV rfl rfl (λ _ pJ=>aD j8 (pJ) (aZ A7 hs (C98 _ ns _ _ (hN.ext hs.aF) (by omega)) (λ w2 he hs=>aR ?_))));exact ⟨vb (by grind),hs⟩
   ·exact ⟨vb (by grind),hs⟩
  ·rintro _ w3 ⟨rfl,hs⟩ jB;refine aX (λ gj=>?_) (λ gj=>?_)
   ·refine aQ lX (hL.ext hs.aF) (by omega) dD (λ _ oe=>bT (jl).at_ DB oe rfl rfl (λ _ oG=>aD bL (oG) ?_));exact ⟨_,rfl,by unfold vp; rw [jC dD gj]; exact decide_eq_true (sW _ (List.mem_of_getElem? dD)),hs.aF⟩
   ·refine aO (by omega) ?_;exact ⟨_,by omega,k+1,rfl,rfl,by omega,eE fS dD gj,hs⟩
 ·rw [List.take_of_length_le (by omega)] at fS;exact ⟨_,rfl,by unfold vp; rw [iF fS]; rfl,hs.aF⟩
theorem C96 (lv:Value) (t:Bk) (n:Int) (N:Nat) (w:World) (hL:DL w lv t.flat) (gn:t.str) (hq:∀ x∈t.flat,0≤x.at_∧(x.kind=12→1≤x.n∧x.n≤8)) (hn:1≤n∧n≤64) (hl:t.len≤1048576) (hN:t.len<N):CR 96 [lv,.int .i64 n] w (λ v w'=>∃ a:Int,v = .int .i64 a∧decide (0≤a)=oH t n∧Ext w w'):=by
 have Bd:=t.cO;have hs:=St.start w;refine ahX _ _ _ _ ?_;unfold S96;obtain ⟨awB,R8,acD⟩:=(hL).open;have hn22:=acD.1;refine aJ j5 (R8.ext hs.aF) (aH (aC (λ gP=>?_) (λ gP=>?_)))
 ·cases t with
  | nil=>exact ⟨_,rfl,rfl,hs.aF⟩
  | cons x a b r=>exact absurd Bd (by rw [show (Bk.cons x a b r).len=a.len+b.len+r.len+1 from rfl]; omega)
 ·obtain ⟨x,a,b,r,rfl⟩:=Bk.CQ (t:=t) (by omega);obtain ⟨UO,Bj⟩:=gx awB (i:=((0:Int)).toNat) (by omega);obtain ⟨mh,Vh⟩:=gx ((Bk.cons x a b r).flat) (i:=((0:Int)).toNat) (by omega);obtain ⟨Qo,Qp,rfl,as6,as7⟩:=acD.2 _ _ _ Bj Vh;refine aQ j5 (R8.ext hs.aF) (by omega) Bj (λ _ KJ=>?_);obtain rfl:mh=x:=(Option.some.inj Vh).symm;have hqx:=hq mh (by simp [Bk.flat]);have Lb:=gn;obtain ⟨Fx,hg2,hg3,hg4,Vi,hgb,hgr⟩:=Lb;have Tn:a.len+b.len+r.len+1≤1048576:=hl;have hNn:a.len+b.len+r.len+1<N:=hN;have MG:=a.cO;have Qi:=b.cO;have hlr:=r.cO
  have Qn:(Bk.cons mh a b r).flat.length=a.len+b.len+r.len+1:=Bk.cO _;refine aD fY (KJ) (aN hs qA (λ uf w1 hs=>aI (x:=(⟨(mh).kind,(mh).gK,(mh).name,Qo,Qp,(mh).n,(mh).body,(mh).fF,(mh).at_⟩:bX)) hs fY rfl rfl (λ w2 hs=>?_)));refine ⟨λ jv w'=>∃ m:Int,jv = .int .i64 m∧m=sw mh n∧St w bD [cE uf (Flat.enc (⟨(mh).kind,(mh).gK,(mh).name,Qo,Qp,(mh).n,(mh).body,(mh).fF,(mh).at_⟩:bX))] w',?_,?_⟩
  ·refine aA fx (aB (v:=.int .i64 ((mh).kind)) bL hs.hb rfl (aH (aC (λ gh=>?_) (λ gh=>?_))))
   ·refine aA tQ (aB (v:=.int .i64 ((mh).n)) bL hs.hb rfl (PE (by have xK:=hqx.2 gh; have h1:=Int.mul_le_mul (a:=1) (b:=1) hn.1 xK.1 (by omega) (by omega); have h2:=Int.mul_le_mul (c:=64) (d:=8) hn.2 xK.2 (by omega) (by omega); omega) ?_));exact ⟨_,rfl,by grind [sw],hs⟩
   ·exact ⟨_,rfl,by grind [sw],hs⟩
  ·rintro _ w3 ⟨m,rfl,hm,hs⟩ fy;have hm8:=aiE hn hqx.2 hm;refine dB (aC (λ iB=>?_) (λ iB=>?_))
   ·refine aA qX (aB (v:=.int .i64 ((mh).at_)) bL hs.hb rfl ?_);exact ⟨_,rfl,by unfold oH; rw [← hm,decide_eq_true (show (64:Int)<m by omega)]; exact decide_eq_true hqx.1,hs.drop.aF⟩
   ·refine aA mZ (aB (v:=.int .i64 ((mh).body)) bL hs.hb rfl (aO (by omega) (aA iK (aB (v:=.int .i64 ((mh).fF)) bL hs.hb rfl (aO (by omega) (kq j5 (R8.ext hs.aF) (by omega) (by omega) (by omega) (λ aph aiJ=>?_)))))));have aiK:=DL.cut aiJ R8 acD;refine eD ah3 (C96 _ (a.app b) m (N - 1) _ (by have h:=aiK.ext hs.aF; rw [Bk.vy gn (by omega) (by omega)] at h; exact h) (Bk.acx Vi hgb) (λ y hy=>hq y (by rw [Bk.Ej] at hy; simp only [Bk.flat,List.mem_cons,List.mem_append]; rcases List.mem_append.1 hy with h | h <;> simp [h])) (by omega) (by rw [Qm]; omega) (by rw [Qm]; omega)) ?_
    rintro _ w4 ⟨a1,rfl,ha1,he⟩;have hs:=hs.ext he;rw [R6] at ha1;refine dF (aC (λ sq=>?_) (λ sq=>?_))
    ·exact ⟨_,rfl,by unfold oH; rw [← hm]; rw [decide_eq_true sq] at ha1; rw [← ha1,decide_eq_true sq]; simp,hs.drop.aF⟩
    ·refine re j5 (R8.ext hs.aF) (by omega) (by omega) (λ api aiL=>?_);have aiM:=DL.PX aiL R8 acD;refine eD ah3 (C96 _ r n (N - 1) _ (by have h:=aiM.ext hs.aF; rw [Bk.acB gn (by omega)] at h; exact h) hgr (λ y hy=>hq y (by simp [Bk.flat,hy])) hn (by omega) (by omega)) ?_;rintro _ w5 ⟨a2,rfl,Yt,he⟩;have hs:=hs.ext he;exact ⟨_,rfl,by unfold oH; rw [← hm]; rw [← ha1,Yt,decide_eq_false (show ¬ (64:Int)<m by omega),decide_eq_false sq]; rfl,hs.drop.aF⟩
termination_by N
decreasing_by all_goals omega
theorem C95 (p:cU) (pv:bN) (ts3 ts4:List ei) (w:World) (hp:bZ.dr w pv p) (h3:eJ (λ _=>True) w (Flat.val pv.threads) ts3) (h4:eJ (λ _=>True) w (Flat.val pv.recover) ts4) (hz3:ts3.length≤500) (hz4:ts4.length≤500):CR 95 [Flat.val pv] w (λ v w'=>lY (bK v (ts3++ts4)) w w'):=by
 obtain ⟨bH,bQ,bI,aT,aU,aY,rfl,cI,dA,cJ,bR,bO,cA⟩:=hp;have hs:=St.start w;refine ahW _ _ _ ?_;unfold S95;refine dE hs (λ kI w1 hs=>bW (([]:List ei)) hs iJ rfl rfl (eI rfl) (λ awH w2 hs=>aA ng (aB jb hs.p1.hb rfl ?_)));have z7:=(h3.ext hs.aF);refine cN hs iJ z7 (by simp <;> omega) (by decide) (λ Lc w3 hs=>aA r7 (aB jb hs.p1.hb rfl ?_));have uR:=(h4.ext hs.aF);refine cN hs iJ uR (by simp; omega) (by decide) (λ afj w4 hs=>?_);have hs:=(hs.p1).drop;exact hs.fresh
theorem C97 (p:cU) (pv:bN) (w:World) (hp:bZ.dr w pv p) (hz:PZ p) (sW:∀ c∈jE p,0≤c.at_):CR 97 [Flat.val pv] w (λ v w'=>∃ a:Int,v = .int .i64 a∧decide (0≤a)=ry (jE p)∧Ext w w'):=by
 obtain ⟨bH,bQ,bI,aT,aU,aY,rfl,cI,dA,cJ,bR,bO,cA⟩:=hp;have hs:=St.start w;refine ahY _ _ _ ?_;unfold S97;refine dE hs (λ kI w1 hs=>bW (([]:List dG)) hs j4 rfl rfl (eI rfl) (λ Lc w2 hs=>aD gJ hs.p1.At (cZ JX hs (C102 p _ _ ⟨bH,bQ,bI,aT,aU,aY,rfl,(cI).ext hs.aF,(dA).ext hs.aF,(cJ).ext hs.aF,(bR).ext hs.aF,(bO).ext hs.aF,(cA).ext hs.aF⟩ hz.toPS) (λ x9 w3 bY hs=>?_))));have aiN:=(hs).fB;refine cN hs.p1 j4 aiN (by simp; have:=m9 hz.toPS; omega) (by decide) (λ aoJ w4 hs=>have hs:=hs.p1.drop;aA rZ (aB jz hs.p1.hb rfl ?_))
 have awI:=DL.flat (cJ);have jV:=(awI.ext hs.aF);refine cN hs j4 jV (by simp; have:=m9 hz.toPS; have:=hz.locks; omega) (by decide) (λ s_x14 w5 hs=>?_);have hs:=hs.p1.p1;refine ⟨λ m y x w1=>∃ k:Nat,x = .int .i64 (k:Int)∧m=p.threads.length - k∧k≤p.threads.length∧St w bD [bK y (gG p++p.locks++(p.threads.take k).map (λ t=>(⟨t.name,0,t.at_⟩:dG))),cE kI (Flat.enc (⟨bH,bQ,bI,aT,aU,aY⟩:bN))] w1,⟨_,0,rfl,rfl,by omega,by simpa using hs⟩,?_⟩;rintro m l3 _ w6 ⟨k,rfl,rfl,hk,hs⟩ fy;have KW:=hz.threads;refine aA ng (aB jb hs.p1.hb rfl ?_)
 obtain ⟨awJ,aiO,apj⟩:=(bR).open;have hn24:=apj.1;refine aJ iJ (aiO.ext hs.aF) (aR (aC (λ fw=>?_) (λ fw=>?_)))
 ·refine aA ng (have hs:=hs.drew;aB jb hs.p1.hb rfl ?_);obtain ⟨apk,Br⟩:=gx awJ (i:=((k:Int)).toNat) (by omega);obtain ⟨z8,Bs⟩:=gx ((p).threads) (i:=((k:Int)).toNat) (by omega);obtain ⟨aiP,aiQ,rfl,aiR,aiS⟩:=apj.2 _ _ _ Br Bs;refine aQ iJ (aiO.ext hs.aF) (by omega) Br (λ _ rk=>bT (z8).name zB rk rfl rfl (λ _ we=>aD j8 (we) (aA ng (aB jb hs.p1.hb rfl (aQ iJ (aiO.ext hs.aF) (by omega) Br (λ _ z9=>bT (z8).at_ zC z9 rfl rfl (λ _ Aa=>aD bL (Aa) (pop (DG _ _) (bW ([(⟨(z8).name,0,(z8).at_⟩:dG)]) hs j4 rfl rfl (eI rfl) (λ afv w7 hs=>?_))))))))))
  have aiT:=(hs).fB;refine cN hs.p1 j4 aiT (by have:=m9 hz.toPS; have:=hz.locks; have:=hz.threads; simp; omega) (by decide) (λ apl w8 hs=>have hs:=hs.p1.drop;aO (by omega) ?_);have hs:=hs.p1.p1;exact ⟨_,by omega,k+1,rfl,rfl,by omega,by rw [← iP (k:=k) Bs,← List.append_assoc]; exact hs⟩
 ·rw [List.take_of_length_le (by omega)] at hs;have hdl:=R7 hz.toPS;have hs:St w bD [bK l3 (jE p),cE kI (Flat.enc (⟨bH,bQ,bI,aT,aU,aY⟩:bN))] _:=hs;refine cZ T0 hs (C107 _ _ _ (hs).fB (by omega)) (λ x39 w9 bY hs=>?_);have hs:=hs.p2.p2.p2;refine ⟨λ m x w1=>∃ k:Nat,x = .int .i64 (k:Int)∧m=(jE p).length - k∧k≤(jE p).length∧(∀ j,j<k→CP (jE p) j=false)∧St w bD [bK x39 ((jE p).map dG.name),bK l3 (jE p),cE kI (Flat.enc (⟨bH,bQ,bI,aT,aU,aY⟩:bN))] w1,⟨_,0,rfl,rfl,by omega,by simp,hs⟩,?_⟩
  rintro m _ pS ⟨k,rfl,rfl,hk,fS,hs⟩ jB;refine aJ j4 (hs.p1).fB (aR (aC (λ ub=>?_) (λ ub=>?_)))
  ·obtain ⟨Eo,uY⟩:=gx ((jE p)) (i:=((k:Int)).toNat) (by omega);refine dR hs.p1 j4 (by omega) (by omega) (λ _ Ep=>m8 pB Ep (λ _ Vj=>nY (Eo).name hs.p1 j8 Vj uY rfl (aZ A7 hs (C98 _ (((jE p)).map dG.name) _ _ (hs).fB (by rw [List.length_map]; omega)) (λ sU he hs=>aR (aC (λ wm=>?_) (λ wm=>?_))))))
   ·refine dR hs.p1 j4 (by omega) (by omega) (λ _ wo=>m8 DA wo (λ _ Ab=>nY (Eo).at_ hs.p1 bL Ab uY rfl ?_));have hs:=((((hs.drop)).drop)).drop;exact ⟨_,rfl,by unfold ry; rw [rz (j:=k) (by omega) (by rw [GU (k:=k) uY]; exact decide_eq_true wm)]; exact decide_eq_true (sW _ (List.mem_of_getElem? uY)),hs.aF⟩
   ·refine aO (by omega) ?_;exact ⟨_,by omega,k+1,rfl,rfl,by omega,zZ fS (by rw [GU (k:=k) uY]; exact decide_eq_false wm),hs⟩
  ·have hs:=((((hs.drop)).drop)).drop;exact ⟨_,rfl,by unfold ry; rw [nc (λ j hj=>fS j (by omega))]; rfl,hs.aF⟩
theorem C100 (p:cU) (pv:bN) (t:dQ) (tv:ei) (x:cG) (xv:bX) (w:World) (hp:bZ.dr w pv p) (ht:bZ.dr w tv t) (hx:bZ.dr w xv x) (hz:PZ p) (KW:t.aK.length≤500) (hzx:SzS x) (sW:0≤x.at_∧(∀ y∈x.e,0≤y.at_)∧(∀ y∈x.f,0≤y.at_)):CR 100 [Flat.val pv,Flat.val tv,Flat.val xv] w (λ v w'=>∃ a:Int,v = .int .i64 a∧decide (0≤a)=om p t.aK x∧Ext w w'):=by
 obtain ⟨bH,bQ,bI,aT,aU,aY,rfl,cI,dA,cJ,bR,bO,cA⟩:=hp;obtain ⟨ug,Ac,rfl,Ad,Er⟩:=ht;obtain ⟨zT,zU,rfl,KS,GP⟩:=hx;have Qq:=mg hz.toPS;have KL:(gY p).length≤500:=by unfold gY; rw [List.length_map]; exact hz.locks
 have hs:=St.start w;refine Y3 _ _ _ _ _ ?_;unfold S100;refine dE hs (λ wq w1 hs=>dE hs (λ aiV w2 hs=>dE hs (λ uf w3 hs=>?_)));refine ⟨λ jv w'=>jv = .bool (decide (¬ x.gK=⟨#[]⟩) && decide (dO t.aK x.gK<0))∧St w bD [cE uf (Flat.enc (⟨(x).kind,(x).gK,(x).name,zT,zU,(x).n,(x).body,(x).fF,(x).at_⟩:bX)),cE aiV (Flat.enc (⟨(t).name,ug,Ac,(t).at_⟩:ei)),cE wq (Flat.enc (⟨bH,bQ,bI,aT,aU,aY⟩:bN))] w',?_,?_⟩
 ·refine aA l6 (aB (v:=.string ((x).gK)) j8 hs.hb rfl (oQ (aC (λ gP=>?_) (λ gP=>?_))))
  ·refine aA ju (aB px hs.p1.hb rfl ?_);have awK:=DL.flat (Ad);refine aA l6 (aB (v:=.string ((x).gK)) j8 hs.hb rfl (aZ A7 hs (C98 _ (t).aK _ _ (awK.ext hs.aF) (by omega)) (λ w4 he hs=>aR ?_)));exact ⟨vb (by grind),hs⟩
  ·exact ⟨vb (by grind),hs⟩
 ·rintro _ w5 ⟨rfl,hs⟩ fy;refine aX (λ fw=>?_) (λ fw=>?_)
  ·refine aA qX (aB (v:=.int .i64 ((x).at_)) bL hs.hb rfl ?_);have hs:=((((hs.drop)).drop)).drop;exact ⟨_,rfl,by rw [decide_eq_true sW.1]; unfold om; grind,hs.aF⟩
  ·have hs:=hs.drew;refine aD gJ hs.p2.At (aA jj (aB (v:=.string ((x).name)) j8 hs.hb rfl (cZ TS hs (C46 p _ _ ⟨bH,bQ,bI,aT,aU,aY,rfl,(cI).ext hs.aF,(dA).ext hs.aF,(cJ).ext hs.aF,(bR).ext hs.aF,(bO).ext hs.aF,(cA).ext hs.aF⟩ hz) (λ x23 w6 bY hs=>?_))));refine ⟨aG j8 (hs.p1.hb.cell rfl),?_⟩;refine aZ A7 hs (C98 _ (fc p) _ _ (hs).fB (by omega)) (λ w7 he hs=>?_);refine ⟨λ w'=>(((decide (x.kind=2) || decide (x.kind=3) || decide (x.kind=4)) && decide (dO (fc p) x.name<0)) || ((decide (x.kind=5) || decide (x.kind=6)) && (decide (dO (fc p) x.name<0) || decide (eg p≤dO (fc p) x.name))) || ((decide (x.kind=9) || decide (x.kind=10)) && decide (dO (gY p) x.name<0)))=false∧St w bD [cE uf (Flat.enc (⟨(x).kind,(x).gK,(x).name,zT,zU,(x).n,(x).body,(x).fF,(x).at_⟩:bX)),cE aiV (Flat.enc (⟨(t).name,ug,Ac,(t).at_⟩:ei)),cE wq (Flat.enc (⟨bH,bQ,bI,aT,aU,aY⟩:bN))] w',?_,?_⟩
   ·refine aA fx (aB (v:=.int .i64 ((x).kind)) bL hs.p1.hb rfl ?_);refine ⟨λ jv w'=>jv = .bool (decide (x.kind=2∨x.kind=3∨x.kind=4))∧w7=w',?_,?_⟩
    ·refine aH (aC (λ nD=>?_) (λ nD=>?_))
     ·exact ⟨wW (by omega),rfl⟩
     ·refine aH (aC (λ lR=>?_) (λ lR=>?_))
      ·exact ⟨wW (by omega),rfl⟩
      ·refine aH ?_;exact ⟨wW (by omega),rfl⟩
    ·rintro _ w8 ⟨rfl,hw⟩ jB;subst hw;refine aC (λ Vk=>?_) (λ Vk=>?_)
     ·refine aR (aC (λ iC=>?_) (λ iC=>?_))
      ·refine aA qX (aB (v:=.int .i64 ((x).at_)) bL hs.p1.hb rfl ?_);have hs:=((((((hs.drop)).drop)).drop)).drop;exact ⟨_,rfl,by rw [decide_eq_true sW.1]; unfold om; grind,hs.aF⟩
      ·have hs:=(hs.drop.p2.p2).p2;exact ⟨by grind,hs⟩
     ·refine ⟨λ jv w'=>jv = .bool (decide (x.kind=5∨x.kind=6))∧w7=w',?_,?_⟩
      ·refine aH (aC (λ nd=>?_) (λ nd=>?_))
       ·exact ⟨wW (by omega),rfl⟩
       ·refine aH ?_;exact ⟨wW (by omega),rfl⟩
      ·rintro _ w9 ⟨rfl,hw⟩ oS;subst hw;refine aC (λ tZ=>?_) (λ tZ=>?_)
       ·refine ⟨λ jv w'=>jv = .bool (decide (dO (fc p) x.name<0) || decide (eg p≤dO (fc p) x.name))∧St w bD [bK x23 (fc p),cE uf (Flat.enc (⟨(x).kind,(x).gK,(x).name,zT,zU,(x).n,(x).body,(x).fF,(x).at_⟩:bX)),cE aiV (Flat.enc (⟨(t).name,ug,Ac,(t).at_⟩:ei)),cE wq (Flat.enc (⟨bH,bQ,bI,aT,aU,aY⟩:bN))] w',?_,?_⟩
        ·refine aR (aC (λ j0=>?_) (λ j0=>?_))
         ·exact ⟨vb (by grind),hs⟩
         ·refine aD gJ hs.p3.At (aZ YY hs (C41 p _ _ ⟨bH,bQ,bI,aT,aU,aY,rfl,(cI).ext hs.aF,(dA).ext hs.aF,(cJ).ext hs.aF,(bR).ext hs.aF,(bO).ext hs.aF,(cA).ext hs.aF⟩ hz) (λ pS he hs=>dF ?_));exact ⟨vb (by grind),hs⟩
        ·rintro _ sU ⟨rfl,hs⟩ GQ;refine aX (λ rA=>?_) (λ rA=>?_)
         ·refine aA qX (aB (v:=.int .i64 ((x).at_)) bL hs.p1.hb rfl ?_);have hs:=((((((hs.drop)).drop)).drop)).drop;exact ⟨_,rfl,by rw [decide_eq_true sW.1]; unfold om; grind,hs.aF⟩
         ·have hs:=(hs.drop.p2.p2).p2;exact ⟨by grind,hs⟩
       ·refine ⟨λ jv w'=>jv = .bool (decide (x.kind=9∨x.kind=10))∧w7=w',?_,?_⟩
        ·refine aH (aC (λ pG=>?_) (λ pG=>?_))
         ·exact ⟨wW (by omega),rfl⟩
         ·refine aH ?_;exact ⟨wW (by omega),rfl⟩
        ·rintro _ vm ⟨rfl,hw⟩ R4;subst hw;refine aC (λ pK=>?_) (λ pK=>?_)
         ·have hs:=hs.drew;refine aD gJ hs.p3.At (aA jj (aB (v:=.string ((x).name)) j8 hs.p1.hb rfl (cZ ah4 hs (C99 p _ _ ⟨bH,bQ,bI,aT,aU,aY,rfl,(cI).ext hs.aF,(dA).ext hs.aF,(cJ).ext hs.aF,(bR).ext hs.aF,(bO).ext hs.aF,(cA).ext hs.aF⟩ hz) (λ x54 vn bY hs=>?_))));refine ⟨aG j8 (hs.p2.hb.cell rfl),?_⟩;refine aZ A7 hs (C98 _ (gY p) _ _ (hs).fB (by omega)) (λ sm he hs=>aR (aC (λ ue=>?_) (λ ue=>?_)))
          ·refine aA qX (aB (v:=.int .i64 ((x).at_)) bL hs.p2.hb rfl ?_);have hs:=((((((((hs.drop)).drop)).drop)).drop)).drop;exact ⟨_,rfl,by rw [decide_eq_true sW.1]; unfold om; grind,hs.aF⟩
          ·have hs:=(((((hs.drop)).drop).p2).p2).p2;exact ⟨by grind,hs⟩
         ·have hs:=(hs.drop.p2.p2).p2;exact ⟨by grind,hs⟩
   ·rintro v7 ⟨hmid,hs⟩ dd6;refine aA l7 (aB mU hs.hb rfl ?_);have awL:=DL.flat (KS);refine aA ju (aB px hs.p1.hb rfl ?_);have apm:=DL.flat (Ad);refine eD TZ (C101 _ _ _ _ _ (awL.ext hs.aF) (apm.ext hs.aF) hzx.2.2.1 (by omega) sW.2.1) ?_;rintro _ yZ ⟨a_x65,rfl,awM,he⟩;have hs:=hs.ext he;refine dF (aC (λ oh=>?_) (λ oh=>?_))
    ·have hs:=((((hs.drop)).drop)).drop;exact ⟨_,rfl,by unfold om; grind,hs.aF⟩
    ·refine aA nV (aB mU hs.hb rfl ?_);have awN:=DL.flat (GP);refine aA ju (aB px hs.p1.hb rfl (eD TZ (C101 _ _ _ _ _ (awN.ext hs.aF) (apm.ext hs.aF) hzx.2.2.2.1 (by omega) sW.2.2) ?_));rintro _ Cp ⟨a_x73,rfl,awO,he⟩;have hs:=((((((hs.ext he)).drop)).drop)).drop;exact ⟨_,rfl,by unfold om; grind,hs.aF⟩
theorem C94 (p:cU) (pv:bN) (w:World) (hp:bZ.dr w pv p) (hz:PZ p):CR 94 [Flat.val pv] w (λ v w'=>v = .bool (z6 p)∧Ext w w'):=by
 obtain ⟨bH,bQ,bI,aT,aU,aY,rfl,cI,dA,cJ,bR,bO,cA⟩:=hp;have hs:=St.start w;refine ahV _ _ _ ?_;unfold S94;refine dE hs (λ kI w1 hs=>?_);refine ⟨λ m x w1=>∃ k:Nat,x = .int .i64 (k:Int)∧m=p.lines.length - k∧k≤p.lines.length∧(∀ y∈p.lines.take k,decide (4<(y.length:Int))=false)∧St w bD [cE kI (Flat.enc (⟨bH,bQ,bI,aT,aU,aY⟩:bN))] w1,⟨_,0,rfl,rfl,Nat.zero_le _,by simp,hs⟩,?_⟩;rintro m _ w2 ⟨k,rfl,rfl,hk,fS,hs⟩ fy;have hzl:=hz.lines;refine aA jt (aB rU hs.hb rfl ?_)
 obtain ⟨awP,aiW,apn⟩:=(cI).open;have hn29:=apn.1;refine aJ vz (aiW.ext hs.aF) (aR (aC (λ fO=>?_) (λ fO=>?_)))
 ·refine aA jt (aB rU hs.hb rfl ?_);obtain ⟨GS,kR⟩:=gx awP (i:=((k:Int)).toNat) (by omega);obtain ⟨mF,kS⟩:=gx ((p).lines) (i:=((k:Int)).toNat) (by omega);have Vl:DL w (Flat.val GS) mF:=apn.2 _ _ _ kR kS;refine aQ vz (aiW.ext hs.aF) (by omega) kR (λ _ tY=>aD jz (tY) ?_);have awQ:=DL.flat (Vl);refine aJ j4 (awQ.ext hs.aF) (dB (aC (λ fw=>?_) (λ fw=>?_)))
  ·have hs:=(hs).drop;refine ⟨vb ?_,hs.aF⟩;unfold z6;rw [jC kS (decide_eq_true (by omega))]; rfl
  ·refine aO (by omega) ?_;exact ⟨_,by omega,k+1,rfl,rfl,by omega,eE fS kS (decide_eq_false fw),hs⟩
 ·refine aD gJ hs.At ?_;obtain ⟨apo,aiX,apq⟩:=(bR).open;have hn31:=apq.1;obtain ⟨apr,awR,aps⟩:=(bO).open;have hn32:=aps.1;refine eD amU (C95 p _ apo apr _ ⟨bH,bQ,bI,aT,aU,aY,rfl,(cI).ext hs.aF,(dA).ext hs.aF,(cJ).ext hs.aF,(bR).ext hs.aF,(bO).ext hs.aF,(cA).ext hs.aF⟩ (aiX.ext hs.aF) (awR.ext hs.aF) (by have:=hz.threads; omega) (by have:=hz.recover; omega)) ?_;rintro Vm w3 bY;have hs:=hs.made bY;obtain ⟨xL,Ld⟩:∃ t,t=apo++apr:=⟨_,rfl⟩;rw [← Ld] at hs;have FU:jS xL (iG p) w:=by rw [Ld]; exact jS.append apq aps
  have apt:=FU.1;have awS:=Qk hz.toPS;have hs:=hs.p1.p1;refine ⟨λ m x w1=>∃ kb:Nat,x = .int .i64 (kb:Int)∧m=(iG p).length - kb∧kb≤(iG p).length∧(∀ y∈(iG p).take kb,decide (4<(y.aK.length:Int))=false)∧St w bD [bK Vm xL,cE kI (Flat.enc (⟨bH,bQ,bI,aT,aU,aY⟩:bN))] w1,⟨_,0,rfl,rfl,Nat.zero_le _,by simp,hs⟩,?_⟩;rintro m _ w4 ⟨kb,rfl,rfl,hkb,Nz,hs⟩ jB;refine aJ iJ (hs).fB (aR (aC (λ fQ=>?_) (λ fQ=>?_)))
  ·obtain ⟨D2,lE⟩:=gx xL (i:=((kb:Int)).toNat) (by omega);obtain ⟨apu,wu⟩:=gx ((iG p)) (i:=((kb:Int)).toNat) (by omega);obtain ⟨Es,Eu,rfl,Ev,Ew⟩:=FU.2 _ _ _ lE wu;refine aQ iJ (hs).fB (by omega) lE (λ _ oe=>bT Es ju oe rfl rfl (λ _ oG=>aD px (oG) ?_));have awT:=DL.flat (Ev);refine aJ mV (awT.ext hs.aF) (dB (aC (λ iC=>?_) (λ iC=>?_)))
   ·have hs:=((hs.drop)).drop;refine ⟨vb ?_,hs.aF⟩;unfold z6;rw [jC wu (decide_eq_true (by omega))]; simp
   ·refine aO (by omega) ?_;exact ⟨_,by omega,kb+1,rfl,rfl,by omega,eE Nz wu (decide_eq_false (by omega)),hs⟩
  ·refine ⟨λ jv w'=>jv = .bool (decide (4<(p.lines.length:Int)) || decide (4<(p.jT.length:Int)) || decide (2<(p.locks.length:Int)) || decide ((p.threads.length:Int)<1) || decide (3<(p.threads.length:Int)) || decide (4<(p.cC.length:Int)))∧St w bD [] w',?_,?_⟩
   ·refine aA jt (aB rU hs.p1.hb rfl (aJ vz (aiW.ext hs.aF) (dB (aC (λ nd=>?_) (λ nd=>?_)))))
    ·have hs:=((hs.drop)).drop;exact ⟨vb (by grind),hs⟩
    ·refine aA uJ (aB jz hs.p1.hb rfl ?_);have awU:=DL.flat (dA);refine aJ j4 (awU.ext hs.aF) (dB (aC (λ ub=>?_) (λ ub=>?_)))
     ·have hs:=((hs.drop)).drop;exact ⟨vb (by grind),hs⟩
     ·refine aA rZ (aB jz hs.p1.hb rfl ?_);have awV:=DL.flat (cJ);refine aJ j4 (awV.ext hs.aF) (dB (aC (λ vr=>?_) (λ vr=>?_)))
      ·have hs:=((hs.drop)).drop;exact ⟨vb (by grind),hs⟩
      ·refine aA ng (aB jb hs.p1.hb rfl (aJ iJ (aiX.ext hs.aF) (aR (aC (λ Em=>?_) (λ Em=>?_)))))
       ·have hs:=((hs.drop)).drop;exact ⟨vb (by grind),hs⟩
       ·refine aA ng (aB jb hs.p1.hb rfl (aJ iJ (aiX.ext hs.aF) (dB (aC (λ kx=>?_) (λ kx=>?_)))))
        ·have hs:=((hs.drop)).drop;exact ⟨vb (by grind),hs⟩
        ·refine aA kN (aB sR hs.p1.hb rfl ?_);obtain ⟨ts36,awW,awX⟩:=(cA).open;have hn36:=awX.1;refine aJ yx (awW.ext hs.aF) (dB ?_);have hs:=((hs.drop)).drop;exact ⟨vb (by grind),hs⟩
   ·rintro _ w5 ⟨rfl,hs⟩ oS;refine ⟨vb ?_,hs.aF⟩;unfold z6;rw [iF (by rw [List.take_of_length_le (by omega)] at fS; exact fS),iF (by rw [List.take_of_length_le (by omega)] at Nz; exact Nz)]; rfl
theorem C40 (p:cU) (pv:bN) (w:World) (hp:bZ.dr w pv p) (hz:PZ p):CR 40 [Flat.val pv] w (λ v w'=>∃ a:Int,v = .tuple #[.int .i64 (gL p),.int .i64 a]∧Ext w w'):=by
 obtain ⟨bH,bQ,bI,aT,aU,aY,rfl,cI,dA,cJ,bR,bO,cA⟩:=hp;have hs:=St.start w;refine ahd _ _ _ ?_;unfold S40;refine dE hs (λ kI w1 hs=>aD gJ hs.At (aZ auZ hs (C93 p _ _ ⟨bH,bQ,bI,aT,aU,aY,rfl,(cI).ext hs.aF,(dA).ext hs.aF,(cJ).ext hs.aF,(bR).ext hs.aF,(bO).ext hs.aF,(cA).ext hs.aF⟩ hz) (λ w2 he hs=>cB (aX (λ me=>?_) (λ me=>?_)))))
 ·have hs:=(hs).drop;exact ⟨_,congrArg (λ q=>Value.tuple #[.int .i64 q,_]) (ce8 (by simpa using me)).symm,hs.aF⟩
 ·have hrp:mf p=true:=by simpa using me
  have hPF:=wk hrp;refine aD gJ hs.At (aZ au0 hs (C94 p _ _ ⟨bH,bQ,bI,aT,aU,aY,rfl,(cI).ext hs.aF,(dA).ext hs.aF,(cJ).ext hs.aF,(bR).ext hs.aF,(bO).ext hs.aF,(cA).ext hs.aF⟩ hz) (λ w3 he hs=>aX (λ fw=>?_) (λ fw=>?_)))
  ·have hs:=(hs).drop;exact ⟨_,congrArg (λ q=>Value.tuple #[.int .i64 q,_]) (ce2 hrp fw).symm,hs.aF⟩
  ·refine aD gJ hs.At ?_;obtain ⟨apv,awY,apw⟩:=(bR).open;have hn37:=apw.1;obtain ⟨apx,awZ,apy⟩:=(bO).open;have hn38:=apy.1;refine eD amU (C95 p _ apv apx _ ⟨bH,bQ,bI,aT,aU,aY,rfl,(cI).ext hs.aF,(dA).ext hs.aF,(cJ).ext hs.aF,(bR).ext hs.aF,(bO).ext hs.aF,(cA).ext hs.aF⟩ (awY.ext hs.aF) (awZ.ext hs.aF) (by have:=hz.threads; omega) (by have:=hz.recover; omega)) ?_;rintro Vm w4 bY;have hs:=hs.made bY;obtain ⟨xL,Ld⟩:∃ t,t=apv++apx:=⟨_,rfl⟩;rw [← Ld] at hs;have FU:jS xL (iG p) w:=by rw [Ld]; exact jS.append apw apy
   have apt:=FU.1;have awS:=Qk hz.toPS;have hs:=hs.p1.p1;refine ⟨λ m x w1=>∃ k1:Nat,x = .int .i64 (k1:Int)∧m=(iG p).length - k1∧k1≤(iG p).length∧(∀ y∈(iG p).take k1,vq y.body=false)∧St w bD [bK Vm xL,cE kI (Flat.enc (⟨bH,bQ,bI,aT,aU,aY⟩:bN))] w1,⟨_,0,rfl,rfl,Nat.zero_le _,by simp,hs⟩,?_⟩;rintro m _ w5 ⟨k1,rfl,rfl,Th,aiY,hs⟩ fy;refine aJ iJ (hs).fB (aR (aC (λ fQ=>?_) (λ fQ=>?_)))
   ·obtain ⟨D2,lE⟩:=gx xL (i:=((k1:Int)).toNat) (by omega);obtain ⟨apu,wu⟩:=gx ((iG p)) (i:=((k1:Int)).toNat) (by omega);obtain ⟨Es,Eu,rfl,Ev,Ew⟩:=FU.2 _ _ _ lE wu;refine aQ iJ (hs).fB (by omega) lE (λ _ oe=>bT Eu qz oe rfl rfl (λ _ oG=>aD sS (oG) ?_));obtain ⟨hb40,M4,tr,htr,IE,oF,_⟩:=nE (hPF.ni (List.mem_of_getElem? wu)).2.1;have Bd:=congrArg List.length htr;rw [Bk.cO] at Bd;refine eD ah3 (C96 _ tr 1 (tr.len+1) _ (by rw [← htr]; exact (Ew.ext hs.aF)) IE (λ y hy=>Ny (M4 y (by rw [htr]; exact hy))) (by omega) (by omega) (by omega)) ?_
    rintro _ w6 ⟨wa,rfl,hwa,he⟩;have hs:=hs.ext he;refine dF (aC (λ jx=>?_) (λ jx=>?_))
    ·have hs:=((hs.drop)).drop;exact ⟨_,congrArg (λ q=>Value.tuple #[.int .i64 q,_]) (awm hrp fw (jC wu (by rw [htr,yE IE,← hwa]; exact decide_eq_true jx))).symm,hs.aF⟩
    ·refine aO (by omega) ?_;have hs:=hs.p1.p1;exact ⟨_,by omega,k1+1,rfl,rfl,by omega,eE aiY wu (by rw [htr,yE IE,← hwa]; exact decide_eq_false jx),hs⟩
   ·rw [List.take_of_length_le (by omega)] at aiY;have vC:(iG p).any (λ t=>vq t.body)=false:=iF aiY;refine aD gJ hs.p1.At (eD au1 (C97 p _ _ ⟨bH,bQ,bI,aT,aU,aY,rfl,(cI).ext hs.aF,(dA).ext hs.aF,(cJ).ext hs.aF,(bR).ext hs.aF,(bO).ext hs.aF,(cA).ext hs.aF⟩ hz hPF.decl) ?_);rintro _ w7 ⟨a_x38,rfl,Vn,he⟩;have hs:=hs.ext he;refine dF (aC (λ qp=>?_) (λ qp=>?_))
    ·have hs:=((hs.drop)).drop;exact ⟨_,congrArg (λ q=>Value.tuple #[.int .i64 q,_]) (awn hrp fw vC (by rw [← Vn]; exact decide_eq_true qp)).symm,hs.aF⟩
    ·have h10:ry (jE p)=false:=by rw [← Vn]; exact decide_eq_false qp
     have hs:=hs.p1.p1;refine ⟨λ m x w1=>∃ k2:Nat,x = .int .i64 (k2:Int)∧m=(iG p).length - k2∧k2≤(iG p).length∧(∀ y∈(iG p).take k2,FT p y.aK=false)∧St w bD [bK Vm xL,cE kI (Flat.enc (⟨bH,bQ,bI,aT,aU,aY⟩:bN))] w1,⟨_,0,rfl,rfl,Nat.zero_le _,by simp,hs⟩,?_⟩;rintro m _ w8 ⟨k2,rfl,rfl,Fu,Eg,hs⟩ jB;refine aJ iJ (hs).fB (aR (aC (λ kK=>?_) (λ kK=>?_)))
     ·obtain ⟨apz,wv⟩:∃ xx,xL[((k2:Int)).toNat]? = some xx:=⟨_,List.getElem?_eq_getElem (by omega)⟩;obtain ⟨Ae,IF⟩:∃ xx,((iG p))[((k2:Int)).toNat]? = some xx:=⟨_,List.getElem?_eq_getElem (by omega)⟩;obtain ⟨yG,ai0,rfl,NA,ai1⟩:=FU.2 _ _ _ wv IF;have hzt2:=hz.ni (List.mem_of_getElem? IF);refine ⟨λ m x w1=>∃ k3:Nat,x = .int .i64 (k3:Int)∧m=Ae.aK.length - k3∧k3≤Ae.aK.length∧(∀ j,j<k3→Qj p Ae.aK j=false)∧St w bD [bK Vm xL,cE kI (Flat.enc (⟨bH,bQ,bI,aT,aU,aY⟩:bN))] w1,⟨_,0,rfl,rfl,Nat.zero_le _,by simp,hs⟩,?_⟩
      rintro m _ w9 ⟨k3,rfl,rfl,hk3,apB,hs⟩ oS;refine aQ iJ (hs).fB (by omega) wv (λ _ Vo=>bT yG ju Vo rfl rfl (λ _ Qr=>aD px (Qr) ?_));have ai2:=DL.flat (NA);refine aJ mV (ai2.ext hs.aF) (aR (aC (λ Em=>?_) (λ Em=>?_)))
      ·refine aQ iJ (hs).fB (by omega) wv (λ _ apC=>bT yG ju apC rfl rfl (λ _ Vp=>aD px (Vp) ?_));obtain ⟨GV,wx⟩:=gx ((Ae).aK) (i:=((k3:Int)).toNat) (by omega);refine aQ mV (ai2.ext hs.aF) (by omega) wx (λ _ Eh=>aD j8 (Eh) ?_);refine ⟨λ jv w'=>jv = .bool (decide (dO Ae.aK GV<k3) || decide (0≤dO (fc p) GV) || decide (0≤dO (gY p) GV))∧St w bD [bK Vm xL,cE kI (Flat.enc (⟨bH,bQ,bI,aT,aU,aY⟩:bN))] w',?_,?_⟩
       ·refine aQ iJ (hs).fB (by omega) wv (λ _ apD=>bT yG ju apD rfl rfl (λ _ Vq=>aD px (Vq) (aZ A7 hs (C98 _ (Ae).aK _ _ (ai2.ext hs.aF) (by have:=mg hz.toPS; have hk:(gY p).length≤500:=(by unfold gY; rw [List.length_map]; exact hz.locks); omega)) (λ pS he hs=>aR (aC (λ Vc=>?_) (λ Vc=>?_))))))
        ·have hs:=hs.p1.p1;exact ⟨vb (by grind),hs⟩
        ·refine aD gJ hs.p1.At (cZ TS hs (C46 p _ _ ⟨bH,bQ,bI,aT,aU,aY,rfl,(cI).ext hs.aF,(dA).ext hs.aF,(cJ).ext hs.aF,(bR).ext hs.aF,(bO).ext hs.aF,(cA).ext hs.aF⟩ hz) (λ x77 sU bY hs=>aZ A7 hs (C98 _ (fc p) _ _ (hs).fB (by have:=mg hz.toPS; have hk:(gY p).length≤500:=(by unfold gY; rw [List.length_map]; exact hz.locks); omega)) (λ vm he hs=>dF (aC (λ Vr=>?_) (λ Vr=>?_)))))
         ·have hs:=(hs.drop.p1).p1;exact ⟨vb (by grind),hs⟩
         ·refine aD gJ hs.p2.At (cZ ah4 hs (C99 p _ _ ⟨bH,bQ,bI,aT,aU,aY,rfl,(cI).ext hs.aF,(dA).ext hs.aF,(cJ).ext hs.aF,(bR).ext hs.aF,(bO).ext hs.aF,(cA).ext hs.aF⟩ hz) (λ x84 vn bY hs=>aZ A7 hs (C98 _ (gY p) _ _ (hs).fB (by have:=mg hz.toPS; have hk:(gY p).length≤500:=(by unfold gY; rw [List.length_map]; exact hz.locks); omega)) (λ sm he hs=>dF ?_)));have hs:=((((hs.drop)).drop).p1).p1;exact ⟨vb (by grind),hs⟩
       ·rintro _ v7 ⟨rfl,hs⟩ GQ;refine aX (λ Ey=>?_) (λ Ey=>?_)
        ·refine aQ iJ (hs).fB (by omega) wv (λ _ apE=>bT (Ae).at_ zC apE rfl rfl (λ _ Vs=>have hs:=hs.drew;aD bL (Vs) ?_));have hs:=((hs.drop)).drop;exact ⟨_,congrArg (λ q=>Value.tuple #[.int .i64 q,_]) (ao3 hrp fw vC h10 (jC IF (show FT p Ae.aK=true from rz (j:=k3) (by omega) (by rw [Ql (k:=k3) wx]; exact Ey)))).symm,hs.aF⟩
        ·refine aO (by omega) ?_;exact ⟨_,by omega,k3+1,rfl,rfl,by omega,zZ apB (by rw [Ql (k:=k3) wx]; exact Ey),hs⟩
      ·refine aO (by omega) ?_;have hs:=hs.p1.p1;exact ⟨_,by omega,k2+1,rfl,rfl,by omega,eE Eg IF (show FT p Ae.aK=false from nc (λ j hj=>apB j (by omega))),hs⟩
     ·rw [List.take_of_length_le (by omega)] at Eg;have ai3:(iG p).any (λ t=>FT p t.aK)=false:=iF Eg;have hs:=hs.p1.p1;refine ⟨λ m x w1=>∃ k5:Nat,x = .int .i64 (k5:Int)∧m=(iG p).length - k5∧k5≤(iG p).length∧(∀ y∈(iG p).take k5,y.body.any (om p y.aK)=false)∧St w bD [bK Vm xL,cE kI (Flat.enc (⟨bH,bQ,bI,aT,aU,aY⟩:bN))] w1,⟨_,0,rfl,rfl,Nat.zero_le _,by simp,hs⟩,?_⟩;rintro m _ yZ ⟨k5,rfl,rfl,hk5,ai4,hs⟩ R4;refine aJ iJ (hs).fB (aR (aC (λ apF=>?_) (λ apF=>?_)))
      ·obtain ⟨aw0,CS⟩:∃ xx,xL[((k5:Int)).toNat]? = some xx:=⟨_,List.getElem?_eq_getElem (by omega)⟩;obtain ⟨Bt,Af⟩:∃ xx,((iG p))[((k5:Int)).toNat]? = some xx:=⟨_,List.getElem?_eq_getElem (by omega)⟩;obtain ⟨Le,wy,rfl,Lf,B6⟩:=FU.2 _ _ _ CS Af;have apG:=hz.ni (List.mem_of_getElem? Af);have aw1:=hPF.ni (List.mem_of_getElem? Af);obtain ⟨hb45,apH,_⟩:=nE aw1.2.1;refine ⟨λ m x w1=>∃ k6:Nat,x = .int .i64 (k6:Int)∧m=Bt.body.length - k6∧k6≤Bt.body.length∧(∀ y∈Bt.body.take k6,om p Bt.aK y=false)∧St w bD [bK Vm xL,cE kI (Flat.enc (⟨bH,bQ,bI,aT,aU,aY⟩:bN))] w1,⟨_,0,rfl,rfl,Nat.zero_le _,by simp,hs⟩,?_⟩
       rintro m _ Cp ⟨k6,rfl,rfl,hk6,ai5,hs⟩ dd6;refine aQ iJ (hs).fB (by omega) CS (λ _ ai6=>bT wy qz ai6 rfl rfl (λ _ ai7=>aD sS (ai7) ?_));obtain ⟨aw2,apI,apJ⟩:=(B6).open;have hn40:=apJ.1;refine aJ j5 (apI.ext hs.aF) (aR (aC (λ ai8=>?_) (λ ai8=>?_)))
       ·have hs:=hs.drew;refine aD gJ hs.p1.At (aQ iJ (hs).fB (by omega) CS (λ _ NB=>aD Ih (NB) (aQ iJ (hs).fB (by omega) CS (λ _ ai9=>bT wy qz ai9 rfl rfl (λ _ aja=>aD sS (aja) ?_)))));obtain ⟨aw3,Qs⟩:=gx aw2 (i:=((k6:Int)).toNat) (by omega);obtain ⟨ajb,Ag⟩:=gx ((Bt).body) (i:=((k6:Int)).toNat) (by omega);obtain ⟨Vt,Vu,rfl,Vv,Vw⟩:=apJ.2 _ _ _ Qs Ag;refine aQ j5 (apI.ext hs.aF) (by omega) Qs (λ _ NC=>aD fY (NC) ?_);have hf5:=acw (apH _ (List.mem_of_getElem? Ag));refine eD amV (C100 p _ Bt _ ajb _ _ ⟨bH,bQ,bI,aT,aU,aY,rfl,(cI).ext hs.aF,(dA).ext hs.aF,(cJ).ext hs.aF,(bR).ext hs.aF,(bO).ext hs.aF,(cA).ext hs.aF⟩ ⟨Le,wy,rfl,(Lf).ext hs.aF,(B6).ext hs.aF⟩ ⟨Vt,Vu,rfl,(Vv).ext hs.aF,(Vw).ext hs.aF⟩ hz apG.2.1 (apG.1.2.2 _ (List.mem_of_getElem? Ag)) hf5) ?_
        rintro _ Iv ⟨aw4,rfl,Qt,he⟩;have hs:=hs.ext he;refine dF (aC (λ yH=>?_) (λ yH=>?_))
        ·have hs:=((hs.drop)).drop;exact ⟨_,congrArg (λ q=>Value.tuple #[.int .i64 q,_]) (ce9 hrp fw vC h10 ai3 (jC Af (jC Ag (by rw [← Qt]; exact decide_eq_true yH)))).symm,hs.aF⟩
        ·refine aO (by omega) ?_;exact ⟨_,by omega,k6+1,rfl,rfl,by omega,eE ai5 Ag (by rw [← Qt]; exact decide_eq_false yH),hs⟩
       ·refine aO (by omega) ?_;have hs:=hs.p1.p1;exact ⟨_,by omega,k5+1,rfl,rfl,by omega,eE ai4 Af (iF (by rw [List.take_of_length_le (by omega)] at ai5; exact ai5)),hs⟩
      ·rw [List.take_of_length_le (by omega)] at ai4;have h9:(iG p).any (λ t=>t.body.any (om p t.aK))=false:=iF ai4;have hs:=hs.drew;refine aD gJ hs.p1.At (aD gJ hs.p1.At (cZ TS hs (C46 p _ _ ⟨bH,bQ,bI,aT,aU,aY,rfl,(cI).ext hs.aF,(dA).ext hs.aF,(cJ).ext hs.aF,(bR).ext hs.aF,(bO).ext hs.aF,(cA).ext hs.aF⟩ hz) (λ aw5 Jy bY hs=>?_)));refine ⟨fL gJ hs.p2.At,?_⟩;refine aZ YY hs (C41 p _ _ ⟨bH,bQ,bI,aT,aU,aY,rfl,(cI).ext hs.aF,(dA).ext hs.aF,(cJ).ext hs.aF,(bR).ext hs.aF,(bO).ext hs.aF,(cA).ext hs.aF⟩ hz) (λ KG he hs=>?_)
       have Qq:=mg hz.toPS;have hsl:0≤eg p∧eg p≤(fc p).length:=by unfold eg fc gG; rw [List.length_map,List.length_append]; omega
       refine kQ mV (hs).fB (by omega) (by omega) (λ aw6 acE=>?_);have hs:=(hs.p1.drop.p1).p1;refine ⟨λ m x w1=>∃ k7:Nat,x = .int .i64 (k7:Int)∧m=p.cC.length - k7∧k7≤p.cC.length∧(∀ y∈p.cC.take k7,vp y.e (oW p)=false)∧St w bD [bK aw5 (fc p),cE kI (Flat.enc (⟨bH,bQ,bI,aT,aU,aY⟩:bN))] w1,⟨_,0,rfl,rfl,Nat.zero_le _,by simp,hs⟩,?_⟩;rintro m _ MH ⟨k7,rfl,rfl,hk7,ajc,hs⟩ dd7;have hzc:=hz.cC;refine aA kN (aB sR hs.p1.hb rfl ?_);obtain ⟨aw7,apK,apL⟩:=(cA).open;have hn41:=apL.1;refine aJ yx (apK.ext hs.aF) (aR (aC (λ ND=>?_) (λ ND=>?_)))
       ·refine aA kN (aB sR hs.p1.hb rfl ?_);obtain ⟨aw8,Qu⟩:=gx aw7 (i:=((k7:Int)).toNat) (by omega);obtain ⟨aw9,Ah⟩:=gx ((p).cC) (i:=((k7:Int)).toNat) (by omega);obtain ⟨Vx,rfl,Vy⟩:=apL.2 _ _ _ Qu Ah;refine aQ yx (apK.ext hs.aF) (by omega) Qu (λ _ NF=>bT Vx CK NF rfl rfl (λ _ ajd=>aD mU (ajd) ?_));have axa:=DL.flat (Vy);refine eD TZ (C101 _ _ _ _ _ (axa.ext hs.aF) (acE _ (hs).fB) (hz.zc _ (List.mem_of_getElem? Ah)).1 (by have:=mg hz.toPS; simp; omega) (Bo (hPF.cl _ (List.mem_of_getElem? Ah)).2)) ?_;rintro _ Qv ⟨axb,rfl,Qw,he⟩
        have hs:=hs.ext he;refine dF (aC (λ NG=>?_) (λ NG=>?_))
        ·have hs:=((hs.drop)).drop;exact ⟨_,congrArg (λ q=>Value.tuple #[.int .i64 q,_]) (awo hrp fw vC h10 ai3 h9 (jC Ah (by unfold oW; rw [← Qw]; exact decide_eq_true NG))).symm,hs.aF⟩
        ·refine aO (by omega) ?_;exact ⟨_,by omega,k7+1,rfl,rfl,by omega,eE ajc Ah (by unfold oW; rw [← Qw]; exact decide_eq_false NG),hs⟩
       ·have hs:=((hs.drop)).drop;exact ⟨_,congrArg (λ q=>Value.tuple #[.int .i64 q,_]) (ce0 hrp fw vC h10 ai3 h9 (iF (by rw [List.take_of_length_le (by omega)] at ajc; exact ajc))).symm,hs.aF⟩
theorem Bk.NH {x:cG} {a b r:Bk} (h:(Bk.cons x a b r).str) {hi lo:Int} (h1:hi=1+x.body) (h2:lo=1):((Bk.cons x a b r).flat.take hi.toNat).drop lo.toNat=a.flat:=by
 obtain ⟨g1,g2,_⟩:=h
 have la:=a.cO
 rw [Ea _ (a:=1) (n:=a.flat.length) (by omega) (by omega)]
 show (a.flat++(b.flat++r.flat)).take _=_
 rw [List.take_left]
theorem Bk.acF {x:cG} {a b r:Bk} (h:(Bk.cons x a b r).str) {hi lo:Int} (h1:hi=1+x.body+x.fF) (h2:lo=1+x.body):((Bk.cons x a b r).flat.take hi.toNat).drop lo.toNat=b.flat:=by
 obtain ⟨g1,g2,_⟩:=h
 have la:=a.cO
 have lb:=b.cO
 rw [Ea _ (a:=1+a.flat.length) (n:=b.flat.length) (by omega) (by omega)]
 have e:(Bk.cons x a b r).flat=(x::a.flat)++(b.flat++r.flat):=by simp [Bk.flat]
 rw [e,show 1+a.flat.length=(x::a.flat).length from by simp; omega,List.drop_left,List.take_left]
def Ez (k:Int):Int:=if k=2∨k=4∨k=8∨k=9∨k=10 then 1 else if k=3∨k=5∨k=6∨k=7 then 2 else 0
theorem Vz (k:Int):0≤Ez k∧Ez k≤2:=by
 unfold Ez
 repeat' split
 all_goals omega
def rV:Bk→Int
 | .nil=>0
 | .cons x a b r=>(if x.kind=12 then x.n * rV a else if x.kind=11 then max (rV a) (rV b) else Ez x.kind)+rV r
def ky (t:Bk):Prop:=∀ x∈t.flat,x.kind=12→1≤x.n∧x.n≤8
theorem ky.a {x:cG} {a b r:Bk} (h:ky (.cons x a b r)):ky a:=λ y hy=>h y (by simp [Bk.flat,hy])
theorem ky.b {x:cG} {a b r:Bk} (h:ky (.cons x a b r)):ky b:=λ y hy=>h y (by simp [Bk.flat,hy])
theorem ky.r {x:cG} {a b r:Bk} (h:ky (.cons x a b r)):ky r:=λ y hy=>h y (by simp [Bk.flat,hy])
theorem ky.x {x:cG} {a b r:Bk} (h:ky (.cons x a b r)):x.kind=12→1≤x.n∧x.n≤8:=h x (by simp [Bk.flat])
theorem acG (t:Bk):ky t→0≤rV t:=by
 induction t with
 | nil=>intro _; simp [rV]
 | cons x a b r vB xJ GN=>
  intro h
  have h1:=vB h.a
  have h2:=xJ h.b
  have h3:=GN h.r
  have hc:=Vz x.kind
  unfold rV
  split
  ·rename_i hk
   have:=Int.mul_nonneg (a:=x.n) (by have:=h.x hk; omega) h1
   omega
  ·split <;> omega
def bV:Bk→Int
 | .nil=>0
 | .cons x a b r=>(if x.kind=12 then 2+bV a else if x.kind=11 then (if 0<x.fF then 1+bV a+bV b+1 else 1+bV a+bV b) else 1)+bV r
theorem iR (t:Bk):0≤bV t∧bV t≤2 * t.len:=by
 induction t with
 | nil=>simp [bV,Bk.len]
 | cons x a b r vB xJ GN=>
  unfold bV Bk.len
  repeat' split
  all_goals omega
def iS:Bk→Int
 | .nil=>0
 | .cons x a b r=>max (if x.kind=12 then max (iS a) (iS b)+1 else max (iS a) (iS b)) (iS r)
theorem sX (t:Bk):0≤iS t∧iS t≤t.len:=by
 induction t with
 | nil=>simp [iS,Bk.len]
 | cons x a b r vB xJ GN=>
  unfold iS Bk.len
  split <;> omega
def lF (p:cU) (rs:List ByteArray) (x:cG):aW:=
 ⟨if x.kind=14 then 15 else x.kind,max 0 (dO rs x.gK),
  if x.kind=2∨x.kind=3∨x.kind=4 then dO (fc p) x.name else if x.kind=5∨x.kind=6 then lT p (dO (fc p) x.name) else if x.kind=9∨x.kind=10 then dO (gY p) x.name else 0,
  gi rs x.e,gi rs x.f,0⟩
def rB (x:cG) (a:Bk) (at_:Int):Int:=if 0<x.fF then at_+1+bV a+1 else at_+1+bV a
def eR (p:cU) (rs:List ByteArray):Bk→Int→Int→Int→List aW
 | .nil,_,_,_=>[]
 | .cons x a b r,at_,lp,out=>
  (if x.kind=11 then [⟨12,0,0,gi rs x.e,[],rB x a at_⟩]++eR p rs a (at_+1) lp out++(if 0<x.fF then [⟨11,0,0,[],[],rB x a at_+bV b⟩] else [])++eR p rs b (rB x a at_) lp out
   else if x.kind=12 then [⟨13,lp,x.n,[],[],0⟩]++eR p rs a (at_+1) (lp+1) (at_+2+bV a)++[⟨14,lp,0,[],[],at_+1⟩]
   else if x.kind=13 then [⟨11,0,0,[],[],out⟩] else [lF p rs x])++
  eR p rs r (at_+(bV (.cons x a b r) - bV r)) lp out
theorem gZ (p:cU) (rs:List ByteArray) (t:Bk):∀ at_ lp out,((eR p rs t at_ lp out).length:Int)=bV t:=by
 induction t with
 | nil=>intro _ _ _; rfl
 | cons x a b r vB xJ GN=>
  intro at_ lp out
  unfold eR
  rw [List.length_append,Int.natCast_add,GN]
  rw [show bV (.cons x a b r)=(if x.kind=12 then 2+bV a else if x.kind=11 then (if 0<x.fF then 1+bV a+bV b+1 else 1+bV a+bV b) else 1)+bV r from rfl]
  congr 1
  by_cases h1:x.kind=11
  ·simp only [if_pos h1,if_neg (show ¬ x.kind=12 by omega)]
   have ha:=vB (at_+1) lp out
   have hb:=xJ (rB x a at_) lp out
   by_cases h2:0<x.fF
   ·simp only [if_pos h2,List.length_append,List.length_singleton]; omega
   ·simp only [if_neg h2,List.length_append,List.length_singleton,List.length_nil]; omega
  ·simp only [if_neg h1]
   by_cases h2:x.kind=12
   ·have ha:=vB (at_+1) (lp+1) (at_+2+bV a)
    simp only [if_pos h2,List.length_append,List.length_singleton]; omega
   ·simp only [if_neg h2]
    split <;> simp
def mi (p:cU) (t:dQ):fm:=match oU t.body with | some b=>⟨t.aK.length,iS b,eR p t.aK b 0 0 0⟩ | none=>⟨t.aK.length,0,[]⟩
def ek (p:cU):ib:=
 ⟨(List.range (gG p).length).map (fun (i:Nat)=>lT p i),eg p,pk p,p.locks.length,p.threads.map (mi p),(match p.recover[0]? with | some t=>mi p t | none=>⟨0,0,[]⟩),p.cC.map (λ c=>gi (oW p) c.e)⟩
theorem C158 (lv:Value) (t:Bk) (N:Nat) (w:World) (hL:DL w lv t.flat) (gn:t.str) (hl:t.len≤1048576) (hN:t.len<N):CR 158 [lv] w (λ v w'=>v = .int .i64 (bV t)∧Ext w w'):=by
 have Bd:=t.cO;have hs:=St.start w;refine ZK _ _ _ ?_;unfold S158;obtain ⟨axc,FV,R9⟩:=(hL).open;have hn43:=R9.1;refine aJ j5 (FV.ext hs.aF) (aH (aC (λ gv=>?_) (λ gv=>?_)))
 ·cases t with
  | nil=>exact ⟨rfl,hs.aF⟩
  | cons x a b r=>exact absurd Bd (by rw [show (Bk.cons x a b r).len=a.len+b.len+r.len+1 from rfl]; omega)
 ·obtain ⟨x,a,b,r,rfl⟩:=Bk.CQ (t:=t) (by omega);obtain ⟨afq,wi⟩:=gx axc (i:=((0:Int)).toNat) (by omega);obtain ⟨fi,uR⟩:=gx ((Bk.cons x a b r).flat) (i:=((0:Int)).toNat) (by omega);obtain ⟨xl,xm,rfl,acH,acI⟩:=R9.2 _ _ _ wi uR;refine aQ j5 FV (by omega) wi (λ _ KR=>?_);obtain rfl:fi=x:=(Option.some.inj uR).symm;have Lb:=gn;obtain ⟨Fx,hg2,hg3,hg4,Vi,hgb,hgr⟩:=Lb;have Tn:a.len+b.len+r.len+1≤1048576:=hl;have hNn:a.len+b.len+r.len+1<N:=hN;have MG:=a.cO;have Qi:=b.cO;have hlr:=r.cO;have Qn:(Bk.cons fi a b r).flat.length=a.len+b.len+r.len+1:=Bk.cO _
  have hsa:=iR a;have hsb:=iR b;have hsr:=iR r;refine aD fY (KR.ext hs.aF) (aN hs qA (λ Lg w1 hs=>have hs:=hs.enc (cs':=Flat.enc (⟨0,(ByteArray.mk #[]),(ByteArray.mk #[]),⟨none,0,0⟩,⟨none,0,0⟩,0,0,0,0⟩:bX)) rfl;aI (x:=(⟨(fi).kind,(fi).gK,(fi).name,xl,xm,(fi).n,(fi).body,(fi).fF,(fi).at_⟩:bX)) hs fY rfl rfl (λ w2 hs=>aA mZ (have hs:=hs.drew;aB (v:=.int .i64 ((fi).body)) bL hs.hb rfl (aO (by omega) (aA iK (aB (v:=.int .i64 ((fi).fF)) bL hs.hb rfl (aO (by omega) ?_))))))));refine ⟨λ jv w'=>∃ n1:Int,jv = .int .i64 n1∧n1=(if fi.kind=11 then (if 0<fi.fF then 1+bV a+bV b+1 else 1+bV a+bV b) else 1)∧0≤n1∧n1≤4000000∧St w bD [cE Lg (Flat.enc (⟨(fi).kind,(fi).gK,(fi).name,xl,xm,(fi).n,(fi).body,(fi).fF,(fi).at_⟩:bX))] w',?_,?_⟩
  ·refine aA fx (aB (v:=.int .i64 ((fi).kind)) bL hs.hb rfl (aH (aC (λ iM=>?_) (λ iM=>?_))))
   ·refine kq j5 (FV.ext hs.aF) (by omega) (by omega) (by omega) (λ apO aje=>?_);have ajf:=DL.cut aje FV R9;refine kq j5 (FV.ext hs.aF) (by omega) (by omega) (by omega) (λ VA ajg=>?_);have ajh:=DL.cut ajg FV R9;have hs:=hs.drew;refine aZ Dn hs (C158 _ a (N - 1) _ (by have h:=ajf.ext hs.aF; rw [Bk.NH gn (by omega) (by omega)] at h; exact h) Vi (by omega) (by omega)) (λ w3 he hs=>aO (by omega) (aZ Dn hs (C158 _ b (N - 1) _ (by have h:=ajh.ext hs.aF; rw [Bk.acF gn (by omega) (by omega)] at h; exact h) hgb (by omega) (by omega)) (λ w4 he hs=>aO (by omega) (aA iK (aB (v:=.int .i64 ((fi).fF)) bL hs.hb rfl (dB (aC (λ lq=>?_) (λ lq=>?_))))))))
    ·refine aO (by omega) ?_;exact ⟨_,rfl,by grind,by omega,by omega,hs⟩
    ·exact ⟨_,rfl,by grind,by omega,by omega,hs⟩
   ·exact ⟨_,rfl,by grind,by omega,by omega,hs⟩
  ·rintro _ w5 ⟨n1,rfl,UU,axd,ao5,hs⟩ fy;refine ⟨λ jv w'=>∃ n2:Int,jv = .int .i64 n2∧n2=(if fi.kind=12 then 2+bV a else if fi.kind=11 then (if 0<fi.fF then 1+bV a+bV b+1 else 1+bV a+bV b) else 1)∧0≤n2∧n2≤4000000∧St w bD [cE Lg (Flat.enc (⟨(fi).kind,(fi).gK,(fi).name,xl,xm,(fi).n,(fi).body,(fi).fF,(fi).at_⟩:bX))] w',?_,?_⟩
   ·refine aA fx (aB (v:=.int .i64 ((fi).kind)) bL hs.hb rfl (aH (aC (λ j0=>?_) (λ j0=>?_))))
    ·refine kq j5 (FV.ext hs.aF) (by omega) (by omega) (by omega) (λ apP aji=>?_);have ajj:=DL.cut aji FV R9;refine aZ Dn hs (C158 _ a (N - 1) _ (by have h:=ajj.ext hs.aF; rw [Bk.NH gn (by omega) (by omega)] at h; exact h) Vi (by omega) (by omega)) (λ w6 he hs=>aO (by omega) ?_);exact ⟨_,rfl,by grind,by omega,by omega,hs⟩
    ·exact ⟨_,rfl,by grind,by omega,by omega,hs⟩
   ·rintro _ w7 ⟨n2,rfl,hn2,awA,hn21,hs⟩ jB;refine re j5 (FV.ext hs.aF) (by omega) (by omega) (λ VB ajk=>?_);have ajl:=DL.PX ajk FV R9;refine aZ Dn hs (C158 _ r (N - 1) _ (by have h:=ajl.ext hs.aF; rw [Bk.acB gn (by omega)] at h; exact h) hgr (by omega) (by omega)) (λ w8 he hs=>aO (by omega) ?_);exact ⟨congrArg (Value.int .i64) (by rw [hn2]; rfl),hs.drop.aF⟩
termination_by N
decreasing_by all_goals omega
theorem C103 (lv:Value) (t:Bk) (N:Nat) (w:World) (hL:DL w lv t.flat) (gn:t.str) (hl:t.len≤1048576) (hN:t.len<N):CR 103 [lv] w (λ v w'=>v = .int .i64 (iS t)∧Ext w w'):=by
 have Bd:=t.cO;have hs:=St.start w;refine Y6 _ _ _ ?_;unfold S103;obtain ⟨axe,Lh,VC⟩:=(hL).open;have hn44:=VC.1;refine aJ j5 (Lh.ext hs.aF) (aH (aC (λ gv=>?_) (λ gv=>?_)))
 ·cases t with
  | nil=>exact ⟨rfl,hs.aF⟩
  | cons x a b r=>exact absurd Bd (by rw [show (Bk.cons x a b r).len=a.len+b.len+r.len+1 from rfl]; omega)
 ·obtain ⟨x,a,b,r,rfl⟩:=Bk.CQ (t:=t) (by omega);obtain ⟨afq,wi⟩:=gx axe (i:=((0:Int)).toNat) (by omega);obtain ⟨fi,uR⟩:=gx ((Bk.cons x a b r).flat) (i:=((0:Int)).toNat) (by omega);obtain ⟨xl,xm,rfl,acH,acI⟩:=VC.2 _ _ _ wi uR;refine aQ j5 Lh (by omega) wi (λ _ KR=>?_);obtain rfl:fi=x:=(Option.some.inj uR).symm;have Lb:=gn;obtain ⟨Fx,hg2,hg3,hg4,Vi,hgb,hgr⟩:=Lb;have Tn:a.len+b.len+r.len+1≤1048576:=hl;have hNn:a.len+b.len+r.len+1<N:=hN;have MG:=a.cO;have Qi:=b.cO;have hlr:=r.cO;have Qn:(Bk.cons fi a b r).flat.length=a.len+b.len+r.len+1:=Bk.cO _
  have hsa:=sX a;have hsb:=sX b;have hsr:=sX r;refine aD fY (KR.ext hs.aF) (aN hs qA (λ Lg w1 hs=>have hs:=hs.enc (cs':=Flat.enc (⟨0,(ByteArray.mk #[]),(ByteArray.mk #[]),⟨none,0,0⟩,⟨none,0,0⟩,0,0,0,0⟩:bX)) rfl;aI (x:=(⟨(fi).kind,(fi).gK,(fi).name,xl,xm,(fi).n,(fi).body,(fi).fF,(fi).at_⟩:bX)) hs fY rfl rfl (λ w2 hs=>aA mZ (aB (v:=.int .i64 ((fi).body)) bL hs.hb rfl (aO (by omega) (aA iK (aB (v:=.int .i64 ((fi).fF)) bL hs.hb rfl (aO (by omega) (kq j5 (Lh.ext hs.aF) (by omega) (by omega) (by omega) (λ apc ajm=>?_))))))))))
  have ajn:=DL.cut ajm Lh VC;refine kq j5 (Lh.ext hs.aF) (by omega) (by omega) (by omega) (λ Qe Bu=>?_);have NI:=DL.cut Bu Lh VC;have hs:=hs.drew;refine aZ Pk hs (C103 _ a (N - 1) _ (by have h:=ajn.ext hs.aF; rw [Bk.NH gn (by omega) (by omega)] at h; exact h) Vi (by omega) (by omega)) (λ w3 he hs=>aZ Pk hs (C103 _ b (N - 1) _ (by have h:=NI.ext hs.aF; rw [Bk.acF gn (by omega) (by omega)] at h; exact h) hgb (by omega) (by omega)) (λ w4 he hs=>xe ?_));refine ⟨λ jv w'=>∃ n1:Int,jv = .int .i64 n1∧n1=(if fi.kind=12 then max (iS a) (iS b)+1 else max (iS a) (iS b))∧0≤n1∧n1≤4000000∧St w bD [cE Lg (Flat.enc (⟨(fi).kind,(fi).gK,(fi).name,xl,xm,(fi).n,(fi).body,(fi).fF,(fi).at_⟩:bX))] w',?_,?_⟩
  ·refine aA fx (aB (v:=.int .i64 ((fi).kind)) bL hs.hb rfl (aH (aC (λ jK=>?_) (λ jK=>?_))))
   ·refine aO (by omega) ?_;exact ⟨_,rfl,by grind,by omega,by omega,hs⟩
   ·exact ⟨_,rfl,by grind,by omega,by omega,hs⟩
  ·rintro _ w5 ⟨n1,rfl,UU,axd,ao5,hs⟩ fy;refine re j5 (Lh.ext hs.aF) (by omega) (by omega) (λ afx ajo=>?_);have ajp:=DL.PX ajo Lh VC;refine aZ Pk hs (C103 _ r (N - 1) _ (by have h:=ajp.ext hs.aF; rw [Bk.acB gn (by omega)] at h; exact h) hgr (by omega) (by omega)) (λ w6 he hs=>xe ?_);exact ⟨congrArg (Value.int .i64) (by rw [UU]; rfl),hs.drop.aF⟩
termination_by N
decreasing_by all_goals omega
theorem VD (t:Bk):∀ n:Int,ky t→1≤n→oH t n=false→n * rV t≤128 * (t.len:Int)∧0≤rV t:=by
 induction t with
 | nil=>intro n _ _ _; simp [rV,Bk.len]
 | cons x a b r vB xJ GN=>
  intro n hq hn hw
  unfold oH at hw
  simp only [Bool.or_eq_false_iff,decide_eq_false_iff_not] at hw
  obtain ⟨⟨h64,ha,hb⟩,hr⟩:=hw
  have hm1:1≤sw x n:=by
   unfold sw
   split
   ·rename_i hk
    have:=hq.x hk
    have:=Int.mul_le_mul (a:=1) (b:=1) hn this.1 (by omega) (by omega)
    omega
   ·exact hn
  have h1:=vB _ hq.a hm1 ha
  have h2:=xJ _ hq.b hm1 hb
  have h3:=GN _ hq.r hn hr
  have hnn:=acG _ hq
  refine ⟨?_,hnn⟩
  have hl:((Bk.cons x a b r).len:Int)=a.len+b.len+r.len+1:=rfl
  rw [hl,show rV (.cons x a b r)=(if x.kind=12 then x.n * rV a else if x.kind=11 then max (rV a) (rV b) else Ez x.kind)+rV r from rfl,Int.mul_add]
  have key:n * (if x.kind=12 then x.n * rV a else if x.kind=11 then max (rV a) (rV b) else Ez x.kind)≤128 * (a.len+b.len+1):=by
   by_cases hk:x.kind=12
   ·rw [if_pos hk,← Int.mul_assoc]
    have:sw x n=n * x.n:=by unfold sw; rw [if_pos hk]
    rw [this] at h1; omega
   ·have hwn:sw x n=n:=by unfold sw; rw [if_neg hk]
    rw [hwn] at h1 h2 h64
    rw [if_neg hk]
    split
    ·rcases Int.le_total (rV a) (rV b) with h | h
     ·rw [Int.max_eq_right h]; omega
     ·rw [Int.max_eq_left h]; omega
    ·have hc:=Vz x.kind
     have:=Int.mul_le_mul (a:=n) (b:=Ez x.kind) (c:=64) (d:=2) (by omega) hc.2 hc.1 (by omega)
     omega
  omega
structure Bv (p:cU):Prop where
 right:mf p=true
 big:z6 p=false
 axg:∀ t∈iG p,vq t.body=false
 twice:ry (jE p)=false
 aK:∀ t∈iG p,FT p t.aK=false
 names:∀ t∈iG p,∀ x∈t.body,om p t.aK x=false
 cC:∀ c∈p.cC,vp c.e (oW p)=false
theorem EA {p:cU} (h:gL p=0):Bv p:=by
 unfold gL at h
 split at h
 ·omega
 ·rename_i h1
  split at h
  ·omega
  ·rename_i h2
   split at h
   ·omega
   ·rename_i h3
    split at h
    ·omega
    ·rename_i h4
     split at h
     ·omega
     ·rename_i h5
      split at h
      ·omega
      ·rename_i h6
       split at h
       ·omega
       ·rename_i h7
        simp only [Bool.not_eq_true,Bool.not_eq_false,List.any_eq_false] at h1 h2 h3 h4 h5 h6 h7
        exact ⟨h1,h2,λ t ht=>h3 t ht,h4,λ t ht=>h5 t ht,λ t ht x hx=>h6 t ht x hx,λ c hc=>h7 c hc⟩
theorem Bv.tree {p:cU} (h:Bv p) {t:dQ} (ht:t∈iG p):∃ b:Bk,t.body=b.flat∧b.str∧b.ok 0=true∧b.len≤40∧ky b∧(∀ x∈b.flat,rp x=true)∧oH b 1=false∧oU t.body=some b∧0≤rV b∧rV b≤5120:=by
 obtain ⟨h1,h2,b,h3,h4,h5,_⟩:=nE ((wk h.right).ni ht).2.1
 have hl:b.len≤40:=by rw [← Bk.cO,← h3]; exact h1
 have hq:ky b:=λ x hx=>(Ny (h2 x (by rw [h3]; exact hx))).2
 have hw:oH b 1=false:=by have:=h.axg t ht; rw [h3,yE h4] at this; exact this
 have hs:=VD b 1 hq (by omega) hw
 exact ⟨b,h3,h4,h5,hl,hq,λ x hx=>h2 x (by rw [h3]; exact hx),hw,by rw [h3]; exact oV h4,hs.2,by omega⟩
def FW (p:cU) (rs:List ByteArray) (x:cG) (a b:Bk) (at_ lp out:Int):List aW:=
  if x.kind=11 then [⟨12,0,0,gi rs x.e,[],rB x a at_⟩]++eR p rs a (at_+1) lp out++(if 0<x.fF then [⟨11,0,0,[],[],rB x a at_+bV b⟩] else [])++eR p rs b (rB x a at_) lp out
   else if x.kind=12 then [⟨13,lp,x.n,[],[],0⟩]++eR p rs a (at_+1) (lp+1) (at_+2+bV a)++[⟨14,lp,0,[],[],at_+1⟩]
   else if x.kind=13 then [⟨11,0,0,[],[],out⟩] else [lF p rs x]
theorem uZ (p:cU) (rs:List ByteArray) (x:cG) (a b r:Bk) (at_ lp out:Int):eR p rs (.cons x a b r) at_ lp out=FW p rs x a b at_ lp out++eR p rs r (at_+((FW p rs x a b at_ lp out).length:Int)) lp out:=by
 have h1:=gZ p rs (.cons x a b r) at_ lp out
 have e:eR p rs (.cons x a b r) at_ lp out=FW p rs x a b at_ lp out++eR p rs r (at_+(bV (.cons x a b r) - bV r)) lp out:=rfl
 have h2:=gZ p rs r (at_+(bV (.cons x a b r) - bV r)) lp out
 rw [e,List.length_append] at h1
 rw [e,show ((FW p rs x a b at_ lp out).length:Int)=bV (.cons x a b r) - bV r from by omega]
theorem IG (p:cU) (rs:List ByteArray) (x:cG) (a b r:Bk) (at_ lp out:Int):((FW p rs x a b at_ lp out).length:Int)=bV (.cons x a b r) - bV r:=by
 have h1:=gZ p rs (.cons x a b r) at_ lp out
 have h2:=gZ p rs r (at_+(bV (.cons x a b r) - bV r)) lp out
 have e:eR p rs (.cons x a b r) at_ lp out=FW p rs x a b at_ lp out++eR p rs r (at_+(bV (.cons x a b r) - bV r)) lp out:=rfl
 rw [e,List.length_append] at h1
 omega
def Li:fm:=⟨0,0,[]⟩
def EB:ib:=⟨[],0,[],0,[],Li,[]⟩
def Lj (p:cU):fm:=match p.recover[0]? with | some t=>mi p t | none=>Li
theorem EC {p:cU} {t:dQ} {b:Bk} (h:oU t.body=some b):mi p t=⟨t.aK.length,iS b,eR p t.aK b 0 0 0⟩:=by unfold mi; rw [h]
theorem C159 (q:UI) (qv:vZ) (x:cG) (xv:bX) (w:World) (hv:bZ.dr w qv q) (hx:bZ.dr w xv x) (hz:PZ q.p) (Bw:q.aK.length≤500) (hzx:SzS x):CR 159 [Flat.val qv,Flat.val xv] w (λ v w'=>∃ iv:bU,v=Flat.val iv∧lY (eU (λ w=>bZ.dr w iv (lF q.p q.aK x))) w w'):=by
 obtain ⟨apQ,oo,rfl,VE,pL⟩:=hv;obtain ⟨eM,fa,eN,dV,dW,er,rfl,jM,kT,jN,ie,ig,iT⟩:=VE;obtain ⟨zT,zU,rfl,KS,GP⟩:=hx;have Qq:=mg hz.toPS;have KL:(gY q.p).length≤500:=by unfold gY; rw [List.length_map]; exact hz.locks
 have hs:=St.start w;refine ZL _ _ _ _ ?_;unfold S159;refine dE hs (λ b_v2 w1 hs=>dE hs (λ Lg w2 hs=>aN hs mA (λ Cr w3 hs=>have hs:=hs.enc (cs':=Flat.enc (⟨0,0,0,⟨none,0,0⟩,⟨none,0,0⟩,0⟩:bU)) rfl;aA zF (have hs:=hs.drew;aB px hs.p2.hb rfl ?_))));have ajr:=DL.flat (pL);refine aA l6 (aB (v:=.string ((x).gK)) j8 hs.p1.hb rfl (aA DC (uO (⟨eM,fa,eN,dV,dW,er⟩:bN) gJ hs.p2.hb rfl (aA jj (aB (v:=.string ((x).name)) j8 hs.p1.hb rfl (aZ A7 hs (C98 _ (q).aK _ _ (ajr.ext hs.aF) (by omega)) (λ w4 he hs=>?_)))))))
 refine ⟨It (⟨eM,fa,eN,dV,dW,er⟩:bN) gJ hs.p2.hb rfl,?_⟩;refine ⟨aG j8 (hs.p1.hb.cell rfl),?_⟩;refine xe (cZ TS hs (C46 (q).p _ _ ⟨eM,fa,eN,dV,dW,er,rfl,(jM.ext hs.aF),(kT.ext hs.aF),(jN.ext hs.aF),(ie.ext hs.aF),(ig.ext hs.aF),(iT.ext hs.aF)⟩ hz) (λ x20 w5 bY hs=>?_));refine ⟨aG j8 (hs.p2.hb.cell rfl),?_⟩;refine aZ A7 hs (C98 _ (fc (q).p) _ _ (hs).fB (by omega)) (λ w6 he hs=>aA l7 (aB mU hs.p2.hb rfl ?_));have axh:=DL.flat (KS)
 refine aA zF (aB px hs.p3.hb rfl (eD YZ (C45 _ _ _ _ _ (axh.ext hs.aF) (ajr.ext hs.aF) hzx.2.2.1 (by omega) hzx.2.2.2.2.1) ?_));rintro _ w7 ⟨afp,rfl,bY⟩;have hs:=hs.made bY;refine bE rfl (bE rfl (aA nV (aB mU hs.p3.hb rfl ?_)));have axi:=DL.flat (GP);refine aA zF (aB px hs.p4.hb rfl (eD YZ (C45 _ _ _ _ _ (axi.ext hs.aF) (ajr.ext hs.aF) hzx.2.2.2.1 (by omega) hzx.2.2.2.2.2) ?_));rintro _ w8 ⟨apl,rfl,bY⟩;have hs:=hs.made bY;refine bE rfl (bE rfl (aA fx (aB (v:=.int .i64 ((x).kind)) bL hs.p4.hb rfl ?_)));obtain ⟨u3,rfl⟩:=(hs.p1).fR;obtain ⟨oY,rfl⟩:=(hs).fR
 refine pop (DE _ _ _ _ _ _ _ _) (aN hs mA (λ apR w9 hs=>have hs:=hs.enc (cs':=Flat.enc (⟨0,0,0,⟨none,0,0⟩,⟨none,0,0⟩,0⟩:bU)) rfl;aI (x:=(⟨(x).kind,(max 0 (dO (q).aK (x).gK)),0,u3,oY,0⟩:bU)) hs lL rfl rfl (λ pS hs=>?_)));refine ⟨λ w'=>∃ kk bb:Int,kk=(if x.kind=14 then 15 else x.kind)∧bb=(if x.kind=2∨x.kind=3∨x.kind=4 then dO (fc q.p) x.name else if x.kind=5∨x.kind=6 then lT q.p (dO (fc q.p) x.name) else if x.kind=9∨x.kind=10 then dO (gY q.p) x.name else 0)∧St w bD [cE apR (Flat.enc (⟨kk,max 0 (dO q.aK x.gK),bb,u3,oY,0⟩:bU)),bK (Flat.val u3) (gi q.aK x.e),bK (Flat.val oY) (gi q.aK x.f),cE Cr (Flat.enc (⟨0,0,0,⟨none,0,0⟩,⟨none,0,0⟩,0⟩:bU))] w',?_,?_⟩
 ·refine aA fx (aB (v:=.int .i64 ((x).kind)) bL hs.p5.hb rfl ?_);refine ⟨λ jv w'=>jv = .bool (decide (x.kind=2∨x.kind=3∨x.kind=4))∧pS=w',?_,?_⟩
  ·refine aH (aC (λ vr=>?_) (λ vr=>?_))
   ·exact ⟨wW (by omega),rfl⟩
   ·refine aH (aC (λ pK=>?_) (λ pK=>?_))
    ·exact ⟨wW (by omega),rfl⟩
    ·refine aH ?_;exact ⟨wW (by omega),rfl⟩
  ·rintro _ sU ⟨rfl,hw⟩ fy;subst hw;refine aC (λ zV=>?_) (λ zV=>?_)
   ·refine aA eX (aV hs bL (eI rfl) (rfl) (λ vm hs=>?_));have hs:=hs.enc (cs':=Flat.enc (⟨(x).kind,(max 0 (dO (q).aK (x).gK)),(dO (fc (q).p) (x).name),u3,oY,0⟩:bU)) rfl;have hs:=(((hs.p3.drop.p4.drop.p4.drop.p3).p2).p3).p3;exact ⟨_,_,by grind,by grind,hs⟩
   ·refine ⟨λ jv w'=>jv = .bool (decide (x.kind=5∨x.kind=6))∧pS=w',?_,?_⟩
    ·refine aH (aC (λ Em=>?_) (λ Em=>?_))
     ·exact ⟨wW (by omega),rfl⟩
     ·refine aH ?_;exact ⟨wW (by omega),rfl⟩
    ·rintro _ vn ⟨rfl,hw⟩ jB;subst hw;refine aC (λ wm=>?_) (λ wm=>?_)
     ·refine aA DC (uO (⟨eM,fa,eN,dV,dW,er⟩:bN) gJ hs.p6.hb rfl (aZ amP hs (C43 (q).p _ _ _ ⟨eM,fa,eN,dV,dW,er,rfl,(jM.ext hs.aF),(kT.ext hs.aF),(jN.ext hs.aF),(ie.ext hs.aF),(ig.ext hs.aF),(iT.ext hs.aF)⟩ hz) (λ sm he hs=>aA eX (aV hs bL (eI rfl) (rfl) (λ v7 hs=>?_)))));have hs:=hs.enc (cs':=Flat.enc (⟨(x).kind,(max 0 (dO (q).aK (x).gK)),(lT (q).p (dO (fc (q).p) (x).name)),u3,oY,0⟩:bU)) rfl;have hs:=(((hs.p3.drop.p4.drop.p4.drop.p3).p2).p3).p3
      exact ⟨_,_,by grind,by grind,hs⟩
     ·refine ⟨λ jv w'=>jv = .bool (decide (x.kind=9∨x.kind=10))∧pS=w',?_,?_⟩
      ·refine aH (aC (λ VF=>?_) (λ VF=>?_))
       ·exact ⟨wW (by omega),rfl⟩
       ·refine aH ?_;exact ⟨wW (by omega),rfl⟩
      ·rintro _ yZ ⟨rfl,hw⟩ oS;subst hw;refine aC (λ su=>?_) (λ su=>?_)
       ·refine aA DC (have hs:=hs.drew;uO (⟨eM,fa,eN,dV,dW,er⟩:bN) gJ hs.p6.hb rfl (aA jj (aB (v:=.string ((x).name)) j8 hs.p5.hb rfl (cZ ah4 hs (C99 (q).p _ _ ⟨eM,fa,eN,dV,dW,er,rfl,(jM.ext hs.aF),(kT.ext hs.aF),(jN.ext hs.aF),(ie.ext hs.aF),(ig.ext hs.aF),(iT.ext hs.aF)⟩ hz) (λ x67 Cp bY hs=>?_)))));refine ⟨aG j8 (hs.p6.hb.cell rfl),?_⟩;refine aZ A7 hs (C98 _ (gY (q).p) _ _ (hs).fB (by omega)) (λ Iv he hs=>aA eX (aV hs.p1 bL (eI rfl) (rfl) (λ Jy hs=>?_)))
        have hs:=hs.enc (cs':=Flat.enc (⟨(x).kind,(max 0 (dO (q).aK (x).gK)),(dO (gY (q).p) (x).name),u3,oY,0⟩:bU)) rfl;have hs:=((((hs.p1.drop.p3.drop.p4.drop.p4.drop).p3).p2).p3).p3;exact ⟨_,_,by grind,by grind,hs⟩
       ·refine aH (aC (λ KP=>?_) (λ KP=>?_))
        ·refine aA jh (aV hs bL (eI rfl) (rfl) (λ KG hs=>?_));have hs:=hs.enc (cs':=Flat.enc (⟨15,(max 0 (dO (q).aK (x).gK)),0,u3,oY,0⟩:bU)) rfl;have hs:=(((hs.p3.drop.p4.drop.p4.drop.p3).p2).p3).p3;exact ⟨_,_,by grind,by grind,hs⟩
        ·have hs:=(((hs.p3.drop.p4.drop.p4.drop.p3).p2).p3).p3;exact ⟨_,_,by grind,by grind,hs⟩
 ·rintro MH ⟨kk,bb,nj,hbb,hs⟩ GQ;refine aD lL hs.At (aI (x:=(⟨kk,max 0 (dO q.aK x.gK),bb,u3,oY,0⟩:bU)) hs.p3 lL rfl rfl (λ Qv hs=>aD lL hs.At ?_));have hs:=hs.p2.freeze.p3.freeze.p1.fM.dN (Ψ:=(λ w=>bZ.dr w (⟨kk,max 0 (dO q.aK x.gK),bb,u3,oY,0⟩:bU) (⟨kk,max 0 (dO q.aK x.gK),bb,(gi q.aK x.e),(gi q.aK x.f),0⟩:aW))) (λ w h=>⟨_,_,rfl,DL.fp h.1,DL.fp h.2⟩);have hs:=((hs.p1.drop).p1).drop;have h1:lF q.p q.aK x=(⟨kk,max 0 (dO q.aK x.gK),bb,gi q.aK x.e,gi q.aK x.f,0⟩:aW):=by unfold lF; rw [← nj,← hbb]
  exact ⟨_,rfl,by rw [h1]; exact hs.fresh⟩
set_option maxHeartbeats 4000000 in
theorem C104 (q:UI) (qv:vZ) (lv:Value) (t:Bk) (at_ lp out:Int) (N:Nat) (w:World) (hv:bZ.dr w qv q) (hL:DL w lv t.flat) (hz:PZ q.p) (Bw:q.aK.length≤500) (gn:t.str) (hq:∀ x∈t.flat,SzS x) (hb:(0≤at_∧at_+bV t≤16777216)∧(0≤lp∧lp+t.len≤16777216)) (hl:t.len≤1048576) (hN:t.len<N) (hN2:0<N):CR 104 [Flat.val qv,lv,.int .i64 at_,.int .i64 lp,.int .i64 out] w (λ v w'=>lY (fj v (eR q.p q.aK t at_ lp out)) w w'):=by
 obtain ⟨apQ,oo,rfl,VE,pL⟩:=hv;obtain ⟨eM,fa,eN,dV,dW,er,rfl,jM,kT,jN,ie,ig,iT⟩:=VE;have Bd:=t.cO;have hs:=St.start w;refine Y7 _ _ _ _ _ _ _ ?_;unfold S104;refine dE hs (λ acK w1 hs=>?_);obtain ⟨axj,Lk,VG⟩:=(hL).open;have hn49:=VG.1;refine aJ j5 (Lk.ext hs.aF) (aH (aC (λ iO=>?_) (λ iO=>?_)))
 ·cases t with
  | nil=>exact (hs.xI (α:=aW)).fresh
  | cons x a b r=>exact absurd Bd (by rw [show (Bk.cons x a b r).len=a.len+b.len+r.len+1 from rfl]; omega)
 ·obtain ⟨x,a,b,r,rfl⟩:=Bk.CQ (t:=t) (by omega);obtain ⟨GW,pZ⟩:=gx axj (i:=((0:Int)).toNat) (by omega);obtain ⟨eo,wz⟩:=gx ((Bk.cons x a b r).flat) (i:=((0:Int)).toNat) (by omega);obtain ⟨xn,xo,rfl,IH,Qx⟩:=VG.2 _ _ _ pZ wz;refine aQ j5 Lk (by omega) pZ (λ _ uh=>?_);obtain rfl:eo=x:=(Option.some.inj wz).symm;have Lb:=gn;obtain ⟨Fx,hg2,hg3,hg4,Vi,hgb,hgr⟩:=Lb;have Tn:a.len+b.len+r.len+1≤1048576:=hl;have hNn:a.len+b.len+r.len+1<N:=hN;have MG:=a.cO;have Qi:=b.cO;have hlr:=r.cO;have Qn:(Bk.cons eo a b r).flat.length=a.len+b.len+r.len+1:=Bk.cO _
  have hsa:=iR a;have hsb:=iR b;have hsr:=iR r;have hSe:bV (.cons eo a b r)=(if eo.kind=12 then 2+bV a else if eo.kind=11 then (if 0<eo.fF then 1+bV a+bV b+1 else 1+bV a+bV b) else 1)+bV r:=rfl;have hqx:=hq eo (by simp [Bk.flat]);refine aD fY (uh.ext hs.aF) (aN hs qA (λ VH w2 hs=>have hs:=hs.enc (cs':=Flat.enc (⟨0,(ByteArray.mk #[]),(ByteArray.mk #[]),⟨none,0,0⟩,⟨none,0,0⟩,0,0,0,0⟩:bX)) rfl;aI (x:=(⟨(eo).kind,(eo).gK,(eo).name,xn,xo,(eo).n,(eo).body,(eo).fF,(eo).at_⟩:bX)) hs fY rfl rfl (λ w3 hs=>aA mZ (aB (v:=.int .i64 ((eo).body)) bL hs.hb rfl (aO (by omega) (aA iK (aB (v:=.int .i64 ((eo).fF)) bL hs.hb rfl (aO (by omega) (kq j5 (Lk.ext hs.aF) (by omega) (by omega) (by omega) (λ afv ajs=>?_))))))))))
  have II:=DL.cut ajs Lk VG;refine kq j5 (Lk.ext hs.aF) (by omega) (by omega) (by omega) (λ apS ajt=>?_);have VI:=DL.cut ajt Lk VG;have hs:=hs.drew;refine vW (α:=aW) hs kP (λ VJ w4 hs=>?_);refine ⟨λ JW w'=>St w bD [fj JW (FW q.p q.aK eo a b at_ lp out),cE acK (Flat.enc (⟨(⟨eM,fa,eN,dV,dW,er⟩:bN),oo⟩:vZ))] w',?_,?_⟩
  ·refine aA fx (aB (v:=.int .i64 ((eo).kind)) bL hs.p1.hb rfl (aH (aC (λ pG=>?_) (λ pG=>?_))))
   ·have axk:bV (.cons eo a b r)=(if 0<eo.fF then 1+bV a+bV b+1 else 1+bV a+bV b)+bV r:=by rw [hSe,if_neg (by omega),if_pos (by omega)]
    have hma:=gZ q.p q.aK a (at_+1) lp out;have axl:1+bV a+bV b+bV r≤bV (.cons eo a b r):=by rw [axk]; split <;> omega
    refine aA l7 (aB mU hs.p1.hb rfl ?_);have axm:=DL.flat (IH);refine aA zF (aB px hs.p2.hb rfl ?_);have axn:=DL.flat (pL);refine eD YZ (C45 _ _ _ _ _ (axm.ext hs.aF) (axn.ext hs.aF) hqx.2.2.1 (by omega) hqx.2.2.2.2.1) ?_;rintro _ w5 ⟨apT,rfl,bY⟩;have hs:=hs.made bY;refine bE rfl (bE rfl (aO (by omega) (aZ Dn hs (C158 _ a (a.len+1) _ (by have h:=II.ext hs.aF; rw [Bk.NH gn (by omega) (by omega)] at h; exact h) Vi (by omega) (by omega)) (λ w6 he hs=>aO (by omega) ?_))));refine ⟨λ jv w'=>∃ to:Int,jv = .int .i64 to∧to=rB eo a at_∧0≤to∧to≤at_+2+bV a∧St w bD [bK apT (gi q.aK eo.e),fj VJ ([]:List aW),cE VH (Flat.enc (⟨(eo).kind,(eo).gK,(eo).name,xn,xo,(eo).n,(eo).body,(eo).fF,(eo).at_⟩:bX)),cE acK (Flat.enc (⟨(⟨eM,fa,eN,dV,dW,er⟩:bN),oo⟩:vZ))] w',?_,?_⟩
    ·refine aA iK (aB (v:=.int .i64 ((eo).fF)) bL hs.p2.hb rfl (dB (aC (λ oh=>?_) (λ oh=>?_))))
     ·refine aO (by omega) ?_;have hs:=hs.p3.p3.p3.p3;exact ⟨_,rfl,by unfold rB; grind,by omega,by omega,hs⟩
     ·have hs:=hs.p3.p3.p3.p3;exact ⟨_,rfl,by unfold rB; grind,by omega,by omega,hs⟩
    ·rintro _ w7 ⟨to,rfl,hto,hto0,hto1,hs⟩ fy;obtain ⟨VK,rfl⟩:=(hs).fR;refine pop (Il _ _ _ _ _) (have hs:=hs.freeze.dN (Ψ:=(λ w=>bZ.dr w (⟨12,0,0,VK,⟨none,0,0⟩,to⟩:bU) (⟨12,0,0,(gi ((q).aK) ((eo).e)),[],to⟩:aW))) (λ w h=>⟨_,_,rfl,DL.fp h,DL.nil _⟩);eK (s:=(⟨12,0,0,VK,⟨none,0,0⟩,to⟩:bU)) (x:=(⟨12,0,0,(gi ((q).aK) ((eo).e)),[],to⟩:aW)) hs kP (by decide) (λ afy w8 hs=>have hs:=hs.p1;ee hs kP (by simp only [List.length_append,List.length_cons,List.length_nil]; omega) (by decide) (λ apU w9 hs=>aD BZ hs.p2.At (aO (by omega) (cZ JY hs (C104 q _ _ a (at_+1) (lp) (out) (N - 1) _ ⟨(⟨eM,fa,eN,dV,dW,er⟩:bN),oo,rfl,⟨eM,fa,eN,dV,dW,er,rfl,(jM.ext hs.aF),(kT.ext hs.aF),(jN.ext hs.aF),(ie.ext hs.aF),(ig.ext hs.aF),(iT.ext hs.aF)⟩,(pL.ext hs.aF)⟩ (by have h:=II.ext hs.aF; rw [Bk.NH gn (by omega) (by omega)] at h; exact h) hz Bw Vi (λ y hy=>hq y (by simp [Bk.flat,hy])) (by omega) (by omega) (by omega) (by omega)) (λ x83 pS bY hs=>have hs:=hs.p1;ee hs kP (by simp only [List.length_append,List.length_cons,List.length_nil]; omega) (by decide) (λ afz sU hs=>?_)))))))
     refine ⟨λ r16 w'=>St w bD [fj r16 (((([]:List aW)++[(⟨12,0,0,(gi (q.aK) ((eo).e)),[],to⟩:aW)])++(eR q.p q.aK a (at_+1) (lp) (out)))++(if 0<eo.fF then [(⟨11,0,0,[],[],(to+(bV b))⟩:aW)] else [])),cE VH (Flat.enc (⟨(eo).kind,(eo).gK,(eo).name,xn,xo,(eo).n,(eo).body,(eo).fF,(eo).at_⟩:bX)),cE acK (Flat.enc (⟨(⟨eM,fa,eN,dV,dW,er⟩:bN),oo⟩:vZ))] w',?_,?_⟩
     ·refine aA iK (aB (v:=.int .i64 ((eo).fF)) bL hs.p1.hb rfl (dB (aC (λ zW=>?_) (λ zW=>?_))))
      ·refine aZ Dn hs (C158 _ b (b.len+1) _ (by have h:=VI.ext hs.aF; rw [Bk.acF gn (by omega) (by omega)] at h; exact h) hgb (by omega) (by omega)) (λ vm he hs=>aO (by omega) (pop (DF _ _) (have hs:=hs.gF (Φ:=(λ w=>bZ.dr w (⟨11,0,0,⟨none,0,0⟩,⟨none,0,0⟩,(to+(bV b))⟩:bU) (⟨11,0,0,[],[],(to+(bV b))⟩:aW))) (λ w=>⟨_,_,rfl,DL.nil _,DL.nil _⟩);eK (s:=(⟨11,0,0,⟨none,0,0⟩,⟨none,0,0⟩,(to+(bV b))⟩:bU)) (x:=(⟨11,0,0,[],[],(to+(bV b))⟩:aW)) hs kP (by decide) (λ s_x94 vn hs=>have hs:=hs.p1;ee hs kP (by simp only [List.length_append,List.length_cons,List.length_nil]; omega) (by decide) (λ s_x95 sm hs=>?_)))))
       have hs:=hs.p2.p2.p2;have hh:(((([]:List aW)++[(⟨12,0,0,(gi ((q).aK) ((eo).e)),[],to⟩:aW)])++(eR q.p q.aK a (at_+1) (lp) (out)))++[(⟨11,0,0,[],[],(to+(bV b))⟩:aW)])=(((([]:List aW)++[(⟨12,0,0,(gi (q.aK) ((eo).e)),[],to⟩:aW)])++(eR q.p q.aK a (at_+1) (lp) (out)))++(if 0<eo.fF then [(⟨11,0,0,[],[],(to+(bV b))⟩:aW)] else [])):=by rw [if_pos (by omega)]
       rw [hh] at hs;exact hs
      ·have hs:=hs.p2.p2.p2;have hh:((([]:List aW)++[(⟨12,0,0,(gi ((q).aK) ((eo).e)),[],to⟩:aW)])++(eR q.p q.aK a (at_+1) (lp) (out)))=(((([]:List aW)++[(⟨12,0,0,(gi (q.aK) ((eo).e)),[],to⟩:aW)])++(eR q.p q.aK a (at_+1) (lp) (out)))++(if 0<eo.fF then [(⟨11,0,0,[],[],(to+(bV b))⟩:aW)] else [])):=by rw [if_neg (by omega)]; simp
       rw [hh] at hs;exact hs
     ·rintro r16 v7 hs jB;have tB:=gZ q.p q.aK b to lp out;refine aD BZ hs.p2.At (cZ JY hs (C104 q _ _ b (to) (lp) (out) (N - 1) _ ⟨(⟨eM,fa,eN,dV,dW,er⟩:bN),oo,rfl,⟨eM,fa,eN,dV,dW,er,rfl,(jM.ext hs.aF),(kT.ext hs.aF),(jN.ext hs.aF),(ie.ext hs.aF),(ig.ext hs.aF),(iT.ext hs.aF)⟩,(pL.ext hs.aF)⟩ (by have h:=VI.ext hs.aF; rw [Bk.acF gn (by omega) (by omega)] at h; exact h) hz Bw hgb (λ y hy=>hq y (by simp [Bk.flat,hy])) (by rw [hto]; unfold rB; split <;> omega) (by omega) (by omega) (by omega)) (λ x102 yZ bY hs=>have hs:=hs.p1;ee hs kP (by simp only [List.length_append,List.length_cons,List.length_nil]; split <;> simp only [List.length_cons,List.length_nil] <;> omega) (by decide) (λ axp Cp hs=>?_)))
      have hs:=(hs.p1.drop.p1).p1;have hh:((((([]:List aW)++[(⟨12,0,0,(gi (q.aK) ((eo).e)),[],to⟩:aW)])++(eR q.p q.aK a (at_+1) (lp) (out)))++(if 0<eo.fF then [(⟨11,0,0,[],[],(to+(bV b))⟩:aW)] else []))++(eR q.p q.aK b (to) (lp) (out)))=FW q.p q.aK eo a b at_ lp out:=by unfold FW; simp [*]
      rw [hh] at hs;exact hs
   ·refine aH (aC (λ Bx=>?_) (λ Bx=>?_))
    ·have axl:bV (.cons eo a b r)=2+bV a+bV r:=by rw [hSe,if_pos (by omega)]
     have hma:=gZ q.p q.aK a (at_+1) (lp+1) (at_+2+bV a);refine aO (by omega) (aZ Dn hs (C158 _ a (a.len+1) _ (by have h:=II.ext hs.aF; rw [Bk.NH gn (by omega) (by omega)] at h; exact h) Vi (by omega) (by omega)) (λ Iv he hs=>aO (by omega) (aA tQ (aB (v:=.int .i64 ((eo).n)) bL hs.p1.hb rfl (pop (Ij _ _ _) (have hs:=hs.gF (Φ:=(λ w=>bZ.dr w (⟨13,lp,(eo).n,⟨none,0,0⟩,⟨none,0,0⟩,0⟩:bU) (⟨13,lp,(eo).n,[],[],0⟩:aW))) (λ w=>⟨_,_,rfl,DL.nil _,DL.nil _⟩);eK (s:=(⟨13,lp,(eo).n,⟨none,0,0⟩,⟨none,0,0⟩,0⟩:bU)) (x:=(⟨13,lp,(eo).n,[],[],0⟩:aW)) hs kP (by decide) (λ VL Jy hs=>have hs:=hs.p1;ee hs kP (by simp only [List.length_append,List.length_cons,List.length_nil]; omega) (by decide) (λ axq KG hs=>aD BZ hs.p2.At (aO (by omega) (aO (by omega) (cZ JY hs (C104 q _ _ a (at_+1) (lp+1) (at_+2+bV a) (N - 1) _ ⟨(⟨eM,fa,eN,dV,dW,er⟩:bN),oo,rfl,⟨eM,fa,eN,dV,dW,er,rfl,(jM.ext hs.aF),(kT.ext hs.aF),(jN.ext hs.aF),(ie.ext hs.aF),(ig.ext hs.aF),(iT.ext hs.aF)⟩,(pL.ext hs.aF)⟩ (by have h:=II.ext hs.aF; rw [Bk.NH gn (by omega) (by omega)] at h; exact h) hz Bw Vi (λ y hy=>hq y (by simp [Bk.flat,hy])) (by omega) (by omega) (by omega) (by omega)) (λ axr MH bY hs=>have hs:=hs.p1;ee hs kP (by simp only [List.length_append,List.length_cons,List.length_nil]; omega) (by decide) (λ axs Qv hs=>?_)))))))))))))
     refine aO (by omega) (pop (Ik _ _ _) (have hs:=hs.gF (Φ:=(λ w=>bZ.dr w (⟨14,lp,0,⟨none,0,0⟩,⟨none,0,0⟩,(at_+1)⟩:bU) (⟨14,lp,0,[],[],(at_+1)⟩:aW))) (λ w=>⟨_,_,rfl,DL.nil _,DL.nil _⟩);eK (s:=(⟨14,lp,0,⟨none,0,0⟩,⟨none,0,0⟩,(at_+1)⟩:bU)) (x:=(⟨14,lp,0,[],[],(at_+1)⟩:aW)) hs kP (by decide) (λ axt To hs=>have hs:=hs.p1;ee hs kP (by simp only [List.length_append,List.length_cons,List.length_nil]; omega) (by decide) (λ axu VM hs=>?_))));have hs:=(hs.p1.drop.p1).p1;have hh:(((([]:List aW)++[(⟨13,lp,(eo).n,[],[],0⟩:aW)])++(eR q.p q.aK a (at_+1) (lp+1) (at_+2+bV a)))++[(⟨14,lp,0,[],[],(at_+1)⟩:aW)])=FW q.p q.aK eo a b at_ lp out:=by unfold FW; simp [*]
     rw [hh] at hs;exact hs
    ·refine aH (aC (λ ND=>?_) (λ ND=>?_))
     ·refine pop (DF _ _) (have hs:=hs.gF (Φ:=(λ w=>bZ.dr w (⟨11,0,0,⟨none,0,0⟩,⟨none,0,0⟩,out⟩:bU) (⟨11,0,0,[],[],out⟩:aW))) (λ w=>⟨_,_,rfl,DL.nil _,DL.nil _⟩);eK (s:=(⟨11,0,0,⟨none,0,0⟩,⟨none,0,0⟩,out⟩:bU)) (x:=(⟨11,0,0,[],[],out⟩:aW)) hs kP (by decide) (λ axv Tp hs=>have hs:=hs.p1;ee hs kP (by simp only [List.length_append,List.length_cons,List.length_nil]; omega) (by decide) (λ axw w26 hs=>?_)));have hs:=(hs.p1.drop.p1).p1;have hh:(([]:List aW)++[(⟨11,0,0,[],[],out⟩:aW)])=FW q.p q.aK eo a b at_ lp out:=by unfold FW; simp [*]
      rw [hh] at hs;exact hs
     ·refine aD BZ hs.p2.At (aD fY hs.p1.At (eD anh (C159 q _ eo _ _ ⟨(⟨eM,fa,eN,dV,dW,er⟩:bN),oo,rfl,⟨eM,fa,eN,dV,dW,er,rfl,(jM.ext hs.aF),(kT.ext hs.aF),(jN.ext hs.aF),(ie.ext hs.aF),(ig.ext hs.aF),(iT.ext hs.aF)⟩,(pL.ext hs.aF)⟩ ⟨xn,xo,rfl,(IH.ext hs.aF),(Qx.ext hs.aF)⟩ hz Bw hqx) ?_));rintro _ w27 ⟨aju,rfl,bY⟩;have hs:=hs.made bY;refine eK (s:=aju) (x:=(lF q.p q.aK eo)) hs kP (by decide) (λ apV w28 hs=>have hs:=hs.p1;ee hs kP (by simp only [List.length_append,List.length_cons,List.length_nil]; omega) (by decide) (λ apW w29 hs=>?_))
      have hs:=(hs.p1.drop.p1).p1;have hh:(([]:List aW)++[(lF q.p q.aK eo)])=FW q.p q.aK eo a b at_ lp out:=by unfold FW; simp [*]
      rw [hh] at hs;exact hs
  ·rintro JW w30 hs oS;have hs:=hs.drew;refine aD BZ hs.p1.At (re j5 (Lk.ext hs.aF) (by omega) (by omega) (λ axx acN=>?_));have acO:=DL.PX acN Lk VG;have Ll:=IG q.p q.aK eo a b r at_ lp out;have hmr:=gZ q.p q.aK r (at_+((FW q.p q.aK eo a b at_ lp out).length:Int)) lp out;obtain ⟨atb,acP,acQ,_⟩:=(hs).dl;refine aJ kP acP ?_;rw [acQ];refine aO (by omega) (cZ JY hs (C104 q _ _ r (at_+((FW q.p q.aK eo a b at_ lp out).length:Int)) (lp) (out) (N - 1) _ ⟨(⟨eM,fa,eN,dV,dW,er⟩:bN),oo,rfl,⟨eM,fa,eN,dV,dW,er,rfl,(jM.ext hs.aF),(kT.ext hs.aF),(jN.ext hs.aF),(ie.ext hs.aF),(ig.ext hs.aF),(iT.ext hs.aF)⟩,(pL.ext hs.aF)⟩ (by have h:=acO.ext hs.aF; rw [Bk.acB gn (by omega)] at h; exact h) hz Bw hgr (λ y hy=>hq y (by simp [Bk.flat,hy])) (by omega) (by omega) (by omega) (by omega)) (λ x153 w31 bY hs=>have hs:=hs.p1;ee hs kP (by omega) (by decide) (λ axy w32 hs=>?_)))
   have hs:=(hs.p1).drop;rw [uZ];exact hs.fresh
termination_by N
decreasing_by all_goals omega
theorem NJ (f:Nat→Int) (k:Nat):(List.range k).map f++[f k]=(List.range (k+1)).map f:=by rw [List.range_succ,List.map_append]; rfl
theorem NK (p:cU):(pk p).length=(gG p).length:=by unfold pk; rw [List.length_map]
theorem C44 (p:cU) (pv:bN) (t:dQ) (tv:ei) (b:Bk) (w:World) (hp:bZ.dr w pv p) (ht:bZ.dr w tv t) (hz:PZ p) (KW:SzT t∧t.aK.length≤500) (hbf:t.body=b.flat) (gn:b.str) (hl:b.len≤40) (NL:oU t.body=some b):CR 44 [Flat.val pv,Flat.val tv] w (λ v w'=>∃ cv:cK,v=Flat.val cv∧lY (eU (λ w=>bZ.dr w cv (mi p t))) w w'):=by
 obtain ⟨bH,bQ,bI,aT,aU,aY,rfl,cI,dA,cJ,bR,bO,cA⟩:=hp;obtain ⟨ug,Ac,rfl,Ad,Er⟩:=ht;have hs:=St.start w;refine ahi _ _ _ _ ?_;unfold S44;refine dE hs (λ aiF w1 hs=>dE hs (λ acR w2 hs=>aN hs H9 (λ Cr w3 hs=>have hs:=hs.enc (cs':=Flat.enc (⟨0,0,⟨none,0,0⟩⟩:cK)) rfl;aD gJ hs.p2.At (aA ju (aB px hs.p1.hb rfl ?_)))));have apX:=DL.flat (Ad);refine pop (Nd _ _ _ _ _ _ _ _ _ _ _ _ _ _ _ _ _ _ _ _ _) (aN hs abv (λ acK w4 hs=>have hs:=hs.enc (cs':=Flat.enc (⟨(⟨⟨none,0,0⟩,⟨none,0,0⟩,⟨none,0,0⟩,⟨none,0,0⟩,⟨none,0,0⟩,⟨none,0,0⟩⟩:bN),⟨none,0,0⟩⟩:vZ)) rfl;aI (x:=(⟨(⟨bH,bQ,bI,aT,aU,aY⟩:bN),ug⟩:vZ)) hs BZ rfl rfl (λ w5 hs=>?_)))
 have lC:=iR b;refine aA ju (have hs:=hs.drew;aB px hs.p2.hb rfl (aJ mV (apX.ext hs.aF) (aA qz (aB sS hs.p2.hb rfl (aD BZ hs.At (aA qz (aB sS hs.p2.hb rfl (aZ Pk hs (C103 _ b (b.len+1) _ (by rw [← hbf]; exact (Er.ext hs.aF)) gn (by omega) (by omega)) (λ w6 he hs=>?_)))))))));refine ⟨aG px (hs.p2.hb.cell rfl),?_⟩;refine ⟨fL BZ hs.At,?_⟩;refine ⟨aG sS (hs.p2.hb.cell rfl),?_⟩;refine cZ JY hs (C104 (⟨p,t.aK⟩:UI) _ _ b 0 0 0 (b.len+1) _ (show bZ.dr _ (⟨(⟨bH,bQ,bI,aT,aU,aY⟩:bN),ug⟩:vZ) (⟨p,(t).aK⟩:UI) from ⟨_,_,rfl,⟨bH,bQ,bI,aT,aU,aY,rfl,(cI.ext hs.aF),(dA.ext hs.aF),(cJ.ext hs.aF),(bR.ext hs.aF),(bO.ext hs.aF),(cA.ext hs.aF)⟩,DL.fp (apX.ext hs.aF)⟩) (by rw [← hbf]; exact (Er.ext hs.aF)) hz (by have:=KW.2; show t.aK.length≤500; omega) gn (λ y hy=>KW.1.2.2 y (by rw [hbf]; exact hy)) (by omega) (by omega) (by omega) (by omega)) (λ x19 w7 bY hs=>?_)
 refine ⟨aG px (hs.p3.hb.cell rfl),?_⟩;obtain ⟨IJ,rfl⟩:=(hs).lP;refine pop (Kn _ _ _ _ _) (aI (x:=(⟨(((t).aK).length:Int),(iS b),IJ⟩:cK)) hs.p2 pW rfl rfl (λ w8 hs=>aD pW hs.At ?_));have hs:=hs.p1.jJ.dN (Ψ:=(λ w=>bZ.dr w (⟨(((t).aK).length:Int),(iS b),IJ⟩:cK) (⟨(((t).aK).length:Int),(iS b),(eR p t.aK b 0 0 0)⟩:fm))) (λ w h=>⟨_,rfl,h⟩);have hs:=((((hs.p1.drop.p1.drop).p1).drop).p1).drop;rw [EC NL];exact ⟨_,rfl,hs.fresh⟩
set_option maxHeartbeats 4000000 in
theorem C12 (p:cU) (pv:bN) (w:World) (hp:bZ.dr w pv p) (hz:PZ p):CR 12 [Flat.val pv] w (λ v w'=>∃ uv:dJ,v = .tuple #[Flat.val uv,.int .i64 (gL p)]∧lY (eU (λ w=>bZ.dr w uv (if gL p=0 then ek p else EB))) w w'):=by
 obtain ⟨bH,bQ,bI,aT,aU,aY,rfl,cI,dA,cJ,bR,bO,cA⟩:=hp;have hs:=St.start w;refine agQ _ _ _ ?_;unfold S12;refine dE hs (λ kI w1 hs=>aN hs vP (λ mc w2 hs=>have hs:=hs.enc (cs':=Flat.enc (⟨⟨none,0,0⟩,0,⟨none,0,0⟩,0,⟨none,0,0⟩,(⟨0,0,⟨none,0,0⟩⟩:cK),⟨none,0,0⟩⟩:dJ)) rfl;aD gJ hs.p1.At (eD auE (C40 p _ _ ⟨bH,bQ,bI,aT,aU,aY,rfl,(cI.ext hs.aF),(dA.ext hs.aF),(cJ.ext hs.aF),(bR.ext hs.aF),(bO.ext hs.aF),(cA.ext hs.aF)⟩ hz) ?_)))
 rintro _ w3 ⟨a_x14,rfl,he⟩;have hs:=hs.ext he;refine bE rfl (bE rfl (cQ (aC (λ gh=>?_) (λ gh=>?_))))
 ·refine pop (v:=Flat.val (⟨⟨none,0,0⟩,0,⟨none,0,0⟩,0,⟨none,0,0⟩,(⟨0,0,⟨none,0,0⟩⟩:cK),⟨none,0,0⟩⟩:dJ)) (by kernel_rfl) (aI (x:=(⟨⟨none,0,0⟩,0,⟨none,0,0⟩,0,⟨none,0,0⟩,(⟨0,0,⟨none,0,0⟩⟩:cK),⟨none,0,0⟩⟩:dJ)) hs tK rfl rfl (λ w4 hs=>aD tK hs.At ?_));have hs:=hs.gF (Φ:=(λ w=>bZ.dr w (⟨⟨none,0,0⟩,0,⟨none,0,0⟩,0,⟨none,0,0⟩,(⟨0,0,⟨none,0,0⟩⟩:cK),⟨none,0,0⟩⟩:dJ) (⟨[],0,[],0,[],(⟨0,0,[]⟩:fm),[]⟩:ib))) (λ w=>⟨_,_,_,_,_,rfl,DL.nil _,DL.nil _,DL.nil _,⟨_,rfl,DL.nil _⟩,DL.nil _⟩);have hs:=((hs.p1.drop).p1).drop;rw [if_neg (by simpa using gh)]
  exact ⟨_,rfl,hs.fresh⟩
 ·have zw:gL p=0:=by simpa using gh
  have Sa:=EA zw;have hacl:=m9 hz.toPS;have hffl:=NK p;refine ⟨λ jv w'=>∃ (yI:Nat) (sf:SV),jv = .pointer (some ⟨yI,0,none⟩)∧St w bD [cE yI (Flat.enc (⟨⟨none,0,0⟩,(eg p),sf,((p.locks).length:Int),⟨none,0,0⟩,(⟨0,0,⟨none,0,0⟩⟩:cK),⟨none,0,0⟩⟩:dJ)),bK (Flat.val sf) (pk p),cE kI (Flat.enc (⟨bH,bQ,bI,aT,aU,aY⟩:bN)),cE mc (Flat.enc (⟨⟨none,0,0⟩,0,⟨none,0,0⟩,0,⟨none,0,0⟩,(⟨0,0,⟨none,0,0⟩⟩:cK),⟨none,0,0⟩⟩:dJ))] w',?_,?_⟩
  ·have hs:=hs.drew;refine aD gJ hs.p1.At (aD gJ hs.p1.At (aA rZ (aB jz hs.p1.hb rfl ?_)));have axz:=DL.flat (cJ);refine aJ j4 (axz.ext hs.aF) ?_;refine ⟨?_,?_⟩
   ·refine aZ YY hs (C41 p _ _ ⟨bH,bQ,bI,aT,aU,aY,rfl,(cI.ext hs.aF),(dA.ext hs.aF),(cJ.ext hs.aF),(bR.ext hs.aF),(bO.ext hs.aF),(cA.ext hs.aF)⟩ hz) (λ w5 he hs=>?_);refine ⟨fL gJ hs.p1.At,?_⟩;refine ⟨aG jz (hs.p1.hb.cell rfl),?_⟩;refine ⟨?_,?_⟩
    ·refine cZ ahN hs (C42 p _ _ ⟨bH,bQ,bI,aT,aU,aY,rfl,(cI.ext hs.aF),(dA.ext hs.aF),(cJ.ext hs.aF),(bR.ext hs.aF),(bO.ext hs.aF),(cA.ext hs.aF)⟩ hz) (λ x24 w6 bY hs=>?_);refine ⟨aG jz (hs.p2.hb.cell rfl),?_⟩;obtain ⟨ajw,rfl⟩:=(hs).fR;refine pop (vU _ _ _ _ _) (aN hs vP (λ axA w7 hs=>?_));have hs:=hs.enc (cs':=Flat.enc (⟨⟨none,0,0⟩,0,⟨none,0,0⟩,0,⟨none,0,0⟩,(⟨0,0,⟨none,0,0⟩⟩:cK),⟨none,0,0⟩⟩:dJ)) rfl;refine ⟨fL gJ hs.p3.At,?_⟩;refine ⟨fL gJ hs.p3.At,?_⟩;refine ⟨aG jz (hs.p3.hb.cell rfl),?_⟩
     refine aI (x:=(⟨⟨none,0,0⟩,(eg p),ajw,(((p).locks).length:Int),⟨none,0,0⟩,(⟨0,0,⟨none,0,0⟩⟩:cK),⟨none,0,0⟩⟩:dJ)) hs tK rfl rfl (λ w8 hs=>?_);have hs:=hs.p2.p3.p3.p3;exact ⟨_,_,rfl,hs⟩
    ·refine ⟨?_,?_⟩
     ·refine aN hs vP (λ axB w9 hs=>?_);have hs:=hs.enc (cs':=Flat.enc (⟨⟨none,0,0⟩,0,⟨none,0,0⟩,0,⟨none,0,0⟩,(⟨0,0,⟨none,0,0⟩⟩:cK),⟨none,0,0⟩⟩:dJ)) rfl;refine ⟨fL gJ hs.p2.At,?_⟩;refine ⟨fL gJ hs.p2.At,?_⟩;refine ⟨aG jz (hs.p2.hb.cell rfl),?_⟩;refine cZ ahN hs (C42 p _ _ ⟨bH,bQ,bI,aT,aU,aY,rfl,(cI.ext hs.aF),(dA.ext hs.aF),(cJ.ext hs.aF),(bR.ext hs.aF),(bO.ext hs.aF),(cA.ext hs.aF)⟩ hz) (λ x24_1 pS bY hs=>?_);refine ⟨aG jz (hs.p3.hb.cell rfl),?_⟩;obtain ⟨VN,rfl⟩:=(hs).fR;refine pop (vU _ _ _ _ _) (aI (x:=(⟨⟨none,0,0⟩,(eg p),VN,(((p).locks).length:Int),⟨none,0,0⟩,(⟨0,0,⟨none,0,0⟩⟩:cK),⟨none,0,0⟩⟩:dJ)) hs.p1 tK rfl rfl (λ sU hs=>?_))
      have hs:=hs.p2.p3.p3.p3;exact ⟨_,_,rfl,hs⟩
     ·trivial
   ·refine ⟨?_,?_⟩
    ·refine aN hs vP (λ axC vm hs=>?_);have hs:=hs.enc (cs':=Flat.enc (⟨⟨none,0,0⟩,0,⟨none,0,0⟩,0,⟨none,0,0⟩,(⟨0,0,⟨none,0,0⟩⟩:cK),⟨none,0,0⟩⟩:dJ)) rfl;refine ⟨fL gJ hs.p2.At,?_⟩;refine ⟨fL gJ hs.p2.At,?_⟩;refine ⟨aG jz (hs.p2.hb.cell rfl),?_⟩;refine aZ YY hs (C41 p _ _ ⟨bH,bQ,bI,aT,aU,aY,rfl,(cI.ext hs.aF),(dA.ext hs.aF),(cJ.ext hs.aF),(bR.ext hs.aF),(bO.ext hs.aF),(cA.ext hs.aF)⟩ hz) (λ vn he hs=>?_);refine ⟨fL gJ hs.p2.At,?_⟩;refine ⟨aG jz (hs.p2.hb.cell rfl),?_⟩;refine cZ ahN hs (C42 p _ _ ⟨bH,bQ,bI,aT,aU,aY,rfl,(cI.ext hs.aF),(dA.ext hs.aF),(cJ.ext hs.aF),(bR.ext hs.aF),(bO.ext hs.aF),(cA.ext hs.aF)⟩ hz) (λ x24_2 sm bY hs=>?_)
     refine ⟨aG jz (hs.p3.hb.cell rfl),?_⟩;obtain ⟨VO,rfl⟩:=(hs).fR;refine pop (vU _ _ _ _ _) (aI (x:=(⟨⟨none,0,0⟩,(eg p),VO,(((p).locks).length:Int),⟨none,0,0⟩,(⟨0,0,⟨none,0,0⟩⟩:cK),⟨none,0,0⟩⟩:dJ)) hs.p1 tK rfl rfl (λ v7 hs=>?_));have hs:=hs.p2.p3.p3.p3;exact ⟨_,_,rfl,hs⟩
    ·trivial
  ·rintro _ yZ ⟨yI,sf,rfl,hs⟩ fy;have hs:=(((((hs.fU (α:=Int)).p4).p4).p4).p3).p4;refine ⟨λ m x w1=>∃ (k:Nat) (sl:SV),x = .int .i64 (k:Int)∧m=(gG p).length - k∧k≤(gG p).length∧St w bD [cE yI (Flat.enc (⟨sl,(eg p),sf,((p.locks).length:Int),⟨none,0,0⟩,(⟨0,0,⟨none,0,0⟩⟩:cK),⟨none,0,0⟩⟩:dJ)),bK (Flat.val sl) ((List.range k).map (fun (i:Nat)=>lT p i)),bK (Flat.val sf) (pk p),cE kI (Flat.enc (⟨bH,bQ,bI,aT,aU,aY⟩:bN)),cE mc (Flat.enc (⟨⟨none,0,0⟩,0,⟨none,0,0⟩,0,⟨none,0,0⟩,(⟨0,0,⟨none,0,0⟩⟩:cK),⟨none,0,0⟩⟩:dJ))] w1,⟨_,0,⟨none,0,0⟩,rfl,rfl,by omega,hs⟩,?_⟩
   rintro m _ Cp ⟨k,sl,rfl,rfl,hk,hs⟩ jB;refine aA r8 (aB (v:=Flat.val (sf:SV)) eu hs.hb rfl (aJ dY (hs.p2).fB (aR (aC (λ nB=>?_) (λ nB=>?_)))))
   ·refine aA mz (have hs:=hs.drew;aB (v:=Flat.val (sl:SV)) eu hs.hb rfl (aD gJ hs.p3.At (aZ amP hs (C43 p _ _ _ ⟨bH,bQ,bI,aT,aU,aY,rfl,(cI.ext hs.aF),(dA.ext hs.aF),(cJ.ext hs.aF),(bR.ext hs.aF),(bO.ext hs.aF),(cA.ext hs.aF)⟩ hz) (λ Iv he hs=>?_))));refine ⟨aG eu (hs.hb.cell rfl),?_⟩;refine bW (([(lT p (k:Int))]:List Int)) hs dY rfl rfl (eI rfl) (λ VJ Jy hs=>?_);refine ⟨aG eu (hs.p1.hb.cell rfl),?_⟩;have ajx:=(hs).fB;refine cN hs.p2 dY ajx (by rw [List.length_map,List.length_range,List.length_singleton]; omega) (by decide) (λ s_x42 KG hs=>have hs:=hs.p1.drop;aA mz ?_)
    obtain ⟨VP,rfl⟩:=(hs).fR;refine aV hs.p1 eu (eI rfl) (rfl) (λ MH hs=>have hs:=hs.enc (cs':=Flat.enc (⟨VP,(eg p),sf,((p.locks).length:Int),⟨none,0,0⟩,(⟨0,0,⟨none,0,0⟩⟩:cK),⟨none,0,0⟩⟩:dJ)) rfl;aO (by omega) ?_);have hs:=hs.p4.p4.p4.p4.p4;exact ⟨_,by omega,k+1,VP,rfl,rfl,by omega,by rw [← NJ]; exact hs⟩
   ·have UY:k=(gG p).length:=by omega
    subst UY;have hs:=((((((hs.xI (α:=fm)).p5).p5).p5).p5).p4).p5;refine ⟨λ m x w1=>∃ (kt:Nat) (st:SV),x = .int .i64 (kt:Int)∧m=p.threads.length - kt∧kt≤p.threads.length∧St w bD [cE yI (Flat.enc (⟨sl,(eg p),sf,((p.locks).length:Int),st,(⟨0,0,⟨none,0,0⟩⟩:cK),⟨none,0,0⟩⟩:dJ)),fj (Flat.val st) ((p.threads.take kt).map (mi p)),bK (Flat.val sl) ((List.range (gG p).length).map (fun (i:Nat)=>lT p i)),bK (Flat.val sf) (pk p),cE kI (Flat.enc (⟨bH,bQ,bI,aT,aU,aY⟩:bN)),cE mc (Flat.enc (⟨⟨none,0,0⟩,0,⟨none,0,0⟩,0,⟨none,0,0⟩,(⟨0,0,⟨none,0,0⟩⟩:cK),⟨none,0,0⟩⟩:dJ))] w1,⟨_,0,⟨none,0,0⟩,rfl,rfl,by omega,hs⟩,?_⟩
    rintro m _ Qv ⟨kt,st,rfl,rfl,hkt,hs⟩ oS;have hzth:=hz.threads;refine aA ng (aB jb hs.p4.hb rfl ?_);obtain ⟨axD,apY,apZ⟩:=(bR).open;have hn56:=apZ.1;refine aJ iJ (apY.ext hs.aF) (aR (aC (λ zV=>?_) (λ zV=>?_)))
    ·refine aA r9 (have hs:=hs.drew;aB (v:=Flat.val (st:SV)) FI hs.hb rfl (aD gJ hs.p4.At (aA ng (aB jb hs.p4.hb rfl ?_))));obtain ⟨Lm,oZ⟩:=gx axD (i:=((kt:Int)).toNat) (by omega);obtain ⟨pM,rC⟩:=gx ((p).threads) (i:=((kt:Int)).toNat) (by omega);obtain ⟨NM,NN,rfl,NO,NP⟩:=apZ.2 _ _ _ oZ rC;refine aQ iJ apY (by omega) oZ (λ _ wo=>aD Ih (wo.ext hs.aF) ?_);obtain ⟨tb,hbf,hbs,hbo,yA,hbq,hbx,hbw,NL,hs0,Sb⟩:=Sa.tree (t:=pM) (List.mem_append_left _ (List.mem_of_getElem? rC));have KW:=hz.ni (t:=pM) (List.mem_append_left _ (List.mem_of_getElem? rC))
     refine eD amQ (C44 p _ pM _ tb _ ⟨bH,bQ,bI,aT,aU,aY,rfl,(cI.ext hs.aF),(dA.ext hs.aF),(cJ.ext hs.aF),(bR.ext hs.aF),(bO.ext hs.aF),(cA.ext hs.aF)⟩ ⟨NM,NN,rfl,(NO.ext hs.aF),(NP.ext hs.aF)⟩ hz ⟨KW.1,KW.2.1⟩ hbf hbs yA NL) ?_;rintro _ To ⟨ajy,rfl,bY⟩;have hs:=hs.made bY;refine ⟨aG FI (hs.p1.hb.cell rfl),?_⟩;refine eK (s:=ajy) (x:=(mi p pM)) hs Be (by decide) (λ aoR VM hs=>?_);refine ⟨aG FI (hs.p1.hb.cell rfl),?_⟩;have hs:=hs.p2;refine ee hs Be (by simp; omega) (by decide) (λ s_x61 Tp hs=>aA r9 ?_)
     obtain ⟨IK,rfl⟩:=(hs).lP;refine aV hs.p1 FI (eI rfl) (rfl) (λ w26 hs=>have hs:=hs.enc (cs':=Flat.enc (⟨sl,(eg p),sf,((p.locks).length:Int),IK,(⟨0,0,⟨none,0,0⟩⟩:cK),⟨none,0,0⟩⟩:dJ)) rfl;aO (by omega) ?_);have hs:=hs.p5.p5.p5.p5.p5.p5;exact ⟨_,by omega,kt+1,IK,rfl,rfl,by omega,by rw [← iP (k:=kt) rC]; exact hs⟩
    ·have UY:kt=p.threads.length:=by omega
     subst UY;rw [List.take_length] at hs;refine ⟨λ w'=>∃ rc:cK,St w bD [cE yI (Flat.enc (⟨sl,(eg p),sf,((p.locks).length:Int),st,rc,⟨none,0,0⟩⟩:dJ)),eU (λ w=>bZ.dr w rc (Lj p)),fj (Flat.val st) (p.threads.map (mi p)),bK (Flat.val sl) ((List.range (gG p).length).map (fun (i:Nat)=>lT p i)),bK (Flat.val sf) (pk p),cE kI (Flat.enc (⟨bH,bQ,bI,aT,aU,aY⟩:bN)),cE mc (Flat.enc (⟨⟨none,0,0⟩,0,⟨none,0,0⟩,0,⟨none,0,0⟩,(⟨0,0,⟨none,0,0⟩⟩:cK),⟨none,0,0⟩⟩:dJ))] w',?_,?_⟩
     ·refine aA r7 (aB jb hs.p4.hb rfl ?_);obtain ⟨axF,ap0,ap1⟩:=(bO).open;have hn57:=ap1.1;refine aJ iJ (ap0.ext hs.aF) (dB (aC (λ KO=>?_) (λ KO=>?_)))
      ·have hs:=hs.drew;refine aD gJ hs.p4.At (aA r7 (aB jb hs.p4.hb rfl ?_));obtain ⟨e_x70,VQ⟩:=gx axF (i:=((0:Int)).toNat) (by omega);obtain ⟨Ln,By⟩:=gx ((p).recover) (i:=((0:Int)).toNat) (by omega);obtain ⟨NQ,NR,rfl,NS,NT⟩:=ap1.2 _ _ _ VQ By;refine aQ iJ ap0 (by omega) VQ (λ _ Lo=>aD Ih (Lo.ext hs.aF) ?_);obtain ⟨tb,hbf,hbs,hbo,yA,hbq,hbx,hbw,NL,hs0,Sb⟩:=Sa.tree (t:=Ln) (List.mem_append_right _ (List.mem_of_getElem? By));have KW:=hz.ni (t:=Ln) (List.mem_append_right _ (List.mem_of_getElem? By));refine eD amQ (C44 p _ Ln _ tb _ ⟨bH,bQ,bI,aT,aU,aY,rfl,(cI.ext hs.aF),(dA.ext hs.aF),(cJ.ext hs.aF),(bR.ext hs.aF),(bO.ext hs.aF),(cA.ext hs.aF)⟩ ⟨NQ,NR,rfl,(NS.ext hs.aF),(NT.ext hs.aF)⟩ hz ⟨KW.1,KW.2.1⟩ hbf hbs yA NL) ?_
       rintro _ w27 ⟨VR,rfl,bY⟩;have hs:=hs.made bY;refine aA zA (pq (vs:=Flat.enc VR) hs.p1 pW rfl (eI rfl) (Flat.one _) (λ w28 hs=>?_));have hs:=hs.enc (cs':=Flat.enc (⟨sl,(eg p),sf,((p.locks).length:Int),st,VR,⟨none,0,0⟩⟩:dJ)) rfl;have hs:=hs.p6.p6.p6.p6.p6.p6.p6;have hrm:Lj p=mi p Ln:=by unfold Lj; rw [show p.recover[0]? = some Ln from By]
       exact ⟨_,by rw [hrm]; exact hs⟩
      ·have hs:=hs.gF (Φ:=λ w=>bZ.dr w (⟨0,0,⟨none,0,0⟩⟩:cK) (Lj p)) (λ w=>by rw [show Lj p=Li from by unfold Lj; rw [List.getElem?_eq_none (by omega)]]; exact ⟨_,rfl,DL.nil _⟩);have hs:=hs.p6.p6.p6.p6.p6.p5.p6;exact ⟨_,hs⟩
     ·rintro w29 ⟨rc,hs⟩ GQ;have hs:=((((((((hs.xI (α:=(List nt))).p7).p7).p7).p7).p7).p7).p6).p7;refine ⟨λ m x w1=>∃ (kc:Nat) (sc:SV),x = .int .i64 (kc:Int)∧m=p.cC.length - kc∧kc≤p.cC.length∧St w bD [cE yI (Flat.enc (⟨sl,(eg p),sf,((p.locks).length:Int),st,rc,sc⟩:dJ)),fj (Flat.val sc) ((p.cC.take kc).map (λ c=>gi (oW p) c.e)),eU (λ w=>bZ.dr w rc (Lj p)),fj (Flat.val st) (p.threads.map (mi p)),bK (Flat.val sl) ((List.range (gG p).length).map (fun (i:Nat)=>lT p i)),bK (Flat.val sf) (pk p),cE kI (Flat.enc (⟨bH,bQ,bI,aT,aU,aY⟩:bN)),cE mc (Flat.enc (⟨⟨none,0,0⟩,0,⟨none,0,0⟩,0,⟨none,0,0⟩,(⟨0,0,⟨none,0,0⟩⟩:cK),⟨none,0,0⟩⟩:dJ))] w1,⟨_,0,⟨none,0,0⟩,rfl,rfl,by omega,hs⟩,?_⟩
      rintro m _ w30 ⟨kc,sc,rfl,rfl,hkc,hs⟩ R4;have hzcl:=hz.cC;refine aA kN (aB sR hs.p6.hb rfl ?_);obtain ⟨axG,ap2,ap3⟩:=(cA).open;have hn58:=ap3.1;refine aJ yx (ap2.ext hs.aF) (aR (aC (λ VS=>?_) (λ VS=>?_)))
      ·refine aA kN (have hs:=hs.drew;aB sR hs.p6.hb rfl ?_);obtain ⟨e_x85,VT⟩:=gx axG (i:=((kc:Int)).toNat) (by omega);obtain ⟨afF,IL⟩:=gx ((p).cC) (i:=((kc:Int)).toNat) (by omega);obtain ⟨acS,rfl,acT⟩:=ap3.2 _ _ _ VT IL;refine aQ yx ap2 (by omega) VT (λ _ ap4=>bT acS CK ap4 rfl rfl (λ _ afG=>aD mU (afG.ext hs.aF) ?_));have axH:=DL.flat (acT);refine aD gJ hs.p6.At (aA lK (aB (v:=.int .i64 (eg p)) bL hs.hb rfl (cZ TS hs (C46 p _ _ ⟨bH,bQ,bI,aT,aU,aY,rfl,(cI.ext hs.aF),(dA.ext hs.aF),(cJ.ext hs.aF),(bR.ext hs.aF),(bO.ext hs.aF),(cA.ext hs.aF)⟩ hz) (λ x89 w31 bY hs=>?_))))
       refine ⟨aG sR (hs.p7.hb.cell rfl),?_⟩;refine ⟨fL mU (afG.ext hs.aF),?_⟩;refine ⟨aG bL (hs.p1.hb.cell rfl),?_⟩;have Qq:=mg hz.toPS;have hsl:0≤eg p∧eg p≤(fc p).length:=by unfold eg fc gG; rw [List.length_map,List.length_append]; omega
       refine kQ mV (hs).fB (by omega) (by omega) (λ s_x92 ajz=>eD YZ (C45 _ _ _ _ _ (axH.ext hs.aF) (ajz _ (hs).fB) (hz.zc _ (List.mem_of_getElem? IL)).1 (by rw [List.length_take]; omega) (hz.zc _ (List.mem_of_getElem? IL)).2) ?_);rintro _ w32 ⟨s_x93,rfl,bY⟩;have hs:=hs.made bY;refine bE rfl (bE rfl (aA xb (aB (v:=Flat.val (sc:SV)) RQ hs.p2.hb rfl ?_)));obtain ⟨VU,rfl⟩:=(hs).fR;have hs:=hs.freeze.dN (Ψ:=λ w=>bZ.dr w VU ((gi ((((fc p)).take ((eg p)).toNat)) ((afF).e)))) (λ w h=>DL.fp h);refine eK (s:=VU) (x:=(gi ((((fc p)).take ((eg p)).toNat)) ((afF).e))) hs FJ (by decide) (λ s_x99 w33 hs=>have hs:=hs.p3;ee hs FJ (by simp; omega) (by decide) (λ axI w34 hs=>aA xb ?_))
       obtain ⟨Qy,rfl⟩:=(hs).lP;refine aV hs.p2 RQ (eI rfl) (rfl) (λ w35 hs=>have hs:=hs.enc (cs':=Flat.enc (⟨sl,(eg p),sf,((p.locks).length:Int),st,rc,Qy⟩:dJ)) rfl;aO (by omega) ?_);have hs:=(hs.p2.drop.p7.p7.p7.p7.p7.p7.p7).p7;exact ⟨_,by omega,kc+1,Qy,rfl,rfl,by omega,by rw [← iP (k:=kc) IL]; exact hs⟩
      ·have UY:kc=p.cC.length:=by omega
       subst UY;rw [List.take_length] at hs;refine aD tK hs.At (aI (x:=(⟨sl,(eg p),sf,((p.locks).length:Int),st,rc,sc⟩:dJ)) hs.p7 tK rfl rfl (λ w36 hs=>aD tK hs.At ?_));have hs:=hs.p5.freeze.p6.freeze.p1.fM.p5.jJ.p1.fM.p4.p1.fM.p3.jJ.p1.fM.dN (Ψ:=(λ w=>bZ.dr w (⟨sl,(eg p),sf,((p.locks).length:Int),st,rc,sc⟩:dJ) (⟨((List.range (gG p).length).map (fun (i:Nat)=>lT p i)),(eg p),(pk p),((p.locks).length:Int),(p.threads.map (mi p)),(Lj p),(p.cC.map (λ c=>gi (oW p) c.e))⟩:ib))) (λ w h=>⟨_,_,_,_,_,rfl,DL.fp h.1.1.1.1,DL.fp h.1.1.1.2,h.1.1.2,h.1.2,h.2⟩)
       have hs:=(((hs.p1.drop.p1).drop).p1).drop;rw [if_pos zw];exact ⟨_,by rw [zw],hs.fresh⟩
def nF (s:ByteArray):ByteArray:=s.extract 0 (min (s.size:Int) 40).toNat
theorem o0 (s:ByteArray):(nF s).size≤40:=by
 unfold nF
 rw [ByteArray.size_extract]; omega
def acU (x:cY):cY:={x with name:=nF x.name}
def xM (l:List cY):List cY:=(l.take 60).map acU
def Qz (x:cG):cG:=⟨x.kind,nF x.gK,nF x.name,xM x.e,xM x.f,x.n,x.body,x.fF,x.at_⟩
def ED (l:List cG):List cG:=(l.take 50).map Qz
def acV (c:dG):dG:={c with name:=nF c.name}
def iW (l:List dG):List dG:=(l.take 8).map acV
def ye (t:dQ):dQ:=⟨nF t.name,(t.aK.take 6).map nF,ED t.body,t.at_⟩
def kz (l:List dQ):List dQ:=(l.take 4).map ye
def EE (c:jA):jA:=⟨xM c.e,c.at_⟩
def oA (p:cU):cU:=⟨(p.lines.take 6).map iW,iW p.jT,iW p.locks,kz p.threads,kz p.recover,(p.cC.take 6).map EE⟩
theorem rD {α:Type} {xs:List α} {k m:Nat} (h:k≤m) (h2:k≤xs.length) (h3:¬ (k<xs.length∧k<m)):xs.take k=xs.take m:=by
 rcases Nat.lt_or_ge k m with h4 | h4
 ·rw [List.take_of_length_le (by omega),List.take_of_length_le (by omega)]
 ·rw [show k=m from by omega]
theorem EF (l:List cY):(xM l).length≤60:=by unfold xM; rw [List.length_map,List.length_take]; omega
theorem IM (l:List cY):∀ y∈xM l,y.name.size≤1048576:=by
 intro y hy
 obtain ⟨x,_,rfl⟩:=List.mem_map.1 hy
 have:=o0 x.name
 show (nF x.name).size≤_
 omega
theorem EG (l:List dG):∀ y∈iW l,y.name.size≤1048576:=by
 intro y hy
 obtain ⟨x,_,rfl⟩:=List.mem_map.1 hy
 have:=o0 x.name
 show (nF x.name).size≤_
 omega
theorem Bz (l:List dG):(iW l).length≤8:=by unfold iW; rw [List.length_map,List.length_take]; omega
theorem VV (l:List cG):(ED l).length≤50:=by unfold ED; rw [List.length_map,List.length_take]; omega
theorem EH (l:List dQ):(kz l).length≤4:=by unfold kz; rw [List.length_map,List.length_take]; omega
theorem acW (l:List cG):∀ y∈ED l,SzS y:=by
 intro y hy
 obtain ⟨x,_,rfl⟩:=List.mem_map.1 hy
 have h1:=o0 x.gK
 have h2:=o0 x.name
 have h3:=EF x.e
 have h4:=EF x.f
 exact ⟨by show (nF x.gK).size≤_; omega,by show (nF x.name).size≤_; omega,by show (xM x.e).length≤_; omega,by show (xM x.f).length≤_; omega,IM _,IM _⟩
theorem NU (t:dQ):(ye t).aK.length≤6:=by show ((t.aK.take 6).map nF).length≤6; rw [List.length_map,List.length_take]; omega
theorem GX (l:List dQ):∀ y∈kz l,SzT y∧y.aK.length≤500∧y.body.length≤500:=by
 intro y hy
 obtain ⟨x,_,rfl⟩:=List.mem_map.1 hy
 have h1:=o0 x.name
 have h2:=NU x
 have h3:=VV x.body
 refine ⟨⟨by show (nF x.name).size≤_; omega,λ s hs=>?_,acW _⟩,by omega,by show (ED x.body).length≤_; omega⟩
 obtain ⟨z,_,rfl⟩:=List.mem_map.1 (show s∈(x.aK.take 6).map nF from hs)
 have:=o0 z
 omega
theorem QA (p:cU):PZ (oA p):=by
 have hl:(oA p).lines.length≤6:=by show ((p.lines.take 6).map iW).length≤6; rw [List.length_map,List.length_take]; omega
 have hc:(oA p).cC.length≤6:=by show ((p.cC.take 6).map EE).length≤6; rw [List.length_map,List.length_take]; omega
 have h1:=Bz p.jT
 have h2:=Bz p.locks
 have h3:=EH p.threads
 have h4:=EH p.recover
 have hth:∀ t∈(oA p).threads++(oA p).recover,SzT t∧t.aK.length≤500∧t.body.length≤500:=by
  intro t ht
  rcases List.mem_append.1 ht with h | h
  ·exact GX _ t h
  ·exact GX _ t h
 refine {lines:=by omega,line:=λ l h=>?_,jT:=by show (iW p.jT).length≤500; omega,locks:=by show (iW p.locks).length≤500; omega,threads:=by show (kz p.threads).length≤500; omega,recover:=by show (kz p.recover).length≤500; omega,cC:=by omega,aK:=λ t ht=>(hth t ht).2.1,body:=λ t ht=>(hth t ht).2.2,zl:=λ l h c hc=>?_,zv:=EG _,zk:=EG _,zt:=λ t ht=>(hth t (List.mem_append_left _ ht)).1,zr:=λ t ht=>(hth t (List.mem_append_right _ ht)).1,zc:=λ c h=>?_}
 ·obtain ⟨x,_,rfl⟩:=List.mem_map.1 (show l∈(p.lines.take 6).map iW from h)
  have:=Bz x; omega
 ·obtain ⟨x,_,rfl⟩:=List.mem_map.1 (show l∈(p.lines.take 6).map iW from h)
  exact EG x c hc
 ·obtain ⟨x,_,rfl⟩:=List.mem_map.1 (show c∈(p.cC.take 6).map EE from h)
  have:=EF x.e
  exact ⟨by show (xM x.e).length≤_; omega,IM _⟩
theorem C39 (lv:Value) (xs:List cY) (w:World) (hL:eJ (λ _=>True) w lv xs):CR 39 [lv] w (λ v w'=>lY (bK v (xM xs)) w w'):=by
 have hs:=St.start w;refine ahc _ _ _ ?_;unfold S39;refine bW (([]:List cY)) hs lX rfl rfl (eI rfl) (λ acA w1 hs=>?_);refine ⟨λ m fX x w1=>∃ k:Nat,x = .int .i64 (k:Int)∧m=60 - k∧k≤60∧k≤xs.length∧St w bD [bK fX ((xs.take k).map acU)] w1,⟨_,0,rfl,rfl,by omega,by omega,hs⟩,?_⟩;rintro m fX _ w2 ⟨k,rfl,rfl,hk,Fu,hs⟩ fy;have IN:((xs.take k).map acU).length=k:=by rw [List.length_map,List.length_take]; omega
 refine ⟨λ jv w'=>jv = .bool (decide (k<xs.length∧k<60))∧St w bD [bK fX ((xs.take k).map acU)] w',?_,?_⟩
 ·refine aJ lX (hL.ext hs.aF) (aR (aC (λ fO=>?_) (λ fO=>?_)))
  ·refine aR ?_;exact ⟨vb (by grind),hs⟩
  ·exact ⟨vb (by grind),hs⟩
 ·rintro _ w3 ⟨rfl,hs⟩ jB;refine aX (λ gQ=>?_) (λ gQ=>?_)
  ·have ap5:k<xs.length∧k<60:=by simpa using gQ
   obtain ⟨iX,fH⟩:=gx (xs) (i:=((k:Int)).toNat) (by omega);refine aQ lX hL (by omega) fH (λ _ jL=>aD Kg (jL.ext hs.aF) (aN hs PN (λ uf w4 hs=>aI (x:=iX) hs Kg rfl rfl (λ w5 hs=>aA ld (aB (v:=.string ((iX).name)) j8 hs.hb rfl (aA ld (aB (v:=.string ((iX).name)) j8 hs.hb rfl (gg gI (uN (oR gI (by omega) (by omega) (aA ld (aV hs j8 (eI rfl) (rfl) (λ w6 hs=>?_)))))))))))));have hs:=hs.enc (cs':=Flat.enc ({iX with name:=(((iX).name).extract 0 ((min (((iX).name).size:Int) 40)).toNat)}:cY)) rfl;refine aD Kg hs.At (bW ([({iX with name:=(((iX).name).extract 0 ((min (((iX).name).size:Int) 40)).toNat)}:cY)]) hs lX rfl rfl (eI rfl) (λ VA w7 hs=>?_))
   have NV:=(hs).fB;refine cN hs.p2 lX NV (by rw [IN,List.length_singleton]; omega) (by decide) (λ VW w8 hs=>have hs:=hs.p1.drop;aO (by omega) ?_);have hs:=(hs.p1).drop;exact ⟨_,by omega,k+1,rfl,rfl,by omega,by omega,by rw [← iP (k:=k) fH]; exact hs⟩
  ·rw [rD (xs:=xs) (k:=k) (m:=60) (by omega) (by omega) (of_decide_eq_false gQ)] at hs;exact hs.fresh
theorem C37 (lv:Value) (xs:List dG) (w:World) (hL:eJ (λ _=>True) w lv xs):CR 37 [lv] w (λ v w'=>lY (bK v (iW xs)) w w'):=by
 have hs:=St.start w;refine ag9 _ _ _ ?_;unfold S37;refine bW (([]:List dG)) hs j4 rfl rfl (eI rfl) (λ acA w1 hs=>?_);refine ⟨λ m fX x w1=>∃ k:Nat,x = .int .i64 (k:Int)∧m=8 - k∧k≤8∧k≤xs.length∧St w bD [bK fX ((xs.take k).map acV)] w1,⟨_,0,rfl,rfl,by omega,by omega,hs⟩,?_⟩;rintro m fX _ w2 ⟨k,rfl,rfl,hk,Fu,hs⟩ fy;have IN:((xs.take k).map acV).length=k:=by rw [List.length_map,List.length_take]; omega
 refine ⟨λ jv w'=>jv = .bool (decide (k<xs.length∧k<8))∧St w bD [bK fX ((xs.take k).map acV)] w',?_,?_⟩
 ·refine aJ j4 (hL.ext hs.aF) (aR (aC (λ fO=>?_) (λ fO=>?_)))
  ·refine aR ?_;exact ⟨vb (by grind),hs⟩
  ·exact ⟨vb (by grind),hs⟩
 ·rintro _ w3 ⟨rfl,hs⟩ jB;refine aX (λ gQ=>?_) (λ gQ=>?_)
  ·have ap5:k<xs.length∧k<8:=by simpa using gQ
   obtain ⟨iX,fH⟩:=gx (xs) (i:=((k:Int)).toNat) (by omega);refine aQ j4 hL (by omega) fH (λ _ jL=>aD xY (jL.ext hs.aF) (aN hs CL (λ ajB w4 hs=>aI (x:=iX) hs xY rfl rfl (λ w5 hs=>aA pB (aB (v:=.string ((iX).name)) j8 hs.hb rfl (aA pB (aB (v:=.string ((iX).name)) j8 hs.hb rfl (gg gI (uN (oR gI (by omega) (by omega) (aA pB (aV hs j8 (eI rfl) (rfl) (λ w6 hs=>?_)))))))))))));have hs:=hs.enc (cs':=Flat.enc ({iX with name:=(((iX).name).extract 0 ((min (((iX).name).size:Int) 40)).toNat)}:dG)) rfl;refine aD xY hs.At (bW ([({iX with name:=(((iX).name).extract 0 ((min (((iX).name).size:Int) 40)).toNat)}:dG)]) hs j4 rfl rfl (eI rfl) (λ VA w7 hs=>?_))
   have NV:=(hs).fB;refine cN hs.p2 j4 NV (by rw [IN,List.length_singleton]; omega) (by decide) (λ VW w8 hs=>have hs:=hs.p1.drop;aO (by omega) ?_);have hs:=(hs.p1).drop;exact ⟨_,by omega,k+1,rfl,rfl,by omega,by omega,by rw [← iP (k:=k) fH]; exact hs⟩
  ·rw [rD (xs:=xs) (k:=k) (m:=8) (by omega) (by omega) (of_decide_eq_false gQ)] at hs;exact hs.fresh
theorem C92 (lv:Value) (xs:List cG) (w:World) (hL:DL w lv xs):CR 92 [lv] w (λ v w'=>lY (fj v (ED xs)) w w'):=by
 have hs:=St.start w;refine ahT _ _ _ ?_;unfold S92;refine vW (α:=cG) hs j5 (λ acA w1 hs=>?_);refine ⟨λ m fX x w1=>∃ k:Nat,x = .int .i64 (k:Int)∧m=50 - k∧k≤50∧k≤xs.length∧St w bD [fj fX ((xs.take k).map Qz)] w1,⟨_,0,rfl,rfl,by omega,by omega,hs⟩,?_⟩;rintro m fX _ w2 ⟨k,rfl,rfl,hk,Fu,hs⟩ fy;have IN:((xs.take k).map Qz).length=k:=by rw [List.length_map,List.length_take]; omega
 refine ⟨λ jv w'=>jv = .bool (decide (k<xs.length∧k<50))∧St w bD [fj fX ((xs.take k).map Qz)] w',?_,?_⟩
 ·obtain ⟨ts60,axJ,axK⟩:=(hL).open;have hn60:=axK.1;refine aJ j5 (axJ.ext hs.aF) (aR (aC (λ fO=>?_) (λ fO=>?_)))
  ·refine aR ?_;exact ⟨vb (by grind),hs⟩
  ·exact ⟨vb (by grind),hs⟩
 ·rintro _ w3 ⟨rfl,hs⟩ jB;refine aX (λ gQ=>?_) (λ gQ=>?_)
  ·have ap5:k<xs.length∧k<50:=by simpa using gQ
   obtain ⟨axL,axM,ap6⟩:=(hL).open;have hn61:=ap6.1;obtain ⟨iX,fH⟩:=gx axL (i:=((k:Int)).toNat) (by omega);obtain ⟨dI,od⟩:=gx (xs) (i:=((k:Int)).toNat) (by omega);obtain ⟨CT,Ai,rfl,acY,acZ⟩:=ap6.2 _ _ _ fH od;refine aQ j5 axM (by omega) fH (λ _ jL=>aD fY (jL.ext hs.aF) (aN hs qA (λ uf w4 hs=>have hs:=hs.enc (cs':=Flat.enc (⟨0,(ByteArray.mk #[]),(ByteArray.mk #[]),⟨none,0,0⟩,⟨none,0,0⟩,0,0,0,0⟩:bX)) rfl;aI (x:=(⟨(dI).kind,(dI).gK,(dI).name,CT,Ai,(dI).n,(dI).body,(dI).fF,(dI).at_⟩:bX)) hs fY rfl rfl (λ w5 hs=>aA l6 (aB (v:=.string ((dI).gK)) j8 hs.hb rfl (aA l6 (aB (v:=.string ((dI).gK)) j8 hs.hb rfl (gg gI (uN (oR gI (by omega) (by omega) (aA l6 ?_)))))))))))
   have axN:=DL.flat (acY);have axO:=DL.flat (acZ);refine aV hs j8 (eI rfl) (rfl) (λ w6 hs=>have hs:=hs.enc (cs':=Flat.enc (⟨(dI).kind,(((dI).gK).extract 0 ((min (((dI).gK).size:Int) 40)).toNat),(dI).name,CT,Ai,(dI).n,(dI).body,(dI).fF,(dI).at_⟩:bX)) rfl;aA jj (aB (v:=.string (dI).name) j8 hs.hb rfl (aA jj (aB (v:=.string (dI).name) j8 hs.hb rfl (gg gI (uN (oR gI (by omega) (by omega) (aA jj (aV hs j8 (eI rfl) (rfl) (λ w7 hs=>have hs:=hs.enc (cs':=Flat.enc (⟨(dI).kind,(((dI).gK).extract 0 ((min (((dI).gK).size:Int) 40)).toNat),(((dI).name).extract 0 ((min (((dI).name).size:Int) 40)).toNat),CT,Ai,(dI).n,(dI).body,(dI).fF,(dI).at_⟩:bX)) rfl;aA l7 (aB (v:=Flat.val (CT:SV)) mU hs.hb rfl (cZ ahM hs (C39 _ _ _ (axN.ext hs.aF)) (λ x39 w8 bY hs=>?_)))))))))))))
   refine aA l7 ?_;obtain ⟨yJ,rfl⟩:=(hs).fR;refine aV hs.p1 mU (eI rfl) (rfl) (λ w9 hs=>have hs:=hs.enc (cs':=Flat.enc (⟨(dI).kind,(((dI).gK).extract 0 ((min (((dI).gK).size:Int) 40)).toNat),(((dI).name).extract 0 ((min (((dI).name).size:Int) 40)).toNat),yJ,Ai,(dI).n,(dI).body,(dI).fF,(dI).at_⟩:bX)) rfl;aA nV (aB (v:=Flat.val (Ai:SV)) mU hs.hb rfl (cZ ahM hs (C39 _ _ _ (axO.ext hs.aF)) (λ x43 pS bY hs=>aA nV ?_))));obtain ⟨BA,rfl⟩:=(hs).fR;refine aV hs.p1 mU (eI rfl) (rfl) (λ sU hs=>have hs:=hs.enc (cs':=Flat.enc (⟨(dI).kind,(((dI).gK).extract 0 ((min (((dI).gK).size:Int) 40)).toNat),(((dI).name).extract 0 ((min (((dI).name).size:Int) 40)).toNat),yJ,BA,(dI).n,(dI).body,(dI).fF,(dI).at_⟩:bX)) rfl;aD fY hs.At (have hs:=hs.p2.freeze.p2.freeze.p1.fM.dN (Ψ:=(λ w=>bZ.dr w (⟨(dI).kind,(((dI).gK).extract 0 ((min (((dI).gK).size:Int) 40)).toNat),(((dI).name).extract 0 ((min (((dI).name).size:Int) 40)).toNat),yJ,BA,(dI).n,(dI).body,(dI).fF,(dI).at_⟩:bX) (⟨(dI).kind,(((dI).gK).extract 0 ((min (((dI).gK).size:Int) 40)).toNat),(((dI).name).extract 0 ((min (((dI).name).size:Int) 40)).toNat),(xM (dI).e),(xM (dI).f),(dI).n,(dI).body,(dI).fF,(dI).at_⟩:cG))) (λ w h=>⟨_,_,rfl,DL.fp h.1,DL.fp h.2⟩);eK (s:=(⟨(dI).kind,(((dI).gK).extract 0 ((min (((dI).gK).size:Int) 40)).toNat),(((dI).name).extract 0 ((min (((dI).name).size:Int) 40)).toNat),yJ,BA,(dI).n,(dI).body,(dI).fF,(dI).at_⟩:bX)) (x:=(⟨(dI).kind,(((dI).gK).extract 0 ((min (((dI).gK).size:Int) 40)).toNat),(((dI).name).extract 0 ((min (((dI).name).size:Int) 40)).toNat),(xM (dI).e),(xM (dI).f),(dI).n,(dI).body,(dI).fF,(dI).at_⟩:cG)) hs j5 (by decide) (λ ap7 vm hs=>have hs:=hs.p2;ee hs j5 (by rw [IN,List.length_singleton]; omega) (by decide) (λ apV vn hs=>aO (by omega) ?_))))
   have hs:=(hs.p1).drop;exact ⟨_,by omega,k+1,rfl,rfl,by omega,by omega,by rw [← iP (k:=k) od]; exact hs⟩
  ·rw [rD (xs:=xs) (k:=k) (m:=50) (by omega) (by omega) (of_decide_eq_false gQ)] at hs;exact hs.fresh
set_option maxHeartbeats 4000000 in
theorem C38 (lv:Value) (xs:List dQ) (w:World) (hL:DL w lv xs):CR 38 [lv] w (λ v w'=>lY (fj v (kz xs)) w w'):=by
 have hs:=St.start w;refine ahb _ _ _ ?_;unfold S38;refine vW (α:=dQ) hs iJ (λ Lc w1 hs=>?_);refine ⟨λ m fX x w1=>∃ k:Nat,x = .int .i64 (k:Int)∧m=4 - k∧k≤4∧k≤xs.length∧St w bD [fj fX ((xs.take k).map ye)] w1,⟨_,0,rfl,rfl,by omega,by omega,hs⟩,?_⟩;rintro m fX _ w2 ⟨k,rfl,rfl,hk,Fu,hs⟩ fy;have IN:((xs.take k).map ye).length=k:=by rw [List.length_map,List.length_take]; omega
 refine ⟨λ jv w'=>jv = .bool (decide (k<xs.length∧k<4))∧St w bD [fj fX ((xs.take k).map ye)] w',?_,?_⟩
 ·obtain ⟨ts64,axP,axQ⟩:=(hL).open;have hn64:=axQ.1;refine aJ iJ (axP.ext hs.aF) (aR (aC (λ gP=>?_) (λ gP=>?_)))
  ·refine aR ?_;exact ⟨vb (by grind),hs⟩
  ·exact ⟨vb (by grind),hs⟩
 ·rintro _ w3 ⟨rfl,hs⟩ jB;refine aX (λ jm=>?_) (λ jm=>?_)
  ·have hc15:k<xs.length∧k<4:=by simpa using jm
   obtain ⟨axR,NW,ap8⟩:=(hL).open;have hn65:=ap8.1;obtain ⟨afH,o7⟩:∃ xx,axR[((k:Int)).toNat]? = some xx:=⟨_,List.getElem?_eq_getElem (by omega)⟩;obtain ⟨fJ,VX⟩:∃ xx,(xs)[((k:Int)).toNat]? = some xx:=⟨_,List.getElem?_eq_getElem (by omega)⟩;obtain ⟨yK,NX,rfl,EI,EJ⟩:=ap8.2 _ _ _ o7 VX;refine ⟨λ nk w'=>St w bD [fj nk ((xs.take k).map ye++[ye fJ])] w',?_,?_⟩
   ·refine ⟨λ jv w'=>∃ (EK:Nat) (FX:SV),jv = .pointer (some ⟨EK,0,none⟩)∧St w bD [cE EK (Flat.enc (⟨((fJ).name.extract 0 (min (((fJ).name).size:Int) 40).toNat),⟨none,0,0⟩,FX,(fJ).at_⟩:ei)),fj (Flat.val FX) (ED (fJ).body),fj fX ((xs.take k).map ye)] w',?_,?_⟩
    ·refine aQ iJ NW (by omega) o7 (λ _ Lp=>bT (fJ).name zB Lp rfl rfl (λ _ wA=>have hs:=hs.drew;aD j8 (wA.ext hs.aF) (aQ iJ NW (by omega) o7 (λ _ uh=>bT (fJ).name zB uh rfl rfl (λ _ rk=>aD j8 (rk.ext hs.aF) (gg gI (uN (oR gI (by omega) (by omega) (aQ iJ NW (by omega) o7 (λ _ Aa=>bT (fJ).at_ zC Aa rfl rfl (λ _ rE=>aD bL (rE.ext hs.aF) (aQ iJ NW (by omega) o7 (λ _ El=>?_)))))))))))));refine bT NX qz El rfl rfl (λ _ ud=>aD sS (ud.ext hs.aF) ?_);refine ⟨?_,?_⟩
     ·refine cZ amT hs (C92 _ _ _ (EJ.ext hs.aF)) (λ x41 w4 bY hs=>?_);refine ⟨fL j8 (wA.ext hs.aF),?_⟩;refine ⟨fL j8 (rk.ext hs.aF),?_⟩;refine ⟨fL bL (rE.ext hs.aF),?_⟩;obtain ⟨IP,rfl⟩:=(hs).lP;refine pop (B0 _ _ _ _ _) (aN hs M9 (λ b_t5 w5 hs=>?_));have hs:=hs.enc (cs':=Flat.enc (⟨(ByteArray.mk #[]),⟨none,0,0⟩,⟨none,0,0⟩,0⟩:ei)) rfl;refine ⟨fL j8 (wA.ext hs.aF),?_⟩;refine ⟨fL j8 (rk.ext hs.aF),?_⟩;refine ⟨fL bL (rE.ext hs.aF),?_⟩;refine ⟨fL sS (ud.ext hs.aF),?_⟩;refine aI (x:=(⟨(((fJ).name).extract 0 ((min (((fJ).name).size:Int) 40)).toNat),⟨none,0,0⟩,IP,(fJ).at_⟩:ei)) hs Ih rfl rfl (λ w6 hs=>?_)
      have hs:=hs.p2.p2.p2;exact ⟨_,_,rfl,hs⟩
     ·refine ⟨?_,?_⟩
      ·refine aN hs M9 (λ axS w7 hs=>?_);have hs:=hs.enc (cs':=Flat.enc (⟨(ByteArray.mk #[]),⟨none,0,0⟩,⟨none,0,0⟩,0⟩:ei)) rfl;refine ⟨fL j8 (wA.ext hs.aF),?_⟩;refine ⟨fL j8 (rk.ext hs.aF),?_⟩;refine ⟨fL bL (rE.ext hs.aF),?_⟩;refine ⟨fL sS (ud.ext hs.aF),?_⟩;refine cZ amT hs (C92 _ _ _ (EJ.ext hs.aF)) (λ x41_1 w8 bY hs=>?_);refine ⟨fL j8 (wA.ext hs.aF),?_⟩;refine ⟨fL j8 (rk.ext hs.aF),?_⟩;refine ⟨fL bL (rE.ext hs.aF),?_⟩;obtain ⟨VY,rfl⟩:=(hs).lP;refine pop (B0 _ _ _ _ _) (aI (x:=(⟨(((fJ).name).extract 0 ((min (((fJ).name).size:Int) 40)).toNat),⟨none,0,0⟩,VY,(fJ).at_⟩:ei)) hs.p1 Ih rfl rfl (λ w9 hs=>?_))
       have hs:=hs.p2.p2.p2;exact ⟨_,_,rfl,hs⟩
      ·trivial
    ·rintro _ pS ⟨EK,FX,rfl,hs⟩ oS;have hs:=((((hs.fU (α:=ByteArray)).p3).p3).p2).p3;refine ⟨λ m x w1=>∃ (j:Nat) (Lq:SV),x = .int .i64 (j:Int)∧m=6 - j∧j≤6∧j≤(fJ).aK.length∧St w bD [cE EK (Flat.enc (⟨((fJ).name.extract 0 (min (((fJ).name).size:Int) 40).toNat),Lq,FX,(fJ).at_⟩:ei)),bK (Flat.val Lq) (((fJ).aK.take j).map nF),fj (Flat.val FX) (ED (fJ).body),fj fX ((xs.take k).map ye)] w1,⟨_,0,⟨none,0,0⟩,rfl,rfl,by omega,by omega,hs⟩,?_⟩;rintro m _ sU ⟨j,Lq,rfl,rfl,hj,hj2,hs⟩ GQ;have ajC:(((fJ).aK.take j).map nF).length=j:=by rw [List.length_map,List.length_take]; omega
     refine ⟨λ jv w'=>jv = .bool (decide (j<(fJ).aK.length∧j<6))∧St w bD [cE EK (Flat.enc (⟨((fJ).name.extract 0 (min (((fJ).name).size:Int) 40).toNat),Lq,FX,(fJ).at_⟩:ei)),bK (Flat.val Lq) (((fJ).aK.take j).map nF),fj (Flat.val FX) (ED (fJ).body),fj fX ((xs.take k).map ye)] w',?_,?_⟩
     ·refine aQ iJ NW (by omega) o7 (λ _ KY=>bT yK ju KY rfl rfl (λ _ D7=>aD px (D7.ext hs.aF) ?_));have axU:=DL.flat (EI);refine aJ mV (axU.ext hs.aF) (aR (aC (λ pK=>?_) (λ pK=>?_)))
      ·refine aR ?_;exact ⟨vb (by grind),hs⟩
      ·exact ⟨vb (by grind),hs⟩
     ·rintro _ vm ⟨rfl,hs⟩ R4;refine aX (λ wm=>?_) (λ wm=>?_)
      ·have hc54:j<(fJ).aK.length∧j<6:=by simpa using wm
       refine aA ju (have hs:=hs.drew;aB (v:=Flat.val (Lq:SV)) px hs.hb rfl (aQ iJ NW (by omega) o7 (λ _ Vp=>bT yK ju Vp rfl rfl (λ _ Lr=>aD px (Lr.ext hs.aF) ?_))));have ap9:=DL.flat (EI);obtain ⟨afI,NY⟩:=gx ((fJ).aK) (i:=((j:Int)).toNat) (by omega);refine aQ mV ap9 (by omega) NY (λ _ B7=>aD j8 (B7.ext hs.aF) (aQ iJ NW (by omega) o7 (λ _ Vq=>bT yK ju Vq rfl rfl (λ _ Lo=>aD px (Lo.ext hs.aF) (aQ mV ap9 (by omega) NY (λ _ aqa=>aD j8 (aqa.ext hs.aF) (gg gI (uN (oR gI (by omega) (by omega) (bW ([((afI).extract 0 ((min ((afI).size:Int) 40)).toNat)]) hs mV rfl rfl (eI rfl) (λ aqb vn hs=>?_)))))))))))
       refine ⟨aG px (hs.p1.hb.cell rfl),?_⟩;have ajD:=(hs).fB;refine cN hs.p2 mV ajD (by rw [ajC,List.length_singleton]; omega) (by decide) (λ s_x79 sm hs=>have hs:=hs.p1.drop;aA ju ?_);obtain ⟨VZ,rfl⟩:=(hs).fR;refine aV hs.p1 px (eI rfl) (rfl) (λ v7 hs=>have hs:=hs.enc (cs':=Flat.enc (⟨((fJ).name.extract 0 (min (((fJ).name).size:Int) 40).toNat),VZ,FX,(fJ).at_⟩:ei)) rfl;aO (by omega) ?_);have hs:=hs.p3.p3.p3.p3;exact ⟨_,by omega,j+1,VZ,rfl,rfl,by omega,by omega,by rw [← iP (k:=j) NY]; exact hs⟩
      ·refine aD Ih hs.At (have hs:=hs.p1.freeze.p2.jJ.p1.fM.dN (Ψ:=(λ w=>bZ.dr w (⟨((fJ).name.extract 0 (min (((fJ).name).size:Int) 40).toNat),Lq,FX,(fJ).at_⟩:ei) (⟨((fJ).name.extract 0 (min (((fJ).name).size:Int) 40).toNat),(((fJ).aK.take j).map nF),(ED (fJ).body),(fJ).at_⟩:dQ))) (λ w h=>⟨_,_,rfl,DL.fp h.1,h.2⟩);eK (s:=(⟨((fJ).name.extract 0 (min (((fJ).name).size:Int) 40).toNat),Lq,FX,(fJ).at_⟩:ei)) (x:=(⟨((fJ).name.extract 0 (min (((fJ).name).size:Int) 40).toNat),(((fJ).aK.take j).map nF),(ED (fJ).body),(fJ).at_⟩:dQ)) hs iJ (by decide) (λ aqc yZ hs=>have hs:=hs.p2;ee hs iJ (by rw [IN,List.length_singleton]; omega) (by decide) (λ afz Cp hs=>?_)))
       have hs:=(hs.p1).drop;rw [rD (xs:=(fJ).aK) (k:=j) (m:=6) (by omega) (by omega) (of_decide_eq_false wm)] at hs;exact hs
   ·rintro nk Iv hs dd6;refine aO (by omega) ?_;exact ⟨_,by omega,k+1,rfl,rfl,by omega,by omega,by rw [← iP (k:=k) VX]; exact hs⟩
  ·rw [rD (xs:=xs) (k:=k) (m:=4) (by omega) (by omega) (of_decide_eq_false jm)] at hs;exact hs.fresh
set_option maxHeartbeats 4000000 in
theorem C11 (p:cU) (pv:bN) (w:World) (hp:bZ.dr w pv p):CR 11 [Flat.val pv] w (λ v w'=>∃ qv:bN,v=Flat.val qv∧lY (eU (λ w=>bZ.dr w qv (oA p))) w w'):=by
 obtain ⟨bH,bQ,bI,aT,aU,aY,rfl,cI,dA,cJ,bR,bO,cA⟩:=hp;have hs:=St.start w;refine agP _ _ _ ?_;unfold S11;refine dE hs (λ kI w1 hs=>aN hs uK (λ mc w2 hs=>?_));have hs:=hs.enc (cs':=Flat.enc (⟨⟨none,0,0⟩,⟨none,0,0⟩,⟨none,0,0⟩,⟨none,0,0⟩,⟨none,0,0⟩,⟨none,0,0⟩⟩:bN)) rfl;refine ⟨λ jv w'=>∃ (yL:Nat) (NZ N3 N4 N5:SV),jv = .pointer (some ⟨yL,0,none⟩)∧St w bD [cE yL (Flat.enc (⟨⟨none,0,0⟩,NZ,N3,N4,N5,⟨none,0,0⟩⟩:bN)),bK (Flat.val NZ) (iW p.jT),bK (Flat.val N3) (iW p.locks),fj (Flat.val N4) (kz p.threads),fj (Flat.val N5) (kz p.recover),cE kI (Flat.enc (⟨bH,bQ,bI,aT,aU,aY⟩:bN)),cE mc (Flat.enc (⟨⟨none,0,0⟩,⟨none,0,0⟩,⟨none,0,0⟩,⟨none,0,0⟩,⟨none,0,0⟩,⟨none,0,0⟩⟩:bN))] w',?_,?_⟩
 ·refine aA uJ (have hs:=hs.drew;aB jz hs.p1.hb rfl ?_);have aqd:=DL.flat (dA);refine aA rZ (aB jz hs.p1.hb rfl ?_);have ajE:=DL.flat (cJ);refine aA ng (aB jb hs.p1.hb rfl (aA r7 (aB jb hs.p1.hb rfl ?_)));refine ⟨?_,?_⟩
  ·refine cZ RI hs (C37 _ _ _ (aqd.ext hs.aF)) (λ x8 w3 bY hs=>?_);refine ⟨aG jz (hs.p2.hb.cell rfl),?_⟩;refine ⟨aG jb (hs.p2.hb.cell rfl),?_⟩;refine ⟨aG jb (hs.p2.hb.cell rfl),?_⟩;refine ⟨?_,?_⟩
   ·refine cZ RI hs (C37 _ _ _ (ajE.ext hs.aF)) (λ x11 w4 bY hs=>?_);refine ⟨aG jb (hs.p3.hb.cell rfl),?_⟩;refine ⟨aG jb (hs.p3.hb.cell rfl),?_⟩;refine ⟨?_,?_⟩
    ·refine cZ HM hs (C38 _ _ _ (bR.ext hs.aF)) (λ x14 w5 bY hs=>?_);refine ⟨aG jb (hs.p4.hb.cell rfl),?_⟩;refine ⟨?_,?_⟩
     ·refine cZ HM hs (C38 _ _ _ (bO.ext hs.aF)) (λ x17 w6 bY hs=>?_);obtain ⟨EL,rfl⟩:=(hs.p3).fR;obtain ⟨mj,rfl⟩:=(hs.p2).fR;obtain ⟨oq,rfl⟩:=(hs.p1).lP;obtain ⟨V0,rfl⟩:=(hs).lP;refine pop (m7 _ _ _ _ _ _ _ _ _ _ _ _) (aN hs uK (λ b_q3 w7 hs=>?_));have hs:=hs.enc (cs':=Flat.enc (⟨⟨none,0,0⟩,⟨none,0,0⟩,⟨none,0,0⟩,⟨none,0,0⟩,⟨none,0,0⟩,⟨none,0,0⟩⟩:bN)) rfl;refine ⟨aG jz (hs.p6.hb.cell rfl),?_⟩;refine ⟨aG jz (hs.p6.hb.cell rfl),?_⟩;refine ⟨aG jb (hs.p6.hb.cell rfl),?_⟩;refine ⟨aG jb (hs.p6.hb.cell rfl),?_⟩;refine aI (x:=(⟨⟨none,0,0⟩,EL,mj,oq,V0,⟨none,0,0⟩⟩:bN)) hs gJ rfl rfl (λ w8 hs=>?_)
      have hs:=hs.p5.p6.p3.p4.p5.p6.p6;exact ⟨_,_,_,_,_,rfl,hs⟩
     ·refine ⟨?_,?_⟩
      ·refine aN hs uK (λ axV w9 hs=>?_);have hs:=hs.enc (cs':=Flat.enc (⟨⟨none,0,0⟩,⟨none,0,0⟩,⟨none,0,0⟩,⟨none,0,0⟩,⟨none,0,0⟩,⟨none,0,0⟩⟩:bN)) rfl;refine ⟨aG jz (hs.p5.hb.cell rfl),?_⟩;refine ⟨aG jz (hs.p5.hb.cell rfl),?_⟩;refine ⟨aG jb (hs.p5.hb.cell rfl),?_⟩;refine ⟨aG jb (hs.p5.hb.cell rfl),?_⟩;refine cZ HM hs (C38 _ _ _ (bO.ext hs.aF)) (λ aqe pS bY hs=>?_);obtain ⟨EL,rfl⟩:=(hs.p4).fR;obtain ⟨mj,rfl⟩:=(hs.p3).fR;obtain ⟨oq,rfl⟩:=(hs.p2).lP;obtain ⟨Ls,rfl⟩:=(hs).lP;refine pop (m7 _ _ _ _ _ _ _ _ _ _ _ _) (aI (x:=(⟨⟨none,0,0⟩,EL,mj,oq,Ls,⟨none,0,0⟩⟩:bN)) hs.p1 gJ rfl rfl (λ sU hs=>?_))
       have hs:=hs.p5.p6.p3.p4.p5.p6.p6;exact ⟨_,_,_,_,_,rfl,hs⟩
      ·trivial
    ·refine ⟨?_,?_⟩
     ·refine aN hs uK (λ axW vm hs=>?_);have hs:=hs.enc (cs':=Flat.enc (⟨⟨none,0,0⟩,⟨none,0,0⟩,⟨none,0,0⟩,⟨none,0,0⟩,⟨none,0,0⟩,⟨none,0,0⟩⟩:bN)) rfl;refine ⟨aG jz (hs.p4.hb.cell rfl),?_⟩;refine ⟨aG jz (hs.p4.hb.cell rfl),?_⟩;refine ⟨aG jb (hs.p4.hb.cell rfl),?_⟩;refine ⟨aG jb (hs.p4.hb.cell rfl),?_⟩;refine cZ HM hs (C38 _ _ _ (bR.ext hs.aF)) (λ x14_1 vn bY hs=>?_);refine ⟨aG jb (hs.p5.hb.cell rfl),?_⟩;refine cZ HM hs (C38 _ _ _ (bO.ext hs.aF)) (λ aqf sm bY hs=>?_);obtain ⟨EL,rfl⟩:=(hs.p4).fR;obtain ⟨mj,rfl⟩:=(hs.p3).fR;obtain ⟨V1,rfl⟩:=(hs.p1).lP
      obtain ⟨Lt,rfl⟩:=(hs).lP;refine pop (m7 _ _ _ _ _ _ _ _ _ _ _ _) (aI (x:=(⟨⟨none,0,0⟩,EL,mj,V1,Lt,⟨none,0,0⟩⟩:bN)) hs.p2 gJ rfl rfl (λ v7 hs=>?_));have hs:=hs.p5.p6.p3.p4.p5.p6.p6;exact ⟨_,_,_,_,_,rfl,hs⟩
     ·trivial
   ·refine ⟨?_,?_⟩
    ·refine aN hs uK (λ axX yZ hs=>?_);have hs:=hs.enc (cs':=Flat.enc (⟨⟨none,0,0⟩,⟨none,0,0⟩,⟨none,0,0⟩,⟨none,0,0⟩,⟨none,0,0⟩,⟨none,0,0⟩⟩:bN)) rfl;refine ⟨aG jz (hs.p3.hb.cell rfl),?_⟩;refine ⟨aG jz (hs.p3.hb.cell rfl),?_⟩;refine ⟨aG jb (hs.p3.hb.cell rfl),?_⟩;refine ⟨aG jb (hs.p3.hb.cell rfl),?_⟩;refine cZ RI hs (C37 _ _ _ (ajE.ext hs.aF)) (λ x11_1 Cp bY hs=>?_);refine ⟨aG jb (hs.p4.hb.cell rfl),?_⟩;refine ⟨aG jb (hs.p4.hb.cell rfl),?_⟩;refine cZ HM hs (C38 _ _ _ (bR.ext hs.aF)) (λ x14_2 Iv bY hs=>?_);refine ⟨aG jb (hs.p5.hb.cell rfl),?_⟩
     refine cZ HM hs (C38 _ _ _ (bO.ext hs.aF)) (λ x17_3 Jy bY hs=>?_);obtain ⟨EL,rfl⟩:=(hs.p4).fR;obtain ⟨V2,rfl⟩:=(hs.p2).fR;obtain ⟨V3,rfl⟩:=(hs.p1).lP;obtain ⟨V4,rfl⟩:=(hs).lP;refine pop (m7 _ _ _ _ _ _ _ _ _ _ _ _) (aI (x:=(⟨⟨none,0,0⟩,EL,V2,V3,V4,⟨none,0,0⟩⟩:bN)) hs.p3 gJ rfl rfl (λ KG hs=>?_));have hs:=hs.p5.p6.p3.p4.p5.p6.p6;exact ⟨_,_,_,_,_,rfl,hs⟩
    ·trivial
  ·refine ⟨?_,?_⟩
   ·refine aN hs uK (λ axY MH hs=>?_);have hs:=hs.enc (cs':=Flat.enc (⟨⟨none,0,0⟩,⟨none,0,0⟩,⟨none,0,0⟩,⟨none,0,0⟩,⟨none,0,0⟩,⟨none,0,0⟩⟩:bN)) rfl;refine ⟨aG jz (hs.p2.hb.cell rfl),?_⟩;refine ⟨aG jz (hs.p2.hb.cell rfl),?_⟩;refine ⟨aG jb (hs.p2.hb.cell rfl),?_⟩;refine ⟨aG jb (hs.p2.hb.cell rfl),?_⟩;refine cZ RI hs (C37 _ _ _ (aqd.ext hs.aF)) (λ x8_1 Qv bY hs=>?_);refine ⟨aG jz (hs.p3.hb.cell rfl),?_⟩;refine ⟨aG jb (hs.p3.hb.cell rfl),?_⟩;refine ⟨aG jb (hs.p3.hb.cell rfl),?_⟩;refine cZ RI hs (C37 _ _ _ (ajE.ext hs.aF)) (λ x11_2 To bY hs=>?_)
    refine ⟨aG jb (hs.p4.hb.cell rfl),?_⟩;refine ⟨aG jb (hs.p4.hb.cell rfl),?_⟩;refine cZ HM hs (C38 _ _ _ (bR.ext hs.aF)) (λ x14_3 VM bY hs=>?_);refine ⟨aG jb (hs.p5.hb.cell rfl),?_⟩;refine cZ HM hs (C38 _ _ _ (bO.ext hs.aF)) (λ x17_4 Tp bY hs=>?_);obtain ⟨CU,rfl⟩:=(hs.p3).fR;obtain ⟨V5,rfl⟩:=(hs.p2).fR;obtain ⟨V6,rfl⟩:=(hs.p1).lP;obtain ⟨V7,rfl⟩:=(hs).lP;refine pop (m7 _ _ _ _ _ _ _ _ _ _ _ _) (aI (x:=(⟨⟨none,0,0⟩,CU,V5,V6,V7,⟨none,0,0⟩⟩:bN)) hs.p4 gJ rfl rfl (λ w26 hs=>?_));have hs:=hs.p5.p6.p3.p4.p5.p6.p6
    exact ⟨_,_,_,_,_,rfl,hs⟩
   ·trivial
 ·rintro _ w27 ⟨yL,NZ,N3,N4,N5,rfl,hs⟩ fy;have hs:=((((((((hs.xI (α:=(List dG))).p7).p7).p7).p7).p7).p7).p6).p7;refine ⟨λ m x w1=>∃ (k:Nat) (sl:SV),x = .int .i64 (k:Int)∧m=6 - k∧k≤6∧k≤p.lines.length∧St w bD [cE yL (Flat.enc (⟨sl,NZ,N3,N4,N5,⟨none,0,0⟩⟩:bN)),fj (Flat.val sl) ((p.lines.take k).map iW),bK (Flat.val NZ) (iW p.jT),bK (Flat.val N3) (iW p.locks),fj (Flat.val N4) (kz p.threads),fj (Flat.val N5) (kz p.recover),cE kI (Flat.enc (⟨bH,bQ,bI,aT,aU,aY⟩:bN)),cE mc (Flat.enc (⟨⟨none,0,0⟩,⟨none,0,0⟩,⟨none,0,0⟩,⟨none,0,0⟩,⟨none,0,0⟩,⟨none,0,0⟩⟩:bN))] w1,⟨_,0,⟨none,0,0⟩,rfl,rfl,by omega,by omega,hs⟩,?_⟩
  rintro m _ w28 ⟨k,sl,rfl,rfl,hk,Fu,hs⟩ jB;have IN:((p.lines.take k).map iW).length=k:=by rw [List.length_map,List.length_take]; omega
  refine ⟨λ jv w'=>jv = .bool (decide (k<p.lines.length∧k<6))∧St w bD [cE yL (Flat.enc (⟨sl,NZ,N3,N4,N5,⟨none,0,0⟩⟩:bN)),fj (Flat.val sl) ((p.lines.take k).map iW),bK (Flat.val NZ) (iW p.jT),bK (Flat.val N3) (iW p.locks),fj (Flat.val N4) (kz p.threads),fj (Flat.val N5) (kz p.recover),cE kI (Flat.enc (⟨bH,bQ,bI,aT,aU,aY⟩:bN)),cE mc (Flat.enc (⟨⟨none,0,0⟩,⟨none,0,0⟩,⟨none,0,0⟩,⟨none,0,0⟩,⟨none,0,0⟩,⟨none,0,0⟩⟩:bN))] w',?_,?_⟩
  ·refine aA jt (aB rU hs.p6.hb rfl ?_);obtain ⟨ts70,axZ,ax0⟩:=(cI).open;have hn70:=ax0.1;refine aJ vz (axZ.ext hs.aF) (aR (aC (λ iO=>?_) (λ iO=>?_)))
   ·refine aR ?_;exact ⟨vb (by grind),hs⟩
   ·exact ⟨vb (by grind),hs⟩
  ·rintro _ w29 ⟨rfl,hs⟩ oS;refine aX (λ gj=>?_) (λ gj=>?_)
   ·have hc27:k<p.lines.length∧k<6:=by simpa using gj
    refine aA jt (have hs:=hs.drew;aB (v:=Flat.val (sl:SV)) rU hs.hb rfl (aA jt (aB rU hs.p6.hb rfl ?_)));obtain ⟨ax1,ax2,aqg⟩:=(cI).open;have hn71:=aqg.1;obtain ⟨aqh,V8⟩:=gx ax1 (i:=((k:Int)).toNat) (by omega);obtain ⟨V9,Wa⟩:=gx ((p).lines) (i:=((k:Int)).toNat) (by omega);have aqi:DL w (Flat.val aqh) V9:=aqg.2 _ _ _ V8 Wa;refine aQ vz ax2 (by omega) V8 (λ _ zR=>aD jz (zR.ext hs.aF) ?_);have ax3:=DL.flat (aqi);refine cZ RI hs (C37 _ _ _ (ax3.ext hs.aF)) (λ x37 w30 bY hs=>?_);refine ⟨aG rU (hs.p1.hb.cell rfl),?_⟩;obtain ⟨oY,rfl⟩:=(hs).fR
    have hs:=hs.freeze.dN (Ψ:=λ w=>bZ.dr w oY ((iW V9))) (λ w h=>DL.fp h);refine eK (s:=oY) (x:=(iW V9)) hs vz (by decide) (λ afx w31 hs=>?_);refine ⟨aG rU (hs.p1.hb.cell rfl),?_⟩;have hs:=hs.p2;refine ee hs vz (by rw [IN,List.length_singleton]; omega) (by decide) (λ afJ w32 hs=>aA jt ?_);obtain ⟨yJ,rfl⟩:=(hs).lP;refine aV hs.p1 rU (eI rfl) (rfl) (λ w33 hs=>have hs:=hs.enc (cs':=Flat.enc (⟨yJ,NZ,N3,N4,N5,⟨none,0,0⟩⟩:bN)) rfl;aO (by omega) ?_);have hs:=hs.p7.p7.p7.p7.p7.p7.p7.p7;exact ⟨_,by omega,k+1,yJ,rfl,rfl,by omega,by omega,by rw [← iP (k:=k) Wa]; exact hs⟩
   ·rw [rD (xs:=p.lines) (k:=k) (m:=6) (by omega) (by omega) (of_decide_eq_false gj)] at hs;have hs:=(((((((((hs.xI (α:=jA)).p8).p8).p8).p8).p8).p8).p8).p7).p8;refine ⟨λ m x w1=>∃ (j:Nat) (sc:SV),x = .int .i64 (j:Int)∧m=6 - j∧j≤6∧j≤p.cC.length∧St w bD [cE yL (Flat.enc (⟨sl,NZ,N3,N4,N5,sc⟩:bN)),fj (Flat.val sc) ((p.cC.take j).map EE),fj (Flat.val sl) ((p.lines.take 6).map iW),bK (Flat.val NZ) (iW p.jT),bK (Flat.val N3) (iW p.locks),fj (Flat.val N4) (kz p.threads),fj (Flat.val N5) (kz p.recover),cE kI (Flat.enc (⟨bH,bQ,bI,aT,aU,aY⟩:bN)),cE mc (Flat.enc (⟨⟨none,0,0⟩,⟨none,0,0⟩,⟨none,0,0⟩,⟨none,0,0⟩,⟨none,0,0⟩,⟨none,0,0⟩⟩:bN))] w1,⟨_,0,⟨none,0,0⟩,rfl,rfl,by omega,by omega,hs⟩,?_⟩
    rintro m _ w34 ⟨j,sc,rfl,rfl,hj,hj2,hs⟩ GQ;have ajC:((p.cC.take j).map EE).length=j:=by rw [List.length_map,List.length_take]; omega
    refine ⟨λ jv w'=>jv = .bool (decide (j<p.cC.length∧j<6))∧St w bD [cE yL (Flat.enc (⟨sl,NZ,N3,N4,N5,sc⟩:bN)),fj (Flat.val sc) ((p.cC.take j).map EE),fj (Flat.val sl) ((p.lines.take 6).map iW),bK (Flat.val NZ) (iW p.jT),bK (Flat.val N3) (iW p.locks),fj (Flat.val N4) (kz p.threads),fj (Flat.val N5) (kz p.recover),cE kI (Flat.enc (⟨bH,bQ,bI,aT,aU,aY⟩:bN)),cE mc (Flat.enc (⟨⟨none,0,0⟩,⟨none,0,0⟩,⟨none,0,0⟩,⟨none,0,0⟩,⟨none,0,0⟩,⟨none,0,0⟩⟩:bN))] w',?_,?_⟩
    ·refine aA kN (aB sR hs.p7.hb rfl ?_);obtain ⟨ts73,ax4,ax5⟩:=(cA).open;have hn73:=ax5.1;refine aJ yx (ax4.ext hs.aF) (aR (aC (λ kK=>?_) (λ kK=>?_)))
     ·refine aR ?_;exact ⟨vb (by grind),hs⟩
     ·exact ⟨vb (by grind),hs⟩
    ·rintro _ w35 ⟨rfl,hs⟩ R4;refine aX (λ vr=>?_) (λ vr=>?_)
     ·have hc49:j<p.cC.length∧j<6:=by simpa using vr
      refine aA kN (have hs:=hs.drew;aB (v:=Flat.val (sc:SV)) sR hs.hb rfl (aA kN (aB sR hs.p7.hb rfl ?_)));obtain ⟨ax6,aqj,aqk⟩:=(cA).open;have hn74:=aqk.1;obtain ⟨Lm,oZ⟩:=gx ax6 (i:=((j:Int)).toNat) (by omega);obtain ⟨pM,rC⟩:=gx ((p).cC) (i:=((j:Int)).toNat) (by omega);obtain ⟨ac0,rfl,ac1⟩:=aqk.2 _ _ _ oZ rC;refine aQ yx aqj (by omega) oZ (λ _ wo=>bT ac0 CK wo rfl rfl (λ _ Ab=>aD mU (Ab.ext hs.aF) ?_));have ax7:=DL.flat (ac1);refine aA kN (aB sR hs.p7.hb rfl (aQ yx aqj (by omega) oZ (λ _ Eh=>bT (pM).at_ PK Eh rfl rfl (λ _ B7=>aD bL (B7.ext hs.aF) (cZ ahM hs (C39 _ _ _ (ax7.ext hs.aF)) (λ x60 w36 bY hs=>?_))))))
      refine ⟨aG sR (hs.p1.hb.cell rfl),?_⟩;refine ⟨aG sR (hs.p8.hb.cell rfl),?_⟩;refine ⟨fL bL (B7.ext hs.aF),?_⟩;obtain ⟨BB,rfl⟩:=(hs).fR;refine pop (Gz _ _ _ _) (have hs:=hs.freeze.dN (Ψ:=(λ w=>bZ.dr w (⟨BB,(pM).at_⟩:lQ) (⟨(xM (pM).e),(pM).at_⟩:jA))) (λ w h=>⟨_,rfl,DL.fp h⟩);eK (s:=(⟨BB,(pM).at_⟩:lQ)) (x:=(⟨(xM (pM).e),(pM).at_⟩:jA)) hs yx (by decide) (λ s_x68 w37 hs=>?_));refine ⟨aG sR (hs.p1.hb.cell rfl),?_⟩;have hs:=hs.p2;refine ee hs yx (by rw [ajC,List.length_singleton]; omega) (by decide) (λ s_x69 w38 hs=>aA kN ?_)
      obtain ⟨Wb,rfl⟩:=(hs).lP;refine aV hs.p1 sR (eI rfl) (rfl) (λ YB hs=>have hs:=hs.enc (cs':=Flat.enc (⟨sl,NZ,N3,N4,N5,Wb⟩:bN)) rfl;aO (by omega) ?_);have hs:=hs.p8.p8.p8.p8.p8.p8.p8.p8.p8;exact ⟨_,by omega,j+1,Wb,rfl,rfl,by omega,by omega,by rw [← iP (k:=j) rC]; exact hs⟩
     ·refine aD gJ hs.At (aI (x:=(⟨sl,NZ,N3,N4,N5,sc⟩:bN)) hs.p8 gJ rfl rfl (λ w40 hs=>aD gJ hs.At ?_));rw [rD (xs:=p.cC) (k:=j) (m:=6) (by omega) (by omega) (of_decide_eq_false vr)] at hs;have hs:=hs.p3.jJ.p4.freeze.p1.fM.p4.freeze.p1.fM.p4.jJ.p1.fM.p4.jJ.p1.fM;have hs:=hs.p3.jJ.p1.fM.dN (Ψ:=(λ w=>bZ.dr w (⟨sl,NZ,N3,N4,N5,sc⟩:bN) (⟨((p.lines.take 6).map iW),(iW p.jT),(iW p.locks),(kz p.threads),(kz p.recover),((p.cC.take 6).map EE)⟩:cU))) (λ w h=>⟨_,_,_,_,_,_,rfl,h.1.1.1.1.1,DL.fp h.1.1.1.1.2,DL.fp h.1.1.1.2,h.1.1.2,h.1.2,h.2⟩)
      have hs:=(((hs.p1.drop.p1).drop).p1).drop;exact ⟨_,rfl,hs.fresh⟩
def Lu (n many:Int):Bool:=decide (0≤n) && decide (n<many)
def sB (k:Int):Bool:=decide (k=1) || decide (k=3) || decide (k=4) || decide (k=12) || decide (k=15)
def aM (x:aW) (aK counts:Int):Bool:=if x.kind=13∨x.kind=14 then Lu x.a counts else if x.kind=1∨x.kind=2∨x.kind=4 then Lu x.a aK else decide (x.a=0)
def bM (x:aW) (cells lines locks:Int):Bool:=if x.kind=2∨x.kind=3∨x.kind=4 then Lu x.b cells else if x.kind=5∨x.kind=6 then Lu x.b lines else if x.kind=9∨x.kind=10 then Lu x.b locks else if x.kind=13 then decide (1≤x.b) && decide (x.b≤8) else decide (x.b=0)
def efM (x:aW) (aK:Int):Bool:=(if sB x.kind=true then eL x.e aK else !decide (0<(x.e.length:Int))) && (if x.kind=4 then eL x.f aK else !decide (0<(x.f.length:Int)))
def u4 (x:aW) (c:fm) (cells lines locks:Int):Bool:=efM x c.aK && (decide (1≤x.kind) && decide (x.kind≤15) && aM x c.aK c.counts && bM x cells lines locks)
def sC (y:aW) (a:Int):Bool:=decide (y.kind=13) && decide (y.a=a)
def btM (l:List aW) (i:Nat) (x:aW):Bool:=decide (1≤x.to) && decide (x.to≤i) && (match l[(x.to - 1).toNat]? with | some y=>sC y x.a | none=>false)
theorem Wc {l:List aW} {i:Nat} {x y:aW} (h1:1≤x.to) (h2:x.to≤i) (h:l[(x.to - 1).toNat]? = some y):btM l i x=sC y x.a:=by unfold btM; rw [h,decide_eq_true h1,decide_eq_true h2]; rfl
theorem Lv {l:List aW} {i:Nat} {x:aW} (h:x.to<1∨(i:Int)<x.to):btM l i x=false:=by
 unfold btM
 rcases h with h | h
 ·rw [decide_eq_false (show ¬ 1≤x.to by omega)]; rfl
 ·rw [decide_eq_false (show ¬ x.to≤(i:Int) by omega)]; simp
theorem aql {l:List aW} {i:Nat} {x:aW} (h:btM l i x=true):1≤x.to∧x.to≤i:=by
 by_cases h1:x.to<1∨(i:Int)<x.to
 ·rw [Lv h1] at h; cases h
 ·omega
def B8 (l:List aW) (i:Nat) (x:aW):Bool:=btM l i x && !((l.take i).drop x.to.toNat).any (λ y=>sC y x.a)
def IQ (l:List aW) (i:Nat) (x:aW):Bool:=if x.kind=11∨x.kind=12 then decide ((i:Int)<x.to) && decide (x.to≤l.length) else if x.kind=14 then B8 l i x else decide (x.to=0)
def u5 (c:fm) (cells lines locks:Int) (i:Nat):Bool:=match c.l[i]? with | some x=>!u4 x c cells lines locks || !IQ c.l i x | none=>false
def u9 (l:List aW) (x:aW) (k:Nat):Bool:=match l[k]? with | some y=>decide (y.kind=14) && !(decide (x.to≤y.to) || decide ((k:Int)+1<x.to)) | none=>false
def qB (l:List aW) (i:Nat):Bool:=match l[i]? with | some x=>decide (x.kind=14) && (List.range i).any (u9 l x) | none=>false
def va (c:fm):Bool:=decide (c.aK<0) || decide (4<c.aK) || decide (c.counts<0) || decide (12<c.counts)
def lr (c:fm) (cells lines locks:Int):Bool:=!va c && !(List.range c.l.length).any (u5 c cells lines locks) && !(List.range c.l.length).any (qB c.l)
def gq (u:ib):Int:=if 1≤u.stays∧u.stays≤u.lines.length then u.lines.getD (u.stays - 1).toNat 0+1 else 0
def lu (l:List Int) (i:Nat):Int:=if i=0 then 0 else l.getD (i - 1) 0+1
def j9 (u:ib) (i:Nat):Bool:=match u.lines[i]? with | some n=>decide (¬ n=lu u.lines i) && (decide (i=0) || decide (u.stays≤i) || decide (¬ n=lu u.lines i - 1)) | none=>false
def lx (n:Int):Bool:=decide (n<0) || decide (4294967296<n)
def kU (u:ib):Bool:=decide (20<(u.lines.length:Int)) || decide (u.stays<0) || decide ((u.lines.length:Int)<u.stays) || decide (¬ (u.cT.length:Int)=u.lines.length) || decide (u.locks<0) || decide (2<u.locks) || decide ((u.threads.length:Int)<1) || decide (3<(u.threads.length:Int))
def nx (u:ib):Bool:=!kU u && (!u.cT.any lx && !(List.range u.lines.length).any (j9 u) && !u.threads.any (λ c=>!lr c u.lines.length (gq u) u.locks) && !u.cC.any (λ l=>!eL l u.stays) && lr u.recover u.lines.length (gq u) u.locks)
structure CZ (c:fm):Prop where
 l:c.l.length≤1000
 ef:∀ x∈c.l,x.e.length≤1000∧x.f.length≤1000
structure UZ (u:ib):Prop where
 lines:u.lines.length≤1000
 cT:u.cT.length≤1000
 threads:u.threads.length≤1000
 cC:u.cC.length≤1000
 th:∀ c∈u.threads,CZ c
 rc:CZ u.recover
 cl:∀ l∈u.cC,l.length≤1000
theorem ui {c:fm} {cells lines locks:Int} {i:Nat} {x:aW} (h:c.l[i]? = some x):u5 c cells lines locks i=(!u4 x c cells lines locks || !IQ c.l i x):=by unfold u5; rw [h]
theorem Aj {l:List aW} {x y:aW} {k:Nat} (h:l[k]? = some y):u9 l x k=(decide (y.kind=14) && !(decide (x.to≤y.to) || decide ((k:Int)+1<x.to))):=by unfold u9; rw [h]
theorem xp {l:List aW} {i:Nat} {x:aW} (h:l[i]? = some x):qB l i=(decide (x.kind=14) && (List.range i).any (u9 l x)):=by unfold qB; rw [h]
theorem ac3 {l:List aW} {i:Nat} {x:aW} (h:B8 l i x=true):1≤x.to∧x.to≤i:=by unfold B8 at h; rw [Bool.and_eq_true] at h; exact aql h.1
theorem Wd {l:List aW} {i:Nat} {x:aW} (hk:x.kind=14) (h:IQ l i x=true):1≤x.to∧x.to≤i:=by
 unfold IQ at h; rw [if_neg (by omega),if_pos hk] at h; exact ac3 h
theorem We {l:List aW} {i:Nat} {x:aW} (h:btM l i x=false):B8 l i x=false:=by unfold B8; rw [h]; rfl
theorem GY {f:Nat→Bool} {n:Nat} (h:(List.range n).any f=false):∀ j,j<n→f j=false:=λ j hj=>by
 rw [List.any_eq_false] at h
 have:=h j (List.mem_range.2 hj)
 simpa using this
theorem EM {u:ib} {k:Nat} (h:∀ j,j<k→j9 u j=false):∀ j n,j<k→u.lines[j]? = some n→-1≤n∧n≤j
 | 0,n,hj,hn=>by
  have:=h 0 hj
  unfold j9 lu at this
  rw [hn] at this
  simp at this
  omega
 | j+1,n,hj,hn=>by
  have mD:=(List.getElem?_eq_some_iff.1 hn).1
  obtain ⟨m,hm⟩:∃ m,u.lines[j]? = some m:=⟨_,List.getElem?_eq_getElem (by omega)⟩
  have ih:=EM h j m (by omega) hm
  have:=h (j+1) hj
  unfold j9 lu at this
  rw [hn] at this
  simp only [Nat.add_one_ne_zero,if_false,Nat.add_sub_cancel,List.getD_eq_getElem?_getD,hm,Option.getD_some,decide_false,Bool.false_or,Bool.and_eq_false_iff,decide_eq_false_iff_not,Bool.or_eq_false_iff,Decidable.not_not] at this
  omega
theorem GZ {u:ib} {k:Nat} {n:Int} (h:u.lines[k]? = some n):j9 u k=(decide (¬ n=lu u.lines k) && (decide ((k:Int)=0) || decide (u.stays≤k) || decide (¬ n=lu u.lines k - 1))):=by
 unfold j9; rw [h]; simp only []
 congr 2
 congr 1
 exact decide_eq_decide.2 (by omega)
theorem Lw {u:ib} (h:∀ j,j<u.lines.length→j9 u j=false):∀ n∈u.lines,-1≤n∧n≤(u.lines.length:Int):=by
 intro n hn
 obtain ⟨j,hj,he⟩:=List.mem_iff_getElem.1 hn
 have:=EM h j n hj (by rw [List.getElem?_eq_getElem hj,he])
 omega
theorem N6 {u:ib} (h:kU u=false):u.lines.length≤20∧0≤u.stays∧u.stays≤u.lines.length∧u.cT.length=u.lines.length∧0≤u.locks∧u.locks≤2∧1≤u.threads.length∧u.threads.length≤3:=by
 unfold kU at h
 simp only [Bool.or_eq_false_iff,decide_eq_false_iff_not] at h
 omega
def ajG:List ByteArray:=[⟨#[]⟩,⟨#[114,101]⟩,⟨#[114,99]⟩,⟨#[99,101]⟩,⟨#[114,99,101,102]⟩,⟨#[108]⟩,⟨#[108]⟩,⟨#[]⟩,⟨#[]⟩,⟨#[109]⟩,⟨#[109]⟩,⟨#[116]⟩,⟨#[101,116]⟩,⟨#[107,110]⟩,⟨#[107,116]⟩,⟨#[101]⟩]
def ajH:Array Value:=#[.string ⟨#[]⟩,.string ⟨#[114,101]⟩,.string ⟨#[114,99]⟩,.string ⟨#[99,101]⟩,.string ⟨#[114,99,101,102]⟩,.string ⟨#[108]⟩,.string ⟨#[108]⟩,.string ⟨#[]⟩,.string ⟨#[]⟩,.string ⟨#[109]⟩,.string ⟨#[109]⟩,.string ⟨#[116]⟩,.string ⟨#[101,116]⟩,.string ⟨#[107,110]⟩,.string ⟨#[107,116]⟩,.string ⟨#[101]⟩]
def hasB (k c:Int):Bool:=ep (ajG.getD k.toNat ⟨#[]⟩) c
theorem ot {k:Int} (h:1≤k∧k≤15):hasB k 114=decide (k=1∨k=2∨k=4)∧hasB k 107=decide (k=13∨k=14)∧hasB k 99=decide (k=2∨k=3∨k=4)∧hasB k 108=decide (k=5∨k=6)∧hasB k 109=decide (k=9∨k=10)∧hasB k 110=decide (k=13)∧hasB k 101=sB k∧hasB k 102=decide (k=4)∧hasB k 116=decide (k=11∨k=12∨k=14):=by
 obtain rfl | rfl | rfl | rfl | rfl | rfl | rfl | rfl | rfl | rfl | rfl | rfl | rfl | rfl | rfl:k=1∨k=2∨k=3∨k=4∨k=5∨k=6∨k=7∨k=8∨k=9∨k=10∨k=11∨k=12∨k=13∨k=14∨k=15:=by omega
 all_goals decide
def k14 (l:List aW) (i:Nat):Bool:=match l[i]? with | some x=>decide (x.kind=14) | none=>false
def ou (l:List aW) (k:Nat):List Int:=((List.range k).filter (k14 l)).map (fun (n:Nat)=>(n:Int))
theorem G0 (l:List aW) (k:Nat):(ou l k).length≤k:=by
 unfold ou
 rw [List.length_map]
 have:=List.length_filter_le (k14 l) (List.range k)
 rw [List.length_range] at this; exact this
theorem Wf {l:List aW} {k:Nat} {x:aW} (h:l[k]? = some x) (hk:¬ x.kind=14):ou l k=ou l (k+1):=by
 have:k14 l k=false:=by unfold k14; rw [h]; exact decide_eq_false hk
 unfold ou; rw [List.range_succ,List.filter_append,List.filter_cons_of_neg (by rw [this]; decide),List.filter_nil,List.append_nil]
theorem Sc {l:List aW} {k:Nat} {x:aW} (h:l[k]? = some x) (hk:x.kind=14):ou l k++[(k:Int)]=ou l (k+1):=by
 have:k14 l k=true:=by unfold k14; rw [h]; exact decide_eq_true hk
 unfold ou; rw [List.range_succ,List.filter_append,List.filter_cons_of_pos this,List.filter_nil,List.map_append]; rfl
theorem Sd {l:List aW} {k:Nat} {e:Int} (h:e∈ou l k):∃ j:Nat,e=j∧j<k∧∃ y,l[j]? = some y∧y.kind=14:=by
 unfold ou at h
 obtain ⟨j,hj,rfl⟩:=List.mem_map.1 h
 obtain ⟨h1,h2⟩:=List.mem_filter.1 hj
 refine ⟨j,rfl,List.mem_range.1 h1,?_⟩
 unfold k14 at h2
 cases hy:l[j]? with
 | none=>rw [hy] at h2; cases h2
 | some y=>rw [hy] at h2; exact ⟨y,rfl,of_decide_eq_true h2⟩
theorem Wg {l:List aW} {k:Nat} {x:aW} (h:∀ e∈ou l k,u9 l x e.toNat=false):(List.range k).any (u9 l x)=false:=by
 refine nc λ j hj=>?_
 cases hy:l[j]? with
 | none=>unfold u9; rw [hy]
 | some y=>
  by_cases hk:y.kind=14
  ·exact h (j:Int) (List.mem_map.2 ⟨j,List.mem_filter.2 ⟨List.mem_range.2 hj,by unfold k14; rw [hy]; exact decide_eq_true hk⟩,rfl⟩)
  ·rw [Aj hy,decide_eq_false hk]; rfl
def afL (l:List aW):Prop:=∀ (i:Nat) (x:aW),l[i]? = some x→x.kind=14→1≤x.to∧x.to≤i
theorem List.fq {α:Type} {l l':List α} {f g:α→Bool} (h:l=l') (h2:∀ x,f x=g x):l.any f=l'.any g:=by subst h; rw [funext h2]
theorem C178 (w:World):CR 178 [] w (λ v w'=>v = .agg ajH∧Ext w w'):=by
 have hs:=St.start w;refine Z4 _ _ ?_;unfold S178;refine aN hs abA (λ av6 w1 hs=>pop (l9 _ _ _ _ _ _ _ _ _ _ _ _ _) (pq hs afa rfl (by decide) (by simp [rT,gV]) (λ w2 hs=>qV afa hs.hb rfl ?_)));exact ⟨rfl,hs.drop.aF⟩
theorem C179 (p:Bool) (n many:Int) (w:World):CR 179 [.bool p,.int .i64 n,.int .i64 many] w (λ v w'=>v = .bool (if p=true then Lu n many else decide (n=0))∧Ext w w'):=by
 have hs:=St.start w;refine Z5 _ _ _ _ _ ?_;unfold S179;refine cB (aX (λ gp=>?_) (λ gp=>?_))
 ·refine aH ?_;refine ⟨vb ?_,hs.aF⟩
  grind
 ·refine ⟨λ jv w'=>jv = .bool (Lu n many)∧St w bD [] w',?_,?_⟩
  ·refine dF (aC (λ jZ=>?_) (λ jZ=>?_))
   ·refine aR ?_;exact ⟨vb (by unfold Lu; grind),hs⟩
   ·exact ⟨vb (by unfold Lu; grind),hs⟩
  ·rintro _ w1 ⟨rfl,hs⟩ fy;refine ⟨vb ?_,hs.aF⟩
   grind
theorem C220 (sv:Value) (xs:List UInt8) (c:Int) (w:World) (hL:eJ (λ _=>True) w sv xs) (hn:xs.length≤1048576):CR 220 [sv,.int .u8 c] w (λ v w'=>v = .int .i64 (uQ (λ y=>decide (c=(y.toNat:Int))) xs)∧Ext w w'):=by
 have hs:=St.start w;refine aaD _ _ _ _ ?_;unfold S220;refine aJ ae9 (hL.ext hs.aF) ?_;refine ⟨λ m x w1=>∃ k:Nat,x = .int .i64 (k:Int)∧m=xs.length - k∧k≤xs.length∧(∀ y∈xs.take k,decide (c=(y.toNat:Int))=false)∧St w bD [] w1,⟨_,0,rfl,rfl,Nat.zero_le _,by simp,hs⟩,?_⟩;rintro m _ w1 ⟨k,rfl,rfl,hk,fS,hs⟩ fy;refine aR (aC (λ gv=>?_) (λ gv=>?_))
 ·obtain ⟨jl,dD⟩:=gx (xs) (i:=((k:Int)).toNat) (by omega);refine aQ ae9 hL (by omega) dD (λ _ iN=>aD ty5 (iN.ext hs.aF) (n7 (aC (λ eB=>?_) (λ eB=>?_))))
  ·exact ⟨congrArg (Value.int .i64) (pj fS dD (decide_eq_true eB)).symm,hs.aF⟩
  ·refine aO (by omega) ?_;exact ⟨_,by omega,k+1,rfl,rfl,by omega,eE fS dD (decide_eq_false eB),hs⟩
 ·exact ⟨congrArg (Value.int .i64) (kr (by rw [List.take_of_length_le (by omega)] at fS; exact fS)).symm,hs.aF⟩
theorem C177 (sv:Value) (xs:List UInt8) (c:Int) (w:World) (hL:eJ (λ _=>True) w sv xs) (hn:xs.length≤1048576):CR 177 [sv,.int .u8 c] w (λ v w'=>v = .bool (xs.any (λ y=>decide (c=(y.toNat:Int))))∧Ext w w'):=by
 have hs:=St.start w;refine Z3 _ _ _ _ ?_;unfold S177;refine aZ anJ hs (C220 _ _ _ _ (hL.ext hs.aF) (by omega)) (λ w1 he hs=>dF ?_);exact ⟨vb (oa _ _),hs.aF⟩
theorem C176 (k c:Int) (b1:Nat) (Q:Bool) (w:World) (hc:Cell w b1 0 (.int .i64 k)) (hk:1≤k∧k≤15) (hQ:hasB k c=Q):CR 176 [.int .u8 c,.pointer (some ⟨b1,0,none⟩)] w (λ v w'=>v = .bool Q∧Ext w w'):=by
 have hs:=St.start w;refine Z2 _ _ _ _ ?_;unfold S176;refine aA jh (have hs:=hs.drew;cD bL (hc.ext hs.aF) (aZ anm hs (C178 _) (λ w1 he hs=>?_)));refine ⟨aG bL (hc.ext hs.aF),?_⟩;obtain rfl | rfl | rfl | rfl | rfl | rfl | rfl | rfl | rfl | rfl | rfl | rfl | rfl | rfl | rfl:k=1∨k=2∨k=3∨k=4∨k=5∨k=6∨k=7∨k=8∨k=9∨k=10∨k=11∨k=12∨k=13∨k=14∨k=15:=by omega
 ·refine pop (v:=.string ⟨#[114,101]⟩) (by kernel_rfl) (gW hs gI Tryz.underlying252 xE (λ xN w2 hs=>aZ qR hs (C177 _ _ _ _ (hs).eU (by rw [ed]; decide)) (λ w3 he hs=>?_)));have hs:=(hs).drop;refine ⟨vb ?_,hs.aF⟩;rw [← hQ];unfold hasB ep;exact List.fq rfl (λ y=>decide_eq_decide.2 eq_comm)
 ·refine pop (v:=.string ⟨#[114,99]⟩) (by kernel_rfl) (gW hs gI Tryz.underlying252 xE (λ xN w2 hs=>aZ qR hs (C177 _ _ _ _ (hs).eU (by rw [ed]; decide)) (λ w3 he hs=>?_)));have hs:=(hs).drop;refine ⟨vb ?_,hs.aF⟩;rw [← hQ];unfold hasB ep;exact List.fq rfl (λ y=>decide_eq_decide.2 eq_comm)
 ·refine pop (v:=.string ⟨#[99,101]⟩) (by kernel_rfl) (gW hs gI Tryz.underlying252 xE (λ xN w2 hs=>aZ qR hs (C177 _ _ _ _ (hs).eU (by rw [ed]; decide)) (λ w3 he hs=>?_)));have hs:=(hs).drop;refine ⟨vb ?_,hs.aF⟩;rw [← hQ];unfold hasB ep;exact List.fq rfl (λ y=>decide_eq_decide.2 eq_comm)
 ·refine pop (v:=.string ⟨#[114,99,101,102]⟩) (by kernel_rfl) (gW hs gI Tryz.underlying252 xE (λ xN w2 hs=>aZ qR hs (C177 _ _ _ _ (hs).eU (by rw [ed]; decide)) (λ w3 he hs=>?_)));have hs:=(hs).drop;refine ⟨vb ?_,hs.aF⟩;rw [← hQ];unfold hasB ep;exact List.fq rfl (λ y=>decide_eq_decide.2 eq_comm)
 ·refine pop (v:=.string ⟨#[108]⟩) (by kernel_rfl) (gW hs gI Tryz.underlying252 xE (λ xN w2 hs=>aZ qR hs (C177 _ _ _ _ (hs).eU (by rw [ed]; decide)) (λ w3 he hs=>?_)));have hs:=(hs).drop;refine ⟨vb ?_,hs.aF⟩;rw [← hQ];unfold hasB ep;exact List.fq rfl (λ y=>decide_eq_decide.2 eq_comm)
 ·refine pop (v:=.string ⟨#[108]⟩) (by kernel_rfl) (gW hs gI Tryz.underlying252 xE (λ xN w2 hs=>aZ qR hs (C177 _ _ _ _ (hs).eU (by rw [ed]; decide)) (λ w3 he hs=>?_)));have hs:=(hs).drop;refine ⟨vb ?_,hs.aF⟩;rw [← hQ];unfold hasB ep;exact List.fq rfl (λ y=>decide_eq_decide.2 eq_comm)
 ·refine pop (v:=.string ⟨#[]⟩) (by kernel_rfl) (gW hs gI Tryz.underlying252 xE (λ xN w2 hs=>aZ qR hs (C177 _ _ _ _ (hs).eU (by rw [ed]; decide)) (λ w3 he hs=>?_)));have hs:=(hs).drop;refine ⟨vb ?_,hs.aF⟩;rw [← hQ];unfold hasB ep;exact List.fq rfl (λ y=>decide_eq_decide.2 eq_comm)
 ·refine pop (v:=.string ⟨#[]⟩) (by kernel_rfl) (gW hs gI Tryz.underlying252 xE (λ xN w2 hs=>aZ qR hs (C177 _ _ _ _ (hs).eU (by rw [ed]; decide)) (λ w3 he hs=>?_)));have hs:=(hs).drop;refine ⟨vb ?_,hs.aF⟩;rw [← hQ];unfold hasB ep;exact List.fq rfl (λ y=>decide_eq_decide.2 eq_comm)
 ·refine pop (v:=.string ⟨#[109]⟩) (by kernel_rfl) (gW hs gI Tryz.underlying252 xE (λ xN w2 hs=>aZ qR hs (C177 _ _ _ _ (hs).eU (by rw [ed]; decide)) (λ w3 he hs=>?_)));have hs:=(hs).drop;refine ⟨vb ?_,hs.aF⟩;rw [← hQ];unfold hasB ep;exact List.fq rfl (λ y=>decide_eq_decide.2 eq_comm)
 ·refine pop (v:=.string ⟨#[109]⟩) (by kernel_rfl) (gW hs gI Tryz.underlying252 xE (λ xN w2 hs=>aZ qR hs (C177 _ _ _ _ (hs).eU (by rw [ed]; decide)) (λ w3 he hs=>?_)));have hs:=(hs).drop;refine ⟨vb ?_,hs.aF⟩;rw [← hQ];unfold hasB ep;exact List.fq rfl (λ y=>decide_eq_decide.2 eq_comm)
 ·refine pop (v:=.string ⟨#[116]⟩) (by kernel_rfl) (gW hs gI Tryz.underlying252 xE (λ xN w2 hs=>aZ qR hs (C177 _ _ _ _ (hs).eU (by rw [ed]; decide)) (λ w3 he hs=>?_)));have hs:=(hs).drop;refine ⟨vb ?_,hs.aF⟩;rw [← hQ];unfold hasB ep;exact List.fq rfl (λ y=>decide_eq_decide.2 eq_comm)
 ·refine pop (v:=.string ⟨#[101,116]⟩) (by kernel_rfl) (gW hs gI Tryz.underlying252 xE (λ xN w2 hs=>aZ qR hs (C177 _ _ _ _ (hs).eU (by rw [ed]; decide)) (λ w3 he hs=>?_)));have hs:=(hs).drop;refine ⟨vb ?_,hs.aF⟩;rw [← hQ];unfold hasB ep;exact List.fq rfl (λ y=>decide_eq_decide.2 eq_comm)
 ·refine pop (v:=.string ⟨#[107,110]⟩) (by kernel_rfl) (gW hs gI Tryz.underlying252 xE (λ xN w2 hs=>aZ qR hs (C177 _ _ _ _ (hs).eU (by rw [ed]; decide)) (λ w3 he hs=>?_)));have hs:=(hs).drop;refine ⟨vb ?_,hs.aF⟩;rw [← hQ];unfold hasB ep;exact List.fq rfl (λ y=>decide_eq_decide.2 eq_comm)
 ·refine pop (v:=.string ⟨#[107,116]⟩) (by kernel_rfl) (gW hs gI Tryz.underlying252 xE (λ xN w2 hs=>aZ qR hs (C177 _ _ _ _ (hs).eU (by rw [ed]; decide)) (λ w3 he hs=>?_)));have hs:=(hs).drop;refine ⟨vb ?_,hs.aF⟩;rw [← hQ];unfold hasB ep;exact List.fq rfl (λ y=>decide_eq_decide.2 eq_comm)
 ·refine pop (v:=.string ⟨#[101]⟩) (by kernel_rfl) (gW hs gI Tryz.underlying252 xE (λ xN w2 hs=>aZ qR hs (C177 _ _ _ _ (hs).eU (by rw [ed]; decide)) (λ w3 he hs=>?_)));have hs:=(hs).drop;refine ⟨vb ?_,hs.aF⟩;rw [← hQ];unfold hasB ep;exact List.fq rfl (λ y=>decide_eq_decide.2 eq_comm)
theorem C185 (sv fv:Value) (xs:List Int) (g:Int→Bool) (w:World) (hL:eJ (λ _=>True) w sv xs) (hf:Cq w fv g) (hn:xs.length≤1073741824):CR 185 [sv,fv] w (λ v w'=>v = .int .i64 (uQ g xs)∧Ext w w'):=by
 obtain ⟨g0,first,cap,rfl,vj,l4⟩:=hf;have hs:=St.start w;refine aab _ _ _ _ ?_;unfold S185;refine aJ dY (hL.ext hs.aF) ?_;refine ⟨λ m x w1=>∃ k:Nat,x = .int .i64 (k:Int)∧m=xs.length - k∧k≤xs.length∧(∀ y∈xs.take k,g y=false)∧St w bD [] w1,⟨_,0,rfl,rfl,Nat.zero_le _,by simp,hs⟩,?_⟩;rintro m _ w1 ⟨k,rfl,rfl,hk,fS,hs⟩ fy;refine aR (aC (λ gv=>?_) (λ gv=>?_))
 ·obtain ⟨jl,dD⟩:=gx (xs) (i:=((k:Int)).toNat) (by omega);refine aQ dY hL (by omega) dD (λ _ iN=>aD bL (iN.ext hs.aF) (gd vj (l4 jl w1 hs.aF) ?_));rintro _ w2 ⟨rfl,he⟩;have hs:=hs.ext he;refine aX (λ eB=>?_) (λ eB=>?_)
  ·exact ⟨congrArg (Value.int .i64) (pj fS dD eB).symm,hs.aF⟩
  ·refine aO (by omega) ?_;exact ⟨_,by omega,k+1,rfl,rfl,by omega,eE fS dD eB,hs⟩
 ·exact ⟨congrArg (Value.int .i64) (kr (by rw [List.take_of_length_le (by omega)] at fS; exact fS)).symm,hs.aF⟩
theorem C186 (sv fv:Value) (xs:List fm) (φ:fm→Prop) (g:fm→Bool) (w:World) (hL:DL w sv xs) (hf:n8 PG w fv φ g) (hφ:∀ x∈xs,φ x) (hn:xs.length≤1073741824):CR 186 [sv,fv] w (λ v w'=>v = .int .i64 (uQ g xs)∧Ext w w'):=by
 obtain ⟨g0,first,cap,rfl,vj,l4⟩:=hf;have hs:=St.start w;refine aac _ _ _ _ ?_;unfold S186;obtain ⟨ax9,aqm,aqn⟩:=(hL).open;have hn98:=aqn.1;refine aJ Be (aqm.ext hs.aF) ?_;refine ⟨λ m x w1=>∃ k:Nat,x = .int .i64 (k:Int)∧m=xs.length - k∧k≤xs.length∧(∀ y∈xs.take k,g y=false)∧St w bD [] w1,⟨_,0,rfl,rfl,Nat.zero_le _,by simp,hs⟩,?_⟩;rintro m _ w1 ⟨k,rfl,rfl,hk,fS,hs⟩ fy;refine aR (aC (λ gv=>?_) (λ gv=>?_))
 ·obtain ⟨jl,dD⟩:=gx ax9 (i:=((k:Int)).toNat) (by omega);obtain ⟨B9,jV⟩:=gx (xs) (i:=((k:Int)).toNat) (by omega);obtain ⟨ac4,rfl,ac5⟩:=aqn.2 _ _ _ dD jV;refine aQ Be aqm (by omega) dD (λ _ iN=>aD pW (iN.ext hs.aF) (gd vj (l4 _ B9 w1 hs.aF ⟨ac4,rfl,(ac5.ext hs.aF)⟩ (hφ _ (List.mem_of_getElem? jV))) ?_));rintro _ w2 ⟨rfl,he⟩;have hs:=hs.ext he;refine aX (λ eB=>?_) (λ eB=>?_)
  ·exact ⟨congrArg (Value.int .i64) (pj fS jV eB).symm,hs.aF⟩
  ·refine aO (by omega) ?_;exact ⟨_,by omega,k+1,rfl,rfl,by omega,eE fS jV eB,hs⟩
 ·exact ⟨congrArg (Value.int .i64) (kr (by rw [List.take_of_length_le (by omega)] at fS; exact fS)).symm,hs.aF⟩
theorem C187 (sv fv:Value) (xs:List (List nt)) (φ:(List nt)→Prop) (g:(List nt)→Bool) (w:World) (hL:DL w sv xs) (hf:n8 PG w fv φ g) (hφ:∀ x∈xs,φ x) (hn:xs.length≤1073741824):CR 187 [sv,fv] w (λ v w'=>v = .int .i64 (uQ g xs)∧Ext w w'):=by
 obtain ⟨g0,first,cap,rfl,vj,l4⟩:=hf;have hs:=St.start w;refine aad _ _ _ _ ?_;unfold S187;obtain ⟨xL,aqo,FU⟩:=(hL).open;have apt:=FU.1;refine aJ FJ (aqo.ext hs.aF) ?_;refine ⟨λ m x w1=>∃ k:Nat,x = .int .i64 (k:Int)∧m=xs.length - k∧k≤xs.length∧(∀ y∈xs.take k,g y=false)∧St w bD [] w1,⟨_,0,rfl,rfl,Nat.zero_le _,by simp,hs⟩,?_⟩;rintro m _ w1 ⟨k,rfl,rfl,hk,fS,hs⟩ fy;refine aR (aC (λ gv=>?_) (λ gv=>?_))
 ·obtain ⟨jl,dD⟩:=gx xL (i:=((k:Int)).toNat) (by omega);obtain ⟨B9,jV⟩:=gx (xs) (i:=((k:Int)).toNat) (by omega);have afM:DL w (Flat.val jl) B9:=FU.2 _ _ _ dD jV;refine aQ FJ aqo (by omega) dD (λ _ iN=>aD xG (iN.ext hs.aF) ?_);have hf100:=DL.flat (afM);refine gd vj (l4 _ B9 w1 hs.aF (afM.ext hs.aF) (hφ _ (List.mem_of_getElem? jV))) ?_;rintro _ w2 ⟨rfl,he⟩;have hs:=hs.ext he;refine aX (λ eB=>?_) (λ eB=>?_)
  ·exact ⟨congrArg (Value.int .i64) (pj fS jV eB).symm,hs.aF⟩
  ·refine aO (by omega) ?_;exact ⟨_,by omega,k+1,rfl,rfl,by omega,eE fS jV eB,hs⟩
 ·exact ⟨congrArg (Value.int .i64) (kr (by rw [List.take_of_length_le (by omega)] at fS; exact fS)).symm,hs.aF⟩
theorem C249 (sv fv:Value) (xs:List aW) (φ:aW→Prop) (g:aW→Bool) (w:World) (hL:DL w sv xs) (hf:n8 PG w fv φ g) (hφ:∀ x∈xs,φ x) (hn:xs.length≤1073741824):CR 249 [sv,fv] w (λ v w'=>v = .int .i64 (uQ g xs)∧Ext w w'):=by
 obtain ⟨g0,first,cap,rfl,vj,l4⟩:=hf;have hs:=St.start w;refine aa5 _ _ _ _ ?_;unfold S249;obtain ⟨aqp,afN,afO⟩:=(hL).open;have hn101:=afO.1;refine aJ kP (afN.ext hs.aF) ?_;refine ⟨λ m x w1=>∃ k:Nat,x = .int .i64 (k:Int)∧m=xs.length - k∧k≤xs.length∧(∀ y∈xs.take k,g y=false)∧St w bD [] w1,⟨_,0,rfl,rfl,Nat.zero_le _,by simp,hs⟩,?_⟩;rintro m _ w1 ⟨k,rfl,rfl,hk,fS,hs⟩ fy;refine aR (aC (λ gv=>?_) (λ gv=>?_))
 ·obtain ⟨jl,dD⟩:=gx aqp (i:=((k:Int)).toNat) (by omega);obtain ⟨B9,jV⟩:=gx (xs) (i:=((k:Int)).toNat) (by omega);obtain ⟨ac6,ac7,rfl,ac8,ac9⟩:=afO.2 _ _ _ dD jV;refine aQ kP afN (by omega) dD (λ _ iN=>aD lL (iN.ext hs.aF) (gd vj (l4 _ B9 w1 hs.aF ⟨ac6,ac7,rfl,(ac8.ext hs.aF),(ac9.ext hs.aF)⟩ (hφ _ (List.mem_of_getElem? jV))) ?_));rintro _ w2 ⟨rfl,he⟩;have hs:=hs.ext he;refine aX (λ eB=>?_) (λ eB=>?_)
  ·exact ⟨congrArg (Value.int .i64) (pj fS jV eB).symm,hs.aF⟩
  ·refine aO (by omega) ?_;exact ⟨_,by omega,k+1,rfl,rfl,by omega,eE fS jV eB,hs⟩
 ·exact ⟨congrArg (Value.int .i64) (kr (by rw [List.take_of_length_le (by omega)] at fS; exact fS)).symm,hs.aF⟩
theorem C117 (sv fv:Value) (xs:List Int) (g:Int→Bool) (w:World) (hL:eJ (λ _=>True) w sv xs) (hf:Cq w fv g) (hn:xs.length≤1073741824):CR 117 [sv,fv] w (λ v w'=>v = .bool (xs.any g)∧Ext w w'):=by
 have hs:=St.start w;refine Zj _ _ _ _ ?_;unfold S117;refine aZ ans hs (C185 _ _ _ _ _ (hL.ext hs.aF) (hf.ext hs.aF) (by omega)) (λ w1 he hs=>dF ?_);exact ⟨vb (oa _ _),hs.aF⟩
theorem C118 (sv fv:Value) (xs:List fm) (φ:fm→Prop) (g:fm→Bool) (w:World) (hL:DL w sv xs) (hf:n8 PG w fv φ g) (hφ:∀ x∈xs,φ x) (hn:xs.length≤1073741824):CR 118 [sv,fv] w (λ v w'=>v = .bool (xs.any g)∧Ext w w'):=by
 have hs:=St.start w;refine Zk _ _ _ _ ?_;unfold S118;refine aZ ant hs (C186 _ _ _ _ _ _ (hL.ext hs.aF) (hf.ext hs.aF) hφ (by omega)) (λ w1 he hs=>dF ?_);exact ⟨vb (oa _ _),hs.aF⟩
theorem C119 (sv fv:Value) (xs:List (List nt)) (φ:(List nt)→Prop) (g:(List nt)→Bool) (w:World) (hL:DL w sv xs) (hf:n8 PG w fv φ g) (hφ:∀ x∈xs,φ x) (hn:xs.length≤1073741824):CR 119 [sv,fv] w (λ v w'=>v = .bool (xs.any g)∧Ext w w'):=by
 have hs:=St.start w;refine Zl _ _ _ _ ?_;unfold S119;refine aZ anu hs (C187 _ _ _ _ _ _ (hL.ext hs.aF) (hf.ext hs.aF) hφ (by omega)) (λ w1 he hs=>dF ?_);exact ⟨vb (oa _ _),hs.aF⟩
theorem C221 (sv fv:Value) (xs:List aW) (φ:aW→Prop) (g:aW→Bool) (w:World) (hL:DL w sv xs) (hf:n8 PG w fv φ g) (hφ:∀ x∈xs,φ x) (hn:xs.length≤1073741824):CR 221 [sv,fv] w (λ v w'=>v = .bool (xs.any g)∧Ext w w'):=by
 have hs:=St.start w;refine aaE _ _ _ _ ?_;unfold S221;refine aZ an3 hs (C249 _ _ _ _ _ _ (hL.ext hs.aF) (hf.ext hs.aF) hφ (by omega)) (λ w1 he hs=>dF ?_);exact ⟨vb (oa _ _),hs.aF⟩
theorem uj {x:aW} {c:fm} {cells lines locks:Int} (h:1≤x.kind∧x.kind≤15):u4 x c cells lines locks=(aM x c.aK c.counts && bM x cells lines locks && (if sB x.kind=true then eL x.e c.aK else !decide (0<(x.e.length:Int))) && (if x.kind=4 then eL x.f c.aK else !decide (0<(x.f.length:Int)))):=by
 unfold u4 efM
 rw [decide_eq_true h.1,decide_eq_true h.2]
 cases aM x c.aK c.counts <;> cases bM x cells lines locks <;> simp
theorem Wh {x:aW} {c:fm} {cells lines locks:Int} (h:¬ (1≤x.kind∧x.kind≤15)):u4 x c cells lines locks=false:=by
 unfold u4
 by_cases h1:1≤x.kind
 ·rw [decide_eq_false (show ¬ x.kind≤15 by omega)]; simp
 ·rw [decide_eq_false h1]; simp
theorem C222 (y:aW) (yv:bU) (b1:Nat) (a:Int) (w:World) (hy:bZ.dr w yv y) (hc:Cell w b1 1 (.int .i64 a)):CR 222 [Flat.val yv,.pointer (some ⟨b1,0,none⟩)] w (λ v w'=>v = .bool (sC y a)∧Ext w w'):=by
 obtain ⟨aqq,aqr,rfl,d_e_y,d_f_y⟩:=hy;have hs:=St.start w;refine aaF _ _ _ _ ?_;unfold S222;refine dE hs (λ aya w1 hs=>?_);refine ⟨λ jv w'=>jv = .bool (sC y a)∧St w bD [cE aya (Flat.enc (⟨(y).kind,(y).a,(y).b,aqq,aqr,(y).to⟩:bU))] w',?_,?_⟩
 ·refine aA jh (aB (v:=.int .i64 ((y).kind)) bL hs.hb rfl (aH (aC (λ oC=>?_) (λ oC=>?_))))
  ·refine aA km (aB (v:=.int .i64 ((y).a)) bL hs.hb rfl (aA km (cD bL (hc.ext hs.aF) (aH ?_))));exact ⟨vb (by unfold sC; grind),hs⟩
  ·exact ⟨vb (by unfold sC; grind),hs⟩
 ·rintro _ w2 ⟨rfl,hs⟩ fy;exact ⟨rfl,hs.drop.aF⟩
theorem C180 (lv:Value) (xs:List aW) (i:Nat) (x:aW) (w:World) (hL:DL w lv xs) (hn:xs.length≤1048576) (hx:xs[i]? = some x):CR 180 [lv,.int .i64 (i:Int)] w (λ v w'=>v = .bool (B8 xs i x)∧Ext w w'):=by
 have hi:=(List.getElem?_eq_some_iff.1 hx).1;have hs:=St.start w;refine Z6 _ _ _ _ ?_;unfold S180;obtain ⟨afP,Lx,QB⟩:=(hL).open;have hn102:=QB.1;obtain ⟨e_x8,afQ⟩:=gx afP (i:=((i:Int)).toNat) (by omega);obtain ⟨sY,afR⟩:=gx (xs) (i:=((i:Int)).toNat) (by omega);obtain ⟨Wi,Wj,rfl,ayb,ayc⟩:=QB.2 _ _ _ afQ afR;refine aQ kP Lx (by omega) afQ (λ _ ayd=>?_);obtain rfl:sY=x:=Option.some.inj (afR.symm.trans hx);refine aD lL (ayd.ext hs.aF) (aN hs mA (λ uf w1 hs=>have hs:=hs.enc (cs':=Flat.enc (⟨0,0,0,⟨none,0,0⟩,⟨none,0,0⟩,0⟩:bU)) rfl;aI (x:=(⟨(sY).kind,(sY).a,(sY).b,Wi,Wj,(sY).to⟩:bU)) hs lL rfl rfl (λ w2 hs=>?_)))
 refine ⟨λ jv w'=>jv = .bool (!btM xs i sY)∧St w bD [cE uf (Flat.enc (⟨(sY).kind,(sY).a,(sY).b,Wi,Wj,(sY).to⟩:bU))] w',?_,?_⟩
 ·refine aA kn (have hs:=hs.drew;aB (v:=.int .i64 ((sY).to)) bL hs.hb rfl (aR (aC (λ jZ=>?_) (λ jZ=>?_))))
  ·exact ⟨vb (by first | (rw [Lv (by omega)]; rfl) | (rw [Wc (by omega) (by omega) wB]; unfold sC; first | grind | simp_all)),hs⟩
  ·refine aA kn (aB (v:=.int .i64 ((sY).to)) bL hs.hb rfl (dB (aC (λ me=>?_) (λ me=>?_))))
   ·exact ⟨vb (by first | (rw [Lv (by omega)]; rfl) | (rw [Wc (by omega) (by omega) wB]; unfold sC; first | grind | simp_all)),hs⟩
   ·refine aA kn (aB (v:=.int .i64 ((sY).to)) bL hs.hb rfl (gA (by omega) ?_));obtain ⟨gR,im⟩:=gx afP (i:=(((sY).to - 1)).toNat) (by omega);obtain ⟨Ca,wB⟩:=gx (xs) (i:=(((sY).to - 1)).toNat) (by omega);obtain ⟨ate,atf,rfl,atg,ath⟩:=QB.2 _ _ _ im wB;refine aQ kP Lx (by omega) im (λ _ v9=>bT (Ca).kind jh v9 rfl rfl (λ _ uh=>aD bL (uh.ext hs.aF) (cQ (aC (λ gj=>?_) (λ gj=>?_)))))
    ·exact ⟨vb (by first | (rw [Lv (by omega)]; rfl) | (rw [Wc (by omega) (by omega) wB]; unfold sC; first | grind | simp_all)),hs⟩
    ·refine aA kn (aB (v:=.int .i64 ((sY).to)) bL hs.hb rfl (gA (by omega) (aQ kP Lx (by omega) im (λ _ rE=>bT (Ca).a km rE rfl rfl (λ _ zR=>aD bL (zR.ext hs.aF) (aA km (aB (v:=.int .i64 ((sY).a)) bL hs.hb rfl (cQ ?_))))))));exact ⟨vb (by first | (rw [Lv (by omega)]; rfl) | (rw [Wc (by omega) (by omega) wB]; unfold sC; first | grind | simp_all)),hs⟩
 ·rintro _ w3 ⟨rfl,hs⟩ fy;refine aX (λ qp=>?_) (λ qp=>?_)
  ·refine ⟨vb ?_,hs.drop.aF⟩;exact (We (by simpa using qp)).symm
  ·have NL:btM xs i sY=true:=by simpa using qp
   have hto:=aql NL;refine aA kn (aB (v:=.int .i64 ((sY).to)) bL hs.hb rfl (kq kP (Lx.ext hs.aF) (by omega) (by omega) (by omega) (λ Wk N7=>?_)));have IS:=DL.cut N7 Lx QB
   have Kv:n8 PG _ (.func (.func 222) [].toArray [.pointer (some ⟨uf,0,none⟩)].toArray) (λ _:aW=>True) (λ y=>sC y sY.a):=
    ⟨222,[],_,rfl,anL,λ s y w1 e1 hd _=>C222 y s uf sY.a w1 hd ((hs.hb.cell rfl).ext e1)⟩
   refine aZ anK hs (C221 _ _ _ (λ _=>True) _ _ (IS.ext hs.aF) Kv (λ _ _=>trivial) (by simp; omega)) (λ w4 he hs=>cB ?_);refine ⟨vb ?_,hs.drop.aF⟩;unfold B8;rw [NL];simp only [Bool.true_and]
   congr 2
set_option maxHeartbeats 4000000 in
theorem C181 (lv:Value) (xs:List aW) (w:World) (hL:DL w lv xs) (hn:xs.length≤1048576) (hb:afL xs):CR 181 [lv] w (λ v w'=>v = .bool (!(List.range xs.length).any (qB xs))∧Ext w w'):=by
 have hs:=St.start w;refine Z7 _ _ _ ?_;unfold S181;obtain ⟨afS,Wl,Wm⟩:=(hL).open;have hn103:=Wm.1;refine aJ kP (Wl.ext hs.aF) ?_;have hs:=hs.fU (α:=Int);refine ⟨λ m zs x w1=>∃ k:Nat,x = .int .i64 (k:Int)∧m=xs.length - k∧k≤xs.length∧(∀ j,j<k→qB xs j=false)∧St w bD [bK zs (ou xs k)] w1,⟨_,0,rfl,rfl,Nat.zero_le _,by simp,hs⟩,?_⟩;rintro m zs _ w1 ⟨k,rfl,rfl,hk,fS,hs⟩ fy;have hel:=G0 xs k;refine aR (aC (λ kJ=>?_) (λ kJ=>?_))
 ·obtain ⟨pH,jU⟩:∃ xx,afS[((k:Int)).toNat]? = some xx:=⟨_,List.getElem?_eq_getElem (by omega)⟩;obtain ⟨mG,oX⟩:∃ xx,(xs)[((k:Int)).toNat]? = some xx:=⟨_,List.getElem?_eq_getElem (by omega)⟩;obtain ⟨IT,IU,rfl,ati,atj⟩:=Wm.2 _ _ _ jU oX;refine ⟨λ CH w'=>qB xs k=false∧St w bD [bK CH (ou xs (k+1))] w',?_,?_⟩
  ·refine aQ kP Wl (by omega) jU (λ _ rh=>aD lL (rh.ext hs.aF) (aN hs mA (λ uf w2 hs=>have hs:=hs.enc (cs':=Flat.enc (⟨0,0,0,⟨none,0,0⟩,⟨none,0,0⟩,0⟩:bU)) rfl;aI (x:=(⟨(mG).kind,(mG).a,(mG).b,IT,IU,(mG).to⟩:bU)) hs lL rfl rfl (λ w3 hs=>aA jh (aB (v:=.int .i64 ((mG).kind)) bL hs.hb rfl (cQ (aC (λ fw=>?_) (λ fw=>?_))))))))
   ·have hs:=(hs).drop;rw [Wf (k:=k) oX (by omega)] at hs;exact ⟨by rw [xp (i:=k) oX,decide_eq_false (show ¬ mG.kind=14 by omega)]; rfl,hs⟩
   ·have hto:=hb k mG oX (by omega);refine aA kn (aB (v:=.int .i64 ((mG).to)) bL hs.hb rfl (gA (by omega) (aJ dY (hs.p1).fB ?_)));have hs:=hs.p1.p1;refine ⟨λ m x w1=>∃ q:Nat,x = .int .i64 (q:Int)∧m=(ou xs k).length - q∧q≤(ou xs k).length∧(∀ e∈(ou xs k).take q,u9 xs mG e.toNat=false)∧St w bD [cE uf (Flat.enc (⟨(mG).kind,(mG).a,(mG).b,IT,IU,(mG).to⟩:bU)),bK zs (ou xs k)] w1,⟨_,0,rfl,rfl,Nat.zero_le _,by simp,hs⟩,?_⟩;rintro m _ w4 ⟨q,rfl,rfl,hq,ajI,hs⟩ jB;refine aR (aC (λ qq=>?_) (λ qq=>?_))
    ·obtain ⟨afT,N8⟩:=gx ((ou xs k)) (i:=((q:Int)).toNat) (by omega);refine dR hs.p1 dY (by omega) (by omega) (λ _ we=>?_);obtain ⟨j,hej,hjk,y,hy,ajK⟩:=Sd (List.mem_of_getElem? N8);have hjl:=(List.getElem?_eq_some_iff.1 hy).1;have hyto:=hb j y hy ajK;refine ga hs.p1 bL we N8 ?_;obtain ⟨aqs,BC⟩:=gx afS (i:=(afT).toNat) (by omega);obtain ⟨afU,Wn⟩:=gx (xs) (i:=(afT).toNat) (by omega);obtain ⟨atk,atl,rfl,atm,atn⟩:=Wm.2 _ _ _ BC Wn;refine aQ kP Wl (by omega) BC (λ _ oG=>bT (afU).to kn oG rfl rfl (λ _ z9=>aD bL (z9.ext hs.aF) ?_))
     obtain rfl:afU=y:=Option.some.inj (Wn.symm.trans (by rw [hej]; exact hy));refine gA (by omega) ?_;refine ⟨λ jv w'=>jv = .bool (u9 xs mG j)∧St w bD [cE uf (Flat.enc (⟨(mG).kind,(mG).a,(mG).b,IT,IU,(mG).to⟩:bU)),bK zs (ou xs k)] w',?_,?_⟩
     ·refine aR (aC (λ tZ=>?_) (λ tZ=>?_))
      ·refine dF ?_;exact ⟨vb (by rw [Aj hy,decide_eq_true ajK]; grind),hs⟩
      ·exact ⟨vb (by rw [Aj hy,decide_eq_true ajK]; grind),hs⟩
     ·rintro _ w5 ⟨rfl,hs⟩ oS;refine aX (λ lU=>?_) (λ lU=>?_)
      ·have hs:=((hs.drop)).drop;refine ⟨vb ?_,hs.aF⟩;rw [rz (f:=qB xs) (j:=k) (by omega) (by rw [xp (i:=k) oX,decide_eq_true (show mG.kind=14 by omega)]; exact rz (j:=j) hjk lU)]; rfl
      ·refine aO (by omega) ?_;exact ⟨_,by omega,q+1,rfl,rfl,by omega,eE ajI N8 (by rw [hej]; exact lU),hs⟩
    ·refine bW (([(k:Int)]:List Int)) hs dY rfl rfl (eI rfl) (λ aqt w6 hs=>?_);have EN:=(hs).fB;refine cN hs.p2 dY EN (by have:=G0 xs k; simp; omega) (by decide) (λ ap7 w7 hs=>?_);have hs:=hs.p1.drop.p1.drop;rw [Sc (k:=k) oX (by omega)] at hs;exact ⟨by rw [xp (i:=k) oX,Wg (by rw [List.take_of_length_le (by omega)] at ajI; exact ajI)]; simp,hs⟩
  ·rintro CH w8 ⟨Wo,hs⟩ GQ;refine aO (by omega) ?_;exact ⟨_,by omega,k+1,rfl,rfl,by omega,zZ fS Wo,hs⟩
 ·have hs:=(hs).drop;refine ⟨vb ?_,hs.aF⟩;rw [nc (f:=qB xs) (λ j hj=>fS j (by omega))]; rfl
theorem C114 (u:ib) (uv:dJ) (w:World) (hu:bZ.dr w uv u) (hz:UZ u) (hb:∀ n∈u.lines,-1≤n∧n≤(u.lines.length:Int)):CR 114 [Flat.val uv] w (λ v w'=>v = .int .i64 (gq u)∧Ext w w'):=by
 obtain ⟨iD,gH,eY,sD,fh,rfl,iE,jo,iY,jO,kV⟩:=hu;obtain ⟨dK,rfl,ij⟩:=jO;have hs:=St.start w;refine Zg _ _ _ ?_;unfold S114;refine dE hs (λ xO w1 hs=>?_);refine ⟨λ jv w'=>jv = .bool (decide (¬ (1≤u.stays∧u.stays≤u.lines.length)))∧St w bD [cE xO (Flat.enc (⟨iD,(u).stays,gH,(u).locks,eY,(⟨((u).recover).aK,((u).recover).counts,dK⟩:cK),fh⟩:dJ))] w',?_,?_⟩
 ·refine aA lK (aB (v:=.int .i64 ((u).stays)) bL hs.hb rfl (aR (aC (λ UN=>?_) (λ UN=>?_))))
  ·exact ⟨vb (by grind),hs⟩
  ·refine aA lK (aB (v:=.int .i64 ((u).stays)) bL hs.hb rfl (aA mz (aB eu hs.hb rfl ?_)));have aqu:=DL.flat (iE);refine aJ dY (aqu.ext hs.aF) (dB ?_);exact ⟨vb (by grind),hs⟩
 ·rintro _ w2 ⟨rfl,hs⟩ fy;refine aX (λ kJ=>?_) (λ kJ=>?_)
  ·have ajL:¬ (1≤u.stays∧u.stays≤u.lines.length):=of_decide_eq_true kJ;exact ⟨congrArg (Value.int .i64) (by unfold gq; rw [if_neg ajL]),hs.drop.aF⟩
  ·have ajL:1≤u.stays∧u.stays≤u.lines.length:=by simpa using kJ
   have hzl:=hz.lines;refine aA mz (aB eu hs.hb rfl ?_);have aqv:=DL.flat (iE);refine aA lK (aB (v:=.int .i64 ((u).stays)) bL hs.hb rfl (gA (by omega) ?_));obtain ⟨iX,fH⟩:=gx ((u).lines) (i:=(((u).stays - 1)).toNat) (by omega);refine aQ dY aqv (by omega) fH (λ _ jL=>aD bL (jL.ext hs.aF) ?_);have hbe:=hb _ (List.mem_of_getElem? fH);refine aO (by omega) ?_;exact ⟨congrArg (Value.int .i64) (by unfold gq; rw [if_pos ajL,List.getD_eq_getElem?_getD,fH]; rfl),hs.drop.aF⟩
theorem C111 (n:Int) (w:World):CR 111 [.int .i64 n] w (λ v w'=>v = .bool (lx n)∧Ext w w'):=by
 have hs:=St.start w;refine Zd _ _ _ ?_;unfold S111;refine ⟨λ jv w'=>jv = .bool (lx n)∧St w bD [] w',?_,?_⟩
 ·refine aR (aC (λ pI=>?_) (λ pI=>?_))
  ·exact ⟨vb (by unfold lx; grind),hs⟩
  ·refine dB ?_;exact ⟨vb (by unfold lx; grind),hs⟩
 ·rintro _ w1 ⟨rfl,hs⟩ fy;exact ⟨rfl,hs.aF⟩
theorem C115 (lv:Value) (xs:List nt) (b1:Nat) (many:Int) (w:World) (hL:eJ (λ _=>True) w lv xs) (hc:Cell w b1 1 (.int .i64 many)) (hn:xs.length≤1000):CR 115 [lv,.pointer (some ⟨b1,0,none⟩)] w (λ v w'=>v = .bool (!eL xs many)∧Ext w w'):=by
 have hs:=St.start w;refine Zh _ _ _ _ ?_;unfold S115;refine aA lK (cD bL (hc.ext hs.aF) (aZ Pl hs (C116 _ _ _ _ (hL.ext hs.aF) (by omega)) (λ w1 he hs=>cB ?_)));exact ⟨rfl,hs.aF⟩
end Go.Proofs.YtnjcingfdhjfkaaGreat
