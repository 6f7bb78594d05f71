/-
 Part 4.
-/
import Derived.Test.YtnjcingfdhjfkaaGreatVfM3
set_option linter.all false
namespace Go.Proofs.YtnjcingfdhjfkaaGreat
open Go.Fw
theorem BB {l:List dC} (h:jJ l=true):∀ y∈l,0≤y.at_:=by
 intro y hy
 unfold jJ at h
 have hn:l.any oZ=false:=by grind
 rw [List.any_eq_false] at hn
 have:=hn y hy
 unfold oZ at this
 grind
structure aw0 (x:cI):Prop where
 kind:1≤x.kind∧x.kind≤14
 T0:0≤x.at_∧x.at_≤4000
 e:(ew (ki x.kind) 101=true∧jJ x.e=true)∨(ew (ki x.kind) 101=false∧x.e=[])
 f:(ew (ki x.kind) 102=true∧jJ x.f=true)∨(ew (ki x.kind) 102=false∧x.f=[])
 gQ:(ew (ki x.kind) 114=true∧j9 x.gQ=true)∨(ew (ki x.kind) 114=false∧x.gQ=⟨#[]⟩)
 name:(ew (ki x.kind) 110=true∧j9 x.name=true)∨(ew (ki x.kind) 110=false∧x.name=⟨#[]⟩)
 n:(ew (ki x.kind) 107=true∧1≤x.n∧x.n≤8)∨(ew (ki x.kind) 107=false∧x.n=0)
theorem BC {x:cI} (h:rq x=true):aw0 x:=by
 unfold rq at h
 simp only [Bool.and_eq_true,Bool.not_eq_true',Bool.or_eq_false_iff,decide_eq_false_iff_not,bne_eq_false_iff_eq,Bool.and_eq_false_iff,Bool.not_eq_false',Decidable.not_not] at h
 obtain ⟨⟨⟨h1,h2⟩,h3⟩,h4⟩:=h
 constructor
 ·omega
 ·omega
 ·cases hh:ew (ki x.kind) 101 <;> grind
 ·cases hh:ew (ki x.kind) 102 <;> grind
 ·cases hh:ew (ki x.kind) 114 <;> grind
 ·cases hh:ew (ki x.kind) 110 <;> grind
 ·cases hh:ew (ki x.kind) 107 <;> grind
theorem ac5 {x:cI} (h:rq x=true):0≤x.at_∧(∀ y∈x.e,0≤y.at_)∧(∀ y∈x.f,0≤y.at_):=by
 have h:=BC h
 refine ⟨h.T0.1,?_,?_⟩
 ·rcases h.e with h | h
  ·exact BB h.2
  ·rw [h.2]; simp
 ·rcases h.f with h | h
  ·exact BB h.2
  ·rw [h.2]; simp
theorem ajc:ew (ki 12) 107=true:=by decide
theorem nG {l:List cI} (h:u7 l=true):l.length≤40∧(∀ x∈l,rq x=true)∧∃ t:Bk,l=t.flat∧t.str∧t.ok 0=true∧t.depth≤12:=by
 unfold u7 at h
 simp only [Bool.and_eq_true,decide_eq_true_eq,Bool.not_eq_true'] at h
 obtain ⟨⟨h1,h2⟩,h3⟩:=h
 rw [List.any_eq_false] at h2
 refine ⟨h1,λ x hx=>by simpa using h2 x hx,?_⟩
 unfold gI at h3
 cases hb:o0 l with
 | none=>rw [hb] at h3; simp only [] at h3; omega
 | some t=>
  rw [hb] at h3
  obtain ⟨g1,g2⟩:=ny hb
  refine ⟨t,g1,g2,?_⟩
  cases ho:t.ok 0 with
  | true=>simp only [ho,if_true] at h3; exact ⟨rfl,h3.2⟩
  | false=>simp [ho] at h3
structure PF (p:cY):Prop where
 lines:∀ l∈p.lines,l≠[]∧∀ c∈l,nn 4294967296 c=false
 jY:∀ c∈p.jY,nn 4294967296 c=false
 locks:∀ c∈p.locks,nn 0 c=false
 th:∀ t∈p.threads,wz true t=false
 rc:∀ t∈p.recover,wz false t=false
 cl:∀ c∈p.cD,0≤c.at_∧jJ c.e=true
 one:p.recover.length≤1
theorem wC {p:cY} (h:mh p=true):PF p:=by
 unfold mh td oq at h
 simp only [Bool.and_eq_true,Bool.not_eq_true',List.any_eq_false,decide_eq_true_eq] at h
 obtain ⟨⟨h1,h2⟩,⟨⟨h3,h4⟩,h5⟩,h6⟩:=h
 refine ⟨λ l hl=>?_,λ c hc=>by simpa using h3.1 c hc,λ c hc=>by simpa using h3.2 c hc,λ t ht=>by simpa using h4 t ht,λ t ht=>by simpa using h5 t ht,λ c hc=>?_,h6⟩
 ·have:=h1 l hl
  unfold xz td at this
  simp only [Bool.or_eq_true,decide_eq_true_eq,not_or,Bool.not_not,List.any_eq_true,not_exists,not_and,Bool.not_eq_true] at this
  exact ⟨λ h=>this.1 (by rw [h]; rfl),this.2⟩
 ·have:=h2 c hc
  unfold uh u9 at this
  simp only [Bool.or_eq_true,Bool.not_eq_true',not_or,Bool.not_eq_false,decide_eq_true_eq,decide_eq_false_iff_not,Decidable.not_not] at this
  exact ⟨this.1.1,by simpa using this.2⟩
theorem yU {nb:Bool} {t:dX} (h:wz nb t=false):0≤t.at_∧u7 t.body=true∧(∀ s∈t.aK,j9 s=true)∧j9 t.name=nb:=by
 unfold wz va u9 at h
 simp only [Bool.or_eq_false_iff,Bool.not_eq_false',decide_eq_true_eq,List.any_eq_false,bne_eq_false_iff_eq] at h
 obtain ⟨⟨⟨⟨h1,_⟩,h2⟩,h3⟩,h4⟩:=h
 exact ⟨h2.1,h3,λ s hs=>by simpa using h4 s hs,h1.symm⟩
theorem rz {m:Int} {c:dL} (h:nn m c=false):0≤c.at_∧j9 c.name=true∧0≤c.n∧c.n≤m:=by
 unfold nn u9 at h
 simp only [Bool.or_eq_false_iff,Bool.not_eq_false',decide_eq_true_eq,decide_eq_false_iff_not] at h
 exact ⟨by omega,h.1.1.1,by omega,by omega⟩
def iN (p:cY):List dX:=p.threads++p.recover
theorem PF.ths {p:cY} (h:PF p) {t:dX} (ht:t∈iN p):0≤t.at_∧u7 t.body=true∧∀ s∈t.aK,j9 s=true:=by
 unfold iN at ht
 rcases List.mem_append.1 ht with ht | ht
 ·have:=yU (h.th t ht); exact ⟨this.1,this.2.1,this.2.2.1⟩
 ·have:=yU (h.rc t ht); exact ⟨this.1,this.2.1,this.2.2.1⟩
def pC (p:cY):List Int:=(gL p).map dL.n
def ek (p:cY):Int:=(p.lines.flatten.length:Int)
theorem VP (p:cY):((gL p).length:Int) - p.jY.length=ek p:=by unfold gL ek; rw [List.length_append]; omega
def fj (p:cY):List ByteArray:=(gL p).map dL.name
def ig (p:cY):List ByteArray:=p.locks.map dL.name
def iC:List (List dL)→Int→Int→Int
 | [],i,a=>i+a
 | l::r,i,a=>if a<l.length then i else iC r (i+1) (a - l.length)
def lT (p:cY) (c:Int):Int:=if c<0∨(gL p).length≤c then -1 else iC p.lines 0 c
def vA (l:List dC) (ns:List ByteArray):Bool:=l.any λ x=>decide (x.op=2) && decide (dV ns x.name<0)
def sE (x:cI) (n:Int):Int:=if x.kind=12 then n * x.n else n
def oO:Bk→Int→Bool
 | .nil,_=>false
 | .cons x a b r,n=>decide (64<sE x n) || (oO a (sE x n) || oO b (sE x n)) || oO r n
def Bk.app:Bk→Bk→Bk
 | .nil,t=>t
 | .cons x a b r,t=>.cons x a b (r.app t)
theorem Bk.EF (a b:Bk):(a.app b).flat=a.flat++b.flat:=by
 induction a with
 | nil=>rfl
 | cons x c d r _ _ ih=>simp only [Bk.app,Bk.flat,ih,List.cons_append,List.append_assoc]
theorem Bk.ac6 {a b:Bk} (ha:a.str) (hb:b.str):(a.app b).str:=by
 induction a with
 | nil=>exact hb
 | cons x c d r _ _ ih=>
  obtain ⟨h1,h2,h3,h4,h5,h6,h7⟩:=ha
  exact ⟨h1,h2,h3,h4,h5,h6,ih h7⟩
theorem Sx (a b:Bk) (n:Int):oO (a.app b) n=(oO a n || oO b n):=by
 induction a with
 | nil=>simp [Bk.app,oO]
 | cons x c d r _ _ ih=>simp only [Bk.app,oO,ih,Bool.or_assoc]
def vB (l:List cI):Bool:=match o0 l with | some t=>oO t 1 | none=>false
theorem yV {t:Bk} (h:t.str):vB t.flat=oO t 1:=by unfold vB; rw [o7 h]
def jK (p:cY):List dL:=gL p++p.locks++p.threads.map (λ t=>⟨t.name,0,t.at_⟩)
def Da (l:List dL) (j:Nat):Bool:=match l[j]? with | some c=>decide (dV (l.map dL.name) c.name<j) | none=>false
def rA (l:List dL):Bool:=(List.range l.length).any (Da l)
def QH (p:cY) (rs:List ByteArray) (j:Nat):Bool:=match rs[j]? with | some s=>decide (dV rs s<j) || decide (0≤dV (fj p) s) || decide (0≤dV (ig p) s) | none=>false
def Gd (p:cY) (rs:List ByteArray):Bool:=(List.range rs.length).any (QH p rs)
theorem ng {f:Nat→Bool} {n:Nat} (h:∀ j,j<n→f j=false):(List.range n).any f=false:=by
 rw [List.any_eq_false]; intro j hj; rw [h j (List.mem_range.1 hj)]; simp
theorem rB {f:Nat→Bool} {n j:Nat} (hj:j<n) (h:f j=true):(List.range n).any f=true:=List.any_eq_true.2 ⟨j,List.mem_range.2 hj,h⟩
theorem Ak {f:Nat→Bool} {k:Nat} (h:∀ j,j<k→f j=false) (hk:f k=false):∀ j,j<k+1→f j=false:=λ j hj=>by
 rcases Nat.lt_or_ge j k with h1 | h1
 ·exact h j h1
 ·obtain rfl:j=k:=by omega
  exact hk
def ou (p:cY) (rs:List ByteArray) (x:cI):Bool:=
 (decide (¬ x.gQ=⟨#[]⟩) && decide (dV rs x.gQ<0)) ||
 ((decide (x.kind=2) || decide (x.kind=3) || decide (x.kind=4)) && decide (dV (fj p) x.name<0)) ||
 ((decide (x.kind=5) || decide (x.kind=6)) && (decide (dV (fj p) x.name<0) || decide (ek p≤dV (fj p) x.name))) ||
 ((decide (x.kind=9) || decide (x.kind=10)) && decide (dV (ig p) x.name<0)) || vA x.e rs || vA x.f rs
def Al (p:cY):Bool:=p.lines.any (λ l=>decide (4<(l.length:Int))) || (iN p).any (λ t=>decide (4<(t.aK.length:Int))) ||
 (decide (4<(p.lines.length:Int)) || decide (4<(p.jY.length:Int)) || decide (2<(p.locks.length:Int)) || decide ((p.threads.length:Int)<1) || decide (3<(p.threads.length:Int)) || decide (4<(p.cD.length:Int)))
def o8 (p:cY):List ByteArray:=(fj p).take (ek p).toNat
def gR (p:cY):Int:=
 if mh p=false then 8 else if Al p=true then 2 else if (iN p).any (λ t=>vB t.body)=true then 11 else if rA (jK p)=true then 10
 else if (iN p).any (λ t=>Gd p t.aK)=true then 10 else if (iN p).any (λ t=>t.body.any (ou p t.aK))=true then 9
 else if p.cD.any (λ c=>vA c.e (o8 p))=true then 9 else 0
theorem NV {x:cI} (h:rq x=true):0≤x.at_∧(x.kind=12→1≤x.n∧x.n≤8):=by
 have h:=BC h
 refine ⟨h.T0.1,λ hk=>?_⟩
 rcases h.n with h | h
 ·exact h.2
 ·rw [hk,ajc] at h; exact absurd h.1 (by decide)
section
variable {p:cY}
theorem ce8 (h1:mh p=false):gR p=8:=by unfold gR; rw [if_pos h1]
theorem ce2 (h1:mh p=true) (h2:Al p=true):gR p=2:=by unfold gR; rw [if_neg (by rw [h1]; decide),if_pos h2]
theorem aw1 (h1:mh p=true) (h2:Al p=false) (h3:(iN p).any (λ t=>vB t.body)=true):gR p=11:=by unfold gR; rw [if_neg (by rw [h1]; decide),if_neg (by rw [h2]; decide),if_pos h3]
theorem aw2 (h1:mh p=true) (h2:Al p=false) (h3:(iN p).any (λ t=>vB t.body)=false) (h4:rA (jK p)=true):gR p=10:=by
 unfold gR; rw [if_neg (by rw [h1]; decide),if_neg (by rw [h2]; decide),if_neg (by rw [h3]; decide),if_pos h4]
theorem apB (h1:mh p=true) (h2:Al p=false) (h3:(iN p).any (λ t=>vB t.body)=false) (h4:rA (jK p)=false) (h5:(iN p).any (λ t=>Gd p t.aK)=true):gR p=10:=by
 unfold gR; rw [if_neg (by rw [h1]; decide),if_neg (by rw [h2]; decide),if_neg (by rw [h3]; decide),if_neg (by rw [h4]; decide),if_pos h5]
theorem ce9 (h1:mh p=true) (h2:Al p=false) (h3:(iN p).any (λ t=>vB t.body)=false) (h4:rA (jK p)=false) (h5:(iN p).any (λ t=>Gd p t.aK)=false)
  (h6:(iN p).any (λ t=>t.body.any (ou p t.aK))=true):gR p=9:=by
 unfold gR; rw [if_neg (by rw [h1]; decide),if_neg (by rw [h2]; decide),if_neg (by rw [h3]; decide),if_neg (by rw [h4]; decide),if_neg (by rw [h5]; decide),if_pos h6]
theorem aw3 (h1:mh p=true) (h2:Al p=false) (h3:(iN p).any (λ t=>vB t.body)=false) (h4:rA (jK p)=false) (h5:(iN p).any (λ t=>Gd p t.aK)=false)
  (h6:(iN p).any (λ t=>t.body.any (ou p t.aK))=false) (h7:p.cD.any (λ c=>vA c.e (o8 p))=true):gR p=9:=by
 unfold gR; rw [if_neg (by rw [h1]; decide),if_neg (by rw [h2]; decide),if_neg (by rw [h3]; decide),if_neg (by rw [h4]; decide),if_neg (by rw [h5]; decide),if_neg (by rw [h6]; decide),if_pos h7]
theorem ce0 (h1:mh p=true) (h2:Al p=false) (h3:(iN p).any (λ t=>vB t.body)=false) (h4:rA (jK p)=false) (h5:(iN p).any (λ t=>Gd p t.aK)=false)
  (h6:(iN p).any (λ t=>t.body.any (ou p t.aK))=false) (h7:p.cD.any (λ c=>vA c.e (o8 p))=false):gR p=0:=by
 unfold gR; rw [if_neg (by rw [h1]; decide),if_neg (by rw [h2]; decide),if_neg (by rw [h3]; decide),if_neg (by rw [h4]; decide),if_neg (by rw [h5]; decide),if_neg (by rw [h6]; decide),if_neg (by rw [h7]; decide)]
theorem PF.decl (h:PF p):∀ c∈jK p,0≤c.at_:=by
 intro c hc
 unfold jK gL at hc
 rcases List.mem_append.1 hc with hc | hc
 ·rcases List.mem_append.1 hc with hc | hc
  ·rcases List.mem_append.1 hc with hc | hc
   ·obtain ⟨l,hl,hc⟩:=List.mem_flatten.1 hc
    exact (rz ((h.lines l hl).2 c hc)).1
   ·exact (rz (h.jY c hc)).1
  ·exact (rz (h.locks c hc)).1
 ·obtain ⟨t,ht,rfl⟩:=List.mem_map.1 hc
  exact (yU (h.th t ht)).1
theorem Sy (hz:PS p):(jK p).length≤252000:=by
 have:=nf hz
 have:=hz.locks
 have:=hz.threads
 unfold jK; simp only [List.length_append,List.length_map]; omega
theorem mi (hz:PS p):(fj p).length≤250500:=by unfold fj; rw [List.length_map]; exact nf hz
theorem QI (hz:PS p):(iN p).length≤1000:=by
 have:=hz.threads
 have:=hz.recover
 unfold iN; rw [List.length_append]; omega
theorem PZ.ths (hz:PZ p) {t:dX} (ht:t∈iN p):SzT t∧t.aK.length≤500∧t.body.length≤500:=by
 refine ⟨?_,hz.aK t ht,hz.body t ht⟩
 rcases List.mem_append.1 ht with h | h
 ·exact hz.zt t h
 ·exact hz.zr t h
end
theorem C93 (p:cY) (pv:bN) (w:World) (hp:bZ.dr w pv p) (hz:PZ p):CR 93 [Flat.val pv] w (λ v w'=>v = .bool (mh p)∧Ext w w'):=by
 obtain ⟨bG,bQ,bH,aT,aU,aY,rfl,cL,dD,cM,bR,bP,cB⟩:=hp;have hs:=St.start w;refine aix _ _ _ ?_;unfold S93;refine dJ hs (λ kN w1 hs=>?_);refine ⟨λ m x w1=>∃ k:Nat,x = .int .i64 (k:Int)∧m=p.lines.length - k∧k≤p.lines.length∧(∀ y∈p.lines.take k,xz y=false)∧St w bD [cH kN (Flat.enc (⟨bG,bQ,bH,aT,aU,aY⟩:bN))] w1,⟨_,0,rfl,rfl,Nat.zero_le _,by simp,hs⟩,?_⟩;rintro m _ w2 ⟨k,rfl,rfl,hk,fV,hs⟩ fD;have hzl:=hz.lines;refine aA jz (aB rX hs.hb rfl ?_);obtain ⟨aw4,ajd,apC⟩:=(cL).open
 have apD:=apC.1;refine aJ vI (ajd.ext hs.aF) (aR (aC (λ gA=>?_) (λ gA=>?_)))
 ·obtain ⟨pS,jZ⟩:∃ xx,aw4[((k:Int)).toNat]? = some xx:=⟨_,List.getElem?_eq_getElem (by omega)⟩;obtain ⟨mK,o9⟩:∃ xx,((p).lines)[((k:Int)).toNat]? = some xx:=⟨_,List.getElem?_eq_getElem (by omega)⟩;have apE:DL w (Flat.val pS) mK:=apC.2 _ _ _ jZ o9;refine ⟨λ jv w'=>jv = .bool (xz mK)∧St w bD [cH kN (Flat.enc (⟨bG,bQ,bH,aT,aU,aY⟩:bN))] w',?_,?_⟩
  ·refine aA jz (aB rX hs.hb rfl (aQ vI (ajd.ext hs.aF) (by omega) jZ (λ _ ri=>aD jF (ri) ?_)));have apF:=DL.flat (apE);refine aJ kf (apF.ext hs.aF) (aH (aC (λ gj=>?_) (λ gj=>?_)))
   ·exact ⟨vb (by unfold xz; grind),hs⟩
   ·refine aA jz (aB rX hs.hb rfl (aQ vI (ajd.ext hs.aF) (by omega) jZ (λ _ pW=>aD jF (pW) (aZ UH hs (C155 _ _ _ _ (apF.ext hs.aF) (by have:=hz.line _ (List.mem_of_getElem? o9); omega) (hz.zl _ (List.mem_of_getElem? o9))) (λ w3 he hs=>cC ?_)))));exact ⟨vb (by unfold xz; grind),hs⟩
  ·rintro _ w4 ⟨rfl,hs⟩ jH;refine aX (λ gn=>?_) (λ gn=>?_)
   ·refine ⟨vb ?_,hs.drop.aF⟩;unfold mh;rw [jI o9 gn]; rfl
   ·refine aO (by omega) ?_;exact ⟨_,by omega,k+1,rfl,rfl,by omega,eH fV o9 gn,hs⟩
 ·have apG:=fV;refine ⟨λ m x w1=>∃ kb:Nat,x = .int .i64 (kb:Int)∧m=p.cD.length - kb∧kb≤p.cD.length∧(∀ y∈p.cD.take kb,uh y=false)∧St w bD [cH kN (Flat.enc (⟨bG,bQ,bH,aT,aU,aY⟩:bN))] w1,⟨_,0,rfl,rfl,Nat.zero_le _,by simp,hs⟩,?_⟩;rintro m _ w5 ⟨kb,rfl,rfl,hkb,NW,hs⟩ oY;have hzc:=hz.cD;refine aA kS (aB sW hs.hb rfl ?_);obtain ⟨aw5,aje,apH⟩:=(cB).open;have hn13:=apH.1;refine aJ yN (aje.ext hs.aF) (aR (aC (λ jP=>?_) (λ jP=>?_)))
  ·obtain ⟨Lx,BD⟩:∃ xx,aw5[((kb:Int)).toNat]? = some xx:=⟨_,List.getElem?_eq_getElem (by omega)⟩;obtain ⟨af7,EG⟩:∃ xx,((p).cD)[((kb:Int)).toNat]? = some xx:=⟨_,List.getElem?_eq_getElem (by omega)⟩;obtain ⟨ac7,rfl,ac8⟩:=apH.2 _ _ _ BD EG;refine ⟨λ jv w'=>jv = .bool (uh af7)∧St w bD [cH kN (Flat.enc (⟨bG,bQ,bH,aT,aU,aY⟩:bN))] w',?_,?_⟩
   ·refine aA kS (aB sW hs.hb rfl (aQ yN (aje.ext hs.aF) (by omega) BD (λ _ EH=>bT (af7).at_ Qo EH rfl rfl (λ _ ui=>aD bL (ui) (aZ PV hs (C156 _ _) (λ w6 he hs=>cC (aX (λ mL=>?_) (λ mL=>?_))))))))
    ·exact ⟨vb (by unfold uh; grind),hs⟩
    ·refine aA kS (aB sW hs.hb rfl (aQ yN (aje.ext hs.aF) (by omega) BD (λ _ Er=>bT ac7 C4 Er rfl rfl (λ _ VI=>aD mX (VI) ?_))));have aw6:=DL.flat (ac8);refine aZ Kk hs (C105 _ _ _ (aw6.ext hs.aF) (hz.zc _ (List.mem_of_getElem? EG)).1 (hz.zc _ (List.mem_of_getElem? EG)).2) (λ w7 he hs=>cC ?_);exact ⟨vb (by unfold uh; grind),hs⟩
   ·rintro _ w8 ⟨rfl,hs⟩ G9;refine aX (λ sF=>?_) (λ sF=>?_)
    ·refine ⟨vb ?_,hs.drop.aF⟩;unfold mh;rw [jI EG sF]; simp
    ·refine aO (by omega) ?_;exact ⟨_,by omega,kb+1,rfl,rfl,by omega,eH NW EG sF,hs⟩
  ·refine ⟨λ jv w'=>jv = .bool (td 4294967296 p.jY && td 0 p.locks && oq true p.threads && oq false p.recover && decide (p.recover.length≤1))∧St w bD [cH kN (Flat.enc (⟨bG,bQ,bH,aT,aU,aY⟩:bN))] w',?_,?_⟩
   ·refine aA uQ (aB jF hs.hb rfl ?_);have aw7:=DL.flat (dD);refine aZ UH hs (C155 _ _ _ _ (aw7.ext hs.aF) (by have:=hz.jY; omega) hz.zv) (λ w9 he hs=>aX (λ EI=>?_) (λ EI=>?_))
    ·refine aA sb (aB jF hs.hb rfl ?_);have aw8:=DL.flat (cM);refine aZ UH hs (C155 _ _ _ _ (aw8.ext hs.aF) (by have:=hz.locks; omega) hz.zk) (λ pP he hs=>aX (λ apI=>?_) (λ apI=>?_))
     ·refine aA nk (aB ji hs.hb rfl (aZ afo hs (C157 _ _ true _ (bR.ext hs.aF) (by have:=hz.threads; omega) (λ t ht=>hz.ths (List.mem_append_left _ ht))) (λ sZ he hs=>aX (λ qB=>?_) (λ qB=>?_))))
      ·refine aA sd (aB ji hs.hb rfl (aZ afo hs (C157 _ _ false _ (bP.ext hs.aF) (by have:=hz.recover; omega) (λ t ht=>hz.ths (List.mem_append_right _ ht))) (λ vy he hs=>aX (λ apJ=>?_) (λ apJ=>?_))))
       ·refine aA sd (aB ji hs.hb rfl ?_);obtain ⟨ts17,aw9,axa⟩:=(bP).open;have hn17:=axa.1;refine aJ iQ (aw9.ext hs.aF) (kj ?_);exact ⟨vb (by grind),hs⟩
       ·exact ⟨vb (by grind),hs⟩
      ·exact ⟨vb (by grind),hs⟩
     ·exact ⟨vb (by grind),hs⟩
    ·exact ⟨vb (by grind),hs⟩
   ·rintro _ vz ⟨rfl,hs⟩ Sv;refine ⟨vb ?_,hs.drop.aF⟩;unfold mh;rw [iM (by rw [List.take_of_length_le (by omega)] at apG; exact apG),iM (by rw [List.take_of_length_le (by omega)] at NW; exact NW)]; rfl
theorem C42 (p:cY) (pv:bN) (w:World) (hp:bZ.dr w pv p) (hz:PZ p):CR 42 [Flat.val pv] w (λ v w'=>lY (bK v (pC p)) w w'):=by
 obtain ⟨bG,bQ,bH,aT,aU,aY,rfl,cL,dD,cM,bR,bP,cB⟩:=hp;have hs:=St.start w;refine ahS _ _ _ ?_;unfold S42;refine dJ hs (λ kN w1 hs=>bV (([]:List Int)) hs eh rfl rfl (eK rfl) (λ ac9 w2 hs=>aD gO hs.p1.At (dF Ki hs (C102 p _ _ ⟨bG,bQ,bH,aT,aU,aY,rfl,(cL).ext hs.aF,(dD).ext hs.aF,(cM).ext hs.aF,(bR).ext hs.aF,(bP).ext hs.aF,(cB).ext hs.aF⟩ hz.toPS) (λ x8 w3 cA hs=>?_))));have hs:=hs.p2.p1.p2;refine ⟨λ m y x w1=>∃ k:Nat,x = .int .i64 (k:Int)∧m=(gL p).length - k∧k≤(gL p).length∧St w bD [bK y (((gL p).take k).map dL.n),bK x8 (gL p),cH kN (Flat.enc (⟨bG,bQ,bH,aT,aU,aY⟩:bN))] w1,⟨_,0,rfl,rfl,by omega,hs⟩,?_⟩
 rintro m ga _ w4 ⟨k,rfl,rfl,hk,hs⟩ fD;have hac:=nf hz.toPS;have DO:(((gL p).take k).map dL.n).length=k:=by rw [List.length_map,List.length_take]; omega
 refine aJ kf (hs.p1).fF (aR (aC (λ j8=>?_) (λ j8=>?_)))
 ·obtain ⟨rj,ju⟩:=gx ((gL p)) (i:=((k:Int)).toNat) (by omega);refine dS hs.p1 kf (by omega) (by omega) (λ _ wv=>nd zU wv (λ _ jQ=>oa (rj).n hs.p1 bL jQ ju rfl (bV (([(rj).n]:List Int)) hs eh rfl rfl (eK rfl) (λ s_x21 w5 hs=>?_))));have ajf:=(hs).fF;refine cS hs.p1 eh ajf (by simp <;> omega) (by decide) (λ apK w6 hs=>have hs:=hs.p1.drop;aO (by omega) ?_);have hs:=hs.p2.p2.p2;exact ⟨_,by omega,k+1,rfl,rfl,by omega,by rw [← iW (k:=k) ju]; exact hs⟩
 ·have hs:=hs.p1.drop.p1.drop;rw [List.take_of_length_le (by omega)] at hs;exact hs.fresh
theorem C46 (p:cY) (pv:bN) (w:World) (hp:bZ.dr w pv p) (hz:PZ p):CR 46 [Flat.val pv] w (λ v w'=>lY (bK v (fj p)) w w'):=by
 obtain ⟨bG,bQ,bH,aT,aU,aY,rfl,cL,dD,cM,bR,bP,cB⟩:=hp;have hs:=St.start w;refine ahX _ _ _ ?_;unfold S46;refine dJ hs (λ kN w1 hs=>aD gO hs.At (dF Ki hs (C102 p _ _ ⟨bG,bQ,bH,aT,aU,aY,rfl,(cL).ext hs.aF,(dD).ext hs.aF,(cM).ext hs.aF,(bR).ext hs.aF,(bP).ext hs.aF,(cB).ext hs.aF⟩ hz.toPS) (λ x4 w2 cA hs=>dF UD hs (C107 _ _ _ (hs).fF (by have:=nf hz.toPS; omega)) (λ x5 w3 cA hs=>?_))));have hs:=((hs.p1.drop).p1).drop;exact hs.fresh
theorem C99 (p:cY) (pv:bN) (w:World) (hp:bZ.dr w pv p) (hz:PZ p):CR 99 [Flat.val pv] w (λ v w'=>lY (bK v (ig p)) w w'):=by
 obtain ⟨bG,bQ,bH,aT,aU,aY,rfl,cL,dD,cM,bR,bP,cB⟩:=hp;have hs:=St.start w;refine aiD _ _ _ ?_;unfold S99;refine dJ hs (λ kN w1 hs=>aA sb (aB jF hs.hb rfl ?_));have axb:=DL.flat (cM);refine dF UD hs (C107 _ _ _ (axb.ext hs.aF) (by have:=hz.locks; omega)) (λ x5 w2 cA hs=>?_);have hs:=(hs.p1).drop;exact hs.fresh
theorem C41 (p:cY) (pv:bN) (w:World) (hp:bZ.dr w pv p) (hz:PZ p):CR 41 [Flat.val pv] w (λ v w'=>v = .int .i64 (ek p)∧Ext w w'):=by
 obtain ⟨bG,bQ,bH,aT,aU,aY,rfl,cL,dD,cM,bR,bP,cB⟩:=hp;have hs:=St.start w;refine ahR _ _ _ ?_;unfold S41;refine dJ hs (λ kN w1 hs=>have hs:=hs.drew;aD gO hs.At (aA uQ (aB jF hs.hb rfl ?_)));have axc:=DL.flat (dD);refine aJ kf (axc.ext hs.aF) (dF Ki hs (C102 p _ _ ⟨bG,bQ,bH,aT,aU,aY,rfl,(cL).ext hs.aF,(dD).ext hs.aF,(cM).ext hs.aF,(bR).ext hs.aF,(bP).ext hs.aF,(cB).ext hs.aF⟩ hz.toPS) (λ x4 w2 cA hs=>?_));refine ⟨aG jF (hs.p1.hb.cell rfl),?_⟩
 refine aJ kf (hs).fF ?_;have hac:=nf hz.toPS;have hzv:=hz.jY;refine gD (by omega) ?_;have hs:=((hs.drop)).drop;exact ⟨congrArg (Value.int .i64) (VP p),hs.aF⟩
theorem VQ {l:List dL} {r:List (List dL)} {i a:Int} (h:¬ a<l.length):iC (l::r) i a=iC r (i+1) (a - l.length):=by rw [iC,if_neg h]
theorem ajg {x:cI} {n m:Int} (hn:1≤n∧n≤64) (h:x.kind=12→1≤x.n∧x.n≤8) (hm:m=sE x n):1≤m∧m≤512:=by
 rw [hm]; unfold sE
 split
 ·rename_i hk
  have:=h hk
  have h1:=Int.mul_le_mul (a:=1) (b:=1) hn.1 this.1 (by omega) (by omega)
  have h2:=Int.mul_le_mul (c:=64) (d:=8) hn.2 this.2 (by omega) (by omega)
  omega
 ·omega
theorem Bk.Db {t:Bk} (h:¬ (t.flat.length:Int)=0):∃ x a b r,t = .cons x a b r:=by
 cases t with
 | nil=>exact absurd rfl h
 | cons x a b r=>exact ⟨x,a,b,r,rfl⟩
theorem Bk.vH {x:cI} {a b r:Bk} (h:(Bk.cons x a b r).str) {hi lo:Int} (h1:hi=1+x.body+x.fK) (h2:lo=1):((Bk.cons x a b r).flat.take hi.toNat).drop lo.toNat=(a.app b).flat:=by
 obtain ⟨g1,g2,_⟩:=h
 have la:=a.cT
 have lb:=b.cT
 rw [Bk.EF,Ev _ (a:=1) (n:=(a.flat++b.flat).length) (by rw [List.length_append]; omega) (by omega)]
 show (a.flat++(b.flat++r.flat)).take _=_
 rw [← List.append_assoc,List.take_left]
theorem Bk.ada {x:cI} {a b r:Bk} (h:(Bk.cons x a b r).str) {hi:Int} (h1:hi=1+x.body+x.fK):(Bk.cons x a b r).flat.drop hi.toNat=r.flat:=by
 obtain ⟨g1,g2,_⟩:=h
 have la:=a.cT
 have lb:=b.cT
 have e:(Bk.cons x a b r).flat=(x::(a.flat++b.flat))++r.flat:=by simp [Bk.flat]
 rw [e,show hi.toNat=(x::(a.flat++b.flat)).length from by simp; omega,List.drop_left]
theorem Hc {l:List dL} {k:Nat} {c:dL} (h:l[k]? = some c):Da l k=decide (dV (l.map dL.name) c.name<k):=by unfold Da; rw [h]
theorem QJ {p:cY} {l:List ByteArray} {k:Nat} {c:ByteArray} (h:l[k]? = some c):QH p l k=(decide (dV l c<k) || decide (0≤dV (fj p) c) || decide (0≤dV (ig p) c)):=by unfold QH; rw [h]
theorem QK (a b:Bk):(a.app b).len=a.len+b.len:=by rw [← Bk.cT,Bk.EF,List.length_append,Bk.cT,Bk.cT]
theorem C43 (p:cY) (pv:bN) (c:Int) (w:World) (hp:bZ.dr w pv p) (hz:PZ p):CR 43 [Flat.val pv,.int .i64 c] w (λ v w'=>v = .int .i64 (lT p c)∧Ext w w'):=by
 obtain ⟨bG,bQ,bH,aT,aU,aY,rfl,cL,dD,cM,bR,bP,cB⟩:=hp;have hs:=St.start w;refine ahU _ _ _ _ ?_;unfold S43;refine dJ hs (λ adb w1 hs=>?_);refine ⟨λ jv w'=>jv = .bool (decide (c<0) || decide (((gL p).length:Int)≤c))∧St w bD [cH adb (Flat.enc (⟨bG,bQ,bH,aT,aU,aY⟩:bN))] w',?_,?_⟩
 ·refine aR (aC (λ gu=>?_) (λ gu=>?_))
  ·exact ⟨vb (by grind),hs⟩
  ·refine aD gO hs.At (dF Ki hs (C102 p _ _ ⟨bG,bQ,bH,aT,aU,aY,rfl,(cL).ext hs.aF,(dD).ext hs.aF,(cM).ext hs.aF,(bR).ext hs.aF,(bP).ext hs.aF,(cB).ext hs.aF⟩ hz.toPS) (λ x12 w2 cA hs=>aJ kf (hs).fF (dK ?_)));have hs:=(hs).drop;exact ⟨vb (by grind),hs⟩
 ·rintro _ w3 ⟨rfl,hs⟩ fD;have hac:=nf hz.toPS;refine aX (λ jt=>?_) (λ jt=>?_)
  ·refine ⟨congrArg (Value.int .i64) ?_,hs.drop.aF⟩;unfold lT;rw [if_pos (by grind)]
  ·have Zu:0≤c∧c<(gL p).length:=by grind
   refine ⟨λ m y x w1=>∃ (k:Nat) (a:Int),y = .int .i64 a∧x = .int .i64 (k:Int)∧m=p.lines.length - k∧k≤p.lines.length∧0≤a∧a≤c∧iC p.lines 0 c=iC (p.lines.drop k) k a∧St w bD [cH adb (Flat.enc (⟨bG,bQ,bH,aT,aU,aY⟩:bN))] w1,⟨_,0,c,rfl,rfl,rfl,by omega,by omega,by omega,rfl,hs⟩,?_⟩;rintro m _ _ w4 ⟨k,a,rfl,rfl,rfl,hk,ha0,hac1,QL,hs⟩ jH;have hzl:=hz.lines;refine aA jz (aB rX hs.hb rfl ?_);obtain ⟨axe,ade,apL⟩:=(cL).open;have axf:=apL.1;refine aJ vI (ade.ext hs.aF) (aR (aC (λ gz=>?_) (λ gz=>?_)))
   ·refine aA jz (aB rX hs.hb rfl ?_);obtain ⟨yy,yW⟩:=gx axe (i:=((k:Int)).toNat) (by omega);obtain ⟨apM,EJ⟩:=gx ((p).lines) (i:=((k:Int)).toNat) (by omega);have apN:DL w (Flat.val yy) apM:=apL.2 _ _ _ yW EJ;refine aQ vI (ade.ext hs.aF) (by omega) yW (λ _ wB=>aD jF (wB) ?_);have apO:=DL.flat (apN);refine aJ kf (apO.ext hs.aF) (aR (aC (λ lR=>?_) (λ lR=>?_)))
    ·refine ⟨congrArg (Value.int .i64) ?_,hs.drop.aF⟩;rw [drop_cons (k:=k) EJ] at QL;unfold lT;rw [if_neg (by omega),QL];unfold iC;rw [if_pos (by omega)]
    ·refine aA jz (aB rX hs.hb rfl (aQ vI (ade.ext hs.aF) (by omega) yW (λ _ Aj=>aD jF (Aj) (aJ kf (apO.ext hs.aF) (gD (by omega) (aO (by omega) ?_))))));rw [drop_cons (k:=k) EJ,VQ (by omega)] at QL;exact ⟨_,by omega,k+1,_,rfl,rfl,rfl,by omega,by omega,by omega,QL,hs⟩
   ·refine aA jz (aB rX hs.hb rfl (aJ vI (ade.ext hs.aF) (aO (by omega) ?_)));refine ⟨congrArg (Value.int .i64) ?_,hs.drop.aF⟩;rw [List.drop_eq_nil_of_le (by omega)] at QL;unfold lT;rw [if_neg (by omega),QL];unfold iC;omega
theorem C101 (lv nv:Value) (xs:List dC) (ns:List ByteArray) (w:World) (hL:eP (λ _=>True) w lv xs) (hN:eP (λ _=>True) w nv ns) (hn:xs.length≤1048576) (hns:ns.length≤1048576) (te:∀ y∈xs,0≤y.at_):CR 101 [lv,nv] w (λ v w'=>∃ a:Int,v = .int .i64 a∧decide (0≤a)=vA xs ns∧Ext w w'):=by
 have hs:=St.start w;refine ZF _ _ _ _ ?_;unfold S101;refine ⟨λ m x w1=>∃ k:Nat,x = .int .i64 (k:Int)∧m=xs.length - k∧k≤xs.length∧(∀ y∈xs.take k,(decide (y.op=2) && decide (dV ns y.name<0))=false)∧St w bD [] w1,⟨_,0,rfl,rfl,Nat.zero_le _,by simp,hs⟩,?_⟩;rintro m _ w1 ⟨k,rfl,rfl,hk,fV,hs⟩ fD;refine aJ lX (hL.ext hs.aF) (aR (aC (λ gA=>?_) (λ gA=>?_)))
 ·obtain ⟨js,dI⟩:∃ xx,(xs)[((k:Int)).toNat]? = some xx:=⟨_,List.getElem?_eq_getElem (by omega)⟩;refine ⟨λ jv w'=>jv = .bool (decide (js.op=2) && decide (dV ns js.name<0))∧St w bD [] w',?_,?_⟩
  ·refine aQ lX (hL.ext hs.aF) (by omega) dI (λ _ iU=>bT (js).op jo iU rfl rfl (λ _ ri=>aD bL (ri) (aH (aC (λ mg=>?_) (λ mg=>?_)))))
   ·refine aQ lX (hL.ext hs.aF) (by omega) dI (λ _ Ls=>bT (js).name lh Ls rfl rfl (λ _ pW=>aD kn (pW) (aZ Bm hs (C98 _ ns _ _ (hN.ext hs.aF) (by omega)) (λ w2 he hs=>aR ?_))));exact ⟨vb (by grind),hs⟩
   ·exact ⟨vb (by grind),hs⟩
  ·rintro _ w3 ⟨rfl,hs⟩ jH;refine aX (λ gn=>?_) (λ gn=>?_)
   ·refine aQ lX (hL.ext hs.aF) (by omega) dI (λ _ oo=>bT (js).at_ DY oo rfl rfl (λ _ oN=>aD bL (oN) ?_));exact ⟨_,rfl,by unfold vA; rw [jI dI gn]; exact decide_eq_true (te _ (List.mem_of_getElem? dI)),hs.aF⟩
   ·refine aO (by omega) ?_;exact ⟨_,by omega,k+1,rfl,rfl,by omega,eH fV dI gn,hs⟩
 ·rw [List.take_of_length_le (by omega)] at fV;exact ⟨_,rfl,by unfold vA; rw [iM fV]; rfl,hs.aF⟩
theorem C96 (lv:Value) (t:Bk) (n:Int) (N:Nat) (w:World) (hL:DL w lv t.flat) (gr:t.str) (hq:∀ x∈t.flat,0≤x.at_∧(x.kind=12→1≤x.n∧x.n≤8)) (hn:1≤n∧n≤64) (hl:t.len≤1048576) (hN:t.len<N):CR 96 [lv,.int .i64 n] w (λ v w'=>∃ a:Int,v = .int .i64 a∧decide (0≤a)=oO t n∧Ext w w'):=by
 have CE:=t.cT;have hs:=St.start w;refine aiA _ _ _ _ ?_;unfold S96;obtain ⟨axg,Sz,adf⟩:=(hL).open;have hn22:=adf.1;refine aJ kh (Sz.ext hs.aF) (aH (aC (λ gW=>?_) (λ gW=>?_)))
 ·cases t with
  | nil=>exact ⟨_,rfl,rfl,hs.aF⟩
  | cons x a b r=>exact absurd CE (by rw [show (Bk.cons x a b r).len=a.len+b.len+r.len+1 from rfl]; omega)
 ·obtain ⟨x,a,b,r,rfl⟩:=Bk.Db (t:=t) (by omega);obtain ⟨Vt,Bx⟩:=gx axg (i:=((0:Int)).toNat) (by omega);obtain ⟨mj,VR⟩:=gx ((Bk.cons x a b r).flat) (i:=((0:Int)).toNat) (by omega);obtain ⟨QM,QN,rfl,atJ,atK⟩:=adf.2 _ _ _ Bx VR;refine aQ kh (Sz.ext hs.aF) (by omega) Bx (λ _ Lf=>?_);obtain rfl:mj=x:=(Option.some.inj VR).symm;have hqx:=hq mj (by simp [Bk.flat]);have Ly:=gr;obtain ⟨FQ,hg2,hg3,hg4,VS,hgb,hgr⟩:=Ly;have T1:a.len+b.len+r.len+1≤1048576:=hl;have hNn:a.len+b.len+r.len+1<N:=hN;have M3:=a.cT;have QG:=b.cT;have hlr:=r.cT
  have QL:(Bk.cons mj a b r).flat.length=a.len+b.len+r.len+1:=Bk.cT _;refine aD gb (Lf) (aN hs qI (λ um w1 hs=>aI (x:=(⟨(mj).kind,(mj).gQ,(mj).name,QM,QN,(mj).n,(mj).body,(mj).fK,(mj).at_⟩:bY)) hs gb rfl rfl (λ w2 hs=>?_)));refine ⟨λ jv w'=>∃ m:Int,jv = .int .i64 m∧m=sE mj n∧St w bD [cH um (Flat.enc (⟨(mj).kind,(mj).gQ,(mj).name,QM,QN,(mj).n,(mj).body,(mj).fK,(mj).at_⟩:bY))] w',?_,?_⟩
  ·refine aA fC (aB (v:=.int .i64 ((mj).kind)) bL hs.hb rfl (aH (aC (λ gj=>?_) (λ gj=>?_))))
   ·refine aA tV (aB (v:=.int .i64 ((mj).n)) bL hs.hb rfl (Qk (by have ya:=hqx.2 gj; have h1:=Int.mul_le_mul (a:=1) (b:=1) hn.1 ya.1 (by omega) (by omega); have h2:=Int.mul_le_mul (c:=64) (d:=8) hn.2 ya.2 (by omega) (by omega); omega) ?_));exact ⟨_,rfl,by grind [sE],hs⟩
   ·exact ⟨_,rfl,by grind [sE],hs⟩
  ·rintro _ w3 ⟨m,rfl,hm,hs⟩ fD;have hm8:=ajg hn hqx.2 hm;refine dB (aC (λ iq=>?_) (λ iq=>?_))
   ·refine aA qZ (aB (v:=.int .i64 ((mj).at_)) bL hs.hb rfl ?_);exact ⟨_,rfl,by unfold oO; rw [← hm,decide_eq_true (show (64:Int)<m by omega)]; exact decide_eq_true hqx.1,hs.drop.aF⟩
   ·refine aA m7 (aB (v:=.int .i64 ((mj).body)) bL hs.hb rfl (aO (by omega) (aA iR (aB (v:=.int .i64 ((mj).fK)) bL hs.hb rfl (aO (by omega) (kB kh (Sz.ext hs.aF) (by omega) (by omega) (by omega) (λ apP ajk=>?_)))))));have ajl:=DL.cut ajk Sz adf;refine eA aiG (C96 _ (a.app b) m (N - 1) _ (by have h:=ajl.ext hs.aF; rw [Bk.vH gr (by omega) (by omega)] at h; exact h) (Bk.ac6 VS hgb) (λ y hy=>hq y (by rw [Bk.EF] at hy; simp only [Bk.flat,List.mem_cons,List.mem_append]; rcases List.mem_append.1 hy with h | h <;> simp [h])) (by omega) (by rw [QK]; omega) (by rw [QK]; omega)) ?_
    rintro _ w4 ⟨a1,rfl,ha1,he⟩;have hs:=hs.ext he;rw [Sx] at ha1;refine dK (aC (λ sy=>?_) (λ sy=>?_))
    ·exact ⟨_,rfl,by unfold oO; rw [← hm]; rw [decide_eq_true sy] at ha1; rw [← ha1,decide_eq_true sy]; simp,hs.drop.aF⟩
    ·refine uX kh (Sz.ext hs.aF) (by omega) (by omega) (λ apQ ajm=>?_);have ajn:=DL.Qw ajm Sz adf;refine eA aiG (C96 _ r n (N - 1) _ (by have h:=ajn.ext hs.aF; rw [Bk.ada gr (by omega)] at h; exact h) hgr (λ y hy=>hq y (by simp [Bk.flat,hy])) hn (by omega) (by omega)) ?_;rintro _ w5 ⟨a2,rfl,Y6,he⟩;have hs:=hs.ext he;exact ⟨_,rfl,by unfold oO; rw [← hm]; rw [← ha1,Y6,decide_eq_false (show ¬ (64:Int)<m by omega),decide_eq_false sy]; rfl,hs.drop.aF⟩
termination_by N
decreasing_by all_goals omega
theorem C95 (p:cY) (pv:bN) (ts3 ts4:List er) (w:World) (hp:bZ.dr w pv p) (h3:eP (λ _=>True) w (Flat.val pv.threads) ts3) (h4:eP (λ _=>True) w (Flat.val pv.recover) ts4) (hz3:ts3.length≤500) (hz4:ts4.length≤500):CR 95 [Flat.val pv] w (λ v w'=>lY (bK v (ts3++ts4)) w w'):=by
 obtain ⟨bG,bQ,bH,aT,aU,aY,rfl,cL,dD,cM,bR,bP,cB⟩:=hp;have hs:=St.start w;refine aiz _ _ _ ?_;unfold S95;refine dJ hs (λ kN w1 hs=>bV (([]:List er)) hs iQ rfl rfl (eK rfl) (λ axm w2 hs=>aA nk (aB ji hs.p1.hb rfl ?_)));have Am:=(h3.ext hs.aF);refine cS hs iQ Am (by simp <;> omega) (by decide) (λ Lz w3 hs=>aA sd (aB ji hs.p1.hb rfl ?_));have u3:=(h4.ext hs.aF);refine cS hs iQ u3 (by simp; omega) (by decide) (λ afY w4 hs=>?_);have hs:=(hs.p1).drop;exact hs.fresh
theorem C97 (p:cY) (pv:bN) (w:World) (hp:bZ.dr w pv p) (hz:PZ p) (te:∀ c∈jK p,0≤c.at_):CR 97 [Flat.val pv] w (λ v w'=>∃ a:Int,v = .int .i64 a∧decide (0≤a)=rA (jK p)∧Ext w w'):=by
 obtain ⟨bG,bQ,bH,aT,aU,aY,rfl,cL,dD,cM,bR,bP,cB⟩:=hp;have hs:=St.start w;refine aiB _ _ _ ?_;unfold S97;refine dJ hs (λ kN w1 hs=>bV (([]:List dL)) hs kf rfl rfl (eK rfl) (λ Lz w2 hs=>aD gO hs.p1.At (dF Ki hs (C102 p _ _ ⟨bG,bQ,bH,aT,aU,aY,rfl,(cL).ext hs.aF,(dD).ext hs.aF,(cM).ext hs.aF,(bR).ext hs.aF,(bP).ext hs.aF,(cB).ext hs.aF⟩ hz.toPS) (λ x9 w3 cA hs=>?_))));have ajo:=(hs).fF;refine cS hs.p1 kf ajo (by simp; have:=nf hz.toPS; omega) (by decide) (λ aph w4 hs=>have hs:=hs.p1.drop;aA sb (aB jF hs.p1.hb rfl ?_))
 have axn:=DL.flat (cM);have j0:=(axn.ext hs.aF);refine cS hs kf j0 (by simp; have:=nf hz.toPS; have:=hz.locks; omega) (by decide) (λ s_x14 w5 hs=>?_);have hs:=hs.p1.p1;refine ⟨λ m y x w1=>∃ k:Nat,x = .int .i64 (k:Int)∧m=p.threads.length - k∧k≤p.threads.length∧St w bD [bK y (gL p++p.locks++(p.threads.take k).map (λ t=>(⟨t.name,0,t.at_⟩:dL))),cH kN (Flat.enc (⟨bG,bQ,bH,aT,aU,aY⟩:bN))] w1,⟨_,0,rfl,rfl,by omega,by simpa using hs⟩,?_⟩;rintro m l3 _ w6 ⟨k,rfl,rfl,hk,hs⟩ fD;have Lt:=hz.threads;refine aA nk (aB ji hs.p1.hb rfl ?_)
 obtain ⟨axo,ajp,apR⟩:=(bR).open;have hn24:=apR.1;refine aJ iQ (ajp.ext hs.aF) (aR (aC (λ fB=>?_) (λ fB=>?_)))
 ·refine aA nk (have hs:=hs.drew;aB ji hs.p1.hb rfl ?_);obtain ⟨apS,BE⟩:=gx axo (i:=((k:Int)).toNat) (by omega);obtain ⟨An,BF⟩:=gx ((p).threads) (i:=((k:Int)).toNat) (by omega);obtain ⟨ajq,ajr,rfl,ajs,ajt⟩:=apR.2 _ _ _ BE BF;refine aQ iQ (ajp.ext hs.aF) (by omega) BE (λ _ rn=>bT (An).name zR rn rfl rfl (λ _ wx=>aD kn (wx) (aA nk (aB ji hs.p1.hb rfl (aQ iQ (ajp.ext hs.aF) (by omega) BE (λ _ Ao=>bT (An).at_ zS Ao rfl rfl (λ _ Ap=>aD bL (Ap) (pop (D3 _ _) (bV ([(⟨(An).name,0,(An).at_⟩:dL)]) hs kf rfl rfl (eK rfl) (λ af9 w7 hs=>?_))))))))))
  have aju:=(hs).fF;refine cS hs.p1 kf aju (by have:=nf hz.toPS; have:=hz.locks; have:=hz.threads; simp; omega) (by decide) (λ aga w8 hs=>have hs:=hs.p1.drop;aO (by omega) ?_);have hs:=hs.p1.p1;exact ⟨_,by omega,k+1,rfl,rfl,by omega,by rw [← iW (k:=k) BF,← List.append_assoc]; exact hs⟩
 ·rw [List.take_of_length_le (by omega)] at hs;have hdl:=Sy hz.toPS;have hs:St w bD [bK l3 (jK p),cH kN (Flat.enc (⟨bG,bQ,bH,aT,aU,aY⟩:bN))] _:=hs;refine dF UD hs (C107 _ _ _ (hs).fF (by omega)) (λ x39 w9 cA hs=>?_);have hs:=hs.p2.p2.p2;refine ⟨λ m x w1=>∃ k:Nat,x = .int .i64 (k:Int)∧m=(jK p).length - k∧k≤(jK p).length∧(∀ j,j<k→Da (jK p) j=false)∧St w bD [bK x39 ((jK p).map dL.name),bK l3 (jK p),cH kN (Flat.enc (⟨bG,bQ,bH,aT,aU,aY⟩:bN))] w1,⟨_,0,rfl,rfl,by omega,by simp,hs⟩,?_⟩
  rintro m _ pP ⟨k,rfl,rfl,hk,fV,hs⟩ jH;refine aJ kf (hs.p1).fF (aR (aC (λ ug=>?_) (λ ug=>?_)))
  ·obtain ⟨EK,ve⟩:=gx ((jK p)) (i:=((k:Int)).toNat) (by omega);refine dS hs.p1 kf (by omega) (by omega) (λ _ EL=>nd pL EL (λ _ ow=>oa (EK).name hs.p1 kn ow ve rfl (aZ Bm hs (C98 _ (((jK p)).map dL.name) _ _ (hs).fF (by rw [List.length_map]; omega)) (λ sZ he hs=>aR (aC (λ wD=>?_) (λ wD=>?_))))))
   ·refine dS hs.p1 kf (by omega) (by omega) (λ _ wE=>nd DX wE (λ _ Aq=>oa (EK).at_ hs.p1 bL Aq ve rfl ?_));have hs:=((((hs.drop)).drop)).drop;exact ⟨_,rfl,by unfold rA; rw [rB (j:=k) (by omega) (by rw [Hc (k:=k) ve]; exact decide_eq_true wD)]; exact decide_eq_true (te _ (List.mem_of_getElem? ve)),hs.aF⟩
   ·refine aO (by omega) ?_;exact ⟨_,by omega,k+1,rfl,rfl,by omega,Ak fV (by rw [Hc (k:=k) ve]; exact decide_eq_false wD),hs⟩
  ·have hs:=((((hs.drop)).drop)).drop;exact ⟨_,rfl,by unfold rA; rw [ng (λ j hj=>fV j (by omega))]; rfl,hs.aF⟩
theorem C100 (p:cY) (pv:bN) (t:dX) (tv:er) (x:cI) (xv:bY) (w:World) (hp:bZ.dr w pv p) (ht:bZ.dr w tv t) (hx:bZ.dr w xv x) (hz:PZ p) (Lt:t.aK.length≤500) (hzx:SzS x) (te:0≤x.at_∧(∀ y∈x.e,0≤y.at_)∧(∀ y∈x.f,0≤y.at_)):CR 100 [Flat.val pv,Flat.val tv,Flat.val xv] w (λ v w'=>∃ a:Int,v = .int .i64 a∧decide (0≤a)=ou p t.aK x∧Ext w w'):=by
 obtain ⟨bG,bQ,bH,aT,aU,aY,rfl,cL,dD,cM,bR,bP,cB⟩:=hp;obtain ⟨uo,Ar,rfl,As,EM⟩:=ht;obtain ⟨Ae,Af,rfl,Lo,G8⟩:=hx;have QO:=mi hz.toPS;have Lh:(ig p).length≤500:=by unfold ig; rw [List.length_map]; exact hz.locks
 have hs:=St.start w;refine ZE _ _ _ _ _ ?_;unfold S100;refine dJ hs (λ yb w1 hs=>dJ hs (λ ajw w2 hs=>dJ hs (λ um w3 hs=>?_)));refine ⟨λ jv w'=>jv = .bool (decide (¬ x.gQ=⟨#[]⟩) && decide (dV t.aK x.gQ<0))∧St w bD [cH um (Flat.enc (⟨(x).kind,(x).gQ,(x).name,Ae,Af,(x).n,(x).body,(x).fK,(x).at_⟩:bY)),cH ajw (Flat.enc (⟨(t).name,uo,Ar,(t).at_⟩:er)),cH yb (Flat.enc (⟨bG,bQ,bH,aT,aU,aY⟩:bN))] w',?_,?_⟩
 ·refine aA l7 (aB (v:=.string ((x).gQ)) kn hs.hb rfl (oW (aC (λ gW=>?_) (λ gW=>?_))))
  ·refine aA jA (aB pH hs.p1.hb rfl ?_);have axp:=DL.flat (As);refine aA l7 (aB (v:=.string ((x).gQ)) kn hs.hb rfl (aZ Bm hs (C98 _ (t).aK _ _ (axp.ext hs.aF) (by omega)) (λ w4 he hs=>aR ?_)));exact ⟨vb (by grind),hs⟩
  ·exact ⟨vb (by grind),hs⟩
 ·rintro _ w5 ⟨rfl,hs⟩ fD;refine aX (λ fB=>?_) (λ fB=>?_)
  ·refine aA qZ (aB (v:=.int .i64 ((x).at_)) bL hs.hb rfl ?_);have hs:=((((hs.drop)).drop)).drop;exact ⟨_,rfl,by rw [decide_eq_true te.1]; unfold ou; grind,hs.aF⟩
  ·have hs:=hs.drew;refine aD gO hs.p2.At (aA jq (aB (v:=.string ((x).name)) kn hs.hb rfl (dF Uw hs (C46 p _ _ ⟨bG,bQ,bH,aT,aU,aY,rfl,(cL).ext hs.aF,(dD).ext hs.aF,(cM).ext hs.aF,(bR).ext hs.aF,(bP).ext hs.aF,(cB).ext hs.aF⟩ hz) (λ x23 w6 cA hs=>?_))));refine ⟨aG kn (hs.p1.hb.cell rfl),?_⟩;refine aZ Bm hs (C98 _ (fj p) _ _ (hs).fF (by omega)) (λ w7 he hs=>?_);refine ⟨λ w'=>(((decide (x.kind=2) || decide (x.kind=3) || decide (x.kind=4)) && decide (dV (fj p) x.name<0)) || ((decide (x.kind=5) || decide (x.kind=6)) && (decide (dV (fj p) x.name<0) || decide (ek p≤dV (fj p) x.name))) || ((decide (x.kind=9) || decide (x.kind=10)) && decide (dV (ig p) x.name<0)))=false∧St w bD [cH um (Flat.enc (⟨(x).kind,(x).gQ,(x).name,Ae,Af,(x).n,(x).body,(x).fK,(x).at_⟩:bY)),cH ajw (Flat.enc (⟨(t).name,uo,Ar,(t).at_⟩:er)),cH yb (Flat.enc (⟨bG,bQ,bH,aT,aU,aY⟩:bN))] w',?_,?_⟩
   ·refine aA fC (aB (v:=.int .i64 ((x).kind)) bL hs.p1.hb rfl ?_);refine ⟨λ jv w'=>jv = .bool (decide (x.kind=2∨x.kind=3∨x.kind=4))∧w7=w',?_,?_⟩
    ·refine aH (aC (λ nF=>?_) (λ nF=>?_))
     ·exact ⟨vQ (by omega),rfl⟩
     ·refine aH (aC (λ lR=>?_) (λ lR=>?_))
      ·exact ⟨vQ (by omega),rfl⟩
      ·refine aH ?_;exact ⟨vQ (by omega),rfl⟩
    ·rintro _ w8 ⟨rfl,hw⟩ jH;subst hw;refine aC (λ VT=>?_) (λ VT=>?_)
     ·refine aR (aC (λ iJ=>?_) (λ iJ=>?_))
      ·refine aA qZ (aB (v:=.int .i64 ((x).at_)) bL hs.p1.hb rfl ?_);have hs:=((((((hs.drop)).drop)).drop)).drop;exact ⟨_,rfl,by rw [decide_eq_true te.1]; unfold ou; grind,hs.aF⟩
      ·have hs:=(hs.drop.p2.p2).p2;exact ⟨by grind,hs⟩
     ·refine ⟨λ jv w'=>jv = .bool (decide (x.kind=5∨x.kind=6))∧w7=w',?_,?_⟩
      ·refine aH (aC (λ nh=>?_) (λ nh=>?_))
       ·exact ⟨vQ (by omega),rfl⟩
       ·refine aH ?_;exact ⟨vQ (by omega),rfl⟩
      ·rintro _ w9 ⟨rfl,hw⟩ oY;subst hw;refine aC (λ ue=>?_) (λ ue=>?_)
       ·refine ⟨λ jv w'=>jv = .bool (decide (dV (fj p) x.name<0) || decide (ek p≤dV (fj p) x.name))∧St w bD [bK x23 (fj p),cH um (Flat.enc (⟨(x).kind,(x).gQ,(x).name,Ae,Af,(x).n,(x).body,(x).fK,(x).at_⟩:bY)),cH ajw (Flat.enc (⟨(t).name,uo,Ar,(t).at_⟩:er)),cH yb (Flat.enc (⟨bG,bQ,bH,aT,aU,aY⟩:bN))] w',?_,?_⟩
        ·refine aR (aC (λ jD=>?_) (λ jD=>?_))
         ·exact ⟨vb (by grind),hs⟩
         ·refine aD gO hs.p3.At (aZ ZB hs (C41 p _ _ ⟨bG,bQ,bH,aT,aU,aY,rfl,(cL).ext hs.aF,(dD).ext hs.aF,(cM).ext hs.aF,(bR).ext hs.aF,(bP).ext hs.aF,(cB).ext hs.aF⟩ hz) (λ pP he hs=>dK ?_));exact ⟨vb (by grind),hs⟩
        ·rintro _ sZ ⟨rfl,hs⟩ G9;refine aX (λ rC=>?_) (λ rC=>?_)
         ·refine aA qZ (aB (v:=.int .i64 ((x).at_)) bL hs.p1.hb rfl ?_);have hs:=((((((hs.drop)).drop)).drop)).drop;exact ⟨_,rfl,by rw [decide_eq_true te.1]; unfold ou; grind,hs.aF⟩
         ·have hs:=(hs.drop.p2.p2).p2;exact ⟨by grind,hs⟩
       ·refine ⟨λ jv w'=>jv = .bool (decide (x.kind=9∨x.kind=10))∧w7=w',?_,?_⟩
        ·refine aH (aC (λ pR=>?_) (λ pR=>?_))
         ·exact ⟨vQ (by omega),rfl⟩
         ·refine aH ?_;exact ⟨vQ (by omega),rfl⟩
        ·rintro _ vy ⟨rfl,hw⟩ Sv;subst hw;refine aC (λ pX=>?_) (λ pX=>?_)
         ·have hs:=hs.drew;refine aD gO hs.p3.At (aA jq (aB (v:=.string ((x).name)) kn hs.p1.hb rfl (dF aiH hs (C99 p _ _ ⟨bG,bQ,bH,aT,aU,aY,rfl,(cL).ext hs.aF,(dD).ext hs.aF,(cM).ext hs.aF,(bR).ext hs.aF,(bP).ext hs.aF,(cB).ext hs.aF⟩ hz) (λ x54 vz cA hs=>?_))));refine ⟨aG kn (hs.p2.hb.cell rfl),?_⟩;refine aZ Bm hs (C98 _ (ig p) _ _ (hs).fF (by omega)) (λ su he hs=>aR (aC (λ uj=>?_) (λ uj=>?_)))
          ·refine aA qZ (aB (v:=.int .i64 ((x).at_)) bL hs.p2.hb rfl ?_);have hs:=((((((((hs.drop)).drop)).drop)).drop)).drop;exact ⟨_,rfl,by rw [decide_eq_true te.1]; unfold ou; grind,hs.aF⟩
          ·have hs:=(((((hs.drop)).drop).p2).p2).p2;exact ⟨by grind,hs⟩
         ·have hs:=(hs.drop.p2.p2).p2;exact ⟨by grind,hs⟩
   ·rintro wm ⟨hmid,hs⟩ dd6;refine aA l8 (aB mX hs.hb rfl ?_);have axq:=DL.flat (Lo);refine aA jA (aB pH hs.p1.hb rfl ?_);have apT:=DL.flat (As);refine eA UC (C101 _ _ _ _ _ (axq.ext hs.aF) (apT.ext hs.aF) hzx.2.2.1 (by omega) te.2.1) ?_;rintro _ zq ⟨a_x65,rfl,axr,he⟩;have hs:=hs.ext he;refine dK (aC (λ ot=>?_) (λ ot=>?_))
    ·have hs:=((((hs.drop)).drop)).drop;exact ⟨_,rfl,by unfold ou; grind,hs.aF⟩
    ·refine aA nZ (aB mX hs.hb rfl ?_);have axs:=DL.flat (G8);refine aA jA (aB pH hs.p1.hb rfl (eA UC (C101 _ _ _ _ _ (axs.ext hs.aF) (apT.ext hs.aF) hzx.2.2.2.1 (by omega) te.2.2) ?_));rintro _ CH ⟨a_x73,rfl,axt,he⟩;have hs:=((((((hs.ext he)).drop)).drop)).drop;exact ⟨_,rfl,by unfold ou; grind,hs.aF⟩
theorem C94 (p:cY) (pv:bN) (w:World) (hp:bZ.dr w pv p) (hz:PZ p):CR 94 [Flat.val pv] w (λ v w'=>v = .bool (Al p)∧Ext w w'):=by
 obtain ⟨bG,bQ,bH,aT,aU,aY,rfl,cL,dD,cM,bR,bP,cB⟩:=hp;have hs:=St.start w;refine aiy _ _ _ ?_;unfold S94;refine dJ hs (λ kN w1 hs=>?_);refine ⟨λ m x w1=>∃ k:Nat,x = .int .i64 (k:Int)∧m=p.lines.length - k∧k≤p.lines.length∧(∀ y∈p.lines.take k,decide (4<(y.length:Int))=false)∧St w bD [cH kN (Flat.enc (⟨bG,bQ,bH,aT,aU,aY⟩:bN))] w1,⟨_,0,rfl,rfl,Nat.zero_le _,by simp,hs⟩,?_⟩;rintro m _ w2 ⟨k,rfl,rfl,hk,fV,hs⟩ fD;have hzl:=hz.lines;refine aA jz (aB rX hs.hb rfl ?_)
 obtain ⟨axu,ajx,apU⟩:=(cL).open;have hn29:=apU.1;refine aJ vI (ajx.ext hs.aF) (aR (aC (λ fR=>?_) (λ fR=>?_)))
 ·refine aA jz (aB rX hs.hb rfl ?_);obtain ⟨Hb,kU⟩:=gx axu (i:=((k:Int)).toNat) (by omega);obtain ⟨mJ,kV⟩:=gx ((p).lines) (i:=((k:Int)).toNat) (by omega);have VU:DL w (Flat.val Hb) mJ:=apU.2 _ _ _ kU kV;refine aQ vI (ajx.ext hs.aF) (by omega) kU (λ _ ud=>aD jF (ud) ?_);have axv:=DL.flat (VU);refine aJ kf (axv.ext hs.aF) (dB (aC (λ fB=>?_) (λ fB=>?_)))
  ·have hs:=(hs).drop;refine ⟨vb ?_,hs.aF⟩;unfold Al;rw [jI kV (decide_eq_true (by omega))]; rfl
  ·refine aO (by omega) ?_;exact ⟨_,by omega,k+1,rfl,rfl,by omega,eH fV kV (decide_eq_false fB),hs⟩
 ·refine aD gO hs.At ?_;obtain ⟨apV,ajy,apW⟩:=(bR).open;have hn31:=apW.1;obtain ⟨apX,axw,apY⟩:=(bP).open;have hn32:=apY.1;refine eA anu (C95 p _ apV apX _ ⟨bG,bQ,bH,aT,aU,aY,rfl,(cL).ext hs.aF,(dD).ext hs.aF,(cM).ext hs.aF,(bR).ext hs.aF,(bP).ext hs.aF,(cB).ext hs.aF⟩ (ajy.ext hs.aF) (axw.ext hs.aF) (by have:=hz.threads; omega) (by have:=hz.recover; omega)) ?_;rintro VV w3 cA;have hs:=hs.made cA;obtain ⟨yc,LA⟩:∃ t,t=apV++apX:=⟨_,rfl⟩;rw [← LA] at hs;have Ge:jV yc (iN p) w:=by rw [LA]; exact jV.append apW apY
  have apZ:=Ge.1;have axx:=QI hz.toPS;have hs:=hs.p1.p1;refine ⟨λ m x w1=>∃ kb:Nat,x = .int .i64 (kb:Int)∧m=(iN p).length - kb∧kb≤(iN p).length∧(∀ y∈(iN p).take kb,decide (4<(y.aK.length:Int))=false)∧St w bD [bK VV yc,cH kN (Flat.enc (⟨bG,bQ,bH,aT,aU,aY⟩:bN))] w1,⟨_,0,rfl,rfl,Nat.zero_le _,by simp,hs⟩,?_⟩;rintro m _ w4 ⟨kb,rfl,rfl,hkb,NW,hs⟩ jH;refine aJ iQ (hs).fF (aR (aC (λ fT=>?_) (λ fT=>?_)))
  ·obtain ⟨El,lH⟩:=gx yc (i:=((kb:Int)).toNat) (by omega);obtain ⟨ap0,wF⟩:=gx ((iN p)) (i:=((kb:Int)).toNat) (by omega);obtain ⟨EN,EO,rfl,EP,ER⟩:=Ge.2 _ _ _ lH wF;refine aQ iQ (hs).fF (by omega) lH (λ _ oo=>bT EN jA oo rfl rfl (λ _ oN=>aD pH (oN) ?_));have axy:=DL.flat (EP);refine aJ mY (axy.ext hs.aF) (dB (aC (λ iJ=>?_) (λ iJ=>?_)))
   ·have hs:=((hs.drop)).drop;refine ⟨vb ?_,hs.aF⟩;unfold Al;rw [jI wF (decide_eq_true (by omega))]; simp
   ·refine aO (by omega) ?_;exact ⟨_,by omega,kb+1,rfl,rfl,by omega,eH NW wF (decide_eq_false (by omega)),hs⟩
  ·refine ⟨λ jv w'=>jv = .bool (decide (4<(p.lines.length:Int)) || decide (4<(p.jY.length:Int)) || decide (2<(p.locks.length:Int)) || decide ((p.threads.length:Int)<1) || decide (3<(p.threads.length:Int)) || decide (4<(p.cD.length:Int)))∧St w bD [] w',?_,?_⟩
   ·refine aA jz (aB rX hs.p1.hb rfl (aJ vI (ajx.ext hs.aF) (dB (aC (λ nh=>?_) (λ nh=>?_)))))
    ·have hs:=((hs.drop)).drop;exact ⟨vb (by grind),hs⟩
    ·refine aA uQ (aB jF hs.p1.hb rfl ?_);have axz:=DL.flat (dD);refine aJ kf (axz.ext hs.aF) (dB (aC (λ ug=>?_) (λ ug=>?_)))
     ·have hs:=((hs.drop)).drop;exact ⟨vb (by grind),hs⟩
     ·refine aA sb (aB jF hs.p1.hb rfl ?_);have axA:=DL.flat (cM);refine aJ kf (axA.ext hs.aF) (dB (aC (λ vC=>?_) (λ vC=>?_)))
      ·have hs:=((hs.drop)).drop;exact ⟨vb (by grind),hs⟩
      ·refine aA nk (aB ji hs.p1.hb rfl (aJ iQ (ajy.ext hs.aF) (aR (aC (λ EI=>?_) (λ EI=>?_)))))
       ·have hs:=((hs.drop)).drop;exact ⟨vb (by grind),hs⟩
       ·refine aA nk (aB ji hs.p1.hb rfl (aJ iQ (ajy.ext hs.aF) (dB (aC (λ kF=>?_) (λ kF=>?_)))))
        ·have hs:=((hs.drop)).drop;exact ⟨vb (by grind),hs⟩
        ·refine aA kS (aB sW hs.p1.hb rfl ?_);obtain ⟨ts36,axB,axC⟩:=(cB).open;have hn36:=axC.1;refine aJ yN (axB.ext hs.aF) (dB ?_);have hs:=((hs.drop)).drop;exact ⟨vb (by grind),hs⟩
   ·rintro _ w5 ⟨rfl,hs⟩ oY;refine ⟨vb ?_,hs.aF⟩;unfold Al;rw [iM (by rw [List.take_of_length_le (by omega)] at fV; exact fV),iM (by rw [List.take_of_length_le (by omega)] at NW; exact NW)]; rfl
theorem C40 (p:cY) (pv:bN) (w:World) (hp:bZ.dr w pv p) (hz:PZ p):CR 40 [Flat.val pv] w (λ v w'=>∃ a:Int,v = .tuple #[.int .i64 (gR p),.int .i64 a]∧Ext w w'):=by
 obtain ⟨bG,bQ,bH,aT,aU,aY,rfl,cL,dD,cM,bR,bP,cB⟩:=hp;have hs:=St.start w;refine ahQ _ _ _ ?_;unfold S40;refine dJ hs (λ kN w1 hs=>aD gO hs.At (aZ avF hs (C93 p _ _ ⟨bG,bQ,bH,aT,aU,aY,rfl,(cL).ext hs.aF,(dD).ext hs.aF,(cM).ext hs.aF,(bR).ext hs.aF,(bP).ext hs.aF,(cB).ext hs.aF⟩ hz) (λ w2 he hs=>cC (aX (λ mg=>?_) (λ mg=>?_)))))
 ·have hs:=(hs).drop;exact ⟨_,congrArg (λ q=>Value.tuple #[.int .i64 q,_]) (ce8 (by simpa using mg)).symm,hs.aF⟩
 ·have hrp:mh p=true:=by simpa using mg
  have hPF:=wC hrp;refine aD gO hs.At (aZ avG hs (C94 p _ _ ⟨bG,bQ,bH,aT,aU,aY,rfl,(cL).ext hs.aF,(dD).ext hs.aF,(cM).ext hs.aF,(bR).ext hs.aF,(bP).ext hs.aF,(cB).ext hs.aF⟩ hz) (λ w3 he hs=>aX (λ fB=>?_) (λ fB=>?_)))
  ·have hs:=(hs).drop;exact ⟨_,congrArg (λ q=>Value.tuple #[.int .i64 q,_]) (ce2 hrp fB).symm,hs.aF⟩
  ·refine aD gO hs.At ?_;obtain ⟨ap1,axD,ap2⟩:=(bR).open;have hn37:=ap2.1;obtain ⟨ap3,axE,ap4⟩:=(bP).open;have hn38:=ap4.1;refine eA anu (C95 p _ ap1 ap3 _ ⟨bG,bQ,bH,aT,aU,aY,rfl,(cL).ext hs.aF,(dD).ext hs.aF,(cM).ext hs.aF,(bR).ext hs.aF,(bP).ext hs.aF,(cB).ext hs.aF⟩ (axD.ext hs.aF) (axE.ext hs.aF) (by have:=hz.threads; omega) (by have:=hz.recover; omega)) ?_;rintro VV w4 cA;have hs:=hs.made cA;obtain ⟨yc,LA⟩:∃ t,t=ap1++ap3:=⟨_,rfl⟩;rw [← LA] at hs;have Ge:jV yc (iN p) w:=by rw [LA]; exact jV.append ap2 ap4
   have apZ:=Ge.1;have axx:=QI hz.toPS;have hs:=hs.p1.p1;refine ⟨λ m x w1=>∃ k1:Nat,x = .int .i64 (k1:Int)∧m=(iN p).length - k1∧k1≤(iN p).length∧(∀ y∈(iN p).take k1,vB y.body=false)∧St w bD [bK VV yc,cH kN (Flat.enc (⟨bG,bQ,bH,aT,aU,aY⟩:bN))] w1,⟨_,0,rfl,rfl,Nat.zero_le _,by simp,hs⟩,?_⟩;rintro m _ w5 ⟨k1,rfl,rfl,TU,ajz,hs⟩ fD;refine aJ iQ (hs).fF (aR (aC (λ fT=>?_) (λ fT=>?_)))
   ·obtain ⟨El,lH⟩:=gx yc (i:=((k1:Int)).toNat) (by omega);obtain ⟨ap0,wF⟩:=gx ((iN p)) (i:=((k1:Int)).toNat) (by omega);obtain ⟨EN,EO,rfl,EP,ER⟩:=Ge.2 _ _ _ lH wF;refine aQ iQ (hs).fF (by omega) lH (λ _ oo=>bT EO qH oo rfl rfl (λ _ oN=>aD sX (oN) ?_));obtain ⟨hb40,Ns,tr,htr,IX,oM,_⟩:=nG (hPF.ths (List.mem_of_getElem? wF)).2.1;have CE:=congrArg List.length htr;rw [Bk.cT] at CE;refine eA aiG (C96 _ tr 1 (tr.len+1) _ (by rw [← htr]; exact (ER.ext hs.aF)) IX (λ y hy=>NV (Ns y (by rw [htr]; exact hy))) (by omega) (by omega) (by omega)) ?_
    rintro _ w6 ⟨wa,rfl,hwa,he⟩;have hs:=hs.ext he;refine dK (aC (λ jC=>?_) (λ jC=>?_))
    ·have hs:=((hs.drop)).drop;exact ⟨_,congrArg (λ q=>Value.tuple #[.int .i64 q,_]) (aw1 hrp fB (jI wF (by rw [htr,yV IX,← hwa]; exact decide_eq_true jC))).symm,hs.aF⟩
    ·refine aO (by omega) ?_;have hs:=hs.p1.p1;exact ⟨_,by omega,k1+1,rfl,rfl,by omega,eH ajz wF (by rw [htr,yV IX,← hwa]; exact decide_eq_false jC),hs⟩
   ·rw [List.take_of_length_le (by omega)] at ajz;have vL:(iN p).any (λ t=>vB t.body)=false:=iM ajz;refine aD gO hs.p1.At (eA avH (C97 p _ _ ⟨bG,bQ,bH,aT,aU,aY,rfl,(cL).ext hs.aF,(dD).ext hs.aF,(cM).ext hs.aF,(bR).ext hs.aF,(bP).ext hs.aF,(cB).ext hs.aF⟩ hz hPF.decl) ?_);rintro _ w7 ⟨a_x38,rfl,VW,he⟩;have hs:=hs.ext he;refine dK (aC (λ qA=>?_) (λ qA=>?_))
    ·have hs:=((hs.drop)).drop;exact ⟨_,congrArg (λ q=>Value.tuple #[.int .i64 q,_]) (aw2 hrp fB vL (by rw [← VW]; exact decide_eq_true qA)).symm,hs.aF⟩
    ·have h10:rA (jK p)=false:=by rw [← VW]; exact decide_eq_false qA
     have hs:=hs.p1.p1;refine ⟨λ m x w1=>∃ k2:Nat,x = .int .i64 (k2:Int)∧m=(iN p).length - k2∧k2≤(iN p).length∧(∀ y∈(iN p).take k2,Gd p y.aK=false)∧St w bD [bK VV yc,cH kN (Flat.enc (⟨bG,bQ,bH,aT,aU,aY⟩:bN))] w1,⟨_,0,rfl,rfl,Nat.zero_le _,by simp,hs⟩,?_⟩;rintro m _ w8 ⟨k2,rfl,rfl,H0,EC,hs⟩ jH;refine aJ iQ (hs).fF (aR (aC (λ jR=>?_) (λ jR=>?_)))
     ·obtain ⟨ap5,wG⟩:∃ xx,yc[((k2:Int)).toNat]? = some xx:=⟨_,List.getElem?_eq_getElem (by omega)⟩;obtain ⟨Au,IY⟩:∃ xx,((iN p))[((k2:Int)).toNat]? = some xx:=⟨_,List.getElem?_eq_getElem (by omega)⟩;obtain ⟨yX,ajB,rfl,NX,ajC⟩:=Ge.2 _ _ _ wG IY;have hzt2:=hz.ths (List.mem_of_getElem? IY);refine ⟨λ m x w1=>∃ k3:Nat,x = .int .i64 (k3:Int)∧m=Au.aK.length - k3∧k3≤Au.aK.length∧(∀ j,j<k3→QH p Au.aK j=false)∧St w bD [bK VV yc,cH kN (Flat.enc (⟨bG,bQ,bH,aT,aU,aY⟩:bN))] w1,⟨_,0,rfl,rfl,Nat.zero_le _,by simp,hs⟩,?_⟩
      rintro m _ w9 ⟨k3,rfl,rfl,hk3,ap7,hs⟩ oY;refine aQ iQ (hs).fF (by omega) wG (λ _ VX=>bT yX jA VX rfl rfl (λ _ ap8=>aD pH (ap8) ?_));have ajD:=DL.flat (NX);refine aJ mY (ajD.ext hs.aF) (aR (aC (λ EI=>?_) (λ EI=>?_)))
      ·refine aQ iQ (hs).fF (by omega) wG (λ _ ap9=>bT yX jA ap9 rfl rfl (λ _ VY=>aD pH (VY) ?_));obtain ⟨Hd,wH⟩:=gx ((Au).aK) (i:=((k3:Int)).toNat) (by omega);refine aQ mY (ajD.ext hs.aF) (by omega) wH (λ _ ED=>aD kn (ED) ?_);refine ⟨λ jv w'=>jv = .bool (decide (dV Au.aK Hd<k3) || decide (0≤dV (fj p) Hd) || decide (0≤dV (ig p) Hd))∧St w bD [bK VV yc,cH kN (Flat.enc (⟨bG,bQ,bH,aT,aU,aY⟩:bN))] w',?_,?_⟩
       ·refine aQ iQ (hs).fF (by omega) wG (λ _ aqa=>bT yX jA aqa rfl rfl (λ _ VZ=>aD pH (VZ) (aZ Bm hs (C98 _ (Au).aK _ _ (ajD.ext hs.aF) (by have:=mi hz.toPS; have hk:(ig p).length≤500:=(by unfold ig; rw [List.length_map]; exact hz.locks); omega)) (λ pP he hs=>aR (aC (λ Lp=>?_) (λ Lp=>?_))))))
        ·have hs:=hs.p1.p1;exact ⟨vb (by grind),hs⟩
        ·refine aD gO hs.p1.At (dF Uw hs (C46 p _ _ ⟨bG,bQ,bH,aT,aU,aY,rfl,(cL).ext hs.aF,(dD).ext hs.aF,(cM).ext hs.aF,(bR).ext hs.aF,(bP).ext hs.aF,(cB).ext hs.aF⟩ hz) (λ x77 sZ cA hs=>aZ Bm hs (C98 _ (fj p) _ _ (hs).fF (by have:=mi hz.toPS; have hk:(ig p).length≤500:=(by unfold ig; rw [List.length_map]; exact hz.locks); omega)) (λ vy he hs=>dK (aC (λ V0=>?_) (λ V0=>?_)))))
         ·have hs:=(hs.drop.p1).p1;exact ⟨vb (by grind),hs⟩
         ·refine aD gO hs.p2.At (dF aiH hs (C99 p _ _ ⟨bG,bQ,bH,aT,aU,aY,rfl,(cL).ext hs.aF,(dD).ext hs.aF,(cM).ext hs.aF,(bR).ext hs.aF,(bP).ext hs.aF,(cB).ext hs.aF⟩ hz) (λ x84 vz cA hs=>aZ Bm hs (C98 _ (ig p) _ _ (hs).fF (by have:=mi hz.toPS; have hk:(ig p).length≤500:=(by unfold ig; rw [List.length_map]; exact hz.locks); omega)) (λ su he hs=>dK ?_)));have hs:=((((hs.drop)).drop).p1).p1;exact ⟨vb (by grind),hs⟩
       ·rintro _ wm ⟨rfl,hs⟩ G9;refine aX (λ Av=>?_) (λ Av=>?_)
        ·refine aQ iQ (hs).fF (by omega) wG (λ _ aqb=>bT (Au).at_ zS aqb rfl rfl (λ _ V1=>have hs:=hs.drew;aD bL (V1) ?_));have hs:=((hs.drop)).drop;exact ⟨_,congrArg (λ q=>Value.tuple #[.int .i64 q,_]) (apB hrp fB vL h10 (jI IY (show Gd p Au.aK=true from rB (j:=k3) (by omega) (by rw [QJ (k:=k3) wH]; exact Av)))).symm,hs.aF⟩
        ·refine aO (by omega) ?_;exact ⟨_,by omega,k3+1,rfl,rfl,by omega,Ak ap7 (by rw [QJ (k:=k3) wH]; exact Av),hs⟩
      ·refine aO (by omega) ?_;have hs:=hs.p1.p1;exact ⟨_,by omega,k2+1,rfl,rfl,by omega,eH EC IY (show Gd p Au.aK=false from ng (λ j hj=>ap7 j (by omega))),hs⟩
     ·rw [List.take_of_length_le (by omega)] at EC;have ajE:(iN p).any (λ t=>Gd p t.aK)=false:=iM EC;have hs:=hs.p1.p1;refine ⟨λ m x w1=>∃ k5:Nat,x = .int .i64 (k5:Int)∧m=(iN p).length - k5∧k5≤(iN p).length∧(∀ y∈(iN p).take k5,y.body.any (ou p y.aK)=false)∧St w bD [bK VV yc,cH kN (Flat.enc (⟨bG,bQ,bH,aT,aU,aY⟩:bN))] w1,⟨_,0,rfl,rfl,Nat.zero_le _,by simp,hs⟩,?_⟩;rintro m _ zq ⟨k5,rfl,rfl,hk5,ajF,hs⟩ Sv;refine aJ iQ (hs).fF (aR (aC (λ aqc=>?_) (λ aqc=>?_)))
      ·obtain ⟨axF,Dc⟩:∃ xx,yc[((k5:Int)).toNat]? = some xx:=⟨_,List.getElem?_eq_getElem (by omega)⟩;obtain ⟨BG,Aw⟩:∃ xx,((iN p))[((k5:Int)).toNat]? = some xx:=⟨_,List.getElem?_eq_getElem (by omega)⟩;obtain ⟨LB,wI,rfl,LC,Cn⟩:=Ge.2 _ _ _ Dc Aw;have aqd:=hz.ths (List.mem_of_getElem? Aw);have axG:=hPF.ths (List.mem_of_getElem? Aw);obtain ⟨hb45,aqe,_⟩:=nG axG.2.1;refine ⟨λ m x w1=>∃ k6:Nat,x = .int .i64 (k6:Int)∧m=BG.body.length - k6∧k6≤BG.body.length∧(∀ y∈BG.body.take k6,ou p BG.aK y=false)∧St w bD [bK VV yc,cH kN (Flat.enc (⟨bG,bQ,bH,aT,aU,aY⟩:bN))] w1,⟨_,0,rfl,rfl,Nat.zero_le _,by simp,hs⟩,?_⟩
       rintro m _ CH ⟨k6,rfl,rfl,hk6,ajG,hs⟩ dd6;refine aQ iQ (hs).fF (by omega) Dc (λ _ ajH=>bT wI qH ajH rfl rfl (λ _ ajI=>aD sX (ajI) ?_));obtain ⟨axH,aqf,aqg⟩:=(Cn).open;have hn40:=aqg.1;refine aJ kh (aqf.ext hs.aF) (aR (aC (λ ajJ=>?_) (λ ajJ=>?_)))
       ·have hs:=hs.drew;refine aD gO hs.p1.At (aQ iQ (hs).fF (by omega) Dc (λ _ NY=>aD IA (NY) (aQ iQ (hs).fF (by omega) Dc (λ _ ajK=>bT wI qH ajK rfl rfl (λ _ ajL=>aD sX (ajL) ?_)))));obtain ⟨axI,QP⟩:=gx axH (i:=((k6:Int)).toNat) (by omega);obtain ⟨ajM,Ax⟩:=gx ((BG).body) (i:=((k6:Int)).toNat) (by omega);obtain ⟨V2,V3,rfl,V4,V5⟩:=aqg.2 _ _ _ QP Ax;refine aQ kh (aqf.ext hs.aF) (by omega) QP (λ _ ajN=>aD gb (ajN) ?_);have hf5:=ac5 (aqe _ (List.mem_of_getElem? Ax));refine eA anv (C100 p _ BG _ ajM _ _ ⟨bG,bQ,bH,aT,aU,aY,rfl,(cL).ext hs.aF,(dD).ext hs.aF,(cM).ext hs.aF,(bR).ext hs.aF,(bP).ext hs.aF,(cB).ext hs.aF⟩ ⟨LB,wI,rfl,(LC).ext hs.aF,(Cn).ext hs.aF⟩ ⟨V2,V3,rfl,(V4).ext hs.aF,(V5).ext hs.aF⟩ hz aqd.2.1 (aqd.1.2.2 _ (List.mem_of_getElem? Ax)) hf5) ?_
        rintro _ IN ⟨axJ,rfl,QQ,he⟩;have hs:=hs.ext he;refine dK (aC (λ yY=>?_) (λ yY=>?_))
        ·have hs:=((hs.drop)).drop;exact ⟨_,congrArg (λ q=>Value.tuple #[.int .i64 q,_]) (ce9 hrp fB vL h10 ajE (jI Aw (jI Ax (by rw [← QQ]; exact decide_eq_true yY)))).symm,hs.aF⟩
        ·refine aO (by omega) ?_;exact ⟨_,by omega,k6+1,rfl,rfl,by omega,eH ajG Ax (by rw [← QQ]; exact decide_eq_false yY),hs⟩
       ·refine aO (by omega) ?_;have hs:=hs.p1.p1;exact ⟨_,by omega,k5+1,rfl,rfl,by omega,eH ajF Aw (iM (by rw [List.take_of_length_le (by omega)] at ajG; exact ajG)),hs⟩
      ·rw [List.take_of_length_le (by omega)] at ajF;have h9:(iN p).any (λ t=>t.body.any (ou p t.aK))=false:=iM ajF;have hs:=hs.drew;refine aD gO hs.p1.At (aD gO hs.p1.At (dF Uw hs (C46 p _ _ ⟨bG,bQ,bH,aT,aU,aY,rfl,(cL).ext hs.aF,(dD).ext hs.aF,(cM).ext hs.aF,(bR).ext hs.aF,(bP).ext hs.aF,(cB).ext hs.aF⟩ hz) (λ axK JQ cA hs=>?_)));refine ⟨eO gO hs.p2.At,?_⟩;refine aZ ZB hs (C41 p _ _ ⟨bG,bQ,bH,aT,aU,aY,rfl,(cL).ext hs.aF,(dD).ext hs.aF,(cM).ext hs.aF,(bR).ext hs.aF,(bP).ext hs.aF,(cB).ext hs.aF⟩ hz) (λ Lc he hs=>?_)
       have QO:=mi hz.toPS;have hsl:0≤ek p∧ek p≤(fj p).length:=by unfold ek fj gL; rw [List.length_map,List.length_append]; omega
       refine mc mY (hs).fF (by omega) (by omega) (λ axL adg=>?_);have hs:=(hs.p1.drop.p1).p1;refine ⟨λ m x w1=>∃ k7:Nat,x = .int .i64 (k7:Int)∧m=p.cD.length - k7∧k7≤p.cD.length∧(∀ y∈p.cD.take k7,vA y.e (o8 p)=false)∧St w bD [bK axK (fj p),cH kN (Flat.enc (⟨bG,bQ,bH,aT,aU,aY⟩:bN))] w1,⟨_,0,rfl,rfl,Nat.zero_le _,by simp,hs⟩,?_⟩;rintro m _ M4 ⟨k7,rfl,rfl,hk7,ajO,hs⟩ dd7;have hzc:=hz.cD;refine aA kS (aB sW hs.p1.hb rfl ?_);obtain ⟨axM,aqh,aqi⟩:=(cB).open;have hn41:=aqi.1;refine aJ yN (aqh.ext hs.aF) (aR (aC (λ NZ=>?_) (λ NZ=>?_)))
       ·refine aA kS (aB sW hs.p1.hb rfl ?_);obtain ⟨axN,QR⟩:=gx axM (i:=((k7:Int)).toNat) (by omega);obtain ⟨axO,Ay⟩:=gx ((p).cD) (i:=((k7:Int)).toNat) (by omega);obtain ⟨V6,rfl,V7⟩:=aqi.2 _ _ _ QR Ay;refine aQ yN (aqh.ext hs.aF) (by omega) QR (λ _ ES=>bT V6 C4 ES rfl rfl (λ _ ajP=>aD mX (ajP) ?_));have axP:=DL.flat (V7);refine eA UC (C101 _ _ _ _ _ (axP.ext hs.aF) (adg _ (hs).fF) (hz.zc _ (List.mem_of_getElem? Ay)).1 (by have:=mi hz.toPS; simp; omega) (BB (hPF.cl _ (List.mem_of_getElem? Ay)).2)) ?_;rintro _ QS ⟨axQ,rfl,QT,he⟩
        have hs:=hs.ext he;refine dK (aC (λ N2=>?_) (λ N2=>?_))
        ·have hs:=((hs.drop)).drop;exact ⟨_,congrArg (λ q=>Value.tuple #[.int .i64 q,_]) (aw3 hrp fB vL h10 ajE h9 (jI Ay (by unfold o8; rw [← QT]; exact decide_eq_true N2))).symm,hs.aF⟩
        ·refine aO (by omega) ?_;exact ⟨_,by omega,k7+1,rfl,rfl,by omega,eH ajO Ay (by unfold o8; rw [← QT]; exact decide_eq_false N2),hs⟩
       ·have hs:=((hs.drop)).drop;exact ⟨_,congrArg (λ q=>Value.tuple #[.int .i64 q,_]) (ce0 hrp fB vL h10 ajE h9 (iM (by rw [List.take_of_length_le (by omega)] at ajO; exact ajO))).symm,hs.aF⟩
theorem Bk.N3 {x:cI} {a b r:Bk} (h:(Bk.cons x a b r).str) {hi lo:Int} (h1:hi=1+x.body) (h2:lo=1):((Bk.cons x a b r).flat.take hi.toNat).drop lo.toNat=a.flat:=by
 obtain ⟨g1,g2,_⟩:=h
 have la:=a.cT
 rw [Ev _ (a:=1) (n:=a.flat.length) (by omega) (by omega)]
 show (a.flat++(b.flat++r.flat)).take _=_
 rw [List.take_left]
theorem Bk.adh {x:cI} {a b r:Bk} (h:(Bk.cons x a b r).str) {hi lo:Int} (h1:hi=1+x.body+x.fK) (h2:lo=1+x.body):((Bk.cons x a b r).flat.take hi.toNat).drop lo.toNat=b.flat:=by
 obtain ⟨g1,g2,_⟩:=h
 have la:=a.cT
 have lb:=b.cT
 rw [Ev _ (a:=1+a.flat.length) (n:=b.flat.length) (by omega) (by omega)]
 have e:(Bk.cons x a b r).flat=(x::a.flat)++(b.flat++r.flat):=by simp [Bk.flat]
 rw [e,show 1+a.flat.length=(x::a.flat).length from by simp; omega,List.drop_left,List.take_left]
def ET (k:Int):Int:=if k=2∨k=4∨k=8∨k=9∨k=10 then 1 else if k=3∨k=5∨k=6∨k=7 then 2 else 0
theorem V8 (k:Int):0≤ET k∧ET k≤2:=by
 unfold ET
 repeat' split
 all_goals omega
def rY:Bk→Int
 | .nil=>0
 | .cons x a b r=>(if x.kind=12 then x.n * rY a else if x.kind=11 then max (rY a) (rY b) else ET x.kind)+rY r
def kG (t:Bk):Prop:=∀ x∈t.flat,x.kind=12→1≤x.n∧x.n≤8
theorem kG.a {x:cI} {a b r:Bk} (h:kG (.cons x a b r)):kG a:=λ y hy=>h y (by simp [Bk.flat,hy])
theorem kG.b {x:cI} {a b r:Bk} (h:kG (.cons x a b r)):kG b:=λ y hy=>h y (by simp [Bk.flat,hy])
theorem kG.r {x:cI} {a b r:Bk} (h:kG (.cons x a b r)):kG r:=λ y hy=>h y (by simp [Bk.flat,hy])
theorem kG.x {x:cI} {a b r:Bk} (h:kG (.cons x a b r)):x.kind=12→1≤x.n∧x.n≤8:=h x (by simp [Bk.flat])
theorem adi (t:Bk):kG t→0≤rY t:=by
 induction t with
 | nil=>intro _; simp [rY]
 | cons x a b r vK xZ G6=>
  intro h
  have h1:=vK h.a
  have h2:=xZ h.b
  have h3:=G6 h.r
  have hc:=V8 x.kind
  unfold rY
  split
  ·rename_i hk
   have:=Int.mul_nonneg (a:=x.n) (by have:=h.x hk; omega) h1
   omega
  ·split <;> omega
def bX:Bk→Int
 | .nil=>0
 | .cons x a b r=>(if x.kind=12 then 2+bX a else if x.kind=11 then (if 0<x.fK then 1+bX a+bX b+1 else 1+bX a+bX b) else 1)+bX r
theorem iY (t:Bk):0≤bX t∧bX t≤2 * t.len:=by
 induction t with
 | nil=>simp [bX,Bk.len]
 | cons x a b r vK xZ G6=>
  unfold bX Bk.len
  repeat' split
  all_goals omega
def iZ:Bk→Int
 | .nil=>0
 | .cons x a b r=>max (if x.kind=12 then max (iZ a) (iZ b)+1 else max (iZ a) (iZ b)) (iZ r)
theorem tf (t:Bk):0≤iZ t∧iZ t≤t.len:=by
 induction t with
 | nil=>simp [iZ,Bk.len]
 | cons x a b r vK xZ G6=>
  unfold iZ Bk.len
  split <;> omega
def lI (p:cY) (rs:List ByteArray) (x:cI):aW:=
 ⟨if x.kind=14 then 15 else x.kind,max 0 (dV rs x.gQ),
  if x.kind=2∨x.kind=3∨x.kind=4 then dV (fj p) x.name else if x.kind=5∨x.kind=6 then lT p (dV (fj p) x.name) else if x.kind=9∨x.kind=10 then dV (ig p) x.name else 0,
  gk rs x.e,gk rs x.f,0⟩
def rD (x:cI) (a:Bk) (at_:Int):Int:=if 0<x.fK then at_+1+bX a+1 else at_+1+bX a
def eX (p:cY) (rs:List ByteArray):Bk→Int→Int→Int→List aW
 | .nil,_,_,_=>[]
 | .cons x a b r,at_,lp,out=>
  (if x.kind=11 then [⟨12,0,0,gk rs x.e,[],rD x a at_⟩]++eX p rs a (at_+1) lp out++(if 0<x.fK then [⟨11,0,0,[],[],rD x a at_+bX b⟩] else [])++eX p rs b (rD x a at_) lp out
   else if x.kind=12 then [⟨13,lp,x.n,[],[],0⟩]++eX p rs a (at_+1) (lp+1) (at_+2+bX a)++[⟨14,lp,0,[],[],at_+1⟩]
   else if x.kind=13 then [⟨11,0,0,[],[],out⟩] else [lI p rs x])++
  eX p rs r (at_+(bX (.cons x a b r) - bX r)) lp out
theorem ij (p:cY) (rs:List ByteArray) (t:Bk):∀ at_ lp out,((eX p rs t at_ lp out).length:Int)=bX t:=by
 induction t with
 | nil=>intro _ _ _; rfl
 | cons x a b r vK xZ G6=>
  intro at_ lp out
  unfold eX
  rw [List.length_append,Int.natCast_add,G6]
  rw [show bX (.cons x a b r)=(if x.kind=12 then 2+bX a else if x.kind=11 then (if 0<x.fK then 1+bX a+bX b+1 else 1+bX a+bX b) else 1)+bX r from rfl]
  congr 1
  by_cases h1:x.kind=11
  ·simp only [if_pos h1,if_neg (show ¬ x.kind=12 by omega)]
   have ha:=vK (at_+1) lp out
   have hb:=xZ (rD x a at_) lp out
   by_cases h2:0<x.fK
   ·simp only [if_pos h2,List.length_append,List.length_singleton]; omega
   ·simp only [if_neg h2,List.length_append,List.length_singleton,List.length_nil]; omega
  ·simp only [if_neg h1]
   by_cases h2:x.kind=12
   ·have ha:=vK (at_+1) (lp+1) (at_+2+bX a)
    simp only [if_pos h2,List.length_append,List.length_singleton]; omega
   ·simp only [if_neg h2]
    split <;> simp
def ml (p:cY) (t:dX):fu:=match o0 t.body with | some b=>⟨t.aK.length,iZ b,eX p t.aK b 0 0 0⟩ | none=>⟨t.aK.length,0,[]⟩
def eD (p:cY):im:=
 ⟨(List.range (gL p).length).map (fun (i:Nat)=>lT p i),ek p,pC p,p.locks.length,p.threads.map (ml p),(match p.recover[0]? with | some t=>ml p t | none=>⟨0,0,[]⟩),p.cD.map (λ c=>gk (o8 p) c.e)⟩
theorem C158 (lv:Value) (t:Bk) (N:Nat) (w:World) (hL:DL w lv t.flat) (gr:t.str) (hl:t.len≤1048576) (hN:t.len<N):CR 158 [lv] w (λ v w'=>v = .int .i64 (bX t)∧Ext w w'):=by
 have CE:=t.cT;have hs:=St.start w;refine aal _ _ _ ?_;unfold S158;obtain ⟨axR,Gf,SA⟩:=(hL).open;have hn43:=SA.1;refine aJ kh (Gf.ext hs.aF) (aH (aC (λ gA=>?_) (λ gA=>?_)))
 ·cases t with
  | nil=>exact ⟨rfl,hs.aF⟩
  | cons x a b r=>exact absurd CE (by rw [show (Bk.cons x a b r).len=a.len+b.len+r.len+1 from rfl]; omega)
 ·obtain ⟨x,a,b,r,rfl⟩:=Bk.Db (t:=t) (by omega);obtain ⟨af5,wA⟩:=gx axR (i:=((0:Int)).toNat) (by omega);obtain ⟨fp,u3⟩:=gx ((Bk.cons x a b r).flat) (i:=((0:Int)).toNat) (by omega);obtain ⟨xA,xB,rfl,adj,adk⟩:=SA.2 _ _ _ wA u3;refine aQ kh Gf (by omega) wA (λ _ Ln=>?_);obtain rfl:fp=x:=(Option.some.inj u3).symm;have Ly:=gr;obtain ⟨FQ,hg2,hg3,hg4,VS,hgb,hgr⟩:=Ly;have T1:a.len+b.len+r.len+1≤1048576:=hl;have hNn:a.len+b.len+r.len+1<N:=hN;have M3:=a.cT;have QG:=b.cT;have hlr:=r.cT;have QL:(Bk.cons fp a b r).flat.length=a.len+b.len+r.len+1:=Bk.cT _
  have hsa:=iY a;have hsb:=iY b;have hsr:=iY r;refine aD gb (Ln.ext hs.aF) (aN hs qI (λ LD w1 hs=>have hs:=hs.enc (cs':=Flat.enc (⟨0,(ByteArray.mk #[]),(ByteArray.mk #[]),⟨none,0,0⟩,⟨none,0,0⟩,0,0,0,0⟩:bY)) rfl;aI (x:=(⟨(fp).kind,(fp).gQ,(fp).name,xA,xB,(fp).n,(fp).body,(fp).fK,(fp).at_⟩:bY)) hs gb rfl rfl (λ w2 hs=>aA m7 (have hs:=hs.drew;aB (v:=.int .i64 ((fp).body)) bL hs.hb rfl (aO (by omega) (aA iR (aB (v:=.int .i64 ((fp).fK)) bL hs.hb rfl (aO (by omega) ?_))))))));refine ⟨λ jv w'=>∃ n1:Int,jv = .int .i64 n1∧n1=(if fp.kind=11 then (if 0<fp.fK then 1+bX a+bX b+1 else 1+bX a+bX b) else 1)∧0≤n1∧n1≤4000000∧St w bD [cH LD (Flat.enc (⟨(fp).kind,(fp).gQ,(fp).name,xA,xB,(fp).n,(fp).body,(fp).fK,(fp).at_⟩:bY))] w',?_,?_⟩
  ·refine aA fC (aB (v:=.int .i64 ((fp).kind)) bL hs.hb rfl (aH (aC (λ iT=>?_) (λ iT=>?_))))
   ·refine kB kh (Gf.ext hs.aF) (by omega) (by omega) (by omega) (λ aql ajQ=>?_);have ajR:=DL.cut ajQ Gf SA;refine kB kh (Gf.ext hs.aF) (by omega) (by omega) (by omega) (λ V9 ajS=>?_);have ajT:=DL.cut ajS Gf SA;have hs:=hs.drew;refine aZ DG hs (C158 _ a (N - 1) _ (by have h:=ajR.ext hs.aF; rw [Bk.N3 gr (by omega) (by omega)] at h; exact h) VS (by omega) (by omega)) (λ w3 he hs=>aO (by omega) (aZ DG hs (C158 _ b (N - 1) _ (by have h:=ajT.ext hs.aF; rw [Bk.adh gr (by omega) (by omega)] at h; exact h) hgb (by omega) (by omega)) (λ w4 he hs=>aO (by omega) (aA iR (aB (v:=.int .i64 ((fp).fK)) bL hs.hb rfl (dB (aC (λ lx=>?_) (λ lx=>?_))))))))
    ·refine aO (by omega) ?_;exact ⟨_,rfl,by grind,by omega,by omega,hs⟩
    ·exact ⟨_,rfl,by grind,by omega,by omega,hs⟩
   ·exact ⟨_,rfl,by grind,by omega,by omega,hs⟩
  ·rintro _ w5 ⟨n1,rfl,Vz,axS,apD,hs⟩ fD;refine ⟨λ jv w'=>∃ n2:Int,jv = .int .i64 n2∧n2=(if fp.kind=12 then 2+bX a else if fp.kind=11 then (if 0<fp.fK then 1+bX a+bX b+1 else 1+bX a+bX b) else 1)∧0≤n2∧n2≤4000000∧St w bD [cH LD (Flat.enc (⟨(fp).kind,(fp).gQ,(fp).name,xA,xB,(fp).n,(fp).body,(fp).fK,(fp).at_⟩:bY))] w',?_,?_⟩
   ·refine aA fC (aB (v:=.int .i64 ((fp).kind)) bL hs.hb rfl (aH (aC (λ jD=>?_) (λ jD=>?_))))
    ·refine kB kh (Gf.ext hs.aF) (by omega) (by omega) (by omega) (λ aqm ajU=>?_);have ajV:=DL.cut ajU Gf SA;refine aZ DG hs (C158 _ a (N - 1) _ (by have h:=ajV.ext hs.aF; rw [Bk.N3 gr (by omega) (by omega)] at h; exact h) VS (by omega) (by omega)) (λ w6 he hs=>aO (by omega) ?_);exact ⟨_,rfl,by grind,by omega,by omega,hs⟩
    ·exact ⟨_,rfl,by grind,by omega,by omega,hs⟩
   ·rintro _ w7 ⟨n2,rfl,hn2,axf,hn21,hs⟩ jH;refine uX kh (Gf.ext hs.aF) (by omega) (by omega) (λ Wa ajW=>?_);have ajX:=DL.Qw ajW Gf SA;refine aZ DG hs (C158 _ r (N - 1) _ (by have h:=ajX.ext hs.aF; rw [Bk.ada gr (by omega)] at h; exact h) hgr (by omega) (by omega)) (λ w8 he hs=>aO (by omega) ?_);exact ⟨congrArg (Value.int .i64) (by rw [hn2]; rfl),hs.drop.aF⟩
termination_by N
decreasing_by all_goals omega
theorem C103 (lv:Value) (t:Bk) (N:Nat) (w:World) (hL:DL w lv t.flat) (gr:t.str) (hl:t.len≤1048576) (hN:t.len<N):CR 103 [lv] w (λ v w'=>v = .int .i64 (iZ t)∧Ext w w'):=by
 have CE:=t.cT;have hs:=St.start w;refine ZH _ _ _ ?_;unfold S103;obtain ⟨axT,LF,Wb⟩:=(hL).open;have hn44:=Wb.1;refine aJ kh (LF.ext hs.aF) (aH (aC (λ gA=>?_) (λ gA=>?_)))
 ·cases t with
  | nil=>exact ⟨rfl,hs.aF⟩
  | cons x a b r=>exact absurd CE (by rw [show (Bk.cons x a b r).len=a.len+b.len+r.len+1 from rfl]; omega)
 ·obtain ⟨x,a,b,r,rfl⟩:=Bk.Db (t:=t) (by omega);obtain ⟨af5,wA⟩:=gx axT (i:=((0:Int)).toNat) (by omega);obtain ⟨fp,u3⟩:=gx ((Bk.cons x a b r).flat) (i:=((0:Int)).toNat) (by omega);obtain ⟨xA,xB,rfl,adj,adk⟩:=Wb.2 _ _ _ wA u3;refine aQ kh LF (by omega) wA (λ _ Ln=>?_);obtain rfl:fp=x:=(Option.some.inj u3).symm;have Ly:=gr;obtain ⟨FQ,hg2,hg3,hg4,VS,hgb,hgr⟩:=Ly;have T1:a.len+b.len+r.len+1≤1048576:=hl;have hNn:a.len+b.len+r.len+1<N:=hN;have M3:=a.cT;have QG:=b.cT;have hlr:=r.cT;have QL:(Bk.cons fp a b r).flat.length=a.len+b.len+r.len+1:=Bk.cT _
  have hsa:=tf a;have hsb:=tf b;have hsr:=tf r;refine aD gb (Ln.ext hs.aF) (aN hs qI (λ LD w1 hs=>have hs:=hs.enc (cs':=Flat.enc (⟨0,(ByteArray.mk #[]),(ByteArray.mk #[]),⟨none,0,0⟩,⟨none,0,0⟩,0,0,0,0⟩:bY)) rfl;aI (x:=(⟨(fp).kind,(fp).gQ,(fp).name,xA,xB,(fp).n,(fp).body,(fp).fK,(fp).at_⟩:bY)) hs gb rfl rfl (λ w2 hs=>aA m7 (aB (v:=.int .i64 ((fp).body)) bL hs.hb rfl (aO (by omega) (aA iR (aB (v:=.int .i64 ((fp).fK)) bL hs.hb rfl (aO (by omega) (kB kh (LF.ext hs.aF) (by omega) (by omega) (by omega) (λ apK ajY=>?_))))))))))
  have ajZ:=DL.cut ajY LF Wb;refine kB kh (LF.ext hs.aF) (by omega) (by omega) (by omega) (λ QC BH=>?_);have N4:=DL.cut BH LF Wb;have hs:=hs.drew;refine aZ PK hs (C103 _ a (N - 1) _ (by have h:=ajZ.ext hs.aF; rw [Bk.N3 gr (by omega) (by omega)] at h; exact h) VS (by omega) (by omega)) (λ w3 he hs=>aZ PK hs (C103 _ b (N - 1) _ (by have h:=N4.ext hs.aF; rw [Bk.adh gr (by omega) (by omega)] at h; exact h) hgb (by omega) (by omega)) (λ w4 he hs=>xq ?_));refine ⟨λ jv w'=>∃ n1:Int,jv = .int .i64 n1∧n1=(if fp.kind=12 then max (iZ a) (iZ b)+1 else max (iZ a) (iZ b))∧0≤n1∧n1≤4000000∧St w bD [cH LD (Flat.enc (⟨(fp).kind,(fp).gQ,(fp).name,xA,xB,(fp).n,(fp).body,(fp).fK,(fp).at_⟩:bY))] w',?_,?_⟩
  ·refine aA fC (aB (v:=.int .i64 ((fp).kind)) bL hs.hb rfl (aH (aC (λ jP=>?_) (λ jP=>?_))))
   ·refine aO (by omega) ?_;exact ⟨_,rfl,by grind,by omega,by omega,hs⟩
   ·exact ⟨_,rfl,by grind,by omega,by omega,hs⟩
  ·rintro _ w5 ⟨n1,rfl,Vz,axS,apD,hs⟩ fD;refine uX kh (LF.ext hs.aF) (by omega) (by omega) (λ agc aj0=>?_);have aj1:=DL.Qw aj0 LF Wb;refine aZ PK hs (C103 _ r (N - 1) _ (by have h:=aj1.ext hs.aF; rw [Bk.ada gr (by omega)] at h; exact h) hgr (by omega) (by omega)) (λ w6 he hs=>xq ?_);exact ⟨congrArg (Value.int .i64) (by rw [Vz]; rfl),hs.drop.aF⟩
termination_by N
decreasing_by all_goals omega
theorem Wc (t:Bk):∀ n:Int,kG t→1≤n→oO t n=false→n * rY t≤128 * (t.len:Int)∧0≤rY t:=by
 induction t with
 | nil=>intro n _ _ _; simp [rY,Bk.len]
 | cons x a b r vK xZ G6=>
  intro n hq hn hw
  unfold oO at hw
  simp only [Bool.or_eq_false_iff,decide_eq_false_iff_not] at hw
  obtain ⟨⟨h64,ha,hb⟩,hr⟩:=hw
  have hm1:1≤sE x n:=by
   unfold sE
   split
   ·rename_i hk
    have:=hq.x hk
    have:=Int.mul_le_mul (a:=1) (b:=1) hn this.1 (by omega) (by omega)
    omega
   ·exact hn
  have h1:=vK _ hq.a hm1 ha
  have h2:=xZ _ hq.b hm1 hb
  have h3:=G6 _ hq.r hn hr
  have hnn:=adi _ hq
  refine ⟨?_,hnn⟩
  have hl:((Bk.cons x a b r).len:Int)=a.len+b.len+r.len+1:=rfl
  rw [hl,show rY (.cons x a b r)=(if x.kind=12 then x.n * rY a else if x.kind=11 then max (rY a) (rY b) else ET x.kind)+rY r from rfl,Int.mul_add]
  have key:n * (if x.kind=12 then x.n * rY a else if x.kind=11 then max (rY a) (rY b) else ET x.kind)≤128 * (a.len+b.len+1):=by
   by_cases hk:x.kind=12
   ·rw [if_pos hk,← Int.mul_assoc]
    have:sE x n=n * x.n:=by unfold sE; rw [if_pos hk]
    rw [this] at h1; omega
   ·have hwn:sE x n=n:=by unfold sE; rw [if_neg hk]
    rw [hwn] at h1 h2 h64
    rw [if_neg hk]
    split
    ·rcases Int.le_total (rY a) (rY b) with h | h
     ·rw [Int.max_eq_right h]; omega
     ·rw [Int.max_eq_left h]; omega
    ·have hc:=V8 x.kind
     have:=Int.mul_le_mul (a:=n) (b:=ET x.kind) (c:=64) (d:=2) (by omega) hc.2 hc.1 (by omega)
     omega
  omega
structure BI (p:cY):Prop where
 right:mh p=true
 big:Al p=false
 axV:∀ t∈iN p,vB t.body=false
 twice:rA (jK p)=false
 aK:∀ t∈iN p,Gd p t.aK=false
 names:∀ t∈iN p,∀ x∈t.body,ou p t.aK x=false
 cD:∀ c∈p.cD,vA c.e (o8 p)=false
theorem EU {p:cY} (h:gR p=0):BI p:=by
 unfold gR at h
 split at h
 ·omega
 ·rename_i h1
  split at h
  ·omega
  ·rename_i h2
   split at h
   ·omega
   ·rename_i h3
    split at h
    ·omega
    ·rename_i h4
     split at h
     ·omega
     ·rename_i h5
      split at h
      ·omega
      ·rename_i h6
       split at h
       ·omega
       ·rename_i h7
        simp only [Bool.not_eq_true,Bool.not_eq_false,List.any_eq_false] at h1 h2 h3 h4 h5 h6 h7
        exact ⟨h1,h2,λ t ht=>h3 t ht,h4,λ t ht=>h5 t ht,λ t ht x hx=>h6 t ht x hx,λ c hc=>h7 c hc⟩
theorem BI.tree {p:cY} (h:BI p) {t:dX} (ht:t∈iN p):∃ b:Bk,t.body=b.flat∧b.str∧b.ok 0=true∧b.len≤40∧kG b∧(∀ x∈b.flat,rq x=true)∧oO b 1=false∧o0 t.body=some b∧0≤rY b∧rY b≤5120:=by
 obtain ⟨h1,h2,b,h3,h4,h5,_⟩:=nG ((wC h.right).ths ht).2.1
 have hl:b.len≤40:=by rw [← Bk.cT,← h3]; exact h1
 have hq:kG b:=λ x hx=>(NV (h2 x (by rw [h3]; exact hx))).2
 have hw:oO b 1=false:=by have:=h.axV t ht; rw [h3,yV h4] at this; exact this
 have hs:=Wc b 1 hq (by omega) hw
 exact ⟨b,h3,h4,h5,hl,hq,λ x hx=>h2 x (by rw [h3]; exact hx),hw,by rw [h3]; exact o7 h4,hs.2,by omega⟩
def Gg (p:cY) (rs:List ByteArray) (x:cI) (a b:Bk) (at_ lp out:Int):List aW:=
  if x.kind=11 then [⟨12,0,0,gk rs x.e,[],rD x a at_⟩]++eX p rs a (at_+1) lp out++(if 0<x.fK then [⟨11,0,0,[],[],rD x a at_+bX b⟩] else [])++eX p rs b (rD x a at_) lp out
   else if x.kind=12 then [⟨13,lp,x.n,[],[],0⟩]++eX p rs a (at_+1) (lp+1) (at_+2+bX a)++[⟨14,lp,0,[],[],at_+1⟩]
   else if x.kind=13 then [⟨11,0,0,[],[],out⟩] else [lI p rs x]
theorem vf (p:cY) (rs:List ByteArray) (x:cI) (a b r:Bk) (at_ lp out:Int):eX p rs (.cons x a b r) at_ lp out=Gg p rs x a b at_ lp out++eX p rs r (at_+((Gg p rs x a b at_ lp out).length:Int)) lp out:=by
 have h1:=ij p rs (.cons x a b r) at_ lp out
 have e:eX p rs (.cons x a b r) at_ lp out=Gg p rs x a b at_ lp out++eX p rs r (at_+(bX (.cons x a b r) - bX r)) lp out:=rfl
 have h2:=ij p rs r (at_+(bX (.cons x a b r) - bX r)) lp out
 rw [e,List.length_append] at h1
 rw [e,show ((Gg p rs x a b at_ lp out).length:Int)=bX (.cons x a b r) - bX r from by omega]
theorem IZ (p:cY) (rs:List ByteArray) (x:cI) (a b r:Bk) (at_ lp out:Int):((Gg p rs x a b at_ lp out).length:Int)=bX (.cons x a b r) - bX r:=by
 have h1:=ij p rs (.cons x a b r) at_ lp out
 have h2:=ij p rs r (at_+(bX (.cons x a b r) - bX r)) lp out
 have e:eX p rs (.cons x a b r) at_ lp out=Gg p rs x a b at_ lp out++eX p rs r (at_+(bX (.cons x a b r) - bX r)) lp out:=rfl
 rw [e,List.length_append] at h1
 omega
def LG:fu:=⟨0,0,[]⟩
def EV:im:=⟨[],0,[],0,[],LG,[]⟩
def LH (p:cY):fu:=match p.recover[0]? with | some t=>ml p t | none=>LG
theorem EW {p:cY} {t:dX} {b:Bk} (h:o0 t.body=some b):ml p t=⟨t.aK.length,iZ b,eX p t.aK b 0 0 0⟩:=by unfold ml; rw [h]
theorem C159 (q:Vp) (qv:wk) (x:cI) (xv:bY) (w:World) (hv:bZ.dr w qv q) (hx:bZ.dr w xv x) (hz:PZ q.p) (BJ:q.aK.length≤500) (hzx:SzS x):CR 159 [Flat.val qv,Flat.val xv] w (λ v w'=>∃ iv:bU,v=Flat.val iv∧lY (eL (λ w=>bZ.dr w iv (lI q.p q.aK x))) w w'):=by
 obtain ⟨aqn,ox,rfl,Wd,pY⟩:=hv;obtain ⟨eS,fh,eT,ed,ee,ey,rfl,jS,kW,jT,iu,iw,i0⟩:=Wd;obtain ⟨Ae,Af,rfl,Lo,G8⟩:=hx;have QO:=mi hz.toPS;have Lh:(ig q.p).length≤500:=by unfold ig; rw [List.length_map]; exact hz.locks
 have hs:=St.start w;refine aam _ _ _ _ ?_;unfold S159;refine dJ hs (λ b_v2 w1 hs=>dJ hs (λ LD w2 hs=>aN hs mF (λ CJ w3 hs=>have hs:=hs.enc (cs':=Flat.enc (⟨0,0,0,⟨none,0,0⟩,⟨none,0,0⟩,0⟩:bU)) rfl;aA zV (have hs:=hs.drew;aB pH hs.p2.hb rfl ?_))));have aj3:=DL.flat (pY);refine aA l7 (aB (v:=.string ((x).gQ)) kn hs.p1.hb rfl (aA DZ (uW (⟨eS,fh,eT,ed,ee,ey⟩:bN) gO hs.p2.hb rfl (aA jq (aB (v:=.string ((x).name)) kn hs.p1.hb rfl (aZ Bm hs (C98 _ (q).aK _ _ (aj3.ext hs.aF) (by omega)) (λ w4 he hs=>?_)))))))
 refine ⟨IL (⟨eS,fh,eT,ed,ee,ey⟩:bN) gO hs.p2.hb rfl,?_⟩;refine ⟨aG kn (hs.p1.hb.cell rfl),?_⟩;refine xq (dF Uw hs (C46 (q).p _ _ ⟨eS,fh,eT,ed,ee,ey,rfl,(jS.ext hs.aF),(kW.ext hs.aF),(jT.ext hs.aF),(iu.ext hs.aF),(iw.ext hs.aF),(i0.ext hs.aF)⟩ hz) (λ x20 w5 cA hs=>?_));refine ⟨aG kn (hs.p2.hb.cell rfl),?_⟩;refine aZ Bm hs (C98 _ (fj (q).p) _ _ (hs).fF (by omega)) (λ w6 he hs=>aA l8 (aB mX hs.p2.hb rfl ?_));have axW:=DL.flat (Lo)
 refine aA zV (aB pH hs.p3.hb rfl (eA ZC (C45 _ _ _ _ _ (axW.ext hs.aF) (aj3.ext hs.aF) hzx.2.2.1 (by omega) hzx.2.2.2.2.1) ?_));rintro _ w7 ⟨af4,rfl,cA⟩;have hs:=hs.made cA;refine bE rfl (bE rfl (aA nZ (aB mX hs.p3.hb rfl ?_)));have axX:=DL.flat (G8);refine aA zV (aB pH hs.p4.hb rfl (eA ZC (C45 _ _ _ _ _ (axX.ext hs.aF) (aj3.ext hs.aF) hzx.2.2.2.1 (by omega) hzx.2.2.2.2.2) ?_));rintro _ w8 ⟨aga,rfl,cA⟩;have hs:=hs.made cA;refine bE rfl (bE rfl (aA fC (aB (v:=.int .i64 ((x).kind)) bL hs.p4.hb rfl ?_)));obtain ⟨vg,rfl⟩:=(hs.p1).fU;obtain ⟨pa,rfl⟩:=(hs).fU
 refine pop (D1 _ _ _ _ _ _ _ _) (aN hs mF (λ aqo w9 hs=>have hs:=hs.enc (cs':=Flat.enc (⟨0,0,0,⟨none,0,0⟩,⟨none,0,0⟩,0⟩:bU)) rfl;aI (x:=(⟨(x).kind,(max 0 (dV (q).aK (x).gQ)),0,vg,pa,0⟩:bU)) hs lM rfl rfl (λ pP hs=>?_)));refine ⟨λ w'=>∃ kk bb:Int,kk=(if x.kind=14 then 15 else x.kind)∧bb=(if x.kind=2∨x.kind=3∨x.kind=4 then dV (fj q.p) x.name else if x.kind=5∨x.kind=6 then lT q.p (dV (fj q.p) x.name) else if x.kind=9∨x.kind=10 then dV (ig q.p) x.name else 0)∧St w bD [cH aqo (Flat.enc (⟨kk,max 0 (dV q.aK x.gQ),bb,vg,pa,0⟩:bU)),bK (Flat.val vg) (gk q.aK x.e),bK (Flat.val pa) (gk q.aK x.f),cH CJ (Flat.enc (⟨0,0,0,⟨none,0,0⟩,⟨none,0,0⟩,0⟩:bU))] w',?_,?_⟩
 ·refine aA fC (aB (v:=.int .i64 ((x).kind)) bL hs.p5.hb rfl ?_);refine ⟨λ jv w'=>jv = .bool (decide (x.kind=2∨x.kind=3∨x.kind=4))∧pP=w',?_,?_⟩
  ·refine aH (aC (λ vC=>?_) (λ vC=>?_))
   ·exact ⟨vQ (by omega),rfl⟩
   ·refine aH (aC (λ pX=>?_) (λ pX=>?_))
    ·exact ⟨vQ (by omega),rfl⟩
    ·refine aH ?_;exact ⟨vQ (by omega),rfl⟩
  ·rintro _ sZ ⟨rfl,hw⟩ fD;subst hw;refine aC (λ Ag=>?_) (λ Ag=>?_)
   ·refine aA fc (aV hs bL (eK rfl) (rfl) (λ vy hs=>?_));have hs:=hs.enc (cs':=Flat.enc (⟨(x).kind,(max 0 (dV (q).aK (x).gQ)),(dV (fj (q).p) (x).name),vg,pa,0⟩:bU)) rfl;have hs:=(((hs.p3.drop.p4.drop.p4.drop.p3).p2).p3).p3;exact ⟨_,_,by grind,by grind,hs⟩
   ·refine ⟨λ jv w'=>jv = .bool (decide (x.kind=5∨x.kind=6))∧pP=w',?_,?_⟩
    ·refine aH (aC (λ EI=>?_) (λ EI=>?_))
     ·exact ⟨vQ (by omega),rfl⟩
     ·refine aH ?_;exact ⟨vQ (by omega),rfl⟩
    ·rintro _ vz ⟨rfl,hw⟩ jH;subst hw;refine aC (λ wD=>?_) (λ wD=>?_)
     ·refine aA DZ (uW (⟨eS,fh,eT,ed,ee,ey⟩:bN) gO hs.p6.hb rfl (aZ anp hs (C43 (q).p _ _ _ ⟨eS,fh,eT,ed,ee,ey,rfl,(jS.ext hs.aF),(kW.ext hs.aF),(jT.ext hs.aF),(iu.ext hs.aF),(iw.ext hs.aF),(i0.ext hs.aF)⟩ hz) (λ su he hs=>aA fc (aV hs bL (eK rfl) (rfl) (λ wm hs=>?_)))));have hs:=hs.enc (cs':=Flat.enc (⟨(x).kind,(max 0 (dV (q).aK (x).gQ)),(lT (q).p (dV (fj (q).p) (x).name)),vg,pa,0⟩:bU)) rfl;have hs:=(((hs.p3.drop.p4.drop.p4.drop.p3).p2).p3).p3
      exact ⟨_,_,by grind,by grind,hs⟩
     ·refine ⟨λ jv w'=>jv = .bool (decide (x.kind=9∨x.kind=10))∧pP=w',?_,?_⟩
      ·refine aH (aC (λ We=>?_) (λ We=>?_))
       ·exact ⟨vQ (by omega),rfl⟩
       ·refine aH ?_;exact ⟨vQ (by omega),rfl⟩
      ·rintro _ zq ⟨rfl,hw⟩ oY;subst hw;refine aC (λ sD=>?_) (λ sD=>?_)
       ·refine aA DZ (have hs:=hs.drew;uW (⟨eS,fh,eT,ed,ee,ey⟩:bN) gO hs.p6.hb rfl (aA jq (aB (v:=.string ((x).name)) kn hs.p5.hb rfl (dF aiH hs (C99 (q).p _ _ ⟨eS,fh,eT,ed,ee,ey,rfl,(jS.ext hs.aF),(kW.ext hs.aF),(jT.ext hs.aF),(iu.ext hs.aF),(iw.ext hs.aF),(i0.ext hs.aF)⟩ hz) (λ x67 CH cA hs=>?_)))));refine ⟨aG kn (hs.p6.hb.cell rfl),?_⟩;refine aZ Bm hs (C98 _ (ig (q).p) _ _ (hs).fF (by omega)) (λ IN he hs=>aA fc (aV hs.p1 bL (eK rfl) (rfl) (λ JQ hs=>?_)))
        have hs:=hs.enc (cs':=Flat.enc (⟨(x).kind,(max 0 (dV (q).aK (x).gQ)),(dV (ig (q).p) (x).name),vg,pa,0⟩:bU)) rfl;have hs:=((((hs.p1.drop.p3.drop.p4.drop.p4.drop).p3).p2).p3).p3;exact ⟨_,_,by grind,by grind,hs⟩
       ·refine aH (aC (λ Ll=>?_) (λ Ll=>?_))
        ·refine aA jn (aV hs bL (eK rfl) (rfl) (λ Lc hs=>?_));have hs:=hs.enc (cs':=Flat.enc (⟨15,(max 0 (dV (q).aK (x).gQ)),0,vg,pa,0⟩:bU)) rfl;have hs:=(((hs.p3.drop.p4.drop.p4.drop.p3).p2).p3).p3;exact ⟨_,_,by grind,by grind,hs⟩
        ·have hs:=(((hs.p3.drop.p4.drop.p4.drop.p3).p2).p3).p3;exact ⟨_,_,by grind,by grind,hs⟩
 ·rintro M4 ⟨kk,bb,ni,hbb,hs⟩ G9;refine aD lM hs.At (aI (x:=(⟨kk,max 0 (dV q.aK x.gQ),bb,vg,pa,0⟩:bU)) hs.p3 lM rfl rfl (λ QS hs=>aD lM hs.At ?_));have hs:=hs.p2.freeze.p3.freeze.p1.fP.dU (Ψ:=(λ w=>bZ.dr w (⟨kk,max 0 (dV q.aK x.gQ),bb,vg,pa,0⟩:bU) (⟨kk,max 0 (dV q.aK x.gQ),bb,(gk q.aK x.e),(gk q.aK x.f),0⟩:aW))) (λ w h=>⟨_,_,rfl,DL.fx h.1,DL.fx h.2⟩);have hs:=((hs.p1.drop).p1).drop;have h1:lI q.p q.aK x=(⟨kk,max 0 (dV q.aK x.gQ),bb,gk q.aK x.e,gk q.aK x.f,0⟩:aW):=by unfold lI; rw [← ni,← hbb]
  exact ⟨_,rfl,by rw [h1]; exact hs.fresh⟩
set_option maxHeartbeats 4000000 in
theorem C104 (q:Vp) (qv:wk) (lv:Value) (t:Bk) (at_ lp out:Int) (N:Nat) (w:World) (hv:bZ.dr w qv q) (hL:DL w lv t.flat) (hz:PZ q.p) (BJ:q.aK.length≤500) (gr:t.str) (hq:∀ x∈t.flat,SzS x) (hb:(0≤at_∧at_+bX t≤16777216)∧(0≤lp∧lp+t.len≤16777216)) (hl:t.len≤1048576) (hN:t.len<N) (hN2:0<N):CR 104 [Flat.val qv,lv,.int .i64 at_,.int .i64 lp,.int .i64 out] w (λ v w'=>lY (fq v (eX q.p q.aK t at_ lp out)) w w'):=by
 obtain ⟨aqn,ox,rfl,Wd,pY⟩:=hv;obtain ⟨eS,fh,eT,ed,ee,ey,rfl,jS,kW,jT,iu,iw,i0⟩:=Wd;have CE:=t.cT;have hs:=St.start w;refine ZI _ _ _ _ _ _ _ ?_;unfold S104;refine dJ hs (λ adm w1 hs=>?_);obtain ⟨axY,LI,Wf⟩:=(hL).open;have hn49:=Wf.1;refine aJ kh (LI.ext hs.aF) (aH (aC (λ iV=>?_) (λ iV=>?_)))
 ·cases t with
  | nil=>exact (hs.xY (α:=aW)).fresh
  | cons x a b r=>exact absurd CE (by rw [show (Bk.cons x a b r).len=a.len+b.len+r.len+1 from rfl]; omega)
 ·obtain ⟨x,a,b,r,rfl⟩:=Bk.Db (t:=t) (by omega);obtain ⟨He,qj⟩:=gx axY (i:=((0:Int)).toNat) (by omega);obtain ⟨eu,wJ⟩:=gx ((Bk.cons x a b r).flat) (i:=((0:Int)).toNat) (by omega);obtain ⟨xC,xD,rfl,I0,QU⟩:=Wf.2 _ _ _ qj wJ;refine aQ kh LI (by omega) qj (λ _ uq=>?_);obtain rfl:eu=x:=(Option.some.inj wJ).symm;have Ly:=gr;obtain ⟨FQ,hg2,hg3,hg4,VS,hgb,hgr⟩:=Ly;have T1:a.len+b.len+r.len+1≤1048576:=hl;have hNn:a.len+b.len+r.len+1<N:=hN;have M3:=a.cT;have QG:=b.cT;have hlr:=r.cT;have QL:(Bk.cons eu a b r).flat.length=a.len+b.len+r.len+1:=Bk.cT _
  have hsa:=iY a;have hsb:=iY b;have hsr:=iY r;have hSe:bX (.cons eu a b r)=(if eu.kind=12 then 2+bX a else if eu.kind=11 then (if 0<eu.fK then 1+bX a+bX b+1 else 1+bX a+bX b) else 1)+bX r:=rfl;have hqx:=hq eu (by simp [Bk.flat]);refine aD gb (uq.ext hs.aF) (aN hs qI (λ Wg w2 hs=>have hs:=hs.enc (cs':=Flat.enc (⟨0,(ByteArray.mk #[]),(ByteArray.mk #[]),⟨none,0,0⟩,⟨none,0,0⟩,0,0,0,0⟩:bY)) rfl;aI (x:=(⟨(eu).kind,(eu).gQ,(eu).name,xC,xD,(eu).n,(eu).body,(eu).fK,(eu).at_⟩:bY)) hs gb rfl rfl (λ w3 hs=>aA m7 (aB (v:=.int .i64 ((eu).body)) bL hs.hb rfl (aO (by omega) (aA iR (aB (v:=.int .i64 ((eu).fK)) bL hs.hb rfl (aO (by omega) (kB kh (LI.ext hs.aF) (by omega) (by omega) (by omega) (λ af9 aj4=>?_))))))))))
  have I1:=DL.cut aj4 LI Wf;refine kB kh (LI.ext hs.aF) (by omega) (by omega) (by omega) (λ aqq aj5=>?_);have Wh:=DL.cut aj5 LI Wf;have hs:=hs.drew;refine wh (α:=aW) hs kT (λ Wi w4 hs=>?_);refine ⟨λ Kh w'=>St w bD [fq Kh (Gg q.p q.aK eu a b at_ lp out),cH adm (Flat.enc (⟨(⟨eS,fh,eT,ed,ee,ey⟩:bN),ox⟩:wk))] w',?_,?_⟩
  ·refine aA fC (aB (v:=.int .i64 ((eu).kind)) bL hs.p1.hb rfl (aH (aC (λ pR=>?_) (λ pR=>?_))))
   ·have axZ:bX (.cons eu a b r)=(if 0<eu.fK then 1+bX a+bX b+1 else 1+bX a+bX b)+bX r:=by rw [hSe,if_neg (by omega),if_pos (by omega)]
    have hma:=ij q.p q.aK a (at_+1) lp out;have ax0:1+bX a+bX b+bX r≤bX (.cons eu a b r):=by rw [axZ]; split <;> omega
    refine aA l8 (aB mX hs.p1.hb rfl ?_);have ax1:=DL.flat (I0);refine aA zV (aB pH hs.p2.hb rfl ?_);have ax2:=DL.flat (pY);refine eA ZC (C45 _ _ _ _ _ (ax1.ext hs.aF) (ax2.ext hs.aF) hqx.2.2.1 (by omega) hqx.2.2.2.2.1) ?_;rintro _ w5 ⟨aqr,rfl,cA⟩;have hs:=hs.made cA;refine bE rfl (bE rfl (aO (by omega) (aZ DG hs (C158 _ a (a.len+1) _ (by have h:=I1.ext hs.aF; rw [Bk.N3 gr (by omega) (by omega)] at h; exact h) VS (by omega) (by omega)) (λ w6 he hs=>aO (by omega) ?_))));refine ⟨λ jv w'=>∃ to:Int,jv = .int .i64 to∧to=rD eu a at_∧0≤to∧to≤at_+2+bX a∧St w bD [bK aqr (gk q.aK eu.e),fq Wi ([]:List aW),cH Wg (Flat.enc (⟨(eu).kind,(eu).gQ,(eu).name,xC,xD,(eu).n,(eu).body,(eu).fK,(eu).at_⟩:bY)),cH adm (Flat.enc (⟨(⟨eS,fh,eT,ed,ee,ey⟩:bN),ox⟩:wk))] w',?_,?_⟩
    ·refine aA iR (aB (v:=.int .i64 ((eu).fK)) bL hs.p2.hb rfl (dB (aC (λ ot=>?_) (λ ot=>?_))))
     ·refine aO (by omega) ?_;have hs:=hs.p3.p3.p3.p3;exact ⟨_,rfl,by unfold rD; grind,by omega,by omega,hs⟩
     ·have hs:=hs.p3.p3.p3.p3;exact ⟨_,rfl,by unfold rD; grind,by omega,by omega,hs⟩
    ·rintro _ w7 ⟨to,rfl,hto,hto0,hto1,hs⟩ fD;obtain ⟨Wj,rfl⟩:=(hs).fU;refine pop (IE _ _ _ _ _) (have hs:=hs.freeze.dU (Ψ:=(λ w=>bZ.dr w (⟨12,0,0,Wj,⟨none,0,0⟩,to⟩:bU) (⟨12,0,0,(gk ((q).aK) ((eu).e)),[],to⟩:aW))) (λ w h=>⟨_,_,rfl,DL.fx h,DL.nil _⟩);eQ (s:=(⟨12,0,0,Wj,⟨none,0,0⟩,to⟩:bU)) (x:=(⟨12,0,0,(gk ((q).aK) ((eu).e)),[],to⟩:aW)) hs kT (by decide) (λ agd w8 hs=>have hs:=hs.p1;ej hs kT (by simp only [List.length_append,List.length_cons,List.length_nil]; omega) (by decide) (λ aqs w9 hs=>aD Ch hs.p2.At (aO (by omega) (dF Kj hs (C104 q _ _ a (at_+1) (lp) (out) (N - 1) _ ⟨(⟨eS,fh,eT,ed,ee,ey⟩:bN),ox,rfl,⟨eS,fh,eT,ed,ee,ey,rfl,(jS.ext hs.aF),(kW.ext hs.aF),(jT.ext hs.aF),(iu.ext hs.aF),(iw.ext hs.aF),(i0.ext hs.aF)⟩,(pY.ext hs.aF)⟩ (by have h:=I1.ext hs.aF; rw [Bk.N3 gr (by omega) (by omega)] at h; exact h) hz BJ VS (λ y hy=>hq y (by simp [Bk.flat,hy])) (by omega) (by omega) (by omega) (by omega)) (λ x83 pP cA hs=>have hs:=hs.p1;ej hs kT (by simp only [List.length_append,List.length_cons,List.length_nil]; omega) (by decide) (λ age sZ hs=>?_)))))))
     refine ⟨λ r16 w'=>St w bD [fq r16 (((([]:List aW)++[(⟨12,0,0,(gk (q.aK) ((eu).e)),[],to⟩:aW)])++(eX q.p q.aK a (at_+1) (lp) (out)))++(if 0<eu.fK then [(⟨11,0,0,[],[],(to+(bX b))⟩:aW)] else [])),cH Wg (Flat.enc (⟨(eu).kind,(eu).gQ,(eu).name,xC,xD,(eu).n,(eu).body,(eu).fK,(eu).at_⟩:bY)),cH adm (Flat.enc (⟨(⟨eS,fh,eT,ed,ee,ey⟩:bN),ox⟩:wk))] w',?_,?_⟩
     ·refine aA iR (aB (v:=.int .i64 ((eu).fK)) bL hs.p1.hb rfl (dB (aC (λ Ah=>?_) (λ Ah=>?_))))
      ·refine aZ DG hs (C158 _ b (b.len+1) _ (by have h:=Wh.ext hs.aF; rw [Bk.adh gr (by omega) (by omega)] at h; exact h) hgb (by omega) (by omega)) (λ vy he hs=>aO (by omega) (pop (D2 _ _) (have hs:=hs.gK (Φ:=(λ w=>bZ.dr w (⟨11,0,0,⟨none,0,0⟩,⟨none,0,0⟩,(to+(bX b))⟩:bU) (⟨11,0,0,[],[],(to+(bX b))⟩:aW))) (λ w=>⟨_,_,rfl,DL.nil _,DL.nil _⟩);eQ (s:=(⟨11,0,0,⟨none,0,0⟩,⟨none,0,0⟩,(to+(bX b))⟩:bU)) (x:=(⟨11,0,0,[],[],(to+(bX b))⟩:aW)) hs kT (by decide) (λ s_x94 vz hs=>have hs:=hs.p1;ej hs kT (by simp only [List.length_append,List.length_cons,List.length_nil]; omega) (by decide) (λ s_x95 su hs=>?_)))))
       have hs:=hs.p2.p2.p2;have hh:(((([]:List aW)++[(⟨12,0,0,(gk ((q).aK) ((eu).e)),[],to⟩:aW)])++(eX q.p q.aK a (at_+1) (lp) (out)))++[(⟨11,0,0,[],[],(to+(bX b))⟩:aW)])=(((([]:List aW)++[(⟨12,0,0,(gk (q.aK) ((eu).e)),[],to⟩:aW)])++(eX q.p q.aK a (at_+1) (lp) (out)))++(if 0<eu.fK then [(⟨11,0,0,[],[],(to+(bX b))⟩:aW)] else [])):=by rw [if_pos (by omega)]
       rw [hh] at hs;exact hs
      ·have hs:=hs.p2.p2.p2;have hh:((([]:List aW)++[(⟨12,0,0,(gk ((q).aK) ((eu).e)),[],to⟩:aW)])++(eX q.p q.aK a (at_+1) (lp) (out)))=(((([]:List aW)++[(⟨12,0,0,(gk (q.aK) ((eu).e)),[],to⟩:aW)])++(eX q.p q.aK a (at_+1) (lp) (out)))++(if 0<eu.fK then [(⟨11,0,0,[],[],(to+(bX b))⟩:aW)] else [])):=by rw [if_neg (by omega)]; simp
       rw [hh] at hs;exact hs
     ·rintro r16 wm hs jH;have tH:=ij q.p q.aK b to lp out;refine aD Ch hs.p2.At (dF Kj hs (C104 q _ _ b (to) (lp) (out) (N - 1) _ ⟨(⟨eS,fh,eT,ed,ee,ey⟩:bN),ox,rfl,⟨eS,fh,eT,ed,ee,ey,rfl,(jS.ext hs.aF),(kW.ext hs.aF),(jT.ext hs.aF),(iu.ext hs.aF),(iw.ext hs.aF),(i0.ext hs.aF)⟩,(pY.ext hs.aF)⟩ (by have h:=Wh.ext hs.aF; rw [Bk.adh gr (by omega) (by omega)] at h; exact h) hz BJ hgb (λ y hy=>hq y (by simp [Bk.flat,hy])) (by rw [hto]; unfold rD; split <;> omega) (by omega) (by omega) (by omega)) (λ x102 zq cA hs=>have hs:=hs.p1;ej hs kT (by simp only [List.length_append,List.length_cons,List.length_nil]; split <;> simp only [List.length_cons,List.length_nil] <;> omega) (by decide) (λ ax4 CH hs=>?_)))
      have hs:=(hs.p1.drop.p1).p1;have hh:((((([]:List aW)++[(⟨12,0,0,(gk (q.aK) ((eu).e)),[],to⟩:aW)])++(eX q.p q.aK a (at_+1) (lp) (out)))++(if 0<eu.fK then [(⟨11,0,0,[],[],(to+(bX b))⟩:aW)] else []))++(eX q.p q.aK b (to) (lp) (out)))=Gg q.p q.aK eu a b at_ lp out:=by unfold Gg; simp [*]
      rw [hh] at hs;exact hs
   ·refine aH (aC (λ BK=>?_) (λ BK=>?_))
    ·have ax0:bX (.cons eu a b r)=2+bX a+bX r:=by rw [hSe,if_pos (by omega)]
     have hma:=ij q.p q.aK a (at_+1) (lp+1) (at_+2+bX a);refine aO (by omega) (aZ DG hs (C158 _ a (a.len+1) _ (by have h:=I1.ext hs.aF; rw [Bk.N3 gr (by omega) (by omega)] at h; exact h) VS (by omega) (by omega)) (λ IN he hs=>aO (by omega) (aA tV (aB (v:=.int .i64 ((eu).n)) bL hs.p1.hb rfl (pop (IC _ _ _) (have hs:=hs.gK (Φ:=(λ w=>bZ.dr w (⟨13,lp,(eu).n,⟨none,0,0⟩,⟨none,0,0⟩,0⟩:bU) (⟨13,lp,(eu).n,[],[],0⟩:aW))) (λ w=>⟨_,_,rfl,DL.nil _,DL.nil _⟩);eQ (s:=(⟨13,lp,(eu).n,⟨none,0,0⟩,⟨none,0,0⟩,0⟩:bU)) (x:=(⟨13,lp,(eu).n,[],[],0⟩:aW)) hs kT (by decide) (λ aj6 JQ hs=>have hs:=hs.p1;ej hs kT (by simp only [List.length_append,List.length_cons,List.length_nil]; omega) (by decide) (λ ax5 Lc hs=>aD Ch hs.p2.At (aO (by omega) (aO (by omega) (dF Kj hs (C104 q _ _ a (at_+1) (lp+1) (at_+2+bX a) (N - 1) _ ⟨(⟨eS,fh,eT,ed,ee,ey⟩:bN),ox,rfl,⟨eS,fh,eT,ed,ee,ey,rfl,(jS.ext hs.aF),(kW.ext hs.aF),(jT.ext hs.aF),(iu.ext hs.aF),(iw.ext hs.aF),(i0.ext hs.aF)⟩,(pY.ext hs.aF)⟩ (by have h:=I1.ext hs.aF; rw [Bk.N3 gr (by omega) (by omega)] at h; exact h) hz BJ VS (λ y hy=>hq y (by simp [Bk.flat,hy])) (by omega) (by omega) (by omega) (by omega)) (λ x126 M4 cA hs=>have hs:=hs.p1;ej hs kT (by simp only [List.length_append,List.length_cons,List.length_nil]; omega) (by decide) (λ ax6 QS hs=>?_)))))))))))))
     refine aO (by omega) (pop (ID _ _ _) (have hs:=hs.gK (Φ:=(λ w=>bZ.dr w (⟨14,lp,0,⟨none,0,0⟩,⟨none,0,0⟩,(at_+1)⟩:bU) (⟨14,lp,0,[],[],(at_+1)⟩:aW))) (λ w=>⟨_,_,rfl,DL.nil _,DL.nil _⟩);eQ (s:=(⟨14,lp,0,⟨none,0,0⟩,⟨none,0,0⟩,(at_+1)⟩:bU)) (x:=(⟨14,lp,0,[],[],(at_+1)⟩:aW)) hs kT (by decide) (λ ax7 T3 hs=>have hs:=hs.p1;ej hs kT (by simp only [List.length_append,List.length_cons,List.length_nil]; omega) (by decide) (λ ax8 Wk hs=>?_))));have hs:=(hs.p1.drop.p1).p1;have hh:(((([]:List aW)++[(⟨13,lp,(eu).n,[],[],0⟩:aW)])++(eX q.p q.aK a (at_+1) (lp+1) (at_+2+bX a)))++[(⟨14,lp,0,[],[],(at_+1)⟩:aW)])=Gg q.p q.aK eu a b at_ lp out:=by unfold Gg; simp [*]
     rw [hh] at hs;exact hs
    ·refine aH (aC (λ NZ=>?_) (λ NZ=>?_))
     ·refine pop (D2 _ _) (have hs:=hs.gK (Φ:=(λ w=>bZ.dr w (⟨11,0,0,⟨none,0,0⟩,⟨none,0,0⟩,out⟩:bU) (⟨11,0,0,[],[],out⟩:aW))) (λ w=>⟨_,_,rfl,DL.nil _,DL.nil _⟩);eQ (s:=(⟨11,0,0,⟨none,0,0⟩,⟨none,0,0⟩,out⟩:bU)) (x:=(⟨11,0,0,[],[],out⟩:aW)) hs kT (by decide) (λ ax9 SB hs=>have hs:=hs.p1;ej hs kT (by simp only [List.length_append,List.length_cons,List.length_nil]; omega) (by decide) (λ aya w26 hs=>?_)));have hs:=(hs.p1.drop.p1).p1;have hh:(([]:List aW)++[(⟨11,0,0,[],[],out⟩:aW)])=Gg q.p q.aK eu a b at_ lp out:=by unfold Gg; simp [*]
      rw [hh] at hs;exact hs
     ·refine aD Ch hs.p2.At (aD gb hs.p1.At (eA anR (C159 q _ eu _ _ ⟨(⟨eS,fh,eT,ed,ee,ey⟩:bN),ox,rfl,⟨eS,fh,eT,ed,ee,ey,rfl,(jS.ext hs.aF),(kW.ext hs.aF),(jT.ext hs.aF),(iu.ext hs.aF),(iw.ext hs.aF),(i0.ext hs.aF)⟩,(pY.ext hs.aF)⟩ ⟨xC,xD,rfl,(I0.ext hs.aF),(QU.ext hs.aF)⟩ hz BJ hqx) ?_));rintro _ w27 ⟨aj7,rfl,cA⟩;have hs:=hs.made cA;refine eQ (s:=aj7) (x:=(lI q.p q.aK eu)) hs kT (by decide) (λ aqt w28 hs=>have hs:=hs.p1;ej hs kT (by simp only [List.length_append,List.length_cons,List.length_nil]; omega) (by decide) (λ aqu w29 hs=>?_))
      have hs:=(hs.p1.drop.p1).p1;have hh:(([]:List aW)++[(lI q.p q.aK eu)])=Gg q.p q.aK eu a b at_ lp out:=by unfold Gg; simp [*]
      rw [hh] at hs;exact hs
  ·rintro Kh w30 hs oY;have hs:=hs.drew;refine aD Ch hs.p1.At (uX kh (LI.ext hs.aF) (by omega) (by omega) (λ ayb adp=>?_));have adq:=DL.Qw adp LI Wf;have LJ:=IZ q.p q.aK eu a b r at_ lp out;have hmr:=ij q.p q.aK r (at_+((Gg q.p q.aK eu a b at_ lp out).length:Int)) lp out;obtain ⟨atO,adr,ads,_⟩:=(hs).dl;refine aJ kT adr ?_;rw [ads];refine aO (by omega) (dF Kj hs (C104 q _ _ r (at_+((Gg q.p q.aK eu a b at_ lp out).length:Int)) (lp) (out) (N - 1) _ ⟨(⟨eS,fh,eT,ed,ee,ey⟩:bN),ox,rfl,⟨eS,fh,eT,ed,ee,ey,rfl,(jS.ext hs.aF),(kW.ext hs.aF),(jT.ext hs.aF),(iu.ext hs.aF),(iw.ext hs.aF),(i0.ext hs.aF)⟩,(pY.ext hs.aF)⟩ (by have h:=adq.ext hs.aF; rw [Bk.ada gr (by omega)] at h; exact h) hz BJ hgr (λ y hy=>hq y (by simp [Bk.flat,hy])) (by omega) (by omega) (by omega) (by omega)) (λ x153 w31 cA hs=>have hs:=hs.p1;ej hs kT (by omega) (by decide) (λ ayc w32 hs=>?_)))
   have hs:=(hs.p1).drop;rw [vf];exact hs.fresh
termination_by N
decreasing_by all_goals omega
theorem N5 (f:Nat→Int) (k:Nat):(List.range k).map f++[f k]=(List.range (k+1)).map f:=by rw [List.range_succ,List.map_append]; rfl
theorem N6 (p:cY):(pC p).length=(gL p).length:=by unfold pC; rw [List.length_map]
theorem C44 (p:cY) (pv:bN) (t:dX) (tv:er) (b:Bk) (w:World) (hp:bZ.dr w pv p) (ht:bZ.dr w tv t) (hz:PZ p) (Lt:SzT t∧t.aK.length≤500) (N7:t.body=b.flat) (gr:b.str) (hl:b.len≤40) (N8:o0 t.body=some b):CR 44 [Flat.val pv,Flat.val tv] w (λ v w'=>∃ cv:cN,v=Flat.val cv∧lY (eL (λ w=>bZ.dr w cv (ml p t))) w w'):=by
 obtain ⟨bG,bQ,bH,aT,aU,aY,rfl,cL,dD,cM,bR,bP,cB⟩:=hp;obtain ⟨uo,Ar,rfl,As,EM⟩:=ht;have hs:=St.start w;refine ahV _ _ _ _ ?_;unfold S44;refine dJ hs (λ adb w1 hs=>dJ hs (λ adt w2 hs=>aN hs Iu (λ CJ w3 hs=>have hs:=hs.enc (cs':=Flat.enc (⟨0,0,⟨none,0,0⟩⟩:cN)) rfl;aD gO hs.p2.At (aA jA (aB pH hs.p1.hb rfl ?_)))));have aqv:=DL.flat (As);refine pop (NB _ _ _ _ _ _ _ _ _ _ _ _ _ _ _ _ _ _ _ _ _) (aN hs ab4 (λ adm w4 hs=>have hs:=hs.enc (cs':=Flat.enc (⟨(⟨⟨none,0,0⟩,⟨none,0,0⟩,⟨none,0,0⟩,⟨none,0,0⟩,⟨none,0,0⟩,⟨none,0,0⟩⟩:bN),⟨none,0,0⟩⟩:wk)) rfl;aI (x:=(⟨(⟨bG,bQ,bH,aT,aU,aY⟩:bN),uo⟩:wk)) hs Ch rfl rfl (λ w5 hs=>?_)))
 have lF:=iY b;refine aA jA (have hs:=hs.drew;aB pH hs.p2.hb rfl (aJ mY (aqv.ext hs.aF) (aA qH (aB sX hs.p2.hb rfl (aD Ch hs.At (aA qH (aB sX hs.p2.hb rfl (aZ PK hs (C103 _ b (b.len+1) _ (by rw [← N7]; exact (EM.ext hs.aF)) gr (by omega) (by omega)) (λ w6 he hs=>?_)))))))));refine ⟨aG pH (hs.p2.hb.cell rfl),?_⟩;refine ⟨eO Ch hs.At,?_⟩;refine ⟨aG sX (hs.p2.hb.cell rfl),?_⟩;refine dF Kj hs (C104 (⟨p,t.aK⟩:Vp) _ _ b 0 0 0 (b.len+1) _ (show bZ.dr _ (⟨(⟨bG,bQ,bH,aT,aU,aY⟩:bN),uo⟩:wk) (⟨p,(t).aK⟩:Vp) from ⟨_,_,rfl,⟨bG,bQ,bH,aT,aU,aY,rfl,(cL.ext hs.aF),(dD.ext hs.aF),(cM.ext hs.aF),(bR.ext hs.aF),(bP.ext hs.aF),(cB.ext hs.aF)⟩,DL.fx (aqv.ext hs.aF)⟩) (by rw [← N7]; exact (EM.ext hs.aF)) hz (by have:=Lt.2; show t.aK.length≤500; omega) gr (λ y hy=>Lt.1.2.2 y (by rw [N7]; exact hy)) (by omega) (by omega) (by omega) (by omega)) (λ x19 w7 cA hs=>?_)
 refine ⟨aG pH (hs.p3.hb.cell rfl),?_⟩;obtain ⟨I2,rfl⟩:=(hs).lP;refine pop (KL _ _ _ _ _) (aI (x:=(⟨(((t).aK).length:Int),(iZ b),I2⟩:cN)) hs.p2 qg rfl rfl (λ w8 hs=>aD qg hs.At ?_));have hs:=hs.p1.jO.dU (Ψ:=(λ w=>bZ.dr w (⟨(((t).aK).length:Int),(iZ b),I2⟩:cN) (⟨(((t).aK).length:Int),(iZ b),(eX p t.aK b 0 0 0)⟩:fu))) (λ w h=>⟨_,rfl,h⟩);have hs:=((((hs.p1.drop.p1.drop).p1).drop).p1).drop;rw [EW N8];exact ⟨_,rfl,hs.fresh⟩
set_option maxHeartbeats 4000000 in
theorem C12 (p:cY) (pv:bN) (w:World) (hp:bZ.dr w pv p) (hz:PZ p):CR 12 [Flat.val pv] w (λ v w'=>∃ uv:dQ,v = .tuple #[Flat.val uv,.int .i64 (gR p)]∧lY (eL (λ w=>bZ.dr w uv (if gR p=0 then eD p else EV))) w w'):=by
 obtain ⟨bG,bQ,bH,aT,aU,aY,rfl,cL,dD,cM,bR,bP,cB⟩:=hp;have hs:=St.start w;refine ahw _ _ _ ?_;unfold S12;refine dJ hs (λ kN w1 hs=>aN hs v7 (λ mf w2 hs=>have hs:=hs.enc (cs':=Flat.enc (⟨⟨none,0,0⟩,0,⟨none,0,0⟩,0,⟨none,0,0⟩,(⟨0,0,⟨none,0,0⟩⟩:cN),⟨none,0,0⟩⟩:dQ)) rfl;aD gO hs.p1.At (eA avk (C40 p _ _ ⟨bG,bQ,bH,aT,aU,aY,rfl,(cL.ext hs.aF),(dD.ext hs.aF),(cM.ext hs.aF),(bR.ext hs.aF),(bP.ext hs.aF),(cB.ext hs.aF)⟩ hz) ?_)))
 rintro _ w3 ⟨a_x14,rfl,he⟩;have hs:=hs.ext he;refine bE rfl (bE rfl (cR (aC (λ gj=>?_) (λ gj=>?_))))
 ·refine pop (v:=Flat.val (⟨⟨none,0,0⟩,0,⟨none,0,0⟩,0,⟨none,0,0⟩,(⟨0,0,⟨none,0,0⟩⟩:cN),⟨none,0,0⟩⟩:dQ)) (by kernel_rfl) (aI (x:=(⟨⟨none,0,0⟩,0,⟨none,0,0⟩,0,⟨none,0,0⟩,(⟨0,0,⟨none,0,0⟩⟩:cN),⟨none,0,0⟩⟩:dQ)) hs tO rfl rfl (λ w4 hs=>aD tO hs.At ?_));have hs:=hs.gK (Φ:=(λ w=>bZ.dr w (⟨⟨none,0,0⟩,0,⟨none,0,0⟩,0,⟨none,0,0⟩,(⟨0,0,⟨none,0,0⟩⟩:cN),⟨none,0,0⟩⟩:dQ) (⟨[],0,[],0,[],(⟨0,0,[]⟩:fu),[]⟩:im))) (λ w=>⟨_,_,_,_,_,rfl,DL.nil _,DL.nil _,DL.nil _,⟨_,rfl,DL.nil _⟩,DL.nil _⟩);have hs:=((hs.p1.drop).p1).drop;rw [if_neg (by simpa using gj)]
  exact ⟨_,rfl,hs.fresh⟩
 ·have zL:gR p=0:=by simpa using gj
  have SC:=EU zL;have hacl:=nf hz.toPS;have hffl:=N6 p;refine ⟨λ jv w'=>∃ (yZ:Nat) (sf:SV),jv = .pointer (some ⟨yZ,0,none⟩)∧St w bD [cH yZ (Flat.enc (⟨⟨none,0,0⟩,(ek p),sf,((p.locks).length:Int),⟨none,0,0⟩,(⟨0,0,⟨none,0,0⟩⟩:cN),⟨none,0,0⟩⟩:dQ)),bK (Flat.val sf) (pC p),cH kN (Flat.enc (⟨bG,bQ,bH,aT,aU,aY⟩:bN)),cH mf (Flat.enc (⟨⟨none,0,0⟩,0,⟨none,0,0⟩,0,⟨none,0,0⟩,(⟨0,0,⟨none,0,0⟩⟩:cN),⟨none,0,0⟩⟩:dQ))] w',?_,?_⟩
  ·have hs:=hs.drew;refine aD gO hs.p1.At (aD gO hs.p1.At (aA sb (aB jF hs.p1.hb rfl ?_)));have ayd:=DL.flat (cM);refine aJ kf (ayd.ext hs.aF) ?_;refine ⟨?_,?_⟩
   ·refine aZ ZB hs (C41 p _ _ ⟨bG,bQ,bH,aT,aU,aY,rfl,(cL.ext hs.aF),(dD.ext hs.aF),(cM.ext hs.aF),(bR.ext hs.aF),(bP.ext hs.aF),(cB.ext hs.aF)⟩ hz) (λ w5 he hs=>?_);refine ⟨eO gO hs.p1.At,?_⟩;refine ⟨aG jF (hs.p1.hb.cell rfl),?_⟩;refine ⟨?_,?_⟩
    ·refine dF aiq hs (C42 p _ _ ⟨bG,bQ,bH,aT,aU,aY,rfl,(cL.ext hs.aF),(dD.ext hs.aF),(cM.ext hs.aF),(bR.ext hs.aF),(bP.ext hs.aF),(cB.ext hs.aF)⟩ hz) (λ x24 w6 cA hs=>?_);refine ⟨aG jF (hs.p2.hb.cell rfl),?_⟩;obtain ⟨aj8,rfl⟩:=(hs).fU;refine pop (we _ _ _ _ _) (aN hs v7 (λ aye w7 hs=>?_));have hs:=hs.enc (cs':=Flat.enc (⟨⟨none,0,0⟩,0,⟨none,0,0⟩,0,⟨none,0,0⟩,(⟨0,0,⟨none,0,0⟩⟩:cN),⟨none,0,0⟩⟩:dQ)) rfl;refine ⟨eO gO hs.p3.At,?_⟩;refine ⟨eO gO hs.p3.At,?_⟩;refine ⟨aG jF (hs.p3.hb.cell rfl),?_⟩
     refine aI (x:=(⟨⟨none,0,0⟩,(ek p),aj8,(((p).locks).length:Int),⟨none,0,0⟩,(⟨0,0,⟨none,0,0⟩⟩:cN),⟨none,0,0⟩⟩:dQ)) hs tO rfl rfl (λ w8 hs=>?_);have hs:=hs.p2.p3.p3.p3;exact ⟨_,_,rfl,hs⟩
    ·refine ⟨?_,?_⟩
     ·refine aN hs v7 (λ ayf w9 hs=>?_);have hs:=hs.enc (cs':=Flat.enc (⟨⟨none,0,0⟩,0,⟨none,0,0⟩,0,⟨none,0,0⟩,(⟨0,0,⟨none,0,0⟩⟩:cN),⟨none,0,0⟩⟩:dQ)) rfl;refine ⟨eO gO hs.p2.At,?_⟩;refine ⟨eO gO hs.p2.At,?_⟩;refine ⟨aG jF (hs.p2.hb.cell rfl),?_⟩;refine dF aiq hs (C42 p _ _ ⟨bG,bQ,bH,aT,aU,aY,rfl,(cL.ext hs.aF),(dD.ext hs.aF),(cM.ext hs.aF),(bR.ext hs.aF),(bP.ext hs.aF),(cB.ext hs.aF)⟩ hz) (λ x24_1 pP cA hs=>?_);refine ⟨aG jF (hs.p3.hb.cell rfl),?_⟩;obtain ⟨Wl,rfl⟩:=(hs).fU;refine pop (we _ _ _ _ _) (aI (x:=(⟨⟨none,0,0⟩,(ek p),Wl,(((p).locks).length:Int),⟨none,0,0⟩,(⟨0,0,⟨none,0,0⟩⟩:cN),⟨none,0,0⟩⟩:dQ)) hs.p1 tO rfl rfl (λ sZ hs=>?_))
      have hs:=hs.p2.p3.p3.p3;exact ⟨_,_,rfl,hs⟩
     ·trivial
   ·refine ⟨?_,?_⟩
    ·refine aN hs v7 (λ ayg vy hs=>?_);have hs:=hs.enc (cs':=Flat.enc (⟨⟨none,0,0⟩,0,⟨none,0,0⟩,0,⟨none,0,0⟩,(⟨0,0,⟨none,0,0⟩⟩:cN),⟨none,0,0⟩⟩:dQ)) rfl;refine ⟨eO gO hs.p2.At,?_⟩;refine ⟨eO gO hs.p2.At,?_⟩;refine ⟨aG jF (hs.p2.hb.cell rfl),?_⟩;refine aZ ZB hs (C41 p _ _ ⟨bG,bQ,bH,aT,aU,aY,rfl,(cL.ext hs.aF),(dD.ext hs.aF),(cM.ext hs.aF),(bR.ext hs.aF),(bP.ext hs.aF),(cB.ext hs.aF)⟩ hz) (λ vz he hs=>?_);refine ⟨eO gO hs.p2.At,?_⟩;refine ⟨aG jF (hs.p2.hb.cell rfl),?_⟩;refine dF aiq hs (C42 p _ _ ⟨bG,bQ,bH,aT,aU,aY,rfl,(cL.ext hs.aF),(dD.ext hs.aF),(cM.ext hs.aF),(bR.ext hs.aF),(bP.ext hs.aF),(cB.ext hs.aF)⟩ hz) (λ x24_2 su cA hs=>?_)
     refine ⟨aG jF (hs.p3.hb.cell rfl),?_⟩;obtain ⟨Wm,rfl⟩:=(hs).fU;refine pop (we _ _ _ _ _) (aI (x:=(⟨⟨none,0,0⟩,(ek p),Wm,(((p).locks).length:Int),⟨none,0,0⟩,(⟨0,0,⟨none,0,0⟩⟩:cN),⟨none,0,0⟩⟩:dQ)) hs.p1 tO rfl rfl (λ wm hs=>?_));have hs:=hs.p2.p3.p3.p3;exact ⟨_,_,rfl,hs⟩
    ·trivial
  ·rintro _ zq ⟨yZ,sf,rfl,hs⟩ fD;have hs:=(((((hs.fX (α:=Int)).p4).p4).p4).p3).p4;refine ⟨λ m x w1=>∃ (k:Nat) (sl:SV),x = .int .i64 (k:Int)∧m=(gL p).length - k∧k≤(gL p).length∧St w bD [cH yZ (Flat.enc (⟨sl,(ek p),sf,((p.locks).length:Int),⟨none,0,0⟩,(⟨0,0,⟨none,0,0⟩⟩:cN),⟨none,0,0⟩⟩:dQ)),bK (Flat.val sl) ((List.range k).map (fun (i:Nat)=>lT p i)),bK (Flat.val sf) (pC p),cH kN (Flat.enc (⟨bG,bQ,bH,aT,aU,aY⟩:bN)),cH mf (Flat.enc (⟨⟨none,0,0⟩,0,⟨none,0,0⟩,0,⟨none,0,0⟩,(⟨0,0,⟨none,0,0⟩⟩:cN),⟨none,0,0⟩⟩:dQ))] w1,⟨_,0,⟨none,0,0⟩,rfl,rfl,by omega,hs⟩,?_⟩
   rintro m _ CH ⟨k,sl,rfl,rfl,hk,hs⟩ jH;refine aA xl (aB (v:=Flat.val (sf:SV)) eB hs.hb rfl (aJ eh (hs.p2).fF (aR (aC (λ nE=>?_) (λ nE=>?_)))))
   ·refine aA mE (have hs:=hs.drew;aB (v:=Flat.val (sl:SV)) eB hs.hb rfl (aD gO hs.p3.At (aZ anp hs (C43 p _ _ _ ⟨bG,bQ,bH,aT,aU,aY,rfl,(cL.ext hs.aF),(dD.ext hs.aF),(cM.ext hs.aF),(bR.ext hs.aF),(bP.ext hs.aF),(cB.ext hs.aF)⟩ hz) (λ IN he hs=>?_))));refine ⟨aG eB (hs.hb.cell rfl),?_⟩;refine bV (([(lT p (k:Int))]:List Int)) hs eh rfl rfl (eK rfl) (λ Wi JQ hs=>?_);refine ⟨aG eB (hs.p1.hb.cell rfl),?_⟩;have aj9:=(hs).fF;refine cS hs.p2 eh aj9 (by rw [List.length_map,List.length_range,List.length_singleton]; omega) (by decide) (λ s_x42 Lc hs=>have hs:=hs.p1.drop;aA mE ?_)
    obtain ⟨Wn,rfl⟩:=(hs).fU;refine aV hs.p1 eB (eK rfl) (rfl) (λ M4 hs=>have hs:=hs.enc (cs':=Flat.enc (⟨Wn,(ek p),sf,((p.locks).length:Int),⟨none,0,0⟩,(⟨0,0,⟨none,0,0⟩⟩:cN),⟨none,0,0⟩⟩:dQ)) rfl;aO (by omega) ?_);have hs:=hs.p4.p4.p4.p4.p4;exact ⟨_,by omega,k+1,Wn,rfl,rfl,by omega,by rw [← N5]; exact hs⟩
   ·have VC:k=(gL p).length:=by omega
    subst VC;have hs:=((((((hs.xY (α:=fu)).p5).p5).p5).p5).p4).p5;refine ⟨λ m x w1=>∃ (kt:Nat) (st:SV),x = .int .i64 (kt:Int)∧m=p.threads.length - kt∧kt≤p.threads.length∧St w bD [cH yZ (Flat.enc (⟨sl,(ek p),sf,((p.locks).length:Int),st,(⟨0,0,⟨none,0,0⟩⟩:cN),⟨none,0,0⟩⟩:dQ)),fq (Flat.val st) ((p.threads.take kt).map (ml p)),bK (Flat.val sl) ((List.range (gL p).length).map (fun (i:Nat)=>lT p i)),bK (Flat.val sf) (pC p),cH kN (Flat.enc (⟨bG,bQ,bH,aT,aU,aY⟩:bN)),cH mf (Flat.enc (⟨⟨none,0,0⟩,0,⟨none,0,0⟩,0,⟨none,0,0⟩,(⟨0,0,⟨none,0,0⟩⟩:cN),⟨none,0,0⟩⟩:dQ))] w1,⟨_,0,⟨none,0,0⟩,rfl,rfl,by omega,hs⟩,?_⟩
    rintro m _ QS ⟨kt,st,rfl,rfl,hkt,hs⟩ oY;have hzth:=hz.threads;refine aA nk (aB ji hs.p4.hb rfl ?_);obtain ⟨ayh,aqw,aqx⟩:=(bR).open;have hn56:=aqx.1;refine aJ iQ (aqw.ext hs.aF) (aR (aC (λ Ag=>?_) (λ Ag=>?_)))
    ·refine aA se (have hs:=hs.drew;aB (v:=Flat.val (st:SV)) F4 hs.hb rfl (aD gO hs.p4.At (aA nk (aB ji hs.p4.hb rfl ?_))));obtain ⟨LK,pb⟩:=gx ayh (i:=((kt:Int)).toNat) (by omega);obtain ⟨pZ,rE⟩:=gx ((p).threads) (i:=((kt:Int)).toNat) (by omega);obtain ⟨N9,Oa,rfl,Ob,Oc⟩:=aqx.2 _ _ _ pb rE;refine aQ iQ aqw (by omega) pb (λ _ wE=>aD IA (wE.ext hs.aF) ?_);obtain ⟨tb,N7,hbs,hbo,yR,hbq,hbx,hbw,N8,hs0,SD⟩:=SC.tree (t:=pZ) (List.mem_append_left _ (List.mem_of_getElem? rE));have Lt:=hz.ths (t:=pZ) (List.mem_append_left _ (List.mem_of_getElem? rE))
     refine eA anq (C44 p _ pZ _ tb _ ⟨bG,bQ,bH,aT,aU,aY,rfl,(cL.ext hs.aF),(dD.ext hs.aF),(cM.ext hs.aF),(bR.ext hs.aF),(bP.ext hs.aF),(cB.ext hs.aF)⟩ ⟨N9,Oa,rfl,(Ob.ext hs.aF),(Oc.ext hs.aF)⟩ hz ⟨Lt.1,Lt.2.1⟩ N7 hbs yR N8) ?_;rintro _ T3 ⟨Wo,rfl,cA⟩;have hs:=hs.made cA;refine ⟨aG F4 (hs.p1.hb.cell rfl),?_⟩;refine eQ (s:=Wo) (x:=(ml p pZ)) hs Bs (by decide) (λ apq Wk hs=>?_);refine ⟨aG F4 (hs.p1.hb.cell rfl),?_⟩;have hs:=hs.p2;refine ej hs Bs (by simp; omega) (by decide) (λ s_x61 SB hs=>aA se ?_)
     obtain ⟨I3,rfl⟩:=(hs).lP;refine aV hs.p1 F4 (eK rfl) (rfl) (λ w26 hs=>have hs:=hs.enc (cs':=Flat.enc (⟨sl,(ek p),sf,((p.locks).length:Int),I3,(⟨0,0,⟨none,0,0⟩⟩:cN),⟨none,0,0⟩⟩:dQ)) rfl;aO (by omega) ?_);have hs:=hs.p5.p5.p5.p5.p5.p5;exact ⟨_,by omega,kt+1,I3,rfl,rfl,by omega,by rw [← iW (k:=kt) rE]; exact hs⟩
    ·have VC:kt=p.threads.length:=by omega
     subst VC;rw [List.take_length] at hs;refine ⟨λ w'=>∃ rc:cN,St w bD [cH yZ (Flat.enc (⟨sl,(ek p),sf,((p.locks).length:Int),st,rc,⟨none,0,0⟩⟩:dQ)),eL (λ w=>bZ.dr w rc (LH p)),fq (Flat.val st) (p.threads.map (ml p)),bK (Flat.val sl) ((List.range (gL p).length).map (fun (i:Nat)=>lT p i)),bK (Flat.val sf) (pC p),cH kN (Flat.enc (⟨bG,bQ,bH,aT,aU,aY⟩:bN)),cH mf (Flat.enc (⟨⟨none,0,0⟩,0,⟨none,0,0⟩,0,⟨none,0,0⟩,(⟨0,0,⟨none,0,0⟩⟩:cN),⟨none,0,0⟩⟩:dQ))] w',?_,?_⟩
     ·refine aA sd (aB ji hs.p4.hb rfl ?_);obtain ⟨ayj,aqy,aqz⟩:=(bP).open;have hn57:=aqz.1;refine aJ iQ (aqy.ext hs.aF) (dB (aC (λ Lk=>?_) (λ Lk=>?_)))
      ·have hs:=hs.drew;refine aD gO hs.p4.At (aA sd (aB ji hs.p4.hb rfl ?_));obtain ⟨e_x70,Wp⟩:=gx ayj (i:=((0:Int)).toNat) (by omega);obtain ⟨LL,BL⟩:=gx ((p).recover) (i:=((0:Int)).toNat) (by omega);obtain ⟨Od,Oe,rfl,Of,Og⟩:=aqz.2 _ _ _ Wp BL;refine aQ iQ aqy (by omega) Wp (λ _ LM=>aD IA (LM.ext hs.aF) ?_);obtain ⟨tb,N7,hbs,hbo,yR,hbq,hbx,hbw,N8,hs0,SD⟩:=SC.tree (t:=LL) (List.mem_append_right _ (List.mem_of_getElem? BL));have Lt:=hz.ths (t:=LL) (List.mem_append_right _ (List.mem_of_getElem? BL));refine eA anq (C44 p _ LL _ tb _ ⟨bG,bQ,bH,aT,aU,aY,rfl,(cL.ext hs.aF),(dD.ext hs.aF),(cM.ext hs.aF),(bR.ext hs.aF),(bP.ext hs.aF),(cB.ext hs.aF)⟩ ⟨Od,Oe,rfl,(Of.ext hs.aF),(Og.ext hs.aF)⟩ hz ⟨Lt.1,Lt.2.1⟩ N7 hbs yR N8) ?_
       rintro _ w27 ⟨Wq,rfl,cA⟩;have hs:=hs.made cA;refine aA zP (pF (vs:=Flat.enc Wq) hs.p1 qg rfl (eK rfl) (Flat.one _) (λ w28 hs=>?_));have hs:=hs.enc (cs':=Flat.enc (⟨sl,(ek p),sf,((p.locks).length:Int),st,Wq,⟨none,0,0⟩⟩:dQ)) rfl;have hs:=hs.p6.p6.p6.p6.p6.p6.p6;have hrm:LH p=ml p LL:=by unfold LH; rw [show p.recover[0]? = some LL from BL]
       exact ⟨_,by rw [hrm]; exact hs⟩
      ·have hs:=hs.gK (Φ:=λ w=>bZ.dr w (⟨0,0,⟨none,0,0⟩⟩:cN) (LH p)) (λ w=>by rw [show LH p=LG from by unfold LH; rw [List.getElem?_eq_none (by omega)]]; exact ⟨_,rfl,DL.nil _⟩);have hs:=hs.p6.p6.p6.p6.p6.p5.p6;exact ⟨_,hs⟩
     ·rintro w29 ⟨rc,hs⟩ G9;have hs:=((((((((hs.xY (α:=(List nw))).p7).p7).p7).p7).p7).p7).p6).p7;refine ⟨λ m x w1=>∃ (kc:Nat) (sc:SV),x = .int .i64 (kc:Int)∧m=p.cD.length - kc∧kc≤p.cD.length∧St w bD [cH yZ (Flat.enc (⟨sl,(ek p),sf,((p.locks).length:Int),st,rc,sc⟩:dQ)),fq (Flat.val sc) ((p.cD.take kc).map (λ c=>gk (o8 p) c.e)),eL (λ w=>bZ.dr w rc (LH p)),fq (Flat.val st) (p.threads.map (ml p)),bK (Flat.val sl) ((List.range (gL p).length).map (fun (i:Nat)=>lT p i)),bK (Flat.val sf) (pC p),cH kN (Flat.enc (⟨bG,bQ,bH,aT,aU,aY⟩:bN)),cH mf (Flat.enc (⟨⟨none,0,0⟩,0,⟨none,0,0⟩,0,⟨none,0,0⟩,(⟨0,0,⟨none,0,0⟩⟩:cN),⟨none,0,0⟩⟩:dQ))] w1,⟨_,0,⟨none,0,0⟩,rfl,rfl,by omega,hs⟩,?_⟩
      rintro m _ w30 ⟨kc,sc,rfl,rfl,hkc,hs⟩ Sv;have hzcl:=hz.cD;refine aA kS (aB sW hs.p6.hb rfl ?_);obtain ⟨ayk,aqA,aqB⟩:=(cB).open;have hn58:=aqB.1;refine aJ yN (aqA.ext hs.aF) (aR (aC (λ LN=>?_) (λ LN=>?_)))
      ·refine aA kS (have hs:=hs.drew;aB sW hs.p6.hb rfl ?_);obtain ⟨e_x85,Wr⟩:=gx ayk (i:=((kc:Int)).toNat) (by omega);obtain ⟨agl,I4⟩:=gx ((p).cD) (i:=((kc:Int)).toNat) (by omega);obtain ⟨adu,rfl,adv⟩:=aqB.2 _ _ _ Wr I4;refine aQ yN aqA (by omega) Wr (λ _ aqC=>bT adu C4 aqC rfl rfl (λ _ agm=>aD mX (agm.ext hs.aF) ?_));have ayl:=DL.flat (adv);refine aD gO hs.p6.At (aA py (aB (v:=.int .i64 (ek p)) bL hs.hb rfl (dF Uw hs (C46 p _ _ ⟨bG,bQ,bH,aT,aU,aY,rfl,(cL.ext hs.aF),(dD.ext hs.aF),(cM.ext hs.aF),(bR.ext hs.aF),(bP.ext hs.aF),(cB.ext hs.aF)⟩ hz) (λ x89 w31 cA hs=>?_))))
       refine ⟨aG sW (hs.p7.hb.cell rfl),?_⟩;refine ⟨eO mX (agm.ext hs.aF),?_⟩;refine ⟨aG bL (hs.p1.hb.cell rfl),?_⟩;have QO:=mi hz.toPS;have hsl:0≤ek p∧ek p≤(fj p).length:=by unfold ek fj gL; rw [List.length_map,List.length_append]; omega
       refine mc mY (hs).fF (by omega) (by omega) (λ s_x92 akb=>eA ZC (C45 _ _ _ _ _ (ayl.ext hs.aF) (akb _ (hs).fF) (hz.zc _ (List.mem_of_getElem? I4)).1 (by rw [List.length_take]; omega) (hz.zc _ (List.mem_of_getElem? I4)).2) ?_);rintro _ w32 ⟨s_x93,rfl,cA⟩;have hs:=hs.made cA;refine bE rfl (bE rfl (aA xm (aB (v:=Flat.val (sc:SV)) Sh hs.p2.hb rfl ?_)));obtain ⟨Ws,rfl⟩:=(hs).fU;have hs:=hs.freeze.dU (Ψ:=λ w=>bZ.dr w Ws ((gk ((((fj p)).take ((ek p)).toNat)) ((agl).e)))) (λ w h=>DL.fx h);refine eQ (s:=Ws) (x:=(gk ((((fj p)).take ((ek p)).toNat)) ((agl).e))) hs F5 (by decide) (λ s_x99 w33 hs=>have hs:=hs.p3;ej hs F5 (by simp; omega) (by decide) (λ aym w34 hs=>aA xm ?_))
       obtain ⟨QV,rfl⟩:=(hs).lP;refine aV hs.p2 Sh (eK rfl) (rfl) (λ w35 hs=>have hs:=hs.enc (cs':=Flat.enc (⟨sl,(ek p),sf,((p.locks).length:Int),st,rc,QV⟩:dQ)) rfl;aO (by omega) ?_);have hs:=(hs.p2.drop.p7.p7.p7.p7.p7.p7.p7).p7;exact ⟨_,by omega,kc+1,QV,rfl,rfl,by omega,by rw [← iW (k:=kc) I4]; exact hs⟩
      ·have VC:kc=p.cD.length:=by omega
       subst VC;rw [List.take_length] at hs;refine aD tO hs.At (aI (x:=(⟨sl,(ek p),sf,((p.locks).length:Int),st,rc,sc⟩:dQ)) hs.p7 tO rfl rfl (λ w36 hs=>aD tO hs.At ?_));have hs:=hs.p5.freeze.p6.freeze.p1.fP.p5.jO.p1.fP.p4.p1.fP.p3.jO.p1.fP.dU (Ψ:=(λ w=>bZ.dr w (⟨sl,(ek p),sf,((p.locks).length:Int),st,rc,sc⟩:dQ) (⟨((List.range (gL p).length).map (fun (i:Nat)=>lT p i)),(ek p),(pC p),((p.locks).length:Int),(p.threads.map (ml p)),(LH p),(p.cD.map (λ c=>gk (o8 p) c.e))⟩:im))) (λ w h=>⟨_,_,_,_,_,rfl,DL.fx h.1.1.1.1,DL.fx h.1.1.1.2,h.1.1.2,h.1.2,h.2⟩)
       have hs:=(((hs.p1.drop.p1).drop).p1).drop;rw [if_pos zL];exact ⟨_,by rw [zL],hs.fresh⟩
def nH (s:ByteArray):ByteArray:=s.extract 0 (min (s.size:Int) 40).toNat
theorem pd (s:ByteArray):(nH s).size≤40:=by
 unfold nH
 rw [ByteArray.size_extract]; omega
def adw (x:dC):dC:={x with name:=nH x.name}
def yd (l:List dC):List dC:=(l.take 60).map adw
def QW (x:cI):cI:=⟨x.kind,nH x.gQ,nH x.name,yd x.e,yd x.f,x.n,x.body,x.fK,x.at_⟩
def EX (l:List cI):List cI:=(l.take 50).map QW
def adx (c:dL):dL:={c with name:=nH c.name}
def jc (l:List dL):List dL:=(l.take 8).map adx
def yz (t:dX):dX:=⟨nH t.name,(t.aK.take 6).map nH,EX t.body,t.at_⟩
def kH (l:List dX):List dX:=(l.take 4).map yz
def EY (c:jG):jG:=⟨yd c.e,c.at_⟩
def qG (p:cY):cY:=⟨(p.lines.take 6).map jc,jc p.jY,jc p.locks,kH p.threads,kH p.recover,(p.cD.take 6).map EY⟩
theorem rF {α:Type} {xs:List α} {k m:Nat} (h:k≤m) (h2:k≤xs.length) (h3:¬ (k<xs.length∧k<m)):xs.take k=xs.take m:=by
 rcases Nat.lt_or_ge k m with h4 | h4
 ·rw [List.take_of_length_le (by omega),List.take_of_length_le (by omega)]
 ·rw [show k=m from by omega]
theorem EZ (l:List dC):(yd l).length≤60:=by unfold yd; rw [List.length_map,List.length_take]; omega
theorem I5 (l:List dC):∀ y∈yd l,y.name.size≤1048576:=by
 intro y hy
 obtain ⟨x,_,rfl⟩:=List.mem_map.1 hy
 have:=pd x.name
 show (nH x.name).size≤_
 omega
theorem E0 (l:List dL):∀ y∈jc l,y.name.size≤1048576:=by
 intro y hy
 obtain ⟨x,_,rfl⟩:=List.mem_map.1 hy
 have:=pd x.name
 show (nH x.name).size≤_
 omega
theorem BM (l:List dL):(jc l).length≤8:=by unfold jc; rw [List.length_map,List.length_take]; omega
theorem Wt (l:List cI):(EX l).length≤50:=by unfold EX; rw [List.length_map,List.length_take]; omega
theorem E1 (l:List dX):(kH l).length≤4:=by unfold kH; rw [List.length_map,List.length_take]; omega
theorem ady (l:List cI):∀ y∈EX l,SzS y:=by
 intro y hy
 obtain ⟨x,_,rfl⟩:=List.mem_map.1 hy
 have h1:=pd x.gQ
 have h2:=pd x.name
 have h3:=EZ x.e
 have h4:=EZ x.f
 exact ⟨by show (nH x.gQ).size≤_; omega,by show (nH x.name).size≤_; omega,by show (yd x.e).length≤_; omega,by show (yd x.f).length≤_; omega,I5 _,I5 _⟩
theorem Oh (t:dX):(yz t).aK.length≤6:=by show ((t.aK.take 6).map nH).length≤6; rw [List.length_map,List.length_take]; omega
theorem Hf (l:List dX):∀ y∈kH l,SzT y∧y.aK.length≤500∧y.body.length≤500:=by
 intro y hy
 obtain ⟨x,_,rfl⟩:=List.mem_map.1 hy
 have h1:=pd x.name
 have h2:=Oh x
 have h3:=Wt x.body
 refine ⟨⟨by show (nH x.name).size≤_; omega,λ s hs=>?_,ady _⟩,by omega,by show (EX x.body).length≤_; omega⟩
 obtain ⟨z,_,rfl⟩:=List.mem_map.1 (show s∈(x.aK.take 6).map nH from hs)
 have:=pd z
 omega
theorem QX (p:cY):PZ (qG p):=by
 have hl:(qG p).lines.length≤6:=by show ((p.lines.take 6).map jc).length≤6; rw [List.length_map,List.length_take]; omega
 have hc:(qG p).cD.length≤6:=by show ((p.cD.take 6).map EY).length≤6; rw [List.length_map,List.length_take]; omega
 have h1:=BM p.jY
 have h2:=BM p.locks
 have h3:=E1 p.threads
 have h4:=E1 p.recover
 have hth:∀ t∈(qG p).threads++(qG p).recover,SzT t∧t.aK.length≤500∧t.body.length≤500:=by
  intro t ht
  rcases List.mem_append.1 ht with h | h
  ·exact Hf _ t h
  ·exact Hf _ t h
 refine {lines:=by omega,line:=λ l h=>?_,jY:=by show (jc p.jY).length≤500; omega,locks:=by show (jc p.locks).length≤500; omega,threads:=by show (kH p.threads).length≤500; omega,recover:=by show (kH p.recover).length≤500; omega,cD:=by omega,aK:=λ t ht=>(hth t ht).2.1,body:=λ t ht=>(hth t ht).2.2,zl:=λ l h c hc=>?_,zv:=E0 _,zk:=E0 _,zt:=λ t ht=>(hth t (List.mem_append_left _ ht)).1,zr:=λ t ht=>(hth t (List.mem_append_right _ ht)).1,zc:=λ c h=>?_}
 ·obtain ⟨x,_,rfl⟩:=List.mem_map.1 (show l∈(p.lines.take 6).map jc from h)
  have:=BM x; omega
 ·obtain ⟨x,_,rfl⟩:=List.mem_map.1 (show l∈(p.lines.take 6).map jc from h)
  exact E0 x c hc
 ·obtain ⟨x,_,rfl⟩:=List.mem_map.1 (show c∈(p.cD.take 6).map EY from h)
  have:=EZ x.e
  exact ⟨by show (yd x.e).length≤_; omega,I5 _⟩
theorem C39 (lv:Value) (xs:List dC) (w:World) (hL:eP (λ _=>True) w lv xs):CR 39 [lv] w (λ v w'=>lY (bK v (yd xs)) w w'):=by
 have hs:=St.start w;refine ahP _ _ _ ?_;unfold S39;refine bV (([]:List dC)) hs lX rfl rfl (eK rfl) (λ ac9 w1 hs=>?_);refine ⟨λ m ga x w1=>∃ k:Nat,x = .int .i64 (k:Int)∧m=60 - k∧k≤60∧k≤xs.length∧St w bD [bK ga ((xs.take k).map adw)] w1,⟨_,0,rfl,rfl,by omega,by omega,hs⟩,?_⟩;rintro m ga _ w2 ⟨k,rfl,rfl,hk,H0,hs⟩ fD;have I6:((xs.take k).map adw).length=k:=by rw [List.length_map,List.length_take]; omega
 refine ⟨λ jv w'=>jv = .bool (decide (k<xs.length∧k<60))∧St w bD [bK ga ((xs.take k).map adw)] w',?_,?_⟩
 ·refine aJ lX (hL.ext hs.aF) (aR (aC (λ fR=>?_) (λ fR=>?_)))
  ·refine aR ?_;exact ⟨vb (by grind),hs⟩
  ·exact ⟨vb (by grind),hs⟩
 ·rintro _ w3 ⟨rfl,hs⟩ jH;refine aX (λ gX=>?_) (λ gX=>?_)
  ·have aqD:k<xs.length∧k<60:=by simpa using gX
   obtain ⟨jd,fM⟩:=gx (xs) (i:=((k:Int)).toNat) (by omega);refine aQ lX hL (by omega) fM (λ _ jQ=>aD KE (jQ.ext hs.aF) (aN hs Qp (λ um w4 hs=>aI (x:=jd) hs KE rfl rfl (λ w5 hs=>aA lh (aB (v:=.string ((jd).name)) kn hs.hb rfl (aA lh (aB (v:=.string ((jd).name)) kn hs.hb rfl (gi gN (uV (oX gN (by omega) (by omega) (aA lh (aV hs kn (eK rfl) (rfl) (λ w6 hs=>?_)))))))))))));have hs:=hs.enc (cs':=Flat.enc ({jd with name:=(((jd).name).extract 0 ((min (((jd).name).size:Int) 40)).toNat)}:dC)) rfl;refine aD KE hs.At (bV ([({jd with name:=(((jd).name).extract 0 ((min (((jd).name).size:Int) 40)).toNat)}:dC)]) hs lX rfl rfl (eK rfl) (λ V9 w7 hs=>?_))
   have Oi:=(hs).fF;refine cS hs.p2 lX Oi (by rw [I6,List.length_singleton]; omega) (by decide) (λ Wu w8 hs=>have hs:=hs.p1.drop;aO (by omega) ?_);have hs:=(hs.p1).drop;exact ⟨_,by omega,k+1,rfl,rfl,by omega,by omega,by rw [← iW (k:=k) fM]; exact hs⟩
  ·rw [rF (xs:=xs) (k:=k) (m:=60) (by omega) (by omega) (of_decide_eq_false gX)] at hs;exact hs.fresh
theorem C37 (lv:Value) (xs:List dL) (w:World) (hL:eP (λ _=>True) w lv xs):CR 37 [lv] w (λ v w'=>lY (bK v (jc xs)) w w'):=by
 have hs:=St.start w;refine ahM _ _ _ ?_;unfold S37;refine bV (([]:List dL)) hs kf rfl rfl (eK rfl) (λ ac9 w1 hs=>?_);refine ⟨λ m ga x w1=>∃ k:Nat,x = .int .i64 (k:Int)∧m=8 - k∧k≤8∧k≤xs.length∧St w bD [bK ga ((xs.take k).map adx)] w1,⟨_,0,rfl,rfl,by omega,by omega,hs⟩,?_⟩;rintro m ga _ w2 ⟨k,rfl,rfl,hk,H0,hs⟩ fD;have I6:((xs.take k).map adx).length=k:=by rw [List.length_map,List.length_take]; omega
 refine ⟨λ jv w'=>jv = .bool (decide (k<xs.length∧k<8))∧St w bD [bK ga ((xs.take k).map adx)] w',?_,?_⟩
 ·refine aJ kf (hL.ext hs.aF) (aR (aC (λ fR=>?_) (λ fR=>?_)))
  ·refine aR ?_;exact ⟨vb (by grind),hs⟩
  ·exact ⟨vb (by grind),hs⟩
 ·rintro _ w3 ⟨rfl,hs⟩ jH;refine aX (λ gX=>?_) (λ gX=>?_)
  ·have aqD:k<xs.length∧k<8:=by simpa using gX
   obtain ⟨jd,fM⟩:=gx (xs) (i:=((k:Int)).toNat) (by omega);refine aQ kf hL (by omega) fM (λ _ jQ=>aD yr (jQ.ext hs.aF) (aN hs C5 (λ akg w4 hs=>aI (x:=jd) hs yr rfl rfl (λ w5 hs=>aA pL (aB (v:=.string ((jd).name)) kn hs.hb rfl (aA pL (aB (v:=.string ((jd).name)) kn hs.hb rfl (gi gN (uV (oX gN (by omega) (by omega) (aA pL (aV hs kn (eK rfl) (rfl) (λ w6 hs=>?_)))))))))))));have hs:=hs.enc (cs':=Flat.enc ({jd with name:=(((jd).name).extract 0 ((min (((jd).name).size:Int) 40)).toNat)}:dL)) rfl;refine aD yr hs.At (bV ([({jd with name:=(((jd).name).extract 0 ((min (((jd).name).size:Int) 40)).toNat)}:dL)]) hs kf rfl rfl (eK rfl) (λ V9 w7 hs=>?_))
   have Oi:=(hs).fF;refine cS hs.p2 kf Oi (by rw [I6,List.length_singleton]; omega) (by decide) (λ Wu w8 hs=>have hs:=hs.p1.drop;aO (by omega) ?_);have hs:=(hs.p1).drop;exact ⟨_,by omega,k+1,rfl,rfl,by omega,by omega,by rw [← iW (k:=k) fM]; exact hs⟩
  ·rw [rF (xs:=xs) (k:=k) (m:=8) (by omega) (by omega) (of_decide_eq_false gX)] at hs;exact hs.fresh
theorem C92 (lv:Value) (xs:List cI) (w:World) (hL:DL w lv xs):CR 92 [lv] w (λ v w'=>lY (fq v (EX xs)) w w'):=by
 have hs:=St.start w;refine aiw _ _ _ ?_;unfold S92;refine wh (α:=cI) hs kh (λ ac9 w1 hs=>?_);refine ⟨λ m ga x w1=>∃ k:Nat,x = .int .i64 (k:Int)∧m=50 - k∧k≤50∧k≤xs.length∧St w bD [fq ga ((xs.take k).map QW)] w1,⟨_,0,rfl,rfl,by omega,by omega,hs⟩,?_⟩;rintro m ga _ w2 ⟨k,rfl,rfl,hk,H0,hs⟩ fD;have I6:((xs.take k).map QW).length=k:=by rw [List.length_map,List.length_take]; omega
 refine ⟨λ jv w'=>jv = .bool (decide (k<xs.length∧k<50))∧St w bD [fq ga ((xs.take k).map QW)] w',?_,?_⟩
 ·obtain ⟨ts60,ayn,ayo⟩:=(hL).open;have hn60:=ayo.1;refine aJ kh (ayn.ext hs.aF) (aR (aC (λ fR=>?_) (λ fR=>?_)))
  ·refine aR ?_;exact ⟨vb (by grind),hs⟩
  ·exact ⟨vb (by grind),hs⟩
 ·rintro _ w3 ⟨rfl,hs⟩ jH;refine aX (λ gX=>?_) (λ gX=>?_)
  ·have aqD:k<xs.length∧k<50:=by simpa using gX
   obtain ⟨ayp,ayq,aqE⟩:=(hL).open;have hn61:=aqE.1;obtain ⟨jd,fM⟩:=gx ayp (i:=((k:Int)).toNat) (by omega);obtain ⟨dN,om⟩:=gx (xs) (i:=((k:Int)).toNat) (by omega);obtain ⟨Dd,Az,rfl,adA,adB⟩:=aqE.2 _ _ _ fM om;refine aQ kh ayq (by omega) fM (λ _ jQ=>aD gb (jQ.ext hs.aF) (aN hs qI (λ um w4 hs=>have hs:=hs.enc (cs':=Flat.enc (⟨0,(ByteArray.mk #[]),(ByteArray.mk #[]),⟨none,0,0⟩,⟨none,0,0⟩,0,0,0,0⟩:bY)) rfl;aI (x:=(⟨(dN).kind,(dN).gQ,(dN).name,Dd,Az,(dN).n,(dN).body,(dN).fK,(dN).at_⟩:bY)) hs gb rfl rfl (λ w5 hs=>aA l7 (aB (v:=.string ((dN).gQ)) kn hs.hb rfl (aA l7 (aB (v:=.string ((dN).gQ)) kn hs.hb rfl (gi gN (uV (oX gN (by omega) (by omega) (aA l7 ?_)))))))))))
   have ayr:=DL.flat (adA);have ays:=DL.flat (adB);refine aV hs kn (eK rfl) (rfl) (λ w6 hs=>have hs:=hs.enc (cs':=Flat.enc (⟨(dN).kind,(((dN).gQ).extract 0 ((min (((dN).gQ).size:Int) 40)).toNat),(dN).name,Dd,Az,(dN).n,(dN).body,(dN).fK,(dN).at_⟩:bY)) rfl;aA jq (aB (v:=.string (dN).name) kn hs.hb rfl (aA jq (aB (v:=.string (dN).name) kn hs.hb rfl (gi gN (uV (oX gN (by omega) (by omega) (aA jq (aV hs kn (eK rfl) (rfl) (λ w7 hs=>have hs:=hs.enc (cs':=Flat.enc (⟨(dN).kind,(((dN).gQ).extract 0 ((min (((dN).gQ).size:Int) 40)).toNat),(((dN).name).extract 0 ((min (((dN).name).size:Int) 40)).toNat),Dd,Az,(dN).n,(dN).body,(dN).fK,(dN).at_⟩:bY)) rfl;aA l8 (aB (v:=Flat.val (Dd:SV)) mX hs.hb rfl (dF aip hs (C39 _ _ _ (ayr.ext hs.aF)) (λ x39 w8 cA hs=>?_)))))))))))))
   refine aA l8 ?_;obtain ⟨y9,rfl⟩:=(hs).fU;refine aV hs.p1 mX (eK rfl) (rfl) (λ w9 hs=>have hs:=hs.enc (cs':=Flat.enc (⟨(dN).kind,(((dN).gQ).extract 0 ((min (((dN).gQ).size:Int) 40)).toNat),(((dN).name).extract 0 ((min (((dN).name).size:Int) 40)).toNat),y9,Az,(dN).n,(dN).body,(dN).fK,(dN).at_⟩:bY)) rfl;aA nZ (aB (v:=Flat.val (Az:SV)) mX hs.hb rfl (dF aip hs (C39 _ _ _ (ays.ext hs.aF)) (λ x43 pP cA hs=>aA nZ ?_))));obtain ⟨BN,rfl⟩:=(hs).fU;refine aV hs.p1 mX (eK rfl) (rfl) (λ sZ hs=>have hs:=hs.enc (cs':=Flat.enc (⟨(dN).kind,(((dN).gQ).extract 0 ((min (((dN).gQ).size:Int) 40)).toNat),(((dN).name).extract 0 ((min (((dN).name).size:Int) 40)).toNat),y9,BN,(dN).n,(dN).body,(dN).fK,(dN).at_⟩:bY)) rfl;aD gb hs.At (have hs:=hs.p2.freeze.p2.freeze.p1.fP.dU (Ψ:=(λ w=>bZ.dr w (⟨(dN).kind,(((dN).gQ).extract 0 ((min (((dN).gQ).size:Int) 40)).toNat),(((dN).name).extract 0 ((min (((dN).name).size:Int) 40)).toNat),y9,BN,(dN).n,(dN).body,(dN).fK,(dN).at_⟩:bY) (⟨(dN).kind,(((dN).gQ).extract 0 ((min (((dN).gQ).size:Int) 40)).toNat),(((dN).name).extract 0 ((min (((dN).name).size:Int) 40)).toNat),(yd (dN).e),(yd (dN).f),(dN).n,(dN).body,(dN).fK,(dN).at_⟩:cI))) (λ w h=>⟨_,_,rfl,DL.fx h.1,DL.fx h.2⟩);eQ (s:=(⟨(dN).kind,(((dN).gQ).extract 0 ((min (((dN).gQ).size:Int) 40)).toNat),(((dN).name).extract 0 ((min (((dN).name).size:Int) 40)).toNat),y9,BN,(dN).n,(dN).body,(dN).fK,(dN).at_⟩:bY)) (x:=(⟨(dN).kind,(((dN).gQ).extract 0 ((min (((dN).gQ).size:Int) 40)).toNat),(((dN).name).extract 0 ((min (((dN).name).size:Int) 40)).toNat),(yd (dN).e),(yd (dN).f),(dN).n,(dN).body,(dN).fK,(dN).at_⟩:cI)) hs kh (by decide) (λ aqF vy hs=>have hs:=hs.p2;ej hs kh (by rw [I6,List.length_singleton]; omega) (by decide) (λ aqt vz hs=>aO (by omega) ?_))))
   have hs:=(hs.p1).drop;exact ⟨_,by omega,k+1,rfl,rfl,by omega,by omega,by rw [← iW (k:=k) om]; exact hs⟩
  ·rw [rF (xs:=xs) (k:=k) (m:=50) (by omega) (by omega) (of_decide_eq_false gX)] at hs;exact hs.fresh
set_option maxHeartbeats 4000000 in
theorem C38 (lv:Value) (xs:List dX) (w:World) (hL:DL w lv xs):CR 38 [lv] w (λ v w'=>lY (fq v (kH xs)) w w'):=by
 have hs:=St.start w;refine ahO _ _ _ ?_;unfold S38;refine wh (α:=dX) hs iQ (λ Lz w1 hs=>?_);refine ⟨λ m ga x w1=>∃ k:Nat,x = .int .i64 (k:Int)∧m=4 - k∧k≤4∧k≤xs.length∧St w bD [fq ga ((xs.take k).map yz)] w1,⟨_,0,rfl,rfl,by omega,by omega,hs⟩,?_⟩;rintro m ga _ w2 ⟨k,rfl,rfl,hk,H0,hs⟩ fD;have I6:((xs.take k).map yz).length=k:=by rw [List.length_map,List.length_take]; omega
 refine ⟨λ jv w'=>jv = .bool (decide (k<xs.length∧k<4))∧St w bD [fq ga ((xs.take k).map yz)] w',?_,?_⟩
 ·obtain ⟨ts64,ayt,ayu⟩:=(hL).open;have hn64:=ayu.1;refine aJ iQ (ayt.ext hs.aF) (aR (aC (λ gW=>?_) (λ gW=>?_)))
  ·refine aR ?_;exact ⟨vb (by grind),hs⟩
  ·exact ⟨vb (by grind),hs⟩
 ·rintro _ w3 ⟨rfl,hs⟩ jH;refine aX (λ jt=>?_) (λ jt=>?_)
  ·have hc15:k<xs.length∧k<4:=by simpa using jt
   obtain ⟨ayv,Oj,aqG⟩:=(hL).open;have hn65:=aqG.1;obtain ⟨agn,pe⟩:∃ xx,ayv[((k:Int)).toNat]? = some xx:=⟨_,List.getElem?_eq_getElem (by omega)⟩;obtain ⟨fO,Wv⟩:∃ xx,(xs)[((k:Int)).toNat]? = some xx:=⟨_,List.getElem?_eq_getElem (by omega)⟩;obtain ⟨za,Ok,rfl,E2,E3⟩:=aqG.2 _ _ _ pe Wv;refine ⟨λ nq w'=>St w bD [fq nq ((xs.take k).map yz++[yz fO])] w',?_,?_⟩
   ·refine ⟨λ jv w'=>∃ (E4:Nat) (Gh:SV),jv = .pointer (some ⟨E4,0,none⟩)∧St w bD [cH E4 (Flat.enc (⟨((fO).name.extract 0 (min (((fO).name).size:Int) 40).toNat),⟨none,0,0⟩,Gh,(fO).at_⟩:er)),fq (Flat.val Gh) (EX (fO).body),fq ga ((xs.take k).map yz)] w',?_,?_⟩
    ·refine aQ iQ Oj (by omega) pe (λ _ LO=>bT (fO).name zR LO rfl rfl (λ _ wK=>have hs:=hs.drew;aD kn (wK.ext hs.aF) (aQ iQ Oj (by omega) pe (λ _ uq=>bT (fO).name zR uq rfl rfl (λ _ rn=>aD kn (rn.ext hs.aF) (gi gN (uV (oX gN (by omega) (by omega) (aQ iQ Oj (by omega) pe (λ _ Ap=>bT (fO).at_ zS Ap rfl rfl (λ _ rG=>aD bL (rG.ext hs.aF) (aQ iQ Oj (by omega) pe (λ _ EH=>?_)))))))))))));refine bT Ok qH EH rfl rfl (λ _ ui=>aD sX (ui.ext hs.aF) ?_);refine ⟨?_,?_⟩
     ·refine dF ant hs (C92 _ _ _ (E3.ext hs.aF)) (λ x41 w4 cA hs=>?_);refine ⟨eO kn (wK.ext hs.aF),?_⟩;refine ⟨eO kn (rn.ext hs.aF),?_⟩;refine ⟨eO bL (rG.ext hs.aF),?_⟩;obtain ⟨I7,rfl⟩:=(hs).lP;refine pop (Ci _ _ _ _ _) (aN hs Nx (λ b_t5 w5 hs=>?_));have hs:=hs.enc (cs':=Flat.enc (⟨(ByteArray.mk #[]),⟨none,0,0⟩,⟨none,0,0⟩,0⟩:er)) rfl;refine ⟨eO kn (wK.ext hs.aF),?_⟩;refine ⟨eO kn (rn.ext hs.aF),?_⟩;refine ⟨eO bL (rG.ext hs.aF),?_⟩;refine ⟨eO sX (ui.ext hs.aF),?_⟩;refine aI (x:=(⟨(((fO).name).extract 0 ((min (((fO).name).size:Int) 40)).toNat),⟨none,0,0⟩,I7,(fO).at_⟩:er)) hs IA rfl rfl (λ w6 hs=>?_)
      have hs:=hs.p2.p2.p2;exact ⟨_,_,rfl,hs⟩
     ·refine ⟨?_,?_⟩
      ·refine aN hs Nx (λ ayw w7 hs=>?_);have hs:=hs.enc (cs':=Flat.enc (⟨(ByteArray.mk #[]),⟨none,0,0⟩,⟨none,0,0⟩,0⟩:er)) rfl;refine ⟨eO kn (wK.ext hs.aF),?_⟩;refine ⟨eO kn (rn.ext hs.aF),?_⟩;refine ⟨eO bL (rG.ext hs.aF),?_⟩;refine ⟨eO sX (ui.ext hs.aF),?_⟩;refine dF ant hs (C92 _ _ _ (E3.ext hs.aF)) (λ x41_1 w8 cA hs=>?_);refine ⟨eO kn (wK.ext hs.aF),?_⟩;refine ⟨eO kn (rn.ext hs.aF),?_⟩;refine ⟨eO bL (rG.ext hs.aF),?_⟩;obtain ⟨Ww,rfl⟩:=(hs).lP;refine pop (Ci _ _ _ _ _) (aI (x:=(⟨(((fO).name).extract 0 ((min (((fO).name).size:Int) 40)).toNat),⟨none,0,0⟩,Ww,(fO).at_⟩:er)) hs.p1 IA rfl rfl (λ w9 hs=>?_))
       have hs:=hs.p2.p2.p2;exact ⟨_,_,rfl,hs⟩
      ·trivial
    ·rintro _ pP ⟨E4,Gh,rfl,hs⟩ oY;have hs:=((((hs.fX (α:=ByteArray)).p3).p3).p2).p3;refine ⟨λ m x w1=>∃ (j:Nat) (LP:SV),x = .int .i64 (j:Int)∧m=6 - j∧j≤6∧j≤(fO).aK.length∧St w bD [cH E4 (Flat.enc (⟨((fO).name.extract 0 (min (((fO).name).size:Int) 40).toNat),LP,Gh,(fO).at_⟩:er)),bK (Flat.val LP) (((fO).aK.take j).map nH),fq (Flat.val Gh) (EX (fO).body),fq ga ((xs.take k).map yz)] w1,⟨_,0,⟨none,0,0⟩,rfl,rfl,by omega,by omega,hs⟩,?_⟩;rintro m _ sZ ⟨j,LP,rfl,rfl,hj,hj2,hs⟩ G9;have akh:(((fO).aK.take j).map nH).length=j:=by rw [List.length_map,List.length_take]; omega
     refine ⟨λ jv w'=>jv = .bool (decide (j<(fO).aK.length∧j<6))∧St w bD [cH E4 (Flat.enc (⟨((fO).name.extract 0 (min (((fO).name).size:Int) 40).toNat),LP,Gh,(fO).at_⟩:er)),bK (Flat.val LP) (((fO).aK.take j).map nH),fq (Flat.val Gh) (EX (fO).body),fq ga ((xs.take k).map yz)] w',?_,?_⟩
     ·refine aQ iQ Oj (by omega) pe (λ _ Lv=>bT za jA Lv rfl rfl (λ _ Er=>aD pH (Er.ext hs.aF) ?_));have ayy:=DL.flat (E2);refine aJ mY (ayy.ext hs.aF) (aR (aC (λ pX=>?_) (λ pX=>?_)))
      ·refine aR ?_;exact ⟨vb (by grind),hs⟩
      ·exact ⟨vb (by grind),hs⟩
     ·rintro _ vy ⟨rfl,hs⟩ Sv;refine aX (λ wD=>?_) (λ wD=>?_)
      ·have hc54:j<(fO).aK.length∧j<6:=by simpa using wD
       refine aA jA (have hs:=hs.drew;aB (v:=Flat.val (LP:SV)) pH hs.hb rfl (aQ iQ Oj (by omega) pe (λ _ VY=>bT za jA VY rfl rfl (λ _ LQ=>aD pH (LQ.ext hs.aF) ?_))));have aqH:=DL.flat (E2);obtain ⟨ago,Ol⟩:=gx ((fO).aK) (i:=((j:Int)).toNat) (by omega);refine aQ mY aqH (by omega) Ol (λ _ Co=>aD kn (Co.ext hs.aF) (aQ iQ Oj (by omega) pe (λ _ VZ=>bT za jA VZ rfl rfl (λ _ LM=>aD pH (LM.ext hs.aF) (aQ mY aqH (by omega) Ol (λ _ aqI=>aD kn (aqI.ext hs.aF) (gi gN (uV (oX gN (by omega) (by omega) (bV ([((ago).extract 0 ((min ((ago).size:Int) 40)).toNat)]) hs mY rfl rfl (eK rfl) (λ aqJ vz hs=>?_)))))))))))
       refine ⟨aG pH (hs.p1.hb.cell rfl),?_⟩;have aki:=(hs).fF;refine cS hs.p2 mY aki (by rw [akh,List.length_singleton]; omega) (by decide) (λ s_x79 su hs=>have hs:=hs.p1.drop;aA jA ?_);obtain ⟨Wx,rfl⟩:=(hs).fU;refine aV hs.p1 pH (eK rfl) (rfl) (λ wm hs=>have hs:=hs.enc (cs':=Flat.enc (⟨((fO).name.extract 0 (min (((fO).name).size:Int) 40).toNat),Wx,Gh,(fO).at_⟩:er)) rfl;aO (by omega) ?_);have hs:=hs.p3.p3.p3.p3;exact ⟨_,by omega,j+1,Wx,rfl,rfl,by omega,by omega,by rw [← iW (k:=j) Ol]; exact hs⟩
      ·refine aD IA hs.At (have hs:=hs.p1.freeze.p2.jO.p1.fP.dU (Ψ:=(λ w=>bZ.dr w (⟨((fO).name.extract 0 (min (((fO).name).size:Int) 40).toNat),LP,Gh,(fO).at_⟩:er) (⟨((fO).name.extract 0 (min (((fO).name).size:Int) 40).toNat),(((fO).aK.take j).map nH),(EX (fO).body),(fO).at_⟩:dX))) (λ w h=>⟨_,_,rfl,DL.fx h.1,h.2⟩);eQ (s:=(⟨((fO).name.extract 0 (min (((fO).name).size:Int) 40).toNat),LP,Gh,(fO).at_⟩:er)) (x:=(⟨((fO).name.extract 0 (min (((fO).name).size:Int) 40).toNat),(((fO).aK.take j).map nH),(EX (fO).body),(fO).at_⟩:dX)) hs iQ (by decide) (λ aqK zq hs=>have hs:=hs.p2;ej hs iQ (by rw [I6,List.length_singleton]; omega) (by decide) (λ age CH hs=>?_)))
       have hs:=(hs.p1).drop;rw [rF (xs:=(fO).aK) (k:=j) (m:=6) (by omega) (by omega) (of_decide_eq_false wD)] at hs;exact hs
   ·rintro nq IN hs dd6;refine aO (by omega) ?_;exact ⟨_,by omega,k+1,rfl,rfl,by omega,by omega,by rw [← iW (k:=k) Wv]; exact hs⟩
  ·rw [rF (xs:=xs) (k:=k) (m:=4) (by omega) (by omega) (of_decide_eq_false jt)] at hs;exact hs.fresh
set_option maxHeartbeats 4000000 in
theorem C11 (p:cY) (pv:bN) (w:World) (hp:bZ.dr w pv p):CR 11 [Flat.val pv] w (λ v w'=>∃ qv:bN,v=Flat.val qv∧lY (eL (λ w=>bZ.dr w qv (qG p))) w w'):=by
 obtain ⟨bG,bQ,bH,aT,aU,aY,rfl,cL,dD,cM,bR,bP,cB⟩:=hp;have hs:=St.start w;refine ahv _ _ _ ?_;unfold S11;refine dJ hs (λ kN w1 hs=>aN hs uR (λ mf w2 hs=>?_));have hs:=hs.enc (cs':=Flat.enc (⟨⟨none,0,0⟩,⟨none,0,0⟩,⟨none,0,0⟩,⟨none,0,0⟩,⟨none,0,0⟩,⟨none,0,0⟩⟩:bN)) rfl;refine ⟨λ jv w'=>∃ (zb:Nat) (Om On Oo Oq:SV),jv = .pointer (some ⟨zb,0,none⟩)∧St w bD [cH zb (Flat.enc (⟨⟨none,0,0⟩,Om,On,Oo,Oq,⟨none,0,0⟩⟩:bN)),bK (Flat.val Om) (jc p.jY),bK (Flat.val On) (jc p.locks),fq (Flat.val Oo) (kH p.threads),fq (Flat.val Oq) (kH p.recover),cH kN (Flat.enc (⟨bG,bQ,bH,aT,aU,aY⟩:bN)),cH mf (Flat.enc (⟨⟨none,0,0⟩,⟨none,0,0⟩,⟨none,0,0⟩,⟨none,0,0⟩,⟨none,0,0⟩,⟨none,0,0⟩⟩:bN))] w',?_,?_⟩
 ·refine aA uQ (have hs:=hs.drew;aB jF hs.p1.hb rfl ?_);have aqL:=DL.flat (dD);refine aA sb (aB jF hs.p1.hb rfl ?_);have akj:=DL.flat (cM);refine aA nk (aB ji hs.p1.hb rfl (aA sd (aB ji hs.p1.hb rfl ?_)));refine ⟨?_,?_⟩
  ·refine dF R8 hs (C37 _ _ _ (aqL.ext hs.aF)) (λ x8 w3 cA hs=>?_);refine ⟨aG jF (hs.p2.hb.cell rfl),?_⟩;refine ⟨aG ji (hs.p2.hb.cell rfl),?_⟩;refine ⟨aG ji (hs.p2.hb.cell rfl),?_⟩;refine ⟨?_,?_⟩
   ·refine dF R8 hs (C37 _ _ _ (akj.ext hs.aF)) (λ x11 w4 cA hs=>?_);refine ⟨aG ji (hs.p3.hb.cell rfl),?_⟩;refine ⟨aG ji (hs.p3.hb.cell rfl),?_⟩;refine ⟨?_,?_⟩
    ·refine dF Ic hs (C38 _ _ _ (bR.ext hs.aF)) (λ x14 w5 cA hs=>?_);refine ⟨aG ji (hs.p4.hb.cell rfl),?_⟩;refine ⟨?_,?_⟩
     ·refine dF Ic hs (C38 _ _ _ (bP.ext hs.aF)) (λ x17 w6 cA hs=>?_);obtain ⟨E5,rfl⟩:=(hs.p3).fU;obtain ⟨mn,rfl⟩:=(hs.p2).fU;obtain ⟨oy,rfl⟩:=(hs.p1).lP;obtain ⟨Wy,rfl⟩:=(hs).lP;refine pop (nc _ _ _ _ _ _ _ _ _ _ _ _) (aN hs uR (λ b_q3 w7 hs=>?_));have hs:=hs.enc (cs':=Flat.enc (⟨⟨none,0,0⟩,⟨none,0,0⟩,⟨none,0,0⟩,⟨none,0,0⟩,⟨none,0,0⟩,⟨none,0,0⟩⟩:bN)) rfl;refine ⟨aG jF (hs.p6.hb.cell rfl),?_⟩;refine ⟨aG jF (hs.p6.hb.cell rfl),?_⟩;refine ⟨aG ji (hs.p6.hb.cell rfl),?_⟩;refine ⟨aG ji (hs.p6.hb.cell rfl),?_⟩;refine aI (x:=(⟨⟨none,0,0⟩,E5,mn,oy,Wy,⟨none,0,0⟩⟩:bN)) hs gO rfl rfl (λ w8 hs=>?_)
      have hs:=hs.p5.p6.p3.p4.p5.p6.p6;exact ⟨_,_,_,_,_,rfl,hs⟩
     ·refine ⟨?_,?_⟩
      ·refine aN hs uR (λ ayz w9 hs=>?_);have hs:=hs.enc (cs':=Flat.enc (⟨⟨none,0,0⟩,⟨none,0,0⟩,⟨none,0,0⟩,⟨none,0,0⟩,⟨none,0,0⟩,⟨none,0,0⟩⟩:bN)) rfl;refine ⟨aG jF (hs.p5.hb.cell rfl),?_⟩;refine ⟨aG jF (hs.p5.hb.cell rfl),?_⟩;refine ⟨aG ji (hs.p5.hb.cell rfl),?_⟩;refine ⟨aG ji (hs.p5.hb.cell rfl),?_⟩;refine dF Ic hs (C38 _ _ _ (bP.ext hs.aF)) (λ aqM pP cA hs=>?_);obtain ⟨E5,rfl⟩:=(hs.p4).fU;obtain ⟨mn,rfl⟩:=(hs.p3).fU;obtain ⟨oy,rfl⟩:=(hs.p2).lP;obtain ⟨LR,rfl⟩:=(hs).lP;refine pop (nc _ _ _ _ _ _ _ _ _ _ _ _) (aI (x:=(⟨⟨none,0,0⟩,E5,mn,oy,LR,⟨none,0,0⟩⟩:bN)) hs.p1 gO rfl rfl (λ sZ hs=>?_))
       have hs:=hs.p5.p6.p3.p4.p5.p6.p6;exact ⟨_,_,_,_,_,rfl,hs⟩
      ·trivial
    ·refine ⟨?_,?_⟩
     ·refine aN hs uR (λ ayA vy hs=>?_);have hs:=hs.enc (cs':=Flat.enc (⟨⟨none,0,0⟩,⟨none,0,0⟩,⟨none,0,0⟩,⟨none,0,0⟩,⟨none,0,0⟩,⟨none,0,0⟩⟩:bN)) rfl;refine ⟨aG jF (hs.p4.hb.cell rfl),?_⟩;refine ⟨aG jF (hs.p4.hb.cell rfl),?_⟩;refine ⟨aG ji (hs.p4.hb.cell rfl),?_⟩;refine ⟨aG ji (hs.p4.hb.cell rfl),?_⟩;refine dF Ic hs (C38 _ _ _ (bR.ext hs.aF)) (λ x14_1 vz cA hs=>?_);refine ⟨aG ji (hs.p5.hb.cell rfl),?_⟩;refine dF Ic hs (C38 _ _ _ (bP.ext hs.aF)) (λ aqN su cA hs=>?_);obtain ⟨E5,rfl⟩:=(hs.p4).fU;obtain ⟨mn,rfl⟩:=(hs.p3).fU;obtain ⟨Wz,rfl⟩:=(hs.p1).lP
      obtain ⟨LS,rfl⟩:=(hs).lP;refine pop (nc _ _ _ _ _ _ _ _ _ _ _ _) (aI (x:=(⟨⟨none,0,0⟩,E5,mn,Wz,LS,⟨none,0,0⟩⟩:bN)) hs.p2 gO rfl rfl (λ wm hs=>?_));have hs:=hs.p5.p6.p3.p4.p5.p6.p6;exact ⟨_,_,_,_,_,rfl,hs⟩
     ·trivial
   ·refine ⟨?_,?_⟩
    ·refine aN hs uR (λ ayB zq hs=>?_);have hs:=hs.enc (cs':=Flat.enc (⟨⟨none,0,0⟩,⟨none,0,0⟩,⟨none,0,0⟩,⟨none,0,0⟩,⟨none,0,0⟩,⟨none,0,0⟩⟩:bN)) rfl;refine ⟨aG jF (hs.p3.hb.cell rfl),?_⟩;refine ⟨aG jF (hs.p3.hb.cell rfl),?_⟩;refine ⟨aG ji (hs.p3.hb.cell rfl),?_⟩;refine ⟨aG ji (hs.p3.hb.cell rfl),?_⟩;refine dF R8 hs (C37 _ _ _ (akj.ext hs.aF)) (λ x11_1 CH cA hs=>?_);refine ⟨aG ji (hs.p4.hb.cell rfl),?_⟩;refine ⟨aG ji (hs.p4.hb.cell rfl),?_⟩;refine dF Ic hs (C38 _ _ _ (bR.ext hs.aF)) (λ x14_2 IN cA hs=>?_);refine ⟨aG ji (hs.p5.hb.cell rfl),?_⟩
     refine dF Ic hs (C38 _ _ _ (bP.ext hs.aF)) (λ x17_3 JQ cA hs=>?_);obtain ⟨E5,rfl⟩:=(hs.p4).fU;obtain ⟨WA,rfl⟩:=(hs.p2).fU;obtain ⟨WB,rfl⟩:=(hs.p1).lP;obtain ⟨WC,rfl⟩:=(hs).lP;refine pop (nc _ _ _ _ _ _ _ _ _ _ _ _) (aI (x:=(⟨⟨none,0,0⟩,E5,WA,WB,WC,⟨none,0,0⟩⟩:bN)) hs.p3 gO rfl rfl (λ Lc hs=>?_));have hs:=hs.p5.p6.p3.p4.p5.p6.p6;exact ⟨_,_,_,_,_,rfl,hs⟩
    ·trivial
  ·refine ⟨?_,?_⟩
   ·refine aN hs uR (λ ayC M4 hs=>?_);have hs:=hs.enc (cs':=Flat.enc (⟨⟨none,0,0⟩,⟨none,0,0⟩,⟨none,0,0⟩,⟨none,0,0⟩,⟨none,0,0⟩,⟨none,0,0⟩⟩:bN)) rfl;refine ⟨aG jF (hs.p2.hb.cell rfl),?_⟩;refine ⟨aG jF (hs.p2.hb.cell rfl),?_⟩;refine ⟨aG ji (hs.p2.hb.cell rfl),?_⟩;refine ⟨aG ji (hs.p2.hb.cell rfl),?_⟩;refine dF R8 hs (C37 _ _ _ (aqL.ext hs.aF)) (λ x8_1 QS cA hs=>?_);refine ⟨aG jF (hs.p3.hb.cell rfl),?_⟩;refine ⟨aG ji (hs.p3.hb.cell rfl),?_⟩;refine ⟨aG ji (hs.p3.hb.cell rfl),?_⟩;refine dF R8 hs (C37 _ _ _ (akj.ext hs.aF)) (λ x11_2 T3 cA hs=>?_)
    refine ⟨aG ji (hs.p4.hb.cell rfl),?_⟩;refine ⟨aG ji (hs.p4.hb.cell rfl),?_⟩;refine dF Ic hs (C38 _ _ _ (bR.ext hs.aF)) (λ x14_3 Wk cA hs=>?_);refine ⟨aG ji (hs.p5.hb.cell rfl),?_⟩;refine dF Ic hs (C38 _ _ _ (bP.ext hs.aF)) (λ x17_4 SB cA hs=>?_);obtain ⟨De,rfl⟩:=(hs.p3).fU;obtain ⟨WD,rfl⟩:=(hs.p2).fU;obtain ⟨WE,rfl⟩:=(hs.p1).lP;obtain ⟨WG,rfl⟩:=(hs).lP;refine pop (nc _ _ _ _ _ _ _ _ _ _ _ _) (aI (x:=(⟨⟨none,0,0⟩,De,WD,WE,WG,⟨none,0,0⟩⟩:bN)) hs.p4 gO rfl rfl (λ w26 hs=>?_));have hs:=hs.p5.p6.p3.p4.p5.p6.p6
    exact ⟨_,_,_,_,_,rfl,hs⟩
   ·trivial
 ·rintro _ w27 ⟨zb,Om,On,Oo,Oq,rfl,hs⟩ fD;have hs:=((((((((hs.xY (α:=(List dL))).p7).p7).p7).p7).p7).p7).p6).p7;refine ⟨λ m x w1=>∃ (k:Nat) (sl:SV),x = .int .i64 (k:Int)∧m=6 - k∧k≤6∧k≤p.lines.length∧St w bD [cH zb (Flat.enc (⟨sl,Om,On,Oo,Oq,⟨none,0,0⟩⟩:bN)),fq (Flat.val sl) ((p.lines.take k).map jc),bK (Flat.val Om) (jc p.jY),bK (Flat.val On) (jc p.locks),fq (Flat.val Oo) (kH p.threads),fq (Flat.val Oq) (kH p.recover),cH kN (Flat.enc (⟨bG,bQ,bH,aT,aU,aY⟩:bN)),cH mf (Flat.enc (⟨⟨none,0,0⟩,⟨none,0,0⟩,⟨none,0,0⟩,⟨none,0,0⟩,⟨none,0,0⟩,⟨none,0,0⟩⟩:bN))] w1,⟨_,0,⟨none,0,0⟩,rfl,rfl,by omega,by omega,hs⟩,?_⟩
  rintro m _ w28 ⟨k,sl,rfl,rfl,hk,H0,hs⟩ jH;have I6:((p.lines.take k).map jc).length=k:=by rw [List.length_map,List.length_take]; omega
  refine ⟨λ jv w'=>jv = .bool (decide (k<p.lines.length∧k<6))∧St w bD [cH zb (Flat.enc (⟨sl,Om,On,Oo,Oq,⟨none,0,0⟩⟩:bN)),fq (Flat.val sl) ((p.lines.take k).map jc),bK (Flat.val Om) (jc p.jY),bK (Flat.val On) (jc p.locks),fq (Flat.val Oo) (kH p.threads),fq (Flat.val Oq) (kH p.recover),cH kN (Flat.enc (⟨bG,bQ,bH,aT,aU,aY⟩:bN)),cH mf (Flat.enc (⟨⟨none,0,0⟩,⟨none,0,0⟩,⟨none,0,0⟩,⟨none,0,0⟩,⟨none,0,0⟩,⟨none,0,0⟩⟩:bN))] w',?_,?_⟩
  ·refine aA jz (aB rX hs.p6.hb rfl ?_);obtain ⟨ts70,ayD,ayE⟩:=(cL).open;have hn70:=ayE.1;refine aJ vI (ayD.ext hs.aF) (aR (aC (λ iV=>?_) (λ iV=>?_)))
   ·refine aR ?_;exact ⟨vb (by grind),hs⟩
   ·exact ⟨vb (by grind),hs⟩
  ·rintro _ w29 ⟨rfl,hs⟩ oY;refine aX (λ gn=>?_) (λ gn=>?_)
   ·have hc27:k<p.lines.length∧k<6:=by simpa using gn
    refine aA jz (have hs:=hs.drew;aB (v:=Flat.val (sl:SV)) rX hs.hb rfl (aA jz (aB rX hs.p6.hb rfl ?_)));obtain ⟨ayF,ayG,aqO⟩:=(cL).open;have hn71:=aqO.1;obtain ⟨aqP,WH⟩:=gx ayF (i:=((k:Int)).toNat) (by omega);obtain ⟨WI,WJ⟩:=gx ((p).lines) (i:=((k:Int)).toNat) (by omega);have aqQ:DL w (Flat.val aqP) WI:=aqO.2 _ _ _ WH WJ;refine aQ vI ayG (by omega) WH (λ _ Ac=>aD jF (Ac.ext hs.aF) ?_);have ayH:=DL.flat (aqQ);refine dF R8 hs (C37 _ _ _ (ayH.ext hs.aF)) (λ x37 w30 cA hs=>?_);refine ⟨aG rX (hs.p1.hb.cell rfl),?_⟩;obtain ⟨pa,rfl⟩:=(hs).fU
    have hs:=hs.freeze.dU (Ψ:=λ w=>bZ.dr w pa ((jc WI))) (λ w h=>DL.fx h);refine eQ (s:=pa) (x:=(jc WI)) hs vI (by decide) (λ agc w31 hs=>?_);refine ⟨aG rX (hs.p1.hb.cell rfl),?_⟩;have hs:=hs.p2;refine ej hs vI (by rw [I6,List.length_singleton]; omega) (by decide) (λ agp w32 hs=>aA jz ?_);obtain ⟨y9,rfl⟩:=(hs).lP;refine aV hs.p1 rX (eK rfl) (rfl) (λ w33 hs=>have hs:=hs.enc (cs':=Flat.enc (⟨y9,Om,On,Oo,Oq,⟨none,0,0⟩⟩:bN)) rfl;aO (by omega) ?_);have hs:=hs.p7.p7.p7.p7.p7.p7.p7.p7;exact ⟨_,by omega,k+1,y9,rfl,rfl,by omega,by omega,by rw [← iW (k:=k) WJ]; exact hs⟩
   ·rw [rF (xs:=p.lines) (k:=k) (m:=6) (by omega) (by omega) (of_decide_eq_false gn)] at hs;have hs:=(((((((((hs.xY (α:=jG)).p8).p8).p8).p8).p8).p8).p8).p7).p8;refine ⟨λ m x w1=>∃ (j:Nat) (sc:SV),x = .int .i64 (j:Int)∧m=6 - j∧j≤6∧j≤p.cD.length∧St w bD [cH zb (Flat.enc (⟨sl,Om,On,Oo,Oq,sc⟩:bN)),fq (Flat.val sc) ((p.cD.take j).map EY),fq (Flat.val sl) ((p.lines.take 6).map jc),bK (Flat.val Om) (jc p.jY),bK (Flat.val On) (jc p.locks),fq (Flat.val Oo) (kH p.threads),fq (Flat.val Oq) (kH p.recover),cH kN (Flat.enc (⟨bG,bQ,bH,aT,aU,aY⟩:bN)),cH mf (Flat.enc (⟨⟨none,0,0⟩,⟨none,0,0⟩,⟨none,0,0⟩,⟨none,0,0⟩,⟨none,0,0⟩,⟨none,0,0⟩⟩:bN))] w1,⟨_,0,⟨none,0,0⟩,rfl,rfl,by omega,by omega,hs⟩,?_⟩
    rintro m _ w34 ⟨j,sc,rfl,rfl,hj,hj2,hs⟩ G9;have akh:((p.cD.take j).map EY).length=j:=by rw [List.length_map,List.length_take]; omega
    refine ⟨λ jv w'=>jv = .bool (decide (j<p.cD.length∧j<6))∧St w bD [cH zb (Flat.enc (⟨sl,Om,On,Oo,Oq,sc⟩:bN)),fq (Flat.val sc) ((p.cD.take j).map EY),fq (Flat.val sl) ((p.lines.take 6).map jc),bK (Flat.val Om) (jc p.jY),bK (Flat.val On) (jc p.locks),fq (Flat.val Oo) (kH p.threads),fq (Flat.val Oq) (kH p.recover),cH kN (Flat.enc (⟨bG,bQ,bH,aT,aU,aY⟩:bN)),cH mf (Flat.enc (⟨⟨none,0,0⟩,⟨none,0,0⟩,⟨none,0,0⟩,⟨none,0,0⟩,⟨none,0,0⟩,⟨none,0,0⟩⟩:bN))] w',?_,?_⟩
    ·refine aA kS (aB sW hs.p7.hb rfl ?_);obtain ⟨ts73,ayI,ayJ⟩:=(cB).open;have hn73:=ayJ.1;refine aJ yN (ayI.ext hs.aF) (aR (aC (λ jR=>?_) (λ jR=>?_)))
     ·refine aR ?_;exact ⟨vb (by grind),hs⟩
     ·exact ⟨vb (by grind),hs⟩
    ·rintro _ w35 ⟨rfl,hs⟩ Sv;refine aX (λ vC=>?_) (λ vC=>?_)
     ·have hc49:j<p.cD.length∧j<6:=by simpa using vC
      refine aA kS (have hs:=hs.drew;aB (v:=Flat.val (sc:SV)) sW hs.hb rfl (aA kS (aB sW hs.p7.hb rfl ?_)));obtain ⟨ayK,aqR,aqS⟩:=(cB).open;have hn74:=aqS.1;obtain ⟨LK,pb⟩:=gx ayK (i:=((j:Int)).toNat) (by omega);obtain ⟨pZ,rE⟩:=gx ((p).cD) (i:=((j:Int)).toNat) (by omega);obtain ⟨adC,rfl,adD⟩:=aqS.2 _ _ _ pb rE;refine aQ yN aqR (by omega) pb (λ _ wE=>bT adC C4 wE rfl rfl (λ _ Aq=>aD mX (Aq.ext hs.aF) ?_));have ayL:=DL.flat (adD);refine aA kS (aB sW hs.p7.hb rfl (aQ yN aqR (by omega) pb (λ _ ED=>bT (pZ).at_ Qo ED rfl rfl (λ _ Co=>aD bL (Co.ext hs.aF) (dF aip hs (C39 _ _ _ (ayL.ext hs.aF)) (λ x60 w36 cA hs=>?_))))))
      refine ⟨aG sW (hs.p1.hb.cell rfl),?_⟩;refine ⟨aG sW (hs.p8.hb.cell rfl),?_⟩;refine ⟨eO bL (Co.ext hs.aF),?_⟩;obtain ⟨BO,rfl⟩:=(hs).fU;refine pop (GS _ _ _ _) (have hs:=hs.freeze.dU (Ψ:=(λ w=>bZ.dr w (⟨BO,(pZ).at_⟩:lQ) (⟨(yd (pZ).e),(pZ).at_⟩:jG))) (λ w h=>⟨_,rfl,DL.fx h⟩);eQ (s:=(⟨BO,(pZ).at_⟩:lQ)) (x:=(⟨(yd (pZ).e),(pZ).at_⟩:jG)) hs yN (by decide) (λ s_x68 w37 hs=>?_));refine ⟨aG sW (hs.p1.hb.cell rfl),?_⟩;have hs:=hs.p2;refine ej hs yN (by rw [akh,List.length_singleton]; omega) (by decide) (λ s_x69 w38 hs=>aA kS ?_)
      obtain ⟨WK,rfl⟩:=(hs).lP;refine aV hs.p1 sW (eK rfl) (rfl) (λ WL hs=>have hs:=hs.enc (cs':=Flat.enc (⟨sl,Om,On,Oo,Oq,WK⟩:bN)) rfl;aO (by omega) ?_);have hs:=hs.p8.p8.p8.p8.p8.p8.p8.p8.p8;exact ⟨_,by omega,j+1,WK,rfl,rfl,by omega,by omega,by rw [← iW (k:=j) rE]; exact hs⟩
     ·refine aD gO hs.At (aI (x:=(⟨sl,Om,On,Oo,Oq,sc⟩:bN)) hs.p8 gO rfl rfl (λ w40 hs=>aD gO hs.At ?_));rw [rF (xs:=p.cD) (k:=j) (m:=6) (by omega) (by omega) (of_decide_eq_false vC)] at hs;have hs:=hs.p3.jO.p4.freeze.p1.fP.p4.freeze.p1.fP.p4.jO.p1.fP.p4.jO.p1.fP;have hs:=hs.p3.jO.p1.fP.dU (Ψ:=(λ w=>bZ.dr w (⟨sl,Om,On,Oo,Oq,sc⟩:bN) (⟨((p.lines.take 6).map jc),(jc p.jY),(jc p.locks),(kH p.threads),(kH p.recover),((p.cD.take 6).map EY)⟩:cY))) (λ w h=>⟨_,_,_,_,_,_,rfl,h.1.1.1.1.1,DL.fx h.1.1.1.1.2,DL.fx h.1.1.1.2,h.1.1.2,h.1.2,h.2⟩)
      have hs:=(((hs.p1.drop.p1).drop).p1).drop;exact ⟨_,rfl,hs.fresh⟩
def LU (n many:Int):Bool:=decide (0≤n) && decide (n<many)
def sG (k:Int):Bool:=decide (k=1) || decide (k=3) || decide (k=4) || decide (k=12) || decide (k=15)
def aM (x:aW) (aK counts:Int):Bool:=if x.kind=13∨x.kind=14 then LU x.a counts else if x.kind=1∨x.kind=2∨x.kind=4 then LU x.a aK else decide (x.a=0)
def bM (x:aW) (cells lines locks:Int):Bool:=if x.kind=2∨x.kind=3∨x.kind=4 then LU x.b cells else if x.kind=5∨x.kind=6 then LU x.b lines else if x.kind=9∨x.kind=10 then LU x.b locks else if x.kind=13 then decide (1≤x.b) && decide (x.b≤8) else decide (x.b=0)
def efM (x:aW) (aK:Int):Bool:=(if sG x.kind=true then eR x.e aK else !decide (0<(x.e.length:Int))) && (if x.kind=4 then eR x.f aK else !decide (0<(x.f.length:Int)))
def vh (x:aW) (c:fu) (cells lines locks:Int):Bool:=efM x c.aK && (decide (1≤x.kind) && decide (x.kind≤15) && aM x c.aK c.counts && bM x cells lines locks)
def sH (y:aW) (a:Int):Bool:=decide (y.kind=13) && decide (y.a=a)
def btM (l:List aW) (i:Nat) (x:aW):Bool:=decide (1≤x.to) && decide (x.to≤i) && (match l[(x.to - 1).toNat]? with | some y=>sH y x.a | none=>false)
theorem WM {l:List aW} {i:Nat} {x y:aW} (h1:1≤x.to) (h2:x.to≤i) (h:l[(x.to - 1).toNat]? = some y):btM l i x=sH y x.a:=by unfold btM; rw [h,decide_eq_true h1,decide_eq_true h2]; rfl
theorem LV {l:List aW} {i:Nat} {x:aW} (h:x.to<1∨(i:Int)<x.to):btM l i x=false:=by
 unfold btM
 rcases h with h | h
 ·rw [decide_eq_false (show ¬ 1≤x.to by omega)]; rfl
 ·rw [decide_eq_false (show ¬ x.to≤(i:Int) by omega)]; simp
theorem aqT {l:List aW} {i:Nat} {x:aW} (h:btM l i x=true):1≤x.to∧x.to≤i:=by
 by_cases h1:x.to<1∨(i:Int)<x.to
 ·rw [LV h1] at h; cases h
 ·omega
def Cp (l:List aW) (i:Nat) (x:aW):Bool:=btM l i x && !((l.take i).drop x.to.toNat).any (λ y=>sH y x.a)
def I8 (l:List aW) (i:Nat) (x:aW):Bool:=if x.kind=11∨x.kind=12 then decide ((i:Int)<x.to) && decide (x.to≤l.length) else if x.kind=14 then Cp l i x else decide (x.to=0)
def vi (c:fu) (cells lines locks:Int) (i:Nat):Bool:=match c.l[i]? with | some x=>!vh x c cells lines locks || !I8 c.l i x | none=>false
def vj (l:List aW) (x:aW) (k:Nat):Bool:=match l[k]? with | some y=>decide (y.kind=14) && !(decide (x.to≤y.to) || decide ((k:Int)+1<x.to)) | none=>false
def qJ (l:List aW) (i:Nat):Bool:=match l[i]? with | some x=>decide (x.kind=14) && (List.range i).any (vj l x) | none=>false
def vk (c:fu):Bool:=decide (c.aK<0) || decide (4<c.aK) || decide (c.counts<0) || decide (12<c.counts)
def ly (c:fu) (cells lines locks:Int):Bool:=!vk c && !(List.range c.l.length).any (vi c cells lines locks) && !(List.range c.l.length).any (qJ c.l)
def gw (u:im):Int:=if 1≤u.stays∧u.stays≤u.lines.length then u.lines.getD (u.stays - 1).toNat 0+1 else 0
def lz (l:List Int) (i:Nat):Int:=if i=0 then 0 else l.getD (i - 1) 0+1
def ko (u:im) (i:Nat):Bool:=match u.lines[i]? with | some n=>decide (¬ n=lz u.lines i) && (decide (i=0) || decide (u.stays≤i) || decide (¬ n=lz u.lines i - 1)) | none=>false
def lB (n:Int):Bool:=decide (n<0) || decide (4294967296<n)
def kX (u:im):Bool:=decide (20<(u.lines.length:Int)) || decide (u.stays<0) || decide ((u.lines.length:Int)<u.stays) || decide (¬ (u.dH.length:Int)=u.lines.length) || decide (u.locks<0) || decide (2<u.locks) || decide ((u.threads.length:Int)<1) || decide (3<(u.threads.length:Int))
def nz (u:im):Bool:=!kX u && (!u.dH.any lB && !(List.range u.lines.length).any (ko u) && !u.threads.any (λ c=>!ly c u.lines.length (gw u) u.locks) && !u.cD.any (λ l=>!eR l u.stays) && ly u.recover u.lines.length (gw u) u.locks)
structure CZ (c:fu):Prop where
 l:c.l.length≤1000
 ef:∀ x∈c.l,x.e.length≤1000∧x.f.length≤1000
structure UZ (u:im):Prop where
 lines:u.lines.length≤1000
 dH:u.dH.length≤1000
 threads:u.threads.length≤1000
 cD:u.cD.length≤1000
 th:∀ c∈u.threads,CZ c
 rc:CZ u.recover
 cl:∀ l∈u.cD,l.length≤1000
theorem ur {c:fu} {cells lines locks:Int} {i:Nat} {x:aW} (h:c.l[i]? = some x):vi c cells lines locks i=(!vh x c cells lines locks || !I8 c.l i x):=by unfold vi; rw [h]
theorem AA {l:List aW} {x y:aW} {k:Nat} (h:l[k]? = some y):vj l x k=(decide (y.kind=14) && !(decide (x.to≤y.to) || decide ((k:Int)+1<x.to))):=by unfold vj; rw [h]
theorem xE {l:List aW} {i:Nat} {x:aW} (h:l[i]? = some x):qJ l i=(decide (x.kind=14) && (List.range i).any (vj l x)):=by unfold qJ; rw [h]
theorem adF {l:List aW} {i:Nat} {x:aW} (h:Cp l i x=true):1≤x.to∧x.to≤i:=by unfold Cp at h; rw [Bool.and_eq_true] at h; exact aqT h.1
theorem WN {l:List aW} {i:Nat} {x:aW} (hk:x.kind=14) (h:I8 l i x=true):1≤x.to∧x.to≤i:=by
 unfold I8 at h; rw [if_neg (by omega),if_pos hk] at h; exact adF h
theorem WO {l:List aW} {i:Nat} {x:aW} (h:btM l i x=false):Cp l i x=false:=by unfold Cp; rw [h]; rfl
theorem Hg {f:Nat→Bool} {n:Nat} (h:(List.range n).any f=false):∀ j,j<n→f j=false:=λ j hj=>by
 rw [List.any_eq_false] at h
 have:=h j (List.mem_range.2 hj)
 simpa using this
theorem E6 {u:im} {k:Nat} (h:∀ j,j<k→ko u j=false):∀ j n,j<k→u.lines[j]? = some n→-1≤n∧n≤j
 | 0,n,hj,hn=>by
  have:=h 0 hj
  unfold ko lz at this
  rw [hn] at this
  simp at this
  omega
 | j+1,n,hj,hn=>by
  have mG:=(List.getElem?_eq_some_iff.1 hn).1
  obtain ⟨m,hm⟩:∃ m,u.lines[j]? = some m:=⟨_,List.getElem?_eq_getElem (by omega)⟩
  have ih:=E6 h j m (by omega) hm
  have:=h (j+1) hj
  unfold ko lz at this
  rw [hn] at this
  simp only [Nat.add_one_ne_zero,if_false,Nat.add_sub_cancel,List.getD_eq_getElem?_getD,hm,Option.getD_some,decide_false,Bool.false_or,Bool.and_eq_false_iff,decide_eq_false_iff_not,Bool.or_eq_false_iff,Decidable.not_not] at this
  omega
theorem Hh {u:im} {k:Nat} {n:Int} (h:u.lines[k]? = some n):ko u k=(decide (¬ n=lz u.lines k) && (decide ((k:Int)=0) || decide (u.stays≤k) || decide (¬ n=lz u.lines k - 1))):=by
 unfold ko; rw [h]; simp only []
 congr 2
 congr 1
 exact decide_eq_decide.2 (by omega)
theorem LW {u:im} (h:∀ j,j<u.lines.length→ko u j=false):∀ n∈u.lines,-1≤n∧n≤(u.lines.length:Int):=by
 intro n hn
 obtain ⟨j,hj,he⟩:=List.mem_iff_getElem.1 hn
 have:=E6 h j n hj (by rw [List.getElem?_eq_getElem hj,he])
 omega
theorem Ot {u:im} (h:kX u=false):u.lines.length≤20∧0≤u.stays∧u.stays≤u.lines.length∧u.dH.length=u.lines.length∧0≤u.locks∧u.locks≤2∧1≤u.threads.length∧u.threads.length≤3:=by
 unfold kX at h
 simp only [Bool.or_eq_false_iff,decide_eq_false_iff_not] at h
 omega
def akl:List ByteArray:=[⟨#[]⟩,⟨#[114,101]⟩,⟨#[114,99]⟩,⟨#[99,101]⟩,⟨#[114,99,101,102]⟩,⟨#[108]⟩,⟨#[108]⟩,⟨#[]⟩,⟨#[]⟩,⟨#[109]⟩,⟨#[109]⟩,⟨#[116]⟩,⟨#[101,116]⟩,⟨#[107,110]⟩,⟨#[107,116]⟩,⟨#[101]⟩]
def akm:Array Value:=#[.string ⟨#[]⟩,.string ⟨#[114,101]⟩,.string ⟨#[114,99]⟩,.string ⟨#[99,101]⟩,.string ⟨#[114,99,101,102]⟩,.string ⟨#[108]⟩,.string ⟨#[108]⟩,.string ⟨#[]⟩,.string ⟨#[]⟩,.string ⟨#[109]⟩,.string ⟨#[109]⟩,.string ⟨#[116]⟩,.string ⟨#[101,116]⟩,.string ⟨#[107,110]⟩,.string ⟨#[107,116]⟩,.string ⟨#[101]⟩]
def hasB (k c:Int):Bool:=ew (akl.getD k.toNat ⟨#[]⟩) c
theorem oz {k:Int} (h:1≤k∧k≤15):hasB k 114=decide (k=1∨k=2∨k=4)∧hasB k 107=decide (k=13∨k=14)∧hasB k 99=decide (k=2∨k=3∨k=4)∧hasB k 108=decide (k=5∨k=6)∧hasB k 109=decide (k=9∨k=10)∧hasB k 110=decide (k=13)∧hasB k 101=sG k∧hasB k 102=decide (k=4)∧hasB k 116=decide (k=11∨k=12∨k=14):=by
 obtain rfl | rfl | rfl | rfl | rfl | rfl | rfl | rfl | rfl | rfl | rfl | rfl | rfl | rfl | rfl:k=1∨k=2∨k=3∨k=4∨k=5∨k=6∨k=7∨k=8∨k=9∨k=10∨k=11∨k=12∨k=13∨k=14∨k=15:=by omega
 all_goals decide
def k14 (l:List aW) (i:Nat):Bool:=match l[i]? with | some x=>decide (x.kind=14) | none=>false
def oA (l:List aW) (k:Nat):List Int:=((List.range k).filter (k14 l)).map (fun (n:Nat)=>(n:Int))
theorem Hi (l:List aW) (k:Nat):(oA l k).length≤k:=by
 unfold oA
 rw [List.length_map]
 have:=List.length_filter_le (k14 l) (List.range k)
 rw [List.length_range] at this; exact this
theorem WQ {l:List aW} {k:Nat} {x:aW} (h:l[k]? = some x) (hk:¬ x.kind=14):oA l k=oA l (k+1):=by
 have:k14 l k=false:=by unfold k14; rw [h]; exact decide_eq_false hk
 unfold oA; rw [List.range_succ,List.filter_append,List.filter_cons_of_neg (by rw [this]; decide),List.filter_nil,List.append_nil]
theorem SE {l:List aW} {k:Nat} {x:aW} (h:l[k]? = some x) (hk:x.kind=14):oA l k++[(k:Int)]=oA l (k+1):=by
 have:k14 l k=true:=by unfold k14; rw [h]; exact decide_eq_true hk
 unfold oA; rw [List.range_succ,List.filter_append,List.filter_cons_of_pos this,List.filter_nil,List.map_append]; rfl
theorem SF {l:List aW} {k:Nat} {e:Int} (h:e∈oA l k):∃ j:Nat,e=j∧j<k∧∃ y,l[j]? = some y∧y.kind=14:=by
 unfold oA at h
 obtain ⟨j,hj,rfl⟩:=List.mem_map.1 h
 obtain ⟨h1,h2⟩:=List.mem_filter.1 hj
 refine ⟨j,rfl,List.mem_range.1 h1,?_⟩
 unfold k14 at h2
 cases hy:l[j]? with
 | none=>rw [hy] at h2; cases h2
 | some y=>rw [hy] at h2; exact ⟨y,rfl,of_decide_eq_true h2⟩
theorem WR {l:List aW} {k:Nat} {x:aW} (h:∀ e∈oA l k,vj l x e.toNat=false):(List.range k).any (vj l x)=false:=by
 refine ng λ j hj=>?_
 cases hy:l[j]? with
 | none=>unfold vj; rw [hy]
 | some y=>
  by_cases hk:y.kind=14
  ·exact h (j:Int) (List.mem_map.2 ⟨j,List.mem_filter.2 ⟨List.mem_range.2 hj,by unfold k14; rw [hy]; exact decide_eq_true hk⟩,rfl⟩)
  ·rw [AA hy,decide_eq_false hk]; rfl
def agr (l:List aW):Prop:=∀ (i:Nat) (x:aW),l[i]? = some x→x.kind=14→1≤x.to∧x.to≤i
theorem List.fy {α:Type} {l l':List α} {f g:α→Bool} (h:l=l') (h2:∀ x,f x=g x):l.any f=l'.any g:=by subst h; rw [funext h2]
theorem C178 (w:World):CR 178 [] w (λ v w'=>v = .agg akm∧Ext w w'):=by
 have hs:=St.start w;refine aaF _ _ ?_;unfold S178;refine aN hs ab9 (λ awL w1 hs=>pop (ma _ _ _ _ _ _ _ _ _ _ _ _ _) (pF hs afO rfl (by decide) (by simp [rW,ib]) (λ w2 hs=>qX afO hs.hb rfl ?_)));exact ⟨rfl,hs.drop.aF⟩
theorem C179 (p:Bool) (n many:Int) (w:World):CR 179 [.bool p,.int .i64 n,.int .i64 many] w (λ v w'=>v = .bool (if p=true then LU n many else decide (n=0))∧Ext w w'):=by
 have hs:=St.start w;refine aaG _ _ _ _ _ ?_;unfold S179;refine cC (aX (λ gu=>?_) (λ gu=>?_))
 ·refine aH ?_;refine ⟨vb ?_,hs.aF⟩
  grind
 ·refine ⟨λ jv w'=>jv = .bool (LU n many)∧St w bD [] w',?_,?_⟩
  ·refine dK (aC (λ j8=>?_) (λ j8=>?_))
   ·refine aR ?_;exact ⟨vb (by unfold LU; grind),hs⟩
   ·exact ⟨vb (by unfold LU; grind),hs⟩
  ·rintro _ w1 ⟨rfl,hs⟩ fD;refine ⟨vb ?_,hs.aF⟩
   grind
theorem C220 (sv:Value) (xs:List UInt8) (c:Int) (w:World) (hL:eP (λ _=>True) w sv xs) (hn:xs.length≤1048576):CR 220 [sv,.int .u8 c] w (λ v w'=>v = .int .i64 (uZ (λ y=>decide (c=(y.toNat:Int))) xs)∧Ext w w'):=by
 have hs:=St.start w;refine abe _ _ _ _ ?_;unfold S220;refine aJ afN (hL.ext hs.aF) ?_;refine ⟨λ m x w1=>∃ k:Nat,x = .int .i64 (k:Int)∧m=xs.length - k∧k≤xs.length∧(∀ y∈xs.take k,decide (c=(y.toNat:Int))=false)∧St w bD [] w1,⟨_,0,rfl,rfl,Nat.zero_le _,by simp,hs⟩,?_⟩;rintro m _ w1 ⟨k,rfl,rfl,hk,fV,hs⟩ fD;refine aR (aC (λ gA=>?_) (λ gA=>?_))
 ·obtain ⟨js,dI⟩:=gx (xs) (i:=((k:Int)).toNat) (by omega);refine aQ afN hL (by omega) dI (λ _ iU=>aD ty5 (iU.ext hs.aF) (od (aC (λ eE=>?_) (λ eE=>?_))))
  ·exact ⟨congrArg (Value.int .i64) (pB fV dI (decide_eq_true eE)).symm,hs.aF⟩
  ·refine aO (by omega) ?_;exact ⟨_,by omega,k+1,rfl,rfl,by omega,eH fV dI (decide_eq_false eE),hs⟩
 ·exact ⟨congrArg (Value.int .i64) (kC (by rw [List.take_of_length_le (by omega)] at fV; exact fV)).symm,hs.aF⟩
theorem C177 (sv:Value) (xs:List UInt8) (c:Int) (w:World) (hL:eP (λ _=>True) w sv xs) (hn:xs.length≤1048576):CR 177 [sv,.int .u8 c] w (λ v w'=>v = .bool (xs.any (λ y=>decide (c=(y.toNat:Int))))∧Ext w w'):=by
 have hs:=St.start w;refine aaE _ _ _ _ ?_;unfold S177;refine aZ aoi hs (C220 _ _ _ _ (hL.ext hs.aF) (by omega)) (λ w1 he hs=>dK ?_);exact ⟨vb (og _ _),hs.aF⟩
theorem C176 (k c:Int) (b1:Nat) (Q:Bool) (w:World) (hc:Cell w b1 0 (.int .i64 k)) (hk:1≤k∧k≤15) (hQ:hasB k c=Q):CR 176 [.int .u8 c,.pointer (some ⟨b1,0,none⟩)] w (λ v w'=>v = .bool Q∧Ext w w'):=by
 have hs:=St.start w;refine aaD _ _ _ _ ?_;unfold S176;refine aA jn (have hs:=hs.drew;cE bL (hc.ext hs.aF) (aZ anW hs (C178 _) (λ w1 he hs=>?_)));refine ⟨aG bL (hc.ext hs.aF),?_⟩;obtain rfl | rfl | rfl | rfl | rfl | rfl | rfl | rfl | rfl | rfl | rfl | rfl | rfl | rfl | rfl:k=1∨k=2∨k=3∨k=4∨k=5∨k=6∨k=7∨k=8∨k=9∨k=10∨k=11∨k=12∨k=13∨k=14∨k=15:=by omega
 ·refine pop (v:=.string ⟨#[114,101]⟩) (by kernel_rfl) (ic hs gN Tryz.underlying252 xU (λ ye w2 hs=>aZ qT hs (C177 _ _ _ _ (hs).eL (by rw [ei]; decide)) (λ w3 he hs=>?_)));have hs:=(hs).drop;refine ⟨vb ?_,hs.aF⟩;rw [← hQ];unfold hasB ew;exact List.fy rfl (λ y=>decide_eq_decide.2 eq_comm)
 ·refine pop (v:=.string ⟨#[114,99]⟩) (by kernel_rfl) (ic hs gN Tryz.underlying252 xU (λ ye w2 hs=>aZ qT hs (C177 _ _ _ _ (hs).eL (by rw [ei]; decide)) (λ w3 he hs=>?_)));have hs:=(hs).drop;refine ⟨vb ?_,hs.aF⟩;rw [← hQ];unfold hasB ew;exact List.fy rfl (λ y=>decide_eq_decide.2 eq_comm)
 ·refine pop (v:=.string ⟨#[99,101]⟩) (by kernel_rfl) (ic hs gN Tryz.underlying252 xU (λ ye w2 hs=>aZ qT hs (C177 _ _ _ _ (hs).eL (by rw [ei]; decide)) (λ w3 he hs=>?_)));have hs:=(hs).drop;refine ⟨vb ?_,hs.aF⟩;rw [← hQ];unfold hasB ew;exact List.fy rfl (λ y=>decide_eq_decide.2 eq_comm)
 ·refine pop (v:=.string ⟨#[114,99,101,102]⟩) (by kernel_rfl) (ic hs gN Tryz.underlying252 xU (λ ye w2 hs=>aZ qT hs (C177 _ _ _ _ (hs).eL (by rw [ei]; decide)) (λ w3 he hs=>?_)));have hs:=(hs).drop;refine ⟨vb ?_,hs.aF⟩;rw [← hQ];unfold hasB ew;exact List.fy rfl (λ y=>decide_eq_decide.2 eq_comm)
 ·refine pop (v:=.string ⟨#[108]⟩) (by kernel_rfl) (ic hs gN Tryz.underlying252 xU (λ ye w2 hs=>aZ qT hs (C177 _ _ _ _ (hs).eL (by rw [ei]; decide)) (λ w3 he hs=>?_)));have hs:=(hs).drop;refine ⟨vb ?_,hs.aF⟩;rw [← hQ];unfold hasB ew;exact List.fy rfl (λ y=>decide_eq_decide.2 eq_comm)
 ·refine pop (v:=.string ⟨#[108]⟩) (by kernel_rfl) (ic hs gN Tryz.underlying252 xU (λ ye w2 hs=>aZ qT hs (C177 _ _ _ _ (hs).eL (by rw [ei]; decide)) (λ w3 he hs=>?_)));have hs:=(hs).drop;refine ⟨vb ?_,hs.aF⟩;rw [← hQ];unfold hasB ew;exact List.fy rfl (λ y=>decide_eq_decide.2 eq_comm)
 ·refine pop (v:=.string ⟨#[]⟩) (by kernel_rfl) (ic hs gN Tryz.underlying252 xU (λ ye w2 hs=>aZ qT hs (C177 _ _ _ _ (hs).eL (by rw [ei]; decide)) (λ w3 he hs=>?_)));have hs:=(hs).drop;refine ⟨vb ?_,hs.aF⟩;rw [← hQ];unfold hasB ew;exact List.fy rfl (λ y=>decide_eq_decide.2 eq_comm)
 ·refine pop (v:=.string ⟨#[]⟩) (by kernel_rfl) (ic hs gN Tryz.underlying252 xU (λ ye w2 hs=>aZ qT hs (C177 _ _ _ _ (hs).eL (by rw [ei]; decide)) (λ w3 he hs=>?_)));have hs:=(hs).drop;refine ⟨vb ?_,hs.aF⟩;rw [← hQ];unfold hasB ew;exact List.fy rfl (λ y=>decide_eq_decide.2 eq_comm)
 ·refine pop (v:=.string ⟨#[109]⟩) (by kernel_rfl) (ic hs gN Tryz.underlying252 xU (λ ye w2 hs=>aZ qT hs (C177 _ _ _ _ (hs).eL (by rw [ei]; decide)) (λ w3 he hs=>?_)));have hs:=(hs).drop;refine ⟨vb ?_,hs.aF⟩;rw [← hQ];unfold hasB ew;exact List.fy rfl (λ y=>decide_eq_decide.2 eq_comm)
 ·refine pop (v:=.string ⟨#[109]⟩) (by kernel_rfl) (ic hs gN Tryz.underlying252 xU (λ ye w2 hs=>aZ qT hs (C177 _ _ _ _ (hs).eL (by rw [ei]; decide)) (λ w3 he hs=>?_)));have hs:=(hs).drop;refine ⟨vb ?_,hs.aF⟩;rw [← hQ];unfold hasB ew;exact List.fy rfl (λ y=>decide_eq_decide.2 eq_comm)
 ·refine pop (v:=.string ⟨#[116]⟩) (by kernel_rfl) (ic hs gN Tryz.underlying252 xU (λ ye w2 hs=>aZ qT hs (C177 _ _ _ _ (hs).eL (by rw [ei]; decide)) (λ w3 he hs=>?_)));have hs:=(hs).drop;refine ⟨vb ?_,hs.aF⟩;rw [← hQ];unfold hasB ew;exact List.fy rfl (λ y=>decide_eq_decide.2 eq_comm)
 ·refine pop (v:=.string ⟨#[101,116]⟩) (by kernel_rfl) (ic hs gN Tryz.underlying252 xU (λ ye w2 hs=>aZ qT hs (C177 _ _ _ _ (hs).eL (by rw [ei]; decide)) (λ w3 he hs=>?_)));have hs:=(hs).drop;refine ⟨vb ?_,hs.aF⟩;rw [← hQ];unfold hasB ew;exact List.fy rfl (λ y=>decide_eq_decide.2 eq_comm)
 ·refine pop (v:=.string ⟨#[107,110]⟩) (by kernel_rfl) (ic hs gN Tryz.underlying252 xU (λ ye w2 hs=>aZ qT hs (C177 _ _ _ _ (hs).eL (by rw [ei]; decide)) (λ w3 he hs=>?_)));have hs:=(hs).drop;refine ⟨vb ?_,hs.aF⟩;rw [← hQ];unfold hasB ew;exact List.fy rfl (λ y=>decide_eq_decide.2 eq_comm)
 ·refine pop (v:=.string ⟨#[107,116]⟩) (by kernel_rfl) (ic hs gN Tryz.underlying252 xU (λ ye w2 hs=>aZ qT hs (C177 _ _ _ _ (hs).eL (by rw [ei]; decide)) (λ w3 he hs=>?_)));have hs:=(hs).drop;refine ⟨vb ?_,hs.aF⟩;rw [← hQ];unfold hasB ew;exact List.fy rfl (λ y=>decide_eq_decide.2 eq_comm)
 ·refine pop (v:=.string ⟨#[101]⟩) (by kernel_rfl) (ic hs gN Tryz.underlying252 xU (λ ye w2 hs=>aZ qT hs (C177 _ _ _ _ (hs).eL (by rw [ei]; decide)) (λ w3 he hs=>?_)));have hs:=(hs).drop;refine ⟨vb ?_,hs.aF⟩;rw [← hQ];unfold hasB ew;exact List.fy rfl (λ y=>decide_eq_decide.2 eq_comm)
theorem C185 (sv fv:Value) (xs:List Int) (g:Int→Bool) (w:World) (hL:eP (λ _=>True) w sv xs) (hf:CI w fv g) (hn:xs.length≤1073741824):CR 185 [sv,fv] w (λ v w'=>v = .int .i64 (uZ g xs)∧Ext w w'):=by
 obtain ⟨g0,first,cap,rfl,vv,l4⟩:=hf;have hs:=St.start w;refine aaM _ _ _ _ ?_;unfold S185;refine aJ eh (hL.ext hs.aF) ?_;refine ⟨λ m x w1=>∃ k:Nat,x = .int .i64 (k:Int)∧m=xs.length - k∧k≤xs.length∧(∀ y∈xs.take k,g y=false)∧St w bD [] w1,⟨_,0,rfl,rfl,Nat.zero_le _,by simp,hs⟩,?_⟩;rintro m _ w1 ⟨k,rfl,rfl,hk,fV,hs⟩ fD;refine aR (aC (λ gA=>?_) (λ gA=>?_))
 ·obtain ⟨js,dI⟩:=gx (xs) (i:=((k:Int)).toNat) (by omega);refine aQ eh hL (by omega) dI (λ _ iU=>aD bL (iU.ext hs.aF) (gh vv (l4 js w1 hs.aF) ?_));rintro _ w2 ⟨rfl,he⟩;have hs:=hs.ext he;refine aX (λ eE=>?_) (λ eE=>?_)
  ·exact ⟨congrArg (Value.int .i64) (pB fV dI eE).symm,hs.aF⟩
  ·refine aO (by omega) ?_;exact ⟨_,by omega,k+1,rfl,rfl,by omega,eH fV dI eE,hs⟩
 ·exact ⟨congrArg (Value.int .i64) (kC (by rw [List.take_of_length_le (by omega)] at fV; exact fV)).symm,hs.aF⟩
theorem C186 (sv fv:Value) (xs:List fu) (φ:fu→Prop) (g:fu→Bool) (w:World) (hL:DL w sv xs) (hf:oe PG w fv φ g) (hφ:∀ x∈xs,φ x) (hn:xs.length≤1073741824):CR 186 [sv,fv] w (λ v w'=>v = .int .i64 (uZ g xs)∧Ext w w'):=by
 obtain ⟨g0,first,cap,rfl,vv,l4⟩:=hf;have hs:=St.start w;refine aaN _ _ _ _ ?_;unfold S186;obtain ⟨ayO,aqU,aqV⟩:=(hL).open;have hn98:=aqV.1;refine aJ Bs (aqU.ext hs.aF) ?_;refine ⟨λ m x w1=>∃ k:Nat,x = .int .i64 (k:Int)∧m=xs.length - k∧k≤xs.length∧(∀ y∈xs.take k,g y=false)∧St w bD [] w1,⟨_,0,rfl,rfl,Nat.zero_le _,by simp,hs⟩,?_⟩;rintro m _ w1 ⟨k,rfl,rfl,hk,fV,hs⟩ fD;refine aR (aC (λ gA=>?_) (λ gA=>?_))
 ·obtain ⟨js,dI⟩:=gx ayO (i:=((k:Int)).toNat) (by omega);obtain ⟨Cq,j0⟩:=gx (xs) (i:=((k:Int)).toNat) (by omega);obtain ⟨adG,rfl,adH⟩:=aqV.2 _ _ _ dI j0;refine aQ Bs aqU (by omega) dI (λ _ iU=>aD qg (iU.ext hs.aF) (gh vv (l4 _ Cq w1 hs.aF ⟨adG,rfl,(adH.ext hs.aF)⟩ (hφ _ (List.mem_of_getElem? j0))) ?_));rintro _ w2 ⟨rfl,he⟩;have hs:=hs.ext he;refine aX (λ eE=>?_) (λ eE=>?_)
  ·exact ⟨congrArg (Value.int .i64) (pB fV j0 eE).symm,hs.aF⟩
  ·refine aO (by omega) ?_;exact ⟨_,by omega,k+1,rfl,rfl,by omega,eH fV j0 eE,hs⟩
 ·exact ⟨congrArg (Value.int .i64) (kC (by rw [List.take_of_length_le (by omega)] at fV; exact fV)).symm,hs.aF⟩
theorem C187 (sv fv:Value) (xs:List (List nw)) (φ:(List nw)→Prop) (g:(List nw)→Bool) (w:World) (hL:DL w sv xs) (hf:oe PG w fv φ g) (hφ:∀ x∈xs,φ x) (hn:xs.length≤1073741824):CR 187 [sv,fv] w (λ v w'=>v = .int .i64 (uZ g xs)∧Ext w w'):=by
 obtain ⟨g0,first,cap,rfl,vv,l4⟩:=hf;have hs:=St.start w;refine aaO _ _ _ _ ?_;unfold S187;obtain ⟨yc,aqW,Ge⟩:=(hL).open;have apZ:=Ge.1;refine aJ F5 (aqW.ext hs.aF) ?_;refine ⟨λ m x w1=>∃ k:Nat,x = .int .i64 (k:Int)∧m=xs.length - k∧k≤xs.length∧(∀ y∈xs.take k,g y=false)∧St w bD [] w1,⟨_,0,rfl,rfl,Nat.zero_le _,by simp,hs⟩,?_⟩;rintro m _ w1 ⟨k,rfl,rfl,hk,fV,hs⟩ fD;refine aR (aC (λ gA=>?_) (λ gA=>?_))
 ·obtain ⟨js,dI⟩:=gx yc (i:=((k:Int)).toNat) (by omega);obtain ⟨Cq,j0⟩:=gx (xs) (i:=((k:Int)).toNat) (by omega);have ags:DL w (Flat.val js) Cq:=Ge.2 _ _ _ dI j0;refine aQ F5 aqW (by omega) dI (λ _ iU=>aD xW (iU.ext hs.aF) ?_);have hf100:=DL.flat (ags);refine gh vv (l4 _ Cq w1 hs.aF (ags.ext hs.aF) (hφ _ (List.mem_of_getElem? j0))) ?_;rintro _ w2 ⟨rfl,he⟩;have hs:=hs.ext he;refine aX (λ eE=>?_) (λ eE=>?_)
  ·exact ⟨congrArg (Value.int .i64) (pB fV j0 eE).symm,hs.aF⟩
  ·refine aO (by omega) ?_;exact ⟨_,by omega,k+1,rfl,rfl,by omega,eH fV j0 eE,hs⟩
 ·exact ⟨congrArg (Value.int .i64) (kC (by rw [List.take_of_length_le (by omega)] at fV; exact fV)).symm,hs.aF⟩
theorem C249 (sv fv:Value) (xs:List aW) (φ:aW→Prop) (g:aW→Bool) (w:World) (hL:DL w sv xs) (hf:oe PG w fv φ g) (hφ:∀ x∈xs,φ x) (hn:xs.length≤1073741824):CR 249 [sv,fv] w (λ v w'=>v = .int .i64 (uZ g xs)∧Ext w w'):=by
 obtain ⟨g0,first,cap,rfl,vv,l4⟩:=hf;have hs:=St.start w;refine abH _ _ _ _ ?_;unfold S249;obtain ⟨aqX,agt,agu⟩:=(hL).open;have hn101:=agu.1;refine aJ kT (agt.ext hs.aF) ?_;refine ⟨λ m x w1=>∃ k:Nat,x = .int .i64 (k:Int)∧m=xs.length - k∧k≤xs.length∧(∀ y∈xs.take k,g y=false)∧St w bD [] w1,⟨_,0,rfl,rfl,Nat.zero_le _,by simp,hs⟩,?_⟩;rintro m _ w1 ⟨k,rfl,rfl,hk,fV,hs⟩ fD;refine aR (aC (λ gA=>?_) (λ gA=>?_))
 ·obtain ⟨js,dI⟩:=gx aqX (i:=((k:Int)).toNat) (by omega);obtain ⟨Cq,j0⟩:=gx (xs) (i:=((k:Int)).toNat) (by omega);obtain ⟨adI,adJ,rfl,adK,adL⟩:=agu.2 _ _ _ dI j0;refine aQ kT agt (by omega) dI (λ _ iU=>aD lM (iU.ext hs.aF) (gh vv (l4 _ Cq w1 hs.aF ⟨adI,adJ,rfl,(adK.ext hs.aF),(adL.ext hs.aF)⟩ (hφ _ (List.mem_of_getElem? j0))) ?_));rintro _ w2 ⟨rfl,he⟩;have hs:=hs.ext he;refine aX (λ eE=>?_) (λ eE=>?_)
  ·exact ⟨congrArg (Value.int .i64) (pB fV j0 eE).symm,hs.aF⟩
  ·refine aO (by omega) ?_;exact ⟨_,by omega,k+1,rfl,rfl,by omega,eH fV j0 eE,hs⟩
 ·exact ⟨congrArg (Value.int .i64) (kC (by rw [List.take_of_length_le (by omega)] at fV; exact fV)).symm,hs.aF⟩
theorem C117 (sv fv:Value) (xs:List Int) (g:Int→Bool) (w:World) (hL:eP (λ _=>True) w sv xs) (hf:CI w fv g) (hn:xs.length≤1073741824):CR 117 [sv,fv] w (λ v w'=>v = .bool (xs.any g)∧Ext w w'):=by
 have hs:=St.start w;refine ZU _ _ _ _ ?_;unfold S117;refine aZ an2 hs (C185 _ _ _ _ _ (hL.ext hs.aF) (hf.ext hs.aF) (by omega)) (λ w1 he hs=>dK ?_);exact ⟨vb (og _ _),hs.aF⟩
theorem C118 (sv fv:Value) (xs:List fu) (φ:fu→Prop) (g:fu→Bool) (w:World) (hL:DL w sv xs) (hf:oe PG w fv φ g) (hφ:∀ x∈xs,φ x) (hn:xs.length≤1073741824):CR 118 [sv,fv] w (λ v w'=>v = .bool (xs.any g)∧Ext w w'):=by
 have hs:=St.start w;refine ZV _ _ _ _ ?_;unfold S118;refine aZ an3 hs (C186 _ _ _ _ _ _ (hL.ext hs.aF) (hf.ext hs.aF) hφ (by omega)) (λ w1 he hs=>dK ?_);exact ⟨vb (og _ _),hs.aF⟩
theorem C119 (sv fv:Value) (xs:List (List nw)) (φ:(List nw)→Prop) (g:(List nw)→Bool) (w:World) (hL:DL w sv xs) (hf:oe PG w fv φ g) (hφ:∀ x∈xs,φ x) (hn:xs.length≤1073741824):CR 119 [sv,fv] w (λ v w'=>v = .bool (xs.any g)∧Ext w w'):=by
 have hs:=St.start w;refine ZW _ _ _ _ ?_;unfold S119;refine aZ an4 hs (C187 _ _ _ _ _ _ (hL.ext hs.aF) (hf.ext hs.aF) hφ (by omega)) (λ w1 he hs=>dK ?_);exact ⟨vb (og _ _),hs.aF⟩
theorem C221 (sv fv:Value) (xs:List aW) (φ:aW→Prop) (g:aW→Bool) (w:World) (hL:DL w sv xs) (hf:oe PG w fv φ g) (hφ:∀ x∈xs,φ x) (hn:xs.length≤1073741824):CR 221 [sv,fv] w (λ v w'=>v = .bool (xs.any g)∧Ext w w'):=by
 have hs:=St.start w;refine abf _ _ _ _ ?_;unfold S221;refine aZ aoC hs (C249 _ _ _ _ _ _ (hL.ext hs.aF) (hf.ext hs.aF) hφ (by omega)) (λ w1 he hs=>dK ?_);exact ⟨vb (og _ _),hs.aF⟩
theorem uu {x:aW} {c:fu} {cells lines locks:Int} (h:1≤x.kind∧x.kind≤15):vh x c cells lines locks=(aM x c.aK c.counts && bM x cells lines locks && (if sG x.kind=true then eR x.e c.aK else !decide (0<(x.e.length:Int))) && (if x.kind=4 then eR x.f c.aK else !decide (0<(x.f.length:Int)))):=by
 unfold vh efM
 rw [decide_eq_true h.1,decide_eq_true h.2]
 cases aM x c.aK c.counts <;> cases bM x cells lines locks <;> simp
theorem WT {x:aW} {c:fu} {cells lines locks:Int} (h:¬ (1≤x.kind∧x.kind≤15)):vh x c cells lines locks=false:=by
 unfold vh
 by_cases h1:1≤x.kind
 ·rw [decide_eq_false (show ¬ x.kind≤15 by omega)]; simp
 ·rw [decide_eq_false h1]; simp
theorem C222 (y:aW) (yv:bU) (b1:Nat) (a:Int) (w:World) (hy:bZ.dr w yv y) (hc:Cell w b1 1 (.int .i64 a)):CR 222 [Flat.val yv,.pointer (some ⟨b1,0,none⟩)] w (λ v w'=>v = .bool (sH y a)∧Ext w w'):=by
 obtain ⟨aqY,aqZ,rfl,d_e_y,d_f_y⟩:=hy;have hs:=St.start w;refine abg _ _ _ _ ?_;unfold S222;refine dJ hs (λ ayP w1 hs=>?_);refine ⟨λ jv w'=>jv = .bool (sH y a)∧St w bD [cH ayP (Flat.enc (⟨(y).kind,(y).a,(y).b,aqY,aqZ,(y).to⟩:bU))] w',?_,?_⟩
 ·refine aA jn (aB (v:=.int .i64 ((y).kind)) bL hs.hb rfl (aH (aC (λ oJ=>?_) (λ oJ=>?_))))
  ·refine aA ku (aB (v:=.int .i64 ((y).a)) bL hs.hb rfl (aA ku (cE bL (hc.ext hs.aF) (aH ?_))));exact ⟨vb (by unfold sH; grind),hs⟩
  ·exact ⟨vb (by unfold sH; grind),hs⟩
 ·rintro _ w2 ⟨rfl,hs⟩ fD;exact ⟨rfl,hs.drop.aF⟩
theorem C180 (lv:Value) (xs:List aW) (i:Nat) (x:aW) (w:World) (hL:DL w lv xs) (hn:xs.length≤1048576) (hx:xs[i]? = some x):CR 180 [lv,.int .i64 (i:Int)] w (λ v w'=>v = .bool (Cp xs i x)∧Ext w w'):=by
 have hi:=(List.getElem?_eq_some_iff.1 hx).1;have hs:=St.start w;refine aaH _ _ _ _ ?_;unfold S180;obtain ⟨agv,LX,QY⟩:=(hL).open;have hn102:=QY.1;obtain ⟨e_x8,agw⟩:=gx agv (i:=((i:Int)).toNat) (by omega);obtain ⟨tg,agx⟩:=gx (xs) (i:=((i:Int)).toNat) (by omega);obtain ⟨WU,WV,rfl,ayQ,ayR⟩:=QY.2 _ _ _ agw agx;refine aQ kT LX (by omega) agw (λ _ ayS=>?_);obtain rfl:tg=x:=Option.some.inj (agx.symm.trans hx);refine aD lM (ayS.ext hs.aF) (aN hs mF (λ um w1 hs=>have hs:=hs.enc (cs':=Flat.enc (⟨0,0,0,⟨none,0,0⟩,⟨none,0,0⟩,0⟩:bU)) rfl;aI (x:=(⟨(tg).kind,(tg).a,(tg).b,WU,WV,(tg).to⟩:bU)) hs lM rfl rfl (λ w2 hs=>?_)))
 refine ⟨λ jv w'=>jv = .bool (!btM xs i tg)∧St w bD [cH um (Flat.enc (⟨(tg).kind,(tg).a,(tg).b,WU,WV,(tg).to⟩:bU))] w',?_,?_⟩
 ·refine aA kx (have hs:=hs.drew;aB (v:=.int .i64 ((tg).to)) bL hs.hb rfl (aR (aC (λ j8=>?_) (λ j8=>?_))))
  ·exact ⟨vb (by first | (rw [LV (by omega)]; rfl) | (rw [WM (by omega) (by omega) wL]; unfold sH; first | grind | simp_all)),hs⟩
  ·refine aA kx (aB (v:=.int .i64 ((tg).to)) bL hs.hb rfl (dB (aC (λ mg=>?_) (λ mg=>?_))))
   ·exact ⟨vb (by first | (rw [LV (by omega)]; rfl) | (rw [WM (by omega) (by omega) wL]; unfold sH; first | grind | simp_all)),hs⟩
   ·refine aA kx (aB (v:=.int .i64 ((tg).to)) bL hs.hb rfl (gD (by omega) ?_));obtain ⟨gY,iB⟩:=gx agv (i:=(((tg).to - 1)).toNat) (by omega);obtain ⟨Cr,wL⟩:=gx (xs) (i:=(((tg).to - 1)).toNat) (by omega);obtain ⟨atS,atT,rfl,atU,atV⟩:=QY.2 _ _ _ iB wL;refine aQ kT LX (by omega) iB (λ _ wq=>bT (Cr).kind jn wq rfl rfl (λ _ uq=>aD bL (uq.ext hs.aF) (cR (aC (λ gn=>?_) (λ gn=>?_)))))
    ·exact ⟨vb (by first | (rw [LV (by omega)]; rfl) | (rw [WM (by omega) (by omega) wL]; unfold sH; first | grind | simp_all)),hs⟩
    ·refine aA kx (aB (v:=.int .i64 ((tg).to)) bL hs.hb rfl (gD (by omega) (aQ kT LX (by omega) iB (λ _ rG=>bT (Cr).a ku rG rfl rfl (λ _ Ac=>aD bL (Ac.ext hs.aF) (aA ku (aB (v:=.int .i64 ((tg).a)) bL hs.hb rfl (cR ?_))))))));exact ⟨vb (by first | (rw [LV (by omega)]; rfl) | (rw [WM (by omega) (by omega) wL]; unfold sH; first | grind | simp_all)),hs⟩
 ·rintro _ w3 ⟨rfl,hs⟩ fD;refine aX (λ qA=>?_) (λ qA=>?_)
  ·refine ⟨vb ?_,hs.drop.aF⟩;exact (WO (by simpa using qA)).symm
  ·have N8:btM xs i tg=true:=by simpa using qA
   have hto:=aqT N8;refine aA kx (aB (v:=.int .i64 ((tg).to)) bL hs.hb rfl (kB kT (LX.ext hs.aF) (by omega) (by omega) (by omega) (λ WW Ou=>?_)));have I9:=DL.cut Ou LX QY
   have KR:oe PG _ (.func (.func 222) [].toArray [.pointer (some ⟨um,0,none⟩)].toArray) (λ _:aW=>True) (λ y=>sH y tg.a):=
    ⟨222,[],_,rfl,aok,λ s y w1 e1 hd _=>C222 y s um tg.a w1 hd ((hs.hb.cell rfl).ext e1)⟩
   refine aZ aoj hs (C221 _ _ _ (λ _=>True) _ _ (I9.ext hs.aF) KR (λ _ _=>trivial) (by simp; omega)) (λ w4 he hs=>cC ?_);refine ⟨vb ?_,hs.drop.aF⟩;unfold Cp;rw [N8];simp only [Bool.true_and]
   congr 2
set_option maxHeartbeats 4000000 in
theorem C181 (lv:Value) (xs:List aW) (w:World) (hL:DL w lv xs) (hn:xs.length≤1048576) (hb:agr xs):CR 181 [lv] w (λ v w'=>v = .bool (!(List.range xs.length).any (qJ xs))∧Ext w w'):=by
 have hs:=St.start w;refine aaI _ _ _ ?_;unfold S181;obtain ⟨agy,WX,WY⟩:=(hL).open;have hn103:=WY.1;refine aJ kT (WX.ext hs.aF) ?_;have hs:=hs.fX (α:=Int);refine ⟨λ m zJ x w1=>∃ k:Nat,x = .int .i64 (k:Int)∧m=xs.length - k∧k≤xs.length∧(∀ j,j<k→qJ xs j=false)∧St w bD [bK zJ (oA xs k)] w1,⟨_,0,rfl,rfl,Nat.zero_le _,by simp,hs⟩,?_⟩;rintro m zJ _ w1 ⟨k,rfl,rfl,hk,fV,hs⟩ fD;have hel:=Hi xs k;refine aR (aC (λ kP=>?_) (λ kP=>?_))
 ·obtain ⟨pS,jZ⟩:∃ xx,agy[((k:Int)).toNat]? = some xx:=⟨_,List.getElem?_eq_getElem (by omega)⟩;obtain ⟨mK,o9⟩:∃ xx,(xs)[((k:Int)).toNat]? = some xx:=⟨_,List.getElem?_eq_getElem (by omega)⟩;obtain ⟨Ja,Jb,rfl,atW,atX⟩:=WY.2 _ _ _ jZ o9;refine ⟨λ C1 w'=>qJ xs k=false∧St w bD [bK C1 (oA xs (k+1))] w',?_,?_⟩
  ·refine aQ kT WX (by omega) jZ (λ _ ri=>aD lM (ri.ext hs.aF) (aN hs mF (λ um w2 hs=>have hs:=hs.enc (cs':=Flat.enc (⟨0,0,0,⟨none,0,0⟩,⟨none,0,0⟩,0⟩:bU)) rfl;aI (x:=(⟨(mK).kind,(mK).a,(mK).b,Ja,Jb,(mK).to⟩:bU)) hs lM rfl rfl (λ w3 hs=>aA jn (aB (v:=.int .i64 ((mK).kind)) bL hs.hb rfl (cR (aC (λ fB=>?_) (λ fB=>?_))))))))
   ·have hs:=(hs).drop;rw [WQ (k:=k) o9 (by omega)] at hs;exact ⟨by rw [xE (i:=k) o9,decide_eq_false (show ¬ mK.kind=14 by omega)]; rfl,hs⟩
   ·have hto:=hb k mK o9 (by omega);refine aA kx (aB (v:=.int .i64 ((mK).to)) bL hs.hb rfl (gD (by omega) (aJ eh (hs.p1).fF ?_)));have hs:=hs.p1.p1;refine ⟨λ m x w1=>∃ q:Nat,x = .int .i64 (q:Int)∧m=(oA xs k).length - q∧q≤(oA xs k).length∧(∀ e∈(oA xs k).take q,vj xs mK e.toNat=false)∧St w bD [cH um (Flat.enc (⟨(mK).kind,(mK).a,(mK).b,Ja,Jb,(mK).to⟩:bU)),bK zJ (oA xs k)] w1,⟨_,0,rfl,rfl,Nat.zero_le _,by simp,hs⟩,?_⟩;rintro m _ w4 ⟨q,rfl,rfl,hq,akn,hs⟩ jH;refine aR (aC (λ sC=>?_) (λ sC=>?_))
    ·obtain ⟨agz,Ov⟩:=gx ((oA xs k)) (i:=((q:Int)).toNat) (by omega);refine dS hs.p1 eh (by omega) (by omega) (λ _ wx=>?_);obtain ⟨j,hej,hjk,y,hy,akp⟩:=SF (List.mem_of_getElem? Ov);have hjl:=(List.getElem?_eq_some_iff.1 hy).1;have hyto:=hb j y hy akp;refine fY hs.p1 bL wx Ov ?_;obtain ⟨aq0,BP⟩:=gx agy (i:=(agz).toNat) (by omega);obtain ⟨agA,WZ⟩:=gx (xs) (i:=(agz).toNat) (by omega);obtain ⟨atY,atZ,rfl,at3,at4⟩:=WY.2 _ _ _ BP WZ;refine aQ kT WX (by omega) BP (λ _ oN=>bT (agA).to kx oN rfl rfl (λ _ Ao=>aD bL (Ao.ext hs.aF) ?_))
     obtain rfl:agA=y:=Option.some.inj (WZ.symm.trans (by rw [hej]; exact hy));refine gD (by omega) ?_;refine ⟨λ jv w'=>jv = .bool (vj xs mK j)∧St w bD [cH um (Flat.enc (⟨(mK).kind,(mK).a,(mK).b,Ja,Jb,(mK).to⟩:bU)),bK zJ (oA xs k)] w',?_,?_⟩
     ·refine aR (aC (λ ue=>?_) (λ ue=>?_))
      ·refine dK ?_;exact ⟨vb (by rw [AA hy,decide_eq_true akp]; grind),hs⟩
      ·exact ⟨vb (by rw [AA hy,decide_eq_true akp]; grind),hs⟩
     ·rintro _ w5 ⟨rfl,hs⟩ oY;refine aX (λ mL=>?_) (λ mL=>?_)
      ·have hs:=((hs.drop)).drop;refine ⟨vb ?_,hs.aF⟩;rw [rB (f:=qJ xs) (j:=k) (by omega) (by rw [xE (i:=k) o9,decide_eq_true (show mK.kind=14 by omega)]; exact rB (j:=j) hjk mL)]; rfl
      ·refine aO (by omega) ?_;exact ⟨_,by omega,q+1,rfl,rfl,by omega,eH akn Ov (by rw [hej]; exact mL),hs⟩
    ·refine bV (([(k:Int)]:List Int)) hs eh rfl rfl (eK rfl) (λ aq1 w6 hs=>?_);have E7:=(hs).fF;refine cS hs.p2 eh E7 (by have:=Hi xs k; simp; omega) (by decide) (λ aqF w7 hs=>?_);have hs:=hs.p1.drop.p1.drop;rw [SE (k:=k) o9 (by omega)] at hs;exact ⟨by rw [xE (i:=k) o9,WR (by rw [List.take_of_length_le (by omega)] at akn; exact akn)]; simp,hs⟩
  ·rintro C1 w8 ⟨W0,hs⟩ G9;refine aO (by omega) ?_;exact ⟨_,by omega,k+1,rfl,rfl,by omega,Ak fV W0,hs⟩
 ·have hs:=(hs).drop;refine ⟨vb ?_,hs.aF⟩;rw [ng (f:=qJ xs) (λ j hj=>fV j (by omega))]; rfl
theorem C114 (u:im) (uv:dQ) (w:World) (hu:bZ.dr w uv u) (hz:UZ u) (hb:∀ n∈u.lines,-1≤n∧n≤(u.lines.length:Int)):CR 114 [Flat.val uv] w (λ v w'=>v = .int .i64 (gw u)∧Ext w w'):=by
 obtain ⟨iK,gM,fe,sI,fo,rfl,iL,jw,je,jU,kY⟩:=hu;obtain ⟨dO,rfl,ix⟩:=jU;have hs:=St.start w;refine ZR _ _ _ ?_;unfold S114;refine dJ hs (λ yf w1 hs=>?_);refine ⟨λ jv w'=>jv = .bool (decide (¬ (1≤u.stays∧u.stays≤u.lines.length)))∧St w bD [cH yf (Flat.enc (⟨iK,(u).stays,gM,(u).locks,fe,(⟨((u).recover).aK,((u).recover).counts,dO⟩:cN),fo⟩:dQ))] w',?_,?_⟩
 ·refine aA py (aB (v:=.int .i64 ((u).stays)) bL hs.hb rfl (aR (aC (λ Vs=>?_) (λ Vs=>?_))))
  ·exact ⟨vb (by grind),hs⟩
  ·refine aA py (aB (v:=.int .i64 ((u).stays)) bL hs.hb rfl (aA mE (aB eB hs.hb rfl ?_)));have aq2:=DL.flat (iL);refine aJ eh (aq2.ext hs.aF) (dB ?_);exact ⟨vb (by grind),hs⟩
 ·rintro _ w2 ⟨rfl,hs⟩ fD;refine aX (λ kP=>?_) (λ kP=>?_)
  ·have akq:¬ (1≤u.stays∧u.stays≤u.lines.length):=of_decide_eq_true kP;exact ⟨congrArg (Value.int .i64) (by unfold gw; rw [if_neg akq]),hs.drop.aF⟩
  ·have akq:1≤u.stays∧u.stays≤u.lines.length:=by simpa using kP
   have hzl:=hz.lines;refine aA mE (aB eB hs.hb rfl ?_);have aq3:=DL.flat (iL);refine aA py (aB (v:=.int .i64 ((u).stays)) bL hs.hb rfl (gD (by omega) ?_));obtain ⟨jd,fM⟩:=gx ((u).lines) (i:=(((u).stays - 1)).toNat) (by omega);refine aQ eh aq3 (by omega) fM (λ _ jQ=>aD bL (jQ.ext hs.aF) ?_);have hbe:=hb _ (List.mem_of_getElem? fM);refine aO (by omega) ?_;exact ⟨congrArg (Value.int .i64) (by unfold gw; rw [if_pos akq,List.getD_eq_getElem?_getD,fM]; rfl),hs.drop.aF⟩
theorem C111 (n:Int) (w:World):CR 111 [.int .i64 n] w (λ v w'=>v = .bool (lB n)∧Ext w w'):=by
 have hs:=St.start w;refine ZO _ _ _ ?_;unfold S111;refine ⟨λ jv w'=>jv = .bool (lB n)∧St w bD [] w',?_,?_⟩
 ·refine aR (aC (λ pU=>?_) (λ pU=>?_))
  ·exact ⟨vb (by unfold lB; grind),hs⟩
  ·refine dB ?_;exact ⟨vb (by unfold lB; grind),hs⟩
 ·rintro _ w1 ⟨rfl,hs⟩ fD;exact ⟨rfl,hs.aF⟩
theorem C115 (lv:Value) (xs:List nw) (b1:Nat) (many:Int) (w:World) (hL:eP (λ _=>True) w lv xs) (hc:Cell w b1 1 (.int .i64 many)) (hn:xs.length≤1000):CR 115 [lv,.pointer (some ⟨b1,0,none⟩)] w (λ v w'=>v = .bool (!eR xs many)∧Ext w w'):=by
 have hs:=St.start w;refine ZS _ _ _ _ ?_;unfold S115;refine aA py (cE bL (hc.ext hs.aF) (aZ PN hs (C116 _ _ _ _ (hL.ext hs.aF) (by omega)) (λ w1 he hs=>cC ?_)));exact ⟨rfl,hs.aF⟩
end Go.Proofs.YtnjcingfdhjfkaaGreat
