/-
  What the proof needs, part 8.
-/
import Derived.Test.YtnjcingfdhjfkaaGreatVeM7
set_option linter.all false
namespace Go.Proofs.YtnjcingfdhjfkaaGreat
open Go.Fw
structure X0 (c:fm) (cells lines locks:Int) (L:List aW) (i:Nat) (x:aW):Prop where
 fld:ve x c cells lines locks=true
 to:IY L i x=true
 nest:x.kind=14→∀ (k:Nat) (y:aW),x.to≤k→k<i→L[k]? = some y→y.kind=14→x.to≤y.to
 b13:x.kind=14→∃ y,L[(x.to - 1).toNat]? = some y∧y.kind=13
def X1 (L:List aW) (n:Nat) (l:List aW):Prop:=∀ (k:Nat) (y:aW),l[k]? = some y→L[n+k]? = some y
def qo (c:fm) (cells lines locks:Int) (L:List aW) (n:Nat) (l:List aW):Prop:=∀ (k:Nat) (y:aW),l[k]? = some y→X0 c cells lines locks L (n+k) y
section
variable {L l1 l2:List aW} {n:Nat} {c:fm} {cells lines locks:Int}
theorem X1.left (h:X1 L n (l1++l2)):X1 L n l1:=λ k y hk=>h k y (by rw [List.getElem?_append_left (List.getElem?_eq_some_iff.1 hk).1]; exact hk)
theorem X1.right (h:X1 L n (l1++l2)):X1 L (n+l1.length) l2:=λ k y hk=>by
 have:=h (l1.length+k) y (by rw [List.getElem?_append_right (by omega),Nat.add_sub_cancel_left]; exact hk)
 rw [Nat.add_assoc]; exact this
theorem X1.one {y:aW} (h:X1 L n [y]):L[n]? = some y:=h 0 y rfl
theorem qo.app (h1:qo c cells lines locks L n l1) (h2:qo c cells lines locks L (n+l1.length) l2):qo c cells lines locks L n (l1++l2):=λ k y hk=>by
 rcases Nat.lt_or_ge k l1.length with h | h
 ·rw [List.getElem?_append_left h] at hk; exact h1 k y hk
 ·rw [List.getElem?_append_right h] at hk
  have:=h2 (k - l1.length) y hk
  rwa [show n+l1.length+(k - l1.length)=n+k from by omega] at this
theorem qo.nil:qo c cells lines locks L n []:=λ k y hk=>by simp at hk
theorem qo.one {y:aW} (h:X0 c cells lines locks L n y):qo c cells lines locks L n [y]:=λ k z hk=>by
 cases k with
 | zero=>simp at hk; subst hk; exact h
 | succ k=>simp at hk
end
theorem Rw (p:cO) (rs:List ByteArray) (t:Bk):∀ at_ lp out,∀ y∈eO p rs t at_ lp out,(y.kind=13→lp≤y.a)∧(y.kind=14→at_+1≤y.to):=by
 induction t with
 | nil=>intro at_ lp out y hy; cases hy
 | cons x a b r uX wk Fv=>
  intro at_ lp out y hy
  rw [va,List.mem_append] at hy
  have hsa:=iY a
  rcases hy with hy | hy
  ·unfold FY at hy
   split at hy
   ·have ht:at_+1≤rH x a at_:=by unfold rH; split <;> omega
    rw [List.mem_append,List.mem_append,List.mem_append] at hy
    rcases hy with ((hy | hy) | hy) | hy
    ·rw [List.mem_singleton] at hy; subst hy; exact ⟨λ h=>by simp at h,λ h=>by simp at h⟩
    ·have:=uX _ _ _ y hy; exact ⟨this.1,λ h=>by have:=this.2 h; omega⟩
    ·split at hy
     ·rw [List.mem_singleton] at hy; subst hy; exact ⟨λ h=>by simp at h,λ h=>by simp at h⟩
     ·cases hy
    ·have:=wk _ _ _ y hy; exact ⟨this.1,λ h=>by have:=this.2 h; omega⟩
   ·split at hy
    ·rw [List.mem_append,List.mem_append] at hy
     rcases hy with (hy | hy) | hy
     ·rw [List.mem_singleton] at hy; subst hy; exact ⟨λ _=>Int.le_refl _,λ h=>by simp at h⟩
     ·have:=uX _ _ _ y hy; exact ⟨λ h=>by have:=this.1 h; omega,λ h=>by have:=this.2 h; omega⟩
     ·rw [List.mem_singleton] at hy; subst hy; exact ⟨λ h=>by simp at h,λ _=>Int.le_refl _⟩
    ·split at hy
     ·rw [List.mem_singleton] at hy; subst hy; exact ⟨λ h=>by simp at h,λ h=>by simp at h⟩
     ·rename_i h1 h2 h3
      rw [List.mem_singleton] at hy; subst hy
      have e:(lK p rs x).kind=if x.kind=14 then 15 else x.kind:=rfl
      refine ⟨λ h=>?_,λ h=>?_⟩
      ·rw [e] at h; split at h <;> omega
      ·rw [e] at h; split at h <;> omega
  ·have:=Fv _ _ _ y hy
   exact ⟨this.1,λ h=>by have:=this.2 h; omega⟩
theorem Fq {b:Bk} (h:(b.len:Int)≤0):b = .nil:=by
 cases b with
 | nil=>rfl
 | cons x a b r=>exfalso; unfold Bk.len at h; omega
theorem Rx {x:aW} {r:Int} (he:sG x.kind=false) (h1:x.e=[]) (hk:¬ x.kind=4) (h2:x.f=[]):efM x r=true:=by
 unfold efM; rw [if_neg (by rw [he]; decide),if_neg hk,h1,h2]; rfl
section
variable {p:cO} {rs:List ByteArray} {c:fm}
theorem adE (hp:yM p) (hc:c.aK=rs.length) (L:List aW) (t:Bk):∀ (n:Nat) (lp out loops:Int),X1 L n (eO p rs t n lp out)→n+bW t≤(L.length:Int)→t.ok loops=true→t.str→ju t→0≤loops→
  (loops≠0→n+bW t≤out∧out≤L.length)→0≤lp→lp+iZ t≤c.counts→(∀ x∈t.flat,StK p rs x)→qo c (gK p).length (gu (en p)) p.locks.length L n (eO p rs t n lp out):=by
 induction t with
 | nil=>intros; exact qo.nil
 | cons x a b r uX wk Fv=>
  intro n lp out loops hE hL oF IG FC hlo adF Mi Tv gb
  have hsa:=iY a; have hsb:=iY b; have hsr:=iY r
  have hda:=te a; have hdb:=te b; have hdr:=te r
  obtain ⟨NV,hs2,_,_,O9,X2,X3⟩:=IG
  have Xf:=oF
  unfold Bk.ok at Xf
  simp only [Bool.and_eq_true] at Xf
  obtain ⟨⟨⟨ho1,Po⟩,XZ⟩,ho4⟩:=Xf
  unfold Bk.zf at ho1
  rw [decide_eq_true_eq] at ho1
  have hx:StK p rs x:=gb x (by simp [Bk.flat])
  have kJ:bW (.cons x a b r)=(if x.kind=12 then 2+bW a else if x.kind=11 then (if 0<x.fw then 1+bW a+bW b+1 else 1+bW a+bW b) else 1)+bW r:=rfl
  have hdp:iZ (.cons x a b r)=max (if x.kind=12 then max (iZ a) (iZ b)+1 else max (iZ a) (iZ b)) (iZ r):=rfl
  rw [va] at hE ⊢
  have Lx:=IK p rs x a b r n lp out
  have hER:=hE.right
  have Pa:=hE.left
  generalize hH:FY p rs x a b n lp out=H at *
  refine qo.app ?_ ?_
  ·rw [← hH] at Pa Lx ⊢
   unfold FY at Pa Lx ⊢
   by_cases sF:x.kind=11
   ·rw [if_pos sF] at Pa Lx ⊢
    rw [if_neg (by omega),if_pos sF] at kJ
    rw [if_neg (by omega)] at hdp
    have vq:Bk.BZ x loops=loops:=by unfold Bk.BZ; rw [if_neg (by omega)]
    rw [vq] at Po XZ
    have hA1:=Pa.left.left.left
    have hA2:=Pa.left.left.right
    have hA3:=Pa.left.right
    have hA4:=Pa.right
    have Lm:=ig p rs a (n+1) lp out
    have C5:rH x a n=if 0<x.fw then (n:Int)+1+bW a+1 else (n:Int)+1+bW a:=rfl
    refine qo.app (qo.app (qo.app (qo.one ?_) ?_) ?_) ?_
    ·refine ⟨?_,?_,λ h=>by simp at h,λ h=>by simp at h⟩
     ·unfold ve efM aM bM sG
      simp only [arS hx hc (.inr (.inr (.inr (.inl sF))))]
      rfl
     ·unfold IY; rw [if_pos (.inr rfl)]
      show (decide ((n:Int)<rH x a n) && decide (rH x a n≤L.length))=true
      rw [Bool.and_eq_true,decide_eq_true_eq,decide_eq_true_eq,C5]
      split <;> (rename_i he; first | rw [if_pos he] at kJ | rw [if_neg he] at kJ) <;> omega
    ·have hE2:X1 L (n+1) (eO p rs a ((n+1:Nat):Int) lp out):=hA2
     exact uX (n+1) lp out loops hE2 (by split at kJ <;> omega) Po O9 FC.a hlo (λ hl=>by have:=adF hl; refine ⟨?_,this.2⟩; split at kJ <;> omega) Mi (by omega) λ y hy=>gb y (by simp [Bk.flat,hy])
    ·split
     ·rename_i he
      refine qo.one ⟨?_,?_,λ h=>by simp at h,λ h=>by simp at h⟩
      ·rfl
      ·unfold IY; rw [if_pos (.inl rfl)]
       rw [if_pos he] at kJ C5
       rw [Bool.and_eq_true,decide_eq_true_eq,decide_eq_true_eq]
       show ((n+([(⟨12,0,0,gk rs x.e,[],rH x a n⟩:aW)]++eO p rs a (n+1) lp out).length:Nat):Int)<rH x a n+bW b∧rH x a n+bW b≤L.length
       rw [List.length_append,List.length_singleton,C5]
       omega
     ·exact qo.nil
    ·by_cases he:0<x.fw
     ·rw [if_pos he] at kJ C5 hA4 ⊢
      have hn4:((n+([(⟨12,0,0,gk rs x.e,[],rH x a n⟩:aW)]++eO p rs a (n+1) lp out++[(⟨11,0,0,[],[],rH x a n+bW b⟩:aW)]).length:Nat):Int)=rH x a n:=by
       simp only [List.length_append,List.length_singleton]; rw [C5]; omega
      generalize n+([(⟨12,0,0,gk rs x.e,[],rH x a n⟩:aW)]++eO p rs a (n+1) lp out++[(⟨11,0,0,[],[],rH x a n+bW b⟩:aW)]).length=m at hA4 hn4 ⊢
      rw [← hn4] at hA4 ⊢
      exact wk _ lp out loops hA4 (by rw [hn4,C5]; omega) XZ X2 FC.b hlo (λ hl=>by have:=adF hl; rw [hn4,C5]; exact ⟨by omega,this.2⟩) Mi (by omega) λ y hy=>gb y (by simp [Bk.flat,hy])
     ·have I3:=Fq (b:=b) (by omega)
      subst I3; exact qo.nil
   ·rw [if_neg sF] at Pa Lx ⊢
    by_cases uJ:x.kind=12
    ·rw [if_pos uJ] at Pa Lx ⊢
     rw [if_pos uJ] at kJ hdp
     have vq:Bk.BZ x loops=loops+1:=by unfold Bk.BZ; rw [if_pos uJ]
     rw [vq] at Po
     have hA1:=Pa.left.left
     have hA2:=Pa.left.right
     have hA3:=Pa.right
     have Lm:=ig p rs a (n+1) (lp+1) (n+2+bW a)
     have hxn:=FC.x uJ
     have Fy:=hA1.one
     refine qo.app (qo.app (qo.one ?_) ?_) (qo.one ?_)
     ·refine ⟨?_,?_,λ h=>by simp at h,λ h=>by simp at h⟩
      ·unfold ve
       rw [Rx rfl rfl (by decide:¬ (13:Int)=4) rfl]
       have e1:aM ⟨13,lp,x.n,[],[],0⟩ c.aK c.counts=true:=by unfold aM; rw [if_pos (.inl rfl)]; unfold LH; rw [Bool.and_eq_true,decide_eq_true_eq,decide_eq_true_eq]; exact ⟨Mi,by show lp<c.counts; omega⟩
       have e2:bM ⟨13,lp,x.n,[],[],0⟩ (gK p).length (gu (en p)) p.locks.length=true:=by
        unfold bM; show (decide (1≤x.n) && decide (x.n≤8))=true
        rw [Bool.and_eq_true,decide_eq_true_eq,decide_eq_true_eq]; exact hxn
       rw [e1,e2]; rfl
      ·rfl
     ·have hE2:X1 L (n+1) (eO p rs a ((n+1:Nat):Int) (lp+1) (n+2+bW a)):=hA2
      exact uX (n+1) (lp+1) (n+2+bW a) (loops+1) hE2 (by omega) Po O9 FC.a (by omega) (λ _=>⟨by omega,by omega⟩) (by omega) (by omega) λ y hy=>gb y (by simp [Bk.flat,hy])
     ·have uN:n+([(⟨13,lp,x.n,[],[],0⟩:aW)]++eO p rs a (n+1) (lp+1) (n+2+bW a)).length=n+1+(eO p rs a (n+1) (lp+1) (n+2+bW a)).length:=by
       rw [List.length_append,List.length_singleton]; omega
      rw [uN]
      have aga:∀ (k:Nat) (y:aW),n+1≤k→k<n+1+(eO p rs a (n+1) (lp+1) (n+2+bW a)).length→L[k]? = some y→y∈eO p rs a (n+1) (lp+1) (n+2+bW a):=by
       intro k y h1 h2 hy
       obtain ⟨z,hz⟩:∃ z,(eO p rs a (n+1) (lp+1) (n+2+bW a))[k - (n+1)]? = some z:=⟨_,List.getElem?_eq_getElem (by omega)⟩
       have h3:L[n+1+(k - (n+1))]? = some z:=hA2 _ z hz
       rw [show n+1+(k - (n+1))=k from by omega,hy] at h3
       obtain rfl:=Option.some.inj h3
       exact List.mem_of_getElem? hz
      refine ⟨?_,?_,λ _ k y h1 h2 hy hk=>?_,λ _=>?_⟩
      ·unfold ve
       rw [Rx rfl rfl (by decide:¬ (14:Int)=4) rfl]
       have e1:aM ⟨14,lp,0,[],[],n+1⟩ c.aK c.counts=true:=by unfold aM; rw [if_pos (.inr rfl)]; unfold LH; rw [Bool.and_eq_true,decide_eq_true_eq,decide_eq_true_eq]; exact ⟨Mi,by show lp<c.counts; omega⟩
       have e2:bM ⟨14,lp,0,[],[],n+1⟩ (gK p).length (gu (en p)) p.locks.length=true:=rfl
       rw [e1,e2]; rfl
      ·unfold IY; rw [if_neg (by decide:¬ ((14:Int)=11∨(14:Int)=12)),if_pos rfl]
       unfold B5
       rw [Bool.and_eq_true]
       refine ⟨?_,?_⟩
       ·rw [Wd (y:=⟨13,lp,x.n,[],[],0⟩) (by show 1≤(n:Int)+1; omega) (by show (n:Int)+1≤_; omega) (by show L[((n:Int)+1 - 1).toNat]? = _; rw [show ((n:Int)+1 - 1).toNat=n from by omega]; exact Fy)]
        unfold sH; simp
       ·rw [Bool.not_eq_true',List.any_eq_false]
        intro y hy
        obtain ⟨k,hk⟩:=pe hy
        rw [List.getElem?_drop,List.getElem?_take] at hk
        split at hk
        ·have h5:=aga _ y (by show n+1≤((n:Int)+1).toNat+k; omega) (by assumption) hk
         have h6:=(Rw p rs a _ _ _ y h5).1
         unfold sH
         rw [Bool.and_eq_true,decide_eq_true_eq,decide_eq_true_eq]
         rintro ⟨q1,q2⟩
         have:=h6 q1
         have q2:y.a=lp:=q2
         omega
        ·cases hk
      ·have h1:(n:Int)+1≤k:=h1
       have h5:=aga k y (by omega) h2 hy
       have:=(Rw p rs a _ _ _ y h5).2 hk
       show (n:Int)+1≤y.to
       omega
      ·exact ⟨_,by show L[((n:Int)+1 - 1).toNat]? = _; rw [show ((n:Int)+1 - 1).toNat=n from by omega]; exact Fy,rfl⟩
    ·rw [if_neg uJ] at Pa Lx ⊢
     rw [if_neg uJ,if_neg sF] at kJ
     by_cases Fy:x.kind=13
     ·rw [if_pos Fy] at Pa Lx ⊢
      have hl0:loops≠0:=by omega
      have hou:=adF hl0
      refine qo.one ⟨rfl,?_,λ h=>by simp at h,λ h=>by simp at h⟩
      unfold IY; rw [if_pos (.inl rfl)]
      rw [Bool.and_eq_true,decide_eq_true_eq,decide_eq_true_eq]
      show (n:Int)<out∧out≤L.length
      omega
     ·rw [if_neg Fy] at Pa Lx ⊢
      obtain ⟨g1,g2,g3,g4,g5,g6⟩:=adD (c:=c) hp hx hc sF uJ Fy
      refine qo.one ⟨g1,?_,λ h=>absurd h g6,λ h=>absurd h g6⟩
      unfold IY; rw [if_neg (by omega),if_neg g6,g2]; rfl
  ·have Vz:((n+H.length:Nat):Int)=n+H.length:=by omega
   rw [← Vz] at hER ⊢
   exact Fv _ lp out loops hER (by omega) ho4 X3 FC.r hlo (λ hl=>by have:=adF hl; exact ⟨by omega,this.2⟩) Mi (by omega) λ y hy=>gb y (by simp [Bk.flat,hy])
end
theorem adG (t:Bk):∀ n:Int,t.ok n=true→t.str→iZ t≤t.depth:=by
 induction t with
 | nil=>intro n _ _; exact Int.le_refl _
 | cons x a b r uX wk Fv=>
  intro n oF IG
  obtain ⟨NV,hs2,_,_,O9,X2,X3⟩:=IG
  unfold Bk.ok at oF
  simp only [Bool.and_eq_true] at oF
  obtain ⟨⟨⟨ho1,Po⟩,XZ⟩,ho4⟩:=oF
  unfold Bk.zf at ho1
  rw [decide_eq_true_eq] at ho1
  have h1:=uX _ Po O9
  have h2:=wk _ XZ X2
  have h3:=Fv _ ho4 X3
  have hd:=Bk.rz a
  have QX:=Bk.rz b
  have hd3:=Bk.rz r
  have e:iZ (.cons x a b r)=max (if x.kind=12 then max (iZ a) (iZ b)+1 else max (iZ a) (iZ b)) (iZ r):=rfl
  have e2:(Bk.cons x a b r).depth=if Bk.D4 x then max (max (1+a.depth) (1+b.depth)) r.depth else r.depth:=rfl
  rw [e,e2]
  by_cases hk:x.kind=11∨x.kind=12
  ·have:Bk.D4 x=true:=decide_eq_true hk
   rw [if_pos this]
   split <;> omega
  ·have:Bk.D4 x=false:=decide_eq_false hk
   rw [if_neg (by omega:¬ x.kind=12),if_neg (show ¬ Bk.D4 x=true by rw [this]; decide)]
   have ha:=Fq (b:=a) (by omega)
   have hb:=Fq (b:=b) (by omega)
   subst ha hb
   have:iZ .nil=0:=rfl
   omega
section
variable {p:cO}
theorem yM.stk (h:yM p) {t:dF} (ht:t∈iG p):∀ x∈t.body,StK p t.aK x:=by
 intro x hx
 obtain ⟨_,h2,_⟩:=nD (h.pf.lB ht).2.1
 refine ⟨aza (h2 x hx),(h.pf.lB ht).2.2,?_⟩
 have:=h.names t ht x hx
 simpa using this
theorem MC (h:yM p) {t:dF} (ht:t∈iG p):lC (kM p t) (gK p).length (gu (en p)) p.locks.length=true∧CZ (kM p t):=by
 obtain ⟨azd,_,b,It,hb2,hb3,hb4⟩:=nD (h.pf.lB ht).2.1
 have FZ:oe t.body=some b:=by rw [It]; exact oW hb2
 have hq:ju b:=λ x hx=>by
  obtain ⟨_,h2,_⟩:=nD (h.pf.lB ht).2.1
  exact (NF (h2 x (by rw [It]; exact hx))).2
 have hlen:b.len≤40:=by rw [← Bk.cJ,← It]; exact azd
 have hd:=adG b 0 hb3 hb2
 have QX:=te b
 have B4:=(h.sz.2.2.2.2.2.2.2) t ht
 have hml:=ig p t.aK b 0 0 0
 have kJ:=iY b
 rw [EA FZ]
 have aze:qo ⟨t.aK.length,iZ b,eO p t.aK b 0 0 0⟩ (gK p).length (gu (en p)) p.locks.length (eO p t.aK b 0 0 0) 0 (eO p t.aK b 0 0 0):=
  adE (c:=⟨t.aK.length,iZ b,eO p t.aK b 0 0 0⟩) h rfl (eO p t.aK b 0 0 0) b 0 0 0 0 (λ k y hk=>by rw [Nat.zero_add]; exact hk) (by omega) hb3 hb2 hq (Int.le_refl _) (λ hh=>absurd rfl hh) (Int.le_refl _) (by show 0+iZ b≤iZ b; omega) (λ x hx=>h.stk ht x (by rw [It]; exact hx))
 have hG:∀ (i:Nat) (x:aW),(eO p t.aK b 0 0 0)[i]? = some x→X0 ⟨t.aK.length,iZ b,eO p t.aK b 0 0 0⟩ (gK p).length (gu (en p)) p.locks.length (eO p t.aK b 0 0 0) i x:=λ i x hx=>by
  have:=aze i x hx; rwa [Nat.zero_add] at this
 refine ⟨?_,?_,λ x hx=>?_⟩
 ·unfold lC
  have e1:vh ⟨t.aK.length,iZ b,eO p t.aK b 0 0 0⟩=false:=by
   unfold vh
   simp only [Bool.or_eq_false_iff,decide_eq_false_iff_not]
   omega
  rw [e1,nf (f:=vf _ _ _ _) λ i hi=>?_,nf (f:=qG _) λ i hi=>?_]
  ·rfl
  ·obtain ⟨x,hx⟩:∃ x,(eO p t.aK b 0 0 0)[i]? = some x:=⟨_,List.getElem?_eq_getElem hi⟩
   have hg:=hG i x hx
   rw [xr hx]
   by_cases hk:x.kind=14
   ·rw [decide_eq_true hk,Bool.true_and]
    refine nf λ k JF=>?_
    obtain ⟨y,hy⟩:∃ y,(eO p t.aK b 0 0 0)[k]? = some y:=⟨_,List.getElem?_eq_getElem (by have hi:i<(eO p t.aK b 0 0 0).length:=hi; omega)⟩
    rw [Am hy]
    by_cases hyk:y.kind=14
    ·rw [decide_eq_true hyk,Bool.true_and,Bool.not_eq_false',Bool.or_eq_true,decide_eq_true_eq,decide_eq_true_eq]
     by_cases h1:x.to≤k
     ·exact .inl (hg.nest hk k y h1 JF hy hyk)
     ·by_cases h2:(k:Int)+1<x.to
      ·exact .inr h2
      ·exfalso
       obtain ⟨z,hz,hz2⟩:=hg.b13 hk
       rw [show (x.to - 1).toNat=k from by omega,hy] at hz
       obtain rfl:=Option.some.inj hz
       omega
    ·rw [decide_eq_false hyk,Bool.false_and]
   ·rw [decide_eq_false hk,Bool.false_and]
  ·obtain ⟨x,hx⟩:∃ x,(eO p t.aK b 0 0 0)[i]? = some x:=⟨_,List.getElem?_eq_getElem hi⟩
   have hg:=hG i x hx
   rw [uo (show (⟨t.aK.length,iZ b,eO p t.aK b 0 0 0⟩:fm).l[i]? = some x from hx),hg.fld,hg.to]; rfl
 ·show (eO p t.aK b 0 0 0).length≤1000; omega
 ·obtain ⟨i,hi⟩:=pe (show x∈eO p t.aK b 0 0 0 from hx)
  have hf:=(hG i x hi).fld
  unfold ve efM at hf
  simp only [Bool.and_eq_true] at hf
  obtain ⟨⟨h1,h2⟩,_⟩:=hf
  refine ⟨?_,?_⟩
  ·split at h1
   ·unfold eG at h1; simp only [Bool.and_eq_true,decide_eq_true_eq] at h1; omega
   ·simp at h1; rw [h1]; simp
  ·split at h2
   ·unfold eG at h2; simp only [Bool.and_eq_true,decide_eq_true_eq] at h2; omega
   ·simp at h2; rw [h2]; simp
theorem X4 (a b c:Int):lC Lt a b c=true∧CZ Lt:=⟨rfl,by decide,λ x hx=>by cases hx⟩
theorem arW (h:yM p):lC (en p).recover (gK p).length (gu (en p)) p.locks.length=true∧CZ (en p).recover:=by
 show lC (match p.recover[0]? with | some t=>kM p t | none=>⟨0,0,[]⟩) _ _ _=true∧CZ (match p.recover[0]? with | some t=>kM p t | none=>⟨0,0,[]⟩)
 cases hr:p.recover[0]? with
 | none=>exact X4 _ _ _
 | some t=>exact MC h (List.mem_append_right _ (List.mem_of_getElem? hr))
theorem qK (h:yM p):nx (en p)=true∧UZ (en p):=by
 obtain ⟨g1,g2,g3,g4,g5,g6,g7,g8⟩:=h.sz
 have mw:=h.gK
 have gb:=Fp p
 have Ny:=Hz p
 have Bd:(en p).dC.length=(gK p).length:=by show ((gK p).map _).length=_; rw [List.length_map]
 have Nd:(en p).threads.length=p.threads.length:=by show (p.threads.map _).length=_; rw [List.length_map]
 have Qs:(en p).cB.length=p.cB.length:=by show (p.cB.map _).length=_; rw [List.length_map]
 have hth:∀ c∈(en p).threads,lC c (gK p).length (gu (en p)) p.locks.length=true∧CZ c:=λ c hc=>by
  obtain ⟨t,ht,rfl⟩:=List.mem_map.1 (show c∈p.threads.map (kM p) from hc)
  exact MC h (List.mem_append_left _ ht)
 have arX:∀ l∈(en p).cB,eG l (en p).stays=true∧l.length≤40:=λ l hl=>by
  obtain ⟨c,hc,rfl⟩:=List.mem_map.1 (show l∈p.cB.map (λ c=>gk (oX p) c.e) from hl)
  refine wT (h.pf.cl c hc).2 (by simpa using h.cB c hc) ?_
  show eo p=((oX p).length:Int)
  unfold oX fb
  rw [List.length_take,List.length_map]; omega
 have ak2:∀ c∈gK p,0≤c.n∧c.n≤4294967296:=λ c hc=>by
  unfold gK at hc
  rcases List.mem_append.1 hc with hc | hc
  ·obtain ⟨l,hl,azg⟩:=List.mem_flatten.1 hc
   have:=rD ((h.pf.lines l hl).2 c azg); exact ⟨this.2.2.1,this.2.2.2⟩
  ·have:=rD (h.pf.jX c hc); exact ⟨this.2.2.1,this.2.2.2⟩
 refine ⟨?_,?_⟩
 ·unfold nx
  have e1:kW (en p)=false:=by
   unfold kW
   rw [Ny,Bd,Nd]
   have e2:(en p).stays=eo p:=rfl
   have e3:(en p).locks=p.locks.length:=rfl
   rw [e2,e3]
   simp only [Bool.or_eq_false_iff,decide_eq_false_iff_not,not_true_eq_false,not_false_eq_true,and_true]
   omega
  have e2:(en p).dC.any lE=false:=iO λ n hn=>by
   obtain ⟨c,hc,rfl⟩:=List.mem_map.1 (show n∈(gK p).map dH.n from hn)
   have:=ak2 c hc
   unfold lE
   rw [decide_eq_false (by omega),decide_eq_false (by omega)]; rfl
  have e3:(List.range (en p).lines.length).any (kh (en p))=false:=nf λ i hi=>O7 h (by omega)
  have e4:(en p).threads.any (λ c=>!lC c (en p).lines.length (gu (en p)) (en p).locks)=false:=iO λ c hc=>by
   have:=(hth c hc).1
   rw [Ny]
   show (!lC c (gK p).length (gu (en p)) p.locks.length)=false
   rw [this]; rfl
  have e5:(en p).cB.any (λ l=>!eG l (en p).stays)=false:=iO λ l hl=>by rw [(arX l hl).1]; rfl
  rw [e1,e2,e3,e4,e5,Ny]
  show (!false && (!false && !false && !false && !false && lC (en p).recover (gK p).length (gu (en p)) p.locks.length))=true
  rw [(arW h).1]; rfl
 ·exact ⟨by omega,by omega,by omega,by omega,λ c hc=>(hth c hc).2,(arW h).2,λ l hl=>by have:=(arX l hl).2; omega⟩
end
def Pb (g:Int→Nat) (ta tb:Nat) (x:cE):Nat:=
 if x.kind=11 then g 12+max (ta+(if 0<x.fw then g 11 else 0)) tb
 else if x.kind=12 then g 13+x.n.toNat * (ta+g 14)
 else if x.kind=13 then g 11 else g (if x.kind=14 then 15 else x.kind)
def pg (g:Int→Nat):Bk→Nat
 | .nil=>0
 | .cons x a b r=>Pb g (pg g a) (pg g b) x+pg g r
def oC (x:cE) (a b r:Bk) (at_:Int):Int:=at_+(bW (.cons x a b r) - bW r)
def W (g:Int→Nat):Bk→Int→Int→List Int→Int→Nat→Nat→Option Nat
 | .nil,at_,_,_,pos,kE,_=>if pos=at_ then some kE else none
 | .cons x a b r,at_,lp,cs,pos,kE,kO=>
  if oC x a b r at_≤pos then W g r (oC x a b r at_) lp cs pos kE kO
  else if pos=at_ then (if x.kind=13 then some (g 11+kO) else some (Pb g (pg g a) (pg g b) x+(pg g r+kE)))
  else if x.kind=11 then (if pos<rH x a at_ then W g a (at_+1) lp cs pos ((if 0<x.fw then g 11 else 0)+(pg g r+kE)) kO else W g b (rH x a at_) lp cs pos (pg g r+kE) kO)
  else if x.kind=12 then (if 1≤cs.getD lp.toNat 0∧cs.getD lp.toNat 0≤8 then W g a (at_+1) (lp+1) cs pos (g 14+((cs.getD lp.toNat 0).toNat - 1) * (pg g a+g 14)+(pg g r+kE)) (pg g r+kE) else none)
  else none
theorem Pc (x:cE) (a b r:Bk) (at_:Int):at_+1≤oC x a b r at_:=by
 have h1:=iY a; have h2:=iY b
 have e:bW (.cons x a b r)=(if x.kind=12 then 2+bW a else if x.kind=11 then (if 0<x.fw then 1+bW a+bW b+1 else 1+bW a+bW b) else 1)+bW r:=rfl
 unfold oC; rw [e]
 repeat' split
 all_goals omega
section
variable {g:Int→Nat} {lp:Int} {cs:List Int} {kE kO:Nat}
theorem xF (t:Bk) (at_:Int) (h:kO≤kE):∃ r,W g t at_ lp cs at_ kE kO=some r∧r≤pg g t+kE:=by
 cases t with
 | nil=>exact ⟨kE,if_pos rfl,by unfold pg; omega⟩
 | cons x a b r=>
  have h1:=Pc x a b r at_
  rw [show pg g (.cons x a b r)=Pb g (pg g a) (pg g b) x+pg g r from rfl]
  unfold W
  rw [if_neg (show ¬ oC x a b r at_≤at_ by omega),if_pos rfl]
  by_cases hk:x.kind=13
  ·rw [if_pos hk]
   have:Pb g (pg g a) (pg g b) x=g 11:=by unfold Pb; rw [if_neg (show ¬ x.kind=11 by omega),if_neg (show ¬ x.kind=12 by omega),if_pos hk]
   exact ⟨_,rfl,by omega⟩
  ·rw [if_neg hk]; exact ⟨_,rfl,by omega⟩
theorem Ry (t:Bk):∀ (at_ pos:Int),pos=at_+bW t→W g t at_ lp cs pos kE kO=some kE:=by
 induction t with
 | nil=>intro at_ pos h; unfold W; rw [if_pos (by have:bW .nil=0:=rfl; omega)]
 | cons x a b r _ _ ih=>
  intro at_ pos h
  have h1:=Pc x a b r at_
  have h2:=iY r
  have e:oC x a b r at_=at_+(bW (.cons x a b r) - bW r):=rfl
  unfold W
  rw [if_pos (by omega)]
  exact ih _ _ (by omega)
theorem Pd {x:cE} {a b r:Bk} {at_ pos:Int} (h:oC x a b r at_≤pos):W g (.cons x a b r) at_ lp cs pos kE kO=W g r (oC x a b r at_) lp cs pos kE kO:=by
 conv=>lhs; unfold W
 rw [if_pos h]
theorem ak3 {x:cE} {a b r:Bk} {at_:Int} (h:kO≤kE):∃ r',W g (.cons x a b r) at_ lp cs (oC x a b r at_) kE kO=some r'∧r'≤pg g r+kE:=by
 rw [Pd (Int.le_refl _)]; exact xF r _ h
end
def Tr (x:aW) (pos:Int) (cs:List Int) (pos':Int) (cs':List Int):Prop:=
 (x.kind=11∧pos'=x.to∧cs'=cs)∨(x.kind=12∧(pos'=x.to∨pos'=pos+1)∧cs'=cs)∨(x.kind=13∧pos'=pos+1∧cs'=cs.set x.a.toNat x.b)∨
 (x.kind=14∧cs'=cs.set x.a.toNat (rf (cs.getD x.a.toNat 0 - 1))∧((0<rf (cs.getD x.a.toNat 0 - 1)∧pos'=x.to)∨(¬ 0<rf (cs.getD x.a.toNat 0 - 1)∧pos'=pos+1)))∨
 (¬ x.kind=11∧¬ x.kind=12∧¬ x.kind=13∧¬ x.kind=14∧pos'=pos+1∧cs'=cs)
theorem ak4 {n:Int} (h:0≤n∧n≤8):rf n=n:=by
 obtain rfl | rfl | rfl | rfl | rfl | rfl | rfl | rfl | rfl:n=0∨n=1∨n=2∨n=3∨n=4∨n=5∨n=6∨n=7∨n=8:=by omega
 all_goals decide
theorem Ci {cs:List Int} {i:Nat} {v:Int} (h:i<cs.length):(cs.set i v).getD i 0=v:=by
 rw [List.getD_eq_getElem?_getD,List.getElem?_set_self h]; rfl
theorem getD_set_ne {cs:List Int} {i j:Nat} {v:Int} (h:i≠j):(cs.set i v).getD j 0=cs.getD j 0:=by
 rw [List.getD_eq_getElem?_getD,List.getElem?_set_ne h,← List.getD_eq_getElem?_getD]
theorem AT {α:Type} {l1 l2:List α} {k:Int} {x:α} (h:(l1++l2)[k.toNat]? = some x) (hk:k.toNat<l1.length):l1[k.toNat]? = some x:=by
 rwa [List.getElem?_append_left hk] at h
theorem uG {α:Type} {l1 l2:List α} {k j:Int} {x:α} (h:(l1++l2)[k.toNat]? = some x) (hk:l1.length≤k.toNat) (hj:j.toNat=k.toNat - l1.length):l2[j.toNat]? = some x:=by
 rw [List.getElem?_append_right hk] at h; rwa [hj]
theorem at_one {α:Type} {y x:α} {k:Int} (h:[y][k.toNat]? = some x):x=y:=by
 cases hk:k.toNat with
 | zero=>rw [hk] at h; simp at h; exact h.symm
 | succ n=>rw [hk] at h; simp at h
structure MD (g:Int→Nat) (t:Bk) (at_ lp out loops:Int) (cs cs':List Int) (pos':Int) (kE kO r c:Nat):Prop where
 low:∀ j:Nat,(j:Int)<lp→cs'.getD j 0=cs.getD j 0
 len:cs'.length=cs.length
 go:(at_≤pos'∧pos'≤at_+bW t∧∃ r',W g t at_ lp cs' pos' kE kO=some r'∧r'+c≤r)∨(loops≠0∧pos'=out∧kO+c≤r)
section
variable {g:Int→Nat} {p:cO} {rs:List ByteArray}
theorem adH {x:aW} {pos pos':Int} {cs cs':List Int} (h:Tr x pos cs pos' cs') (h1:¬ x.kind=11) (h2:¬ x.kind=12) (h3:¬ x.kind=13) (h4:¬ x.kind=14):pos'=pos+1∧cs'=cs:=by
 rcases h with ⟨q,_⟩ | ⟨q,_⟩ | ⟨q,_⟩ | ⟨q,_⟩ | ⟨_,_,_,_,h⟩
 ·exact absurd q h1
 ·exact absurd q h2
 ·exact absurd q h3
 ·exact absurd q h4
 ·exact h
theorem agb {x:aW} {pos pos':Int} {cs cs':List Int} (h:Tr x pos cs pos' cs') (h1:x.kind=11):pos'=x.to∧cs'=cs:=by
 rcases h with ⟨q,h⟩ | ⟨q,_⟩ | ⟨q,_⟩ | ⟨q,_⟩ | ⟨q,_⟩
 ·exact h
 all_goals omega
theorem arY {x:aW} {pos pos':Int} {cs cs':List Int} (h:Tr x pos cs pos' cs') (h1:x.kind=12):(pos'=x.to∨pos'=pos+1)∧cs'=cs:=by
 rcases h with ⟨q,_⟩ | ⟨q,h⟩ | ⟨q,_⟩ | ⟨q,_⟩ | ⟨_,q,_⟩
 ·omega
 ·exact h
 all_goals omega
theorem arZ {x:aW} {pos pos':Int} {cs cs':List Int} (h:Tr x pos cs pos' cs') (h1:x.kind=13):pos'=pos+1∧cs'=cs.set x.a.toNat x.b:=by
 rcases h with ⟨q,_⟩ | ⟨q,_⟩ | ⟨q,h⟩ | ⟨q,_⟩ | ⟨_,_,q,_⟩
 ·omega
 ·omega
 ·exact h
 all_goals omega
theorem ar0 {x:aW} {pos pos':Int} {cs cs':List Int} (h:Tr x pos cs pos' cs') (h1:x.kind=14):cs'=cs.set x.a.toNat (rf (cs.getD x.a.toNat 0 - 1))∧((0<rf (cs.getD x.a.toNat 0 - 1)∧pos'=x.to)∨(¬ 0<rf (cs.getD x.a.toNat 0 - 1)∧pos'=pos+1)):=by
 rcases h with ⟨q,_⟩ | ⟨q,_⟩ | ⟨q,_⟩ | ⟨q,h⟩ | ⟨_,_,_,q,_⟩
 ·omega
 ·omega
 ·omega
 ·exact h
 ·omega
theorem ak5 (t:Bk):∀ (at_ lp out loops:Int) (cs:List Int) (pos:Int) (kE kO r:Nat) (x:aW) (pos':Int) (cs':List Int),W g t at_ lp cs pos kE kO=some r→at_≤pos→pos<at_+bW t→kO≤kE→ju t→t.str→t.ok loops=true→0≤lp→lp+iZ t≤cs.length→
  (eO p rs t at_ lp out)[(pos - at_).toNat]? = some x→Tr x pos cs pos' cs'→MD g t at_ lp out loops cs cs' pos' kE kO r (g x.kind):=by
 induction t with
 | nil=>intro at_ lp out loops cs pos kE kO r x pos' cs' _ h1 h2; have:bW .nil=0:=rfl; omega
 | cons x a b rr uX wk Fv=>
  intro at_ lp out loops cs pos kE kO r y pos' cs' hW hp1 YD hO FC IG oF Mi Tv hy hT
  have hsa:=iY a; have hsb:=iY b; have hsr:=iY rr
  have hda:=te a; have hdb:=te b; have hdr:=te rr
  obtain ⟨NV,hs2,_,_,O9,X2,X3⟩:=IG
  unfold Bk.ok at oF
  simp only [Bool.and_eq_true] at oF
  obtain ⟨⟨⟨ho1,Po⟩,XZ⟩,ho4⟩:=oF
  unfold Bk.zf at ho1
  rw [decide_eq_true_eq] at ho1
  have kJ:bW (.cons x a b rr)=(if x.kind=12 then 2+bW a else if x.kind=11 then (if 0<x.fw then 1+bW a+bW b+1 else 1+bW a+bW b) else 1)+bW rr:=rfl
  have hdp:iZ (.cons x a b rr)=max (if x.kind=12 then max (iZ a) (iZ b)+1 else max (iZ a) (iZ b)) (iZ rr):=rfl
  have Lx:=IK p rs x a b rr at_ lp out
  have hee:oC x a b rr at_=at_+(bW (.cons x a b rr) - bW rr):=rfl
  have hen:=Pc x a b rr at_
  rw [va] at hy
  have next:∀ Rz:List Int,∀ c:Nat,(∀ j:Nat,(j:Int)<lp→Rz.getD j 0=cs.getD j 0)→Rz.length=cs.length→pg g rr+kE+c≤r→MD g (.cons x a b rr) at_ lp out loops cs Rz (oC x a b rr at_) kE kO r c:=by
   intro Rz c h1 h2 h3
   obtain ⟨r',h4,h5⟩:=ak3 (g:=g) (lp:=lp) (cs:=Rz) (kE:=kE) (kO:=kO) (x:=x) (a:=a) (b:=b) (r:=rr) (at_:=at_) hO
   exact ⟨h1,h2,.inl ⟨by omega,by omega,r',h4,by omega⟩⟩
  by_cases hE:oC x a b rr at_≤pos
  ·rw [Pd hE] at hW
   have hy2:=uG (j:=pos - oC x a b rr at_) hy (by omega) (by omega)
   have hR:=Fv (oC x a b rr at_) lp out loops cs pos kE kO r y pos' cs' hW hE (by omega) hO FC.r X3 ho4 Mi (by omega) (by rw [hee,← Lx]; rw [hee,← Lx] at hy2; exact hy2) hT
   refine ⟨hR.low,hR.len,?_⟩
   rcases hR.go with ⟨h1,h2,r',h3,h4⟩ | h1
   ·exact .inl ⟨by omega,by omega,r',by rw [Pd h1]; exact h3,h4⟩
   ·exact .inr h1
  ·have JA:=AT hy (by omega)
   clear hy
   have hWp:∀ (Rz:List Int) (q:Int),¬ oC x a b rr at_≤q→q≠at_→W g (.cons x a b rr) at_ lp Rz q kE kO =
     (if x.kind=11 then (if q<rH x a at_ then W g a (at_+1) lp Rz q ((if 0<x.fw then g 11 else 0)+(pg g rr+kE)) kO else W g b (rH x a at_) lp Rz q (pg g rr+kE) kO)
      else if x.kind=12 then (if 1≤Rz.getD lp.toNat 0∧Rz.getD lp.toNat 0≤8 then W g a (at_+1) (lp+1) Rz q (g 14+((Rz.getD lp.toNat 0).toNat - 1) * (pg g a+g 14)+(pg g rr+kE)) (pg g rr+kE) else none) else none):=by
    intro Rz q h1 h2
    conv=>lhs; unfold W
    rw [if_neg h1,if_neg h2]
   have hWs:pos=at_→W g (.cons x a b rr) at_ lp cs pos kE kO=if x.kind=13 then some (g 11+kO) else some (Pb g (pg g a) (pg g b) x+(pg g rr+kE)):=by
    intro h1
    conv=>lhs; unfold W
    rw [if_neg hE,if_pos h1]
   unfold FY at JA Lx
   have Pe:∀ j:Nat,(j:Int)<lp→cs.getD j 0=cs.getD j 0:=λ _ _=>rfl
   by_cases sF:x.kind=11
   ·rw [if_pos sF] at JA Lx
    rw [if_neg (show ¬ x.kind=12 by omega),if_pos sF] at kJ
    rw [if_neg (show ¬ x.kind=12 by omega)] at hdp
    have vq:Bk.BZ x loops=loops:=by unfold Bk.BZ; rw [if_neg (by omega)]
    rw [vq] at Po XZ
    have Lm:=ig p rs a (at_+1) lp out
    have NB:=ig p rs b (rH x a at_) lp out
    have C5:rH x a at_=if 0<x.fw then at_+1+bW a+1 else at_+1+bW a:=rfl
    have hhd:Pb g (pg g a) (pg g b) x=g 12+max (pg g a+(if 0<x.fw then g 11 else 0)) (pg g b):=by unfold Pb; rw [if_pos sF]
    have toB:∀ c:Nat,pg g b+(pg g rr+kE)+c≤r→MD g (.cons x a b rr) at_ lp out loops cs cs (rH x a at_) kE kO r c:=by
     intro c hc
     by_cases hz:oC x a b rr at_≤rH x a at_
     ·have:rH x a at_=oC x a b rr at_:=by split at kJ <;> (first | rw [if_pos (by assumption)] at C5 | rw [if_neg (by assumption)] at C5) <;> omega
      rw [this]; exact next cs c Pe rfl (by omega)
     ·obtain ⟨r',h4,h5⟩:=xF (g:=g) (lp:=lp) (cs:=cs) (kE:=pg g rr+kE) (kO:=kO) b (rH x a at_) (by omega)
      have h6:at_+1≤rH x a at_:=by rw [C5]; split <;> omega
      exact ⟨Pe,rfl,.inl ⟨by omega,by omega,r',by rw [hWp cs _ hz (by omega),if_pos sF,if_neg (by omega)]; exact h4,by omega⟩⟩
    by_cases X5:pos=at_
    ·rw [hWs X5,if_neg (show ¬ x.kind=13 by omega),hhd] at hW
     obtain rfl:=Option.some.inj hW
     have X6:y=⟨12,0,0,gk rs x.e,[],rH x a at_⟩:=by
      rw [X5,show (at_ - at_).toNat=0 from by omega] at JA
      simpa using JA.symm
     subst X6
     obtain ⟨hq,rfl⟩:=arY hT rfl
     rcases hq with rfl | rfl
     ·exact toB _ (by show _+g 12≤_; omega)
     ·by_cases hz:oC x a b rr at_≤pos+1
      ·have:pos+1=oC x a b rr at_:=by omega
       rw [this]; exact next _ _ Pe rfl (by show _+g 12≤_; omega)
      ·by_cases hz2:pos+1<rH x a at_
       ·obtain ⟨r',h4,h5⟩:=xF (g:=g) (lp:=lp) (cs:=cs') (kE:=(if 0<x.fw then g 11 else 0)+(pg g rr+kE)) (kO:=kO) a (at_+1) (by omega)
        refine ⟨Pe,rfl,.inl ⟨by omega,by omega,r',?_,by show _+g 12≤_; omega⟩⟩
        rw [hWp _ _ hz (by omega),if_pos sF,if_pos hz2,X5]; exact h4
       ·exfalso
        split at kJ
        ·rename_i he; rw [if_pos he] at C5; omega
        ·rename_i he; rw [if_neg he] at C5
         have I3:=Fq (b:=b) (by omega)
         subst I3
         have:bW .nil=0:=rfl
         omega
    ·rw [hWp cs pos hE X5,if_pos sF] at hW
     by_cases hpt:pos<rH x a at_
     ·rw [if_pos hpt] at hW
      by_cases hpe:pos<at_+1+bW a
      ·have hya:(eO p rs a (at_+1) lp out)[(pos - (at_+1)).toNat]? = some y:=by
        have h1:=AT (AT JA (by simp only [List.length_append,List.length_singleton]; split <;> simp <;> omega)) (by simp only [List.length_append,List.length_singleton]; omega)
        exact uG h1 (by simp only [List.length_singleton]; omega) (by simp only [List.length_singleton]; omega)
       have hR:=uX (at_+1) lp out loops cs pos _ kO r y pos' cs' hW (by omega) hpe (by omega) FC.a O9 Po Mi (by omega) hya hT
       rcases hR.go with ⟨h1,h2,r',h3,h4⟩ | h1
       ·by_cases hz:oC x a b rr at_≤pos'
        ·have e1:pos'=at_+1+bW a:=by split at kJ <;> omega
         have e2:pos'=oC x a b rr at_:=by split at kJ <;> omega
         rw [Ry a (at_+1) pos' e1] at h3
         obtain rfl:=Option.some.inj h3
         rw [e2]; exact next cs' _ hR.low hR.len (by omega)
        ·refine ⟨hR.low,hR.len,.inl ⟨by omega,by omega,r',?_,h4⟩⟩
         rw [hWp cs' pos' hz (by omega),if_pos sF]
         by_cases hz2:pos'<rH x a at_
         ·rw [if_pos hz2]; exact h3
         ·exfalso
          split at kJ
          ·rename_i he; rw [if_pos he] at C5; omega
          ·rename_i he; rw [if_neg he] at C5
           have I3:=Fq (b:=b) (by omega)
           subst I3
           have:bW .nil=0:=rfl
           omega
       ·exact ⟨hR.low,hR.len,.inr h1⟩
      ·have ar1:0<x.fw:=by
        by_cases he:0<x.fw
        ·exact he
        ·rw [if_neg he] at C5; omega
       rw [if_pos ar1] at C5 kJ hW
       rw [if_pos ar1] at JA
       have e1:pos=at_+1+bW a:=by omega
       rw [Ry a (at_+1) pos e1] at hW
       obtain rfl:=Option.some.inj hW
       have X6:y=⟨11,0,0,[],[],rH x a at_+bW b⟩:=by
        have h1:=AT JA (by simp only [List.length_append,List.length_singleton]; omega)
        exact at_one (uG (j:=0) h1 (by simp only [List.length_append,List.length_singleton]; omega) (by simp only [List.length_append,List.length_singleton]; omega))
       subst X6
       obtain ⟨rfl,rfl⟩:=agb hT rfl
       have e2:rH x a at_+bW b=oC x a b rr at_:=by omega
       show MD g _ at_ lp out loops cs' cs' (rH x a at_+bW b) kE kO _ (g 11)
       rw [e2]; exact next _ _ Pe rfl (by omega)
     ·rw [if_neg hpt] at hW
      have hyb:(eO p rs b (rH x a at_) lp out)[(pos - rH x a at_).toNat]? = some y:=by
       refine uG JA ?_ ?_
       ·simp only [List.length_append,List.length_singleton]; rw [C5] at hpt; split <;> split at hpt <;> simp <;> omega
       ·simp only [List.length_append,List.length_singleton]; rw [C5]; split <;> simp <;> omega
      have hR:=wk (rH x a at_) lp out loops cs pos _ kO r y pos' cs' hW (by omega) (by split at kJ <;> (first | rw [if_pos (by assumption)] at C5 | rw [if_neg (by assumption)] at C5) <;> omega) (by omega) FC.b X2 XZ Mi (by omega) hyb hT
      have h6:at_+1≤rH x a at_:=by rw [C5]; split <;> omega
      have h7:rH x a at_+bW b=oC x a b rr at_:=by split at kJ <;> (first | rw [if_pos (by assumption)] at C5 | rw [if_neg (by assumption)] at C5) <;> omega
      rcases hR.go with ⟨h1,h2,r',h3,h4⟩ | h1
      ·by_cases hz:oC x a b rr at_≤pos'
       ·rw [Ry b _ pos' (by omega)] at h3
        obtain rfl:=Option.some.inj h3
        rw [show pos'=oC x a b rr at_ from by omega]
        exact next cs' _ hR.low hR.len (by omega)
       ·refine ⟨hR.low,hR.len,.inl ⟨by omega,by omega,r',?_,h4⟩⟩
        rw [hWp cs' pos' hz (by omega),if_pos sF,if_neg (by omega)]; exact h3
      ·exact ⟨hR.low,hR.len,.inr h1⟩
   ·rw [if_neg sF] at JA Lx
    by_cases uJ:x.kind=12
    ·rw [if_pos uJ] at JA Lx kJ hdp
     have vq:Bk.BZ x loops=loops+1:=by unfold Bk.BZ; rw [if_pos uJ]
     rw [vq] at Po
     have Lm:=ig p rs a (at_+1) (lp+1) (at_+2+bW a)
     have hxn:=FC.x uJ
     have hhd:Pb g (pg g a) (pg g b) x=g 13+x.n.toNat * (pg g a+g 14):=by unfold Pb; rw [if_neg sF,if_pos uJ]
     by_cases X5:pos=at_
     ·rw [hWs X5,if_neg (show ¬ x.kind=13 by omega),hhd] at hW
      obtain rfl:=Option.some.inj hW
      have X6:y=⟨13,lp,x.n,[],[],0⟩:=by
       rw [X5,show (at_ - at_).toNat=0 from by omega] at JA
       simpa using JA.symm
      subst X6
      obtain ⟨rfl,rfl⟩:=arZ hT rfl
      have hg:(cs.set lp.toNat x.n).getD lp.toNat 0=x.n:=Ci (by omega)
      obtain ⟨r',h4,h5⟩:=xF (g:=g) (lp:=lp+1) (cs:=cs.set lp.toNat x.n) (kE:=g 14+(x.n.toNat - 1) * (pg g a+g 14)+(pg g rr+kE)) (kO:=pg g rr+kE) a (at_+1) (by omega)
      obtain ⟨m,hm⟩:∃ m,x.n.toNat=m+1:=⟨x.n.toNat - 1,by omega⟩
      rw [hm,Nat.add_sub_cancel] at h4 h5
      refine ⟨λ j hj=>getD_set_ne (by show lp.toNat≠j; omega),by simp,.inl ⟨by omega,by omega,r',?_,?_⟩⟩
      ·show W g _ at_ lp (cs.set lp.toNat x.n) (pos+1) kE kO=_
       rw [hWp _ _ (by omega) (by omega),if_neg sF,if_pos uJ,hg,if_pos hxn,hm,Nat.add_sub_cancel,X5]; exact h4
      ·show r'+g 13≤_
       rw [hm,Nat.succ_mul]; omega
     ·rw [hWp cs pos hE X5,if_neg sF,if_pos uJ] at hW
      split at hW
      ·rename_i hcc
       by_cases hpe:pos<at_+1+bW a
       ·have hya:(eO p rs a (at_+1) (lp+1) (at_+2+bW a))[(pos - (at_+1)).toNat]? = some y:=by
         have h1:=AT JA (by simp only [List.length_append,List.length_singleton]; omega)
         exact uG h1 (by simp only [List.length_singleton]; omega) (by simp only [List.length_singleton]; omega)
        have hR:=uX (at_+1) (lp+1) (at_+2+bW a) (loops+1) cs pos _ _ r y pos' cs' hW (by omega) hpe (by omega) FC.a O9 Po (by omega) (by omega) hya hT
        have hce:cs'.getD lp.toNat 0=cs.getD lp.toNat 0:=hR.low lp.toNat (by omega)
        have S6:∀ j:Nat,(j:Int)<lp→cs'.getD j 0=cs.getD j 0:=λ j hj=>hR.low j (by omega)
        rcases hR.go with ⟨h1,h2,r',h3,h4⟩ | ⟨_,h1,h2⟩
        ·refine ⟨S6,hR.len,.inl ⟨by omega,by omega,r',?_,h4⟩⟩
         rw [hWp cs' pos' (by omega) (by omega),if_neg sF,if_pos uJ,hce,if_pos hcc]; exact h3
        ·rw [show pos'=oC x a b rr at_ from by omega]
         exact next cs' _ S6 hR.len (by omega)
       ·have e1:pos=at_+1+bW a:=by omega
        rw [Ry a (at_+1) pos e1] at hW
        obtain rfl:=Option.some.inj hW
        have X6:y=⟨14,lp,0,[],[],at_+1⟩:=at_one (uG (j:=0) JA (by simp only [List.length_append,List.length_singleton]; omega) (by simp only [List.length_append,List.length_singleton]; omega))
        subst X6
        obtain ⟨rfl,hq⟩:=ar0 hT rfl
        have hwe:rf (cs.getD lp.toNat 0 - 1)=cs.getD lp.toNat 0 - 1:=ak4 (by omega)
        have hq:(0<rf (cs.getD lp.toNat 0 - 1)∧pos'=at_+1)∨(¬ 0<rf (cs.getD lp.toNat 0 - 1)∧pos'=pos+1):=hq
        have S6:∀ j:Nat,(j:Int)<lp→(cs.set lp.toNat (rf (cs.getD lp.toNat 0 - 1))).getD j 0=cs.getD j 0:=λ j hj=>getD_set_ne (by omega)
        show MD g _ at_ lp out loops cs (cs.set lp.toNat (rf (cs.getD lp.toNat 0 - 1))) pos' kE kO _ (g 14)
        rw [hwe] at hq S6 ⊢
        rcases hq with ⟨q1,q2⟩ | ⟨q1,q2⟩
        ·have hg:(cs.set lp.toNat (cs.getD lp.toNat 0 - 1)).getD lp.toNat 0=cs.getD lp.toNat 0 - 1:=Ci (by omega)
         obtain ⟨m,hm⟩:∃ m,(cs.getD lp.toNat 0).toNat=m+2:=⟨(cs.getD lp.toNat 0).toNat - 2,by omega⟩
         obtain ⟨r',h4,h5⟩:=xF (g:=g) (lp:=lp+1) (cs:=cs.set lp.toNat (cs.getD lp.toNat 0 - 1)) (kE:=g 14+m * (pg g a+g 14)+(pg g rr+kE)) (kO:=pg g rr+kE) a (at_+1) (by omega)
         refine ⟨S6,by simp,.inl ⟨by omega,by omega,r',?_,?_⟩⟩
         ·rw [hWp _ _ (by omega) (by omega),if_neg sF,if_pos uJ,hg,if_pos (by omega),q2,show (cs.getD lp.toNat 0 - 1).toNat - 1=m from by omega]; exact h4
         ·rw [hm,show m+2 - 1=m+1 from by omega,Nat.succ_mul]; omega
        ·rw [show pos'=oC x a b rr at_ from by omega]
         exact next _ _ S6 (by simp) (by omega)
      ·cases hW
    ·rw [if_neg uJ] at JA Lx
     rw [if_neg uJ,if_neg sF] at kJ
     have X5:pos=at_:=by omega
     rw [hWs X5] at hW
     by_cases Fy:x.kind=13
     ·rw [if_pos Fy] at JA hW
      obtain rfl:=Option.some.inj hW
      have X6:=at_one JA
      subst X6
      obtain ⟨rfl,rfl⟩:=agb hT rfl
      exact ⟨Pe,rfl,.inr ⟨by omega,rfl,by show kO+g 11≤_; omega⟩⟩
     ·rw [if_neg Fy] at JA hW
      obtain rfl:=Option.some.inj hW
      have X6:=at_one JA
      subst X6
      have mU:(lK p rs x).kind=if x.kind=14 then 15 else x.kind:=rfl
      obtain ⟨rfl,rfl⟩:=adH hT (by rw [mU]; split <;> omega) (by rw [mU]; split <;> omega) (by rw [mU]; split <;> omega) (by rw [mU]; split <;> omega)
      have hhd:Pb g (pg g a) (pg g b) x=g (lK p rs x).kind:=by unfold Pb; rw [if_neg sF,if_neg uJ,if_neg Fy,mU]
      rw [show pos+1=oC x a b rr at_ from by omega]
      exact next _ _ Pe rfl (by omega)
end
structure ME (p:cO) (c:fm) (b:Bk) (rs:List ByteArray):Prop where
 l:c.l=eO p rs b 0 0 0
 cn:c.counts=iZ b
 rd:ju b
 str:b.str
 ok:b.ok 0=true
structure TW (g:Int→Nat) (p:cO) (b:Bk) (rs:List ByteArray) (t:fx) (r:Nat):Prop where
 code:ME p t.code b rs
 cl:(t.counts.length:Int)=t.code.counts
 a0:0≤t.at_
 a1:t.at_≤bW b
 w:W g b 0 0 t.counts t.at_ 0 0=some r
section
variable {g:Int→Nat} {p:cO} {b:Bk} {rs:List ByteArray} {t t':fx} {r:Nat}
theorem TW.next {x:aW} (h:TW g p b rs t r) (hn:gZ t=some x) (hT:Tr x t.at_ t.counts t'.at_ t'.counts) (hc:t'.code=t.code):∃ r',TW g p b rs t' r'∧r'+g x.kind≤r:=by
 have h1:=(qO hn).2
 have hl:=ig p rs b 0 0 0
 rw [h.code.l] at h1
 have hx:(eO p rs b 0 0 0)[(t.at_ - 0).toNat]? = some x:=by
  unfold gZ at hn
  rw [h.code.l] at hn
  rw [if_neg (by omega)] at hn
  rw [Int.sub_zero]; exact hn
 have hcn:=h.code.cn
 have Qs:=h.cl
 have hR:=ak5 (g:=g) (p:=p) (rs:=rs) b 0 0 0 0 t.counts t.at_ 0 0 r x t'.at_ t'.counts h.w h.a0 (by omega) (Nat.le_refl _) h.code.rd h.code.str h.code.ok (Int.le_refl _) (by omega) hx hT
 rcases hR.go with ⟨h3,h4,r',h5,h6⟩ | ⟨h3,_⟩
 ·exact ⟨r',⟨by rw [hc]; exact h.code,by rw [hR.len,hc]; exact h.cl,h3,by omega,h5⟩,h6⟩
 ·exact absurd rfl h3
theorem TW.same (h:TW g p b rs t r) (hc:t'.code=t.code) (ha:t'.at_=t.at_) (hk:t'.counts=t.counts):TW g p b rs t' r:=
 ⟨by rw [hc]; exact h.code,by rw [hk,hc]; exact h.cl,by rw [ha]; exact h.a0,by rw [ha]; exact h.a1,by rw [hk,ha]; exact h.w⟩
theorem ak6 {x:aW} {e:Int} (h:(wK t x e).2=true):Tr x t.at_ t.counts (wK t x e).1.at_ (wK t x e).1.counts:=by
 by_cases h1:x.kind=1
 ·rw [W4 h1]; exact .inr (.inr (.inr (.inr ⟨by omega,by omega,by omega,by omega,rfl,rfl⟩)))
 by_cases sF:x.kind=11
 ·rw [Ou sF]; exact .inl ⟨sF,rfl,rfl⟩
 by_cases uJ:x.kind=12
 ·by_cases he:e=0
  ·rw [Jb uJ he]; exact .inr (.inl ⟨uJ,.inl rfl,rfl⟩)
  ·rw [Jc uJ he]; exact .inr (.inl ⟨uJ,.inr rfl,rfl⟩)
 by_cases Fy:x.kind=13
 ·rw [Ov Fy]; exact .inr (.inr (.inl ⟨Fy,rfl,rfl⟩))
 by_cases JI:x.kind=14
 ·by_cases he:0<rf (t.counts.getD x.a.toNat 0 - 1)
  ·rw [Jd JI he]; exact .inr (.inr (.inr (.inl ⟨JI,rfl,.inl ⟨he,rfl⟩⟩)))
  ·rw [Je JI he]; exact .inr (.inr (.inr (.inl ⟨JI,rfl,.inr ⟨he,rfl⟩⟩)))
 by_cases h15:x.kind=15
 ·by_cases he:e=0
  ·rw [Jf h15 he] at h; cases h
  ·rw [Jg h15 he]; exact .inr (.inr (.inr (.inr ⟨sF,uJ,Fy,JI,rfl,rfl⟩)))
 ·rw [Ow h1 sF uJ Fy JI h15] at h; cases h
theorem X7 {x:aW} {e:Int} (h:(wK t x e).2=false):(wK t x e).1.at_=t.at_∧(wK t x e).1.counts=t.counts∧(wK t x e).1.aK=t.aK:=by
 by_cases h1:x.kind=1
 ·rw [W4 h1] at h; cases h
 by_cases sF:x.kind=11
 ·rw [Ou sF] at h; cases h
 by_cases uJ:x.kind=12
 ·by_cases he:e=0
  ·rw [Jb uJ he] at h; cases h
  ·rw [Jc uJ he] at h; cases h
 by_cases Fy:x.kind=13
 ·rw [Ov Fy] at h; cases h
 by_cases JI:x.kind=14
 ·by_cases he:0<rf (t.counts.getD x.a.toNat 0 - 1)
  ·rw [Jd JI he] at h; cases h
  ·rw [Je JI he] at h; cases h
 by_cases h15:x.kind=15
 ·by_cases he:e=0
  ·rw [Jf h15 he]; exact ⟨rfl,rfl,rfl⟩
  ·rw [Jg h15 he] at h; cases h
 ·rw [Ow h1 sF uJ Fy JI h15]; exact ⟨rfl,rfl,rfl⟩
theorem HA (h:(fF t).2=true):∃ x,gZ t=some x∧Tr x t.at_ t.counts (fF t).1.at_ (fF t).1.counts:=by
 cases hn:gZ t with
 | none=>rw [Av hn] at h; cases h
 | some x=>
  refine ⟨x,rfl,?_⟩
  cases he:(ep x.e t.aK).2 with
  | false=>rw [Aw hn he] at h; cases h
  | true=>
   cases hf:(ep x.f t.aK).2 with
   | false=>rw [Ax hn he hf] at h; cases h
   | true=>
    rw [kC hn he hf] at h ⊢
    exact ak6 (t:=tF (tE t x) x) h
theorem MF (h:(fF t).2=false):(fF t).1.at_=t.at_∧(fF t).1.counts=t.counts:=by
 cases hn:gZ t with
 | none=>rw [Av hn]; exact ⟨rfl,rfl⟩
 | some x=>
  cases he:(ep x.e t.aK).2 with
  | false=>rw [Aw hn he]; exact ⟨rfl,rfl⟩
  | true=>
   cases hf:(ep x.f t.aK).2 with
   | false=>rw [Ax hn he hf]; exact ⟨rfl,rfl⟩
   | true=>
    rw [kC hn he hf] at h ⊢
    have:=X7 (t:=tF (tE t x) x) h
    exact ⟨this.1,this.2.1⟩
theorem TW.go:∀ {N:Nat} {t t':fx} {r:Nat},TW g p b rs t r→sb N t=some t'→∃ r',TW g p b rs t' r'∧r'≤r
 | 0,_,_,_,_,h=>by cases h
 | N+1,t,t',r,h0,h=>by
  unfold sb at h
  split at h
  ·rename_i hs
   obtain ⟨x,hn,hT⟩:=HA hs
   obtain ⟨r1,h1,h2⟩:=h0.next hn hT (pZ t).1
   obtain ⟨r2,h3,h4⟩:=TW.go h1 h
   exact ⟨r2,h3,by omega⟩
  ·rename_i hs
   cases h
   have:=MF (by simpa using hs)
   exact ⟨r,h0.same (pZ t).1 this.1 this.2,Nat.le_refl _⟩
theorem MG:∀ {n:Nat} {t:fx} {r:Nat},TW (λ _=>1) p b rs t r→r≤n→∃ t',sb (n+1) t=some t'
 | n,t,r,h0,hr=>by
  cases hs:(fF t).2 with
  | false=>exact ⟨_,by unfold sb; rw [hs]; rfl⟩
  | true=>
   obtain ⟨x,hn,hT⟩:=HA hs
   obtain ⟨r1,h1,h2⟩:=h0.next hn hT (pZ t).1
   cases n with
   | zero=>exfalso; omega
   | succ n=>
    obtain ⟨t',h3⟩:=MG (n:=n) h1 (by omega)
    exact ⟨t',by unfold sb; rw [hs,if_pos rfl]; exact h3⟩
end
def C6 (p:cO) (t:fx):Prop:=∃ b rs,∀ g,∃ r,TW g p b rs t r
section
variable {p:cO} {t t':fx}
theorem C6.next {x:aW} (h:C6 p t) (hn:gZ t=some x) (hT:Tr x t.at_ t.counts t'.at_ t'.counts) (hc:t'.code=t.code):C6 p t':=by
 obtain ⟨b,rs,h⟩:=h
 exact ⟨b,rs,λ g=>by obtain ⟨r,h1⟩:=h g; obtain ⟨r',h2,_⟩:=h1.next hn hT hc; exact ⟨r',h2⟩⟩
theorem C6.same (h:C6 p t) (hc:t'.code=t.code) (ha:t'.at_=t.at_) (hk:t'.counts=t.counts):C6 p t':=by
 obtain ⟨b,rs,h⟩:=h
 exact ⟨b,rs,λ g=>by obtain ⟨r,h1⟩:=h g; exact ⟨r,h1.same hc ha hk⟩⟩
theorem C6.go {N:Nat} (h:C6 p t) (hg:sb N t=some t'):C6 p t':=by
 obtain ⟨b,rs,h⟩:=h
 exact ⟨b,rs,λ g=>by obtain ⟨r,h1⟩:=h g; obtain ⟨r',h2,_⟩:=h1.go hg; exact ⟨r',h2⟩⟩
theorem C6.total (h:C6 p t):∃ N t',sb N t=some t':=by
 obtain ⟨b,rs,h⟩:=h
 obtain ⟨r,h1⟩:=h λ _=>1
 obtain ⟨t',h2⟩:=MG h1 (Nat.le_refl r)
 exact ⟨_,t',h2⟩
end
theorem AU {p:cO} {c:fm} {b:Bk} {rs:List ByteArray} (h:ME p c b rs) (hc:0≤c.counts) (g:Int→Nat):∃ r,TW g p b rs (pU c) r∧r≤pg g b:=by
 obtain ⟨r,h1,h2⟩:=xF (g:=g) (lp:=0) (cs:=List.replicate c.counts.toNat 0) (kE:=0) (kO:=0) b 0 (Nat.le_refl _)
 have:=iY b
 exact ⟨r,⟨h,by show ((List.replicate c.counts.toNat (0:Int)).length:Int)=c.counts; rw [List.length_replicate]; omega,Int.le_refl _,this.1,h1⟩,by omega⟩
theorem C7 {p:cO} (h:yM p) {t:dF} (ht:t∈iG p):∃ b,ME p (kM p t) b t.aK∧oe t.body=some b∧ju b:=by
 obtain ⟨b,h1,h2,h3,_,h5,_,_,h8,_⟩:=h.tree ht
 rw [EA h8]
 exact ⟨b,⟨rfl,rfl,h5,h2,h3⟩,h8,h5⟩
theorem ar2 {p:cO} (h:yM p):∃ b rs,ME p (en p).recover b rs:=by
 show ∃ b rs,ME p (match p.recover[0]? with | some t=>kM p t | none=>⟨0,0,[]⟩) b rs
 cases hr:p.recover[0]? with
 | none=>exact ⟨.nil,[],⟨rfl,rfl,λ x hx=>(by cases hx),trivial,rfl⟩⟩
 | some t=>
  obtain ⟨b,hb,_⟩:=C7 h (List.mem_append_right p.threads (List.mem_of_getElem? hr))
  exact ⟨b,_,hb⟩
structure PM (p:cO) (m:gO):Prop where
 chk:yM p
 u:m.u=en p
 gm:GM m
 tw:∀ t∈m.l,C6 p t
section
variable {p:cO} {m m2:gO}
theorem S7 (h:yM p):∃ N t,sb N (pU (en p).recover)=some t∧C6 p t:=by
 obtain ⟨b,rs,hb⟩:=ar2 h
 have hru:=pY (qK h).1
 have h0:C6 p (pU (en p).recover):=⟨b,rs,λ g=>by obtain ⟨r,h1,_⟩:=AU hb hru.rc.cb.1 g; exact ⟨r,h1⟩⟩
 obtain ⟨N,t,ht⟩:=h0.total
 exact ⟨N,t,ht,h0.go ht⟩
theorem MH (h:yM p):∃ N lB,qk N (en p).threads lB∧∀ t∈lB,C6 p t:=by
 have hru:=pY (qK h).1
 have key:∀ cs:List fm,(∀ c∈cs,c∈(en p).threads)→∃ N lB,qk N cs lB∧∀ t∈lB,C6 p t:=by
  intro cs
  induction cs with
  | nil=>intro _; exact ⟨0,[],⟨rfl,λ j c t h=>by simp at h⟩,λ t ht=>by cases ht⟩
  | cons c cs ih=>
   intro Yl
   obtain ⟨N,lB,h1,h2⟩:=ih λ c hc=>Yl c (List.mem_cons_of_mem _ hc)
   have Ja:=Yl c (List.mem_cons_self ..)
   obtain ⟨t,ht,rfl⟩:=List.mem_map.1 (show c∈p.threads.map (kM p) from Ja)
   obtain ⟨b,hb,_⟩:=C7 h (List.mem_append_left p.recover ht)
   have h0:C6 p (pU (kM p t)):=⟨b,t.aK,λ g=>by obtain ⟨r,h1,_⟩:=AU hb (hru.th _ Ja).cb.1 g; exact ⟨r,h1⟩⟩
   obtain ⟨M,t',XY⟩:=h0.total
   refine ⟨N+M,t'::lB,⟨by rw [List.length_cons,List.length_cons,h1.1],λ j c2 t2 YI ht2=>?_⟩,λ t2 ht2=>?_⟩
   ·cases j with
    | zero=>
     rw [List.getElem?_cons_zero] at YI ht2
     cases YI; cases ht2
     rw [Nat.add_comm]; exact Fl XY
    | succ j=>
     rw [List.getElem?_cons_succ] at YI ht2
     exact Fl (h1.2 j c2 t2 YI ht2)
   ·rcases List.mem_cons.1 ht2 with rfl | ht2
    ·exact h0.go XY
    ·exact h2 t2 ht2
 exact key _ λ c hc=>hc
theorem zb {t:fx} {i:Int} {x:aW}:(dL m t i x).2.1.counts=t.counts:=by
 unfold dL loadT casT uA
 repeat' split
 all_goals rfl
theorem RA {t:fx} {i:Int} {x:aW} (h:C6 p t) (hn:gZ t=some x) (hk:2≤x.kind∧x.kind≤10):C6 p { (dL m t i x).2.1 with at_:=(dL m t i x).2.1.at_+1}:=
 h.next hn (.inr (.inr (.inr (.inr ⟨by omega,by omega,by omega,by omega,by show (dL m t i x).2.1.at_+1=_; rw [AF],zb⟩)))) pa
theorem JB {α:Type} {φ:α→Prop} {l:List α} {i:Nat} {x:α} (h:∀ y∈l,φ y) (hx:φ x):∀ y∈l.set i x,φ y:=λ y hy=>by
 rcases List.mem_or_eq_of_mem_set hy with h1 | h1
 ·exact h y h1
 ·rw [h1]; exact hx
theorem PM.do {N:Nat} {q:fa} {ev:dA} {e:Int} (h:PM p m) (hd:Cd N m q=some (m2,ev,e)):PM p m2:=by
 refine ⟨h.chk,(Fm hd).2.1.trans h.u,h.gm.do hd,?_⟩
 cases hc:gR m q with
 | some qh=>
  obtain ⟨t,hg,hm,_⟩:=uB hd hc
  rw [hm]
  intro t' XY
  obtain rfl:t'=t:=by simpa using (show t'∈[t] from XY)
  rw [h.u] at hg
  obtain ⟨b,rs,hb⟩:=ar2 h.chk
  have hru:=pY (qK h.chk).1
  have h0:C6 p (pU (en p).recover):=⟨b,rs,λ g=>by obtain ⟨r,h1,_⟩:=AU hb hru.rc.cb.1 g; exact ⟨r,h1⟩⟩
  exact h0.go hg
 | none=>
  by_cases ha:(eV m).any (iW q)=true
  ·by_cases hk:q.kind=2
   ·obtain ⟨_,t,ht⟩:=tA ha
    rw [(pA hd hc ha hk ht).1]
    exact JB h.tw ((h.tw t (List.mem_of_getElem? ht)).same rfl rfl rfl)
   ·have hs:=(ng hd hc ha hk).1
    cases ht:m.l[q.t.toNat]? with
    | none=>unfold mL at hs; rw [ht] at hs; cases hs
    | some t=>
     have BG:=List.mem_of_getElem? ht
     by_cases hf:t.fault≠0
     ·rw [(xw hs ht hf).1]; exact h.tw
     ·obtain ⟨x,hn⟩:=xy hs ht hf
      have mU:=(h.gm.th t BG).2.1 x hn (by omega)
      by_cases h0:(dL m t q.t x).1.fault=0
      ·obtain ⟨t2,hg,HK,_⟩:=xz hs ht hf hn h0
       rw [HK]
       show ∀ t'∈(dL m t q.t x).1.l.set _ _,_
       rw [E6]
       exact JB h.tw ((RA (h.tw t BG) hn mU).go hg)
      ·rw [(xA hs ht hf hn h0).1]
       show ∀ t'∈(dL m t q.t x).1.l.set _ _,_
       rw [E6]
       exact JB h.tw ((h.tw t BG).same pa AF zb)
  ·rw [(qJ hd hc ha).1]; exact h.tw
theorem X8 {q:fa} (h:(eV m).any (iW q)=true) (hk:¬ q.kind=2):q.kind=1∧∃ t,m.l[q.t.toNat]? = some t∧BF m t=true:=by
 rw [List.any_eq_true] at h
 obtain ⟨x,hx,hs⟩:=h
 unfold iW at hs
 simp only [Bool.and_eq_true,decide_eq_true_eq] at hs
 unfold eV at hx
 split at hx
 ·cases hx
 ·obtain ⟨i,t,_,ht,AY⟩:=sP hx
  have h1:=Ma AY
  unfold rO at AY
  rw [List.mem_append] at AY
  rcases AY with AY | AY
  ·split at AY
   ·rename_i hc
    simp at AY
    subst AY
    refine ⟨hs.1.1.1.symm,t,?_,hc⟩
    have e:q.t=(i:Int):=hs.1.1.2.symm
    rw [e]; exact ht
   ·cases AY
  ·rw [List.mem_map] at AY
   obtain ⟨k,_,rfl⟩:=AY
   exact absurd hs.1.1.1.symm hk
theorem X9 (h:PM p m) (q:fa):∃ N m2 ev e,Cd N m q=some (m2,ev,e)∧PM p m2:=by
 have key:∃ N m2 ev e,Cd N m q=some (m2,ev,e):=by
  cases hc:gR m q with
  | some qh=>
   obtain ⟨N,t,ht,_⟩:=S7 h.chk
   exact ⟨N,lM (yY m qh) [t],⟨15,0,0,AB q.cut q.cut.length,0⟩,0,by unfold Cd; rw [hc]; dsimp only; rw [h.u,ht]; rfl⟩
  | none=>
   by_cases ha:(eV m).any (iW q)=true
   ·by_cases hk:q.kind=2
    ·obtain ⟨_,t,ht⟩:=tA ha
     refine ⟨0,mD m t q,pS q.t (ee t.buf q.i),0,?_⟩
     unfold Cd; rw [hc]; dsimp only; rw [if_pos ha,if_pos hk,ht]; rfl
    ·obtain ⟨Tf,t,ht,adK⟩:=X8 ha hk
     have BG:=List.mem_of_getElem? ht
     have gb:∃ N r,mL N m q.t=some r:=by
      by_cases hf:t.fault≠0
      ·exact ⟨0,_,by unfold mL; rw [ht]; dsimp only; rw [if_pos hf]⟩
      ·cases hn:gZ t with
       | none=>unfold BF at adK; rw [hn] at adK; cases adK
       | some x=>
        by_cases h0:(dL m t q.t x).1.fault=0
        ·have mU:=(h.gm.th t BG).2.1 x hn (by omega)
         obtain ⟨N,t2,hg⟩:=(RA (m:=m) (i:=q.t) (h.tw t BG) hn mU).total
         exact ⟨N,_,by unfold mL; rw [ht]; dsimp only; rw [if_neg hf,hn]; dsimp only; rw [if_pos h0,hg]; rfl⟩
        ·exact ⟨0,_,by unfold mL; rw [ht]; dsimp only; rw [if_neg hf,hn]; dsimp only; rw [if_neg h0]⟩
     obtain ⟨N,r,hr⟩:=gb
     exact ⟨N,r.1,r.2,0,by unfold Cd; rw [hc]; dsimp only; rw [if_pos ha,if_neg hk,hr]; rfl⟩
   ·exact ⟨0,m,⟨0,0,0,0,0⟩,13,by unfold Cd; rw [hc]; dsimp only; rw [if_neg ha]⟩
 obtain ⟨N,m2,ev,e,hd⟩:=key
 exact ⟨N,m2,ev,e,hd,h.do hd⟩
theorem PM.new {N:Nat} {room:Int} {lB:List fx} (h:yM p) (hb:qk N (en p).threads lB) (ht:∀ t∈lB,C6 p t) (hr:1≤room∧room≤16):PM p (lM (ld (en p) room) lB):=
 ⟨h,rfl,GM.new (pY (qK h).1) (qK h).2 hb hr,ht⟩
end
theorem C8 {x y:fa}:x=y↔x.kind=y.kind∧x.t=y.t∧x.i=y.i∧x.cut=y.cut:=by
 cases x; cases y; simp
theorem AV {α:Type} {xs ys:List α} {k:Nat} {x y:α} (h:xs.take k=ys.take k) (hx:xs[k]? = some x) (hy:ys[k]? = some y) (e:x=y):xs.take (k+1)=ys.take (k+1):=by
 rw [← gN hx,← gN hy,h,e]
theorem agd {α:Type} {xs ys:List α} {k:Nat} {x y:α} (hx:xs[k]? = some x) (hy:ys[k]? = some y) (e:x≠y):xs≠ys:=λ h=>by
 rw [h,hy] at hx; exact e (Option.some.inj hx).symm
theorem St.ox {w0 w w':World} {A:Nat→Prop} {L:List HP} {Φ:World→Prop} (hs:St w0 A (Fw.eY Φ::L) w) (e:Ext w w'):Φ w':=by
 obtain ⟨F,h,_⟩:=hs.head
 exact h.1 w' λ b hb=>e.cC b (h.2 b hb) λ x=>x
theorem C50 (av bv:Value) (xs ys:List Bool) (w:World) (hA:eL (λ _=>True) w av xs) (hB:eL (λ _=>True) w bv ys) (hn:xs.length≤1073741824):CR 50 [av,bv] w (λ v w'=>v = .bool (decide (xs=ys))∧Ext w w'):=by
 have hs:=St.start w;refine ag0 _ _ _ _ ?_;unfold S50;refine aJ yb (hA.ext hs.aE) (aJ yb (hB.ext hs.aE) (cT (aC (λ fB=>?_) (λ fB=>?_))))
 ·exact ⟨vb (decide_eq_false (λ h=>by rw [h] at fB; exact absurd rfl fB)).symm,hs.aE⟩
 ·refine ⟨λ mm i w'=>∃ k:Nat,i = .int .i64 (k:Int)∧mm=xs.length - k∧k≤xs.length∧xs.take k=ys.take k∧St w bD [] w',⟨_,0,rfl,rfl,Nat.zero_le _,rfl,hs⟩,?_⟩;rintro mm _ w1 ⟨k,rfl,rfl,hk,heq,hs⟩ fu;refine aJ yb (hA.ext hs.aE) (aR (aC (λ gV=>?_) (λ gV=>?_)))
  ·obtain ⟨jg,fE⟩:=gx (xs) (i:=((k:Int)).toNat) (by omega);refine aQ yb hA (by omega) fE (λ _ jR=>have hs:=hs.drew;aD PV (jR.ext hs.aE) ?_);obtain ⟨rp,ky⟩:=gx (ys) (i:=((k:Int)).toNat) (by omega);refine aQ yb hB (by omega) ky (λ _ pO=>aD PV (pO.ext hs.aE) (pD Ko (aY (λ fH=>?_) (λ fH=>?_))))
   ·exact ⟨vb (decide_eq_false (agd fE ky (by simpa using fH))).symm,hs.aE⟩
   ·refine aN (by omega) ?_;exact ⟨_,by omega,k+1,rfl,rfl,by omega,AV heq fE ky (by simpa using fH),hs⟩
  ·exact ⟨vb (decide_eq_true (by rw [List.take_of_length_le (by omega),List.take_of_length_le (by omega)] at heq; exact heq)).symm,hs.aE⟩
theorem C20 (av bv:Value) (xs ys:List fa) (w:World) (hA:DL w av xs) (hB:DL w bv ys) (hn:xs.length≤1073741824) (hc:∀ x∈xs,x.cut.length≤1000000):CR 20 [av,bv] w (λ v w'=>v = .bool (decide (xs=ys))∧Ext w w'):=by
 have hs:=St.start w;refine agD _ _ _ _ ?_;unfold S20;obtain ⟨ar3,HC,age⟩:=(hA).open;have ar4:=age.1;refine aJ oQ (HC.ext hs.aE) ?_;obtain ⟨ar5,MI,agf⟩:=(hB).open;have hn133:=agf.1;refine aJ oQ (MI.ext hs.aE) (cT (aC (λ fB=>?_) (λ fB=>?_)))
 ·exact ⟨vb (decide_eq_false (λ h=>by rw [h] at ar4; omega)).symm,hs.aE⟩
 ·refine ⟨λ mm i w'=>∃ k:Nat,i = .int .i64 (k:Int)∧mm=xs.length - k∧k≤xs.length∧xs.take k=ys.take k∧St w bD [] w',⟨_,0,rfl,rfl,Nat.zero_le _,rfl,hs⟩,?_⟩;rintro mm _ w1 ⟨k,rfl,rfl,hk,heq,hs⟩ fu;refine aJ oQ (HC.ext hs.aE) (aR (aC (λ gV=>?_) (λ gV=>?_)))
  ·obtain ⟨ra,ak8⟩:∃ xx,xs[k]? = some xx:=⟨_,List.getElem?_eq_getElem (by omega)⟩;obtain ⟨rb,ak9⟩:∃ xx,ys[k]? = some xx:=⟨_,List.getElem?_eq_getElem (by omega)⟩;refine ⟨λ jv w'=>jv = .bool (!decide (ra=rb))∧St w bD [] w',?_,?_⟩
   ·obtain ⟨jg,fE⟩:=gx ar3 (i:=((k:Int)).toNat) (by omega);obtain ⟨dK,oc⟩:=gx (xs) (i:=((k:Int)).toNat) (by omega);obtain ⟨S8,rfl,S9⟩:=age.2 _ _ _ fE oc;refine aQ oQ HC (by omega) fE (λ _ jR=>bT (dK).kind pk jR rfl rfl (λ _ LB=>have hs:=hs.drew;aD bN (LB.ext hs.aE) ?_));obtain ⟨gW,iB⟩:=gx ar5 (i:=((k:Int)).toNat) (by omega);obtain ⟨B7,wG⟩:=gx (ys) (i:=((k:Int)).toNat) (by omega);obtain ⟨Ta,rfl,Tb⟩:=agf.2 _ _ _ iB wG;refine aQ oQ MI (by omega) iB (λ _ wg=>bT (B7).kind pk wg rfl rfl (λ _ um=>aD bN (um.ext hs.aE) ?_))
    have hra:ra=dK:=Option.some.inj (ak8.symm.trans oc);have Yu:rb=B7:=Option.some.inj (ak9.symm.trans wG);have hcx:=hc _ (List.mem_of_getElem? oc);refine cT (aC (λ gn=>?_) (λ gn=>?_))
    ·exact ⟨vb (by rw [hra,Yu]; rw [decide_eq_false (λ h=>by rw [C8] at h; omega)]; rfl),hs⟩
    ·refine aQ oQ HC (by omega) fE (λ _ oH=>bT (dK).t jM oH rfl rfl (λ _ z9=>aD bN (z9.ext hs.aE) (aQ oQ MI (by omega) iB (λ _ rq=>bT (B7).t jM rq rfl rfl (λ _ wv=>aD bN (wv.ext hs.aE) (cT (aC (λ sB=>?_) (λ sB=>?_))))))))
     ·exact ⟨vb (by rw [hra,Yu]; rw [decide_eq_false (λ h=>by rw [C8] at h; omega)]; rfl),hs⟩
     ·refine aQ oQ HC (by omega) fE (λ _ AK=>bT (dK).i xe AK rfl rfl (λ _ Li=>aD bN (Li.ext hs.aE) (aQ oQ MI (by omega) iB (λ _ Eo=>bT (B7).i xe Eo rfl rfl (λ _ Vi=>aD bN (Vi.ext hs.aE) (cT (aC (λ sE=>?_) (λ sE=>?_))))))))
      ·exact ⟨vb (by rw [hra,Yu]; rw [decide_eq_false (λ h=>by rw [C8] at h; omega)]; rfl),hs⟩
      ·refine aQ oQ HC (by omega) fE (λ _ Ab=>bT S8 zC Ab rfl rfl (λ _ Ac=>aD er (Ac.ext hs.aE) ?_));have ar6:=DL.flat (S9);refine aQ oQ MI (by omega) iB (λ _ LD=>bT Ta zC LD rfl rfl (λ _ Lk=>aD er (Lk.ext hs.aE) ?_));have ar7:=DL.flat (Tb);refine aZ YK hs (C21 _ _ (dK).cut (B7).cut _ (ar6.ext hs.aE) (ar7.ext hs.aE) (by omega)) (λ w2 he hs=>bZ ?_);exact ⟨vb (by rw [hra,Yu]; exact congrArg (λ b=>!b) (decide_eq_decide.2 (by rw [C8]; exact ⟨λ h=>⟨by omega,by omega,by omega,h⟩,λ h=>h.2.2.2⟩))),hs⟩
   ·rintro _ w3 ⟨rfl,hs⟩ jz;refine aY (λ oh=>?_) (λ oh=>?_)
    ·exact ⟨vb (decide_eq_false (agd ak8 ak9 (by simpa using oh))).symm,hs.aE⟩
    ·refine aN (by omega) ?_;exact ⟨_,by omega,k+1,rfl,rfl,by omega,AV heq ak8 ak9 (by simpa using oh),hs⟩
  ·exact ⟨vb (decide_eq_true (by rw [List.take_of_length_le (by omega),List.take_of_length_le (by omega)] at heq; exact heq)).symm,hs.aE⟩
def xG:ByteArray:=⟨#[108,105,110,101,32,97,59,32,118,111,108,32,120,59,32,108,111,99,107,32,109,59,32,116,104,114,101,97,100,32,116,32,123,32,114,101,103,32,114,59,32,115,116,111,114,101,32,97,32,61,32,49,59,32,108,111,97,100,32,114,32,61,32,97,59,32,111,112,116,32,97,59,32,116,97,107,101,32,109,59,32,125,32,116,104,114,101,97,100,32,117,32,123,32,114,101,103,32,114,59,32,108,111,97,100,32,114,32,61,32,97,59,32,99,104,101,99,107,32,114,59,32,125,32,114,101,99,111,118,101,114,32,123,32,125,32,97,108,119,97,121,115,32,97,32,61,61,32,49,59]⟩
def vJ:cO:=((rW xG).getD (Mo,0,0)).1
theorem Tc:rW xG=some (vJ,0,0):=by decide +kernel
theorem HD:fV vJ=0:=by decide +kernel
def Ga:iz:=⟨[0,1],1,[0,0],1,[⟨1,0,[⟨3,0,0,[⟨1,1⟩],[],0⟩,⟨2,0,0,[],[],0⟩,⟨6,0,0,[],[],0⟩,⟨9,0,0,[],[],0⟩]⟩,⟨1,0,[⟨2,0,0,[],[],0⟩,⟨15,0,0,[⟨2,0⟩],[],0⟩]⟩],⟨0,0,[]⟩,[[⟨2,0⟩,⟨1,1⟩,⟨10,0⟩]]⟩
theorem AW:en vJ=Ga:=by decide +kernel
theorem Td:((uC xG).map λ r=>decide (r.1.length≤5000) && r.1.all (λ x=>decide (0≤x.at_∧x.at_≤1000000∧x.text.size≤1000000)))=some true:=by decide +kernel
theorem Ya:∀ l e a,uC xG=some (l,e,a)→iD l:=by
 intro l e a h
 have:=Td
 rw [h] at this
 simp only [Option.map_some,Option.some.injEq,Bool.and_eq_true,decide_eq_true_eq,List.all_eq_true] at this
 exact ⟨this.1,λ x hx=>this.2 x hx⟩
theorem adL:mW vJ=vJ:=by decide +kernel
theorem ala:PZ vJ:=by rw [← adL]; exact IV _
theorem JC:yM vJ:=Aj HD
def Pf:List fx:=Ga.threads.map λ c=>(sb 20 (pU c)).getD (pU c)
theorem alb:Ga.threads.all (λ c=>(sb 20 (pU c)).isSome)=true:=by decide +kernel
theorem HE:qk 20 Ga.threads Pf:=by
 refine ⟨by unfold Pf; rw [List.length_map],λ j c t hc ht=>?_⟩
 unfold Pf at ht
 rw [List.getElem?_map,hc,Option.map_some] at ht
 have h:=List.all_eq_true.1 alb c (List.mem_of_getElem? hc)
 obtain ⟨t2,h2⟩:=Option.isSome_iff_exists.1 h
 rw [h2] at ht
 rw [h2]; exact ht
def fx0:gO:=lM (ld Ga 2) Pf
def vn (m:gO) (q:fa):gO × dA × Int:=(Cd 20 m q).getD (m,⟨0,0,0,0,0⟩,99)
theorem mT {m:gO} {q:fa} {ev:dA} {e:Int} (h:(vn m q).2=(ev,e)) (he:e≠99):Cd 20 m q=some ((vn m q).1,ev,e):=by
 unfold vn at h ⊢
 cases hd:Cd 20 m q with
 | none=>rw [hd] at h; cases h; exact absurd rfl he
 | some r=>rw [hd] at h; show some r=some (r.1,ev,e); rw [show r=(r.1,r.2) from rfl,show r.2=(ev,e) from h]
def MJ:fa:=⟨1,0,0,[]⟩
def pOt:fa:=⟨1,1,0,[]⟩
def pOu:fa:=⟨2,0,0,[]⟩
def pCr:fa:=⟨3,0,0,[1]⟩
def fx1:gO:=(vn fx0 MJ).1
def fx2:gO:=(vn fx1 MJ).1
def fx3:gO:=(vn fx2 pOt).1
def fx4:gO:=(vn fx3 pOu).1
def fx5:gO:=(vn fx4 MJ).1
def fx6:gO:=(vn fx5 MJ).1
def fx7:gO:=(vn fx6 pCr).1
def fxo:gO:=(vn fx6 pOt).1
theorem fd1:(vn fx0 MJ).2=(⟨3,0,0,1,0⟩,0):=by decide +kernel
theorem fd2:(vn fx1 MJ).2=(⟨2,0,0,1,0⟩,0):=by decide +kernel
theorem fd3:(vn fx2 pOt).2=(⟨1,1,0,0,0⟩,0):=by decide +kernel
theorem fd4:(vn fx3 pOu).2=(⟨12,0,0,1,0⟩,0):=by decide +kernel
theorem fd5:(vn fx4 MJ).2=(⟨5,0,0,0,0⟩,0):=by decide +kernel
theorem fd6:(vn fx5 MJ).2=(⟨0,0,0,0,0⟩,13):=by decide +kernel
theorem fd7:(vn fx6 pCr).2=(⟨15,0,0,1,0⟩,0):=by decide +kernel
theorem fdo:(vn fx6 pOt).2=(⟨16,1,1,0,0⟩,0):=by decide +kernel
theorem fp2:eV fx2=[MJ,pOu,pOt]:=by decide +kernel
theorem ar8:CU fx7=[true]:=by decide +kernel
theorem fpo:eV fxo=[]:=by decide +kernel
theorem fco:rP fxo=[]:=by decide +kernel
theorem fro:AA fxo 0=[1]:=by decide +kernel
theorem fr2:AA fxo 2=[]:=by decide +kernel
theorem fl7:fx7.mem.l=[1,0]:=by decide +kernel
theorem fk7:fx7.mem.kept=[1]:=by decide +kernel
theorem frt:nx Ez=false:=by decide +kernel
structure zg (p:cO) (m:gO) (n:Nat):Prop where
 pm:PM p m
 mb:MB m.mem n
 cr:m.fG≤n
theorem zg.do {p:cO} {m m2:gO} {n N:Nat} {q:fa} {ev:dA} {e:Int} (h:zg p m n) (hd:Cd N m q=some (m2,ev,e)):zg p m2 (n+1):=
 ⟨h.pm.do hd,h.mb.do hd,by have:=(Fm hd).1; have:=h.cr; omega⟩
theorem zg.new {p:cO} {N:Nat} {room:Int} {lB:List fx} (h:yM p) (hb:qk N (en p).threads lB) (ht:∀ t∈lB,C6 p t) (hr:1≤room∧room≤16):zg p (lM (ld (en p) room) lB) 0:=
 ⟨PM.new h hb ht hr,MB.new,Int.le_refl _⟩
section
variable {p:cO} {K:World→Prop} {q:Nat} {m:gO} {n:Nat} {w:World}
theorem adP (h:zg p m n) (hm:Has (eK K q m) w) (hw:K w) (vH:∀ w',Ext w w'→K w'):Calls PG 16 [(.pointer (some ⟨q,0,none⟩))].toArray w (qp λ v w'=>mc (fj v (eV m)) w w'):=C16 K q m w hm hw vH h.pm.gm.ok
theorem ald (h:zg p m n) (hm:Has (eK K q m) w) (hw:K w) (vH:∀ w',Ext w w'→K w'):Calls PG 18 [(.pointer (some ⟨q,0,none⟩))].toArray w (qp λ v w'=>v=Flat.val (gS m)∧Ext w w'):=C18 K q m w hm hw vH h.pm.gm.ok
theorem azm (h:zg p m n) (hn:n≤1000000) (hm:Has (eK K q m) w) (hw:K w) (vH:∀ w',Ext w w'→K w'):Calls PG 19 [(.pointer (some ⟨q,0,none⟩))].toArray w (qp λ v w'=>∃ b,v = .pointer (some ⟨b,0,none⟩)∧mc (eK K b m) w w'):=C19 K q m w hm hw vH h.pm.gm.ok (h.mb.mono hn) (by have:=h.pm.gm.ru.lk; omega)
theorem azn (h:zg p m n) (hm:Has (eK K q m) w) (hw:K w) (vH:∀ w',Ext w w'→K w'):Calls PG 22 [(.pointer (some ⟨q,0,none⟩))].toArray w (qp λ v w'=>mc (bL v m.mem.l) w w'):=C22 K q m w hm hw vH h.pm.gm.ok
theorem azo (h:zg p m n) (hm:Has (eK K q m) w) (hw:K w) (vH:∀ w',Ext w w'→K w'):Calls PG 23 [(.pointer (some ⟨q,0,none⟩))].toArray w (qp λ v w'=>mc (bL v m.mem.kept) w w'):=C23 K q m w hm hw vH h.pm.gm.ok
theorem GM.rgl (h:GM m):∀ t∈m.l,t.aK.length≤4:=λ t ht=>by
 have h1:=(h.th t ht).1.rg; have h2:=(h.code ht).rb; omega
theorem ar9 (i:Int) (h:zg p m n) (hm:Has (eK K q m) w) (hw:K w) (vH:∀ w',Ext w w'→K w'):Calls PG 25 [(.pointer (some ⟨q,0,none⟩)),.int .i64 i].toArray w (qp λ v w'=>mc (bL v (AA m i)) w w'):=C25 K q m i w hm hw vH h.pm.gm.ok λ t ht=>by have:=h.pm.gm.rgl t ht; omega
theorem azp (h:zg p m n) (hn:n≤1000000) (hC:(fJ (I8 m.mem)).length≤1000000000) (hm:Has (eK K q m) w) (hw:K w) (vH:∀ w',Ext w w'→K w'):Calls PG 31 [(.pointer (some ⟨q,0,none⟩))].toArray w (qp λ v w'=>mc (fj v (rP m)) w w'):=C31 K q m w hm hw vH h.pm.gm.ok (h.mb.mono hn) hC
theorem azq (h:zg p m n) (hm:Has (eK K q m) w) (hw:K w) (vH:∀ w',Ext w w'→K w'):Calls PG 49 [(.pointer (some ⟨q,0,none⟩))].toArray w (qp λ v w'=>mc (bL v (CU m)) w w'):=by
 have h1:=h.pm.gm.ru.st; have h2:=h.pm.gm.ru.fl; have h3:=h.pm.gm.mem.ll; have h4:=h.pm.gm.dC
 exact C49 K q m w hm hw vH h.pm.gm.ok h.pm.gm.uz.cB h.pm.gm.uz.cl ⟨h1.1,by rw [h3,h4]; omega⟩
theorem JD {N:Nat} {k:fa} {gc:SV} {m2:gO} {ev:dA} {e:Int} {F:Nat→Prop} (h:zg p m n) (hn:n≤1000000) (hd:Cd N m k=some (m2,ev,e)) (hql:k.cut.length≤1000) (hF:(eK K q m).p w F) (hK:∀ w',iH F w w'→K w') (AG:∀ w',iH F w w'→eL (λ _=>True) w' (Flat.val gc) k.cut) :
  Calls PG 17 [(.pointer (some ⟨q,0,none⟩)),Flat.val (⟨k.kind,k.t,k.i,gc⟩:fU)].toArray w (qp λ v w'=>v = .tuple #[Flat.val ev,.int .i64 e]∧qx F (eK K q m2) w w'):=
 C17 K q m N k gc m2 ev e F w hF hK h.pm.gm.ok (h.mb.mono hn) ⟨h.pm.gm.cr,by have:=h.cr; omega⟩ (h.pm.gm.ru.rc.ok h.pm.gm.uz.rc) (by have:=h.pm.gm.ru.lk; omega) AG hql hd
theorem asa (u:iz) (uv:dO) (room:Int) (N:Nat) (lB:List fx) (hu:cD.dr w uv u) (hz:UZ u) (hr:nx u=true) (hn:QW N u lB) (h1:1≤room) (h2:room≤16):Calls PG 15 [Flat.val uv,.int .i64 room].toArray w (qp λ v w'=>∃ K p,v = .tuple #[.pointer (some ⟨p,0,none⟩),.int .i64 0]∧mc (sep (eK K p (lM (ld u room) lB)) (eY K)) w w'):=
 (C15 u uv room N lB w hu hz λ _=>hn).mono λ _ _ r=>r.mono λ _ _ h=>by
  rcases h with ⟨h3,_⟩ | ⟨_,h3,_⟩ | ⟨_,_,_,h3⟩
  ·rw [hr] at h3; cases h3
  ·omega
  ·exact h3
theorem asb (uv:dO) (room:Int) (hu:cD.dr w uv Ez):Calls PG 15 [Flat.val uv,.int .i64 room].toArray w (qp λ v w'=>v = .tuple #[.pointer none,.int .i64 8]∧Ext w w'):=
 (C15 Ez uv room 0 [] w hu ⟨by decide,by decide,by decide,by decide,λ c hc=>(by cases hc),⟨by decide,λ x hx=>(by cases hx)⟩,λ l hl=>(by cases hl)⟩ (λ h=>by rw [frt] at h; cases h)).mono λ _ _ r=>r.mono λ _ _ h=>by
  rcases h with ⟨_,h3⟩ | ⟨h3,_⟩ | ⟨h3,_⟩
  ·exact h3
  ·rw [frt] at h3; cases h3
  ·rw [frt] at h3; cases h3
end
theorem Yb {p:cO} {N:Nat} {lB:List fx} (h:yM p) (hb:qk N (en p).threads lB):∀ t∈lB,C6 p t:=by
 intro t ht
 obtain ⟨i,hi⟩:=pe ht
 have mE:=(List.getElem?_eq_some_iff.1 hi).1
 obtain ⟨c,hc⟩:∃ c,(en p).threads[i]? = some c:=⟨_,List.getElem?_eq_getElem (by rw [← hb.1]; exact mE)⟩
 have hg:=hb.2 i c t hc hi
 have Ja:=List.mem_of_getElem? hc
 obtain ⟨tt,htt,rfl⟩:=List.mem_map.1 (show c∈p.threads.map (kM p) from Ja)
 obtain ⟨b,hb2,_⟩:=C7 h (List.mem_append_left p.recover htt)
 have hru:=pY (qK h).1
 have h0:C6 p (pU (kM p tt)):=⟨b,tt.aK,λ g=>by obtain ⟨r,h1,_⟩:=AU hb2 (hru.th _ Ja).cb.1 g; exact ⟨r,h1⟩⟩
 exact h0.go hg
theorem asc:zg vJ fx0 0:=by
 have hb:qk 20 (en vJ).threads Pf:=by rw [AW]; exact HE
 have:=zg.new (room:=2) JC hb (Yb JC hb) (by decide)
 rw [AW] at this; exact this
theorem asd:zg vJ fx1 1:=asc.do (mT fd1 (by decide))
theorem adQ:zg vJ fx2 2:=asd.do (mT fd2 (by decide))
theorem ase:zg vJ fx3 3:=adQ.do (mT fd3 (by decide))
theorem asf:zg vJ fx4 4:=ase.do (mT fd4 (by decide))
theorem asg:zg vJ fx5 5:=asf.do (mT fd5 (by decide))
theorem Yc:zg vJ fx6 6:=asg.do (mT fd6 (by decide))
theorem adR:zg vJ fx7 7:=Yc.do (mT fd7 (by decide))
theorem Yd:zg vJ fxo 7:=Yc.do (mT fdo (by decide))
theorem azr:(fJ (I8 fxo.mem)).length≤1000000000:=by decide +kernel
theorem JE:nx Ga=true∧UZ Ga:=by have:=qK JC; rw [AW] at this; exact this
theorem adS:QW 20 Ga Pf:=Mx (pY JE.1) JE.2 HE
theorem adT (w:World):lg [(⟨1,0,0,⟨none,0,0⟩⟩:fU),⟨2,0,0,⟨none,0,0⟩⟩,⟨1,1,0,⟨none,0,0⟩⟩] [MJ,pOu,pOt] w:=by
 have h1:lg ([]++[(⟨1,0,0,⟨none,0,0⟩⟩:fU)]) ([]++[MJ]) w:=lg.nil.snoc ⟨_,rfl,DL.nil w⟩
 have h2:lg ([]++[(⟨1,0,0,⟨none,0,0⟩⟩:fU)]++[⟨2,0,0,⟨none,0,0⟩⟩]) ([]++[MJ]++[pOu]) w:=h1.snoc ⟨_,rfl,DL.nil w⟩
 exact h2.snoc ⟨_,rfl,DL.nil w⟩
theorem HF {p:cO} {m:gO} {n:Nat} (_:zg p m n):∀ x∈eV m,x.cut=[]:=by
 intro x hx
 unfold eV at hx
 split at hx
 ·cases hx
 ·obtain ⟨i,t,_,_,AY⟩:=sP hx
  unfold rO at AY
  rw [List.mem_append] at AY
  rcases AY with AY | AY
  ·split at AY
   ·simp at AY; rw [AY]
   ·cases AY
  ·rw [List.mem_map] at AY; obtain ⟨k,_,rfl⟩:=AY; rfl
theorem ale (s:ByteArray) (p:cO) (e a:Int) (w:World) (Ym:s.size≤1000000) (hr:rW s=some (p,e,a)) (hTk:∀ l e a,uC s=some (l,e,a)→iD l) (hz:PZ p) (hc:fV p=0) :
  Calls PG 48 [.string s].toArray w (qp λ v w'=>∃ uv:dO,v=Flat.val uv∧mc (eY (λ w=>cD.dr w uv (en p))) w w'):=
 (C48 s (p,e,a) w Ym hr hTk hz).mono λ _ _ r=>r.mono λ v w' h=>by
  obtain ⟨uv,h1,h2⟩:=h
  refine ⟨uv,h1,?_⟩
  have e1:(if fV p=0 then en p else Ez)=en p:=if_pos hc
  have h3:mc (eY (λ w=>cD.dr w uv (if fV p=0 then en p else Ez))) w w':=h2
  rw [e1] at h3; exact h3
theorem ash (w:World):Calls PG 48 [.string xG].toArray w (qp λ v w'=>∃ uv:dO,v=Flat.val uv∧mc (eY (λ w=>cD.dr w uv Ga)) w w'):=by
 rw [← AW]
 exact ale xG vJ 0 0 w (by decide +kernel) Tc Ya ala HD
set_option maxHeartbeats 4000000 in
set_option maxRecDepth 100000 in
theorem C14 (w:World):CR 14 [] w (λ v w'=>v = .bool true∧Ext w w'):=by
 have hs:=St.start w;refine agw _ _ ?_;unfold S14;refine eu aup (ash _) ?_;rintro _ w1 ⟨alf,rfl,cA⟩;have hs:=hs.made cA;refine eu agI (asa Ga alf 2 20 Pf (hs).eY JE.2 JE.1 adS (by decide) (by decide)) ?_;rintro _ w2 ⟨K,p,rfl,cA⟩;have hs:=(hs.made cA).split;refine bG rfl (bG rfl (pop (v:=Flat.val (⟨⟨none,0,0⟩,0,⟨none,0,0⟩,0,⟨none,0,0⟩,(⟨0,0,⟨none,0,0⟩⟩:cL),⟨none,0,0⟩⟩:dO)) (by kernel_rfl) (have hs:=(hs.p2).drop;aZ agI hs (asb (⟨⟨none,0,0⟩,0,⟨none,0,0⟩,0,⟨none,0,0⟩,(⟨0,0,⟨none,0,0⟩⟩:cL),⟨none,0,0⟩⟩:dO) 2 (show cD.dr _ (⟨⟨none,0,0⟩,0,⟨none,0,0⟩,0,⟨none,0,0⟩,(⟨0,0,⟨none,0,0⟩⟩:cL),⟨none,0,0⟩⟩:dO) (⟨[],0,[],0,[],(⟨0,0,[]⟩:fm),[]⟩:iz) from ⟨_,_,_,_,_,rfl,DL.nil _,DL.nil _,DL.nil _,⟨_,rfl,DL.nil _⟩,DL.nil _⟩)) (λ w3 he hs=>bG rfl (bG rfl ?_)))))
 refine ⟨_,?_,λ _ _ h=>h⟩;refine Dr Ua (fN (cT ?_));intro fu;refine gq (by decide) (pop (Ik _) (pop (GA _ _) (aO hs Ub (λ atP w5 hs=>have hs:=hs.enc (cs':=Flat.enc (⟨0,0,0,⟨none,0,0⟩⟩:fU)) rfl;aO hs Ub (λ asi w6 hs=>have hs:=hs.enc (cs':=Flat.enc (⟨0,0,0,⟨none,0,0⟩⟩:fU)) rfl;aI (x:=(⟨1,0,0,⟨none,0,0⟩⟩:fU)) hs.p1 vT rfl rfl (λ w7 hs=>aI (x:=(⟨1,1,0,⟨none,0,0⟩⟩:fU)) hs.p1 vT rfl rfl (λ w8 hs=>aD vT hs.p1.At (bI HU hs.p2 (H':=λ _=>eK K p fx1) (Φ:=λ v _=>v = .tuple #[Flat.val (⟨3,0,0,1,0⟩:dA),.int .i64 0]) (λ F2 eN ey=>?_) ?_))))))))
 ·exact JD (N:=20) (k:=MJ) (gc:=⟨none,0,0⟩) asc (by decide) (mT fd1 (by decide)) (by decide) eN (λ w' hc=>((ey w' hc).p2).eY) (λ w' hc=>(eL.nil (λ _=>True) w'))
 rintro _ w9 rfl hs;refine bG rfl (bG rfl (aO hs lI (λ b_a7 qd hs=>aI (x:=(⟨3,0,0,1,0⟩:dA)) hs eW rfl rfl (λ tG hs=>aD vT hs.p3.At (bI HU hs.p1 (H':=λ _=>eK K p fx2) (Φ:=λ v _=>v = .tuple #[Flat.val (⟨2,0,0,1,0⟩:dA),.int .i64 0]) (λ F2 eN ey=>?_) ?_)))))
 ·exact JD (N:=20) (k:=MJ) (gc:=⟨none,0,0⟩) asd (by decide) (mT fd2 (by decide)) (by decide) eN (λ w' hc=>((ey w' hc).p3).eY) (λ w' hc=>(eL.nil (λ _=>True) w'))
 rintro _ vt rfl hs;refine bG rfl (bG rfl (aO hs lI (λ b_b9 uU hs=>aI (x:=(⟨2,0,0,1,0⟩:dA)) hs eW rfl rfl (λ sw hs=>dG FG hs (adP adQ (hs.p1).has (hs.p5).eY (λ w' e=>St.ox (hs.p5) e)) (λ x57 wc cA hs=>aD vT hs.p4.At (bI HU hs.p2 (H':=λ _=>eK K p fx3) (Φ:=λ v _=>v = .tuple #[Flat.val (⟨1,1,0,0,0⟩:dA),.int .i64 0]) (λ F2 eN ey=>?_) ?_))))))
 ·exact JD (N:=20) (k:=pOt) (gc:=⟨none,0,0⟩) adQ (by decide) (mT fd3 (by decide)) (by decide) eN (λ w' hc=>((ey w' hc).p5).eY) (λ w' hc=>(eL.nil (λ _=>True) w'))
 rintro _ ze rfl hs;refine bG rfl (bG rfl (aO hs lI (λ b_c12 Cn hs=>aI (x:=(⟨1,1,0,0,0⟩:dA)) hs eW rfl rfl (λ Iy hs=>pop (Ik _) (bI HU hs.p1 (H':=λ _=>eK K p fx4) (Φ:=λ v _=>v = .tuple #[Flat.val (⟨12,0,0,1,0⟩:dA),.int .i64 0]) (λ F2 eN ey=>?_) ?_)))))
 ·exact JD (N:=20) (k:=pOu) (gc:=⟨none,0,0⟩) ase (by decide) (mT fd4 (by decide)) (by decide) eN (λ w' hc=>((ey w' hc).p6).eY) (λ w' hc=>(eL.nil (λ _=>True) w'))
 rintro _ JG rfl hs;refine bG rfl (bG rfl (aO hs lI (λ b_d14 KR hs=>aI (x:=(⟨12,0,0,1,0⟩:dA)) hs eW rfl rfl (λ MN hs=>aD vT hs.p7.At (bI HU hs.p1 (H':=λ _=>eK K p fx5) (Φ:=λ v _=>v = .tuple #[Flat.val (⟨5,0,0,0,0⟩:dA),.int .i64 0]) (λ F2 eN ey=>?_) ?_)))))
 ·exact JD (N:=20) (k:=MJ) (gc:=⟨none,0,0⟩) asf (by decide) (mT fd5 (by decide)) (by decide) eN (λ w' hc=>((ey w' hc).p7).eY) (λ w' hc=>(eL.nil (λ _=>True) w'))
 rintro _ Qw rfl hs;refine bG rfl (bG rfl (aD vT hs.p7.At (bI HU hs (H':=λ _=>eK K p fx6) (Φ:=λ v _=>v = .tuple #[Flat.val (⟨0,0,0,0,0⟩:dA),.int .i64 13]) (λ F2 eN ey=>?_) ?_)))
 ·exact JD (N:=20) (k:=MJ) (gc:=⟨none,0,0⟩) asg (by decide) (mT fd6 (by decide)) (by decide) eN (λ w' hc=>((ey w' hc).p7).eY) (λ w' hc=>(eL.nil (λ _=>True) w'))
 rintro _ Tl rfl hs;refine bG rfl (bG rfl (aO hs lI (λ asj VK hs=>aI (x:=(⟨0,0,0,0,0⟩:dA)) hs eW rfl rfl (λ Se hs=>eu auj (azm Yc (by decide) (hs.p1).has (hs.p9).eY (λ w' e=>St.ox (hs.p9) e)) ?_))));rintro _ w26 ⟨asl,rfl,cA⟩;have hs:=hs.made cA;refine bX (([1]:List Int)) hs eg rfl rfl (eE rfl) (λ s_x86 w27 hs=>?_);obtain ⟨alg,rfl⟩:=(hs).fT;refine pop (GB _ _ _ _) (bI HU hs.p3 (H':=λ _=>eK K p fx7) (Φ:=λ v _=>v = .tuple #[Flat.val (⟨15,0,0,1,0⟩:dA),.int .i64 0]) (λ F2 eN ey=>?_) ?_)
 ·exact JD (N:=20) (k:=pCr) (gc:=alg) Yc (by decide) (mT fd7 (by decide)) (by decide) eN (λ w' hc=>((ey w' hc).uI).eY) (λ w' hc=>((ey w' hc)).fM)
 rintro _ w28 rfl hs;refine bG rfl (bG rfl (aO hs lI (λ b_k19 w29 hs=>aI (x:=(⟨15,0,0,1,0⟩:dA)) hs eW rfl rfl (λ w30 hs=>have hs:=((hs.p2.drop).p3).drop;aZ agJ hs (ald adR (hs.p1).has (hs.uI).eY (λ w' e=>St.ox (hs.uI) e)) (λ w31 he hs=>dG auq hs (azq adR (hs.p1).has (hs.uI).eY (λ w' e=>St.ox (hs.uI) e)) (λ x94 w32 cA hs=>aO hs Ds (λ b_s21 w33 hs=>aI (x:=(gS fx7)) hs Ii rfl rfl (λ w34 hs=>Dr Ua (fN (aD vT hs.uI.At (bI HU hs.p4 (H':=λ _=>eK K asl fxo) (Φ:=λ v _=>v = .tuple #[Flat.val (⟨16,1,1,0,0⟩:dA),.int .i64 0]) (λ F2 eN ey=>?_) ?_)))))))))))
 ·exact JD (N:=20) (k:=pOt) (gc:=⟨none,0,0⟩) Yc (by decide) (mT fdo (by decide)) (by decide) eN (λ w' hc=>((ey w' hc).p11).eY) (λ w' hc=>(eL.nil (λ _=>True) w'))
 rintro _ w35 rfl hs;refine bG rfl (bG rfl (aO hs lI (λ b_v23 w36 hs=>aI (x:=(⟨16,1,1,0,0⟩:dA)) hs eW rfl rfl (λ w37 hs=>aZ agJ hs (ald Yd (hs.p1).has (hs.p13).eY (λ w' e=>St.ox (hs.p13) e)) (λ w38 he hs=>aO hs Ds (λ b_w25 Yr hs=>aI (x:=(gS fxo)) hs Ii rfl rfl (λ w40 hs=>?_)))))));refine ⟨_,?_,λ _ _ h=>h⟩;refine aH (fS (by decide) (aD eW hs.p11.At (pop (tZ _ _) (lG GD rfl rfl (show _=decide True from rfl) (fS (by decide) (aH (fS (by decide) (aD eW hs.uI.At (pop (tZ _ _) (lG GD rfl rfl (show _=decide True from rfl) (fS (by decide) (aD vT hs.p13.At ?_))))))))))))
 refine pop (Ik _) (aD vT hs.p12.At (bX ([(⟨1,0,0,⟨none,0,0⟩⟩:fU),⟨2,0,0,⟨none,0,0⟩⟩,⟨1,1,0,⟨none,0,0⟩⟩]) hs oQ rfl rfl (eE rfl) (λ azs w41 hs=>aZ auk hs (C20 _ _ (eV fx2) [MJ,pOu,pOt] _ (hs.uI).dl (DL.of (hs).fM (adT _)) (by rw [fp2]; decide) (λ x hx=>by rw [HF adQ x hx]; decide)) (λ w42 he hs=>fS (decide_eq_true fp2) (have hs:=((((((((hs.uI.drop)).drop).p12).drop).uI).drop).p9).drop;aD eW hs.p8.At (pop (Bf _ _) (lG GD rfl rfl (show _=decide True from rfl) (fS (by decide) (aD eW hs.p7.At (pop (tZ _ _) (lG GD rfl rfl (show _=decide True from rfl) (fS (by decide) ?_))))))))))))
 refine aH (fS (by decide) (aD eW hs.p5.At (pop (tZ _ _) (lG GD rfl rfl (show _=decide True from rfl) (fS (by decide) (aD Ii hs.p3.At (pop (RU _ _) (lG aeP rfl rfl (show _=decide True from rfl) (fS (by decide) (bX ([true]) hs yb rfl rfl (eE rfl) (λ azt w43 hs=>aZ aur hs (C50 _ _ (CU fx7) [true] _ (hs.p5).fM (hs).fM (by rw [ar8]; decide)) (λ w44 he hs=>fS (decide_eq_true ar8) ?_))))))))))));refine aD eW hs.p2.At (pop (sr _ _ _) (lG GD rfl rfl (show _=decide True from rfl) (fS (by decide) (aD Ii hs.p1.At (pop (RV _ _) (lG aeP rfl rfl (show _=decide True from rfl) (fS (by decide) (have hs:=((((((((((((((((hs.drop)).drop)).drop).p1).drop).p1).drop).p1).drop).p2).drop).p2).drop).p2).drop;dG FG hs (adP Yd (hs).has (hs.p2).eY (λ w' e=>St.ox (hs.p2) e)) (λ x170 w45 cA hs=>?_)))))))))
 obtain ⟨atQ,adU,adV,_⟩:=(hs).dl;refine aJ oQ adU ?_;rw [adV];refine aH (fS (by rw [fpo]; rfl) (dG auo hs (azp Yd (by decide) azr (hs.p1).has (hs.p3).eY (λ w' e=>St.ox (hs.p3) e)) (λ x176 w46 cA hs=>?_)));obtain ⟨atS,adW,adX,_⟩:=(hs).dl;refine aJ oQ adW ?_;rw [adX];refine aH (fS (by rw [fco]; rfl) (dG amp hs (ar9 (0) Yd (hs.p2).has (hs.p4).eY (λ w' e=>St.ox (hs.p4) e)) (λ x182 w47 cA hs=>bX (([1]:List Int)) hs eg rfl rfl (eE rfl) (λ azu w48 hs=>aZ YK hs (C21 _ _ (AA fxo (0)) ([1]:List Int) _ (hs.p1).fM (hs).fM (by rw [fro]; decide)) (λ w49 he hs=>fS (decide_eq_true fro) (dG amp hs (ar9 (2) Yd (hs.p4).has (hs.p6).eY (λ w' e=>St.ox (hs.p6) e)) (λ x188 w50 cA hs=>aJ eg (hs).fM (aH (fS (by rw [fr2]; rfl) (dG amo hs (azn adR (hs.p6).has (hs.p7).eY (λ w' e=>St.ox (hs.p7) e)) (λ x194 w51 cA hs=>bX (([1,0]:List Int)) hs eg rfl rfl (eE rfl) (λ azv w52 hs=>aZ YK hs (C21 _ _ (fx7.mem.l) ([1,0]:List Int) _ (hs.p1).fM (hs).fM (by rw [fl7]; decide)) (λ w53 he hs=>?_)))))))))))))
 refine fS (decide_eq_true fl7) (dG aul hs (azo adR (hs.p8).has (hs.p9).eY (λ w' e=>St.ox (hs.p9) e)) (λ x200 w54 cA hs=>bX (([1]:List Int)) hs eg rfl rfl (eE rfl) (λ azw w55 hs=>aZ YK hs (C21 _ _ (fx7.mem.kept) ([1]:List Int) _ (hs.p1).fM (hs).fM (by rw [fk7]; decide)) (λ w56 he hs=>?_))));intro jz;exact ⟨vb (decide_eq_true fk7),hs.aE⟩
theorem Gb {p:cO} {m:gO} {n:Nat} (h:zg p m n):∀ x∈eV m,x.cut.length≤1000:=λ x hx=>by rw [HF h x hx]; decide
def gC (k:Int):Nat:=(oJ k).toNat
theorem alh (b:Bk):ju b→((pg gC b:Nat):Int)=gY b:=by
 induction b with
 | nil=>intro _; rfl
 | cons x a b r uX wk Fv=>
  intro h
  have ha:=uX h.a; have hb:=wk h.b; have hr:=Fv h.r
  show ((Pb gC (pg gC a) (pg gC b) x+pg gC r:Nat):Int)=(if x.kind=12 then x.n * gY a else if x.kind=11 then max (gY a) (gY b) else oJ x.kind)+gY r
  have e:((Pb gC (pg gC a) (pg gC b) x:Nat):Int)=if x.kind=12 then x.n * gY a else if x.kind=11 then max (gY a) (gY b) else oJ x.kind:=by
   have g11:gC 11=0:=rfl
   have g12:gC 12=0:=rfl
   have g13:gC 13=0:=rfl
   have g14:gC 14=0:=rfl
   have g15:gC 15=0:=rfl
   unfold Pb
   by_cases sF:x.kind=11
   ·rw [if_pos sF,if_neg (show ¬ x.kind=12 by omega),if_pos sF,g11,g12]
    split <;> omega
   ·by_cases uJ:x.kind=12
    ·have hn:=h.x uJ
     rw [if_neg sF,if_pos uJ,if_pos uJ,g13,g14,← ha]
     rw [Nat.zero_add,Nat.add_zero,Int.natCast_mul,Int.toNat_of_nonneg (by omega)]
    ·rw [if_neg sF,if_neg uJ,if_neg uJ,if_neg sF]
     have hc:=(IJ x.kind).1
     by_cases Fy:x.kind=13
     ·rw [if_pos Fy,g11,Fy]; rfl
     ·rw [if_neg Fy]
      by_cases JI:x.kind=14
      ·rw [if_pos JI,g15,JI]; rfl
      ·rw [if_neg JI]; exact Int.toNat_of_nonneg hc
  omega
def Fs (p:cO):List fx→Nat→Prop
 | [],_=>True
 | t::l,n=>∃ r k,(∃ b rs,TW gC p b rs t r)∧r+t.buf.length+k≤n∧Fs p l k
theorem Fs.set {p:cO}:∀ {l:List fx} {i n:Nat} {t t':fx},Fs p l n→l[i]? = some t→(∀ b rs r,TW gC p b rs t r→∃ r',TW gC p b rs t' r'∧r'+t'.buf.length+1≤r+t.buf.length)→∃ k,Fs p (l.set i t') k∧k+1≤n
 | [],i,n,t,t',_,h,_=>by simp at h
 | a::l,0,n,t,t',⟨r,k,⟨b,rs,h1⟩,h2,h3⟩,h,hh=>by
  rw [List.getElem?_cons_zero] at h; cases h
  obtain ⟨r',h4,h5⟩:=hh b rs r h1
  exact ⟨r'+t'.buf.length+k,⟨r',k,⟨b,rs,h4⟩,Nat.le_refl _,h3⟩,by omega⟩
 | a::l,i+1,n,t,t',⟨r,k,h1,h2,h3⟩,h,hh=>by
  rw [List.getElem?_cons_succ] at h
  obtain ⟨k2,h4,h5⟩:=Fs.set h3 h hh
  exact ⟨r+a.buf.length+k2,⟨r,k2,h1,Nat.le_refl _,h4⟩,by omega⟩
theorem HG {p:cO} {N:Nat} (h:yM p):∀ (l:List dF) (lB:List fx),(∀ t∈l,t∈p.threads)→lB.length=l.length→(∀ (j:Nat) (c:dF) (t:fx),l[j]? = some c→lB[j]? = some t→sb N (pU (kM p c))=some t)→
  ∃ n,Fs p lB n∧(n:Int)≤(l.map λ t=>xQ t.body).sum
 | [],lB,_,hl,_=>by
  obtain rfl:lB=[]:=List.length_eq_zero_iff.1 hl
  exact ⟨0,trivial,by simp⟩
 | c::l,[],_,hl,_=>by simp at hl
 | c::l,t::lB,hm,hl,hg=>by
  obtain ⟨n,h1,h2⟩:=HG h l lB (λ t ht=>hm t (List.mem_cons_of_mem _ ht)) (by simpa using hl) λ j c t hc ht=>hg (j+1) c t (by rw [List.getElem?_cons_succ]; exact hc) (by rw [List.getElem?_cons_succ]; exact ht)
  have Ja:=hm c (List.mem_cons_self ..)
  have hgo:=hg 0 c t rfl rfl
  obtain ⟨b,hb,FZ,FC⟩:=C7 h (List.mem_append_left p.recover Ja)
  have hru:=pY (qK h).1
  obtain ⟨r,h3,h4⟩:=AU hb (hru.th _ (List.mem_map.2 ⟨c,Ja,rfl⟩)).cb.1 gC
  obtain ⟨r',h5,h6⟩:=h3.go hgo
  have azx:t.buf=[]:=(uF hgo).2
  have hs:xQ c.body=gY b:=by unfold xQ; rw [FZ]
  have ht:=alh b FC
  refine ⟨r'+n,⟨r',n,⟨b,_,h5⟩,by rw [azx]; simp,h1⟩,?_⟩
  rw [List.map_cons,List.sum_cons,hs]
  omega
theorem Ft {m:gO} {q:fa} (hq:q∈eV m):m.fault=0∧∃ (i:Nat) (t:fx),m.l[i]? = some t∧((q=⟨1,i,0,[]⟩∧BF m t=true)∨∃ k,q=⟨2,i,k,[]⟩∧r9 t.buf k=true):=by
 unfold eV at hq
 split at hq
 ·cases hq
 ·rename_i hf
  refine ⟨by omega,?_⟩
  obtain ⟨i,t,_,ht,hx⟩:=sP hq
  refine ⟨i,t,ht,?_⟩
  unfold rO at hx
  rcases List.mem_append.1 hx with h | h
  ·split at h
   ·rename_i hc; exact .inl ⟨by simpa using h,hc⟩
   ·cases h
  ·obtain ⟨k,hk,rfl⟩:=List.mem_map.1 h
   unfold yn at hk
   exact .inr ⟨k,rfl,(List.mem_filter.1 hk).2⟩
theorem adY {m:gO} {t:fx} {i:Int} {x:aW} (hk:2≤x.kind∧x.kind≤10):(dL m t i x).2.1.buf.length+1≤t.buf.length+gC x.kind:=by
 obtain hx | hx | hx | hx | hx | hx:x.kind=2∨x.kind=4∨x.kind=8∨x.kind=9∨x.kind=10∨(x.kind=3∨x.kind=5∨x.kind=6∨x.kind=7):=by omega
 ·have ea:dL m t i x=(m,loadT m t x,Hk m t x):=by unfold dL; rw [if_pos hx]
  rw [ea,hx]; exact Nat.le_refl _
 ·have ea:dL m t i x=(AE m t x,casT m t x,L5 m t x):=by unfold dL; rw [if_neg (by omega),if_pos hx]
  rw [ea,hx]; exact Nat.le_refl _
 ·have ea:dL m t i x=(m,t,⟨7,0,0,0,0⟩):=by unfold dL; rw [if_neg (by omega),if_neg (by omega),if_pos hx]
  rw [ea,hx]; exact Nat.le_refl _
 ·have ea:dL m t i x=(wN m i x,t,⟨10,0,x.b,0,0⟩):=by unfold dL; rw [if_neg (by omega),if_neg (by omega),if_neg (by omega),if_pos hx]
  rw [ea,hx]; exact Nat.le_refl _
 ·have ea:dL m t i x=(sN m i x,t,Cb m i x):=by unfold dL; rw [if_neg (by omega),if_neg (by omega),if_neg (by omega),if_neg (by omega),if_pos hx]
  rw [ea,hx]; exact Nat.le_refl _
 ·have ea:dL m t i x=(m,uA m t x,AD m t x):=by
   unfold dL; rw [if_neg (by omega),if_neg (by omega),if_neg (by omega),if_neg (by omega),if_neg (by omega)]
  rw [ea]
  have hg:gC x.kind=2:=by unfold gC oJ; rw [if_neg (by omega),if_pos hx]; rfl
  rw [hg]
  show (vj m.room t.buf (sM m t x)).length+1≤_
  unfold vj
  split
  ·rw [List.length_append]; exact Nat.le_refl _
  ·omega
theorem adZ {p:cO} {m m2:gO} {N n:Nat} {q:fa} {ev:dA} {e:Int} (h:PM p m) (hq:q∈eV m) (hd:Cd N m q=some (m2,ev,e)) (hp:Fs p m.l n) :
  e=0∧(m2.fault≠0∨(m2.fault=0∧∃ k,Fs p m2.l k∧k+1≤n)):=by
 obtain ⟨hf,i,t,ht,hk⟩:=Ft hq
 have BG:=List.mem_of_getElem? ht
 rcases hk with ⟨rfl,adK⟩ | ⟨k,rfl,hc⟩
 ·have ha:(eV m).any (iW ⟨1,i,0,[]⟩)=true:=List.any_eq_true.2 ⟨_,hq,by unfold iW; simp⟩
  have yD:gR m ⟨1,i,0,[]⟩=none:=by unfold gR; rw [if_neg (by simp)]
  obtain ⟨hs,he⟩:=ng hd yD ha (by simp)
  refine ⟨he,?_⟩
  have ht:m.l[((i:Int)).toNat]? = some t:=ht
  by_cases J2:t.fault≠0
  ·rw [(xw hs ht J2).1]; exact .inl J2
  ·obtain ⟨x,hn⟩:=xy hs ht J2
   have mU:=(h.gm.th t BG).2.1 x hn (by omega)
   by_cases h0:(dL m t i x).1.fault=0
   ·obtain ⟨t2,hg,HK,_⟩:=xz hs ht J2 hn h0
    refine .inr ⟨by rw [HK]; exact h0,?_⟩
    rw [HK]
    show ∃ k,Fs p ((dL m t i x).1.l.set _ _) k∧_
    rw [E6]
    refine hp.set ht λ b rs r hw=>?_
    obtain ⟨r1,h1,h2⟩:=hw.next (t':={ (dL m t i x).2.1 with at_:=(dL m t i x).2.1.at_+1}) hn (.inr (.inr (.inr (.inr ⟨by omega,by omega,by omega,by omega,by show (dL m t i x).2.1.at_+1=_; rw [AF],zb⟩)))) pa
    obtain ⟨r2,h3,h4⟩:=h1.go hg
    have hb:t2.buf=(dL m t i x).2.1.buf:=(uF hg).2
    have:=adY (m:=m) (t:=t) (i:=i) mU
    exact ⟨r2,h3,by rw [hb]; omega⟩
   ·rw [(xA hs ht J2 hn h0).1]; exact .inl h0
 ·have ha:(eV m).any (iW ⟨2,i,k,[]⟩)=true:=List.any_eq_true.2 ⟨_,hq,by unfold iW; simp⟩
  have yD:gR m ⟨2,i,k,[]⟩=none:=by unfold gR; rw [if_neg (by simp)]
  have ht:m.l[((i:Int)).toNat]? = some t:=ht
  obtain ⟨hm,_,he⟩:=pA hd yD ha rfl ht
  refine ⟨he,.inr ⟨by rw [hm]; exact hf,?_⟩⟩
  rw [hm]
  show ∃ j,Fs p (m.l.set _ {t with buf:=kN t.buf k}) j∧_
  refine hp.set ht λ b rs r hw=>⟨r,hw.same rfl rfl rfl,?_⟩
  have hb:=QK hc
  show r+(kN t.buf k).length+1≤_
  unfold kN
  rw [if_pos hc,List.length_eraseIdx_of_lt (by omega)]
  omega
def Gc (p:cO) (m:gO) (k:Nat):Prop:=(m.fault=0∧∃ n,Fs p m.l n∧((k+n:Nat):Int)+1≤B3 p)∨(m.fault≠0∧(k:Int)≤B3 p)
theorem Gc.le {p:cO} {m:gO} {k:Nat} (h:Gc p m k):(k:Int)≤B3 p:=by
 rcases h with ⟨_,n,_,h⟩ | ⟨_,h⟩ <;> omega
theorem Gc.new {p:cO} {N:Nat} {room:Int} {lB:List fx} (h:yM p) (hb:qk N (en p).threads lB):Gc p (lM (ld (en p) room) lB) 0:=by
 obtain ⟨n,h1,h2⟩:=HG (N:=N) h p.threads lB (λ t ht=>ht) (by rw [hb.1]; show (p.threads.map (kM p)).length=_; rw [List.length_map]) λ j c t hc ht=>
  hb.2 j _ t (by show (p.threads.map (kM p))[j]? = _; rw [List.getElem?_map,hc]; rfl) ht
 refine .inl ⟨rfl,n,h1,?_⟩
 unfold B3
 omega
theorem Gc.do {p:cO} {m m2:gO} {N k:Nat} {q:fa} {ev:dA} {e:Int} (h:Gc p m k) (hm:PM p m) (hq:q∈eV m) (hd:Cd N m q=some (m2,ev,e)):e=0∧Gc p m2 (k+1):=by
 have hf:=(Ft hq).1
 rcases h with ⟨_,n,hp,h⟩ | ⟨h,_⟩
 ·obtain ⟨he,h1⟩:=adZ hm hq hd hp
  refine ⟨he,?_⟩
  rcases h1 with h1 | ⟨h1,k2,h2,h3⟩
  ·exact .inr ⟨h1,by omega⟩
  ·exact .inl ⟨h1,k2,h2,by omega⟩
 ·exact absurd hf h
theorem Ye {m:gO} (h:(eV m).length=0):(if (gS m).done=true then (1:Int) else 0)+(if (gS m).stuck=true then 1 else 0)+(if (gS m).fault≠0 then 1 else 0)=1:=by
 show (if pW m=true then (1:Int) else 0)+(if rS m=true then 1 else 0)+(if m.fault≠0 then 1 else 0)=1
 by_cases hf:m.fault=0
 ·rw [if_neg (show ¬ m.fault≠0 from λ h=>h hf)]
  unfold rS
  rw [h,hf]
  cases hd:pW m <;> simp
 ·rw [if_pos hf]
  have h1:pW m=false:=by unfold pW; rw [decide_eq_false hf]; rfl
  have h2:rS m=false:=by unfold rS; rw [decide_eq_false hf]; rfl
  rw [h1,h2]; simp
set_option maxHeartbeats 4000000 in
set_option maxRecDepth 100000 in
theorem C3 (p:cO) (pv:bK) (room:Int) (hv:Value) (how:List Int) (w:World) (hp:cD.dr w pv p) (hH:eL (λ _=>True) w hv how):CR 3 [Flat.val pv,.int .i64 room,hv] w (λ v w'=>v = .bool true∧Ext w w'):=by
 obtain ⟨bE,bP,bF,aS,aT,aX,rfl,cH,cU,cI,bR,bO,bY⟩:=hp;have hAr:=yz room (b:=3) (by omega) (by omega);have hs:=St.start w;refine ame _ _ _ _ _ ?_;unfold S3;refine dE hs (λ wz w1 hs=>aD gy hs.At (eu auh (C11 p (⟨bE,bP,bF,aS,aT,aX⟩:bK) _ ⟨bE,bP,bF,aS,aT,aX,rfl,(cH.ext hs.aE),(cU.ext hs.aE),(cI.ext hs.aE),(bR.ext hs.aE),(bO.ext hs.aE),(bY.ext hs.aE)⟩) ?_));rintro _ w2 ⟨Ji,rfl,cA⟩;have hs:=hs.made cA
 refine aI (x:=Ji) hs.p1 gy rfl rfl (λ w3 hs=>aD gy hs.At (eu amm (C12 (mW p) Ji _ (hs.p1).eY (IV p)) ?_));rintro _ w4 ⟨Pg,rfl,cA⟩;have hs:=hs.made cA;refine bG rfl (bG rfl (aO hs vS (λ b_u7 w5 hs=>have hs:=hs.enc (cs':=Flat.enc (⟨⟨none,0,0⟩,0,⟨none,0,0⟩,0,⟨none,0,0⟩,(⟨0,0,⟨none,0,0⟩⟩:cL),⟨none,0,0⟩⟩:dO)) rfl;aI (x:=Pg) hs tP rfl rfl (λ w6 hs=>aD gy hs.p2.At (aZ aui hs (C13 (mW p) Ji _ (hs.p3).eY (IV p)) (λ w7 he hs=>?_))))));refine ⟨λ jv w'=>jv = .bool (decide (fV (mW p)≠0∨300<(if fV (mW p)=0 then B3 (mW p) else -1)))∧w7=w',?_,?_⟩
 ·refine cT (aC (λ mH=>?_) (λ mH=>?_))
  ·exact ⟨Pq (by omega),rfl⟩
  ·refine cZ ?_;exact ⟨tD (by omega),rfl⟩
 ·rintro _ w8 ⟨rfl,hw⟩ fu;subst hw;refine aC (λ gX=>?_) (λ gX=>?_)
  ·refine aZ amn hs (C14 _) (λ w9 he hs=>?_);exact ⟨rfl,hs.aE⟩
  ·refine aD tP hs.At (PU (by decide) (by decide) (aN (by omega) ?_));have vr:fV (mW p)=0:=by omega
   have EB:=Aj vr;have oF:=qK EB;obtain ⟨N0,lB,I3,htw⟩:=MH EB;have hs:=hs.p1.dQ (Ψ:=λ w=>cD.dr w Pg (en (mW p))) (λ w h=>by rw [if_pos vr] at h; exact h);have azy:Gc (mW p) (lM (ld (en (mW p)) (1+(Km room 3))) lB) 0:=Gc.new EB I3;rw [if_pos vr] at gX;refine eu agI (asa (en (mW p)) Pg (1+(Km room 3)) N0 lB (hs).eY oF.2 oF.1 (Mx (pY oF.1) oF.2 I3) (by omega) (by omega)) ?_;rintro _ qd ⟨K,q,rfl,cA⟩;have hs:=(hs.made cA).split;have azz:zg (mW p) (lM (ld (en (mW p)) (1+(Km room 3))) lB) 0:=zg.new EB I3 htw (by first | decide | omega)
   refine bG rfl (bG rfl ?_);refine ⟨_,?_,λ _ _ h=>h⟩;refine Dr Ua (fN (cT ?_));intro jz;refine gq (by decide) ?_;refine ⟨λ jv w'=>∃ (n:Int) (m:gO) (k:Nat),jv = .int .i64 n∧n≤B3 (mW p)∧(eV m).length=0∧k≤301∧zg (mW p) m k∧St w bD [eK K q m,eY K] w',?_,?_⟩
   ·have hs:=((((hs.p2.drop.p2.drop.p2.drop).p2).drop).p1).p1;refine ⟨λ mm nv iv w'=>∃ (k:Nat) (m:gO),nv = .int .i64 (k:Int)∧iv = .int .i64 (k:Int)∧mm=301 - k∧k≤301∧zg (mW p) m k∧Gc (mW p) m k∧St w bD [eK K q m,eY K] w',⟨301,0,_,rfl,rfl,rfl,by decide,azz,azy,hs⟩,?_⟩;rintro mm _ _ vt ⟨k,m,rfl,rfl,rfl,hk,hm,hE,hs⟩ oG;have hle5:=hE.le;refine aR (fS (decide_eq_true (by have:=hE.le; omega)) (dG FG hs (adP hm (hs).has (hs.p1).eY (λ w' e=>St.ox (hs.p1) e)) (λ x55 uU cA hs=>?_)));obtain ⟨Yf,hs⟩:=hs.KN;have hn55:=(hs.p1).eY.1;refine aJ oQ (hs).fM (aH (aC (λ rC=>?_) (λ rC=>?_)))
    ·have hs:=((((hs.drop)).drop).p1).p1;exact ⟨_,m,k,rfl,hE.le,by omega,hk,hm,hs⟩
    ·refine ⟨λ jv w'=>∃ j:Int,jv = .int .i64 j∧0≤j∧j<Yf.length∧uU=w',?_,?_⟩
     ·refine aJ eg (hH.ext hs.aE) (aR (aC (λ qB=>?_) (λ qB=>?_)))
      ·obtain ⟨QE,EL⟩:=gx (how) (i:=((k:Int)).toNat) (by omega);refine aQ eg hH (by omega) EL (λ _ yl=>aD bN (yl.ext hs.aE) ?_);have hAj:=yz QE (b:=65535) (by omega) (by omega);refine PU (by decide) (by decide) (aJ oQ (hs).fM (aba (by omega) (by omega) ?_));exact ⟨_,rfl,Int.emod_nonneg _ (by omega),Int.emod_lt_of_pos _ (by omega),rfl⟩
      ·exact ⟨_,rfl,by decide,by omega,rfl⟩
     ·rintro _ sw ⟨j5,rfl,hj5a,hj5b,hw⟩ GR;subst hw;obtain ⟨e_x75,Ph⟩:=gx (Yf) (i:=(j5).toNat) (by omega);refine dT hs oQ (by omega) (by omega) (λ _ asm=>ga hs vT asm Ph ?_);obtain ⟨agh,Fj⟩:=gx (eV m) (i:=(j5).toNat) (by omega);obtain ⟨asn,rfl,d_x75⟩:=(hs.p1).eY.2 _ _ _ Ph Fj;have hqm:=List.mem_of_getElem? Fj;obtain ⟨N1,m1,ev1,e1,hd1,hpm1⟩:=X9 hm.pm agh;obtain ⟨rfl,hE2⟩:=hE.do hm.pm hqm hd1;refine bI HU hs.p2 (H':=λ _=>eK K q m1) (Φ:=λ v _=>v = .tuple #[Flat.val (ev1:dA),.int .i64 0]) (λ F2 eN ey=>?_) ?_
      ·exact JD (N:=N1) (k:=agh) (gc:=asn) hm (by omega) hd1 (Gb hm _ hqm) eN (λ w' hc=>((ey w' hc).p2).eY) (λ w' hc=>(by obtain ⟨g2,e2,d2⟩:=((ey w' hc).p1).eY.2 _ _ _ Ph Fj; cases e2; exact d2.flat))
      rintro _ wc rfl hs;refine bG rfl (bG rfl (aO hs lI (λ asj ze hs=>aI (x:=(ev1:dA)) hs eW rfl rfl (λ Cn hs=>cT (gq (by decide) (aN (by omega) (aN (by omega) ?_)))))));have hs:=(((hs.drop.p1.drop.p1).drop).p1).p1;exact ⟨_,by omega,k+1,m1,rfl,rfl,rfl,by omega,hm.do hd1,hE2,hs⟩
   ·rintro _ Iy ⟨n3,m,k,rfl,hle,uH,hk,hm,hs⟩ R7;refine aZ agJ hs (ald hm (hs).has (hs.p1).eY (λ w' e=>St.ox (hs.p1) e)) (λ JG he hs=>aO hs Ds (λ Yg KR hs=>aI (x:=(gS m)) hs Ii rfl rfl (λ MN hs=>?_)));refine ⟨λ jv w'=>∃ n:Int,jv = .int .i64 n∧n=(if (gS m).done=true then 1 else 0)∧0≤n∧n≤1∧St w bD [cC Yg (Flat.enc (gS m)),eK K q m,eY K] w',?_,?_⟩
    ·refine aA CG (aB (v:=.bool (((gS m)).done)) PV hs.hb rfl (aY (λ ug=>?_) (λ ug=>?_)))
     ·refine aN (by omega) ?_;have hs:=hs.p2.p2.p2;exact ⟨_,rfl,by rw [if_pos ug]; rfl,by decide,by decide,hs⟩
     ·have hs:=hs.p2.p2.p2;exact ⟨_,rfl,by rw [if_neg (by rw [ug]; decide)],by decide,by decide,hs⟩
    ·rintro _ Qw ⟨e1,rfl,he1,he1a,he1b,hs⟩ dd6;refine ⟨λ jv w'=>∃ n:Int,jv = .int .i64 n∧n=e1+(if (gS m).stuck=true then 1 else 0)∧0≤n∧n≤2∧St w bD [cC Yg (Flat.enc (gS m)),eK K q m,eY K] w',?_,?_⟩
     ·refine aA CH (aB (v:=.bool (((gS m)).stuck)) PV hs.hb rfl (aY (λ D9=>?_) (λ D9=>?_)))
      ·refine aN (by omega) ?_;have hs:=hs.p2.p2.p2;exact ⟨_,rfl,by rw [if_pos D9],by omega,by omega,hs⟩
      ·have hs:=hs.p2.p2.p2;exact ⟨_,rfl,by rw [if_neg (by rw [D9]; decide)]; omega,by omega,by omega,hs⟩
     ·rintro _ Tl ⟨e2,rfl,he2,he2a,he2b,hs⟩ dd7;refine ⟨λ jv w'=>∃ n:Int,jv = .int .i64 n∧n=e2+(if (gS m).fault≠0 then 1 else 0)∧0≤n∧n≤3∧St w bD [cC Yg (Flat.enc (gS m)),eK K q m,eY K] w',?_,?_⟩
      ·refine aA abc (aB (v:=.int .i64 (((gS m)).fault)) bN hs.hb rfl (cT (aC (λ Lg=>?_) (λ Lg=>?_))))
       ·refine aN (by omega) ?_;have hs:=hs.p2.p2.p2;exact ⟨_,rfl,by rw [if_pos Lg],by omega,by omega,hs⟩
       ·have hs:=hs.p2.p2.p2;exact ⟨_,rfl,by rw [if_neg Lg]; omega,by omega,by omega,hs⟩
      ·rintro _ VK ⟨e3,rfl,he3,he3a,he3b,hs⟩ dd8;refine ⟨λ jv w'=>jv = .bool true∧St w bD [eK K q m,eY K] w',?_,?_⟩
       ·refine jL (fS (decide_eq_true (by rw [if_pos vr]; exact hle)) (dG FG hs (adP hm (hs.p1).has (hs.p2).eY (λ w' e=>St.ox (hs.p2) e)) (λ x104 Se cA hs=>?_)));obtain ⟨atT,ad0,ad1,_⟩:=(hs).dl;refine aJ oQ ad0 ?_;rw [ad1];refine aH (fS (decide_eq_true (by omega)) (aH (fS (decide_eq_true (by have:=Ye uH; omega)) (aZ amn hs (C14 _) (λ w26 he hs=>?_)))));have hs:=((((hs.drop)).drop).p1).p1;exact ⟨rfl,hs⟩
       ·rintro _ w27 ⟨rfl,hs⟩ dd9;exact ⟨rfl,hs.aE⟩
set_option maxRecDepth 100000
theorem own:ownKnob Tryz.prog.godebug=none:=by kernel_rfl
theorem rd9:Bh Tryz.prog 9 ByteArray (λ y=>y.size≤maxLen):=RdT.deep (ahN Tryz.underlying9 (by kernel_rfl)) λ _ _=>rfl
theorem Tp:Bh Tryz.prog 3 Int oE:=RdT.deep (Uy Tryz.underlying3 (by kernel_rfl)) λ _ _=>rfl
theorem aso:Bh Tryz.prog 163 dH xj:=λ w=>⟨by kernel_rfl,λ enc base held fuel cs x h=>by
 obtain ⟨hl,n,hp⟩:=oS Tryz.underlying163 h
 obtain ⟨y0,h0⟩:=hp 0 _ rfl
 obtain ⟨y1,h1⟩:=hp 1 _ rfl
 obtain ⟨y2,h2⟩:=hp 2 _ rfl
 obtain ⟨s0,e0,a0,d0,k0⟩:=(rd9 w).rd enc base held n _ _ h0
 obtain ⟨s1,e1,a1,d1,k1⟩:=(Tp w).rd enc base held n _ _ h1
 obtain ⟨s2,e2,a2,d2,k2⟩:=(Tp w).rd enc base held n _ _ h2
 obtain rfl:s0=a0:=d0
 obtain rfl:s1=a1:=d1
 obtain rfl:s2=a2:=d2
 have p0:=eB (s:=1) e0
 have p1:=eB (s:=1) e1
 have p2:=eB (s:=1) e2
 have hz:cs.drop 3=[]:=List.drop_eq_nil_iff.2 (by rw [hl]; exact Nat.le_of_eq (by kernel_rfl))
 refine ⟨(⟨s0,s1,s2⟩:dH),?_,(⟨s0,s1,s2⟩:dH),rfl,k0,k1,k2⟩
 have e:cs=cs.drop 0:=rfl
 rw [e]
 refine p0.trans ?_
 refine ((congrArg _ p1)).trans ?_
 refine ((congrArg _ (congrArg _ p2))).trans ?_
 exact (congrArg _ (congrArg _ (congrArg _ hz)))⟩
theorem ali:Bh Tryz.prog 23 (List dH) (λ ys:(List dH)=>∀ y∈ys,xj y):=Bh.slice Tryz.underlying23 (by kernel_rfl) aso
theorem azA:Bh Tryz.prog 22 (List (List dH)) (λ ys:(List (List dH))=>∀ y∈ys,(λ ys:(List dH)=>∀ y∈ys,xj y) y):=Bh.slice Tryz.underlying22 (by kernel_rfl) ali
theorem azB:Bh Tryz.prog 95 (List ByteArray) (λ ys:(List ByteArray)=>∀ y∈ys,(λ y:ByteArray=>y.size≤maxLen) y):=Bh.slice Tryz.underlying95 (by kernel_rfl) rd9
theorem asp:Bh Tryz.prog 166 cY zL:=λ w=>⟨by kernel_rfl,λ enc base held fuel cs x h=>by
 obtain ⟨hl,n,hp⟩:=oS Tryz.underlying166 h
 obtain ⟨y0,h0⟩:=hp 0 _ rfl
 obtain ⟨y1,h1⟩:=hp 1 _ rfl
 obtain ⟨y2,h2⟩:=hp 2 _ rfl
 obtain ⟨y3,h3⟩:=hp 3 _ rfl
 obtain ⟨s0,e0,a0,d0,k0⟩:=(Tp w).rd enc base held n _ _ h0
 obtain ⟨s1,e1,a1,d1,k1⟩:=(Tp w).rd enc base held n _ _ h1
 obtain ⟨s2,e2,a2,d2,k2⟩:=(rd9 w).rd enc base held n _ _ h2
 obtain ⟨s3,e3,a3,d3,k3⟩:=(Tp w).rd enc base held n _ _ h3
 obtain rfl:s0=a0:=d0
 obtain rfl:s1=a1:=d1
 obtain rfl:s2=a2:=d2
 obtain rfl:s3=a3:=d3
 have p0:=eB (s:=1) e0
 have p1:=eB (s:=1) e1
 have p2:=eB (s:=1) e2
 have p3:=eB (s:=1) e3
 have hz:cs.drop 4=[]:=List.drop_eq_nil_iff.2 (by rw [hl]; exact Nat.le_of_eq (by kernel_rfl))
 refine ⟨(⟨s0,s1,s2,s3⟩:cY),?_,(⟨s0,s1,s2,s3⟩:cY),rfl,k0,k1,k2,k3⟩
 have e:cs=cs.drop 0:=rfl
 rw [e]
 refine p0.trans ?_
 refine ((congrArg _ p1)).trans ?_
 refine ((congrArg _ (congrArg _ p2))).trans ?_
 refine ((congrArg _ (congrArg _ (congrArg _ p3)))).trans ?_
 exact (congrArg _ (congrArg _ (congrArg _ (congrArg _ hz))))⟩
theorem alj:Bh Tryz.prog 86 (List cY) (λ ys:(List cY)=>∀ y∈ys,zL y):=Bh.slice Tryz.underlying86 (by kernel_rfl) asp
theorem asq:Bh Tryz.prog 173 cE Iw:=λ w=>⟨by kernel_rfl,λ enc base held fuel cs x h=>by
 obtain ⟨hl,n,hp⟩:=oS Tryz.underlying173 h
 obtain ⟨y0,h0⟩:=hp 0 _ rfl
 obtain ⟨y1,h1⟩:=hp 1 _ rfl
 obtain ⟨y2,h2⟩:=hp 2 _ rfl
 obtain ⟨y3,h3⟩:=hp 3 _ rfl
 obtain ⟨y4,h4⟩:=hp 4 _ rfl
 obtain ⟨y5,h5⟩:=hp 5 _ rfl
 obtain ⟨y6,h6⟩:=hp 6 _ rfl
 obtain ⟨y7,h7⟩:=hp 7 _ rfl
 obtain ⟨y8,h8⟩:=hp 8 _ rfl
 obtain ⟨s0,e0,a0,d0,k0⟩:=(Tp w).rd enc base held n _ _ h0
 obtain ⟨s1,e1,a1,d1,k1⟩:=(rd9 w).rd enc base held n _ _ h1
 obtain ⟨s2,e2,a2,d2,k2⟩:=(rd9 w).rd enc base held n _ _ h2
 obtain ⟨s3,e3,a3,d3,k3⟩:=(alj w).rd enc base held n _ _ h3
 obtain ⟨s4,e4,a4,d4,k4⟩:=(alj w).rd enc base held n _ _ h4
 obtain ⟨s5,e5,a5,d5,k5⟩:=(Tp w).rd enc base held n _ _ h5
 obtain ⟨s6,e6,a6,d6,k6⟩:=(Tp w).rd enc base held n _ _ h6
 obtain ⟨s7,e7,a7,d7,k7⟩:=(Tp w).rd enc base held n _ _ h7
 obtain ⟨s8,e8,a8,d8,k8⟩:=(Tp w).rd enc base held n _ _ h8
 obtain rfl:s0=a0:=d0
 obtain rfl:s1=a1:=d1
 obtain rfl:s2=a2:=d2
 obtain rfl:s5=a5:=d5
 obtain rfl:s6=a6:=d6
 obtain rfl:s7=a7:=d7
 obtain rfl:s8=a8:=d8
 have p0:=eB (s:=1) e0
 have p1:=eB (s:=1) e1
 have p2:=eB (s:=1) e2
 have p3:=eB (s:=1) e3
 have p4:=eB (s:=1) e4
 have p5:=eB (s:=1) e5
 have p6:=eB (s:=1) e6
 have p7:=eB (s:=1) e7
 have p8:=eB (s:=1) e8
 have hz:cs.drop 9=[]:=List.drop_eq_nil_iff.2 (by rw [hl]; exact Nat.le_of_eq (by kernel_rfl))
 refine ⟨(⟨s0,s1,s2,s3,s4,s5,s6,s7,s8⟩:bV),?_,(⟨s0,s1,s2,a3,a4,s5,s6,s7,s8⟩:cE),⟨s3,s4,rfl,d3,d4⟩,k0,k1,k2,k3,k4,k5,k6,k7,k8⟩
 have e:cs=cs.drop 0:=rfl
 rw [e]
 refine p0.trans ?_
 refine ((congrArg _ p1)).trans ?_
 refine ((congrArg _ (congrArg _ p2))).trans ?_
 refine ((congrArg _ (congrArg _ (congrArg _ p3)))).trans ?_
 refine ((congrArg _ (congrArg _ (congrArg _ (congrArg _ p4))))).trans ?_
 refine ((congrArg _ (congrArg _ (congrArg _ (congrArg _ (congrArg _ p5)))))).trans ?_
 refine ((congrArg _ (congrArg _ (congrArg _ (congrArg _ (congrArg _ (congrArg _ p6))))))).trans ?_
 refine ((congrArg _ (congrArg _ (congrArg _ (congrArg _ (congrArg _ (congrArg _ (congrArg _ p7)))))))).trans ?_
 refine ((congrArg _ (congrArg _ (congrArg _ (congrArg _ (congrArg _ (congrArg _ (congrArg _ (congrArg _ p8))))))))).trans ?_
 exact (congrArg _ (congrArg _ (congrArg _ (congrArg _ (congrArg _ (congrArg _ (congrArg _ (congrArg _ (congrArg _ hz)))))))))⟩
theorem azC:Bh Tryz.prog 96 (List cE) (λ ys:(List cE)=>∀ y∈ys,Iw y):=Bh.slice Tryz.underlying96 (by kernel_rfl) asq
theorem azD:Bh Tryz.prog 98 dF xk:=λ w=>⟨by kernel_rfl,λ enc base held fuel cs x h=>by
 obtain ⟨hl,n,hp⟩:=oS Tryz.underlying98 h
 obtain ⟨y0,h0⟩:=hp 0 _ rfl
 obtain ⟨y1,h1⟩:=hp 1 _ rfl
 obtain ⟨y2,h2⟩:=hp 2 _ rfl
 obtain ⟨y3,h3⟩:=hp 3 _ rfl
 obtain ⟨s0,e0,a0,d0,k0⟩:=(rd9 w).rd enc base held n _ _ h0
 obtain ⟨s1,e1,a1,d1,k1⟩:=(azB w).rd enc base held n _ _ h1
 obtain ⟨s2,e2,a2,d2,k2⟩:=(azC w).rd enc base held n _ _ h2
 obtain ⟨s3,e3,a3,d3,k3⟩:=(Tp w).rd enc base held n _ _ h3
 obtain rfl:s0=a0:=d0
 obtain rfl:s3=a3:=d3
 have p0:=eB (s:=1) e0
 have p1:=eB (s:=1) e1
 have p2:=eB (s:=1) e2
 have p3:=eB (s:=1) e3
 have hz:cs.drop 4=[]:=List.drop_eq_nil_iff.2 (by rw [hl]; exact Nat.le_of_eq (by kernel_rfl))
 refine ⟨(⟨s0,s1,s2,s3⟩:ed),?_,(⟨s0,a1,a2,s3⟩:dF),⟨s1,s2,rfl,d1,d2⟩,k0,k1,k2,k3⟩
 have e:cs=cs.drop 0:=rfl
 rw [e]
 refine p0.trans ?_
 refine ((congrArg _ p1)).trans ?_
 refine ((congrArg _ (congrArg _ p2))).trans ?_
 refine ((congrArg _ (congrArg _ (congrArg _ p3)))).trans ?_
 exact (congrArg _ (congrArg _ (congrArg _ (congrArg _ hz))))⟩
theorem asr:Bh Tryz.prog 24 (List dF) (λ ys:(List dF)=>∀ y∈ys,xk y):=Bh.slice Tryz.underlying24 (by kernel_rfl) azD
theorem azE:Bh Tryz.prog 89 jE DO:=λ w=>⟨by kernel_rfl,λ enc base held fuel cs x h=>by
 obtain ⟨hl,n,hp⟩:=oS Tryz.underlying89 h
 obtain ⟨y0,h0⟩:=hp 0 _ rfl
 obtain ⟨y1,h1⟩:=hp 1 _ rfl
 obtain ⟨s0,e0,a0,d0,k0⟩:=(alj w).rd enc base held n _ _ h0
 obtain ⟨s1,e1,a1,d1,k1⟩:=(Tp w).rd enc base held n _ _ h1
 obtain rfl:s1=a1:=d1
 have p0:=eB (s:=1) e0
 have p1:=eB (s:=1) e1
 have hz:cs.drop 2=[]:=List.drop_eq_nil_iff.2 (by rw [hl]; exact Nat.le_of_eq (by kernel_rfl))
 refine ⟨(⟨s0,s1⟩:lU),?_,(⟨a0,s1⟩:jE),⟨s0,rfl,d0⟩,k0,k1⟩
 have e:cs=cs.drop 0:=rfl
 rw [e]
 refine p0.trans ?_
 refine ((congrArg _ p1)).trans ?_
 exact (congrArg _ (congrArg _ hz))⟩
theorem azF:Bh Tryz.prog 25 (List jE) (λ ys:(List jE)=>∀ y∈ys,DO y):=Bh.slice Tryz.underlying25 (by kernel_rfl) azE
theorem rd27:Bh Tryz.prog 27 cO abx:=λ w=>⟨by kernel_rfl,λ enc base held fuel cs x h=>by
 obtain ⟨hl,n,hp⟩:=oS Tryz.underlying27 h
 obtain ⟨y0,h0⟩:=hp 0 _ rfl
 obtain ⟨y1,h1⟩:=hp 1 _ rfl
 obtain ⟨y2,h2⟩:=hp 2 _ rfl
 obtain ⟨y3,h3⟩:=hp 3 _ rfl
 obtain ⟨y4,h4⟩:=hp 4 _ rfl
 obtain ⟨y5,h5⟩:=hp 5 _ rfl
 obtain ⟨s0,e0,a0,d0,k0⟩:=(azA w).rd enc base held n _ _ h0
 obtain ⟨s1,e1,a1,d1,k1⟩:=(ali w).rd enc base held n _ _ h1
 obtain ⟨s2,e2,a2,d2,k2⟩:=(ali w).rd enc base held n _ _ h2
 obtain ⟨s3,e3,a3,d3,k3⟩:=(asr w).rd enc base held n _ _ h3
 obtain ⟨s4,e4,a4,d4,k4⟩:=(asr w).rd enc base held n _ _ h4
 obtain ⟨s5,e5,a5,d5,k5⟩:=(azF w).rd enc base held n _ _ h5
 have p0:=eB (s:=1) e0
 have p1:=eB (s:=1) e1
 have p2:=eB (s:=1) e2
 have p3:=eB (s:=1) e3
 have p4:=eB (s:=1) e4
 have p5:=eB (s:=1) e5
 have hz:cs.drop 6=[]:=List.drop_eq_nil_iff.2 (by rw [hl]; exact Nat.le_of_eq (by kernel_rfl))
 refine ⟨(⟨s0,s1,s2,s3,s4,s5⟩:bK),?_,(⟨a0,a1,a2,a3,a4,a5⟩:cO),⟨s0,s1,s2,s3,s4,s5,rfl,d0,d1,d2,d3,d4,d5⟩,k0,k1,k2,k3,k4,k5⟩
 have e:cs=cs.drop 0:=rfl
 rw [e]
 refine p0.trans ?_
 refine ((congrArg _ p1)).trans ?_
 refine ((congrArg _ (congrArg _ p2))).trans ?_
 refine ((congrArg _ (congrArg _ (congrArg _ p3)))).trans ?_
 refine ((congrArg _ (congrArg _ (congrArg _ (congrArg _ p4))))).trans ?_
 refine ((congrArg _ (congrArg _ (congrArg _ (congrArg _ (congrArg _ p5)))))).trans ?_
 exact (congrArg _ (congrArg _ (congrArg _ (congrArg _ (congrArg _ (congrArg _ hz))))))⟩
end Go.Proofs.YtnjcingfdhjfkaaGreat
