/-
 Part 8.
-/
import Derived.Test.YtnjcingfdhjfkaaGreatVfM7
set_option linter.all false
namespace Go.Proofs.YtnjcingfdhjfkaaGreat
open Go.Fw
def T8 (g:Int→Nat) (ta tb:Nat) (x:cI):Nat:=
 if x.kind=11 then g 12+max (ta+(if 0<x.fK then g 11 else 0)) tb
 else if x.kind=12 then g 13+x.n.toNat * (ta+g 14)
 else if x.kind=13 then g 11 else g (if x.kind=14 then 15 else x.kind)
def qM (g:Int→Nat):Bk→Nat
 | .nil=>0
 | .cons x a b r=>T8 g (qM g a) (qM g b) x+qM g r
def oK (x:cI) (a b r:Bk) (at_:Int):Int:=at_+(bX (.cons x a b r) - bX r)
def W (g:Int→Nat):Bk→Int→Int→List Int→Int→Nat→Nat→Option Nat
 | .nil,at_,_,_,pos,kE,_=>if pos=at_ then some kE else none
 | .cons x a b r,at_,lp,cs,pos,kE,kO=>
  if oK x a b r at_≤pos then W g r (oK x a b r at_) lp cs pos kE kO
  else if pos=at_ then (if x.kind=13 then some (g 11+kO) else some (T8 g (qM g a) (qM g b) x+(qM g r+kE)))
  else if x.kind=11 then (if pos<rD x a at_ then W g a (at_+1) lp cs pos ((if 0<x.fK then g 11 else 0)+(qM g r+kE)) kO else W g b (rD x a at_) lp cs pos (qM g r+kE) kO)
  else if x.kind=12 then (if 1≤cs.getD lp.toNat 0∧cs.getD lp.toNat 0≤8 then W g a (at_+1) (lp+1) cs pos (g 14+((cs.getD lp.toNat 0).toNat - 1) * (qM g a+g 14)+(qM g r+kE)) (qM g r+kE) else none)
  else none
theorem Po (x:cI) (a b r:Bk) (at_:Int):at_+1≤oK x a b r at_:=by
 have h1:=iY a; have h2:=iY b
 have e:bX (.cons x a b r)=(if x.kind=12 then 2+bX a else if x.kind=11 then (if 0<x.fK then 1+bX a+bX b+1 else 1+bX a+bX b) else 1)+bX r:=rfl
 unfold oK; rw [e]
 repeat' split
 all_goals omega
section
variable {g:Int→Nat} {lp:Int} {cs:List Int} {kE kO:Nat}
theorem xO (t:Bk) (at_:Int) (h:kO≤kE):∃ r,W g t at_ lp cs at_ kE kO=some r∧r≤qM g t+kE:=by
 cases t with
 | nil=>exact ⟨kE,if_pos rfl,by unfold qM; omega⟩
 | cons x a b r=>
  have h1:=Po x a b r at_
  rw [show qM g (.cons x a b r)=T8 g (qM g a) (qM g b) x+qM g r from rfl]
  unfold W
  rw [if_neg (show ¬ oK x a b r at_≤at_ by omega),if_pos rfl]
  by_cases hk:x.kind=13
  ·rw [if_pos hk]
   have:T8 g (qM g a) (qM g b) x=g 11:=by unfold T8; rw [if_neg (show ¬ x.kind=11 by omega),if_neg (show ¬ x.kind=12 by omega),if_pos hk]
   exact ⟨_,rfl,by omega⟩
  ·rw [if_neg hk]; exact ⟨_,rfl,by omega⟩
theorem RP (t:Bk):∀ (at_ pos:Int),pos=at_+bX t→W g t at_ lp cs pos kE kO=some kE:=by
 induction t with
 | nil=>intro at_ pos h; unfold W; rw [if_pos (by have:bX .nil=0:=rfl; omega)]
 | cons x a b r _ _ ih=>
  intro at_ pos h
  have h1:=Po x a b r at_
  have h2:=iY r
  have e:oK x a b r at_=at_+(bX (.cons x a b r) - bX r):=rfl
  unfold W
  rw [if_pos (by omega)]
  exact ih _ _ (by omega)
theorem Pp {x:cI} {a b r:Bk} {at_ pos:Int} (h:oK x a b r at_≤pos):W g (.cons x a b r) at_ lp cs pos kE kO=W g r (oK x a b r at_) lp cs pos kE kO:=by
 conv=>lhs; unfold W
 rw [if_pos h]
theorem alV {x:cI} {a b r:Bk} {at_:Int} (h:kO≤kE):∃ r',W g (.cons x a b r) at_ lp cs (oK x a b r at_) kE kO=some r'∧r'≤qM g r+kE:=by
 rw [Pp (Int.le_refl _)]; exact xO r _ h
end
def Tr (x:aW) (pos:Int) (cs:List Int) (pos':Int) (cs':List Int):Prop:=
 (x.kind=11∧pos'=x.to∧cs'=cs)∨(x.kind=12∧(pos'=x.to∨pos'=pos+1)∧cs'=cs)∨(x.kind=13∧pos'=pos+1∧cs'=cs.set x.a.toNat x.b)∨
 (x.kind=14∧cs'=cs.set x.a.toNat (rf (cs.getD x.a.toNat 0 - 1))∧((0<rf (cs.getD x.a.toNat 0 - 1)∧pos'=x.to)∨(¬ 0<rf (cs.getD x.a.toNat 0 - 1)∧pos'=pos+1)))∨
 (¬ x.kind=11∧¬ x.kind=12∧¬ x.kind=13∧¬ x.kind=14∧pos'=pos+1∧cs'=cs)
theorem alW {n:Int} (h:0≤n∧n≤8):rf n=n:=by
 obtain rfl | rfl | rfl | rfl | rfl | rfl | rfl | rfl | rfl:n=0∨n=1∨n=2∨n=3∨n=4∨n=5∨n=6∨n=7∨n=8:=by omega
 all_goals decide
theorem xd {cs:List Int} {i:Nat} {v:Int} (h:i<cs.length):(cs.set i v).getD i 0=v:=by
 rw [List.getD_eq_getElem?_getD,List.getElem?_set_self h]; rfl
theorem getD_set_ne {cs:List Int} {i j:Nat} {v:Int} (h:i≠j):(cs.set i v).getD j 0=cs.getD j 0:=by
 rw [List.getD_eq_getElem?_getD,List.getElem?_set_ne h,← List.getD_eq_getElem?_getD]
theorem A9 {α:Type} {l1 l2:List α} {k:Int} {x:α} (h:(l1++l2)[k.toNat]? = some x) (hk:k.toNat<l1.length):l1[k.toNat]? = some x:=by
 rwa [List.getElem?_append_left hk] at h
theorem uJ {α:Type} {l1 l2:List α} {k j:Int} {x:α} (h:(l1++l2)[k.toNat]? = some x) (hk:l1.length≤k.toNat) (hj:j.toNat=k.toNat - l1.length):l2[j.toNat]? = some x:=by
 rw [List.getElem?_append_right hk] at h; rwa [hj]
theorem at_one {α:Type} {y x:α} {k:Int} (h:[y][k.toNat]? = some x):x=y:=by
 cases hk:k.toNat with
 | zero=>rw [hk] at h; simp at h; exact h.symm
 | succ n=>rw [hk] at h; simp at h
structure MO (g:Int→Nat) (t:Bk) (at_ lp out loops:Int) (cs cs':List Int) (pos':Int) (kE kO r c:Nat):Prop where
 low:∀ j:Nat,(j:Int)<lp→cs'.getD j 0=cs.getD j 0
 len:cs'.length=cs.length
 go:(at_≤pos'∧pos'≤at_+bX t∧∃ r',W g t at_ lp cs' pos' kE kO=some r'∧r'+c≤r)∨(loops≠0∧pos'=out∧kO+c≤r)
section
variable {g:Int→Nat} {p:cY} {rs:List ByteArray}
theorem aez {x:aW} {pos pos':Int} {cs cs':List Int} (h:Tr x pos cs pos' cs') (h1:¬ x.kind=11) (h2:¬ x.kind=12) (h3:¬ x.kind=13) (h4:¬ x.kind=14):pos'=pos+1∧cs'=cs:=by
 rcases h with ⟨q,_⟩ | ⟨q,_⟩ | ⟨q,_⟩ | ⟨q,_⟩ | ⟨_,_,_,_,h⟩
 ·exact absurd q h1
 ·exact absurd q h2
 ·exact absurd q h3
 ·exact absurd q h4
 ·exact h
theorem ahf {x:aW} {pos pos':Int} {cs cs':List Int} (h:Tr x pos cs pos' cs') (h1:x.kind=11):pos'=x.to∧cs'=cs:=by
 rcases h with ⟨q,h⟩ | ⟨q,_⟩ | ⟨q,_⟩ | ⟨q,_⟩ | ⟨q,_⟩
 ·exact h
 all_goals omega
theorem asR {x:aW} {pos pos':Int} {cs cs':List Int} (h:Tr x pos cs pos' cs') (h1:x.kind=12):(pos'=x.to∨pos'=pos+1)∧cs'=cs:=by
 rcases h with ⟨q,_⟩ | ⟨q,h⟩ | ⟨q,_⟩ | ⟨q,_⟩ | ⟨_,q,_⟩
 ·omega
 ·exact h
 all_goals omega
theorem asS {x:aW} {pos pos':Int} {cs cs':List Int} (h:Tr x pos cs pos' cs') (h1:x.kind=13):pos'=pos+1∧cs'=cs.set x.a.toNat x.b:=by
 rcases h with ⟨q,_⟩ | ⟨q,_⟩ | ⟨q,h⟩ | ⟨q,_⟩ | ⟨_,_,q,_⟩
 ·omega
 ·omega
 ·exact h
 all_goals omega
theorem asT {x:aW} {pos pos':Int} {cs cs':List Int} (h:Tr x pos cs pos' cs') (h1:x.kind=14):cs'=cs.set x.a.toNat (rf (cs.getD x.a.toNat 0 - 1))∧((0<rf (cs.getD x.a.toNat 0 - 1)∧pos'=x.to)∨(¬ 0<rf (cs.getD x.a.toNat 0 - 1)∧pos'=pos+1)):=by
 rcases h with ⟨q,_⟩ | ⟨q,_⟩ | ⟨q,_⟩ | ⟨q,h⟩ | ⟨_,_,_,q,_⟩
 ·omega
 ·omega
 ·omega
 ·exact h
 ·omega
theorem alX (t:Bk):∀ (at_ lp out loops:Int) (cs:List Int) (pos:Int) (kE kO r:Nat) (x:aW) (pos':Int) (cs':List Int),W g t at_ lp cs pos kE kO=some r→at_≤pos→pos<at_+bX t→kO≤kE→kG t→t.str→t.ok loops=true→0≤lp→lp+iZ t≤cs.length→
  (eX p rs t at_ lp out)[(pos - at_).toNat]? = some x→Tr x pos cs pos' cs'→MO g t at_ lp out loops cs cs' pos' kE kO r (g x.kind):=by
 induction t with
 | nil=>intro at_ lp out loops cs pos kE kO r x pos' cs' _ h1 h2; have:bX .nil=0:=rfl; omega
 | cons x a b rr vK xZ G6=>
  intro at_ lp out loops cs pos kE kO r y pos' cs' hW hp1 Zp hO HY IX oM Mt Ud hy hT
  have hsa:=iY a; have hsb:=iY b; have hsr:=iY rr
  have hda:=tf a; have hdb:=tf b; have hdr:=tf rr
  obtain ⟨SD,hs2,_,_,Pm,YG,YH⟩:=IX
  unfold Bk.ok at oM
  simp only [Bool.and_eq_true] at oM
  obtain ⟨⟨⟨ho1,M0⟩,YD⟩,ho4⟩:=oM
  unfold Bk.zs at ho1
  rw [decide_eq_true_eq] at ho1
  have lF:bX (.cons x a b rr)=(if x.kind=12 then 2+bX a else if x.kind=11 then (if 0<x.fK then 1+bX a+bX b+1 else 1+bX a+bX b) else 1)+bX rr:=rfl
  have hdp:iZ (.cons x a b rr)=max (if x.kind=12 then max (iZ a) (iZ b)+1 else max (iZ a) (iZ b)) (iZ rr):=rfl
  have LJ:=IZ p rs x a b rr at_ lp out
  have hee:oK x a b rr at_=at_+(bX (.cons x a b rr) - bX rr):=rfl
  have hen:=Po x a b rr at_
  rw [vf] at hy
  have next:∀ RQ:List Int,∀ c:Nat,(∀ j:Nat,(j:Int)<lp→RQ.getD j 0=cs.getD j 0)→RQ.length=cs.length→qM g rr+kE+c≤r→MO g (.cons x a b rr) at_ lp out loops cs RQ (oK x a b rr at_) kE kO r c:=by
   intro RQ c h1 h2 h3
   obtain ⟨r',h4,h5⟩:=alV (g:=g) (lp:=lp) (cs:=RQ) (kE:=kE) (kO:=kO) (x:=x) (a:=a) (b:=b) (r:=rr) (at_:=at_) hO
   exact ⟨h1,h2,.inl ⟨by omega,by omega,r',h4,by omega⟩⟩
  by_cases hE:oK x a b rr at_≤pos
  ·rw [Pp hE] at hW
   have hy2:=uJ (j:=pos - oK x a b rr at_) hy (by omega) (by omega)
   have hR:=G6 (oK x a b rr at_) lp out loops cs pos kE kO r y pos' cs' hW hE (by omega) hO HY.r YH ho4 Mt (by omega) (by rw [hee,← LJ]; rw [hee,← LJ] at hy2; exact hy2) hT
   refine ⟨hR.low,hR.len,?_⟩
   rcases hR.go with ⟨h1,h2,r',h3,h4⟩ | h1
   ·exact .inl ⟨by omega,by omega,r',by rw [Pp h1]; exact h3,h4⟩
   ·exact .inr h1
  ·have JI:=A9 hy (by omega)
   clear hy
   have hWp:∀ (RQ:List Int) (q:Int),¬ oK x a b rr at_≤q→q≠at_→W g (.cons x a b rr) at_ lp RQ q kE kO =
     (if x.kind=11 then (if q<rD x a at_ then W g a (at_+1) lp RQ q ((if 0<x.fK then g 11 else 0)+(qM g rr+kE)) kO else W g b (rD x a at_) lp RQ q (qM g rr+kE) kO)
      else if x.kind=12 then (if 1≤RQ.getD lp.toNat 0∧RQ.getD lp.toNat 0≤8 then W g a (at_+1) (lp+1) RQ q (g 14+((RQ.getD lp.toNat 0).toNat - 1) * (qM g a+g 14)+(qM g rr+kE)) (qM g rr+kE) else none) else none):=by
    intro RQ q h1 h2
    conv=>lhs; unfold W
    rw [if_neg h1,if_neg h2]
   have hWs:pos=at_→W g (.cons x a b rr) at_ lp cs pos kE kO=if x.kind=13 then some (g 11+kO) else some (T8 g (qM g a) (qM g b) x+(qM g rr+kE)):=by
    intro h1
    conv=>lhs; unfold W
    rw [if_neg hE,if_pos h1]
   unfold Gg at JI LJ
   have Pq:∀ j:Nat,(j:Int)<lp→cs.getD j 0=cs.getD j 0:=λ _ _=>rfl
   by_cases vL:x.kind=11
   ·rw [if_pos vL] at JI LJ
    rw [if_neg (show ¬ x.kind=12 by omega),if_pos vL] at lF
    rw [if_neg (show ¬ x.kind=12 by omega)] at hdp
    have vx:Bk.Cl x loops=loops:=by unfold Bk.Cl; rw [if_neg (by omega)]
    rw [vx] at M0 YD
    have M3:=ij p rs a (at_+1) lp out
    have QG:=ij p rs b (rD x a at_) lp out
    have Ds:rD x a at_=if 0<x.fK then at_+1+bX a+1 else at_+1+bX a:=rfl
    have hhd:T8 g (qM g a) (qM g b) x=g 12+max (qM g a+(if 0<x.fK then g 11 else 0)) (qM g b):=by unfold T8; rw [if_pos vL]
    have toB:∀ c:Nat,qM g b+(qM g rr+kE)+c≤r→MO g (.cons x a b rr) at_ lp out loops cs cs (rD x a at_) kE kO r c:=by
     intro c hc
     by_cases hz:oK x a b rr at_≤rD x a at_
     ·have:rD x a at_=oK x a b rr at_:=by split at lF <;> (first | rw [if_pos (by assumption)] at Ds | rw [if_neg (by assumption)] at Ds) <;> omega
      rw [this]; exact next cs c Pq rfl (by omega)
     ·obtain ⟨r',h4,h5⟩:=xO (g:=g) (lp:=lp) (cs:=cs) (kE:=qM g rr+kE) (kO:=kO) b (rD x a at_) (by omega)
      have h6:at_+1≤rD x a at_:=by rw [Ds]; split <;> omega
      exact ⟨Pq,rfl,.inl ⟨by omega,by omega,r',by rw [hWp cs _ hz (by omega),if_pos vL,if_neg (by omega)]; exact h4,by omega⟩⟩
    by_cases YJ:pos=at_
    ·rw [hWs YJ,if_neg (show ¬ x.kind=13 by omega),hhd] at hW
     obtain rfl:=Option.some.inj hW
     have YK:y=⟨12,0,0,gk rs x.e,[],rD x a at_⟩:=by
      rw [YJ,show (at_ - at_).toNat=0 from by omega] at JI
      simpa using JI.symm
     subst YK
     obtain ⟨hq,rfl⟩:=asR hT rfl
     rcases hq with rfl | rfl
     ·exact toB _ (by show _+g 12≤_; omega)
     ·by_cases hz:oK x a b rr at_≤pos+1
      ·have:pos+1=oK x a b rr at_:=by omega
       rw [this]; exact next _ _ Pq rfl (by show _+g 12≤_; omega)
      ·by_cases hz2:pos+1<rD x a at_
       ·obtain ⟨r',h4,h5⟩:=xO (g:=g) (lp:=lp) (cs:=cs') (kE:=(if 0<x.fK then g 11 else 0)+(qM g rr+kE)) (kO:=kO) a (at_+1) (by omega)
        refine ⟨Pq,rfl,.inl ⟨by omega,by omega,r',?_,by show _+g 12≤_; omega⟩⟩
        rw [hWp _ _ hz (by omega),if_pos vL,if_pos hz2,YJ]; exact h4
       ·exfalso
        split at lF
        ·rename_i he; rw [if_pos he] at Ds; omega
        ·rename_i he; rw [if_neg he] at Ds
         have JS:=FI (b:=b) (by omega)
         subst JS
         have:bX .nil=0:=rfl
         omega
    ·rw [hWp cs pos hE YJ,if_pos vL] at hW
     by_cases hpt:pos<rD x a at_
     ·rw [if_pos hpt] at hW
      by_cases hpe:pos<at_+1+bX a
      ·have hya:(eX p rs a (at_+1) lp out)[(pos - (at_+1)).toNat]? = some y:=by
        have h1:=A9 (A9 JI (by simp only [List.length_append,List.length_singleton]; split <;> simp <;> omega)) (by simp only [List.length_append,List.length_singleton]; omega)
        exact uJ h1 (by simp only [List.length_singleton]; omega) (by simp only [List.length_singleton]; omega)
       have hR:=vK (at_+1) lp out loops cs pos _ kO r y pos' cs' hW (by omega) hpe (by omega) HY.a Pm M0 Mt (by omega) hya hT
       rcases hR.go with ⟨h1,h2,r',h3,h4⟩ | h1
       ·by_cases hz:oK x a b rr at_≤pos'
        ·have e1:pos'=at_+1+bX a:=by split at lF <;> omega
         have e2:pos'=oK x a b rr at_:=by split at lF <;> omega
         rw [RP a (at_+1) pos' e1] at h3
         obtain rfl:=Option.some.inj h3
         rw [e2]; exact next cs' _ hR.low hR.len (by omega)
        ·refine ⟨hR.low,hR.len,.inl ⟨by omega,by omega,r',?_,h4⟩⟩
         rw [hWp cs' pos' hz (by omega),if_pos vL]
         by_cases hz2:pos'<rD x a at_
         ·rw [if_pos hz2]; exact h3
         ·exfalso
          split at lF
          ·rename_i he; rw [if_pos he] at Ds; omega
          ·rename_i he; rw [if_neg he] at Ds
           have JS:=FI (b:=b) (by omega)
           subst JS
           have:bX .nil=0:=rfl
           omega
       ·exact ⟨hR.low,hR.len,.inr h1⟩
      ·have asU:0<x.fK:=by
        by_cases he:0<x.fK
        ·exact he
        ·rw [if_neg he] at Ds; omega
       rw [if_pos asU] at Ds lF hW
       rw [if_pos asU] at JI
       have e1:pos=at_+1+bX a:=by omega
       rw [RP a (at_+1) pos e1] at hW
       obtain rfl:=Option.some.inj hW
       have YK:y=⟨11,0,0,[],[],rD x a at_+bX b⟩:=by
        have h1:=A9 JI (by simp only [List.length_append,List.length_singleton]; omega)
        exact at_one (uJ (j:=0) h1 (by simp only [List.length_append,List.length_singleton]; omega) (by simp only [List.length_append,List.length_singleton]; omega))
       subst YK
       obtain ⟨rfl,rfl⟩:=ahf hT rfl
       have e2:rD x a at_+bX b=oK x a b rr at_:=by omega
       show MO g _ at_ lp out loops cs' cs' (rD x a at_+bX b) kE kO _ (g 11)
       rw [e2]; exact next _ _ Pq rfl (by omega)
     ·rw [if_neg hpt] at hW
      have hyb:(eX p rs b (rD x a at_) lp out)[(pos - rD x a at_).toNat]? = some y:=by
       refine uJ JI ?_ ?_
       ·simp only [List.length_append,List.length_singleton]; rw [Ds] at hpt; split <;> split at hpt <;> simp <;> omega
       ·simp only [List.length_append,List.length_singleton]; rw [Ds]; split <;> simp <;> omega
      have hR:=xZ (rD x a at_) lp out loops cs pos _ kO r y pos' cs' hW (by omega) (by split at lF <;> (first | rw [if_pos (by assumption)] at Ds | rw [if_neg (by assumption)] at Ds) <;> omega) (by omega) HY.b YG YD Mt (by omega) hyb hT
      have h6:at_+1≤rD x a at_:=by rw [Ds]; split <;> omega
      have h7:rD x a at_+bX b=oK x a b rr at_:=by split at lF <;> (first | rw [if_pos (by assumption)] at Ds | rw [if_neg (by assumption)] at Ds) <;> omega
      rcases hR.go with ⟨h1,h2,r',h3,h4⟩ | h1
      ·by_cases hz:oK x a b rr at_≤pos'
       ·rw [RP b _ pos' (by omega)] at h3
        obtain rfl:=Option.some.inj h3
        rw [show pos'=oK x a b rr at_ from by omega]
        exact next cs' _ hR.low hR.len (by omega)
       ·refine ⟨hR.low,hR.len,.inl ⟨by omega,by omega,r',?_,h4⟩⟩
        rw [hWp cs' pos' hz (by omega),if_pos vL,if_neg (by omega)]; exact h3
      ·exact ⟨hR.low,hR.len,.inr h1⟩
   ·rw [if_neg vL] at JI LJ
    by_cases ya:x.kind=12
    ·rw [if_pos ya] at JI LJ lF hdp
     have vx:Bk.Cl x loops=loops+1:=by unfold Bk.Cl; rw [if_pos ya]
     rw [vx] at M0
     have M3:=ij p rs a (at_+1) (lp+1) (at_+2+bX a)
     have hxn:=HY.x ya
     have hhd:T8 g (qM g a) (qM g b) x=g 13+x.n.toNat * (qM g a+g 14):=by unfold T8; rw [if_neg vL,if_pos ya]
     by_cases YJ:pos=at_
     ·rw [hWs YJ,if_neg (show ¬ x.kind=13 by omega),hhd] at hW
      obtain rfl:=Option.some.inj hW
      have YK:y=⟨13,lp,x.n,[],[],0⟩:=by
       rw [YJ,show (at_ - at_).toNat=0 from by omega] at JI
       simpa using JI.symm
      subst YK
      obtain ⟨rfl,rfl⟩:=asS hT rfl
      have hg:(cs.set lp.toNat x.n).getD lp.toNat 0=x.n:=xd (by omega)
      obtain ⟨r',h4,h5⟩:=xO (g:=g) (lp:=lp+1) (cs:=cs.set lp.toNat x.n) (kE:=g 14+(x.n.toNat - 1) * (qM g a+g 14)+(qM g rr+kE)) (kO:=qM g rr+kE) a (at_+1) (by omega)
      obtain ⟨m,hm⟩:∃ m,x.n.toNat=m+1:=⟨x.n.toNat - 1,by omega⟩
      rw [hm,Nat.add_sub_cancel] at h4 h5
      refine ⟨λ j hj=>getD_set_ne (by show lp.toNat≠j; omega),by simp,.inl ⟨by omega,by omega,r',?_,?_⟩⟩
      ·show W g _ at_ lp (cs.set lp.toNat x.n) (pos+1) kE kO=_
       rw [hWp _ _ (by omega) (by omega),if_neg vL,if_pos ya,hg,if_pos hxn,hm,Nat.add_sub_cancel,YJ]; exact h4
      ·show r'+g 13≤_
       rw [hm,Nat.succ_mul]; omega
     ·rw [hWp cs pos hE YJ,if_neg vL,if_pos ya] at hW
      split at hW
      ·rename_i hcc
       by_cases hpe:pos<at_+1+bX a
       ·have hya:(eX p rs a (at_+1) (lp+1) (at_+2+bX a))[(pos - (at_+1)).toNat]? = some y:=by
         have h1:=A9 JI (by simp only [List.length_append,List.length_singleton]; omega)
         exact uJ h1 (by simp only [List.length_singleton]; omega) (by simp only [List.length_singleton]; omega)
        have hR:=vK (at_+1) (lp+1) (at_+2+bX a) (loops+1) cs pos _ _ r y pos' cs' hW (by omega) hpe (by omega) HY.a Pm M0 (by omega) (by omega) hya hT
        have hce:cs'.getD lp.toNat 0=cs.getD lp.toNat 0:=hR.low lp.toNat (by omega)
        have Tx:∀ j:Nat,(j:Int)<lp→cs'.getD j 0=cs.getD j 0:=λ j hj=>hR.low j (by omega)
        rcases hR.go with ⟨h1,h2,r',h3,h4⟩ | ⟨_,h1,h2⟩
        ·refine ⟨Tx,hR.len,.inl ⟨by omega,by omega,r',?_,h4⟩⟩
         rw [hWp cs' pos' (by omega) (by omega),if_neg vL,if_pos ya,hce,if_pos hcc]; exact h3
        ·rw [show pos'=oK x a b rr at_ from by omega]
         exact next cs' _ Tx hR.len (by omega)
       ·have e1:pos=at_+1+bX a:=by omega
        rw [RP a (at_+1) pos e1] at hW
        obtain rfl:=Option.some.inj hW
        have YK:y=⟨14,lp,0,[],[],at_+1⟩:=at_one (uJ (j:=0) JI (by simp only [List.length_append,List.length_singleton]; omega) (by simp only [List.length_append,List.length_singleton]; omega))
        subst YK
        obtain ⟨rfl,hq⟩:=asT hT rfl
        have hwe:rf (cs.getD lp.toNat 0 - 1)=cs.getD lp.toNat 0 - 1:=alW (by omega)
        have hq:(0<rf (cs.getD lp.toNat 0 - 1)∧pos'=at_+1)∨(¬ 0<rf (cs.getD lp.toNat 0 - 1)∧pos'=pos+1):=hq
        have Tx:∀ j:Nat,(j:Int)<lp→(cs.set lp.toNat (rf (cs.getD lp.toNat 0 - 1))).getD j 0=cs.getD j 0:=λ j hj=>getD_set_ne (by omega)
        show MO g _ at_ lp out loops cs (cs.set lp.toNat (rf (cs.getD lp.toNat 0 - 1))) pos' kE kO _ (g 14)
        rw [hwe] at hq Tx ⊢
        rcases hq with ⟨q1,q2⟩ | ⟨q1,q2⟩
        ·have hg:(cs.set lp.toNat (cs.getD lp.toNat 0 - 1)).getD lp.toNat 0=cs.getD lp.toNat 0 - 1:=xd (by omega)
         obtain ⟨m,hm⟩:∃ m,(cs.getD lp.toNat 0).toNat=m+2:=⟨(cs.getD lp.toNat 0).toNat - 2,by omega⟩
         obtain ⟨r',h4,h5⟩:=xO (g:=g) (lp:=lp+1) (cs:=cs.set lp.toNat (cs.getD lp.toNat 0 - 1)) (kE:=g 14+m * (qM g a+g 14)+(qM g rr+kE)) (kO:=qM g rr+kE) a (at_+1) (by omega)
         refine ⟨Tx,by simp,.inl ⟨by omega,by omega,r',?_,?_⟩⟩
         ·rw [hWp _ _ (by omega) (by omega),if_neg vL,if_pos ya,hg,if_pos (by omega),q2,show (cs.getD lp.toNat 0 - 1).toNat - 1=m from by omega]; exact h4
         ·rw [hm,show m+2 - 1=m+1 from by omega,Nat.succ_mul]; omega
        ·rw [show pos'=oK x a b rr at_ from by omega]
         exact next _ _ Tx (by simp) (by omega)
      ·cases hW
    ·rw [if_neg ya] at JI LJ
     rw [if_neg ya,if_neg vL] at lF
     have YJ:pos=at_:=by omega
     rw [hWs YJ] at hW
     by_cases JV:x.kind=13
     ·rw [if_pos JV] at JI hW
      obtain rfl:=Option.some.inj hW
      have YK:=at_one JI
      subst YK
      obtain ⟨rfl,rfl⟩:=ahf hT rfl
      exact ⟨Pq,rfl,.inr ⟨by omega,rfl,by show kO+g 11≤_; omega⟩⟩
     ·rw [if_neg JV] at JI hW
      obtain rfl:=Option.some.inj hW
      have YK:=at_one JI
      subst YK
      have ni:(lI p rs x).kind=if x.kind=14 then 15 else x.kind:=rfl
      obtain ⟨rfl,rfl⟩:=aez hT (by rw [ni]; split <;> omega) (by rw [ni]; split <;> omega) (by rw [ni]; split <;> omega) (by rw [ni]; split <;> omega)
      have hhd:T8 g (qM g a) (qM g b) x=g (lI p rs x).kind:=by unfold T8; rw [if_neg vL,if_neg ya,if_neg JV,ni]
      rw [show pos+1=oK x a b rr at_ from by omega]
      exact next _ _ Pq rfl (by omega)
end
structure MP (p:cY) (c:fu) (b:Bk) (rs:List ByteArray):Prop where
 l:c.l=eX p rs b 0 0 0
 cn:c.counts=iZ b
 rd:kG b
 str:b.str
 ok:b.ok 0=true
structure TW (g:Int→Nat) (p:cY) (b:Bk) (rs:List ByteArray) (t:fG) (r:Nat):Prop where
 code:MP p t.code b rs
 cl:(t.counts.length:Int)=t.code.counts
 a0:0≤t.at_
 a1:t.at_≤bX b
 w:W g b 0 0 t.counts t.at_ 0 0=some r
section
variable {g:Int→Nat} {p:cY} {b:Bk} {rs:List ByteArray} {t t':fG} {r:Nat}
theorem TW.next {x:aW} (h:TW g p b rs t r) (hn:gP t=some x) (hT:Tr x t.at_ t.counts t'.at_ t'.counts) (hc:t'.code=t.code):∃ r',TW g p b rs t' r'∧r'+g x.kind≤r:=by
 have h1:=(pj hn).2
 have hl:=ij p rs b 0 0 0
 rw [h.code.l] at h1
 have hx:(eX p rs b 0 0 0)[(t.at_ - 0).toNat]? = some x:=by
  unfold gP at hn
  rw [h.code.l] at hn
  rw [if_neg (by omega)] at hn
  rw [Int.sub_zero]; exact hn
 have Ze:=h.code.cn
 have QO:=h.cl
 have hR:=alX (g:=g) (p:=p) (rs:=rs) b 0 0 0 0 t.counts t.at_ 0 0 r x t'.at_ t'.counts h.w h.a0 (by omega) (Nat.le_refl _) h.code.rd h.code.str h.code.ok (Int.le_refl _) (by omega) hx hT
 rcases hR.go with ⟨h3,h4,r',h5,h6⟩ | ⟨h3,_⟩
 ·exact ⟨r',⟨by rw [hc]; exact h.code,by rw [hR.len,hc]; exact h.cl,h3,by omega,h5⟩,h6⟩
 ·exact absurd rfl h3
theorem TW.same (h:TW g p b rs t r) (hc:t'.code=t.code) (ha:t'.at_=t.at_) (hk:t'.counts=t.counts):TW g p b rs t' r:=
 ⟨by rw [hc]; exact h.code,by rw [hk,hc]; exact h.cl,by rw [ha]; exact h.a0,by rw [ha]; exact h.a1,by rw [hk,ha]; exact h.w⟩
theorem alY {x:aW} {e:Int} (h:(wQ t x e).2=true):Tr x t.at_ t.counts (wQ t x e).1.at_ (wQ t x e).1.counts:=by
 by_cases h1:x.kind=1
 ·rw [XD h1]; exact .inr (.inr (.inr (.inr ⟨by omega,by omega,by omega,by omega,rfl,rfl⟩)))
 by_cases vL:x.kind=11
 ·rw [OE vL]; exact .inl ⟨vL,rfl,rfl⟩
 by_cases ya:x.kind=12
 ·by_cases he:e=0
  ·rw [Ji ya he]; exact .inr (.inl ⟨ya,.inl rfl,rfl⟩)
  ·rw [Jj ya he]; exact .inr (.inl ⟨ya,.inr rfl,rfl⟩)
 by_cases JV:x.kind=13
 ·rw [OF JV]; exact .inr (.inr (.inl ⟨JV,rfl,rfl⟩))
 by_cases QF:x.kind=14
 ·by_cases he:0<rf (t.counts.getD x.a.toNat 0 - 1)
  ·rw [Jk QF he]; exact .inr (.inr (.inr (.inl ⟨QF,rfl,.inl ⟨he,rfl⟩⟩)))
  ·rw [Jl QF he]; exact .inr (.inr (.inr (.inl ⟨QF,rfl,.inr ⟨he,rfl⟩⟩)))
 by_cases h15:x.kind=15
 ·by_cases he:e=0
  ·rw [Jm h15 he] at h; cases h
  ·rw [Jn h15 he]; exact .inr (.inr (.inr (.inr ⟨vL,ya,JV,QF,rfl,rfl⟩)))
 ·rw [OG h1 vL ya JV QF h15] at h; cases h
theorem YL {x:aW} {e:Int} (h:(wQ t x e).2=false):(wQ t x e).1.at_=t.at_∧(wQ t x e).1.counts=t.counts∧(wQ t x e).1.aK=t.aK:=by
 by_cases h1:x.kind=1
 ·rw [XD h1] at h; cases h
 by_cases vL:x.kind=11
 ·rw [OE vL] at h; cases h
 by_cases ya:x.kind=12
 ·by_cases he:e=0
  ·rw [Ji ya he] at h; cases h
  ·rw [Jj ya he] at h; cases h
 by_cases JV:x.kind=13
 ·rw [OF JV] at h; cases h
 by_cases QF:x.kind=14
 ·by_cases he:0<rf (t.counts.getD x.a.toNat 0 - 1)
  ·rw [Jk QF he] at h; cases h
  ·rw [Jl QF he] at h; cases h
 by_cases h15:x.kind=15
 ·by_cases he:e=0
  ·rw [Jm h15 he]; exact ⟨rfl,rfl,rfl⟩
  ·rw [Jn h15 he] at h; cases h
 ·rw [OG h1 vL ya JV QF h15]; exact ⟨rfl,rfl,rfl⟩
theorem HM (h:(fN t).2=true):∃ x,gP t=some x∧Tr x t.at_ t.counts (fN t).1.at_ (fN t).1.counts:=by
 cases hn:gP t with
 | none=>rw [AL hn] at h; cases h
 | some x=>
  refine ⟨x,rfl,?_⟩
  cases he:(eC x.e t.aK).2 with
  | false=>rw [AM hn he] at h; cases h
  | true=>
   cases hf:(eC x.f t.aK).2 with
   | false=>rw [AN hn he hf] at h; cases h
   | true=>
    rw [kI hn he hf] at h ⊢
    exact alY (t:=tF (tE t x) x) h
theorem MQ (h:(fN t).2=false):(fN t).1.at_=t.at_∧(fN t).1.counts=t.counts:=by
 cases hn:gP t with
 | none=>rw [AL hn]; exact ⟨rfl,rfl⟩
 | some x=>
  cases he:(eC x.e t.aK).2 with
  | false=>rw [AM hn he]; exact ⟨rfl,rfl⟩
  | true=>
   cases hf:(eC x.f t.aK).2 with
   | false=>rw [AN hn he hf]; exact ⟨rfl,rfl⟩
   | true=>
    rw [kI hn he hf] at h ⊢
    have:=YL (t:=tF (tE t x) x) h
    exact ⟨this.1,this.2.1⟩
theorem TW.go:∀ {N:Nat} {t t':fG} {r:Nat},TW g p b rs t r→rZ N t=some t'→∃ r',TW g p b rs t' r'∧r'≤r
 | 0,_,_,_,_,h=>by cases h
 | N+1,t,t',r,h0,h=>by
  unfold rZ at h
  split at h
  ·rename_i hs
   obtain ⟨x,hn,hT⟩:=HM hs
   obtain ⟨r1,h1,h2⟩:=h0.next hn hT (qe t).1
   obtain ⟨r2,h3,h4⟩:=TW.go h1 h
   exact ⟨r2,h3,by omega⟩
  ·rename_i hs
   cases h
   have:=MQ (by simpa using hs)
   exact ⟨r,h0.same (qe t).1 this.1 this.2,Nat.le_refl _⟩
theorem MR:∀ {n:Nat} {t:fG} {r:Nat},TW (λ _=>1) p b rs t r→r≤n→∃ t',rZ (n+1) t=some t'
 | n,t,r,h0,hr=>by
  cases hs:(fN t).2 with
  | false=>exact ⟨_,by unfold rZ; rw [hs]; rfl⟩
  | true=>
   obtain ⟨x,hn,hT⟩:=HM hs
   obtain ⟨r1,h1,h2⟩:=h0.next hn hT (qe t).1
   cases n with
   | zero=>exfalso; omega
   | succ n=>
    obtain ⟨t',h3⟩:=MR (n:=n) h1 (by omega)
    exact ⟨t',by unfold rZ; rw [hs,if_pos rfl]; exact h3⟩
end
def Dt (p:cY) (t:fG):Prop:=∃ b rs,∀ g,∃ r,TW g p b rs t r
section
variable {p:cY} {t t':fG}
theorem Dt.next {x:aW} (h:Dt p t) (hn:gP t=some x) (hT:Tr x t.at_ t.counts t'.at_ t'.counts) (hc:t'.code=t.code):Dt p t':=by
 obtain ⟨b,rs,h⟩:=h
 exact ⟨b,rs,λ g=>by obtain ⟨r,h1⟩:=h g; obtain ⟨r',h2,_⟩:=h1.next hn hT hc; exact ⟨r',h2⟩⟩
theorem Dt.same (h:Dt p t) (hc:t'.code=t.code) (ha:t'.at_=t.at_) (hk:t'.counts=t.counts):Dt p t':=by
 obtain ⟨b,rs,h⟩:=h
 exact ⟨b,rs,λ g=>by obtain ⟨r,h1⟩:=h g; exact ⟨r,h1.same hc ha hk⟩⟩
theorem Dt.go {N:Nat} (h:Dt p t) (hg:rZ N t=some t'):Dt p t':=by
 obtain ⟨b,rs,h⟩:=h
 exact ⟨b,rs,λ g=>by obtain ⟨r,h1⟩:=h g; obtain ⟨r',h2,_⟩:=h1.go hg; exact ⟨r',h2⟩⟩
theorem Dt.total (h:Dt p t):∃ N t',rZ N t=some t':=by
 obtain ⟨b,rs,h⟩:=h
 obtain ⟨r,h1⟩:=h λ _=>1
 obtain ⟨t',h2⟩:=MR h1 (Nat.le_refl r)
 exact ⟨_,t',h2⟩
end
theorem Du {p:cY} {c:fu} {b:Bk} {rs:List ByteArray} (h:MP p c b rs) (hc:0≤c.counts) (g:Int→Nat):∃ r,TW g p b rs (qc c) r∧r≤qM g b:=by
 obtain ⟨r,h1,h2⟩:=xO (g:=g) (lp:=0) (cs:=List.replicate c.counts.toNat 0) (kE:=0) (kO:=0) b 0 (Nat.le_refl _)
 have:=iY b
 exact ⟨r,⟨h,by show ((List.replicate c.counts.toNat (0:Int)).length:Int)=c.counts; rw [List.length_replicate]; omega,Int.le_refl _,this.1,h1⟩,by omega⟩
theorem JJ {p:cY} (h:BI p) {t:dX} (ht:t∈iN p):∃ b,MP p (ml p t) b t.aK∧o0 t.body=some b∧kG b:=by
 obtain ⟨b,h1,h2,h3,_,h5,_,_,h8,_⟩:=h.tree ht
 rw [EW h8]
 exact ⟨b,⟨rfl,rfl,h5,h2,h3⟩,h8,h5⟩
theorem asV {p:cY} (h:BI p):∃ b rs,MP p (eD p).recover b rs:=by
 show ∃ b rs,MP p (match p.recover[0]? with | some t=>ml p t | none=>⟨0,0,[]⟩) b rs
 cases hr:p.recover[0]? with
 | none=>exact ⟨.nil,[],⟨rfl,rfl,λ x hx=>(by cases hx),trivial,rfl⟩⟩
 | some t=>
  obtain ⟨b,hb,_⟩:=JJ h (List.mem_append_right p.threads (List.mem_of_getElem? hr))
  exact ⟨b,_,hb⟩
structure PM (p:cY) (m:gp):Prop where
 chk:BI p
 u:m.u=eD p
 gm:GM m
 tw:∀ t∈m.l,Dt p t
section
variable {p:cY} {m m2:gp}
theorem Ty (h:BI p):∃ N t,rZ N (qc (eD p).recover)=some t∧Dt p t:=by
 obtain ⟨b,rs,hb⟩:=asV h
 have hru:=rR (sS h).1
 have h0:Dt p (qc (eD p).recover):=⟨b,rs,λ g=>by obtain ⟨r,h1,_⟩:=Du hb hru.rc.cb.1 g; exact ⟨r,h1⟩⟩
 obtain ⟨N,t,ht⟩:=h0.total
 exact ⟨N,t,ht,h0.go ht⟩
theorem MS (h:BI p):∃ N ths,rL N (eD p).threads ths∧∀ t∈ths,Dt p t:=by
 have hru:=rR (sS h).1
 have key:∀ cs:List fu,(∀ c∈cs,c∈(eD p).threads)→∃ N ths,rL N cs ths∧∀ t∈ths,Dt p t:=by
  intro cs
  induction cs with
  | nil=>intro _; exact ⟨0,[],⟨rfl,λ j c t h=>by simp at h⟩,λ t ht=>by cases ht⟩
  | cons c cs ih=>
   intro Y7
   obtain ⟨N,ths,h1,h2⟩:=ih λ c hc=>Y7 c (List.mem_cons_of_mem _ hc)
   have M6:=Y7 c (List.mem_cons_self ..)
   obtain ⟨t,ht,rfl⟩:=List.mem_map.1 (show c∈p.threads.map (ml p) from M6)
   obtain ⟨b,hb,_⟩:=JJ h (List.mem_append_left p.recover ht)
   have h0:Dt p (qc (ml p t)):=⟨b,t.aK,λ g=>by obtain ⟨r,h1,_⟩:=Du hb (hru.th _ M6).cb.1 g; exact ⟨r,h1⟩⟩
   obtain ⟨M,t',YC⟩:=h0.total
   refine ⟨N+M,t'::ths,⟨by rw [List.length_cons,List.length_cons,h1.1],λ j c2 t2 Zu Zi=>?_⟩,λ t2 Zi=>?_⟩
   ·cases j with
    | zero=>
     rw [List.getElem?_cons_zero] at Zu Zi
     cases Zu; cases Zi
     rw [Nat.add_comm]; exact FG YC
    | succ j=>
     rw [List.getElem?_cons_succ] at Zu Zi
     exact FG (h1.2 j c2 t2 Zu Zi)
   ·rcases List.mem_cons.1 Zi with rfl | Zi
    ·exact h0.go YC
    ·exact h2 t2 Zi
 exact key _ λ c hc=>hc
theorem FJ {t:fG} {i:Int} {x:aW}:(dR m t i x).2.1.counts=t.counts:=by
 unfold dR loadT casT uC
 repeat' split
 all_goals rfl
theorem RR {t:fG} {i:Int} {x:aW} (h:Dt p t) (hn:gP t=some x) (hk:2≤x.kind∧x.kind≤10):Dt p { (dR m t i x).2.1 with at_:=(dR m t i x).2.1.at_+1}:=
 h.next hn (.inr (.inr (.inr (.inr ⟨by omega,by omega,by omega,by omega,by show (dR m t i x).2.1.at_+1=_; rw [Df],FJ⟩)))) qR
theorem JK {α:Type} {φ:α→Prop} {l:List α} {i:Nat} {x:α} (h:∀ y∈l,φ y) (hx:φ x):∀ y∈l.set i x,φ y:=λ y hy=>by
 rcases List.mem_or_eq_of_mem_set hy with h1 | h1
 ·exact h y h1
 ·rw [h1]; exact hx
theorem PM.do {N:Nat} {q:eo} {ev:cG} {e:Int} (h:PM p m) (hd:B4 N m q=some (m2,ev,e)):PM p m2:=by
 refine ⟨h.chk,(FH hd).2.1.trans h.u,h.gm.do hd,?_⟩
 cases hc:gH m q with
 | some oH=>
  obtain ⟨t,hg,hm,_⟩:=pk hd hc
  rw [hm]
  intro t' YC
  obtain rfl:t'=t:=by simpa using (show t'∈[t] from YC)
  rw [h.u] at hg
  obtain ⟨b,rs,hb⟩:=asV h.chk
  have hru:=rR (sS h.chk).1
  have h0:Dt p (qc (eD p).recover):=⟨b,rs,λ g=>by obtain ⟨r,h1,_⟩:=Du hb hru.rc.cb.1 g; exact ⟨r,h1⟩⟩
  exact h0.go hg
 | none=>
  by_cases ha:(cQ m).any (jy q)=true
  ·by_cases hk:q.kind=2
   ·obtain ⟨_,t,ht⟩:=pn ha
    rw [(oF hd hc ha hk ht).1]
    exact JK h.tw ((h.tw t (List.mem_of_getElem? ht)).same rfl rfl rfl)
   ·have hs:=(my hd hc ha hk).1
    cases ht:m.l[q.t.toNat]? with
    | none=>unfold mN at hs; rw [ht] at hs; cases hs
    | some t=>
     have Bf:=List.mem_of_getElem? ht
     by_cases hf:t.fault≠0
     ·rw [(xG hs ht hf).1]; exact h.tw
     ·obtain ⟨x,hn⟩:=xH hs ht hf
      have ni:=(h.gm.th t Bf).2.1 x hn (by omega)
      by_cases h0:(dR m t q.t x).1.fault=0
      ·obtain ⟨t2,hg,MZ,_⟩:=xI hs ht hf hn h0
       rw [MZ]
       show ∀ t'∈(dR m t q.t x).1.l.set _ _,_
       rw [B3]
       exact JK h.tw ((RR (h.tw t Bf) hn ni).go hg)
      ·rw [(xJ hs ht hf hn h0).1]
       show ∀ t'∈(dR m t q.t x).1.l.set _ _,_
       rw [B3]
       exact JK h.tw ((h.tw t Bf).same qR Df FJ)
  ·rw [(oE hd hc ha).1]; exact h.tw
theorem MT {q:eo} (h:(cQ m).any (jy q)=true) (hk:¬ q.kind=2):q.kind=1∧∃ t,m.l[q.t.toNat]? = some t∧AO m t=true:=by
 rw [List.any_eq_true] at h
 obtain ⟨x,hx,hs⟩:=h
 unfold jy at hs
 simp only [Bool.and_eq_true,decide_eq_true_eq] at hs
 unfold cQ at hx
 split at hx
 ·cases hx
 ·obtain ⟨i,t,_,ht,Be⟩:=wW hx
  have h1:=Ml Be
  unfold tB at Be
  rw [List.mem_append] at Be
  rcases Be with Be | Be
  ·split at Be
   ·rename_i hc
    simp at Be
    subst Be
    refine ⟨hs.1.1.1.symm,t,?_,hc⟩
    have e:q.t=(i:Int):=hs.1.1.2.symm
    rw [e]; exact ht
   ·cases Be
  ·rw [List.mem_map] at Be
   obtain ⟨k,_,rfl⟩:=Be
   exact absurd hs.1.1.1.symm hk
theorem YM (h:PM p m) (q:eo):∃ N m2 ev e,B4 N m q=some (m2,ev,e)∧PM p m2:=by
 have key:∃ N m2 ev e,B4 N m q=some (m2,ev,e):=by
  cases hc:gH m q with
  | some oH=>
   obtain ⟨N,t,ht,_⟩:=Ty h.chk
   exact ⟨N,lK (wV m oH) [t],⟨15,0,0,yC q.cut q.cut.length,0⟩,0,by unfold B4; rw [hc]; dsimp only; rw [h.u,ht]; rfl⟩
  | none=>
   by_cases ha:(cQ m).any (jy q)=true
   ·by_cases hk:q.kind=2
    ·obtain ⟨_,t,ht⟩:=pn ha
     refine ⟨0,mw m t q,oD q.t (ep t.buf q.i),0,?_⟩
     unfold B4; rw [hc]; dsimp only; rw [if_pos ha,if_pos hk,ht]; rfl
    ·obtain ⟨TU,t,ht,JL⟩:=MT ha hk
     have Bf:=List.mem_of_getElem? ht
     have gr:∃ N r,mN N m q.t=some r:=by
      by_cases hf:t.fault≠0
      ·exact ⟨0,_,by unfold mN; rw [ht]; dsimp only; rw [if_pos hf]⟩
      ·cases hn:gP t with
       | none=>unfold AO at JL; rw [hn] at JL; cases JL
       | some x=>
        by_cases h0:(dR m t q.t x).1.fault=0
        ·have ni:=(h.gm.th t Bf).2.1 x hn (by omega)
         obtain ⟨N,t2,hg⟩:=(RR (m:=m) (i:=q.t) (h.tw t Bf) hn ni).total
         exact ⟨N,_,by unfold mN; rw [ht]; dsimp only; rw [if_neg hf,hn]; dsimp only; rw [if_pos h0,hg]; rfl⟩
        ·exact ⟨0,_,by unfold mN; rw [ht]; dsimp only; rw [if_neg hf,hn]; dsimp only; rw [if_neg h0]⟩
     obtain ⟨N,r,hr⟩:=gr
     exact ⟨N,r.1,r.2,0,by unfold B4; rw [hc]; dsimp only; rw [if_pos ha,if_neg hk,hr]; rfl⟩
   ·exact ⟨0,m,⟨0,0,0,0,0⟩,13,by unfold B4; rw [hc]; dsimp only; rw [if_neg ha]⟩
 obtain ⟨N,m2,ev,e,hd⟩:=key
 exact ⟨N,m2,ev,e,hd,h.do hd⟩
theorem PM.new {N:Nat} {room:Int} {ths:List fG} (h:BI p) (hb:rL N (eD p).threads ths) (ht:∀ t∈ths,Dt p t) (hr:1≤room∧room≤16):PM p (lK (lU (eD p) room) ths):=
 ⟨h,rfl,GM.new (rR (sS h).1) (sS h).2 hb hr,ht⟩
end
def MU:eo:=⟨0,0,0,[]⟩
def g9 (a:F8) (l c:List eo) (bW:Int):eo:=
 if a.kind=2 then {a.p with cut:=a.p.cut.take 22}
 else if a.kind=1∧bW<2∧0<(c.length:Int) then c.getD (yL a.n 65535 % (c.length:Int)).toNat MU
 else if 0<(l.length:Int) then l.getD (yL a.n 65535 % (l.length:Int)).toNat MU else MU
def al1 (av:uc) (a:F8) (tl:List dE) (l:List eo) (tc:List dE) (c:List eo) (bW:Int) (sh:dE):Prop:=
 (a.kind=2∧g9 a l c bW={a.p with cut:=a.p.cut.take 22}∧∃ gc:SV,sh=⟨a.p.kind,a.p.t,a.p.i,gc⟩∧∀ w2,eP (λ _=>True) w2 (Flat.val av.p.cut) a.p.cut→eP (λ _=>True) w2 (Flat.val gc) (a.p.cut.take 22))∨
 (∃ j:Nat,tl[j]? = some sh∧l[j]? = some (g9 a l c bW))∨(∃ j:Nat,tc[j]? = some sh∧c[j]? = some (g9 a l c bW))∨(sh=⟨0,0,0,⟨none,0,0⟩⟩∧g9 a l c bW=MU)
theorem Dv {x y:eo}:x=y↔x.kind=y.kind∧x.t=y.t∧x.i=y.i∧x.cut=y.cut:=by
 cases x; cases y; simp
theorem Ba {α:Type} {xs ys:List α} {k:Nat} {x y:α} (h:xs.take k=ys.take k) (hx:xs[k]? = some x) (hy:ys[k]? = some y) (e:x=y):xs.take (k+1)=ys.take (k+1):=by
 rw [← ie hx,← ie hy,h,e]
theorem ahg {α:Type} {xs ys:List α} {k:Nat} {x y:α} (hx:xs[k]? = some x) (hy:ys[k]? = some y) (e:x≠y):xs≠ys:=λ h=>by
 rw [h,hy] at hx; exact e (Option.some.inj hx).symm
theorem getD_some {α:Type} {xs:List α} {k:Nat} {x d:α} (h:xs[k]? = some x):xs.getD k d=x:=by rw [List.getD_eq_getElem?_getD,h]; rfl
theorem St.j6 {w0 w w':World} {A:Nat→Prop} {L:List HP} {Φ:World→Prop} (hs:St w0 A (Fw.eL Φ::L) w) (e:Ext w w'):Φ w':=by
 obtain ⟨F,h,_⟩:=hs.head
 exact h.1 w' λ b hb=>e.cH b (h.2 b hb) λ x=>x
theorem C50 (av bv:Value) (xs ys:List Bool) (w:World) (hA:eP (λ _=>True) w av xs) (hB:eP (λ _=>True) w bv ys) (hn:xs.length≤1073741824):CR 50 [av,bv] w (λ v w'=>v = .bool (decide (xs=ys))∧Ext w w'):=by
 have hs:=St.start w;refine ah0 _ _ _ _ ?_;unfold S50;refine aJ yp (hA.ext hs.aF) (aJ yp (hB.ext hs.aF) (cR (aC (λ fR=>?_) (λ fR=>?_))))
 ·exact ⟨vb (decide_eq_false (λ h=>by rw [h] at fR; exact absurd rfl fR)).symm,hs.aF⟩
 ·refine ⟨λ mm i w'=>∃ k:Nat,i = .int .i64 (k:Int)∧mm=xs.length - k∧k≤xs.length∧xs.take k=ys.take k∧St w bD [] w',⟨_,0,rfl,rfl,Nat.zero_le _,rfl,hs⟩,?_⟩;rintro mm _ w1 ⟨k,rfl,rfl,hk,heq,hs⟩ fD;refine aJ yp (hA.ext hs.aF) (aR (aC (λ gX=>?_) (λ gX=>?_)))
  ·obtain ⟨jd,fM⟩:=gx (xs) (i:=((k:Int)).toNat) (by omega);refine aQ yp hA (by omega) fM (λ _ jQ=>have hs:=hs.drew;aD TY (jQ.ext hs.aF) ?_);obtain ⟨rk,kD⟩:=gx (ys) (i:=((k:Int)).toNat) (by omega);refine aQ yp hB (by omega) kD (λ _ pW=>aD TY (pW.ext hs.aF) (pG KB (aX (λ fT=>?_) (λ fT=>?_))))
   ·exact ⟨vb (decide_eq_false (ahg fM kD (by simpa using fT))).symm,hs.aF⟩
   ·refine aO (by omega) ?_;exact ⟨_,by omega,k+1,rfl,rfl,by omega,Ba heq fM kD (by simpa using fT),hs⟩
  ·exact ⟨vb (decide_eq_true (by rw [List.take_of_length_le (by omega),List.take_of_length_le (by omega)] at heq; exact heq)).symm,hs.aF⟩
theorem C20 (av bv:Value) (xs ys:List eo) (w:World) (hA:DL w av xs) (hB:DL w bv ys) (hn:xs.length≤1073741824) (hc:∀ x∈xs,x.cut.length≤1000000):CR 20 [av,bv] w (λ v w'=>v = .bool (decide (xs=ys))∧Ext w w'):=by
 have hs:=St.start w;refine ahD _ _ _ _ ?_;unfold S20;obtain ⟨asX,HN,ahh⟩:=(hA).open;have asY:=ahh.1;refine aJ nV (HN.ext hs.aF) ?_;obtain ⟨asZ,MV,ahi⟩:=(hB).open;have hn133:=ahi.1;refine aJ nV (MV.ext hs.aF) (cR (aC (λ fR=>?_) (λ fR=>?_)))
 ·exact ⟨vb (decide_eq_false (λ h=>by rw [h] at asY; omega)).symm,hs.aF⟩
 ·refine ⟨λ mm i w'=>∃ k:Nat,i = .int .i64 (k:Int)∧mm=xs.length - k∧k≤xs.length∧xs.take k=ys.take k∧St w bD [] w',⟨_,0,rfl,rfl,Nat.zero_le _,rfl,hs⟩,?_⟩;rintro mm _ w1 ⟨k,rfl,rfl,hk,heq,hs⟩ fD;refine aJ nV (HN.ext hs.aF) (aR (aC (λ gX=>?_) (λ gX=>?_)))
  ·obtain ⟨ra,al2⟩:∃ xx,xs[k]? = some xx:=⟨_,List.getElem?_eq_getElem (by omega)⟩;obtain ⟨rb,al3⟩:∃ xx,ys[k]? = some xx:=⟨_,List.getElem?_eq_getElem (by omega)⟩;refine ⟨λ jv w'=>jv = .bool (!decide (ra=rb))∧St w bD [] w',?_,?_⟩
   ·obtain ⟨jd,fM⟩:=gx asX (i:=((k:Int)).toNat) (by omega);obtain ⟨dN,om⟩:=gx (xs) (i:=((k:Int)).toNat) (by omega);obtain ⟨Tz,rfl,TA⟩:=ahh.2 _ _ _ fM om;refine aQ nV HN (by omega) fM (λ _ jQ=>bT (dN).kind pz jQ rfl rfl (λ _ LO=>have hs:=hs.drew;aD bL (LO.ext hs.aF) ?_));obtain ⟨gY,iB⟩:=gx asZ (i:=((k:Int)).toNat) (by omega);obtain ⟨Cr,wL⟩:=gx (ys) (i:=((k:Int)).toNat) (by omega);obtain ⟨TB,rfl,TC⟩:=ahi.2 _ _ _ iB wL;refine aQ nV MV (by omega) iB (λ _ wq=>bT (Cr).kind pz wq rfl rfl (λ _ uq=>aD bL (uq.ext hs.aF) ?_))
    have hra:ra=dN:=Option.some.inj (al2.symm.trans om);have Zg:rb=Cr:=Option.some.inj (al3.symm.trans wL);have hcx:=hc _ (List.mem_of_getElem? om);refine cR (aC (λ gn=>?_) (λ gn=>?_))
    ·exact ⟨vb (by rw [hra,Zg]; rw [decide_eq_false (λ h=>by rw [Dv] at h; omega)]; rfl),hs⟩
    ·refine aQ nV HN (by omega) fM (λ _ oN=>bT (dN).t iG oN rfl rfl (λ _ Ao=>aD bL (Ao.ext hs.aF) (aQ nV MV (by omega) iB (λ _ uf=>bT (Cr).t iG uf rfl rfl (λ _ Aj=>aD bL (Aj.ext hs.aF) (cR (aC (λ sy=>?_) (λ sy=>?_))))))))
     ·exact ⟨vb (by rw [hra,Zg]; rw [decide_eq_false (λ h=>by rw [Dv] at h; omega)]; rfl),hs⟩
     ·refine aQ nV HN (by omega) fM (λ _ AW=>bT (dN).i xo AW rfl rfl (λ _ Lu=>aD bL (Lu.ext hs.aF) (aQ nV MV (by omega) iB (λ _ EL=>bT (Cr).i xo EL rfl rfl (λ _ ow=>aD bL (ow.ext hs.aF) (cR (aC (λ sF=>?_) (λ sF=>?_))))))))
      ·exact ⟨vb (by rw [hra,Zg]; rw [decide_eq_false (λ h=>by rw [Dv] at h; omega)]; rfl),hs⟩
      ·refine aQ nV HN (by omega) fM (λ _ wE=>bT Tz si wE rfl rfl (λ _ Aq=>aD eB (Aq.ext hs.aF) ?_));have as0:=DL.flat (TA);refine aQ nV MV (by omega) iB (λ _ LQ=>bT TB si LQ rfl rfl (λ _ Lw=>aD eB (Lw.ext hs.aF) ?_));have as1:=DL.flat (TC);refine aZ Zz hs (C21 _ _ (dN).cut (Cr).cut _ (as0.ext hs.aF) (as1.ext hs.aF) (by omega)) (λ w2 he hs=>cC ?_);exact ⟨vb (by rw [hra,Zg]; exact congrArg (λ b=>!b) (decide_eq_decide.2 (by rw [Dv]; exact ⟨λ h=>⟨by omega,by omega,by omega,h⟩,λ h=>h.2.2.2⟩))),hs⟩
   ·rintro _ w3 ⟨rfl,hs⟩ jH;refine aX (λ ot=>?_) (λ ot=>?_)
    ·exact ⟨vb (decide_eq_false (ahg al2 al3 (by simpa using ot))).symm,hs.aF⟩
    ·refine aO (by omega) ?_;exact ⟨_,by omega,k+1,rfl,rfl,by omega,Ba heq al2 al3 (by simpa using ot),hs⟩
  ·exact ⟨vb (decide_eq_true (by rw [List.take_of_length_le (by omega),List.take_of_length_le (by omega)] at heq; exact heq)).symm,hs.aF⟩
set_option maxHeartbeats 1000000 in
theorem C24 (a:F8) (av:uc) (lv cv:Value) (Zc:List dE) (l:List eo) (Zd:List dE) (c:List eo) (bW:Int) (w:World) (ha:bZ.dr w av a) (hR8:eP (λ _=>True) w lv Zc) (hD8:jV Zc l w) (Sw:eP (λ _=>True) w cv Zd) (hD9:jV Zd c w) (hl1:l.length≤1073741824) (CK:c.length≤1073741824):CR 24 [Flat.val av,lv,cv,.int .i64 bW] w (λ v w'=>∃ sh:dE,v=Flat.val sh∧Ext w w'∧al1 av a Zc l Zd c bW sh):=by
 obtain ⟨g_p_a,rfl,as2⟩:=ha;obtain ⟨uK,rfl,TD⟩:=as2;have hn8:=hD8.1;have hn9:=hD9.1;have hAn:=DP a.n (b:=65535) (by omega) (by omega);have hs:=St.start w;refine ahH _ _ _ _ _ _ ?_;unfold S24;have YN:=DL.flat (TD);refine dJ (x:=(⟨(a).kind,(a).n,(⟨((a).p).kind,((a).p).t,((a).p).i,uK⟩:dE)⟩:uc)) hs (λ b_a4 w1 hs=>aN hs uT (λ By w2 hs=>have hs:=hs.enc (cs':=Flat.enc (⟨0,0,0,⟨none,0,0⟩⟩:dE)) rfl;aA abZ (aB (v:=.int .i64 (a).n) bL hs.p1.hb rfl (abY (by decide) (by decide) (aA Qn (aB (v:=.int .i64 (a).kind) bL hs.p1.hb rfl (aH (aC (λ eE=>?_) (λ eE=>?_)))))))))
 ·refine aA Iz (uW (⟨((a).p).kind,((a).p).t,((a).p).i,uK⟩:dE) l6 hs.p1.hb rfl (aN hs uT (λ b_p10 w3 hs=>have hs:=hs.enc (cs':=Flat.enc (⟨0,0,0,⟨none,0,0⟩⟩:dE)) rfl;aI (x:=(⟨((a).p).kind,((a).p).t,((a).p).i,uK⟩:dE)) hs l6 rfl rfl (λ w4 hs=>aA Iz (aA si (aB (v:=Flat.val (uK:SV)) eB hs.p2.hb rfl (aA Iz (aA si (aB (v:=Flat.val (uK:SV)) eB hs.p2.hb rfl (aJ eh (YN.ext hs.aF) (uV (mc eh (YN.ext hs.aF) (by omega) (by omega) (λ QC BH=>?_)))))))))))));have N4:=BH _ YN;refine aA si ?_
  obtain ⟨YO,rfl⟩:=(N4).fU;refine aV hs eB (eK rfl) (rfl) (λ w5 hs=>have hs:=hs.enc (cs':=Flat.enc (⟨((a).p).kind,((a).p).t,((a).p).i,YO⟩:dE)) rfl;aD l6 hs.At (aI (x:=(⟨((a).p).kind,((a).p).t,((a).p).i,YO⟩:dE)) hs.p1 l6 rfl rfl (λ w6 hs=>aD l6 hs.At ?_)));exact ⟨_,rfl,hs.aF,.inl ⟨eE,if_pos eE,_,rfl,λ w2 h=>by have h3:=BH w2 h; have e:=SH a.p.cut 22; rw [show ((22:Nat):Int)=22 from rfl] at e; rwa [e] at h3⟩⟩
 ·refine ⟨λ jv w'=>jv = .bool (decide (a.kind=1∧bW<2∧0<(c.length:Int)))∧w2=w',?_,?_⟩
  ·refine aA Qn (aB (v:=.int .i64 (a).kind) bL hs.p1.hb rfl (aH (aC (λ jP=>?_) (λ jP=>?_))))
   ·refine aR (aC (λ jC=>?_) (λ jC=>?_))
    ·refine aJ nV (Sw.ext hs.aF) (dB ?_);exact ⟨vQ (by omega),rfl⟩
    ·exact ⟨Zv (by omega),rfl⟩
   ·exact ⟨Zv (by omega),rfl⟩
  ·rintro _ w7 ⟨rfl,hw⟩ fD;subst hw;refine aC (λ jD=>?_) (λ jD=>?_)
   ·have aAa:=Int.emod_nonneg (yL a.n 65535) (show (Zd.length:Int)≠0 by omega);have aAb:=Int.emod_lt_of_pos (yL a.n 65535) (show (0:Int)<Zd.length by omega);refine aJ nV (Sw.ext hs.aF) (Qm (by omega) (by omega) ?_);obtain ⟨e_x47,Pr⟩:=gx Zd (i:=(((yL (a).n 65535) % (Zd.length:Int))).toNat) (by omega);obtain ⟨RS,E7⟩:=gx (c) (i:=(((yL (a).n 65535) % (Zd.length:Int))).toNat) (by omega);obtain ⟨TE,rfl,amN⟩:=hD9.2 _ _ _ Pr E7;refine aQ nV Sw (by omega) Pr (λ _ Er=>aD l6 (Er.ext hs.aF) (aI (x:=(⟨(RS).kind,(RS).t,(RS).i,TE⟩:dE)) hs l6 rfl rfl (λ w8 hs=>aD l6 hs.At ?_)))
    have hq:g9 a l c bW=RS:=by unfold g9; rw [if_neg eE,if_pos (by omega),getD_some (by rw [← hn9]; exact E7)]
    exact ⟨_,rfl,hs.aF,.inr (.inr (.inl ⟨_,Pr,by rw [hq]; exact E7⟩))⟩
   ·refine aJ nV (hR8.ext hs.aF) (dB (aC (λ pR=>?_) (λ pR=>?_)))
    ·have aAa:=Int.emod_nonneg (yL a.n 65535) (show (Zc.length:Int)≠0 by omega);have aAb:=Int.emod_lt_of_pos (yL a.n 65535) (show (0:Int)<Zc.length by omega);refine aJ nV (hR8.ext hs.aF) (Qm (by omega) (by omega) ?_);obtain ⟨LK,pb⟩:=gx Zc (i:=(((yL (a).n 65535) % (Zc.length:Int))).toNat) (by omega);obtain ⟨pZ,rE⟩:=gx (l) (i:=(((yL (a).n 65535) % (Zc.length:Int))).toNat) (by omega);obtain ⟨TF,rfl,amO⟩:=hD8.2 _ _ _ pb rE;refine aQ nV hR8 (by omega) pb (λ _ wE=>aD l6 (wE.ext hs.aF) (aI (x:=(⟨(pZ).kind,(pZ).t,(pZ).i,TF⟩:dE)) hs l6 rfl rfl (λ w9 hs=>aD l6 hs.At ?_)))
     have hq:g9 a l c bW=pZ:=by unfold g9; rw [if_neg eE,if_neg (by omega),if_pos (by omega),getD_some (by rw [← hn8]; exact rE)]
     exact ⟨_,rfl,hs.aF,.inr (.inl ⟨_,pb,by rw [hq]; exact rE⟩)⟩
    ·refine pop (v:=Flat.val (⟨0,0,0,⟨none,0,0⟩⟩:dE)) (by kernel_rfl) (aI (x:=(⟨0,0,0,⟨none,0,0⟩⟩:dE)) hs l6 rfl rfl (λ pP hs=>aD l6 hs.At ?_));exact ⟨⟨0,0,0,⟨none,0,0⟩⟩,rfl,hs.aF,.inr (.inr (.inr ⟨rfl,by unfold g9; rw [if_neg eE,if_neg (by omega),if_neg (by omega)]⟩))⟩
def xP:ByteArray:=⟨#[108,105,110,101,32,97,59,32,118,111,108,32,120,59,32,108,111,99,107,32,109,59,32,116,104,114,101,97,100,32,116,32,123,32,114,101,103,32,114,59,32,115,116,111,114,101,32,97,32,61,32,49,59,32,108,111,97,100,32,114,32,61,32,97,59,32,111,112,116,32,97,59,32,116,97,107,101,32,109,59,32,125,32,116,104,114,101,97,100,32,117,32,123,32,114,101,103,32,114,59,32,108,111,97,100,32,114,32,61,32,97,59,32,99,104,101,99,107,32,114,59,32,125,32,114,101,99,111,118,101,114,32,123,32,125,32,97,108,119,97,121,115,32,97,32,61,61,32,49,59]⟩
def vP:cY:=((rP xP).getD (Mz,0,0)).1
theorem TG:rP xP=some (vP,0,0):=by decide +kernel
theorem HO:gR vP=0:=by decide +kernel
def Gn:im:=⟨[0,1],1,[0,0],1,[⟨1,0,[⟨3,0,0,[⟨1,1⟩],[],0⟩,⟨2,0,0,[],[],0⟩,⟨6,0,0,[],[],0⟩,⟨9,0,0,[],[],0⟩]⟩,⟨1,0,[⟨2,0,0,[],[],0⟩,⟨15,0,0,[⟨2,0⟩],[],0⟩]⟩],⟨0,0,[]⟩,[[⟨2,0⟩,⟨1,1⟩,⟨10,0⟩]]⟩
theorem Bb:eD vP=Gn:=by decide +kernel
theorem TH:((uF xP).map λ r=>decide (r.1.length≤5000) && r.1.all (λ x=>decide (0≤x.at_∧x.at_≤1000000∧x.text.size≤1000000)))=some true:=by decide +kernel
theorem YP:∀ l e a,uF xP=some (l,e,a)→iD l:=by
 intro l e a h
 have:=TH
 rw [h] at this
 simp only [Option.map_some,Option.some.injEq,Bool.and_eq_true,decide_eq_true_eq,List.all_eq_true] at this
 exact ⟨this.1,λ x hx=>this.2 x hx⟩
theorem aeB:qG vP=vP:=by decide +kernel
theorem al4:PZ vP:=by rw [← aeB]; exact QX _
theorem JM:BI vP:=EU HO
def Ps:List fG:=Gn.threads.map λ c=>(rZ 20 (qc c)).getD (qc c)
theorem al5:Gn.threads.all (λ c=>(rZ 20 (qc c)).isSome)=true:=by decide +kernel
theorem HQ:rL 20 Gn.threads Ps:=by
 refine ⟨by unfold Ps; rw [List.length_map],λ j c t hc ht=>?_⟩
 unfold Ps at ht
 rw [List.getElem?_map,hc,Option.map_some] at ht
 have h:=List.all_eq_true.1 al5 c (List.mem_of_getElem? hc)
 obtain ⟨t2,h2⟩:=Option.isSome_iff_exists.1 h
 rw [h2] at ht
 rw [h2]; exact ht
def fx0:gp:=lK (lU Gn 2) Ps
def vt (m:gp) (q:eo):gp × cG × Int:=(B4 20 m q).getD (m,⟨0,0,0,0,0⟩,99)
theorem mU {m:gp} {q:eo} {ev:cG} {e:Int} (h:(vt m q).2=(ev,e)) (he:e≠99):B4 20 m q=some ((vt m q).1,ev,e):=by
 unfold vt at h ⊢
 cases hd:B4 20 m q with
 | none=>rw [hd] at h; cases h; exact absurd rfl he
 | some r=>rw [hd] at h; show some r=some (r.1,ev,e); rw [show r=(r.1,r.2) from rfl,show r.2=(ev,e) from h]
def MW:eo:=⟨1,0,0,[]⟩
def pOt:eo:=⟨1,1,0,[]⟩
def pOu:eo:=⟨2,0,0,[]⟩
def pCr:eo:=⟨3,0,0,[1]⟩
def fx1:gp:=(vt fx0 MW).1
def fx2:gp:=(vt fx1 MW).1
def fx3:gp:=(vt fx2 pOt).1
def fx4:gp:=(vt fx3 pOu).1
def fx5:gp:=(vt fx4 MW).1
def fx6:gp:=(vt fx5 MW).1
def fx7:gp:=(vt fx6 pCr).1
def fxo:gp:=(vt fx6 pOt).1
theorem fd1:(vt fx0 MW).2=(⟨3,0,0,1,0⟩,0):=by decide +kernel
theorem fd2:(vt fx1 MW).2=(⟨2,0,0,1,0⟩,0):=by decide +kernel
theorem fd3:(vt fx2 pOt).2=(⟨1,1,0,0,0⟩,0):=by decide +kernel
theorem fd4:(vt fx3 pOu).2=(⟨12,0,0,1,0⟩,0):=by decide +kernel
theorem fd5:(vt fx4 MW).2=(⟨5,0,0,0,0⟩,0):=by decide +kernel
theorem fd6:(vt fx5 MW).2=(⟨0,0,0,0,0⟩,13):=by decide +kernel
theorem fd7:(vt fx6 pCr).2=(⟨15,0,0,1,0⟩,0):=by decide +kernel
theorem fdo:(vt fx6 pOt).2=(⟨16,1,1,0,0⟩,0):=by decide +kernel
theorem fp2:cQ fx2=[MW,pOu,pOt]:=by decide +kernel
theorem as3:Di fx7=[true]:=by decide +kernel
theorem fpo:cQ fxo=[]:=by decide +kernel
theorem fco:cK fxo=[]:=by decide +kernel
theorem fro:AQ fxo 0=[1]:=by decide +kernel
theorem fr2:AQ fxo 2=[]:=by decide +kernel
theorem fl7:fx7.mem.l=[1,0]:=by decide +kernel
theorem fk7:fx7.mem.kept=[1]:=by decide +kernel
theorem frt:nz EV=false:=by decide +kernel
structure vS (p:cY) (m:gp) (n:Nat):Prop where
 pm:PM p m
 mb:MB m.mem n
 cr:m.bW≤n
theorem vS.do {p:cY} {m m2:gp} {n N:Nat} {q:eo} {ev:cG} {e:Int} (h:vS p m n) (hd:B4 N m q=some (m2,ev,e)):vS p m2 (n+1):=
 ⟨h.pm.do hd,h.mb.do hd,by have:=(FH hd).1; have:=h.cr; omega⟩
theorem vS.new {p:cY} {N:Nat} {room:Int} {ths:List fG} (h:BI p) (hb:rL N (eD p).threads ths) (ht:∀ t∈ths,Dt p t) (hr:1≤room∧room≤16):vS p (lK (lU (eD p) room) ths) 0:=
 ⟨PM.new h hb ht hr,MB.new,Int.le_refl _⟩
section
variable {p:cY} {K:World→Prop} {q:Nat} {m:gp} {n:Nat} {w:World}
theorem aeF (h:vS p m n) (hm:Has (eJ K q m) w) (hw:K w) (uM:∀ w',Ext w w'→K w'):Calls PG 16 [(.pointer (some ⟨q,0,none⟩))].toArray w (qf λ v w'=>lY (fq v (cQ m)) w w'):=C16 K q m w hm hw uM h.pm.gm.ok
theorem TI (h:vS p m n) (hm:Has (eJ K q m) w) (hw:K w) (uM:∀ w',Ext w w'→K w'):Calls PG 18 [(.pointer (some ⟨q,0,none⟩))].toArray w (qf λ v w'=>v=Flat.val (dG m)∧Ext w w'):=C18 K q m w hm hw uM h.pm.gm.ok
theorem aAf (h:vS p m n) (hn:n≤1000000) (hm:Has (eJ K q m) w) (hw:K w) (uM:∀ w',Ext w w'→K w'):Calls PG 19 [(.pointer (some ⟨q,0,none⟩))].toArray w (qf λ v w'=>∃ b,v = .pointer (some ⟨b,0,none⟩)∧lY (eJ K b m) w w'):=C19 K q m w hm hw uM h.pm.gm.ok (h.mb.mono hn) (by have:=h.pm.gm.ru.lk; omega)
theorem aAg (h:vS p m n) (hm:Has (eJ K q m) w) (hw:K w) (uM:∀ w',Ext w w'→K w'):Calls PG 22 [(.pointer (some ⟨q,0,none⟩))].toArray w (qf λ v w'=>lY (bK v m.mem.l) w w'):=C22 K q m w hm hw uM h.pm.gm.ok
theorem aAh (h:vS p m n) (hm:Has (eJ K q m) w) (hw:K w) (uM:∀ w',Ext w w'→K w'):Calls PG 23 [(.pointer (some ⟨q,0,none⟩))].toArray w (qf λ v w'=>lY (bK v m.mem.kept) w w'):=C23 K q m w hm hw uM h.pm.gm.ok
theorem GM.rgl (h:GM m):∀ t∈m.l,t.aK.length≤4:=λ t ht=>by
 have h1:=(h.th t ht).1.rg; have h2:=(h.code ht).rb; omega
theorem as4 (i:Int) (h:vS p m n) (hm:Has (eJ K q m) w) (hw:K w) (uM:∀ w',Ext w w'→K w'):Calls PG 25 [(.pointer (some ⟨q,0,none⟩)),.int .i64 i].toArray w (qf λ v w'=>lY (bK v (AQ m i)) w w'):=C25 K q m i w hm hw uM h.pm.gm.ok λ t ht=>by have:=h.pm.gm.rgl t ht; omega
theorem aAi (i:Int) (h:vS p m n) (hm:Has (eJ K q m) w) (hw:K w) (uM:∀ w',Ext w w'→K w'):Calls PG 35 [(.pointer (some ⟨q,0,none⟩)),.int .i64 i].toArray w (qf λ v w'=>lY (bK v (CN m i)) w w'):=C35 K q m i w hm hw uM h.pm.gm.ok
theorem aeG (h:vS p m n) (hn:n≤1000000) (hC:(eV (BX m.mem)).length≤1000000000) (hm:Has (eJ K q m) w) (hw:K w) (uM:∀ w',Ext w w'→K w'):Calls PG 31 [(.pointer (some ⟨q,0,none⟩))].toArray w (qf λ v w'=>lY (fq v (cK m)) w w'):=C31 K q m w hm hw uM h.pm.gm.ok (h.mb.mono hn) hC
theorem aAj (h:vS p m n) (hm:Has (eJ K q m) w) (hw:K w) (uM:∀ w',Ext w w'→K w'):Calls PG 49 [(.pointer (some ⟨q,0,none⟩))].toArray w (qf λ v w'=>lY (bK v (Di m)) w w'):=by
 have h1:=h.pm.gm.ru.st; have h2:=h.pm.gm.ru.fl; have h3:=h.pm.gm.mem.ll; have h4:=h.pm.gm.dH
 exact C49 K q m w hm hw uM h.pm.gm.ok h.pm.gm.uz.cD h.pm.gm.uz.cl ⟨h1.1,by rw [h3,h4]; omega⟩
theorem JN {N:Nat} {k:eo} {gc:SV} {m2:gp} {ev:cG} {e:Int} {F:Nat→Prop} (h:vS p m n) (hn:n≤1000000) (hd:B4 N m k=some (m2,ev,e)) (hql:k.cut.length≤1000) (hF:(eJ K q m).p w F) (hK:∀ w',iF F w w'→K w') (AS:∀ w',iF F w w'→eP (λ _=>True) w' (Flat.val gc) k.cut) :
  Calls PG 17 [(.pointer (some ⟨q,0,none⟩)),Flat.val (⟨k.kind,k.t,k.i,gc⟩:dE)].toArray w (qf λ v w'=>v = .tuple #[Flat.val ev,.int .i64 e]∧qy F (eJ K q m2) w w'):=
 C17 K q m N k gc m2 ev e F w hF hK h.pm.gm.ok (h.mb.mono hn) ⟨h.pm.gm.cr,by have:=h.cr; omega⟩ (h.pm.gm.ru.rc.ok h.pm.gm.uz.rc) (by have:=h.pm.gm.ru.lk; omega) AS hql hd
theorem as5 (u:im) (uv:dQ) (room:Int) (N:Nat) (ths:List fG) (hu:bZ.dr w uv u) (hz:UZ u) (hr:nz u=true) (hn:Re N u ths) (h1:1≤room) (h2:room≤16):Calls PG 15 [Flat.val uv,.int .i64 room].toArray w (qf λ v w'=>∃ K p,v = .tuple #[.pointer (some ⟨p,0,none⟩),.int .i64 0]∧lY (sep (eJ K p (lK (lU u room) ths)) (eL K)) w w'):=
 (C15 u uv room N ths w hu hz λ _=>hn).mono λ _ _ r=>r.mono λ _ _ h=>by
  rcases h with ⟨h3,_⟩ | ⟨_,h3,_⟩ | ⟨_,_,_,h3⟩
  ·rw [hr] at h3; cases h3
  ·omega
  ·exact h3
theorem as6 (uv:dQ) (room:Int) (hu:bZ.dr w uv EV):Calls PG 15 [Flat.val uv,.int .i64 room].toArray w (qf λ v w'=>v = .tuple #[.pointer none,.int .i64 8]∧Ext w w'):=
 (C15 EV uv room 0 [] w hu ⟨by decide,by decide,by decide,by decide,λ c hc=>(by cases hc),⟨by decide,λ x hx=>(by cases hx)⟩,λ l hl=>(by cases hl)⟩ (λ h=>by rw [frt] at h; cases h)).mono λ _ _ r=>r.mono λ _ _ h=>by
  rcases h with ⟨_,h3⟩ | ⟨h3,_⟩ | ⟨h3,_⟩
  ·exact h3
  ·rw [frt] at h3; cases h3
  ·rw [frt] at h3; cases h3
end
theorem YQ {p:cY} {N:Nat} {ths:List fG} (h:BI p) (hb:rL N (eD p).threads ths):∀ t∈ths,Dt p t:=by
 intro t ht
 obtain ⟨i,hi⟩:=px ht
 have mG:=(List.getElem?_eq_some_iff.1 hi).1
 obtain ⟨c,hc⟩:∃ c,(eD p).threads[i]? = some c:=⟨_,List.getElem?_eq_getElem (by rw [← hb.1]; exact mG)⟩
 have hg:=hb.2 i c t hc hi
 have M6:=List.mem_of_getElem? hc
 obtain ⟨tt,htt,rfl⟩:=List.mem_map.1 (show c∈p.threads.map (ml p) from M6)
 obtain ⟨b,hb2,_⟩:=JJ h (List.mem_append_left p.recover htt)
 have hru:=rR (sS h).1
 have h0:Dt p (qc (ml p tt)):=⟨b,tt.aK,λ g=>by obtain ⟨r,h1,_⟩:=Du hb2 (hru.th _ M6).cb.1 g; exact ⟨r,h1⟩⟩
 exact h0.go hg
theorem as7:vS vP fx0 0:=by
 have hb:rL 20 (eD vP).threads Ps:=by rw [Bb]; exact HQ
 have:=vS.new (room:=2) JM hb (YQ JM hb) (by decide)
 rw [Bb] at this; exact this
theorem as8:vS vP fx1 1:=as7.do (mU fd1 (by decide))
theorem aeH:vS vP fx2 2:=as8.do (mU fd2 (by decide))
theorem as9:vS vP fx3 3:=aeH.do (mU fd3 (by decide))
theorem ata:vS vP fx4 4:=as9.do (mU fd4 (by decide))
theorem atb:vS vP fx5 5:=ata.do (mU fd5 (by decide))
theorem YR:vS vP fx6 6:=atb.do (mU fd6 (by decide))
theorem aeI:vS vP fx7 7:=YR.do (mU fd7 (by decide))
theorem YS:vS vP fxo 7:=YR.do (mU fdo (by decide))
theorem aAk:(eV (BX fxo.mem)).length≤1000000000:=by decide +kernel
theorem JO:nz Gn=true∧UZ Gn:=by have:=sS JM; rw [Bb] at this; exact this
theorem aeJ:Re 20 Gn Ps:=MK (rR JO.1) JO.2 HQ
theorem aeK (w:World):jV [(⟨1,0,0,⟨none,0,0⟩⟩:dE),⟨2,0,0,⟨none,0,0⟩⟩,⟨1,1,0,⟨none,0,0⟩⟩] [MW,pOu,pOt] w:=by
 have h1:jV ([]++[(⟨1,0,0,⟨none,0,0⟩⟩:dE)]) ([]++[MW]) w:=jV.nil.snoc ⟨_,rfl,DL.nil w⟩
 have h2:jV ([]++[(⟨1,0,0,⟨none,0,0⟩⟩:dE)]++[⟨2,0,0,⟨none,0,0⟩⟩]) ([]++[MW]++[pOu]) w:=h1.snoc ⟨_,rfl,DL.nil w⟩
 exact h2.snoc ⟨_,rfl,DL.nil w⟩
theorem HS {p:cY} {m:gp} {n:Nat} (_:vS p m n):∀ x∈cQ m,x.cut=[]:=by
 intro x hx
 unfold cQ at hx
 split at hx
 ·cases hx
 ·obtain ⟨i,t,_,_,Be⟩:=wW hx
  unfold tB at Be
  rw [List.mem_append] at Be
  rcases Be with Be | Be
  ·split at Be
   ·simp at Be; rw [Be]
   ·cases Be
  ·rw [List.mem_map] at Be; obtain ⟨k,_,rfl⟩:=Be; rfl
theorem al7 (s:ByteArray) (p:cY) (e a:Int) (w:World) (Y8:s.size≤1000000) (hr:rP s=some (p,e,a)) (hTk:∀ l e a,uF s=some (l,e,a)→iD l) (hz:PZ p) (hc:gR p=0) :
  Calls PG 48 [.string s].toArray w (qf λ v w'=>∃ uv:dQ,v=Flat.val uv∧lY (eL (λ w=>bZ.dr w uv (eD p))) w w'):=
 (C48 s (p,e,a) w Y8 hr hTk hz).mono λ _ _ r=>r.mono λ v w' h=>by
  obtain ⟨uv,h1,h2⟩:=h
  refine ⟨uv,h1,?_⟩
  have e1:(if gR p=0 then eD p else EV)=eD p:=if_pos hc
  have h3:lY (eL (λ w=>bZ.dr w uv (if gR p=0 then eD p else EV))) w w':=h2
  rw [e1] at h3; exact h3
theorem atc (w:World):Calls PG 48 [.string xP].toArray w (qf λ v w'=>∃ uv:dQ,v=Flat.val uv∧lY (eL (λ w=>bZ.dr w uv Gn)) w w'):=by
 rw [← Bb]
 exact al7 xP vP 0 0 w (by decide +kernel) TG YP al4 HO
set_option maxHeartbeats 4000000 in
set_option maxRecDepth 100000 in
theorem C14 (w:World):CR 14 [] w (λ v w'=>v = .bool true∧Ext w w'):=by
 have hs:=St.start w;refine ahx _ _ ?_;unfold S14;refine eA avl (atc _) ?_;rintro _ w1 ⟨al8,rfl,cA⟩;have hs:=hs.made cA;refine eA ahJ (as5 Gn al8 2 20 Ps (hs).eL JO.2 JO.1 aeJ (by decide) (by decide)) ?_;rintro _ w2 ⟨K,p,rfl,cA⟩;have hs:=(hs.made cA).split;refine bE rfl (bE rfl (pop (v:=Flat.val (⟨⟨none,0,0⟩,0,⟨none,0,0⟩,0,⟨none,0,0⟩,(⟨0,0,⟨none,0,0⟩⟩:cN),⟨none,0,0⟩⟩:dQ)) (by kernel_rfl) (have hs:=(hs.p2).drop;aZ ahJ hs (as6 (⟨⟨none,0,0⟩,0,⟨none,0,0⟩,0,⟨none,0,0⟩,(⟨0,0,⟨none,0,0⟩⟩:cN),⟨none,0,0⟩⟩:dQ) 2 (show bZ.dr _ (⟨⟨none,0,0⟩,0,⟨none,0,0⟩,0,⟨none,0,0⟩,(⟨0,0,⟨none,0,0⟩⟩:cN),⟨none,0,0⟩⟩:dQ) (⟨[],0,[],0,[],(⟨0,0,[]⟩:fu),[]⟩:im) from ⟨_,_,_,_,_,rfl,DL.nil _,DL.nil _,DL.nil _,⟨_,rfl,DL.nil _⟩,DL.nil _⟩)) (λ w3 he hs=>bE rfl (bE rfl ?_)))))
 refine ⟨_,?_,λ _ _ h=>h⟩;refine DQ UQ (fJ (cR ?_));intro fD;refine fS (by decide) (pop (IB _) (pop (GQ _ _) (aN hs uT (λ auP w5 hs=>have hs:=hs.enc (cs':=Flat.enc (⟨0,0,0,⟨none,0,0⟩⟩:dE)) rfl;aN hs uT (λ atd w6 hs=>have hs:=hs.enc (cs':=Flat.enc (⟨0,0,0,⟨none,0,0⟩⟩:dE)) rfl;aI (x:=(⟨1,0,0,⟨none,0,0⟩⟩:dE)) hs.p1 l6 rfl rfl (λ w7 hs=>aI (x:=(⟨1,1,0,⟨none,0,0⟩⟩:dE)) hs.p1 l6 rfl rfl (λ w8 hs=>aD l6 hs.p1.At (bI Ib hs.p2 (H':=λ _=>eJ K p fx1) (Φ:=λ v _=>v = .tuple #[Flat.val (⟨3,0,0,1,0⟩:cG),.int .i64 0]) (λ F2 eW eF=>?_) ?_))))))))
 ·exact JN (N:=20) (k:=MW) (gc:=⟨none,0,0⟩) as7 (by decide) (mU fd1 (by decide)) (by decide) eW (λ w' hc=>((eF w' hc).p2).eL) (λ w' hc=>(eP.nil (λ _=>True) w'))
 rintro _ w9 rfl hs;refine bE rfl (bE rfl (aN hs lG (λ b_a7 pP hs=>aI (x:=(⟨3,0,0,1,0⟩:cG)) hs fg rfl rfl (λ sZ hs=>aD l6 hs.p3.At (bI Ib hs.p1 (H':=λ _=>eJ K p fx2) (Φ:=λ v _=>v = .tuple #[Flat.val (⟨2,0,0,1,0⟩:cG),.int .i64 0]) (λ F2 eW eF=>?_) ?_)))))
 ·exact JN (N:=20) (k:=MW) (gc:=⟨none,0,0⟩) as8 (by decide) (mU fd2 (by decide)) (by decide) eW (λ w' hc=>((eF w' hc).p3).eL) (λ w' hc=>(eP.nil (λ _=>True) w'))
 rintro _ vy rfl hs;refine bE rfl (bE rfl (aN hs lG (λ b_b9 vz hs=>aI (x:=(⟨2,0,0,1,0⟩:cG)) hs fg rfl rfl (λ su hs=>dF FZ hs (aeF aeH (hs.p1).has (hs.p5).eL (λ w' e=>St.j6 (hs.p5) e)) (λ x57 wm cA hs=>aD l6 hs.p4.At (bI Ib hs.p2 (H':=λ _=>eJ K p fx3) (Φ:=λ v _=>v = .tuple #[Flat.val (⟨1,1,0,0,0⟩:cG),.int .i64 0]) (λ F2 eW eF=>?_) ?_))))))
 ·exact JN (N:=20) (k:=pOt) (gc:=⟨none,0,0⟩) aeH (by decide) (mU fd3 (by decide)) (by decide) eW (λ w' hc=>((eF w' hc).p5).eL) (λ w' hc=>(eP.nil (λ _=>True) w'))
 rintro _ zq rfl hs;refine bE rfl (bE rfl (aN hs lG (λ b_c12 CH hs=>aI (x:=(⟨1,1,0,0,0⟩:cG)) hs fg rfl rfl (λ IN hs=>pop (IB _) (bI Ib hs.p1 (H':=λ _=>eJ K p fx4) (Φ:=λ v _=>v = .tuple #[Flat.val (⟨12,0,0,1,0⟩:cG),.int .i64 0]) (λ F2 eW eF=>?_) ?_)))))
 ·exact JN (N:=20) (k:=pOu) (gc:=⟨none,0,0⟩) as9 (by decide) (mU fd4 (by decide)) (by decide) eW (λ w' hc=>((eF w' hc).p6).eL) (λ w' hc=>(eP.nil (λ _=>True) w'))
 rintro _ JQ rfl hs;refine bE rfl (bE rfl (aN hs lG (λ b_d14 Lc hs=>aI (x:=(⟨12,0,0,1,0⟩:cG)) hs fg rfl rfl (λ M4 hs=>aD l6 hs.p7.At (bI Ib hs.p1 (H':=λ _=>eJ K p fx5) (Φ:=λ v _=>v = .tuple #[Flat.val (⟨5,0,0,0,0⟩:cG),.int .i64 0]) (λ F2 eW eF=>?_) ?_)))))
 ·exact JN (N:=20) (k:=MW) (gc:=⟨none,0,0⟩) ata (by decide) (mU fd5 (by decide)) (by decide) eW (λ w' hc=>((eF w' hc).p7).eL) (λ w' hc=>(eP.nil (λ _=>True) w'))
 rintro _ QS rfl hs;refine bE rfl (bE rfl (aD l6 hs.p7.At (bI Ib hs (H':=λ _=>eJ K p fx6) (Φ:=λ v _=>v = .tuple #[Flat.val (⟨0,0,0,0,0⟩:cG),.int .i64 13]) (λ F2 eW eF=>?_) ?_)))
 ·exact JN (N:=20) (k:=MW) (gc:=⟨none,0,0⟩) atb (by decide) (mU fd6 (by decide)) (by decide) eW (λ w' hc=>((eF w' hc).p7).eL) (λ w' hc=>(eP.nil (λ _=>True) w'))
 rintro _ T3 rfl hs;refine bE rfl (bE rfl (aN hs lG (λ b_x16 Wk hs=>aI (x:=(⟨0,0,0,0,0⟩:cG)) hs fg rfl rfl (λ SB hs=>eA ave (aAf YR (by decide) (hs.p1).has (hs.p9).eL (λ w' e=>St.j6 (hs.p9) e)) ?_))));rintro _ w26 ⟨ate,rfl,cA⟩;have hs:=hs.made cA;refine bV (([1]:List Int)) hs eh rfl rfl (eK rfl) (λ s_x86 w27 hs=>?_);obtain ⟨al9,rfl⟩:=(hs).fU;refine pop (GR _ _ _ _) (bI Ib hs.p3 (H':=λ _=>eJ K p fx7) (Φ:=λ v _=>v = .tuple #[Flat.val (⟨15,0,0,1,0⟩:cG),.int .i64 0]) (λ F2 eW eF=>?_) ?_)
 ·exact JN (N:=20) (k:=pCr) (gc:=al9) YR (by decide) (mU fd7 (by decide)) (by decide) eW (λ w' hc=>((eF w' hc).r8).eL) (λ w' hc=>((eF w' hc)).fF)
 rintro _ w28 rfl hs;refine bE rfl (bE rfl (aN hs lG (λ b_k19 w29 hs=>aI (x:=(⟨15,0,0,1,0⟩:cG)) hs fg rfl rfl (λ w30 hs=>have hs:=((hs.p2.drop).p3).drop;aZ R7 hs (TI aeI (hs.p1).has (hs.r8).eL (λ w' e=>St.j6 (hs.r8) e)) (λ w31 he hs=>dF avm hs (aAj aeI (hs.p1).has (hs.r8).eL (λ w' e=>St.j6 (hs.r8) e)) (λ x94 w32 cA hs=>aN hs Iy (λ b_s21 w33 hs=>aI (x:=(dG fx7)) hs KC rfl rfl (λ w34 hs=>DQ UQ (fJ (aD l6 hs.r8.At (bI Ib hs.p4 (H':=λ _=>eJ K ate fxo) (Φ:=λ v _=>v = .tuple #[Flat.val (⟨16,1,1,0,0⟩:cG),.int .i64 0]) (λ F2 eW eF=>?_) ?_)))))))))))
 ·exact JN (N:=20) (k:=pOt) (gc:=⟨none,0,0⟩) YR (by decide) (mU fdo (by decide)) (by decide) eW (λ w' hc=>((eF w' hc).p11).eL) (λ w' hc=>(eP.nil (λ _=>True) w'))
 rintro _ w35 rfl hs;refine bE rfl (bE rfl (aN hs lG (λ b_v23 w36 hs=>aI (x:=(⟨16,1,1,0,0⟩:cG)) hs fg rfl rfl (λ w37 hs=>aZ R7 hs (TI YS (hs.p1).has (hs.p13).eL (λ w' e=>St.j6 (hs.p13) e)) (λ w38 he hs=>aN hs Iy (λ b_w25 WL hs=>aI (x:=(dG fxo)) hs KC rfl rfl (λ w40 hs=>?_)))))));refine ⟨_,?_,λ _ _ h=>h⟩;refine aH (gJ (by decide) (aD fg hs.p11.At (pop (tZ _ _) (lD GU rfl rfl (show _=decide True from rfl) (gJ (by decide) (aH (gJ (by decide) (aD fg hs.r8.At (pop (tZ _ _) (lD GU rfl rfl (show _=decide True from rfl) (gJ (by decide) (aD l6 hs.p13.At ?_))))))))))))
 refine pop (IB _) (aD l6 hs.p12.At (bV ([(⟨1,0,0,⟨none,0,0⟩⟩:dE),⟨2,0,0,⟨none,0,0⟩⟩,⟨1,1,0,⟨none,0,0⟩⟩]) hs nV rfl rfl (eK rfl) (λ aAl w41 hs=>aZ avf hs (C20 _ _ (cQ fx2) [MW,pOu,pOt] _ (hs.r8).dl (DL.of (hs).fF (aeK _)) (by rw [fp2]; decide) (λ x hx=>by rw [HS aeH x hx]; decide)) (λ w42 he hs=>gJ (decide_eq_true fp2) (have hs:=((((((((hs.r8.drop)).drop).p12).drop).r8).drop).p9).drop;aD fg hs.p8.At (pop (Bt _ _) (lD GU rfl rfl (show _=decide True from rfl) (gJ (by decide) (aD fg hs.p7.At (pop (tZ _ _) (lD GU rfl rfl (show _=decide True from rfl) (gJ (by decide) ?_))))))))))))
 refine aH (gJ (by decide) (aD fg hs.p5.At (pop (tZ _ _) (lD GU rfl rfl (show _=decide True from rfl) (gJ (by decide) (aD KC hs.p3.At (pop (Si _ _) (lD afP rfl rfl (show _=decide True from rfl) (gJ (by decide) (bV ([true]) hs yp rfl rfl (eK rfl) (λ aAm w43 hs=>aZ avn hs (C50 _ _ (Di fx7) [true] _ (hs.p5).fF (hs).fF (by rw [as3]; decide)) (λ w44 he hs=>gJ (decide_eq_true as3) ?_))))))))))));refine aD fg hs.p2.At (pop (so _ _ _) (lD GU rfl rfl (show _=decide True from rfl) (gJ (by decide) (aD KC hs.p1.At (pop (Sj _ _) (lD afP rfl rfl (show _=decide True from rfl) (gJ (by decide) (have hs:=((((((((((((((((hs.drop)).drop)).drop).p1).drop).p1).drop).p1).drop).p2).drop).p2).drop).p2).drop;dF FZ hs (aeF YS (hs).has (hs.p2).eL (λ w' e=>St.j6 (hs.p2) e)) (λ x170 w45 cA hs=>?_)))))))))
 obtain ⟨auQ,aeL,aeM,_⟩:=(hs).dl;refine aJ nV aeL ?_;rw [aeM];refine aH (gJ (by rw [fpo]; rfl) (dF ZA hs (aeG YS (by decide) aAk (hs.p1).has (hs.p3).eL (λ w' e=>St.j6 (hs.p3) e)) (λ x176 w46 cA hs=>?_)));obtain ⟨auR,aeN,aeO,_⟩:=(hs).dl;refine aJ nV aeN ?_;rw [aeO];refine aH (gJ (by rw [fco]; rfl) (dF anl hs (as4 (0) YS (hs.p2).has (hs.p4).eL (λ w' e=>St.j6 (hs.p4) e)) (λ x182 w47 cA hs=>bV (([1]:List Int)) hs eh rfl rfl (eK rfl) (λ aAn w48 hs=>aZ Zz hs (C21 _ _ (AQ fxo (0)) ([1]:List Int) _ (hs.p1).fF (hs).fF (by rw [fro]; decide)) (λ w49 he hs=>gJ (decide_eq_true fro) (dF anl hs (as4 (2) YS (hs.p4).has (hs.p6).eL (λ w' e=>St.j6 (hs.p6) e)) (λ x188 w50 cA hs=>aJ eh (hs).fF (aH (gJ (by rw [fr2]; rfl) (dF ank hs (aAg aeI (hs.p6).has (hs.p7).eL (λ w' e=>St.j6 (hs.p7) e)) (λ x194 w51 cA hs=>bV (([1,0]:List Int)) hs eh rfl rfl (eK rfl) (λ aAo w52 hs=>aZ Zz hs (C21 _ _ (fx7.mem.l) ([1,0]:List Int) _ (hs.p1).fF (hs).fF (by rw [fl7]; decide)) (λ w53 he hs=>?_)))))))))))))
 refine gJ (decide_eq_true fl7) (dF avg hs (aAh aeI (hs.p8).has (hs.p9).eL (λ w' e=>St.j6 (hs.p9) e)) (λ x200 w54 cA hs=>bV (([1]:List Int)) hs eh rfl rfl (eK rfl) (λ aAp w55 hs=>aZ Zz hs (C21 _ _ (fx7.mem.kept) ([1]:List Int) _ (hs.p1).fF (hs).fF (by rw [fk7]; decide)) (λ w56 he hs=>?_))));intro jH;exact ⟨vb (decide_eq_true fk7),hs.aF⟩
theorem ama {N:Nat} {m m2:gp} {q:eo} {ev:cG} {e:Int} (hd:B4 N m q=some (m2,ev,e)):e=0∨(m2=m∧ev=⟨0,0,0,0,0⟩∧e=13):=by
 cases hc:gH m q with
 | some oH=>obtain ⟨t,_,_,_,he⟩:=pk hd hc; exact .inl he
 | none=>
  by_cases ha:(cQ m).any (jy q)=true
  ·by_cases hk:q.kind=2
   ·obtain ⟨_,t,ht⟩:=pn ha
    exact .inl (oF hd hc ha hk ht).2.2
   ·exact .inl (my hd hc ha hk).2
  ·obtain ⟨h1,h2,h3⟩:=oE hd hc ha; exact .inr ⟨h1,h2,h3⟩
theorem FK {w:World} {g:dE} {x:eo} (h:bZ.dr w g x):eP (λ _=>True) w (Flat.val g.cut) x.cut:=by
 obtain ⟨_,rfl,h⟩:=h; exact DL.flat h
theorem al1.rd {av:uc} {a:F8} {tl:List dE} {l:List eo} {tc:List dE} {c:List eo} {cr:Int} {sh:dE} (h:al1 av a tl l tc c cr sh) {w1:World} (h1:jV tl l w1) (h2:jV tc c w1) :
  ∃ gc:SV,sh=⟨(g9 a l c cr).kind,(g9 a l c cr).t,(g9 a l c cr).i,gc⟩∧∀ w2,eP (λ _=>True) w2 (Flat.val av.p.cut) a.p.cut→jV tl l w2→jV tc c w2→eP (λ _=>True) w2 (Flat.val gc) (g9 a l c cr).cut:=by
 rcases h with ⟨_,hq,gc,hs,hr⟩ | ⟨j,hj,hq⟩ | ⟨j,hj,hq⟩ | ⟨hs,hq⟩
 ·rw [hq]; exact ⟨gc,hs,λ w2 h _ _=>hr w2 h⟩
 ·obtain ⟨gc,hs,_⟩:=h1.2 j _ _ hj hq
  refine ⟨gc,hs,λ w2 _ h3 _=>?_⟩
  have:=FK (h3.2 j _ _ hj hq)
  rw [hs] at this; exact this
 ·obtain ⟨gc,hs,_⟩:=h2.2 j _ _ hj hq
  refine ⟨gc,hs,λ w2 _ _ h3=>?_⟩
  have:=FK (h3.2 j _ _ hj hq)
  rw [hs] at this; exact this
 ·rw [hq]; exact ⟨⟨none,0,0⟩,hs,λ w2 _ _ _=>eP.nil (λ _=>True) w2⟩
theorem aeP {a:F8} {l c:List eo} {cr:Int} (h1:∀ x∈l,x.cut.length≤1000) (h2:∀ x∈c,x.cut.length≤1000):(g9 a l c cr).cut.length≤1000:=by
 have key:∀ (xs:List eo) (k:Nat),(∀ x∈xs,x.cut.length≤1000)→(xs.getD k MU).cut.length≤1000:=by
  intro xs k hx
  rw [List.getD_eq_getElem?_getD]
  cases hk:xs[k]? with
  | none=>decide
  | some y=>exact hx y (List.mem_of_getElem? hk)
 unfold g9
 split
 ·show (a.p.cut.take 22).length≤1000; rw [List.length_take]; omega
 ·split
  ·exact key _ _ h2
  ·split
   ·exact key _ _ h1
   ·decide
theorem Gp {p:cY} {m:gp} {n:Nat} (h:vS p m n):∀ x∈cQ m,x.cut.length≤1000:=λ x hx=>by rw [HS h x hx]; decide
theorem uL {p:cY} {m:gp} {n:Nat} (h:vS p m n):(cQ m).length≤1073741824:=Nat.le_trans (po h.pm.gm.ok) (by decide)
inductive DoK (m:gp) (q:eo) (m2:gp) (ev:cG):Prop where
 | RM (oH:List Int) (t:fG) (N:Nat) (hc:gH m q=some oH) (hg:rZ N (qc m.u.recover)=some t) (hm:m2=lK (wV m oH) [t]) (he:ev=⟨15,0,0,yC q.cut q.cut.length,0⟩)
 | out (t:fG) (ht:m.l[q.t.toNat]? = some t) (h0:0≤q.t) (hm:m2=mw m t q) (he:ev=oD q.t (ep t.buf q.i))
 | bad (t:fG) (ht:m.l[q.t.toNat]? = some t) (h0:0≤q.t) (hf:t.fault≠0) (hm:m2={m with fault:=t.fault,mv:=q.t}) (he:ev=⟨16,q.t,t.fault,0,0⟩)
 | act (t t2:fG) (x:aW) (ht:m.l[q.t.toNat]? = some t) (h0:0≤q.t) (hf:t.fault=0) (hn:gP t=some x) (JL:AO m t=true) (hm:m2={ (dR m t q.t x).1 with l:=m.l.set q.t.toNat t2}) (he:ev={ (dR m t q.t x).2.2 with t:=q.t})
theorem aeQ {N:Nat} {m m2:gp} {q:eo} {ev:cG} (hd:B4 N m q=some (m2,ev,0)):DoK m q m2 ev:=by
 cases hc:gH m q with
 | some oH=>obtain ⟨t,hg,hm,he,_⟩:=pk hd hc; exact .RM oH t N hc hg hm he
 | none=>
  by_cases ha:(cQ m).any (jy q)=true
  ·by_cases hk:q.kind=2
   ·obtain ⟨h0,t,ht⟩:=pn ha
    obtain ⟨hm,he,_⟩:=oF hd hc ha hk ht
    exact .out t ht h0 hm he
   ·have h0:=(pn ha).1
    have hs:=(my hd hc ha hk).1
    obtain ⟨_,t,ht,JL⟩:=MT ha hk
    by_cases hf:t.fault≠0
    ·obtain ⟨hm,he⟩:=xG hs ht hf
     exact .bad t ht h0 hf hm he
    ·obtain ⟨x,hn⟩:=xH hs ht hf
     by_cases h2:(dR m t q.t x).1.fault=0
     ·obtain ⟨t2,_,hm,he⟩:=xI hs ht hf hn h2
      rw [B3] at hm
      exact .act t t2 x ht h0 (by omega) hn JL hm he
     ·obtain ⟨hm,he⟩:=xJ hs ht hf hn h2
      rw [B3] at hm
      exact .act t _ x ht h0 (by omega) hn JL hm he
  ·exact absurd (oE hd hc ha).2.2 (by decide)
theorem MX {α β:Type} {l:List α} {f:α→List β} {n:Nat} (h:∀ x∈l,(f x).length=n):(l.flatMap f).length=l.length * n:=by
 induction l with
 | nil=>simp
 | cons x l ih=>
  rw [List.flatMap_cons,List.length_append,ih λ y hy=>h y (List.mem_cons_of_mem _ hy),h x (List.mem_cons_self ..),List.length_cons,Nat.succ_mul,Nat.add_comm]
theorem FL:∀ {ps:List Nat} {k:Nat},(∀ p∈ps,p+1≤k)→(eV ps).length≤k ^ ps.length
 | [],k,_=>by simp [eV]
 | p::ps,k,h=>by
  have ih:=FL (ps:=ps) (k:=k) λ q hq=>h q (List.mem_cons_of_mem _ hq)
  have e:(eV (p::ps)).length=(p+1) * (eV ps).length:=by
   rw [eV,MX (n:=(eV ps).length) λ x _=>by rw [List.length_map],List.length_range]
  rw [e,List.length_cons,Nat.pow_succ,Nat.mul_comm]
  exact Nat.mul_le_mul ih (h p (List.mem_cons_self ..))
theorem amb {p:cY} {m:gp} {n:Nat} (h:vS p m n):j3 m.mem.of≤4:=by
 have hc:=h.pm.chk
 have hs:=A8 p
 have h4:=hc.sz.1
 rw [h.pm.gm.of,h.pm.u]
 show j3 ((eD p).lines.take (ek p).toNat)≤4
 by_cases h0:(ek p).toNat=0
 ·rw [h0,List.take_zero]; decide
 ·rw [xb (by omega) (by rw [B9]; omega),List.getD_eq_getElem?_getD,A7 (by omega)]
  show lT p (((ek p).toNat - 1:Nat):Int)+1≤4
  rw [uI (by omega)]
  have:=JH p.lines 0 (((ek p).toNat - 1:Nat):Int) (by omega) (by show _<ek p; omega)
  omega
theorem aeR {m:Mem} {n:Nat} (h:MB m n):∀ q∈BX m,q≤n:=by
 intro q hq
 unfold BX Cu at hq
 obtain ⟨i,_,rfl⟩:=List.mem_map.1 hq
 exact h i
theorem Dw {p:cY} {m:gp} {n:Nat} (h:vS p m n) (hn:n≤100):(eV (BX m.mem)).length≤1000000000:=by
 have h1:=FL (ps:=BX m.mem) (k:=101) λ q hq=>by have:=aeR h.mb q hq; omega
 have h2:=AJ m.mem
 have h3:=amb h
 have h4:(101:Nat) ^ (BX m.mem).length≤101 ^ 4:=Nat.pow_le_pow_right (by decide) (by omega)
 have h5:(101:Nat) ^ 4≤1000000000:=by decide
 omega
theorem RT (f:List Int→List Int):∀ (l:List (List Int)) (s:List (List Int) × List (List Int)),∀ x∈(l.foldl (λ s c=>if f c∈s.2 then s else (s.1++[c],s.2++[f c])) s).1,x∈s.1∨x∈l
 | [],s,x,h=>.inl h
 | c::l,s,x,h=>by
  rw [List.foldl_cons] at h
  rcases RT f l _ x h with h1 | h1
  ·split at h1
   ·exact .inl h1
   ·rcases List.mem_append.1 h1 with h2 | h2
    ·exact .inl h2
    ·exact .inr (by rw [List.mem_singleton.1 h2]; exact List.mem_cons_self ..)
  ·exact .inr (List.mem_cons_of_mem _ h1)
theorem TJ {m:Mem} {c:List Int} (h:c∈Cw m):c∈eV (BX m):=by
 have:=RT (sL m) (eV (BX m)) ([],[]) c h
 rcases this with h1 | h1
 ·cases h1
 ·exact h1
theorem Pt {m:Mem} (hk:vN m) {c:List Int} (h:c∈Cw m):jx m c=some (yh m c c.length)∧c.length≤20:=by
 have h1:=TJ h
 have h2:=qa h1
 have h3:=AJ m
 have h4:=BY hk
 have h5:=hk.lb
 refine ⟨BV (by omega) λ k x H0 hx=>?_,by omega⟩
 have hp:(BX m)[k]? = some (m.gG k).length:=AG (by omega)
 exact BW h1 hp hx
theorem Gq {m:gp} {q:eo} (hk:vN m.mem) (h:q∈cK m):m.fault=0∧q.kind=3∧q.t=0∧q.i=0∧q.cut.length≤20∧gH m q=some (yh m.mem q.cut q.cut.length):=by
 unfold cK at h
 split at h
 ·cases h
 ·rename_i hf
  obtain ⟨c,hc,rfl⟩:=List.mem_map.1 h
  obtain ⟨h1,h2⟩:=Pt hk hc
  have hf0:m.fault=0:=by omega
  refine ⟨hf0,rfl,rfl,rfl,h2,?_⟩
  unfold gH; rw [if_pos ⟨rfl,rfl,rfl,hf0⟩]; exact h1
def OW (m:gp) (own:List Int):Prop:=own.length=2∧∀ i:Nat,i<2→own.getD i 0=(m.locks[i]?).getD (-1)
theorem OW.new {u:im} {room:Int} {ths:List fG}:OW (lK (lU u room) ths) [-1,-1]:=by
 refine ⟨rfl,λ i hi=>?_⟩
 have e:((List.replicate u.locks.toNat (-1:Int))[i]?).getD (-1) = -1:=by
  rw [List.getElem?_replicate]; split <;> rfl
 show ([-1,-1]:List Int).getD i 0=((List.replicate u.locks.toNat (-1:Int))[i]?).getD (-1)
 rw [e]
 obtain rfl | rfl:i=0∨i=1:=by omega
 all_goals rfl
theorem OW.same {m m2:gp} {own:List Int} (h:OW m own) (hl:m2.locks=m.locks):OW m2 own:=⟨h.1,λ i hi=>by rw [hl]; exact h.2 i hi⟩
theorem OW.set {m m2:gp} {own:List Int} {b v:Int} (h:OW m own) (hb:0≤b∧b<m.locks.length) (h2:m.locks.length≤2) (hl:m2.locks=m.locks.set b.toNat v):OW m2 (own.set b.toNat v):=by
 refine ⟨by rw [List.length_set]; exact h.1,λ i hi=>?_⟩
 rw [hl]
 have C0:=h.1
 by_cases hbi:b.toNat=i
 ·subst hbi
  rw [xd (by omega),List.getElem?_set_self (by omega)]; rfl
 ·rw [getD_set_ne hbi,List.getElem?_set_ne hbi]; exact h.2 i hi
theorem RU {l:List Int} {i:Nat} (h:i<l.length):(l[i]?).getD (-1)=l.getD i 0:=by
 rw [List.getD_eq_getElem?_getD,List.getElem?_eq_getElem h]; rfl
structure aAr (m:gp) (own:List Int) (q:eo) (m2:gp) (ev:cG):Prop where
 buf:ev.kind=8∨ev.kind=9∨ev.kind=7∨ev.kind=10∨ev.kind=11→CN m q.t=[]
 t:ev.t=q.t
 a:ev.kind=10∨ev.kind=11→0≤ev.a∧ev.a≤1
 tk:ev.kind=10→own.getD ev.a.toNat 0 = -1∧OW m2 (own.set ev.a.toNat ev.t)
 gv:ev.kind=11→own.getD ev.a.toNat 0=ev.t∧OW m2 (own.set ev.a.toNat (-1))
 cr:ev.kind=15→OW m2 [-1,-1]
 no:¬ ev.kind=10→¬ ev.kind=11→¬ ev.kind=15→OW m2 own
theorem amc {p:cY} {m m2:gp} {n N:Nat} {q:eo} {ev:cG} {own:List Int} (h:vS p m n) (ho:OW m own) (hd:B4 N m q=some (m2,ev,0)):aAr m own q m2 ev:=by
 have J2:=h.pm.gm.lk
 have asa:=h.pm.gm.ru.lk
 cases aeQ hd with
 | RM oH t N hc hg hm he=>
  have hq0:q.t=0:=by unfold gH at hc; split at hc; (rename_i hh; exact hh.2.1); cases hc
  rw [he]
  refine ⟨λ hh=>by simp at hh,hq0.symm,λ hh=>by simp at hh,λ hh=>by simp at hh,λ hh=>by simp at hh,λ _=>?_,λ _ _ hh=>absurd rfl hh⟩
  rw [hm]
  exact OW.new (u:=m.u) (room:=m.room) (ths:=[t])
 | out t ht h0 hm he=>
  have hk:ev.kind=12∨ev.kind=13∨ev.kind=14:=by
   rw [he]
   unfold oD
   repeat' split
   all_goals simp
  have Zi:ev.t=q.t:=by
   rw [he]
   unfold oD
   repeat' split
   all_goals rfl
  have hl:m2.locks=m.locks:=by rw [hm]; rfl
  exact ⟨λ hh=>by omega,Zi,λ hh=>by omega,λ hh=>by omega,λ hh=>by omega,λ hh=>by omega,λ _ _ _=>ho.same hl⟩
 | bad t ht h0 hf hm he=>
  have hl:m2.locks=m.locks:=by rw [hm]
  rw [he]
  exact ⟨λ hh=>by simp at hh,rfl,λ hh=>by simp at hh,λ hh=>by simp at hh,λ hh=>by simp at hh,λ hh=>by simp at hh,λ _ _ _=>ho.same hl⟩
 | act t t2 x ht h0 hf hn JL hm he=>
  have Bf:=List.mem_of_getElem? ht
  have ni:=(h.pm.gm.th t Bf).2.1 x hn hf
  have hb:CN m q.t=t.buf:=Ra h0 ht
  have hbx:x.kind=9∨x.kind=10→0≤x.b∧x.b<m.locks.length:=λ hk=>by
   have:=h.pm.gm.ok.lkb t Bf x (pj hn).1 hk; omega
  have hlen:m.locks.length≤2:=by omega
  have CQ:=JL
  unfold AO at CQ
  rw [hn] at CQ
  dsimp only at CQ
  rw [if_neg (by omega)] at CQ
  have DO:m2.locks=(dR m t q.t x).1.locks:=by rw [hm]
  obtain hx | hx | hx | hx | hx | hx:x.kind=2∨x.kind=4∨x.kind=8∨x.kind=9∨x.kind=10∨(x.kind=3∨x.kind=5∨x.kind=6∨x.kind=7):=by omega
  ·have ea:dR m t q.t x=(m,loadT m t x,Hv m t x):=by unfold dR; rw [if_pos hx]
   rw [ea] at he DO
   have hk:ev.kind=1∨ev.kind=2:=by rw [he]; show (if _ then (2:Int) else 1)=1∨(if _ then (2:Int) else 1)=2; split <;> simp
   exact ⟨λ hh=>by omega,by rw [he],λ hh=>by omega,λ hh=>by omega,λ hh=>by omega,λ hh=>by omega,λ _ _ _=>ho.same DO⟩
  ·have ea:dR m t q.t x=(yj m t x,casT m t x,Jo m t x):=by unfold dR; rw [if_neg (by omega),if_pos hx]
   rw [ea] at he DO
   have hk:ev.kind=8∨ev.kind=9:=by rw [he]; unfold Jo; show (if _ then (⟨8,0,x.b,_,_⟩:cG) else ⟨9,0,x.b,_,0⟩).kind=8∨(if _ then (⟨8,0,x.b,_,_⟩:cG) else ⟨9,0,x.b,_,0⟩).kind=9; split <;> simp
   have hl:m2.locks=m.locks:=by rw [DO]; show (yj m t x).locks=_; unfold yj; split <;> rfl
   have N7:t.buf=[]:=by rw [if_neg (by omega),if_pos (.inl hx)] at CQ; exact List.length_eq_zero_iff.1 (by simpa using CQ)
   exact ⟨λ _=>by rw [hb]; exact N7,by rw [he],λ hh=>by omega,λ hh=>by omega,λ hh=>by omega,λ hh=>by omega,λ _ _ _=>ho.same hl⟩
  ·have ea:dR m t q.t x=(m,t,⟨7,0,0,0,0⟩):=by unfold dR; rw [if_neg (by omega),if_neg (by omega),if_pos hx]
   rw [ea] at he DO
   have hk:ev.kind=7:=by rw [he]
   have N7:t.buf=[]:=by rw [if_neg (by omega),if_pos (.inr (.inl hx))] at CQ; exact List.length_eq_zero_iff.1 (by simpa using CQ)
   exact ⟨λ _=>by rw [hb]; exact N7,by rw [he],λ hh=>by omega,λ hh=>by omega,λ hh=>by omega,λ hh=>by omega,λ _ _ _=>ho.same DO⟩
  ·have ea:dR m t q.t x=(wT m q.t x,t,⟨10,0,x.b,0,0⟩):=by unfold dR; rw [if_neg (by omega),if_neg (by omega),if_neg (by omega),if_pos hx]
   rw [ea] at he DO
   have hbb:=hbx (.inl hx)
   have hea:ev.a=x.b:=by rw [he]
   have het:ev.t=q.t:=by rw [he]
   have Xz:ev.kind=10:=by rw [he]
   rw [if_neg (by omega),if_neg (by omega),if_pos hx] at CQ
   simp only [Bool.and_eq_true,decide_eq_true_eq] at CQ
   have N7:t.buf=[]:=List.length_eq_zero_iff.1 CQ.1
   refine ⟨λ _=>by rw [hb]; exact N7,het,λ _=>by omega,λ _=>⟨?_,?_⟩,λ hh=>by omega,λ hh=>by omega,λ hh=>absurd Xz hh⟩
   ·rw [hea,ho.2 _ (by omega),RU (by omega)]; exact CQ.2
   ·rw [hea,het]; exact ho.set hbb hlen DO
  ·have ea:dR m t q.t x=(nJ m q.t x,t,uD m q.t x):=by unfold dR; rw [if_neg (by omega),if_neg (by omega),if_neg (by omega),if_neg (by omega),if_pos hx]
   rw [ea] at he DO
   have hbb:=hbx (.inr hx)
   have het:ev.t=q.t:=by rw [he]
   have N7:t.buf=[]:=by rw [if_neg (by omega),if_pos (.inr (.inr hx))] at CQ; exact List.length_eq_zero_iff.1 (by simpa using CQ)
   by_cases hg:m.locks.getD x.b.toNat 0=q.t
   ·have eg:uD m q.t x=⟨11,0,x.b,0,0⟩:=if_pos hg
    have em:(nJ m q.t x).locks=m.locks.set x.b.toNat (-1):=by unfold nJ; rw [if_pos hg]
    have DO:m2.locks=(nJ m q.t x).locks:=DO
    rw [em] at DO
    have hea:ev.a=x.b:=by rw [he]; show (uD m q.t x).a=_; rw [eg]
    have Xz:ev.kind=11:=by rw [he]; show (uD m q.t x).kind=_; rw [eg]
    refine ⟨λ _=>by rw [hb]; exact N7,het,λ _=>by omega,λ hh=>by omega,λ _=>⟨?_,?_⟩,λ hh=>by omega,λ _ hh=>absurd Xz hh⟩
    ·rw [hea,het,ho.2 _ (by omega),RU (by omega)]; exact hg
    ·rw [hea]; exact ho.set hbb hlen DO
   ·have eg:uD m q.t x=⟨16,0,3,0,0⟩:=if_neg hg
    have em:(nJ m q.t x).locks=m.locks:=by unfold nJ; rw [if_neg hg]
    have DO:m2.locks=(nJ m q.t x).locks:=DO
    rw [em] at DO
    have Xz:ev.kind=16:=by rw [he]; show (uD m q.t x).kind=_; rw [eg]
    exact ⟨λ hh=>by omega,het,λ hh=>by omega,λ hh=>by omega,λ hh=>by omega,λ hh=>by omega,λ _ _ _=>ho.same DO⟩
  ·have ea:dR m t q.t x=(m,uC m t x,AR m t x):=by
    unfold dR; rw [if_neg (by omega),if_neg (by omega),if_neg (by omega),if_neg (by omega),if_neg (by omega)]
   rw [ea] at he DO
   have Xz:ev.kind=vq x.kind:=by rw [he]; rfl
   have hk:3≤ev.kind∧ev.kind≤6:=by
    rw [Xz]; unfold vq
    rcases hx with hx | hx | hx | hx <;> simp [hx]
   exact ⟨λ hh=>by omega,by rw [he],λ hh=>by omega,λ hh=>by omega,λ hh=>by omega,λ hh=>by omega,λ _ _ _=>ho.same DO⟩
theorem Bc (s:iI):pr PG (Instr.field 54 (Flat.val s) 0)=some (.int .i64 s.bW):=by
 obtain ⟨a,b,c,d,e⟩:=s
 kernel_rfl
theorem rS {p:cY} {m:gp} {n:Nat} (h:vS p m n) (hn:n≤100):(cK m).length≤1000000000:=by
 unfold cK
 split
 ·simp
 ·rw [List.length_map]
  exact Nat.le_trans (Jh _ _) (Dw h hn)
theorem Gr {m:gp} (hk:vN m.mem):∀ x∈cK m,x.cut.length≤1000:=λ x hx=>by
 have:=(Gq hk hx).2.2.2.2.1
 omega
set_option maxHeartbeats 8000000 in
set_option maxRecDepth 100000 in
theorem C8 (p:cY) (pv:bN) (sv:Value) (script:List F8) (w:World) (hp:bZ.dr w pv p) (hS:DL w sv script):CR 8 [Flat.val pv,sv] w (λ v w'=>v = .bool true∧Ext w w'):=by
 obtain ⟨bG,bQ,bH,aT,aU,aY,rfl,cL,dD,cM,bR,bP,cB⟩:=hp;obtain ⟨ts7,Zb,hD7⟩:=(hS).open;have hn7:=hD7.1;have hs:=St.start w;refine am9 _ _ _ _ ?_;unfold S8;refine dJ hs (λ adb w1 hs=>aD gO hs.At (eA avd (C11 p (⟨bG,bQ,bH,aT,aU,aY⟩:bN) _ ⟨bG,bQ,bH,aT,aU,aY,rfl,(cL.ext hs.aF),(dD.ext hs.aF),(cM.ext hs.aF),(bR.ext hs.aF),(bP.ext hs.aF),(cB.ext hs.aF)⟩) ?_));rintro _ w2 ⟨OZ,rfl,cA⟩;have hs:=hs.made cA
 refine eA ani (C12 (qG p) OZ _ (hs).eL (QX p)) ?_;rintro _ w3 ⟨Pu,rfl,cA⟩;have hs:=hs.made cA;refine bE rfl (bE rfl (aN hs v7 (λ b_u5 w4 hs=>have hs:=hs.enc (cs':=Flat.enc (⟨⟨none,0,0⟩,0,⟨none,0,0⟩,0,⟨none,0,0⟩,(⟨0,0,⟨none,0,0⟩⟩:cN),⟨none,0,0⟩⟩:dQ)) rfl;aI (x:=Pu) hs tO rfl rfl (λ w5 hs=>cR (aC (λ iq=>?_) (λ iq=>?_))))))
 ·refine aZ anj hs (C14 _) (λ w6 he hs=>?_);exact ⟨rfl,hs.aF⟩
 ·refine aD tO hs.At ?_;have zL:gR (qG p)=0:=by omega
  have SC:=EU zL;have oM:=sS SC;obtain ⟨N0,ths,JS,htw⟩:=MS SC;have hs:=hs.p1.dU (Ψ:=λ w=>bZ.dr w Pu (eD (qG p))) (λ w h=>by rw [if_pos zL] at h; exact h);refine eA ahJ (as5 (eD (qG p)) Pu 3 N0 ths (hs).eL oM.2 oM.1 (MK (rR oM.1) oM.2 JS) (by decide) (by decide)) ?_;rintro _ w7 ⟨K,q,rfl,cA⟩;have hs:=(hs.made cA).split;have aAs:vS (qG p) (lK (lU (eD (qG p)) 3) ths) 0:=vS.new SC JS htw (by first | decide | omega);refine bE rfl (bE rfl ?_);refine ⟨_,?_,λ _ _ h=>h⟩;refine DQ UQ (fJ (cR ?_));intro fD;refine fS (by decide) (bV ([-1,-1]) hs eh rfl rfl (eK rfl) (λ aga w9 hs=>?_))
  have hs:=((((hs.p3.drop.p3.drop.p3.drop.p3).drop).p2).p2).p2;refine ⟨λ mm o i w'=>∃ (k:Nat) (m:gp) (own:List Int),i = .int .i64 (k:Int)∧mm=80 - k∧k≤80∧vS (qG p) m k∧OW m own∧St w bD [bK o own,eJ K q m,eL K] w',⟨80,0,_,_,rfl,rfl,by decide,aAs,OW.new,hs⟩,?_⟩;rintro mm nR _ pP ⟨k,m,own,rfl,rfl,hk,hm,ho,hs⟩ jH;refine ⟨λ jv w'=>∃ q:Prop,∃ _:Decidable q,(q→k<script.length∧k<80)∧jv = .bool (decide q)∧pP=w',?_,?_⟩
  ·refine aJ aoO (Zb.ext hs.aF) (aR (aC (λ jD=>?_) (λ jD=>?_)))
   ·refine aR ?_;exact ⟨_,inferInstance,(λ h=>by omega),rfl,rfl⟩
   ·exact ⟨False,inferInstance,(λ h=>h.elim),rfl,rfl⟩
  ·rintro _ sZ ⟨q3,hq3,hq4,rfl,hw⟩ oY;subst hw;refine aC (λ jR=>?_) (λ jR=>?_)
   ·obtain ⟨hk3,hk4⟩:=hq4 jR;obtain ⟨e_sa,ahj⟩:=gx ts7 (i:=((k:Int)).toNat) (by omega);obtain ⟨gS,atg⟩:=gx (script) (i:=((k:Int)).toNat) (by omega);obtain ⟨rT,rfl,Ca⟩:=hD7.2 _ _ _ ahj atg;refine ⟨λ o w'=>∃ (m2:gp) (aeS:List Int),vS (qG p) m2 (k+1)∧OW m2 aeS∧St w bD [bK o aeS,eJ K q m2,eL K] w',?_,?_⟩
    ·refine ⟨λ jv w'=>∃ (b:Nat) (lv:Value) (ts5:List dE) (lv6:Value) (ts6:List dE) (gc5:SV),jv = .pointer (some ⟨b,0,none⟩)∧(∀ w2,eP (λ _=>True) w2 (Flat.val rT.cut) gS.p.cut→jV ts5 (cQ m) w2→jV ts6 (cK m) w2→eP (λ _=>True) w2 (Flat.val gc5) (g9 gS (cQ m) (cK m) (dG m).bW).cut)∧St w bD [cH b (Flat.enc (⟨(g9 gS (cQ m) (cK m) (dG m).bW).kind,(g9 gS (cQ m) (cK m) (dG m).bW).t,(g9 gS (cQ m) (cK m) (dG m).bW).i,gc5⟩:dE)),bK lv ts5,eL (jV ts5 (cQ m)),bK lv6 ts6,eL (jV ts6 (cK m)),bK nR own,eJ K q m,eL K] w',?_,?_⟩
     ·refine aQ aoO Zb (by omega) ahj (λ _ ow=>have hs:=hs.drew;aD yO (ow.ext hs.aF) ?_);refine ⟨?_,?_⟩
      ·refine dF FZ hs (aeF hm (hs.p1).has (hs.p2).eL (λ w' e=>St.j6 (hs.p2) e)) (λ x53 vy cA hs=>?_);refine ⟨eO yO (ow.ext hs.aF),?_⟩;refine ⟨?_,?_⟩
       ·refine dF ZA hs (aeG hm (by omega) (Dw hm (by omega)) (hs.p2).has (hs.p3).eL (λ w' e=>St.j6 (hs.p3) e)) (λ x55 vz cA hs=>?_);refine ⟨eO yO (ow.ext hs.aF),?_⟩;refine ⟨?_,?_⟩
        ·refine aZ R7 hs (TI hm (hs.p3).has (hs.p4).eL (λ w' e=>St.j6 (hs.p4) e)) (λ su he hs=>?_);refine ⟨eO yO (ow.ext hs.aF),?_⟩;refine pop (Bc (dG m)) ?_;refine ⟨?_,?_⟩
         ·obtain ⟨FM,hs⟩:=hs.sq;have hs:=hs.p2;obtain ⟨zo,hs⟩:=hs.sq;refine eA Uu (C24 gS (⟨(gS).kind,(gS).n,rT⟩:uc) _ _ zo (cQ m) FM (cK m) (dG m).bW _ ⟨rT,rfl,bZ.ext Ca hs.aF⟩ (hs).fF (hs.p1).eL (hs.p2).fF (hs.p3).eL (uL hm) (by have:=rS hm (by omega); omega)) ?_;rintro _ wm ⟨Wo,rfl,he,YT⟩;have hs:=hs.ext he;obtain ⟨amd,aeT,aeU⟩:=YT.rd (hs.p1).eL (hs.p3).eL;subst aeT;refine aN hs uT (λ b_a11 zq hs=>?_);have hs:=hs.enc (cs':=Flat.enc (⟨0,0,0,⟨none,0,0⟩⟩:dE)) rfl;refine ⟨eO yO (ow.ext hs.aF),?_⟩;refine aI (x:=(⟨(g9 gS (cQ m) (cK m) (dG m).bW).kind,(g9 gS (cQ m) (cK m) (dG m).bW).t,(g9 gS (cQ m) (cK m) (dG m).bW).i,amd⟩:dE)) hs l6 rfl rfl (λ CH hs=>?_)
          have hs:=hs.p7.p7.p7.p7.p7.p7.p7.p7;exact ⟨_,_,_,_,_,_,rfl,aeU,hs⟩
         ·refine ⟨?_,?_⟩
          ·refine aN hs uT (λ auT IN hs=>?_);have hs:=hs.enc (cs':=Flat.enc (⟨0,0,0,⟨none,0,0⟩⟩:dE)) rfl;refine ⟨eO yO (ow.ext hs.aF),?_⟩;have hs:=hs.p1;obtain ⟨FM,hs⟩:=hs.sq;have hs:=hs.p3;obtain ⟨zo,hs⟩:=hs.sq;refine eA Uu (C24 gS (⟨(gS).kind,(gS).n,rT⟩:uc) _ _ zo (cQ m) FM (cK m) (dG m).bW _ ⟨rT,rfl,bZ.ext Ca hs.aF⟩ (hs).fF (hs.p1).eL (hs.p2).fF (hs.p3).eL (uL hm) (by have:=rS hm (by omega); omega)) ?_;rintro _ JQ ⟨ath,rfl,he,Pv⟩;have hs:=hs.ext he;obtain ⟨YU,TK,TL⟩:=Pv.rd (hs.p1).eL (hs.p3).eL
           subst TK;refine aI (x:=(⟨(g9 gS (cQ m) (cK m) (dG m).bW).kind,(g9 gS (cQ m) (cK m) (dG m).bW).t,(g9 gS (cQ m) (cK m) (dG m).bW).i,YU⟩:dE)) hs.p4 l6 rfl rfl (λ Lc hs=>?_);have hs:=hs.p7.p7.p7.p7.p7.p7.p7.p7;exact ⟨_,_,_,_,_,_,rfl,TL,hs⟩
          ·trivial
        ·refine ⟨?_,?_⟩
         ·refine aN hs uT (λ auU M4 hs=>?_);have hs:=hs.enc (cs':=Flat.enc (⟨0,0,0,⟨none,0,0⟩⟩:dE)) rfl;refine ⟨eO yO (ow.ext hs.aF),?_⟩;refine aZ R7 hs (TI hm (hs.p4).has (hs.p5).eL (λ w' e=>St.j6 (hs.p5) e)) (λ QS he hs=>?_);refine ⟨eO yO (ow.ext hs.aF),?_⟩;refine pop (Bc (dG m)) ?_;have hs:=hs.p1;obtain ⟨FM,hs⟩:=hs.sq;have hs:=hs.p3;obtain ⟨zo,hs⟩:=hs.sq;refine eA Uu (C24 gS (⟨(gS).kind,(gS).n,rT⟩:uc) _ _ zo (cQ m) FM (cK m) (dG m).bW _ ⟨rT,rfl,bZ.ext Ca hs.aF⟩ (hs).fF (hs.p1).eL (hs.p2).fF (hs.p3).eL (uL hm) (by have:=rS hm (by omega); omega)) ?_
          rintro _ T3 ⟨ati,rfl,he,Pw⟩;have hs:=hs.ext he;obtain ⟨YV,TM,TN⟩:=Pw.rd (hs.p1).eL (hs.p3).eL;subst TM;refine aI (x:=(⟨(g9 gS (cQ m) (cK m) (dG m).bW).kind,(g9 gS (cQ m) (cK m) (dG m).bW).t,(g9 gS (cQ m) (cK m) (dG m).bW).i,YV⟩:dE)) hs.p4 l6 rfl rfl (λ Wk hs=>?_);have hs:=hs.p7.p7.p7.p7.p7.p7.p7.p7;exact ⟨_,_,_,_,_,_,rfl,TN,hs⟩
         ·trivial
       ·refine ⟨?_,?_⟩
        ·refine aN hs uT (λ auV SB hs=>?_);have hs:=hs.enc (cs':=Flat.enc (⟨0,0,0,⟨none,0,0⟩⟩:dE)) rfl;refine ⟨eO yO (ow.ext hs.aF),?_⟩;refine dF ZA hs (aeG hm (by omega) (Dw hm (by omega)) (hs.p3).has (hs.p4).eL (λ w' e=>St.j6 (hs.p4) e)) (λ x55_1 w26 cA hs=>?_);refine ⟨eO yO (ow.ext hs.aF),?_⟩;refine aZ R7 hs (TI hm (hs.p4).has (hs.p5).eL (λ w' e=>St.j6 (hs.p5) e)) (λ w27 he hs=>?_);refine ⟨eO yO (ow.ext hs.aF),?_⟩;refine pop (Bc (dG m)) ?_;obtain ⟨YW,hs⟩:=hs.sq;have hs:=hs.p3;obtain ⟨zo,hs⟩:=hs.sq;refine eA Uu (C24 gS (⟨(gS).kind,(gS).n,rT⟩:uc) _ _ zo (cQ m) YW (cK m) (dG m).bW _ ⟨rT,rfl,bZ.ext Ca hs.aF⟩ (hs).fF (hs.p1).eL (hs.p2).fF (hs.p3).eL (uL hm) (by have:=rS hm (by omega); omega)) ?_
         rintro _ w28 ⟨atj,rfl,he,Px⟩;have hs:=hs.ext he;obtain ⟨YX,TO,TP⟩:=Px.rd (hs.p1).eL (hs.p3).eL;subst TO;refine aI (x:=(⟨(g9 gS (cQ m) (cK m) (dG m).bW).kind,(g9 gS (cQ m) (cK m) (dG m).bW).t,(g9 gS (cQ m) (cK m) (dG m).bW).i,YX⟩:dE)) hs.p4 l6 rfl rfl (λ w29 hs=>?_);have hs:=hs.p7.p7.p7.p7.p7.p7.p7.p7;exact ⟨_,_,_,_,_,_,rfl,TP,hs⟩
        ·trivial
      ·refine ⟨?_,?_⟩
       ·refine aN hs uT (λ auW w30 hs=>?_);have hs:=hs.enc (cs':=Flat.enc (⟨0,0,0,⟨none,0,0⟩⟩:dE)) rfl;refine ⟨eO yO (ow.ext hs.aF),?_⟩;refine dF FZ hs (aeF hm (hs.p2).has (hs.p3).eL (λ w' e=>St.j6 (hs.p3) e)) (λ x53_1 w31 cA hs=>?_);refine ⟨eO yO (ow.ext hs.aF),?_⟩;refine dF ZA hs (aeG hm (by omega) (Dw hm (by omega)) (hs.p3).has (hs.p4).eL (λ w' e=>St.j6 (hs.p4) e)) (λ x55_2 w32 cA hs=>?_);refine ⟨eO yO (ow.ext hs.aF),?_⟩;refine aZ R7 hs (TI hm (hs.p4).has (hs.p5).eL (λ w' e=>St.j6 (hs.p5) e)) (λ w33 he hs=>?_);refine ⟨eO yO (ow.ext hs.aF),?_⟩;refine pop (Bc (dG m)) ?_
        obtain ⟨YY,hs⟩:=hs.sq;have hs:=hs.p2;obtain ⟨YZ,hs⟩:=hs.sq;refine eA Uu (C24 gS (⟨(gS).kind,(gS).n,rT⟩:uc) _ _ YZ (cQ m) YY (cK m) (dG m).bW _ ⟨rT,rfl,bZ.ext Ca hs.aF⟩ (hs).fF (hs.p1).eL (hs.p2).fF (hs.p3).eL (uL hm) (by have:=rS hm (by omega); omega)) ?_;rintro _ w34 ⟨atk,rfl,he,Py⟩;have hs:=hs.ext he;obtain ⟨Y0,TQ,TR⟩:=Py.rd (hs.p1).eL (hs.p3).eL;subst TQ;refine aI (x:=(⟨(g9 gS (cQ m) (cK m) (dG m).bW).kind,(g9 gS (cQ m) (cK m) (dG m).bW).t,(g9 gS (cQ m) (cK m) (dG m).bW).i,Y0⟩:dE)) hs.p4 l6 rfl rfl (λ w35 hs=>?_)
        have hs:=hs.p7.p7.p7.p7.p7.p7.p7.p7;exact ⟨_,_,_,_,_,_,rfl,TR,hs⟩
       ·trivial
     ·rintro _ w36 ⟨aeV,lv5,ts5,lv6,ts6,gc5,rfl,aAt,hs⟩ G9;refine aA iG (aB (v:=.int .i64 (((g9 gS (cQ m) (cK m) (dG m).bW)).t)) bL hs.hb rfl (dF avj hs (aAi (((g9 gS (cQ m) (cK m) (dG m).bW)).t) hm (hs.p6).has (hs.p7).eL (λ w' e=>St.j6 (hs.p7) e)) (λ x63 w37 cA hs=>aD l6 hs.p1.At ?_)));obtain ⟨N1,m1,yk,e1,TV,hpm1⟩:=YM hm.pm (g9 gS (cQ m) (cK m) (dG m).bW);refine bI Ib hs.p7 (H':=λ _=>eJ K q m1) (Φ:=λ v _=>v = .tuple #[Flat.val (yk:cG),.int .i64 e1]) (λ F2 eW eF=>?_) ?_
      ·exact JN (N:=N1) (k:=(g9 gS (cQ m) (cK m) (dG m).bW)) (gc:=gc5) hm (by omega) TV (aeP (Gp hm) (Gr hm.pm.gm.mem)) eW (λ w' hc=>((eF w' hc).p7).eL) (λ w' hc=>aAt w' (FK (bZ.ext Ca (eF w' hc).aF)) ((eF w' hc).p3).eL ((eF w' hc).p5).eL)
      rintro _ w38 rfl hs;refine bE rfl (bE rfl (aN hs lG (λ RV WL hs=>aI (x:=(yk:cG)) hs fg rfl rfl (λ w40 hs=>cR (aC (λ ry=>?_) (λ ry=>?_))))))
      ·have em:=((ama TV).resolve_left ry).1;have hs:=(((((((hs.drop.p1.drop.p1.drop.p1.drop.p1.drop).p1).drop).p1).drop).p2).p1).p2;exact ⟨m1,_,hm.do TV,(ho.same (by rw [em])),hs⟩
      ·have he0:e1=0:=by omega
       subst he0;have hF:=amc hm ho TV;refine ⟨λ jv w'=>jv = .bool (decide (yk.kind=8∨yk.kind=9∨yk.kind=7∨yk.kind=10∨yk.kind=11))∧St w bD [cH aeV (Flat.enc (⟨(g9 gS (cQ m) (cK m) (dG m).bW).kind,(g9 gS (cQ m) (cK m) (dG m).bW).t,(g9 gS (cQ m) (cK m) (dG m).bW).i,gc5⟩:dE)),bK x63 (CN m (g9 gS (cQ m) (cK m) (dG m).bW).t),cH RV (Flat.enc yk),bK nR own,eJ K q m1,eL K] w',?_,?_⟩
       ·refine aA sg (aB (v:=.int .i64 (((yk:cG)).kind)) bL hs.hb rfl (aH (aC (λ Lp=>?_) (λ Lp=>?_))))
        ·have hs:=((((hs.p4.drop.p4.drop.p4.drop.p4.drop.p5.p2).p5).p3).p4).p5;exact ⟨H9 (by omega),hs⟩
        ·refine aA sg (aB (v:=.int .i64 (((yk:cG)).kind)) bL hs.hb rfl (aH (aC (λ LN=>?_) (λ LN=>?_))))
         ·have hs:=((((hs.p4.drop.p4.drop.p4.drop.p4.drop.p5.p2).p5).p3).p4).p5;exact ⟨H9 (by omega),hs⟩
         ·refine aA sg (aB (v:=.int .i64 (((yk:cG)).kind)) bL hs.hb rfl (aH (aC (λ HA=>?_) (λ HA=>?_))))
          ·have hs:=((((hs.p4.drop.p4.drop.p4.drop.p4.drop.p5.p2).p5).p3).p4).p5;exact ⟨H9 (by omega),hs⟩
          ·refine aA sg (aB (v:=.int .i64 (((yk:cG)).kind)) bL hs.hb rfl (aH (aC (λ Av=>?_) (λ Av=>?_))))
           ·have hs:=((((hs.p4.drop.p4.drop.p4.drop.p4.drop.p5.p2).p5).p3).p4).p5;exact ⟨H9 (by omega),hs⟩
           ·refine aA sg (aB (v:=.int .i64 (((yk:cG)).kind)) bL hs.hb rfl (aH ?_));have hs:=((((hs.p4.drop.p4.drop.p4.drop.p4.drop.p5.p2).p5).p3).p4).p5;exact ⟨vQ (by omega),hs⟩
       ·rintro _ w41 ⟨rfl,hs⟩ Sv;refine ⟨λ jv w'=>jv = .bool false∧St w bD [cH aeV (Flat.enc (⟨(g9 gS (cQ m) (cK m) (dG m).bW).kind,(g9 gS (cQ m) (cK m) (dG m).bW).t,(g9 gS (cQ m) (cK m) (dG m).bW).i,gc5⟩:dE)),bK x63 (CN m (g9 gS (cQ m) (cK m) (dG m).bW).t),cH RV (Flat.enc yk),bK nR own,eJ K q m1,eL K] w',?_,?_⟩
        ·refine aC (λ TS=>?_) (λ TS=>?_)
         ·refine aJ oU (hs.p1).fF (dB (fS (decide_eq_false (by rw [hF.buf (by omega)]; simp)) (aA zQ (aB (v:=.int .i64 (((yk:cG)).t)) bL hs.p2.hb rfl (aA iG (aB (v:=.int .i64 (((g9 gS (cQ m) (cK m) (dG m).bW)).t)) bL hs.hb rfl (cR ?_)))))));have hs:=hs.p5.p5.p5.p5.p5.p5;exact ⟨vb (decide_eq_false (λ h=>h hF.t)),hs⟩
         ·refine aA zQ (aB (v:=.int .i64 (((yk:cG)).t)) bL hs.p2.hb rfl (aA iG (aB (v:=.int .i64 (((g9 gS (cQ m) (cK m) (dG m).bW)).t)) bL hs.hb rfl (cR ?_))));have hs:=hs.p5.p5.p5.p5.p5.p5;exact ⟨vb (decide_eq_false (λ h=>h hF.t)),hs⟩
        ·rintro _ w42 ⟨rfl,hs⟩ dd6;refine fJ ?_;refine ⟨λ jv w'=>jv = .bool (decide (yk.kind=10∨yk.kind=11))∧St w bD [cH aeV (Flat.enc (⟨(g9 gS (cQ m) (cK m) (dG m).bW).kind,(g9 gS (cQ m) (cK m) (dG m).bW).t,(g9 gS (cQ m) (cK m) (dG m).bW).i,gc5⟩:dE)),bK x63 (CN m (g9 gS (cQ m) (cK m) (dG m).bW).t),cH RV (Flat.enc yk),bK nR own,eJ K q m1,eL K] w',?_,?_⟩
         ·refine aA sg (aB (v:=.int .i64 (((yk:cG)).kind)) bL hs.p2.hb rfl (aH (aC (λ vo=>?_) (λ vo=>?_))))
          ·have hs:=hs.p5.p5.p5.p5.p5.p5;exact ⟨H9 (by omega),hs⟩
          ·refine aA sg (aB (v:=.int .i64 (((yk:cG)).kind)) bL hs.p2.hb rfl (aH ?_));have hs:=hs.p5.p5.p5.p5.p5.p5;exact ⟨vQ (by omega),hs⟩
         ·rintro _ w43 ⟨rfl,hs⟩ dd7;refine ⟨λ jv w'=>jv = .bool false∧St w bD [cH aeV (Flat.enc (⟨(g9 gS (cQ m) (cK m) (dG m).bW).kind,(g9 gS (cQ m) (cK m) (dG m).bW).t,(g9 gS (cQ m) (cK m) (dG m).bW).i,gc5⟩:dE)),bK x63 (CN m (g9 gS (cQ m) (cK m) (dG m).bW).t),cH RV (Flat.enc yk),bK nR own,eJ K q m1,eL K] w',?_,?_⟩
          ·refine aC (λ FN=>?_) (λ FN=>?_)
           ·refine aA xn (aB (v:=.int .i64 (((yk:cG)).a)) bL hs.p2.hb rfl (aR (fS (decide_eq_false (by have:=hF.a FN; omega)) (aA xn (aB (v:=.int .i64 (((yk:cG)).a)) bL hs.p2.hb rfl (dB ?_))))));have hs:=hs.p5.p5.p5.p5.p5.p5;exact ⟨vb (decide_eq_false (by have:=hF.a FN; omega)),hs⟩
           ·have hs:=hs.p5.p5.p5.p5.p5.p5;exact ⟨rfl,hs⟩
          ·rintro _ w44 ⟨rfl,hs⟩ dd8;refine fJ (aA sg (aB (v:=.int .i64 (((yk:cG)).kind)) bL hs.p2.hb rfl (aH (aC (λ JP=>?_) (λ JP=>?_)))))
           ·obtain ⟨aeg,X9⟩:=hF.tk JP;have hFa:=hF.a (.inl JP);have T4:=ho.1;refine aA xn (aB (v:=.int .i64 (((yk:cG)).a)) bL hs.p2.hb rfl ?_);obtain ⟨aAu,RW⟩:=gx (own) (i:=(((yk:cG)).a).toNat) (by omega);refine dS hs.p3 eh (by omega) (by omega) (λ _ ame=>fY hs.p3 bL ame RW (cR (fS (decide_eq_false (by rw [getD_some RW] at aeg; omega)) (aA xn (aB (v:=.int .i64 (((yk:cG)).a)) bL hs.p2.hb rfl (aA zQ (aB (v:=.int .i64 (((yk:cG)).t)) bL hs.p2.hb rfl (dS hs.p3 eh (by omega) (by omega) (λ _ ES=>km _ hs.p3 bL ES (by omega) (λ w45 hs=>?_))))))))))
            have hs:=(((hs.p1.drop.p1.drop.p1.drop).p2).p2).p2;exact ⟨m1,_,hm.do TV,X9,hs⟩
           ·refine aH (aC (λ BQ=>?_) (λ BQ=>?_))
            ·obtain ⟨aAv,aAw⟩:=hF.gv BQ;have hFa:=hF.a (.inr BQ);have T4:=ho.1;refine aA xn (have hs:=hs.drew;aB (v:=.int .i64 (((yk:cG)).a)) bL hs.p2.hb rfl ?_);obtain ⟨aAx,RX⟩:=gx (own) (i:=(((yk:cG)).a).toNat) (by omega);refine dS hs.p3 eh (by omega) (by omega) (λ _ amf=>fY hs.p3 bL amf RX (aA zQ (aB (v:=.int .i64 (((yk:cG)).t)) bL hs.p2.hb rfl (cR (fS (decide_eq_false (by rw [getD_some RX] at aAv; omega)) (aA xn (aB (v:=.int .i64 (((yk:cG)).a)) bL hs.p2.hb rfl (dS hs.p3 eh (by omega) (by omega) (λ _ amg=>km _ hs.p3 bL amg (by omega) (λ w46 hs=>?_))))))))))
             have hs:=(((hs.p1.drop.p1.drop.p1.drop).p2).p2).p2;exact ⟨m1,_,hm.do TV,aAw,hs⟩
            ·refine aH (aC (λ Fb=>?_) (λ Fb=>?_))
             ·refine bV ([-1,-1]) hs eh rfl rfl (eK rfl) (λ aAy w47 hs=>?_);have hs:=((((hs.p1.drop.p1.drop.p1.drop.p1).drop).p2).p2).p2;exact ⟨m1,_,hm.do TV,(hF.cr Fb),hs⟩
             ·have hs:=(((((((hs.drop)).drop)).drop).p2).p2).p2;exact ⟨m1,_,hm.do TV,(hF.no JP BQ Fb),hs⟩
    ·rintro Kf w48 ⟨m2,aeS,hm2,M0,hs⟩ dd9;refine aO (by omega) ?_;exact ⟨_,by omega,k+1,m2,aeS,rfl,rfl,by omega,hm2,M0,hs⟩
   ·refine aZ anj hs (C14 _) (λ w49 he hs=>?_);exact ⟨rfl,hs.aF⟩
set_option maxRecDepth 100000
theorem own:ownKnob Tryz.prog.godebug=none:=by kernel_rfl
theorem rd9:yw Tryz.prog 9 ByteArray (λ y=>y.size≤maxLen):=RdT.deep (aiP Tryz.underlying9 (by kernel_rfl)) λ _ _=>rfl
theorem JW:yw Tryz.prog 3 Int mI:=RdT.deep (aiO Tryz.underlying3 (by kernel_rfl)) λ _ _=>rfl
theorem atl:yw Tryz.prog 163 dL xt:=λ w=>⟨by kernel_rfl,λ enc base held fuel cs x h=>by
 obtain ⟨hl,n,hp⟩:=me Tryz.underlying163 h
 obtain ⟨y0,h0⟩:=hp 0 _ rfl
 obtain ⟨y1,h1⟩:=hp 1 _ rfl
 obtain ⟨y2,h2⟩:=hp 2 _ rfl
 obtain ⟨s0,e0,a0,d0,k0⟩:=(rd9 w).rd enc base held n _ _ h0
 obtain ⟨s1,e1,a1,d1,k1⟩:=(JW w).rd enc base held n _ _ h1
 obtain ⟨s2,e2,a2,d2,k2⟩:=(JW w).rd enc base held n _ _ h2
 obtain rfl:s0=a0:=d0
 obtain rfl:s1=a1:=d1
 obtain rfl:s2=a2:=d2
 have p0:=dY (s:=1) e0
 have p1:=dY (s:=1) e1
 have p2:=dY (s:=1) e2
 have hz:cs.drop 3=[]:=List.drop_eq_nil_iff.2 (by rw [hl]; exact Nat.le_of_eq (by kernel_rfl))
 refine ⟨(⟨s0,s1,s2⟩:dL),?_,(⟨s0,s1,s2⟩:dL),rfl,k0,k1,k2⟩
 have e:cs=cs.drop 0:=rfl
 rw [e]
 refine p0.trans ?_
 refine ((congrArg _ p1)).trans ?_
 refine ((congrArg _ (congrArg _ p2))).trans ?_
 exact (congrArg _ (congrArg _ (congrArg _ hz)))⟩
theorem amh:yw Tryz.prog 23 (List dL) (λ ys:(List dL)=>∀ y∈ys,xt y):=yw.slice Tryz.underlying23 (by kernel_rfl) atl
theorem aAz:yw Tryz.prog 22 (List (List dL)) (λ ys:(List (List dL))=>∀ y∈ys,(λ ys:(List dL)=>∀ y∈ys,xt y) y):=yw.slice Tryz.underlying22 (by kernel_rfl) amh
theorem aAA:yw Tryz.prog 95 (List ByteArray) (λ ys:(List ByteArray)=>∀ y∈ys,(λ y:ByteArray=>y.size≤maxLen) y):=yw.slice Tryz.underlying95 (by kernel_rfl) rd9
theorem atm:yw Tryz.prog 166 dC zZ:=λ w=>⟨by kernel_rfl,λ enc base held fuel cs x h=>by
 obtain ⟨hl,n,hp⟩:=me Tryz.underlying166 h
 obtain ⟨y0,h0⟩:=hp 0 _ rfl
 obtain ⟨y1,h1⟩:=hp 1 _ rfl
 obtain ⟨y2,h2⟩:=hp 2 _ rfl
 obtain ⟨y3,h3⟩:=hp 3 _ rfl
 obtain ⟨s0,e0,a0,d0,k0⟩:=(JW w).rd enc base held n _ _ h0
 obtain ⟨s1,e1,a1,d1,k1⟩:=(JW w).rd enc base held n _ _ h1
 obtain ⟨s2,e2,a2,d2,k2⟩:=(rd9 w).rd enc base held n _ _ h2
 obtain ⟨s3,e3,a3,d3,k3⟩:=(JW w).rd enc base held n _ _ h3
 obtain rfl:s0=a0:=d0
 obtain rfl:s1=a1:=d1
 obtain rfl:s2=a2:=d2
 obtain rfl:s3=a3:=d3
 have p0:=dY (s:=1) e0
 have p1:=dY (s:=1) e1
 have p2:=dY (s:=1) e2
 have p3:=dY (s:=1) e3
 have hz:cs.drop 4=[]:=List.drop_eq_nil_iff.2 (by rw [hl]; exact Nat.le_of_eq (by kernel_rfl))
 refine ⟨(⟨s0,s1,s2,s3⟩:dC),?_,(⟨s0,s1,s2,s3⟩:dC),rfl,k0,k1,k2,k3⟩
 have e:cs=cs.drop 0:=rfl
 rw [e]
 refine p0.trans ?_
 refine ((congrArg _ p1)).trans ?_
 refine ((congrArg _ (congrArg _ p2))).trans ?_
 refine ((congrArg _ (congrArg _ (congrArg _ p3)))).trans ?_
 exact (congrArg _ (congrArg _ (congrArg _ (congrArg _ hz))))⟩
theorem ami:yw Tryz.prog 86 (List dC) (λ ys:(List dC)=>∀ y∈ys,zZ y):=yw.slice Tryz.underlying86 (by kernel_rfl) atm
theorem atn:yw Tryz.prog 173 cI IM:=λ w=>⟨by kernel_rfl,λ enc base held fuel cs x h=>by
 obtain ⟨hl,n,hp⟩:=me Tryz.underlying173 h
 obtain ⟨y0,h0⟩:=hp 0 _ rfl
 obtain ⟨y1,h1⟩:=hp 1 _ rfl
 obtain ⟨y2,h2⟩:=hp 2 _ rfl
 obtain ⟨y3,h3⟩:=hp 3 _ rfl
 obtain ⟨y4,h4⟩:=hp 4 _ rfl
 obtain ⟨y5,h5⟩:=hp 5 _ rfl
 obtain ⟨y6,h6⟩:=hp 6 _ rfl
 obtain ⟨y7,h7⟩:=hp 7 _ rfl
 obtain ⟨y8,h8⟩:=hp 8 _ rfl
 obtain ⟨s0,e0,a0,d0,k0⟩:=(JW w).rd enc base held n _ _ h0
 obtain ⟨s1,e1,a1,d1,k1⟩:=(rd9 w).rd enc base held n _ _ h1
 obtain ⟨s2,e2,a2,d2,k2⟩:=(rd9 w).rd enc base held n _ _ h2
 obtain ⟨s3,e3,a3,d3,k3⟩:=(ami w).rd enc base held n _ _ h3
 obtain ⟨s4,e4,a4,d4,k4⟩:=(ami w).rd enc base held n _ _ h4
 obtain ⟨s5,e5,a5,d5,k5⟩:=(JW w).rd enc base held n _ _ h5
 obtain ⟨s6,e6,a6,d6,k6⟩:=(JW w).rd enc base held n _ _ h6
 obtain ⟨s7,e7,a7,d7,k7⟩:=(JW w).rd enc base held n _ _ h7
 obtain ⟨s8,e8,a8,d8,k8⟩:=(JW w).rd enc base held n _ _ h8
 obtain rfl:s0=a0:=d0
 obtain rfl:s1=a1:=d1
 obtain rfl:s2=a2:=d2
 obtain rfl:s5=a5:=d5
 obtain rfl:s6=a6:=d6
 obtain rfl:s7=a7:=d7
 obtain rfl:s8=a8:=d8
 have p0:=dY (s:=1) e0
 have p1:=dY (s:=1) e1
 have p2:=dY (s:=1) e2
 have p3:=dY (s:=1) e3
 have p4:=dY (s:=1) e4
 have p5:=dY (s:=1) e5
 have p6:=dY (s:=1) e6
 have p7:=dY (s:=1) e7
 have p8:=dY (s:=1) e8
 have hz:cs.drop 9=[]:=List.drop_eq_nil_iff.2 (by rw [hl]; exact Nat.le_of_eq (by kernel_rfl))
 refine ⟨(⟨s0,s1,s2,s3,s4,s5,s6,s7,s8⟩:bY),?_,(⟨s0,s1,s2,a3,a4,s5,s6,s7,s8⟩:cI),⟨s3,s4,rfl,d3,d4⟩,k0,k1,k2,k3,k4,k5,k6,k7,k8⟩
 have e:cs=cs.drop 0:=rfl
 rw [e]
 refine p0.trans ?_
 refine ((congrArg _ p1)).trans ?_
 refine ((congrArg _ (congrArg _ p2))).trans ?_
 refine ((congrArg _ (congrArg _ (congrArg _ p3)))).trans ?_
 refine ((congrArg _ (congrArg _ (congrArg _ (congrArg _ p4))))).trans ?_
 refine ((congrArg _ (congrArg _ (congrArg _ (congrArg _ (congrArg _ p5)))))).trans ?_
 refine ((congrArg _ (congrArg _ (congrArg _ (congrArg _ (congrArg _ (congrArg _ p6))))))).trans ?_
 refine ((congrArg _ (congrArg _ (congrArg _ (congrArg _ (congrArg _ (congrArg _ (congrArg _ p7)))))))).trans ?_
 refine ((congrArg _ (congrArg _ (congrArg _ (congrArg _ (congrArg _ (congrArg _ (congrArg _ (congrArg _ p8))))))))).trans ?_
 exact (congrArg _ (congrArg _ (congrArg _ (congrArg _ (congrArg _ (congrArg _ (congrArg _ (congrArg _ (congrArg _ hz)))))))))⟩
theorem aAB:yw Tryz.prog 96 (List cI) (λ ys:(List cI)=>∀ y∈ys,IM y):=yw.slice Tryz.underlying96 (by kernel_rfl) atn
theorem aAC:yw Tryz.prog 98 dX xu:=λ w=>⟨by kernel_rfl,λ enc base held fuel cs x h=>by
 obtain ⟨hl,n,hp⟩:=me Tryz.underlying98 h
 obtain ⟨y0,h0⟩:=hp 0 _ rfl
 obtain ⟨y1,h1⟩:=hp 1 _ rfl
 obtain ⟨y2,h2⟩:=hp 2 _ rfl
 obtain ⟨y3,h3⟩:=hp 3 _ rfl
 obtain ⟨s0,e0,a0,d0,k0⟩:=(rd9 w).rd enc base held n _ _ h0
 obtain ⟨s1,e1,a1,d1,k1⟩:=(aAA w).rd enc base held n _ _ h1
 obtain ⟨s2,e2,a2,d2,k2⟩:=(aAB w).rd enc base held n _ _ h2
 obtain ⟨s3,e3,a3,d3,k3⟩:=(JW w).rd enc base held n _ _ h3
 obtain rfl:s0=a0:=d0
 obtain rfl:s3=a3:=d3
 have p0:=dY (s:=1) e0
 have p1:=dY (s:=1) e1
 have p2:=dY (s:=1) e2
 have p3:=dY (s:=1) e3
 have hz:cs.drop 4=[]:=List.drop_eq_nil_iff.2 (by rw [hl]; exact Nat.le_of_eq (by kernel_rfl))
 refine ⟨(⟨s0,s1,s2,s3⟩:er),?_,(⟨s0,a1,a2,s3⟩:dX),⟨s1,s2,rfl,d1,d2⟩,k0,k1,k2,k3⟩
 have e:cs=cs.drop 0:=rfl
 rw [e]
 refine p0.trans ?_
 refine ((congrArg _ p1)).trans ?_
 refine ((congrArg _ (congrArg _ p2))).trans ?_
 refine ((congrArg _ (congrArg _ (congrArg _ p3)))).trans ?_
 exact (congrArg _ (congrArg _ (congrArg _ (congrArg _ hz))))⟩
theorem ato:yw Tryz.prog 24 (List dX) (λ ys:(List dX)=>∀ y∈ys,xu y):=yw.slice Tryz.underlying24 (by kernel_rfl) aAC
theorem aAD:yw Tryz.prog 89 jG Ee:=λ w=>⟨by kernel_rfl,λ enc base held fuel cs x h=>by
 obtain ⟨hl,n,hp⟩:=me Tryz.underlying89 h
 obtain ⟨y0,h0⟩:=hp 0 _ rfl
 obtain ⟨y1,h1⟩:=hp 1 _ rfl
 obtain ⟨s0,e0,a0,d0,k0⟩:=(ami w).rd enc base held n _ _ h0
 obtain ⟨s1,e1,a1,d1,k1⟩:=(JW w).rd enc base held n _ _ h1
 obtain rfl:s1=a1:=d1
 have p0:=dY (s:=1) e0
 have p1:=dY (s:=1) e1
 have hz:cs.drop 2=[]:=List.drop_eq_nil_iff.2 (by rw [hl]; exact Nat.le_of_eq (by kernel_rfl))
 refine ⟨(⟨s0,s1⟩:lQ),?_,(⟨a0,s1⟩:jG),⟨s0,rfl,d0⟩,k0,k1⟩
 have e:cs=cs.drop 0:=rfl
 rw [e]
 refine p0.trans ?_
 refine ((congrArg _ p1)).trans ?_
 exact (congrArg _ (congrArg _ hz))⟩
theorem aAE:yw Tryz.prog 25 (List jG) (λ ys:(List jG)=>∀ y∈ys,Ee y):=yw.slice Tryz.underlying25 (by kernel_rfl) aAD
theorem rd27:yw Tryz.prog 27 cY acj:=λ w=>⟨by kernel_rfl,λ enc base held fuel cs x h=>by
 obtain ⟨hl,n,hp⟩:=me Tryz.underlying27 h
 obtain ⟨y0,h0⟩:=hp 0 _ rfl
 obtain ⟨y1,h1⟩:=hp 1 _ rfl
 obtain ⟨y2,h2⟩:=hp 2 _ rfl
 obtain ⟨y3,h3⟩:=hp 3 _ rfl
 obtain ⟨y4,h4⟩:=hp 4 _ rfl
 obtain ⟨y5,h5⟩:=hp 5 _ rfl
 obtain ⟨s0,e0,a0,d0,k0⟩:=(aAz w).rd enc base held n _ _ h0
 obtain ⟨s1,e1,a1,d1,k1⟩:=(amh w).rd enc base held n _ _ h1
 obtain ⟨s2,e2,a2,d2,k2⟩:=(amh w).rd enc base held n _ _ h2
 obtain ⟨s3,e3,a3,d3,k3⟩:=(ato w).rd enc base held n _ _ h3
 obtain ⟨s4,e4,a4,d4,k4⟩:=(ato w).rd enc base held n _ _ h4
 obtain ⟨s5,e5,a5,d5,k5⟩:=(aAE w).rd enc base held n _ _ h5
 have p0:=dY (s:=1) e0
 have p1:=dY (s:=1) e1
 have p2:=dY (s:=1) e2
 have p3:=dY (s:=1) e3
 have p4:=dY (s:=1) e4
 have p5:=dY (s:=1) e5
 have hz:cs.drop 6=[]:=List.drop_eq_nil_iff.2 (by rw [hl]; exact Nat.le_of_eq (by kernel_rfl))
 refine ⟨(⟨s0,s1,s2,s3,s4,s5⟩:bN),?_,(⟨a0,a1,a2,a3,a4,a5⟩:cY),⟨s0,s1,s2,s3,s4,s5,rfl,d0,d1,d2,d3,d4,d5⟩,k0,k1,k2,k3,k4,k5⟩
 have e:cs=cs.drop 0:=rfl
 rw [e]
 refine p0.trans ?_
 refine ((congrArg _ p1)).trans ?_
 refine ((congrArg _ (congrArg _ p2))).trans ?_
 refine ((congrArg _ (congrArg _ (congrArg _ p3)))).trans ?_
 refine ((congrArg _ (congrArg _ (congrArg _ (congrArg _ p4))))).trans ?_
 refine ((congrArg _ (congrArg _ (congrArg _ (congrArg _ (congrArg _ p5)))))).trans ?_
 exact (congrArg _ (congrArg _ (congrArg _ (congrArg _ (congrArg _ (congrArg _ hz))))))⟩
theorem aAF:yw Tryz.prog 28 (List Int) (λ ys:(List Int)=>∀ y∈ys,mI y):=yw.slice Tryz.underlying28 (by kernel_rfl) JW
theorem aAG:yw Tryz.prog 52 eo Qy:=λ w=>⟨by kernel_rfl,λ enc base held fuel cs x h=>by
 obtain ⟨hl,n,hp⟩:=me Tryz.underlying52 h
 obtain ⟨y0,h0⟩:=hp 0 _ rfl
 obtain ⟨y1,h1⟩:=hp 1 _ rfl
 obtain ⟨y2,h2⟩:=hp 2 _ rfl
 obtain ⟨y3,h3⟩:=hp 3 _ rfl
 obtain ⟨s0,e0,a0,d0,k0⟩:=(JW w).rd enc base held n _ _ h0
 obtain ⟨s1,e1,a1,d1,k1⟩:=(JW w).rd enc base held n _ _ h1
 obtain ⟨s2,e2,a2,d2,k2⟩:=(JW w).rd enc base held n _ _ h2
 obtain ⟨s3,e3,a3,d3,k3⟩:=(aAF w).rd enc base held n _ _ h3
 obtain rfl:s0=a0:=d0
 obtain rfl:s1=a1:=d1
 obtain rfl:s2=a2:=d2
 have p0:=dY (s:=1) e0
 have p1:=dY (s:=1) e1
 have p2:=dY (s:=1) e2
 have p3:=dY (s:=1) e3
 have hz:cs.drop 4=[]:=List.drop_eq_nil_iff.2 (by rw [hl]; exact Nat.le_of_eq (by kernel_rfl))
 refine ⟨(⟨s0,s1,s2,s3⟩:dE),?_,(⟨s0,s1,s2,a3⟩:eo),⟨s3,rfl,d3⟩,k0,k1,k2,k3⟩
 have e:cs=cs.drop 0:=rfl
 rw [e]
 refine p0.trans ?_
 refine ((congrArg _ p1)).trans ?_
 refine ((congrArg _ (congrArg _ p2))).trans ?_
 refine ((congrArg _ (congrArg _ (congrArg _ p3)))).trans ?_
 exact (congrArg _ (congrArg _ (congrArg _ (congrArg _ hz))))⟩
theorem rd64:yw Tryz.prog 64 F8 aiS:=λ w=>⟨by kernel_rfl,λ enc base held fuel cs x h=>by
 obtain ⟨hl,n,hp⟩:=me Tryz.underlying64 h
 obtain ⟨y0,h0⟩:=hp 0 _ rfl
 obtain ⟨y1,h1⟩:=hp 1 _ rfl
 obtain ⟨y2,h2⟩:=hp 2 _ rfl
 obtain ⟨s0,e0,a0,d0,k0⟩:=(JW w).rd enc base held n _ _ h0
 obtain ⟨s1,e1,a1,d1,k1⟩:=(JW w).rd enc base held n _ _ h1
 obtain ⟨s2,e2,a2,d2,k2⟩:=(aAG w).rd enc base held n _ _ h2
 obtain rfl:s0=a0:=d0
 obtain rfl:s1=a1:=d1
 have p0:=dY (s:=1) e0
 have p1:=dY (s:=1) e1
 have p2:=dY (s:=4) e2
 have hz:cs.drop 6=[]:=List.drop_eq_nil_iff.2 (by rw [hl]; exact Nat.le_of_eq (by kernel_rfl))
 refine ⟨(⟨s0,s1,s2⟩:uc),?_,(⟨s0,s1,a2⟩:F8),⟨s2,rfl,d2⟩,k0,k1,k2⟩
 have e:cs=cs.drop 0:=rfl
 rw [e]
 refine p0.trans ?_
 refine ((congrArg _ p1)).trans ?_
 refine ((congrArg _ (congrArg _ p2))).trans ?_
 exact (congrArg _ (congrArg _ (congrArg _ hz)))⟩
end Go.Proofs.YtnjcingfdhjfkaaGreat
