/-
  What the proof needs, part 8.
-/
import Derived.Test.YtnjcingfdhjfkaaGreatVaM7
set_option linter.all false
namespace Go.Proofs.YtnjcingfdhjfkaaGreat
open Go.Fw
def TZ (g:Int→Nat) (ta tb:Nat) (x:cG):Nat:=
 if x.kind=11 then g 12+max (ta+(if 0<x.fJ then g 11 else 0)) tb
 else if x.kind=12 then g 13+x.n.toNat * (ta+g 14)
 else if x.kind=13 then g 11 else g (if x.kind=14 then 15 else x.kind)
def qO (g:Int→Nat):Bk→Nat
 | .nil=>0
 | .cons x a b r=>TZ g (qO g a) (qO g b) x+qO g r
def oL (x:cG) (a b r:Bk) (at_:Int):Int:=at_+(bW (.cons x a b r) - bW r)
def W (g:Int→Nat):Bk→Int→Int→List Int→Int→Nat→Nat→Option Nat
 | .nil,at_,_,_,pos,kE,_=>if pos=at_ then some kE else none
 | .cons x a b r,at_,lp,cs,pos,kE,kO=>
  if oL x a b r at_≤pos then W g r (oL x a b r at_) lp cs pos kE kO
  else if pos=at_ then (if x.kind=13 then some (g 11+kO) else some (TZ g (qO g a) (qO g b) x+(qO g r+kE)))
  else if x.kind=11 then (if pos<rI x a at_ then W g a (at_+1) lp cs pos ((if 0<x.fJ then g 11 else 0)+(qO g r+kE)) kO else W g b (rI x a at_) lp cs pos (qO g r+kE) kO)
  else if x.kind=12 then (if 1≤cs.getD lp.toNat 0∧cs.getD lp.toNat 0≤8 then W g a (at_+1) (lp+1) cs pos (g 14+((cs.getD lp.toNat 0).toNat - 1) * (qO g a+g 14)+(qO g r+kE)) (qO g r+kE) else none)
  else none
theorem Pg (x:cG) (a b r:Bk) (at_:Int):at_+1≤oL x a b r at_:=by
 have h1:=iX a; have h2:=iX b
 have e:bW (.cons x a b r)=(if x.kind=12 then 2+bW a else if x.kind=11 then (if 0<x.fJ then 1+bW a+bW b+1 else 1+bW a+bW b) else 1)+bW r:=rfl
 unfold oL; rw [e]
 repeat' split
 all_goals omega
section
variable {g:Int→Nat} {lp:Int} {cs:List Int} {kE kO:Nat}
theorem xN (t:Bk) (at_:Int) (h:kO≤kE):∃ r,W g t at_ lp cs at_ kE kO=some r∧r≤qO g t+kE:=by
 cases t with
 | nil=>exact ⟨kE,if_pos rfl,by unfold qO; omega⟩
 | cons x a b r=>
  have h1:=Pg x a b r at_
  rw [show qO g (.cons x a b r)=TZ g (qO g a) (qO g b) x+qO g r from rfl]
  unfold W
  rw [if_neg (show ¬ oL x a b r at_≤at_ by omega),if_pos rfl]
  by_cases hk:x.kind=13
  ·rw [if_pos hk]
   have:TZ g (qO g a) (qO g b) x=g 11:=by unfold TZ; rw [if_neg (show ¬ x.kind=11 by omega),if_neg (show ¬ x.kind=12 by omega),if_pos hk]
   exact ⟨_,rfl,by omega⟩
  ·rw [if_neg hk]; exact ⟨_,rfl,by omega⟩
theorem RM (t:Bk):∀ (at_ pos:Int),pos=at_+bW t→W g t at_ lp cs pos kE kO=some kE:=by
 induction t with
 | nil=>intro at_ pos h; unfold W; rw [if_pos (by have:bW .nil=0:=rfl; omega)]
 | cons x a b r _ _ ih=>
  intro at_ pos h
  have h1:=Pg x a b r at_
  have h2:=iX r
  have e:oL x a b r at_=at_+(bW (.cons x a b r) - bW r):=rfl
  unfold W
  rw [if_pos (by omega)]
  exact ih _ _ (by omega)
theorem Ph {x:cG} {a b r:Bk} {at_ pos:Int} (h:oL x a b r at_≤pos):W g (.cons x a b r) at_ lp cs pos kE kO=W g r (oL x a b r at_) lp cs pos kE kO:=by
 conv=>lhs; unfold W
 rw [if_pos h]
theorem alW {x:cG} {a b r:Bk} {at_:Int} (h:kO≤kE):∃ r',W g (.cons x a b r) at_ lp cs (oL x a b r at_) kE kO=some r'∧r'≤qO g r+kE:=by
 rw [Ph (Int.le_refl _)]; exact xN r _ h
end
def Tr (x:aW) (pos:Int) (cs:List Int) (pos':Int) (cs':List Int):Prop:=
 (x.kind=11∧pos'=x.to∧cs'=cs)∨(x.kind=12∧(pos'=x.to∨pos'=pos+1)∧cs'=cs)∨(x.kind=13∧pos'=pos+1∧cs'=cs.set x.a.toNat x.b)∨
 (x.kind=14∧cs'=cs.set x.a.toNat (rq (cs.getD x.a.toNat 0 - 1))∧((0<rq (cs.getD x.a.toNat 0 - 1)∧pos'=x.to)∨(¬ 0<rq (cs.getD x.a.toNat 0 - 1)∧pos'=pos+1)))∨
 (¬ x.kind=11∧¬ x.kind=12∧¬ x.kind=13∧¬ x.kind=14∧pos'=pos+1∧cs'=cs)
theorem alX {n:Int} (h:0≤n∧n≤8):rq n=n:=by
 obtain rfl | rfl | rfl | rfl | rfl | rfl | rfl | rfl | rfl:n=0∨n=1∨n=2∨n=3∨n=4∨n=5∨n=6∨n=7∨n=8:=by omega
 all_goals decide
theorem Cp {cs:List Int} {i:Nat} {v:Int} (h:i<cs.length):(cs.set i v).getD i 0=v:=by
 rw [List.getD_eq_getElem?_getD,List.getElem?_set_self h]; rfl
theorem getD_set_ne {cs:List Int} {i j:Nat} {v:Int} (h:i≠j):(cs.set i v).getD j 0=cs.getD j 0:=by
 rw [List.getD_eq_getElem?_getD,List.getElem?_set_ne h,← List.getD_eq_getElem?_getD]
theorem A1 {α:Type} {l1 l2:List α} {k:Int} {x:α} (h:(l1++l2)[k.toNat]? = some x) (hk:k.toNat<l1.length):l1[k.toNat]? = some x:=by
 rwa [List.getElem?_append_left hk] at h
theorem uL {α:Type} {l1 l2:List α} {k j:Int} {x:α} (h:(l1++l2)[k.toNat]? = some x) (hk:l1.length≤k.toNat) (hj:j.toNat=k.toNat - l1.length):l2[j.toNat]? = some x:=by
 rw [List.getElem?_append_right hk] at h; rwa [hj]
theorem at_one {α:Type} {y x:α} {k:Int} (h:[y][k.toNat]? = some x):x=y:=by
 cases hk:k.toNat with
 | zero=>rw [hk] at h; simp at h; exact h.symm
 | succ n=>rw [hk] at h; simp at h
structure Mz (g:Int→Nat) (t:Bk) (at_ lp out loops:Int) (cs cs':List Int) (pos':Int) (kE kO r c:Nat):Prop where
 low:∀ j:Nat,(j:Int)<lp→cs'.getD j 0=cs.getD j 0
 len:cs'.length=cs.length
 go:(at_≤pos'∧pos'≤at_+bW t∧∃ r',W g t at_ lp cs' pos' kE kO=some r'∧r'+c≤r)∨(loops≠0∧pos'=out∧kO+c≤r)
section
variable {g:Int→Nat} {p:cW} {rs:List ByteArray}
theorem aeB {x:aW} {pos pos':Int} {cs cs':List Int} (h:Tr x pos cs pos' cs') (h1:¬ x.kind=11) (h2:¬ x.kind=12) (h3:¬ x.kind=13) (h4:¬ x.kind=14):pos'=pos+1∧cs'=cs:=by
 rcases h with ⟨q,_⟩ | ⟨q,_⟩ | ⟨q,_⟩ | ⟨q,_⟩ | ⟨_,_,_,_,h⟩
 ·exact absurd q h1
 ·exact absurd q h2
 ·exact absurd q h3
 ·exact absurd q h4
 ·exact h
theorem ahb {x:aW} {pos pos':Int} {cs cs':List Int} (h:Tr x pos cs pos' cs') (h1:x.kind=11):pos'=x.to∧cs'=cs:=by
 rcases h with ⟨q,h⟩ | ⟨q,_⟩ | ⟨q,_⟩ | ⟨q,_⟩ | ⟨q,_⟩
 ·exact h
 all_goals omega
theorem asO {x:aW} {pos pos':Int} {cs cs':List Int} (h:Tr x pos cs pos' cs') (h1:x.kind=12):(pos'=x.to∨pos'=pos+1)∧cs'=cs:=by
 rcases h with ⟨q,_⟩ | ⟨q,h⟩ | ⟨q,_⟩ | ⟨q,_⟩ | ⟨_,q,_⟩
 ·omega
 ·exact h
 all_goals omega
theorem asP {x:aW} {pos pos':Int} {cs cs':List Int} (h:Tr x pos cs pos' cs') (h1:x.kind=13):pos'=pos+1∧cs'=cs.set x.a.toNat x.b:=by
 rcases h with ⟨q,_⟩ | ⟨q,_⟩ | ⟨q,h⟩ | ⟨q,_⟩ | ⟨_,_,q,_⟩
 ·omega
 ·omega
 ·exact h
 all_goals omega
theorem asQ {x:aW} {pos pos':Int} {cs cs':List Int} (h:Tr x pos cs pos' cs') (h1:x.kind=14):cs'=cs.set x.a.toNat (rq (cs.getD x.a.toNat 0 - 1))∧((0<rq (cs.getD x.a.toNat 0 - 1)∧pos'=x.to)∨(¬ 0<rq (cs.getD x.a.toNat 0 - 1)∧pos'=pos+1)):=by
 rcases h with ⟨q,_⟩ | ⟨q,_⟩ | ⟨q,_⟩ | ⟨q,h⟩ | ⟨_,_,_,q,_⟩
 ·omega
 ·omega
 ·omega
 ·exact h
 ·omega
theorem alY (t:Bk):∀ (at_ lp out loops:Int) (cs:List Int) (pos:Int) (kE kO r:Nat) (x:aW) (pos':Int) (cs':List Int),W g t at_ lp cs pos kE kO=some r→at_≤pos→pos<at_+bW t→kO≤kE→kC t→t.str→t.ok loops=true→0≤lp→lp+iY t≤cs.length→
  (eT p rs t at_ lp out)[(pos - at_).toNat]? = some x→Tr x pos cs pos' cs'→Mz g t at_ lp out loops cs cs' pos' kE kO r (g x.kind):=by
 induction t with
 | nil=>intro at_ lp out loops cs pos kE kO r x pos' cs' _ h1 h2; have:bW .nil=0:=rfl; omega
 | cons x a b rr vO xY GY=>
  intro at_ lp out loops cs pos kE kO r y pos' cs' hW hp1 Zk hO HW IN nP Mi T5 hy hT
  have hsa:=iX a; have hsb:=iX b; have hsr:=iX rr
  have hda:=tj a; have hdb:=tj b; have hdr:=tj rr
  obtain ⟨Sz,hs2,_,_,Pe,Yu,Yv⟩:=IN
  unfold Bk.ok at nP
  simp only [Bool.and_eq_true] at nP
  obtain ⟨⟨⟨ho1,PA⟩,Yr⟩,ho4⟩:=nP
  unfold Bk.zs at ho1
  rw [decide_eq_true_eq] at ho1
  have lF:bW (.cons x a b rr)=(if x.kind=12 then 2+bW a else if x.kind=11 then (if 0<x.fJ then 1+bW a+bW b+1 else 1+bW a+bW b) else 1)+bW rr:=rfl
  have hdp:iY (.cons x a b rr)=max (if x.kind=12 then max (iY a) (iY b)+1 else max (iY a) (iY b)) (iY rr):=rfl
  have Lx:=IQ p rs x a b rr at_ lp out
  have hee:oL x a b rr at_=at_+(bW (.cons x a b rr) - bW rr):=rfl
  have hen:=Pg x a b rr at_
  rw [vk] at hy
  have next:∀ RN:List Int,∀ c:Nat,(∀ j:Nat,(j:Int)<lp→RN.getD j 0=cs.getD j 0)→RN.length=cs.length→qO g rr+kE+c≤r→Mz g (.cons x a b rr) at_ lp out loops cs RN (oL x a b rr at_) kE kO r c:=by
   intro RN c h1 h2 h3
   obtain ⟨r',h4,h5⟩:=alW (g:=g) (lp:=lp) (cs:=RN) (kE:=kE) (kO:=kO) (x:=x) (a:=a) (b:=b) (r:=rr) (at_:=at_) hO
   exact ⟨h1,h2,.inl ⟨by omega,by omega,r',h4,by omega⟩⟩
  by_cases hE:oL x a b rr at_≤pos
  ·rw [Ph hE] at hW
   have hy2:=uL (j:=pos - oL x a b rr at_) hy (by omega) (by omega)
   have hR:=GY (oL x a b rr at_) lp out loops cs pos kE kO r y pos' cs' hW hE (by omega) hO HW.r Yv ho4 Mi (by omega) (by rw [hee,← Lx]; rw [hee,← Lx] at hy2; exact hy2) hT
   refine ⟨hR.low,hR.len,?_⟩
   rcases hR.go with ⟨h1,h2,r',h3,h4⟩ | h1
   ·exact .inl ⟨by omega,by omega,r',by rw [Ph h1]; exact h3,h4⟩
   ·exact .inr h1
  ·have Jz:=A1 hy (by omega)
   clear hy
   have hWp:∀ (RN:List Int) (q:Int),¬ oL x a b rr at_≤q→q≠at_→W g (.cons x a b rr) at_ lp RN q kE kO =
     (if x.kind=11 then (if q<rI x a at_ then W g a (at_+1) lp RN q ((if 0<x.fJ then g 11 else 0)+(qO g rr+kE)) kO else W g b (rI x a at_) lp RN q (qO g rr+kE) kO)
      else if x.kind=12 then (if 1≤RN.getD lp.toNat 0∧RN.getD lp.toNat 0≤8 then W g a (at_+1) (lp+1) RN q (g 14+((RN.getD lp.toNat 0).toNat - 1) * (qO g a+g 14)+(qO g rr+kE)) (qO g rr+kE) else none) else none):=by
    intro RN q h1 h2
    conv=>lhs; unfold W
    rw [if_neg h1,if_neg h2]
   have hWs:pos=at_→W g (.cons x a b rr) at_ lp cs pos kE kO=if x.kind=13 then some (g 11+kO) else some (TZ g (qO g a) (qO g b) x+(qO g rr+kE)):=by
    intro h1
    conv=>lhs; unfold W
    rw [if_neg hE,if_pos h1]
   unfold Ga at Jz Lx
   have Pj:∀ j:Nat,(j:Int)<lp→cs.getD j 0=cs.getD j 0:=λ _ _=>rfl
   by_cases vP:x.kind=11
   ·rw [if_pos vP] at Jz Lx
    rw [if_neg (show ¬ x.kind=12 by omega),if_pos vP] at lF
    rw [if_neg (show ¬ x.kind=12 by omega)] at hdp
    have vB:Bk.B8 x loops=loops:=by unfold Bk.B8; rw [if_neg (by omega)]
    rw [vB] at PA Yr
    have MP:=ia p rs a (at_+1) lp out
    have QB:=ia p rs b (rI x a at_) lp out
    have Dj:rI x a at_=if 0<x.fJ then at_+1+bW a+1 else at_+1+bW a:=rfl
    have hhd:TZ g (qO g a) (qO g b) x=g 12+max (qO g a+(if 0<x.fJ then g 11 else 0)) (qO g b):=by unfold TZ; rw [if_pos vP]
    have toB:∀ c:Nat,qO g b+(qO g rr+kE)+c≤r→Mz g (.cons x a b rr) at_ lp out loops cs cs (rI x a at_) kE kO r c:=by
     intro c hc
     by_cases hz:oL x a b rr at_≤rI x a at_
     ·have:rI x a at_=oL x a b rr at_:=by split at lF <;> (first | rw [if_pos (by assumption)] at Dj | rw [if_neg (by assumption)] at Dj) <;> omega
      rw [this]; exact next cs c Pj rfl (by omega)
     ·obtain ⟨r',h4,h5⟩:=xN (g:=g) (lp:=lp) (cs:=cs) (kE:=qO g rr+kE) (kO:=kO) b (rI x a at_) (by omega)
      have h6:at_+1≤rI x a at_:=by rw [Dj]; split <;> omega
      exact ⟨Pj,rfl,.inl ⟨by omega,by omega,r',by rw [hWp cs _ hz (by omega),if_pos vP,if_neg (by omega)]; exact h4,by omega⟩⟩
    by_cases Yx:pos=at_
    ·rw [hWs Yx,if_neg (show ¬ x.kind=13 by omega),hhd] at hW
     obtain rfl:=Option.some.inj hW
     have Yy:y=⟨12,0,0,gg rs x.e,[],rI x a at_⟩:=by
      rw [Yx,show (at_ - at_).toNat=0 from by omega] at Jz
      simpa using Jz.symm
     subst Yy
     obtain ⟨hq,rfl⟩:=asO hT rfl
     rcases hq with rfl | rfl
     ·exact toB _ (by show _+g 12≤_; omega)
     ·by_cases hz:oL x a b rr at_≤pos+1
      ·have:pos+1=oL x a b rr at_:=by omega
       rw [this]; exact next _ _ Pj rfl (by show _+g 12≤_; omega)
      ·by_cases hz2:pos+1<rI x a at_
       ·obtain ⟨r',h4,h5⟩:=xN (g:=g) (lp:=lp) (cs:=cs') (kE:=(if 0<x.fJ then g 11 else 0)+(qO g rr+kE)) (kO:=kO) a (at_+1) (by omega)
        refine ⟨Pj,rfl,.inl ⟨by omega,by omega,r',?_,by show _+g 12≤_; omega⟩⟩
        rw [hWp _ _ hz (by omega),if_pos vP,if_pos hz2,Yx]; exact h4
       ·exfalso
        split at lF
        ·rename_i he; rw [if_pos he] at Dj; omega
        ·rename_i he; rw [if_neg he] at Dj
         have Ge:=FG (b:=b) (by omega)
         subst Ge
         have:bW .nil=0:=rfl
         omega
    ·rw [hWp cs pos hE Yx,if_pos vP] at hW
     by_cases hpt:pos<rI x a at_
     ·rw [if_pos hpt] at hW
      by_cases hpe:pos<at_+1+bW a
      ·have hya:(eT p rs a (at_+1) lp out)[(pos - (at_+1)).toNat]? = some y:=by
        have h1:=A1 (A1 Jz (by simp only [List.length_append,List.length_singleton]; split <;> simp <;> omega)) (by simp only [List.length_append,List.length_singleton]; omega)
        exact uL h1 (by simp only [List.length_singleton]; omega) (by simp only [List.length_singleton]; omega)
       have hR:=vO (at_+1) lp out loops cs pos _ kO r y pos' cs' hW (by omega) hpe (by omega) HW.a Pe PA Mi (by omega) hya hT
       rcases hR.go with ⟨h1,h2,r',h3,h4⟩ | h1
       ·by_cases hz:oL x a b rr at_≤pos'
        ·have e1:pos'=at_+1+bW a:=by split at lF <;> omega
         have e2:pos'=oL x a b rr at_:=by split at lF <;> omega
         rw [RM a (at_+1) pos' e1] at h3
         obtain rfl:=Option.some.inj h3
         rw [e2]; exact next cs' _ hR.low hR.len (by omega)
        ·refine ⟨hR.low,hR.len,.inl ⟨by omega,by omega,r',?_,h4⟩⟩
         rw [hWp cs' pos' hz (by omega),if_pos vP]
         by_cases hz2:pos'<rI x a at_
         ·rw [if_pos hz2]; exact h3
         ·exfalso
          split at lF
          ·rename_i he; rw [if_pos he] at Dj; omega
          ·rename_i he; rw [if_neg he] at Dj
           have Ge:=FG (b:=b) (by omega)
           subst Ge
           have:bW .nil=0:=rfl
           omega
       ·exact ⟨hR.low,hR.len,.inr h1⟩
      ·have asR:0<x.fJ:=by
        by_cases he:0<x.fJ
        ·exact he
        ·rw [if_neg he] at Dj; omega
       rw [if_pos asR] at Dj lF hW
       rw [if_pos asR] at Jz
       have e1:pos=at_+1+bW a:=by omega
       rw [RM a (at_+1) pos e1] at hW
       obtain rfl:=Option.some.inj hW
       have Yy:y=⟨11,0,0,[],[],rI x a at_+bW b⟩:=by
        have h1:=A1 Jz (by simp only [List.length_append,List.length_singleton]; omega)
        exact at_one (uL (j:=0) h1 (by simp only [List.length_append,List.length_singleton]; omega) (by simp only [List.length_append,List.length_singleton]; omega))
       subst Yy
       obtain ⟨rfl,rfl⟩:=ahb hT rfl
       have e2:rI x a at_+bW b=oL x a b rr at_:=by omega
       show Mz g _ at_ lp out loops cs' cs' (rI x a at_+bW b) kE kO _ (g 11)
       rw [e2]; exact next _ _ Pj rfl (by omega)
     ·rw [if_neg hpt] at hW
      have hyb:(eT p rs b (rI x a at_) lp out)[(pos - rI x a at_).toNat]? = some y:=by
       refine uL Jz ?_ ?_
       ·simp only [List.length_append,List.length_singleton]; rw [Dj] at hpt; split <;> split at hpt <;> simp <;> omega
       ·simp only [List.length_append,List.length_singleton]; rw [Dj]; split <;> simp <;> omega
      have hR:=xY (rI x a at_) lp out loops cs pos _ kO r y pos' cs' hW (by omega) (by split at lF <;> (first | rw [if_pos (by assumption)] at Dj | rw [if_neg (by assumption)] at Dj) <;> omega) (by omega) HW.b Yu Yr Mi (by omega) hyb hT
      have h6:at_+1≤rI x a at_:=by rw [Dj]; split <;> omega
      have h7:rI x a at_+bW b=oL x a b rr at_:=by split at lF <;> (first | rw [if_pos (by assumption)] at Dj | rw [if_neg (by assumption)] at Dj) <;> omega
      rcases hR.go with ⟨h1,h2,r',h3,h4⟩ | h1
      ·by_cases hz:oL x a b rr at_≤pos'
       ·rw [RM b _ pos' (by omega)] at h3
        obtain rfl:=Option.some.inj h3
        rw [show pos'=oL x a b rr at_ from by omega]
        exact next cs' _ hR.low hR.len (by omega)
       ·refine ⟨hR.low,hR.len,.inl ⟨by omega,by omega,r',?_,h4⟩⟩
        rw [hWp cs' pos' hz (by omega),if_pos vP,if_neg (by omega)]; exact h3
      ·exact ⟨hR.low,hR.len,.inr h1⟩
   ·rw [if_neg vP] at Jz Lx
    by_cases xZ:x.kind=12
    ·rw [if_pos xZ] at Jz Lx lF hdp
     have vB:Bk.B8 x loops=loops+1:=by unfold Bk.B8; rw [if_pos xZ]
     rw [vB] at PA
     have MP:=ia p rs a (at_+1) (lp+1) (at_+2+bW a)
     have hxn:=HW.x xZ
     have hhd:TZ g (qO g a) (qO g b) x=g 13+x.n.toNat * (qO g a+g 14):=by unfold TZ; rw [if_neg vP,if_pos xZ]
     by_cases Yx:pos=at_
     ·rw [hWs Yx,if_neg (show ¬ x.kind=13 by omega),hhd] at hW
      obtain rfl:=Option.some.inj hW
      have Yy:y=⟨13,lp,x.n,[],[],0⟩:=by
       rw [Yx,show (at_ - at_).toNat=0 from by omega] at Jz
       simpa using Jz.symm
      subst Yy
      obtain ⟨rfl,rfl⟩:=asP hT rfl
      have hg:(cs.set lp.toNat x.n).getD lp.toNat 0=x.n:=Cp (by omega)
      obtain ⟨r',h4,h5⟩:=xN (g:=g) (lp:=lp+1) (cs:=cs.set lp.toNat x.n) (kE:=g 14+(x.n.toNat - 1) * (qO g a+g 14)+(qO g rr+kE)) (kO:=qO g rr+kE) a (at_+1) (by omega)
      obtain ⟨m,hm⟩:∃ m,x.n.toNat=m+1:=⟨x.n.toNat - 1,by omega⟩
      rw [hm,Nat.add_sub_cancel] at h4 h5
      refine ⟨λ j hj=>getD_set_ne (by show lp.toNat≠j; omega),by simp,.inl ⟨by omega,by omega,r',?_,?_⟩⟩
      ·show W g _ at_ lp (cs.set lp.toNat x.n) (pos+1) kE kO=_
       rw [hWp _ _ (by omega) (by omega),if_neg vP,if_pos xZ,hg,if_pos hxn,hm,Nat.add_sub_cancel,Yx]; exact h4
      ·show r'+g 13≤_
       rw [hm,Nat.succ_mul]; omega
     ·rw [hWp cs pos hE Yx,if_neg vP,if_pos xZ] at hW
      split at hW
      ·rename_i hcc
       by_cases hpe:pos<at_+1+bW a
       ·have hya:(eT p rs a (at_+1) (lp+1) (at_+2+bW a))[(pos - (at_+1)).toNat]? = some y:=by
         have h1:=A1 Jz (by simp only [List.length_append,List.length_singleton]; omega)
         exact uL h1 (by simp only [List.length_singleton]; omega) (by simp only [List.length_singleton]; omega)
        have hR:=vO (at_+1) (lp+1) (at_+2+bW a) (loops+1) cs pos _ _ r y pos' cs' hW (by omega) hpe (by omega) HW.a Pe PA (by omega) (by omega) hya hT
        have hce:cs'.getD lp.toNat 0=cs.getD lp.toNat 0:=hR.low lp.toNat (by omega)
        have Tq:∀ j:Nat,(j:Int)<lp→cs'.getD j 0=cs.getD j 0:=λ j hj=>hR.low j (by omega)
        rcases hR.go with ⟨h1,h2,r',h3,h4⟩ | ⟨_,h1,h2⟩
        ·refine ⟨Tq,hR.len,.inl ⟨by omega,by omega,r',?_,h4⟩⟩
         rw [hWp cs' pos' (by omega) (by omega),if_neg vP,if_pos xZ,hce,if_pos hcc]; exact h3
        ·rw [show pos'=oL x a b rr at_ from by omega]
         exact next cs' _ Tq hR.len (by omega)
       ·have e1:pos=at_+1+bW a:=by omega
        rw [RM a (at_+1) pos e1] at hW
        obtain rfl:=Option.some.inj hW
        have Yy:y=⟨14,lp,0,[],[],at_+1⟩:=at_one (uL (j:=0) Jz (by simp only [List.length_append,List.length_singleton]; omega) (by simp only [List.length_append,List.length_singleton]; omega))
        subst Yy
        obtain ⟨rfl,hq⟩:=asQ hT rfl
        have hwe:rq (cs.getD lp.toNat 0 - 1)=cs.getD lp.toNat 0 - 1:=alX (by omega)
        have hq:(0<rq (cs.getD lp.toNat 0 - 1)∧pos'=at_+1)∨(¬ 0<rq (cs.getD lp.toNat 0 - 1)∧pos'=pos+1):=hq
        have Tq:∀ j:Nat,(j:Int)<lp→(cs.set lp.toNat (rq (cs.getD lp.toNat 0 - 1))).getD j 0=cs.getD j 0:=λ j hj=>getD_set_ne (by omega)
        show Mz g _ at_ lp out loops cs (cs.set lp.toNat (rq (cs.getD lp.toNat 0 - 1))) pos' kE kO _ (g 14)
        rw [hwe] at hq Tq ⊢
        rcases hq with ⟨q1,q2⟩ | ⟨q1,q2⟩
        ·have hg:(cs.set lp.toNat (cs.getD lp.toNat 0 - 1)).getD lp.toNat 0=cs.getD lp.toNat 0 - 1:=Cp (by omega)
         obtain ⟨m,hm⟩:∃ m,(cs.getD lp.toNat 0).toNat=m+2:=⟨(cs.getD lp.toNat 0).toNat - 2,by omega⟩
         obtain ⟨r',h4,h5⟩:=xN (g:=g) (lp:=lp+1) (cs:=cs.set lp.toNat (cs.getD lp.toNat 0 - 1)) (kE:=g 14+m * (qO g a+g 14)+(qO g rr+kE)) (kO:=qO g rr+kE) a (at_+1) (by omega)
         refine ⟨Tq,by simp,.inl ⟨by omega,by omega,r',?_,?_⟩⟩
         ·rw [hWp _ _ (by omega) (by omega),if_neg vP,if_pos xZ,hg,if_pos (by omega),q2,show (cs.getD lp.toNat 0 - 1).toNat - 1=m from by omega]; exact h4
         ·rw [hm,show m+2 - 1=m+1 from by omega,Nat.succ_mul]; omega
        ·rw [show pos'=oL x a b rr at_ from by omega]
         exact next _ _ Tq (by simp) (by omega)
      ·cases hW
    ·rw [if_neg xZ] at Jz Lx
     rw [if_neg xZ,if_neg vP] at lF
     have Yx:pos=at_:=by omega
     rw [hWs Yx] at hW
     by_cases JL:x.kind=13
     ·rw [if_pos JL] at Jz hW
      obtain rfl:=Option.some.inj hW
      have Yy:=at_one Jz
      subst Yy
      obtain ⟨rfl,rfl⟩:=ahb hT rfl
      exact ⟨Pj,rfl,.inr ⟨by omega,rfl,by show kO+g 11≤_; omega⟩⟩
     ·rw [if_neg JL] at Jz hW
      obtain rfl:=Option.some.inj hW
      have Yy:=at_one Jz
      subst Yy
      have nn:(lH p rs x).kind=if x.kind=14 then 15 else x.kind:=rfl
      obtain ⟨rfl,rfl⟩:=aeB hT (by rw [nn]; split <;> omega) (by rw [nn]; split <;> omega) (by rw [nn]; split <;> omega) (by rw [nn]; split <;> omega)
      have hhd:TZ g (qO g a) (qO g b) x=g (lH p rs x).kind:=by unfold TZ; rw [if_neg vP,if_neg xZ,if_neg JL,nn]
      rw [show pos+1=oL x a b rr at_ from by omega]
      exact next _ _ Pj rfl (by omega)
end
structure MC (p:cW) (c:fq) (b:Bk) (rs:List ByteArray):Prop where
 l:c.l=eT p rs b 0 0 0
 cn:c.counts=iY b
 rd:kC b
 str:b.str
 ok:b.ok 0=true
structure TW (g:Int→Nat) (p:cW) (b:Bk) (rs:List ByteArray) (t:fF) (r:Nat):Prop where
 code:MC p t.code b rs
 cl:(t.counts.length:Int)=t.code.counts
 a0:0≤t.at_
 a1:t.at_≤bW b
 w:W g b 0 0 t.counts t.at_ 0 0=some r
section
variable {g:Int→Nat} {p:cW} {b:Bk} {rs:List ByteArray} {t t':fF} {r:Nat}
theorem TW.next {x:aW} (h:TW g p b rs t r) (hn:gO t=some x) (hT:Tr x t.at_ t.counts t'.at_ t'.counts) (hc:t'.code=t.code):∃ r',TW g p b rs t' r'∧r'+g x.kind≤r:=by
 have h1:=(qS hn).2
 have hl:=ia p rs b 0 0 0
 rw [h.code.l] at h1
 have hx:(eT p rs b 0 0 0)[(t.at_ - 0).toNat]? = some x:=by
  unfold gO at hn
  rw [h.code.l] at hn
  rw [if_neg (by omega)] at hn
  rw [Int.sub_zero]; exact hn
 have Y9:=h.code.cn
 have QK:=h.cl
 have hR:=alY (g:=g) (p:=p) (rs:=rs) b 0 0 0 0 t.counts t.at_ 0 0 r x t'.at_ t'.counts h.w h.a0 (by omega) (Nat.le_refl _) h.code.rd h.code.str h.code.ok (Int.le_refl _) (by omega) hx hT
 rcases hR.go with ⟨h3,h4,r',h5,h6⟩ | ⟨h3,_⟩
 ·exact ⟨r',⟨by rw [hc]; exact h.code,by rw [hR.len,hc]; exact h.cl,h3,by omega,h5⟩,h6⟩
 ·exact absurd rfl h3
theorem TW.same (h:TW g p b rs t r) (hc:t'.code=t.code) (ha:t'.at_=t.at_) (hk:t'.counts=t.counts):TW g p b rs t' r:=
 ⟨by rw [hc]; exact h.code,by rw [hk,hc]; exact h.cl,by rw [ha]; exact h.a0,by rw [ha]; exact h.a1,by rw [hk,ha]; exact h.w⟩
theorem alZ {x:aW} {e:Int} (h:(wR t x e).2=true):Tr x t.at_ t.counts (wR t x e).1.at_ (wR t x e).1.counts:=by
 by_cases h1:x.kind=1
 ·rw [Xr h1]; exact .inr (.inr (.inr (.inr ⟨by omega,by omega,by omega,by omega,rfl,rfl⟩)))
 by_cases vP:x.kind=11
 ·rw [Ox vP]; exact .inl ⟨vP,rfl,rfl⟩
 by_cases xZ:x.kind=12
 ·by_cases he:e=0
  ·rw [Jb xZ he]; exact .inr (.inl ⟨xZ,.inl rfl,rfl⟩)
  ·rw [Jc xZ he]; exact .inr (.inl ⟨xZ,.inr rfl,rfl⟩)
 by_cases JL:x.kind=13
 ·rw [Oy JL]; exact .inr (.inr (.inl ⟨JL,rfl,rfl⟩))
 by_cases QA:x.kind=14
 ·by_cases he:0<rq (t.counts.getD x.a.toNat 0 - 1)
  ·rw [Jd QA he]; exact .inr (.inr (.inr (.inl ⟨QA,rfl,.inl ⟨he,rfl⟩⟩)))
  ·rw [Je QA he]; exact .inr (.inr (.inr (.inl ⟨QA,rfl,.inr ⟨he,rfl⟩⟩)))
 by_cases h15:x.kind=15
 ·by_cases he:e=0
  ·rw [Jf h15 he] at h; cases h
  ·rw [Jg h15 he]; exact .inr (.inr (.inr (.inr ⟨vP,xZ,JL,QA,rfl,rfl⟩)))
 ·rw [Oz h1 vP xZ JL QA h15] at h; cases h
theorem Yz {x:aW} {e:Int} (h:(wR t x e).2=false):(wR t x e).1.at_=t.at_∧(wR t x e).1.counts=t.counts∧(wR t x e).1.aN=t.aN:=by
 by_cases h1:x.kind=1
 ·rw [Xr h1] at h; cases h
 by_cases vP:x.kind=11
 ·rw [Ox vP] at h; cases h
 by_cases xZ:x.kind=12
 ·by_cases he:e=0
  ·rw [Jb xZ he] at h; cases h
  ·rw [Jc xZ he] at h; cases h
 by_cases JL:x.kind=13
 ·rw [Oy JL] at h; cases h
 by_cases QA:x.kind=14
 ·by_cases he:0<rq (t.counts.getD x.a.toNat 0 - 1)
  ·rw [Jd QA he] at h; cases h
  ·rw [Je QA he] at h; cases h
 by_cases h15:x.kind=15
 ·by_cases he:e=0
  ·rw [Jf h15 he]; exact ⟨rfl,rfl,rfl⟩
  ·rw [Jg h15 he] at h; cases h
 ·rw [Oz h1 vP xZ JL QA h15]; exact ⟨rfl,rfl,rfl⟩
theorem HK (h:(fL t).2=true):∃ x,gO t=some x∧Tr x t.at_ t.counts (fL t).1.at_ (fL t).1.counts:=by
 cases hn:gO t with
 | none=>rw [AJ hn] at h; cases h
 | some x=>
  refine ⟨x,rfl,?_⟩
  cases he:(eD x.e t.aN).2 with
  | false=>rw [AK hn he] at h; cases h
  | true=>
   cases hf:(eD x.f t.aN).2 with
   | false=>rw [AL hn he hf] at h; cases h
   | true=>
    rw [kF hn he hf] at h ⊢
    exact alZ (t:=tF (tE t x) x) h
theorem MD (h:(fL t).2=false):(fL t).1.at_=t.at_∧(fL t).1.counts=t.counts:=by
 cases hn:gO t with
 | none=>rw [AJ hn]; exact ⟨rfl,rfl⟩
 | some x=>
  cases he:(eD x.e t.aN).2 with
  | false=>rw [AK hn he]; exact ⟨rfl,rfl⟩
  | true=>
   cases hf:(eD x.f t.aN).2 with
   | false=>rw [AL hn he hf]; exact ⟨rfl,rfl⟩
   | true=>
    rw [kF hn he hf] at h ⊢
    have:=Yz (t:=tF (tE t x) x) h
    exact ⟨this.1,this.2.1⟩
theorem TW.go:∀ {N:Nat} {t t':fF} {r:Nat},TW g p b rs t r→sd N t=some t'→∃ r',TW g p b rs t' r'∧r'≤r
 | 0,_,_,_,_,h=>by cases h
 | N+1,t,t',r,h0,h=>by
  unfold sd at h
  split at h
  ·rename_i hs
   obtain ⟨x,hn,hT⟩:=HK hs
   obtain ⟨r1,h1,h2⟩:=h0.next hn hT (qe t).1
   obtain ⟨r2,h3,h4⟩:=TW.go h1 h
   exact ⟨r2,h3,by omega⟩
  ·rename_i hs
   cases h
   have:=MD (by simpa using hs)
   exact ⟨r,h0.same (qe t).1 this.1 this.2,Nat.le_refl _⟩
theorem ME:∀ {n:Nat} {t:fF} {r:Nat},TW (λ _=>1) p b rs t r→r≤n→∃ t',sd (n+1) t=some t'
 | n,t,r,h0,hr=>by
  cases hs:(fL t).2 with
  | false=>exact ⟨_,by unfold sd; rw [hs]; rfl⟩
  | true=>
   obtain ⟨x,hn,hT⟩:=HK hs
   obtain ⟨r1,h1,h2⟩:=h0.next hn hT (qe t).1
   cases n with
   | zero=>exfalso; omega
   | succ n=>
    obtain ⟨t',h3⟩:=ME (n:=n) h1 (by omega)
    exact ⟨t',by unfold sd; rw [hs,if_pos rfl]; exact h3⟩
end
def Dk (p:cW) (t:fF):Prop:=∃ b rs,∀ g,∃ r,TW g p b rs t r
section
variable {p:cW} {t t':fF}
theorem Dk.next {x:aW} (h:Dk p t) (hn:gO t=some x) (hT:Tr x t.at_ t.counts t'.at_ t'.counts) (hc:t'.code=t.code):Dk p t':=by
 obtain ⟨b,rs,h⟩:=h
 exact ⟨b,rs,λ g=>by obtain ⟨r,h1⟩:=h g; obtain ⟨r',h2,_⟩:=h1.next hn hT hc; exact ⟨r',h2⟩⟩
theorem Dk.same (h:Dk p t) (hc:t'.code=t.code) (ha:t'.at_=t.at_) (hk:t'.counts=t.counts):Dk p t':=by
 obtain ⟨b,rs,h⟩:=h
 exact ⟨b,rs,λ g=>by obtain ⟨r,h1⟩:=h g; exact ⟨r,h1.same hc ha hk⟩⟩
theorem Dk.go {N:Nat} (h:Dk p t) (hg:sd N t=some t'):Dk p t':=by
 obtain ⟨b,rs,h⟩:=h
 exact ⟨b,rs,λ g=>by obtain ⟨r,h1⟩:=h g; obtain ⟨r',h2,_⟩:=h1.go hg; exact ⟨r',h2⟩⟩
theorem Dk.total (h:Dk p t):∃ N t',sd N t=some t':=by
 obtain ⟨b,rs,h⟩:=h
 obtain ⟨r,h1⟩:=h λ _=>1
 obtain ⟨t',h2⟩:=ME h1 (Nat.le_refl r)
 exact ⟨_,t',h2⟩
end
theorem Dl {p:cW} {c:fq} {b:Bk} {rs:List ByteArray} (h:MC p c b rs) (hc:0≤c.counts) (g:Int→Nat):∃ r,TW g p b rs (qb c) r∧r≤qO g b:=by
 obtain ⟨r,h1,h2⟩:=xN (g:=g) (lp:=0) (cs:=List.replicate c.counts.toNat 0) (kE:=0) (kO:=0) b 0 (Nat.le_refl _)
 have:=iX b
 exact ⟨r,⟨h,by show ((List.replicate c.counts.toNat (0:Int)).length:Int)=c.counts; rw [List.length_replicate]; omega,Int.le_refl _,this.1,h1⟩,by omega⟩
theorem JA {p:cW} (h:BA p) {t:dS} (ht:t∈iN p):∃ b,MC p (mj p t) b t.aN∧oZ t.body=some b∧kC b:=by
 obtain ⟨b,h1,h2,h3,_,h5,_,_,h8,_⟩:=h.tree ht
 rw [EM h8]
 exact ⟨b,⟨rfl,rfl,h5,h2,h3⟩,h8,h5⟩
theorem asS {p:cW} (h:BA p):∃ b rs,MC p (eu p).recover b rs:=by
 show ∃ b rs,MC p (match p.recover[0]? with | some t=>mj p t | none=>⟨0,0,[]⟩) b rs
 cases hr:p.recover[0]? with
 | none=>exact ⟨.nil,[],⟨rfl,rfl,λ x hx=>(by cases hx),trivial,rfl⟩⟩
 | some t=>
  obtain ⟨b,hb,_⟩:=JA h (List.mem_append_right p.threads (List.mem_of_getElem? hr))
  exact ⟨b,_,hb⟩
structure PM (p:cW) (m:gr):Prop where
 chk:BA p
 u:m.u=eu p
 gm:GM m
 tw:∀ t∈m.l,Dk p t
section
variable {p:cW} {m m2:gr}
theorem Ts (h:BA p):∃ N t,sd N (qb (eu p).recover)=some t∧Dk p t:=by
 obtain ⟨b,rs,hb⟩:=asS h
 have hru:=qd (qN h).1
 have h0:Dk p (qb (eu p).recover):=⟨b,rs,λ g=>by obtain ⟨r,h1,_⟩:=Dl hb hru.rc.cb.1 g; exact ⟨r,h1⟩⟩
 obtain ⟨N,t,ht⟩:=h0.total
 exact ⟨N,t,ht,h0.go ht⟩
theorem Cq (h:BA p):∃ N mP,rR N (eu p).threads mP∧∀ t∈mP,Dk p t:=by
 have hru:=qd (qN h).1
 have key:∀ cs:List fq,(∀ c∈cs,c∈(eu p).threads)→∃ N mP,rR N cs mP∧∀ t∈mP,Dk p t:=by
  intro cs
  induction cs with
  | nil=>intro _; exact ⟨0,[],⟨rfl,λ j c t h=>by simp at h⟩,λ t ht=>by cases ht⟩
  | cons c cs ih=>
   intro YX
   obtain ⟨N,mP,h1,h2⟩:=ih λ c hc=>YX c (List.mem_cons_of_mem _ hc)
   have MR:=YX c (List.mem_cons_self ..)
   obtain ⟨t,ht,rfl⟩:=List.mem_map.1 (show c∈p.threads.map (mj p) from MR)
   obtain ⟨b,hb,_⟩:=JA h (List.mem_append_left p.recover ht)
   have h0:Dk p (qb (mj p t)):=⟨b,t.aN,λ g=>by obtain ⟨r,h1,_⟩:=Dl hb (hru.th _ MR).cb.1 g; exact ⟨r,h1⟩⟩
   obtain ⟨M,t',Yq⟩:=h0.total
   refine ⟨N+M,t'::mP,⟨by rw [List.length_cons,List.length_cons,h1.1],λ j c2 t2 Zp ht2=>?_⟩,λ t2 ht2=>?_⟩
   ·cases j with
    | zero=>
     rw [List.getElem?_cons_zero] at Zp ht2
     cases Zp; cases ht2
     rw [Nat.add_comm]; exact FB Yq
    | succ j=>
     rw [List.getElem?_cons_succ] at Zp ht2
     exact FB (h1.2 j c2 t2 Zp ht2)
   ·rcases List.mem_cons.1 ht2 with rfl | ht2
    ·exact h0.go Yq
    ·exact h2 t2 ht2
 exact key _ λ c hc=>hc
theorem FH {t:fF} {i:Int} {x:aW}:(dV m t i x).2.1.counts=t.counts:=by
 unfold dV loadT casT vI
 repeat' split
 all_goals rfl
theorem RO {t:fF} {i:Int} {x:aW} (h:Dk p t) (hn:gO t=some x) (hk:2≤x.kind∧x.kind≤10):Dk p { (dV m t i x).2.1 with at_:=(dV m t i x).2.1.at_+1}:=
 h.next hn (.inr (.inr (.inr (.inr ⟨by omega,by omega,by omega,by omega,by show (dV m t i x).2.1.at_+1=_; rw [C7],FH⟩)))) qU
theorem JB {α:Type} {φ:α→Prop} {l:List α} {i:Nat} {x:α} (h:∀ y∈l,φ y) (hx:φ x):∀ y∈l.set i x,φ y:=λ y hy=>by
 rcases List.mem_or_eq_of_mem_set hy with h1 | h1
 ·exact h y h1
 ·rw [h1]; exact hx
theorem PM.do {N:Nat} {q:ej} {ev:cQ} {e:Int} (h:PM p m) (hd:Ck N m q=some (m2,ev,e)):PM p m2:=by
 refine ⟨h.chk,(FD hd).2.1.trans h.u,h.gm.do hd,?_⟩
 cases hc:iy m q with
 | some oK=>
  obtain ⟨t,hg,hm,_⟩:=qV hd hc
  rw [hm]
  intro t' Yq
  obtain rfl:t'=t:=by simpa using (show t'∈[t] from Yq)
  rw [h.u] at hg
  obtain ⟨b,rs,hb⟩:=asS h.chk
  have hru:=qd (qN h.chk).1
  have h0:Dk p (qb (eu p).recover):=⟨b,rs,λ g=>by obtain ⟨r,h1,_⟩:=Dl hb hru.rc.cb.1 g; exact ⟨r,h1⟩⟩
  exact h0.go hg
 | none=>
  by_cases ha:(cJ m).any (jE q)=true
  ·by_cases hk:q.kind=2
   ·obtain ⟨_,t,ht⟩:=qn ha
    rw [(pC hd hc ha hk ht).1]
    exact JB h.tw ((h.tw t (List.mem_of_getElem? ht)).same rfl rfl rfl)
   ·have hs:=(nh hd hc ha hk).1
    cases ht:m.l[q.t.toNat]? with
    | none=>unfold mL at hs; rw [ht] at hs; cases hs
    | some t=>
     have CE:=List.mem_of_getElem? ht
     by_cases hf:t.fault≠0
     ·rw [(xF hs ht hf).1]; exact h.tw
     ·obtain ⟨x,hn⟩:=xG hs ht hf
      have nn:=(h.gm.th t CE).2.1 x hn (by omega)
      by_cases h0:(dV m t q.t x).1.fault=0
      ·obtain ⟨t2,hg,MN,_⟩:=xH hs ht hf hn h0
       rw [MN]
       show ∀ t'∈(dV m t q.t x).1.l.set _ _,_
       rw [BR]
       exact JB h.tw ((RO (h.tw t CE) hn nn).go hg)
      ·rw [(xI hs ht hf hn h0).1]
       show ∀ t'∈(dV m t q.t x).1.l.set _ _,_
       rw [BR]
       exact JB h.tw ((h.tw t CE).same qU C7 FH)
  ·rw [(pB hd hc ha).1]; exact h.tw
theorem MF {q:ej} (h:(cJ m).any (jE q)=true) (hk:¬ q.kind=2):q.kind=1∧∃ t,m.l[q.t.toNat]? = some t∧BN m t=true:=by
 rw [List.any_eq_true] at h
 obtain ⟨x,hx,hs⟩:=h
 unfold jE at hs
 simp only [Bool.and_eq_true,decide_eq_true_eq] at hs
 unfold cJ at hx
 split at hx
 ·cases hx
 ·obtain ⟨i,t,_,ht,A6⟩:=wW hx
  have h1:=Ma A6
  unfold tD at A6
  rw [List.mem_append] at A6
  rcases A6 with A6 | A6
  ·split at A6
   ·rename_i hc
    simp at A6
    subst A6
    refine ⟨hs.1.1.1.symm,t,?_,hc⟩
    have e:q.t=(i:Int):=hs.1.1.2.symm
    rw [e]; exact ht
   ·cases A6
  ·rw [List.mem_map] at A6
   obtain ⟨k,_,rfl⟩:=A6
   exact absurd hs.1.1.1.symm hk
theorem FI (h:PM p m) (q:ej):∃ N m2 ev e,Ck N m q=some (m2,ev,e)∧PM p m2:=by
 have key:∃ N m2 ev e,Ck N m q=some (m2,ev,e):=by
  cases hc:iy m q with
  | some oK=>
   obtain ⟨N,t,ht,_⟩:=Ts h.chk
   exact ⟨N,lJ (wV m oK) [t],⟨15,0,0,yB q.cut q.cut.length,0⟩,0,by unfold Ck; rw [hc]; dsimp only; rw [h.u,ht]; rfl⟩
  | none=>
   by_cases ha:(cJ m).any (jE q)=true
   ·by_cases hk:q.kind=2
    ·obtain ⟨_,t,ht⟩:=qn ha
     refine ⟨0,mw m t q,ph q.t (eh t.buf q.i),0,?_⟩
     unfold Ck; rw [hc]; dsimp only; rw [if_pos ha,if_pos hk,ht]; rfl
    ·obtain ⟨TP,t,ht,MG⟩:=MF ha hk
     have CE:=List.mem_of_getElem? ht
     have gn:∃ N r,mL N m q.t=some r:=by
      by_cases hf:t.fault≠0
      ·exact ⟨0,_,by unfold mL; rw [ht]; dsimp only; rw [if_pos hf]⟩
      ·cases hn:gO t with
       | none=>unfold BN at MG; rw [hn] at MG; cases MG
       | some x=>
        by_cases h0:(dV m t q.t x).1.fault=0
        ·have nn:=(h.gm.th t CE).2.1 x hn (by omega)
         obtain ⟨N,t2,hg⟩:=(RO (m:=m) (i:=q.t) (h.tw t CE) hn nn).total
         exact ⟨N,_,by unfold mL; rw [ht]; dsimp only; rw [if_neg hf,hn]; dsimp only; rw [if_pos h0,hg]; rfl⟩
        ·exact ⟨0,_,by unfold mL; rw [ht]; dsimp only; rw [if_neg hf,hn]; dsimp only; rw [if_neg h0]⟩
     obtain ⟨N,r,hr⟩:=gn
     exact ⟨N,r.1,r.2,0,by unfold Ck; rw [hc]; dsimp only; rw [if_pos ha,if_neg hk,hr]; rfl⟩
   ·exact ⟨0,m,⟨0,0,0,0,0⟩,13,by unfold Ck; rw [hc]; dsimp only; rw [if_neg ha]⟩
 obtain ⟨N,m2,ev,e,hd⟩:=key
 exact ⟨N,m2,ev,e,hd,h.do hd⟩
theorem PM.new {N:Nat} {room:Int} {mP:List fF} (h:BA p) (hb:rR N (eu p).threads mP) (ht:∀ t∈mP,Dk p t) (hr:1≤room∧room≤16):PM p (lJ (lS (eu p) room) mP):=
 ⟨h,rfl,GM.new (qd (qN h).1) (qN h).2 hb hr,ht⟩
end
def MH:ej:=⟨0,0,0,[]⟩
def gM (a:D9) (l c:List ej) (ew:Int):ej:=
 if a.kind=2 then {a.p with cut:=a.p.cut.take 22}
 else if a.kind=1∧ew<2∧0<(c.length:Int) then c.getD (yL a.n 65535 % (c.length:Int)).toNat MH
 else if 0<(l.length:Int) then l.getD (yL a.n 65535 % (l.length:Int)).toNat MH else MH
def al2 (av:sy) (a:D9) (tl:List cX) (l:List ej) (tc:List cX) (c:List ej) (ew:Int) (sh:cX):Prop:=
 (a.kind=2∧gM a l c ew={a.p with cut:=a.p.cut.take 22}∧∃ gc:SV,sh=⟨a.p.kind,a.p.t,a.p.i,gc⟩∧∀ w2,eE (λ _=>True) w2 (Flat.val av.p.cut) a.p.cut→eE (λ _=>True) w2 (Flat.val gc) (a.p.cut.take 22))∨
 (∃ j:Nat,tl[j]? = some sh∧l[j]? = some (gM a l c ew))∨(∃ j:Nat,tc[j]? = some sh∧c[j]? = some (gM a l c ew))∨(sh=⟨0,0,0,⟨none,0,0⟩⟩∧gM a l c ew=MH)
theorem Dm {x y:ej}:x=y↔x.kind=y.kind∧x.t=y.t∧x.i=y.i∧x.cut=y.cut:=by
 cases x; cases y; simp
theorem A3 {α:Type} {xs ys:List α} {k:Nat} {x y:α} (h:xs.take k=ys.take k) (hx:xs[k]? = some x) (hy:ys[k]? = some y) (e:x=y):xs.take (k+1)=ys.take (k+1):=by
 rw [← gZ hx,← gZ hy,h,e]
theorem ahd {α:Type} {xs ys:List α} {k:Nat} {x y:α} (hx:xs[k]? = some x) (hy:ys[k]? = some y) (e:x≠y):xs≠ys:=λ h=>by
 rw [h,hy] at hx; exact e (Option.some.inj hx).symm
theorem getD_some {α:Type} {xs:List α} {k:Nat} {x d:α} (h:xs[k]? = some x):xs.getD k d=x:=by rw [List.getD_eq_getElem?_getD,h]; rfl
theorem St.ie {w0 w w':World} {A:Nat→Prop} {L:List HP} {Φ:World→Prop} (hs:St w0 A (Fw.eB Φ::L) w) (e:Ext w w'):Φ w':=by
 obtain ⟨F,h,_⟩:=hs.head
 exact h.1 w' λ b hb=>e.cE b (h.2 b hb) λ x=>x
theorem C50 (av bv:Value) (xs ys:List Bool) (w:World) (hA:eE (λ _=>True) w av xs) (hB:eE (λ _=>True) w bv ys) (hn:xs.length≤1073741824):CR 50 [av,bv] w (λ v w'=>v = .bool (decide (xs=ys))∧Ext w w'):=by
 have hs:=St.start w;refine ahZ _ _ _ _ ?_;unfold S50;refine aK ym (hA.ext hs.aE) (aK ym (hB.ext hs.aE) (cO (aC (λ fH=>?_) (λ fH=>?_))))
 ·exact ⟨vb (decide_eq_false (λ h=>by rw [h] at fH; exact absurd rfl fH)).symm,hs.aE⟩
 ·refine ⟨λ mm i w'=>∃ k:Nat,i = .int .i64 (k:Int)∧mm=xs.length - k∧k≤xs.length∧xs.take k=ys.take k∧St w bD [] w',⟨_,0,rfl,rfl,Nat.zero_le _,rfl,hs⟩,?_⟩;rintro mm _ w1 ⟨k,rfl,rfl,hk,heq,hs⟩ fz;refine aK ym (hA.ext hs.aE) (aR (aC (λ gI=>?_) (λ gI=>?_)))
  ·obtain ⟨iJ,fj⟩:=gx (xs) (i:=((k:Int)).toNat) (by omega);refine aQ ym hA (by omega) fj (λ _ ju=>have hs:=hs.drew;aD TQ (ju.ext hs.aE) ?_);obtain ⟨pW,iW⟩:=gx (ys) (i:=((k:Int)).toNat) (by omega);refine aQ ym hB (by omega) iW (λ _ ox=>aD TQ (ox.ext hs.aE) (pG Kq (aY (λ fD=>?_) (λ fD=>?_))))
   ·exact ⟨vb (decide_eq_false (ahd fj iW (by simpa using fD))).symm,hs.aE⟩
   ·refine aO (by omega) ?_;exact ⟨_,by omega,k+1,rfl,rfl,by omega,A3 heq fj iW (by simpa using fD),hs⟩
  ·exact ⟨vb (decide_eq_true (by rw [List.take_of_length_le (by omega),List.take_of_length_le (by omega)] at heq; exact heq)).symm,hs.aE⟩
theorem C20 (av bv:Value) (xs ys:List ej) (w:World) (hA:DL w av xs) (hB:DL w bv ys) (hn:xs.length≤1073741824) (hc:∀ x∈xs,x.cut.length≤1000000):CR 20 [av,bv] w (λ v w'=>v = .bool (decide (xs=ys))∧Ext w w'):=by
 have hs:=St.start w;refine ahA _ _ _ _ ?_;unfold S20;obtain ⟨asT,HL,ahe⟩:=(hA).open;have asU:=ahe.1;refine aK nZ (HL.ext hs.aE) ?_;obtain ⟨asV,MI,ahf⟩:=(hB).open;have hn133:=ahf.1;refine aK nZ (MI.ext hs.aE) (cO (aC (λ fH=>?_) (λ fH=>?_)))
 ·exact ⟨vb (decide_eq_false (λ h=>by rw [h] at asU; omega)).symm,hs.aE⟩
 ·refine ⟨λ mm i w'=>∃ k:Nat,i = .int .i64 (k:Int)∧mm=xs.length - k∧k≤xs.length∧xs.take k=ys.take k∧St w bD [] w',⟨_,0,rfl,rfl,Nat.zero_le _,rfl,hs⟩,?_⟩;rintro mm _ w1 ⟨k,rfl,rfl,hk,heq,hs⟩ fz;refine aK nZ (HL.ext hs.aE) (aR (aC (λ gI=>?_) (λ gI=>?_)))
  ·obtain ⟨ra,al3⟩:∃ xx,xs[k]? = some xx:=⟨_,List.getElem?_eq_getElem (by omega)⟩;obtain ⟨rb,al4⟩:∃ xx,ys[k]? = some xx:=⟨_,List.getElem?_eq_getElem (by omega)⟩;refine ⟨λ jv w'=>jv = .bool (!decide (ra=rb))∧St w bD [] w',?_,?_⟩
   ·obtain ⟨iJ,fj⟩:=gx asT (i:=((k:Int)).toNat) (by omega);obtain ⟨dK,ou⟩:=gx (xs) (i:=((k:Int)).toNat) (by omega);obtain ⟨Tt,rfl,Tu⟩:=ahe.2 _ _ _ fj ou;refine aQ nZ HL (by omega) fj (λ _ ju=>bT (dK).kind pw ju rfl rfl (λ _ LB=>have hs:=hs.drew;aD bN (LB.ext hs.aE) ?_));obtain ⟨gU,iw⟩:=gx asV (i:=((k:Int)).toNat) (by omega);obtain ⟨Ce,wM⟩:=gx (ys) (i:=((k:Int)).toNat) (by omega);obtain ⟨Tv,rfl,Tw⟩:=ahf.2 _ _ _ iw wM;refine aQ nZ MI (by omega) iw (λ _ wu=>bT (Ce).kind pw wu rfl rfl (λ _ uw=>aD bN (uw.ext hs.aE) ?_))
    have hra:ra=dK:=Option.some.inj (al3.symm.trans ou);have Zb:rb=Ce:=Option.some.inj (al4.symm.trans wM);have hcx:=hc _ (List.mem_of_getElem? ou);refine cO (aC (λ gh=>?_) (λ gh=>?_))
    ·exact ⟨vb (by rw [hra,Zb]; rw [decide_eq_false (λ h=>by rw [Dm] at h; omega)]; rfl),hs⟩
    ·refine aQ nZ HL (by omega) fj (λ _ oO=>bT (dK).t jy oO rfl rfl (λ _ Am=>aD bN (Am.ext hs.aE) (aQ nZ MI (by omega) iw (λ _ ui=>bT (Ce).t jy ui rfl rfl (λ _ Ag=>aD bN (Ag.ext hs.aE) (cO (aC (λ sE=>?_) (λ sE=>?_))))))))
     ·exact ⟨vb (by rw [hra,Zb]; rw [decide_eq_false (λ h=>by rw [Dm] at h; omega)]; rfl),hs⟩
     ·refine aQ nZ HL (by omega) fj (λ _ AR=>bT (dK).i xm AR rfl rfl (λ _ Li=>aD bN (Li.ext hs.aE) (aQ nZ MI (by omega) iw (λ _ ED=>bT (Ce).i xm ED rfl rfl (λ _ VL=>aD bN (VL.ext hs.aE) (cO (aC (λ sJ=>?_) (λ sJ=>?_))))))))
      ·exact ⟨vb (by rw [hra,Zb]; rw [decide_eq_false (λ h=>by rw [Dm] at h; omega)]; rfl),hs⟩
      ·refine aQ nZ HL (by omega) fj (λ _ wF=>bT Tt sn wF rfl rfl (λ _ Ao=>aD eA (Ao.ext hs.aE) ?_));have asW:=DL.flat (Tu);refine aQ nZ MI (by omega) iw (λ _ LD=>bT Tv sn LD rfl rfl (λ _ Lk=>aD eA (Lk.ext hs.aE) ?_));have asX:=DL.flat (Tw);refine aZ Nc hs (C21 _ _ (dK).cut (Ce).cut _ (asW.ext hs.aE) (asX.ext hs.aE) (by omega)) (λ w2 he hs=>bZ ?_);exact ⟨vb (by rw [hra,Zb]; exact congrArg (λ b=>!b) (decide_eq_decide.2 (by rw [Dm]; exact ⟨λ h=>⟨by omega,by omega,by omega,h⟩,λ h=>h.2.2.2⟩))),hs⟩
   ·rintro _ w3 ⟨rfl,hs⟩ jB;refine aY (λ oz=>?_) (λ oz=>?_)
    ·exact ⟨vb (decide_eq_false (ahd al3 al4 (by simpa using oz))).symm,hs.aE⟩
    ·refine aO (by omega) ?_;exact ⟨_,by omega,k+1,rfl,rfl,by omega,A3 heq al3 al4 (by simpa using oz),hs⟩
  ·exact ⟨vb (decide_eq_true (by rw [List.take_of_length_le (by omega),List.take_of_length_le (by omega)] at heq; exact heq)).symm,hs.aE⟩
set_option maxHeartbeats 1000000 in
theorem C24 (a:D9) (av:sy) (lv cv:Value) (Y4:List cX) (l:List ej) (Y5:List cX) (c:List ej) (ew:Int) (w:World) (ha:cA.dr w av a) (hR8:eE (λ _=>True) w lv Y4) (hD8:iB Y4 l w) (Ss:eE (λ _=>True) w cv Y5) (hD9:iB Y5 c w) (hl1:l.length≤1073741824) (CC:c.length≤1073741824):CR 24 [Flat.val av,lv,cv,.int .i64 ew] w (λ v w'=>∃ sh:cX,v=Flat.val sh∧Ext w w'∧al2 av a Y4 l Y5 c ew sh):=by
 obtain ⟨g_p_a,rfl,asY⟩:=ha;obtain ⟨uM,rfl,Tx⟩:=asY;have hn8:=hD8.1;have hn9:=hD9.1;have hAn:=DF a.n (b:=65535) (by omega) (by omega);have hs:=St.start w;refine ahE _ _ _ _ _ _ ?_;unfold S24;have YA:=DL.flat (Tx);refine dE (x:=(⟨(a).kind,(a).n,(⟨((a).p).kind,((a).p).t,((a).p).i,uM⟩:cX)⟩:sy)) hs (λ b_a4 w1 hs=>aJ hs td (λ Bq w2 hs=>have hs:=hs.enc (cs':=Flat.enc (⟨0,0,0,⟨none,0,0⟩⟩:cX)) rfl;aA abY (aB (v:=.int .i64 (a).n) bN hs.p1.hb rfl (abU (by decide) (by decide) (aA Qi (aB (v:=.int .i64 (a).kind) bN hs.p1.hb rfl (aH (aC (λ eF=>?_) (λ eF=>?_)))))))))
 ·refine aA Ir (uZ (⟨((a).p).kind,((a).p).t,((a).p).i,uM⟩:cX) lf hs.p1.hb rfl (aJ hs td (λ b_p10 w3 hs=>have hs:=hs.enc (cs':=Flat.enc (⟨0,0,0,⟨none,0,0⟩⟩:cX)) rfl;aI (x:=(⟨((a).p).kind,((a).p).t,((a).p).i,uM⟩:cX)) hs lf rfl rfl (λ w4 hs=>aA Ir (aA sn (aB (v:=Flat.val (uM:SV)) eA hs.p2.hb rfl (aA Ir (aA sn (aB (v:=Flat.val (uM:SV)) eA hs.p2.hb rfl (aK ek (YA.ext hs.aE) (uY (l8 ek (YA.ext hs.aE) (by omega) (by omega) (λ Qx Bz=>?_)))))))))))));have NV:=Bz _ YA;refine aA sn ?_
  obtain ⟨YB,rfl⟩:=(NV).fR;refine aV hs eA (eL rfl) (rfl) (λ w5 hs=>have hs:=hs.enc (cs':=Flat.enc (⟨((a).p).kind,((a).p).t,((a).p).i,YB⟩:cX)) rfl;aD lf hs.At (aI (x:=(⟨((a).p).kind,((a).p).t,((a).p).i,YB⟩:cX)) hs.p1 lf rfl rfl (λ w6 hs=>aD lf hs.At ?_)));exact ⟨_,rfl,hs.aE,.inl ⟨eF,if_pos eF,_,rfl,λ w2 h=>by have h3:=Bz w2 h; have e:=SD a.p.cut 22; rw [show ((22:Nat):Int)=22 from rfl] at e; rwa [e] at h3⟩⟩
 ·refine ⟨λ jv w'=>jv = .bool (decide (a.kind=1∧ew<2∧0<(c.length:Int)))∧w2=w',?_,?_⟩
  ·refine aA Qi (aB (v:=.int .i64 (a).kind) bN hs.p1.hb rfl (aH (aC (λ jP=>?_) (λ jP=>?_))))
   ·refine aR (aC (λ jC=>?_) (λ jC=>?_))
    ·refine aK nZ (Ss.ext hs.aE) (dD ?_);exact ⟨vX (by omega),rfl⟩
    ·exact ⟨Zq (by omega),rfl⟩
   ·exact ⟨Zq (by omega),rfl⟩
  ·rintro _ w7 ⟨rfl,hw⟩ fz;subst hw;refine aC (λ j3=>?_) (λ j3=>?_)
   ·have azX:=Int.emod_nonneg (yL a.n 65535) (show (Y5.length:Int)≠0 by omega);have azY:=Int.emod_lt_of_pos (yL a.n 65535) (show (0:Int)<Y5.length by omega);refine aK nZ (Ss.ext hs.aE) (Qh (by omega) (by omega) ?_);obtain ⟨e_x47,Pk⟩:=gx Y5 (i:=(((yL (a).n 65535) % (Y5.length:Int))).toNat) (by omega);obtain ⟨RP,EY⟩:=gx (c) (i:=(((yL (a).n 65535) % (Y5.length:Int))).toNat) (by omega);obtain ⟨Ty,rfl,amP⟩:=hD9.2 _ _ _ Pk EY;refine aQ nZ Ss (by omega) Pk (λ _ sF=>aD lf (sF.ext hs.aE) (aI (x:=(⟨(RP).kind,(RP).t,(RP).i,Ty⟩:cX)) hs lf rfl rfl (λ w8 hs=>aD lf hs.At ?_)))
    have hq:gM a l c ew=RP:=by unfold gM; rw [if_neg eF,if_pos (by omega),getD_some (by rw [← hn9]; exact EY)]
    exact ⟨_,rfl,hs.aE,.inr (.inr (.inl ⟨_,Pk,by rw [hq]; exact EY⟩))⟩
   ·refine aK nZ (hR8.ext hs.aE) (dD (aC (λ pR=>?_) (λ pR=>?_)))
    ·have azX:=Int.emod_nonneg (yL a.n 65535) (show (Y4.length:Int)≠0 by omega);have azY:=Int.emod_lt_of_pos (yL a.n 65535) (show (0:Int)<Y4.length by omega);refine aK nZ (hR8.ext hs.aE) (Qh (by omega) (by omega) ?_);obtain ⟨Ly,pa⟩:=gx Y4 (i:=(((yL (a).n 65535) % (Y4.length:Int))).toNat) (by omega);obtain ⟨pZ,rJ⟩:=gx (l) (i:=(((yL (a).n 65535) % (Y4.length:Int))).toNat) (by omega);obtain ⟨Tz,rfl,amQ⟩:=hD8.2 _ _ _ pa rJ;refine aQ nZ hR8 (by omega) pa (λ _ wF=>aD lf (wF.ext hs.aE) (aI (x:=(⟨(pZ).kind,(pZ).t,(pZ).i,Tz⟩:cX)) hs lf rfl rfl (λ w9 hs=>aD lf hs.At ?_)))
     have hq:gM a l c ew=pZ:=by unfold gM; rw [if_neg eF,if_neg (by omega),if_pos (by omega),getD_some (by rw [← hn8]; exact rJ)]
     exact ⟨_,rfl,hs.aE,.inr (.inl ⟨_,pa,by rw [hq]; exact rJ⟩)⟩
    ·refine pop (v:=Flat.val (⟨0,0,0,⟨none,0,0⟩⟩:cX)) (by kernel_rfl) (aI (x:=(⟨0,0,0,⟨none,0,0⟩⟩:cX)) hs lf rfl rfl (λ pP hs=>aD lf hs.At ?_));exact ⟨⟨0,0,0,⟨none,0,0⟩⟩,rfl,hs.aE,.inr (.inr (.inr ⟨rfl,by unfold gM; rw [if_neg eF,if_neg (by omega),if_neg (by omega)]⟩))⟩
def xO:ByteArray:=⟨#[108,105,110,101,32,97,59,32,118,111,108,32,120,59,32,108,111,99,107,32,109,59,32,116,104,114,101,97,100,32,116,32,123,32,114,101,103,32,114,59,32,115,116,111,114,101,32,97,32,61,32,49,59,32,108,111,97,100,32,114,32,61,32,97,59,32,111,112,116,32,97,59,32,116,97,107,101,32,109,59,32,125,32,116,104,114,101,97,100,32,117,32,123,32,114,101,103,32,114,59,32,108,111,97,100,32,114,32,61,32,97,59,32,99,104,101,99,107,32,114,59,32,125,32,114,101,99,111,118,101,114,32,123,32,125,32,97,108,119,97,121,115,32,97,32,61,61,32,49,59]⟩
def vS:cW:=((rV xO).getD (Mo,0,0)).1
theorem TA:rV xO=some (vS,0,0):=by decide +kernel
theorem HM:gK vS=0:=by decide +kernel
def Gj:ir:=⟨[0,1],1,[0,0],1,[⟨1,0,[⟨3,0,0,[⟨1,1⟩],[],0⟩,⟨2,0,0,[],[],0⟩,⟨6,0,0,[],[],0⟩,⟨9,0,0,[],[],0⟩]⟩,⟨1,0,[⟨2,0,0,[],[],0⟩,⟨15,0,0,[⟨2,0⟩],[],0⟩]⟩],⟨0,0,[]⟩,[[⟨2,0⟩,⟨1,1⟩,⟨10,0⟩]]⟩
theorem A4:eu vS=Gj:=by decide +kernel
theorem TB:((uI xO).map λ r=>decide (r.1.length≤5000) && r.1.all (λ x=>decide (0≤x.at_∧x.at_≤1000000∧x.text.size≤1000000)))=some true:=by decide +kernel
theorem YC:∀ l e a,uI xO=some (l,e,a)→iz l:=by
 intro l e a h
 have:=TB
 rw [h] at this
 simp only [Option.map_some,Option.some.injEq,Bool.and_eq_true,decide_eq_true_eq,List.all_eq_true] at this
 exact ⟨this.1,λ x hx=>this.2 x hx⟩
theorem aeD:mU vS=vS:=by decide +kernel
theorem al5:PZ vS:=by rw [← aeD]; exact IY _
theorem JC:BA vS:=Aw HM
def Pl:List fF:=Gj.threads.map λ c=>(sd 20 (qb c)).getD (qb c)
theorem al6:Gj.threads.all (λ c=>(sd 20 (qb c)).isSome)=true:=by decide +kernel
theorem HN:rR 20 Gj.threads Pl:=by
 refine ⟨by unfold Pl; rw [List.length_map],λ j c t hc ht=>?_⟩
 unfold Pl at ht
 rw [List.getElem?_map,hc,Option.map_some] at ht
 have h:=List.all_eq_true.1 al6 c (List.mem_of_getElem? hc)
 obtain ⟨t2,h2⟩:=Option.isSome_iff_exists.1 h
 rw [h2] at ht
 rw [h2]; exact ht
def fx0:gr:=lJ (lS Gj 2) Pl
def vw (m:gr) (q:ej):gr × cQ × Int:=(Ck 20 m q).getD (m,⟨0,0,0,0,0⟩,99)
theorem mS {m:gr} {q:ej} {ev:cQ} {e:Int} (h:(vw m q).2=(ev,e)) (he:e≠99):Ck 20 m q=some ((vw m q).1,ev,e):=by
 unfold vw at h ⊢
 cases hd:Ck 20 m q with
 | none=>rw [hd] at h; cases h; exact absurd rfl he
 | some r=>rw [hd] at h; show some r=some (r.1,ev,e); rw [show r=(r.1,r.2) from rfl,show r.2=(ev,e) from h]
def JD:ej:=⟨1,0,0,[]⟩
def pOt:ej:=⟨1,1,0,[]⟩
def pOu:ej:=⟨2,0,0,[]⟩
def pCr:ej:=⟨3,0,0,[1]⟩
def fx1:gr:=(vw fx0 JD).1
def fx2:gr:=(vw fx1 JD).1
def fx3:gr:=(vw fx2 pOt).1
def fx4:gr:=(vw fx3 pOu).1
def fx5:gr:=(vw fx4 JD).1
def fx6:gr:=(vw fx5 JD).1
def fx7:gr:=(vw fx6 pCr).1
def fxo:gr:=(vw fx6 pOt).1
theorem fd1:(vw fx0 JD).2=(⟨3,0,0,1,0⟩,0):=by decide +kernel
theorem fd2:(vw fx1 JD).2=(⟨2,0,0,1,0⟩,0):=by decide +kernel
theorem fd3:(vw fx2 pOt).2=(⟨1,1,0,0,0⟩,0):=by decide +kernel
theorem fd4:(vw fx3 pOu).2=(⟨12,0,0,1,0⟩,0):=by decide +kernel
theorem fd5:(vw fx4 JD).2=(⟨5,0,0,0,0⟩,0):=by decide +kernel
theorem fd6:(vw fx5 JD).2=(⟨0,0,0,0,0⟩,13):=by decide +kernel
theorem fd7:(vw fx6 pCr).2=(⟨15,0,0,1,0⟩,0):=by decide +kernel
theorem fdo:(vw fx6 pOt).2=(⟨16,1,1,0,0⟩,0):=by decide +kernel
theorem fp2:cJ fx2=[JD,pOu,pOt]:=by decide +kernel
theorem asZ:Da fx7=[true]:=by decide +kernel
theorem fpo:cJ fxo=[]:=by decide +kernel
theorem fco:rQ fxo=[]:=by decide +kernel
theorem fro:nM fxo 0=[1]:=by decide +kernel
theorem fr2:nM fxo 2=[]:=by decide +kernel
theorem fl7:fx7.mem.l=[1,0]:=by decide +kernel
theorem fk7:fx7.mem.kept=[1]:=by decide +kernel
theorem frt:nA EL=false:=by decide +kernel
structure vx (p:cW) (m:gr) (n:Nat):Prop where
 pm:PM p m
 mb:MB m.mem n
 cr:m.ew≤n
theorem vx.do {p:cW} {m m2:gr} {n N:Nat} {q:ej} {ev:cQ} {e:Int} (h:vx p m n) (hd:Ck N m q=some (m2,ev,e)):vx p m2 (n+1):=
 ⟨h.pm.do hd,h.mb.do hd,by have:=(FD hd).1; have:=h.cr; omega⟩
theorem vx.new {p:cW} {N:Nat} {room:Int} {mP:List fF} (h:BA p) (hb:rR N (eu p).threads mP) (ht:∀ t∈mP,Dk p t) (hr:1≤room∧room≤16):vx p (lJ (lS (eu p) room) mP) 0:=
 ⟨PM.new h hb ht hr,MB.new,Int.le_refl _⟩
section
variable {p:cW} {K:World→Prop} {q:Nat} {m:gr} {n:Nat} {w:World}
theorem TC (h:vx p m n) (hm:Has (en K q m) w) (hw:K w) (uN:∀ w',Ext w w'→K w'):Calls PG 16 [(.pointer (some ⟨q,0,none⟩))].toArray w (qf λ v w'=>lW (fo v (cJ m)) w w'):=C16 K q m w hm hw uN h.pm.gm.ok
theorem aeH (h:vx p m n) (hm:Has (en K q m) w) (hw:K w) (uN:∀ w',Ext w w'→K w'):Calls PG 18 [(.pointer (some ⟨q,0,none⟩))].toArray w (qf λ v w'=>v=Flat.val (pD m)∧Ext w w'):=C18 K q m w hm hw uN h.pm.gm.ok
theorem al8 (h:vx p m n) (hn:n≤1000000) (hm:Has (en K q m) w) (hw:K w) (uN:∀ w',Ext w w'→K w'):Calls PG 19 [(.pointer (some ⟨q,0,none⟩))].toArray w (qf λ v w'=>∃ b,v = .pointer (some ⟨b,0,none⟩)∧lW (en K b m) w w'):=C19 K q m w hm hw uN h.pm.gm.ok (h.mb.mono hn) (by have:=h.pm.gm.ru.lk; omega)
theorem al9 (h:vx p m n) (hm:Has (en K q m) w) (hw:K w) (uN:∀ w',Ext w w'→K w'):Calls PG 22 [(.pointer (some ⟨q,0,none⟩))].toArray w (qf λ v w'=>lW (bK v m.mem.l) w w'):=C22 K q m w hm hw uN h.pm.gm.ok
theorem az2 (h:vx p m n) (hm:Has (en K q m) w) (hw:K w) (uN:∀ w',Ext w w'→K w'):Calls PG 23 [(.pointer (some ⟨q,0,none⟩))].toArray w (qf λ v w'=>lW (bK v m.mem.kept) w w'):=C23 K q m w hm hw uN h.pm.gm.ok
theorem GM.rgl (h:GM m):∀ t∈m.l,t.aN.length≤4:=λ t ht=>by
 have h1:=(h.th t ht).1.rg; have h2:=(h.code ht).rb; omega
theorem TD (i:Int) (h:vx p m n) (hm:Has (en K q m) w) (hw:K w) (uN:∀ w',Ext w w'→K w'):Calls PG 25 [(.pointer (some ⟨q,0,none⟩)),.int .i64 i].toArray w (qf λ v w'=>lW (bK v (nM m i)) w w'):=C25 K q m i w hm hw uN h.pm.gm.ok λ t ht=>by have:=h.pm.gm.rgl t ht; omega
theorem as0 (i:Int) (h:vx p m n) (hm:Has (en K q m) w) (hw:K w) (uN:∀ w',Ext w w'→K w'):Calls PG 35 [(.pointer (some ⟨q,0,none⟩)),.int .i64 i].toArray w (qf λ v w'=>lW (bK v (zi m i)) w w'):=C35 K q m i w hm hw uN h.pm.gm.ok
theorem az3 (h:vx p m n) (hn:n≤1000000) (hC:(fO (I9 m.mem)).length≤1000000000) (hm:Has (en K q m) w) (hw:K w) (uN:∀ w',Ext w w'→K w'):Calls PG 31 [(.pointer (some ⟨q,0,none⟩))].toArray w (qf λ v w'=>lW (fo v (rQ m)) w w'):=C31 K q m w hm hw uN h.pm.gm.ok (h.mb.mono hn) hC
theorem az4 (h:vx p m n) (hm:Has (en K q m) w) (hw:K w) (uN:∀ w',Ext w w'→K w'):Calls PG 49 [(.pointer (some ⟨q,0,none⟩))].toArray w (qf λ v w'=>lW (bK v (Da m)) w w'):=by
 have h1:=h.pm.gm.ru.st; have h2:=h.pm.gm.ru.fl; have h3:=h.pm.gm.mem.ll; have h4:=h.pm.gm.dF
 exact C49 K q m w hm hw uN h.pm.gm.ok h.pm.gm.uz.cC h.pm.gm.uz.cl ⟨h1.1,by rw [h3,h4]; omega⟩
theorem CJ {N:Nat} {k:ej} {gc:SV} {m2:gr} {ev:cQ} {e:Int} {F:Nat→Prop} (h:vx p m n) (hn:n≤1000000) (hd:Ck N m k=some (m2,ev,e)) (hql:k.cut.length≤1000) (hF:(en K q m).p w F) (hK:∀ w',iE F w w'→K w') (AN:∀ w',iE F w w'→eE (λ _=>True) w' (Flat.val gc) k.cut) :
  Calls PG 17 [(.pointer (some ⟨q,0,none⟩)),Flat.val (⟨k.kind,k.t,k.i,gc⟩:cX)].toArray w (qf λ v w'=>v = .tuple #[Flat.val ev,.int .i64 e]∧qz F (en K q m2) w w'):=
 C17 K q m N k gc m2 ev e F w hF hK h.pm.gm.ok (h.mb.mono hn) ⟨h.pm.gm.cr,by have:=h.cr; omega⟩ (h.pm.gm.ru.rc.ok h.pm.gm.uz.rc) (by have:=h.pm.gm.ru.lk; omega) AN hql hd
theorem ama (u:ir) (uv:dL) (room:Int) (N:Nat) (mP:List fF) (hu:cA.dr w uv u) (hz:UZ u) (hr:nA u=true) (hn:Ra N u mP) (h1:1≤room) (h2:room≤16):Calls PG 15 [Flat.val uv,.int .i64 room].toArray w (qf λ v w'=>∃ K p,v = .tuple #[.pointer (some ⟨p,0,none⟩),.int .i64 0]∧lW (sep (en K p (lJ (lS u room) mP)) (eB K)) w w'):=
 (C15 u uv room N mP w hu hz λ _=>hn).mono λ _ _ r=>r.mono λ _ _ h=>by
  rcases h with ⟨h3,_⟩ | ⟨_,h3,_⟩ | ⟨_,_,_,h3⟩
  ·rw [hr] at h3; cases h3
  ·omega
  ·exact h3
theorem as1 (uv:dL) (room:Int) (hu:cA.dr w uv EL):Calls PG 15 [Flat.val uv,.int .i64 room].toArray w (qf λ v w'=>v = .tuple #[.pointer none,.int .i64 8]∧Ext w w'):=
 (C15 EL uv room 0 [] w hu ⟨by decide,by decide,by decide,by decide,λ c hc=>(by cases hc),⟨by decide,λ x hx=>(by cases hx)⟩,λ l hl=>(by cases hl)⟩ (λ h=>by rw [frt] at h; cases h)).mono λ _ _ r=>r.mono λ _ _ h=>by
  rcases h with ⟨_,h3⟩ | ⟨h3,_⟩ | ⟨h3,_⟩
  ·exact h3
  ·rw [frt] at h3; cases h3
  ·rw [frt] at h3; cases h3
end
theorem YD {p:cW} {N:Nat} {mP:List fF} (h:BA p) (hb:rR N (eu p).threads mP):∀ t∈mP,Dk p t:=by
 intro t ht
 obtain ⟨i,hi⟩:=po ht
 have mF:=(List.getElem?_eq_some_iff.1 hi).1
 obtain ⟨c,hc⟩:∃ c,(eu p).threads[i]? = some c:=⟨_,List.getElem?_eq_getElem (by rw [← hb.1]; exact mF)⟩
 have hg:=hb.2 i c t hc hi
 have MR:=List.mem_of_getElem? hc
 obtain ⟨tt,htt,rfl⟩:=List.mem_map.1 (show c∈p.threads.map (mj p) from MR)
 obtain ⟨b,hb2,_⟩:=JA h (List.mem_append_left p.recover htt)
 have hru:=qd (qN h).1
 have h0:Dk p (qb (mj p tt)):=⟨b,tt.aN,λ g=>by obtain ⟨r,h1,_⟩:=Dl hb2 (hru.th _ MR).cb.1 g; exact ⟨r,h1⟩⟩
 exact h0.go hg
theorem as2:vx vS fx0 0:=by
 have hb:rR 20 (eu vS).threads Pl:=by rw [A4]; exact HN
 have:=vx.new (room:=2) JC hb (YD JC hb) (by decide)
 rw [A4] at this; exact this
theorem as3:vx vS fx1 1:=as2.do (mS fd1 (by decide))
theorem aeI:vx vS fx2 2:=as3.do (mS fd2 (by decide))
theorem as4:vx vS fx3 3:=aeI.do (mS fd3 (by decide))
theorem as5:vx vS fx4 4:=as4.do (mS fd4 (by decide))
theorem as6:vx vS fx5 5:=as5.do (mS fd5 (by decide))
theorem YE:vx vS fx6 6:=as6.do (mS fd6 (by decide))
theorem aeJ:vx vS fx7 7:=YE.do (mS fd7 (by decide))
theorem YF:vx vS fxo 7:=YE.do (mS fdo (by decide))
theorem az5:(fO (I9 fxo.mem)).length≤1000000000:=by decide +kernel
theorem JE:nA Gj=true∧UZ Gj:=by have:=qN JC; rw [A4] at this; exact this
theorem aeK:Ra 20 Gj Pl:=FC (qd JE.1) JE.2 HN
theorem aeL (w:World):iB [(⟨1,0,0,⟨none,0,0⟩⟩:cX),⟨2,0,0,⟨none,0,0⟩⟩,⟨1,1,0,⟨none,0,0⟩⟩] [JD,pOu,pOt] w:=by
 have h1:iB ([]++[(⟨1,0,0,⟨none,0,0⟩⟩:cX)]) ([]++[JD]) w:=iB.nil.snoc ⟨_,rfl,DL.nil w⟩
 have h2:iB ([]++[(⟨1,0,0,⟨none,0,0⟩⟩:cX)]++[⟨2,0,0,⟨none,0,0⟩⟩]) ([]++[JD]++[pOu]) w:=h1.snoc ⟨_,rfl,DL.nil w⟩
 exact h2.snoc ⟨_,rfl,DL.nil w⟩
theorem HO {p:cW} {m:gr} {n:Nat} (_:vx p m n):∀ x∈cJ m,x.cut=[]:=by
 intro x hx
 unfold cJ at hx
 split at hx
 ·cases hx
 ·obtain ⟨i,t,_,_,A6⟩:=wW hx
  unfold tD at A6
  rw [List.mem_append] at A6
  rcases A6 with A6 | A6
  ·split at A6
   ·simp at A6; rw [A6]
   ·cases A6
  ·rw [List.mem_map] at A6; obtain ⟨k,_,rfl⟩:=A6; rfl
theorem amb (s:ByteArray) (p:cW) (e a:Int) (w:World) (YY:s.size≤1000000) (hr:rV s=some (p,e,a)) (hTk:∀ l e a,uI s=some (l,e,a)→iz l) (hz:PZ p) (hc:gK p=0) :
  Calls PG 48 [.string s].toArray w (qf λ v w'=>∃ uv:dL,v=Flat.val uv∧lW (eB (λ w=>cA.dr w uv (eu p))) w w'):=
 (C48 s (p,e,a) w YY hr hTk hz).mono λ _ _ r=>r.mono λ v w' h=>by
  obtain ⟨uv,h1,h2⟩:=h
  refine ⟨uv,h1,?_⟩
  have e1:(if gK p=0 then eu p else EL)=eu p:=if_pos hc
  have h3:lW (eB (λ w=>cA.dr w uv (if gK p=0 then eu p else EL))) w w':=h2
  rw [e1] at h3; exact h3
theorem as7 (w:World):Calls PG 48 [.string xO].toArray w (qf λ v w'=>∃ uv:dL,v=Flat.val uv∧lW (eB (λ w=>cA.dr w uv Gj)) w w'):=by
 rw [← A4]
 exact amb xO vS 0 0 w (by decide +kernel) TA YC al5 HM
set_option maxHeartbeats 4000000 in
set_option maxRecDepth 100000 in
theorem C14 (w:World):CR 14 [] w (λ v w'=>v = .bool true∧Ext w w'):=by
 have hs:=St.start w;refine ahu _ _ ?_;unfold S14;refine ed au7 (as7 _) ?_;rintro _ w1 ⟨amc,rfl,bV⟩;have hs:=hs.made bV;refine ed Zu (ama Gj amc 2 20 Pl (hs).eB JE.2 JE.1 aeK (by decide) (by decide)) ?_;rintro _ w2 ⟨K,p,rfl,bV⟩;have hs:=(hs.made bV).split;refine bE rfl (bE rfl (pop (v:=Flat.val (⟨⟨none,0,0⟩,0,⟨none,0,0⟩,0,⟨none,0,0⟩,(⟨0,0,⟨none,0,0⟩⟩:cL),⟨none,0,0⟩⟩:dL)) (by kernel_rfl) (have hs:=(hs.p2).drop;aZ Zu hs (as1 (⟨⟨none,0,0⟩,0,⟨none,0,0⟩,0,⟨none,0,0⟩,(⟨0,0,⟨none,0,0⟩⟩:cL),⟨none,0,0⟩⟩:dL) 2 (show cA.dr _ (⟨⟨none,0,0⟩,0,⟨none,0,0⟩,0,⟨none,0,0⟩,(⟨0,0,⟨none,0,0⟩⟩:cL),⟨none,0,0⟩⟩:dL) (⟨[],0,[],0,[],(⟨0,0,[]⟩:fq),[]⟩:ir) from ⟨_,_,_,_,_,rfl,DL.nil _,DL.nil _,DL.nil _,⟨_,rfl,DL.nil _⟩,DL.nil _⟩)) (λ w3 he hs=>bE rfl (bE rfl ?_)))))
 refine ⟨_,?_,λ _ _ h=>h⟩;refine tT GI (fi (cO ?_));intro fz;refine fM (by decide) (pop (CW _) (pop (GJ _ _) (aJ hs td (λ auH w5 hs=>have hs:=hs.enc (cs':=Flat.enc (⟨0,0,0,⟨none,0,0⟩⟩:cX)) rfl;aJ hs td (λ as8 w6 hs=>have hs:=hs.enc (cs':=Flat.enc (⟨0,0,0,⟨none,0,0⟩⟩:cX)) rfl;aI (x:=(⟨1,0,0,⟨none,0,0⟩⟩:cX)) hs.p1 lf rfl rfl (λ w7 hs=>aI (x:=(⟨1,1,0,⟨none,0,0⟩⟩:cX)) hs.p1 lf rfl rfl (λ w8 hs=>aD lf hs.p1.At (bH Cv hs.p2 (H':=λ _=>en K p fx1) (Φ:=λ v _=>v = .tuple #[Flat.val (⟨3,0,0,1,0⟩:cQ),.int .i64 0]) (λ F2 eQ ey=>?_) ?_))))))))
 ·exact CJ (N:=20) (k:=JD) (gc:=⟨none,0,0⟩) as2 (by decide) (mS fd1 (by decide)) (by decide) eQ (λ w' hc=>((ey w' hc).p2).eB) (λ w' hc=>(eE.nil (λ _=>True) w'))
 rintro _ w9 rfl hs;refine bE rfl (bE rfl (aJ hs km (λ b_a7 pP hs=>aI (x:=(⟨3,0,0,1,0⟩:cQ)) hs eW rfl rfl (λ sB hs=>aD lf hs.p3.At (bH Cv hs.p1 (H':=λ _=>en K p fx2) (Φ:=λ v _=>v = .tuple #[Flat.val (⟨2,0,0,1,0⟩:cQ),.int .i64 0]) (λ F2 eQ ey=>?_) ?_)))))
 ·exact CJ (N:=20) (k:=JD) (gc:=⟨none,0,0⟩) as3 (by decide) (mS fd2 (by decide)) (by decide) eQ (λ w' hc=>((ey w' hc).p3).eB) (λ w' hc=>(eE.nil (λ _=>True) w'))
 rintro _ u7 rfl hs;refine bE rfl (bE rfl (aJ hs km (λ b_b9 u9 hs=>aI (x:=(⟨2,0,0,1,0⟩:cQ)) hs eW rfl rfl (λ r9 hs=>cZ Cu hs (TC aeI (hs.p1).has (hs.p5).eB (λ w' e=>St.ie (hs.p5) e)) (λ x57 vT bV hs=>aD lf hs.p4.At (bH Cv hs.p2 (H':=λ _=>en K p fx3) (Φ:=λ v _=>v = .tuple #[Flat.val (⟨1,1,0,0,0⟩:cQ),.int .i64 0]) (λ F2 eQ ey=>?_) ?_))))))
 ·exact CJ (N:=20) (k:=pOt) (gc:=⟨none,0,0⟩) aeI (by decide) (mS fd3 (by decide)) (by decide) eQ (λ w' hc=>((ey w' hc).p5).eB) (λ w' hc=>(eE.nil (λ _=>True) w'))
 rintro _ yO rfl hs;refine bE rfl (bE rfl (aJ hs km (λ b_c12 B6 hs=>aI (x:=(⟨1,1,0,0,0⟩:cQ)) hs eW rfl rfl (λ GQ hs=>pop (CW _) (bH Cv hs.p1 (H':=λ _=>en K p fx4) (Φ:=λ v _=>v = .tuple #[Flat.val (⟨12,0,0,1,0⟩:cQ),.int .i64 0]) (λ F2 eQ ey=>?_) ?_)))))
 ·exact CJ (N:=20) (k:=pOu) (gc:=⟨none,0,0⟩) as4 (by decide) (mS fd4 (by decide)) (by decide) eQ (λ w' hc=>((ey w' hc).p6).eB) (λ w' hc=>(eE.nil (λ _=>True) w'))
 rintro _ IF rfl hs;refine bE rfl (bE rfl (aJ hs km (λ b_d14 JH hs=>aI (x:=(⟨12,0,0,1,0⟩:cQ)) hs eW rfl rfl (λ Lr hs=>aD lf hs.p7.At (bH Cv hs.p1 (H':=λ _=>en K p fx5) (Φ:=λ v _=>v = .tuple #[Flat.val (⟨5,0,0,0,0⟩:cQ),.int .i64 0]) (λ F2 eQ ey=>?_) ?_)))))
 ·exact CJ (N:=20) (k:=JD) (gc:=⟨none,0,0⟩) as5 (by decide) (mS fd5 (by decide)) (by decide) eQ (λ w' hc=>((ey w' hc).p7).eB) (λ w' hc=>(eE.nil (λ _=>True) w'))
 rintro _ NS rfl hs;refine bE rfl (bE rfl (aD lf hs.p7.At (bH Cv hs (H':=λ _=>en K p fx6) (Φ:=λ v _=>v = .tuple #[Flat.val (⟨0,0,0,0,0⟩:cQ),.int .i64 13]) (λ F2 eQ ey=>?_) ?_)))
 ·exact CJ (N:=20) (k:=JD) (gc:=⟨none,0,0⟩) as6 (by decide) (mS fd6 (by decide)) (by decide) eQ (λ w' hc=>((ey w' hc).p7).eB) (λ w' hc=>(eE.nil (λ _=>True) w'))
 rintro _ Sy rfl hs;refine bE rfl (bE rfl (aJ hs km (λ b_x16 TU hs=>aI (x:=(⟨0,0,0,0,0⟩:cQ)) hs eW rfl rfl (λ QQ hs=>ed ahH (al8 YE (by decide) (hs.p1).has (hs.p9).eB (λ w' e=>St.ie (hs.p9) e)) ?_))));rintro _ Y6 ⟨as9,rfl,bV⟩;have hs:=hs.made bV;refine bX (([1]:List Int)) hs ek rfl rfl (eL rfl) (λ s_x86 Y7 hs=>?_);obtain ⟨amd,rfl⟩:=(hs).fR;refine pop (GK _ _ _ _) (bH Cv hs.p3 (H':=λ _=>en K p fx7) (Φ:=λ v _=>v = .tuple #[Flat.val (⟨15,0,0,1,0⟩:cQ),.int .i64 0]) (λ F2 eQ ey=>?_) ?_)
 ·exact CJ (N:=20) (k:=pCr) (gc:=amd) YE (by decide) (mS fd7 (by decide)) (by decide) eQ (λ w' hc=>((ey w' hc).qY).eB) (λ w' hc=>((ey w' hc)).fB)
 rintro _ w28 rfl hs;refine bE rfl (bE rfl (aJ hs km (λ b_k19 w29 hs=>aI (x:=(⟨15,0,0,1,0⟩:cQ)) hs eW rfl rfl (λ w30 hs=>have hs:=((hs.p2.drop).p3).drop;aZ Zv hs (aeH aeJ (hs.p1).has (hs.qY).eB (λ w' e=>St.ie (hs.qY) e)) (λ w31 he hs=>cZ au8 hs (az4 aeJ (hs.p1).has (hs.qY).eB (λ w' e=>St.ie (hs.qY) e)) (λ x94 w32 bV hs=>aJ hs DH (λ b_s21 w33 hs=>aI (x:=(pD fx7)) hs DG rfl rfl (λ w34 hs=>tT GI (fi (aD lf hs.qY.At (bH Cv hs.p4 (H':=λ _=>en K as9 fxo) (Φ:=λ v _=>v = .tuple #[Flat.val (⟨16,1,1,0,0⟩:cQ),.int .i64 0]) (λ F2 eQ ey=>?_) ?_)))))))))))
 ·exact CJ (N:=20) (k:=pOt) (gc:=⟨none,0,0⟩) YE (by decide) (mS fdo (by decide)) (by decide) eQ (λ w' hc=>((ey w' hc).p11).eB) (λ w' hc=>(eE.nil (λ _=>True) w'))
 rintro _ w35 rfl hs;refine bE rfl (bE rfl (aJ hs km (λ b_v23 w36 hs=>aI (x:=(⟨16,1,1,0,0⟩:cQ)) hs eW rfl rfl (λ w37 hs=>aZ Zv hs (aeH YF (hs.p1).has (hs.p13).eB (λ w' e=>St.ie (hs.p13) e)) (λ w38 he hs=>aJ hs DH (λ b_w25 WA hs=>aI (x:=(pD fxo)) hs DG rfl rfl (λ w40 hs=>?_)))))));refine ⟨_,?_,λ _ _ h=>h⟩;refine aH (gG (by decide) (aD eW hs.p11.At (pop (ud _ _) (lD DY rfl rfl (show _=decide True from rfl) (gG (by decide) (aH (gG (by decide) (aD eW hs.qY.At (pop (ud _ _) (lD DY rfl rfl (show _=decide True from rfl) (gG (by decide) (aD lf hs.p13.At ?_))))))))))))
 refine pop (CW _) (aD lf hs.p12.At (bX ([(⟨1,0,0,⟨none,0,0⟩⟩:cX),⟨2,0,0,⟨none,0,0⟩⟩,⟨1,1,0,⟨none,0,0⟩⟩]) hs nZ rfl rfl (eL rfl) (λ az6 w41 hs=>aZ au1 hs (C20 _ _ (cJ fx2) [JD,pOu,pOt] _ (hs.qY).dl (DL.of (hs).fB (aeL _)) (by rw [fp2]; decide) (λ x hx=>by rw [HO aeI x hx]; decide)) (λ w42 he hs=>gG (decide_eq_true fp2) (have hs:=((((((((hs.qY.drop)).drop).p12).drop).qY).drop).p9).drop;aD eW hs.p8.At (pop (Bl _ _) (lD DY rfl rfl (show _=decide True from rfl) (gG (by decide) (aD eW hs.p7.At (pop (ud _ _) (lD DY rfl rfl (show _=decide True from rfl) (gG (by decide) ?_))))))))))))
 refine aH (gG (by decide) (aD eW hs.p5.At (pop (ud _ _) (lD DY rfl rfl (show _=decide True from rfl) (gG (by decide) (aD DG hs.p3.At (pop (Sf _ _) (lD U3 rfl rfl (show _=decide True from rfl) (gG (by decide) (bX ([true]) hs ym rfl rfl (eL rfl) (λ az7 w43 hs=>aZ au9 hs (C50 _ _ (Da fx7) [true] _ (hs.p5).fB (hs).fB (by rw [asZ]; decide)) (λ w44 he hs=>gG (decide_eq_true asZ) ?_))))))))))));refine aD eW hs.p2.At (pop (su _ _ _) (lD DY rfl rfl (show _=decide True from rfl) (gG (by decide) (aD DG hs.p1.At (pop (Sg _ _) (lD U3 rfl rfl (show _=decide True from rfl) (gG (by decide) (have hs:=((((((((((((((((hs.drop)).drop)).drop).p1).drop).p1).drop).p1).drop).p2).drop).p2).drop).p2).drop;cZ Cu hs (TC YF (hs).has (hs.p2).eB (λ w' e=>St.ie (hs.p2) e)) (λ x170 w45 bV hs=>?_)))))))))
 obtain ⟨auI,aeM,aeN,_⟩:=(hs).dl;refine aK nZ aeM ?_;rw [aeN];refine aH (gG (by rw [fpo]; rfl) (cZ au4 hs (az3 YF (by decide) az5 (hs.p1).has (hs.p3).eB (λ w' e=>St.ie (hs.p3) e)) (λ x176 w46 bV hs=>?_)));obtain ⟨auJ,aeO,aeP,_⟩:=(hs).dl;refine aK nZ aeO ?_;rw [aeP];refine aH (gG (by rw [fco]; rfl) (cZ R3 hs (TD (0) YF (hs.p2).has (hs.p4).eB (λ w' e=>St.ie (hs.p4) e)) (λ x182 w47 bV hs=>bX (([1]:List Int)) hs ek rfl rfl (eL rfl) (λ az8 w48 hs=>aZ Nc hs (C21 _ _ (nM fxo (0)) ([1]:List Int) _ (hs.p1).fB (hs).fB (by rw [fro]; decide)) (λ w49 he hs=>gG (decide_eq_true fro) (cZ R3 hs (TD (2) YF (hs.p4).has (hs.p6).eB (λ w' e=>St.ie (hs.p6) e)) (λ x188 w50 bV hs=>aK ek (hs).fB (aH (gG (by rw [fr2]; rfl) (cZ Zw hs (al9 aeJ (hs.p6).has (hs.p7).eB (λ w' e=>St.ie (hs.p7) e)) (λ x194 w51 bV hs=>bX (([1,0]:List Int)) hs ek rfl rfl (eL rfl) (λ az9 w52 hs=>aZ Nc hs (C21 _ _ (fx7.mem.l) ([1,0]:List Int) _ (hs.p1).fB (hs).fB (by rw [fl7]; decide)) (λ w53 he hs=>?_)))))))))))))
 refine gG (decide_eq_true fl7) (cZ au2 hs (az2 aeJ (hs.p8).has (hs.p9).eB (λ w' e=>St.ie (hs.p9) e)) (λ x200 w54 bV hs=>bX (([1]:List Int)) hs ek rfl rfl (eL rfl) (λ aAa w55 hs=>aZ Nc hs (C21 _ _ (fx7.mem.kept) ([1]:List Int) _ (hs.p1).fB (hs).fB (by rw [fk7]; decide)) (λ w56 he hs=>?_))));intro jB;exact ⟨vb (decide_eq_true fk7),hs.aE⟩
theorem xd {w:World} {g:cX} {x:ej} (h:cA.dr w g x):eE (λ _=>True) w (Flat.val g.cut) x.cut:=by
 obtain ⟨_,rfl,h⟩:=h; exact DL.flat h
theorem al2.rd {av:sy} {a:D9} {tl:List cX} {l:List ej} {tc:List cX} {c:List ej} {cr:Int} {sh:cX} (h:al2 av a tl l tc c cr sh) {w1:World} (h1:iB tl l w1) (h2:iB tc c w1) :
  ∃ gc:SV,sh=⟨(gM a l c cr).kind,(gM a l c cr).t,(gM a l c cr).i,gc⟩∧∀ w2,eE (λ _=>True) w2 (Flat.val av.p.cut) a.p.cut→iB tl l w2→iB tc c w2→eE (λ _=>True) w2 (Flat.val gc) (gM a l c cr).cut:=by
 rcases h with ⟨_,hq,gc,hs,hr⟩ | ⟨j,hj,hq⟩ | ⟨j,hj,hq⟩ | ⟨hs,hq⟩
 ·rw [hq]; exact ⟨gc,hs,λ w2 h _ _=>hr w2 h⟩
 ·obtain ⟨gc,hs,_⟩:=h1.2 j _ _ hj hq
  refine ⟨gc,hs,λ w2 _ h3 _=>?_⟩
  have:=xd (h3.2 j _ _ hj hq)
  rw [hs] at this; exact this
 ·obtain ⟨gc,hs,_⟩:=h2.2 j _ _ hj hq
  refine ⟨gc,hs,λ w2 _ _ h3=>?_⟩
  have:=xd (h3.2 j _ _ hj hq)
  rw [hs] at this; exact this
 ·rw [hq]; exact ⟨⟨none,0,0⟩,hs,λ w2 _ _ _=>eE.nil (λ _=>True) w2⟩
theorem JF {a:D9} {l c:List ej} {cr:Int} (h1:∀ x∈l,x.cut.length≤1000) (h2:∀ x∈c,x.cut.length≤1000):(gM a l c cr).cut.length≤1000:=by
 have key:∀ (xs:List ej) (k:Nat),(∀ x∈xs,x.cut.length≤1000)→(xs.getD k MH).cut.length≤1000:=by
  intro xs k hx
  rw [List.getD_eq_getElem?_getD]
  cases hk:xs[k]? with
  | none=>decide
  | some y=>exact hx y (List.mem_of_getElem? hk)
 unfold gM
 split
 ·show (a.p.cut.take 22).length≤1000; rw [List.length_take]; omega
 ·split
  ·exact key _ _ h2
  ·split
   ·exact key _ _ h1
   ·decide
theorem tJ {p:cW} {m:gr} {n:Nat} (h:vx p m n):∀ x∈cJ m,x.cut.length≤1000:=λ x hx=>by rw [HO h x hx]; decide
theorem qW {p:cW} {m:gr} {n:Nat} (h:vx p m n):(cJ m).length≤1073741824:=Nat.le_trans (pj h.pm.gm.ok) (by decide)
theorem TE (s:iG):rf (Flat.enc s) (Flat.enc s)=decide True:=by
 simp [rf,Flat.enc,eqV]
theorem aeQ (s:cQ):rf (Flat.enc s) (Flat.enc s)=decide True:=by
 simp [rf,Flat.enc,eqV]
inductive DoK (m:gr) (q:ej) (m2:gr) (ev:cQ):Prop where
 | RI (oK:List Int) (t:fF) (N:Nat) (hc:iy m q=some oK) (hg:sd N (qb m.u.recover)=some t) (hm:m2=lJ (wV m oK) [t]) (he:ev=⟨15,0,0,yB q.cut q.cut.length,0⟩)
 | out (t:fF) (ht:m.l[q.t.toNat]? = some t) (h0:0≤q.t) (hm:m2=mw m t q) (he:ev=ph q.t (eh t.buf q.i))
 | bad (t:fF) (ht:m.l[q.t.toNat]? = some t) (h0:0≤q.t) (hf:t.fault≠0) (hm:m2={m with fault:=t.fault,mv:=q.t}) (he:ev=⟨16,q.t,t.fault,0,0⟩)
 | act (t t2:fF) (x:aW) (ht:m.l[q.t.toNat]? = some t) (h0:0≤q.t) (hf:t.fault=0) (hn:gO t=some x) (MG:BN m t=true) (hm:m2={ (dV m t q.t x).1 with l:=m.l.set q.t.toNat t2}) (he:ev={ (dV m t q.t x).2.2 with t:=q.t})
theorem aeR {N:Nat} {m m2:gr} {q:ej} {ev:cQ} (hd:Ck N m q=some (m2,ev,0)):DoK m q m2 ev:=by
 cases hc:iy m q with
 | some oK=>obtain ⟨t,hg,hm,he,_⟩:=qV hd hc; exact .RI oK t N hc hg hm he
 | none=>
  by_cases ha:(cJ m).any (jE q)=true
  ·by_cases hk:q.kind=2
   ·obtain ⟨h0,t,ht⟩:=qn ha
    obtain ⟨hm,he,_⟩:=pC hd hc ha hk ht
    exact .out t ht h0 hm he
   ·have h0:=(qn ha).1
    have hs:=(nh hd hc ha hk).1
    obtain ⟨_,t,ht,MG⟩:=MF ha hk
    by_cases hf:t.fault≠0
    ·obtain ⟨hm,he⟩:=xF hs ht hf
     exact .bad t ht h0 hf hm he
    ·obtain ⟨x,hn⟩:=xG hs ht hf
     by_cases h2:(dV m t q.t x).1.fault=0
     ·obtain ⟨t2,_,hm,he⟩:=xH hs ht hf hn h2
      rw [BR] at hm
      exact .act t t2 x ht h0 (by omega) hn MG hm he
     ·obtain ⟨hm,he⟩:=xI hs ht hf hn h2
      rw [BR] at hm
      exact .act t _ x ht h0 (by omega) hn MG hm he
  ·exact absurd (pB hd hc ha).2.2 (by decide)
theorem RQ {m:gr} {l2:List fF} {i j:Int} {t2:fF} (h0:0≤j) (hij:i≠j) (hl:l2=m.l.set j.toNat t2):∀ m2:gr,m2.l=l2→nM m2 i=nM m i∧zi m2 i=zi m i:=by
 intro m2 hm
 unfold nM zi
 by_cases hi:0≤i
 ·rw [if_pos hi,if_pos hi,if_pos hi,if_pos hi,hm,hl,List.getElem?_set_ne (by omega)]; exact ⟨rfl,rfl⟩
 ·rw [if_neg hi,if_neg hi,if_neg hi,if_neg hi]; exact ⟨rfl,rfl⟩
theorem YG {N:Nat} {m m2:gr} {q:ej} {ev:cQ} (hd:Ck N m q=some (m2,ev,0)) (hk:ev.kind≠15) {i:Int} (hi:i≠q.t):nM m2 i=nM m i∧zi m2 i=zi m i:=by
 cases aeR hd with
 | RI oK t N hc hg hm he=>rw [he] at hk; exact absurd rfl hk
 | out t ht h0 hm he=>exact RQ h0 hi rfl m2 (by rw [hm]; rfl)
 | bad t ht h0 hf hm he=>rw [hm]; exact ⟨rfl,rfl⟩
 | act t t2 x ht h0 hf hn MG hm he=>exact RQ h0 hi rfl m2 (by rw [hm])
theorem MJ {p:cW} {m:gr} {n:Nat} (h:vx p m n) (i:Int):(nM m i).length≤1073741824:=by
 unfold nM; split
 ·cases ht:m.l[i.toNat]? with
  | none=>simp
  | some t=>have:=h.pm.gm.rgl t (List.mem_of_getElem? ht); simp only; omega
 ·simp
theorem aeS {p:cW} {m:gr} {n:Nat} (h:vx p m n) (i:Int):(zi m i).length≤1073741824:=by
 unfold zi; split
 ·cases ht:m.l[i.toNat]? with
  | none=>simp
  | some t=>have:=(h.pm.gm.th t (List.mem_of_getElem? ht)).1.bl; simp only; omega
 ·simp
theorem TF {p:cW} {m:gr} {n:Nat} (h:vx p m n):m.mem.l.length≤1073741824∧m.mem.kept.length≤1073741824:=by
 have h1:=h.pm.gm.mem.ll; have h2:=h.pm.gm.mem.fl; have h3:=h.pm.gm.mem.kl; have h4:=h.pm.gm.mem.Q1
 omega
set_option maxHeartbeats 4000000 in
set_option maxRecDepth 100000 in
theorem C5 (p:cW) (pv:bL) (sv:Value) (script:List D9) (w:World) (hp:cA.dr w pv p) (hS:DL w sv script):CR 5 [Flat.val pv,sv] w (λ v w'=>v = .bool true∧Ext w w'):=by
 obtain ⟨bF,bQ,bG,aT,aU,aX,rfl,cH,dA,cI,bR,bO,cB⟩:=hp;obtain ⟨ts7,Sr,Y3⟩:=(hS).open;have hn7:=Y3.1;have hs:=St.start w;refine ana _ _ _ _ ?_;unfold S5;refine dE hs (λ VI w1 hs=>aD gF hs.At (ed anj (C11 p (⟨bF,bQ,bG,aT,aU,aX⟩:bL) _ ⟨bF,bQ,bG,aT,aU,aX,rfl,(cH.ext hs.aE),(dA.ext hs.aE),(cI.ext hs.aE),(bR.ext hs.aE),(bO.ext hs.aE),(cB.ext hs.aE)⟩) ?_));rintro _ w2 ⟨XL,rfl,bV⟩;have hs:=hs.made bV
 refine ed ahG (C12 (mU p) XL _ (hs).eB (IY p)) ?_;rintro _ w3 ⟨Pm,rfl,bV⟩;have hs:=hs.made bV;refine bE rfl (bE rfl (aJ hs uW (λ aAb w4 hs=>have hs:=hs.enc (cs':=Flat.enc (⟨⟨none,0,0⟩,0,⟨none,0,0⟩,0,⟨none,0,0⟩,(⟨0,0,⟨none,0,0⟩⟩:cL),⟨none,0,0⟩⟩:dL)) rfl;aI (x:=Pm) hs r8 rfl rfl (λ w5 hs=>cO (aC (λ qC=>?_) (λ qC=>?_))))))
 ·refine aZ Zt hs (C14 _) (λ w6 he hs=>?_);exact ⟨rfl,hs.aE⟩
 ·refine aD r8 hs.At ?_;have yl:gK (mU p)=0:=by omega
  have Gb:=Aw yl;have nP:=qN Gb;obtain ⟨N0,mP,Ge,htw⟩:=Cq Gb;have hs:=hs.p1.dO (Ψ:=λ w=>cA.dr w Pm (eu (mU p))) (λ w h=>by rw [if_pos yl] at h; exact h);refine ed Zu (ama (eu (mU p)) Pm 2 N0 mP (hs).eB nP.2 nP.1 (FC (qd nP.1) nP.2 Ge) (by decide) (by decide)) ?_;rintro _ w7 ⟨K,q,rfl,bV⟩;have hs:=(hs.made bV).split;have ame:vx (mU p) (lJ (lS (eu (mU p)) 2) mP) 0:=vx.new Gb Ge htw (by first | decide | omega);refine bE rfl (bE rfl ?_);refine ⟨_,?_,λ _ _ h=>h⟩;refine tT GI (fi (cO ?_));intro fz;refine fM (by decide) ?_;have hs:=((((hs.p2.drop.p2.drop.p2.drop).p2).drop).p1).p1
  refine ⟨λ mm i w'=>∃ (k:Nat) (m:gr),i = .int .i64 (k:Int)∧mm=30 - k∧k≤30∧vx (mU p) m k∧St w bD [en K q m,eB K] w',⟨30,0,_,rfl,rfl,by decide,ame,hs⟩,?_⟩;rintro mm _ w9 ⟨k,m,rfl,rfl,hk,hm,hs⟩ jB;refine ⟨λ jv w'=>∃ q:Prop,∃ _:Decidable q,(q→k<script.length∧k<30)∧jv = .bool (decide q)∧w9=w',?_,?_⟩
  ·refine aK abX (Sr.ext hs.aE) (aR (aC (λ kB=>?_) (λ kB=>?_)))
   ·refine aR ?_;exact ⟨_,inferInstance,(λ h=>by omega),rfl,rfl⟩
   ·exact ⟨False,inferInstance,(λ h=>h.elim),rfl,rfl⟩
  ·rintro _ pP ⟨q3,hq3,hq4,rfl,hw⟩ oN;subst hw;refine aC (λ sD=>?_) (λ sD=>?_)
   ·obtain ⟨hk3,hk4⟩:=hq4 sD;obtain ⟨aAe,MK⟩:=gx ts7 (i:=((k:Int)).toNat) (by omega);obtain ⟨gj,YH⟩:=gx (script) (i:=((k:Int)).toNat) (by omega);obtain ⟨nB,rfl,tK⟩:=Y3.2 _ _ _ MK YH;refine ⟨λ w'=>∃ m2:gr,vx (mU p) m2 (k+1)∧St w bD [en K q m2,eB K] w',?_,?_⟩
    ·refine ⟨λ jv w'=>∃ (b:Nat) (lv:Value) (O3:List cX) (RR:SV),jv = .pointer (some ⟨b,0,none⟩)∧(∀ w2,eE (λ _=>True) w2 (Flat.val nB.cut) gj.p.cut→iB O3 (cJ m) w2→iB ([]:List cX) ([]:List ej) w2→eE (λ _=>True) w2 (Flat.val RR) (gM gj (cJ m) [] 9).cut)∧St w bD [cE b (Flat.enc (⟨(gM gj (cJ m) [] 9).kind,(gM gj (cJ m) [] 9).t,(gM gj (cJ m) [] 9).i,RR⟩:cX)),bK lv O3,eB (iB O3 (cJ m)),en K q m,eB K] w',?_,?_⟩
     ·refine aQ abX Sr (by omega) MK (λ _ yx=>have hs:=hs.drew;aD Cy (yx.ext hs.aE) ?_);refine ⟨?_,?_⟩
      ·refine cZ Cu hs (TC hm (hs).has (hs.p1).eB (λ w' e=>St.ie (hs.p1) e)) (λ x54 sB bV hs=>?_);refine ⟨eU Cy (yx.ext hs.aE),?_⟩;refine ⟨?_,?_⟩
       ·obtain ⟨Pn,hs⟩:=hs.yt;refine ed R2 (C24 gj (⟨(gj).kind,(gj).n,nB⟩:sy) _ _ Pn (cJ m) [] [] 9 _ ⟨nB,rfl,cA.ext tK hs.aE⟩ (hs).fB (hs.p1).eB (eE.nil (λ _=>True) _) iB.nil (qW hm) (by decide)) ?_;rintro _ u7 ⟨aAf,rfl,he,YI⟩;have hs:=hs.ext he;obtain ⟨amf,aeT,aeU⟩:=YI.rd (hs.p1).eB iB.nil;subst aeT;refine aJ hs td (λ ata u9 hs=>?_);have hs:=hs.enc (cs':=Flat.enc (⟨0,0,0,⟨none,0,0⟩⟩:cX)) rfl;refine ⟨eU Cy (yx.ext hs.aE),?_⟩;refine aI (x:=(⟨(gM gj (cJ m) [] 9).kind,(gM gj (cJ m) [] 9).t,(gM gj (cJ m) [] 9).i,amf⟩:cX)) hs lf rfl rfl (λ r9 hs=>?_)
        have hs:=hs.p4.p4.p4.p4.p4;exact ⟨_,_,_,_,rfl,aeU,hs⟩
       ·refine ⟨?_,?_⟩
        ·refine aJ hs td (λ aeV vT hs=>?_);have hs:=hs.enc (cs':=Flat.enc (⟨0,0,0,⟨none,0,0⟩⟩:cX)) rfl;refine ⟨eU Cy (yx.ext hs.aE),?_⟩;have hs:=hs.p1;obtain ⟨Pn,hs⟩:=hs.yt;refine ed R2 (C24 gj (⟨(gj).kind,(gj).n,nB⟩:sy) _ _ Pn (cJ m) [] [] 9 _ ⟨nB,rfl,cA.ext tK hs.aE⟩ (hs).fB (hs.p1).eB (eE.nil (λ _=>True) _) iB.nil (qW hm) (by decide)) ?_;rintro _ yO ⟨atb,rfl,he,Po⟩;have hs:=hs.ext he;obtain ⟨YJ,TG,TH⟩:=Po.rd (hs.p1).eB iB.nil;subst TG;refine aI (x:=(⟨(gM gj (cJ m) [] 9).kind,(gM gj (cJ m) [] 9).t,(gM gj (cJ m) [] 9).i,YJ⟩:cX)) hs.p2 lf rfl rfl (λ B6 hs=>?_)
         have hs:=hs.p4.p4.p4.p4.p4;exact ⟨_,_,_,_,rfl,TH,hs⟩
        ·trivial
      ·refine ⟨?_,?_⟩
       ·refine aJ hs td (λ aeW GQ hs=>?_);have hs:=hs.enc (cs':=Flat.enc (⟨0,0,0,⟨none,0,0⟩⟩:cX)) rfl;refine ⟨eU Cy (yx.ext hs.aE),?_⟩;refine cZ Cu hs (TC hm (hs.p1).has (hs.p2).eB (λ w' e=>St.ie (hs.p2) e)) (λ x54_1 IF bV hs=>?_);refine ⟨eU Cy (yx.ext hs.aE),?_⟩;obtain ⟨YK,hs⟩:=hs.yt;refine ed R2 (C24 gj (⟨(gj).kind,(gj).n,nB⟩:sy) _ _ YK (cJ m) [] [] 9 _ ⟨nB,rfl,cA.ext tK hs.aE⟩ (hs).fB (hs.p1).eB (eE.nil (λ _=>True) _) iB.nil (qW hm) (by decide)) ?_;rintro _ JH ⟨atc,rfl,he,Pp⟩;have hs:=hs.ext he;obtain ⟨YL,TI,TJ⟩:=Pp.rd (hs.p1).eB iB.nil
        subst TI;refine aI (x:=(⟨(gM gj (cJ m) [] 9).kind,(gM gj (cJ m) [] 9).t,(gM gj (cJ m) [] 9).i,YL⟩:cX)) hs.p2 lf rfl rfl (λ Lr hs=>?_);have hs:=hs.p4.p4.p4.p4.p4;exact ⟨_,_,_,_,rfl,TJ,hs⟩
       ·trivial
     ·rintro _ NS ⟨YM,lv5,O3,RR,rfl,aeX,hs⟩ F6;refine ed ahH (al8 hm (by omega) (hs.p3).has (hs.p4).eB (λ w' e=>St.ie (hs.p4) e)) ?_;rintro _ Sy ⟨ahg,rfl,bV⟩;have hs:=hs.made bV;refine tT GI (fi (cZ Zw hs (al9 hm (hs.p4).has (hs.p5).eB (λ w' e=>St.ie (hs.p5) e)) (λ x61 TU bV hs=>cZ R3 hs (TD (0) hm (hs.p5).has (hs.p6).eB (λ w' e=>St.ie (hs.p6) e)) (λ x63 QQ bV hs=>aZ Zv hs (aeH hm (hs.p6).has (hs.p7).eB (λ w' e=>St.ie (hs.p7) e)) (λ Y6 he hs=>aJ hs DH (λ b_s14 Y7 hs=>aI (x:=(pD m)) hs DG rfl rfl (λ w28 hs=>aD lf hs.p4.At ?_)))))));obtain ⟨N1,m1,YN,e1,MO,aAg⟩:=FI hm.pm (gM gj (cJ m) [] 9)
      refine bH Cv hs.p3 (H':=λ _=>en K ahg m1) (Φ:=λ v _=>v = .tuple #[Flat.val (YN:cQ),.int .i64 e1]) (λ F2 eQ ey=>?_) ?_
      ·exact CJ (N:=N1) (k:=(gM gj (cJ m) [] 9)) (gc:=RR) hm (by omega) MO (JF (tJ hm) (λ x hx=>by cases hx)) eQ (λ w' hc=>((ey w' hc).p7).eB) (λ w' hc=>aeX w' (xd (cA.ext tK (ey w' hc).aE)) ((ey w' hc).p5).eB iB.nil)
      rintro _ w29 rfl hs;refine bE rfl (bE rfl (aJ hs km (λ atd w30 hs=>aI (x:=(YN:cQ)) hs eW rfl rfl (λ w31 hs=>pop (CW _) ?_))));obtain ⟨N2,m9,ev2,e2,MS,hpm2⟩:=FI (hm.do MO).pm JD;refine bH Cv hs.p1 (H':=λ _=>en K ahg m9) (Φ:=λ v _=>v = .tuple #[Flat.val (ev2:cQ),.int .i64 e2]) (λ F2 eQ ey=>?_) ?_
      ·exact CJ (N:=N2) (k:=JD) (gc:=⟨none,0,0⟩) (hm.do MO) (by omega) MS (by decide) eQ (λ w' hc=>((ey w' hc).p8).eB) (λ w' hc=>(eE.nil (λ _=>True) w'))
      rintro _ w32 rfl hs;refine ⟨λ jv w'=>jv = .bool false∧St w bD [cE YM (Flat.enc (⟨(gM gj (cJ m) [] 9).kind,(gM gj (cJ m) [] 9).t,(gM gj (cJ m) [] 9).i,RR⟩:cX)),bK lv5 O3,eB (iB O3 (cJ m)),cE atd (Flat.enc YN),en K q m,eB K] w',?_,?_⟩
      ·have hs:=hs.drew;refine cZ Zw hs (al9 hm (hs.p8).has (hs.p9).eB (λ w' e=>St.ie (hs.p9) e)) (λ x76 w33 bV hs=>aZ Nc hs (C21 _ _ (m.mem.l) (m.mem.l) _ (hs).fB (hs.p5).fB (TF hm).1) (λ w34 he hs=>bZ (fM (by simp) (cZ R3 hs (TD (0) hm (hs.p9).has (hs.qY).eB (λ w' e=>St.ie (hs.qY) e)) (λ x82 w35 bV hs=>aZ Nc hs (C21 _ _ (nM m (0)) (nM m (0)) _ (hs).fB (hs.p5).fB (MJ hm 0)) (λ w36 he hs=>bZ (fM (by simp) (aD DG hs.p4.At (aZ Zv hs (aeH hm (hs.qY).has (hs.p11).eB (λ w' e=>St.ie (hs.p11) e)) (λ w37 he hs=>?_))))))))));refine ⟨eU DG hs.p4.At,?_⟩;refine Bi U3 rfl rfl (TE _) ?_
       have hs:=((((((((((((((((hs.drop)).drop)).drop).p1).drop).p1).drop).p1).drop).p5).p5).p2).p5).p5).p5;exact ⟨vb (by simp),hs⟩
      ·rintro _ w38 ⟨rfl,hs⟩ QC;refine fi (aD lf hs.At (bH Cv hs.p4 (H':=λ _=>en K q m1) (Φ:=λ v _=>v = .tuple #[Flat.val (YN:cQ),.int .i64 e1]) (λ F2 eQ ey=>?_) ?_))
       ·exact CJ (N:=N1) (k:=(gM gj (cJ m) [] 9)) (gc:=RR) hm (by omega) MO (JF (tJ hm) (λ x hx=>by cases hx)) eQ (λ w' hc=>((ey w' hc).p4).eB) (λ w' hc=>aeX w' (xd (cA.ext tK (ey w' hc).aE)) ((ey w' hc).p2).eB iB.nil)
       rintro _ WA rfl hs;refine bE rfl (bE rfl (aJ hs km (λ b_w17 w40 hs=>aI (x:=(YN:cQ)) hs eW rfl rfl (λ w41 hs=>?_))));refine ⟨λ jv w'=>jv = .bool false∧St w bD [en K q m1,eB K] w',?_,?_⟩
       ·refine aD eW hs.p5.At (aD eW hs.At (Bi DY rfl rfl (aeQ _) (fM (by decide) (cO ?_))));have hs:=(((((hs.drop.p1.drop.p1.drop.p1).drop).p1).drop).p1).p1;exact ⟨vb (by simp),hs⟩
       ·rintro _ w42 ⟨rfl,hs⟩ dd6;refine fi ?_;have hs:=hs.p1.p1;exact ⟨m1,hm.do MO,hs⟩
    ·rintro w43 ⟨m2,hm2,hs⟩ dd7;refine aO (by omega) ?_;exact ⟨_,by omega,k+1,m2,rfl,rfl,by omega,hm2,hs⟩
   ·refine aZ Zt hs (C14 _) (λ w44 he hs=>?_);exact ⟨rfl,hs.aE⟩
set_option maxHeartbeats 4000000 in
set_option maxRecDepth 100000 in
theorem C10 (p:cW) (pv:bL) (sv:Value) (script:List D9) (w:World) (hp:cA.dr w pv p) (hS:DL w sv script):CR 10 [Flat.val pv,sv] w (λ v w'=>v = .bool true∧Ext w w'):=by
 obtain ⟨bF,bQ,bG,aT,aU,aX,rfl,cH,dA,cI,bR,bO,cB⟩:=hp;obtain ⟨ts7,Sr,Y3⟩:=(hS).open;have hn7:=Y3.1;have hs:=St.start w;refine ahr _ _ _ _ ?_;unfold S10;refine dE hs (λ VI w1 hs=>aD gF hs.At (ed anj (C11 p (⟨bF,bQ,bG,aT,aU,aX⟩:bL) _ ⟨bF,bQ,bG,aT,aU,aX,rfl,(cH.ext hs.aE),(dA.ext hs.aE),(cI.ext hs.aE),(bR.ext hs.aE),(bO.ext hs.aE),(cB.ext hs.aE)⟩) ?_));rintro _ w2 ⟨qk,rfl,bV⟩;have hs:=hs.made bV
 refine ed ahG (C12 (mU p) qk _ (hs).eB (IY p)) ?_;rintro _ w3 ⟨Pq,rfl,bV⟩;have hs:=hs.made bV;refine bE rfl (bE rfl (aJ hs uW (λ aAb w4 hs=>have hs:=hs.enc (cs':=Flat.enc (⟨⟨none,0,0⟩,0,⟨none,0,0⟩,0,⟨none,0,0⟩,(⟨0,0,⟨none,0,0⟩⟩:cL),⟨none,0,0⟩⟩:dL)) rfl;aI (x:=Pq) hs r8 rfl rfl (λ w5 hs=>cO (aC (λ iu=>?_) (λ iu=>?_))))))
 ·refine aZ Zt hs (C14 _) (λ w6 he hs=>?_);exact ⟨rfl,hs.aE⟩
 ·refine aD r8 hs.At ?_;have yl:gK (mU p)=0:=by omega
  have Gb:=Aw yl;have nP:=qN Gb;obtain ⟨N0,mP,Ge,htw⟩:=Cq Gb;have hs:=hs.p1.dO (Ψ:=λ w=>cA.dr w Pq (eu (mU p))) (λ w h=>by rw [if_pos yl] at h; exact h);refine ed Zu (ama (eu (mU p)) Pq 3 N0 mP (hs).eB nP.2 nP.1 (FC (qd nP.1) nP.2 Ge) (by decide) (by decide)) ?_;rintro _ w7 ⟨K,q,rfl,bV⟩;have hs:=(hs.made bV).split;have ame:vx (mU p) (lJ (lS (eu (mU p)) 3) mP) 0:=vx.new Gb Ge htw (by first | decide | omega);refine bE rfl (bE rfl ?_);refine ⟨_,?_,λ _ _ h=>h⟩;refine tT GI (fi (cO ?_));intro fz;refine fM (by decide) ?_;have hs:=((((hs.p2.drop.p2.drop.p2.drop).p2).drop).p1).p1
  refine ⟨λ mm i w'=>∃ (k:Nat) (m:gr),i = .int .i64 (k:Int)∧mm=40 - k∧k≤40∧vx (mU p) m k∧St w bD [en K q m,eB K] w',⟨40,0,_,rfl,rfl,by decide,ame,hs⟩,?_⟩;rintro mm _ w9 ⟨k,m,rfl,rfl,hk,hm,hs⟩ jB;refine ⟨λ jv w'=>∃ q:Prop,∃ _:Decidable q,(q→k<script.length∧k<40)∧jv = .bool (decide q)∧w9=w',?_,?_⟩
  ·refine aK abX (Sr.ext hs.aE) (aR (aC (λ mi=>?_) (λ mi=>?_)))
   ·refine aR ?_;exact ⟨_,inferInstance,(λ h=>by omega),rfl,rfl⟩
   ·exact ⟨False,inferInstance,(λ h=>h.elim),rfl,rfl⟩
  ·rintro _ pP ⟨q3,hq3,hq4,rfl,hw⟩ oN;subst hw;refine aC (λ kB=>?_) (λ kB=>?_)
   ·obtain ⟨hk3,hk4⟩:=hq4 kB;obtain ⟨aAe,MK⟩:=gx ts7 (i:=((k:Int)).toNat) (by omega);obtain ⟨gj,YH⟩:=gx (script) (i:=((k:Int)).toNat) (by omega);obtain ⟨nB,rfl,tK⟩:=Y3.2 _ _ _ MK YH;refine ⟨λ w'=>∃ m2:gr,vx (mU p) m2 (k+1)∧St w bD [en K q m2,eB K] w',?_,?_⟩
    ·refine ⟨λ jv w'=>∃ (b:Nat) (lv:Value) (O3:List cX) (RR:SV),jv = .pointer (some ⟨b,0,none⟩)∧(∀ w2,eE (λ _=>True) w2 (Flat.val nB.cut) gj.p.cut→iB O3 (cJ m) w2→iB ([]:List cX) ([]:List ej) w2→eE (λ _=>True) w2 (Flat.val RR) (gM gj (cJ m) [] 9).cut)∧St w bD [cE b (Flat.enc (⟨(gM gj (cJ m) [] 9).kind,(gM gj (cJ m) [] 9).t,(gM gj (cJ m) [] 9).i,RR⟩:cX)),bK lv O3,eB (iB O3 (cJ m)),en K q m,eB K] w',?_,?_⟩
     ·refine aQ abX Sr (by omega) MK (λ _ sF=>have hs:=hs.drew;aD Cy (sF.ext hs.aE) ?_);refine ⟨?_,?_⟩
      ·refine cZ Cu hs (TC hm (hs).has (hs.p1).eB (λ w' e=>St.ie (hs.p1) e)) (λ x50 sB bV hs=>?_);refine ⟨eU Cy (sF.ext hs.aE),?_⟩;refine ⟨?_,?_⟩
       ·obtain ⟨Pr,hs⟩:=hs.yt;refine ed R2 (C24 gj (⟨(gj).kind,(gj).n,nB⟩:sy) _ _ Pr (cJ m) [] [] 9 _ ⟨nB,rfl,cA.ext tK hs.aE⟩ (hs).fB (hs.p1).eB (eE.nil (λ _=>True) _) iB.nil (qW hm) (by decide)) ?_;rintro _ u7 ⟨aAh,rfl,he,YO⟩;have hs:=hs.ext he;obtain ⟨amg,aeY,aeZ⟩:=YO.rd (hs.p1).eB iB.nil;subst aeY;refine aJ hs td (λ ata u9 hs=>?_);have hs:=hs.enc (cs':=Flat.enc (⟨0,0,0,⟨none,0,0⟩⟩:cX)) rfl;refine ⟨eU Cy (sF.ext hs.aE),?_⟩;refine aI (x:=(⟨(gM gj (cJ m) [] 9).kind,(gM gj (cJ m) [] 9).t,(gM gj (cJ m) [] 9).i,amg⟩:cX)) hs lf rfl rfl (λ r9 hs=>?_)
        have hs:=hs.p4.p4.p4.p4.p4;exact ⟨_,_,_,_,rfl,aeZ,hs⟩
       ·refine ⟨?_,?_⟩
        ·refine aJ hs td (λ aeV vT hs=>?_);have hs:=hs.enc (cs':=Flat.enc (⟨0,0,0,⟨none,0,0⟩⟩:cX)) rfl;refine ⟨eU Cy (sF.ext hs.aE),?_⟩;have hs:=hs.p1;obtain ⟨Pr,hs⟩:=hs.yt;refine ed R2 (C24 gj (⟨(gj).kind,(gj).n,nB⟩:sy) _ _ Pr (cJ m) [] [] 9 _ ⟨nB,rfl,cA.ext tK hs.aE⟩ (hs).fB (hs.p1).eB (eE.nil (λ _=>True) _) iB.nil (qW hm) (by decide)) ?_;rintro _ yO ⟨ate,rfl,he,Ps⟩;have hs:=hs.ext he;obtain ⟨YP,TK,TL⟩:=Ps.rd (hs.p1).eB iB.nil;subst TK;refine aI (x:=(⟨(gM gj (cJ m) [] 9).kind,(gM gj (cJ m) [] 9).t,(gM gj (cJ m) [] 9).i,YP⟩:cX)) hs.p2 lf rfl rfl (λ B6 hs=>?_)
         have hs:=hs.p4.p4.p4.p4.p4;exact ⟨_,_,_,_,rfl,TL,hs⟩
        ·trivial
      ·refine ⟨?_,?_⟩
       ·refine aJ hs td (λ aeW GQ hs=>?_);have hs:=hs.enc (cs':=Flat.enc (⟨0,0,0,⟨none,0,0⟩⟩:cX)) rfl;refine ⟨eU Cy (sF.ext hs.aE),?_⟩;refine cZ Cu hs (TC hm (hs.p1).has (hs.p2).eB (λ w' e=>St.ie (hs.p2) e)) (λ x50_1 IF bV hs=>?_);refine ⟨eU Cy (sF.ext hs.aE),?_⟩;obtain ⟨YQ,hs⟩:=hs.yt;refine ed R2 (C24 gj (⟨(gj).kind,(gj).n,nB⟩:sy) _ _ YQ (cJ m) [] [] 9 _ ⟨nB,rfl,cA.ext tK hs.aE⟩ (hs).fB (hs.p1).eB (eE.nil (λ _=>True) _) iB.nil (qW hm) (by decide)) ?_;rintro _ JH ⟨atf,rfl,he,Pt⟩;have hs:=hs.ext he;obtain ⟨YR,TM,TN⟩:=Pt.rd (hs.p1).eB iB.nil
        subst TM;refine aI (x:=(⟨(gM gj (cJ m) [] 9).kind,(gM gj (cJ m) [] 9).t,(gM gj (cJ m) [] 9).i,YR⟩:cX)) hs.p2 lf rfl rfl (λ Lr hs=>?_);have hs:=hs.p4.p4.p4.p4.p4;exact ⟨_,_,_,_,rfl,TN,hs⟩
       ·trivial
     ·rintro _ NS ⟨YM,lv5,O3,RR,rfl,aeX,hs⟩ F6;refine ed ahH (al8 hm (by omega) (hs.p3).has (hs.p4).eB (λ w' e=>St.ie (hs.p4) e)) ?_;rintro _ Sy ⟨YS,rfl,bV⟩;have hs:=hs.made bV;refine tT GI (fi (aD lf hs.p1.At ?_));obtain ⟨N1,m1,YN,e1,MO,aAg⟩:=FI hm.pm (gM gj (cJ m) [] 9);refine bH Cv hs.p4 (H':=λ _=>en K q m1) (Φ:=λ v _=>v = .tuple #[Flat.val (YN:cQ),.int .i64 e1]) (λ F2 eQ ey=>?_) ?_
      ·exact CJ (N:=N1) (k:=(gM gj (cJ m) [] 9)) (gc:=RR) hm (by omega) MO (JF (tJ hm) (λ x hx=>by cases hx)) eQ (λ w' hc=>((ey w' hc).p4).eB) (λ w' hc=>aeX w' (xd (cA.ext tK (ey w' hc).aE)) ((ey w' hc).p3).eB iB.nil)
      rintro _ TU rfl hs;refine bE rfl (bE rfl (aJ hs km (λ b_v12 QQ hs=>aI (x:=(YN:cQ)) hs eW rfl rfl (λ Y6 hs=>?_))));refine ⟨λ jv w'=>jv = .bool (decide (e1≠0∨YN.kind=15))∧St w bD [cE YM (Flat.enc (⟨(gM gj (cJ m) [] 9).kind,(gM gj (cJ m) [] 9).t,(gM gj (cJ m) [] 9).i,RR⟩:cX)),en K YS m,en K q m1,eB K] w',?_,?_⟩
      ·refine cO (aC (λ G7=>?_) (λ G7=>?_))
       ·have hs:=(((hs.drop.p3.drop.p3.drop.p3).p1).p2).p3;exact ⟨M9 (.inl G7),hs⟩
       ·refine aA abV (aB (v:=.int .i64 (((YN:cQ)).kind)) bN hs.hb rfl (aH ?_));have hs:=(((hs.drop.p3.drop.p3.drop.p3).p1).p2).p3;exact ⟨vX (by omega),hs⟩
      ·rintro _ Y7 ⟨rfl,hs⟩ QC;refine aC (λ Fz=>?_) (λ Fz=>?_)
       ·have hs:=((((hs.drop)).drop).p1).p1;exact ⟨m1,hm.do MO,hs⟩
       ·have he0:e1=0:=by omega
        subst he0;have mn:YN.kind≠15:=by omega
        have hs:=hs.p3.p3.p3.p3;refine ⟨λ mm t w'=>∃ j:Nat,t = .int .i64 (j:Int)∧mm=3 - j∧j≤3∧St w bD [cE YM (Flat.enc (⟨(gM gj (cJ m) [] 9).kind,(gM gj (cJ m) [] 9).t,(gM gj (cJ m) [] 9).i,RR⟩:cX)),en K YS m,en K q m1,eB K] w',⟨_,0,rfl,rfl,Nat.zero_le _,hs⟩,?_⟩;rintro mm _ w28 ⟨j,rfl,rfl,hj,hs⟩ dd6;refine aR (aC (λ Ah=>?_) (λ Ah=>?_))
        ·refine ⟨λ jv w'=>jv = .bool false∧St w bD [cE YM (Flat.enc (⟨(gM gj (cJ m) [] 9).kind,(gM gj (cJ m) [] 9).t,(gM gj (cJ m) [] 9).i,RR⟩:cX)),en K YS m,en K q m1,eB K] w',?_,?_⟩
         ·refine aA jy (aB (v:=.int .i64 (((gM gj (cJ m) [] 9)).t)) bN hs.hb rfl (cO (aC (λ ahh=>?_) (λ ahh=>?_))))
          ·obtain ⟨aAi,aAj⟩:=YG MO mn (i:=(j:Int)) ahh;refine cZ R3 hs (TD ((j:Int)) hm (hs.p1).has (hs.p3).eB (λ w' e=>St.ie (hs.p3) e)) (λ x80 w29 bV hs=>cZ R3 hs (TD ((j:Int)) (hm.do MO) (hs.p3).has (hs.p4).eB (λ w' e=>St.ie (hs.p4) e)) (λ x83 w30 bV hs=>aZ Nc hs (C21 _ _ (nM m ((j:Int))) (nM m1 ((j:Int))) _ (hs.p1).fB (hs).fB (MJ hm _)) (λ w31 he hs=>bZ (fM (by rw [aAi]; simp) (cZ anm hs (as0 ((j:Int)) hm (hs.p3).has (hs.p5).eB (λ w' e=>St.ie (hs.p5) e)) (λ x89 w32 bV hs=>cZ anm hs (as0 ((j:Int)) (hm.do MO) (hs.p5).has (hs.p6).eB (λ w' e=>St.ie (hs.p6) e)) (λ x92 w33 bV hs=>aZ au5 hs (C36 _ _ (zi m ((j:Int))) (zi m1 ((j:Int))) _ (hs.p1).fB (hs).fB (aeS hm _)) (λ w34 he hs=>bZ ?_))))))))
           have hs:=((((((((((hs.drop)).drop)).drop)).drop).p3).p3).p3).p3;exact ⟨vb (by rw [aAj]; simp),hs⟩
          ·have hs:=hs.p3.p3.p3.p3;exact ⟨rfl,hs⟩
         ·rintro _ w35 ⟨rfl,hs⟩ dd7;refine fi (aO (by omega) ?_);exact ⟨_,by omega,j+1,rfl,rfl,by omega,hs⟩
        ·have hs:=((((hs.drop)).drop).p1).p1;exact ⟨m1,hm.do MO,hs⟩
    ·rintro w36 ⟨m2,hm2,hs⟩ dd8;refine aO (by omega) ?_;exact ⟨_,by omega,k+1,m2,rfl,rfl,by omega,hm2,hs⟩
   ·refine aZ Zt hs (C14 _) (λ w37 he hs=>?_);exact ⟨rfl,hs.aE⟩
set_option maxRecDepth 100000
theorem own:ownKnob Tryz.prog.godebug=none:=by kernel_rfl
theorem rd9:yr Tryz.prog 9 ByteArray (λ y=>y.size≤maxLen):=RdT.deep (aiO Tryz.underlying9 (by kernel_rfl)) λ _ _=>rfl
theorem JM:yr Tryz.prog 3 Int mH:=RdT.deep (aiN Tryz.underlying3 (by kernel_rfl)) λ _ _=>rfl
theorem atg:yr Tryz.prog 163 dI xq:=λ w=>⟨by kernel_rfl,λ enc base held fuel cs x h=>by
 obtain ⟨hl,n,hp⟩:=l9 Tryz.underlying163 h
 obtain ⟨y0,h0⟩:=hp 0 _ rfl
 obtain ⟨y1,h1⟩:=hp 1 _ rfl
 obtain ⟨y2,h2⟩:=hp 2 _ rfl
 obtain ⟨s0,e0,a0,d0,k0⟩:=(rd9 w).rd enc base held n _ _ h0
 obtain ⟨s1,e1,a1,d1,k1⟩:=(JM w).rd enc base held n _ _ h1
 obtain ⟨s2,e2,a2,d2,k2⟩:=(JM w).rd enc base held n _ _ h2
 obtain rfl:s0=a0:=d0
 obtain rfl:s1=a1:=d1
 obtain rfl:s2=a2:=d2
 have p0:=dT (s:=1) e0
 have p1:=dT (s:=1) e1
 have p2:=dT (s:=1) e2
 have hz:cs.drop 3=[]:=List.drop_eq_nil_iff.2 (by rw [hl]; exact Nat.le_of_eq (by kernel_rfl))
 refine ⟨(⟨s0,s1,s2⟩:dI),?_,(⟨s0,s1,s2⟩:dI),rfl,k0,k1,k2⟩
 have e:cs=cs.drop 0:=rfl
 rw [e]
 refine p0.trans ?_
 refine ((congrArg _ p1)).trans ?_
 refine ((congrArg _ (congrArg _ p2))).trans ?_
 exact (congrArg _ (congrArg _ (congrArg _ hz)))⟩
theorem amh:yr Tryz.prog 23 (List dI) (λ ys:(List dI)=>∀ y∈ys,xq y):=yr.slice Tryz.underlying23 (by kernel_rfl) atg
theorem aAk:yr Tryz.prog 22 (List (List dI)) (λ ys:(List (List dI))=>∀ y∈ys,(λ ys:(List dI)=>∀ y∈ys,xq y) y):=yr.slice Tryz.underlying22 (by kernel_rfl) amh
theorem aAl:yr Tryz.prog 95 (List ByteArray) (λ ys:(List ByteArray)=>∀ y∈ys,(λ y:ByteArray=>y.size≤maxLen) y):=yr.slice Tryz.underlying95 (by kernel_rfl) rd9
theorem ath:yr Tryz.prog 166 dC zW:=λ w=>⟨by kernel_rfl,λ enc base held fuel cs x h=>by
 obtain ⟨hl,n,hp⟩:=l9 Tryz.underlying166 h
 obtain ⟨y0,h0⟩:=hp 0 _ rfl
 obtain ⟨y1,h1⟩:=hp 1 _ rfl
 obtain ⟨y2,h2⟩:=hp 2 _ rfl
 obtain ⟨y3,h3⟩:=hp 3 _ rfl
 obtain ⟨s0,e0,a0,d0,k0⟩:=(JM w).rd enc base held n _ _ h0
 obtain ⟨s1,e1,a1,d1,k1⟩:=(JM w).rd enc base held n _ _ h1
 obtain ⟨s2,e2,a2,d2,k2⟩:=(rd9 w).rd enc base held n _ _ h2
 obtain ⟨s3,e3,a3,d3,k3⟩:=(JM w).rd enc base held n _ _ h3
 obtain rfl:s0=a0:=d0
 obtain rfl:s1=a1:=d1
 obtain rfl:s2=a2:=d2
 obtain rfl:s3=a3:=d3
 have p0:=dT (s:=1) e0
 have p1:=dT (s:=1) e1
 have p2:=dT (s:=1) e2
 have p3:=dT (s:=1) e3
 have hz:cs.drop 4=[]:=List.drop_eq_nil_iff.2 (by rw [hl]; exact Nat.le_of_eq (by kernel_rfl))
 refine ⟨(⟨s0,s1,s2,s3⟩:dC),?_,(⟨s0,s1,s2,s3⟩:dC),rfl,k0,k1,k2,k3⟩
 have e:cs=cs.drop 0:=rfl
 rw [e]
 refine p0.trans ?_
 refine ((congrArg _ p1)).trans ?_
 refine ((congrArg _ (congrArg _ p2))).trans ?_
 refine ((congrArg _ (congrArg _ (congrArg _ p3)))).trans ?_
 exact (congrArg _ (congrArg _ (congrArg _ (congrArg _ hz))))⟩
theorem ami:yr Tryz.prog 86 (List dC) (λ ys:(List dC)=>∀ y∈ys,zW y):=yr.slice Tryz.underlying86 (by kernel_rfl) ath
theorem ati:yr Tryz.prog 173 cG IE:=λ w=>⟨by kernel_rfl,λ enc base held fuel cs x h=>by
 obtain ⟨hl,n,hp⟩:=l9 Tryz.underlying173 h
 obtain ⟨y0,h0⟩:=hp 0 _ rfl
 obtain ⟨y1,h1⟩:=hp 1 _ rfl
 obtain ⟨y2,h2⟩:=hp 2 _ rfl
 obtain ⟨y3,h3⟩:=hp 3 _ rfl
 obtain ⟨y4,h4⟩:=hp 4 _ rfl
 obtain ⟨y5,h5⟩:=hp 5 _ rfl
 obtain ⟨y6,h6⟩:=hp 6 _ rfl
 obtain ⟨y7,h7⟩:=hp 7 _ rfl
 obtain ⟨y8,h8⟩:=hp 8 _ rfl
 obtain ⟨s0,e0,a0,d0,k0⟩:=(JM w).rd enc base held n _ _ h0
 obtain ⟨s1,e1,a1,d1,k1⟩:=(rd9 w).rd enc base held n _ _ h1
 obtain ⟨s2,e2,a2,d2,k2⟩:=(rd9 w).rd enc base held n _ _ h2
 obtain ⟨s3,e3,a3,d3,k3⟩:=(ami w).rd enc base held n _ _ h3
 obtain ⟨s4,e4,a4,d4,k4⟩:=(ami w).rd enc base held n _ _ h4
 obtain ⟨s5,e5,a5,d5,k5⟩:=(JM w).rd enc base held n _ _ h5
 obtain ⟨s6,e6,a6,d6,k6⟩:=(JM w).rd enc base held n _ _ h6
 obtain ⟨s7,e7,a7,d7,k7⟩:=(JM w).rd enc base held n _ _ h7
 obtain ⟨s8,e8,a8,d8,k8⟩:=(JM w).rd enc base held n _ _ h8
 obtain rfl:s0=a0:=d0
 obtain rfl:s1=a1:=d1
 obtain rfl:s2=a2:=d2
 obtain rfl:s5=a5:=d5
 obtain rfl:s6=a6:=d6
 obtain rfl:s7=a7:=d7
 obtain rfl:s8=a8:=d8
 have p0:=dT (s:=1) e0
 have p1:=dT (s:=1) e1
 have p2:=dT (s:=1) e2
 have p3:=dT (s:=1) e3
 have p4:=dT (s:=1) e4
 have p5:=dT (s:=1) e5
 have p6:=dT (s:=1) e6
 have p7:=dT (s:=1) e7
 have p8:=dT (s:=1) e8
 have hz:cs.drop 9=[]:=List.drop_eq_nil_iff.2 (by rw [hl]; exact Nat.le_of_eq (by kernel_rfl))
 refine ⟨(⟨s0,s1,s2,s3,s4,s5,s6,s7,s8⟩:bY),?_,(⟨s0,s1,s2,a3,a4,s5,s6,s7,s8⟩:cG),⟨s3,s4,rfl,d3,d4⟩,k0,k1,k2,k3,k4,k5,k6,k7,k8⟩
 have e:cs=cs.drop 0:=rfl
 rw [e]
 refine p0.trans ?_
 refine ((congrArg _ p1)).trans ?_
 refine ((congrArg _ (congrArg _ p2))).trans ?_
 refine ((congrArg _ (congrArg _ (congrArg _ p3)))).trans ?_
 refine ((congrArg _ (congrArg _ (congrArg _ (congrArg _ p4))))).trans ?_
 refine ((congrArg _ (congrArg _ (congrArg _ (congrArg _ (congrArg _ p5)))))).trans ?_
 refine ((congrArg _ (congrArg _ (congrArg _ (congrArg _ (congrArg _ (congrArg _ p6))))))).trans ?_
 refine ((congrArg _ (congrArg _ (congrArg _ (congrArg _ (congrArg _ (congrArg _ (congrArg _ p7)))))))).trans ?_
 refine ((congrArg _ (congrArg _ (congrArg _ (congrArg _ (congrArg _ (congrArg _ (congrArg _ (congrArg _ p8))))))))).trans ?_
 exact (congrArg _ (congrArg _ (congrArg _ (congrArg _ (congrArg _ (congrArg _ (congrArg _ (congrArg _ (congrArg _ hz)))))))))⟩
theorem aAm:yr Tryz.prog 96 (List cG) (λ ys:(List cG)=>∀ y∈ys,IE y):=yr.slice Tryz.underlying96 (by kernel_rfl) ati
theorem aAn:yr Tryz.prog 98 dS xr:=λ w=>⟨by kernel_rfl,λ enc base held fuel cs x h=>by
 obtain ⟨hl,n,hp⟩:=l9 Tryz.underlying98 h
 obtain ⟨y0,h0⟩:=hp 0 _ rfl
 obtain ⟨y1,h1⟩:=hp 1 _ rfl
 obtain ⟨y2,h2⟩:=hp 2 _ rfl
 obtain ⟨y3,h3⟩:=hp 3 _ rfl
 obtain ⟨s0,e0,a0,d0,k0⟩:=(rd9 w).rd enc base held n _ _ h0
 obtain ⟨s1,e1,a1,d1,k1⟩:=(aAl w).rd enc base held n _ _ h1
 obtain ⟨s2,e2,a2,d2,k2⟩:=(aAm w).rd enc base held n _ _ h2
 obtain ⟨s3,e3,a3,d3,k3⟩:=(JM w).rd enc base held n _ _ h3
 obtain rfl:s0=a0:=d0
 obtain rfl:s3=a3:=d3
 have p0:=dT (s:=1) e0
 have p1:=dT (s:=1) e1
 have p2:=dT (s:=1) e2
 have p3:=dT (s:=1) e3
 have hz:cs.drop 4=[]:=List.drop_eq_nil_iff.2 (by rw [hl]; exact Nat.le_of_eq (by kernel_rfl))
 refine ⟨(⟨s0,s1,s2,s3⟩:ei),?_,(⟨s0,a1,a2,s3⟩:dS),⟨s1,s2,rfl,d1,d2⟩,k0,k1,k2,k3⟩
 have e:cs=cs.drop 0:=rfl
 rw [e]
 refine p0.trans ?_
 refine ((congrArg _ p1)).trans ?_
 refine ((congrArg _ (congrArg _ p2))).trans ?_
 refine ((congrArg _ (congrArg _ (congrArg _ p3)))).trans ?_
 exact (congrArg _ (congrArg _ (congrArg _ (congrArg _ hz))))⟩
theorem atj:yr Tryz.prog 24 (List dS) (λ ys:(List dS)=>∀ y∈ys,xr y):=yr.slice Tryz.underlying24 (by kernel_rfl) aAn
theorem aAo:yr Tryz.prog 89 jG D7:=λ w=>⟨by kernel_rfl,λ enc base held fuel cs x h=>by
 obtain ⟨hl,n,hp⟩:=l9 Tryz.underlying89 h
 obtain ⟨y0,h0⟩:=hp 0 _ rfl
 obtain ⟨y1,h1⟩:=hp 1 _ rfl
 obtain ⟨s0,e0,a0,d0,k0⟩:=(ami w).rd enc base held n _ _ h0
 obtain ⟨s1,e1,a1,d1,k1⟩:=(JM w).rd enc base held n _ _ h1
 obtain rfl:s1=a1:=d1
 have p0:=dT (s:=1) e0
 have p1:=dT (s:=1) e1
 have hz:cs.drop 2=[]:=List.drop_eq_nil_iff.2 (by rw [hl]; exact Nat.le_of_eq (by kernel_rfl))
 refine ⟨(⟨s0,s1⟩:lP),?_,(⟨a0,s1⟩:jG),⟨s0,rfl,d0⟩,k0,k1⟩
 have e:cs=cs.drop 0:=rfl
 rw [e]
 refine p0.trans ?_
 refine ((congrArg _ p1)).trans ?_
 exact (congrArg _ (congrArg _ hz))⟩
theorem aAp:yr Tryz.prog 25 (List jG) (λ ys:(List jG)=>∀ y∈ys,D7 y):=yr.slice Tryz.underlying25 (by kernel_rfl) aAo
theorem rd27:yr Tryz.prog 27 cW aci:=λ w=>⟨by kernel_rfl,λ enc base held fuel cs x h=>by
 obtain ⟨hl,n,hp⟩:=l9 Tryz.underlying27 h
 obtain ⟨y0,h0⟩:=hp 0 _ rfl
 obtain ⟨y1,h1⟩:=hp 1 _ rfl
 obtain ⟨y2,h2⟩:=hp 2 _ rfl
 obtain ⟨y3,h3⟩:=hp 3 _ rfl
 obtain ⟨y4,h4⟩:=hp 4 _ rfl
 obtain ⟨y5,h5⟩:=hp 5 _ rfl
 obtain ⟨s0,e0,a0,d0,k0⟩:=(aAk w).rd enc base held n _ _ h0
 obtain ⟨s1,e1,a1,d1,k1⟩:=(amh w).rd enc base held n _ _ h1
 obtain ⟨s2,e2,a2,d2,k2⟩:=(amh w).rd enc base held n _ _ h2
 obtain ⟨s3,e3,a3,d3,k3⟩:=(atj w).rd enc base held n _ _ h3
 obtain ⟨s4,e4,a4,d4,k4⟩:=(atj w).rd enc base held n _ _ h4
 obtain ⟨s5,e5,a5,d5,k5⟩:=(aAp w).rd enc base held n _ _ h5
 have p0:=dT (s:=1) e0
 have p1:=dT (s:=1) e1
 have p2:=dT (s:=1) e2
 have p3:=dT (s:=1) e3
 have p4:=dT (s:=1) e4
 have p5:=dT (s:=1) e5
 have hz:cs.drop 6=[]:=List.drop_eq_nil_iff.2 (by rw [hl]; exact Nat.le_of_eq (by kernel_rfl))
 refine ⟨(⟨s0,s1,s2,s3,s4,s5⟩:bL),?_,(⟨a0,a1,a2,a3,a4,a5⟩:cW),⟨s0,s1,s2,s3,s4,s5,rfl,d0,d1,d2,d3,d4,d5⟩,k0,k1,k2,k3,k4,k5⟩
 have e:cs=cs.drop 0:=rfl
 rw [e]
 refine p0.trans ?_
 refine ((congrArg _ p1)).trans ?_
 refine ((congrArg _ (congrArg _ p2))).trans ?_
 refine ((congrArg _ (congrArg _ (congrArg _ p3)))).trans ?_
 refine ((congrArg _ (congrArg _ (congrArg _ (congrArg _ p4))))).trans ?_
 refine ((congrArg _ (congrArg _ (congrArg _ (congrArg _ (congrArg _ p5)))))).trans ?_
 exact (congrArg _ (congrArg _ (congrArg _ (congrArg _ (congrArg _ (congrArg _ hz))))))⟩
theorem aAq:yr Tryz.prog 28 (List Int) (λ ys:(List Int)=>∀ y∈ys,mH y):=yr.slice Tryz.underlying28 (by kernel_rfl) JM
theorem aAr:yr Tryz.prog 52 ej Qt:=λ w=>⟨by kernel_rfl,λ enc base held fuel cs x h=>by
 obtain ⟨hl,n,hp⟩:=l9 Tryz.underlying52 h
 obtain ⟨y0,h0⟩:=hp 0 _ rfl
 obtain ⟨y1,h1⟩:=hp 1 _ rfl
 obtain ⟨y2,h2⟩:=hp 2 _ rfl
 obtain ⟨y3,h3⟩:=hp 3 _ rfl
 obtain ⟨s0,e0,a0,d0,k0⟩:=(JM w).rd enc base held n _ _ h0
 obtain ⟨s1,e1,a1,d1,k1⟩:=(JM w).rd enc base held n _ _ h1
 obtain ⟨s2,e2,a2,d2,k2⟩:=(JM w).rd enc base held n _ _ h2
 obtain ⟨s3,e3,a3,d3,k3⟩:=(aAq w).rd enc base held n _ _ h3
 obtain rfl:s0=a0:=d0
 obtain rfl:s1=a1:=d1
 obtain rfl:s2=a2:=d2
 have p0:=dT (s:=1) e0
 have p1:=dT (s:=1) e1
 have p2:=dT (s:=1) e2
 have p3:=dT (s:=1) e3
 have hz:cs.drop 4=[]:=List.drop_eq_nil_iff.2 (by rw [hl]; exact Nat.le_of_eq (by kernel_rfl))
 refine ⟨(⟨s0,s1,s2,s3⟩:cX),?_,(⟨s0,s1,s2,a3⟩:ej),⟨s3,rfl,d3⟩,k0,k1,k2,k3⟩
 have e:cs=cs.drop 0:=rfl
 rw [e]
 refine p0.trans ?_
 refine ((congrArg _ p1)).trans ?_
 refine ((congrArg _ (congrArg _ p2))).trans ?_
 refine ((congrArg _ (congrArg _ (congrArg _ p3)))).trans ?_
 exact (congrArg _ (congrArg _ (congrArg _ (congrArg _ hz))))⟩
theorem rd64:yr Tryz.prog 64 D9 aiR:=λ w=>⟨by kernel_rfl,λ enc base held fuel cs x h=>by
 obtain ⟨hl,n,hp⟩:=l9 Tryz.underlying64 h
 obtain ⟨y0,h0⟩:=hp 0 _ rfl
 obtain ⟨y1,h1⟩:=hp 1 _ rfl
 obtain ⟨y2,h2⟩:=hp 2 _ rfl
 obtain ⟨s0,e0,a0,d0,k0⟩:=(JM w).rd enc base held n _ _ h0
 obtain ⟨s1,e1,a1,d1,k1⟩:=(JM w).rd enc base held n _ _ h1
 obtain ⟨s2,e2,a2,d2,k2⟩:=(aAr w).rd enc base held n _ _ h2
 obtain rfl:s0=a0:=d0
 obtain rfl:s1=a1:=d1
 have p0:=dT (s:=1) e0
 have p1:=dT (s:=1) e1
 have p2:=dT (s:=4) e2
 have hz:cs.drop 6=[]:=List.drop_eq_nil_iff.2 (by rw [hl]; exact Nat.le_of_eq (by kernel_rfl))
 refine ⟨(⟨s0,s1,s2⟩:sy),?_,(⟨s0,s1,a2⟩:D9),⟨s2,rfl,d2⟩,k0,k1,k2⟩
 have e:cs=cs.drop 0:=rfl
 rw [e]
 refine p0.trans ?_
 refine ((congrArg _ p1)).trans ?_
 refine ((congrArg _ (congrArg _ p2))).trans ?_
 exact (congrArg _ (congrArg _ (congrArg _ hz)))⟩
end Go.Proofs.YtnjcingfdhjfkaaGreat
