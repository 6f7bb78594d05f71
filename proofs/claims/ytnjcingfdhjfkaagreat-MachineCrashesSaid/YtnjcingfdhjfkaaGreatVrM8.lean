/-
  What the proof needs, part 8.
-/
import Derived.Test.YtnjcingfdhjfkaaGreatVrM7
set_option linter.all false
namespace Go.Proofs.YtnjcingfdhjfkaaGreat
open Go.Fw
def Tv (g:Int→Nat) (ta tb:Nat) (x:cG):Nat:=
 if x.kind=11 then g 12+max (ta+(if 0<x.fF then g 11 else 0)) tb
 else if x.kind=12 then g 13+x.n.toNat * (ta+g 14)
 else if x.kind=13 then g 11 else g (if x.kind=14 then 15 else x.kind)
def qH (g:Int→Nat):Bk→Nat
 | .nil=>0
 | .cons x a b r=>Tv g (qH g a) (qH g b) x+qH g r
def oD (x:cG) (a b r:Bk) (at_:Int):Int:=at_+(bV (.cons x a b r) - bV r)
def W (g:Int→Nat):Bk→Int→Int→List Int→Int→Nat→Nat→Option Nat
 | .nil,at_,_,_,pos,kE,_=>if pos=at_ then some kE else none
 | .cons x a b r,at_,lp,cs,pos,kE,kO=>
  if oD x a b r at_≤pos then W g r (oD x a b r at_) lp cs pos kE kO
  else if pos=at_ then (if x.kind=13 then some (g 11+kO) else some (Tv g (qH g a) (qH g b) x+(qH g r+kE)))
  else if x.kind=11 then (if pos<rB x a at_ then W g a (at_+1) lp cs pos ((if 0<x.fF then g 11 else 0)+(qH g r+kE)) kO else W g b (rB x a at_) lp cs pos (qH g r+kE) kO)
  else if x.kind=12 then (if 1≤cs.getD lp.toNat 0∧cs.getD lp.toNat 0≤8 then W g a (at_+1) (lp+1) cs pos (g 14+((cs.getD lp.toNat 0).toNat - 1) * (qH g a+g 14)+(qH g r+kE)) (qH g r+kE) else none)
  else none
theorem O2 (x:cG) (a b r:Bk) (at_:Int):at_+1≤oD x a b r at_:=by
 have h1:=iR a; have h2:=iR b
 have e:bV (.cons x a b r)=(if x.kind=12 then 2+bV a else if x.kind=11 then (if 0<x.fF then 1+bV a+bV b+1 else 1+bV a+bV b) else 1)+bV r:=rfl
 unfold oD; rw [e]
 repeat' split
 all_goals omega
section
variable {g:Int→Nat} {lp:Int} {cs:List Int} {kE kO:Nat}
theorem xy (t:Bk) (at_:Int) (h:kO≤kE):∃ r,W g t at_ lp cs at_ kE kO=some r∧r≤qH g t+kE:=by
 cases t with
 | nil=>exact ⟨kE,if_pos rfl,by unfold qH; omega⟩
 | cons x a b r=>
  have h1:=O2 x a b r at_
  rw [show qH g (.cons x a b r)=Tv g (qH g a) (qH g b) x+qH g r from rfl]
  unfold W
  rw [if_neg (show ¬ oD x a b r at_≤at_ by omega),if_pos rfl]
  by_cases hk:x.kind=13
  ·rw [if_pos hk]
   have:Tv g (qH g a) (qH g b) x=g 11:=by unfold Tv; rw [if_neg (show ¬ x.kind=11 by omega),if_neg (show ¬ x.kind=12 by omega),if_pos hk]
   exact ⟨_,rfl,by omega⟩
  ·rw [if_neg hk]; exact ⟨_,rfl,by omega⟩
theorem Rs (t:Bk):∀ (at_ pos:Int),pos=at_+bV t→W g t at_ lp cs pos kE kO=some kE:=by
 induction t with
 | nil=>intro at_ pos h; unfold W; rw [if_pos (by have:bV .nil=0:=rfl; omega)]
 | cons x a b r _ _ ih=>
  intro at_ pos h
  have h1:=O2 x a b r at_
  have h2:=iR r
  have e:oD x a b r at_=at_+(bV (.cons x a b r) - bV r):=rfl
  unfold W
  rw [if_pos (by omega)]
  exact ih _ _ (by omega)
theorem O3 {x:cG} {a b r:Bk} {at_ pos:Int} (h:oD x a b r at_≤pos):W g (.cons x a b r) at_ lp cs pos kE kO=W g r (oD x a b r at_) lp cs pos kE kO:=by
 conv=>lhs; unfold W
 rw [if_pos h]
theorem alj {x:cG} {a b r:Bk} {at_:Int} (h:kO≤kE):∃ r',W g (.cons x a b r) at_ lp cs (oD x a b r at_) kE kO=some r'∧r'≤qH g r+kE:=by
 rw [O3 (Int.le_refl _)]; exact xy r _ h
end
def Tr (x:aW) (pos:Int) (cs:List Int) (pos':Int) (cs':List Int):Prop:=
 (x.kind=11∧pos'=x.to∧cs'=cs)∨(x.kind=12∧(pos'=x.to∨pos'=pos+1)∧cs'=cs)∨(x.kind=13∧pos'=pos+1∧cs'=cs.set x.a.toNat x.b)∨
 (x.kind=14∧cs'=cs.set x.a.toNat (q9 (cs.getD x.a.toNat 0 - 1))∧((0<q9 (cs.getD x.a.toNat 0 - 1)∧pos'=x.to)∨(¬ 0<q9 (cs.getD x.a.toNat 0 - 1)∧pos'=pos+1)))∨
 (¬ x.kind=11∧¬ x.kind=12∧¬ x.kind=13∧¬ x.kind=14∧pos'=pos+1∧cs'=cs)
theorem alk {n:Int} (h:0≤n∧n≤8):q9 n=n:=by
 obtain rfl | rfl | rfl | rfl | rfl | rfl | rfl | rfl | rfl:n=0∨n=1∨n=2∨n=3∨n=4∨n=5∨n=6∨n=7∨n=8:=by omega
 all_goals decide
theorem Cj {cs:List Int} {i:Nat} {v:Int} (h:i<cs.length):(cs.set i v).getD i 0=v:=by
 rw [List.getD_eq_getElem?_getD,List.getElem?_set_self h]; rfl
theorem getD_set_ne {cs:List Int} {i j:Nat} {v:Int} (h:i≠j):(cs.set i v).getD j 0=cs.getD j 0:=by
 rw [List.getD_eq_getElem?_getD,List.getElem?_set_ne h,← List.getD_eq_getElem?_getD]
theorem AU {α:Type} {l1 l2:List α} {k:Int} {x:α} (h:(l1++l2)[k.toNat]? = some x) (hk:k.toNat<l1.length):l1[k.toNat]? = some x:=by
 rwa [List.getElem?_append_left hk] at h
theorem uC {α:Type} {l1 l2:List α} {k j:Int} {x:α} (h:(l1++l2)[k.toNat]? = some x) (hk:l1.length≤k.toNat) (hj:j.toNat=k.toNat - l1.length):l2[j.toNat]? = some x:=by
 rw [List.getElem?_append_right hk] at h; rwa [hj]
theorem at_one {α:Type} {y x:α} {k:Int} (h:[y][k.toNat]? = some x):x=y:=by
 cases hk:k.toNat with
 | zero=>rw [hk] at h; simp at h; exact h.symm
 | succ n=>rw [hk] at h; simp at h
structure Mq (g:Int→Nat) (t:Bk) (at_ lp out loops:Int) (cs cs':List Int) (pos':Int) (kE kO r c:Nat):Prop where
 low:∀ j:Nat,(j:Int)<lp→cs'.getD j 0=cs.getD j 0
 len:cs'.length=cs.length
 go:(at_≤pos'∧pos'≤at_+bV t∧∃ r',W g t at_ lp cs' pos' kE kO=some r'∧r'+c≤r)∨(loops≠0∧pos'=out∧kO+c≤r)
section
variable {g:Int→Nat} {p:cU} {rs:List ByteArray}
theorem adZ {x:aW} {pos pos':Int} {cs cs':List Int} (h:Tr x pos cs pos' cs') (h1:¬ x.kind=11) (h2:¬ x.kind=12) (h3:¬ x.kind=13) (h4:¬ x.kind=14):pos'=pos+1∧cs'=cs:=by
 rcases h with ⟨q,_⟩ | ⟨q,_⟩ | ⟨q,_⟩ | ⟨q,_⟩ | ⟨_,_,_,_,h⟩
 ·exact absurd q h1
 ·exact absurd q h2
 ·exact absurd q h3
 ·exact absurd q h4
 ·exact h
theorem agz {x:aW} {pos pos':Int} {cs cs':List Int} (h:Tr x pos cs pos' cs') (h1:x.kind=11):pos'=x.to∧cs'=cs:=by
 rcases h with ⟨q,h⟩ | ⟨q,_⟩ | ⟨q,_⟩ | ⟨q,_⟩ | ⟨q,_⟩
 ·exact h
 all_goals omega
theorem asf {x:aW} {pos pos':Int} {cs cs':List Int} (h:Tr x pos cs pos' cs') (h1:x.kind=12):(pos'=x.to∨pos'=pos+1)∧cs'=cs:=by
 rcases h with ⟨q,_⟩ | ⟨q,h⟩ | ⟨q,_⟩ | ⟨q,_⟩ | ⟨_,q,_⟩
 ·omega
 ·exact h
 all_goals omega
theorem asg {x:aW} {pos pos':Int} {cs cs':List Int} (h:Tr x pos cs pos' cs') (h1:x.kind=13):pos'=pos+1∧cs'=cs.set x.a.toNat x.b:=by
 rcases h with ⟨q,_⟩ | ⟨q,_⟩ | ⟨q,h⟩ | ⟨q,_⟩ | ⟨_,_,q,_⟩
 ·omega
 ·omega
 ·exact h
 all_goals omega
theorem ash {x:aW} {pos pos':Int} {cs cs':List Int} (h:Tr x pos cs pos' cs') (h1:x.kind=14):cs'=cs.set x.a.toNat (q9 (cs.getD x.a.toNat 0 - 1))∧((0<q9 (cs.getD x.a.toNat 0 - 1)∧pos'=x.to)∨(¬ 0<q9 (cs.getD x.a.toNat 0 - 1)∧pos'=pos+1)):=by
 rcases h with ⟨q,_⟩ | ⟨q,_⟩ | ⟨q,_⟩ | ⟨q,h⟩ | ⟨_,_,_,q,_⟩
 ·omega
 ·omega
 ·omega
 ·exact h
 ·omega
theorem alm (t:Bk):∀ (at_ lp out loops:Int) (cs:List Int) (pos:Int) (kE kO r:Nat) (x:aW) (pos':Int) (cs':List Int),W g t at_ lp cs pos kE kO=some r→at_≤pos→pos<at_+bV t→kO≤kE→ky t→t.str→t.ok loops=true→0≤lp→lp+iS t≤cs.length→
  (eR p rs t at_ lp out)[(pos - at_).toNat]? = some x→Tr x pos cs pos' cs'→Mq g t at_ lp out loops cs cs' pos' kE kO r (g x.kind):=by
 induction t with
 | nil=>intro at_ lp out loops cs pos kE kO r x pos' cs' _ h1 h2; have:bV .nil=0:=rfl; omega
 | cons x a b rr vB xJ GN=>
  intro at_ lp out loops cs pos kE kO r y pos' cs' hW hp1 YO hO HF IE oF L7 TA hy hT
  have hsa:=iR a; have hsb:=iR b; have hsr:=iR rr
  have hda:=sX a; have hdb:=sX b; have hdr:=sX rr
  obtain ⟨Sb,hs2,_,_,O0,X7,X8⟩:=IE
  unfold Bk.ok at oF
  simp only [Bool.and_eq_true] at oF
  obtain ⟨⟨⟨ho1,Pf⟩,X4⟩,ho4⟩:=oF
  unfold Bk.y9 at ho1
  rw [decide_eq_true_eq] at ho1
  have lC:bV (.cons x a b rr)=(if x.kind=12 then 2+bV a else if x.kind=11 then (if 0<x.fF then 1+bV a+bV b+1 else 1+bV a+bV b) else 1)+bV rr:=rfl
  have hdp:iS (.cons x a b rr)=max (if x.kind=12 then max (iS a) (iS b)+1 else max (iS a) (iS b)) (iS rr):=rfl
  have Ll:=IG p rs x a b rr at_ lp out
  have hee:oD x a b rr at_=at_+(bV (.cons x a b rr) - bV rr):=rfl
  have hen:=O2 x a b rr at_
  rw [uZ] at hy
  have next:∀ Rt:List Int,∀ c:Nat,(∀ j:Nat,(j:Int)<lp→Rt.getD j 0=cs.getD j 0)→Rt.length=cs.length→qH g rr+kE+c≤r→Mq g (.cons x a b rr) at_ lp out loops cs Rt (oD x a b rr at_) kE kO r c:=by
   intro Rt c h1 h2 h3
   obtain ⟨r',h4,h5⟩:=alj (g:=g) (lp:=lp) (cs:=Rt) (kE:=kE) (kO:=kO) (x:=x) (a:=a) (b:=b) (r:=rr) (at_:=at_) hO
   exact ⟨h1,h2,.inl ⟨by omega,by omega,r',h4,by omega⟩⟩
  by_cases hE:oD x a b rr at_≤pos
  ·rw [O3 hE] at hW
   have hy2:=uC (j:=pos - oD x a b rr at_) hy (by omega) (by omega)
   have hR:=GN (oD x a b rr at_) lp out loops cs pos kE kO r y pos' cs' hW hE (by omega) hO HF.r X8 ho4 L7 (by omega) (by rw [hee,← Ll]; rw [hee,← Ll] at hy2; exact hy2) hT
   refine ⟨hR.low,hR.len,?_⟩
   rcases hR.go with ⟨h1,h2,r',h3,h4⟩ | h1
   ·exact .inl ⟨by omega,by omega,r',by rw [O3 h1]; exact h3,h4⟩
   ·exact .inr h1
  ·have Jr:=AU hy (by omega)
   clear hy
   have hWp:∀ (Rt:List Int) (q:Int),¬ oD x a b rr at_≤q→q≠at_→W g (.cons x a b rr) at_ lp Rt q kE kO =
     (if x.kind=11 then (if q<rB x a at_ then W g a (at_+1) lp Rt q ((if 0<x.fF then g 11 else 0)+(qH g rr+kE)) kO else W g b (rB x a at_) lp Rt q (qH g rr+kE) kO)
      else if x.kind=12 then (if 1≤Rt.getD lp.toNat 0∧Rt.getD lp.toNat 0≤8 then W g a (at_+1) (lp+1) Rt q (g 14+((Rt.getD lp.toNat 0).toNat - 1) * (qH g a+g 14)+(qH g rr+kE)) (qH g rr+kE) else none) else none):=by
    intro Rt q h1 h2
    conv=>lhs; unfold W
    rw [if_neg h1,if_neg h2]
   have hWs:pos=at_→W g (.cons x a b rr) at_ lp cs pos kE kO=if x.kind=13 then some (g 11+kO) else some (Tv g (qH g a) (qH g b) x+(qH g rr+kE)):=by
    intro h1
    conv=>lhs; unfold W
    rw [if_neg hE,if_pos h1]
   unfold FW at Jr Ll
   have O4:∀ j:Nat,(j:Int)<lp→cs.getD j 0=cs.getD j 0:=λ _ _=>rfl
   by_cases vC:x.kind=11
   ·rw [if_pos vC] at Jr Ll
    rw [if_neg (show ¬ x.kind=12 by omega),if_pos vC] at lC
    rw [if_neg (show ¬ x.kind=12 by omega)] at hdp
    have vl:Bk.B4 x loops=loops:=by unfold Bk.B4; rw [if_neg (by omega)]
    rw [vl] at Pf X4
    have MG:=gZ p rs a (at_+1) lp out
    have Qi:=gZ p rs b (rB x a at_) lp out
    have Da:rB x a at_=if 0<x.fF then at_+1+bV a+1 else at_+1+bV a:=rfl
    have hhd:Tv g (qH g a) (qH g b) x=g 12+max (qH g a+(if 0<x.fF then g 11 else 0)) (qH g b):=by unfold Tv; rw [if_pos vC]
    have toB:∀ c:Nat,qH g b+(qH g rr+kE)+c≤r→Mq g (.cons x a b rr) at_ lp out loops cs cs (rB x a at_) kE kO r c:=by
     intro c hc
     by_cases hz:oD x a b rr at_≤rB x a at_
     ·have:rB x a at_=oD x a b rr at_:=by split at lC <;> (first | rw [if_pos (by assumption)] at Da | rw [if_neg (by assumption)] at Da) <;> omega
      rw [this]; exact next cs c O4 rfl (by omega)
     ·obtain ⟨r',h4,h5⟩:=xy (g:=g) (lp:=lp) (cs:=cs) (kE:=qH g rr+kE) (kO:=kO) b (rB x a at_) (by omega)
      have h6:at_+1≤rB x a at_:=by rw [Da]; split <;> omega
      exact ⟨O4,rfl,.inl ⟨by omega,by omega,r',by rw [hWp cs _ hz (by omega),if_pos vC,if_neg (by omega)]; exact h4,by omega⟩⟩
    by_cases Ya:pos=at_
    ·rw [hWs Ya,if_neg (show ¬ x.kind=13 by omega),hhd] at hW
     obtain rfl:=Option.some.inj hW
     have Yb:y=⟨12,0,0,gi rs x.e,[],rB x a at_⟩:=by
      rw [Ya,show (at_ - at_).toNat=0 from by omega] at Jr
      simpa using Jr.symm
     subst Yb
     obtain ⟨hq,rfl⟩:=asf hT rfl
     rcases hq with rfl | rfl
     ·exact toB _ (by show _+g 12≤_; omega)
     ·by_cases hz:oD x a b rr at_≤pos+1
      ·have:pos+1=oD x a b rr at_:=by omega
       rw [this]; exact next _ _ O4 rfl (by show _+g 12≤_; omega)
      ·by_cases hz2:pos+1<rB x a at_
       ·obtain ⟨r',h4,h5⟩:=xy (g:=g) (lp:=lp) (cs:=cs') (kE:=(if 0<x.fF then g 11 else 0)+(qH g rr+kE)) (kO:=kO) a (at_+1) (by omega)
        refine ⟨O4,rfl,.inl ⟨by omega,by omega,r',?_,by show _+g 12≤_; omega⟩⟩
        rw [hWp _ _ hz (by omega),if_pos vC,if_pos hz2,Ya]; exact h4
       ·exfalso
        split at lC
        ·rename_i he; rw [if_pos he] at Da; omega
        ·rename_i he; rw [if_neg he] at Da
         have JA:=Fm (b:=b) (by omega)
         subst JA
         have:bV .nil=0:=rfl
         omega
    ·rw [hWp cs pos hE Ya,if_pos vC] at hW
     by_cases hpt:pos<rB x a at_
     ·rw [if_pos hpt] at hW
      by_cases hpe:pos<at_+1+bV a
      ·have hya:(eR p rs a (at_+1) lp out)[(pos - (at_+1)).toNat]? = some y:=by
        have h1:=AU (AU Jr (by simp only [List.length_append,List.length_singleton]; split <;> simp <;> omega)) (by simp only [List.length_append,List.length_singleton]; omega)
        exact uC h1 (by simp only [List.length_singleton]; omega) (by simp only [List.length_singleton]; omega)
       have hR:=vB (at_+1) lp out loops cs pos _ kO r y pos' cs' hW (by omega) hpe (by omega) HF.a O0 Pf L7 (by omega) hya hT
       rcases hR.go with ⟨h1,h2,r',h3,h4⟩ | h1
       ·by_cases hz:oD x a b rr at_≤pos'
        ·have e1:pos'=at_+1+bV a:=by split at lC <;> omega
         have e2:pos'=oD x a b rr at_:=by split at lC <;> omega
         rw [Rs a (at_+1) pos' e1] at h3
         obtain rfl:=Option.some.inj h3
         rw [e2]; exact next cs' _ hR.low hR.len (by omega)
        ·refine ⟨hR.low,hR.len,.inl ⟨by omega,by omega,r',?_,h4⟩⟩
         rw [hWp cs' pos' hz (by omega),if_pos vC]
         by_cases hz2:pos'<rB x a at_
         ·rw [if_pos hz2]; exact h3
         ·exfalso
          split at lC
          ·rename_i he; rw [if_pos he] at Da; omega
          ·rename_i he; rw [if_neg he] at Da
           have JA:=Fm (b:=b) (by omega)
           subst JA
           have:bV .nil=0:=rfl
           omega
       ·exact ⟨hR.low,hR.len,.inr h1⟩
      ·have asi:0<x.fF:=by
        by_cases he:0<x.fF
        ·exact he
        ·rw [if_neg he] at Da; omega
       rw [if_pos asi] at Da lC hW
       rw [if_pos asi] at Jr
       have e1:pos=at_+1+bV a:=by omega
       rw [Rs a (at_+1) pos e1] at hW
       obtain rfl:=Option.some.inj hW
       have Yb:y=⟨11,0,0,[],[],rB x a at_+bV b⟩:=by
        have h1:=AU Jr (by simp only [List.length_append,List.length_singleton]; omega)
        exact at_one (uC (j:=0) h1 (by simp only [List.length_append,List.length_singleton]; omega) (by simp only [List.length_append,List.length_singleton]; omega))
       subst Yb
       obtain ⟨rfl,rfl⟩:=agz hT rfl
       have e2:rB x a at_+bV b=oD x a b rr at_:=by omega
       show Mq g _ at_ lp out loops cs' cs' (rB x a at_+bV b) kE kO _ (g 11)
       rw [e2]; exact next _ _ O4 rfl (by omega)
     ·rw [if_neg hpt] at hW
      have hyb:(eR p rs b (rB x a at_) lp out)[(pos - rB x a at_).toNat]? = some y:=by
       refine uC Jr ?_ ?_
       ·simp only [List.length_append,List.length_singleton]; rw [Da] at hpt; split <;> split at hpt <;> simp <;> omega
       ·simp only [List.length_append,List.length_singleton]; rw [Da]; split <;> simp <;> omega
      have hR:=xJ (rB x a at_) lp out loops cs pos _ kO r y pos' cs' hW (by omega) (by split at lC <;> (first | rw [if_pos (by assumption)] at Da | rw [if_neg (by assumption)] at Da) <;> omega) (by omega) HF.b X7 X4 L7 (by omega) hyb hT
      have h6:at_+1≤rB x a at_:=by rw [Da]; split <;> omega
      have h7:rB x a at_+bV b=oD x a b rr at_:=by split at lC <;> (first | rw [if_pos (by assumption)] at Da | rw [if_neg (by assumption)] at Da) <;> omega
      rcases hR.go with ⟨h1,h2,r',h3,h4⟩ | h1
      ·by_cases hz:oD x a b rr at_≤pos'
       ·rw [Rs b _ pos' (by omega)] at h3
        obtain rfl:=Option.some.inj h3
        rw [show pos'=oD x a b rr at_ from by omega]
        exact next cs' _ hR.low hR.len (by omega)
       ·refine ⟨hR.low,hR.len,.inl ⟨by omega,by omega,r',?_,h4⟩⟩
        rw [hWp cs' pos' hz (by omega),if_pos vC,if_neg (by omega)]; exact h3
      ·exact ⟨hR.low,hR.len,.inr h1⟩
   ·rw [if_neg vC] at Jr Ll
    by_cases xK:x.kind=12
    ·rw [if_pos xK] at Jr Ll lC hdp
     have vl:Bk.B4 x loops=loops+1:=by unfold Bk.B4; rw [if_pos xK]
     rw [vl] at Pf
     have MG:=gZ p rs a (at_+1) (lp+1) (at_+2+bV a)
     have hxn:=HF.x xK
     have hhd:Tv g (qH g a) (qH g b) x=g 13+x.n.toNat * (qH g a+g 14):=by unfold Tv; rw [if_neg vC,if_pos xK]
     by_cases Ya:pos=at_
     ·rw [hWs Ya,if_neg (show ¬ x.kind=13 by omega),hhd] at hW
      obtain rfl:=Option.some.inj hW
      have Yb:y=⟨13,lp,x.n,[],[],0⟩:=by
       rw [Ya,show (at_ - at_).toNat=0 from by omega] at Jr
       simpa using Jr.symm
      subst Yb
      obtain ⟨rfl,rfl⟩:=asg hT rfl
      have hg:(cs.set lp.toNat x.n).getD lp.toNat 0=x.n:=Cj (by omega)
      obtain ⟨r',h4,h5⟩:=xy (g:=g) (lp:=lp+1) (cs:=cs.set lp.toNat x.n) (kE:=g 14+(x.n.toNat - 1) * (qH g a+g 14)+(qH g rr+kE)) (kO:=qH g rr+kE) a (at_+1) (by omega)
      obtain ⟨m,hm⟩:∃ m,x.n.toNat=m+1:=⟨x.n.toNat - 1,by omega⟩
      rw [hm,Nat.add_sub_cancel] at h4 h5
      refine ⟨λ j hj=>getD_set_ne (by show lp.toNat≠j; omega),by simp,.inl ⟨by omega,by omega,r',?_,?_⟩⟩
      ·show W g _ at_ lp (cs.set lp.toNat x.n) (pos+1) kE kO=_
       rw [hWp _ _ (by omega) (by omega),if_neg vC,if_pos xK,hg,if_pos hxn,hm,Nat.add_sub_cancel,Ya]; exact h4
      ·show r'+g 13≤_
       rw [hm,Nat.succ_mul]; omega
     ·rw [hWp cs pos hE Ya,if_neg vC,if_pos xK] at hW
      split at hW
      ·rename_i hcc
       by_cases hpe:pos<at_+1+bV a
       ·have hya:(eR p rs a (at_+1) (lp+1) (at_+2+bV a))[(pos - (at_+1)).toNat]? = some y:=by
         have h1:=AU Jr (by simp only [List.length_append,List.length_singleton]; omega)
         exact uC h1 (by simp only [List.length_singleton]; omega) (by simp only [List.length_singleton]; omega)
        have hR:=vB (at_+1) (lp+1) (at_+2+bV a) (loops+1) cs pos _ _ r y pos' cs' hW (by omega) hpe (by omega) HF.a O0 Pf (by omega) (by omega) hya hT
        have hce:cs'.getD lp.toNat 0=cs.getD lp.toNat 0:=hR.low lp.toNat (by omega)
        have S2:∀ j:Nat,(j:Int)<lp→cs'.getD j 0=cs.getD j 0:=λ j hj=>hR.low j (by omega)
        rcases hR.go with ⟨h1,h2,r',h3,h4⟩ | ⟨_,h1,h2⟩
        ·refine ⟨S2,hR.len,.inl ⟨by omega,by omega,r',?_,h4⟩⟩
         rw [hWp cs' pos' (by omega) (by omega),if_neg vC,if_pos xK,hce,if_pos hcc]; exact h3
        ·rw [show pos'=oD x a b rr at_ from by omega]
         exact next cs' _ S2 hR.len (by omega)
       ·have e1:pos=at_+1+bV a:=by omega
        rw [Rs a (at_+1) pos e1] at hW
        obtain rfl:=Option.some.inj hW
        have Yb:y=⟨14,lp,0,[],[],at_+1⟩:=at_one (uC (j:=0) Jr (by simp only [List.length_append,List.length_singleton]; omega) (by simp only [List.length_append,List.length_singleton]; omega))
        subst Yb
        obtain ⟨rfl,hq⟩:=ash hT rfl
        have hwe:q9 (cs.getD lp.toNat 0 - 1)=cs.getD lp.toNat 0 - 1:=alk (by omega)
        have hq:(0<q9 (cs.getD lp.toNat 0 - 1)∧pos'=at_+1)∨(¬ 0<q9 (cs.getD lp.toNat 0 - 1)∧pos'=pos+1):=hq
        have S2:∀ j:Nat,(j:Int)<lp→(cs.set lp.toNat (q9 (cs.getD lp.toNat 0 - 1))).getD j 0=cs.getD j 0:=λ j hj=>getD_set_ne (by omega)
        show Mq g _ at_ lp out loops cs (cs.set lp.toNat (q9 (cs.getD lp.toNat 0 - 1))) pos' kE kO _ (g 14)
        rw [hwe] at hq S2 ⊢
        rcases hq with ⟨q1,q2⟩ | ⟨q1,q2⟩
        ·have hg:(cs.set lp.toNat (cs.getD lp.toNat 0 - 1)).getD lp.toNat 0=cs.getD lp.toNat 0 - 1:=Cj (by omega)
         obtain ⟨m,hm⟩:∃ m,(cs.getD lp.toNat 0).toNat=m+2:=⟨(cs.getD lp.toNat 0).toNat - 2,by omega⟩
         obtain ⟨r',h4,h5⟩:=xy (g:=g) (lp:=lp+1) (cs:=cs.set lp.toNat (cs.getD lp.toNat 0 - 1)) (kE:=g 14+m * (qH g a+g 14)+(qH g rr+kE)) (kO:=qH g rr+kE) a (at_+1) (by omega)
         refine ⟨S2,by simp,.inl ⟨by omega,by omega,r',?_,?_⟩⟩
         ·rw [hWp _ _ (by omega) (by omega),if_neg vC,if_pos xK,hg,if_pos (by omega),q2,show (cs.getD lp.toNat 0 - 1).toNat - 1=m from by omega]; exact h4
         ·rw [hm,show m+2 - 1=m+1 from by omega,Nat.succ_mul]; omega
        ·rw [show pos'=oD x a b rr at_ from by omega]
         exact next _ _ S2 (by simp) (by omega)
      ·cases hW
    ·rw [if_neg xK] at Jr Ll
     rw [if_neg xK,if_neg vC] at lC
     have Ya:pos=at_:=by omega
     rw [hWs Ya] at hW
     by_cases JC:x.kind=13
     ·rw [if_pos JC] at Jr hW
      obtain rfl:=Option.some.inj hW
      have Yb:=at_one Jr
      subst Yb
      obtain ⟨rfl,rfl⟩:=agz hT rfl
      exact ⟨O4,rfl,.inr ⟨by omega,rfl,by show kO+g 11≤_; omega⟩⟩
     ·rw [if_neg JC] at Jr hW
      obtain rfl:=Option.some.inj hW
      have Yb:=at_one Jr
      subst Yb
      have nj:(lF p rs x).kind=if x.kind=14 then 15 else x.kind:=rfl
      obtain ⟨rfl,rfl⟩:=adZ hT (by rw [nj]; split <;> omega) (by rw [nj]; split <;> omega) (by rw [nj]; split <;> omega) (by rw [nj]; split <;> omega)
      have hhd:Tv g (qH g a) (qH g b) x=g (lF p rs x).kind:=by unfold Tv; rw [if_neg vC,if_neg xK,if_neg JC,nj]
      rw [show pos+1=oD x a b rr at_ from by omega]
      exact next _ _ O4 rfl (by omega)
end
structure Mr (p:cU) (c:fm) (b:Bk) (rs:List ByteArray):Prop where
 l:c.l=eR p rs b 0 0 0
 cn:c.counts=iS b
 rd:ky b
 str:b.str
 ok:b.ok 0=true
structure TW (g:Int→Nat) (p:cU) (b:Bk) (rs:List ByteArray) (t:fK) (r:Nat):Prop where
 code:Mr p t.code b rs
 cl:(t.counts.length:Int)=t.code.counts
 a0:0≤t.at_
 a1:t.at_≤bV b
 w:W g b 0 0 t.counts t.at_ 0 0=some r
section
variable {g:Int→Nat} {p:cU} {b:Bk} {rs:List ByteArray} {t t':fK} {r:Nat}
theorem TW.next {x:aW} (h:TW g p b rs t r) (hn:gS t=some x) (hT:Tr x t.at_ t.counts t'.at_ t'.counts) (hc:t'.code=t.code):∃ r',TW g p b rs t' r'∧r'+g x.kind≤r:=by
 have h1:=(qM hn).2
 have hl:=gZ p rs b 0 0 0
 rw [h.code.l] at h1
 have hx:(eR p rs b 0 0 0)[(t.at_ - 0).toNat]? = some x:=by
  unfold gS at hn
  rw [h.code.l] at hn
  rw [if_neg (by omega)] at hn
  rw [Int.sub_zero]; exact hn
 have YD:=h.code.cn
 have Qq:=h.cl
 have hR:=alm (g:=g) (p:=p) (rs:=rs) b 0 0 0 0 t.counts t.at_ 0 0 r x t'.at_ t'.counts h.w h.a0 (by omega) (Nat.le_refl _) h.code.rd h.code.str h.code.ok (Int.le_refl _) (by omega) hx hT
 rcases hR.go with ⟨h3,h4,r',h5,h6⟩ | ⟨h3,_⟩
 ·exact ⟨r',⟨by rw [hc]; exact h.code,by rw [hR.len,hc]; exact h.cl,h3,by omega,h5⟩,h6⟩
 ·exact absurd rfl h3
theorem TW.same (h:TW g p b rs t r) (hc:t'.code=t.code) (ha:t'.at_=t.at_) (hk:t'.counts=t.counts):TW g p b rs t' r:=
 ⟨by rw [hc]; exact h.code,by rw [hk,hc]; exact h.cl,by rw [ha]; exact h.a0,by rw [ha]; exact h.a1,by rw [hk,ha]; exact h.w⟩
theorem aln {x:aW} {e:Int} (h:(wG t x e).2=true):Tr x t.at_ t.counts (wG t x e).1.at_ (wG t x e).1.counts:=by
 by_cases h1:x.kind=1
 ·rw [W3 h1]; exact .inr (.inr (.inr (.inr ⟨by omega,by omega,by omega,by omega,rfl,rfl⟩)))
 by_cases vC:x.kind=11
 ·rw [Oh vC]; exact .inl ⟨vC,rfl,rfl⟩
 by_cases xK:x.kind=12
 ·by_cases he:e=0
  ·rw [I1 xK he]; exact .inr (.inl ⟨xK,.inl rfl,rfl⟩)
  ·rw [I2 xK he]; exact .inr (.inl ⟨xK,.inr rfl,rfl⟩)
 by_cases JC:x.kind=13
 ·rw [Oi JC]; exact .inr (.inr (.inl ⟨JC,rfl,rfl⟩))
 by_cases Qh:x.kind=14
 ·by_cases he:0<q9 (t.counts.getD x.a.toNat 0 - 1)
  ·rw [I3 Qh he]; exact .inr (.inr (.inr (.inl ⟨Qh,rfl,.inl ⟨he,rfl⟩⟩)))
  ·rw [I4 Qh he]; exact .inr (.inr (.inr (.inl ⟨Qh,rfl,.inr ⟨he,rfl⟩⟩)))
 by_cases h15:x.kind=15
 ·by_cases he:e=0
  ·rw [I5 h15 he] at h; cases h
  ·rw [I6 h15 he]; exact .inr (.inr (.inr (.inr ⟨vC,xK,JC,Qh,rfl,rfl⟩)))
 ·rw [Oj h1 vC xK JC Qh h15] at h; cases h
theorem Yc {x:aW} {e:Int} (h:(wG t x e).2=false):(wG t x e).1.at_=t.at_∧(wG t x e).1.counts=t.counts∧(wG t x e).1.aK=t.aK:=by
 by_cases h1:x.kind=1
 ·rw [W3 h1] at h; cases h
 by_cases vC:x.kind=11
 ·rw [Oh vC] at h; cases h
 by_cases xK:x.kind=12
 ·by_cases he:e=0
  ·rw [I1 xK he] at h; cases h
  ·rw [I2 xK he] at h; cases h
 by_cases JC:x.kind=13
 ·rw [Oi JC] at h; cases h
 by_cases Qh:x.kind=14
 ·by_cases he:0<q9 (t.counts.getD x.a.toNat 0 - 1)
  ·rw [I3 Qh he] at h; cases h
  ·rw [I4 Qh he] at h; cases h
 by_cases h15:x.kind=15
 ·by_cases he:e=0
  ·rw [I5 h15 he]; exact ⟨rfl,rfl,rfl⟩
  ·rw [I6 h15 he] at h; cases h
 ·rw [Oj h1 vC xK JC Qh h15]; exact ⟨rfl,rfl,rfl⟩
theorem Ht (h:(fI t).2=true):∃ x,gS t=some x∧Tr x t.at_ t.counts (fI t).1.at_ (fI t).1.counts:=by
 cases hn:gS t with
 | none=>rw [Av hn] at h; cases h
 | some x=>
  refine ⟨x,rfl,?_⟩
  cases he:(ew x.e t.aK).2 with
  | false=>rw [Aw hn he] at h; cases h
  | true=>
   cases hf:(ew x.f t.aK).2 with
   | false=>rw [Ax hn he hf] at h; cases h
   | true=>
    rw [kB hn he hf] at h ⊢
    exact aln (t:=tF (tE t x) x) h
theorem Ms (h:(fI t).2=false):(fI t).1.at_=t.at_∧(fI t).1.counts=t.counts:=by
 cases hn:gS t with
 | none=>rw [Av hn]; exact ⟨rfl,rfl⟩
 | some x=>
  cases he:(ew x.e t.aK).2 with
  | false=>rw [Aw hn he]; exact ⟨rfl,rfl⟩
  | true=>
   cases hf:(ew x.f t.aK).2 with
   | false=>rw [Ax hn he hf]; exact ⟨rfl,rfl⟩
   | true=>
    rw [kB hn he hf] at h ⊢
    have:=Yc (t:=tF (tE t x) x) h
    exact ⟨this.1,this.2.1⟩
theorem TW.go:∀ {N:Nat} {t t':fK} {r:Nat},TW g p b rs t r→sN N t=some t'→∃ r',TW g p b rs t' r'∧r'≤r
 | 0,_,_,_,_,h=>by cases h
 | N+1,t,t',r,h0,h=>by
  unfold sN at h
  split at h
  ·rename_i hs
   obtain ⟨x,hn,hT⟩:=Ht hs
   obtain ⟨r1,h1,h2⟩:=h0.next hn hT (pR t).1
   obtain ⟨r2,h3,h4⟩:=TW.go h1 h
   exact ⟨r2,h3,by omega⟩
  ·rename_i hs
   cases h
   have:=Ms (by simpa using hs)
   exact ⟨r,h0.same (pR t).1 this.1 this.2,Nat.le_refl _⟩
theorem Mt:∀ {n:Nat} {t:fK} {r:Nat},TW (λ _=>1) p b rs t r→r≤n→∃ t',sN (n+1) t=some t'
 | n,t,r,h0,hr=>by
  cases hs:(fI t).2 with
  | false=>exact ⟨_,by unfold sN; rw [hs]; rfl⟩
  | true=>
   obtain ⟨x,hn,hT⟩:=Ht hs
   obtain ⟨r1,h1,h2⟩:=h0.next hn hT (pR t).1
   cases n with
   | zero=>exfalso; omega
   | succ n=>
    obtain ⟨t',h3⟩:=Mt (n:=n) h1 (by omega)
    exact ⟨t',by unfold sN; rw [hs,if_pos rfl]; exact h3⟩
end
def Db (p:cU) (t:fK):Prop:=∃ b rs,∀ g,∃ r,TW g p b rs t r
section
variable {p:cU} {t t':fK}
theorem Db.next {x:aW} (h:Db p t) (hn:gS t=some x) (hT:Tr x t.at_ t.counts t'.at_ t'.counts) (hc:t'.code=t.code):Db p t':=by
 obtain ⟨b,rs,h⟩:=h
 exact ⟨b,rs,λ g=>by obtain ⟨r,h1⟩:=h g; obtain ⟨r',h2,_⟩:=h1.next hn hT hc; exact ⟨r',h2⟩⟩
theorem Db.same (h:Db p t) (hc:t'.code=t.code) (ha:t'.at_=t.at_) (hk:t'.counts=t.counts):Db p t':=by
 obtain ⟨b,rs,h⟩:=h
 exact ⟨b,rs,λ g=>by obtain ⟨r,h1⟩:=h g; exact ⟨r,h1.same hc ha hk⟩⟩
theorem Db.go {N:Nat} (h:Db p t) (hg:sN N t=some t'):Db p t':=by
 obtain ⟨b,rs,h⟩:=h
 exact ⟨b,rs,λ g=>by obtain ⟨r,h1⟩:=h g; obtain ⟨r',h2,_⟩:=h1.go hg; exact ⟨r',h2⟩⟩
theorem Db.total (h:Db p t):∃ N t',sN N t=some t':=by
 obtain ⟨b,rs,h⟩:=h
 obtain ⟨r,h1⟩:=h λ _=>1
 obtain ⟨t',h2⟩:=Mt h1 (Nat.le_refl r)
 exact ⟨_,t',h2⟩
end
theorem Dc {p:cU} {c:fm} {b:Bk} {rs:List ByteArray} (h:Mr p c b rs) (hc:0≤c.counts) (g:Int→Nat):∃ r,TW g p b rs (qd c) r∧r≤qH g b:=by
 obtain ⟨r,h1,h2⟩:=xy (g:=g) (lp:=0) (cs:=List.replicate c.counts.toNat 0) (kE:=0) (kO:=0) b 0 (Nat.le_refl _)
 have:=iR b
 exact ⟨r,⟨h,by show ((List.replicate c.counts.toNat (0:Int)).length:Int)=c.counts; rw [List.length_replicate]; omega,Int.le_refl _,this.1,h1⟩,by omega⟩
theorem Js {p:cU} (h:Bv p) {t:dQ} (ht:t∈iG p):∃ b,Mr p (mi p t) b t.aK∧oU t.body=some b∧ky b:=by
 obtain ⟨b,h1,h2,h3,_,h5,_,_,h8,_⟩:=h.tree ht
 rw [EC h8]
 exact ⟨b,⟨rfl,rfl,h5,h2,h3⟩,h8,h5⟩
theorem asj {p:cU} (h:Bv p):∃ b rs,Mr p (ek p).recover b rs:=by
 show ∃ b rs,Mr p (match p.recover[0]? with | some t=>mi p t | none=>⟨0,0,[]⟩) b rs
 cases hr:p.recover[0]? with
 | none=>exact ⟨.nil,[],⟨rfl,rfl,λ x hx=>(by cases hx),trivial,rfl⟩⟩
 | some t=>
  obtain ⟨b,hb,_⟩:=Js h (List.mem_append_right p.threads (List.mem_of_getElem? hr))
  exact ⟨b,_,hb⟩
structure PM (p:cU) (m:gE):Prop where
 chk:Bv p
 u:m.u=ek p
 gm:GM m
 tw:∀ t∈m.l,Db p t
section
variable {p:cU} {m m2:gE}
theorem S3 (h:Bv p):∃ N t,sN N (qd (ek p).recover)=some t∧Db p t:=by
 obtain ⟨b,rs,hb⟩:=asj h
 have hru:=rQ (sM h).1
 have h0:Db p (qd (ek p).recover):=⟨b,rs,λ g=>by obtain ⟨r,h1,_⟩:=Dc hb hru.rc.cb.1 g; exact ⟨r,h1⟩⟩
 obtain ⟨N,t,ht⟩:=h0.total
 exact ⟨N,t,ht,h0.go ht⟩
theorem Mu (h:Bv p):∃ N ni,rK N (ek p).threads ni∧∀ t∈ni,Db p t:=by
 have hru:=rQ (sM h).1
 have key:∀ cs:List fm,(∀ c∈cs,c∈(ek p).threads)→∃ N ni,rK N cs ni∧∀ t∈ni,Db p t:=by
  intro cs
  induction cs with
  | nil=>intro _; exact ⟨0,[],⟨rfl,λ j c t h=>by simp at h⟩,λ t ht=>by cases ht⟩
  | cons c cs ih=>
   intro Yu
   obtain ⟨N,ni,h1,h2⟩:=ih λ c hc=>Yu c (List.mem_cons_of_mem _ hc)
   have MI:=Yu c (List.mem_cons_self ..)
   obtain ⟨t,ht,rfl⟩:=List.mem_map.1 (show c∈p.threads.map (mi p) from MI)
   obtain ⟨b,hb,_⟩:=Js h (List.mem_append_left p.recover ht)
   have h0:Db p (qd (mi p t)):=⟨b,t.aK,λ g=>by obtain ⟨r,h1,_⟩:=Dc hb (hru.th _ MI).cb.1 g; exact ⟨r,h1⟩⟩
   obtain ⟨M,t',X3⟩:=h0.total
   refine ⟨N+M,t'::ni,⟨by rw [List.length_cons,List.length_cons,h1.1],λ j c2 t2 YT ht2=>?_⟩,λ t2 ht2=>?_⟩
   ·cases j with
    | zero=>
     rw [List.getElem?_cons_zero] at YT ht2
     cases YT; cases ht2
     rw [Nat.add_comm]; exact Fk X3
    | succ j=>
     rw [List.getElem?_cons_succ] at YT ht2
     exact Fk (h1.2 j c2 t2 YT ht2)
   ·rcases List.mem_cons.1 ht2 with rfl | ht2
    ·exact h0.go X3
    ·exact h2 t2 ht2
 exact key _ λ c hc=>hc
theorem Fo {t:fK} {i:Int} {x:aW}:(dX m t i x).2.1.counts=t.counts:=by
 unfold dX loadT casT vv
 repeat' split
 all_goals rfl
theorem Ru {t:fK} {i:Int} {x:aW} (h:Db p t) (hn:gS t=some x) (hk:2≤x.kind∧x.kind≤10):Db p { (dX m t i x).2.1 with at_:=(dX m t i x).2.1.at_+1}:=
 h.next hn (.inr (.inr (.inr (.inr ⟨by omega,by omega,by omega,by omega,by show (dX m t i x).2.1.at_+1=_; rw [CV],Fo⟩)))) qO
theorem Jt {α:Type} {φ:α→Prop} {l:List α} {i:Nat} {x:α} (h:∀ y∈l,φ y) (hx:φ x):∀ y∈l.set i x,φ y:=λ y hy=>by
 rcases List.mem_or_eq_of_mem_set hy with h1 | h1
 ·exact h y h1
 ·rw [h1]; exact hx
theorem PM.do {N:Nat} {q:et} {ev:dC} {e:Int} (h:PM p m) (hd:Cx N m q=some (m2,ev,e)):PM p m2:=by
 refine ⟨h.chk,(Fl hd).2.1.trans h.u,h.gm.do hd,?_⟩
 cases hc:ir m q with
 | some qb=>
  obtain ⟨t,hg,hm,_⟩:=qP hd hc
  rw [hm]
  intro t' X3
  obtain rfl:t'=t:=by simpa using (show t'∈[t] from X3)
  rw [h.u] at hg
  obtain ⟨b,rs,hb⟩:=asj h.chk
  have hru:=rQ (sM h.chk).1
  have h0:Db p (qd (ek p).recover):=⟨b,rs,λ g=>by obtain ⟨r,h1,_⟩:=Dc hb hru.rc.cb.1 g; exact ⟨r,h1⟩⟩
  exact h0.go hg
 | none=>
  by_cases ha:(ft m).any (jP q)=true
  ·by_cases hk:q.kind=2
   ·obtain ⟨_,t,ht⟩:=tx ha
    rw [(qG hd hc ha hk ht).1]
    exact Jt h.tw ((h.tw t (List.mem_of_getElem? ht)).same rfl rfl rfl)
   ·have hs:=(oy hd hc ha hk).1
    cases ht:m.l[q.t.toNat]? with
    | none=>unfold mI at hs; rw [ht] at hs; cases hs
    | some t=>
     have Cv:=List.mem_of_getElem? ht
     by_cases hf:t.fault≠0
     ·rw [(AA hs ht hf).1]; exact h.tw
     ·obtain ⟨x,hn⟩:=AB hs ht hf
      have nj:=(h.gm.th t Cv).2.1 x hn (by omega)
      by_cases h0:(dX m t q.t x).1.fault=0
      ·obtain ⟨t2,hg,MF,_⟩:=AD hs ht hf hn h0
       rw [MF]
       show ∀ t'∈(dX m t q.t x).1.l.set _ _,_
       rw [I8]
       exact Jt h.tw ((Ru (h.tw t Cv) hn nj).go hg)
      ·rw [(AE hs ht hf hn h0).1]
       show ∀ t'∈(dX m t q.t x).1.l.set _ _,_
       rw [I8]
       exact Jt h.tw ((h.tw t Cv).same qO CV Fo)
  ·rw [(qF hd hc ha).1]; exact h.tw
theorem Yd {q:et} (h:(ft m).any (jP q)=true) (hk:¬ q.kind=2):q.kind=1∧∃ t,m.l[q.t.toNat]? = some t∧Cu m t=true:=by
 rw [List.any_eq_true] at h
 obtain ⟨x,hx,hs⟩:=h
 unfold jP at hs
 simp only [Bool.and_eq_true,decide_eq_true_eq] at hs
 unfold ft at hx
 split at hx
 ·cases hx
 ·obtain ⟨i,t,_,ht,AZ⟩:=wK hx
  have h1:=LW AZ
  unfold tq at AZ
  rw [List.mem_append] at AZ
  rcases AZ with AZ | AZ
  ·split at AZ
   ·rename_i hc
    simp at AZ
    subst AZ
    refine ⟨hs.1.1.1.symm,t,?_,hc⟩
    have e:q.t=(i:Int):=hs.1.1.2.symm
    rw [e]; exact ht
   ·cases AZ
  ·rw [List.mem_map] at AZ
   obtain ⟨k,_,rfl⟩:=AZ
   exact absurd hs.1.1.1.symm hk
theorem Mv (h:PM p m) (q:et):∃ N m2 ev e,Cx N m q=some (m2,ev,e)∧PM p m2:=by
 have key:∃ N m2 ev e,Cx N m q=some (m2,ev,e):=by
  cases hc:ir m q with
  | some qb=>
   obtain ⟨N,t,ht,_⟩:=S3 h.chk
   exact ⟨N,lH (vf m qb) [t],⟨15,0,0,Az q.cut q.cut.length,0⟩,0,by unfold Cx; rw [hc]; dsimp only; rw [h.u,ht]; rfl⟩
  | none=>
   by_cases ha:(ft m).any (jP q)=true
   ·by_cases hk:q.kind=2
    ·obtain ⟨_,t,ht⟩:=tx ha
     refine ⟨0,mB m t q,pP q.t (ej t.buf q.i),0,?_⟩
     unfold Cx; rw [hc]; dsimp only; rw [if_pos ha,if_pos hk,ht]; rfl
    ·obtain ⟨Th,t,ht,alq⟩:=Yd ha hk
     have Cv:=List.mem_of_getElem? ht
     have gn:∃ N r,mI N m q.t=some r:=by
      by_cases hf:t.fault≠0
      ·exact ⟨0,_,by unfold mI; rw [ht]; dsimp only; rw [if_pos hf]⟩
      ·cases hn:gS t with
       | none=>unfold Cu at alq; rw [hn] at alq; cases alq
       | some x=>
        by_cases h0:(dX m t q.t x).1.fault=0
        ·have nj:=(h.gm.th t Cv).2.1 x hn (by omega)
         obtain ⟨N,t2,hg⟩:=(Ru (m:=m) (i:=q.t) (h.tw t Cv) hn nj).total
         exact ⟨N,_,by unfold mI; rw [ht]; dsimp only; rw [if_neg hf,hn]; dsimp only; rw [if_pos h0,hg]; rfl⟩
        ·exact ⟨0,_,by unfold mI; rw [ht]; dsimp only; rw [if_neg hf,hn]; dsimp only; rw [if_neg h0]⟩
     obtain ⟨N,r,hr⟩:=gn
     exact ⟨N,r.1,r.2,0,by unfold Cx; rw [hc]; dsimp only; rw [if_pos ha,if_neg hk,hr]; rfl⟩
   ·exact ⟨0,m,⟨0,0,0,0,0⟩,13,by unfold Cx; rw [hc]; dsimp only; rw [if_neg ha]⟩
 obtain ⟨N,m2,ev,e,hd⟩:=key
 exact ⟨N,m2,ev,e,hd,h.do hd⟩
theorem PM.new {N:Nat} {room:Int} {ni:List fK} (h:Bv p) (hb:rK N (ek p).threads ni) (ht:∀ t∈ni,Db p t) (hr:1≤room∧room≤16):PM p (lH (mC (ek p) room) ni):=
 ⟨h,rfl,GM.new (rQ (sM h).1) (sM h).2 hb hr,ht⟩
end
def Mw:et:=⟨0,0,0,[]⟩
def wS (a:FM) (l c:List et) (dT:Int):et:=
 if a.kind=2 then {a.p with cut:=a.p.cut.take 22}
 else if a.kind=1∧dT<2∧0<(c.length:Int) then c.getD (uI a.n 65535 % (c.length:Int)).toNat Mw
 else if 0<(l.length:Int) then l.getD (uI a.n 65535 % (l.length:Int)).toNat Mw else Mw
def alr (av:zL) (a:FM) (tl:List dZ) (l:List et) (tc:List dZ) (c:List et) (dT:Int) (sh:dZ):Prop:=
 (a.kind=2∧wS a l c dT={a.p with cut:=a.p.cut.take 22}∧∃ gc:SV,sh=⟨a.p.kind,a.p.t,a.p.i,gc⟩∧∀ w2,eJ (λ _=>True) w2 (Flat.val av.p.cut) a.p.cut→eJ (λ _=>True) w2 (Flat.val gc) (a.p.cut.take 22))∨
 (∃ j:Nat,tl[j]? = some sh∧l[j]? = some (wS a l c dT))∨(∃ j:Nat,tc[j]? = some sh∧c[j]? = some (wS a l c dT))∨(sh=⟨0,0,0,⟨none,0,0⟩⟩∧wS a l c dT=Mw)
theorem Dd {x y:et}:x=y↔x.kind=y.kind∧x.t=y.t∧x.i=y.i∧x.cut=y.cut:=by
 cases x; cases y; simp
theorem AV {α:Type} {xs ys:List α} {k:Nat} {x y:α} (h:xs.take k=ys.take k) (hx:xs[k]? = some x) (hy:ys[k]? = some y) (e:x=y):xs.take (k+1)=ys.take (k+1):=by
 rw [← gX hx,← gX hy,h,e]
theorem agB {α:Type} {xs ys:List α} {k:Nat} {x y:α} (hx:xs[k]? = some x) (hy:ys[k]? = some y) (e:x≠y):xs≠ys:=λ h=>by
 rw [h,hy] at hx; exact e (Option.some.inj hx).symm
theorem getD_some {α:Type} {xs:List α} {k:Nat} {x d:α} (h:xs[k]? = some x):xs.getD k d=x:=by rw [List.getD_eq_getElem?_getD,h]; rfl
theorem St.kH {w0 w w':World} {A:Nat→Prop} {L:List HP} {Φ:World→Prop} (hs:St w0 A (Fw.eU Φ::L) w) (e:Ext w w'):Φ w':=by
 obtain ⟨F,h,_⟩:=hs.head
 exact h.1 w' λ b hb=>e.cE b (h.2 b hb) λ x=>x
theorem C50 (av bv:Value) (xs ys:List Bool) (w:World) (hA:eJ (λ _=>True) w av xs) (hB:eJ (λ _=>True) w bv ys) (hn:xs.length≤1073741824):CR 50 [av,bv] w (λ v w'=>v = .bool (decide (xs=ys))∧Ext w w'):=by
 have hs:=St.start w;refine ahn _ _ _ _ ?_;unfold S50;refine aJ xW (hA.ext hs.aF) (aJ xW (hB.ext hs.aF) (cQ (aC (λ fO=>?_) (λ fO=>?_))))
 ·exact ⟨vb (decide_eq_false (λ h=>by rw [h] at fO; exact absurd rfl fO)).symm,hs.aF⟩
 ·refine ⟨λ mm i w'=>∃ k:Nat,i = .int .i64 (k:Int)∧mm=xs.length - k∧k≤xs.length∧xs.take k=ys.take k∧St w bD [] w',⟨_,0,rfl,rfl,Nat.zero_le _,rfl,hs⟩,?_⟩;rintro mm _ w1 ⟨k,rfl,rfl,hk,heq,hs⟩ fy;refine aJ xW (hA.ext hs.aF) (aR (aC (λ gQ=>?_) (λ gQ=>?_)))
  ·obtain ⟨iX,fH⟩:=gx (xs) (i:=((k:Int)).toNat) (by omega);refine aQ xW hA (by omega) fH (λ _ jL=>have hs:=hs.drew;aD Tj (jL.ext hs.aF) ?_);obtain ⟨rj,ku⟩:=gx (ys) (i:=((k:Int)).toNat) (by omega);refine aQ xW hB (by omega) ku (λ _ pJ=>aD Tj (pJ.ext hs.aF) (pw Ke (aX (λ fQ=>?_) (λ fQ=>?_))))
   ·exact ⟨vb (decide_eq_false (agB fH ku (by simpa using fQ))).symm,hs.aF⟩
   ·refine aO (by omega) ?_;exact ⟨_,by omega,k+1,rfl,rfl,by omega,AV heq fH ku (by simpa using fQ),hs⟩
  ·exact ⟨vb (decide_eq_true (by rw [List.take_of_length_le (by omega),List.take_of_length_le (by omega)] at heq; exact heq)).symm,hs.aF⟩
theorem C20 (av bv:Value) (xs ys:List et) (w:World) (hA:DL w av xs) (hB:DL w bv ys) (hn:xs.length≤1073741824) (hc:∀ x∈xs,x.cut.length≤1000000):CR 20 [av,bv] w (λ v w'=>v = .bool (decide (xs=ys))∧Ext w w'):=by
 have hs:=St.start w;refine agX _ _ _ _ ?_;unfold S20;obtain ⟨asm,Hu,agC⟩:=(hA).open;have asn:=agC.1;refine aJ mL (Hu.ext hs.aF) ?_;obtain ⟨aso,Mx,agD⟩:=(hB).open;have hn133:=agD.1;refine aJ mL (Mx.ext hs.aF) (cQ (aC (λ fO=>?_) (λ fO=>?_)))
 ·exact ⟨vb (decide_eq_false (λ h=>by rw [h] at asn; omega)).symm,hs.aF⟩
 ·refine ⟨λ mm i w'=>∃ k:Nat,i = .int .i64 (k:Int)∧mm=xs.length - k∧k≤xs.length∧xs.take k=ys.take k∧St w bD [] w',⟨_,0,rfl,rfl,Nat.zero_le _,rfl,hs⟩,?_⟩;rintro mm _ w1 ⟨k,rfl,rfl,hk,heq,hs⟩ fy;refine aJ mL (Hu.ext hs.aF) (aR (aC (λ gQ=>?_) (λ gQ=>?_)))
  ·obtain ⟨ra,als⟩:∃ xx,xs[k]? = some xx:=⟨_,List.getElem?_eq_getElem (by omega)⟩;obtain ⟨rb,alu⟩:∃ xx,ys[k]? = some xx:=⟨_,List.getElem?_eq_getElem (by omega)⟩;refine ⟨λ jv w'=>jv = .bool (!decide (ra=rb))∧St w bD [] w',?_,?_⟩
   ·obtain ⟨iX,fH⟩:=gx asm (i:=((k:Int)).toNat) (by omega);obtain ⟨dI,od⟩:=gx (xs) (i:=((k:Int)).toNat) (by omega);obtain ⟨S4,rfl,S5⟩:=agC.2 _ _ _ fH od;refine aQ mL Hu (by omega) fH (λ _ jL=>bT (dI).kind pg jL rfl rfl (λ _ Lp=>have hs:=hs.drew;aD bL (Lp.ext hs.aF) ?_));obtain ⟨gR,im⟩:=gx aso (i:=((k:Int)).toNat) (by omega);obtain ⟨Ca,wB⟩:=gx (ys) (i:=((k:Int)).toNat) (by omega);obtain ⟨S6,rfl,S7⟩:=agD.2 _ _ _ im wB;refine aQ mL Mx (by omega) im (λ _ v9=>bT (Ca).kind pg v9 rfl rfl (λ _ uh=>aD bL (uh.ext hs.aF) ?_))
    have hra:ra=dI:=Option.some.inj (als.symm.trans od);have YF:rb=Ca:=Option.some.inj (alu.symm.trans wB);have hcx:=hc _ (List.mem_of_getElem? od);refine cQ (aC (λ gj=>?_) (λ gj=>?_))
    ·exact ⟨vb (by rw [hra,YF]; rw [decide_eq_false (λ h=>by rw [Dd] at h; omega)]; rfl),hs⟩
    ·refine aQ mL Hu (by omega) fH (λ _ oG=>bT (dI).t jG oG rfl rfl (λ _ z9=>aD bL (z9.ext hs.aF) (aQ mL Mx (by omega) im (λ _ ua=>bT (Ca).t jG ua rfl rfl (λ _ zY=>aD bL (zY.ext hs.aF) (cQ (aC (λ sq=>?_) (λ sq=>?_))))))))
     ·exact ⟨vb (by rw [hra,YF]; rw [decide_eq_false (λ h=>by rw [Dd] at h; omega)]; rfl),hs⟩
     ·refine aQ mL Hu (by omega) fH (λ _ AJ=>bT (dI).i xc AJ rfl rfl (λ _ KX=>aD bL (KX.ext hs.aF) (aQ mL Mx (by omega) im (λ _ Ep=>bT (Ca).i xc Ep rfl rfl (λ _ Vj=>aD bL (Vj.ext hs.aF) (cQ (aC (λ sy=>?_) (λ sy=>?_))))))))
      ·exact ⟨vb (by rw [hra,YF]; rw [decide_eq_false (λ h=>by rw [Dd] at h; omega)]; rfl),hs⟩
      ·refine aQ mL Hu (by omega) fH (λ _ wo=>bT S4 sb wo rfl rfl (λ _ Ab=>aD eu (Ab.ext hs.aF) ?_));have asp:=DL.flat (S5);refine aQ mL Mx (by omega) im (λ _ Lr=>bT S6 sb Lr rfl rfl (λ _ KZ=>aD eu (KZ.ext hs.aF) ?_));have asq:=DL.flat (S7);refine aZ RH hs (C21 _ _ (dI).cut (Ca).cut _ (asp.ext hs.aF) (asq.ext hs.aF) (by omega)) (λ w2 he hs=>cB ?_);exact ⟨vb (by rw [hra,YF]; exact congrArg (λ b=>!b) (decide_eq_decide.2 (by rw [Dd]; exact ⟨λ h=>⟨by omega,by omega,by omega,h⟩,λ h=>h.2.2.2⟩))),hs⟩
   ·rintro _ w3 ⟨rfl,hs⟩ jB;refine aX (λ oh=>?_) (λ oh=>?_)
    ·exact ⟨vb (decide_eq_false (agB als alu (by simpa using oh))).symm,hs.aF⟩
    ·refine aO (by omega) ?_;exact ⟨_,by omega,k+1,rfl,rfl,by omega,AV heq als alu (by simpa using oh),hs⟩
  ·exact ⟨vb (decide_eq_true (by rw [List.take_of_length_le (by omega),List.take_of_length_le (by omega)] at heq; exact heq)).symm,hs.aF⟩
set_option maxHeartbeats 1000000 in
theorem C24 (a:FM) (av:zL) (lv cv:Value) (Yz:List dZ) (l:List et) (YA:List dZ) (c:List et) (dT:Int) (w:World) (ha:bZ.dr w av a) (hR8:eJ (λ _=>True) w lv Yz) (hD8:jS Yz l w) (R5:eJ (λ _=>True) w cv YA) (hD9:jS YA c w) (hl1:l.length≤1073741824) (Cs:c.length≤1073741824):CR 24 [Flat.val av,lv,cv,.int .i64 dT] w (λ v w'=>∃ sh:dZ,v=Flat.val sh∧Ext w w'∧alr av a Yz l YA c dT sh):=by
 obtain ⟨g_p_a,rfl,asr⟩:=ha;obtain ⟨uD,rfl,S8⟩:=asr;have hn8:=hD8.1;have hn9:=hD9.1;have hAn:=yu a.n (b:=65535) (by omega) (by omega);have hs:=St.start w;refine ag1 _ _ _ _ _ _ ?_;unfold S24;have Ye:=DL.flat (S8);refine dE (x:=(⟨(a).kind,(a).n,(⟨((a).p).kind,((a).p).t,((a).p).i,uD⟩:dZ)⟩:zL)) hs (λ b_a4 w1 hs=>aN hs Ia (λ Bl w2 hs=>have hs:=hs.enc (cs':=Flat.enc (⟨0,0,0,⟨none,0,0⟩⟩:dZ)) rfl;aA abp (aB (v:=.int .i64 (a).n) bL hs.p1.hb rfl (PI (by decide) (by decide) (aA PJ (aB (v:=.int .i64 (a).kind) bL hs.p1.hb rfl (aH (aC (λ eB=>?_) (λ eB=>?_)))))))))
 ·refine aA Ig (uO (⟨((a).p).kind,((a).p).t,((a).p).i,uD⟩:dZ) nJ hs.p1.hb rfl (aN hs Ia (λ b_p10 w3 hs=>have hs:=hs.enc (cs':=Flat.enc (⟨0,0,0,⟨none,0,0⟩⟩:dZ)) rfl;aI (x:=(⟨((a).p).kind,((a).p).t,((a).p).i,uD⟩:dZ)) hs nJ rfl rfl (λ w4 hs=>aA Ig (aA sb (aB (v:=Flat.val (uD:SV)) eu hs.p2.hb rfl (aA Ig (aA sb (aB (v:=Flat.val (uD:SV)) eu hs.p2.hb rfl (aJ dY (Ye.ext hs.aF) (uN (kQ dY (Ye.ext hs.aF) (by omega) (by omega) (λ Qe Bu=>?_)))))))))))));have NI:=Bu _ Ye;refine aA sb ?_
  obtain ⟨Yf,rfl⟩:=(NI).fR;refine aV hs eu (eI rfl) (rfl) (λ w5 hs=>have hs:=hs.enc (cs':=Flat.enc (⟨((a).p).kind,((a).p).t,((a).p).i,Yf⟩:dZ)) rfl;aD nJ hs.At (aI (x:=(⟨((a).p).kind,((a).p).t,((a).p).i,Yf⟩:dZ)) hs.p1 nJ rfl rfl (λ w6 hs=>aD nJ hs.At ?_)));exact ⟨_,rfl,hs.aF,.inl ⟨eB,if_pos eB,_,rfl,λ w2 h=>by have h3:=Bu w2 h; have e:=Sf a.p.cut 22; rw [show ((22:Nat):Int)=22 from rfl] at e; rwa [e] at h3⟩⟩
 ·refine ⟨λ jv w'=>jv = .bool (decide (a.kind=1∧dT<2∧0<(c.length:Int)))∧w2=w',?_,?_⟩
  ·refine aA PJ (aB (v:=.int .i64 (a).kind) bL hs.p1.hb rfl (aH (aC (λ jK=>?_) (λ jK=>?_))))
   ·refine aR (aC (λ jx=>?_) (λ jx=>?_))
    ·refine aJ mL (R5.ext hs.aF) (dB ?_);exact ⟨wW (by omega),rfl⟩
    ·exact ⟨YU (by omega),rfl⟩
   ·exact ⟨YU (by omega),rfl⟩
  ·rintro _ w7 ⟨rfl,hw⟩ fy;subst hw;refine aC (λ j0=>?_) (λ j0=>?_)
   ·have ass:=Int.emod_nonneg (uI a.n 65535) (show (YA.length:Int)≠0 by omega);have ast:=Int.emod_lt_of_pos (uI a.n 65535) (show (0:Int)<YA.length by omega);refine aJ mL (R5.ext hs.aF) (H0 (by omega) (by omega) ?_);obtain ⟨e_x47,O5⟩:=gx YA (i:=(((uI (a).n 65535) % (YA.length:Int))).toNat) (by omega);obtain ⟨Rv,EN⟩:=gx (c) (i:=(((uI (a).n 65535) % (YA.length:Int))).toNat) (by omega);obtain ⟨Ta,rfl,ami⟩:=hD9.2 _ _ _ O5 EN;refine aQ mL R5 (by omega) O5 (λ _ D7=>aD nJ (D7.ext hs.aF) (aI (x:=(⟨(Rv).kind,(Rv).t,(Rv).i,Ta⟩:dZ)) hs nJ rfl rfl (λ w8 hs=>aD nJ hs.At ?_)))
    have hq:wS a l c dT=Rv:=by unfold wS; rw [if_neg eB,if_pos (by omega),getD_some (by rw [← hn9]; exact EN)]
    exact ⟨_,rfl,hs.aF,.inr (.inr (.inl ⟨_,O5,by rw [hq]; exact EN⟩))⟩
   ·refine aJ mL (hR8.ext hs.aF) (dB (aC (λ pG=>?_) (λ pG=>?_)))
    ·have ass:=Int.emod_nonneg (uI a.n 65535) (show (Yz.length:Int)≠0 by omega);have ast:=Int.emod_lt_of_pos (uI a.n 65535) (show (0:Int)<Yz.length by omega);refine aJ mL (hR8.ext hs.aF) (H0 (by omega) (by omega) ?_);obtain ⟨Lm,oZ⟩:=gx Yz (i:=(((uI (a).n 65535) % (Yz.length:Int))).toNat) (by omega);obtain ⟨pM,rC⟩:=gx (l) (i:=(((uI (a).n 65535) % (Yz.length:Int))).toNat) (by omega);obtain ⟨Tb,rfl,amj⟩:=hD8.2 _ _ _ oZ rC;refine aQ mL hR8 (by omega) oZ (λ _ wo=>aD nJ (wo.ext hs.aF) (aI (x:=(⟨(pM).kind,(pM).t,(pM).i,Tb⟩:dZ)) hs nJ rfl rfl (λ w9 hs=>aD nJ hs.At ?_)))
     have hq:wS a l c dT=pM:=by unfold wS; rw [if_neg eB,if_neg (by omega),if_pos (by omega),getD_some (by rw [← hn8]; exact rC)]
     exact ⟨_,rfl,hs.aF,.inr (.inl ⟨_,oZ,by rw [hq]; exact rC⟩)⟩
    ·refine pop (v:=Flat.val (⟨0,0,0,⟨none,0,0⟩⟩:dZ)) (by kernel_rfl) (aI (x:=(⟨0,0,0,⟨none,0,0⟩⟩:dZ)) hs nJ rfl rfl (λ pS hs=>aD nJ hs.At ?_));exact ⟨⟨0,0,0,⟨none,0,0⟩⟩,rfl,hs.aF,.inr (.inr (.inr ⟨rfl,by unfold wS; rw [if_neg eB,if_neg (by omega),if_neg (by omega)]⟩))⟩
def xz:ByteArray:=⟨#[108,105,110,101,32,97,59,32,118,111,108,32,120,59,32,108,111,99,107,32,109,59,32,116,104,114,101,97,100,32,116,32,123,32,114,101,103,32,114,59,32,115,116,111,114,101,32,97,32,61,32,49,59,32,108,111,97,100,32,114,32,61,32,97,59,32,111,112,116,32,97,59,32,116,97,107,101,32,109,59,32,125,32,116,104,114,101,97,100,32,117,32,123,32,114,101,103,32,114,59,32,108,111,97,100,32,114,32,61,32,97,59,32,99,104,101,99,107,32,114,59,32,125,32,114,101,99,111,118,101,114,32,123,32,125,32,97,108,119,97,121,115,32,97,32,61,61,32,49,59]⟩
def vF:cU:=((rO xz).getD (Md,0,0)).1
theorem Tc:rO xz=some (vF,0,0):=by decide +kernel
theorem Hv:gL vF=0:=by decide +kernel
def F6:ib:=⟨[0,1],1,[0,0],1,[⟨1,0,[⟨3,0,0,[⟨1,1⟩],[],0⟩,⟨2,0,0,[],[],0⟩,⟨6,0,0,[],[],0⟩,⟨9,0,0,[],[],0⟩]⟩,⟨1,0,[⟨2,0,0,[],[],0⟩,⟨15,0,0,[⟨2,0⟩],[],0⟩]⟩],⟨0,0,[]⟩,[[⟨2,0⟩,⟨1,1⟩,⟨10,0⟩]]⟩
theorem AW:ek vF=F6:=by decide +kernel
theorem Td:((ux xz).map λ r=>decide (r.1.length≤5000) && r.1.all (λ x=>decide (0≤x.at_∧x.at_≤1000000∧x.text.size≤1000000)))=some true:=by decide +kernel
theorem Yg:∀ l e a,ux xz=some (l,e,a)→iu l:=by
 intro l e a h
 have:=Td
 rw [h] at this
 simp only [Option.map_some,Option.some.injEq,Bool.and_eq_true,decide_eq_true_eq,List.all_eq_true] at this
 exact ⟨this.1,λ x hx=>this.2 x hx⟩
theorem ad1:oA vF=vF:=by decide +kernel
theorem alv:PZ vF:=by rw [← ad1]; exact QA _
theorem Ju:Bv vF:=EA Hv
def O6:List fK:=F6.threads.map λ c=>(sN 20 (qd c)).getD (qd c)
theorem alw:F6.threads.all (λ c=>(sN 20 (qd c)).isSome)=true:=by decide +kernel
theorem Hw:rK 20 F6.threads O6:=by
 refine ⟨by unfold O6; rw [List.length_map],λ j c t hc ht=>?_⟩
 unfold O6 at ht
 rw [List.getElem?_map,hc,Option.map_some] at ht
 have h:=List.all_eq_true.1 alw c (List.mem_of_getElem? hc)
 obtain ⟨t2,h2⟩:=Option.isSome_iff_exists.1 h
 rw [h2] at ht
 rw [h2]; exact ht
def fx0:gE:=lH (mC F6 2) O6
def vh (m:gE) (q:et):gE × dC × Int:=(Cx 20 m q).getD (m,⟨0,0,0,0,0⟩,99)
theorem mR {m:gE} {q:et} {ev:dC} {e:Int} (h:(vh m q).2=(ev,e)) (he:e≠99):Cx 20 m q=some ((vh m q).1,ev,e):=by
 unfold vh at h ⊢
 cases hd:Cx 20 m q with
 | none=>rw [hd] at h; cases h; exact absurd rfl he
 | some r=>rw [hd] at h; show some r=some (r.1,ev,e); rw [show r=(r.1,r.2) from rfl,show r.2=(ev,e) from h]
def My:et:=⟨1,0,0,[]⟩
def pOt:et:=⟨1,1,0,[]⟩
def pOu:et:=⟨2,0,0,[]⟩
def pCr:et:=⟨3,0,0,[1]⟩
def fx1:gE:=(vh fx0 My).1
def fx2:gE:=(vh fx1 My).1
def fx3:gE:=(vh fx2 pOt).1
def fx4:gE:=(vh fx3 pOu).1
def fx5:gE:=(vh fx4 My).1
def fx6:gE:=(vh fx5 My).1
def fx7:gE:=(vh fx6 pCr).1
def fxo:gE:=(vh fx6 pOt).1
theorem fd1:(vh fx0 My).2=(⟨3,0,0,1,0⟩,0):=by decide +kernel
theorem fd2:(vh fx1 My).2=(⟨2,0,0,1,0⟩,0):=by decide +kernel
theorem fd3:(vh fx2 pOt).2=(⟨1,1,0,0,0⟩,0):=by decide +kernel
theorem fd4:(vh fx3 pOu).2=(⟨12,0,0,1,0⟩,0):=by decide +kernel
theorem fd5:(vh fx4 My).2=(⟨5,0,0,0,0⟩,0):=by decide +kernel
theorem fd6:(vh fx5 My).2=(⟨0,0,0,0,0⟩,13):=by decide +kernel
theorem fd7:(vh fx6 pCr).2=(⟨15,0,0,1,0⟩,0):=by decide +kernel
theorem fdo:(vh fx6 pOt).2=(⟨16,1,1,0,0⟩,0):=by decide +kernel
theorem fp2:ft fx2=[My,pOu,pOt]:=by decide +kernel
theorem asu:C0 fx7=[true]:=by decide +kernel
theorem fpo:ft fxo=[]:=by decide +kernel
theorem fco:js fxo=[]:=by decide +kernel
theorem fro:yi fxo 0=[1]:=by decide +kernel
theorem fr2:yi fxo 2=[]:=by decide +kernel
theorem fl7:fx7.mem.l=[1,0]:=by decide +kernel
theorem fk7:fx7.mem.kept=[1]:=by decide +kernel
theorem frt:nx EB=false:=by decide +kernel
structure xA (p:cU) (m:gE) (n:Nat):Prop where
 pm:PM p m
 mb:MB m.mem n
 cr:m.dT≤n
theorem xA.do {p:cU} {m m2:gE} {n N:Nat} {q:et} {ev:dC} {e:Int} (h:xA p m n) (hd:Cx N m q=some (m2,ev,e)):xA p m2 (n+1):=
 ⟨h.pm.do hd,h.mb.do hd,by have:=(Fl hd).1; have:=h.cr; omega⟩
theorem xA.new {p:cU} {N:Nat} {room:Int} {ni:List fK} (h:Bv p) (hb:rK N (ek p).threads ni) (ht:∀ t∈ni,Db p t) (hr:1≤room∧room≤16):xA p (lH (mC (ek p) room) ni) 0:=
 ⟨PM.new h hb ht hr,MB.new,Int.le_refl _⟩
section
variable {p:cU} {K:World→Prop} {q:Nat} {m:gE} {n:Nat} {w:World}
theorem aly (h:xA p m n) (hm:Has (eO K q m) w) (hw:K w) (uE:∀ w',Ext w w'→K w'):Calls PG 16 [(.pointer (some ⟨q,0,none⟩))].toArray w (pU λ v w'=>lY (fj v (ft m)) w w'):=C16 K q m w hm hw uE h.pm.gm.ok
theorem ad5 (h:xA p m n) (hm:Has (eO K q m) w) (hw:K w) (uE:∀ w',Ext w w'→K w'):Calls PG 18 [(.pointer (some ⟨q,0,none⟩))].toArray w (pU λ v w'=>v=Flat.val (ke m)∧Ext w w'):=C18 K q m w hm hw uE h.pm.gm.ok
theorem azA (h:xA p m n) (hn:n≤1000000) (hm:Has (eO K q m) w) (hw:K w) (uE:∀ w',Ext w w'→K w'):Calls PG 19 [(.pointer (some ⟨q,0,none⟩))].toArray w (pU λ v w'=>∃ b,v = .pointer (some ⟨b,0,none⟩)∧lY (eO K b m) w w'):=C19 K q m w hm hw uE h.pm.gm.ok (h.mb.mono hn) (by have:=h.pm.gm.ru.lk; omega)
theorem asv (h:xA p m n) (hm:Has (eO K q m) w) (hw:K w) (uE:∀ w',Ext w w'→K w'):Calls PG 22 [(.pointer (some ⟨q,0,none⟩))].toArray w (pU λ v w'=>lY (bK v m.mem.l) w w'):=C22 K q m w hm hw uE h.pm.gm.ok
theorem asw (h:xA p m n) (hm:Has (eO K q m) w) (hw:K w) (uE:∀ w',Ext w w'→K w'):Calls PG 23 [(.pointer (some ⟨q,0,none⟩))].toArray w (pU λ v w'=>lY (bK v m.mem.kept) w w'):=C23 K q m w hm hw uE h.pm.gm.ok
theorem GM.rgl (h:GM m):∀ t∈m.l,t.aK.length≤4:=λ t ht=>by
 have h1:=(h.th t ht).1.rg; have h2:=(h.code ht).rb; omega
theorem alz (i:Int) (h:xA p m n) (hm:Has (eO K q m) w) (hw:K w) (uE:∀ w',Ext w w'→K w'):Calls PG 25 [(.pointer (some ⟨q,0,none⟩)),.int .i64 i].toArray w (pU λ v w'=>lY (bK v (yi m i)) w w'):=C25 K q m i w hm hw uE h.pm.gm.ok λ t ht=>by have:=h.pm.gm.rgl t ht; omega
theorem azB (i:Int) (h:xA p m n) (hm:Has (eO K q m) w) (hw:K w) (uE:∀ w',Ext w w'→K w'):Calls PG 35 [(.pointer (some ⟨q,0,none⟩)),.int .i64 i].toArray w (pU λ v w'=>lY (bK v (LP m i)) w w'):=C35 K q m i w hm hw uE h.pm.gm.ok
theorem alA (h:xA p m n) (hn:n≤1000000) (hC:(ey (yQ m.mem)).length≤1000000000) (hm:Has (eO K q m) w) (hw:K w) (uE:∀ w',Ext w w'→K w'):Calls PG 31 [(.pointer (some ⟨q,0,none⟩))].toArray w (pU λ v w'=>lY (fj v (js m)) w w'):=C31 K q m w hm hw uE h.pm.gm.ok (h.mb.mono hn) hC
theorem azC (h:xA p m n) (hm:Has (eO K q m) w) (hw:K w) (uE:∀ w',Ext w w'→K w'):Calls PG 49 [(.pointer (some ⟨q,0,none⟩))].toArray w (pU λ v w'=>lY (bK v (C0 m)) w w'):=by
 have h1:=h.pm.gm.ru.st; have h2:=h.pm.gm.ru.fl; have h3:=h.pm.gm.mem.ll; have h4:=h.pm.gm.cT
 exact C49 K q m w hm hw uE h.pm.gm.ok h.pm.gm.uz.cC h.pm.gm.uz.cl ⟨h1.1,by rw [h3,h4]; omega⟩
theorem F7 {N:Nat} {k:et} {gc:SV} {m2:gE} {ev:dC} {e:Int} {F:Nat→Prop} (h:xA p m n) (hn:n≤1000000) (hd:Cx N m k=some (m2,ev,e)) (hql:k.cut.length≤1000) (hF:(eO K q m).p w F) (hK:∀ w',ix F w w'→K w') (AF:∀ w',ix F w w'→eJ (λ _=>True) w' (Flat.val gc) k.cut) :
  Calls PG 17 [(.pointer (some ⟨q,0,none⟩)),Flat.val (⟨k.kind,k.t,k.i,gc⟩:dZ)].toArray w (pU λ v w'=>v = .tuple #[Flat.val ev,.int .i64 e]∧qn F (eO K q m2) w w'):=
 C17 K q m N k gc m2 ev e F w hF hK h.pm.gm.ok (h.mb.mono hn) ⟨h.pm.gm.cr,by have:=h.cr; omega⟩ (h.pm.gm.ru.rc.ok h.pm.gm.uz.rc) (by have:=h.pm.gm.ru.lk; omega) AF hql hd
theorem asx (u:ib) (uv:dJ) (room:Int) (N:Nat) (ni:List fK) (hu:bZ.dr w uv u) (hz:UZ u) (hr:nx u=true) (hn:QS N u ni) (h1:1≤room) (h2:room≤16):Calls PG 15 [Flat.val uv,.int .i64 room].toArray w (pU λ v w'=>∃ K p,v = .tuple #[.pointer (some ⟨p,0,none⟩),.int .i64 0]∧lY (sep (eO K p (lH (mC u room) ni)) (eU K)) w w'):=
 (C15 u uv room N ni w hu hz λ _=>hn).mono λ _ _ r=>r.mono λ _ _ h=>by
  rcases h with ⟨h3,_⟩ | ⟨_,h3,_⟩ | ⟨_,_,_,h3⟩
  ·rw [hr] at h3; cases h3
  ·omega
  ·exact h3
theorem asy (uv:dJ) (room:Int) (hu:bZ.dr w uv EB):Calls PG 15 [Flat.val uv,.int .i64 room].toArray w (pU λ v w'=>v = .tuple #[.pointer none,.int .i64 8]∧Ext w w'):=
 (C15 EB uv room 0 [] w hu ⟨by decide,by decide,by decide,by decide,λ c hc=>(by cases hc),⟨by decide,λ x hx=>(by cases hx)⟩,λ l hl=>(by cases hl)⟩ (λ h=>by rw [frt] at h; cases h)).mono λ _ _ r=>r.mono λ _ _ h=>by
  rcases h with ⟨_,h3⟩ | ⟨h3,_⟩ | ⟨h3,_⟩
  ·exact h3
  ·rw [frt] at h3; cases h3
  ·rw [frt] at h3; cases h3
end
theorem Yh {p:cU} {N:Nat} {ni:List fK} (h:Bv p) (hb:rK N (ek p).threads ni):∀ t∈ni,Db p t:=by
 intro t ht
 obtain ⟨i,hi⟩:=pe ht
 have mD:=(List.getElem?_eq_some_iff.1 hi).1
 obtain ⟨c,hc⟩:∃ c,(ek p).threads[i]? = some c:=⟨_,List.getElem?_eq_getElem (by rw [← hb.1]; exact mD)⟩
 have hg:=hb.2 i c t hc hi
 have MI:=List.mem_of_getElem? hc
 obtain ⟨tt,htt,rfl⟩:=List.mem_map.1 (show c∈p.threads.map (mi p) from MI)
 obtain ⟨b,hb2,_⟩:=Js h (List.mem_append_left p.recover htt)
 have hru:=rQ (sM h).1
 have h0:Db p (qd (mi p tt)):=⟨b,tt.aK,λ g=>by obtain ⟨r,h1,_⟩:=Dc hb2 (hru.th _ MI).cb.1 g; exact ⟨r,h1⟩⟩
 exact h0.go hg
theorem asz:xA vF fx0 0:=by
 have hb:rK 20 (ek vF).threads O6:=by rw [AW]; exact Hw
 have:=xA.new (room:=2) Ju hb (Yh Ju hb) (by decide)
 rw [AW] at this; exact this
theorem asA:xA vF fx1 1:=asz.do (mR fd1 (by decide))
theorem ad6:xA vF fx2 2:=asA.do (mR fd2 (by decide))
theorem asB:xA vF fx3 3:=ad6.do (mR fd3 (by decide))
theorem asC:xA vF fx4 4:=asB.do (mR fd4 (by decide))
theorem asD:xA vF fx5 5:=asC.do (mR fd5 (by decide))
theorem Yi:xA vF fx6 6:=asD.do (mR fd6 (by decide))
theorem ad7:xA vF fx7 7:=Yi.do (mR fd7 (by decide))
theorem Yj:xA vF fxo 7:=Yi.do (mR fdo (by decide))
theorem azD:(ey (yQ fxo.mem)).length≤1000000000:=by decide +kernel
theorem Jv:nx F6=true∧UZ F6:=by have:=sM Ju; rw [AW] at this; exact this
theorem ad8:QS 20 F6 O6:=Mm (rQ Jv.1) Jv.2 Hw
theorem ad9 (w:World):jS [(⟨1,0,0,⟨none,0,0⟩⟩:dZ),⟨2,0,0,⟨none,0,0⟩⟩,⟨1,1,0,⟨none,0,0⟩⟩] [My,pOu,pOt] w:=by
 have h1:jS ([]++[(⟨1,0,0,⟨none,0,0⟩⟩:dZ)]) ([]++[My]) w:=jS.nil.snoc ⟨_,rfl,DL.nil w⟩
 have h2:jS ([]++[(⟨1,0,0,⟨none,0,0⟩⟩:dZ)]++[⟨2,0,0,⟨none,0,0⟩⟩]) ([]++[My]++[pOu]) w:=h1.snoc ⟨_,rfl,DL.nil w⟩
 exact h2.snoc ⟨_,rfl,DL.nil w⟩
theorem Hx {p:cU} {m:gE} {n:Nat} (_:xA p m n):∀ x∈ft m,x.cut=[]:=by
 intro x hx
 unfold ft at hx
 split at hx
 ·cases hx
 ·obtain ⟨i,t,_,_,AZ⟩:=wK hx
  unfold tq at AZ
  rw [List.mem_append] at AZ
  rcases AZ with AZ | AZ
  ·split at AZ
   ·simp at AZ; rw [AZ]
   ·cases AZ
  ·rw [List.mem_map] at AZ; obtain ⟨k,_,rfl⟩:=AZ; rfl
theorem alB (s:ByteArray) (p:cU) (e a:Int) (w:World) (Yv:s.size≤1000000) (hr:rO s=some (p,e,a)) (hTk:∀ l e a,ux s=some (l,e,a)→iu l) (hz:PZ p) (hc:gL p=0) :
  Calls PG 48 [.string s].toArray w (pU λ v w'=>∃ uv:dJ,v=Flat.val uv∧lY (eU (λ w=>bZ.dr w uv (ek p))) w w'):=
 (C48 s (p,e,a) w Yv hr hTk hz).mono λ _ _ r=>r.mono λ v w' h=>by
  obtain ⟨uv,h1,h2⟩:=h
  refine ⟨uv,h1,?_⟩
  have e1:(if gL p=0 then ek p else EB)=ek p:=if_pos hc
  have h3:lY (eU (λ w=>bZ.dr w uv (if gL p=0 then ek p else EB))) w w':=h2
  rw [e1] at h3; exact h3
theorem asE (w:World):Calls PG 48 [.string xz].toArray w (pU λ v w'=>∃ uv:dJ,v=Flat.val uv∧lY (eU (λ w=>bZ.dr w uv F6)) w w'):=by
 rw [← AW]
 exact alB xz vF 0 0 w (by decide +kernel) Tc Yg alv Hv
set_option maxHeartbeats 4000000 in
set_option maxRecDepth 100000 in
theorem C14 (w:World):CR 14 [] w (λ v w'=>v = .bool true∧Ext w w'):=by
 have hs:=St.start w;refine agR _ _ ?_;unfold S14;refine eD auF (asE _) ?_;rintro _ w1 ⟨alC,rfl,bY⟩;have hs:=hs.made bY;refine eD ag4 (asx F6 alC 2 20 O6 (hs).eU Jv.2 Jv.1 ad8 (by decide) (by decide)) ?_;rintro _ w2 ⟨K,p,rfl,bY⟩;have hs:=(hs.made bY).split;refine bE rfl (bE rfl (pop (v:=Flat.val (⟨⟨none,0,0⟩,0,⟨none,0,0⟩,0,⟨none,0,0⟩,(⟨0,0,⟨none,0,0⟩⟩:cK),⟨none,0,0⟩⟩:dJ)) (by kernel_rfl) (have hs:=(hs.p2).drop;aZ ag4 hs (asy (⟨⟨none,0,0⟩,0,⟨none,0,0⟩,0,⟨none,0,0⟩,(⟨0,0,⟨none,0,0⟩⟩:cK),⟨none,0,0⟩⟩:dJ) 2 (show bZ.dr _ (⟨⟨none,0,0⟩,0,⟨none,0,0⟩,0,⟨none,0,0⟩,(⟨0,0,⟨none,0,0⟩⟩:cK),⟨none,0,0⟩⟩:dJ) (⟨[],0,[],0,[],(⟨0,0,[]⟩:fm),[]⟩:ib) from ⟨_,_,_,_,_,rfl,DL.nil _,DL.nil _,DL.nil _,⟨_,rfl,DL.nil _⟩,DL.nil _⟩)) (λ w3 he hs=>bE rfl (bE rfl ?_)))))
 refine ⟨_,?_,λ _ _ h=>h⟩;refine Dv Ud (fP (cQ ?_));intro fy;refine fV (by decide) (pop (Ii _) (pop (Gx _ _) (aN hs Ia (λ auc w5 hs=>have hs:=hs.enc (cs':=Flat.enc (⟨0,0,0,⟨none,0,0⟩⟩:dZ)) rfl;aN hs Ia (λ asF w6 hs=>have hs:=hs.enc (cs':=Flat.enc (⟨0,0,0,⟨none,0,0⟩⟩:dZ)) rfl;aI (x:=(⟨1,0,0,⟨none,0,0⟩⟩:dZ)) hs.p1 nJ rfl rfl (λ w7 hs=>aI (x:=(⟨1,1,0,⟨none,0,0⟩⟩:dZ)) hs.p1 nJ rfl rfl (λ w8 hs=>aD nJ hs.p1.At (bG FF hs.p2 (H':=λ _=>eO K p fx1) (Φ:=λ v _=>v = .tuple #[Flat.val (⟨3,0,0,1,0⟩:dC),.int .i64 0]) (λ F2 eQ eA=>?_) ?_))))))))
 ·exact F7 (N:=20) (k:=My) (gc:=⟨none,0,0⟩) asz (by decide) (mR fd1 (by decide)) (by decide) eQ (λ w' hc=>((eA w' hc).p2).eU) (λ w' hc=>(eJ.nil (λ _=>True) w'))
 rintro _ w9 rfl hs;refine bE rfl (bE rfl (aN hs lD (λ b_a7 pS hs=>aI (x:=(⟨3,0,0,1,0⟩:dC)) hs eZ rfl rfl (λ sU hs=>aD nJ hs.p3.At (bG FF hs.p1 (H':=λ _=>eO K p fx2) (Φ:=λ v _=>v = .tuple #[Flat.val (⟨2,0,0,1,0⟩:dC),.int .i64 0]) (λ F2 eQ eA=>?_) ?_)))))
 ·exact F7 (N:=20) (k:=My) (gc:=⟨none,0,0⟩) asA (by decide) (mR fd2 (by decide)) (by decide) eQ (λ w' hc=>((eA w' hc).p3).eU) (λ w' hc=>(eJ.nil (λ _=>True) w'))
 rintro _ vm rfl hs;refine bE rfl (bE rfl (aN hs lD (λ b_b9 vn hs=>aI (x:=(⟨2,0,0,1,0⟩:dC)) hs eZ rfl rfl (λ sm hs=>cZ HL hs (aly ad6 (hs.p1).has (hs.p5).eU (λ w' e=>St.kH (hs.p5) e)) (λ x57 v7 bY hs=>aD nJ hs.p4.At (bG FF hs.p2 (H':=λ _=>eO K p fx3) (Φ:=λ v _=>v = .tuple #[Flat.val (⟨1,1,0,0,0⟩:dC),.int .i64 0]) (λ F2 eQ eA=>?_) ?_))))))
 ·exact F7 (N:=20) (k:=pOt) (gc:=⟨none,0,0⟩) ad6 (by decide) (mR fd3 (by decide)) (by decide) eQ (λ w' hc=>((eA w' hc).p5).eU) (λ w' hc=>(eJ.nil (λ _=>True) w'))
 rintro _ yZ rfl hs;refine bE rfl (bE rfl (aN hs lD (λ b_c12 Cp hs=>aI (x:=(⟨1,1,0,0,0⟩:dC)) hs eZ rfl rfl (λ Iv hs=>pop (Ii _) (bG FF hs.p1 (H':=λ _=>eO K p fx4) (Φ:=λ v _=>v = .tuple #[Flat.val (⟨12,0,0,1,0⟩:dC),.int .i64 0]) (λ F2 eQ eA=>?_) ?_)))))
 ·exact F7 (N:=20) (k:=pOu) (gc:=⟨none,0,0⟩) asB (by decide) (mR fd4 (by decide)) (by decide) eQ (λ w' hc=>((eA w' hc).p6).eU) (λ w' hc=>(eJ.nil (λ _=>True) w'))
 rintro _ Jy rfl hs;refine bE rfl (bE rfl (aN hs lD (λ b_d14 KG hs=>aI (x:=(⟨12,0,0,1,0⟩:dC)) hs eZ rfl rfl (λ MH hs=>aD nJ hs.p7.At (bG FF hs.p1 (H':=λ _=>eO K p fx5) (Φ:=λ v _=>v = .tuple #[Flat.val (⟨5,0,0,0,0⟩:dC),.int .i64 0]) (λ F2 eQ eA=>?_) ?_)))))
 ·exact F7 (N:=20) (k:=My) (gc:=⟨none,0,0⟩) asC (by decide) (mR fd5 (by decide)) (by decide) eQ (λ w' hc=>((eA w' hc).p7).eU) (λ w' hc=>(eJ.nil (λ _=>True) w'))
 rintro _ Qv rfl hs;refine bE rfl (bE rfl (aD nJ hs.p7.At (bG FF hs (H':=λ _=>eO K p fx6) (Φ:=λ v _=>v = .tuple #[Flat.val (⟨0,0,0,0,0⟩:dC),.int .i64 13]) (λ F2 eQ eA=>?_) ?_)))
 ·exact F7 (N:=20) (k:=My) (gc:=⟨none,0,0⟩) asD (by decide) (mR fd6 (by decide)) (by decide) eQ (λ w' hc=>((eA w' hc).p7).eU) (λ w' hc=>(eJ.nil (λ _=>True) w'))
 rintro _ To rfl hs;refine bE rfl (bE rfl (aN hs lD (λ b_x16 VM hs=>aI (x:=(⟨0,0,0,0,0⟩:dC)) hs eZ rfl rfl (λ Tp hs=>eD auz (azA Yi (by decide) (hs.p1).has (hs.p9).eU (λ w' e=>St.kH (hs.p9) e)) ?_))));rintro _ w26 ⟨asG,rfl,bY⟩;have hs:=hs.made bY;refine bW (([1]:List Int)) hs dY rfl rfl (eI rfl) (λ s_x86 w27 hs=>?_);obtain ⟨alD,rfl⟩:=(hs).fR;refine pop (Gy _ _ _ _) (bG FF hs.p3 (H':=λ _=>eO K p fx7) (Φ:=λ v _=>v = .tuple #[Flat.val (⟨15,0,0,1,0⟩:dC),.int .i64 0]) (λ F2 eQ eA=>?_) ?_)
 ·exact F7 (N:=20) (k:=pCr) (gc:=alD) Yi (by decide) (mR fd7 (by decide)) (by decide) eQ (λ w' hc=>((eA w' hc).qI).eU) (λ w' hc=>((eA w' hc)).fB)
 rintro _ w28 rfl hs;refine bE rfl (bE rfl (aN hs lD (λ b_k19 w29 hs=>aI (x:=(⟨15,0,0,1,0⟩:dC)) hs eZ rfl rfl (λ w30 hs=>have hs:=((hs.p2.drop).p3).drop;aZ YX hs (ad5 ad7 (hs.p1).has (hs.qI).eU (λ w' e=>St.kH (hs.qI) e)) (λ w31 he hs=>cZ auG hs (azC ad7 (hs.p1).has (hs.qI).eU (λ w' e=>St.kH (hs.qI) e)) (λ x94 w32 bY hs=>aN hs Dw (λ b_s21 w33 hs=>aI (x:=(ke fx7)) hs Ib rfl rfl (λ w34 hs=>Dv Ud (fP (aD nJ hs.qI.At (bG FF hs.p4 (H':=λ _=>eO K asG fxo) (Φ:=λ v _=>v = .tuple #[Flat.val (⟨16,1,1,0,0⟩:dC),.int .i64 0]) (λ F2 eQ eA=>?_) ?_)))))))))))
 ·exact F7 (N:=20) (k:=pOt) (gc:=⟨none,0,0⟩) Yi (by decide) (mR fdo (by decide)) (by decide) eQ (λ w' hc=>((eA w' hc).p11).eU) (λ w' hc=>(eJ.nil (λ _=>True) w'))
 rintro _ w35 rfl hs;refine bE rfl (bE rfl (aN hs lD (λ b_v23 w36 hs=>aI (x:=(⟨16,1,1,0,0⟩:dC)) hs eZ rfl rfl (λ w37 hs=>aZ YX hs (ad5 Yj (hs.p1).has (hs.p13).eU (λ w' e=>St.kH (hs.p13) e)) (λ w38 he hs=>aN hs Dw (λ b_w25 YB hs=>aI (x:=(ke fxo)) hs Ib rfl rfl (λ w40 hs=>?_)))))));refine ⟨_,?_,λ _ _ h=>h⟩;refine aH (fC (by decide) (aD eZ hs.p11.At (pop (tV _ _) (lz GA rfl rfl (show _=decide True from rfl) (fC (by decide) (aH (fC (by decide) (aD eZ hs.qI.At (pop (tV _ _) (lz GA rfl rfl (show _=decide True from rfl) (fC (by decide) (aD nJ hs.p13.At ?_))))))))))))
 refine pop (Ii _) (aD nJ hs.p12.At (bW ([(⟨1,0,0,⟨none,0,0⟩⟩:dZ),⟨2,0,0,⟨none,0,0⟩⟩,⟨1,1,0,⟨none,0,0⟩⟩]) hs mL rfl rfl (eI rfl) (λ azE w41 hs=>aZ auA hs (C20 _ _ (ft fx2) [My,pOu,pOt] _ (hs.qI).dl (DL.of (hs).fB (ad9 _)) (by rw [fp2]; decide) (λ x hx=>by rw [Hx ad6 x hx]; decide)) (λ w42 he hs=>fC (decide_eq_true fp2) (have hs:=((((((((hs.qI.drop)).drop).p12).drop).qI).drop).p9).drop;aD eZ hs.p8.At (pop (Bf _ _) (lz GA rfl rfl (show _=decide True from rfl) (fC (by decide) (aD eZ hs.p7.At (pop (tV _ _) (lz GA rfl rfl (show _=decide True from rfl) (fC (by decide) ?_))))))))))))
 refine aH (fC (by decide) (aD eZ hs.p5.At (pop (tV _ _) (lz GA rfl rfl (show _=decide True from rfl) (fC (by decide) (aD Ib hs.p3.At (pop (RR _ _) (lz afb rfl rfl (show _=decide True from rfl) (fC (by decide) (bW ([true]) hs xW rfl rfl (eI rfl) (λ azF w43 hs=>aZ auH hs (C50 _ _ (C0 fx7) [true] _ (hs.p5).fB (hs).fB (by rw [asu]; decide)) (λ w44 he hs=>fC (decide_eq_true asu) ?_))))))))))));refine aD eZ hs.p2.At (pop (si _ _ _) (lz GA rfl rfl (show _=decide True from rfl) (fC (by decide) (aD Ib hs.p1.At (pop (RS _ _) (lz afb rfl rfl (show _=decide True from rfl) (fC (by decide) (have hs:=((((((((((((((((hs.drop)).drop)).drop).p1).drop).p1).drop).p1).drop).p2).drop).p2).drop).p2).drop;cZ HL hs (aly Yj (hs).has (hs.p2).eU (λ w' e=>St.kH (hs.p2) e)) (λ x170 w45 bY hs=>?_)))))))))
 obtain ⟨aud,aea,aeb,_⟩:=(hs).dl;refine aJ mL aea ?_;rw [aeb];refine aH (fC (by rw [fpo]; rfl) (cZ ahL hs (alA Yj (by decide) azD (hs.p1).has (hs.p3).eU (λ w' e=>St.kH (hs.p3) e)) (λ x176 w46 bY hs=>?_)));obtain ⟨aue,aec,aed,_⟩:=(hs).dl;refine aJ mL aec ?_;rw [aed];refine aH (fC (by rw [fco]; rfl) (cZ ag6 hs (alz (0) Yj (hs.p2).has (hs.p4).eU (λ w' e=>St.kH (hs.p4) e)) (λ x182 w47 bY hs=>bW (([1]:List Int)) hs dY rfl rfl (eI rfl) (λ azG w48 hs=>aZ RH hs (C21 _ _ (yi fxo (0)) ([1]:List Int) _ (hs.p1).fB (hs).fB (by rw [fro]; decide)) (λ w49 he hs=>fC (decide_eq_true fro) (cZ ag6 hs (alz (2) Yj (hs.p4).has (hs.p6).eU (λ w' e=>St.kH (hs.p6) e)) (λ x188 w50 bY hs=>aJ dY (hs).fB (aH (fC (by rw [fr2]; rfl) (cZ ag5 hs (asv ad7 (hs.p6).has (hs.p7).eU (λ w' e=>St.kH (hs.p7) e)) (λ x194 w51 bY hs=>bW (([1,0]:List Int)) hs dY rfl rfl (eI rfl) (λ azH w52 hs=>aZ RH hs (C21 _ _ (fx7.mem.l) ([1,0]:List Int) _ (hs.p1).fB (hs).fB (by rw [fl7]; decide)) (λ w53 he hs=>?_)))))))))))))
 refine fC (decide_eq_true fl7) (cZ amM hs (asw ad7 (hs.p8).has (hs.p9).eU (λ w' e=>St.kH (hs.p9) e)) (λ x200 w54 bY hs=>bW (([1]:List Int)) hs dY rfl rfl (eI rfl) (λ azI w55 hs=>aZ RH hs (C21 _ _ (fx7.mem.kept) ([1]:List Int) _ (hs.p1).fB (hs).fB (by rw [fk7]; decide)) (λ w56 he hs=>?_))));intro jB;exact ⟨vb (decide_eq_true fk7),hs.aF⟩
theorem Fp {w:World} {g:dZ} {x:et} (h:bZ.dr w g x):eJ (λ _=>True) w (Flat.val g.cut) x.cut:=by
 obtain ⟨_,rfl,h⟩:=h; exact DL.flat h
theorem alr.rd {av:zL} {a:FM} {tl:List dZ} {l:List et} {tc:List dZ} {c:List et} {cr:Int} {sh:dZ} (h:alr av a tl l tc c cr sh) {w1:World} (h1:jS tl l w1) (h2:jS tc c w1) :
  ∃ gc:SV,sh=⟨(wS a l c cr).kind,(wS a l c cr).t,(wS a l c cr).i,gc⟩∧∀ w2,eJ (λ _=>True) w2 (Flat.val av.p.cut) a.p.cut→jS tl l w2→jS tc c w2→eJ (λ _=>True) w2 (Flat.val gc) (wS a l c cr).cut:=by
 rcases h with ⟨_,hq,gc,hs,hr⟩ | ⟨j,hj,hq⟩ | ⟨j,hj,hq⟩ | ⟨hs,hq⟩
 ·rw [hq]; exact ⟨gc,hs,λ w2 h _ _=>hr w2 h⟩
 ·obtain ⟨gc,hs,_⟩:=h1.2 j _ _ hj hq
  refine ⟨gc,hs,λ w2 _ h3 _=>?_⟩
  have:=Fp (h3.2 j _ _ hj hq)
  rw [hs] at this; exact this
 ·obtain ⟨gc,hs,_⟩:=h2.2 j _ _ hj hq
  refine ⟨gc,hs,λ w2 _ _ h3=>?_⟩
  have:=Fp (h3.2 j _ _ hj hq)
  rw [hs] at this; exact this
 ·rw [hq]; exact ⟨⟨none,0,0⟩,hs,λ w2 _ _ _=>eJ.nil (λ _=>True) w2⟩
theorem aee {a:FM} {l c:List et} {cr:Int} (h1:∀ x∈l,x.cut.length≤1000) (h2:∀ x∈c,x.cut.length≤1000):(wS a l c cr).cut.length≤1000:=by
 have key:∀ (xs:List et) (k:Nat),(∀ x∈xs,x.cut.length≤1000)→(xs.getD k Mw).cut.length≤1000:=by
  intro xs k hx
  rw [List.getD_eq_getElem?_getD]
  cases hk:xs[k]? with
  | none=>decide
  | some y=>exact hx y (List.mem_of_getElem? hk)
 unfold wS
 split
 ·show (a.p.cut.take 22).length≤1000; rw [List.length_take]; omega
 ·split
  ·exact key _ _ h2
  ·split
   ·exact key _ _ h1
   ·decide
theorem F8 {p:cU} {m:gE} {n:Nat} (h:xA p m n):∀ x∈ft m,x.cut.length≤1000:=λ x hx=>by rw [Hx h x hx]; decide
theorem Te {p:cU} {m:gE} {n:Nat} (h:xA p m n):(ft m).length≤1073741824:=Nat.le_trans (pa h.pm.gm.ok) (by decide)
theorem Mz {α β:Type} {l:List α} {f:α→List β} {n:Nat} (h:∀ x∈l,(f x).length=n):(l.flatMap f).length=l.length * n:=by
 induction l with
 | nil=>simp
 | cons x l ih=>
  rw [List.flatMap_cons,List.length_append,ih λ y hy=>h y (List.mem_cons_of_mem _ hy),h x (List.mem_cons_self ..),List.length_cons,Nat.succ_mul,Nat.add_comm]
theorem Fq:∀ {ps:List Nat} {k:Nat},(∀ p∈ps,p+1≤k)→(ey ps).length≤k ^ ps.length
 | [],k,_=>by simp [ey]
 | p::ps,k,h=>by
  have ih:=Fq (ps:=ps) (k:=k) λ q hq=>h q (List.mem_cons_of_mem _ hq)
  have e:(ey (p::ps)).length=(p+1) * (ey ps).length:=by
   rw [ey,Mz (n:=(ey ps).length) λ x _=>by rw [List.length_map],List.length_range]
  rw [e,List.length_cons,Nat.pow_succ,Nat.mul_comm]
  exact Nat.mul_le_mul ih (h p (List.mem_cons_self ..))
theorem alE {p:cU} {m:gE} {n:Nat} (h:xA p m n):jq m.mem.of≤4:=by
 have hc:=h.pm.chk
 have hs:=AT p
 have h4:=hc.sz.1
 rw [h.pm.gm.of,h.pm.u]
 show jq ((ek p).lines.take (eg p).toNat)≤4
 by_cases h0:(eg p).toNat=0
 ·rw [h0,List.take_zero]; decide
 ·rw [wQ (by omega) (by rw [BS]; omega),List.getD_eq_getElem?_getD,AS (by omega)]
  show lT p (((eg p).toNat - 1:Nat):Int)+1≤4
  rw [uB (by omega)]
  have:=Jq p.lines 0 (((eg p).toNat - 1:Nat):Int) (by omega) (by show _<eg p; omega)
  omega
theorem aef {m:Mem} {n:Nat} (h:MB m n):∀ q∈yQ m,q≤n:=by
 intro q hq
 unfold yQ Ao at hq
 obtain ⟨i,_,rfl⟩:=List.mem_map.1 hq
 exact h i
theorem Rw {p:cU} {m:gE} {n:Nat} (h:xA p m n) (hn:n≤100):(ey (yQ m.mem)).length≤1000000000:=by
 have h1:=Fq (ps:=yQ m.mem) (k:=101) λ q hq=>by have:=aef h.mb q hq; omega
 have h2:=As m.mem
 have h3:=alE h
 have h4:(101:Nat) ^ (yQ m.mem).length≤101 ^ 4:=Nat.pow_le_pow_right (by decide) (by omega)
 have h5:(101:Nat) ^ 4≤1000000000:=by decide
 omega
theorem Rx (f:List Int→List Int):∀ (l:List (List Int)) (s:List (List Int) × List (List Int)),∀ x∈(l.foldl (λ s c=>if f c∈s.2 then s else (s.1++[c],s.2++[f c])) s).1,x∈s.1∨x∈l
 | [],s,x,h=>.inl h
 | c::l,s,x,h=>by
  rw [List.foldl_cons] at h
  rcases Rx f l _ x h with h1 | h1
  ·split at h1
   ·exact .inl h1
   ·rcases List.mem_append.1 h1 with h2 | h2
    ·exact .inl h2
    ·exact .inr (by rw [List.mem_singleton.1 h2]; exact List.mem_cons_self ..)
  ·exact .inr (List.mem_cons_of_mem _ h1)
theorem Tf {m:Mem} {c:List Int} (h:c∈yh m):c∈ey (yQ m):=by
 have:=Rx (qw m) (ey (yQ m)) ([],[]) c h
 rcases this with h1 | h1
 ·cases h1
 ·exact h1
theorem O7 {m:Mem} (hk:vG m) {c:List Int} (h:c∈yh m):jr m c=some (rW m c c.length)∧c.length≤20:=by
 have h1:=Tf h
 have h2:=pN h1
 have h3:=As m
 have h4:=BJ hk
 have h5:=hk.lb
 refine ⟨BH (by omega) λ k x Fu hx=>?_,by omega⟩
 have hp:(yQ m)[k]? = some (m.gy k).length:=Ap (by omega)
 exact BI h1 hp hx
theorem aeg (f:List Int→List Int) (c:List Int):(I0 f [c]).1=[c]:=by
 unfold I0; rw [List.foldl_cons,List.foldl_nil]; simp
theorem yl {m:gE} {q:et} (hk:vG m.mem) (h:q∈js m):m.fault=0∧q.kind=3∧q.t=0∧q.i=0∧q.cut.length≤20∧ir m q=some (rW m.mem q.cut q.cut.length):=by
 unfold js at h
 split at h
 ·cases h
 ·rename_i hf
  obtain ⟨c,hc,rfl⟩:=List.mem_map.1 h
  obtain ⟨h1,h2⟩:=O7 hk hc
  have hf0:m.fault=0:=by omega
  refine ⟨hf0,rfl,rfl,rfl,h2,?_⟩
  unfold ir; rw [if_pos ⟨rfl,rfl,rfl,hf0⟩]; exact h1
theorem AX:∀ n:Nat,ey (List.replicate n 0)=[List.replicate n 0]
 | 0=>rfl
 | n+1=>by rw [List.replicate_succ,ey,AX n]; simp [List.replicate_succ]
theorem asH {mm:Mem} (h:∀ k,mm.gy k=[]):yQ mm=List.replicate (jq mm.of).toNat 0:=by
 unfold yQ Ao
 refine List.ext_getElem? λ i=>?_
 rw [List.getElem?_map,List.getElem?_replicate]
 by_cases hi:i<(jq mm.of).toNat
 ·rw [List.getElem?_range hi,if_pos hi]; simp [h]
 ·rw [List.getElem?_eq_none (by simp; omega),if_neg hi]; rfl
theorem Jw {m:gE} (h:(js m).length=0):m.fault≠0:=by
 intro hf
 unfold js at h
 rw [if_neg (by omega),List.length_map] at h
 unfold yh at h
 have h1:=qE (yQ m.mem)
 cases hc:ey (yQ m.mem) with
 | nil=>rw [hc] at h1; cases h1
 | cons c cs=>
  rw [hc] at h
  have key:∀ (f:List Int→List Int) (l:List (List Int)) (s:List (List Int) × List (List Int)),s.1.length≤(l.foldl (λ s c=>if f c∈s.2 then s else (s.1++[c],s.2++[f c])) s).1.length:=by
   intro f l
   induction l with
   | nil=>intro s; exact Nat.le_refl _
   | cons x l ih=>
    intro s
    rw [List.foldl_cons]
    refine Nat.le_trans ?_ (ih _)
    split
    ·exact Nat.le_refl _
    ·simp
  have h2:=key (qw m.mem) cs ([c],[qw m.mem c])
  unfold I0 at h
  rw [List.foldl_cons] at h
  simp only [List.not_mem_nil,if_false,List.nil_append] at h
  simp only [List.length_singleton] at h2
  omega
structure alF (m m2:gE):Prop where
 l:m2.mem.l.length=m.u.cT.length
 k:(m2.mem.kept.length:Int)=m.u.stays
 a:m2.mem.l.take m.u.stays.toNat=m2.mem.kept
 b:m2.mem.l.drop m.u.stays.toNat=m.u.cT.drop m.u.stays.toNat
 buf:LP m2 0=[]
 st:(ke m2).dT=(ke m).dT+1
 rg:yi m2 1=[]
 one:(js m2).length=1
theorem MC {p:cU} {m m2:gE} {n N:Nat} {q:et} {ev:dC} {e:Int} (h:xA p m n) (hq:q∈js m) (hd:Cx N m q=some (m2,ev,e)):e=0∧alF m m2:=by
 obtain ⟨hf,_,_,_,_,hc⟩:=yl h.pm.gm.mem hq
 obtain ⟨t,hg,hm,_,he⟩:=qP hd hc
 refine ⟨he,?_⟩
 have F0:=h.pm.gm.mem
 have h1:=F0.kl; have h2:=F0.QJ; have h3:=h.pm.gm.of; have h4:=h.pm.gm.cT; have h5:=h.pm.gm.ru.st; have h6:=h.pm.gm.ru.fl
 have Tq:(rW m.mem q.cut q.cut.length).length=m.u.stays.toNat:=by
  rw [rI,h1,h3,List.length_take]; omega
 have ht:=(wP hg).2
 have azJ:t.buf=[]:=ht
 have A6:m2.mem.l=rW m.mem q.cut q.cut.length++m.u.cT.drop m.u.stays.toNat:=by
  rw [hm]; show _++m.mem.cT.drop (rW m.mem q.cut q.cut.length).length=_; rw [Tq,h4]
 have Fu:m2.mem.kept=rW m.mem q.cut q.cut.length:=by rw [hm]; rfl
 refine ⟨?_,?_,?_,?_,?_,?_,?_,?_⟩
 ·rw [A6,List.length_append,Tq,List.length_drop]; omega
 ·rw [Fu,Tq]; omega
 ·rw [A6,Fu,← Tq,List.take_left]
 ·rw [A6,← Tq,List.drop_left]
 ·rw [hm]; unfold LP; rw [if_pos (Int.le_refl 0)]; exact azJ
 ·rw [hm]; rfl
 ·rw [hm]; rfl
 ·rw [hm]; unfold js
  have RF:(lH (vf m (rW m.mem q.cut q.cut.length)) [t]).fault=0:=hf
  rw [if_neg (by rw [RF]; simp),List.length_map]
  unfold yh
  rw [asH (mm:=(lH (vf m (rW m.mem q.cut q.cut.length)) [t]).mem) (λ k=>rfl),AX,aeg]
  rfl
theorem Hy {w:World} {a s t c:SV} {b l:Int} {r:cK} {u:ib} (h:bZ.dr w (⟨a,b,s,l,t,r,c⟩:dJ) u):eJ (λ _=>True) w (Flat.val s) u.cT:=by
 obtain ⟨_,_,_,_,_,e,_,h2,_⟩:=h
 cases e
 exact h2.flat
theorem Yk (s:iz):pr PG (Instr.field 54 (Flat.val s) 0)=some (.int .i64 s.dT):=by
 obtain ⟨a,b,c,d,e⟩:=s
 kernel_rfl
set_option maxHeartbeats 4000000 in
set_option maxRecDepth 100000 in
theorem C9 (p:cU) (pv:bN) (sv:Value) (script:List FM) (n:Int) (w:World) (hp:bZ.dr w pv p) (hS:DL w sv script):CR 9 [Flat.val pv,sv,.int .i64 n] w (λ v w'=>v = .bool true∧Ext w w'):=by
 obtain ⟨bH,bQ,bI,aT,aU,aY,rfl,cI,dA,cJ,bR,bO,cA⟩:=hp;obtain ⟨ts7,Yy,hD7⟩:=(hS).open;have hn7:=hD7.1;have hAn:=yu n (b:=65535) (by omega) (by omega);have hs:=St.start w;refine amD _ _ _ _ _ ?_;unfold S9;refine dE hs (λ wq w1 hs=>aD gJ hs.At (eD auy (C11 p (⟨bH,bQ,bI,aT,aU,aY⟩:bN) _ ⟨bH,bQ,bI,aT,aU,aY,rfl,(cI.ext hs.aF),(dA.ext hs.aF),(cJ.ext hs.aF),(bR.ext hs.aF),(bO.ext hs.aF),(cA.ext hs.aF)⟩) ?_))
 rintro _ w2 ⟨Xo,rfl,bY⟩;have hs:=hs.made bY;refine eD amL (C12 (oA p) Xo _ (hs).eU (QA p)) ?_;rintro _ w3 ⟨Fs,rfl,bY⟩;have hs:=hs.made bY;refine bE rfl (bE rfl (aN hs vP (λ azK w4 hs=>have hs:=hs.enc (cs':=Flat.enc (⟨⟨none,0,0⟩,0,⟨none,0,0⟩,0,⟨none,0,0⟩,(⟨0,0,⟨none,0,0⟩⟩:cK),⟨none,0,0⟩⟩:dJ)) rfl;aI (x:=Fs) hs tK rfl rfl (λ w5 hs=>cQ (aC (λ qq=>?_) (λ qq=>?_))))))
 ·refine aZ ag3 hs (C14 _) (λ w6 he hs=>?_);exact ⟨rfl,hs.aF⟩
 ·refine aD tK hs.At ?_;have zw:gL (oA p)=0:=by omega
  have Sa:=EA zw;have oF:=sM Sa;obtain ⟨N0,ni,JA,htw⟩:=Mu Sa;have hs:=hs.p1.dN (Ψ:=λ w=>bZ.dr w Fs (ek (oA p))) (λ w h=>by rw [if_pos zw] at h; exact h);refine eD ag4 (asx (ek (oA p)) Fs 2 N0 ni (hs).eU oF.2 oF.1 (Mm (rQ oF.1) oF.2 JA) (by decide) (by decide)) ?_;rintro _ w7 ⟨K,q,rfl,bY⟩;have hs:=(hs.made bY).split;have azL:xA (oA p) (lH (mC (ek (oA p)) 2) ni) 0:=xA.new Sa JA htw (by first | decide | omega);refine bE rfl (bE rfl ?_);refine ⟨_,?_,λ _ _ h=>h⟩;refine Dv Ud (fP (cQ ?_));intro fy;refine fV (by decide) ?_;have hs:=((hs.p4.drop.p4.drop.p1.p1).p2).p3
  refine ⟨λ mm i w'=>∃ (k:Nat) (m:gE),i = .int .i64 (k:Int)∧mm=40 - k∧k≤40∧xA (oA p) m k∧St w bD [cE azK (Flat.enc Fs),eU (λ w=>bZ.dr w Fs (ek (oA p))),eO K q m,eU K] w',⟨40,0,_,rfl,rfl,by decide,azL,hs⟩,?_⟩;rintro mm _ w9 ⟨k,m,rfl,rfl,hk,hm,hs⟩ jB;refine ⟨λ jv w'=>∃ q:Prop,∃ _:Decidable q,(q→k<script.length∧k<40)∧jv = .bool (decide q)∧w9=w',?_,?_⟩
  ·refine aJ aof (Yy.ext hs.aF) (aR (aC (λ lU=>?_) (λ lU=>?_)))
   ·refine aR ?_;exact ⟨_,inferInstance,(λ h=>by omega),rfl,rfl⟩
   ·exact ⟨False,inferInstance,(λ h=>h.elim),rfl,rfl⟩
  ·rintro _ pS ⟨q3,hq3,hq4,rfl,hw⟩ oS;subst hw;refine aC (λ so=>?_) (λ so=>?_)
   ·obtain ⟨hk3,hk4⟩:=hq4 so;obtain ⟨e_sa,agE⟩:=gx ts7 (i:=((k:Int)).toNat) (by omega);obtain ⟨Yl,asI⟩:=gx (script) (i:=((k:Int)).toNat) (by omega);obtain ⟨Ym,rfl,Yn⟩:=hD7.2 _ _ _ agE asI;refine aQ aof Yy (by omega) agE (λ _ Qr=>have hs:=hs.drew;aD aog (Qr.ext hs.aF) (cZ HL hs (aly hm (hs.p2).has (hs.p3).eU (λ w' e=>St.kH (hs.p3) e)) (λ x55 sU bY hs=>?_)));refine ⟨fL aog (Qr.ext hs.aF),?_⟩;obtain ⟨alG,hs⟩:=hs.GD;refine eD auB (C24 Yl (⟨(Yl).kind,(Yl).n,Ym⟩:zL) _ _ alG (ft m) [] [] 9 _ ⟨Ym,rfl,bZ.ext Yn hs.aF⟩ (hs).fB (hs.p1).eU (eJ.nil (λ _=>True) _) jS.nil (Te hm) (by decide)) ?_
    rintro _ vm ⟨azM,rfl,he,Yo⟩;have hs:=hs.ext he;obtain ⟨alH,aeh,aei⟩:=Yo.rd (hs.p1).eU jS.nil;subst aeh;obtain ⟨N1,m1,ev1,e1,hd1,hpm1⟩:=Mv hm.pm (wS Yl (ft m) [] 9);refine bG FF hs.p4 (H':=λ _=>eO K q m1) (Φ:=λ v _=>v = .tuple #[Flat.val (ev1:dC),.int .i64 e1]) (λ F2 eQ eA=>?_) ?_
    ·exact F7 (N:=N1) (k:=(wS Yl (ft m) [] 9)) (gc:=alH) hm (by omega) hd1 (aee (F8 hm) (λ x hx=>by cases hx)) eQ (λ w' hc=>((eA w' hc).p4).eU) (λ w' hc=>aei w' (Fp (bZ.ext Yn (eA w' hc).aF)) ((eA w' hc).p1).eU jS.nil)
    rintro _ vn rfl hs;refine aO (by omega) ?_;have hs:=((hs.p1.drop.p1.drop.p3.p1).p3).p3;exact ⟨_,by omega,k+1,m1,rfl,rfl,by omega,hm.do hd1,hs⟩
   ·refine cZ ahL hs (alA hm (by omega) (Rw hm (by omega)) (hs.p2).has (hs.p3).eU (λ w' e=>St.kH (hs.p3) e)) (λ x59 sm bY hs=>aZ YX hs (ad5 hm (hs.p3).has (hs.p4).eU (λ w' e=>St.kH (hs.p4) e)) (λ v7 he hs=>aN hs Dw (λ auf yZ hs=>aI (x:=(ke m)) hs Ib rfl rfl (λ Cp hs=>?_))));have hs:=hs.p1;obtain ⟨Ft,hs⟩:=hs.GD;have hn59:=(hs.p1).eU.1;obtain ⟨gu1,gu2,gu3,gu4,gu5,rfl,_⟩:=(hs.p4).eU;refine aJ mL (hs).fB (aH (aC (λ oI=>?_) (λ oI=>?_)))
    ·refine ⟨λ jv w'=>jv = .bool true∧St w bD [eO K q m,eU K] w',?_,?_⟩
     ·refine aA abo (aB (v:=.int .i64 (((ke m)).fault)) bL hs.p2.hb rfl (cQ (fC (decide_eq_true (Jw (by omega))) (aZ ag3 hs (C14 _) (λ Iv he hs=>?_)))));have hs:=((((((((((hs.drop)).drop)).drop)).drop)).drop).p1).p1;exact ⟨rfl,hs⟩
     ·rintro _ Jy ⟨rfl,hs⟩ GQ;exact ⟨rfl,hs.aF⟩
    ·refine PI (by decide) (by decide) (aJ mL (hs).fB (H0 (by omega) (by omega) ?_));have ass:=Int.emod_nonneg (uI n 65535) (show (Ft.length:Int)≠0 by omega);have ast:=Int.emod_lt_of_pos (uI n 65535) (show (0:Int)<Ft.length by omega);obtain ⟨aq2,I7⟩:=gx (Ft) (i:=(((uI n 65535) % ((Ft).length:Int))).toNat) (by omega);refine dR hs mL (by omega) (by omega) (λ _ W4=>ga hs nJ W4 I7 ?_);obtain ⟨agF,O8⟩:=gx (js m) (i:=(((uI n 65535) % (Ft.length:Int))).toNat) (by omega);obtain ⟨asJ,rfl,d_x80⟩:=(hs.p1).eU.2 _ _ _ I7 O8;have hqm:=List.mem_of_getElem? O8;obtain ⟨N2,m2,ev2,e2,CY,hpm2⟩:=Mv hm.pm agF
     obtain ⟨rfl,hA⟩:=MC hm hqm CY;have hU:=hm.pm.u;have hA1:=hA.l;have hA2:=hA.k;have hA3:=hA.a;have hA4:=hA.b;rw [hU] at hA1 hA2 hA3 hA4;have gn:=hm.pm.gm.ru.st;have Bd:=hm.pm.gm.mem.fl;rw [hm.pm.gm.cT,hU] at Bd;have azN:=hm.pm.gm.ru.fl;rw [hU] at gn azN;have hcr1:=hm.pm.gm.cr;have hcr2:=hm.cr;have hcr3:(ke m).dT=m.dT:=rfl;refine bG FF hs.p5 (H':=λ _=>eO K q m2) (Φ:=λ v _=>v = .tuple #[Flat.val (ev2:dC),.int .i64 0]) (λ F2 eQ eA=>?_) ?_
     ·exact F7 (N:=N2) (k:=agF) (gc:=asJ) hm (by omega) CY (by have:=(yl hm.pm.gm.mem hqm).2.2.2.2.1; omega) eQ (λ w' hc=>((eA w' hc).p5).eU) (λ w' hc=>(by obtain ⟨g2,e2,d2⟩:=((eA w' hc).p1).eU.2 _ _ _ I7 O8; cases e2; exact d2.flat))
     rintro _ KG rfl hs;refine bE rfl (bE rfl (aN hs lD (λ UL MH hs=>aI (x:=(ev2:dC)) hs eZ rfl rfl (λ Qv hs=>cZ ag5 hs (asv (hm.do CY) (hs.p1).has (hs.p7).eU (λ w' e=>St.kH (hs.p7) e)) (λ x86 To bY hs=>cZ amM hs (asw (hm.do CY) (hs.p2).has (hs.p8).eU (λ w' e=>St.kH (hs.p8) e)) (λ x88 VM bY hs=>?_))))));refine ⟨_,?_,λ _ _ h=>h⟩;refine cQ (fV (by decide) (aJ dY (hs.p1).fB (aA r8 ?_)));have aej:=Hy (hs.p8).eU;refine aB eu hs.p7.hb rfl (aJ dY aej (cQ (fV (decide_eq_false (by omega)) (aJ dY (hs).fB (aA lK (aB bL hs.p7.hb rfl (cQ ?_)))))))
     intro R4;refine fV (decide_eq_false (by dsimp only; omega)) ?_;refine ⟨λ jv w'=>jv = .bool true∧St w bD [eO K q m2,eU K] w',?_,?_⟩
     ·refine aA lK (have hs:=hs.drew;aB bL hs.p7.hb rfl (kQ dY (hs.p1).fB (by dsimp only; omega) (by dsimp only; omega) (λ azO aek=>aZ RH hs (C21 _ _ ((((m2.mem.l)).take ((ek (oA p)).stays).toNat)) ((m2.mem.kept)) _ (aek _ (hs.p1).fB) (hs).fB (by rw [List.length_take]; omega)) (λ w26 he hs=>fC (decide_eq_true hA3) (aA lK (aB bL hs.p7.hb rfl (re dY (hs.p1).fB (by dsimp only; omega) (by dsimp only; omega) (λ VL ael=>aA r8 ?_))))))));have Yp:=Hy (hs.p8).eU;refine aB eu hs.p7.hb rfl (aA lK (aB bL hs.p7.hb rfl (Gu dY Yp (by dsimp only; omega) (by dsimp only; omega) (λ azP NC=>aZ RH hs (C21 _ _ ((((m2.mem.l)).drop ((ek (oA p)).stays).toNat)) (((ek (oA p)).cT).drop ((ek (oA p)).stays).toNat) _ (ael _ (hs.p1).fB) NC (by rw [List.length_drop]; omega)) (λ w27 he hs=>fC (decide_eq_true hA4) (cZ auD hs (azB (0) (hm.do CY) (hs.p3).has (hs.p9).eU (λ w' e=>St.kH (hs.p9) e)) (λ axr w28 bY hs=>aJ oO (hs).fB (aH (fC (decide_eq_true (by rw [hA.buf]; rfl)) (aA abn (aB (v:=.int .i64 (((ke m)).dT)) bL hs.p7.hb rfl (aO (by omega) ?_))))))))))))
      refine aZ YX hs (ad5 (hm.do CY) (hs.p4).has (hs.qI).eU (λ w' e=>St.kH (hs.qI) e)) (λ w29 he hs=>?_);refine ⟨aG bL (hs.p7.hb.cell rfl),?_⟩;refine pop (Yk (ke m2)) (aH (fC (decide_eq_true (by have:=hA.st; omega)) (cZ ag6 hs (alz (1) (hm.do CY) (hs.p4).has (hs.qI).eU (λ w' e=>St.kH (hs.qI) e)) (λ x141 w30 bY hs=>aJ dY (hs).fB (aH (fC (decide_eq_true (by rw [hA.rg]; rfl)) (cZ ahL hs (alA (hm.do CY) (by omega) (by have:=Rw (hm.do CY) (by omega); exact this) (hs.p5).has (hs.p11).eU (λ w' e=>St.kH (hs.p11) e)) (λ x147 w31 bY hs=>?_))))))));obtain ⟨aug,aem,aen,_⟩:=(hs).dl
      refine aJ mL aem ?_;rw [aen];refine aH (fC (decide_eq_true (by rw [hA.one]; rfl)) (aZ ag3 hs (C14 _) (λ w32 he hs=>?_)));have hs:=((((((((((((((((((hs.drop)).drop)).drop)).drop)).drop)).drop).p1).drop).p1).drop).p1).drop).p1).drop;have hs:=(hs.p1.drop.p1).p1;exact ⟨rfl,hs⟩
     ·rintro _ w33 ⟨rfl,hs⟩ dd6;exact ⟨rfl,hs.aF⟩
set_option maxRecDepth 100000
theorem own:ownKnob Tryz.prog.godebug=none:=by kernel_rfl
theorem rd9:yb Tryz.prog 9 ByteArray (λ y=>y.size≤maxLen):=RdT.deep (aic Tryz.underlying9 (by kernel_rfl)) λ _ _=>rfl
theorem JD:yb Tryz.prog 3 Int lM:=RdT.deep (aib Tryz.underlying3 (by kernel_rfl)) λ _ _=>rfl
theorem asK:yb Tryz.prog 163 dG xg:=λ w=>⟨by kernel_rfl,λ enc base held fuel cs x h=>by
 obtain ⟨hl,n,hp⟩:=ma Tryz.underlying163 h
 obtain ⟨y0,h0⟩:=hp 0 _ rfl
 obtain ⟨y1,h1⟩:=hp 1 _ rfl
 obtain ⟨y2,h2⟩:=hp 2 _ rfl
 obtain ⟨s0,e0,a0,d0,k0⟩:=(rd9 w).rd enc base held n _ _ h0
 obtain ⟨s1,e1,a1,d1,k1⟩:=(JD w).rd enc base held n _ _ h1
 obtain ⟨s2,e2,a2,d2,k2⟩:=(JD w).rd enc base held n _ _ h2
 obtain rfl:s0=a0:=d0
 obtain rfl:s1=a1:=d1
 obtain rfl:s2=a2:=d2
 have p0:=dS (s:=1) e0
 have p1:=dS (s:=1) e1
 have p2:=dS (s:=1) e2
 have hz:cs.drop 3=[]:=List.drop_eq_nil_iff.2 (by rw [hl]; exact Nat.le_of_eq (by kernel_rfl))
 refine ⟨(⟨s0,s1,s2⟩:dG),?_,(⟨s0,s1,s2⟩:dG),rfl,k0,k1,k2⟩
 have e:cs=cs.drop 0:=rfl
 rw [e]
 refine p0.trans ?_
 refine ((congrArg _ p1)).trans ?_
 refine ((congrArg _ (congrArg _ p2))).trans ?_
 exact (congrArg _ (congrArg _ (congrArg _ hz)))⟩
theorem alI:yb Tryz.prog 23 (List dG) (λ ys:(List dG)=>∀ y∈ys,xg y):=yb.slice Tryz.underlying23 (by kernel_rfl) asK
theorem azQ:yb Tryz.prog 22 (List (List dG)) (λ ys:(List (List dG))=>∀ y∈ys,(λ ys:(List dG)=>∀ y∈ys,xg y) y):=yb.slice Tryz.underlying22 (by kernel_rfl) alI
theorem azR:yb Tryz.prog 95 (List ByteArray) (λ ys:(List ByteArray)=>∀ y∈ys,(λ y:ByteArray=>y.size≤maxLen) y):=yb.slice Tryz.underlying95 (by kernel_rfl) rd9
theorem asL:yb Tryz.prog 166 cY zJ:=λ w=>⟨by kernel_rfl,λ enc base held fuel cs x h=>by
 obtain ⟨hl,n,hp⟩:=ma Tryz.underlying166 h
 obtain ⟨y0,h0⟩:=hp 0 _ rfl
 obtain ⟨y1,h1⟩:=hp 1 _ rfl
 obtain ⟨y2,h2⟩:=hp 2 _ rfl
 obtain ⟨y3,h3⟩:=hp 3 _ rfl
 obtain ⟨s0,e0,a0,d0,k0⟩:=(JD w).rd enc base held n _ _ h0
 obtain ⟨s1,e1,a1,d1,k1⟩:=(JD w).rd enc base held n _ _ h1
 obtain ⟨s2,e2,a2,d2,k2⟩:=(rd9 w).rd enc base held n _ _ h2
 obtain ⟨s3,e3,a3,d3,k3⟩:=(JD w).rd enc base held n _ _ h3
 obtain rfl:s0=a0:=d0
 obtain rfl:s1=a1:=d1
 obtain rfl:s2=a2:=d2
 obtain rfl:s3=a3:=d3
 have p0:=dS (s:=1) e0
 have p1:=dS (s:=1) e1
 have p2:=dS (s:=1) e2
 have p3:=dS (s:=1) e3
 have hz:cs.drop 4=[]:=List.drop_eq_nil_iff.2 (by rw [hl]; exact Nat.le_of_eq (by kernel_rfl))
 refine ⟨(⟨s0,s1,s2,s3⟩:cY),?_,(⟨s0,s1,s2,s3⟩:cY),rfl,k0,k1,k2,k3⟩
 have e:cs=cs.drop 0:=rfl
 rw [e]
 refine p0.trans ?_
 refine ((congrArg _ p1)).trans ?_
 refine ((congrArg _ (congrArg _ p2))).trans ?_
 refine ((congrArg _ (congrArg _ (congrArg _ p3)))).trans ?_
 exact (congrArg _ (congrArg _ (congrArg _ (congrArg _ hz))))⟩
theorem alJ:yb Tryz.prog 86 (List cY) (λ ys:(List cY)=>∀ y∈ys,zJ y):=yb.slice Tryz.underlying86 (by kernel_rfl) asL
theorem asM:yb Tryz.prog 173 cG Iu:=λ w=>⟨by kernel_rfl,λ enc base held fuel cs x h=>by
 obtain ⟨hl,n,hp⟩:=ma Tryz.underlying173 h
 obtain ⟨y0,h0⟩:=hp 0 _ rfl
 obtain ⟨y1,h1⟩:=hp 1 _ rfl
 obtain ⟨y2,h2⟩:=hp 2 _ rfl
 obtain ⟨y3,h3⟩:=hp 3 _ rfl
 obtain ⟨y4,h4⟩:=hp 4 _ rfl
 obtain ⟨y5,h5⟩:=hp 5 _ rfl
 obtain ⟨y6,h6⟩:=hp 6 _ rfl
 obtain ⟨y7,h7⟩:=hp 7 _ rfl
 obtain ⟨y8,h8⟩:=hp 8 _ rfl
 obtain ⟨s0,e0,a0,d0,k0⟩:=(JD w).rd enc base held n _ _ h0
 obtain ⟨s1,e1,a1,d1,k1⟩:=(rd9 w).rd enc base held n _ _ h1
 obtain ⟨s2,e2,a2,d2,k2⟩:=(rd9 w).rd enc base held n _ _ h2
 obtain ⟨s3,e3,a3,d3,k3⟩:=(alJ w).rd enc base held n _ _ h3
 obtain ⟨s4,e4,a4,d4,k4⟩:=(alJ w).rd enc base held n _ _ h4
 obtain ⟨s5,e5,a5,d5,k5⟩:=(JD w).rd enc base held n _ _ h5
 obtain ⟨s6,e6,a6,d6,k6⟩:=(JD w).rd enc base held n _ _ h6
 obtain ⟨s7,e7,a7,d7,k7⟩:=(JD w).rd enc base held n _ _ h7
 obtain ⟨s8,e8,a8,d8,k8⟩:=(JD w).rd enc base held n _ _ h8
 obtain rfl:s0=a0:=d0
 obtain rfl:s1=a1:=d1
 obtain rfl:s2=a2:=d2
 obtain rfl:s5=a5:=d5
 obtain rfl:s6=a6:=d6
 obtain rfl:s7=a7:=d7
 obtain rfl:s8=a8:=d8
 have p0:=dS (s:=1) e0
 have p1:=dS (s:=1) e1
 have p2:=dS (s:=1) e2
 have p3:=dS (s:=1) e3
 have p4:=dS (s:=1) e4
 have p5:=dS (s:=1) e5
 have p6:=dS (s:=1) e6
 have p7:=dS (s:=1) e7
 have p8:=dS (s:=1) e8
 have hz:cs.drop 9=[]:=List.drop_eq_nil_iff.2 (by rw [hl]; exact Nat.le_of_eq (by kernel_rfl))
 refine ⟨(⟨s0,s1,s2,s3,s4,s5,s6,s7,s8⟩:bX),?_,(⟨s0,s1,s2,a3,a4,s5,s6,s7,s8⟩:cG),⟨s3,s4,rfl,d3,d4⟩,k0,k1,k2,k3,k4,k5,k6,k7,k8⟩
 have e:cs=cs.drop 0:=rfl
 rw [e]
 refine p0.trans ?_
 refine ((congrArg _ p1)).trans ?_
 refine ((congrArg _ (congrArg _ p2))).trans ?_
 refine ((congrArg _ (congrArg _ (congrArg _ p3)))).trans ?_
 refine ((congrArg _ (congrArg _ (congrArg _ (congrArg _ p4))))).trans ?_
 refine ((congrArg _ (congrArg _ (congrArg _ (congrArg _ (congrArg _ p5)))))).trans ?_
 refine ((congrArg _ (congrArg _ (congrArg _ (congrArg _ (congrArg _ (congrArg _ p6))))))).trans ?_
 refine ((congrArg _ (congrArg _ (congrArg _ (congrArg _ (congrArg _ (congrArg _ (congrArg _ p7)))))))).trans ?_
 refine ((congrArg _ (congrArg _ (congrArg _ (congrArg _ (congrArg _ (congrArg _ (congrArg _ (congrArg _ p8))))))))).trans ?_
 exact (congrArg _ (congrArg _ (congrArg _ (congrArg _ (congrArg _ (congrArg _ (congrArg _ (congrArg _ (congrArg _ hz)))))))))⟩
theorem azS:yb Tryz.prog 96 (List cG) (λ ys:(List cG)=>∀ y∈ys,Iu y):=yb.slice Tryz.underlying96 (by kernel_rfl) asM
theorem azT:yb Tryz.prog 98 dQ xh:=λ w=>⟨by kernel_rfl,λ enc base held fuel cs x h=>by
 obtain ⟨hl,n,hp⟩:=ma Tryz.underlying98 h
 obtain ⟨y0,h0⟩:=hp 0 _ rfl
 obtain ⟨y1,h1⟩:=hp 1 _ rfl
 obtain ⟨y2,h2⟩:=hp 2 _ rfl
 obtain ⟨y3,h3⟩:=hp 3 _ rfl
 obtain ⟨s0,e0,a0,d0,k0⟩:=(rd9 w).rd enc base held n _ _ h0
 obtain ⟨s1,e1,a1,d1,k1⟩:=(azR w).rd enc base held n _ _ h1
 obtain ⟨s2,e2,a2,d2,k2⟩:=(azS w).rd enc base held n _ _ h2
 obtain ⟨s3,e3,a3,d3,k3⟩:=(JD w).rd enc base held n _ _ h3
 obtain rfl:s0=a0:=d0
 obtain rfl:s3=a3:=d3
 have p0:=dS (s:=1) e0
 have p1:=dS (s:=1) e1
 have p2:=dS (s:=1) e2
 have p3:=dS (s:=1) e3
 have hz:cs.drop 4=[]:=List.drop_eq_nil_iff.2 (by rw [hl]; exact Nat.le_of_eq (by kernel_rfl))
 refine ⟨(⟨s0,s1,s2,s3⟩:ei),?_,(⟨s0,a1,a2,s3⟩:dQ),⟨s1,s2,rfl,d1,d2⟩,k0,k1,k2,k3⟩
 have e:cs=cs.drop 0:=rfl
 rw [e]
 refine p0.trans ?_
 refine ((congrArg _ p1)).trans ?_
 refine ((congrArg _ (congrArg _ p2))).trans ?_
 refine ((congrArg _ (congrArg _ (congrArg _ p3)))).trans ?_
 exact (congrArg _ (congrArg _ (congrArg _ (congrArg _ hz))))⟩
theorem asN:yb Tryz.prog 24 (List dQ) (λ ys:(List dQ)=>∀ y∈ys,xh y):=yb.slice Tryz.underlying24 (by kernel_rfl) azT
theorem azU:yb Tryz.prog 89 jA DV:=λ w=>⟨by kernel_rfl,λ enc base held fuel cs x h=>by
 obtain ⟨hl,n,hp⟩:=ma Tryz.underlying89 h
 obtain ⟨y0,h0⟩:=hp 0 _ rfl
 obtain ⟨y1,h1⟩:=hp 1 _ rfl
 obtain ⟨s0,e0,a0,d0,k0⟩:=(alJ w).rd enc base held n _ _ h0
 obtain ⟨s1,e1,a1,d1,k1⟩:=(JD w).rd enc base held n _ _ h1
 obtain rfl:s1=a1:=d1
 have p0:=dS (s:=1) e0
 have p1:=dS (s:=1) e1
 have hz:cs.drop 2=[]:=List.drop_eq_nil_iff.2 (by rw [hl]; exact Nat.le_of_eq (by kernel_rfl))
 refine ⟨(⟨s0,s1⟩:lQ),?_,(⟨a0,s1⟩:jA),⟨s0,rfl,d0⟩,k0,k1⟩
 have e:cs=cs.drop 0:=rfl
 rw [e]
 refine p0.trans ?_
 refine ((congrArg _ p1)).trans ?_
 exact (congrArg _ (congrArg _ hz))⟩
theorem azV:yb Tryz.prog 25 (List jA) (λ ys:(List jA)=>∀ y∈ys,DV y):=yb.slice Tryz.underlying25 (by kernel_rfl) azU
theorem rd27:yb Tryz.prog 27 cU abJ:=λ w=>⟨by kernel_rfl,λ enc base held fuel cs x h=>by
 obtain ⟨hl,n,hp⟩:=ma Tryz.underlying27 h
 obtain ⟨y0,h0⟩:=hp 0 _ rfl
 obtain ⟨y1,h1⟩:=hp 1 _ rfl
 obtain ⟨y2,h2⟩:=hp 2 _ rfl
 obtain ⟨y3,h3⟩:=hp 3 _ rfl
 obtain ⟨y4,h4⟩:=hp 4 _ rfl
 obtain ⟨y5,h5⟩:=hp 5 _ rfl
 obtain ⟨s0,e0,a0,d0,k0⟩:=(azQ w).rd enc base held n _ _ h0
 obtain ⟨s1,e1,a1,d1,k1⟩:=(alI w).rd enc base held n _ _ h1
 obtain ⟨s2,e2,a2,d2,k2⟩:=(alI w).rd enc base held n _ _ h2
 obtain ⟨s3,e3,a3,d3,k3⟩:=(asN w).rd enc base held n _ _ h3
 obtain ⟨s4,e4,a4,d4,k4⟩:=(asN w).rd enc base held n _ _ h4
 obtain ⟨s5,e5,a5,d5,k5⟩:=(azV w).rd enc base held n _ _ h5
 have p0:=dS (s:=1) e0
 have p1:=dS (s:=1) e1
 have p2:=dS (s:=1) e2
 have p3:=dS (s:=1) e3
 have p4:=dS (s:=1) e4
 have p5:=dS (s:=1) e5
 have hz:cs.drop 6=[]:=List.drop_eq_nil_iff.2 (by rw [hl]; exact Nat.le_of_eq (by kernel_rfl))
 refine ⟨(⟨s0,s1,s2,s3,s4,s5⟩:bN),?_,(⟨a0,a1,a2,a3,a4,a5⟩:cU),⟨s0,s1,s2,s3,s4,s5,rfl,d0,d1,d2,d3,d4,d5⟩,k0,k1,k2,k3,k4,k5⟩
 have e:cs=cs.drop 0:=rfl
 rw [e]
 refine p0.trans ?_
 refine ((congrArg _ p1)).trans ?_
 refine ((congrArg _ (congrArg _ p2))).trans ?_
 refine ((congrArg _ (congrArg _ (congrArg _ p3)))).trans ?_
 refine ((congrArg _ (congrArg _ (congrArg _ (congrArg _ p4))))).trans ?_
 refine ((congrArg _ (congrArg _ (congrArg _ (congrArg _ (congrArg _ p5)))))).trans ?_
 exact (congrArg _ (congrArg _ (congrArg _ (congrArg _ (congrArg _ (congrArg _ hz))))))⟩
theorem azW:yb Tryz.prog 28 (List Int) (λ ys:(List Int)=>∀ y∈ys,lM y):=yb.slice Tryz.underlying28 (by kernel_rfl) JD
theorem azX:yb Tryz.prog 52 et Qa:=λ w=>⟨by kernel_rfl,λ enc base held fuel cs x h=>by
 obtain ⟨hl,n,hp⟩:=ma Tryz.underlying52 h
 obtain ⟨y0,h0⟩:=hp 0 _ rfl
 obtain ⟨y1,h1⟩:=hp 1 _ rfl
 obtain ⟨y2,h2⟩:=hp 2 _ rfl
 obtain ⟨y3,h3⟩:=hp 3 _ rfl
 obtain ⟨s0,e0,a0,d0,k0⟩:=(JD w).rd enc base held n _ _ h0
 obtain ⟨s1,e1,a1,d1,k1⟩:=(JD w).rd enc base held n _ _ h1
 obtain ⟨s2,e2,a2,d2,k2⟩:=(JD w).rd enc base held n _ _ h2
 obtain ⟨s3,e3,a3,d3,k3⟩:=(azW w).rd enc base held n _ _ h3
 obtain rfl:s0=a0:=d0
 obtain rfl:s1=a1:=d1
 obtain rfl:s2=a2:=d2
 have p0:=dS (s:=1) e0
 have p1:=dS (s:=1) e1
 have p2:=dS (s:=1) e2
 have p3:=dS (s:=1) e3
 have hz:cs.drop 4=[]:=List.drop_eq_nil_iff.2 (by rw [hl]; exact Nat.le_of_eq (by kernel_rfl))
 refine ⟨(⟨s0,s1,s2,s3⟩:dZ),?_,(⟨s0,s1,s2,a3⟩:et),⟨s3,rfl,d3⟩,k0,k1,k2,k3⟩
 have e:cs=cs.drop 0:=rfl
 rw [e]
 refine p0.trans ?_
 refine ((congrArg _ p1)).trans ?_
 refine ((congrArg _ (congrArg _ p2))).trans ?_
 refine ((congrArg _ (congrArg _ (congrArg _ p3)))).trans ?_
 exact (congrArg _ (congrArg _ (congrArg _ (congrArg _ hz))))⟩
theorem rd64:yb Tryz.prog 64 FM aif:=λ w=>⟨by kernel_rfl,λ enc base held fuel cs x h=>by
 obtain ⟨hl,n,hp⟩:=ma Tryz.underlying64 h
 obtain ⟨y0,h0⟩:=hp 0 _ rfl
 obtain ⟨y1,h1⟩:=hp 1 _ rfl
 obtain ⟨y2,h2⟩:=hp 2 _ rfl
 obtain ⟨s0,e0,a0,d0,k0⟩:=(JD w).rd enc base held n _ _ h0
 obtain ⟨s1,e1,a1,d1,k1⟩:=(JD w).rd enc base held n _ _ h1
 obtain ⟨s2,e2,a2,d2,k2⟩:=(azX w).rd enc base held n _ _ h2
 obtain rfl:s0=a0:=d0
 obtain rfl:s1=a1:=d1
 have p0:=dS (s:=1) e0
 have p1:=dS (s:=1) e1
 have p2:=dS (s:=4) e2
 have hz:cs.drop 6=[]:=List.drop_eq_nil_iff.2 (by rw [hl]; exact Nat.le_of_eq (by kernel_rfl))
 refine ⟨(⟨s0,s1,s2⟩:zL),?_,(⟨s0,s1,a2⟩:FM),⟨s2,rfl,d2⟩,k0,k1,k2⟩
 have e:cs=cs.drop 0:=rfl
 rw [e]
 refine p0.trans ?_
 refine ((congrArg _ p1)).trans ?_
 refine ((congrArg _ (congrArg _ p2))).trans ?_
 exact (congrArg _ (congrArg _ (congrArg _ hz)))⟩
end Go.Proofs.YtnjcingfdhjfkaaGreat
