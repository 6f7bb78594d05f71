/-
  What the proof needs, part 8.
-/
import Derived.Test.YtnjcingfdhjfkaaGreatVsM7
set_option linter.all false
namespace Go.Proofs.YtnjcingfdhjfkaaGreat
open Go.Fw
def Ts (g:Int→Nat) (ta tb:Nat) (x:cE):Nat:=
 if x.kind=11 then g 12+max (ta+(if 0<x.fD then g 11 else 0)) tb
 else if x.kind=12 then g 13+x.n.toNat * (ta+g 14)
 else if x.kind=13 then g 11 else g (if x.kind=14 then 15 else x.kind)
def qA (g:Int→Nat):Bk→Nat
 | .nil=>0
 | .cons x a b r=>Ts g (qA g a) (qA g b) x+qA g r
def oz (x:cE) (a b r:Bk) (at_:Int):Int:=at_+(bV (.cons x a b r) - bV r)
def W (g:Int→Nat):Bk→Int→Int→List Int→Int→Nat→Nat→Option Nat
 | .nil,at_,_,_,pos,kE,_=>if pos=at_ then some kE else none
 | .cons x a b r,at_,lp,cs,pos,kE,kO=>
  if oz x a b r at_≤pos then W g r (oz x a b r at_) lp cs pos kE kO
  else if pos=at_ then (if x.kind=13 then some (g 11+kO) else some (Ts g (qA g a) (qA g b) x+(qA g r+kE)))
  else if x.kind=11 then (if pos<rj x a at_ then W g a (at_+1) lp cs pos ((if 0<x.fD then g 11 else 0)+(qA g r+kE)) kO else W g b (rj x a at_) lp cs pos (qA g r+kE) kO)
  else if x.kind=12 then (if 1≤cs.getD lp.toNat 0∧cs.getD lp.toNat 0≤8 then W g a (at_+1) (lp+1) cs pos (g 14+((cs.getD lp.toNat 0).toNat - 1) * (qA g a+g 14)+(qA g r+kE)) (qA g r+kE) else none)
  else none
theorem OW (x:cE) (a b r:Bk) (at_:Int):at_+1≤oz x a b r at_:=by
 have h1:=iR a; have h2:=iR b
 have e:bV (.cons x a b r)=(if x.kind=12 then 2+bV a else if x.kind=11 then (if 0<x.fD then 1+bV a+bV b+1 else 1+bV a+bV b) else 1)+bV r:=rfl
 unfold oz; rw [e]
 repeat' split
 all_goals omega
section
variable {g:Int→Nat} {lp:Int} {cs:List Int} {kE kO:Nat}
theorem xp (t:Bk) (at_:Int) (h:kO≤kE):∃ r,W g t at_ lp cs at_ kE kO=some r∧r≤qA g t+kE:=by
 cases t with
 | nil=>exact ⟨kE,if_pos rfl,by unfold qA; omega⟩
 | cons x a b r=>
  have h1:=OW x a b r at_
  rw [show qA g (.cons x a b r)=Ts g (qA g a) (qA g b) x+qA g r from rfl]
  unfold W
  rw [if_neg (show ¬ oz x a b r at_≤at_ by omega),if_pos rfl]
  by_cases hk:x.kind=13
  ·rw [if_pos hk]
   have:Ts g (qA g a) (qA g b) x=g 11:=by unfold Ts; rw [if_neg (show ¬ x.kind=11 by omega),if_neg (show ¬ x.kind=12 by omega),if_pos hk]
   exact ⟨_,rfl,by omega⟩
  ·rw [if_neg hk]; exact ⟨_,rfl,by omega⟩
theorem Rn (t:Bk):∀ (at_ pos:Int),pos=at_+bV t→W g t at_ lp cs pos kE kO=some kE:=by
 induction t with
 | nil=>intro at_ pos h; unfold W; rw [if_pos (by have:bV .nil=0:=rfl; omega)]
 | cons x a b r _ _ ih=>
  intro at_ pos h
  have h1:=OW x a b r at_
  have h2:=iR r
  have e:oz x a b r at_=at_+(bV (.cons x a b r) - bV r):=rfl
  unfold W
  rw [if_pos (by omega)]
  exact ih _ _ (by omega)
theorem OX {x:cE} {a b r:Bk} {at_ pos:Int} (h:oz x a b r at_≤pos):W g (.cons x a b r) at_ lp cs pos kE kO=W g r (oz x a b r at_) lp cs pos kE kO:=by
 conv=>lhs; unfold W
 rw [if_pos h]
theorem akX {x:cE} {a b r:Bk} {at_:Int} (h:kO≤kE):∃ r',W g (.cons x a b r) at_ lp cs (oz x a b r at_) kE kO=some r'∧r'≤qA g r+kE:=by
 rw [OX (Int.le_refl _)]; exact xp r _ h
end
def Tr (x:aW) (pos:Int) (cs:List Int) (pos':Int) (cs':List Int):Prop:=
 (x.kind=11∧pos'=x.to∧cs'=cs)∨(x.kind=12∧(pos'=x.to∨pos'=pos+1)∧cs'=cs)∨(x.kind=13∧pos'=pos+1∧cs'=cs.set x.a.toNat x.b)∨
 (x.kind=14∧cs'=cs.set x.a.toNat (qV (cs.getD x.a.toNat 0 - 1))∧((0<qV (cs.getD x.a.toNat 0 - 1)∧pos'=x.to)∨(¬ 0<qV (cs.getD x.a.toNat 0 - 1)∧pos'=pos+1)))∨
 (¬ x.kind=11∧¬ x.kind=12∧¬ x.kind=13∧¬ x.kind=14∧pos'=pos+1∧cs'=cs)
theorem akY {n:Int} (h:0≤n∧n≤8):qV n=n:=by
 obtain rfl | rfl | rfl | rfl | rfl | rfl | rfl | rfl | rfl:n=0∨n=1∨n=2∨n=3∨n=4∨n=5∨n=6∨n=7∨n=8:=by omega
 all_goals decide
theorem B6 {cs:List Int} {i:Nat} {v:Int} (h:i<cs.length):(cs.set i v).getD i 0=v:=by
 rw [List.getD_eq_getElem?_getD,List.getElem?_set_self h]; rfl
theorem getD_set_ne {cs:List Int} {i j:Nat} {v:Int} (h:i≠j):(cs.set i v).getD j 0=cs.getD j 0:=by
 rw [List.getD_eq_getElem?_getD,List.getElem?_set_ne h,← List.getD_eq_getElem?_getD]
theorem AI {α:Type} {l1 l2:List α} {k:Int} {x:α} (h:(l1++l2)[k.toNat]? = some x) (hk:k.toNat<l1.length):l1[k.toNat]? = some x:=by
 rwa [List.getElem?_append_left hk] at h
theorem uy {α:Type} {l1 l2:List α} {k j:Int} {x:α} (h:(l1++l2)[k.toNat]? = some x) (hk:l1.length≤k.toNat) (hj:j.toNat=k.toNat - l1.length):l2[j.toNat]? = some x:=by
 rw [List.getElem?_append_right hk] at h; rwa [hj]
theorem at_one {α:Type} {y x:α} {k:Int} (h:[y][k.toNat]? = some x):x=y:=by
 cases hk:k.toNat with
 | zero=>rw [hk] at h; simp at h; exact h.symm
 | succ n=>rw [hk] at h; simp at h
structure Mi (g:Int→Nat) (t:Bk) (at_ lp out loops:Int) (cs cs':List Int) (pos':Int) (kE kO r c:Nat):Prop where
 low:∀ j:Nat,(j:Int)<lp→cs'.getD j 0=cs.getD j 0
 len:cs'.length=cs.length
 go:(at_≤pos'∧pos'≤at_+bV t∧∃ r',W g t at_ lp cs' pos' kE kO=some r'∧r'+c≤r)∨(loops≠0∧pos'=out∧kO+c≤r)
section
variable {g:Int→Nat} {p:cX} {rs:List ByteArray}
theorem adJ {x:aW} {pos pos':Int} {cs cs':List Int} (h:Tr x pos cs pos' cs') (h1:¬ x.kind=11) (h2:¬ x.kind=12) (h3:¬ x.kind=13) (h4:¬ x.kind=14):pos'=pos+1∧cs'=cs:=by
 rcases h with ⟨q,_⟩ | ⟨q,_⟩ | ⟨q,_⟩ | ⟨q,_⟩ | ⟨_,_,_,_,h⟩
 ·exact absurd q h1
 ·exact absurd q h2
 ·exact absurd q h3
 ·exact absurd q h4
 ·exact h
theorem agf {x:aW} {pos pos':Int} {cs cs':List Int} (h:Tr x pos cs pos' cs') (h1:x.kind=11):pos'=x.to∧cs'=cs:=by
 rcases h with ⟨q,h⟩ | ⟨q,_⟩ | ⟨q,_⟩ | ⟨q,_⟩ | ⟨q,_⟩
 ·exact h
 all_goals omega
theorem arU {x:aW} {pos pos':Int} {cs cs':List Int} (h:Tr x pos cs pos' cs') (h1:x.kind=12):(pos'=x.to∨pos'=pos+1)∧cs'=cs:=by
 rcases h with ⟨q,_⟩ | ⟨q,h⟩ | ⟨q,_⟩ | ⟨q,_⟩ | ⟨_,q,_⟩
 ·omega
 ·exact h
 all_goals omega
theorem arV {x:aW} {pos pos':Int} {cs cs':List Int} (h:Tr x pos cs pos' cs') (h1:x.kind=13):pos'=pos+1∧cs'=cs.set x.a.toNat x.b:=by
 rcases h with ⟨q,_⟩ | ⟨q,_⟩ | ⟨q,h⟩ | ⟨q,_⟩ | ⟨_,_,q,_⟩
 ·omega
 ·omega
 ·exact h
 all_goals omega
theorem arW {x:aW} {pos pos':Int} {cs cs':List Int} (h:Tr x pos cs pos' cs') (h1:x.kind=14):cs'=cs.set x.a.toNat (qV (cs.getD x.a.toNat 0 - 1))∧((0<qV (cs.getD x.a.toNat 0 - 1)∧pos'=x.to)∨(¬ 0<qV (cs.getD x.a.toNat 0 - 1)∧pos'=pos+1)):=by
 rcases h with ⟨q,_⟩ | ⟨q,_⟩ | ⟨q,_⟩ | ⟨q,h⟩ | ⟨_,_,_,q,_⟩
 ·omega
 ·omega
 ·omega
 ·exact h
 ·omega
theorem akZ (t:Bk):∀ (at_ lp out loops:Int) (cs:List Int) (pos:Int) (kE kO r:Nat) (x:aW) (pos':Int) (cs':List Int),W g t at_ lp cs pos kE kO=some r→at_≤pos→pos<at_+bV t→kO≤kE→kr t→t.str→t.ok loops=true→0≤lp→lp+iS t≤cs.length→
  (eQ p rs t at_ lp out)[(pos - at_).toNat]? = some x→Tr x pos cs pos' cs'→Mi g t at_ lp out loops cs cs' pos' kE kO r (g x.kind):=by
 induction t with
 | nil=>intro at_ lp out loops cs pos kE kO r x pos' cs' _ h1 h2; have:bV .nil=0:=rfl; omega
 | cons x a b rr vx xD GB=>
  intro at_ lp out loops cs pos kE kO r y pos' cs' hW hp1 Yz hO Hz Iu oB LW Tx hy hT
  have hsa:=iR a; have hsb:=iR b; have hsr:=iR rr
  have hda:=sS a; have hdb:=sS b; have hdr:=sS rr
  obtain ⟨R9,hs2,_,_,OU,XU,XV⟩:=Iu
  unfold Bk.ok at oB
  simp only [Bool.and_eq_true] at oB
  obtain ⟨⟨⟨ho1,O8⟩,XR⟩,ho4⟩:=oB
  unfold Bk.yO at ho1
  rw [decide_eq_true_eq] at ho1
  have lz:bV (.cons x a b rr)=(if x.kind=12 then 2+bV a else if x.kind=11 then (if 0<x.fD then 1+bV a+bV b+1 else 1+bV a+bV b) else 1)+bV rr:=rfl
  have hdp:iS (.cons x a b rr)=max (if x.kind=12 then max (iS a) (iS b)+1 else max (iS a) (iS b)) (iS rr):=rfl
  have Le:=Iw p rs x a b rr at_ lp out
  have hee:oz x a b rr at_=at_+(bV (.cons x a b rr) - bV rr):=rfl
  have hen:=OW x a b rr at_
  rw [uW] at hy
  have next:∀ Ro:List Int,∀ c:Nat,(∀ j:Nat,(j:Int)<lp→Ro.getD j 0=cs.getD j 0)→Ro.length=cs.length→qA g rr+kE+c≤r→Mi g (.cons x a b rr) at_ lp out loops cs Ro (oz x a b rr at_) kE kO r c:=by
   intro Ro c h1 h2 h3
   obtain ⟨r',h4,h5⟩:=akX (g:=g) (lp:=lp) (cs:=Ro) (kE:=kE) (kO:=kO) (x:=x) (a:=a) (b:=b) (r:=rr) (at_:=at_) hO
   exact ⟨h1,h2,.inl ⟨by omega,by omega,r',h4,by omega⟩⟩
  by_cases hE:oz x a b rr at_≤pos
  ·rw [OX hE] at hW
   have hy2:=uy (j:=pos - oz x a b rr at_) hy (by omega) (by omega)
   have hR:=GB (oz x a b rr at_) lp out loops cs pos kE kO r y pos' cs' hW hE (by omega) hO Hz.r XV ho4 LW (by omega) (by rw [hee,← Le]; rw [hee,← Le] at hy2; exact hy2) hT
   refine ⟨hR.low,hR.len,?_⟩
   rcases hR.go with ⟨h1,h2,r',h3,h4⟩ | h1
   ·exact .inl ⟨by omega,by omega,r',by rw [OX h1]; exact h3,h4⟩
   ·exact .inr h1
  ·have Jh:=AI hy (by omega)
   clear hy
   have hWp:∀ (Ro:List Int) (q:Int),¬ oz x a b rr at_≤q→q≠at_→W g (.cons x a b rr) at_ lp Ro q kE kO =
     (if x.kind=11 then (if q<rj x a at_ then W g a (at_+1) lp Ro q ((if 0<x.fD then g 11 else 0)+(qA g rr+kE)) kO else W g b (rj x a at_) lp Ro q (qA g rr+kE) kO)
      else if x.kind=12 then (if 1≤Ro.getD lp.toNat 0∧Ro.getD lp.toNat 0≤8 then W g a (at_+1) (lp+1) Ro q (g 14+((Ro.getD lp.toNat 0).toNat - 1) * (qA g a+g 14)+(qA g rr+kE)) (qA g rr+kE) else none) else none):=by
    intro Ro q h1 h2
    conv=>lhs; unfold W
    rw [if_neg h1,if_neg h2]
   have hWs:pos=at_→W g (.cons x a b rr) at_ lp cs pos kE kO=if x.kind=13 then some (g 11+kO) else some (Ts g (qA g a) (qA g b) x+(qA g rr+kE)):=by
    intro h1
    conv=>lhs; unfold W
    rw [if_neg hE,if_pos h1]
   unfold FL at Jh Le
   have OY:∀ j:Nat,(j:Int)<lp→cs.getD j 0=cs.getD j 0:=λ _ _=>rfl
   by_cases vy:x.kind=11
   ·rw [if_pos vy] at Jh Le
    rw [if_neg (show ¬ x.kind=12 by omega),if_pos vy] at lz
    rw [if_neg (show ¬ x.kind=12 by omega)] at hdp
    have vh:Bk.BO x loops=loops:=by unfold Bk.BO; rw [if_neg (by omega)]
    rw [vh] at O8 XR
    have Mw:=gZ p rs a (at_+1) lp out
    have Qd:=gZ p rs b (rj x a at_) lp out
    have CV:rj x a at_=if 0<x.fD then at_+1+bV a+1 else at_+1+bV a:=rfl
    have hhd:Ts g (qA g a) (qA g b) x=g 12+max (qA g a+(if 0<x.fD then g 11 else 0)) (qA g b):=by unfold Ts; rw [if_pos vy]
    have toB:∀ c:Nat,qA g b+(qA g rr+kE)+c≤r→Mi g (.cons x a b rr) at_ lp out loops cs cs (rj x a at_) kE kO r c:=by
     intro c hc
     by_cases hz:oz x a b rr at_≤rj x a at_
     ·have:rj x a at_=oz x a b rr at_:=by split at lz <;> (first | rw [if_pos (by assumption)] at CV | rw [if_neg (by assumption)] at CV) <;> omega
      rw [this]; exact next cs c OY rfl (by omega)
     ·obtain ⟨r',h4,h5⟩:=xp (g:=g) (lp:=lp) (cs:=cs) (kE:=qA g rr+kE) (kO:=kO) b (rj x a at_) (by omega)
      have h6:at_+1≤rj x a at_:=by rw [CV]; split <;> omega
      exact ⟨OY,rfl,.inl ⟨by omega,by omega,r',by rw [hWp cs _ hz (by omega),if_pos vy,if_neg (by omega)]; exact h4,by omega⟩⟩
    by_cases XX:pos=at_
    ·rw [hWs XX,if_neg (show ¬ x.kind=13 by omega),hhd] at hW
     obtain rfl:=Option.some.inj hW
     have XY:y=⟨12,0,0,gg rs x.e,[],rj x a at_⟩:=by
      rw [XX,show (at_ - at_).toNat=0 from by omega] at Jh
      simpa using Jh.symm
     subst XY
     obtain ⟨hq,rfl⟩:=arU hT rfl
     rcases hq with rfl | rfl
     ·exact toB _ (by show _+g 12≤_; omega)
     ·by_cases hz:oz x a b rr at_≤pos+1
      ·have:pos+1=oz x a b rr at_:=by omega
       rw [this]; exact next _ _ OY rfl (by show _+g 12≤_; omega)
      ·by_cases hz2:pos+1<rj x a at_
       ·obtain ⟨r',h4,h5⟩:=xp (g:=g) (lp:=lp) (cs:=cs') (kE:=(if 0<x.fD then g 11 else 0)+(qA g rr+kE)) (kO:=kO) a (at_+1) (by omega)
        refine ⟨OY,rfl,.inl ⟨by omega,by omega,r',?_,by show _+g 12≤_; omega⟩⟩
        rw [hWp _ _ hz (by omega),if_pos vy,if_pos hz2,XX]; exact h4
       ·exfalso
        split at lz
        ·rename_i he; rw [if_pos he] at CV; omega
        ·rename_i he; rw [if_neg he] at CV
         have Jq:=Fg (b:=b) (by omega)
         subst Jq
         have:bV .nil=0:=rfl
         omega
    ·rw [hWp cs pos hE XX,if_pos vy] at hW
     by_cases hpt:pos<rj x a at_
     ·rw [if_pos hpt] at hW
      by_cases hpe:pos<at_+1+bV a
      ·have hya:(eQ p rs a (at_+1) lp out)[(pos - (at_+1)).toNat]? = some y:=by
        have h1:=AI (AI Jh (by simp only [List.length_append,List.length_singleton]; split <;> simp <;> omega)) (by simp only [List.length_append,List.length_singleton]; omega)
        exact uy h1 (by simp only [List.length_singleton]; omega) (by simp only [List.length_singleton]; omega)
       have hR:=vx (at_+1) lp out loops cs pos _ kO r y pos' cs' hW (by omega) hpe (by omega) Hz.a OU O8 LW (by omega) hya hT
       rcases hR.go with ⟨h1,h2,r',h3,h4⟩ | h1
       ·by_cases hz:oz x a b rr at_≤pos'
        ·have e1:pos'=at_+1+bV a:=by split at lz <;> omega
         have e2:pos'=oz x a b rr at_:=by split at lz <;> omega
         rw [Rn a (at_+1) pos' e1] at h3
         obtain rfl:=Option.some.inj h3
         rw [e2]; exact next cs' _ hR.low hR.len (by omega)
        ·refine ⟨hR.low,hR.len,.inl ⟨by omega,by omega,r',?_,h4⟩⟩
         rw [hWp cs' pos' hz (by omega),if_pos vy]
         by_cases hz2:pos'<rj x a at_
         ·rw [if_pos hz2]; exact h3
         ·exfalso
          split at lz
          ·rename_i he; rw [if_pos he] at CV; omega
          ·rename_i he; rw [if_neg he] at CV
           have Jq:=Fg (b:=b) (by omega)
           subst Jq
           have:bV .nil=0:=rfl
           omega
       ·exact ⟨hR.low,hR.len,.inr h1⟩
      ·have arX:0<x.fD:=by
        by_cases he:0<x.fD
        ·exact he
        ·rw [if_neg he] at CV; omega
       rw [if_pos arX] at CV lz hW
       rw [if_pos arX] at Jh
       have e1:pos=at_+1+bV a:=by omega
       rw [Rn a (at_+1) pos e1] at hW
       obtain rfl:=Option.some.inj hW
       have XY:y=⟨11,0,0,[],[],rj x a at_+bV b⟩:=by
        have h1:=AI Jh (by simp only [List.length_append,List.length_singleton]; omega)
        exact at_one (uy (j:=0) h1 (by simp only [List.length_append,List.length_singleton]; omega) (by simp only [List.length_append,List.length_singleton]; omega))
       subst XY
       obtain ⟨rfl,rfl⟩:=agf hT rfl
       have e2:rj x a at_+bV b=oz x a b rr at_:=by omega
       show Mi g _ at_ lp out loops cs' cs' (rj x a at_+bV b) kE kO _ (g 11)
       rw [e2]; exact next _ _ OY rfl (by omega)
     ·rw [if_neg hpt] at hW
      have hyb:(eQ p rs b (rj x a at_) lp out)[(pos - rj x a at_).toNat]? = some y:=by
       refine uy Jh ?_ ?_
       ·simp only [List.length_append,List.length_singleton]; rw [CV] at hpt; split <;> split at hpt <;> simp <;> omega
       ·simp only [List.length_append,List.length_singleton]; rw [CV]; split <;> simp <;> omega
      have hR:=xD (rj x a at_) lp out loops cs pos _ kO r y pos' cs' hW (by omega) (by split at lz <;> (first | rw [if_pos (by assumption)] at CV | rw [if_neg (by assumption)] at CV) <;> omega) (by omega) Hz.b XU XR LW (by omega) hyb hT
      have h6:at_+1≤rj x a at_:=by rw [CV]; split <;> omega
      have h7:rj x a at_+bV b=oz x a b rr at_:=by split at lz <;> (first | rw [if_pos (by assumption)] at CV | rw [if_neg (by assumption)] at CV) <;> omega
      rcases hR.go with ⟨h1,h2,r',h3,h4⟩ | h1
      ·by_cases hz:oz x a b rr at_≤pos'
       ·rw [Rn b _ pos' (by omega)] at h3
        obtain rfl:=Option.some.inj h3
        rw [show pos'=oz x a b rr at_ from by omega]
        exact next cs' _ hR.low hR.len (by omega)
       ·refine ⟨hR.low,hR.len,.inl ⟨by omega,by omega,r',?_,h4⟩⟩
        rw [hWp cs' pos' hz (by omega),if_pos vy,if_neg (by omega)]; exact h3
      ·exact ⟨hR.low,hR.len,.inr h1⟩
   ·rw [if_neg vy] at Jh Le
    by_cases xE:x.kind=12
    ·rw [if_pos xE] at Jh Le lz hdp
     have vh:Bk.BO x loops=loops+1:=by unfold Bk.BO; rw [if_pos xE]
     rw [vh] at O8
     have Mw:=gZ p rs a (at_+1) (lp+1) (at_+2+bV a)
     have hxn:=Hz.x xE
     have hhd:Ts g (qA g a) (qA g b) x=g 13+x.n.toNat * (qA g a+g 14):=by unfold Ts; rw [if_neg vy,if_pos xE]
     by_cases XX:pos=at_
     ·rw [hWs XX,if_neg (show ¬ x.kind=13 by omega),hhd] at hW
      obtain rfl:=Option.some.inj hW
      have XY:y=⟨13,lp,x.n,[],[],0⟩:=by
       rw [XX,show (at_ - at_).toNat=0 from by omega] at Jh
       simpa using Jh.symm
      subst XY
      obtain ⟨rfl,rfl⟩:=arV hT rfl
      have hg:(cs.set lp.toNat x.n).getD lp.toNat 0=x.n:=B6 (by omega)
      obtain ⟨r',h4,h5⟩:=xp (g:=g) (lp:=lp+1) (cs:=cs.set lp.toNat x.n) (kE:=g 14+(x.n.toNat - 1) * (qA g a+g 14)+(qA g rr+kE)) (kO:=qA g rr+kE) a (at_+1) (by omega)
      obtain ⟨m,hm⟩:∃ m,x.n.toNat=m+1:=⟨x.n.toNat - 1,by omega⟩
      rw [hm,Nat.add_sub_cancel] at h4 h5
      refine ⟨λ j hj=>getD_set_ne (by show lp.toNat≠j; omega),by simp,.inl ⟨by omega,by omega,r',?_,?_⟩⟩
      ·show W g _ at_ lp (cs.set lp.toNat x.n) (pos+1) kE kO=_
       rw [hWp _ _ (by omega) (by omega),if_neg vy,if_pos xE,hg,if_pos hxn,hm,Nat.add_sub_cancel,XX]; exact h4
      ·show r'+g 13≤_
       rw [hm,Nat.succ_mul]; omega
     ·rw [hWp cs pos hE XX,if_neg vy,if_pos xE] at hW
      split at hW
      ·rename_i hcc
       by_cases hpe:pos<at_+1+bV a
       ·have hya:(eQ p rs a (at_+1) (lp+1) (at_+2+bV a))[(pos - (at_+1)).toNat]? = some y:=by
         have h1:=AI Jh (by simp only [List.length_append,List.length_singleton]; omega)
         exact uy h1 (by simp only [List.length_singleton]; omega) (by simp only [List.length_singleton]; omega)
        have hR:=vx (at_+1) (lp+1) (at_+2+bV a) (loops+1) cs pos _ _ r y pos' cs' hW (by omega) hpe (by omega) Hz.a OU O8 (by omega) (by omega) hya hT
        have hce:cs'.getD lp.toNat 0=cs.getD lp.toNat 0:=hR.low lp.toNat (by omega)
        have S0:∀ j:Nat,(j:Int)<lp→cs'.getD j 0=cs.getD j 0:=λ j hj=>hR.low j (by omega)
        rcases hR.go with ⟨h1,h2,r',h3,h4⟩ | ⟨_,h1,h2⟩
        ·refine ⟨S0,hR.len,.inl ⟨by omega,by omega,r',?_,h4⟩⟩
         rw [hWp cs' pos' (by omega) (by omega),if_neg vy,if_pos xE,hce,if_pos hcc]; exact h3
        ·rw [show pos'=oz x a b rr at_ from by omega]
         exact next cs' _ S0 hR.len (by omega)
       ·have e1:pos=at_+1+bV a:=by omega
        rw [Rn a (at_+1) pos e1] at hW
        obtain rfl:=Option.some.inj hW
        have XY:y=⟨14,lp,0,[],[],at_+1⟩:=at_one (uy (j:=0) Jh (by simp only [List.length_append,List.length_singleton]; omega) (by simp only [List.length_append,List.length_singleton]; omega))
        subst XY
        obtain ⟨rfl,hq⟩:=arW hT rfl
        have hwe:qV (cs.getD lp.toNat 0 - 1)=cs.getD lp.toNat 0 - 1:=akY (by omega)
        have hq:(0<qV (cs.getD lp.toNat 0 - 1)∧pos'=at_+1)∨(¬ 0<qV (cs.getD lp.toNat 0 - 1)∧pos'=pos+1):=hq
        have S0:∀ j:Nat,(j:Int)<lp→(cs.set lp.toNat (qV (cs.getD lp.toNat 0 - 1))).getD j 0=cs.getD j 0:=λ j hj=>getD_set_ne (by omega)
        show Mi g _ at_ lp out loops cs (cs.set lp.toNat (qV (cs.getD lp.toNat 0 - 1))) pos' kE kO _ (g 14)
        rw [hwe] at hq S0 ⊢
        rcases hq with ⟨q1,q2⟩ | ⟨q1,q2⟩
        ·have hg:(cs.set lp.toNat (cs.getD lp.toNat 0 - 1)).getD lp.toNat 0=cs.getD lp.toNat 0 - 1:=B6 (by omega)
         obtain ⟨m,hm⟩:∃ m,(cs.getD lp.toNat 0).toNat=m+2:=⟨(cs.getD lp.toNat 0).toNat - 2,by omega⟩
         obtain ⟨r',h4,h5⟩:=xp (g:=g) (lp:=lp+1) (cs:=cs.set lp.toNat (cs.getD lp.toNat 0 - 1)) (kE:=g 14+m * (qA g a+g 14)+(qA g rr+kE)) (kO:=qA g rr+kE) a (at_+1) (by omega)
         refine ⟨S0,by simp,.inl ⟨by omega,by omega,r',?_,?_⟩⟩
         ·rw [hWp _ _ (by omega) (by omega),if_neg vy,if_pos xE,hg,if_pos (by omega),q2,show (cs.getD lp.toNat 0 - 1).toNat - 1=m from by omega]; exact h4
         ·rw [hm,show m+2 - 1=m+1 from by omega,Nat.succ_mul]; omega
        ·rw [show pos'=oz x a b rr at_ from by omega]
         exact next _ _ S0 (by simp) (by omega)
      ·cases hW
    ·rw [if_neg xE] at Jh Le
     rw [if_neg xE,if_neg vy] at lz
     have XX:pos=at_:=by omega
     rw [hWs XX] at hW
     by_cases Jt:x.kind=13
     ·rw [if_pos Jt] at Jh hW
      obtain rfl:=Option.some.inj hW
      have XY:=at_one Jh
      subst XY
      obtain ⟨rfl,rfl⟩:=agf hT rfl
      exact ⟨OY,rfl,.inr ⟨by omega,rfl,by show kO+g 11≤_; omega⟩⟩
     ·rw [if_neg Jt] at Jh hW
      obtain rfl:=Option.some.inj hW
      have XY:=at_one Jh
      subst XY
      have ng:(lD p rs x).kind=if x.kind=14 then 15 else x.kind:=rfl
      obtain ⟨rfl,rfl⟩:=adJ hT (by rw [ng]; split <;> omega) (by rw [ng]; split <;> omega) (by rw [ng]; split <;> omega) (by rw [ng]; split <;> omega)
      have hhd:Ts g (qA g a) (qA g b) x=g (lD p rs x).kind:=by unfold Ts; rw [if_neg vy,if_neg xE,if_neg Jt,ng]
      rw [show pos+1=oz x a b rr at_ from by omega]
      exact next _ _ OY rfl (by omega)
end
structure Mj (p:cX) (c:fm) (b:Bk) (rs:List ByteArray):Prop where
 l:c.l=eQ p rs b 0 0 0
 cn:c.counts=iS b
 rd:kr b
 str:b.str
 ok:b.ok 0=true
structure TW (g:Int→Nat) (p:cX) (b:Bk) (rs:List ByteArray) (t:fM) (r:Nat):Prop where
 code:Mj p t.code b rs
 cl:(t.counts.length:Int)=t.code.counts
 a0:0≤t.at_
 a1:t.at_≤bV b
 w:W g b 0 0 t.counts t.at_ 0 0=some r
section
variable {g:Int→Nat} {p:cX} {b:Bk} {rs:List ByteArray} {t t':fM} {r:Nat}
theorem TW.next {x:aW} (h:TW g p b rs t r) (hn:gR t=some x) (hT:Tr x t.at_ t.counts t'.at_ t'.counts) (hc:t'.code=t.code):∃ r',TW g p b rs t' r'∧r'+g x.kind≤r:=by
 have h1:=(qE hn).2
 have hl:=gZ p rs b 0 0 0
 rw [h.code.l] at h1
 have hx:(eQ p rs b 0 0 0)[(t.at_ - 0).toNat]? = some x:=by
  unfold gR at hn
  rw [h.code.l] at hn
  rw [if_neg (by omega)] at hn
  rw [Int.sub_zero]; exact hn
 have hcn:=h.code.cn
 have Ql:=h.cl
 have hR:=akZ (g:=g) (p:=p) (rs:=rs) b 0 0 0 0 t.counts t.at_ 0 0 r x t'.at_ t'.counts h.w h.a0 (by omega) (Nat.le_refl _) h.code.rd h.code.str h.code.ok (Int.le_refl _) (by omega) hx hT
 rcases hR.go with ⟨h3,h4,r',h5,h6⟩ | ⟨h3,_⟩
 ·exact ⟨r',⟨by rw [hc]; exact h.code,by rw [hR.len,hc]; exact h.cl,h3,by omega,h5⟩,h6⟩
 ·exact absurd rfl h3
theorem TW.same (h:TW g p b rs t r) (hc:t'.code=t.code) (ha:t'.at_=t.at_) (hk:t'.counts=t.counts):TW g p b rs t' r:=
 ⟨by rw [hc]; exact h.code,by rw [hk,hc]; exact h.cl,by rw [ha]; exact h.a0,by rw [ha]; exact h.a1,by rw [hk,ha]; exact h.w⟩
theorem ak0 {x:aW} {e:Int} (h:(wB t x e).2=true):Tr x t.at_ t.counts (wB t x e).1.at_ (wB t x e).1.counts:=by
 by_cases h1:x.kind=1
 ·rw [WV h1]; exact .inr (.inr (.inr (.inr ⟨by omega,by omega,by omega,by omega,rfl,rfl⟩)))
 by_cases vy:x.kind=11
 ·rw [Oa vy]; exact .inl ⟨vy,rfl,rfl⟩
 by_cases xE:x.kind=12
 ·by_cases he:e=0
  ·rw [IT xE he]; exact .inr (.inl ⟨xE,.inl rfl,rfl⟩)
  ·rw [IU xE he]; exact .inr (.inl ⟨xE,.inr rfl,rfl⟩)
 by_cases Jt:x.kind=13
 ·rw [Ob Jt]; exact .inr (.inr (.inl ⟨Jt,rfl,rfl⟩))
 by_cases Qc:x.kind=14
 ·by_cases he:0<qV (t.counts.getD x.a.toNat 0 - 1)
  ·rw [IV Qc he]; exact .inr (.inr (.inr (.inl ⟨Qc,rfl,.inl ⟨he,rfl⟩⟩)))
  ·rw [IW Qc he]; exact .inr (.inr (.inr (.inl ⟨Qc,rfl,.inr ⟨he,rfl⟩⟩)))
 by_cases h15:x.kind=15
 ·by_cases he:e=0
  ·rw [IX h15 he] at h; cases h
  ·rw [IY h15 he]; exact .inr (.inr (.inr (.inr ⟨vy,xE,Jt,Qc,rfl,rfl⟩)))
 ·rw [Oc h1 vy xE Jt Qc h15] at h; cases h
theorem XZ {x:aW} {e:Int} (h:(wB t x e).2=false):(wB t x e).1.at_=t.at_∧(wB t x e).1.counts=t.counts∧(wB t x e).1.aK=t.aK:=by
 by_cases h1:x.kind=1
 ·rw [WV h1] at h; cases h
 by_cases vy:x.kind=11
 ·rw [Oa vy] at h; cases h
 by_cases xE:x.kind=12
 ·by_cases he:e=0
  ·rw [IT xE he] at h; cases h
  ·rw [IU xE he] at h; cases h
 by_cases Jt:x.kind=13
 ·rw [Ob Jt] at h; cases h
 by_cases Qc:x.kind=14
 ·by_cases he:0<qV (t.counts.getD x.a.toNat 0 - 1)
  ·rw [IV Qc he] at h; cases h
  ·rw [IW Qc he] at h; cases h
 by_cases h15:x.kind=15
 ·by_cases he:e=0
  ·rw [IX h15 he]; exact ⟨rfl,rfl,rfl⟩
  ·rw [IY h15 he] at h; cases h
 ·rw [Oc h1 vy xE Jt Qc h15]; exact ⟨rfl,rfl,rfl⟩
theorem Hp (h:(fG t).2=true):∃ x,gR t=some x∧Tr x t.at_ t.counts (fG t).1.at_ (fG t).1.counts:=by
 cases hn:gR t with
 | none=>rw [Ah hn] at h; cases h
 | some x=>
  refine ⟨x,rfl,?_⟩
  cases he:(eu x.e t.aK).2 with
  | false=>rw [Ai hn he] at h; cases h
  | true=>
   cases hf:(eu x.f t.aK).2 with
   | false=>rw [Aj hn he hf] at h; cases h
   | true=>
    rw [kx hn he hf] at h ⊢
    exact ak0 (t:=tF (tE t x) x) h
theorem Mk (h:(fG t).2=false):(fG t).1.at_=t.at_∧(fG t).1.counts=t.counts:=by
 cases hn:gR t with
 | none=>rw [Ah hn]; exact ⟨rfl,rfl⟩
 | some x=>
  cases he:(eu x.e t.aK).2 with
  | false=>rw [Ai hn he]; exact ⟨rfl,rfl⟩
  | true=>
   cases hf:(eu x.f t.aK).2 with
   | false=>rw [Aj hn he hf]; exact ⟨rfl,rfl⟩
   | true=>
    rw [kx hn he hf] at h ⊢
    have:=XZ (t:=tF (tE t x) x) h
    exact ⟨this.1,this.2.1⟩
theorem TW.go:∀ {N:Nat} {t t':fM} {r:Nat},TW g p b rs t r→sI N t=some t'→∃ r',TW g p b rs t' r'∧r'≤r
 | 0,_,_,_,_,h=>by cases h
 | N+1,t,t',r,h0,h=>by
  unfold sI at h
  split at h
  ·rename_i hs
   obtain ⟨x,hn,hT⟩:=Hp hs
   obtain ⟨r1,h1,h2⟩:=h0.next hn hT (pP t).1
   obtain ⟨r2,h3,h4⟩:=TW.go h1 h
   exact ⟨r2,h3,by omega⟩
  ·rename_i hs
   cases h
   have:=Mk (by simpa using hs)
   exact ⟨r,h0.same (pP t).1 this.1 this.2,Nat.le_refl _⟩
theorem Ml:∀ {n:Nat} {t:fM} {r:Nat},TW (λ _=>1) p b rs t r→r≤n→∃ t',sI (n+1) t=some t'
 | n,t,r,h0,hr=>by
  cases hs:(fG t).2 with
  | false=>exact ⟨_,by unfold sI; rw [hs]; rfl⟩
  | true=>
   obtain ⟨x,hn,hT⟩:=Hp hs
   obtain ⟨r1,h1,h2⟩:=h0.next hn hT (pP t).1
   cases n with
   | zero=>exfalso; omega
   | succ n=>
    obtain ⟨t',h3⟩:=Ml (n:=n) h1 (by omega)
    exact ⟨t',by unfold sI; rw [hs,if_pos rfl]; exact h3⟩
end
def CW (p:cX) (t:fM):Prop:=∃ b rs,∀ g,∃ r,TW g p b rs t r
section
variable {p:cX} {t t':fM}
theorem CW.next {x:aW} (h:CW p t) (hn:gR t=some x) (hT:Tr x t.at_ t.counts t'.at_ t'.counts) (hc:t'.code=t.code):CW p t':=by
 obtain ⟨b,rs,h⟩:=h
 exact ⟨b,rs,λ g=>by obtain ⟨r,h1⟩:=h g; obtain ⟨r',h2,_⟩:=h1.next hn hT hc; exact ⟨r',h2⟩⟩
theorem CW.same (h:CW p t) (hc:t'.code=t.code) (ha:t'.at_=t.at_) (hk:t'.counts=t.counts):CW p t':=by
 obtain ⟨b,rs,h⟩:=h
 exact ⟨b,rs,λ g=>by obtain ⟨r,h1⟩:=h g; exact ⟨r,h1.same hc ha hk⟩⟩
theorem CW.go {N:Nat} (h:CW p t) (hg:sI N t=some t'):CW p t':=by
 obtain ⟨b,rs,h⟩:=h
 exact ⟨b,rs,λ g=>by obtain ⟨r,h1⟩:=h g; obtain ⟨r',h2,_⟩:=h1.go hg; exact ⟨r',h2⟩⟩
theorem CW.total (h:CW p t):∃ N t',sI N t=some t':=by
 obtain ⟨b,rs,h⟩:=h
 obtain ⟨r,h1⟩:=h λ _=>1
 obtain ⟨t',h2⟩:=Ml h1 (Nat.le_refl r)
 exact ⟨_,t',h2⟩
end
theorem CX {p:cX} {c:fm} {b:Bk} {rs:List ByteArray} (h:Mj p c b rs) (hc:0≤c.counts) (g:Int→Nat):∃ r,TW g p b rs (qb c) r∧r≤qA g b:=by
 obtain ⟨r,h1,h2⟩:=xp (g:=g) (lp:=0) (cs:=List.replicate c.counts.toNat 0) (kE:=0) (kO:=0) b 0 (Nat.le_refl _)
 have:=iR b
 exact ⟨r,⟨h,by show ((List.replicate c.counts.toNat (0:Int)).length:Int)=c.counts; rw [List.length_replicate]; omega,Int.le_refl _,this.1,h1⟩,by omega⟩
theorem Ji {p:cX} (h:Bg p) {t:dQ} (ht:t∈iG p):∃ b,Mj p (l8 p t) b t.aK∧oP t.body=some b∧kr b:=by
 obtain ⟨b,h1,h2,h3,_,h5,_,_,h8,_⟩:=h.tree ht
 rw [Ep h8]
 exact ⟨b,⟨rfl,rfl,h5,h2,h3⟩,h8,h5⟩
theorem arY {p:cX} (h:Bg p):∃ b rs,Mj p (eB p).recover b rs:=by
 show ∃ b rs,Mj p (match p.recover[0]? with | some t=>l8 p t | none=>⟨0,0,[]⟩) b rs
 cases hr:p.recover[0]? with
 | none=>exact ⟨.nil,[],⟨rfl,rfl,λ x hx=>(by cases hx),trivial,rfl⟩⟩
 | some t=>
  obtain ⟨b,hb,_⟩:=Ji h (List.mem_append_right p.threads (List.mem_of_getElem? hr))
  exact ⟨b,_,hb⟩
structure PM (p:cX) (m:gT):Prop where
 chk:Bg p
 u:m.u=eB p
 gm:GM m
 tw:∀ t∈m.l,CW p t
section
variable {p:cX} {m m2:gT}
theorem S1 (h:Bg p):∃ N t,sI N (qb (eB p).recover)=some t∧CW p t:=by
 obtain ⟨b,rs,hb⟩:=arY h
 have hru:=rK (sH h).1
 have h0:CW p (qb (eB p).recover):=⟨b,rs,λ g=>by obtain ⟨r,h1,_⟩:=CX hb hru.rc.cb.1 g; exact ⟨r,h1⟩⟩
 obtain ⟨N,t,ht⟩:=h0.total
 exact ⟨N,t,ht,h0.go ht⟩
theorem Mm (h:Bg p):∃ N nf,rD N (eB p).threads nf∧∀ t∈nf,CW p t:=by
 have hru:=rK (sH h).1
 have key:∀ cs:List fm,(∀ c∈cs,c∈(eB p).threads)→∃ N nf,rD N cs nf∧∀ t∈nf,CW p t:=by
  intro cs
  induction cs with
  | nil=>intro _; exact ⟨0,[],⟨rfl,λ j c t h=>by simp at h⟩,λ t ht=>by cases ht⟩
  | cons c cs ih=>
   intro Yh
   obtain ⟨N,nf,h1,h2⟩:=ih λ c hc=>Yh c (List.mem_cons_of_mem _ hc)
   have Mz:=Yh c (List.mem_cons_self ..)
   obtain ⟨t,ht,rfl⟩:=List.mem_map.1 (show c∈p.threads.map (l8 p) from Mz)
   obtain ⟨b,hb,_⟩:=Ji h (List.mem_append_left p.recover ht)
   have h0:CW p (qb (l8 p t)):=⟨b,t.aK,λ g=>by obtain ⟨r,h1,_⟩:=CX hb (hru.th _ Mz).cb.1 g; exact ⟨r,h1⟩⟩
   obtain ⟨M,t',XQ⟩:=h0.total
   refine ⟨N+M,t'::nf,⟨by rw [List.length_cons,List.length_cons,h1.1],λ j c2 t2 YE ht2=>?_⟩,λ t2 ht2=>?_⟩
   ·cases j with
    | zero=>
     rw [List.getElem?_cons_zero] at YE ht2
     cases YE; cases ht2
     rw [Nat.add_comm]; exact Fb XQ
    | succ j=>
     rw [List.getElem?_cons_succ] at YE ht2
     exact Fb (h1.2 j c2 t2 YE ht2)
   ·rcases List.mem_cons.1 ht2 with rfl | ht2
    ·exact h0.go XQ
    ·exact h2 t2 ht2
 exact key _ λ c hc=>hc
theorem Fh {t:fM} {i:Int} {x:aW}:(dX m t i x).2.1.counts=t.counts:=by
 unfold dX loadT casT vq
 repeat' split
 all_goals rfl
theorem Rp {t:fM} {i:Int} {x:aW} (h:CW p t) (hn:gR t=some x) (hk:2≤x.kind∧x.kind≤10):CW p { (dX m t i x).2.1 with at_:=(dX m t i x).2.1.at_+1}:=
 h.next hn (.inr (.inr (.inr (.inr ⟨by omega,by omega,by omega,by omega,by show (dX m t i x).2.1.at_+1=_; rw [CI],Fh⟩)))) qG
theorem Jj {α:Type} {φ:α→Prop} {l:List α} {i:Nat} {x:α} (h:∀ y∈l,φ y) (hx:φ x):∀ y∈l.set i x,φ y:=λ y hy=>by
 rcases List.mem_or_eq_of_mem_set hy with h1 | h1
 ·exact h y h1
 ·rw [h1]; exact hx
theorem PM.do {N:Nat} {q:ei} {ev:dA} {e:Int} (h:PM p m) (hd:Cl N m q=some (m2,ev,e)):PM p m2:=by
 refine ⟨h.chk,(Fc hd).2.1.trans h.u,h.gm.do hd,?_⟩
 cases hc:iI m q with
 | some pR=>
  obtain ⟨t,hg,hm,_⟩:=qH hd hc
  rw [hm]
  intro t' XQ
  obtain rfl:t'=t:=by simpa using (show t'∈[t] from XQ)
  rw [h.u] at hg
  obtain ⟨b,rs,hb⟩:=arY h.chk
  have hru:=rK (sH h.chk).1
  have h0:CW p (qb (eB p).recover):=⟨b,rs,λ g=>by obtain ⟨r,h1,_⟩:=CX hb hru.rc.cb.1 g; exact ⟨r,h1⟩⟩
  exact h0.go hg
 | none=>
  by_cases ha:(fc m).any (js q)=true
  ·by_cases hk:q.kind=2
   ·obtain ⟨_,t,ht⟩:=rE ha
    rw [(pj hd hc ha hk ht).1]
    exact Jj h.tw ((h.tw t (List.mem_of_getElem? ht)).same rfl rfl rfl)
   ·have hs:=(m8 hd hc ha hk).1
    cases ht:m.l[q.t.toNat]? with
    | none=>unfold mD at hs; rw [ht] at hs; cases hs
    | some t=>
     have Cj:=List.mem_of_getElem? ht
     by_cases hf:t.fault≠0
     ·rw [(Ao hs ht hf).1]; exact h.tw
     ·obtain ⟨x,hn⟩:=Ap hs ht hf
      have ng:=(h.gm.th t Cj).2.1 x hn (by omega)
      by_cases h0:(dX m t q.t x).1.fault=0
      ·obtain ⟨t2,hg,Mv,_⟩:=Aq hs ht hf hn h0
       rw [Mv]
       show ∀ t'∈(dX m t q.t x).1.l.set _ _,_
       rw [IZ]
       exact Jj h.tw ((Rp (h.tw t Cj) hn ng).go hg)
      ·rw [(Ar hs ht hf hn h0).1]
       show ∀ t'∈(dX m t q.t x).1.l.set _ _,_
       rw [IZ]
       exact Jj h.tw ((h.tw t Cj).same qG CI Fh)
  ·rw [(ph hd hc ha).1]; exact h.tw
theorem X0 {q:ei} (h:(fc m).any (js q)=true) (hk:¬ q.kind=2):q.kind=1∧∃ t,m.l[q.t.toNat]? = some t∧Ci m t=true:=by
 rw [List.any_eq_true] at h
 obtain ⟨x,hx,hs⟩:=h
 unfold js at hs
 simp only [Bool.and_eq_true,decide_eq_true_eq] at hs
 unfold fc at hx
 split at hx
 ·cases hx
 ·obtain ⟨i,t,_,ht,AM⟩:=wF hx
  have h1:=LM AM
  unfold tg at AM
  rw [List.mem_append] at AM
  rcases AM with AM | AM
  ·split at AM
   ·rename_i hc
    simp at AM
    subst AM
    refine ⟨hs.1.1.1.symm,t,?_,hc⟩
    have e:q.t=(i:Int):=hs.1.1.2.symm
    rw [e]; exact ht
   ·cases AM
  ·rw [List.mem_map] at AM
   obtain ⟨k,_,rfl⟩:=AM
   exact absurd hs.1.1.1.symm hk
theorem Mn (h:PM p m) (q:ei):∃ N m2 ev e,Cl N m q=some (m2,ev,e)∧PM p m2:=by
 have key:∃ N m2 ev e,Cl N m q=some (m2,ev,e):=by
  cases hc:iI m q with
  | some pR=>
   obtain ⟨N,t,ht,_⟩:=S1 h.chk
   exact ⟨N,mK (yG m pR) [t],⟨15,0,0,An q.cut q.cut.length,0⟩,0,by unfold Cl; rw [hc]; dsimp only; rw [h.u,ht]; rfl⟩
  | none=>
   by_cases ha:(fc m).any (js q)=true
   ·by_cases hk:q.kind=2
    ·obtain ⟨_,t,ht⟩:=rE ha
     refine ⟨0,mr m t q,pN q.t (eh t.buf q.i),0,?_⟩
     unfold Cl; rw [hc]; dsimp only; rw [if_pos ha,if_pos hk,ht]; rfl
    ·obtain ⟨Tg,t,ht,ak3⟩:=X0 ha hk
     have Cj:=List.mem_of_getElem? ht
     have gk:∃ N r,mD N m q.t=some r:=by
      by_cases hf:t.fault≠0
      ·exact ⟨0,_,by unfold mD; rw [ht]; dsimp only; rw [if_pos hf]⟩
      ·cases hn:gR t with
       | none=>unfold Ci at ak3; rw [hn] at ak3; cases ak3
       | some x=>
        by_cases h0:(dX m t q.t x).1.fault=0
        ·have ng:=(h.gm.th t Cj).2.1 x hn (by omega)
         obtain ⟨N,t2,hg⟩:=(Rp (m:=m) (i:=q.t) (h.tw t Cj) hn ng).total
         exact ⟨N,_,by unfold mD; rw [ht]; dsimp only; rw [if_neg hf,hn]; dsimp only; rw [if_pos h0,hg]; rfl⟩
        ·exact ⟨0,_,by unfold mD; rw [ht]; dsimp only; rw [if_neg hf,hn]; dsimp only; rw [if_neg h0]⟩
     obtain ⟨N,r,hr⟩:=gk
     exact ⟨N,r.1,r.2,0,by unfold Cl; rw [hc]; dsimp only; rw [if_pos ha,if_neg hk,hr]; rfl⟩
   ·exact ⟨0,m,⟨0,0,0,0,0⟩,13,by unfold Cl; rw [hc]; dsimp only; rw [if_neg ha]⟩
 obtain ⟨N,m2,ev,e,hd⟩:=key
 exact ⟨N,m2,ev,e,hd,h.do hd⟩
theorem PM.new {N:Nat} {room:Int} {nf:List fM} (h:Bg p) (hb:rD N (eB p).threads nf) (ht:∀ t∈nf,CW p t) (hr:1≤room∧room≤16):PM p (mK (mu (eB p) room) nf):=
 ⟨h,rfl,GM.new (rK (sH h).1) (sH h).2 hb hr,ht⟩
end
def Mo:ei:=⟨0,0,0,[]⟩
def wM (a:FD) (l c:List ei) (er:Int):ei:=
 if a.kind=2 then {a.p with cut:=a.p.cut.take 22}
 else if a.kind=1∧er<2∧0<(c.length:Int) then c.getD (yj a.n 65535 % (c.length:Int)).toNat Mo
 else if 0<(l.length:Int) then l.getD (yj a.n 65535 % (l.length:Int)).toNat Mo else Mo
def ak4 (av:zA) (a:FD) (tl:List dT) (l:List ei) (tc:List dT) (c:List ei) (er:Int) (sh:dT):Prop:=
 (a.kind=2∧wM a l c er={a.p with cut:=a.p.cut.take 22}∧∃ gc:SV,sh=⟨a.p.kind,a.p.t,a.p.i,gc⟩∧∀ w2,eI (λ _=>True) w2 (Flat.val av.p.cut) a.p.cut→eI (λ _=>True) w2 (Flat.val gc) (a.p.cut.take 22))∨
 (∃ j:Nat,tl[j]? = some sh∧l[j]? = some (wM a l c er))∨(∃ j:Nat,tc[j]? = some sh∧c[j]? = some (wM a l c er))∨(sh=⟨0,0,0,⟨none,0,0⟩⟩∧wM a l c er=Mo)
theorem CY {x y:ei}:x=y↔x.kind=y.kind∧x.t=y.t∧x.i=y.i∧x.cut=y.cut:=by
 cases x; cases y; simp
theorem AJ {α:Type} {xs ys:List α} {k:Nat} {x y:α} (h:xs.take k=ys.take k) (hx:xs[k]? = some x) (hy:ys[k]? = some y) (e:x=y):xs.take (k+1)=ys.take (k+1):=by
 rw [← gX hx,← gX hy,h,e]
theorem agi {α:Type} {xs ys:List α} {k:Nat} {x y:α} (hx:xs[k]? = some x) (hy:ys[k]? = some y) (e:x≠y):xs≠ys:=λ h=>by
 rw [h,hy] at hx; exact e (Option.some.inj hx).symm
theorem getD_some {α:Type} {xs:List α} {k:Nat} {x d:α} (h:xs[k]? = some x):xs.getD k d=x:=by rw [List.getD_eq_getElem?_getD,h]; rfl
theorem St.jV {w0 w w':World} {A:Nat→Prop} {L:List HP} {Φ:World→Prop} (hs:St w0 A (Fw.eX Φ::L) w) (e:Ext w w'):Φ w':=by
 obtain ⟨F,h,_⟩:=hs.head
 exact h.1 w' λ b hb=>e.cD b (h.2 b hb) λ x=>x
theorem C50 (av bv:Value) (xs ys:List Bool) (w:World) (hA:eI (λ _=>True) w av xs) (hB:eI (λ _=>True) w bv ys) (hn:xs.length≤1073741824):CR 50 [av,bv] w (λ v w'=>v = .bool (decide (xs=ys))∧Ext w w'):=by
 have hs:=St.start w;refine ag1 _ _ _ _ ?_;unfold S50;refine aJ xO (hA.ext hs.aF) (aJ xO (hB.ext hs.aF) (cS (aC (λ fO=>?_) (λ fO=>?_))))
 ·exact ⟨vb (decide_eq_false (λ h=>by rw [h] at fO; exact absurd rfl fO)).symm,hs.aF⟩
 ·refine ⟨λ mm i w'=>∃ k:Nat,i = .int .i64 (k:Int)∧mm=xs.length - k∧k≤xs.length∧xs.take k=ys.take k∧St w bD [] w',⟨_,0,rfl,rfl,Nat.zero_le _,rfl,hs⟩,?_⟩;rintro mm _ w1 ⟨k,rfl,rfl,hk,heq,hs⟩ fy;refine aJ xO (hA.ext hs.aF) (aR (aC (λ gP=>?_) (λ gP=>?_)))
  ·obtain ⟨iX,fF⟩:=gx (xs) (i:=((k:Int)).toNat) (by omega);refine aQ xO hA (by omega) fF (λ _ jI=>have hs:=hs.drew;aD Ti (jI.ext hs.aF) ?_);obtain ⟨qZ,kp⟩:=gx (ys) (i:=((k:Int)).toNat) (by omega);refine aQ xO hB (by omega) kp (λ _ pI=>aD Ti (pI.ext hs.aF) (po J6 (aX (λ fR=>?_) (λ fR=>?_))))
   ·exact ⟨vb (decide_eq_false (agi fF kp (by simpa using fR))).symm,hs.aF⟩
   ·refine aO (by omega) ?_;exact ⟨_,by omega,k+1,rfl,rfl,by omega,AJ heq fF kp (by simpa using fR),hs⟩
  ·exact ⟨vb (decide_eq_true (by rw [List.take_of_length_le (by omega),List.take_of_length_le (by omega)] at heq; exact heq)).symm,hs.aF⟩
theorem C20 (av bv:Value) (xs ys:List ei) (w:World) (hA:DL w av xs) (hB:DL w bv ys) (hn:xs.length≤1073741824) (hc:∀ x∈xs,x.cut.length≤1000000):CR 20 [av,bv] w (λ v w'=>v = .bool (decide (xs=ys))∧Ext w w'):=by
 have hs:=St.start w;refine agE _ _ _ _ ?_;unfold S20;obtain ⟨arZ,Hq,agj⟩:=(hA).open;have ar0:=agj.1;refine aJ mG (Hq.ext hs.aF) ?_;obtain ⟨ar1,Mp,agk⟩:=(hB).open;have hn133:=agk.1;refine aJ mG (Mp.ext hs.aF) (cS (aC (λ fO=>?_) (λ fO=>?_)))
 ·exact ⟨vb (decide_eq_false (λ h=>by rw [h] at ar0; omega)).symm,hs.aF⟩
 ·refine ⟨λ mm i w'=>∃ k:Nat,i = .int .i64 (k:Int)∧mm=xs.length - k∧k≤xs.length∧xs.take k=ys.take k∧St w bD [] w',⟨_,0,rfl,rfl,Nat.zero_le _,rfl,hs⟩,?_⟩;rintro mm _ w1 ⟨k,rfl,rfl,hk,heq,hs⟩ fy;refine aJ mG (Hq.ext hs.aF) (aR (aC (λ gP=>?_) (λ gP=>?_)))
  ·obtain ⟨ra,ak5⟩:∃ xx,xs[k]? = some xx:=⟨_,List.getElem?_eq_getElem (by omega)⟩;obtain ⟨rb,ak6⟩:∃ xx,ys[k]? = some xx:=⟨_,List.getElem?_eq_getElem (by omega)⟩;refine ⟨λ jv w'=>jv = .bool (!decide (ra=rb))∧St w bD [] w',?_,?_⟩
   ·obtain ⟨iX,fF⟩:=gx arZ (i:=((k:Int)).toNat) (by omega);obtain ⟨dI,oc⟩:=gx (xs) (i:=((k:Int)).toNat) (by omega);obtain ⟨S2,rfl,S3⟩:=agj.2 _ _ _ fF oc;refine aQ mG Hq (by omega) fF (λ _ jI=>bP (dI).kind pa jI rfl rfl (λ _ Li=>have hs:=hs.drew;aD bL (Li.ext hs.aF) ?_));obtain ⟨gQ,iq⟩:=gx ar1 (i:=((k:Int)).toNat) (by omega);obtain ⟨BV,wv⟩:=gx (ys) (i:=((k:Int)).toNat) (by omega);obtain ⟨S5,rfl,S6⟩:=agk.2 _ _ _ iq wv;refine aQ mG Mp (by omega) iq (λ _ vY=>bP (BV).kind pa vY rfl rfl (λ _ ud=>aD bL (ud.ext hs.aF) ?_))
    have hra:ra=dI:=Option.some.inj (ak5.symm.trans oc);have Yq:rb=BV:=Option.some.inj (ak6.symm.trans wv);have hcx:=hc _ (List.mem_of_getElem? oc);refine cS (aC (λ gh=>?_) (λ gh=>?_))
    ·exact ⟨vb (by rw [hra,Yq]; rw [decide_eq_false (λ h=>by rw [CY] at h; omega)]; rfl),hs⟩
    ·refine aQ mG Hq (by omega) fF (λ _ oD=>bP (dI).t jC oD rfl rfl (λ _ zS=>aD bL (zS.ext hs.aF) (aQ mG Mp (by omega) iq (λ _ tV=>bP (BV).t jC tV rfl rfl (λ _ zN=>aD bL (zN.ext hs.aF) (cS (aC (λ sg=>?_) (λ sg=>?_))))))))
     ·exact ⟨vb (by rw [hra,Yq]; rw [decide_eq_false (λ h=>by rw [CY] at h; omega)]; rfl),hs⟩
     ·refine aQ mG Hq (by omega) fF (λ _ Ax=>bP (dI).i wV Ax rfl rfl (λ _ KR=>aD bL (KR.ext hs.aF) (aQ mG Mp (by omega) iq (λ _ Ef=>bP (BV).i wV Ef rfl rfl (λ _ Ve=>aD bL (Ve.ext hs.aF) (cS (aC (λ sn=>?_) (λ sn=>?_))))))))
      ·exact ⟨vb (by rw [hra,Yq]; rw [decide_eq_false (λ h=>by rw [CY] at h; omega)]; rfl),hs⟩
      ·refine aQ mG Hq (by omega) fF (λ _ ub=>bP S2 nP ub rfl rfl (λ _ wj=>aD en (wj.ext hs.aF) ?_));have ar2:=DL.flat (S3);refine aQ mG Mp (by omega) iq (λ _ EB=>bP S5 nP EB rfl rfl (λ _ D6=>aD en (D6.ext hs.aF) ?_));have ar3:=DL.flat (S6);refine aZ RC hs (C21 _ _ (dI).cut (BV).cut _ (ar2.ext hs.aF) (ar3.ext hs.aF) (by omega)) (λ w2 he hs=>bY ?_);exact ⟨vb (by rw [hra,Yq]; exact congrArg (λ b=>!b) (decide_eq_decide.2 (by rw [CY]; exact ⟨λ h=>⟨by omega,by omega,by omega,h⟩,λ h=>h.2.2.2⟩))),hs⟩
   ·rintro _ w3 ⟨rfl,hs⟩ jw;refine aX (λ oh=>?_) (λ oh=>?_)
    ·exact ⟨vb (decide_eq_false (agi ak5 ak6 (by simpa using oh))).symm,hs.aF⟩
    ·refine aO (by omega) ?_;exact ⟨_,by omega,k+1,rfl,rfl,by omega,AJ heq ak5 ak6 (by simpa using oh),hs⟩
  ·exact ⟨vb (decide_eq_true (by rw [List.take_of_length_le (by omega),List.take_of_length_le (by omega)] at heq; exact heq)).symm,hs.aF⟩
set_option maxHeartbeats 1000000 in
theorem C24 (a:FD) (av:zA) (lv cv:Value) (Yl:List dT) (l:List ei) (Ym:List dT) (c:List ei) (er:Int) (w:World) (ha:cA.dr w av a) (hR8:eI (λ _=>True) w lv Yl) (hD8:jO Yl l w) (R2:eI (λ _=>True) w cv Ym) (hD9:jO Ym c w) (hl1:l.length≤1073741824) (Cg:c.length≤1073741824):CR 24 [Flat.val av,lv,cv,.int .i64 er] w (λ v w'=>∃ sh:dT,v=Flat.val sh∧Ext w w'∧ak4 av a Yl l Ym c er sh):=by
 obtain ⟨g_p_a,rfl,ar4⟩:=ha;obtain ⟨uA,rfl,S7⟩:=ar4;have hn8:=hD8.1;have hn9:=hD9.1;have hAn:=Dj a.n (b:=65535) (by omega) (by omega);have hs:=St.start w;refine agI _ _ _ _ _ _ ?_;unfold S24;have X1:=DL.flat (S7);refine dE (x:=(⟨(a).kind,(a).n,(⟨((a).p).kind,((a).p).t,((a).p).i,uA⟩:dT)⟩:zA)) hs (λ b_a4 w1 hs=>aN hs Dk (λ A6 w2 hs=>have hs:=hs.enc (cs':=Flat.enc (⟨0,0,0,⟨none,0,0⟩⟩:dT)) rfl;aA aba (aB (v:=.int .i64 (a).n) bL hs.p1.hb rfl (aa8 (by decide) (by decide) (aA PB (aB (v:=.int .i64 (a).kind) bL hs.p1.hb rfl (aH (aC (λ eA=>?_) (λ eA=>?_)))))))))
 ·refine aA H0 (uK (⟨((a).p).kind,((a).p).t,((a).p).i,uA⟩:dT) mQ hs.p1.hb rfl (aN hs Dk (λ b_p10 w3 hs=>have hs:=hs.enc (cs':=Flat.enc (⟨0,0,0,⟨none,0,0⟩⟩:dT)) rfl;aI (x:=(⟨((a).p).kind,((a).p).t,((a).p).i,uA⟩:dT)) hs mQ rfl rfl (λ w4 hs=>aA H0 (aA nP (aB (v:=Flat.val (uA:SV)) en hs.p2.hb rfl (aA H0 (aA nP (aB (v:=Flat.val (uA:SV)) en hs.p2.hb rfl (aJ ee (X1.ext hs.aF) (r9 (kL ee (X1.ext hs.aF) (by omega) (by omega) (λ PY Bf=>?_)))))))))))));have NA:=Bf _ X1;refine aA nP ?_
  obtain ⟨X2,rfl⟩:=(NA).fQ;refine aV hs en (eF rfl) (rfl) (λ w5 hs=>have hs:=hs.enc (cs':=Flat.enc (⟨((a).p).kind,((a).p).t,((a).p).i,X2⟩:dT)) rfl;aD mQ hs.At (aI (x:=(⟨((a).p).kind,((a).p).t,((a).p).i,X2⟩:dT)) hs.p1 mQ rfl rfl (λ w6 hs=>aD mQ hs.At ?_)));exact ⟨_,rfl,hs.aF,.inl ⟨eA,if_pos eA,_,rfl,λ w2 h=>by have h3:=Bf w2 h; have e:=Sd a.p.cut 22; rw [show ((22:Nat):Int)=22 from rfl] at e; rwa [e] at h3⟩⟩
 ·refine ⟨λ jv w'=>jv = .bool (decide (a.kind=1∧er<2∧0<(c.length:Int)))∧w2=w',?_,?_⟩
  ·refine aA PB (aB (v:=.int .i64 (a).kind) bL hs.p1.hb rfl (aH (aC (λ jH=>?_) (λ jH=>?_))))
   ·refine aR (aC (λ jq=>?_) (λ jq=>?_))
    ·refine aJ mG (R2.ext hs.aF) (cZ ?_);exact ⟨xu (by omega),rfl⟩
    ·exact ⟨YF (by omega),rfl⟩
   ·exact ⟨YF (by omega),rfl⟩
  ·rintro _ w7 ⟨rfl,hw⟩ fy;subst hw;refine aC (λ jX=>?_) (λ jX=>?_)
   ·have azf:=Int.emod_nonneg (yj a.n 65535) (show (Ym.length:Int)≠0 by omega);have azg:=Int.emod_lt_of_pos (yj a.n 65535) (show (0:Int)<Ym.length by omega);refine aJ mG (R2.ext hs.aF) (Pz (by omega) (by omega) ?_);obtain ⟨e_x47,OZ⟩:=gx Ym (i:=(((yj (a).n 65535) % (Ym.length:Int))).toNat) (by omega);obtain ⟨Rq,EE⟩:=gx (c) (i:=(((yj (a).n 65535) % (Ym.length:Int))).toNat) (by omega);obtain ⟨S8,rfl,alR⟩:=hD9.2 _ _ _ OZ EE;refine aQ mG R2 (by omega) OZ (λ _ DW=>aD mQ (DW.ext hs.aF) (aI (x:=(⟨(Rq).kind,(Rq).t,(Rq).i,S8⟩:dT)) hs mQ rfl rfl (λ w8 hs=>aD mQ hs.At ?_)))
    have hq:wM a l c er=Rq:=by unfold wM; rw [if_neg eA,if_pos (by omega),getD_some (by rw [← hn9]; exact EE)]
    exact ⟨_,rfl,hs.aF,.inr (.inr (.inl ⟨_,OZ,by rw [hq]; exact EE⟩))⟩
   ·refine aJ mG (hR8.ext hs.aF) (cZ (aC (λ pF=>?_) (λ pF=>?_)))
    ·have azf:=Int.emod_nonneg (yj a.n 65535) (show (Yl.length:Int)≠0 by omega);have azg:=Int.emod_lt_of_pos (yj a.n 65535) (show (0:Int)<Yl.length by omega);refine aJ mG (hR8.ext hs.aF) (Pz (by omega) (by omega) ?_);obtain ⟨Lf,oU⟩:=gx Yl (i:=(((yj (a).n 65535) % (Yl.length:Int))).toNat) (by omega);obtain ⟨pL,rk⟩:=gx (l) (i:=(((yj (a).n 65535) % (Yl.length:Int))).toNat) (by omega);obtain ⟨S9,rfl,alS⟩:=hD8.2 _ _ _ oU rk;refine aQ mG hR8 (by omega) oU (λ _ ub=>aD mQ (ub.ext hs.aF) (aI (x:=(⟨(pL).kind,(pL).t,(pL).i,S9⟩:dT)) hs mQ rfl rfl (λ w9 hs=>aD mQ hs.At ?_)))
     have hq:wM a l c er=pL:=by unfold wM; rw [if_neg eA,if_neg (by omega),if_pos (by omega),getD_some (by rw [← hn8]; exact rk)]
     exact ⟨_,rfl,hs.aF,.inr (.inl ⟨_,oU,by rw [hq]; exact rk⟩)⟩
    ·refine pop (v:=Flat.val (⟨0,0,0,⟨none,0,0⟩⟩:dT)) (by kernel_rfl) (aI (x:=(⟨0,0,0,⟨none,0,0⟩⟩:dT)) hs mQ rfl rfl (λ pQ hs=>aD mQ hs.At ?_));exact ⟨⟨0,0,0,⟨none,0,0⟩⟩,rfl,hs.aF,.inr (.inr (.inr ⟨rfl,by unfold wM; rw [if_neg eA,if_neg (by omega),if_neg (by omega)]⟩))⟩
def xq:ByteArray:=⟨#[108,105,110,101,32,97,59,32,118,111,108,32,120,59,32,108,111,99,107,32,109,59,32,116,104,114,101,97,100,32,116,32,123,32,114,101,103,32,114,59,32,115,116,111,114,101,32,97,32,61,32,49,59,32,108,111,97,100,32,114,32,61,32,97,59,32,111,112,116,32,97,59,32,116,97,107,101,32,109,59,32,125,32,116,104,114,101,97,100,32,117,32,123,32,114,101,103,32,114,59,32,108,111,97,100,32,114,32,61,32,97,59,32,99,104,101,99,107,32,114,59,32,125,32,114,101,99,111,118,101,114,32,123,32,125,32,97,108,119,97,121,115,32,97,32,61,61,32,49,59]⟩
def vC:cX:=((rI xq).getD (L5,0,0)).1
theorem Ta:rI xq=some (vC,0,0):=by decide +kernel
theorem Hr:gK vC=0:=by decide +kernel
def FW:im:=⟨[0,1],1,[0,0],1,[⟨1,0,[⟨3,0,0,[⟨1,1⟩],[],0⟩,⟨2,0,0,[],[],0⟩,⟨6,0,0,[],[],0⟩,⟨9,0,0,[],[],0⟩]⟩,⟨1,0,[⟨2,0,0,[],[],0⟩,⟨15,0,0,[⟨2,0⟩],[],0⟩]⟩],⟨0,0,[]⟩,[[⟨2,0⟩,⟨1,1⟩,⟨10,0⟩]]⟩
theorem AK:eB vC=FW:=by decide +kernel
theorem Tb:((uu xq).map λ r=>decide (r.1.length≤5000) && r.1.all (λ x=>decide (0≤x.at_∧x.at_≤1000000∧x.text.size≤1000000)))=some true:=by decide +kernel
theorem X3:∀ l e a,uu xq=some (l,e,a)→iu l:=by
 intro l e a h
 have:=Tb
 rw [h] at this
 simp only [Option.map_some,Option.some.injEq,Bool.and_eq_true,decide_eq_true_eq,List.all_eq_true] at this
 exact ⟨this.1,λ x hx=>this.2 x hx⟩
theorem adL:qJ vC=vC:=by decide +kernel
theorem ak7:PZ vC:=by rw [← adL]; exact Qu _
theorem Jk:Bg vC:=En Hr
def O0:List fM:=FW.threads.map λ c=>(sI 20 (qb c)).getD (qb c)
theorem ak8:FW.threads.all (λ c=>(sI 20 (qb c)).isSome)=true:=by decide +kernel
theorem Hs:rD 20 FW.threads O0:=by
 refine ⟨by unfold O0; rw [List.length_map],λ j c t hc ht=>?_⟩
 unfold O0 at ht
 rw [List.getElem?_map,hc,Option.map_some] at ht
 have h:=List.all_eq_true.1 ak8 c (List.mem_of_getElem? hc)
 obtain ⟨t2,h2⟩:=Option.isSome_iff_exists.1 h
 rw [h2] at ht
 rw [h2]; exact ht
def fx0:gT:=mK (mu FW 2) O0
def vd (m:gT) (q:ei):gT × dA × Int:=(Cl 20 m q).getD (m,⟨0,0,0,0,0⟩,99)
theorem mN {m:gT} {q:ei} {ev:dA} {e:Int} (h:(vd m q).2=(ev,e)) (he:e≠99):Cl 20 m q=some ((vd m q).1,ev,e):=by
 unfold vd at h ⊢
 cases hd:Cl 20 m q with
 | none=>rw [hd] at h; cases h; exact absurd rfl he
 | some r=>rw [hd] at h; show some r=some (r.1,ev,e); rw [show r=(r.1,r.2) from rfl,show r.2=(ev,e) from h]
def Mq:ei:=⟨1,0,0,[]⟩
def pOt:ei:=⟨1,1,0,[]⟩
def pOu:ei:=⟨2,0,0,[]⟩
def pCr:ei:=⟨3,0,0,[1]⟩
def fx1:gT:=(vd fx0 Mq).1
def fx2:gT:=(vd fx1 Mq).1
def fx3:gT:=(vd fx2 pOt).1
def fx4:gT:=(vd fx3 pOu).1
def fx5:gT:=(vd fx4 Mq).1
def fx6:gT:=(vd fx5 Mq).1
def fx7:gT:=(vd fx6 pCr).1
def fxo:gT:=(vd fx6 pOt).1
theorem fd1:(vd fx0 Mq).2=(⟨3,0,0,1,0⟩,0):=by decide +kernel
theorem fd2:(vd fx1 Mq).2=(⟨2,0,0,1,0⟩,0):=by decide +kernel
theorem fd3:(vd fx2 pOt).2=(⟨1,1,0,0,0⟩,0):=by decide +kernel
theorem fd4:(vd fx3 pOu).2=(⟨12,0,0,1,0⟩,0):=by decide +kernel
theorem fd5:(vd fx4 Mq).2=(⟨5,0,0,0,0⟩,0):=by decide +kernel
theorem fd6:(vd fx5 Mq).2=(⟨0,0,0,0,0⟩,13):=by decide +kernel
theorem fd7:(vd fx6 pCr).2=(⟨15,0,0,1,0⟩,0):=by decide +kernel
theorem fdo:(vd fx6 pOt).2=(⟨16,1,1,0,0⟩,0):=by decide +kernel
theorem fp2:fc fx2=[Mq,pOu,pOt]:=by decide +kernel
theorem ar5:CL fx7=[true]:=by decide +kernel
theorem fpo:fc fxo=[]:=by decide +kernel
theorem fco:rB fxo=[]:=by decide +kernel
theorem fro:Am fxo 0=[1]:=by decide +kernel
theorem fr2:Am fxo 2=[]:=by decide +kernel
theorem fl7:fx7.mem.l=[1,0]:=by decide +kernel
theorem fk7:fx7.mem.kept=[1]:=by decide +kernel
theorem frt:nt Eo=false:=by decide +kernel
structure yP (p:cX) (m:gT) (n:Nat):Prop where
 pm:PM p m
 mb:MB m.mem n
 cr:m.er≤n
theorem yP.do {p:cX} {m m2:gT} {n N:Nat} {q:ei} {ev:dA} {e:Int} (h:yP p m n) (hd:Cl N m q=some (m2,ev,e)):yP p m2 (n+1):=
 ⟨h.pm.do hd,h.mb.do hd,by have:=(Fc hd).1; have:=h.cr; omega⟩
theorem yP.new {p:cX} {N:Nat} {room:Int} {nf:List fM} (h:Bg p) (hb:rD N (eB p).threads nf) (ht:∀ t∈nf,CW p t) (hr:1≤room∧room≤16):yP p (mK (mu (eB p) room) nf) 0:=
 ⟨PM.new h hb ht hr,MB.new,Int.le_refl _⟩
section
variable {p:cX} {K:World→Prop} {q:Nat} {m:gT} {n:Nat} {w:World}
theorem X4 (h:yP p m n) (hm:Has (eP K q m) w) (hw:K w) (vA:∀ w',Ext w w'→K w'):Calls PG 16 [(.pointer (some ⟨q,0,none⟩))].toArray w (qg λ v w'=>lW (fj v (fc m)) w w'):=C16 K q m w hm hw vA h.pm.gm.ok
theorem adP (h:yP p m n) (hm:Has (eP K q m) w) (hw:K w) (vA:∀ w',Ext w w'→K w'):Calls PG 18 [(.pointer (some ⟨q,0,none⟩))].toArray w (qg λ v w'=>v=Flat.val (qz m)∧Ext w w'):=C18 K q m w hm hw vA h.pm.gm.ok
theorem ar6 (h:yP p m n) (hn:n≤1000000) (hm:Has (eP K q m) w) (hw:K w) (vA:∀ w',Ext w w'→K w'):Calls PG 19 [(.pointer (some ⟨q,0,none⟩))].toArray w (qg λ v w'=>∃ b,v = .pointer (some ⟨b,0,none⟩)∧lW (eP K b m) w w'):=C19 K q m w hm hw vA h.pm.gm.ok (h.mb.mono hn) (by have:=h.pm.gm.ru.lk; omega)
theorem ala (h:yP p m n) (hm:Has (eP K q m) w) (hw:K w) (vA:∀ w',Ext w w'→K w'):Calls PG 22 [(.pointer (some ⟨q,0,none⟩))].toArray w (qg λ v w'=>lW (bK v m.mem.l) w w'):=C22 K q m w hm hw vA h.pm.gm.ok
theorem alb (h:yP p m n) (hm:Has (eP K q m) w) (hw:K w) (vA:∀ w',Ext w w'→K w'):Calls PG 23 [(.pointer (some ⟨q,0,none⟩))].toArray w (qg λ v w'=>lW (bK v m.mem.kept) w w'):=C23 K q m w hm hw vA h.pm.gm.ok
theorem GM.rgl (h:GM m):∀ t∈m.l,t.aK.length≤4:=λ t ht=>by
 have h1:=(h.th t ht).1.rg; have h2:=(h.code ht).rb; omega
theorem ar7 (i:Int) (h:yP p m n) (hm:Has (eP K q m) w) (hw:K w) (vA:∀ w',Ext w w'→K w'):Calls PG 25 [(.pointer (some ⟨q,0,none⟩)),.int .i64 i].toArray w (qg λ v w'=>lW (bK v (Am m i)) w w'):=C25 K q m i w hm hw vA h.pm.gm.ok λ t ht=>by have:=h.pm.gm.rgl t ht; omega
theorem azk (h:yP p m n) (hn:n≤1000000) (hC:(fJ (IQ m.mem)).length≤1000000000) (hm:Has (eP K q m) w) (hw:K w) (vA:∀ w',Ext w w'→K w'):Calls PG 31 [(.pointer (some ⟨q,0,none⟩))].toArray w (qg λ v w'=>lW (fj v (rB m)) w w'):=C31 K q m w hm hw vA h.pm.gm.ok (h.mb.mono hn) hC
theorem azl (h:yP p m n) (hm:Has (eP K q m) w) (hw:K w) (vA:∀ w',Ext w w'→K w'):Calls PG 49 [(.pointer (some ⟨q,0,none⟩))].toArray w (qg λ v w'=>lW (bK v (CL m)) w w'):=by
 have h1:=h.pm.gm.ru.st; have h2:=h.pm.gm.ru.fl; have h3:=h.pm.gm.mem.ll; have h4:=h.pm.gm.dC
 exact C49 K q m w hm hw vA h.pm.gm.ok h.pm.gm.uz.cC h.pm.gm.uz.cl ⟨h1.1,by rw [h3,h4]; omega⟩
theorem FX {N:Nat} {k:ei} {gc:SV} {m2:gT} {ev:dA} {e:Int} {F:Nat→Prop} (h:yP p m n) (hn:n≤1000000) (hd:Cl N m k=some (m2,ev,e)) (hql:k.cut.length≤1000) (hF:(eP K q m).p w F) (hK:∀ w',iy F w w'→K w') (As:∀ w',iy F w w'→eI (λ _=>True) w' (Flat.val gc) k.cut) :
  Calls PG 17 [(.pointer (some ⟨q,0,none⟩)),Flat.val (⟨k.kind,k.t,k.i,gc⟩:dT)].toArray w (qg λ v w'=>v = .tuple #[Flat.val ev,.int .i64 e]∧qk F (eP K q m2) w w'):=
 C17 K q m N k gc m2 ev e F w hF hK h.pm.gm.ok (h.mb.mono hn) ⟨h.pm.gm.cr,by have:=h.cr; omega⟩ (h.pm.gm.ru.rc.ok h.pm.gm.uz.rc) (by have:=h.pm.gm.ru.lk; omega) As hql hd
theorem ar8 (u:im) (uv:dL) (room:Int) (N:Nat) (nf:List fM) (hu:cA.dr w uv u) (hz:UZ u) (hr:nt u=true) (hn:QM N u nf) (h1:1≤room) (h2:room≤16):Calls PG 15 [Flat.val uv,.int .i64 room].toArray w (qg λ v w'=>∃ K p,v = .tuple #[.pointer (some ⟨p,0,none⟩),.int .i64 0]∧lW (sep (eP K p (mK (mu u room) nf)) (eX K)) w w'):=
 (C15 u uv room N nf w hu hz λ _=>hn).mono λ _ _ r=>r.mono λ _ _ h=>by
  rcases h with ⟨h3,_⟩ | ⟨_,h3,_⟩ | ⟨_,_,_,h3⟩
  ·rw [hr] at h3; cases h3
  ·omega
  ·exact h3
theorem ar9 (uv:dL) (room:Int) (hu:cA.dr w uv Eo):Calls PG 15 [Flat.val uv,.int .i64 room].toArray w (qg λ v w'=>v = .tuple #[.pointer none,.int .i64 8]∧Ext w w'):=
 (C15 Eo uv room 0 [] w hu ⟨by decide,by decide,by decide,by decide,λ c hc=>(by cases hc),⟨by decide,λ x hx=>(by cases hx)⟩,λ l hl=>(by cases hl)⟩ (λ h=>by rw [frt] at h; cases h)).mono λ _ _ r=>r.mono λ _ _ h=>by
  rcases h with ⟨_,h3⟩ | ⟨h3,_⟩ | ⟨h3,_⟩
  ·exact h3
  ·rw [frt] at h3; cases h3
  ·rw [frt] at h3; cases h3
end
theorem X5 {p:cX} {N:Nat} {nf:List fM} (h:Bg p) (hb:rD N (eB p).threads nf):∀ t∈nf,CW p t:=by
 intro t ht
 obtain ⟨i,hi⟩:=o8 ht
 have mv:=(List.getElem?_eq_some_iff.1 hi).1
 obtain ⟨c,hc⟩:∃ c,(eB p).threads[i]? = some c:=⟨_,List.getElem?_eq_getElem (by rw [← hb.1]; exact mv)⟩
 have hg:=hb.2 i c t hc hi
 have Mz:=List.mem_of_getElem? hc
 obtain ⟨tt,htt,rfl⟩:=List.mem_map.1 (show c∈p.threads.map (l8 p) from Mz)
 obtain ⟨b,hb2,_⟩:=Ji h (List.mem_append_left p.recover htt)
 have hru:=rK (sH h).1
 have h0:CW p (qb (l8 p tt)):=⟨b,tt.aK,λ g=>by obtain ⟨r,h1,_⟩:=CX hb2 (hru.th _ Mz).cb.1 g; exact ⟨r,h1⟩⟩
 exact h0.go hg
theorem asa:yP vC fx0 0:=by
 have hb:rD 20 (eB vC).threads O0:=by rw [AK]; exact Hs
 have:=yP.new (room:=2) Jk hb (X5 Jk hb) (by decide)
 rw [AK] at this; exact this
theorem asb:yP vC fx1 1:=asa.do (mN fd1 (by decide))
theorem adQ:yP vC fx2 2:=asb.do (mN fd2 (by decide))
theorem asc:yP vC fx3 3:=adQ.do (mN fd3 (by decide))
theorem asd:yP vC fx4 4:=asc.do (mN fd4 (by decide))
theorem ase:yP vC fx5 5:=asd.do (mN fd5 (by decide))
theorem X6:yP vC fx6 6:=ase.do (mN fd6 (by decide))
theorem adR:yP vC fx7 7:=X6.do (mN fd7 (by decide))
theorem X7:yP vC fxo 7:=X6.do (mN fdo (by decide))
theorem azm:(fJ (IQ fxo.mem)).length≤1000000000:=by decide +kernel
theorem Jl:nt FW=true∧UZ FW:=by have:=sH Jk; rw [AK] at this; exact this
theorem adS:QM 20 FW O0:=Me (rK Jl.1) Jl.2 Hs
theorem adT (w:World):jO [(⟨1,0,0,⟨none,0,0⟩⟩:dT),⟨2,0,0,⟨none,0,0⟩⟩,⟨1,1,0,⟨none,0,0⟩⟩] [Mq,pOu,pOt] w:=by
 have h1:jO ([]++[(⟨1,0,0,⟨none,0,0⟩⟩:dT)]) ([]++[Mq]) w:=jO.nil.snoc ⟨_,rfl,DL.nil w⟩
 have h2:jO ([]++[(⟨1,0,0,⟨none,0,0⟩⟩:dT)]++[⟨2,0,0,⟨none,0,0⟩⟩]) ([]++[Mq]++[pOu]) w:=h1.snoc ⟨_,rfl,DL.nil w⟩
 exact h2.snoc ⟨_,rfl,DL.nil w⟩
theorem BB {p:cX} {m:gT} {n:Nat} (_:yP p m n):∀ x∈fc m,x.cut=[]:=by
 intro x hx
 unfold fc at hx
 split at hx
 ·cases hx
 ·obtain ⟨i,t,_,_,AM⟩:=wF hx
  unfold tg at AM
  rw [List.mem_append] at AM
  rcases AM with AM | AM
  ·split at AM
   ·simp at AM; rw [AM]
   ·cases AM
  ·rw [List.mem_map] at AM; obtain ⟨k,_,rfl⟩:=AM; rfl
theorem alc (s:ByteArray) (p:cX) (e a:Int) (w:World) (Yi:s.size≤1000000) (hr:rI s=some (p,e,a)) (hTk:∀ l e a,uu s=some (l,e,a)→iu l) (hz:PZ p) (hc:gK p=0) :
  Calls PG 48 [.string s].toArray w (qg λ v w'=>∃ uv:dL,v=Flat.val uv∧lW (eX (λ w=>cA.dr w uv (eB p))) w w'):=
 (C48 s (p,e,a) w Yi hr hTk hz).mono λ _ _ r=>r.mono λ v w' h=>by
  obtain ⟨uv,h1,h2⟩:=h
  refine ⟨uv,h1,?_⟩
  have e1:(if gK p=0 then eB p else Eo)=eB p:=if_pos hc
  have h3:lW (eX (λ w=>cA.dr w uv (if gK p=0 then eB p else Eo))) w w':=h2
  rw [e1] at h3; exact h3
theorem asf (w:World):Calls PG 48 [.string xq].toArray w (qg λ v w'=>∃ uv:dL,v=Flat.val uv∧lW (eX (λ w=>cA.dr w uv FW)) w w'):=by
 rw [← AK]
 exact alc xq vC 0 0 w (by decide +kernel) Ta X3 ak7 Hr
set_option maxHeartbeats 4000000 in
set_option maxRecDepth 100000 in
theorem C14 (w:World):CR 14 [] w (λ v w'=>v = .bool true∧Ext w w'):=by
 have hs:=St.start w;refine agy _ _ ?_;unfold S14;refine ey auk (asf _) ?_;rintro _ w1 ⟨ald,rfl,bZ⟩;have hs:=hs.made bZ;refine ey agK (ar8 FW ald 2 20 O0 (hs).eX Jl.2 Jl.1 adS (by decide) (by decide)) ?_;rintro _ w2 ⟨K,p,rfl,bZ⟩;have hs:=(hs.made bZ).split;refine bE rfl (bE rfl (pop (v:=Flat.val (⟨⟨none,0,0⟩,0,⟨none,0,0⟩,0,⟨none,0,0⟩,(⟨0,0,⟨none,0,0⟩⟩:cK),⟨none,0,0⟩⟩:dL)) (by kernel_rfl) (have hs:=(hs.p2).drop;aZ agK hs (ar9 (⟨⟨none,0,0⟩,0,⟨none,0,0⟩,0,⟨none,0,0⟩,(⟨0,0,⟨none,0,0⟩⟩:cK),⟨none,0,0⟩⟩:dL) 2 (show cA.dr _ (⟨⟨none,0,0⟩,0,⟨none,0,0⟩,0,⟨none,0,0⟩,(⟨0,0,⟨none,0,0⟩⟩:cK),⟨none,0,0⟩⟩:dL) (⟨[],0,[],0,[],(⟨0,0,[]⟩:fm),[]⟩:im) from ⟨_,_,_,_,_,rfl,DL.nil _,DL.nil _,DL.nil _,⟨_,rfl,DL.nil _⟩,DL.nil _⟩)) (λ w3 he hs=>bE rfl (bE rfl ?_)))))
 refine ⟨_,?_,λ _ _ h=>h⟩;refine zi PA (fC (cS ?_));intro fy;refine fH (by decide) (pop (H7 _) (pop (Gp _ _) (aN hs Dk (λ atN w5 hs=>have hs:=hs.enc (cs':=Flat.enc (⟨0,0,0,⟨none,0,0⟩⟩:dT)) rfl;aN hs Dk (λ asg w6 hs=>have hs:=hs.enc (cs':=Flat.enc (⟨0,0,0,⟨none,0,0⟩⟩:dT)) rfl;aI (x:=(⟨1,0,0,⟨none,0,0⟩⟩:dT)) hs.p1 mQ rfl rfl (λ w7 hs=>aI (x:=(⟨1,1,0,⟨none,0,0⟩⟩:dT)) hs.p1 mQ rfl rfl (λ w8 hs=>aD mQ hs.p1.At (bG Fv hs.p2 (H':=λ _=>eP K p fx1) (Φ:=λ v _=>v = .tuple #[Flat.val (⟨3,0,0,1,0⟩:dA),.int .i64 0]) (λ F2 eO ew=>?_) ?_))))))))
 ·exact FX (N:=20) (k:=Mq) (gc:=⟨none,0,0⟩) asa (by decide) (mN fd1 (by decide)) (by decide) eO (λ w' hc=>((ew w' hc).p2).eX) (λ w' hc=>(eI.nil (λ _=>True) w'))
 rintro _ w9 rfl hs;refine bE rfl (bE rfl (aN hs lB (λ b_a7 pQ hs=>aI (x:=(⟨3,0,0,1,0⟩:dA)) hs eY rfl rfl (λ sP hs=>aD mQ hs.p3.At (bG Fv hs.p1 (H':=λ _=>eP K p fx2) (Φ:=λ v _=>v = .tuple #[Flat.val (⟨2,0,0,1,0⟩:dA),.int .i64 0]) (λ F2 eO ew=>?_) ?_)))))
 ·exact FX (N:=20) (k:=Mq) (gc:=⟨none,0,0⟩) asb (by decide) (mN fd2 (by decide)) (by decide) eO (λ w' hc=>((ew w' hc).p3).eX) (λ w' hc=>(eI.nil (λ _=>True) w'))
 rintro _ vi rfl hs;refine bE rfl (bE rfl (aN hs lB (λ b_b9 vj hs=>aI (x:=(⟨2,0,0,1,0⟩:dA)) hs eY rfl rfl (λ sd hs=>dB C8 hs (X4 adQ (hs.p1).has (hs.p5).eX (λ w' e=>St.jV (hs.p5) e)) (λ x57 vW bZ hs=>aD mQ hs.p4.At (bG Fv hs.p2 (H':=λ _=>eP K p fx3) (Φ:=λ v _=>v = .tuple #[Flat.val (⟨1,1,0,0,0⟩:dA),.int .i64 0]) (λ F2 eO ew=>?_) ?_))))))
 ·exact FX (N:=20) (k:=pOt) (gc:=⟨none,0,0⟩) adQ (by decide) (mN fd3 (by decide)) (by decide) eO (λ w' hc=>((ew w' hc).p5).eX) (λ w' hc=>(eI.nil (λ _=>True) w'))
 rintro _ yM rfl hs;refine bE rfl (bE rfl (aN hs lB (λ b_c12 Cd hs=>aI (x:=(⟨1,1,0,0,0⟩:dA)) hs eY rfl rfl (λ Il hs=>pop (H7 _) (bG Fv hs.p1 (H':=λ _=>eP K p fx4) (Φ:=λ v _=>v = .tuple #[Flat.val (⟨12,0,0,1,0⟩:dA),.int .i64 0]) (λ F2 eO ew=>?_) ?_)))))
 ·exact FX (N:=20) (k:=pOu) (gc:=⟨none,0,0⟩) asc (by decide) (mN fd4 (by decide)) (by decide) eO (λ w' hc=>((ew w' hc).p6).eX) (λ w' hc=>(eI.nil (λ _=>True) w'))
 rintro _ Jo rfl hs;refine bE rfl (bE rfl (aN hs lB (λ b_d14 KA hs=>aI (x:=(⟨12,0,0,1,0⟩:dA)) hs eY rfl rfl (λ Mx hs=>aD mQ hs.p7.At (bG Fv hs.p1 (H':=λ _=>eP K p fx5) (Φ:=λ v _=>v = .tuple #[Flat.val (⟨5,0,0,0,0⟩:dA),.int .i64 0]) (λ F2 eO ew=>?_) ?_)))))
 ·exact FX (N:=20) (k:=Mq) (gc:=⟨none,0,0⟩) asd (by decide) (mN fd5 (by decide)) (by decide) eO (λ w' hc=>((ew w' hc).p7).eX) (λ w' hc=>(eI.nil (λ _=>True) w'))
 rintro _ Qp rfl hs;refine bE rfl (bE rfl (aD mQ hs.p7.At (bG Fv hs (H':=λ _=>eP K p fx6) (Φ:=λ v _=>v = .tuple #[Flat.val (⟨0,0,0,0,0⟩:dA),.int .i64 13]) (λ F2 eO ew=>?_) ?_)))
 ·exact FX (N:=20) (k:=Mq) (gc:=⟨none,0,0⟩) ase (by decide) (mN fd6 (by decide)) (by decide) eO (λ w' hc=>((ew w' hc).p7).eX) (λ w' hc=>(eI.nil (λ _=>True) w'))
 rintro _ Tn rfl hs;refine bE rfl (bE rfl (aN hs lB (λ b_x16 VF hs=>aI (x:=(⟨0,0,0,0,0⟩:dA)) hs eY rfl rfl (λ R7 hs=>ey amm (ar6 X6 (by decide) (hs.p1).has (hs.p9).eX (λ w' e=>St.jV (hs.p9) e)) ?_))));rintro _ w26 ⟨ash,rfl,bZ⟩;have hs:=hs.made bZ;refine bW (([1]:List Int)) hs ee rfl rfl (eF rfl) (λ s_x86 w27 hs=>?_);obtain ⟨ale,rfl⟩:=(hs).fQ;refine pop (Gq _ _ _ _) (bG Fv hs.p3 (H':=λ _=>eP K p fx7) (Φ:=λ v _=>v = .tuple #[Flat.val (⟨15,0,0,1,0⟩:dA),.int .i64 0]) (λ F2 eO ew=>?_) ?_)
 ·exact FX (N:=20) (k:=pCr) (gc:=ale) X6 (by decide) (mN fd7 (by decide)) (by decide) eO (λ w' hc=>((ew w' hc).rR).eX) (λ w' hc=>((ew w' hc)).fK)
 rintro _ w28 rfl hs;refine bE rfl (bE rfl (aN hs lB (λ b_k19 w29 hs=>aI (x:=(⟨15,0,0,1,0⟩:dA)) hs eY rfl rfl (λ w30 hs=>have hs:=((hs.p2.drop).p3).drop;aZ YI hs (adP adR (hs.p1).has (hs.rR).eX (λ w' e=>St.jV (hs.rR) e)) (λ w31 he hs=>dB aul hs (azl adR (hs.p1).has (hs.rR).eX (λ w' e=>St.jV (hs.rR) e)) (λ x94 w32 bZ hs=>aN hs HZ (λ b_s21 w33 hs=>aI (x:=(qz fx7)) hs J7 rfl rfl (λ w34 hs=>zi PA (fC (aD mQ hs.rR.At (bG Fv hs.p4 (H':=λ _=>eP K ash fxo) (Φ:=λ v _=>v = .tuple #[Flat.val (⟨16,1,1,0,0⟩:dA),.int .i64 0]) (λ F2 eO ew=>?_) ?_)))))))))))
 ·exact FX (N:=20) (k:=pOt) (gc:=⟨none,0,0⟩) X6 (by decide) (mN fdo (by decide)) (by decide) eO (λ w' hc=>((ew w' hc).p11).eX) (λ w' hc=>(eI.nil (λ _=>True) w'))
 rintro _ w35 rfl hs;refine bE rfl (bE rfl (aN hs lB (λ b_v23 w36 hs=>aI (x:=(⟨16,1,1,0,0⟩:dA)) hs eY rfl rfl (λ w37 hs=>aZ YI hs (adP X7 (hs.p1).has (hs.p13).eX (λ w' e=>St.jV (hs.p13) e)) (λ w38 he hs=>aN hs HZ (λ b_w25 Yn hs=>aI (x:=(qz fxo)) hs J7 rfl rfl (λ w40 hs=>?_)))))));refine ⟨_,?_,λ _ _ h=>h⟩;refine aH (gD (by decide) (aD eY hs.p11.At (pop (tP _ _) (lx Dx rfl rfl (show _=decide True from rfl) (gD (by decide) (aH (gD (by decide) (aD eY hs.rR.At (pop (tP _ _) (lx Dx rfl rfl (show _=decide True from rfl) (gD (by decide) (aD mQ hs.p13.At ?_))))))))))))
 refine pop (H7 _) (aD mQ hs.p12.At (bW ([(⟨1,0,0,⟨none,0,0⟩⟩:dT),⟨2,0,0,⟨none,0,0⟩⟩,⟨1,1,0,⟨none,0,0⟩⟩]) hs mG rfl rfl (eF rfl) (λ azn w41 hs=>aZ amn hs (C20 _ _ (fc fx2) [Mq,pOu,pOt] _ (hs.rR).dl (DL.of (hs).fK (adT _)) (by rw [fp2]; decide) (λ x hx=>by rw [BB adQ x hx]; decide)) (λ w42 he hs=>gD (decide_eq_true fp2) (have hs:=((((((((hs.rR.drop)).drop).p12).drop).rR).drop).p9).drop;aD eY hs.p8.At (pop (A0 _ _) (lx Dx rfl rfl (show _=decide True from rfl) (gD (by decide) (aD eY hs.p7.At (pop (tP _ _) (lx Dx rfl rfl (show _=decide True from rfl) (gD (by decide) ?_))))))))))))
 refine aH (gD (by decide) (aD eY hs.p5.At (pop (tP _ _) (lx Dx rfl rfl (show _=decide True from rfl) (gD (by decide) (aD J7 hs.p3.At (pop (RO _ _) (lx Us rfl rfl (show _=decide True from rfl) (gD (by decide) (bW ([true]) hs xO rfl rfl (eF rfl) (λ azo w43 hs=>aZ aum hs (C50 _ _ (CL fx7) [true] _ (hs.p5).fK (hs).fK (by rw [ar5]; decide)) (λ w44 he hs=>gD (decide_eq_true ar5) ?_))))))))))));refine aD eY hs.p2.At (pop (r8 _ _ _) (lx Dx rfl rfl (show _=decide True from rfl) (gD (by decide) (aD J7 hs.p1.At (pop (RP _ _) (lx Us rfl rfl (show _=decide True from rfl) (gD (by decide) (have hs:=((((((((((((((((hs.drop)).drop)).drop).p1).drop).p1).drop).p1).drop).p2).drop).p2).drop).p2).drop;dB C8 hs (X4 X7 (hs).has (hs.p2).eX (λ w' e=>St.jV (hs.p2) e)) (λ x170 w45 bZ hs=>?_)))))))))
 obtain ⟨atO,adU,adV,_⟩:=(hs).dl;refine aJ mG adU ?_;rw [adV];refine aH (gD (by rw [fpo]; rfl) (dB aui hs (azk X7 (by decide) azm (hs.p1).has (hs.p3).eX (λ w' e=>St.jV (hs.p3) e)) (λ x176 w46 bZ hs=>?_)));obtain ⟨atP,adW,adX,_⟩:=(hs).dl;refine aJ mG adW ?_;rw [adX];refine aH (gD (by rw [fco]; rfl) (dB amo hs (ar7 (0) X7 (hs.p2).has (hs.p4).eX (λ w' e=>St.jV (hs.p4) e)) (λ x182 w47 bZ hs=>bW (([1]:List Int)) hs ee rfl rfl (eF rfl) (λ azp w48 hs=>aZ RC hs (C21 _ _ (Am fxo (0)) ([1]:List Int) _ (hs.p1).fK (hs).fK (by rw [fro]; decide)) (λ w49 he hs=>gD (decide_eq_true fro) (dB amo hs (ar7 (2) X7 (hs.p4).has (hs.p6).eX (λ w' e=>St.jV (hs.p6) e)) (λ x188 w50 bZ hs=>aJ ee (hs).fK (aH (gD (by rw [fr2]; rfl) (dB YJ hs (ala adR (hs.p6).has (hs.p7).eX (λ w' e=>St.jV (hs.p7) e)) (λ x194 w51 bZ hs=>bW (([1,0]:List Int)) hs ee rfl rfl (eF rfl) (λ azq w52 hs=>aZ RC hs (C21 _ _ (fx7.mem.l) ([1,0]:List Int) _ (hs.p1).fK (hs).fK (by rw [fl7]; decide)) (λ w53 he hs=>?_)))))))))))))
 refine gD (decide_eq_true fl7) (dB agL hs (alb adR (hs.p8).has (hs.p9).eX (λ w' e=>St.jV (hs.p9) e)) (λ x200 w54 bZ hs=>bW (([1]:List Int)) hs ee rfl rfl (eF rfl) (λ azr w55 hs=>aZ RC hs (C21 _ _ (fx7.mem.kept) ([1]:List Int) _ (hs.p1).fK (hs).fK (by rw [fk7]; decide)) (λ w56 he hs=>?_))));intro jw;exact ⟨vb (decide_eq_true fk7),hs.aF⟩
theorem alf {N:Nat} {m m2:gT} {q:ei} {ev:dA} {e:Int} (hd:Cl N m q=some (m2,ev,e)):e=0∨(m2=m∧ev=⟨0,0,0,0,0⟩∧e=13):=by
 cases hc:iI m q with
 | some pR=>obtain ⟨t,_,_,_,he⟩:=qH hd hc; exact .inl he
 | none=>
  by_cases ha:(fc m).any (js q)=true
  ·by_cases hk:q.kind=2
   ·obtain ⟨_,t,ht⟩:=rE ha
    exact .inl (pj hd hc ha hk ht).2.2
   ·exact .inl (m8 hd hc ha hk).2
  ·obtain ⟨h1,h2,h3⟩:=ph hd hc ha; exact .inr ⟨h1,h2,h3⟩
theorem Fi {w:World} {g:dT} {x:ei} (h:cA.dr w g x):eI (λ _=>True) w (Flat.val g.cut) x.cut:=by
 obtain ⟨_,rfl,h⟩:=h; exact DL.flat h
theorem ak4.rd {av:zA} {a:FD} {tl:List dT} {l:List ei} {tc:List dT} {c:List ei} {cr:Int} {sh:dT} (h:ak4 av a tl l tc c cr sh) {w1:World} (h1:jO tl l w1) (h2:jO tc c w1) :
  ∃ gc:SV,sh=⟨(wM a l c cr).kind,(wM a l c cr).t,(wM a l c cr).i,gc⟩∧∀ w2,eI (λ _=>True) w2 (Flat.val av.p.cut) a.p.cut→jO tl l w2→jO tc c w2→eI (λ _=>True) w2 (Flat.val gc) (wM a l c cr).cut:=by
 rcases h with ⟨_,hq,gc,hs,hr⟩ | ⟨j,hj,hq⟩ | ⟨j,hj,hq⟩ | ⟨hs,hq⟩
 ·rw [hq]; exact ⟨gc,hs,λ w2 h _ _=>hr w2 h⟩
 ·obtain ⟨gc,hs,_⟩:=h1.2 j _ _ hj hq
  refine ⟨gc,hs,λ w2 _ h3 _=>?_⟩
  have:=Fi (h3.2 j _ _ hj hq)
  rw [hs] at this; exact this
 ·obtain ⟨gc,hs,_⟩:=h2.2 j _ _ hj hq
  refine ⟨gc,hs,λ w2 _ _ h3=>?_⟩
  have:=Fi (h3.2 j _ _ hj hq)
  rw [hs] at this; exact this
 ·rw [hq]; exact ⟨⟨none,0,0⟩,hs,λ w2 _ _ _=>eI.nil (λ _=>True) w2⟩
theorem adY {a:FD} {l c:List ei} {cr:Int} (h1:∀ x∈l,x.cut.length≤1000) (h2:∀ x∈c,x.cut.length≤1000):(wM a l c cr).cut.length≤1000:=by
 have key:∀ (xs:List ei) (k:Nat),(∀ x∈xs,x.cut.length≤1000)→(xs.getD k Mo).cut.length≤1000:=by
  intro xs k hx
  rw [List.getD_eq_getElem?_getD]
  cases hk:xs[k]? with
  | none=>decide
  | some y=>exact hx y (List.mem_of_getElem? hk)
 unfold wM
 split
 ·show (a.p.cut.take 22).length≤1000; rw [List.length_take]; omega
 ·split
  ·exact key _ _ h2
  ·split
   ·exact key _ _ h1
   ·decide
theorem FY {p:cX} {m:gT} {n:Nat} (h:yP p m n):∀ x∈fc m,x.cut.length≤1000:=λ x hx=>by rw [BB h x hx]; decide
theorem Ht {p:cX} {m:gT} {n:Nat} (h:yP p m n):(fc m).length≤1073741824:=Nat.le_trans (oZ h.pm.gm.ok) (by decide)
theorem Tc (s:iB):tC (Flat.enc s) (Flat.enc s)=decide True:=by
 simp [tC,Flat.enc,eqV]
set_option maxHeartbeats 4000000 in
set_option maxRecDepth 100000 in
theorem C4 (p:cX) (pv:bN) (sv ov:Value) (script:List FD) (odd:List ei) (w:World) (hp:cA.dr w pv p) (hS:DL w sv script) (hO:DL w ov odd):CR 4 [Flat.val pv,sv,ov] w (λ v w'=>v = .bool true∧Ext w w'):=by
 obtain ⟨bH,bQ,bI,aT,aU,aY,rfl,cI,cY,cJ,bR,bO,cB⟩:=hp;have hs:=St.start w;refine amc _ _ _ _ _ ?_;unfold S4;refine dE hs (λ wk w1 hs=>aD gI hs.At (ey aue (C11 p (⟨bH,bQ,bI,aT,aU,aY⟩:bN) _ ⟨bH,bQ,bI,aT,aU,aY,rfl,(cI.ext hs.aF),(cY.ext hs.aF),(cJ.ext hs.aF),(bR.ext hs.aF),(bO.ext hs.aF),(cB.ext hs.aF)⟩) ?_));rintro _ w2 ⟨Oy,rfl,bZ⟩;have hs:=hs.made bZ;refine ey amk (C12 (qJ p) Oy _ (hs).eX (Qu p)) ?_
 rintro _ w3 ⟨O1,rfl,bZ⟩;have hs:=hs.made bZ;refine bE rfl (bE rfl (aN hs vL (λ b_u7 w4 hs=>have hs:=hs.enc (cs':=Flat.enc (⟨⟨none,0,0⟩,0,⟨none,0,0⟩,0,⟨none,0,0⟩,(⟨0,0,⟨none,0,0⟩⟩:cK),⟨none,0,0⟩⟩:dL)) rfl;aI (x:=O1) hs tD rfl rfl (λ w5 hs=>cS (aC (λ ib=>?_) (λ ib=>?_))))))
 ·refine aZ aml hs (C14 _) (λ w6 he hs=>?_);exact ⟨rfl,hs.aF⟩
 ·refine aD tD hs.At ?_;have zg:gK (qJ p)=0:=by omega
  have R8:=En zg;have oB:=sH R8;obtain ⟨N0,nf,Jq,htw⟩:=Mm R8;have hs:=hs.p1.dN (Ψ:=λ w=>cA.dr w O1 (eB (qJ p))) (λ w h=>by rw [if_pos zg] at h; exact h);refine ey agK (ar8 (eB (qJ p)) O1 2 N0 nf (hs).eX oB.2 oB.1 (Me (rK oB.1) oB.2 Jq) (by decide) (by decide)) ?_;rintro _ w7 ⟨K,q,rfl,bZ⟩;have hs:=(hs.made bZ).split;have azs:yP (qJ p) (mK (mu (eB (qJ p)) 2) nf) 0:=yP.new R8 Jq htw (by first | decide | omega);refine bE rfl (bE rfl ?_);refine ⟨_,?_,λ _ _ h=>h⟩;refine zi PA (fC (cS ?_));intro fy;refine fH (by decide) ?_;have hs:=((((hs.p2.drop.p2.drop.p2.drop).p2).drop).p1).p1
  refine ⟨λ mm i w'=>∃ (k:Nat) (m:gT),i = .int .i64 (k:Int)∧mm=30 - k∧k≤30∧yP (qJ p) m k∧St w bD [eP K q m,eX K] w',⟨30,0,_,rfl,rfl,by decide,azs,hs⟩,?_⟩;rintro mm _ w9 ⟨k,m,rfl,rfl,hk,hm,hs⟩ jw;refine ⟨λ jv w'=>∃ q:Prop,∃ _:Decidable q,(q→k<script.length∧k<30)∧jv = .bool (decide q)∧w9=w',?_,?_⟩
  ·obtain ⟨ts137,asi,asj⟩:=(hS).open;have hn137:=asj.1;refine aJ anT (asi.ext hs.aF) (aR (aC (λ oC=>?_) (λ oC=>?_)))
   ·refine aR ?_;exact ⟨_,inferInstance,(λ h=>by omega),rfl,rfl⟩
   ·exact ⟨False,inferInstance,(λ h=>h.elim),rfl,rfl⟩
  ·rintro _ pQ ⟨q3,hq3,hq4,rfl,hw⟩ oN;subst hw;refine aC (λ pJ=>?_) (λ pJ=>?_)
   ·obtain ⟨hk3,hk4⟩:=hq4 pJ;refine ⟨λ w'=>St w bD [eP K q m,eX K] w',?_,?_⟩
    ·obtain ⟨asl,Rr,agl⟩:=(hO).open;have hn138:=agl.1;refine aJ mG (Rr.ext hs.aF) (aR (aC (λ oe=>?_) (λ oe=>?_)))
     ·obtain ⟨e_x53,Jm⟩:=gx asl (i:=((k:Int)).toNat) (by omega);obtain ⟨qq,alg⟩:=gx (odd) (i:=((k:Int)).toNat) (by omega);obtain ⟨BC,rfl,Td⟩:=agl.2 _ _ _ Jm alg;refine aQ mG Rr (by omega) Jm (λ _ asm=>aD mQ (asm.ext hs.aF) (aN hs Dk (λ PU sP hs=>have hs:=hs.enc (cs':=Flat.enc (⟨0,0,0,⟨none,0,0⟩⟩:dT)) rfl;aI (x:=(⟨(qq).kind,(qq).t,(qq).i,BC⟩:dT)) hs mQ rfl rfl (λ vi hs=>?_))));skip;refine aQ mG Rr (by omega) Jm (λ _ ub=>bP BC nP ub rfl rfl (λ _ wj=>have hs:=hs.drew;aD en (wj.ext hs.aF) ?_))
      have X8:=DL.flat (Td);refine aQ mG Rr (by omega) Jm (λ _ EB=>bP BC nP EB rfl rfl (λ _ D6=>aD en (D6.ext hs.aF) (aJ ee (X8.ext hs.aF) (r9 (kL ee (X8.ext hs.aF) (by omega) (by omega) (λ s_x67 alh=>?_))))));have X9:=alh _ X8;refine aA nP ?_;obtain ⟨Ya,rfl⟩:=(X9).fQ;refine aV hs en (eF rfl) (rfl) (λ vj hs=>have hs:=hs.enc (cs':=Flat.enc (⟨(qq).kind,(qq).t,(qq).i,Ya⟩:dT)) rfl;ey amm (ar6 hm (by omega) (hs.p1).has (hs.p2).eX (λ w' e=>St.jV (hs.p2) e)) ?_);rintro _ sd ⟨asn,rfl,bZ⟩;have hs:=hs.made bZ
      refine zi PA (fC (aD mQ hs.p1.At ?_));obtain ⟨N1,m1,ev1,e1,hd1,hpm1⟩:=Mn hm.pm (⟨(qq).kind,(qq).t,(qq).i,(((qq).cut).take ((min (((qq).cut).length:Int) 22)).toNat)⟩:ei);refine bG Fv hs (H':=λ _=>eP K asn m1) (Φ:=λ v _=>v = .tuple #[Flat.val (ev1:dA),.int .i64 e1]) (λ F2 eO ew=>?_) ?_
      ·exact FX (N:=N1) (k:=(⟨(qq).kind,(qq).t,(qq).i,(((qq).cut).take ((min (((qq).cut).length:Int) 22)).toNat)⟩:ei)) (gc:=Ya) hm (by omega) hd1 (by show (List.take _ _).length≤1000; rw [List.length_take]; omega) eO (λ w' hc=>((ew w' hc).p2).eX) (λ w' hc=>X9.ext (ew w' hc).aF)
      rintro _ vW rfl hs;refine bE rfl (bE rfl (aN hs lB (λ b_v14 yM hs=>aI (x:=(ev1:dA)) hs eY rfl rfl (λ Cd hs=>?_))));refine ⟨λ jv w'=>jv = .bool false∧St w bD [eP K q m,eX K] w',?_,?_⟩
      ·refine cS (aC (λ GK=>?_) (λ GK=>?_))
       ·obtain ⟨em,rfl,rfl⟩:=(alf hd1).resolve_left GK;replace em:=em.symm;subst em;refine cS (fH (by decide) (aD eY hs.At (pop (AZ) (Gn Dx rfl rfl (show _=decide True from rfl) (fH (by decide) (aZ YI hs (adP hm (hs.p1).has (hs.p4).eX (λ w' e=>St.jV (hs.p4) e)) (λ Il he hs=>aZ YI hs (adP hm (hs.p3).has (hs.p4).eX (λ w' e=>St.jV (hs.p4) e)) (λ Jo he hs=>Gn Us rfl rfl (Tc _) (fH (by decide) (dB C8 hs (X4 hm (hs.p1).has (hs.p4).eX (λ w' e=>St.jV (hs.p4) e)) (λ x98 KA bZ hs=>dB C8 hs (X4 hm (hs.p4).has (hs.p5).eX (λ w' e=>St.jV (hs.p5) e)) (λ x100 Mx bZ hs=>aZ amn hs (C20 _ _ (fc m) (fc m) _ (hs.p1).dl (hs).dl (Ht hm) (λ x hx=>by rw [BB hm x hx]; decide)) (λ Qp he hs=>?_)))))))))))))
        refine bY (fH (by simp) (dB YJ hs (ala hm (hs.p3).has (hs.p6).eX (λ w' e=>St.jV (hs.p6) e)) (λ x106 Tn bZ hs=>dB YJ hs (ala hm (hs.p6).has (hs.p7).eX (λ w' e=>St.jV (hs.p7) e)) (λ x108 VF bZ hs=>aZ RC hs (C21 _ _ (m.mem.l) (m.mem.l) _ (hs.p1).fK (hs).fK (by have:=hm.pm.gm.mem.ll; have:=hm.pm.gm.mem.fl; omega)) (λ R7 he hs=>bY (fH (by simp) (dB agL hs (alb hm (hs.p5).has (hs.p8).eX (λ w' e=>St.jV (hs.p8) e)) (λ x114 w26 bZ hs=>dB agL hs (alb hm (hs.p8).has (hs.p9).eX (λ w' e=>St.jV (hs.p9) e)) (λ x116 w27 bZ hs=>aZ RC hs (C21 _ _ (m.mem.kept) (m.mem.kept) _ (hs.p1).fK (hs).fK (by have:=hm.pm.gm.mem.kl; have:=hm.pm.gm.mem.QD; have:=hm.pm.gm.mem.fl; omega)) (λ w28 he hs=>bY ?_))))))))))
        have hs:=((((((((((((((((((hs.drop)).drop)).drop)).drop)).drop)).drop)).drop)).drop)).drop).p1).p1;exact ⟨vb (by simp),hs⟩
       ·have hs:=((((((hs.drop)).drop)).drop).p1).p1;exact ⟨rfl,hs⟩
      ·rintro _ w29 ⟨rfl,hs⟩ GF;refine fC ?_;have hs:=hs.p1.p1;exact hs
     ·have hs:=hs.p1.p1;exact hs
    ·intro w30 hs R0;refine dB C8 hs (X4 hm (hs).has (hs.p1).eX (λ w' e=>St.jV (hs.p1) e)) (λ x122 w31 bZ hs=>?_);obtain ⟨aso,asp,agm⟩:=(hS).open;have hn140:=agm.1;obtain ⟨azt,Rs⟩:=gx aso (i:=((k:Int)).toNat) (by omega);obtain ⟨Fj,adZ⟩:=gx (script) (i:=((k:Int)).toNat) (by omega);obtain ⟨Mr,rfl,Ms⟩:=agm.2 _ _ _ Rs adZ;refine aQ anT asp (by omega) Rs (λ _ ali=>aD avF (ali.ext hs.aF) ?_);obtain ⟨ad0,hs⟩:=hs.Kw;refine ey auf (C24 Fj (⟨(Fj).kind,(Fj).n,Mr⟩:zA) _ _ ad0 (fc m) [] [] 9 _ ⟨Mr,rfl,cA.ext Ms hs.aF⟩ (hs).fK (hs.p1).eX (eI.nil (λ _=>True) _) jO.nil (Ht hm) (by decide)) ?_
     rintro _ w32 ⟨atQ,rfl,he,Te⟩;have hs:=hs.ext he;obtain ⟨ad1,Yb,Yc⟩:=Te.rd (hs.p1).eX jO.nil;subst Yb;obtain ⟨N2,m2,ev2,e2,LN,hpm2⟩:=Mn hm.pm (wM Fj (fc m) [] 9);refine bG Fv hs.p2 (H':=λ _=>eP K q m2) (Φ:=λ v _=>v = .tuple #[Flat.val (ev2:dA),.int .i64 e2]) (λ F2 eO ew=>?_) ?_
     ·exact FX (N:=N2) (k:=(wM Fj (fc m) [] 9)) (gc:=ad1) hm (by omega) LN (adY (FY hm) (λ x hx=>by cases hx)) eO (λ w' hc=>((ew w' hc).p2).eX) (λ w' hc=>Yc w' (Fi (cA.ext Ms (ew w' hc).aF)) ((ew w' hc).p1).eX jO.nil)
     rintro _ w33 rfl hs;refine aO (by omega) ?_;have hs:=((hs.p1.drop.p1.drop).p1).p1;exact ⟨_,by omega,k+1,m2,rfl,rfl,by omega,hm.do LN,hs⟩
   ·refine aZ aml hs (C14 _) (λ w34 he hs=>?_);exact ⟨rfl,hs.aF⟩
set_option maxRecDepth 100000
theorem own:ownKnob Tryz.prog.godebug=none:=by kernel_rfl
theorem rd9:xU Tryz.prog 9 ByteArray (λ y=>y.size≤maxLen):=RdT.deep (ahO Tryz.underlying9 (by kernel_rfl)) λ _ _=>rfl
theorem Ju:xU Tryz.prog 3 Int my:=RdT.deep (ahN Tryz.underlying3 (by kernel_rfl)) λ _ _=>rfl
theorem asq:xU Tryz.prog 163 dF wZ:=λ w=>⟨by kernel_rfl,λ enc base held fuel cs x h=>by
 obtain ⟨hl,n,hp⟩:=lX Tryz.underlying163 h
 obtain ⟨y0,h0⟩:=hp 0 _ rfl
 obtain ⟨y1,h1⟩:=hp 1 _ rfl
 obtain ⟨y2,h2⟩:=hp 2 _ rfl
 obtain ⟨s0,e0,a0,d0,k0⟩:=(rd9 w).rd enc base held n _ _ h0
 obtain ⟨s1,e1,a1,d1,k1⟩:=(Ju w).rd enc base held n _ _ h1
 obtain ⟨s2,e2,a2,d2,k2⟩:=(Ju w).rd enc base held n _ _ h2
 obtain rfl:s0=a0:=d0
 obtain rfl:s1=a1:=d1
 obtain rfl:s2=a2:=d2
 have p0:=dR (s:=1) e0
 have p1:=dR (s:=1) e1
 have p2:=dR (s:=1) e2
 have hz:cs.drop 3=[]:=List.drop_eq_nil_iff.2 (by rw [hl]; exact Nat.le_of_eq (by kernel_rfl))
 refine ⟨(⟨s0,s1,s2⟩:dF),?_,(⟨s0,s1,s2⟩:dF),rfl,k0,k1,k2⟩
 have e:cs=cs.drop 0:=rfl
 rw [e]
 refine p0.trans ?_
 refine ((congrArg _ p1)).trans ?_
 refine ((congrArg _ (congrArg _ p2))).trans ?_
 exact (congrArg _ (congrArg _ (congrArg _ hz)))⟩
theorem alj:xU Tryz.prog 23 (List dF) (λ ys:(List dF)=>∀ y∈ys,wZ y):=xU.slice Tryz.underlying23 (by kernel_rfl) asq
theorem azu:xU Tryz.prog 22 (List (List dF)) (λ ys:(List (List dF))=>∀ y∈ys,(λ ys:(List dF)=>∀ y∈ys,wZ y) y):=xU.slice Tryz.underlying22 (by kernel_rfl) alj
theorem azv:xU Tryz.prog 95 (List ByteArray) (λ ys:(List ByteArray)=>∀ y∈ys,(λ y:ByteArray=>y.size≤maxLen) y):=xU.slice Tryz.underlying95 (by kernel_rfl) rd9
theorem asr:xU Tryz.prog 166 cW zy:=λ w=>⟨by kernel_rfl,λ enc base held fuel cs x h=>by
 obtain ⟨hl,n,hp⟩:=lX Tryz.underlying166 h
 obtain ⟨y0,h0⟩:=hp 0 _ rfl
 obtain ⟨y1,h1⟩:=hp 1 _ rfl
 obtain ⟨y2,h2⟩:=hp 2 _ rfl
 obtain ⟨y3,h3⟩:=hp 3 _ rfl
 obtain ⟨s0,e0,a0,d0,k0⟩:=(Ju w).rd enc base held n _ _ h0
 obtain ⟨s1,e1,a1,d1,k1⟩:=(Ju w).rd enc base held n _ _ h1
 obtain ⟨s2,e2,a2,d2,k2⟩:=(rd9 w).rd enc base held n _ _ h2
 obtain ⟨s3,e3,a3,d3,k3⟩:=(Ju w).rd enc base held n _ _ h3
 obtain rfl:s0=a0:=d0
 obtain rfl:s1=a1:=d1
 obtain rfl:s2=a2:=d2
 obtain rfl:s3=a3:=d3
 have p0:=dR (s:=1) e0
 have p1:=dR (s:=1) e1
 have p2:=dR (s:=1) e2
 have p3:=dR (s:=1) e3
 have hz:cs.drop 4=[]:=List.drop_eq_nil_iff.2 (by rw [hl]; exact Nat.le_of_eq (by kernel_rfl))
 refine ⟨(⟨s0,s1,s2,s3⟩:cW),?_,(⟨s0,s1,s2,s3⟩:cW),rfl,k0,k1,k2,k3⟩
 have e:cs=cs.drop 0:=rfl
 rw [e]
 refine p0.trans ?_
 refine ((congrArg _ p1)).trans ?_
 refine ((congrArg _ (congrArg _ p2))).trans ?_
 refine ((congrArg _ (congrArg _ (congrArg _ p3)))).trans ?_
 exact (congrArg _ (congrArg _ (congrArg _ (congrArg _ hz))))⟩
theorem alk:xU Tryz.prog 86 (List cW) (λ ys:(List cW)=>∀ y∈ys,zy y):=xU.slice Tryz.underlying86 (by kernel_rfl) asr
theorem ass:xU Tryz.prog 173 cE Ik:=λ w=>⟨by kernel_rfl,λ enc base held fuel cs x h=>by
 obtain ⟨hl,n,hp⟩:=lX Tryz.underlying173 h
 obtain ⟨y0,h0⟩:=hp 0 _ rfl
 obtain ⟨y1,h1⟩:=hp 1 _ rfl
 obtain ⟨y2,h2⟩:=hp 2 _ rfl
 obtain ⟨y3,h3⟩:=hp 3 _ rfl
 obtain ⟨y4,h4⟩:=hp 4 _ rfl
 obtain ⟨y5,h5⟩:=hp 5 _ rfl
 obtain ⟨y6,h6⟩:=hp 6 _ rfl
 obtain ⟨y7,h7⟩:=hp 7 _ rfl
 obtain ⟨y8,h8⟩:=hp 8 _ rfl
 obtain ⟨s0,e0,a0,d0,k0⟩:=(Ju w).rd enc base held n _ _ h0
 obtain ⟨s1,e1,a1,d1,k1⟩:=(rd9 w).rd enc base held n _ _ h1
 obtain ⟨s2,e2,a2,d2,k2⟩:=(rd9 w).rd enc base held n _ _ h2
 obtain ⟨s3,e3,a3,d3,k3⟩:=(alk w).rd enc base held n _ _ h3
 obtain ⟨s4,e4,a4,d4,k4⟩:=(alk w).rd enc base held n _ _ h4
 obtain ⟨s5,e5,a5,d5,k5⟩:=(Ju w).rd enc base held n _ _ h5
 obtain ⟨s6,e6,a6,d6,k6⟩:=(Ju w).rd enc base held n _ _ h6
 obtain ⟨s7,e7,a7,d7,k7⟩:=(Ju w).rd enc base held n _ _ h7
 obtain ⟨s8,e8,a8,d8,k8⟩:=(Ju w).rd enc base held n _ _ h8
 obtain rfl:s0=a0:=d0
 obtain rfl:s1=a1:=d1
 obtain rfl:s2=a2:=d2
 obtain rfl:s5=a5:=d5
 obtain rfl:s6=a6:=d6
 obtain rfl:s7=a7:=d7
 obtain rfl:s8=a8:=d8
 have p0:=dR (s:=1) e0
 have p1:=dR (s:=1) e1
 have p2:=dR (s:=1) e2
 have p3:=dR (s:=1) e3
 have p4:=dR (s:=1) e4
 have p5:=dR (s:=1) e5
 have p6:=dR (s:=1) e6
 have p7:=dR (s:=1) e7
 have p8:=dR (s:=1) e8
 have hz:cs.drop 9=[]:=List.drop_eq_nil_iff.2 (by rw [hl]; exact Nat.le_of_eq (by kernel_rfl))
 refine ⟨(⟨s0,s1,s2,s3,s4,s5,s6,s7,s8⟩:bX),?_,(⟨s0,s1,s2,a3,a4,s5,s6,s7,s8⟩:cE),⟨s3,s4,rfl,d3,d4⟩,k0,k1,k2,k3,k4,k5,k6,k7,k8⟩
 have e:cs=cs.drop 0:=rfl
 rw [e]
 refine p0.trans ?_
 refine ((congrArg _ p1)).trans ?_
 refine ((congrArg _ (congrArg _ p2))).trans ?_
 refine ((congrArg _ (congrArg _ (congrArg _ p3)))).trans ?_
 refine ((congrArg _ (congrArg _ (congrArg _ (congrArg _ p4))))).trans ?_
 refine ((congrArg _ (congrArg _ (congrArg _ (congrArg _ (congrArg _ p5)))))).trans ?_
 refine ((congrArg _ (congrArg _ (congrArg _ (congrArg _ (congrArg _ (congrArg _ p6))))))).trans ?_
 refine ((congrArg _ (congrArg _ (congrArg _ (congrArg _ (congrArg _ (congrArg _ (congrArg _ p7)))))))).trans ?_
 refine ((congrArg _ (congrArg _ (congrArg _ (congrArg _ (congrArg _ (congrArg _ (congrArg _ (congrArg _ p8))))))))).trans ?_
 exact (congrArg _ (congrArg _ (congrArg _ (congrArg _ (congrArg _ (congrArg _ (congrArg _ (congrArg _ (congrArg _ hz)))))))))⟩
theorem azw:xU Tryz.prog 96 (List cE) (λ ys:(List cE)=>∀ y∈ys,Ik y):=xU.slice Tryz.underlying96 (by kernel_rfl) ass
theorem azx:xU Tryz.prog 98 dQ xa:=λ w=>⟨by kernel_rfl,λ enc base held fuel cs x h=>by
 obtain ⟨hl,n,hp⟩:=lX Tryz.underlying98 h
 obtain ⟨y0,h0⟩:=hp 0 _ rfl
 obtain ⟨y1,h1⟩:=hp 1 _ rfl
 obtain ⟨y2,h2⟩:=hp 2 _ rfl
 obtain ⟨y3,h3⟩:=hp 3 _ rfl
 obtain ⟨s0,e0,a0,d0,k0⟩:=(rd9 w).rd enc base held n _ _ h0
 obtain ⟨s1,e1,a1,d1,k1⟩:=(azv w).rd enc base held n _ _ h1
 obtain ⟨s2,e2,a2,d2,k2⟩:=(azw w).rd enc base held n _ _ h2
 obtain ⟨s3,e3,a3,d3,k3⟩:=(Ju w).rd enc base held n _ _ h3
 obtain rfl:s0=a0:=d0
 obtain rfl:s3=a3:=d3
 have p0:=dR (s:=1) e0
 have p1:=dR (s:=1) e1
 have p2:=dR (s:=1) e2
 have p3:=dR (s:=1) e3
 have hz:cs.drop 4=[]:=List.drop_eq_nil_iff.2 (by rw [hl]; exact Nat.le_of_eq (by kernel_rfl))
 refine ⟨(⟨s0,s1,s2,s3⟩:eg),?_,(⟨s0,a1,a2,s3⟩:dQ),⟨s1,s2,rfl,d1,d2⟩,k0,k1,k2,k3⟩
 have e:cs=cs.drop 0:=rfl
 rw [e]
 refine p0.trans ?_
 refine ((congrArg _ p1)).trans ?_
 refine ((congrArg _ (congrArg _ p2))).trans ?_
 refine ((congrArg _ (congrArg _ (congrArg _ p3)))).trans ?_
 exact (congrArg _ (congrArg _ (congrArg _ (congrArg _ hz))))⟩
theorem ast:xU Tryz.prog 24 (List dQ) (λ ys:(List dQ)=>∀ y∈ys,xa y):=xU.slice Tryz.underlying24 (by kernel_rfl) azx
theorem azy:xU Tryz.prog 89 ju DG:=λ w=>⟨by kernel_rfl,λ enc base held fuel cs x h=>by
 obtain ⟨hl,n,hp⟩:=lX Tryz.underlying89 h
 obtain ⟨y0,h0⟩:=hp 0 _ rfl
 obtain ⟨y1,h1⟩:=hp 1 _ rfl
 obtain ⟨s0,e0,a0,d0,k0⟩:=(alk w).rd enc base held n _ _ h0
 obtain ⟨s1,e1,a1,d1,k1⟩:=(Ju w).rd enc base held n _ _ h1
 obtain rfl:s1=a1:=d1
 have p0:=dR (s:=1) e0
 have p1:=dR (s:=1) e1
 have hz:cs.drop 2=[]:=List.drop_eq_nil_iff.2 (by rw [hl]; exact Nat.le_of_eq (by kernel_rfl))
 refine ⟨(⟨s0,s1⟩:lJ),?_,(⟨a0,s1⟩:ju),⟨s0,rfl,d0⟩,k0,k1⟩
 have e:cs=cs.drop 0:=rfl
 rw [e]
 refine p0.trans ?_
 refine ((congrArg _ p1)).trans ?_
 exact (congrArg _ (congrArg _ hz))⟩
theorem azz:xU Tryz.prog 25 (List ju) (λ ys:(List ju)=>∀ y∈ys,DG y):=xU.slice Tryz.underlying25 (by kernel_rfl) azy
theorem rd27:xU Tryz.prog 27 cX abu:=λ w=>⟨by kernel_rfl,λ enc base held fuel cs x h=>by
 obtain ⟨hl,n,hp⟩:=lX Tryz.underlying27 h
 obtain ⟨y0,h0⟩:=hp 0 _ rfl
 obtain ⟨y1,h1⟩:=hp 1 _ rfl
 obtain ⟨y2,h2⟩:=hp 2 _ rfl
 obtain ⟨y3,h3⟩:=hp 3 _ rfl
 obtain ⟨y4,h4⟩:=hp 4 _ rfl
 obtain ⟨y5,h5⟩:=hp 5 _ rfl
 obtain ⟨s0,e0,a0,d0,k0⟩:=(azu w).rd enc base held n _ _ h0
 obtain ⟨s1,e1,a1,d1,k1⟩:=(alj w).rd enc base held n _ _ h1
 obtain ⟨s2,e2,a2,d2,k2⟩:=(alj w).rd enc base held n _ _ h2
 obtain ⟨s3,e3,a3,d3,k3⟩:=(ast w).rd enc base held n _ _ h3
 obtain ⟨s4,e4,a4,d4,k4⟩:=(ast w).rd enc base held n _ _ h4
 obtain ⟨s5,e5,a5,d5,k5⟩:=(azz w).rd enc base held n _ _ h5
 have p0:=dR (s:=1) e0
 have p1:=dR (s:=1) e1
 have p2:=dR (s:=1) e2
 have p3:=dR (s:=1) e3
 have p4:=dR (s:=1) e4
 have p5:=dR (s:=1) e5
 have hz:cs.drop 6=[]:=List.drop_eq_nil_iff.2 (by rw [hl]; exact Nat.le_of_eq (by kernel_rfl))
 refine ⟨(⟨s0,s1,s2,s3,s4,s5⟩:bN),?_,(⟨a0,a1,a2,a3,a4,a5⟩:cX),⟨s0,s1,s2,s3,s4,s5,rfl,d0,d1,d2,d3,d4,d5⟩,k0,k1,k2,k3,k4,k5⟩
 have e:cs=cs.drop 0:=rfl
 rw [e]
 refine p0.trans ?_
 refine ((congrArg _ p1)).trans ?_
 refine ((congrArg _ (congrArg _ p2))).trans ?_
 refine ((congrArg _ (congrArg _ (congrArg _ p3)))).trans ?_
 refine ((congrArg _ (congrArg _ (congrArg _ (congrArg _ p4))))).trans ?_
 refine ((congrArg _ (congrArg _ (congrArg _ (congrArg _ (congrArg _ p5)))))).trans ?_
 exact (congrArg _ (congrArg _ (congrArg _ (congrArg _ (congrArg _ (congrArg _ hz))))))⟩
theorem azA:xU Tryz.prog 28 (List Int) (λ ys:(List Int)=>∀ y∈ys,my y):=xU.slice Tryz.underlying28 (by kernel_rfl) Ju
theorem rd52:xU Tryz.prog 52 ei PR:=λ w=>⟨by kernel_rfl,λ enc base held fuel cs x h=>by
 obtain ⟨hl,n,hp⟩:=lX Tryz.underlying52 h
 obtain ⟨y0,h0⟩:=hp 0 _ rfl
 obtain ⟨y1,h1⟩:=hp 1 _ rfl
 obtain ⟨y2,h2⟩:=hp 2 _ rfl
 obtain ⟨y3,h3⟩:=hp 3 _ rfl
 obtain ⟨s0,e0,a0,d0,k0⟩:=(Ju w).rd enc base held n _ _ h0
 obtain ⟨s1,e1,a1,d1,k1⟩:=(Ju w).rd enc base held n _ _ h1
 obtain ⟨s2,e2,a2,d2,k2⟩:=(Ju w).rd enc base held n _ _ h2
 obtain ⟨s3,e3,a3,d3,k3⟩:=(azA w).rd enc base held n _ _ h3
 obtain rfl:s0=a0:=d0
 obtain rfl:s1=a1:=d1
 obtain rfl:s2=a2:=d2
 have p0:=dR (s:=1) e0
 have p1:=dR (s:=1) e1
 have p2:=dR (s:=1) e2
 have p3:=dR (s:=1) e3
 have hz:cs.drop 4=[]:=List.drop_eq_nil_iff.2 (by rw [hl]; exact Nat.le_of_eq (by kernel_rfl))
 refine ⟨(⟨s0,s1,s2,s3⟩:dT),?_,(⟨s0,s1,s2,a3⟩:ei),⟨s3,rfl,d3⟩,k0,k1,k2,k3⟩
 have e:cs=cs.drop 0:=rfl
 rw [e]
 refine p0.trans ?_
 refine ((congrArg _ p1)).trans ?_
 refine ((congrArg _ (congrArg _ p2))).trans ?_
 refine ((congrArg _ (congrArg _ (congrArg _ p3)))).trans ?_
 exact (congrArg _ (congrArg _ (congrArg _ (congrArg _ hz))))⟩
theorem rd64:xU Tryz.prog 64 FD ahR:=λ w=>⟨by kernel_rfl,λ enc base held fuel cs x h=>by
 obtain ⟨hl,n,hp⟩:=lX Tryz.underlying64 h
 obtain ⟨y0,h0⟩:=hp 0 _ rfl
 obtain ⟨y1,h1⟩:=hp 1 _ rfl
 obtain ⟨y2,h2⟩:=hp 2 _ rfl
 obtain ⟨s0,e0,a0,d0,k0⟩:=(Ju w).rd enc base held n _ _ h0
 obtain ⟨s1,e1,a1,d1,k1⟩:=(Ju w).rd enc base held n _ _ h1
 obtain ⟨s2,e2,a2,d2,k2⟩:=(rd52 w).rd enc base held n _ _ h2
 obtain rfl:s0=a0:=d0
 obtain rfl:s1=a1:=d1
 have p0:=dR (s:=1) e0
 have p1:=dR (s:=1) e1
 have p2:=dR (s:=4) e2
 have hz:cs.drop 6=[]:=List.drop_eq_nil_iff.2 (by rw [hl]; exact Nat.le_of_eq (by kernel_rfl))
 refine ⟨(⟨s0,s1,s2⟩:zA),?_,(⟨s0,s1,a2⟩:FD),⟨s2,rfl,d2⟩,k0,k1,k2⟩
 have e:cs=cs.drop 0:=rfl
 rw [e]
 refine p0.trans ?_
 refine ((congrArg _ p1)).trans ?_
 refine ((congrArg _ (congrArg _ p2))).trans ?_
 exact (congrArg _ (congrArg _ (congrArg _ hz)))⟩
end Go.Proofs.YtnjcingfdhjfkaaGreat
