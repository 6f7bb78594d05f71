/-
  What the proof needs, part 8.
-/
import Derived.Test.YtnjcingfdhjfkaaGreatVcM7
set_option linter.all false
namespace Go.Proofs.YtnjcingfdhjfkaaGreat
open Go.Fw
def Ts (g:Int→Nat) (ta tb:Nat) (x:cE):Nat:=
 if x.kind=11 then g 12+max (ta+(if 0<x.fE then g 11 else 0)) tb
 else if x.kind=12 then g 13+x.n.toNat * (ta+g 14)
 else if x.kind=13 then g 11 else g (if x.kind=14 then 15 else x.kind)
def qC (g:Int→Nat):Bk→Nat
 | .nil=>0
 | .cons x a b r=>Ts g (qC g a) (qC g b) x+qC g r
def oA (x:cE) (a b r:Bk) (at_:Int):Int:=at_+(bV (.cons x a b r) - bV r)
def W (g:Int→Nat):Bk→Int→Int→List Int→Int→Nat→Nat→Option Nat
 | .nil,at_,_,_,pos,kE,_=>if pos=at_ then some kE else none
 | .cons x a b r,at_,lp,cs,pos,kE,kO=>
  if oA x a b r at_≤pos then W g r (oA x a b r at_) lp cs pos kE kO
  else if pos=at_ then (if x.kind=13 then some (g 11+kO) else some (Ts g (qC g a) (qC g b) x+(qC g r+kE)))
  else if x.kind=11 then (if pos<rn x a at_ then W g a (at_+1) lp cs pos ((if 0<x.fE then g 11 else 0)+(qC g r+kE)) kO else W g b (rn x a at_) lp cs pos (qC g r+kE) kO)
  else if x.kind=12 then (if 1≤cs.getD lp.toNat 0∧cs.getD lp.toNat 0≤8 then W g a (at_+1) (lp+1) cs pos (g 14+((cs.getD lp.toNat 0).toNat - 1) * (qC g a+g 14)+(qC g r+kE)) (qC g r+kE) else none)
  else none
theorem OS (x:cE) (a b r:Bk) (at_:Int):at_+1≤oA x a b r at_:=by
 have h1:=iQ a; have h2:=iQ b
 have e:bV (.cons x a b r)=(if x.kind=12 then 2+bV a else if x.kind=11 then (if 0<x.fE then 1+bV a+bV b+1 else 1+bV a+bV b) else 1)+bV r:=rfl
 unfold oA; rw [e]
 repeat' split
 all_goals omega
section
variable {g:Int→Nat} {lp:Int} {cs:List Int} {kE kO:Nat}
theorem xq (t:Bk) (at_:Int) (h:kO≤kE):∃ r,W g t at_ lp cs at_ kE kO=some r∧r≤qC g t+kE:=by
 cases t with
 | nil=>exact ⟨kE,if_pos rfl,by unfold qC; omega⟩
 | cons x a b r=>
  have h1:=OS x a b r at_
  rw [show qC g (.cons x a b r)=Ts g (qC g a) (qC g b) x+qC g r from rfl]
  unfold W
  rw [if_neg (show ¬ oA x a b r at_≤at_ by omega),if_pos rfl]
  by_cases hk:x.kind=13
  ·rw [if_pos hk]
   have:Ts g (qC g a) (qC g b) x=g 11:=by unfold Ts; rw [if_neg (show ¬ x.kind=11 by omega),if_neg (show ¬ x.kind=12 by omega),if_pos hk]
   exact ⟨_,rfl,by omega⟩
  ·rw [if_neg hk]; exact ⟨_,rfl,by omega⟩
theorem Rk (t:Bk):∀ (at_ pos:Int),pos=at_+bV t→W g t at_ lp cs pos kE kO=some kE:=by
 induction t with
 | nil=>intro at_ pos h; unfold W; rw [if_pos (by have:bV .nil=0:=rfl; omega)]
 | cons x a b r _ _ ih=>
  intro at_ pos h
  have h1:=OS x a b r at_
  have h2:=iQ r
  have e:oA x a b r at_=at_+(bV (.cons x a b r) - bV r):=rfl
  unfold W
  rw [if_pos (by omega)]
  exact ih _ _ (by omega)
theorem OT {x:cE} {a b r:Bk} {at_ pos:Int} (h:oA x a b r at_≤pos):W g (.cons x a b r) at_ lp cs pos kE kO=W g r (oA x a b r at_) lp cs pos kE kO:=by
 conv=>lhs; unfold W
 rw [if_pos h]
theorem ala {x:cE} {a b r:Bk} {at_:Int} (h:kO≤kE):∃ r',W g (.cons x a b r) at_ lp cs (oA x a b r at_) kE kO=some r'∧r'≤qC g r+kE:=by
 rw [OT (Int.le_refl _)]; exact xq r _ h
end
def Tr (x:aW) (pos:Int) (cs:List Int) (pos':Int) (cs':List Int):Prop:=
 (x.kind=11∧pos'=x.to∧cs'=cs)∨(x.kind=12∧(pos'=x.to∨pos'=pos+1)∧cs'=cs)∨(x.kind=13∧pos'=pos+1∧cs'=cs.set x.a.toNat x.b)∨
 (x.kind=14∧cs'=cs.set x.a.toNat (qX (cs.getD x.a.toNat 0 - 1))∧((0<qX (cs.getD x.a.toNat 0 - 1)∧pos'=x.to)∨(¬ 0<qX (cs.getD x.a.toNat 0 - 1)∧pos'=pos+1)))∨
 (¬ x.kind=11∧¬ x.kind=12∧¬ x.kind=13∧¬ x.kind=14∧pos'=pos+1∧cs'=cs)
theorem alb {n:Int} (h:0≤n∧n≤8):qX n=n:=by
 obtain rfl | rfl | rfl | rfl | rfl | rfl | rfl | rfl | rfl:n=0∨n=1∨n=2∨n=3∨n=4∨n=5∨n=6∨n=7∨n=8:=by omega
 all_goals decide
theorem Ca {cs:List Int} {i:Nat} {v:Int} (h:i<cs.length):(cs.set i v).getD i 0=v:=by
 rw [List.getD_eq_getElem?_getD,List.getElem?_set_self h]; rfl
theorem getD_set_ne {cs:List Int} {i j:Nat} {v:Int} (h:i≠j):(cs.set i v).getD j 0=cs.getD j 0:=by
 rw [List.getD_eq_getElem?_getD,List.getElem?_set_ne h,← List.getD_eq_getElem?_getD]
theorem AN {α:Type} {l1 l2:List α} {k:Int} {x:α} (h:(l1++l2)[k.toNat]? = some x) (hk:k.toNat<l1.length):l1[k.toNat]? = some x:=by
 rwa [List.getElem?_append_left hk] at h
theorem uB {α:Type} {l1 l2:List α} {k j:Int} {x:α} (h:(l1++l2)[k.toNat]? = some x) (hk:l1.length≤k.toNat) (hj:j.toNat=k.toNat - l1.length):l2[j.toNat]? = some x:=by
 rw [List.getElem?_append_right hk] at h; rwa [hj]
theorem at_one {α:Type} {y x:α} {k:Int} (h:[y][k.toNat]? = some x):x=y:=by
 cases hk:k.toNat with
 | zero=>rw [hk] at h; simp at h; exact h.symm
 | succ n=>rw [hk] at h; simp at h
structure Mi (g:Int→Nat) (t:Bk) (at_ lp out loops:Int) (cs cs':List Int) (pos':Int) (kE kO r c:Nat):Prop where
 low:∀ j:Nat,(j:Int)<lp→cs'.getD j 0=cs.getD j 0
 len:cs'.length=cs.length
 go:(at_≤pos'∧pos'≤at_+bV t∧∃ r',W g t at_ lp cs' pos' kE kO=some r'∧r'+c≤r)∨(loops≠0∧pos'=out∧kO+c≤r)
section
variable {g:Int→Nat} {p:cU} {rs:List ByteArray}
theorem adP {x:aW} {pos pos':Int} {cs cs':List Int} (h:Tr x pos cs pos' cs') (h1:¬ x.kind=11) (h2:¬ x.kind=12) (h3:¬ x.kind=13) (h4:¬ x.kind=14):pos'=pos+1∧cs'=cs:=by
 rcases h with ⟨q,_⟩ | ⟨q,_⟩ | ⟨q,_⟩ | ⟨q,_⟩ | ⟨_,_,_,_,h⟩
 ·exact absurd q h1
 ·exact absurd q h2
 ·exact absurd q h3
 ·exact absurd q h4
 ·exact h
theorem ags {x:aW} {pos pos':Int} {cs cs':List Int} (h:Tr x pos cs pos' cs') (h1:x.kind=11):pos'=x.to∧cs'=cs:=by
 rcases h with ⟨q,h⟩ | ⟨q,_⟩ | ⟨q,_⟩ | ⟨q,_⟩ | ⟨q,_⟩
 ·exact h
 all_goals omega
theorem ar3 {x:aW} {pos pos':Int} {cs cs':List Int} (h:Tr x pos cs pos' cs') (h1:x.kind=12):(pos'=x.to∨pos'=pos+1)∧cs'=cs:=by
 rcases h with ⟨q,_⟩ | ⟨q,h⟩ | ⟨q,_⟩ | ⟨q,_⟩ | ⟨_,q,_⟩
 ·omega
 ·exact h
 all_goals omega
theorem ar4 {x:aW} {pos pos':Int} {cs cs':List Int} (h:Tr x pos cs pos' cs') (h1:x.kind=13):pos'=pos+1∧cs'=cs.set x.a.toNat x.b:=by
 rcases h with ⟨q,_⟩ | ⟨q,_⟩ | ⟨q,h⟩ | ⟨q,_⟩ | ⟨_,_,q,_⟩
 ·omega
 ·omega
 ·exact h
 all_goals omega
theorem ar5 {x:aW} {pos pos':Int} {cs cs':List Int} (h:Tr x pos cs pos' cs') (h1:x.kind=14):cs'=cs.set x.a.toNat (qX (cs.getD x.a.toNat 0 - 1))∧((0<qX (cs.getD x.a.toNat 0 - 1)∧pos'=x.to)∨(¬ 0<qX (cs.getD x.a.toNat 0 - 1)∧pos'=pos+1)):=by
 rcases h with ⟨q,_⟩ | ⟨q,_⟩ | ⟨q,_⟩ | ⟨q,h⟩ | ⟨_,_,_,q,_⟩
 ·omega
 ·omega
 ·omega
 ·exact h
 ·omega
theorem alc (t:Bk):∀ (at_ lp out loops:Int) (cs:List Int) (pos:Int) (kE kO r:Nat) (x:aW) (pos':Int) (cs':List Int),W g t at_ lp cs pos kE kO=some r→at_≤pos→pos<at_+bV t→kO≤kE→kq t→t.str→t.ok loops=true→0≤lp→lp+iR t≤cs.length→
  (eR p rs t at_ lp out)[(pos - at_).toNat]? = some x→Tr x pos cs pos' cs'→Mi g t at_ lp out loops cs cs' pos' kE kO r (g x.kind):=by
 induction t with
 | nil=>intro at_ lp out loops cs pos kE kO r x pos' cs' _ h1 h2; have:bV .nil=0:=rfl; omega
 | cons x a b rr vA xE GG=>
  intro at_ lp out loops cs pos kE kO r y pos' cs' hW hp1 YC hO HD Iv oC LW Tx hy hT
  have hsa:=iQ a; have hsb:=iQ b; have hsr:=iQ rr
  have hda:=sT a; have hdb:=sT b; have hdr:=sT rr
  obtain ⟨R6,hs2,_,_,OQ,XX,XY⟩:=Iv
  unfold Bk.ok at oC
  simp only [Bool.and_eq_true] at oC
  obtain ⟨⟨⟨ho1,O7⟩,XU⟩,ho4⟩:=oC
  unfold Bk.yV at ho1
  rw [decide_eq_true_eq] at ho1
  have lz:bV (.cons x a b rr)=(if x.kind=12 then 2+bV a else if x.kind=11 then (if 0<x.fE then 1+bV a+bV b+1 else 1+bV a+bV b) else 1)+bV rr:=rfl
  have hdp:iR (.cons x a b rr)=max (if x.kind=12 then max (iR a) (iR b)+1 else max (iR a) (iR b)) (iR rr):=rfl
  have Le:=Iy p rs x a b rr at_ lp out
  have hee:oA x a b rr at_=at_+(bV (.cons x a b rr) - bV rr):=rfl
  have hen:=OS x a b rr at_
  rw [uZ] at hy
  have next:∀ Rl:List Int,∀ c:Nat,(∀ j:Nat,(j:Int)<lp→Rl.getD j 0=cs.getD j 0)→Rl.length=cs.length→qC g rr+kE+c≤r→Mi g (.cons x a b rr) at_ lp out loops cs Rl (oA x a b rr at_) kE kO r c:=by
   intro Rl c h1 h2 h3
   obtain ⟨r',h4,h5⟩:=ala (g:=g) (lp:=lp) (cs:=Rl) (kE:=kE) (kO:=kO) (x:=x) (a:=a) (b:=b) (r:=rr) (at_:=at_) hO
   exact ⟨h1,h2,.inl ⟨by omega,by omega,r',h4,by omega⟩⟩
  by_cases hE:oA x a b rr at_≤pos
  ·rw [OT hE] at hW
   have hy2:=uB (j:=pos - oA x a b rr at_) hy (by omega) (by omega)
   have hR:=GG (oA x a b rr at_) lp out loops cs pos kE kO r y pos' cs' hW hE (by omega) hO HD.r XY ho4 LW (by omega) (by rw [hee,← Le]; rw [hee,← Le] at hy2; exact hy2) hT
   refine ⟨hR.low,hR.len,?_⟩
   rcases hR.go with ⟨h1,h2,r',h3,h4⟩ | h1
   ·exact .inl ⟨by omega,by omega,r',by rw [OT h1]; exact h3,h4⟩
   ·exact .inr h1
  ·have Ji:=AN hy (by omega)
   clear hy
   have hWp:∀ (Rl:List Int) (q:Int),¬ oA x a b rr at_≤q→q≠at_→W g (.cons x a b rr) at_ lp Rl q kE kO =
     (if x.kind=11 then (if q<rn x a at_ then W g a (at_+1) lp Rl q ((if 0<x.fE then g 11 else 0)+(qC g rr+kE)) kO else W g b (rn x a at_) lp Rl q (qC g rr+kE) kO)
      else if x.kind=12 then (if 1≤Rl.getD lp.toNat 0∧Rl.getD lp.toNat 0≤8 then W g a (at_+1) (lp+1) Rl q (g 14+((Rl.getD lp.toNat 0).toNat - 1) * (qC g a+g 14)+(qC g rr+kE)) (qC g rr+kE) else none) else none):=by
    intro Rl q h1 h2
    conv=>lhs; unfold W
    rw [if_neg h1,if_neg h2]
   have hWs:pos=at_→W g (.cons x a b rr) at_ lp cs pos kE kO=if x.kind=13 then some (g 11+kO) else some (Ts g (qC g a) (qC g b) x+(qC g rr+kE)):=by
    intro h1
    conv=>lhs; unfold W
    rw [if_neg hE,if_pos h1]
   unfold FT at Ji Le
   have OU:∀ j:Nat,(j:Int)<lp→cs.getD j 0=cs.getD j 0:=λ _ _=>rfl
   by_cases vB:x.kind=11
   ·rw [if_pos vB] at Ji Le
    rw [if_neg (show ¬ x.kind=12 by omega),if_pos vB] at lz
    rw [if_neg (show ¬ x.kind=12 by omega)] at hdp
    have vk:Bk.BS x loops=loops:=by unfold Bk.BS; rw [if_neg (by omega)]
    rw [vk] at O7 XU
    have Mt:=gZ p rs a (at_+1) lp out
    have Qa:=gZ p rs b (rn x a at_) lp out
    have C1:rn x a at_=if 0<x.fE then at_+1+bV a+1 else at_+1+bV a:=rfl
    have hhd:Ts g (qC g a) (qC g b) x=g 12+max (qC g a+(if 0<x.fE then g 11 else 0)) (qC g b):=by unfold Ts; rw [if_pos vB]
    have toB:∀ c:Nat,qC g b+(qC g rr+kE)+c≤r→Mi g (.cons x a b rr) at_ lp out loops cs cs (rn x a at_) kE kO r c:=by
     intro c hc
     by_cases hz:oA x a b rr at_≤rn x a at_
     ·have:rn x a at_=oA x a b rr at_:=by split at lz <;> (first | rw [if_pos (by assumption)] at C1 | rw [if_neg (by assumption)] at C1) <;> omega
      rw [this]; exact next cs c OU rfl (by omega)
     ·obtain ⟨r',h4,h5⟩:=xq (g:=g) (lp:=lp) (cs:=cs) (kE:=qC g rr+kE) (kO:=kO) b (rn x a at_) (by omega)
      have h6:at_+1≤rn x a at_:=by rw [C1]; split <;> omega
      exact ⟨OU,rfl,.inl ⟨by omega,by omega,r',by rw [hWp cs _ hz (by omega),if_pos vB,if_neg (by omega)]; exact h4,by omega⟩⟩
    by_cases X0:pos=at_
    ·rw [hWs X0,if_neg (show ¬ x.kind=13 by omega),hhd] at hW
     obtain rfl:=Option.some.inj hW
     have X1:y=⟨12,0,0,gg rs x.e,[],rn x a at_⟩:=by
      rw [X0,show (at_ - at_).toNat=0 from by omega] at Ji
      simpa using Ji.symm
     subst X1
     obtain ⟨hq,rfl⟩:=ar3 hT rfl
     rcases hq with rfl | rfl
     ·exact toB _ (by show _+g 12≤_; omega)
     ·by_cases hz:oA x a b rr at_≤pos+1
      ·have:pos+1=oA x a b rr at_:=by omega
       rw [this]; exact next _ _ OU rfl (by show _+g 12≤_; omega)
      ·by_cases hz2:pos+1<rn x a at_
       ·obtain ⟨r',h4,h5⟩:=xq (g:=g) (lp:=lp) (cs:=cs') (kE:=(if 0<x.fE then g 11 else 0)+(qC g rr+kE)) (kO:=kO) a (at_+1) (by omega)
        refine ⟨OU,rfl,.inl ⟨by omega,by omega,r',?_,by show _+g 12≤_; omega⟩⟩
        rw [hWp _ _ hz (by omega),if_pos vB,if_pos hz2,X0]; exact h4
       ·exfalso
        split at lz
        ·rename_i he; rw [if_pos he] at C1; omega
        ·rename_i he; rw [if_neg he] at C1
         have Jr:=Fm (b:=b) (by omega)
         subst Jr
         have:bV .nil=0:=rfl
         omega
    ·rw [hWp cs pos hE X0,if_pos vB] at hW
     by_cases hpt:pos<rn x a at_
     ·rw [if_pos hpt] at hW
      by_cases hpe:pos<at_+1+bV a
      ·have hya:(eR p rs a (at_+1) lp out)[(pos - (at_+1)).toNat]? = some y:=by
        have h1:=AN (AN Ji (by simp only [List.length_append,List.length_singleton]; split <;> simp <;> omega)) (by simp only [List.length_append,List.length_singleton]; omega)
        exact uB h1 (by simp only [List.length_singleton]; omega) (by simp only [List.length_singleton]; omega)
       have hR:=vA (at_+1) lp out loops cs pos _ kO r y pos' cs' hW (by omega) hpe (by omega) HD.a OQ O7 LW (by omega) hya hT
       rcases hR.go with ⟨h1,h2,r',h3,h4⟩ | h1
       ·by_cases hz:oA x a b rr at_≤pos'
        ·have e1:pos'=at_+1+bV a:=by split at lz <;> omega
         have e2:pos'=oA x a b rr at_:=by split at lz <;> omega
         rw [Rk a (at_+1) pos' e1] at h3
         obtain rfl:=Option.some.inj h3
         rw [e2]; exact next cs' _ hR.low hR.len (by omega)
        ·refine ⟨hR.low,hR.len,.inl ⟨by omega,by omega,r',?_,h4⟩⟩
         rw [hWp cs' pos' hz (by omega),if_pos vB]
         by_cases hz2:pos'<rn x a at_
         ·rw [if_pos hz2]; exact h3
         ·exfalso
          split at lz
          ·rename_i he; rw [if_pos he] at C1; omega
          ·rename_i he; rw [if_neg he] at C1
           have Jr:=Fm (b:=b) (by omega)
           subst Jr
           have:bV .nil=0:=rfl
           omega
       ·exact ⟨hR.low,hR.len,.inr h1⟩
      ·have ar6:0<x.fE:=by
        by_cases he:0<x.fE
        ·exact he
        ·rw [if_neg he] at C1; omega
       rw [if_pos ar6] at C1 lz hW
       rw [if_pos ar6] at Ji
       have e1:pos=at_+1+bV a:=by omega
       rw [Rk a (at_+1) pos e1] at hW
       obtain rfl:=Option.some.inj hW
       have X1:y=⟨11,0,0,[],[],rn x a at_+bV b⟩:=by
        have h1:=AN Ji (by simp only [List.length_append,List.length_singleton]; omega)
        exact at_one (uB (j:=0) h1 (by simp only [List.length_append,List.length_singleton]; omega) (by simp only [List.length_append,List.length_singleton]; omega))
       subst X1
       obtain ⟨rfl,rfl⟩:=ags hT rfl
       have e2:rn x a at_+bV b=oA x a b rr at_:=by omega
       show Mi g _ at_ lp out loops cs' cs' (rn x a at_+bV b) kE kO _ (g 11)
       rw [e2]; exact next _ _ OU rfl (by omega)
     ·rw [if_neg hpt] at hW
      have hyb:(eR p rs b (rn x a at_) lp out)[(pos - rn x a at_).toNat]? = some y:=by
       refine uB Ji ?_ ?_
       ·simp only [List.length_append,List.length_singleton]; rw [C1] at hpt; split <;> split at hpt <;> simp <;> omega
       ·simp only [List.length_append,List.length_singleton]; rw [C1]; split <;> simp <;> omega
      have hR:=xE (rn x a at_) lp out loops cs pos _ kO r y pos' cs' hW (by omega) (by split at lz <;> (first | rw [if_pos (by assumption)] at C1 | rw [if_neg (by assumption)] at C1) <;> omega) (by omega) HD.b XX XU LW (by omega) hyb hT
      have h6:at_+1≤rn x a at_:=by rw [C1]; split <;> omega
      have h7:rn x a at_+bV b=oA x a b rr at_:=by split at lz <;> (first | rw [if_pos (by assumption)] at C1 | rw [if_neg (by assumption)] at C1) <;> omega
      rcases hR.go with ⟨h1,h2,r',h3,h4⟩ | h1
      ·by_cases hz:oA x a b rr at_≤pos'
       ·rw [Rk b _ pos' (by omega)] at h3
        obtain rfl:=Option.some.inj h3
        rw [show pos'=oA x a b rr at_ from by omega]
        exact next cs' _ hR.low hR.len (by omega)
       ·refine ⟨hR.low,hR.len,.inl ⟨by omega,by omega,r',?_,h4⟩⟩
        rw [hWp cs' pos' hz (by omega),if_pos vB,if_neg (by omega)]; exact h3
      ·exact ⟨hR.low,hR.len,.inr h1⟩
   ·rw [if_neg vB] at Ji Le
    by_cases xF:x.kind=12
    ·rw [if_pos xF] at Ji Le lz hdp
     have vk:Bk.BS x loops=loops+1:=by unfold Bk.BS; rw [if_pos xF]
     rw [vk] at O7
     have Mt:=gZ p rs a (at_+1) (lp+1) (at_+2+bV a)
     have hxn:=HD.x xF
     have hhd:Ts g (qC g a) (qC g b) x=g 13+x.n.toNat * (qC g a+g 14):=by unfold Ts; rw [if_neg vB,if_pos xF]
     by_cases X0:pos=at_
     ·rw [hWs X0,if_neg (show ¬ x.kind=13 by omega),hhd] at hW
      obtain rfl:=Option.some.inj hW
      have X1:y=⟨13,lp,x.n,[],[],0⟩:=by
       rw [X0,show (at_ - at_).toNat=0 from by omega] at Ji
       simpa using Ji.symm
      subst X1
      obtain ⟨rfl,rfl⟩:=ar4 hT rfl
      have hg:(cs.set lp.toNat x.n).getD lp.toNat 0=x.n:=Ca (by omega)
      obtain ⟨r',h4,h5⟩:=xq (g:=g) (lp:=lp+1) (cs:=cs.set lp.toNat x.n) (kE:=g 14+(x.n.toNat - 1) * (qC g a+g 14)+(qC g rr+kE)) (kO:=qC g rr+kE) a (at_+1) (by omega)
      obtain ⟨m,hm⟩:∃ m,x.n.toNat=m+1:=⟨x.n.toNat - 1,by omega⟩
      rw [hm,Nat.add_sub_cancel] at h4 h5
      refine ⟨λ j hj=>getD_set_ne (by show lp.toNat≠j; omega),by simp,.inl ⟨by omega,by omega,r',?_,?_⟩⟩
      ·show W g _ at_ lp (cs.set lp.toNat x.n) (pos+1) kE kO=_
       rw [hWp _ _ (by omega) (by omega),if_neg vB,if_pos xF,hg,if_pos hxn,hm,Nat.add_sub_cancel,X0]; exact h4
      ·show r'+g 13≤_
       rw [hm,Nat.succ_mul]; omega
     ·rw [hWp cs pos hE X0,if_neg vB,if_pos xF] at hW
      split at hW
      ·rename_i hcc
       by_cases hpe:pos<at_+1+bV a
       ·have hya:(eR p rs a (at_+1) (lp+1) (at_+2+bV a))[(pos - (at_+1)).toNat]? = some y:=by
         have h1:=AN Ji (by simp only [List.length_append,List.length_singleton]; omega)
         exact uB h1 (by simp only [List.length_singleton]; omega) (by simp only [List.length_singleton]; omega)
        have hR:=vA (at_+1) (lp+1) (at_+2+bV a) (loops+1) cs pos _ _ r y pos' cs' hW (by omega) hpe (by omega) HD.a OQ O7 (by omega) (by omega) hya hT
        have hce:cs'.getD lp.toNat 0=cs.getD lp.toNat 0:=hR.low lp.toNat (by omega)
        have SX:∀ j:Nat,(j:Int)<lp→cs'.getD j 0=cs.getD j 0:=λ j hj=>hR.low j (by omega)
        rcases hR.go with ⟨h1,h2,r',h3,h4⟩ | ⟨_,h1,h2⟩
        ·refine ⟨SX,hR.len,.inl ⟨by omega,by omega,r',?_,h4⟩⟩
         rw [hWp cs' pos' (by omega) (by omega),if_neg vB,if_pos xF,hce,if_pos hcc]; exact h3
        ·rw [show pos'=oA x a b rr at_ from by omega]
         exact next cs' _ SX hR.len (by omega)
       ·have e1:pos=at_+1+bV a:=by omega
        rw [Rk a (at_+1) pos e1] at hW
        obtain rfl:=Option.some.inj hW
        have X1:y=⟨14,lp,0,[],[],at_+1⟩:=at_one (uB (j:=0) Ji (by simp only [List.length_append,List.length_singleton]; omega) (by simp only [List.length_append,List.length_singleton]; omega))
        subst X1
        obtain ⟨rfl,hq⟩:=ar5 hT rfl
        have hwe:qX (cs.getD lp.toNat 0 - 1)=cs.getD lp.toNat 0 - 1:=alb (by omega)
        have hq:(0<qX (cs.getD lp.toNat 0 - 1)∧pos'=at_+1)∨(¬ 0<qX (cs.getD lp.toNat 0 - 1)∧pos'=pos+1):=hq
        have SX:∀ j:Nat,(j:Int)<lp→(cs.set lp.toNat (qX (cs.getD lp.toNat 0 - 1))).getD j 0=cs.getD j 0:=λ j hj=>getD_set_ne (by omega)
        show Mi g _ at_ lp out loops cs (cs.set lp.toNat (qX (cs.getD lp.toNat 0 - 1))) pos' kE kO _ (g 14)
        rw [hwe] at hq SX ⊢
        rcases hq with ⟨q1,q2⟩ | ⟨q1,q2⟩
        ·have hg:(cs.set lp.toNat (cs.getD lp.toNat 0 - 1)).getD lp.toNat 0=cs.getD lp.toNat 0 - 1:=Ca (by omega)
         obtain ⟨m,hm⟩:∃ m,(cs.getD lp.toNat 0).toNat=m+2:=⟨(cs.getD lp.toNat 0).toNat - 2,by omega⟩
         obtain ⟨r',h4,h5⟩:=xq (g:=g) (lp:=lp+1) (cs:=cs.set lp.toNat (cs.getD lp.toNat 0 - 1)) (kE:=g 14+m * (qC g a+g 14)+(qC g rr+kE)) (kO:=qC g rr+kE) a (at_+1) (by omega)
         refine ⟨SX,by simp,.inl ⟨by omega,by omega,r',?_,?_⟩⟩
         ·rw [hWp _ _ (by omega) (by omega),if_neg vB,if_pos xF,hg,if_pos (by omega),q2,show (cs.getD lp.toNat 0 - 1).toNat - 1=m from by omega]; exact h4
         ·rw [hm,show m+2 - 1=m+1 from by omega,Nat.succ_mul]; omega
        ·rw [show pos'=oA x a b rr at_ from by omega]
         exact next _ _ SX (by simp) (by omega)
      ·cases hW
    ·rw [if_neg xF] at Ji Le
     rw [if_neg xF,if_neg vB] at lz
     have X0:pos=at_:=by omega
     rw [hWs X0] at hW
     by_cases Ju:x.kind=13
     ·rw [if_pos Ju] at Ji hW
      obtain rfl:=Option.some.inj hW
      have X1:=at_one Ji
      subst X1
      obtain ⟨rfl,rfl⟩:=ags hT rfl
      exact ⟨OU,rfl,.inr ⟨by omega,rfl,by show kO+g 11≤_; omega⟩⟩
     ·rw [if_neg Ju] at Ji hW
      obtain rfl:=Option.some.inj hW
      have X1:=at_one Ji
      subst X1
      have ng:(lC p rs x).kind=if x.kind=14 then 15 else x.kind:=rfl
      obtain ⟨rfl,rfl⟩:=adP hT (by rw [ng]; split <;> omega) (by rw [ng]; split <;> omega) (by rw [ng]; split <;> omega) (by rw [ng]; split <;> omega)
      have hhd:Ts g (qC g a) (qC g b) x=g (lC p rs x).kind:=by unfold Ts; rw [if_neg vB,if_neg xF,if_neg Ju,ng]
      rw [show pos+1=oA x a b rr at_ from by omega]
      exact next _ _ OU rfl (by omega)
end
structure Mj (p:cU) (c:fo) (b:Bk) (rs:List ByteArray):Prop where
 l:c.l=eR p rs b 0 0 0
 cn:c.counts=iR b
 rd:kq b
 str:b.str
 ok:b.ok 0=true
structure TW (g:Int→Nat) (p:cU) (b:Bk) (rs:List ByteArray) (t:fM) (r:Nat):Prop where
 code:Mj p t.code b rs
 cl:(t.counts.length:Int)=t.code.counts
 a0:0≤t.at_
 a1:t.at_≤bV b
 w:W g b 0 0 t.counts t.at_ 0 0=some r
section
variable {g:Int→Nat} {p:cU} {b:Bk} {rs:List ByteArray} {t t':fM} {r:Nat}
theorem TW.next {x:aW} (h:TW g p b rs t r) (hn:gS t=some x) (hT:Tr x t.at_ t.counts t'.at_ t'.counts) (hc:t'.code=t.code):∃ r',TW g p b rs t' r'∧r'+g x.kind≤r:=by
 have h1:=(qG hn).2
 have hl:=gZ p rs b 0 0 0
 rw [h.code.l] at h1
 have hx:(eR p rs b 0 0 0)[(t.at_ - 0).toNat]? = some x:=by
  unfold gS at hn
  rw [h.code.l] at hn
  rw [if_neg (by omega)] at hn
  rw [Int.sub_zero]; exact hn
 have hcn:=h.code.cn
 have Qi:=h.cl
 have hR:=alc (g:=g) (p:=p) (rs:=rs) b 0 0 0 0 t.counts t.at_ 0 0 r x t'.at_ t'.counts h.w h.a0 (by omega) (Nat.le_refl _) h.code.rd h.code.str h.code.ok (Int.le_refl _) (by omega) hx hT
 rcases hR.go with ⟨h3,h4,r',h5,h6⟩ | ⟨h3,_⟩
 ·exact ⟨r',⟨by rw [hc]; exact h.code,by rw [hR.len,hc]; exact h.cl,h3,by omega,h5⟩,h6⟩
 ·exact absurd rfl h3
theorem TW.same (h:TW g p b rs t r) (hc:t'.code=t.code) (ha:t'.at_=t.at_) (hk:t'.counts=t.counts):TW g p b rs t' r:=
 ⟨by rw [hc]; exact h.code,by rw [hk,hc]; exact h.cl,by rw [ha]; exact h.a0,by rw [ha]; exact h.a1,by rw [hk,ha]; exact h.w⟩
theorem ald {x:aW} {e:Int} (h:(wD t x e).2=true):Tr x t.at_ t.counts (wD t x e).1.at_ (wD t x e).1.counts:=by
 by_cases h1:x.kind=1
 ·rw [WX h1]; exact .inr (.inr (.inr (.inr ⟨by omega,by omega,by omega,by omega,rfl,rfl⟩)))
 by_cases vB:x.kind=11
 ·rw [N7 vB]; exact .inl ⟨vB,rfl,rfl⟩
 by_cases xF:x.kind=12
 ·by_cases he:e=0
  ·rw [IU xF he]; exact .inr (.inl ⟨xF,.inl rfl,rfl⟩)
  ·rw [IV xF he]; exact .inr (.inl ⟨xF,.inr rfl,rfl⟩)
 by_cases Ju:x.kind=13
 ·rw [N8 Ju]; exact .inr (.inr (.inl ⟨Ju,rfl,rfl⟩))
 by_cases PY:x.kind=14
 ·by_cases he:0<qX (t.counts.getD x.a.toNat 0 - 1)
  ·rw [IW PY he]; exact .inr (.inr (.inr (.inl ⟨PY,rfl,.inl ⟨he,rfl⟩⟩)))
  ·rw [IX PY he]; exact .inr (.inr (.inr (.inl ⟨PY,rfl,.inr ⟨he,rfl⟩⟩)))
 by_cases h15:x.kind=15
 ·by_cases he:e=0
  ·rw [IY h15 he] at h; cases h
  ·rw [IZ h15 he]; exact .inr (.inr (.inr (.inr ⟨vB,xF,Ju,PY,rfl,rfl⟩)))
 ·rw [N9 h1 vB xF Ju PY h15] at h; cases h
theorem X2 {x:aW} {e:Int} (h:(wD t x e).2=false):(wD t x e).1.at_=t.at_∧(wD t x e).1.counts=t.counts∧(wD t x e).1.aK=t.aK:=by
 by_cases h1:x.kind=1
 ·rw [WX h1] at h; cases h
 by_cases vB:x.kind=11
 ·rw [N7 vB] at h; cases h
 by_cases xF:x.kind=12
 ·by_cases he:e=0
  ·rw [IU xF he] at h; cases h
  ·rw [IV xF he] at h; cases h
 by_cases Ju:x.kind=13
 ·rw [N8 Ju] at h; cases h
 by_cases PY:x.kind=14
 ·by_cases he:0<qX (t.counts.getD x.a.toNat 0 - 1)
  ·rw [IW PY he] at h; cases h
  ·rw [IX PY he] at h; cases h
 by_cases h15:x.kind=15
 ·by_cases he:e=0
  ·rw [IY h15 he]; exact ⟨rfl,rfl,rfl⟩
  ·rw [IZ h15 he] at h; cases h
 ·rw [N9 h1 vB xF Ju PY h15]; exact ⟨rfl,rfl,rfl⟩
theorem Hs (h:(fH t).2=true):∃ x,gS t=some x∧Tr x t.at_ t.counts (fH t).1.at_ (fH t).1.counts:=by
 cases hn:gS t with
 | none=>rw [An hn] at h; cases h
 | some x=>
  refine ⟨x,rfl,?_⟩
  cases he:(ey x.e t.aK).2 with
  | false=>rw [Ao hn he] at h; cases h
  | true=>
   cases hf:(ey x.f t.aK).2 with
   | false=>rw [Ap hn he hf] at h; cases h
   | true=>
    rw [ku hn he hf] at h ⊢
    exact ald (t:=tF (tE t x) x) h
theorem Mk (h:(fH t).2=false):(fH t).1.at_=t.at_∧(fH t).1.counts=t.counts:=by
 cases hn:gS t with
 | none=>rw [An hn]; exact ⟨rfl,rfl⟩
 | some x=>
  cases he:(ey x.e t.aK).2 with
  | false=>rw [Ao hn he]; exact ⟨rfl,rfl⟩
  | true=>
   cases hf:(ey x.f t.aK).2 with
   | false=>rw [Ap hn he hf]; exact ⟨rfl,rfl⟩
   | true=>
    rw [ku hn he hf] at h ⊢
    have:=X2 (t:=tF (tE t x) x) h
    exact ⟨this.1,this.2.1⟩
theorem TW.go:∀ {N:Nat} {t t':fM} {r:Nat},TW g p b rs t r→sJ N t=some t'→∃ r',TW g p b rs t' r'∧r'≤r
 | 0,_,_,_,_,h=>by cases h
 | N+1,t,t',r,h0,h=>by
  unfold sJ at h
  split at h
  ·rename_i hs
   obtain ⟨x,hn,hT⟩:=Hs hs
   obtain ⟨r1,h1,h2⟩:=h0.next hn hT (pO t).1
   obtain ⟨r2,h3,h4⟩:=TW.go h1 h
   exact ⟨r2,h3,by omega⟩
  ·rename_i hs
   cases h
   have:=Mk (by simpa using hs)
   exact ⟨r,h0.same (pO t).1 this.1 this.2,Nat.le_refl _⟩
theorem Ml:∀ {n:Nat} {t:fM} {r:Nat},TW (λ _=>1) p b rs t r→r≤n→∃ t',sJ (n+1) t=some t'
 | n,t,r,h0,hr=>by
  cases hs:(fH t).2 with
  | false=>exact ⟨_,by unfold sJ; rw [hs]; rfl⟩
  | true=>
   obtain ⟨x,hn,hT⟩:=Hs hs
   obtain ⟨r1,h1,h2⟩:=h0.next hn hT (pO t).1
   cases n with
   | zero=>exfalso; omega
   | succ n=>
    obtain ⟨t',h3⟩:=Ml (n:=n) h1 (by omega)
    exact ⟨t',by unfold sJ; rw [hs,if_pos rfl]; exact h3⟩
end
def C2 (p:cU) (t:fM):Prop:=∃ b rs,∀ g,∃ r,TW g p b rs t r
section
variable {p:cU} {t t':fM}
theorem C2.next {x:aW} (h:C2 p t) (hn:gS t=some x) (hT:Tr x t.at_ t.counts t'.at_ t'.counts) (hc:t'.code=t.code):C2 p t':=by
 obtain ⟨b,rs,h⟩:=h
 exact ⟨b,rs,λ g=>by obtain ⟨r,h1⟩:=h g; obtain ⟨r',h2,_⟩:=h1.next hn hT hc; exact ⟨r',h2⟩⟩
theorem C2.same (h:C2 p t) (hc:t'.code=t.code) (ha:t'.at_=t.at_) (hk:t'.counts=t.counts):C2 p t':=by
 obtain ⟨b,rs,h⟩:=h
 exact ⟨b,rs,λ g=>by obtain ⟨r,h1⟩:=h g; exact ⟨r,h1.same hc ha hk⟩⟩
theorem C2.go {N:Nat} (h:C2 p t) (hg:sJ N t=some t'):C2 p t':=by
 obtain ⟨b,rs,h⟩:=h
 exact ⟨b,rs,λ g=>by obtain ⟨r,h1⟩:=h g; obtain ⟨r',h2,_⟩:=h1.go hg; exact ⟨r',h2⟩⟩
theorem C2.total (h:C2 p t):∃ N t',sJ N t=some t':=by
 obtain ⟨b,rs,h⟩:=h
 obtain ⟨r,h1⟩:=h λ _=>1
 obtain ⟨t',h2⟩:=Ml h1 (Nat.le_refl r)
 exact ⟨_,t',h2⟩
end
theorem C3 {p:cU} {c:fo} {b:Bk} {rs:List ByteArray} (h:Mj p c b rs) (hc:0≤c.counts) (g:Int→Nat):∃ r,TW g p b rs (qa c) r∧r≤qC g b:=by
 obtain ⟨r,h1,h2⟩:=xq (g:=g) (lp:=0) (cs:=List.replicate c.counts.toNat 0) (kE:=0) (kO:=0) b 0 (Nat.le_refl _)
 have:=iQ b
 exact ⟨r,⟨h,by show ((List.replicate c.counts.toNat (0:Int)).length:Int)=c.counts; rw [List.length_replicate]; omega,Int.le_refl _,this.1,h1⟩,by omega⟩
theorem Jj {p:cU} (h:Bm p) {t:dR} (ht:t∈iG p):∃ b,Mj p (l9 p t) b t.aK∧oP t.body=some b∧kq b:=by
 obtain ⟨b,h1,h2,h3,_,h5,_,_,h8,_⟩:=h.tree ht
 rw [Ez h8]
 exact ⟨b,⟨rfl,rfl,h5,h2,h3⟩,h8,h5⟩
theorem ar7 {p:cU} (h:Bm p):∃ b rs,Mj p (eC p).recover b rs:=by
 show ∃ b rs,Mj p (match p.recover[0]? with | some t=>l9 p t | none=>⟨0,0,[]⟩) b rs
 cases hr:p.recover[0]? with
 | none=>exact ⟨.nil,[],⟨rfl,rfl,λ x hx=>(by cases hx),trivial,rfl⟩⟩
 | some t=>
  obtain ⟨b,hb,_⟩:=Jj h (List.mem_append_right p.threads (List.mem_of_getElem? hr))
  exact ⟨b,_,hb⟩
structure PM (p:cU) (m:gL):Prop where
 chk:Bm p
 u:m.u=eC p
 gm:GM m
 tw:∀ t∈m.l,C2 p t
section
variable {p:cU} {m m2:gL}
theorem SY (h:Bm p):∃ N t,sJ N (qa (eC p).recover)=some t∧C2 p t:=by
 obtain ⟨b,rs,hb⟩:=ar7 h
 have hru:=rL (sI h).1
 have h0:C2 p (qa (eC p).recover):=⟨b,rs,λ g=>by obtain ⟨r,h1,_⟩:=C3 hb hru.rc.cb.1 g; exact ⟨r,h1⟩⟩
 obtain ⟨N,t,ht⟩:=h0.total
 exact ⟨N,t,ht,h0.go ht⟩
theorem Mm (h:Bm p):∃ N nf,rF N (eC p).threads nf∧∀ t∈nf,C2 p t:=by
 have hru:=rL (sI h).1
 have key:∀ cs:List fo,(∀ c∈cs,c∈(eC p).threads)→∃ N nf,rF N cs nf∧∀ t∈nf,C2 p t:=by
  intro cs
  induction cs with
  | nil=>intro _; exact ⟨0,[],⟨rfl,λ j c t h=>by simp at h⟩,λ t ht=>by cases ht⟩
  | cons c cs ih=>
   intro Yj
   obtain ⟨N,nf,h1,h2⟩:=ih λ c hc=>Yj c (List.mem_cons_of_mem _ hc)
   have Mw:=Yj c (List.mem_cons_self ..)
   obtain ⟨t,ht,rfl⟩:=List.mem_map.1 (show c∈p.threads.map (l9 p) from Mw)
   obtain ⟨b,hb,_⟩:=Jj h (List.mem_append_left p.recover ht)
   have h0:C2 p (qa (l9 p t)):=⟨b,t.aK,λ g=>by obtain ⟨r,h1,_⟩:=C3 hb (hru.th _ Mw).cb.1 g; exact ⟨r,h1⟩⟩
   obtain ⟨M,t',XT⟩:=h0.total
   refine ⟨N+M,t'::nf,⟨by rw [List.length_cons,List.length_cons,h1.1],λ j c2 t2 YI ht2=>?_⟩,λ t2 ht2=>?_⟩
   ·cases j with
    | zero=>
     rw [List.getElem?_cons_zero] at YI ht2
     cases YI; cases ht2
     rw [Nat.add_comm]; exact Fi XT
    | succ j=>
     rw [List.getElem?_cons_succ] at YI ht2
     exact Fi (h1.2 j c2 t2 YI ht2)
   ·rcases List.mem_cons.1 ht2 with rfl | ht2
    ·exact h0.go XT
    ·exact h2 t2 ht2
 exact key _ λ c hc=>hc
theorem Fo {t:fM} {i:Int} {x:aW}:(dY m t i x).2.1.counts=t.counts:=by
 unfold dY loadT casT vu
 repeat' split
 all_goals rfl
theorem Rm {t:fM} {i:Int} {x:aW} (h:C2 p t) (hn:gS t=some x) (hk:2≤x.kind∧x.kind≤10):C2 p { (dY m t i x).2.1 with at_:=(dY m t i x).2.1.at_+1}:=
 h.next hn (.inr (.inr (.inr (.inr ⟨by omega,by omega,by omega,by omega,by show (dY m t i x).2.1.at_+1=_; rw [CM],Fo⟩)))) qI
theorem Jk {α:Type} {φ:α→Prop} {l:List α} {i:Nat} {x:α} (h:∀ y∈l,φ y) (hx:φ x):∀ y∈l.set i x,φ y:=λ y hy=>by
 rcases List.mem_or_eq_of_mem_set hy with h1 | h1
 ·exact h y h1
 ·rw [h1]; exact hx
theorem PM.do {N:Nat} {q:ep} {ev:cY} {e:Int} (h:PM p m) (hd:CO N m q=some (m2,ev,e)):PM p m2:=by
 refine ⟨h.chk,(Fj hd).2.1.trans h.u,h.gm.do hd,?_⟩
 cases hc:iT m q with
 | some pX=>
  obtain ⟨t,hg,hm,_⟩:=uu hd hc
  rw [hm]
  intro t' XT
  obtain rfl:t'=t:=by simpa using (show t'∈[t] from XT)
  rw [h.u] at hg
  obtain ⟨b,rs,hb⟩:=ar7 h.chk
  have hru:=rL (sI h.chk).1
  have h0:C2 p (qa (eC p).recover):=⟨b,rs,λ g=>by obtain ⟨r,h1,_⟩:=C3 hb hru.rc.cb.1 g; exact ⟨r,h1⟩⟩
  exact h0.go hg
 | none=>
  by_cases ha:(dU m).any (jM q)=true
  ·by_cases hk:q.kind=2
   ·obtain ⟨_,t,ht⟩:=tm ha
    rw [(qB hd hc ha hk ht).1]
    exact Jk h.tw ((h.tw t (List.mem_of_getElem? ht)).same rfl rfl rfl)
   ·have hs:=(ow hd hc ha hk).1
    cases ht:m.l[q.t.toNat]? with
    | none=>unfold mF at hs; rw [ht] at hs; cases hs
    | some t=>
     have Cn:=List.mem_of_getElem? ht
     by_cases hf:t.fault≠0
     ·rw [(Au hs ht hf).1]; exact h.tw
     ·obtain ⟨x,hn⟩:=Av hs ht hf
      have ng:=(h.gm.th t Cn).2.1 x hn (by omega)
      by_cases h0:(dY m t q.t x).1.fault=0
      ·obtain ⟨t2,hg,Ms,_⟩:=Aw hs ht hf hn h0
       rw [Ms]
       show ∀ t'∈(dY m t q.t x).1.l.set _ _,_
       rw [I0]
       exact Jk h.tw ((Rm (h.tw t Cn) hn ng).go hg)
      ·rw [(Ax hs ht hf hn h0).1]
       show ∀ t'∈(dY m t q.t x).1.l.set _ _,_
       rw [I0]
       exact Jk h.tw ((h.tw t Cn).same qI CM Fo)
  ·rw [(qA hd hc ha).1]; exact h.tw
theorem X3 {q:ep} (h:(dU m).any (jM q)=true) (hk:¬ q.kind=2):q.kind=1∧∃ t,m.l[q.t.toNat]? = some t∧Cm m t=true:=by
 rw [List.any_eq_true] at h
 obtain ⟨x,hx,hs⟩:=h
 unfold jM at hs
 simp only [Bool.and_eq_true,decide_eq_true_eq] at hs
 unfold dU at hx
 split at hx
 ·cases hx
 ·obtain ⟨i,t,_,ht,AS⟩:=wH hx
  have h1:=LN AS
  unfold ti at AS
  rw [List.mem_append] at AS
  rcases AS with AS | AS
  ·split at AS
   ·rename_i hc
    simp at AS
    subst AS
    refine ⟨hs.1.1.1.symm,t,?_,hc⟩
    have e:q.t=(i:Int):=hs.1.1.2.symm
    rw [e]; exact ht
   ·cases AS
  ·rw [List.mem_map] at AS
   obtain ⟨k,_,rfl⟩:=AS
   exact absurd hs.1.1.1.symm hk
theorem Mn (h:PM p m) (q:ep):∃ N m2 ev e,CO N m q=some (m2,ev,e)∧PM p m2:=by
 have key:∃ N m2 ev e,CO N m q=some (m2,ev,e):=by
  cases hc:iT m q with
  | some pX=>
   obtain ⟨N,t,ht,_⟩:=SY h.chk
   exact ⟨N,mL (yM m pX) [t],⟨15,0,0,As q.cut q.cut.length,0⟩,0,by unfold CO; rw [hc]; dsimp only; rw [h.u,ht]; rfl⟩
  | none=>
   by_cases ha:(dU m).any (jM q)=true
   ·by_cases hk:q.kind=2
    ·obtain ⟨_,t,ht⟩:=tm ha
     refine ⟨0,mv m t q,pM q.t (eh t.buf q.i),0,?_⟩
     unfold CO; rw [hc]; dsimp only; rw [if_pos ha,if_pos hk,ht]; rfl
    ·obtain ⟨Tg,t,ht,alg⟩:=X3 ha hk
     have Cn:=List.mem_of_getElem? ht
     have gk:∃ N r,mF N m q.t=some r:=by
      by_cases hf:t.fault≠0
      ·exact ⟨0,_,by unfold mF; rw [ht]; dsimp only; rw [if_pos hf]⟩
      ·cases hn:gS t with
       | none=>unfold Cm at alg; rw [hn] at alg; cases alg
       | some x=>
        by_cases h0:(dY m t q.t x).1.fault=0
        ·have ng:=(h.gm.th t Cn).2.1 x hn (by omega)
         obtain ⟨N,t2,hg⟩:=(Rm (m:=m) (i:=q.t) (h.tw t Cn) hn ng).total
         exact ⟨N,_,by unfold mF; rw [ht]; dsimp only; rw [if_neg hf,hn]; dsimp only; rw [if_pos h0,hg]; rfl⟩
        ·exact ⟨0,_,by unfold mF; rw [ht]; dsimp only; rw [if_neg hf,hn]; dsimp only; rw [if_neg h0]⟩
     obtain ⟨N,r,hr⟩:=gk
     exact ⟨N,r.1,r.2,0,by unfold CO; rw [hc]; dsimp only; rw [if_pos ha,if_neg hk,hr]; rfl⟩
   ·exact ⟨0,m,⟨0,0,0,0,0⟩,13,by unfold CO; rw [hc]; dsimp only; rw [if_neg ha]⟩
 obtain ⟨N,m2,ev,e,hd⟩:=key
 exact ⟨N,m2,ev,e,hd,h.do hd⟩
theorem PM.new {N:Nat} {room:Int} {nf:List fM} (h:Bm p) (hb:rF N (eC p).threads nf) (ht:∀ t∈nf,C2 p t) (hr:1≤room∧room≤16):PM p (mL (mw (eC p) room) nf):=
 ⟨h,rfl,GM.new (rL (sI h).1) (sI h).2 hb hr,ht⟩
end
def Mo:ep:=⟨0,0,0,[]⟩
def my (a:FJ) (l c:List ep) (er:Int):ep:=
 if a.kind=2 then {a.p with cut:=a.p.cut.take 22}
 else if a.kind=1∧er<2∧0<(c.length:Int) then c.getD (yo a.n 65535 % (c.length:Int)).toNat Mo
 else if 0<(l.length:Int) then l.getD (yo a.n 65535 % (l.length:Int)).toNat Mo else Mo
def alh (av:vZ) (a:FJ) (tl:List dJ) (l:List ep) (tc:List dJ) (c:List ep) (er:Int) (sh:dJ):Prop:=
 (a.kind=2∧my a l c er={a.p with cut:=a.p.cut.take 22}∧∃ gc:SV,sh=⟨a.p.kind,a.p.t,a.p.i,gc⟩∧∀ w2,eF (λ _=>True) w2 (Flat.val av.p.cut) a.p.cut→eF (λ _=>True) w2 (Flat.val gc) (a.p.cut.take 22))∨
 (∃ j:Nat,tl[j]? = some sh∧l[j]? = some (my a l c er))∨(∃ j:Nat,tc[j]? = some sh∧c[j]? = some (my a l c er))∨(sh=⟨0,0,0,⟨none,0,0⟩⟩∧my a l c er=Mo)
theorem C4 {x y:ep}:x=y↔x.kind=y.kind∧x.t=y.t∧x.i=y.i∧x.cut=y.cut:=by
 cases x; cases y; simp
theorem AO {α:Type} {xs ys:List α} {k:Nat} {x y:α} (h:xs.take k=ys.take k) (hx:xs[k]? = some x) (hy:ys[k]? = some y) (e:x=y):xs.take (k+1)=ys.take (k+1):=by
 rw [← gX hx,← gX hy,h,e]
theorem agu {α:Type} {xs ys:List α} {k:Nat} {x y:α} (hx:xs[k]? = some x) (hy:ys[k]? = some y) (e:x≠y):xs≠ys:=λ h=>by
 rw [h,hy] at hx; exact e (Option.some.inj hx).symm
theorem getD_some {α:Type} {xs:List α} {k:Nat} {x d:α} (h:xs[k]? = some x):xs.getD k d=x:=by rw [List.getD_eq_getElem?_getD,h]; rfl
theorem St.kC {w0 w w':World} {A:Nat→Prop} {L:List HP} {Φ:World→Prop} (hs:St w0 A (Fw.eS Φ::L) w) (e:Ext w w'):Φ w':=by
 obtain ⟨F,h,_⟩:=hs.head
 exact h.1 w' λ b hb=>e.cD b (h.2 b hb) λ x=>x
theorem C50 (av bv:Value) (xs ys:List Bool) (w:World) (hA:eF (λ _=>True) w av xs) (hB:eF (λ _=>True) w bv ys) (hn:xs.length≤1073741824):CR 50 [av,bv] w (λ v w'=>v = .bool (decide (xs=ys))∧Ext w w'):=by
 have hs:=St.start w;refine ahd _ _ _ _ ?_;unfold S50;refine aJ xR (hA.ext hs.aF) (aJ xR (hB.ext hs.aF) (cS (aC (λ fO=>?_) (λ fO=>?_))))
 ·exact ⟨vb (decide_eq_false (λ h=>by rw [h] at fO; exact absurd rfl fO)).symm,hs.aF⟩
 ·refine ⟨λ mm i w'=>∃ k:Nat,i = .int .i64 (k:Int)∧mm=xs.length - k∧k≤xs.length∧xs.take k=ys.take k∧St w bD [] w',⟨_,0,rfl,rfl,Nat.zero_le _,rfl,hs⟩,?_⟩;rintro mm _ w1 ⟨k,rfl,rfl,hk,heq,hs⟩ fB;refine aJ xR (hA.ext hs.aF) (aR (aC (λ gQ=>?_) (λ gQ=>?_)))
  ·obtain ⟨iX,fG⟩:=gx (xs) (i:=((k:Int)).toNat) (by omega);refine aQ xR hA (by omega) fG (λ _ jI=>have hs:=hs.drew;aD Ti (jI.ext hs.aF) ?_);obtain ⟨q8,ko⟩:=gx (ys) (i:=((k:Int)).toNat) (by omega);refine aQ xR hB (by omega) ko (λ _ pH=>aD Ti (pH.ext hs.aF) (pn J7 (aX (λ fP=>?_) (λ fP=>?_))))
   ·exact ⟨vb (decide_eq_false (agu fG ko (by simpa using fP))).symm,hs.aF⟩
   ·refine aO (by omega) ?_;exact ⟨_,by omega,k+1,rfl,rfl,by omega,AO heq fG ko (by simpa using fP),hs⟩
  ·exact ⟨vb (decide_eq_true (by rw [List.take_of_length_le (by omega),List.take_of_length_le (by omega)] at heq; exact heq)).symm,hs.aF⟩
theorem C20 (av bv:Value) (xs ys:List ep) (w:World) (hA:DL w av xs) (hB:DL w bv ys) (hn:xs.length≤1073741824) (hc:∀ x∈xs,x.cut.length≤1000000):CR 20 [av,bv] w (λ v w'=>v = .bool (decide (xs=ys))∧Ext w w'):=by
 have hs:=St.start w;refine agQ _ _ _ _ ?_;unfold S20;obtain ⟨ar8,Ht,agv⟩:=(hA).open;have ar9:=agv.1;refine aJ nP (Ht.ext hs.aF) ?_;obtain ⟨asa,Mp,agw⟩:=(hB).open;have hn133:=agw.1;refine aJ nP (Mp.ext hs.aF) (cS (aC (λ fO=>?_) (λ fO=>?_)))
 ·exact ⟨vb (decide_eq_false (λ h=>by rw [h] at ar9; omega)).symm,hs.aF⟩
 ·refine ⟨λ mm i w'=>∃ k:Nat,i = .int .i64 (k:Int)∧mm=xs.length - k∧k≤xs.length∧xs.take k=ys.take k∧St w bD [] w',⟨_,0,rfl,rfl,Nat.zero_le _,rfl,hs⟩,?_⟩;rintro mm _ w1 ⟨k,rfl,rfl,hk,heq,hs⟩ fB;refine aJ nP (Ht.ext hs.aF) (aR (aC (λ gQ=>?_) (λ gQ=>?_)))
  ·obtain ⟨ra,ali⟩:∃ xx,xs[k]? = some xx:=⟨_,List.getElem?_eq_getElem (by omega)⟩;obtain ⟨rb,alj⟩:∃ xx,ys[k]? = some xx:=⟨_,List.getElem?_eq_getElem (by omega)⟩;refine ⟨λ jv w'=>jv = .bool (!decide (ra=rb))∧St w bD [] w',?_,?_⟩
   ·obtain ⟨iX,fG⟩:=gx ar8 (i:=((k:Int)).toNat) (by omega);obtain ⟨dI,oc⟩:=gx (xs) (i:=((k:Int)).toNat) (by omega);obtain ⟨SZ,rfl,S0⟩:=agv.2 _ _ _ fG oc;refine aQ nP Ht (by omega) fG (λ _ jI=>bT (dI).kind pa jI rfl rfl (λ _ Li=>have hs:=hs.drew;aD bL (Li.ext hs.aF) ?_));obtain ⟨gR,im⟩:=gx asa (i:=((k:Int)).toNat) (by omega);obtain ⟨BZ,wy⟩:=gx (ys) (i:=((k:Int)).toNat) (by omega);obtain ⟨S1,rfl,S2⟩:=agw.2 _ _ _ im wy;refine aQ nP Mp (by omega) im (λ _ v9=>bT (BZ).kind pa v9 rfl rfl (λ _ ud=>aD bL (ud.ext hs.aF) ?_))
    have hra:ra=dI:=Option.some.inj (ali.symm.trans oc);have Ys:rb=BZ:=Option.some.inj (alj.symm.trans wy);have hcx:=hc _ (List.mem_of_getElem? oc);refine cS (aC (λ gh=>?_) (λ gh=>?_))
    ·exact ⟨vb (by rw [hra,Ys]; rw [decide_eq_false (λ h=>by rw [C4] at h; omega)]; rfl),hs⟩
    ·refine aQ nP Ht (by omega) fG (λ _ oD=>bT (dI).t jC oD rfl rfl (λ _ zX=>aD bL (zX.ext hs.aF) (aQ nP Mp (by omega) im (λ _ tW=>bT (BZ).t jC tW rfl rfl (λ _ zS=>aD bL (zS.ext hs.aF) (cS (aC (λ si=>?_) (λ si=>?_))))))))
     ·exact ⟨vb (by rw [hra,Ys]; rw [decide_eq_false (λ h=>by rw [C4] at h; omega)]; rfl),hs⟩
     ·refine aQ nP Ht (by omega) fG (λ _ AD=>bT (dI).i wW AD rfl rfl (λ _ KQ=>aD bL (KQ.ext hs.aF) (aQ nP Mp (by omega) im (λ _ Em=>bT (BZ).i wW Em rfl rfl (λ _ Vf=>aD bL (Vf.ext hs.aF) (cS (aC (λ so=>?_) (λ so=>?_))))))))
      ·exact ⟨vb (by rw [hra,Ys]; rw [decide_eq_false (λ h=>by rw [C4] at h; omega)]; rfl),hs⟩
      ·refine aQ nP Ht (by omega) fG (λ _ wo=>bT SZ rW wo rfl rfl (λ _ zZ=>aD et (zZ.ext hs.aF) ?_));have asb:=DL.flat (S0);refine aQ nP Mp (by omega) im (λ _ Lk=>bT S1 rW Lk rfl rfl (λ _ KS=>aD et (KS.ext hs.aF) ?_));have asc:=DL.flat (S2);refine aZ Ry hs (C21 _ _ (dI).cut (BZ).cut _ (asb.ext hs.aF) (asc.ext hs.aF) (by omega)) (λ w2 he hs=>bZ ?_);exact ⟨vb (by rw [hra,Ys]; exact congrArg (λ b=>!b) (decide_eq_decide.2 (by rw [C4]; exact ⟨λ h=>⟨by omega,by omega,by omega,h⟩,λ h=>h.2.2.2⟩))),hs⟩
   ·rintro _ w3 ⟨rfl,hs⟩ jw;refine aX (λ og=>?_) (λ og=>?_)
    ·exact ⟨vb (decide_eq_false (agu ali alj (by simpa using og))).symm,hs.aF⟩
    ·refine aO (by omega) ?_;exact ⟨_,by omega,k+1,rfl,rfl,by omega,AO heq ali alj (by simpa using og),hs⟩
  ·exact ⟨vb (decide_eq_true (by rw [List.take_of_length_le (by omega),List.take_of_length_le (by omega)] at heq; exact heq)).symm,hs.aF⟩
set_option maxHeartbeats 1000000 in
theorem C24 (a:FJ) (av:vZ) (lv cv:Value) (Yo:List dJ) (l:List ep) (Yp:List dJ) (c:List ep) (er:Int) (w:World) (ha:cA.dr w av a) (hR8:eF (λ _=>True) w lv Yo) (hD8:jc Yo l w) (RY:eF (λ _=>True) w cv Yp) (hD9:jc Yp c w) (hl1:l.length≤1073741824) (Ck:c.length≤1073741824):CR 24 [Flat.val av,lv,cv,.int .i64 er] w (λ v w'=>∃ sh:dJ,v=Flat.val sh∧Ext w w'∧alh av a Yo l Yp c er sh):=by
 obtain ⟨g_p_a,rfl,asd⟩:=ha;obtain ⟨uC,rfl,S3⟩:=asd;have hn8:=hD8.1;have hn9:=hD9.1;have hAn:=Dp a.n (b:=65535) (by omega) (by omega);have hs:=St.start w;refine agU _ _ _ _ _ _ ?_;unfold S24;have X4:=DL.flat (S3);refine dE (x:=(⟨(a).kind,(a).n,(⟨((a).p).kind,((a).p).t,((a).p).i,uC⟩:dJ)⟩:vZ)) hs (λ b_a4 w1 hs=>aN hs yq (λ Bb w2 hs=>have hs:=hs.enc (cs':=Flat.enc (⟨0,0,0,⟨none,0,0⟩⟩:dJ)) rfl;aA abf (aB (v:=.int .i64 (a).n) bL hs.p1.hb rfl (abd (by decide) (by decide) (aA Pz (aB (v:=.int .i64 (a).kind) bL hs.p1.hb rfl (aH (aC (λ eB=>?_) (λ eB=>?_)))))))))
 ·refine aA H7 (uN (⟨((a).p).kind,((a).p).t,((a).p).i,uC⟩:dJ) mq hs.p1.hb rfl (aN hs yq (λ b_p10 w3 hs=>have hs:=hs.enc (cs':=Flat.enc (⟨0,0,0,⟨none,0,0⟩⟩:dJ)) rfl;aI (x:=(⟨((a).p).kind,((a).p).t,((a).p).i,uC⟩:dJ)) hs mq rfl rfl (λ w4 hs=>aA H7 (aA rW (aB (v:=Flat.val (uC:SV)) et hs.p2.hb rfl (aA H7 (aA rW (aB (v:=Flat.val (uC:SV)) et hs.p2.hb rfl (aJ ei (X4.ext hs.aF) (uM (lX ei (X4.ext hs.aF) (by omega) (by omega) (λ PV Bl=>?_)))))))))))));have Nx:=Bl _ X4;refine aA rW ?_
  obtain ⟨X5,rfl⟩:=(Nx).fQ;refine aV hs et (eJ rfl) (rfl) (λ w5 hs=>have hs:=hs.enc (cs':=Flat.enc (⟨((a).p).kind,((a).p).t,((a).p).i,X5⟩:dJ)) rfl;aD mq hs.At (aI (x:=(⟨((a).p).kind,((a).p).t,((a).p).i,X5⟩:dJ)) hs.p1 mq rfl rfl (λ w6 hs=>aD mq hs.At ?_)));exact ⟨_,rfl,hs.aF,.inl ⟨eB,if_pos eB,_,rfl,λ w2 h=>by have h3:=Bl w2 h; have e:=Sa a.p.cut 22; rw [show ((22:Nat):Int)=22 from rfl] at e; rwa [e] at h3⟩⟩
 ·refine ⟨λ jv w'=>jv = .bool (decide (a.kind=1∧er<2∧0<(c.length:Int)))∧w2=w',?_,?_⟩
  ·refine aA Pz (aB (v:=.int .i64 (a).kind) bL hs.p1.hb rfl (aH (aC (λ jH=>?_) (λ jH=>?_))))
   ·refine aR (aC (λ jr=>?_) (λ jr=>?_))
    ·refine aJ nP (RY.ext hs.aF) (dA ?_);exact ⟨xw (by omega),rfl⟩
    ·exact ⟨YJ (by omega),rfl⟩
   ·exact ⟨YJ (by omega),rfl⟩
  ·rintro _ w7 ⟨rfl,hw⟩ fB;subst hw;refine aC (λ jW=>?_) (λ jW=>?_)
   ·have azm:=Int.emod_nonneg (yo a.n 65535) (show (Yp.length:Int)≠0 by omega);have azn:=Int.emod_lt_of_pos (yo a.n 65535) (show (0:Int)<Yp.length by omega);refine aJ nP (RY.ext hs.aF) (Px (by omega) (by omega) ?_);obtain ⟨e_x47,OV⟩:=gx Yp (i:=(((yo (a).n 65535) % (Yp.length:Int))).toNat) (by omega);obtain ⟨Rn,EK⟩:=gx (c) (i:=(((yo (a).n 65535) % (Yp.length:Int))).toNat) (by omega);obtain ⟨S4,rfl,al0⟩:=hD9.2 _ _ _ OV EK;refine aQ nP RY (by omega) OV (λ _ D4=>aD mq (D4.ext hs.aF) (aI (x:=(⟨(Rn).kind,(Rn).t,(Rn).i,S4⟩:dJ)) hs mq rfl rfl (λ w8 hs=>aD mq hs.At ?_)))
    have hq:my a l c er=Rn:=by unfold my; rw [if_neg eB,if_pos (by omega),getD_some (by rw [← hn9]; exact EK)]
    exact ⟨_,rfl,hs.aF,.inr (.inr (.inl ⟨_,OV,by rw [hq]; exact EK⟩))⟩
   ·refine aJ nP (hR8.ext hs.aF) (dA (aC (λ pE=>?_) (λ pE=>?_)))
    ·have azm:=Int.emod_nonneg (yo a.n 65535) (show (Yo.length:Int)≠0 by omega);have azn:=Int.emod_lt_of_pos (yo a.n 65535) (show (0:Int)<Yo.length by omega);refine aJ nP (hR8.ext hs.aF) (Px (by omega) (by omega) ?_);obtain ⟨Lf,oU⟩:=gx Yo (i:=(((yo (a).n 65535) % (Yo.length:Int))).toNat) (by omega);obtain ⟨pK,rp⟩:=gx (l) (i:=(((yo (a).n 65535) % (Yo.length:Int))).toNat) (by omega);obtain ⟨S6,rfl,al1⟩:=hD8.2 _ _ _ oU rp;refine aQ nP hR8 (by omega) oU (λ _ wo=>aD mq (wo.ext hs.aF) (aI (x:=(⟨(pK).kind,(pK).t,(pK).i,S6⟩:dJ)) hs mq rfl rfl (λ w9 hs=>aD mq hs.At ?_)))
     have hq:my a l c er=pK:=by unfold my; rw [if_neg eB,if_neg (by omega),if_pos (by omega),getD_some (by rw [← hn8]; exact rp)]
     exact ⟨_,rfl,hs.aF,.inr (.inl ⟨_,oU,by rw [hq]; exact rp⟩)⟩
    ·refine pop (v:=Flat.val (⟨0,0,0,⟨none,0,0⟩⟩:dJ)) (by kernel_rfl) (aI (x:=(⟨0,0,0,⟨none,0,0⟩⟩:dJ)) hs mq rfl rfl (λ pP hs=>aD mq hs.At ?_));exact ⟨⟨0,0,0,⟨none,0,0⟩⟩,rfl,hs.aF,.inr (.inr (.inr ⟨rfl,by unfold my; rw [if_neg eB,if_neg (by omega),if_neg (by omega)]⟩))⟩
def xr:ByteArray:=⟨#[108,105,110,101,32,97,59,32,118,111,108,32,120,59,32,108,111,99,107,32,109,59,32,116,104,114,101,97,100,32,116,32,123,32,114,101,103,32,114,59,32,115,116,111,114,101,32,97,32,61,32,49,59,32,108,111,97,100,32,114,32,61,32,97,59,32,111,112,116,32,97,59,32,116,97,107,101,32,109,59,32,125,32,116,104,114,101,97,100,32,117,32,123,32,114,101,103,32,114,59,32,108,111,97,100,32,114,32,61,32,97,59,32,99,104,101,99,107,32,114,59,32,125,32,114,101,99,111,118,101,114,32,123,32,125,32,97,108,119,97,121,115,32,97,32,61,61,32,49,59]⟩
def vF:cU:=((rJ xr).getD (L5,0,0)).1
theorem S7:rJ xr=some (vF,0,0):=by decide +kernel
theorem Hu:gK vF=0:=by decide +kernel
def F4:il:=⟨[0,1],1,[0,0],1,[⟨1,0,[⟨3,0,0,[⟨1,1⟩],[],0⟩,⟨2,0,0,[],[],0⟩,⟨6,0,0,[],[],0⟩,⟨9,0,0,[],[],0⟩]⟩,⟨1,0,[⟨2,0,0,[],[],0⟩,⟨15,0,0,[⟨2,0⟩],[],0⟩]⟩],⟨0,0,[]⟩,[[⟨2,0⟩,⟨1,1⟩,⟨10,0⟩]]⟩
theorem AP:eC vF=F4:=by decide +kernel
theorem S8:((ux xr).map λ r=>decide (r.1.length≤5000) && r.1.all (λ x=>decide (0≤x.at_∧x.at_≤1000000∧x.text.size≤1000000)))=some true:=by decide +kernel
theorem X6:∀ l e a,ux xr=some (l,e,a)→ir l:=by
 intro l e a h
 have:=S8
 rw [h] at this
 simp only [Option.map_some,Option.some.injEq,Bool.and_eq_true,decide_eq_true_eq,List.all_eq_true] at this
 exact ⟨this.1,λ x hx=>this.2 x hx⟩
theorem adR:qt vF=vF:=by decide +kernel
theorem alk:PZ vF:=by rw [← adR]; exact Qr _
theorem Jl:Bm vF:=Ew Hu
def OW:List fM:=F4.threads.map λ c=>(sJ 20 (qa c)).getD (qa c)
theorem alm:F4.threads.all (λ c=>(sJ 20 (qa c)).isSome)=true:=by decide +kernel
theorem Hv:rF 20 F4.threads OW:=by
 refine ⟨by unfold OW; rw [List.length_map],λ j c t hc ht=>?_⟩
 unfold OW at ht
 rw [List.getElem?_map,hc,Option.map_some] at ht
 have h:=List.all_eq_true.1 alm c (List.mem_of_getElem? hc)
 obtain ⟨t2,h2⟩:=Option.isSome_iff_exists.1 h
 rw [h2] at ht
 rw [h2]; exact ht
def fx0:gL:=mL (mw F4 2) OW
def vg (m:gL) (q:ep):gL × cY × Int:=(CO 20 m q).getD (m,⟨0,0,0,0,0⟩,99)
theorem mO {m:gL} {q:ep} {ev:cY} {e:Int} (h:(vg m q).2=(ev,e)) (he:e≠99):CO 20 m q=some ((vg m q).1,ev,e):=by
 unfold vg at h ⊢
 cases hd:CO 20 m q with
 | none=>rw [hd] at h; cases h; exact absurd rfl he
 | some r=>rw [hd] at h; show some r=some (r.1,ev,e); rw [show r=(r.1,r.2) from rfl,show r.2=(ev,e) from h]
def Jm:ep:=⟨1,0,0,[]⟩
def pOt:ep:=⟨1,1,0,[]⟩
def pOu:ep:=⟨2,0,0,[]⟩
def pCr:ep:=⟨3,0,0,[1]⟩
def fx1:gL:=(vg fx0 Jm).1
def fx2:gL:=(vg fx1 Jm).1
def fx3:gL:=(vg fx2 pOt).1
def fx4:gL:=(vg fx3 pOu).1
def fx5:gL:=(vg fx4 Jm).1
def fx6:gL:=(vg fx5 Jm).1
def fx7:gL:=(vg fx6 pCr).1
def fxo:gL:=(vg fx6 pOt).1
theorem fd1:(vg fx0 Jm).2=(⟨3,0,0,1,0⟩,0):=by decide +kernel
theorem fd2:(vg fx1 Jm).2=(⟨2,0,0,1,0⟩,0):=by decide +kernel
theorem fd3:(vg fx2 pOt).2=(⟨1,1,0,0,0⟩,0):=by decide +kernel
theorem fd4:(vg fx3 pOu).2=(⟨12,0,0,1,0⟩,0):=by decide +kernel
theorem fd5:(vg fx4 Jm).2=(⟨5,0,0,0,0⟩,0):=by decide +kernel
theorem fd6:(vg fx5 Jm).2=(⟨0,0,0,0,0⟩,13):=by decide +kernel
theorem fd7:(vg fx6 pCr).2=(⟨15,0,0,1,0⟩,0):=by decide +kernel
theorem fdo:(vg fx6 pOt).2=(⟨16,1,1,0,0⟩,0):=by decide +kernel
theorem fp2:dU fx2=[Jm,pOu,pOt]:=by decide +kernel
theorem ase:CQ fx7=[true]:=by decide +kernel
theorem fpo:dU fxo=[]:=by decide +kernel
theorem fco:rD fxo=[]:=by decide +kernel
theorem fro:uo fxo 0=[1]:=by decide +kernel
theorem fr2:uo fxo 2=[]:=by decide +kernel
theorem fl7:fx7.mem.l=[1,0]:=by decide +kernel
theorem fk7:fx7.mem.kept=[1]:=by decide +kernel
theorem frt:nt Ey=false:=by decide +kernel
structure xM (p:cU) (m:gL) (n:Nat):Prop where
 pm:PM p m
 mb:MB m.mem n
 cr:m.er≤n
theorem xM.do {p:cU} {m m2:gL} {n N:Nat} {q:ep} {ev:cY} {e:Int} (h:xM p m n) (hd:CO N m q=some (m2,ev,e)):xM p m2 (n+1):=
 ⟨h.pm.do hd,h.mb.do hd,by have:=(Fj hd).1; have:=h.cr; omega⟩
theorem xM.new {p:cU} {N:Nat} {room:Int} {nf:List fM} (h:Bm p) (hb:rF N (eC p).threads nf) (ht:∀ t∈nf,C2 p t) (hr:1≤room∧room≤16):xM p (mL (mw (eC p) room) nf) 0:=
 ⟨PM.new h hb ht hr,MB.new,Int.le_refl _⟩
section
variable {p:cU} {K:World→Prop} {q:Nat} {m:gL} {n:Nat} {w:World}
theorem adV (h:xM p m n) (hm:Has (eO K q m) w) (hw:K w) (vD:∀ w',Ext w w'→K w'):Calls PG 16 [(.pointer (some ⟨q,0,none⟩))].toArray w (qf λ v w'=>lW (fk v (dU m)) w w'):=C16 K q m w hm hw vD h.pm.gm.ok
theorem adW (h:xM p m n) (hm:Has (eO K q m) w) (hw:K w) (vD:∀ w',Ext w w'→K w'):Calls PG 18 [(.pointer (some ⟨q,0,none⟩))].toArray w (qf λ v w'=>v=Flat.val (ph m)∧Ext w w'):=C18 K q m w hm hw vD h.pm.gm.ok
theorem asf (h:xM p m n) (hn:n≤1000000) (hm:Has (eO K q m) w) (hw:K w) (vD:∀ w',Ext w w'→K w'):Calls PG 19 [(.pointer (some ⟨q,0,none⟩))].toArray w (qf λ v w'=>∃ b,v = .pointer (some ⟨b,0,none⟩)∧lW (eO K b m) w w'):=C19 K q m w hm hw vD h.pm.gm.ok (h.mb.mono hn) (by have:=h.pm.gm.ru.lk; omega)
theorem alo (h:xM p m n) (hm:Has (eO K q m) w) (hw:K w) (vD:∀ w',Ext w w'→K w'):Calls PG 22 [(.pointer (some ⟨q,0,none⟩))].toArray w (qf λ v w'=>lW (bK v m.mem.l) w w'):=C22 K q m w hm hw vD h.pm.gm.ok
theorem azr (h:xM p m n) (hm:Has (eO K q m) w) (hw:K w) (vD:∀ w',Ext w w'→K w'):Calls PG 23 [(.pointer (some ⟨q,0,none⟩))].toArray w (qf λ v w'=>lW (bK v m.mem.kept) w w'):=C23 K q m w hm hw vD h.pm.gm.ok
theorem GM.rgl (h:GM m):∀ t∈m.l,t.aK.length≤4:=λ t ht=>by
 have h1:=(h.th t ht).1.rg; have h2:=(h.code ht).rb; omega
theorem adX (i:Int) (h:xM p m n) (hm:Has (eO K q m) w) (hw:K w) (vD:∀ w',Ext w w'→K w'):Calls PG 25 [(.pointer (some ⟨q,0,none⟩)),.int .i64 i].toArray w (qf λ v w'=>lW (bK v (uo m i)) w w'):=C25 K q m i w hm hw vD h.pm.gm.ok λ t ht=>by have:=h.pm.gm.rgl t ht; omega
theorem azs (h:xM p m n) (hn:n≤1000000) (hC:(fK (IS m.mem)).length≤1000000000) (hm:Has (eO K q m) w) (hw:K w) (vD:∀ w',Ext w w'→K w'):Calls PG 31 [(.pointer (some ⟨q,0,none⟩))].toArray w (qf λ v w'=>lW (fk v (rD m)) w w'):=C31 K q m w hm hw vD h.pm.gm.ok (h.mb.mono hn) hC
theorem azt (h:xM p m n) (hm:Has (eO K q m) w) (hw:K w) (vD:∀ w',Ext w w'→K w'):Calls PG 49 [(.pointer (some ⟨q,0,none⟩))].toArray w (qf λ v w'=>lW (bK v (CQ m)) w w'):=by
 have h1:=h.pm.gm.ru.st; have h2:=h.pm.gm.ru.fl; have h3:=h.pm.gm.mem.ll; have h4:=h.pm.gm.dC
 exact C49 K q m w hm hw vD h.pm.gm.ok h.pm.gm.uz.cC h.pm.gm.uz.cl ⟨h1.1,by rw [h3,h4]; omega⟩
theorem Fp {N:Nat} {k:ep} {gc:SV} {m2:gL} {ev:cY} {e:Int} {F:Nat→Prop} (h:xM p m n) (hn:n≤1000000) (hd:CO N m k=some (m2,ev,e)) (hql:k.cut.length≤1000) (hF:(eO K q m).p w F) (hK:∀ w',ix F w w'→K w') (Ay:∀ w',ix F w w'→eF (λ _=>True) w' (Flat.val gc) k.cut) :
  Calls PG 17 [(.pointer (some ⟨q,0,none⟩)),Flat.val (⟨k.kind,k.t,k.i,gc⟩:dJ)].toArray w (qf λ v w'=>v = .tuple #[Flat.val ev,.int .i64 e]∧qj F (eO K q m2) w w'):=
 C17 K q m N k gc m2 ev e F w hF hK h.pm.gm.ok (h.mb.mono hn) ⟨h.pm.gm.cr,by have:=h.cr; omega⟩ (h.pm.gm.ru.rc.ok h.pm.gm.uz.rc) (by have:=h.pm.gm.ru.lk; omega) Ay hql hd
theorem asg (u:il) (uv:dM) (room:Int) (N:Nat) (nf:List fM) (hu:cA.dr w uv u) (hz:UZ u) (hr:nt u=true) (hn:QJ N u nf) (h1:1≤room) (h2:room≤16):Calls PG 15 [Flat.val uv,.int .i64 room].toArray w (qf λ v w'=>∃ K p,v = .tuple #[.pointer (some ⟨p,0,none⟩),.int .i64 0]∧lW (sep (eO K p (mL (mw u room) nf)) (eS K)) w w'):=
 (C15 u uv room N nf w hu hz λ _=>hn).mono λ _ _ r=>r.mono λ _ _ h=>by
  rcases h with ⟨h3,_⟩ | ⟨_,h3,_⟩ | ⟨_,_,_,h3⟩
  ·rw [hr] at h3; cases h3
  ·omega
  ·exact h3
theorem ash (uv:dM) (room:Int) (hu:cA.dr w uv Ey):Calls PG 15 [Flat.val uv,.int .i64 room].toArray w (qf λ v w'=>v = .tuple #[.pointer none,.int .i64 8]∧Ext w w'):=
 (C15 Ey uv room 0 [] w hu ⟨by decide,by decide,by decide,by decide,λ c hc=>(by cases hc),⟨by decide,λ x hx=>(by cases hx)⟩,λ l hl=>(by cases hl)⟩ (λ h=>by rw [frt] at h; cases h)).mono λ _ _ r=>r.mono λ _ _ h=>by
  rcases h with ⟨_,h3⟩ | ⟨h3,_⟩ | ⟨h3,_⟩
  ·exact h3
  ·rw [frt] at h3; cases h3
  ·rw [frt] at h3; cases h3
end
theorem X7 {p:cU} {N:Nat} {nf:List fM} (h:Bm p) (hb:rF N (eC p).threads nf):∀ t∈nf,C2 p t:=by
 intro t ht
 obtain ⟨i,hi⟩:=o8 ht
 have mz:=(List.getElem?_eq_some_iff.1 hi).1
 obtain ⟨c,hc⟩:∃ c,(eC p).threads[i]? = some c:=⟨_,List.getElem?_eq_getElem (by rw [← hb.1]; exact mz)⟩
 have hg:=hb.2 i c t hc hi
 have Mw:=List.mem_of_getElem? hc
 obtain ⟨tt,htt,rfl⟩:=List.mem_map.1 (show c∈p.threads.map (l9 p) from Mw)
 obtain ⟨b,hb2,_⟩:=Jj h (List.mem_append_left p.recover htt)
 have hru:=rL (sI h).1
 have h0:C2 p (qa (l9 p tt)):=⟨b,tt.aK,λ g=>by obtain ⟨r,h1,_⟩:=C3 hb2 (hru.th _ Mw).cb.1 g; exact ⟨r,h1⟩⟩
 exact h0.go hg
theorem asi:xM vF fx0 0:=by
 have hb:rF 20 (eC vF).threads OW:=by rw [AP]; exact Hv
 have:=xM.new (room:=2) Jl hb (X7 Jl hb) (by decide)
 rw [AP] at this; exact this
theorem asj:xM vF fx1 1:=asi.do (mO fd1 (by decide))
theorem adY:xM vF fx2 2:=asj.do (mO fd2 (by decide))
theorem asl:xM vF fx3 3:=adY.do (mO fd3 (by decide))
theorem asm:xM vF fx4 4:=asl.do (mO fd4 (by decide))
theorem asn:xM vF fx5 5:=asm.do (mO fd5 (by decide))
theorem X8:xM vF fx6 6:=asn.do (mO fd6 (by decide))
theorem adZ:xM vF fx7 7:=X8.do (mO fd7 (by decide))
theorem X9:xM vF fxo 7:=X8.do (mO fdo (by decide))
theorem azu:(fK (IS fxo.mem)).length≤1000000000:=by decide +kernel
theorem Jn:nt F4=true∧UZ F4:=by have:=sI Jl; rw [AP] at this; exact this
theorem ad0:QJ 20 F4 OW:=Me (rL Jn.1) Jn.2 Hv
theorem ad1 (w:World):jc [(⟨1,0,0,⟨none,0,0⟩⟩:dJ),⟨2,0,0,⟨none,0,0⟩⟩,⟨1,1,0,⟨none,0,0⟩⟩] [Jm,pOu,pOt] w:=by
 have h1:jc ([]++[(⟨1,0,0,⟨none,0,0⟩⟩:dJ)]) ([]++[Jm]) w:=jc.nil.snoc ⟨_,rfl,DL.nil w⟩
 have h2:jc ([]++[(⟨1,0,0,⟨none,0,0⟩⟩:dJ)]++[⟨2,0,0,⟨none,0,0⟩⟩]) ([]++[Jm]++[pOu]) w:=h1.snoc ⟨_,rfl,DL.nil w⟩
 exact h2.snoc ⟨_,rfl,DL.nil w⟩
theorem Hw {p:cU} {m:gL} {n:Nat} (_:xM p m n):∀ x∈dU m,x.cut=[]:=by
 intro x hx
 unfold dU at hx
 split at hx
 ·cases hx
 ·obtain ⟨i,t,_,_,AS⟩:=wH hx
  unfold ti at AS
  rw [List.mem_append] at AS
  rcases AS with AS | AS
  ·split at AS
   ·simp at AS; rw [AS]
   ·cases AS
  ·rw [List.mem_map] at AS; obtain ⟨k,_,rfl⟩:=AS; rfl
theorem alp (s:ByteArray) (p:cU) (e a:Int) (w:World) (Yk:s.size≤1000000) (hr:rJ s=some (p,e,a)) (hTk:∀ l e a,ux s=some (l,e,a)→ir l) (hz:PZ p) (hc:gK p=0) :
  Calls PG 48 [.string s].toArray w (qf λ v w'=>∃ uv:dM,v=Flat.val uv∧lW (eS (λ w=>cA.dr w uv (eC p))) w w'):=
 (C48 s (p,e,a) w Yk hr hTk hz).mono λ _ _ r=>r.mono λ v w' h=>by
  obtain ⟨uv,h1,h2⟩:=h
  refine ⟨uv,h1,?_⟩
  have e1:(if gK p=0 then eC p else Ey)=eC p:=if_pos hc
  have h3:lW (eS (λ w=>cA.dr w uv (if gK p=0 then eC p else Ey))) w w':=h2
  rw [e1] at h3; exact h3
theorem aso (w:World):Calls PG 48 [.string xr].toArray w (qf λ v w'=>∃ uv:dM,v=Flat.val uv∧lW (eS (λ w=>cA.dr w uv F4)) w w'):=by
 rw [← AP]
 exact alp xr vF 0 0 w (by decide +kernel) S7 X6 alk Hu
set_option maxHeartbeats 4000000 in
set_option maxRecDepth 100000 in
theorem C14 (w:World):CR 14 [] w (λ v w'=>v = .bool true∧Ext w w'):=by
 have hs:=St.start w;refine agK _ _ ?_;unfold S14;refine eu aut (aso _) ?_;rintro _ w1 ⟨alq,rfl,bY⟩;have hs:=hs.made bY;refine eu agW (asg F4 alq 2 20 OW (hs).eS Jn.2 Jn.1 ad0 (by decide) (by decide)) ?_;rintro _ w2 ⟨K,p,rfl,bY⟩;have hs:=(hs.made bY).split;refine bE rfl (bE rfl (pop (v:=Flat.val (⟨⟨none,0,0⟩,0,⟨none,0,0⟩,0,⟨none,0,0⟩,(⟨0,0,⟨none,0,0⟩⟩:cK),⟨none,0,0⟩⟩:dM)) (by kernel_rfl) (have hs:=(hs.p2).drop;aZ agW hs (ash (⟨⟨none,0,0⟩,0,⟨none,0,0⟩,0,⟨none,0,0⟩,(⟨0,0,⟨none,0,0⟩⟩:cK),⟨none,0,0⟩⟩:dM) 2 (show cA.dr _ (⟨⟨none,0,0⟩,0,⟨none,0,0⟩,0,⟨none,0,0⟩,(⟨0,0,⟨none,0,0⟩⟩:cK),⟨none,0,0⟩⟩:dM) (⟨[],0,[],0,[],(⟨0,0,[]⟩:fo),[]⟩:il) from ⟨_,_,_,_,_,rfl,DL.nil _,DL.nil _,DL.nil _,⟨_,rfl,DL.nil _⟩,DL.nil _⟩)) (λ w3 he hs=>bE rfl (bE rfl ?_)))))
 refine ⟨_,?_,λ _ _ h=>h⟩;refine zq Py (fx (cS ?_));intro fB;refine fT (by decide) (pop (CD _) (pop (Gt _ _) (aN hs yq (λ atU w5 hs=>have hs:=hs.enc (cs':=Flat.enc (⟨0,0,0,⟨none,0,0⟩⟩:dJ)) rfl;aN hs yq (λ asp w6 hs=>have hs:=hs.enc (cs':=Flat.enc (⟨0,0,0,⟨none,0,0⟩⟩:dJ)) rfl;aI (x:=(⟨1,0,0,⟨none,0,0⟩⟩:dJ)) hs.p1 mq rfl rfl (λ w7 hs=>aI (x:=(⟨1,1,0,⟨none,0,0⟩⟩:dJ)) hs.p1 mq rfl rfl (λ w8 hs=>aD mq hs.p1.At (bG Dd hs.p2 (H':=λ _=>eO K p fx1) (Φ:=λ v _=>v = .tuple #[Flat.val (⟨3,0,0,1,0⟩:cY),.int .i64 0]) (λ F2 eQ eA=>?_) ?_))))))))
 ·exact Fp (N:=20) (k:=Jm) (gc:=⟨none,0,0⟩) asi (by decide) (mO fd1 (by decide)) (by decide) eQ (λ w' hc=>((eA w' hc).p2).eS) (λ w' hc=>(eF.nil (λ _=>True) w'))
 rintro _ w9 rfl hs;refine bE rfl (bE rfl (aN hs kL (λ b_a7 pP hs=>aI (x:=(⟨3,0,0,1,0⟩:cY)) hs eX rfl rfl (λ sQ hs=>aD mq hs.p3.At (bG Dd hs.p1 (H':=λ _=>eO K p fx2) (Φ:=λ v _=>v = .tuple #[Flat.val (⟨2,0,0,1,0⟩:cY),.int .i64 0]) (λ F2 eQ eA=>?_) ?_)))))
 ·exact Fp (N:=20) (k:=Jm) (gc:=⟨none,0,0⟩) asj (by decide) (mO fd2 (by decide)) (by decide) eQ (λ w' hc=>((eA w' hc).p3).eS) (λ w' hc=>(eF.nil (λ _=>True) w'))
 rintro _ vl rfl hs;refine bE rfl (bE rfl (aN hs kL (λ b_b9 vm hs=>aI (x:=(⟨2,0,0,1,0⟩:cY)) hs eX rfl rfl (λ sd hs=>dB FC hs (adV adY (hs.p1).has (hs.p5).eS (λ w' e=>St.kC (hs.p5) e)) (λ x57 v7 bY hs=>aD mq hs.p4.At (bG Dd hs.p2 (H':=λ _=>eO K p fx3) (Φ:=λ v _=>v = .tuple #[Flat.val (⟨1,1,0,0,0⟩:cY),.int .i64 0]) (λ F2 eQ eA=>?_) ?_))))))
 ·exact Fp (N:=20) (k:=pOt) (gc:=⟨none,0,0⟩) adY (by decide) (mO fd3 (by decide)) (by decide) eQ (λ w' hc=>((eA w' hc).p5).eS) (λ w' hc=>(eF.nil (λ _=>True) w'))
 rintro _ yT rfl hs;refine bE rfl (bE rfl (aN hs kL (λ b_c12 Ch hs=>aI (x:=(⟨1,1,0,0,0⟩:cY)) hs eX rfl rfl (λ Im hs=>pop (CD _) (bG Dd hs.p1 (H':=λ _=>eO K p fx4) (Φ:=λ v _=>v = .tuple #[Flat.val (⟨12,0,0,1,0⟩:cY),.int .i64 0]) (λ F2 eQ eA=>?_) ?_)))))
 ·exact Fp (N:=20) (k:=pOu) (gc:=⟨none,0,0⟩) asl (by decide) (mO fd4 (by decide)) (by decide) eQ (λ w' hc=>((eA w' hc).p6).eS) (λ w' hc=>(eF.nil (λ _=>True) w'))
 rintro _ Jp rfl hs;refine bE rfl (bE rfl (aN hs kL (λ b_d14 Kz hs=>aI (x:=(⟨12,0,0,1,0⟩:cY)) hs eX rfl rfl (λ Mu hs=>aD mq hs.p7.At (bG Dd hs.p1 (H':=λ _=>eO K p fx5) (Φ:=λ v _=>v = .tuple #[Flat.val (⟨5,0,0,0,0⟩:cY),.int .i64 0]) (λ F2 eQ eA=>?_) ?_)))))
 ·exact Fp (N:=20) (k:=Jm) (gc:=⟨none,0,0⟩) asm (by decide) (mO fd5 (by decide)) (by decide) eQ (λ w' hc=>((eA w' hc).p7).eS) (λ w' hc=>(eF.nil (λ _=>True) w'))
 rintro _ Qm rfl hs;refine bE rfl (bE rfl (aD mq hs.p7.At (bG Dd hs (H':=λ _=>eO K p fx6) (Φ:=λ v _=>v = .tuple #[Flat.val (⟨0,0,0,0,0⟩:cY),.int .i64 13]) (λ F2 eQ eA=>?_) ?_)))
 ·exact Fp (N:=20) (k:=Jm) (gc:=⟨none,0,0⟩) asn (by decide) (mO fd6 (by decide)) (by decide) eQ (λ w' hc=>((eA w' hc).p7).eS) (λ w' hc=>(eF.nil (λ _=>True) w'))
 rintro _ Tn rfl hs;refine bE rfl (bE rfl (aN hs kL (λ b_x16 VG hs=>aI (x:=(⟨0,0,0,0,0⟩:cY)) hs eX rfl rfl (λ R4 hs=>eu amx (asf X8 (by decide) (hs.p1).has (hs.p9).eS (λ w' e=>St.kC (hs.p9) e)) ?_))));rintro _ w26 ⟨asq,rfl,bY⟩;have hs:=hs.made bY;refine bW (([1]:List Int)) hs ei rfl rfl (eJ rfl) (λ s_x86 w27 hs=>?_);obtain ⟨alr,rfl⟩:=(hs).fQ;refine pop (Gu _ _ _ _) (bG Dd hs.p3 (H':=λ _=>eO K p fx7) (Φ:=λ v _=>v = .tuple #[Flat.val (⟨15,0,0,1,0⟩:cY),.int .i64 0]) (λ F2 eQ eA=>?_) ?_)
 ·exact Fp (N:=20) (k:=pCr) (gc:=alr) X8 (by decide) (mO fd7 (by decide)) (by decide) eQ (λ w' hc=>((eA w' hc).qK).eS) (λ w' hc=>((eA w' hc)).fI)
 rintro _ w28 rfl hs;refine bE rfl (bE rfl (aN hs kL (λ b_k19 w29 hs=>aI (x:=(⟨15,0,0,1,0⟩:cY)) hs eX rfl rfl (λ w30 hs=>have hs:=((hs.p2.drop).p3).drop;aZ YM hs (adW adZ (hs.p1).has (hs.qK).eS (λ w' e=>St.kC (hs.qK) e)) (λ w31 he hs=>dB auu hs (azt adZ (hs.p1).has (hs.qK).eS (λ w' e=>St.kC (hs.qK) e)) (λ x94 w32 bY hs=>aN hs Dr (λ b_s21 w33 hs=>aI (x:=(ph fx7)) hs Dq rfl rfl (λ w34 hs=>zq Py (fx (aD mq hs.qK.At (bG Dd hs.p4 (H':=λ _=>eO K asq fxo) (Φ:=λ v _=>v = .tuple #[Flat.val (⟨16,1,1,0,0⟩:cY),.int .i64 0]) (λ F2 eQ eA=>?_) ?_)))))))))))
 ·exact Fp (N:=20) (k:=pOt) (gc:=⟨none,0,0⟩) X8 (by decide) (mO fdo (by decide)) (by decide) eQ (λ w' hc=>((eA w' hc).p11).eS) (λ w' hc=>(eF.nil (λ _=>True) w'))
 rintro _ w35 rfl hs;refine bE rfl (bE rfl (aN hs kL (λ b_v23 w36 hs=>aI (x:=(⟨16,1,1,0,0⟩:cY)) hs eX rfl rfl (λ w37 hs=>aZ YM hs (adW X9 (hs.p1).has (hs.p13).eS (λ w' e=>St.kC (hs.p13) e)) (λ w38 he hs=>aN hs Dr (λ b_w25 V6 hs=>aI (x:=(ph fxo)) hs Dq rfl rfl (λ w40 hs=>?_)))))));refine ⟨_,?_,λ _ _ h=>h⟩;refine aH (gD (by decide) (aD eX hs.p11.At (pop (tQ _ _) (lx DE rfl rfl (show _=decide True from rfl) (gD (by decide) (aH (gD (by decide) (aD eX hs.qK.At (pop (tQ _ _) (lx DE rfl rfl (show _=decide True from rfl) (gD (by decide) (aD mq hs.p13.At ?_))))))))))))
 refine pop (CD _) (aD mq hs.p12.At (bW ([(⟨1,0,0,⟨none,0,0⟩⟩:dJ),⟨2,0,0,⟨none,0,0⟩⟩,⟨1,1,0,⟨none,0,0⟩⟩]) hs nP rfl rfl (eJ rfl) (λ azv w41 hs=>aZ aun hs (C20 _ _ (dU fx2) [Jm,pOu,pOt] _ (hs.qK).dl (DL.of (hs).fI (ad1 _)) (by rw [fp2]; decide) (λ x hx=>by rw [Hw adY x hx]; decide)) (λ w42 he hs=>gD (decide_eq_true fp2) (have hs:=((((((((hs.qK.drop)).drop).p12).drop).qK).drop).p9).drop;aD eX hs.p8.At (pop (A6 _ _) (lx DE rfl rfl (show _=decide True from rfl) (gD (by decide) (aD eX hs.p7.At (pop (tQ _ _) (lx DE rfl rfl (show _=decide True from rfl) (gD (by decide) ?_))))))))))))
 refine aH (gD (by decide) (aD eX hs.p5.At (pop (tQ _ _) (lx DE rfl rfl (show _=decide True from rfl) (gD (by decide) (aD Dq hs.p3.At (pop (RL _ _) (lx Us rfl rfl (show _=decide True from rfl) (gD (by decide) (bW ([true]) hs xR rfl rfl (eJ rfl) (λ azw w43 hs=>aZ auv hs (C50 _ _ (CQ fx7) [true] _ (hs.p5).fI (hs).fI (by rw [ase]; decide)) (λ w44 he hs=>gD (decide_eq_true ase) ?_))))))))))));refine aD eX hs.p2.At (pop (r9 _ _ _) (lx DE rfl rfl (show _=decide True from rfl) (gD (by decide) (aD Dq hs.p1.At (pop (RM _ _) (lx Us rfl rfl (show _=decide True from rfl) (gD (by decide) (have hs:=((((((((((((((((hs.drop)).drop)).drop).p1).drop).p1).drop).p1).drop).p2).drop).p2).drop).p2).drop;dB FC hs (adV X9 (hs).has (hs.p2).eS (λ w' e=>St.kC (hs.p2) e)) (λ x170 w45 bY hs=>?_)))))))))
 obtain ⟨atV,ad2,ad3,_⟩:=(hs).dl;refine aJ nP ad2 ?_;rw [ad3];refine aH (gD (by rw [fpo]; rfl) (dB aur hs (azs X9 (by decide) azu (hs.p1).has (hs.p3).eS (λ w' e=>St.kC (hs.p3) e)) (λ x176 w46 bY hs=>?_)));obtain ⟨atW,ad4,ad5,_⟩:=(hs).dl;refine aJ nP ad4 ?_;rw [ad5];refine aH (gD (by rw [fco]; rfl) (dB YO hs (adX (0) X9 (hs.p2).has (hs.p4).eS (λ w' e=>St.kC (hs.p4) e)) (λ x182 w47 bY hs=>bW (([1]:List Int)) hs ei rfl rfl (eJ rfl) (λ azx w48 hs=>aZ Ry hs (C21 _ _ (uo fxo (0)) ([1]:List Int) _ (hs.p1).fI (hs).fI (by rw [fro]; decide)) (λ w49 he hs=>gD (decide_eq_true fro) (dB YO hs (adX (2) X9 (hs.p4).has (hs.p6).eS (λ w' e=>St.kC (hs.p6) e)) (λ x188 w50 bY hs=>aJ ei (hs).fI (aH (gD (by rw [fr2]; rfl) (dB YN hs (alo adZ (hs.p6).has (hs.p7).eS (λ w' e=>St.kC (hs.p7) e)) (λ x194 w51 bY hs=>bW (([1,0]:List Int)) hs ei rfl rfl (eJ rfl) (λ azy w52 hs=>aZ Ry hs (C21 _ _ (fx7.mem.l) ([1,0]:List Int) _ (hs.p1).fI (hs).fI (by rw [fl7]; decide)) (λ w53 he hs=>?_)))))))))))))
 refine gD (decide_eq_true fl7) (dB auo hs (azr adZ (hs.p8).has (hs.p9).eS (λ w' e=>St.kC (hs.p9) e)) (λ x200 w54 bY hs=>bW (([1]:List Int)) hs ei rfl rfl (eJ rfl) (λ azz w55 hs=>aZ Ry hs (C21 _ _ (fx7.mem.kept) ([1]:List Int) _ (hs.p1).fI (hs).fI (by rw [fk7]; decide)) (λ w56 he hs=>?_))));intro jw;exact ⟨vb (decide_eq_true fk7),hs.aF⟩
theorem AQ {w:World} {g:dJ} {x:ep} (h:cA.dr w g x):eF (λ _=>True) w (Flat.val g.cut) x.cut:=by
 obtain ⟨_,rfl,h⟩:=h; exact DL.flat h
theorem alh.rd {av:vZ} {a:FJ} {tl:List dJ} {l:List ep} {tc:List dJ} {c:List ep} {cr:Int} {sh:dJ} (h:alh av a tl l tc c cr sh) {w1:World} (h1:jc tl l w1) (h2:jc tc c w1) :
  ∃ gc:SV,sh=⟨(my a l c cr).kind,(my a l c cr).t,(my a l c cr).i,gc⟩∧∀ w2,eF (λ _=>True) w2 (Flat.val av.p.cut) a.p.cut→jc tl l w2→jc tc c w2→eF (λ _=>True) w2 (Flat.val gc) (my a l c cr).cut:=by
 rcases h with ⟨_,hq,gc,hs,hr⟩ | ⟨j,hj,hq⟩ | ⟨j,hj,hq⟩ | ⟨hs,hq⟩
 ·rw [hq]; exact ⟨gc,hs,λ w2 h _ _=>hr w2 h⟩
 ·obtain ⟨gc,hs,_⟩:=h1.2 j _ _ hj hq
  refine ⟨gc,hs,λ w2 _ h3 _=>?_⟩
  have:=AQ (h3.2 j _ _ hj hq)
  rw [hs] at this; exact this
 ·obtain ⟨gc,hs,_⟩:=h2.2 j _ _ hj hq
  refine ⟨gc,hs,λ w2 _ _ h3=>?_⟩
  have:=AQ (h3.2 j _ _ hj hq)
  rw [hs] at this; exact this
 ·rw [hq]; exact ⟨⟨none,0,0⟩,hs,λ w2 _ _ _=>eF.nil (λ _=>True) w2⟩
theorem Ro {a:FJ} {l c:List ep} {cr:Int} (h1:∀ x∈l,x.cut.length≤1000) (h2:∀ x∈c,x.cut.length≤1000):(my a l c cr).cut.length≤1000:=by
 have key:∀ (xs:List ep) (k:Nat),(∀ x∈xs,x.cut.length≤1000)→(xs.getD k Mo).cut.length≤1000:=by
  intro xs k hx
  rw [List.getD_eq_getElem?_getD]
  cases hk:xs[k]? with
  | none=>decide
  | some y=>exact hx y (List.mem_of_getElem? hk)
 unfold my
 split
 ·show (a.p.cut.take 22).length≤1000; rw [List.length_take]; omega
 ·split
  ·exact key _ _ h2
  ·split
   ·exact key _ _ h1
   ·decide
theorem yg {p:cU} {m:gL} {n:Nat} (h:xM p m n):∀ x∈dU m,x.cut.length≤1000:=λ x hx=>by rw [Hw h x hx]; decide
theorem BG {p:cU} {m:gL} {n:Nat} (h:xM p m n):(dU m).length≤1073741824:=Nat.le_trans (oZ h.pm.gm.ok) (by decide)
theorem S9 (s:iz):qQ (Flat.enc s) (Flat.enc s)=decide True:=by
 simp [qQ,Flat.enc,eqV]
theorem ad6 (s:cY):qQ (Flat.enc s) (Flat.enc s)=decide True:=by
 simp [qQ,Flat.enc,eqV]
theorem Ya {p:cU} {m:gL} {n:Nat} (h:xM p m n) (i:Int):(uo m i).length≤1073741824:=by
 unfold uo; split
 ·cases ht:m.l[i.toNat]? with
  | none=>simp
  | some t=>have:=h.pm.gm.rgl t (List.mem_of_getElem? ht); simp only; omega
 ·simp
theorem Ta {p:cU} {m:gL} {n:Nat} (h:xM p m n):m.mem.l.length≤1073741824∧m.mem.kept.length≤1073741824:=by
 have h1:=h.pm.gm.mem.ll; have h2:=h.pm.gm.mem.fl; have h3:=h.pm.gm.mem.kl; have h4:=h.pm.gm.mem.QA
 omega
set_option maxHeartbeats 4000000 in
set_option maxRecDepth 100000 in
theorem C5 (p:cU) (pv:bN) (sv:Value) (script:List FJ) (w:World) (hp:cA.dr w pv p) (hS:DL w sv script):CR 5 [Flat.val pv,sv] w (λ v w'=>v = .bool true∧Ext w w'):=by
 obtain ⟨bH,bQ,bI,aT,aU,aY,rfl,cI,cZ,cJ,bR,bO,cB⟩:=hp;obtain ⟨ts7,Yn,hD7⟩:=(hS).open;have hn7:=hD7.1;have hs:=St.start w;refine amn _ _ _ _ ?_;unfold S5;refine dE hs (λ acr w1 hs=>aD gI hs.At (eu aum (C11 p (⟨bH,bQ,bI,aT,aU,aY⟩:bN) _ ⟨bH,bQ,bI,aT,aU,aY,rfl,(cI.ext hs.aF),(cZ.ext hs.aF),(cJ.ext hs.aF),(bR.ext hs.aF),(bO.ext hs.aF),(cB.ext hs.aF)⟩) ?_));rintro _ w2 ⟨Xe,rfl,bY⟩;have hs:=hs.made bY
 refine eu amv (C12 (qt p) Xe _ (hs).eS (Qr p)) ?_;rintro _ w3 ⟨OX,rfl,bY⟩;have hs:=hs.made bY;refine bE rfl (bE rfl (aN hs vO (λ b_u5 w4 hs=>have hs:=hs.enc (cs':=Flat.enc (⟨⟨none,0,0⟩,0,⟨none,0,0⟩,0,⟨none,0,0⟩,(⟨0,0,⟨none,0,0⟩⟩:cK),⟨none,0,0⟩⟩:dM)) rfl;aI (x:=OX) hs tG rfl rfl (λ w5 hs=>cS (aC (λ qm=>?_) (λ qm=>?_))))))
 ·refine aZ amw hs (C14 _) (λ w6 he hs=>?_);exact ⟨rfl,hs.aF⟩
 ·refine aD tG hs.At ?_;have zo:gK (qt p)=0:=by omega
  have R5:=Ew zo;have oC:=sI R5;obtain ⟨N0,nf,Jr,htw⟩:=Mm R5;have hs:=hs.p1.dO (Ψ:=λ w=>cA.dr w OX (eC (qt p))) (λ w h=>by rw [if_pos zo] at h; exact h);refine eu agW (asg (eC (qt p)) OX 2 N0 nf (hs).eS oC.2 oC.1 (Me (rL oC.1) oC.2 Jr) (by decide) (by decide)) ?_;rintro _ w7 ⟨K,q,rfl,bY⟩;have hs:=(hs.made bY).split;have azA:xM (qt p) (mL (mw (eC (qt p)) 2) nf) 0:=xM.new R5 Jr htw (by first | decide | omega);refine bE rfl (bE rfl ?_);refine ⟨_,?_,λ _ _ h=>h⟩;refine zq Py (fx (cS ?_));intro fB;refine fT (by decide) ?_;have hs:=((((hs.p2.drop.p2.drop.p2.drop).p2).drop).p1).p1
  refine ⟨λ mm i w'=>∃ (k:Nat) (m:gL),i = .int .i64 (k:Int)∧mm=30 - k∧k≤30∧xM (qt p) m k∧St w bD [eO K q m,eS K] w',⟨30,0,_,rfl,rfl,by decide,azA,hs⟩,?_⟩;rintro mm _ w9 ⟨k,m,rfl,rfl,hk,hm,hs⟩ jw;refine ⟨λ jv w'=>∃ q:Prop,∃ _:Decidable q,(q→k<script.length∧k<30)∧jv = .bool (decide q)∧w9=w',?_,?_⟩
  ·refine aJ an2 (Yn.ext hs.aF) (aR (aC (λ lL=>?_) (λ lL=>?_)))
   ·refine aR ?_;exact ⟨_,inferInstance,(λ h=>by omega),rfl,rfl⟩
   ·exact ⟨False,inferInstance,(λ h=>h.elim),rfl,rfl⟩
  ·rintro _ pP ⟨q3,hq3,hq4,rfl,hw⟩ oN;subst hw;refine aC (λ sg=>?_) (λ sg=>?_)
   ·obtain ⟨hk3,hk4⟩:=hq4 sg;obtain ⟨e_sa,agx⟩:=gx ts7 (i:=((k:Int)).toNat) (by omega);obtain ⟨ox,asr⟩:=gx (script) (i:=((k:Int)).toNat) (by omega);obtain ⟨yR,rfl,Fq⟩:=hD7.2 _ _ _ agx asr;refine ⟨λ w'=>∃ m2:gL,xM (qt p) m2 (k+1)∧St w bD [eO K q m2,eS K] w',?_,?_⟩
    ·refine ⟨λ jv w'=>∃ (b:Nat) (lv:Value) (Yv:List dJ) (gc5:SV),jv = .pointer (some ⟨b,0,none⟩)∧(∀ w2,eF (λ _=>True) w2 (Flat.val yR.cut) ox.p.cut→jc Yv (dU m) w2→jc ([]:List dJ) ([]:List ep) w2→eF (λ _=>True) w2 (Flat.val gc5) (my ox (dU m) [] 9).cut)∧St w bD [cD b (Flat.enc (⟨(my ox (dU m) [] 9).kind,(my ox (dU m) [] 9).t,(my ox (dU m) [] 9).i,gc5⟩:dJ)),bK lv Yv,eS (jc Yv (dU m)),eO K q m,eS K] w',?_,?_⟩
     ·refine aQ an2 Yn (by omega) agx (λ _ ya=>have hs:=hs.drew;aD RK (ya.ext hs.aF) ?_);refine ⟨?_,?_⟩
      ·refine dB FC hs (adV hm (hs).has (hs.p1).eS (λ w' e=>St.kC (hs.p1) e)) (λ x54 sQ bY hs=>?_);refine ⟨fh RK (ya.ext hs.aF),?_⟩;refine ⟨?_,?_⟩
       ·obtain ⟨OY,hs⟩:=hs.DJ;refine eu agX (C24 ox (⟨(ox).kind,(ox).n,yR⟩:vZ) _ _ OY (dU m) [] [] 9 _ ⟨yR,rfl,cA.ext Fq hs.aF⟩ (hs).fI (hs.p1).eS (eF.nil (λ _=>True) _) jc.nil (BG hm) (by decide)) ?_;rintro _ vl ⟨azB,rfl,he,Yb⟩;have hs:=hs.ext he;obtain ⟨als,ad7,ad8⟩:=Yb.rd (hs.p1).eS jc.nil;subst ad7;refine aN hs yq (λ b_a10 vm hs=>?_);have hs:=hs.enc (cs':=Flat.enc (⟨0,0,0,⟨none,0,0⟩⟩:dJ)) rfl;refine ⟨fh RK (ya.ext hs.aF),?_⟩;refine aI (x:=(⟨(my ox (dU m) [] 9).kind,(my ox (dU m) [] 9).t,(my ox (dU m) [] 9).i,als⟩:dJ)) hs mq rfl rfl (λ sd hs=>?_)
        have hs:=hs.p4.p4.p4.p4.p4;exact ⟨_,_,_,_,rfl,ad8,hs⟩
       ·refine ⟨?_,?_⟩
        ·refine aN hs yq (λ atX v7 hs=>?_);have hs:=hs.enc (cs':=Flat.enc (⟨0,0,0,⟨none,0,0⟩⟩:dJ)) rfl;refine ⟨fh RK (ya.ext hs.aF),?_⟩;have hs:=hs.p1;obtain ⟨OY,hs⟩:=hs.DJ;refine eu agX (C24 ox (⟨(ox).kind,(ox).n,yR⟩:vZ) _ _ OY (dU m) [] [] 9 _ ⟨yR,rfl,cA.ext Fq hs.aF⟩ (hs).fI (hs.p1).eS (eF.nil (λ _=>True) _) jc.nil (BG hm) (by decide)) ?_;rintro _ yT ⟨ass,rfl,he,OZ⟩;have hs:=hs.ext he;obtain ⟨Yc,Tb,Tc⟩:=OZ.rd (hs.p1).eS jc.nil;subst Tb;refine aI (x:=(⟨(my ox (dU m) [] 9).kind,(my ox (dU m) [] 9).t,(my ox (dU m) [] 9).i,Yc⟩:dJ)) hs.p2 mq rfl rfl (λ Ch hs=>?_)
         have hs:=hs.p4.p4.p4.p4.p4;exact ⟨_,_,_,_,rfl,Tc,hs⟩
        ·trivial
      ·refine ⟨?_,?_⟩
       ·refine aN hs yq (λ atY Im hs=>?_);have hs:=hs.enc (cs':=Flat.enc (⟨0,0,0,⟨none,0,0⟩⟩:dJ)) rfl;refine ⟨fh RK (ya.ext hs.aF),?_⟩;refine dB FC hs (adV hm (hs.p1).has (hs.p2).eS (λ w' e=>St.kC (hs.p2) e)) (λ x54_1 Jp bY hs=>?_);refine ⟨fh RK (ya.ext hs.aF),?_⟩;obtain ⟨Yd,hs⟩:=hs.DJ;refine eu agX (C24 ox (⟨(ox).kind,(ox).n,yR⟩:vZ) _ _ Yd (dU m) [] [] 9 _ ⟨yR,rfl,cA.ext Fq hs.aF⟩ (hs).fI (hs.p1).eS (eF.nil (λ _=>True) _) jc.nil (BG hm) (by decide)) ?_;rintro _ Kz ⟨ast,rfl,he,O0⟩;have hs:=hs.ext he;obtain ⟨Ye,Td,Te⟩:=O0.rd (hs.p1).eS jc.nil
        subst Td;refine aI (x:=(⟨(my ox (dU m) [] 9).kind,(my ox (dU m) [] 9).t,(my ox (dU m) [] 9).i,Ye⟩:dJ)) hs.p2 mq rfl rfl (λ Mu hs=>?_);have hs:=hs.p4.p4.p4.p4.p4;exact ⟨_,_,_,_,rfl,Te,hs⟩
       ·trivial
     ·rintro _ Qm ⟨azC,lv5,Yv,gc5,rfl,asu,hs⟩ GJ;refine eu amx (asf hm (by omega) (hs.p3).has (hs.p4).eS (λ w' e=>St.kC (hs.p4) e)) ?_;rintro _ Tn ⟨agy,rfl,bY⟩;have hs:=hs.made bY;refine zq Py (fx (dB YN hs (alo hm (hs.p4).has (hs.p5).eS (λ w' e=>St.kC (hs.p5) e)) (λ x61 VG bY hs=>dB YO hs (adX (0) hm (hs.p5).has (hs.p6).eS (λ w' e=>St.kC (hs.p6) e)) (λ x63 R4 bY hs=>aZ YM hs (adW hm (hs.p6).has (hs.p7).eS (λ w' e=>St.kC (hs.p7) e)) (λ w26 he hs=>aN hs Dr (λ b_s14 w27 hs=>aI (x:=(ph m)) hs Dq rfl rfl (λ w28 hs=>aD mq hs.p4.At ?_)))))));obtain ⟨N1,m1,ev1,e1,YG,hpm1⟩:=Mn hm.pm (my ox (dU m) [] 9)
      refine bG Dd hs.p3 (H':=λ _=>eO K agy m1) (Φ:=λ v _=>v = .tuple #[Flat.val (ev1:cY),.int .i64 e1]) (λ F2 eQ eA=>?_) ?_
      ·exact Fp (N:=N1) (k:=(my ox (dU m) [] 9)) (gc:=gc5) hm (by omega) YG (Ro (yg hm) (λ x hx=>by cases hx)) eQ (λ w' hc=>((eA w' hc).p7).eS) (λ w' hc=>asu w' (AQ (cA.ext Fq (eA w' hc).aF)) ((eA w' hc).p5).eS jc.nil)
      rintro _ w29 rfl hs;refine bE rfl (bE rfl (aN hs kL (λ asw w30 hs=>aI (x:=(ev1:cY)) hs eX rfl rfl (λ w31 hs=>pop (CD _) ?_))));obtain ⟨N2,m9,ev2,e2,Mx,hpm2⟩:=Mn (hm.do YG).pm Jm;refine bG Dd hs.p1 (H':=λ _=>eO K agy m9) (Φ:=λ v _=>v = .tuple #[Flat.val (ev2:cY),.int .i64 e2]) (λ F2 eQ eA=>?_) ?_
      ·exact Fp (N:=N2) (k:=Jm) (gc:=⟨none,0,0⟩) (hm.do YG) (by omega) Mx (by decide) eQ (λ w' hc=>((eA w' hc).p8).eS) (λ w' hc=>(eF.nil (λ _=>True) w'))
      rintro _ w32 rfl hs;refine ⟨λ jv w'=>jv = .bool false∧St w bD [cD azC (Flat.enc (⟨(my ox (dU m) [] 9).kind,(my ox (dU m) [] 9).t,(my ox (dU m) [] 9).i,gc5⟩:dJ)),bK lv5 Yv,eS (jc Yv (dU m)),cD asw (Flat.enc ev1),eO K q m,eS K] w',?_,?_⟩
      ·have hs:=hs.drew;refine dB YN hs (alo hm (hs.p8).has (hs.p9).eS (λ w' e=>St.kC (hs.p9) e)) (λ x76 w33 bY hs=>aZ Ry hs (C21 _ _ (m.mem.l) (m.mem.l) _ (hs).fI (hs.p5).fI (Ta hm).1) (λ w34 he hs=>bZ (fT (by simp) (dB YO hs (adX (0) hm (hs.p9).has (hs.qK).eS (λ w' e=>St.kC (hs.qK) e)) (λ x82 w35 bY hs=>aZ Ry hs (C21 _ _ (uo m (0)) (uo m (0)) _ (hs).fI (hs.p5).fI (Ya hm 0)) (λ w36 he hs=>bZ (fT (by simp) (aD Dq hs.p4.At (aZ YM hs (adW hm (hs.qK).has (hs.p11).eS (λ w' e=>St.kC (hs.p11) e)) (λ w37 he hs=>?_))))))))));refine ⟨fh Dq hs.p4.At,?_⟩;refine Gs Us rfl rfl (S9 _) ?_
       have hs:=((((((((((((((((hs.drop)).drop)).drop).p1).drop).p1).drop).p1).drop).p5).p5).p2).p5).p5).p5;exact ⟨vb (by simp),hs⟩
      ·rintro _ w38 ⟨rfl,hs⟩ RX;refine fx (aD mq hs.At (bG Dd hs.p4 (H':=λ _=>eO K q m1) (Φ:=λ v _=>v = .tuple #[Flat.val (ev1:cY),.int .i64 e1]) (λ F2 eQ eA=>?_) ?_))
       ·exact Fp (N:=N1) (k:=(my ox (dU m) [] 9)) (gc:=gc5) hm (by omega) YG (Ro (yg hm) (λ x hx=>by cases hx)) eQ (λ w' hc=>((eA w' hc).p4).eS) (λ w' hc=>asu w' (AQ (cA.ext Fq (eA w' hc).aF)) ((eA w' hc).p2).eS jc.nil)
       rintro _ V6 rfl hs;refine bE rfl (bE rfl (aN hs kL (λ b_w17 w40 hs=>aI (x:=(ev1:cY)) hs eX rfl rfl (λ w41 hs=>?_))));refine ⟨λ jv w'=>jv = .bool false∧St w bD [eO K q m1,eS K] w',?_,?_⟩
       ·refine aD eX hs.p5.At (aD eX hs.At (Gs DE rfl rfl (ad6 _) (fT (by decide) (cS ?_))));have hs:=(((((hs.drop.p1.drop.p1.drop.p1).drop).p1).drop).p1).p1;exact ⟨vb (by simp),hs⟩
       ·rintro _ w42 ⟨rfl,hs⟩ dd6;refine fx ?_;have hs:=hs.p1.p1;exact ⟨m1,hm.do YG,hs⟩
    ·rintro w43 ⟨m2,hm2,hs⟩ dd7;refine aO (by omega) ?_;exact ⟨_,by omega,k+1,m2,rfl,rfl,by omega,hm2,hs⟩
   ·refine aZ amw hs (C14 _) (λ w44 he hs=>?_);exact ⟨rfl,hs.aF⟩
set_option maxRecDepth 100000
theorem own:ownKnob Tryz.prog.godebug=none:=by kernel_rfl
theorem rd9:xX Tryz.prog 9 ByteArray (λ y=>y.size≤maxLen):=RdT.deep (ah0 Tryz.underlying9 (by kernel_rfl)) λ _ _=>rfl
theorem Jv:xX Tryz.prog 3 Int mB:=RdT.deep (ahZ Tryz.underlying3 (by kernel_rfl)) λ _ _=>rfl
theorem asx:xX Tryz.prog 163 dF xa:=λ w=>⟨by kernel_rfl,λ enc base held fuel cs x h=>by
 obtain ⟨hl,n,hp⟩:=lY Tryz.underlying163 h
 obtain ⟨y0,h0⟩:=hp 0 _ rfl
 obtain ⟨y1,h1⟩:=hp 1 _ rfl
 obtain ⟨y2,h2⟩:=hp 2 _ rfl
 obtain ⟨s0,e0,a0,d0,k0⟩:=(rd9 w).rd enc base held n _ _ h0
 obtain ⟨s1,e1,a1,d1,k1⟩:=(Jv w).rd enc base held n _ _ h1
 obtain ⟨s2,e2,a2,d2,k2⟩:=(Jv w).rd enc base held n _ _ h2
 obtain rfl:s0=a0:=d0
 obtain rfl:s1=a1:=d1
 obtain rfl:s2=a2:=d2
 have p0:=dS (s:=1) e0
 have p1:=dS (s:=1) e1
 have p2:=dS (s:=1) e2
 have hz:cs.drop 3=[]:=List.drop_eq_nil_iff.2 (by rw [hl]; exact Nat.le_of_eq (by kernel_rfl))
 refine ⟨(⟨s0,s1,s2⟩:dF),?_,(⟨s0,s1,s2⟩:dF),rfl,k0,k1,k2⟩
 have e:cs=cs.drop 0:=rfl
 rw [e]
 refine p0.trans ?_
 refine ((congrArg _ p1)).trans ?_
 refine ((congrArg _ (congrArg _ p2))).trans ?_
 exact (congrArg _ (congrArg _ (congrArg _ hz)))⟩
theorem alu:xX Tryz.prog 23 (List dF) (λ ys:(List dF)=>∀ y∈ys,xa y):=xX.slice Tryz.underlying23 (by kernel_rfl) asx
theorem azD:xX Tryz.prog 22 (List (List dF)) (λ ys:(List (List dF))=>∀ y∈ys,(λ ys:(List dF)=>∀ y∈ys,xa y) y):=xX.slice Tryz.underlying22 (by kernel_rfl) alu
theorem azE:xX Tryz.prog 95 (List ByteArray) (λ ys:(List ByteArray)=>∀ y∈ys,(λ y:ByteArray=>y.size≤maxLen) y):=xX.slice Tryz.underlying95 (by kernel_rfl) rd9
theorem asy:xX Tryz.prog 166 cX zE:=λ w=>⟨by kernel_rfl,λ enc base held fuel cs x h=>by
 obtain ⟨hl,n,hp⟩:=lY Tryz.underlying166 h
 obtain ⟨y0,h0⟩:=hp 0 _ rfl
 obtain ⟨y1,h1⟩:=hp 1 _ rfl
 obtain ⟨y2,h2⟩:=hp 2 _ rfl
 obtain ⟨y3,h3⟩:=hp 3 _ rfl
 obtain ⟨s0,e0,a0,d0,k0⟩:=(Jv w).rd enc base held n _ _ h0
 obtain ⟨s1,e1,a1,d1,k1⟩:=(Jv w).rd enc base held n _ _ h1
 obtain ⟨s2,e2,a2,d2,k2⟩:=(rd9 w).rd enc base held n _ _ h2
 obtain ⟨s3,e3,a3,d3,k3⟩:=(Jv w).rd enc base held n _ _ h3
 obtain rfl:s0=a0:=d0
 obtain rfl:s1=a1:=d1
 obtain rfl:s2=a2:=d2
 obtain rfl:s3=a3:=d3
 have p0:=dS (s:=1) e0
 have p1:=dS (s:=1) e1
 have p2:=dS (s:=1) e2
 have p3:=dS (s:=1) e3
 have hz:cs.drop 4=[]:=List.drop_eq_nil_iff.2 (by rw [hl]; exact Nat.le_of_eq (by kernel_rfl))
 refine ⟨(⟨s0,s1,s2,s3⟩:cX),?_,(⟨s0,s1,s2,s3⟩:cX),rfl,k0,k1,k2,k3⟩
 have e:cs=cs.drop 0:=rfl
 rw [e]
 refine p0.trans ?_
 refine ((congrArg _ p1)).trans ?_
 refine ((congrArg _ (congrArg _ p2))).trans ?_
 refine ((congrArg _ (congrArg _ (congrArg _ p3)))).trans ?_
 exact (congrArg _ (congrArg _ (congrArg _ (congrArg _ hz))))⟩
theorem alv:xX Tryz.prog 86 (List cX) (λ ys:(List cX)=>∀ y∈ys,zE y):=xX.slice Tryz.underlying86 (by kernel_rfl) asy
theorem asz:xX Tryz.prog 173 cE Il:=λ w=>⟨by kernel_rfl,λ enc base held fuel cs x h=>by
 obtain ⟨hl,n,hp⟩:=lY Tryz.underlying173 h
 obtain ⟨y0,h0⟩:=hp 0 _ rfl
 obtain ⟨y1,h1⟩:=hp 1 _ rfl
 obtain ⟨y2,h2⟩:=hp 2 _ rfl
 obtain ⟨y3,h3⟩:=hp 3 _ rfl
 obtain ⟨y4,h4⟩:=hp 4 _ rfl
 obtain ⟨y5,h5⟩:=hp 5 _ rfl
 obtain ⟨y6,h6⟩:=hp 6 _ rfl
 obtain ⟨y7,h7⟩:=hp 7 _ rfl
 obtain ⟨y8,h8⟩:=hp 8 _ rfl
 obtain ⟨s0,e0,a0,d0,k0⟩:=(Jv w).rd enc base held n _ _ h0
 obtain ⟨s1,e1,a1,d1,k1⟩:=(rd9 w).rd enc base held n _ _ h1
 obtain ⟨s2,e2,a2,d2,k2⟩:=(rd9 w).rd enc base held n _ _ h2
 obtain ⟨s3,e3,a3,d3,k3⟩:=(alv w).rd enc base held n _ _ h3
 obtain ⟨s4,e4,a4,d4,k4⟩:=(alv w).rd enc base held n _ _ h4
 obtain ⟨s5,e5,a5,d5,k5⟩:=(Jv w).rd enc base held n _ _ h5
 obtain ⟨s6,e6,a6,d6,k6⟩:=(Jv w).rd enc base held n _ _ h6
 obtain ⟨s7,e7,a7,d7,k7⟩:=(Jv w).rd enc base held n _ _ h7
 obtain ⟨s8,e8,a8,d8,k8⟩:=(Jv w).rd enc base held n _ _ h8
 obtain rfl:s0=a0:=d0
 obtain rfl:s1=a1:=d1
 obtain rfl:s2=a2:=d2
 obtain rfl:s5=a5:=d5
 obtain rfl:s6=a6:=d6
 obtain rfl:s7=a7:=d7
 obtain rfl:s8=a8:=d8
 have p0:=dS (s:=1) e0
 have p1:=dS (s:=1) e1
 have p2:=dS (s:=1) e2
 have p3:=dS (s:=1) e3
 have p4:=dS (s:=1) e4
 have p5:=dS (s:=1) e5
 have p6:=dS (s:=1) e6
 have p7:=dS (s:=1) e7
 have p8:=dS (s:=1) e8
 have hz:cs.drop 9=[]:=List.drop_eq_nil_iff.2 (by rw [hl]; exact Nat.le_of_eq (by kernel_rfl))
 refine ⟨(⟨s0,s1,s2,s3,s4,s5,s6,s7,s8⟩:bX),?_,(⟨s0,s1,s2,a3,a4,s5,s6,s7,s8⟩:cE),⟨s3,s4,rfl,d3,d4⟩,k0,k1,k2,k3,k4,k5,k6,k7,k8⟩
 have e:cs=cs.drop 0:=rfl
 rw [e]
 refine p0.trans ?_
 refine ((congrArg _ p1)).trans ?_
 refine ((congrArg _ (congrArg _ p2))).trans ?_
 refine ((congrArg _ (congrArg _ (congrArg _ p3)))).trans ?_
 refine ((congrArg _ (congrArg _ (congrArg _ (congrArg _ p4))))).trans ?_
 refine ((congrArg _ (congrArg _ (congrArg _ (congrArg _ (congrArg _ p5)))))).trans ?_
 refine ((congrArg _ (congrArg _ (congrArg _ (congrArg _ (congrArg _ (congrArg _ p6))))))).trans ?_
 refine ((congrArg _ (congrArg _ (congrArg _ (congrArg _ (congrArg _ (congrArg _ (congrArg _ p7)))))))).trans ?_
 refine ((congrArg _ (congrArg _ (congrArg _ (congrArg _ (congrArg _ (congrArg _ (congrArg _ (congrArg _ p8))))))))).trans ?_
 exact (congrArg _ (congrArg _ (congrArg _ (congrArg _ (congrArg _ (congrArg _ (congrArg _ (congrArg _ (congrArg _ hz)))))))))⟩
theorem azF:xX Tryz.prog 96 (List cE) (λ ys:(List cE)=>∀ y∈ys,Il y):=xX.slice Tryz.underlying96 (by kernel_rfl) asz
theorem azG:xX Tryz.prog 98 dR xb:=λ w=>⟨by kernel_rfl,λ enc base held fuel cs x h=>by
 obtain ⟨hl,n,hp⟩:=lY Tryz.underlying98 h
 obtain ⟨y0,h0⟩:=hp 0 _ rfl
 obtain ⟨y1,h1⟩:=hp 1 _ rfl
 obtain ⟨y2,h2⟩:=hp 2 _ rfl
 obtain ⟨y3,h3⟩:=hp 3 _ rfl
 obtain ⟨s0,e0,a0,d0,k0⟩:=(rd9 w).rd enc base held n _ _ h0
 obtain ⟨s1,e1,a1,d1,k1⟩:=(azE w).rd enc base held n _ _ h1
 obtain ⟨s2,e2,a2,d2,k2⟩:=(azF w).rd enc base held n _ _ h2
 obtain ⟨s3,e3,a3,d3,k3⟩:=(Jv w).rd enc base held n _ _ h3
 obtain rfl:s0=a0:=d0
 obtain rfl:s3=a3:=d3
 have p0:=dS (s:=1) e0
 have p1:=dS (s:=1) e1
 have p2:=dS (s:=1) e2
 have p3:=dS (s:=1) e3
 have hz:cs.drop 4=[]:=List.drop_eq_nil_iff.2 (by rw [hl]; exact Nat.le_of_eq (by kernel_rfl))
 refine ⟨(⟨s0,s1,s2,s3⟩:eg),?_,(⟨s0,a1,a2,s3⟩:dR),⟨s1,s2,rfl,d1,d2⟩,k0,k1,k2,k3⟩
 have e:cs=cs.drop 0:=rfl
 rw [e]
 refine p0.trans ?_
 refine ((congrArg _ p1)).trans ?_
 refine ((congrArg _ (congrArg _ p2))).trans ?_
 refine ((congrArg _ (congrArg _ (congrArg _ p3)))).trans ?_
 exact (congrArg _ (congrArg _ (congrArg _ (congrArg _ hz))))⟩
theorem asA:xX Tryz.prog 24 (List dR) (λ ys:(List dR)=>∀ y∈ys,xb y):=xX.slice Tryz.underlying24 (by kernel_rfl) azG
theorem azH:xX Tryz.prog 89 ju DP:=λ w=>⟨by kernel_rfl,λ enc base held fuel cs x h=>by
 obtain ⟨hl,n,hp⟩:=lY Tryz.underlying89 h
 obtain ⟨y0,h0⟩:=hp 0 _ rfl
 obtain ⟨y1,h1⟩:=hp 1 _ rfl
 obtain ⟨s0,e0,a0,d0,k0⟩:=(alv w).rd enc base held n _ _ h0
 obtain ⟨s1,e1,a1,d1,k1⟩:=(Jv w).rd enc base held n _ _ h1
 obtain rfl:s1=a1:=d1
 have p0:=dS (s:=1) e0
 have p1:=dS (s:=1) e1
 have hz:cs.drop 2=[]:=List.drop_eq_nil_iff.2 (by rw [hl]; exact Nat.le_of_eq (by kernel_rfl))
 refine ⟨(⟨s0,s1⟩:lI),?_,(⟨a0,s1⟩:ju),⟨s0,rfl,d0⟩,k0,k1⟩
 have e:cs=cs.drop 0:=rfl
 rw [e]
 refine p0.trans ?_
 refine ((congrArg _ p1)).trans ?_
 exact (congrArg _ (congrArg _ hz))⟩
theorem azI:xX Tryz.prog 25 (List ju) (λ ys:(List ju)=>∀ y∈ys,DP y):=xX.slice Tryz.underlying25 (by kernel_rfl) azH
theorem rd27:xX Tryz.prog 27 cU abz:=λ w=>⟨by kernel_rfl,λ enc base held fuel cs x h=>by
 obtain ⟨hl,n,hp⟩:=lY Tryz.underlying27 h
 obtain ⟨y0,h0⟩:=hp 0 _ rfl
 obtain ⟨y1,h1⟩:=hp 1 _ rfl
 obtain ⟨y2,h2⟩:=hp 2 _ rfl
 obtain ⟨y3,h3⟩:=hp 3 _ rfl
 obtain ⟨y4,h4⟩:=hp 4 _ rfl
 obtain ⟨y5,h5⟩:=hp 5 _ rfl
 obtain ⟨s0,e0,a0,d0,k0⟩:=(azD w).rd enc base held n _ _ h0
 obtain ⟨s1,e1,a1,d1,k1⟩:=(alu w).rd enc base held n _ _ h1
 obtain ⟨s2,e2,a2,d2,k2⟩:=(alu w).rd enc base held n _ _ h2
 obtain ⟨s3,e3,a3,d3,k3⟩:=(asA w).rd enc base held n _ _ h3
 obtain ⟨s4,e4,a4,d4,k4⟩:=(asA w).rd enc base held n _ _ h4
 obtain ⟨s5,e5,a5,d5,k5⟩:=(azI w).rd enc base held n _ _ h5
 have p0:=dS (s:=1) e0
 have p1:=dS (s:=1) e1
 have p2:=dS (s:=1) e2
 have p3:=dS (s:=1) e3
 have p4:=dS (s:=1) e4
 have p5:=dS (s:=1) e5
 have hz:cs.drop 6=[]:=List.drop_eq_nil_iff.2 (by rw [hl]; exact Nat.le_of_eq (by kernel_rfl))
 refine ⟨(⟨s0,s1,s2,s3,s4,s5⟩:bN),?_,(⟨a0,a1,a2,a3,a4,a5⟩:cU),⟨s0,s1,s2,s3,s4,s5,rfl,d0,d1,d2,d3,d4,d5⟩,k0,k1,k2,k3,k4,k5⟩
 have e:cs=cs.drop 0:=rfl
 rw [e]
 refine p0.trans ?_
 refine ((congrArg _ p1)).trans ?_
 refine ((congrArg _ (congrArg _ p2))).trans ?_
 refine ((congrArg _ (congrArg _ (congrArg _ p3)))).trans ?_
 refine ((congrArg _ (congrArg _ (congrArg _ (congrArg _ p4))))).trans ?_
 refine ((congrArg _ (congrArg _ (congrArg _ (congrArg _ (congrArg _ p5)))))).trans ?_
 exact (congrArg _ (congrArg _ (congrArg _ (congrArg _ (congrArg _ (congrArg _ hz))))))⟩
theorem azJ:xX Tryz.prog 28 (List Int) (λ ys:(List Int)=>∀ y∈ys,mB y):=xX.slice Tryz.underlying28 (by kernel_rfl) Jv
theorem azK:xX Tryz.prog 52 ep PO:=λ w=>⟨by kernel_rfl,λ enc base held fuel cs x h=>by
 obtain ⟨hl,n,hp⟩:=lY Tryz.underlying52 h
 obtain ⟨y0,h0⟩:=hp 0 _ rfl
 obtain ⟨y1,h1⟩:=hp 1 _ rfl
 obtain ⟨y2,h2⟩:=hp 2 _ rfl
 obtain ⟨y3,h3⟩:=hp 3 _ rfl
 obtain ⟨s0,e0,a0,d0,k0⟩:=(Jv w).rd enc base held n _ _ h0
 obtain ⟨s1,e1,a1,d1,k1⟩:=(Jv w).rd enc base held n _ _ h1
 obtain ⟨s2,e2,a2,d2,k2⟩:=(Jv w).rd enc base held n _ _ h2
 obtain ⟨s3,e3,a3,d3,k3⟩:=(azJ w).rd enc base held n _ _ h3
 obtain rfl:s0=a0:=d0
 obtain rfl:s1=a1:=d1
 obtain rfl:s2=a2:=d2
 have p0:=dS (s:=1) e0
 have p1:=dS (s:=1) e1
 have p2:=dS (s:=1) e2
 have p3:=dS (s:=1) e3
 have hz:cs.drop 4=[]:=List.drop_eq_nil_iff.2 (by rw [hl]; exact Nat.le_of_eq (by kernel_rfl))
 refine ⟨(⟨s0,s1,s2,s3⟩:dJ),?_,(⟨s0,s1,s2,a3⟩:ep),⟨s3,rfl,d3⟩,k0,k1,k2,k3⟩
 have e:cs=cs.drop 0:=rfl
 rw [e]
 refine p0.trans ?_
 refine ((congrArg _ p1)).trans ?_
 refine ((congrArg _ (congrArg _ p2))).trans ?_
 refine ((congrArg _ (congrArg _ (congrArg _ p3)))).trans ?_
 exact (congrArg _ (congrArg _ (congrArg _ (congrArg _ hz))))⟩
theorem rd64:xX Tryz.prog 64 FJ ah3:=λ w=>⟨by kernel_rfl,λ enc base held fuel cs x h=>by
 obtain ⟨hl,n,hp⟩:=lY Tryz.underlying64 h
 obtain ⟨y0,h0⟩:=hp 0 _ rfl
 obtain ⟨y1,h1⟩:=hp 1 _ rfl
 obtain ⟨y2,h2⟩:=hp 2 _ rfl
 obtain ⟨s0,e0,a0,d0,k0⟩:=(Jv w).rd enc base held n _ _ h0
 obtain ⟨s1,e1,a1,d1,k1⟩:=(Jv w).rd enc base held n _ _ h1
 obtain ⟨s2,e2,a2,d2,k2⟩:=(azK w).rd enc base held n _ _ h2
 obtain rfl:s0=a0:=d0
 obtain rfl:s1=a1:=d1
 have p0:=dS (s:=1) e0
 have p1:=dS (s:=1) e1
 have p2:=dS (s:=4) e2
 have hz:cs.drop 6=[]:=List.drop_eq_nil_iff.2 (by rw [hl]; exact Nat.le_of_eq (by kernel_rfl))
 refine ⟨(⟨s0,s1,s2⟩:vZ),?_,(⟨s0,s1,a2⟩:FJ),⟨s2,rfl,d2⟩,k0,k1,k2⟩
 have e:cs=cs.drop 0:=rfl
 rw [e]
 refine p0.trans ?_
 refine ((congrArg _ p1)).trans ?_
 refine ((congrArg _ (congrArg _ p2))).trans ?_
 exact (congrArg _ (congrArg _ (congrArg _ hz)))⟩
end Go.Proofs.YtnjcingfdhjfkaaGreat
