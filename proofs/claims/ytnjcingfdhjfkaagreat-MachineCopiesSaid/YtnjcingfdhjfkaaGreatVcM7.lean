/-
  What the proof needs, part 7.
-/
import Derived.Test.YtnjcingfdhjfkaaGreatVcM6
set_option linter.all false
namespace Go.Proofs.YtnjcingfdhjfkaaGreat
open Go.Fw
structure fN where
 at_:Int
 e:Int
 pos:Int
deriving DecidableEq
def iU (l:List bF) (s:fN) (e:Int):fN:=if s.e=0 then {s with e:=if (l.length:Int)≤s.at_ then 6 else e,pos:=mM l s.at_} else s
def dN (l:List bF) (s:fN) (t:ByteArray):fN:=if (decide (s.e=0) && sD l s.at_ t)=true then {s with at_:=s.at_+1} else iU l s 5
def ky (l:List bF) (i:Int):Option bF:=if 0≤i then l[i.toNat]? else none
def sE (l:List bF) (s:fN):Bool:=decide (s.e=0) && (match ky l s.at_ with | some t=>decide (t.kind=1) && jX t.text | none=>false)
def oG (l:List bF) (i:Int):bF:=(ky l i).getD ⟨0,⟨#[]⟩,0,0⟩
def cR (l:List bF) (s:fN):fN × ByteArray:=if sE l s=true then ({s with at_:=s.at_+1},(oG l s.at_).text) else (iU l s 5,⟨#[]⟩)
def qq (l:List bF) (s:fN):Option (fN × List cX):=if s.e≠0 then some (s,[]) else (vw l s.at_).bind λ R=>
 if R.2.2.1≠0 then some ({s with e:=R.2.2.1,pos:=R.2.2.2},[]) else if 0≤R.2.1∧R.2.1≤l.length then some ({s with at_:=R.2.1},R.1) else none
def Oy (l:List bF) (s:fN):Bool:=decide (s.e=0) && (match ky l s.at_ with | some t=>decide (t.kind=2) | none=>false)
def kz (l:List bF) (s:fN):fN × Int:=if Oy l s=true then (if 1≤(oG l s.at_).n∧(oG l s.at_).n≤8 then ({s with at_:=s.at_+1},(oG l s.at_).n) else (iU l s 11,0)) else (iU l s 5,0)
def CV:List ByteArray:=[⟨#[]⟩,⟨#[]⟩,⟨#[108,111,97,100]⟩,⟨#[115,116,111,114,101]⟩,⟨#[99,97,115]⟩,⟨#[102,108,117,115,104]⟩,⟨#[111,112,116]⟩,⟨#[115,102,101,110,99,101]⟩,⟨#[109,102,101,110,99,101]⟩,⟨#[116,97,107,101]⟩,⟨#[103,105,118,101]⟩,⟨#[105,102]⟩,⟨#[108,111,111,112]⟩,⟨#[98,114,101,97,107]⟩,⟨#[99,104,101,99,107]⟩]
def Hh (k:Int):ByteArray:=(CV[k.toNat]?).getD ⟨#[]⟩
def lM (l:List bF) (s:fN):Prop:=0≤s.at_∧s.at_≤l.length
section
variable {l:List bF} {s:fN} {e:Int} {t:ByteArray}
theorem sF (h:lM l s):lM l (iU l s e):=by unfold iU; split <;> exact h
theorem fz (h:lM l s):lM l (dN l s t):=by
 unfold dN; split
 ·rename_i h2
  rw [Bool.and_eq_true] at h2
  have:=rH h2.2
  exact ⟨by show 0≤s.at_+1; omega,by show s.at_+1≤_; omega⟩
 ·exact sF h
theorem mh {i:Int} {k:bF} (h:ky l i=some k):0≤i∧i<l.length∧l[i.toNat]? = some k:=by
 unfold ky at h
 split at h
 ·have:=(List.getElem?_eq_some_iff.1 h).1; exact ⟨by omega,by omega,h⟩
 ·cases h
theorem AG (h:sE l s=true):s.e=0∧∃ k,ky l s.at_=some k∧k.kind=1∧jX k.text=true:=by
 unfold sE at h
 rw [Bool.and_eq_true,decide_eq_true_eq] at h
 refine ⟨h.1,?_⟩
 cases hk:ky l s.at_ with
 | none=>rw [hk] at h; cases h.2
 | some k=>
  rw [hk] at h
  have:=h.2; dsimp only at this
  rw [Bool.and_eq_true,decide_eq_true_eq] at this
  exact ⟨k,rfl,this⟩
theorem QX (h:Oy l s=true):s.e=0∧∃ k,ky l s.at_=some k∧k.kind=2:=by
 unfold Oy at h
 rw [Bool.and_eq_true,decide_eq_true_eq] at h
 refine ⟨h.1,?_⟩
 cases hk:ky l s.at_ with
 | none=>rw [hk] at h; cases h.2
 | some k=>rw [hk] at h; exact ⟨k,rfl,by simpa using h.2⟩
theorem gw (h:lM l s):lM l (cR l s).1:=by
 unfold cR; split
 ·rename_i h2
  obtain ⟨_,k,hk,_⟩:=AG h2
  have:=mh hk
  exact ⟨by show 0≤s.at_+1; omega,by show s.at_+1≤_; omega⟩
 ·exact sF h
theorem SG (h:lM l s):lM l (kz l s).1:=by
 unfold kz; split
 ·rename_i h2
  obtain ⟨_,k,hk,_⟩:=QX h2
  have:=mh hk
  split
  ·exact ⟨by show 0≤s.at_+1; omega,by show s.at_+1≤_; omega⟩
  ·exact sF h
 ·exact sF h
theorem rI {s':fN} {x:List cX} (h:lM l s) (he:qq l s=some (s',x)):lM l s':=by
 unfold qq at he
 split at he
 ·cases he; exact h
 ·cases hx:vw l s.at_ with
  | none=>rw [hx] at he; cases he
  | some R=>
   rw [hx] at he
   simp only [Option.bind_some] at he
   split at he
   ·cases he; exact h
   ·split at he
    ·rename_i h2; cases he; exact h2
    ·cases he
end
@[reducible] def dV (lv ov:Value) (s:fN):List Value:=[lv,.int .i64 s.at_,.int .i64 s.e,.int .i64 s.pos,ov]
@[reducible] def ee (lv:Value) (s:fN):List Value:=[lv,.int .i64 s.at_,.int .i64 s.e,.int .i64 s.pos]
def gM (l:List bF) (s:fN) (t:ByteArray):fN × Bool:=if (decide (s.e=0) && sD l s.at_ t)=true then ({s with at_:=s.at_+1},true) else (s,false)
def eW (l:List bF) (s:fN):fN × dF:=if sE l s=true then ({s with at_:=s.at_+1},⟨(oG l s.at_).text,0,(oG l s.at_).at_⟩) else (iU l s 5,⟨⟨#[]⟩,0,0⟩)
theorem jU {l:List bF} {s:fN} {t:ByteArray} (h:lM l s):lM l (gM l s t).1:=by
 unfold gM; split
 ·rename_i h2
  rw [Bool.and_eq_true] at h2
  have:=rH h2.2
  exact ⟨by show 0≤s.at_+1; omega,by show s.at_+1≤_; omega⟩
 ·exact h
theorem uy {l:List bF} {s:fN} (h:lM l s):lM l (eW l s).1:=by
 unfold eW; split
 ·rename_i h2
  obtain ⟨_,k,hk,_⟩:=AG h2
  have:=mh hk
  exact ⟨by show 0≤s.at_+1; omega,by show s.at_+1≤_; omega⟩
 ·exact sF h
theorem Xp {l:List bF} {s s2:fN} {x:List cX} (h:qq l s=some (s2,x)) (he:¬ s.e≠0):∃ R,vw l s.at_=some R∧
  (if R.2.2.1≠0 then some ({s with e:=R.2.2.1,pos:=R.2.2.2},[]) else if 0≤R.2.1∧R.2.1≤l.length then some ({s with at_:=R.2.1},R.1) else none)=some (s2,x):=by
 unfold qq at h; rw [if_neg he] at h
 cases hx:vw l s.at_ with
 | none=>rw [hx] at h; cases h
 | some R=>rw [hx] at h; exact ⟨R,rfl,h⟩
theorem Xq {l:List bF} {s s2:fN} {x:List cX} {R:List cX × Int × Int × Int} (h:(if R.2.2.1≠0 then some ({s with e:=R.2.2.1,pos:=R.2.2.2},[]) else if 0≤R.2.1∧R.2.1≤l.length then some ({s with at_:=R.2.1},R.1) else none)=some (s2,x)) (he:¬ R.2.2.1≠0):0≤R.2.1∧R.2.1≤l.length:=by
 rw [if_neg he] at h
 split at h
 ·assumption
 ·cases h
theorem C254 (p:Nat) (lv ov:Value) (l:List bF) (s:fN) (e:Int) (F:Nat→Prop) (w:World) (hF:(cD p (dV lv ov s)).p w F) (hT:∀ w',ix F w w'→eF (λ _=>True) w' lv l) (hk:ir l) (h0:lM l s):CR 254 [(.pointer (some ⟨p,0,none⟩)),.int .i64 e] w (λ v w'=>v = .tuple #[]∧qj F (cD p (dV lv ov (iU l s e))) w w'):=by
 have hs:=St.begin hF;have Fu:=hk.n;have hn:l.length≤1000000:=by omega
 have sS:=hk.at_;obtain ⟨QY,QZ⟩:=id h0;refine aa1 _ _ _ _ ?_;unfold S254;refine aE (aA kj (aB nj hs.hb rfl (aH (aC (λ gn=>?_) (λ gn=>?_)))))
 ·refine aE (aA kj (aV hs nj (eJ rfl) (rfl) (λ w1 hs=>?_)));refine ⟨_,?_,λ _ h=>h⟩;refine aE (aA eU (have hs:=hs.drew;aB bL hs.hb rfl (aE (aA gO (aB iK hs.hb rfl (aJ fC (hT _ hs.aF) (dG (aC (λ iL=>?_) (λ iL=>?_)))))))))
  ·refine aE (aA kj (aV hs nj (eJ rfl) (rfl) (λ w2 hs=>?_)));intro fB;refine aE (aA gO (have hs:=hs.drew;aB iK hs.hb rfl (aE (aA eU (aB bL hs.hb rfl (aZ Gk hs (C215 _ l s.at_ _ (hT _ hs.aF) hn sS) (λ w4 he hs=>aE (aA zC (aV hs bL (eJ rfl) (rfl) (λ w5 hs=>?_))))))))));have hb:iU l s e=(⟨s.at_,6,(mM l s.at_)⟩:fN):=by unfold iU; rw [if_pos gn,if_pos iL]
   rw [hb];exact ⟨rfl,hs.mut⟩
  ·intro fB;refine aE (aA gO (have hs:=hs.drew;aB iK hs.hb rfl (aE (aA eU (aB bL hs.hb rfl (aZ Gk hs (C215 _ l s.at_ _ (hT _ hs.aF) hn sS) (λ w4 he hs=>aE (aA zC (aV hs bL (eJ rfl) (rfl) (λ w5 hs=>?_))))))))));have hb:iU l s e=(⟨s.at_,e,(mM l s.at_)⟩:fN):=by unfold iU; rw [if_pos gn,if_neg iL]
   rw [hb];exact ⟨rfl,hs.mut⟩
 ·have hb:iU l s e=s:=by unfold iU; rw [if_neg gn]
  rw [hb];exact ⟨rfl,hs.mut⟩
theorem C170 (p:Nat) (lv:Value) (l:List bF) (s:fN) (F:Nat→Prop) (w:World) (hF:(cD p (ee lv s)).p w F) (hT:∀ w',ix F w w'→eF (λ _=>True) w' lv l) (hk:ir l) (h0:lM l s):CR 170 [(.pointer (some ⟨p,0,none⟩))] w (λ v w'=>v = .tuple #[]∧qj F (cD p (ee lv (iU l s 5))) w w'):=by
 have hs:=St.begin hF;have Fu:=hk.n;have hn:l.length≤1000000:=by omega
 have sS:=hk.at_;obtain ⟨QY,QZ⟩:=id h0;refine ZN _ _ _ ?_;unfold S170;refine aE (aA lU (aB nj hs.hb rfl (aH (aC (λ pC=>?_) (λ pC=>?_)))))
 ·refine aE (aA lU (aV hs nj (eJ rfl) (rfl) (λ w1 hs=>?_)));refine ⟨_,?_,λ _ h=>h⟩;refine aE (aA fm (have hs:=hs.drew;aB bL hs.hb rfl (aE (aA jE (aB iK hs.hb rfl (aJ fC (hT _ hs.aF) (dG (aC (λ fw=>?_) (λ fw=>?_)))))))))
  ·refine aE (aA lU (aV hs nj (eJ rfl) (rfl) (λ w2 hs=>?_)));intro fB;refine aE (aA jE (have hs:=hs.drew;aB iK hs.hb rfl (aE (aA fm (aB bL hs.hb rfl (aZ Gk hs (C215 _ l s.at_ _ (hT _ hs.aF) hn sS) (λ w4 he hs=>aE (aA vR (aV hs bL (eJ rfl) (rfl) (λ w5 hs=>?_))))))))));have hb:iU l s 5=(⟨s.at_,6,(mM l s.at_)⟩:fN):=by unfold iU; rw [if_pos pC,if_pos fw]
   rw [hb];exact ⟨rfl,hs.mut⟩
  ·intro fB;refine aE (aA jE (have hs:=hs.drew;aB iK hs.hb rfl (aE (aA fm (aB bL hs.hb rfl (aZ Gk hs (C215 _ l s.at_ _ (hT _ hs.aF) hn sS) (λ w4 he hs=>aE (aA vR (aV hs bL (eJ rfl) (rfl) (λ w5 hs=>?_))))))))));have hb:iU l s 5=(⟨s.at_,5,(mM l s.at_)⟩:fN):=by unfold iU; rw [if_pos pC,if_neg fw]
   rw [hb];exact ⟨rfl,hs.mut⟩
 ·have hb:iU l s 5=s:=by unfold iU; rw [if_neg pC]
  rw [hb];exact ⟨rfl,hs.mut⟩
theorem C234 (p:Nat) (lv ov:Value) (l:List bF) (s:fN) (t:ByteArray) (F:Nat→Prop) (w:World) (hF:(cD p (dV lv ov s)).p w F) (hT:∀ w',ix F w w'→eF (λ _=>True) w' lv l) (hk:ir l) (h0:lM l s):CR 234 [(.pointer (some ⟨p,0,none⟩)),.string t] w (λ v w'=>v = .tuple #[]∧qj F (cD p (dV lv ov (dN l s t))) w w'):=by
 have hs:=St.begin hF;have Fu:=hk.n;have hn:l.length≤1000000:=by omega
 have sS:=hk.at_;obtain ⟨QY,QZ⟩:=id h0;refine aaH _ _ _ _ ?_;unfold S234;refine ⟨λ jv w'=>jv = .bool (decide (s.e=0) && sD l s.at_ t)∧St w F [cD p (dV lv ov s)] w',?_,?_⟩
 ·refine aE (aA kj (have hs:=hs.drew;aB nj hs.hb rfl (aH (aC (λ gn=>?_) (λ gn=>?_)))))
  ·refine aE (aA gO (aB iK hs.hb rfl (aE (aA eU (aB bL hs.hb rfl (aZ vj hs (C211 _ l s.at_ t _ (hT _ hs.aF) hn) (λ w1 he hs=>?_)))))));exact ⟨vb (by first | (rw [decide_eq_true gn]; rfl) | (rw [decide_eq_false gn]; rfl)),hs⟩
  ·exact ⟨vb (by first | (rw [decide_eq_true gn]; rfl) | (rw [decide_eq_false gn]; rfl)),hs⟩
 ·rintro _ w2 ⟨rfl,hs⟩ fB;refine aX (λ js=>?_) (λ js=>?_)
  ·have ayP:=rH (by rw [Bool.and_eq_true] at js; exact js.2);refine aE (aA eU (aB bL hs.hb rfl (aO (by omega) (aE (aA eU (aV hs bL (eJ rfl) (rfl) (λ w3 hs=>?_)))))));have hb:dN l s t={s with at_:=s.at_+1}:=by unfold dN; rw [if_pos (by simpa using js)]
   rw [hb];exact ⟨rfl,hs.mut⟩
  ·refine bG Gn hs (H':=λ _=>cD p (dV lv ov (iU l s 5))) (Φ:=λ _ _=>True) (λ F2 eQ eA=>?_) ?_
   ·exact (C254 p lv ov l s 5 F2 _ eQ (λ w' hc=>hT w' (eA w' hc).aF) hk h0).mono λ _ _ r=>r.mono λ _ _ h=>⟨trivial,h.2⟩
   rintro _ w4 _ hs;have hb:dN l s t=iU l s 5:=by unfold dN; rw [if_neg (by simpa using js)]
   rw [hb];exact ⟨rfl,hs.mut⟩
theorem C165 (p:Nat) (lv:Value) (l:List bF) (s:fN) (t:ByteArray) (F:Nat→Prop) (w:World) (hF:(cD p (ee lv s)).p w F) (hT:∀ w',ix F w w'→eF (λ _=>True) w' lv l) (hk:ir l) (h0:lM l s):CR 165 [(.pointer (some ⟨p,0,none⟩)),.string t] w (λ v w'=>v = .bool (gM l s t).2∧qj F (cD p (ee lv (gM l s t).1)) w w'):=by
 have hs:=St.begin hF;have Fu:=hk.n;have hn:l.length≤1000000:=by omega
 have sS:=hk.at_;obtain ⟨QY,QZ⟩:=id h0;refine ZI _ _ _ _ ?_;unfold S165;refine ⟨λ jv w'=>jv = .bool (decide (s.e=0) && sD l s.at_ t)∧St w F [cD p (ee lv s)] w',?_,?_⟩
 ·refine aE (aA lU (have hs:=hs.drew;aB nj hs.hb rfl (aH (aC (λ gu=>?_) (λ gu=>?_)))))
  ·refine aE (aA jE (aB iK hs.hb rfl (aE (aA fm (aB bL hs.hb rfl (aZ vj hs (C211 _ l s.at_ t _ (hT _ hs.aF) hn) (λ w1 he hs=>?_)))))));exact ⟨vb (by first | (rw [decide_eq_true gu]; rfl) | (rw [decide_eq_false gu]; rfl)),hs⟩
  ·exact ⟨vb (by first | (rw [decide_eq_true gu]; rfl) | (rw [decide_eq_false gu]; rfl)),hs⟩
 ·rintro _ w2 ⟨rfl,hs⟩ fB;refine aX (λ gr=>?_) (λ gr=>?_)
  ·have ayP:=rH (by rw [Bool.and_eq_true] at gr; exact gr.2);refine aE (aA fm (aB bL hs.hb rfl (aO (by omega) (aE (aA fm (aV hs bL (eJ rfl) (rfl) (λ w3 hs=>?_)))))));have hb:gM l s t=({s with at_:=s.at_+1},true):=by unfold gM; rw [if_pos (by simpa using gr)]
   rw [hb];exact ⟨rfl,hs.mut⟩
  ·have hb:gM l s t=(s,false):=by unfold gM; rw [if_neg (by simpa using gr)]
   rw [hb];exact ⟨rfl,hs.mut⟩
theorem C212 (p:Nat) (lv:Value) (l:List bF) (s:fN) (t:ByteArray) (F:Nat→Prop) (w:World) (hF:(cD p (ee lv s)).p w F) (hT:∀ w',ix F w w'→eF (λ _=>True) w' lv l) (hk:ir l) (h0:lM l s):CR 212 [(.pointer (some ⟨p,0,none⟩)),.string t] w (λ v w'=>v = .tuple #[]∧qj F (cD p (ee lv (dN l s t))) w w'):=by
 have hs:=St.begin hF;have Fu:=hk.n;have hn:l.length≤1000000:=by omega
 have sS:=hk.at_;obtain ⟨QY,QZ⟩:=id h0;refine aam _ _ _ _ ?_;unfold S212;refine bG xP hs (H':=λ _=>cD p (ee lv (gM l s t).1)) (Φ:=λ v _=>v = .bool (gM l s t).2) (λ F2 eQ eA=>?_) ?_
 ·exact C165 p lv l s t F2 _ eQ (λ w' hc=>hT w' (eA w' hc).aF) hk h0
 rintro _ w1 rfl hs;refine bZ (aX (λ iP=>?_) (λ iP=>?_))
 ·refine bG Pl hs (H':=λ _=>cD p (ee lv (iU l (gM l s t).1 5))) (Φ:=λ _ _=>True) (λ F2 eQ eA=>?_) ?_
  ·exact (C170 p lv l (gM l s t).1 F2 _ eQ (λ w' hc=>hT w' (eA w' hc).aF) hk (jU h0)).mono λ _ _ r=>r.mono λ _ _ h=>⟨trivial,h.2⟩
  rintro _ w2 _ hs
  have tu:dN l s t=iU l (gM l s t).1 5:=by
   have h7:(gM l s t).2=false:=by simpa using iP
   unfold gM at h7 ⊢; unfold dN
   split at h7
   ·cases h7
   ·rename_i h8; rw [if_neg h8,if_neg h8]
  rw [tu];exact ⟨rfl,hs.mut⟩
 ·have tu:dN l s t=(gM l s t).1:=by
   have h7:(gM l s t).2=true:=by simpa using iP
   unfold gM at h7 ⊢; unfold dN
   split at h7
   ·rename_i h8; rw [if_pos h8,if_pos h8]
   ·cases h7
  rw [tu];exact ⟨rfl,hs.mut⟩
theorem C260 (p:Nat) (lv ov:Value) (l:List bF) (s:fN) (F:Nat→Prop) (w:World) (hF:(cD p (dV lv ov s)).p w F) (hT:∀ w',ix F w w'→eF (λ _=>True) w' lv l) (hk:ir l) (h0:lM l s):CR 260 [(.pointer (some ⟨p,0,none⟩))] w (λ v w'=>v = .string (cR l s).2∧qj F (cD p (dV lv ov (cR l s).1)) w w'):=by
 have hs:=St.begin hF;have Fu:=hk.n;have hn:l.length≤1000000:=by omega
 have sS:=hk.at_;obtain ⟨QY,QZ⟩:=id h0;refine aa7 _ _ _ ?_;unfold S260;refine ⟨λ jv w'=>jv = .bool (sE l s)∧St w F [cD p (dV lv ov s)] w',?_,?_⟩
 ·refine aE (aA kj (have hs:=hs.drew;aB nj hs.hb rfl (aH (aC (λ iP=>?_) (λ iP=>?_)))))
  ·refine aE (aA eU (aB bL hs.hb rfl (aE (aA gO (aB iK hs.hb rfl (aJ fC (hT _ hs.aF) (aR (aC (λ gd=>?_) (λ gd=>?_)))))))))
   ·refine aE (aA gO (aB iK hs.hb rfl (aE (aA eU (aB bL hs.hb rfl ?_)))));obtain ⟨B0,lD⟩:=gx (l) (i:=(s.at_).toNat) (by omega);refine aQ fC (hT _ hs.aF) (by omega) lD (λ _ D0=>bT (B0).kind kZ D0 rfl rfl (λ _ od=>aD bL (od) (aH (aC (λ jH=>?_) (λ jH=>?_)))))
    ·refine aE (aA gO (aB iK hs.hb rfl (aE (aA eU (aB bL hs.hb rfl (aQ fC (hT _ hs.aF) (by omega) lD (λ _ yd=>bT (B0).text mX yd rfl rfl (λ _ AD=>aD j4 (AD) (aZ tA hs (C161 _ _ (by have:=sS _ (List.mem_of_getElem? lD); omega)) (λ w1 he hs=>?_))))))))));exact ⟨vb (by unfold sE ky; first | (rw [decide_eq_false iP]; rfl) | (rw [if_pos (by omega),List.getElem?_eq_none (by omega)]; simp; done) | (rw [if_pos (by omega),lD,decide_eq_true iP]; dsimp only; first | (rw [decide_eq_false jH]; rfl) | (rw [decide_eq_true jH]; rfl))),hs⟩
    ·exact ⟨vb (by unfold sE ky; first | (rw [decide_eq_false iP]; rfl) | (rw [if_pos (by omega),List.getElem?_eq_none (by omega)]; simp; done) | (rw [if_pos (by omega),lD,decide_eq_true iP]; dsimp only; first | (rw [decide_eq_false jH]; rfl) | (rw [decide_eq_true jH]; rfl))),hs⟩
   ·exact ⟨vb (by unfold sE ky; first | (rw [decide_eq_false iP]; rfl) | (rw [if_pos (by omega),List.getElem?_eq_none (by omega)]; simp; done) | (rw [if_pos (by omega),lD,decide_eq_true iP]; dsimp only; first | (rw [decide_eq_false jH]; rfl) | (rw [decide_eq_true jH]; rfl))),hs⟩
  ·exact ⟨vb (by unfold sE ky; first | (rw [decide_eq_false iP]; rfl) | (rw [if_pos (by omega),List.getElem?_eq_none (by omega)]; simp; done) | (rw [if_pos (by omega),lD,decide_eq_true iP]; dsimp only; first | (rw [decide_eq_false jH]; rfl) | (rw [decide_eq_true jH]; rfl))),hs⟩
 ·rintro _ w2 ⟨rfl,hs⟩ fB;refine aX (λ rk=>?_) (λ rk=>?_)
  ·obtain ⟨_,tk,AR,_,_⟩:=AG rk;obtain ⟨ary,arz,akJ⟩:=mh AR;have SF:l[(s.at_+1 - 1).toNat]? = some tk:=by rw [← akJ]; congr 2; omega
   refine aE (aA eU (aB bL hs.hb rfl (aO (by omega) (aE (aA eU (aV hs bL (eJ rfl) (rfl) (λ w3 hs=>aE (aA gO (have hs:=hs.drew;aB iK hs.hb rfl (aE (aA eU (aB bL hs.hb rfl ?_))))))))))));refine gy (by omega) (aQ fC (hT _ hs.aF) (by omega) SF (λ _ BW=>bT (tk).text mX BW rfl rfl (λ _ Xr=>aD j4 (Xr) ?_)));have hb:cR l s=({s with at_:=s.at_+1},tk.text):=by unfold cR; rw [if_pos rk]; unfold oG; rw [AR]; rfl
   rw [hb];exact ⟨rfl,hs.mut⟩
  ·refine bG Gn hs (H':=λ _=>cD p (dV lv ov (iU l s 5))) (Φ:=λ _ _=>True) (λ F2 eQ eA=>?_) ?_
   ·exact (C254 p lv ov l s 5 F2 _ eQ (λ w' hc=>hT w' (eA w' hc).aF) hk h0).mono λ _ _ r=>r.mono λ _ _ h=>⟨trivial,h.2⟩
   rintro _ w4 _ hs;have hb:cR l s=(iU l s 5,⟨#[]⟩):=by unfold cR; rw [if_neg (by simpa using rk)]
   rw [hb];exact ⟨rfl,hs.mut⟩
theorem C167 (p:Nat) (lv:Value) (l:List bF) (s:fN) (F:Nat→Prop) (w:World) (hF:(cD p (ee lv s)).p w F) (hT:∀ w',ix F w w'→eF (λ _=>True) w' lv l) (hk:ir l) (h0:lM l s):CR 167 [(.pointer (some ⟨p,0,none⟩))] w (λ v w'=>v=Flat.val (eW l s).2∧qj F (cD p (ee lv (eW l s).1)) w w'):=by
 have hs:=St.begin hF;have Fu:=hk.n;have hn:l.length≤1000000:=by omega
 have sS:=hk.at_;obtain ⟨QY,QZ⟩:=id h0;refine ZK _ _ _ ?_;unfold S167;refine aN hs CC (λ lZ w1 hs=>?_);refine ⟨λ jv w'=>jv = .bool (sE l s)∧St w F [cD p (ee lv s),cD lZ (Flat.enc (⟨ByteArray.mk #[],0,0⟩:dF))] w',?_,?_⟩
 ·refine aE (aA lU (have hs:=hs.drew;aB nj hs.p1.hb rfl (aH (aC (λ iP=>?_) (λ iP=>?_)))))
  ·refine aE (aA fm (aB bL hs.p1.hb rfl (aE (aA jE (aB iK hs.p1.hb rfl (aJ fC (hT _ hs.aF) (aR (aC (λ gd=>?_) (λ gd=>?_)))))))))
   ·refine aE (aA jE (aB iK hs.p1.hb rfl (aE (aA fm (aB bL hs.p1.hb rfl ?_)))));obtain ⟨B0,lD⟩:=gx (l) (i:=(s.at_).toNat) (by omega);refine aQ fC (hT _ hs.aF) (by omega) lD (λ _ D0=>bT (B0).kind kZ D0 rfl rfl (λ _ od=>aD bL (od) (aH (aC (λ jH=>?_) (λ jH=>?_)))))
    ·refine aE (aA jE (aB iK hs.p1.hb rfl (aE (aA fm (aB bL hs.p1.hb rfl (aQ fC (hT _ hs.aF) (by omega) lD (λ _ yd=>bT (B0).text mX yd rfl rfl (λ _ AD=>aD j4 (AD) (aZ tA hs (C161 _ _ (by have:=sS _ (List.mem_of_getElem? lD); omega)) (λ w2 he hs=>?_))))))))));have hs:=hs.p1;exact ⟨vb (by unfold sE ky; first | (rw [decide_eq_false iP]; rfl) | (rw [if_pos (by omega),List.getElem?_eq_none (by omega)]; simp; done) | (rw [if_pos (by omega),lD,decide_eq_true iP]; dsimp only; first | (rw [decide_eq_false jH]; rfl) | (rw [decide_eq_true jH]; rfl))),hs⟩
    ·have hs:=hs.p1;exact ⟨vb (by unfold sE ky; first | (rw [decide_eq_false iP]; rfl) | (rw [if_pos (by omega),List.getElem?_eq_none (by omega)]; simp; done) | (rw [if_pos (by omega),lD,decide_eq_true iP]; dsimp only; first | (rw [decide_eq_false jH]; rfl) | (rw [decide_eq_true jH]; rfl))),hs⟩
   ·have hs:=hs.p1;exact ⟨vb (by unfold sE ky; first | (rw [decide_eq_false iP]; rfl) | (rw [if_pos (by omega),List.getElem?_eq_none (by omega)]; simp; done) | (rw [if_pos (by omega),lD,decide_eq_true iP]; dsimp only; first | (rw [decide_eq_false jH]; rfl) | (rw [decide_eq_true jH]; rfl))),hs⟩
  ·have hs:=hs.p1;exact ⟨vb (by unfold sE ky; first | (rw [decide_eq_false iP]; rfl) | (rw [if_pos (by omega),List.getElem?_eq_none (by omega)]; simp; done) | (rw [if_pos (by omega),lD,decide_eq_true iP]; dsimp only; first | (rw [decide_eq_false jH]; rfl) | (rw [decide_eq_true jH]; rfl))),hs⟩
 ·rintro _ w3 ⟨rfl,hs⟩ fB;refine aX (λ rk=>?_) (λ rk=>?_)
  ·obtain ⟨_,tk,AR,_,_⟩:=AG rk;obtain ⟨ary,arz,akJ⟩:=mh AR;have SF:l[(s.at_+1 - 1).toNat]? = some tk:=by rw [← akJ]; congr 2; omega
   refine aE (aA fm (aB bL hs.hb rfl (aO (by omega) (aE (aA fm (aV hs bL (eJ rfl) (rfl) (λ w4 hs=>aE (aA jE (have hs:=hs.drew;aB iK hs.hb rfl (aE (aA fm (aB bL hs.hb rfl ?_))))))))))));refine gy (by omega) (aQ fC (hT _ hs.aF) (by omega) SF (λ _ BW=>bT (tk).text mX BW rfl rfl (λ _ Xr=>aD j4 (Xr) (aE (aA jE (aB iK hs.hb rfl (aE (aA fm (aB bL hs.hb rfl (gy (by omega) (aQ fC (hT _ hs.aF) (by omega) SF (λ _ arA=>bT (tk).at_ ld arA rfl rfl (λ _ Xs=>?_)))))))))))))
   refine aD bL (Xs) (pop (DB _ _) (aI (x:=(⟨(tk).text,0,(tk).at_⟩:dF)) hs.p1 xU rfl rfl (λ w5 hs=>aD xU hs.At ?_)));have hs:=(hs).drop;have hb:eW l s=({s with at_:=s.at_+1},⟨tk.text,0,tk.at_⟩):=by unfold eW; rw [if_pos rk]; unfold oG; rw [AR]; rfl
   rw [hb];exact ⟨rfl,hs.mut⟩
  ·refine bG Pl hs (H':=λ _=>cD p (ee lv (iU l s 5))) (Φ:=λ _ _=>True) (λ F2 eQ eA=>?_) ?_
   ·exact (C170 p lv l s F2 _ eQ (λ w' hc=>hT w' (eA w' hc).aF) hk h0).mono λ _ _ r=>r.mono λ _ _ h=>⟨trivial,h.2⟩
   rintro _ w6 _ hs;refine pop (abt) (aI (x:=(⟨(ByteArray.mk #[]),0,0⟩:dF)) hs.p1 xU rfl rfl (λ w7 hs=>aD xU hs.At ?_));have hs:=(hs).drop;have hb:eW l s=(iU l s 5,⟨⟨#[]⟩,0,0⟩):=by unfold eW; rw [if_neg (by simpa using rk)]
   rw [hb];exact ⟨rfl,hs.mut⟩
theorem C253 (k:Int) (w:World) (hk:0≤k∧k≤14):CR 253 [.int .i64 k] w (λ v w'=>v = .string (Hh k)∧Ext w w'):=by
 have hs:=St.start w;refine aa0 _ _ _ ?_;unfold S253;refine bW (CV) hs mS rfl rfl (eJ rfl) (λ arv w1 hs=>?_);have hsl:CV.length=15:=rfl;obtain ⟨ayD,LU⟩:=gx (CV) (i:=(k).toNat) (by omega);refine dT hs mS (by omega) (by omega) (λ _ R9=>gj hs j4 R9 LU ?_);refine ⟨?_,hs.drop.aF⟩;unfold Hh;rw [LU]; rfl
theorem C262 (p:Nat) (lv ov:Value) (l:List bF) (s:fN) (F:Nat→Prop) (w:World) (hF:(cD p (dV lv ov s)).p w F) (hT:∀ w',ix F w w'→eF (λ _=>True) w' lv l) (hk:ir l) (h0:lM l s):CR 262 [(.pointer (some ⟨p,0,none⟩))] w (λ v w'=>v = .int .i64 (kz l s).2∧qj F (cD p (dV lv ov (kz l s).1)) w w'):=by
 have hs:=St.begin hF;have Fu:=hk.n;have hn:l.length≤1000000:=by omega
 have sS:=hk.at_;obtain ⟨QY,QZ⟩:=id h0;refine aa9 _ _ _ ?_;unfold S262;refine ⟨λ jv w'=>jv = .bool (Oy l s)∧St w F [cD p (dV lv ov s)] w',?_,?_⟩
 ·refine aE (aA kj (have hs:=hs.drew;aB nj hs.hb rfl (aH (aC (λ gn=>?_) (λ gn=>?_)))))
  ·refine aE (aA eU (aB bL hs.hb rfl (aE (aA gO (aB iK hs.hb rfl (aJ fC (hT _ hs.aF) (aR (aC (λ fw=>?_) (λ fw=>?_)))))))))
   ·refine aE (aA gO (aB iK hs.hb rfl (aE (aA eU (aB bL hs.hb rfl ?_)))));obtain ⟨DZ,lB⟩:=gx (l) (i:=(s.at_).toNat) (by omega);refine aQ fC (hT _ hs.aF) (by omega) lB (λ _ od=>bT (DZ).kind kZ od rfl rfl (λ _ oD=>aD bL (oD) (aH ?_)));exact ⟨vb (by unfold Oy ky; first | (rw [decide_eq_false gn]; rfl) | (rw [if_pos (by omega),List.getElem?_eq_none (by omega)]; simp; done) | (rw [if_pos (by omega),lB,decide_eq_true gn]; rfl)),hs⟩
   ·exact ⟨vb (by unfold Oy ky; first | (rw [decide_eq_false gn]; rfl) | (rw [if_pos (by omega),List.getElem?_eq_none (by omega)]; simp; done) | (rw [if_pos (by omega),lB,decide_eq_true gn]; rfl)),hs⟩
  ·exact ⟨vb (by unfold Oy ky; first | (rw [decide_eq_false gn]; rfl) | (rw [if_pos (by omega),List.getElem?_eq_none (by omega)]; simp; done) | (rw [if_pos (by omega),lB,decide_eq_true gn]; rfl)),hs⟩
 ·rintro _ w1 ⟨rfl,hs⟩ fB;refine aX (λ iC=>?_) (λ iC=>?_)
  ·obtain ⟨_,tk,AR,_⟩:=QX iC;obtain ⟨ary,arz,SF⟩:=mh AR;refine aE (aA gO (have hs:=hs.drew;aB iK hs.hb rfl (aE (aA eU (aB bL hs.hb rfl (aQ fC (hT _ hs.aF) (by omega) SF (λ _ yd=>bT (tk).n qV yd rfl rfl (λ _ AD=>aD bL (AD) ?_))))))));refine ⟨λ jv w'=>jv = .bool (decide (1≤tk.n∧tk.n≤8))∧St w F [cD p (dV lv ov s)] w',?_,?_⟩
   ·refine dG (aC (λ rk=>?_) (λ rk=>?_))
    ·refine j3 ?_;exact ⟨vb (by first | exact (decide_eq_false (by omega)).symm | exact decide_eq_decide.2 (by omega)),hs⟩
    ·exact ⟨vb (by first | exact (decide_eq_false (by omega)).symm | exact decide_eq_decide.2 (by omega)),hs⟩
   ·rintro _ w2 ⟨rfl,hs⟩ jw;refine aC (λ pE=>?_) (λ pE=>?_)
    ·refine aE (aA eU (aB bL hs.hb rfl (aO (by omega) (aE (aA eU (aV hs bL (eJ rfl) (rfl) (λ w3 hs=>?_)))))));have hb:kz l s=({s with at_:=s.at_+1},tk.n):=by unfold kz; rw [if_pos iC]; unfold oG; rw [AR]; exact if_pos pE
     rw [hb];exact ⟨rfl,hs.mut⟩
    ·refine bG Gn hs (H':=λ _=>cD p (dV lv ov (iU l s 11))) (Φ:=λ _ _=>True) (λ F2 eQ eA=>?_) ?_
     ·exact (C254 p lv ov l s 11 F2 _ eQ (λ w' hc=>hT w' (eA w' hc).aF) hk h0).mono λ _ _ r=>r.mono λ _ _ h=>⟨trivial,h.2⟩
     rintro _ w4 _ hs;have hb:kz l s=(iU l s 11,0):=by unfold kz; rw [if_pos iC]; unfold oG; rw [AR]; exact if_neg pE
     rw [hb];exact ⟨rfl,hs.mut⟩
  ·refine bG Gn hs (H':=λ _=>cD p (dV lv ov (iU l s 5))) (Φ:=λ _ _=>True) (λ F2 eQ eA=>?_) ?_
   ·exact (C254 p lv ov l s 5 F2 _ eQ (λ w' hc=>hT w' (eA w' hc).aF) hk h0).mono λ _ _ r=>r.mono λ _ _ h=>⟨trivial,h.2⟩
   rintro _ w5 _ hs;have hb:kz l s=(iU l s 5,0):=by unfold kz; rw [if_neg (by simpa using iC)]
   rw [hb];exact ⟨rfl,hs.mut⟩
theorem C261 (p:Nat) (lv ov:Value) (l:List bF) (s:fN) (s2:fN) (x:List cX) (F:Nat→Prop) (w:World) (hF:(cD p (dV lv ov s)).p w F) (hT:∀ w',ix F w w'→eF (λ _=>True) w' lv l) (hk:ir l) (h0:lM l s) (hr:qq l s=some (s2,x)):CR 261 [(.pointer (some ⟨p,0,none⟩))] w (λ v w'=>qj F (tS λ sv:SV=>fact (v=Flat.val sv) (sep (cD p (dV lv ov s2)) (eS (λ w=>DL w (Flat.val sv) x)))) w w'):=by
 have hs:=St.begin hF;have Fu:=hk.n;have hn:l.length≤1000000:=by omega
 have sS:=hk.at_;obtain ⟨QY,QZ⟩:=id h0;refine aa8 _ _ _ ?_;unfold S261;refine aE (aA kj (aB nj hs.hb rfl (cS (aC (λ gP=>?_) (λ gP=>?_)))))
 ·have hR:((s,[]):fN × List cX)=(s2,x):=by unfold qq at hr; rw [if_pos gP] at hr; exact Option.some.inj hr
  cases hR;have hs:=(hs.gE (Φ:=λ w=>DL w (Flat.val (⟨none,0,0⟩:SV)) ([]:List cX)) λ w=>DL.nil w).p1;exact (St.eP (⟨none,0,0⟩:SV) (St.qi rfl (St.join hs))).mut
 ·refine aE (aA gO (have hs:=hs.drew;aB iK hs.hb rfl (aE (aA eU (aB bL hs.hb rfl ?_)))));obtain ⟨R,hxr,Gh⟩:=Xp hr (by omega);refine eu aeJ (C214 l _ s.at_ R _ (hT _ hs.aF) hk (by omega) hxr) ?_;rintro _ w1 ⟨ayR,rfl,bY⟩;have hs:=hs.made bY;refine bE rfl (bE rfl (bE rfl (bE rfl (cS (aC (λ gh=>?_) (λ gh=>?_))))))
  ·refine aE (aA kj (aV hs.p1 nj (eJ rfl) (rfl) (λ w2 hs=>aE (aA zC (aV hs bL (eJ rfl) (rfl) (λ w3 hs=>?_))))));have hR:(({s with e:=R.2.2.1,pos:=R.2.2.2},[]):fN × List cX)=(s2,x):=by rw [if_pos gh] at Gh; exact Option.some.inj Gh
   cases hR;have hs:=((hs.p1.drop).gE (Φ:=λ w=>DL w (Flat.val (⟨none,0,0⟩:SV)) ([]:List cX)) λ w=>DL.nil w).p1;exact (St.eP (⟨none,0,0⟩:SV) (St.qi rfl (St.join hs))).mut
  ·have BV:=Xq Gh gh;refine aE (aA eU (aV hs.p1 bL (eJ rfl) (rfl) (λ w4 hs=>?_)));have hR:(({s with at_:=R.2.1},R.1):fN × List cX)=(s2,x):=by rw [if_neg gh,if_pos BV] at Gh; exact Option.some.inj Gh
   cases hR;have hs:=hs.p1.p1;exact (St.eP ayR (St.qi rfl (St.join hs))).mut
def My (k at_:Int):cE:=⟨k,⟨#[]⟩,⟨#[]⟩,[],[],0,0,0,at_⟩
abbrev Jt:ByteArray:=⟨#[61]⟩
def To (l:List bF) (s:fN):fN:=dN l (cR l s).1 (ByteArray.mk #[61])
def s2M (l:List bF) (s:fN):fN:=dN l (cR l (To l s)).1 (ByteArray.mk #[44])
def kB (l:List bF) (s:fN) (k a:Int):Option (fN × cE):=
 if k=1 then (qq l (To l s)).bind λ r=>some (r.1,{My k a with gJ:=(cR l s).2,e:=r.2})
 else if k=2 then some ((cR l (To l s)).1,{My k a with gJ:=(cR l s).2,name:=(cR l (To l s)).2})
 else if k=3 then (qq l (To l s)).bind λ r=>some (r.1,{My k a with name:=(cR l s).2,e:=r.2})
 else if k=4 then (qq l (s2M l s)).bind λ r=>(qq l (dN l r.1 (ByteArray.mk #[44]))).bind λ q=>some (q.1,{My k a with gJ:=(cR l s).2,name:=(cR l (To l s)).2,e:=r.2,f:=q.2})
 else if k=5∨k=6∨k=9∨k=10 then some ((cR l s).1,{My k a with name:=(cR l s).2})
 else if k=11∨k=14 then (qq l s).bind λ r=>some (r.1,{My k a with e:=r.2})
 else if k=12 then some ((kz l s).1,{My k a with n:=(kz l s).2})
 else some (s,My k a)
section
variable {l:List bF} {s s':fN} {k a:Int} {x:cE}
theorem eG {α β γ:Type} {o:Option (α × β)} {g:α × β→Option γ} {c:γ} (h:o.bind g=some c):∃ p q,o=some (p,q)∧g (p,q)=some c:=by
 cases o with
 | none=>cases h
 | some r=>exact ⟨r.1,r.2,rfl,h⟩
theorem Q0 (h:kB l s k a=some (s',x)) (hk:k=1):∃ q e,qq l (To l s)=some (q,e)∧s'=q∧x={My k a with gJ:=(cR l s).2,e:=e}:=by
 unfold kB at h; rw [if_pos hk] at h
 obtain ⟨q,e,h1,h2⟩:=eG h
 cases h2; exact ⟨_,_,h1,rfl,rfl⟩
theorem Q1 (h:kB l s k a=some (s',x)) (hk:k=2):s'=(cR l (To l s)).1∧x={My k a with gJ:=(cR l s).2,name:=(cR l (To l s)).2}:=by
 unfold kB at h; rw [if_neg (by omega),if_pos hk] at h; cases h; exact ⟨rfl,rfl⟩
theorem Q2 (h:kB l s k a=some (s',x)) (hk:k=3):∃ q e,qq l (To l s)=some (q,e)∧s'=q∧x={My k a with name:=(cR l s).2,e:=e}:=by
 unfold kB at h; rw [if_neg (by omega),if_neg (by omega),if_pos hk] at h
 obtain ⟨q,e,h1,h2⟩:=eG h
 cases h2; exact ⟨_,_,h1,rfl,rfl⟩
theorem Q3 (h:kB l s k a=some (s',x)) (hk:k=4):∃ q e q2 f,qq l (s2M l s)=some (q,e)∧qq l (dN l q (ByteArray.mk #[44]))=some (q2,f)∧s'=q2∧x={My k a with gJ:=(cR l s).2,name:=(cR l (To l s)).2,e:=e,f:=f}:=by
 unfold kB at h; rw [if_neg (by omega),if_neg (by omega),if_neg (by omega),if_pos hk] at h
 obtain ⟨q,e,h1,h2⟩:=eG h
 obtain ⟨q2,f,h3,h4⟩:=eG h2
 cases h4; exact ⟨_,_,_,_,h1,h3,rfl,rfl⟩
theorem Q4 (h:kB l s k a=some (s',x)) (hk:k=5∨k=6∨k=9∨k=10):s'=(cR l s).1∧x={My k a with name:=(cR l s).2}:=by
 unfold kB at h; rw [if_neg (by omega),if_neg (by omega),if_neg (by omega),if_neg (by omega),if_pos hk] at h; cases h; exact ⟨rfl,rfl⟩
theorem LX (h:kB l s k a=some (s',x)) (hk:k=11∨k=14):∃ q e,qq l s=some (q,e)∧s'=q∧x={My k a with e:=e}:=by
 unfold kB at h; rw [if_neg (by omega),if_neg (by omega),if_neg (by omega),if_neg (by omega),if_neg (by omega),if_pos hk] at h
 obtain ⟨q,e,h1,h2⟩:=eG h
 cases h2; exact ⟨_,_,h1,rfl,rfl⟩
theorem LY (h:kB l s k a=some (s',x)) (hk:k=12):s'=(kz l s).1∧x={My k a with n:=(kz l s).2}:=by
 unfold kB at h; rw [if_neg (by omega),if_neg (by omega),if_neg (by omega),if_neg (by omega),if_neg (by omega),if_neg (by omega),if_pos hk] at h; cases h; exact ⟨rfl,rfl⟩
theorem LZ (h:kB l s k a=some (s',x)) (h1:¬ k=1) (h2:¬ k=2) (h3:¬ k=3) (h4:¬ k=4) (h5:¬ (k=5∨k=6∨k=9∨k=10)) (h6:¬ (k=11∨k=14)) (h7:¬ k=12):s'=s∧x=My k a:=by
 unfold kB at h; rw [if_neg h1,if_neg h2,if_neg h3,if_neg h4,if_neg h5,if_neg h6,if_neg h7] at h; cases h; exact ⟨rfl,rfl⟩
end
theorem BE {l:List bF} {s s':fN} {k a:Int} {x:cE} (h0:lM l s) (h:kB l s k a=some (s',x)):lM l s':=by
 have R6:lM l (To l s):=fz (gw h0)
 have hs2:lM l (s2M l s):=fz (gw R6)
 by_cases h1:k=1
 ·obtain ⟨q,e,he,rfl,_⟩:=Q0 h h1; exact rI R6 he
 by_cases h2:k=2
 ·obtain ⟨rfl,_⟩:=Q1 h h2; exact gw R6
 by_cases h3:k=3
 ·obtain ⟨q,e,he,rfl,_⟩:=Q2 h h3; exact rI R6 he
 by_cases h4:k=4
 ·obtain ⟨q,e,q2,f,he,hf,rfl,_⟩:=Q3 h h4; exact rI (fz (rI hs2 he)) hf
 by_cases h5:k=5∨k=6∨k=9∨k=10
 ·obtain ⟨rfl,_⟩:=Q4 h h5; exact gw h0
 by_cases h6:k=11∨k=14
 ·obtain ⟨q,e,he,rfl,_⟩:=LX h h6; exact rI h0 he
 by_cases h7:k=12
 ·obtain ⟨rfl,_⟩:=LY h h7; exact SG h0
 ·obtain ⟨rfl,_⟩:=LZ h h1 h2 h3 h4 h5 h6 h7; exact h0
theorem wI {α σ:Type} [Flat σ] [cA α σ] {w w0:World} {A:Nat→Prop} {L:List HP} {B:HP} {sh:σ} {x:α} (hs:St w0 A (B::eS (λ w=>cA.dr w sh x)::L) w) :
  St w0 A ((tS λ s:σ=>fact (Flat.val sh=Flat.val s) (sep B (eS (λ w=>cA.dr w s x))))::L) w:=
 St.eP (H:=λ s:σ=>fact (Flat.val sh=Flat.val s) (sep B (eS (λ w=>cA.dr w s x)))) sh (St.qi rfl (St.join hs))
set_option maxHeartbeats 2000000 in
theorem C255 (p:Nat) (lv ov:Value) (l:List bF) (s:fN) (kd a:Int) (s2:fN) (x:cE) (F:Nat→Prop) (w:World) (hF:(cD p (dV lv ov s)).p w F) (hT:∀ w',ix F w w'→eF (λ _=>True) w' lv l) (hk:ir l) (h0:lM l s) (hp:kB l s kd a=some (s2,x)):CR 255 [(.pointer (some ⟨p,0,none⟩)),.int .i64 kd,.int .i64 a] w (λ v w'=>qj F (tS λ sh:bX=>fact (v=Flat.val sh) (sep (cD p (dV lv ov s2)) (eS (λ w=>cA.dr w sh x)))) w w'):=by
 have hs:=St.begin hF;have Fu:=hk.n;have hn:l.length≤1000000:=by omega
 have sS:=hk.at_;obtain ⟨QY,QZ⟩:=id h0;refine aa2 _ _ _ _ _ ?_;unfold S255;refine aN hs qw (λ N3 w1 hs=>have hs:=hs.enc (cs':=Flat.enc (⟨0,(ByteArray.mk #[]),(ByteArray.mk #[]),⟨none,0,0⟩,⟨none,0,0⟩,0,0,0,0⟩:bX)) rfl;pop (M3 _ _) (aN hs qw (λ Bd w2 hs=>have hs:=hs.enc (cs':=Flat.enc (⟨0,(ByteArray.mk #[]),(ByteArray.mk #[]),⟨none,0,0⟩,⟨none,0,0⟩,0,0,0,0⟩:bX)) rfl;aI (x:=(⟨kd,(ByteArray.mk #[]),(ByteArray.mk #[]),⟨none,0,0⟩,⟨none,0,0⟩,0,0,0,a⟩:bX)) hs fW rfl rfl (λ w3 hs=>?_))));refine ⟨_,?_,λ _ h=>h⟩;refine aH (aC (λ kF=>?_) (λ kF=>?_))
 ·obtain ⟨q,e,hex,rfl,rfl⟩:=Q0 hp kF;refine bG Dj hs.p2 (H':=λ _=>cD p (dV lv ov (cR l s).1)) (Φ:=λ v _=>v = .string (cR l s).2) (λ F2 eQ eA=>?_) ?_
  ·exact C260 p lv ov l s F2 _ eQ (λ w' hc=>hT w' (eA w' hc).aF) hk h0
  rintro _ w4 rfl hs;refine aA lS (aV hs.p1 j4 (eJ rfl) (rfl) (λ w5 hs=>have hs:=hs.enc (cs':=Flat.enc (⟨kd,(cR l s).2,(ByteArray.mk #[]),⟨none,0,0⟩,⟨none,0,0⟩,0,0,0,a⟩:bX)) rfl;bG xQ hs.p1 (H':=λ _=>cD p (dV lv ov (dN l (cR l s).1 (ByteArray.mk #[61])))) (Φ:=λ _ _=>True) (λ F2 eQ eA=>?_) ?_))
  ·exact (C234 p lv ov l (cR l s).1 (ByteArray.mk #[61]) F2 _ eQ (λ w' hc=>hT w' (eA w' hc).aF) hk (gw h0)).mono λ _ _ r=>r.mono λ _ _ h=>⟨trivial,h.2⟩
  rintro _ w6 _ hs;refine bG JZ hs (H':=λ v=>tS λ sv:SV=>fact (v=Flat.val sv) (sep (cD p (dV lv ov s2)) (eS (λ w=>DL w (Flat.val sv) e)))) (Φ:=λ _ _=>True) (λ F2 eQ eA=>?_) ?_
  ·exact (C261 p lv ov l (dN l (cR l s).1 (ByteArray.mk #[61])) s2 e F2 _ eQ (λ w' hc=>hT w' (eA w' hc).aF) hk (fz (gw h0)) hex).mono λ _ _ r=>r.mono λ _ _ h=>⟨trivial,h⟩
  rintro v_x20 w7 _ Az;obtain ⟨Oz,AA⟩:=Az.eV
  clear Az
  obtain ⟨akK,CP⟩:=AA.oB
  clear AA
  subst akK;have hs:=CP.split;refine aA lT (aV hs.p2 mR (eJ rfl) (rfl) (λ w8 hs=>?_));have hs:=hs.enc (cs':=Flat.enc (⟨kd,(cR l s).2,(ByteArray.mk #[]),Oz,⟨none,0,0⟩,0,0,0,a⟩:bX)) rfl;intro oN;refine aD fW hs.At (aI (x:=(⟨kd,(cR l s).2,(ByteArray.mk #[]),Oz,⟨none,0,0⟩,0,0,0,a⟩:bX)) hs.p3 fW rfl rfl (λ V6 hs=>aD fW hs.At ?_));have hs:=hs.p3.dO (Ψ:=(λ w=>cA.dr w (⟨kd,(cR l s).2,(ByteArray.mk #[]),Oz,⟨none,0,0⟩,0,0,0,a⟩:bX) (⟨kd,(cR l s).2,(ByteArray.mk #[]),e,[],0,0,0,a⟩:cE))) (λ w h=>⟨_,_,rfl,id (h),DL.nil _⟩);have hs:=((hs.p1.drop.p1).drop).p1
  exact (wI hs).mut
 ·refine aH (aC (λ iN=>?_) (λ iN=>?_))
  ·obtain ⟨rfl,rfl⟩:=Q1 hp iN;refine bG Dj hs.p2 (H':=λ _=>cD p (dV lv ov (cR l s).1)) (Φ:=λ v _=>v = .string (cR l s).2) (λ F2 eQ eA=>?_) ?_
   ·exact C260 p lv ov l s F2 _ eQ (λ w' hc=>hT w' (eA w' hc).aF) hk h0
   rintro _ w9 rfl hs;refine aA lS (aV hs.p1 j4 (eJ rfl) (rfl) (λ pP hs=>have hs:=hs.enc (cs':=Flat.enc (⟨kd,(cR l s).2,(ByteArray.mk #[]),⟨none,0,0⟩,⟨none,0,0⟩,0,0,0,a⟩:bX)) rfl;bG xQ hs.p1 (H':=λ _=>cD p (dV lv ov (dN l (cR l s).1 (ByteArray.mk #[61])))) (Φ:=λ _ _=>True) (λ F2 eQ eA=>?_) ?_))
   ·exact (C234 p lv ov l (cR l s).1 (ByteArray.mk #[61]) F2 _ eQ (λ w' hc=>hT w' (eA w' hc).aF) hk (gw h0)).mono λ _ _ r=>r.mono λ _ _ h=>⟨trivial,h.2⟩
   rintro _ sQ _ hs;refine bG Dj hs (H':=λ _=>cD p (dV lv ov (cR l (dN l (cR l s).1 (ByteArray.mk #[61]))).1)) (Φ:=λ v _=>v = .string (cR l (dN l (cR l s).1 (ByteArray.mk #[61]))).2) (λ F2 eQ eA=>?_) ?_
   ·exact C260 p lv ov l (dN l (cR l s).1 (ByteArray.mk #[61])) F2 _ eQ (λ w' hc=>hT w' (eA w' hc).aF) hk (fz (gw h0))
   rintro _ vl rfl hs;refine aA ji (aV hs.p1 j4 (eJ rfl) (rfl) (λ vm hs=>?_));have hs:=hs.enc (cs':=Flat.enc (⟨kd,(cR l s).2,(cR l (dN l (cR l s).1 (ByteArray.mk #[61]))).2,⟨none,0,0⟩,⟨none,0,0⟩,0,0,0,a⟩:bX)) rfl;intro oN;refine aD fW hs.At (aI (x:=(⟨kd,(cR l s).2,(cR l (dN l (cR l s).1 (ByteArray.mk #[61]))).2,⟨none,0,0⟩,⟨none,0,0⟩,0,0,0,a⟩:bX)) hs.p2 fW rfl rfl (λ V6 hs=>aD fW hs.At ?_));have hs:=hs.gE (Φ:=(λ w=>cA.dr w (⟨kd,(cR l s).2,(cR l (dN l (cR l s).1 (ByteArray.mk #[61]))).2,⟨none,0,0⟩,⟨none,0,0⟩,0,0,0,a⟩:bX) (⟨kd,(cR l s).2,(cR l (dN l (cR l s).1 (ByteArray.mk #[61]))).2,[],[],0,0,0,a⟩:cE))) (λ w=>⟨_,_,rfl,DL.nil _,DL.nil _⟩)
   have hs:=((hs.p1.drop.p1).drop).p1;exact (wI hs).mut
  ·refine aH (aC (λ nz=>?_) (λ nz=>?_))
   ·obtain ⟨q,e,hex,rfl,rfl⟩:=Q2 hp nz;refine bG Dj hs.p2 (H':=λ _=>cD p (dV lv ov (cR l s).1)) (Φ:=λ v _=>v = .string (cR l s).2) (λ F2 eQ eA=>?_) ?_
    ·exact C260 p lv ov l s F2 _ eQ (λ w' hc=>hT w' (eA w' hc).aF) hk h0
    rintro _ sd rfl hs;refine aA ji (aV hs.p1 j4 (eJ rfl) (rfl) (λ v7 hs=>have hs:=hs.enc (cs':=Flat.enc (⟨kd,(ByteArray.mk #[]),(cR l s).2,⟨none,0,0⟩,⟨none,0,0⟩,0,0,0,a⟩:bX)) rfl;bG xQ hs.p1 (H':=λ _=>cD p (dV lv ov (dN l (cR l s).1 (ByteArray.mk #[61])))) (Φ:=λ _ _=>True) (λ F2 eQ eA=>?_) ?_))
    ·exact (C234 p lv ov l (cR l s).1 (ByteArray.mk #[61]) F2 _ eQ (λ w' hc=>hT w' (eA w' hc).aF) hk (gw h0)).mono λ _ _ r=>r.mono λ _ _ h=>⟨trivial,h.2⟩
    rintro _ yT _ hs;refine bG JZ hs (H':=λ v=>tS λ sv:SV=>fact (v=Flat.val sv) (sep (cD p (dV lv ov s2)) (eS (λ w=>DL w (Flat.val sv) e)))) (Φ:=λ _ _=>True) (λ F2 eQ eA=>?_) ?_
    ·exact (C261 p lv ov l (dN l (cR l s).1 (ByteArray.mk #[61])) s2 e F2 _ eQ (λ w' hc=>hT w' (eA w' hc).aF) hk (fz (gw h0)) hex).mono λ _ _ r=>r.mono λ _ _ h=>⟨trivial,h⟩
    rintro v_x40 Ch _ Az;obtain ⟨OA,AA⟩:=Az.eV
    clear Az
    obtain ⟨akL,CP⟩:=AA.oB
    clear AA
    subst akL;have hs:=CP.split;refine aA lT (aV hs.p2 mR (eJ rfl) (rfl) (λ Im hs=>?_));have hs:=hs.enc (cs':=Flat.enc (⟨kd,(ByteArray.mk #[]),(cR l s).2,OA,⟨none,0,0⟩,0,0,0,a⟩:bX)) rfl;intro oN;refine aD fW hs.At (aI (x:=(⟨kd,(ByteArray.mk #[]),(cR l s).2,OA,⟨none,0,0⟩,0,0,0,a⟩:bX)) hs.p3 fW rfl rfl (λ V6 hs=>aD fW hs.At ?_));have hs:=hs.p3.dO (Ψ:=(λ w=>cA.dr w (⟨kd,(ByteArray.mk #[]),(cR l s).2,OA,⟨none,0,0⟩,0,0,0,a⟩:bX) (⟨kd,(ByteArray.mk #[]),(cR l s).2,e,[],0,0,0,a⟩:cE))) (λ w h=>⟨_,_,rfl,id (h),DL.nil _⟩);have hs:=((hs.p1.drop.p1).drop).p1
    exact (wI hs).mut
   ·refine aH (aC (λ tX=>?_) (λ tX=>?_))
    ·obtain ⟨q,e,q2,f,hex,hfx,rfl,rfl⟩:=Q3 hp tX;refine bG Dj hs.p2 (H':=λ _=>cD p (dV lv ov (cR l s).1)) (Φ:=λ v _=>v = .string (cR l s).2) (λ F2 eQ eA=>?_) ?_
     ·exact C260 p lv ov l s F2 _ eQ (λ w' hc=>hT w' (eA w' hc).aF) hk h0
     rintro _ Jp rfl hs;refine aA lS (aV hs.p1 j4 (eJ rfl) (rfl) (λ Kz hs=>have hs:=hs.enc (cs':=Flat.enc (⟨kd,(cR l s).2,(ByteArray.mk #[]),⟨none,0,0⟩,⟨none,0,0⟩,0,0,0,a⟩:bX)) rfl;bG xQ hs.p1 (H':=λ _=>cD p (dV lv ov (dN l (cR l s).1 (ByteArray.mk #[61])))) (Φ:=λ _ _=>True) (λ F2 eQ eA=>?_) ?_))
     ·exact (C234 p lv ov l (cR l s).1 (ByteArray.mk #[61]) F2 _ eQ (λ w' hc=>hT w' (eA w' hc).aF) hk (gw h0)).mono λ _ _ r=>r.mono λ _ _ h=>⟨trivial,h.2⟩
     rintro _ Mu _ hs;refine bG Dj hs (H':=λ _=>cD p (dV lv ov (cR l (dN l (cR l s).1 (ByteArray.mk #[61]))).1)) (Φ:=λ v _=>v = .string (cR l (dN l (cR l s).1 (ByteArray.mk #[61]))).2) (λ F2 eQ eA=>?_) ?_
     ·exact C260 p lv ov l (dN l (cR l s).1 (ByteArray.mk #[61])) F2 _ eQ (λ w' hc=>hT w' (eA w' hc).aF) hk (fz (gw h0))
     rintro _ Qm rfl hs;refine aA ji (aV hs.p1 j4 (eJ rfl) (rfl) (λ Tn hs=>have hs:=hs.enc (cs':=Flat.enc (⟨kd,(cR l s).2,(cR l (dN l (cR l s).1 (ByteArray.mk #[61]))).2,⟨none,0,0⟩,⟨none,0,0⟩,0,0,0,a⟩:bX)) rfl;bG xQ hs.p1 (H':=λ _=>cD p (dV lv ov (dN l (cR l (dN l (cR l s).1 (ByteArray.mk #[61]))).1 (ByteArray.mk #[44])))) (Φ:=λ _ _=>True) (λ F2 eQ eA=>?_) ?_))
     ·exact (C234 p lv ov l (cR l (dN l (cR l s).1 (ByteArray.mk #[61]))).1 (ByteArray.mk #[44]) F2 _ eQ (λ w' hc=>hT w' (eA w' hc).aF) hk (gw (fz (gw h0)))).mono λ _ _ r=>r.mono λ _ _ h=>⟨trivial,h.2⟩
     rintro _ VG _ hs;refine bG JZ hs (H':=λ v=>tS λ sv:SV=>fact (v=Flat.val sv) (sep (cD p (dV lv ov q)) (eS (λ w=>DL w (Flat.val sv) e)))) (Φ:=λ _ _=>True) (λ F2 eQ eA=>?_) ?_
     ·exact (C261 p lv ov l (dN l (cR l (dN l (cR l s).1 (ByteArray.mk #[61]))).1 (ByteArray.mk #[44])) q e F2 _ eQ (λ w' hc=>hT w' (eA w' hc).aF) hk (fz (gw (fz (gw h0)))) hex).mono λ _ _ r=>r.mono λ _ _ h=>⟨trivial,h⟩
     rintro v_x55 R4 _ Az;obtain ⟨EW,AA⟩:=Az.eV
     clear Az
     obtain ⟨akM,CP⟩:=AA.oB
     clear AA
     subst akM;have hs:=CP.split;refine aA lT (aV hs.p2 mR (eJ rfl) (rfl) (λ w26 hs=>have hs:=hs.enc (cs':=Flat.enc (⟨kd,(cR l s).2,(cR l (dN l (cR l s).1 (ByteArray.mk #[61]))).2,EW,⟨none,0,0⟩,0,0,0,a⟩:bX)) rfl;bG xQ hs.p1 (H':=λ _=>cD p (dV lv ov (dN l q (ByteArray.mk #[44])))) (Φ:=λ _ _=>True) (λ F2 eQ eA=>?_) ?_))
     ·exact (C234 p lv ov l q (ByteArray.mk #[44]) F2 _ eQ (λ w' hc=>hT w' (eA w' hc).aF) hk (rI (fz (gw (fz (gw h0)))) hex)).mono λ _ _ r=>r.mono λ _ _ h=>⟨trivial,h.2⟩
     rintro _ w27 _ hs;refine bG JZ hs (H':=λ v=>tS λ sv:SV=>fact (v=Flat.val sv) (sep (cD p (dV lv ov s2)) (eS (λ w=>DL w (Flat.val sv) f)))) (Φ:=λ _ _=>True) (λ F2 eQ eA=>?_) ?_
     ·exact (C261 p lv ov l (dN l q (ByteArray.mk #[44])) s2 f F2 _ eQ (λ w' hc=>hT w' (eA w' hc).aF) hk (fz (rI (fz (gw (fz (gw h0)))) hex)) hfx).mono λ _ _ r=>r.mono λ _ _ h=>⟨trivial,h⟩
     rintro v_x60 w28 _ Az;obtain ⟨Br,AA⟩:=Az.eV
     clear Az
     obtain ⟨akN,CP⟩:=AA.oB
     clear AA
     subst akN;have hs:=CP.split;refine aA nU (aV hs.p2 mR (eJ rfl) (rfl) (λ w29 hs=>?_));have hs:=hs.enc (cs':=Flat.enc (⟨kd,(cR l s).2,(cR l (dN l (cR l s).1 (ByteArray.mk #[61]))).2,EW,Br,0,0,0,a⟩:bX)) rfl;intro oN;refine aD fW hs.At (aI (x:=(⟨kd,(cR l s).2,(cR l (dN l (cR l s).1 (ByteArray.mk #[61]))).2,EW,Br,0,0,0,a⟩:bX)) hs.p4 fW rfl rfl (λ V6 hs=>aD fW hs.At ?_));have hs:=hs.p4.p4.p1.fL.dO (Ψ:=(λ w=>cA.dr w (⟨kd,(cR l s).2,(cR l (dN l (cR l s).1 (ByteArray.mk #[61]))).2,EW,Br,0,0,0,a⟩:bX) (⟨kd,(cR l s).2,(cR l (dN l (cR l s).1 (ByteArray.mk #[61]))).2,e,f,0,0,0,a⟩:cE))) (λ w h=>⟨_,_,rfl,id (h.1),id (h.2)⟩)
     have hs:=((hs.p1.drop.p1).drop).p1;exact (wI hs).mut
    ·refine ⟨λ jv w'=>jv = .bool (decide (kd=5∨kd=6∨kd=9∨kd=10))∧w3=w',?_,?_⟩
     ·refine aH (aC (λ VA=>?_) (λ VA=>?_))
      ·exact ⟨vb (by grind),rfl⟩
      ·refine aH (aC (λ qn=>?_) (λ qn=>?_))
       ·exact ⟨vb (by grind),rfl⟩
       ·refine aH (aC (λ m8=>?_) (λ m8=>?_))
        ·exact ⟨vb (by grind),rfl⟩
        ·refine aH ?_;exact ⟨vb (by grind),rfl⟩
     ·rintro _ w30 ⟨rfl,hw⟩ fB;subst hw;refine aC (λ sm=>?_) (λ sm=>?_)
      ·obtain ⟨rfl,rfl⟩:=Q4 hp sm;refine bG Dj hs.p2 (H':=λ _=>cD p (dV lv ov (cR l s).1)) (Φ:=λ v _=>v = .string (cR l s).2) (λ F2 eQ eA=>?_) ?_
       ·exact C260 p lv ov l s F2 _ eQ (λ w' hc=>hT w' (eA w' hc).aF) hk h0
       rintro _ w31 rfl hs;refine aA ji (aV hs.p1 j4 (eJ rfl) (rfl) (λ w32 hs=>?_));have hs:=hs.enc (cs':=Flat.enc (⟨kd,(ByteArray.mk #[]),(cR l s).2,⟨none,0,0⟩,⟨none,0,0⟩,0,0,0,a⟩:bX)) rfl;intro oN;refine aD fW hs.At (aI (x:=(⟨kd,(ByteArray.mk #[]),(cR l s).2,⟨none,0,0⟩,⟨none,0,0⟩,0,0,0,a⟩:bX)) hs.p2 fW rfl rfl (λ V6 hs=>aD fW hs.At ?_));have hs:=hs.gE (Φ:=(λ w=>cA.dr w (⟨kd,(ByteArray.mk #[]),(cR l s).2,⟨none,0,0⟩,⟨none,0,0⟩,0,0,0,a⟩:bX) (⟨kd,(ByteArray.mk #[]),(cR l s).2,[],[],0,0,0,a⟩:cE))) (λ w=>⟨_,_,rfl,DL.nil _,DL.nil _⟩);have hs:=((hs.p1.drop.p1).drop).p1
       exact (wI hs).mut
      ·refine ⟨λ jv w'=>jv = .bool (decide (kd=11∨kd=14))∧w3=w',?_,?_⟩
       ·refine aH (aC (λ vn=>?_) (λ vn=>?_))
        ·exact ⟨vb (by grind),rfl⟩
        ·refine aH ?_;exact ⟨vb (by grind),rfl⟩
       ·rintro _ w33 ⟨rfl,hw⟩ jw;subst hw;refine aC (λ Ef=>?_) (λ Ef=>?_)
        ·obtain ⟨q,e,hex,rfl,rfl⟩:=LX hp Ef;refine bG JZ hs.p2 (H':=λ v=>tS λ sv:SV=>fact (v=Flat.val sv) (sep (cD p (dV lv ov s2)) (eS (λ w=>DL w (Flat.val sv) e)))) (Φ:=λ _ _=>True) (λ F2 eQ eA=>?_) ?_
         ·exact (C261 p lv ov l s s2 e F2 _ eQ (λ w' hc=>hT w' (eA w' hc).aF) hk h0 hex).mono λ _ _ r=>r.mono λ _ _ h=>⟨trivial,h⟩
         rintro v_x74 w34 _ Az;obtain ⟨OB,AA⟩:=Az.eV
         clear Az
         obtain ⟨akO,CP⟩:=AA.oB
         clear AA
         subst akO;have hs:=CP.split;refine aA lT (aV hs.p2 mR (eJ rfl) (rfl) (λ w35 hs=>?_));have hs:=hs.enc (cs':=Flat.enc (⟨kd,(ByteArray.mk #[]),(ByteArray.mk #[]),OB,⟨none,0,0⟩,0,0,0,a⟩:bX)) rfl;intro oN;refine aD fW hs.At (aI (x:=(⟨kd,(ByteArray.mk #[]),(ByteArray.mk #[]),OB,⟨none,0,0⟩,0,0,0,a⟩:bX)) hs.p3 fW rfl rfl (λ V6 hs=>aD fW hs.At ?_));have hs:=hs.p3.dO (Ψ:=(λ w=>cA.dr w (⟨kd,(ByteArray.mk #[]),(ByteArray.mk #[]),OB,⟨none,0,0⟩,0,0,0,a⟩:bX) (⟨kd,(ByteArray.mk #[]),(ByteArray.mk #[]),e,[],0,0,0,a⟩:cE))) (λ w h=>⟨_,_,rfl,id (h),DL.nil _⟩)
         have hs:=((hs.p1.drop.p1).drop).p1;exact (wI hs).mut
        ·refine aH (aC (λ KN=>?_) (λ KN=>?_))
         ·obtain ⟨rfl,rfl⟩:=LY hp KN;refine bG anW hs.p2 (H':=λ _=>cD p (dV lv ov (kz l s).1)) (Φ:=λ v _=>v = .int .i64 (kz l s).2) (λ F2 eQ eA=>?_) ?_
          ·exact C262 p lv ov l s F2 _ eQ (λ w' hc=>hT w' (eA w' hc).aF) hk h0
          rintro _ w36 rfl hs;refine aA tM (aV hs.p1 bL (eJ rfl) (rfl) (λ w37 hs=>?_));have hs:=hs.enc (cs':=Flat.enc (⟨kd,(ByteArray.mk #[]),(ByteArray.mk #[]),⟨none,0,0⟩,⟨none,0,0⟩,(kz l s).2,0,0,a⟩:bX)) rfl;intro oN;refine aD fW hs.At (aI (x:=(⟨kd,(ByteArray.mk #[]),(ByteArray.mk #[]),⟨none,0,0⟩,⟨none,0,0⟩,(kz l s).2,0,0,a⟩:bX)) hs.p2 fW rfl rfl (λ V6 hs=>aD fW hs.At ?_));have hs:=hs.gE (Φ:=(λ w=>cA.dr w (⟨kd,(ByteArray.mk #[]),(ByteArray.mk #[]),⟨none,0,0⟩,⟨none,0,0⟩,(kz l s).2,0,0,a⟩:bX) (⟨kd,(ByteArray.mk #[]),(ByteArray.mk #[]),[],[],(kz l s).2,0,0,a⟩:cE))) (λ w=>⟨_,_,rfl,DL.nil _,DL.nil _⟩)
          have hs:=((hs.p1.drop.p1).drop).p1;exact (wI hs).mut
         ·obtain ⟨rfl,rfl⟩:=LZ hp kF iN nz tX sm Ef KN;intro oN;refine aD fW hs.At (aI (x:=(⟨kd,(ByteArray.mk #[]),(ByteArray.mk #[]),⟨none,0,0⟩,⟨none,0,0⟩,0,0,0,a⟩:bX)) hs.p1 fW rfl rfl (λ V6 hs=>aD fW hs.At ?_));have hs:=hs.gE (Φ:=(λ w=>cA.dr w (⟨kd,(ByteArray.mk #[]),(ByteArray.mk #[]),⟨none,0,0⟩,⟨none,0,0⟩,0,0,0,a⟩:bX) (⟨kd,(ByteArray.mk #[]),(ByteArray.mk #[]),[],[],0,0,0,a⟩:cE))) (λ w=>⟨_,_,rfl,DL.nil _,DL.nil _⟩);have hs:=((hs.p1.drop.p1).drop).p1;exact (wI hs).mut
def gT (l:List bF) (a:Int):Nat→Int
 | 0=>1
 | n+1=>if sD l a (Hh ((n:Int)+2))=true then (n:Int)+2 else gT l a n
theorem Q5 {l:List bF} {a:Int}:∀ n:Nat,1≤gT l a n∧gT l a n≤(n:Int)+1
 | 0=>by unfold gT; omega
 | n+1=>by
  have:=Q5 (l:=l) (a:=a) n
  unfold gT
  split <;> omega
theorem L3 {l:List bF} {a:Int}:∀ n:Nat,gT l a n=1∨∃ t,sD l a t=true
 | 0=>.inl rfl
 | n+1=>by
  unfold gT
  split
  ·rename_i h; exact .inr ⟨_,h⟩
  ·exact L3 n
theorem Hi {l:List bF} {a:Int} {n:Nat} (h:sD l a (Hh ((n:Int)+2))=true):gT l a (n+1)=(n:Int)+2:=if_pos h
theorem Hj {l:List bF} {a:Int} {n:Nat} (h:¬ sD l a (Hh ((n:Int)+2))=true):gT l a (n+1)=gT l a n:=if_neg h
def Yu (l:List bF) (s:fN):fN:=if gT l s.at_ 13≠1 then {s with at_:=s.at_+1} else s
theorem Ja {l:List bF} {s:fN} (h:lM l s):lM l (Yu l s):=by
 unfold Yu
 split
 ·rename_i h1
  rcases L3 (l:=l) (a:=s.at_) 13 with h2 | ⟨t,h2⟩
  ·exact absurd h2 h1
  ·have:=rH h2
   exact ⟨by show 0≤s.at_+1; omega,by show s.at_+1≤_; omega⟩
 ·exact h
abbrev ago:ByteArray:=⟨#[101,108,115,101]⟩
def j6 (l:List bF) (kd:Int) (s:fN):Bool:=decide (kd=11) && decide (s.e=0) && sD l s.at_ ago
def Xt (s:fN):fN:={s with at_:=s.at_+1}
abbrev adx:=fN→Int→Int→Option (fN × List cE)
def Cr (l:List bF) (cD:adx) (s:fN) (d lp:Int):Option (fN × List cE):=
 if gT l s.at_ 13=13∧lp=0 then some (iU l s 5,[])
 else (kB l (Yu l s) (gT l s.at_ 13) (mM l s.at_)).bind λ r=>
  if gT l s.at_ 13≠11∧gT l s.at_ 13≠12 then some (dN l r.1 ⟨#[59]⟩,[r.2])
  else (cD r.1 (d+1) (if gT l s.at_ 13=12 then lp+1 else lp)).bind λ q=>
   if j6 l (gT l s.at_ 13) q.1=true then (cD (Xt q.1) (d+1) lp).bind λ t=>some (t.1,{r.2 with body:=(q.2.length:Int),fE:=(t.2.length:Int)}::(q.2++t.2))
   else some (q.1,{r.2 with body:=(q.2.length:Int)}::q.2)
section
variable {l:List bF} {cD:adx} {s s':fN} {d lp:Int} {add:List cE}
theorem Q6 (h:Cr l cD s d lp=some (s',add)) (hb:gT l s.at_ 13=13∧lp=0):s'=iU l s 5∧add=[]:=by
 unfold Cr at h; rw [if_pos hb] at h; cases h; exact ⟨rfl,rfl⟩
theorem Xu (h:Cr l cD s d lp=some (s',add)) (hb:¬ (gT l s.at_ 13=13∧lp=0)):∃ s2 x,kB l (Yu l s) (gT l s.at_ 13) (mM l s.at_)=some (s2,x)∧
  (if gT l s.at_ 13≠11∧gT l s.at_ 13≠12 then some (dN l s2 ⟨#[59]⟩,[x])
  else (cD s2 (d+1) (if gT l s.at_ 13=12 then lp+1 else lp)).bind λ q=>
   if j6 l (gT l s.at_ 13) q.1=true then (cD (Xt q.1) (d+1) lp).bind λ t=>some (t.1,{x with body:=(q.2.length:Int),fE:=(t.2.length:Int)}::(q.2++t.2))
   else some (q.1,{x with body:=(q.2.length:Int)}::q.2))=some (s',add):=by
 unfold Cr at h; rw [if_neg hb] at h
 obtain ⟨p,q,h1,h2⟩:=eG h
 exact ⟨p,q,h1,h2⟩
theorem Q7 {kd:Int} {s2:fN} {x:cE} (h:(if kd≠11∧kd≠12 then some (dN l s2 ⟨#[59]⟩,[x])
  else (cD s2 (d+1) (if kd=12 then lp+1 else lp)).bind λ q=>
   if j6 l kd q.1=true then (cD (Xt q.1) (d+1) lp).bind λ t=>some (t.1,{x with body:=(q.2.length:Int),fE:=(t.2.length:Int)}::(q.2++t.2))
   else some (q.1,{x with body:=(q.2.length:Int)}::q.2))=some (s',add)) (hk:¬ (kd≠11∧kd≠12)) :
  ∃ s3 m1,cD s2 (d+1) (if kd=12 then lp+1 else lp)=some (s3,m1)∧
   ((j6 l kd s3=true∧∃ s5 m2,cD (Xt s3) (d+1) lp=some (s5,m2)∧s'=s5∧add={x with body:=(m1.length:Int),fE:=(m2.length:Int)}::(m1++m2))∨
    (j6 l kd s3=false∧s'=s3∧add={x with body:=(m1.length:Int)}::m1)):=by
 rw [if_neg hk] at h
 obtain ⟨s3,m1,h1,h2⟩:=eG h
 refine ⟨s3,m1,h1,?_⟩
 dsimp only at h2
 cases he:j6 l kd s3 with
 | true=>
  rw [he,if_pos rfl] at h2
  obtain ⟨s5,m2,h3,h4⟩:=eG h2
  cases h4
  exact .inl ⟨rfl,_,_,h3,rfl,rfl⟩
 | false=>
  rw [he,if_neg (by simp)] at h2
  cases h2
  exact .inr ⟨rfl,rfl,rfl⟩
theorem Hk {kd:Int} {s2:fN} {x:cE} (h:(if kd≠11∧kd≠12 then some (dN l s2 ⟨#[59]⟩,[x])
  else (cD s2 (d+1) (if kd=12 then lp+1 else lp)).bind λ q=>
   if j6 l kd q.1=true then (cD (Xt q.1) (d+1) lp).bind λ t=>some (t.1,{x with body:=(q.2.length:Int),fE:=(t.2.length:Int)}::(q.2++t.2))
   else some (q.1,{x with body:=(q.2.length:Int)}::q.2))=some (s',add)) (hk:kd≠11∧kd≠12):s'=dN l s2 ⟨#[59]⟩∧add=[x]:=by
 rw [if_pos hk] at h; cases h; exact ⟨rfl,rfl⟩
end
abbrev B8:ByteArray:=⟨#[123]⟩
abbrev nG:ByteArray:=⟨#[125]⟩
def sG (l:List bF) (one:fN→Option (fN × List cE)):Nat→fN→Option (fN × List cE)
 | 0,_=>none
 | m+1,s=>if (decide (s.e=0) && !sD l s.at_ nG)=true then (one s).bind λ r=>(sG l one m r.1).bind λ q=>some (q.1,r.2++q.2) else some (s,[])
def Tp (l:List bF) (s:fN) (d:Int):fN:=if (decide (12<d) && sD l s.at_ B8)=true then iU l s 7 else s
theorem OC {l:List bF} {s:fN} {d:Int} (h:lM l s):lM l (Tp l s d):=by unfold Tp; split; exact sF h; exact h
def Tq (l:List bF):Nat→adx
 | 0=>λ _ _ _=>none
 | k+1=>λ s d lp=>(sG l (λ s=>Cr l (Tq l k) s d lp) 10000 (dN l (Tp l s d) B8)).bind λ r=>some (dN l r.1 nG,r.2)
section
variable {l:List bF} {one:fN→Option (fN × List cE)} {s s':fN} {d lp:Int} {add:List cE} {m:Nat}
theorem Hl (h:sG l one m s=some (s',add)):∃ k,m=k+1:=by
 cases m with
 | zero=>cases h
 | succ k=>exact ⟨k,rfl⟩
theorem Fb (h:sG l one (m+1) s=some (s',add)) (hb:(decide (s.e=0) && !sD l s.at_ nG)=false):s'=s∧add=[]:=by
 unfold sG at h; rw [hb,if_neg (by simp)] at h; cases h; exact ⟨rfl,rfl⟩
theorem Jb (h:sG l one (m+1) s=some (s',add)) (hb:(decide (s.e=0) && !sD l s.at_ nG)=true):∃ s1 a1 a2,one s=some (s1,a1)∧sG l one m s1=some (s',a2)∧add=a1++a2:=by
 unfold sG at h; rw [hb,if_pos rfl] at h
 obtain ⟨s1,a1,h1,h2⟩:=eG h
 obtain ⟨s2,a2,h3,h4⟩:=eG h2
 cases h4
 exact ⟨_,_,_,h1,h3,rfl⟩
theorem Xv {k:Nat} (h:Tq l (k+1) s d lp=some (s',add)):∃ s1,sG l (λ s=>Cr l (Tq l k) s d lp) 10000 (dN l (Tp l s d) B8)=some (s1,add)∧s'=dN l s1 nG:=by
 unfold Tq at h
 obtain ⟨s1,a1,h1,h2⟩:=eG h
 cases h2
 exact ⟨_,h1,rfl⟩
end
theorem OD {l:List bF} {cD:adx} {s s':fN} {d lp:Int} {add:List cE} (hb:∀ s d lp s' a,lM l s→cD s d lp=some (s',a)→lM l s') (h0:lM l s) (h:Cr l cD s d lp=some (s',add)):lM l s':=by
 by_cases h1:gT l s.at_ 13=13∧lp=0
 ·rw [(Q6 h h1).1]; exact sF h0
 ·obtain ⟨s2,x,h2,h3⟩:=Xu h h1
  have h2i:=BE (Ja h0) h2
  by_cases h4:gT l s.at_ 13≠11∧gT l s.at_ 13≠12
  ·rw [(Hk h3 h4).1]; exact fz h2i
  ·obtain ⟨s3,m1,h5,h6⟩:=Q7 h3 h4
   have h3i:=hb _ _ _ _ _ h2i h5
   rcases h6 with ⟨h7,s5,m2,h8,h9,_⟩ | ⟨_,h9,_⟩
   ·rw [h9]
    refine hb _ _ _ _ _ ?_ h8
    unfold j6 at h7
    rw [Bool.and_eq_true] at h7
    have:=rH h7.2
    exact ⟨by show 0≤s3.at_+1; omega,by show s3.at_+1≤_; omega⟩
   ·rw [h9]; exact h3i
theorem Q8 {l:List bF} {one:fN→Option (fN × List cE)} (ho:∀ s s' a,lM l s→one s=some (s',a)→lM l s'):∀ {m:Nat} {s s':fN} {add:List cE},lM l s→sG l one m s=some (s',add)→lM l s'
 | 0,_,_,_,_,h=>by cases h
 | m+1,s,s',add,h0,h=>by
  cases hb:(decide (s.e=0) && !sD l s.at_ nG) with
  | false=>rw [(Fb h hb).1]; exact h0
  | true=>
   obtain ⟨s1,a1,a2,h1,h2,_⟩:=Jb h hb
   exact Q8 ho (ho _ _ _ h0 h1) h2
theorem OE {l:List bF}:∀ {k:Nat} {s s':fN} {d lp:Int} {add:List cE},lM l s→Tq l k s d lp=some (s',add)→lM l s'
 | 0,_,_,_,_,_,_,h=>by cases h
 | k+1,s,s',d,lp,add,h0,h=>by
  obtain ⟨s1,h1,h2⟩:=Xv h
  rw [h2]
  exact fz (Q8 (λ _ _ _ a b=>OD (λ _ _ _ _ _ c e=>OE c e) a b) (fz (OC h0)) h1)
def pT (p:Nat) (lv:Value) (s:fN) (out:List cE) (Q:World→Prop):HP:=tS λ ov:Value=>tS λ ts:List bX=>sep (cD p (dV lv ov s)) (sep (bK ov ts) (eS (λ w=>jc ts out w∧Q w)))
section
variable {w0 w:World} {A:Nat→Prop} {L:List HP} {p:Nat} {lv:Value} {s:fN} {out:List cE} {Q:World→Prop}
theorem pT.open (hs:St w0 A (pT p lv s out Q::L) w):∃ (ov:Value) (ts:List bX),St w0 A (cD p (dV lv ov s)::bK ov ts::eS (λ w=>jc ts out w∧Q w)::L) w:=by
 obtain ⟨ov,h1⟩:=hs.eV
 obtain ⟨ts,h2⟩:=h1.eV
 exact ⟨ov,ts,h2.split.p1.split.p2⟩
theorem pT.shut {ov:Value} {ts:List bX} (hs:St w0 A (cD p (dV lv ov s)::bK ov ts::eS (λ w=>jc ts out w∧Q w)::L) w):St w0 A (pT p lv s out Q::L) w:=
 St.eP (H:=λ ov:Value=>tS λ ts:List bX=>sep (cD p (dV lv ov s)) (sep (bK ov ts) (eS (λ w=>jc ts out w∧Q w)))) ov (St.eP (H:=λ ts:List bX=>sep (cD p (dV lv ov s)) (sep (bK ov ts) (eS (λ w=>jc ts out w∧Q w)))) ts (St.join (hs.p2.p2.join).p1))
end
def akP (l:List bF) (k:Nat):Prop:=∀ (p:Nat) (lv:Value) (s:fN) (d lp:Int) (out:List cE) (s2:fN) (add:List cE) (Q:World→Prop) (F:Nat→Prop) (w:World),
 (pT p lv s out Q).p w F→(∀ w',ix F w w'→eF (λ _=>True) w' lv l)→lM l s→0≤d∧d+k≤1001→0≤lp∧lp+k≤1001→out.length+add.length≤1000000→Tq l k s d lp=some (s2,add)→
 Calls PG 256 [.pointer (some ⟨p,0,none⟩),.int .i64 d,.int .i64 lp].toArray w (qf λ v w'=>v = .int .i64 (add.length:Int)∧qj F (pT p lv s2 (out++add) Q) w w')
theorem ady {w:World} {sh:bX} {x:cE} (h:cA.dr w sh x):DL w (Flat.val sh.e) x.e:=by obtain ⟨_,_,rfl,h,_⟩:=h; exact h
theorem adz {w:World} {sh:bX} {x:cE} (h:cA.dr w sh x):DL w (Flat.val sh.f) x.f:=by obtain ⟨_,_,rfl,_,h⟩:=h; exact h
theorem OF {l:List bF} {kd:Int} {s:fN} (h:j6 l kd s=true):lM l (Xt s):=by
 unfold j6 at h
 rw [Bool.and_eq_true] at h
 have:=rH h.2
 exact ⟨by show 0≤s.at_+1; omega,by show s.at_+1≤_; omega⟩
theorem adA {α σ:Type} [Flat σ] [cA α σ] {w:World} {ts:List σ} {xs:List α} {i:Nat} {t:σ} {x:α} (h:jc ts xs w) (ht:cA.dr w t x):jc (ts.set i t) (xs.set i x) w:=by
 refine ⟨by rw [List.length_set,List.length_set,h.1],λ j t' x' h1 h2=>?_⟩
 rw [List.getElem?_set] at h1 h2
 by_cases hj:i=j
 ·rw [if_pos hj] at h1 h2
  split at h1
  ·split at h2
   ·cases h1; cases h2; exact ht
   ·cases h2
  ·cases h1
 ·rw [if_neg hj] at h1 h2; exact h.2 _ _ _ h1 h2
theorem Xw {α:Type} {a b:List α} {x y:α}:(a++x::b).set a.length y=a++y::b:=by
 rw [List.set_append_right _ _ (Nat.le_refl _),Nat.sub_self,List.set_cons_zero]
set_option maxHeartbeats 4000000 in
theorem C233 (p:Nat) (lv:Value) (l:List bF) (s:fN) (k:Nat) (d lp:Int) (out:List cE) (s2:fN) (add:List cE) (Q:World→Prop) (F:Nat→Prop) (w:World) (hF:(pT p lv s out Q).p w F) (hT:∀ w',ix F w w'→eF (λ _=>True) w' lv l) (hk:ir l) (h0:lM l s) (HB:akP l k) (hd:0≤d∧d+k≤1000) (LW:0≤lp∧lp+k≤1000) (Tm:out.length+add.length≤1000000) (hr:Cr l (Tq l k) s d lp=some (s2,add)):CR 233 [(.pointer (some ⟨p,0,none⟩)),.int .i64 d,.int .i64 lp] w (λ v w'=>v = .tuple #[]∧qj F (pT p lv s2 (out++add) Q) w w'):=by
 have hs:=St.begin hF;obtain ⟨ov,ts,hs⟩:=pT.open hs;have MW:ts.length=out.length:=(hs.p2.eS).1.1;have Fu:=hk.n;have hn:l.length≤1000000:=by omega
 have sS:=hk.at_;obtain ⟨QY,QZ⟩:=id h0;refine aaG _ _ _ _ _ ?_;unfold S233;refine aE (aA gO (have hs:=hs.drew;aB iK hs.hb rfl (aE (aA eU (aB bL hs.hb rfl (aZ Gk hs (C215 _ l s.at_ _ (hT _ hs.aF) hn sS) (λ w1 he hs=>?_)))))));have hs:=hs.p2.p2.p2;refine ⟨λ mm a b w'=>∃ j:Nat,a = .int .i64 (gT l s.at_ j)∧b = .int .i64 ((j:Int)+2)∧mm=13 - j∧j≤13∧St w F [cD p (dV lv ov s),bK ov ts,eS (λ w=>jc ts out w∧Q w)] w',⟨_,0,rfl,rfl,rfl,Nat.zero_le _,hs⟩,?_⟩;rintro mm _ _ w2 ⟨j,rfl,rfl,rfl,hj,hs⟩ fB;refine j3 (aC (λ iL=>?_) (λ iL=>?_))
 ·refine ⟨_,?_,λ _ _ h=>h⟩;refine aE (aA gO (have hs:=hs.drew;aB iK hs.hb rfl (aE (aA eU (aB bL hs.hb rfl (aZ anT hs (C253 ((j:Int)+2) _ (by omega)) (λ w3 he hs=>?_)))))));refine ⟨aG iK (hs.hb.cell rfl),?_⟩;refine ⟨aG bL (hs.hb.cell rfl),?_⟩;refine aZ vj hs (C211 _ l s.at_ (Hh ((j:Int)+2)) _ (hT _ hs.aF) hn) (λ w4 he hs=>aX (λ jr=>?_) (λ jr=>?_))
  ·intro jw;refine aO (by omega) ?_;exact ⟨_,by omega,j+1,congrArg (Value.int .i64) (by first | exact (Hi jr).symm | exact (Hj (by rw [jr]; simp)).symm),congrArg (Value.int .i64) (by omega),rfl,by omega,hs⟩
  ·intro jw;refine aO (by omega) ?_;exact ⟨_,by omega,j+1,congrArg (Value.int .i64) (by first | exact (Hi jr).symm | exact (Hj (by rw [jr]; simp)).symm),congrArg (Value.int .i64) (by omega),rfl,by omega,hs⟩
 ·obtain rfl:j=13:=by omega
  have hkb:=Q5 (l:=l) (a:=s.at_) 13;refine ⟨λ jv w'=>jv = .bool (decide ((gT l s.at_ 13)=13∧lp=0))∧w2=w',?_,?_⟩
  ·refine aH (aC (λ m7=>?_) (λ m7=>?_))
   ·refine aH ?_;exact ⟨xw (by omega),rfl⟩
   ·exact ⟨YJ (by omega),rfl⟩
  ·rintro _ w6 ⟨rfl,hw⟩ oN;subst hw;refine aC (λ lL=>?_) (λ lL=>?_)
   ·refine bG Gn hs (H':=λ _=>cD p (dV lv ov (iU l s 5))) (Φ:=λ _ _=>True) (λ F2 eQ eA=>?_) ?_
    ·exact (C254 p lv ov l s 5 F2 _ eQ (λ w' hc=>hT w' (eA w' hc).aF) hk h0).mono λ _ _ r=>r.mono λ _ _ h=>⟨trivial,h.2⟩
    rintro _ w7 _ hs;obtain ⟨e1,e2⟩:=Q6 hr lL;rw [e1,e2,List.append_nil];exact ⟨rfl,(pT.shut hs).mut⟩
   ·refine ⟨λ w'=>St w F [cD p (dV lv ov (Yu l s)),bK ov ts,eS (λ w=>jc ts out w∧Q w)] w',?_,?_⟩
    ·refine cS (aC (λ sg=>?_) (λ sg=>?_))
     ·refine aE (aA eU (aB bL hs.hb rfl (aO (by omega) (aE (aA eU (aV hs bL (eJ rfl) (rfl) (λ w8 hs=>?_)))))));have hs:=hs.p2.p2.p2;have R6:(Yu l s)={s with at_:=s.at_+1}:=by unfold Yu; rw [if_pos (by omega)]
      rw [R6];exact hs
     ·have hs:=hs.p2.p2.p2;have R6:(Yu l s)=s:=by unfold Yu; rw [if_neg (by omega)]
      rw [R6];exact hs
    ·intro w9 hs GJ;obtain ⟨q,x,vi,Gh⟩:=Xu hr lL;refine bG anU hs (H':=λ v=>tS λ sh:bX=>fact (v=Flat.val sh) (sep (cD p (dV lv ov q)) (eS (λ w=>cA.dr w sh x)))) (Φ:=λ _ _=>True) (λ F2 eQ eA=>?_) ?_
     ·exact (C255 p lv ov l (Yu l s) (gT l s.at_ 13) (mM l s.at_) q x F2 _ eQ (λ w' hc=>hT w' (eA w' hc).aF) hk (Ja h0) vi).mono λ _ _ r=>r.mono λ _ _ h=>⟨trivial,h⟩
     rintro v_x58 pP _ Az;obtain ⟨ayT,AA⟩:=Az.eV
     clear Az
     obtain ⟨akQ,CP⟩:=AA.oB
     clear AA
     subst akQ;have hs:=CP.split
     clear CP
     obtain ⟨gz,gA,akR,hde,hdf⟩:=hs.p1.eS;subst akR;refine aN hs qw (λ DV sQ hs=>have hs:=hs.enc (cs':=Flat.enc (⟨0,(ByteArray.mk #[]),(ByteArray.mk #[]),⟨none,0,0⟩,⟨none,0,0⟩,0,0,0,0⟩:bX)) rfl;aI (x:=(⟨(x).kind,(x).gJ,(x).name,gz,gA,(x).n,(x).body,(x).fE,(x).at_⟩:bX)) hs fW rfl rfl (λ vl hs=>aE (aA pA (aB sO hs.p1.hb rfl (aJ j0 (hs.p3).fI (aE (aA pA (have hs:=hs.drew;aB sO hs.p1.hb rfl (aD fW hs.At (bW ([(⟨(x).kind,(x).gJ,(x).name,gz,gA,(x).n,(x).body,(x).fE,(x).at_⟩:bX)]) hs j0 rfl rfl (eJ rfl) (λ af2 vm hs=>?_)))))))))))
     refine ⟨aG sO (hs.p2.hb.cell rfl),?_⟩;have akS:=(hs).fI;refine cN hs.p4 j0 akS (by simp; omega) (by decide) (λ Q9 sd hs=>have hs:=hs.p1.drop;aE (aA pA (aV hs.p2 sO (eJ rfl) ((hs).fI.one) (λ v7 hs=>?_))));refine ⟨λ jv w'=>jv = .bool (decide ((gT l s.at_ 13)≠11∧(gT l s.at_ 13)≠12))∧St w F [cD p (dV lv Q9 q),bK Q9 (ts++[(⟨(x).kind,(x).gJ,(x).name,gz,gA,(x).n,(x).body,(x).fE,(x).at_⟩:bX)]),eS (λ w=>jc (ts++[(⟨(x).kind,(x).gJ,(x).name,gz,gA,(x).n,(x).body,(x).fE,(x).at_⟩:bX)]) (out++[x]) w∧(λ w=>Q w∧cA.dr w (⟨(x).kind,(x).gJ,(x).name,gz,gA,(x).n,(x).body,(x).fE,(x).at_⟩:bX) x) w),cD DV (Flat.enc (⟨(x).kind,(x).gJ,(x).name,gz,gA,(x).n,(x).body,(x).fE,(x).at_⟩:bX))] w',?_,?_⟩
     ·refine cS (aC (λ arB=>?_) (λ arB=>?_))
      ·refine cS ?_;have hs:=hs.p3.p4.fL.dO (Ψ:=λ w=>jc (ts++[(⟨(x).kind,(x).gJ,(x).name,gz,gA,(x).n,(x).body,(x).fE,(x).at_⟩:bX)]) (out++[x]) w∧(λ w=>Q w∧cA.dr w (⟨(x).kind,(x).gJ,(x).name,gz,gA,(x).n,(x).body,(x).fE,(x).at_⟩:bX) x) w) (λ w h=>⟨h.1.1.snoc h.2,h.1.2,h.2⟩);have hs:=hs.p3.p1.p3.p3;exact ⟨vb (by grind),hs⟩
      ·have hs:=hs.p3.p4.fL.dO (Ψ:=λ w=>jc (ts++[(⟨(x).kind,(x).gJ,(x).name,gz,gA,(x).n,(x).body,(x).fE,(x).at_⟩:bX)]) (out++[x]) w∧(λ w=>Q w∧cA.dr w (⟨(x).kind,(x).gJ,(x).name,gz,gA,(x).n,(x).body,(x).fE,(x).at_⟩:bX) x) w) (λ w h=>⟨h.1.1.snoc h.2,h.1.2,h.2⟩);have hs:=hs.p3.p1.p3.p3;exact ⟨vb (by grind),hs⟩
     ·rintro _ yT ⟨rfl,hs⟩ RX;refine aC (λ KM=>?_) (λ KM=>?_)
      ·refine bG xQ hs (H':=λ _=>cD p (dV lv Q9 (dN l q (ByteArray.mk #[59])))) (Φ:=λ _ _=>True) (λ F2 eQ eA=>?_) ?_
       ·exact (C234 p lv Q9 l q (ByteArray.mk #[59]) F2 _ eQ (λ w' hc=>hT w' (eA w' hc).aF) hk (BE (Ja h0) vi)).mono λ _ _ r=>r.mono λ _ _ h=>⟨trivial,h.2⟩
       rintro _ Ch _ hs;have hs:=(hs.p3.drop.p1.p1.p2).dO (Ψ:=λ w=>jc (ts++[(⟨(x).kind,(x).gJ,(x).name,gz,gA,(x).n,(x).body,(x).fE,(x).at_⟩:bX)]) (out++[x]) w∧Q w) (λ w h=>⟨h.1,h.2.1⟩);have hs:=hs.p2.p2;obtain ⟨e1,e2⟩:=Hk Gh KM;rw [e1,e2];exact ⟨rfl,(pT.shut hs).mut⟩
      ·refine ⟨λ jv w'=>jv = .int .i64 (if (gT l s.at_ 13)=12 then lp+1 else lp)∧yT=w',?_,?_⟩
       ·refine aH (aC (λ arC=>?_) (λ arC=>?_))
        ·refine aO (by omega) ?_;exact ⟨by rw [if_pos (by omega)],rfl⟩
        ·exact ⟨by rw [if_neg (by omega)],rfl⟩
       ·rintro _ Im ⟨rfl,hw⟩ dd6;subst hw;refine aO (by omega) ?_;have hs:=pT.shut hs.p2.p2.p2;obtain ⟨s3,m1,Ii,Yj⟩:=Q7 Gh KM;have hm1:m1.length<add.length:=by rcases Yj with ⟨_,s5,m2,_,_,e⟩ | ⟨_,_,e⟩ <;> rw [e] <;> simp <;> omega
        refine bG aeN hs (H':=λ _=>pT p lv s3 ((out++[x])++m1) (λ w=>Q w∧cA.dr w (⟨(x).kind,(x).gJ,(x).name,gz,gA,(x).n,(x).body,(x).fE,(x).at_⟩:bX) x)) (Φ:=λ v _=>v = .int .i64 (m1.length:Int)) (λ F2 eQ eA=>?_) ?_
        ·exact HB p lv q (d+1) (if (gT l s.at_ 13)=12 then lp+1 else lp) (out++[x]) s3 m1 (λ w=>Q w∧cA.dr w (⟨(x).kind,(x).gJ,(x).name,gz,gA,(x).n,(x).body,(x).fE,(x).at_⟩:bX) x) F2 _ eQ (λ w' hc=>hT w' (eA w' hc).aF) (BE (Ja h0) vi) (by omega) (by split <;> omega) (by rw [List.length_append,List.length_singleton]; omega) Ii
        rintro _ Jp rfl hs;obtain ⟨ov3,ts3,hs⟩:=pT.open hs;refine aA mV (aV hs.p3 bL (eJ rfl) (rfl) (λ Kz hs=>?_));have hs:=hs.enc (cs':=Flat.enc (⟨(x).kind,(x).gJ,(x).name,gz,gA,(x).n,(m1.length:Int),(x).fE,(x).at_⟩:bX)) rfl;refine ⟨λ w'=>∃ (bd el:Int) (rest:List cE),add={x with body:=bd,fE:=el}::rest∧St w F [pT p lv s2 ((out++[x])++rest) (λ w=>Q w∧cA.dr w (⟨(x).kind,(x).gJ,(x).name,gz,gA,(x).n,(x).body,(x).fE,(x).at_⟩:bX) x),cD DV (Flat.enc (⟨(x).kind,(x).gJ,(x).name,gz,gA,(x).n,bd,el,(x).at_⟩:bX))] w',?_,?_⟩
        ·refine ⟨λ jv w'=>jv = .bool (j6 l (gT l s.at_ 13) s3)∧St w F [cD p (dV lv ov3 s3),bK ov3 ts3,eS (λ w=>jc ts3 ((out++[x])++m1) w∧(λ w=>Q w∧cA.dr w (⟨(x).kind,(x).gJ,(x).name,gz,gA,(x).n,(x).body,(x).fE,(x).at_⟩:bX) x) w),cD DV (Flat.enc (⟨(x).kind,(x).gJ,(x).name,gz,gA,(x).n,(m1.length:Int),(x).fE,(x).at_⟩:bX))] w',?_,?_⟩
         ·refine aH (aC (λ Hm=>?_) (λ Hm=>?_))
          ·refine aE (aA kj (have hs:=hs.drew;aB nj hs.p1.hb rfl (aH (aC (λ Bc=>?_) (λ Bc=>?_)))))
           ·refine aE (aA gO (aB iK hs.p1.hb rfl (aE (aA eU (aB bL hs.p1.hb rfl (aZ vj hs (C211 _ l s3.at_ (ByteArray.mk #[101,108,115,101]) _ (hT _ hs.aF) hn) (λ Mu he hs=>?_)))))));have hs:=hs.p3.p3.p3;exact ⟨vb (by unfold j6; rw [decide_eq_true Hm,decide_eq_true Bc]; rfl),hs⟩
           ·have hs:=hs.p3.p3.p3;exact ⟨vb (by unfold j6; first | (rw [decide_eq_false Hm]; rfl) | (rw [decide_eq_true Hm,decide_eq_false Bc]; rfl)),hs⟩
          ·have hs:=hs.drew.p3.p3.p3;exact ⟨vb (by unfold j6; first | (rw [decide_eq_false Hm]; rfl) | (rw [decide_eq_true Hm,decide_eq_false Bc]; rfl)),hs⟩
         ·rintro _ Qm ⟨rfl,hs⟩ dd7;refine aX (λ qd=>?_) (λ qd=>?_)
          ·obtain ⟨hhe,s5,m2,hb2,e5,sM⟩ | ⟨hhe,_⟩:=Yj
           rotate_left
           ·rw [hhe] at qd; cases qd
           subst e5;have hin3:=rH (show sD l s3.at_ ago=true by unfold j6 at qd; rw [Bool.and_eq_true] at qd; exact qd.2);refine aE (aA eU (aB bL hs.hb rfl (aO (by omega) (aE (aA eU (aV hs bL (eJ rfl) (rfl) (λ Tn hs=>aO (by omega) ?_)))))));have hs:=pT.shut (s:=Xt s3) hs.p2.p2.p2;have hkd11:(gT l s.at_ 13)=11:=by unfold j6 at qd; simp at qd; exact qd.1.1
           rw [if_neg (show ¬ (gT l s.at_ 13)=12 by omega)];refine bG aeN hs (H':=λ _=>pT p lv s2 (((out++[x])++m1)++m2) (λ w=>Q w∧cA.dr w (⟨(x).kind,(x).gJ,(x).name,gz,gA,(x).n,(x).body,(x).fE,(x).at_⟩:bX) x)) (Φ:=λ v _=>v = .int .i64 (m2.length:Int)) (λ F2 eQ eA=>?_) ?_
           ·exact HB p lv (Xt s3) (d+1) lp ((out++[x])++m1) s2 m2 (λ w=>Q w∧cA.dr w (⟨(x).kind,(x).gJ,(x).name,gz,gA,(x).n,(x).body,(x).fE,(x).at_⟩:bX) x) F2 _ eQ (λ w' hc=>hT w' (eA w' hc).aF) (OF qd) (by omega) (by omega) (by have:=congrArg List.length sM; simp at this ⊢; omega) hb2
           rintro _ VG rfl hs;rw [List.append_assoc (out++[x])] at hs;refine aA iJ (aV hs.p1 bL (eJ rfl) (rfl) (λ R4 hs=>?_));have hs:=hs.enc (cs':=Flat.enc (⟨(x).kind,(x).gJ,(x).name,gz,gA,(x).n,(m1.length:Int),(m2.length:Int),(x).at_⟩:bX)) rfl;have hs:=hs.p1;exact ⟨_,_,_,sM,hs⟩
          ·obtain ⟨hhe,_⟩ | ⟨hhe,e5,sM⟩:=Yj
           ·rw [hhe] at qd; cases qd
           subst e5;have hs:=((pT.shut hs.p2.p2.p2).p1).p1;exact ⟨(m1.length:Int),x.fE,m1,sM,hs⟩
        ·rintro w26 ⟨bd,el,rest,sM,hs⟩ dd8;obtain ⟨ov5,Yv,hs⟩:=pT.open hs;refine aE (aA pA (have hs:=hs.drew;aB sO hs.hb rfl (aD fW hs.p3.At ?_)));have h5l:Yv.length=(out++[x]++rest).length:=(hs.p2.eS).1.1;have h6l:=congrArg List.length sM;simp only [List.length_append,List.length_cons,List.length_nil] at h5l h6l;obtain ⟨ayU,atx⟩:=gx (Yv) (i:=(((ts).length:Int)).toNat) (by omega);refine dT hs.p1 j0 (by omega) (by omega) (λ _ akT=>lE _ hs.p1 fW akT (by omega) (λ w27 hs=>?_));have hs:=(hs.p3.drop.p1.p2).dO (Ψ:=λ w=>jc (Yv.set (ts.length:Int).toNat (⟨(x).kind,(x).gJ,(x).name,gz,gA,(x).n,bd,el,(x).at_⟩:bX)) (out++add) w∧Q w) (λ w h=>⟨by
  have hh:=adA (i:=(ts.length:Int).toNat) (t:=(⟨(x).kind,(x).gJ,(x).name,gz,gA,(x).n,bd,el,(x).at_⟩:bX)) (x:={x with body:=bd,fE:=el}) h.1 ⟨gz,gA,rfl,ady (x:=x) h.2.2,adz (x:=x) h.2.2⟩;rw [show (ts.length:Int).toNat=out.length from by omega,List.append_assoc,List.singleton_append,Xw] at hh
  rw [sM,show (ts.length:Int).toNat=out.length from by omega]; exact hh,h.2.1⟩)
         have hs:=hs.p2.p2;exact ⟨rfl,(pT.shut hs).mut⟩
set_option maxHeartbeats 2000000 in
theorem C256 (p:Nat) (lv:Value) (l:List bF) (s:fN) (k:Nat) (d lp:Int) (out:List cE) (s2:fN) (add:List cE) (Q:World→Prop) (F:Nat→Prop) (w:World) (hF:(pT p lv s out Q).p w F) (hT:∀ w',ix F w w'→eF (λ _=>True) w' lv l) (hk:ir l) (h0:lM l s) (HB:akP l k) (hd:0≤d∧d+k≤1000) (LW:0≤lp∧lp+k≤1000) (Tm:out.length+add.length≤1000000) (hr:Tq l (k+1) s d lp=some (s2,add)):CR 256 [(.pointer (some ⟨p,0,none⟩)),.int .i64 d,.int .i64 lp] w (λ v w'=>v = .int .i64 (add.length:Int)∧qj F (pT p lv s2 (out++add) Q) w w'):=by
 have hs:=St.begin hF;obtain ⟨ov,ts,hs⟩:=pT.open hs;have MW:ts.length=out.length:=(hs.p2.eS).1.1;obtain ⟨s9,Jr,e2⟩:=Xv hr;have Fu:=hk.n;have hn:l.length≤1000000:=by omega
 have sS:=hk.at_;obtain ⟨QY,QZ⟩:=id h0;refine aa3 _ _ _ _ _ ?_;unfold S256;refine aE (aA pA (aB sO hs.hb rfl (aJ j0 (hs.p1).fI ?_)));refine ⟨λ w'=>St w F [cD p (dV lv ov (Tp l s d)),bK ov ts,eS (λ w=>jc ts out w∧Q w)] w',?_,?_⟩
 ·refine ⟨λ jv w'=>jv = .bool (decide (12<d) && sD l s.at_ B8)∧St w F [cD p (dV lv ov s),bK ov ts,eS (λ w=>jc ts out w∧Q w)] w',?_,?_⟩
  ·refine dA (aC (λ gQ=>?_) (λ gQ=>?_))
   ·refine aE (aA gO (have hs:=hs.drew;aB iK hs.hb rfl (aE (aA eU (aB bL hs.hb rfl (aZ vj hs (C211 _ l s.at_ (ByteArray.mk #[123]) _ (hT _ hs.aF) hn) (λ w1 he hs=>?_)))))));exact ⟨vb (by first | (rw [decide_eq_true (show 12<d by omega)]; rfl) | (rw [decide_eq_false (show ¬ 12<d by omega)]; rfl)),hs⟩
   ·have hs:=hs.drew;exact ⟨vb (by first | (rw [decide_eq_true (show 12<d by omega)]; rfl) | (rw [decide_eq_false (show ¬ 12<d by omega)]; rfl)),hs⟩
  ·rintro _ w2 ⟨rfl,hs⟩ fB;refine aX (λ fP=>?_) (λ fP=>?_)
   ·refine bG Gn hs (H':=λ _=>cD p (dV lv ov (iU l s 7))) (Φ:=λ _ _=>True) (λ F2 eQ eA=>?_) ?_
    ·exact (C254 p lv ov l s 7 F2 _ eQ (λ w' hc=>hT w' (eA w' hc).aF) hk h0).mono λ _ _ r=>r.mono λ _ _ h=>⟨trivial,h.2⟩
    rintro _ w3 _ hs;have hs:=hs.p2.p2.p2;have h7:Tp l s d=iU l s 7:=by unfold Tp; rw [if_pos fP]
    rw [h7]; exact hs
   ·have hs:=hs.p2.p2.p2;have h7:Tp l s d=s:=by unfold Tp; rw [if_neg (by rw [fP]; simp)]
    rw [h7]; exact hs
 ·intro w4 hs jw;refine bG xQ hs (H':=λ _=>cD p (dV lv ov (dN l (Tp l s d) (ByteArray.mk #[123])))) (Φ:=λ _ _=>True) (λ F2 eQ eA=>?_) ?_
  ·exact (C234 p lv ov l (Tp l s d) (ByteArray.mk #[123]) F2 _ eQ (λ w' hc=>hT w' (eA w' hc).aF) hk (OC h0)).mono λ _ _ r=>r.mono λ _ _ h=>⟨trivial,h.2⟩
  rintro _ w5 _ hs;have hs:=pT.shut (s:=dN l (Tp l s d) B8) hs.p2.p2.p2;refine ⟨λ mm w'=>∃ (s1:fN) (o1 a2:List cE),lM l s1∧sG l (λ s=>Cr l (Tq l k) s d lp) mm s1=some (s9,a2)∧add=o1++a2∧St w F [pT p lv s1 (out++o1) Q] w',⟨10000,_,[],add,fz (OC h0),Jr,rfl,by rw [List.append_nil]; exact hs⟩,?_⟩;rintro mm w6 ⟨s1,o1,a2,L4,Ii,sM,hs⟩ oN;obtain ⟨m,rfl⟩:=Hl Ii;obtain ⟨ov1,Yl,hs⟩:=pT.open hs;have adC:Yl.length=(out++o1).length:=(hs.p2.eS).1.1;rw [List.length_append] at adC;refine ⟨λ jv w'=>jv = .bool (decide (s1.e=0) && !sD l s1.at_ nG)∧St w F [cD p (dV lv ov1 s1),bK ov1 Yl,eS (λ w=>jc Yl (out++o1) w∧Q w)] w',?_,?_⟩
  ·refine aE (aA kj (have hs:=hs.drew;aB nj hs.hb rfl (aH (aC (λ iC=>?_) (λ iC=>?_)))))
   ·refine aE (aA gO (aB iK hs.hb rfl (aE (aA eU (aB bL hs.hb rfl (aZ vj hs (C211 _ l s1.at_ (ByteArray.mk #[125]) _ (hT _ hs.aF) hn) (λ w7 he hs=>bZ ?_)))))));have hs:=hs.p2.p2.p2;exact ⟨vb (by first | (rw [decide_eq_true iC]; rfl) | (rw [decide_eq_false iC]; rfl)),hs⟩
   ·have hs:=hs.p2.p2.p2;exact ⟨vb (by first | (rw [decide_eq_true iC]; rfl) | (rw [decide_eq_false iC]; rfl)),hs⟩
  ·rintro _ w8 ⟨rfl,hs⟩ GJ;refine aX (λ sg=>?_) (λ sg=>?_)
   ·obtain ⟨s3,a1,a3,ho,hb3,rfl⟩:=Jb Ii sg;have hs:=pT.shut hs.p2.p2.p2;refine bG aeM hs (H':=λ _=>pT p lv s3 ((out++o1)++a1) Q) (Φ:=λ _ _=>True) (λ F2 eQ eA=>?_) ?_
    ·exact (C233 p lv l s1 k d lp (out++o1) s3 a1 Q F2 _ eQ (λ w' hc=>hT w' (eA w' hc).aF) hk L4 HB (by omega) (by omega) (by have:=congrArg List.length sM; simp at this ⊢; omega) ho).mono λ _ _ r=>r.mono λ _ _ h=>⟨trivial,h.2⟩
    rintro _ w9 _ hs;exact ⟨_,by omega,s3,o1++a1,a3,OD (λ _ _ _ _ _ c e=>OE c e) L4 ho,hb3,by rw [sM,List.append_assoc],by rw [← List.append_assoc]; exact hs⟩
   ·obtain ⟨e9,rfl⟩:=Fb Ii sg;replace e9:=e9.symm;subst e9;rw [List.append_nil] at sM;subst sM;refine bG xQ hs (H':=λ _=>cD p (dV lv ov1 (dN l s1 (ByteArray.mk #[125])))) (Φ:=λ _ _=>True) (λ F2 eQ eA=>?_) ?_
    ·exact (C234 p lv ov1 l s1 (ByteArray.mk #[125]) F2 _ eQ (λ w' hc=>hT w' (eA w' hc).aF) hk L4).mono λ _ _ r=>r.mono λ _ _ h=>⟨trivial,h.2⟩
    rintro _ pP _ hs;refine aE (aA pA (aB sO hs.hb rfl (aJ j0 (hs.p1).fI (gy (by omega) ?_))));rw [e2];exact ⟨congrArg (Value.int .i64) (by omega),(pT.shut hs).mut⟩
theorem arE {l:List bF} (hk:ir l):∀ k,akP l k
 | 0=>λ p lv s d lp out s2 add Q F w _ _ _ _ _ _ h=>by cases h
 | k+1=>λ p lv s d lp out s2 add Q F w hF hT h0 hd LW Tm h=>C256 p lv l s k d lp out s2 add Q F w hF hT hk h0 (arE hk k) (by omega) (by omega) Tm h
def tq (i:Int):fN:=⟨i,0,0⟩
def Fc (l:List bF) (i op:Int):Option (List cE × Int × Int × Int):=
 (sG l (λ s=>Cr l (Tq l 20) s 0 0) 10000 (tq i)).bind λ r=>
  if 1000000<r.2.length then none else if (dN l r.1 nG).e≠0 then some ([],0,(dN l r.1 nG).e,(dN l r.1 nG).pos)
  else if 40<r.2.length then some ([],0,2,(oG l op).at_)
  else some (r.2,(dN l r.1 nG).at_,0,0)
def Jc (l:List bF) (s:fN):Bool:=match ky l s.at_ with | some t=>decide (t.kind=2) | none=>false
def fg (l:List bF) (nb:Bool) (s:fN):fN × dF:=
 if (nb && (gM l (eW l s).1 Jt).2)=true then
  (if Jc l (gM l (eW l s).1 Jt).1=true then (Xt (gM l (eW l s).1 Jt).1,{ (eW l s).2 with n:=(oG l (gM l (eW l s).1 Jt).1.at_).n})
  else (iU l (gM l (eW l s).1 Jt).1 5,(eW l s).2))
 else eW l s
abbrev BF:ByteArray:=⟨#[44]⟩
abbrev Ra:ByteArray:=⟨#[59]⟩
def o7 (l:List bF) (nb:Bool):Nat→Bool→fN→Option (fN × List dF)
 | 0,_,_=>none
 | m+1,more,s=>if (more && decide (s.e=0))=true then (o7 l nb m (gM l (fg l nb s).1 BF).2 (gM l (fg l nb s).1 BF).1).bind λ r=>some (r.1,(fg l nb s).2::r.2) else some (s,[])
def mN (l:List bF) (nb:Bool) (s:fN):Option (fN × List dF):=(o7 l nb 10000 true s).bind λ r=>if 1000000<r.2.length then none else some (dN l r.1 Ra,r.2)
abbrev SH:ByteArray:=⟨#[114,101,103]⟩
def AH (l:List bF) (s:fN):Option (fN × List ByteArray):=
 if (gM l s SH).2=true then (mN l false (gM l s SH).1).bind λ r=>some (r.1,r.2.map dF.name) else some (s,[])
def sH (l:List bF) (s:fN) (nm:ByteArray) (a:Int):Option (fN × dR):=
 (AH l (dN l s B8)).bind λ r=>
  if r.1.e≠0 then some (r.1,⟨nm,r.2,[],a⟩)
  else (Fc l r.1.at_ s.at_).bind λ R=>if 0≤R.2.1∧R.2.1≤l.length then some (⟨R.2.1,R.2.2.1,R.2.2.2⟩,⟨nm,r.2,R.1,a⟩) else none
def wJ (l:List bF) (s:fN) (a:Int):Option (fN × ju):=
 (vw l s.at_).bind λ R=>if R.2.2.1≠0 then some ({s with e:=R.2.2.1,pos:=R.2.2.2},⟨[],0⟩)
  else if 0≤R.2.1∧R.2.1≤l.length then some (dN l {s with at_:=R.2.1} Ra,⟨R.1,a⟩) else none
def mG {α:Type} (l:List bF) (t:ByteArray) (rd:fN→Option (fN × α)):Nat→fN→Option (fN × List α)
 | 0,_=>none
 | m+1,s=>if (gM l s t).2=true then (rd (gM l s t).1).bind λ r=>(mG l t rd m r.1).bind λ q=>some (q.1,r.2::q.2) else some (s,[])
def yQ (l:List bF) (s:fN):Int:=(oG l (s.at_ - 1)).at_
def OG (l:List bF) (s:fN):Option (fN × List dR):=
 if (gM l s ⟨#[114,101,99,111,118,101,114]⟩).2=true then (sH l (gM l s ⟨#[114,101,99,111,118,101,114]⟩).1 ⟨#[]⟩ (yQ l (gM l s ⟨#[114,101,99,111,118,101,114]⟩).1)).bind λ r=>some (r.1,[r.2]) else some (s,[])
abbrev Xx:ByteArray:=⟨#[108,105,110,101]⟩
abbrev akU:ByteArray:=⟨#[118,111,108]⟩
abbrev Xy:ByteArray:=⟨#[108,111,99,107]⟩
abbrev Jd:ByteArray:=⟨#[116,104,114,101,97,100]⟩
abbrev Je:ByteArray:=⟨#[97,108,119,97,121,115]⟩
def akV (l:List bF) (s:fN):Option (fN × dR):=sH l (eW l s).1 (eW l s).2.name (eW l s).2.at_
def F0 (l:List bF) (s:fN):fN:=if s.at_<l.length then iU l s 5 else s
def L5:cU:=⟨[],[],[],[],[],[]⟩
def rJ (t:ByteArray):Option (cU × Int × Int):=
 (ux t).bind λ L=>if L.2.1≠0 then some (L5,L.2.1,L.2.2) else
 (mG L.1 Xx (mN L.1 true) 10000 (tq 0)).bind λ r1=>
 (mG L.1 akU (mN L.1 true) 10000 r1.1).bind λ r2=>
 (mG L.1 Xy (mN L.1 false) 10000 r2.1).bind λ r3=>
 (mG L.1 Jd (akV L.1) 10000 r3.1).bind λ r4=>
 (OG L.1 r4.1).bind λ r5=>
 (mG L.1 Je (λ s=>wJ L.1 s (yQ L.1 s)) 10000 r5.1).bind λ r6=>
  if 1000000<r1.2.length∨1000000<r2.2.flatten.length∨1000000<r3.2.flatten.length∨1000000<r4.2.length∨1000000<r6.2.length then none else if (F0 L.1 r6.1).e≠0 then some (L5,(F0 L.1 r6.1).e,(F0 L.1 r6.1).pos) else some (⟨r1.2,r2.2.flatten,r3.2.flatten,r4.2,r5.2,r6.2⟩,0,0)
section
variable {l:List bF} {s s':fN}
theorem Xz {t:ByteArray} (h:(gM l s t).2=true):gM l s t=({s with at_:=s.at_+1},true)∧s.e=0∧0≤s.at_∧s.at_<l.length:=by
 unfold gM at h ⊢
 split at h
 ·rename_i h2
  rw [if_pos h2]
  rw [Bool.and_eq_true,decide_eq_true_eq] at h2
  exact ⟨rfl,h2.1,rH h2.2⟩
 ·cases h
theorem wK {t:ByteArray} (h:(gM l s t).2=false):gM l s t=(s,false):=by
 unfold gM at h ⊢
 split at h
 ·cases h
 ·rename_i h2; rw [if_neg h2]
theorem Fe {nb:Bool} (h:lM l s):lM l (fg l nb s).1:=by
 have h1:=uy h
 have h2:=jU (t:=Jt) h1
 unfold fg
 split
 ·split
  ·rename_i h3
   unfold Jc at h3
   cases ht:ky l (gM l (eW l s).1 Jt).1.at_ with
   | none=>rw [ht] at h3; cases h3
   | some t=>
    have:=mh ht
    exact ⟨by show 0≤(gM l (eW l s).1 Jt).1.at_+1; omega,by show (gM l (eW l s).1 Jt).1.at_+1≤_; omega⟩
  ·exact sF h2
 ·exact h1
theorem Hn {nb:Bool}:∀ {m:Nat} {more:Bool} {s s':fN} {x:List dF},lM l s→o7 l nb m more s=some (s',x)→lM l s'
 | 0,_,_,_,_,_,h=>by cases h
 | m+1,more,s,s',x,h0,h=>by
  unfold o7 at h
  split at h
  ·obtain ⟨q,y,h1,h2⟩:=eG h
   cases h2
   exact Hn (jU (Fe h0)) h1
  ·cases h; exact h0
theorem xo {nb:Bool} {x:List dF} (h:mN l nb s=some (s',x)):∃ s1,o7 l nb 10000 true s=some (s1,x)∧s'=dN l s1 Ra∧x.length≤1000000:=by
 unfold mN at h
 obtain ⟨q,y,h1,h2⟩:=eG h
 dsimp only at h2
 split at h2
 ·cases h2
 ·cases h2; exact ⟨_,h1,rfl,by omega⟩
theorem xp {nb:Bool} {x:List dF} (h0:lM l s) (h:mN l nb s=some (s',x)):lM l s':=by
 obtain ⟨s1,h1,h2,_⟩:=xo h
 rw [h2]; exact fz (Hn h0 h1)
theorem L6 {nb more:Bool} {m:Nat} {x:List dF} (h:o7 l nb m more s=some (s',x)):∃ k,m=k+1:=by
 cases m with
 | zero=>cases h
 | succ k=>exact ⟨k,rfl⟩
theorem Ff {nb more:Bool} {m:Nat} {x:List dF} (h:o7 l nb (m+1) more s=some (s',x)) (hb:(more && decide (s.e=0))=false):s'=s∧x=[]:=by
 unfold o7 at h; rw [hb,if_neg (by simp)] at h; cases h; exact ⟨rfl,rfl⟩
theorem SI {nb more:Bool} {m:Nat} {x:List dF} (h:o7 l nb (m+1) more s=some (s',x)) (hb:(more && decide (s.e=0))=true):∃ y,o7 l nb m (gM l (fg l nb s).1 BF).2 (gM l (fg l nb s).1 BF).1=some (s',y)∧x=(fg l nb s).2::y:=by
 unfold o7 at h; rw [hb,if_pos rfl] at h
 obtain ⟨q,y,h1,h2⟩:=eG h
 cases h2
 exact ⟨_,h1,rfl⟩
theorem L7 {x:List ByteArray} (h0:lM l s) (h:AH l s=some (s',x)):lM l s':=by
 unfold AH at h
 split at h
 ·obtain ⟨q,y,h1,h2⟩:=eG h
  cases h2
  exact xp (jU h0) h1
 ·cases h; exact h0
theorem Fg {nm:ByteArray} {a:Int} {x:dR} (h0:lM l s) (h:sH l s nm a=some (s',x)):lM l s':=by
 unfold sH at h
 obtain ⟨q,y,h1,h2⟩:=eG h
 have h3:=L7 (fz h0) h1
 dsimp only at h2
 split at h2
 ·cases h2; exact h3
 ·cases hr:Fc l q.at_ s.at_ with
  | none=>rw [hr] at h2; cases h2
  | some R=>
   rw [hr] at h2
   simp only [Option.bind_some] at h2
   split at h2
   ·rename_i h4; cases h2; exact h4
   ·cases h2
theorem SJ {a:Int} {x:ju} (h0:lM l s) (h:wJ l s a=some (s',x)):lM l s':=by
 unfold wJ at h
 cases hr:vw l s.at_ with
 | none=>rw [hr] at h; cases h
 | some R=>
  rw [hr] at h
  simp only [Option.bind_some] at h
  split at h
  ·cases h; exact h0
  ·split at h
   ·rename_i h4; cases h; exact fz h4
   ·cases h
theorem rK {α:Type} {t:ByteArray} {rd:fN→Option (fN × α)} {m:Nat} {x:List α} (h:mG l t rd m s=some (s',x)):∃ k,m=k+1:=by
 cases m with
 | zero=>cases h
 | succ k=>exact ⟨k,rfl⟩
theorem uA {α:Type} {t:ByteArray} {rd:fN→Option (fN × α)} {m:Nat} {x:List α} (h:mG l t rd (m+1) s=some (s',x)) (hb:(gM l s t).2=false):s'=s∧x=[]:=by
 unfold mG at h; rw [hb,if_neg (by simp)] at h; cases h; exact ⟨rfl,rfl⟩
theorem wL {α:Type} {t:ByteArray} {rd:fN→Option (fN × α)} {m:Nat} {x:List α} (h:mG l t rd (m+1) s=some (s',x)) (hb:(gM l s t).2=true):∃ s1 y z,rd (gM l s t).1=some (s1,y)∧mG l t rd m s1=some (s',z)∧x=y::z:=by
 unfold mG at h; rw [hb,if_pos rfl] at h
 obtain ⟨q,y,h1,h2⟩:=eG h
 obtain ⟨q2,y2,h3,h4⟩:=eG h2
 cases h4
 exact ⟨_,_,_,h1,h3,rfl⟩
end
def noQ:World→Prop:=λ _=>True
theorem AI {l:List bF} {i:Int} {t:bF} (h0:0≤i) (h:l[i.toNat]? = some t):oG l i=t:=by
 unfold oG ky; rw [if_pos h0,h]; rfl
theorem adD {l:List bF} {i op:Int} {R:List cE × Int × Int × Int} (h:Fc l i op=some R):∃ s9 add,sG l (λ s=>Cr l (Tq l 20) s 0 0) 10000 (tq i)=some (s9,add)∧add.length≤1000000∧
  ((dN l s9 nG).e≠0→R=([],0,(dN l s9 nG).e,(dN l s9 nG).pos))∧(¬ (dN l s9 nG).e≠0→40<(add.length:Int)→R=([],0,2,(oG l op).at_))∧
  (¬ (dN l s9 nG).e≠0→¬ 40<(add.length:Int)→R=(add,(dN l s9 nG).at_,0,0)):=by
 unfold Fc at h
 obtain ⟨q,y,h1,h2⟩:=eG h
 dsimp only at h2
 split at h2
 ·cases h2
 ·rename_i hl
  refine ⟨q,y,h1,by omega,λ he=>?_,λ he hb=>?_,λ he hb=>?_⟩
  ·rw [if_pos he] at h2; exact (Option.some.inj h2).symm
  ·rw [if_neg he,if_pos (by omega)] at h2; exact (Option.some.inj h2).symm
  ·rw [if_neg he,if_neg (by omega)] at h2; exact (Option.some.inj h2).symm
section
variable {l:List bF} {s s':fN} {nb:Bool}
theorem SK (hn:nb=true) (h2:(gM l (eW l s).1 Jt).2=true) (h3:Jc l (gM l (eW l s).1 Jt).1=true) :
  fg l nb s=(Xt (gM l (eW l s).1 Jt).1,{ (eW l s).2 with n:=(oG l (gM l (eW l s).1 Jt).1.at_).n}):=by
 unfold fg; rw [hn,h2,if_pos (show (true && true)=true from rfl),if_pos h3]
theorem SL (hn:nb=true) (h2:(gM l (eW l s).1 Jt).2=true) (h3:Jc l (gM l (eW l s).1 Jt).1=false) :
  fg l nb s=(iU l (gM l (eW l s).1 Jt).1 5,(eW l s).2):=by
 unfold fg; rw [hn,h2,if_pos (show (true && true)=true from rfl),if_neg (by rw [h3]; simp)]
theorem XA (h2:(gM l (eW l s).1 Jt).2=false):fg l nb s=((gM l (eW l s).1 Jt).1,(eW l s).2):=by
 unfold fg; rw [if_neg (by rw [h2]; simp),wK h2]
theorem XB (hn:nb=false):fg l nb s=((eW l s).1,(eW l s).2):=by
 unfold fg; rw [if_neg (by rw [hn]; simp)]
theorem adE {q:fN} (h:Jc l q=true):∃ tk,ky l q.at_=some tk∧l[q.at_.toNat]? = some tk∧0≤q.at_∧q.at_<l.length:=by
 unfold Jc at h
 cases ht:ky l q.at_ with
 | none=>rw [ht] at h; cases h
 | some tk=>have:=mh ht; exact ⟨tk,rfl,this.2.2,this.1,this.2.1⟩
theorem Ho {x:List ByteArray} (h:AH l s=some (s',x)) (h1:(gM l s SH).2=true):∃ ys,mN l false (gM l s SH).1=some (s',ys)∧x=ys.map dF.name:=by
 unfold AH at h; rw [if_pos h1] at h
 obtain ⟨q,y,h2,h3⟩:=eG h
 cases h3
 exact ⟨y,h2,rfl⟩
theorem L8 {x:List ByteArray} (h:AH l s=some (s',x)) (h1:(gM l s SH).2=false):s'=s∧x=[]:=by
 unfold AH at h; rw [if_neg (by rw [h1]; simp)] at h
 cases h; exact ⟨rfl,rfl⟩
theorem OH {nm:ByteArray} {a:Int} {x:dR} (h:sH l s nm a=some (s',x)):∃ q rs,AH l (dN l s B8)=some (q,rs)∧
  (q.e≠0→s'=q∧x=⟨nm,rs,[],a⟩)∧(¬ q.e≠0→∃ R,Fc l q.at_ s.at_=some R∧0≤R.2.1∧R.2.1≤l.length∧s'=⟨R.2.1,R.2.2.1,R.2.2.2⟩∧x=⟨nm,rs,R.1,a⟩):=by
 unfold sH at h
 obtain ⟨q,rs,h1,h2⟩:=eG h
 refine ⟨q,rs,h1,λ he=>?_,λ he=>?_⟩
 ·dsimp only at h2; rw [if_pos he] at h2; cases h2; exact ⟨rfl,rfl⟩
 ·dsimp only at h2; rw [if_neg he] at h2
  cases hr:Fc l q.at_ s.at_ with
  | none=>rw [hr] at h2; cases h2
  | some R=>
   rw [hr] at h2
   simp only [Option.bind_some] at h2
   split at h2
   ·rename_i h4; cases h2; exact ⟨R,rfl,h4.1,h4.2,rfl,rfl⟩
   ·cases h2
theorem SM {a:Int} {x:ju} (h:wJ l s a=some (s',x)):∃ R,vw l s.at_=some R∧
  (R.2.2.1≠0→s'={s with e:=R.2.2.1,pos:=R.2.2.2}∧x=⟨[],0⟩)∧(¬ R.2.2.1≠0→(0≤R.2.1∧R.2.1≤l.length)∧s'=dN l {s with at_:=R.2.1} Ra∧x=⟨R.1,a⟩):=by
 unfold wJ at h
 cases hr:vw l s.at_ with
 | none=>rw [hr] at h; cases h
 | some R=>
  rw [hr] at h
  simp only [Option.bind_some] at h
  refine ⟨R,rfl,λ he=>?_,λ he=>?_⟩
  ·rw [if_pos he] at h; cases h; exact ⟨rfl,rfl⟩
  ·rw [if_neg he] at h
   split at h
   ·rename_i h4; cases h; exact ⟨h4,rfl,rfl⟩
   ·cases h
theorem akW {e:Int} (he:e≠0) (h:(iU l s e).e=0):False:=by
 unfold iU at h
 split at h
 ·dsimp only at h; split at h <;> omega
 ·rename_i h1; exact h1 h
theorem adF {t:ByteArray} (h:(dN l s t).e=0):sD l s.at_ t=true:=by
 unfold dN at h
 split at h
 ·rename_i h1; rw [Bool.and_eq_true] at h1; exact h1.2
 ·exact (akW (by decide) h).elim
theorem arG {t:ByteArray}:(gM l s t).1.e=s.e:=by unfold gM; split <;> rfl
theorem SN {e:Int} (h:s.e≠0):(iU l s e).e≠0:=by unfold iU; rw [if_neg h]; exact h
theorem OI {t:ByteArray} (h:s.e≠0):(dN l s t).e≠0:=by
 unfold dN; rw [if_neg (by rw [Bool.and_eq_true,decide_eq_true_eq]; exact λ hh=>h hh.1)]; exact SN h
theorem L9:∀ {m:Nat} {more:Bool} {s s':fN} {x:List dF},s.e≠0→o7 l nb m more s=some (s',x)→s'.e≠0
 | 0,_,_,_,_,_,h=>by cases h
 | m+1,more,s,s',x,h0,h=>by
  have:=Ff h (by rw [decide_eq_false h0,Bool.and_false])
  rw [this.1]; exact h0
theorem Ma {x:List dF} (h0:s.e≠0) (h:mN l nb s=some (s',x)):s'.e≠0:=by
 obtain ⟨s1,h1,h2,_⟩:=xo h
 rw [h2]; exact OI (L9 h0 h1)
theorem OJ {x:List ByteArray} (h0:s.e≠0) (h:AH l s=some (s',x)):s'.e≠0:=by
 cases h1:(gM l s SH).2 with
 | true=>obtain ⟨ys,h2,_⟩:=Ho h h1; exact Ma (by rw [arG]; exact h0) h2
 | false=>rw [(L8 h h1).1]; exact h0
end
theorem F3 {α β:Type} {f:α→β} {l:List α} {k:Nat} {e:α} (h:l[k]? = some e):(l.take k).map f++[f e]=(l.take (k+1)).map f:=by
 rw [← gX h,List.map_append]; rfl
theorem Mb {l:List bF} {s s':fN} {x:List dR} (h:OG l s=some (s',x)) (h1:(gM l s ⟨#[114,101,99,111,118,101,114]⟩).2=true):∃ y,sH l (gM l s ⟨#[114,101,99,111,118,101,114]⟩).1 ⟨#[]⟩ (yQ l (gM l s ⟨#[114,101,99,111,118,101,114]⟩).1)=some (s',y)∧x=[y]:=by
 unfold OG at h; rw [if_pos h1] at h
 obtain ⟨q,y,h2,h3⟩:=eG h
 cases h3
 exact ⟨y,h2,rfl⟩
theorem Rb {l:List bF} {s s':fN} {x:List dR} (h:OG l s=some (s',x)) (h1:(gM l s ⟨#[114,101,99,111,118,101,114]⟩).2=false):s'=s∧x=[]:=by
 unfold OG at h; rw [if_neg (by rw [h1]; simp)] at h
 cases h; exact ⟨rfl,rfl⟩
theorem SO {t:ByteArray} {l:List bF} {e a:Int} {R:cU × Int × Int} (h:rJ t=some R) (hs:ux t=some (l,e,a)) (he:e≠0):R=(L5,e,a):=by
 unfold rJ at h; rw [hs] at h
 simp only [Option.bind_some] at h
 rw [if_pos he] at h; exact (Option.some.inj h).symm
theorem OK {t:ByteArray} {R:cU × Int × Int} (h:rJ t=some R):∃ l e a,ux t=some (l,e,a):=by
 unfold rJ at h
 cases hs:ux t with
 | none=>rw [hs] at h; cases h
 | some L=>exact ⟨L.1,L.2.1,L.2.2,rfl⟩
structure akX (l:List bF) (R:cU × Int × Int) (t1 t2 t3 t4 t5 t6:fN) (y1:List (List dF)) (y2 y3:List (List dF)) (y4 y5:List dR) (y6:List ju):Prop where
 h1:mG l Xx (mN l true) 10000 (tq 0)=some (t1,y1)
 h2:mG l akU (mN l true) 10000 t1=some (t2,y2)
 h3:mG l Xy (mN l false) 10000 t2=some (t3,y3)
 h4:mG l Jd (akV l) 10000 t3=some (t4,y4)
 h5:OG l t4=some (t5,y5)
 h6:mG l Je (λ s=>wJ l s (yQ l s)) 10000 t5=some (t6,y6)
 b1:y1.length≤1000000
 b2:y2.flatten.length≤1000000
 b3:y3.flatten.length≤1000000
 b4:y4.length≤1000000
 b6:y6.length≤1000000
 bad:(F0 l t6).e≠0→R=(L5,(F0 l t6).e,(F0 l t6).pos)
 ayV:¬ (F0 l t6).e≠0→R=(⟨y1,y2.flatten,y3.flatten,y4,y5,y6⟩,0,0)
theorem XC {t:ByteArray} {l:List bF} {e a:Int} {R:cU × Int × Int} (h:rJ t=some R) (hs:ux t=some (l,e,a)) (he:¬ e≠0):∃ t1 t2 t3 t4 t5 t6 y1 y2 y3 y4 y5 y6,akX l R t1 t2 t3 t4 t5 t6 y1 y2 y3 y4 y5 y6:=by
 unfold rJ at h; rw [hs] at h
 simp only [Option.bind_some] at h
 rw [if_neg he] at h
 obtain ⟨t1,y1,h1,h⟩:=eG h
 obtain ⟨t2,y2,h2,h⟩:=eG h
 obtain ⟨t3,y3,h3,h⟩:=eG h
 obtain ⟨t4,y4,h4,h⟩:=eG h
 obtain ⟨t5,y5,h5,h⟩:=eG h
 obtain ⟨t6,y6,h6,h⟩:=eG h
 dsimp only at h
 split at h
 ·cases h
 ·rename_i hb
  simp only [not_or,Nat.not_lt] at hb
  refine ⟨t1,t2,t3,t4,t5,t6,y1,y2,y3,y4,y5,y6,h1,h2,h3,h4,h5,h6,hb.1,hb.2.1,hb.2.2.1,hb.2.2.2.1,hb.2.2.2.2,λ hh=>?_,λ hh=>?_⟩
  ·rw [if_pos hh] at h; exact (Option.some.inj h).symm
  ·rw [if_neg hh] at h; exact (Option.some.inj h).symm
theorem adG {l:List bF} {s s':fN} {x:List dR} (h0:lM l s) (h:OG l s=some (s',x)):lM l s':=by
 cases h1:(gM l s ⟨#[114,101,99,111,118,101,114]⟩).2 with
 | true=>obtain ⟨y,h2,_⟩:=Mb h h1; exact Fg (jU h0) h2
 | false=>rw [(Rb h h1).1]; exact h0
theorem AJ {α:Type} {a:List (List α)} {b:List α}:(a++[b]).flatten=a.flatten++b:=by simp
theorem Rc {α:Type} {y a c:List (List α)} {b:List α} (h:y=a++b::c):a.flatten.length+b.length≤y.flatten.length:=by rw [h]; simp
theorem C213 (l:List bF) (lv:Value) (i op:Int) (R:List cE × Int × Int × Int) (w:World) (hL:eF (λ _=>True) w lv l) (hk:ir l) (h0:0≤i∧i≤l.length) (jN:0≤op∧op<l.length) (hr:Fc l i op=some R):CR 213 [lv,.int .i64 i,.int .i64 op] w (λ v w'=>∃ sv:SV,v = .tuple #[Flat.val sv,.int .i64 R.2.1,.int .i64 R.2.2.1,.int .i64 R.2.2.2]∧lW (eS (λ w=>DL w (Flat.val sv) R.1)) w w'):=by
 have Fu:=hk.n;have hn:l.length≤1000000:=by omega
 have sS:=hk.at_;obtain ⟨s9,add,Jr,Tm,hR⟩:=adD hr;obtain ⟨lsv,hlv⟩:=hL.fQ;have hs:=St.start w;refine aan _ _ _ _ _ ?_;unfold S213;rw [hlv];refine pop (M8 _ _ _ _) (lR hs (λ arI w1 hs=>?_));obtain ⟨p,rfl⟩:∃ p,p=arI:=⟨_,rfl⟩;have hs:=hs.enc (cs':=dV (Flat.val lsv) (.slice none 0 0) (tq i)) rfl;rw [← hlv] at hs ⊢;have hT:∀ w',ix bD w w'→eF (λ _=>True) w' lv l:=λ w' hc=>hL.ext hc;have hs:=((hs.gE (Φ:=λ w=>jc ([]:List bX) ([]:List cE) w∧noQ w) λ w=>⟨jc.nil,trivial⟩).fX (α:=bX)).p2;have hs:=pT.shut hs;refine ⟨λ mm w'=>∃ (s1:fN) (o1 a2:List cE),lM l s1∧sG l (λ s=>Cr l (Tq l 20) s 0 0) mm s1=some (s9,a2)∧add=o1++a2∧St w bD [pT p lv s1 (([]:List cE)++o1) noQ] w',⟨10000,tq i,[],add,(show lM l (tq i) from h0),Jr,rfl,by rw [List.append_nil]; exact hs⟩,?_⟩
 rintro mm w2 ⟨s1,o1,a2,L4,Ii,sM,hs⟩ fB;obtain ⟨m,rfl⟩:=Hl Ii;obtain ⟨ov1,Yl,hs⟩:=pT.open hs;have adC:Yl.length=(([]:List cE)++o1).length:=(hs.p2.eS).1.1;rw [List.length_append] at adC;refine ⟨λ jv w'=>jv = .bool (decide (s1.e=0) && !sD l s1.at_ nG)∧St w bD [cD p (dV lv ov1 s1),bK ov1 Yl,eS (λ w=>jc Yl (([]:List cE)++o1) w∧noQ w)] w',?_,?_⟩
 ·refine aE (aA kj (have hs:=hs.drew;aB nj hs.hb rfl (aH (aC (λ fw=>?_) (λ fw=>?_)))))
  ·refine aE (aA gO (aB iK hs.hb rfl (aE (aA eU (aB bL hs.hb rfl (aZ vj hs (C211 _ l s1.at_ (ByteArray.mk #[125]) _ (hT _ hs.aF) hn) (λ w3 he hs=>bZ ?_)))))));have hs:=hs.p2.p2.p2;exact ⟨vb (by first | (rw [decide_eq_true fw]; rfl) | (rw [decide_eq_false fw]; rfl)),hs⟩
  ·have hs:=hs.p2.p2.p2;exact ⟨vb (by first | (rw [decide_eq_true fw]; rfl) | (rw [decide_eq_false fw]; rfl)),hs⟩
 ·rintro _ w4 ⟨rfl,hs⟩ jw;refine aX (λ lJ=>?_) (λ lJ=>?_)
  ·obtain ⟨s3,a1,a3,ho,hb3,rfl⟩:=Jb Ii lJ;have hs:=pT.shut hs.p2.p2.p2;refine bG aeM hs (H':=λ _=>pT p lv s3 ((([]:List cE)++o1)++a1) noQ) (Φ:=λ _ _=>True) (λ F2 eQ eA=>?_) ?_
   ·exact (C233 p lv l s1 20 0 0 (([]:List cE)++o1) s3 a1 noQ F2 _ eQ (λ w' hc=>hT w' (eA w' hc).aF) hk L4 (arE hk 20) (by omega) (by omega) (by have:=congrArg List.length sM; simp at this ⊢; omega) ho).mono λ _ _ r=>r.mono λ _ _ h=>⟨trivial,h.2⟩
   rintro _ w5 _ hs;exact ⟨_,by omega,s3,o1++a1,a3,OD (λ _ _ _ _ _ c e=>OE c e) L4 ho,hb3,by rw [sM,List.append_assoc],by rw [← List.append_assoc]; exact hs⟩
  ·obtain ⟨e9,rfl⟩:=Fb Ii lJ;replace e9:=e9.symm;subst e9;rw [List.append_nil] at sM;subst sM;obtain ⟨ayX,ayY⟩:=id L4;simp only [List.length_nil,Nat.zero_add] at adC;refine bG xQ hs (H':=λ _=>cD p (dV lv ov1 (dN l s1 (ByteArray.mk #[125])))) (Φ:=λ _ _=>True) (λ F2 eQ eA=>?_) ?_
   ·exact (C234 p lv ov1 l s1 (ByteArray.mk #[125]) F2 _ eQ (λ w' hc=>hT w' (eA w' hc).aF) hk L4).mono λ _ _ r=>r.mono λ _ _ h=>⟨trivial,h.2⟩
   rintro _ w6 _ hs;refine aE (aA kj (aB nj hs.hb rfl (cS (aC (λ ql=>?_) (λ ql=>?_)))))
   ·refine aE (aA kj (have hs:=hs.drew;aB nj hs.hb rfl (aE (aA zC (aB bL hs.hb rfl ?_)))));have hRR:R=([],0,(dN l s1 nG).e,(dN l s1 nG).pos):=hR.1 ql;rw [hRR];exact ⟨⟨none,0,0⟩,rfl,(hs.gE (Φ:=λ w=>DL w (Flat.val (⟨none,0,0⟩:SV)) ([]:List cE)) λ w=>DL.nil w).fresh⟩
   ·refine aE (aA pA (aB sO hs.hb rfl (aJ j0 (hs.p1).fI (dA (aC (λ wm=>?_) (λ wm=>?_))))))
    ·obtain ⟨Lf,oU⟩:=gx (l) (i:=(op).toNat) (by omega);refine aQ fC hL (by omega) oU (λ _ wo=>bT (Lf).at_ ld wo rfl rfl (λ _ zZ=>have hs:=hs.drew;aD bL (zZ.ext hs.aF) ?_));have hRR:R=([],0,2,Lf.at_):=(hR.2.1 ql (by omega)).trans (by rw [AI jN.1 oU]);rw [hRR];exact ⟨⟨none,0,0⟩,rfl,(hs.gE (Φ:=λ w=>DL w (Flat.val (⟨none,0,0⟩:SV)) ([]:List cE)) λ w=>DL.nil w).fresh⟩
    ·refine aE (aA pA (have hs:=hs.drew;aB sO hs.hb rfl (aE (aA eU (aB bL hs.hb rfl ?_)))));have hs:=((hs.drop.p1).dO (Ψ:=jc Yl ([]++add)) (λ w h=>h.1)).p1;have hs:=St.DK hs;obtain ⟨sv,hsv⟩:=hs.lH;subst hsv;rw [hR.2.2 ql (by omega)];exact ⟨sv,rfl,hs.jF.fresh⟩
theorem C166 (p:Nat) (lv:Value) (l:List bF) (s:fN) (nb:Bool) (s2:fN) (x:List dF) (F:Nat→Prop) (w:World) (hF:(cD p (ee lv s)).p w F) (hT:∀ w',ix F w w'→eF (λ _=>True) w' lv l) (hk:ir l) (h0:lM l s) (hr:mN l nb s=some (s2,x)):CR 166 [(.pointer (some ⟨p,0,none⟩)),.bool nb] w (λ v w'=>qj F (sep (cD p (ee lv s2)) (bK v x)) w w'):=by
 have hs:=St.begin hF;obtain ⟨s9,hn0,e2,Tm⟩:=xo hr;have Fu:=hk.n;have hn:l.length≤1000000:=by omega
 have sS:=hk.at_;obtain ⟨QY,QZ⟩:=id h0;refine ZJ _ _ _ _ ?_;unfold S166;refine bW (([]:List dF)) hs jZ rfl rfl (eJ rfl) (λ xJ w1 hs=>?_);have hs:=hs.p1.p1;refine ⟨λ mm o mo w'=>∃ (s1:fN) (b:Bool) (o1 a2:List dF),mo = .bool b∧lM l s1∧o7 l nb mm b s1=some (s9,a2)∧x=o1++a2∧St w F [bK o o1,cD p (ee lv s1)] w',⟨10000,s,true,[],x,rfl,h0,hn0,rfl,hs⟩,?_⟩;rintro mm yl _ w2 ⟨s1,b,o1,a2,rfl,L4,UQ,hx,hs⟩ fB;obtain ⟨m,rfl⟩:=L6 UQ;obtain ⟨ayX,ayY⟩:=id L4;refine ⟨λ jv w'=>jv = .bool (b && decide (s1.e=0))∧w2=w',?_,?_⟩
 ·refine aX (λ AK=>?_) (λ AK=>?_)
  ·refine aE (aA lU (aB nj hs.p1.hb rfl (aH ?_)));exact ⟨vb (by first | (rw [AK]; rfl) | (rw [AK]; rfl)),rfl⟩
  ·exact ⟨vb (by first | (rw [AK]; rfl) | (rw [AK]; rfl)),rfl⟩
 ·rintro _ w3 ⟨rfl,hw⟩ jw;subst hw;refine aX (λ eB=>?_) (λ eB=>?_)
  ·obtain ⟨a3,hn3,rfl⟩:=SI UQ eB;refine bG aeB hs.p1 (H':=λ _=>cD p (ee lv (eW l s1).1)) (Φ:=λ v _=>v=Flat.val (eW l s1).2) (λ F2 eQ eA=>?_) ?_
   ·exact C167 p lv l s1 F2 _ eQ (λ w' hc=>hT w' (eA w' hc).aF) hk L4
   rintro _ w4 rfl hs;refine aN hs CC (λ arJ w5 hs=>aI (x:=(eW l s1).2) hs xU rfl rfl (λ w6 hs=>?_));refine ⟨λ w'=>St w F [cD p (ee lv (fg l nb s1).1),cD arJ (Flat.enc (fg l nb s1).2),bK yl o1] w',?_,?_⟩
   ·refine ⟨_,?_,λ _ _ h=>h⟩;refine aX (λ vf=>?_) (λ vf=>?_)
    ·refine bG xP hs.p1 (H':=λ _=>cD p (ee lv (gM l (eW l s1).1 (ByteArray.mk #[61])).1)) (Φ:=λ v _=>v = .bool (gM l (eW l s1).1 (ByteArray.mk #[61])).2) (λ F2 eQ eA=>?_) ?_
     ·exact C165 p lv l (eW l s1).1 (ByteArray.mk #[61]) F2 _ eQ (λ w' hc=>hT w' (eA w' hc).aF) hk (uy L4)
     rintro _ w7 rfl hs;intro oN;refine aX (λ fP=>?_) (λ fP=>?_)
     ·have hq:=jU (t:=ByteArray.mk #[61]) (uy L4);obtain ⟨hq0,hq1⟩:=id hq;refine ⟨λ jv w'=>jv = .bool (Jc l (gM l (eW l s1).1 (ByteArray.mk #[61])).1)∧St w F [cD p (ee lv (gM l (eW l s1).1 (ByteArray.mk #[61])).1),cD arJ (Flat.enc (eW l s1).2),bK yl o1] w',?_,?_⟩
      ·refine aE (aA fm (have hs:=hs.drew;aB bL hs.hb rfl (aE (aA jE (aB iK hs.hb rfl (aJ fC (hT _ hs.aF) (aR (aC (λ jr=>?_) (λ jr=>?_)))))))))
       ·refine aE (aA jE (aB iK hs.hb rfl (aE (aA fm (aB bL hs.hb rfl ?_)))));obtain ⟨arK,XD⟩:=gx (l) (i:=(((gM l (eW l s1).1 (ByteArray.mk #[61])).1).at_).toNat) (by omega);refine aQ fC (hT _ hs.aF) (by omega) XD (λ _ KQ=>bT (arK).kind kZ KQ rfl rfl (λ _ KR=>aD bL (KR) (aH ?_)));have hs:=hs.p2.p2.p2;exact ⟨vb (by unfold Jc ky; rw [if_pos hq0,XD]),hs⟩
       ·have hs:=hs.p2.p2.p2;exact ⟨vb (by unfold Jc ky; rw [if_pos hq0,List.getElem?_eq_none (by omega)]),hs⟩
      ·rintro _ w9 ⟨rfl,hs⟩ GJ;refine aX (λ vq=>?_) (λ vq=>?_)
       ·obtain ⟨tk,Xj,SF,_,hqlt⟩:=adE vq;have AR:oG l (gM l (eW l s1).1 (ByteArray.mk #[61])).1.at_=tk:=AI hq0 SF;refine aE (aA jE (have hs:=hs.drew;aB iK hs.hb rfl (aE (aA fm (aB bL hs.hb rfl (aQ fC (hT _ hs.aF) (by omega) SF (λ _ zZ=>bT (tk).n qV zZ rfl rfl (λ _ arL=>aD bL (arL) (aA zz (aV hs.p1 bL (eJ rfl) (rfl) (λ pP hs=>have hs:=hs.enc (cs':=Flat.enc ({ (eW l s1).2 with n:=(tk).n}:dF)) rfl;aE (aA fm ?_))))))))))));refine aB bL hs.p1.hb rfl (aO (by omega) (aE (aA fm (aV hs.p1 bL (eJ rfl) (rfl) (λ sQ hs=>?_)))))
        have hs:=hs.p2.p2.p2;have Ck:(fg l nb s1)=(Xt (gM l (eW l s1).1 (ByteArray.mk #[61])).1,{ (eW l s1).2 with n:=tk.n}):=(SK vf fP vq).trans (by rw [AR]);rw [Ck];exact hs
       ·refine bG Pl hs (H':=λ _=>cD p (ee lv (iU l (gM l (eW l s1).1 (ByteArray.mk #[61])).1 5))) (Φ:=λ _ _=>True) (λ F2 eQ eA=>?_) ?_
        ·exact (C170 p lv l (gM l (eW l s1).1 (ByteArray.mk #[61])).1 F2 _ eQ (λ w' hc=>hT w' (eA w' hc).aF) hk (jU (uy L4))).mono λ _ _ r=>r.mono λ _ _ h=>⟨trivial,h.2⟩
        rintro _ vl _ hs;have hs:=hs.p2.p2.p2;have Ck:=SL vf fP vq;rw [Ck];exact hs
     ·have hs:=hs.p2.p2.p2;have Ck:=XA (nb:=nb) fP;rw [Ck];exact hs
    ·intro oN;refine fx ?_;have hs:=hs.p2.p1.p2;have Ck:=XB (l:=l) (s:=s1) vf;rw [Ck];exact hs
   ·intro vm hs RX;refine aD xU hs.p1.At (bW ([(fg l nb s1).2]) hs jZ rfl rfl (eJ rfl) (λ afm sd hs=>?_));have akY:=(hs).fI;refine cN hs.p3 jZ akY (by have:=congrArg List.length hx; simp at this ⊢; omega) (by decide) (λ apG v7 hs=>have hs:=hs.p1.drop;bG xP hs.p1 (H':=λ _=>cD p (ee lv (gM l (fg l nb s1).1 (ByteArray.mk #[44])).1)) (Φ:=λ v _=>v = .bool (gM l (fg l nb s1).1 (ByteArray.mk #[44])).2) (λ F2 eQ eA=>?_) ?_)
    ·exact C165 p lv l (fg l nb s1).1 (ByteArray.mk #[44]) F2 _ eQ (λ w' hc=>hT w' (eA w' hc).aF) hk (Fe L4)
    rintro _ yT rfl hs;have hs:=(hs.p2.drop).p1;exact ⟨_,by omega,(gM l (fg l nb s1).1 BF).1,(gM l (fg l nb s1).1 BF).2,o1++[(fg l nb s1).2],a3,rfl,jU (Fe L4),hn3,by rw [hx,List.append_assoc]; rfl,hs⟩
  ·obtain ⟨e9,rfl⟩:=Ff UQ eB;replace e9:=e9.symm;subst e9;rw [List.append_nil] at hx;subst hx;refine bG T5 hs.p1 (H':=λ _=>cD p (ee lv (dN l s1 (ByteArray.mk #[59])))) (Φ:=λ _ _=>True) (λ F2 eQ eA=>?_) ?_
   ·exact (C212 p lv l s1 (ByteArray.mk #[59]) F2 _ eQ (λ w' hc=>hT w' (eA w' hc).aF) hk L4).mono λ _ _ r=>r.mono λ _ _ h=>⟨trivial,h.2⟩
   rintro _ Ch _ hs;have hs:=hs.p1.p1;rw [e2];exact (St.join hs).mut
set_option maxHeartbeats 1000000 in
theorem C168 (p:Nat) (lv:Value) (l:List bF) (s:fN) (nm:ByteArray) (a:Int) (s2:fN) (x:dR) (F:Nat→Prop) (w:World) (hF:(cD p (ee lv s)).p w F) (hT:∀ w',ix F w w'→eF (λ _=>True) w' lv l) (hk:ir l) (h0:lM l s) (hr:sH l s nm a=some (s2,x)):CR 168 [(.pointer (some ⟨p,0,none⟩)),Flat.val (⟨nm,⟨none,0,0⟩,⟨none,0,0⟩,a⟩:eg)] w (λ v w'=>qj F (tS λ sh:eg=>fact (v=Flat.val sh) (sep (cD p (ee lv s2)) (eS (λ w=>cA.dr w sh x)))) w w'):=by
 have hs:=St.begin hF;obtain ⟨q,rs,BV,Ft,hg2⟩:=OH hr;have hqi:=L7 (fz h0) BV;obtain ⟨hqi0,hqi1⟩:=id hqi;have Fu:=hk.n;have hn:l.length≤1000000:=by omega
 have sS:=hk.at_;obtain ⟨QY,QZ⟩:=id h0;refine ZL _ _ _ _ ?_;unfold S168;refine dE (x:=(⟨nm,⟨none,0,0⟩,⟨none,0,0⟩,a⟩:eg)) hs (λ acI w1 hs=>aN hs MY (λ Cj w2 hs=>have hs:=hs.enc (cs':=Flat.enc (⟨(ByteArray.mk #[]),⟨none,0,0⟩,⟨none,0,0⟩,0⟩:eg)) rfl;aE (aA fm (aB bL hs.p2.hb rfl (bG T5 hs.p2 (H':=λ _=>cD p (ee lv (dN l s (ByteArray.mk #[123])))) (Φ:=λ _ _=>True) (λ F2 eQ eA=>?_) ?_)))))
 ·exact (C212 p lv l s (ByteArray.mk #[123]) F2 _ eQ (λ w' hc=>hT w' (eA w' hc).aF) hk h0).mono λ _ _ r=>r.mono λ _ _ h=>⟨trivial,h.2⟩
 rintro _ w3 _ hs;refine ⟨λ w'=>∃ rv:SV,St w F [bK (Flat.val rv) rs,cD acI (Flat.enc (⟨nm,rv,⟨none,0,0⟩,a⟩:eg)),cD Cj (Flat.enc (⟨(ByteArray.mk #[]),⟨none,0,0⟩,⟨none,0,0⟩,0⟩:eg)),cD p (ee lv q)] w',?_,?_⟩
 ·refine bG xP hs (H':=λ _=>cD p (ee lv (gM l (dN l s (ByteArray.mk #[123])) (ByteArray.mk #[114,101,103])).1)) (Φ:=λ v _=>v = .bool (gM l (dN l s (ByteArray.mk #[123])) (ByteArray.mk #[114,101,103])).2) (λ F2 eQ eA=>?_) ?_
  ·exact C165 p lv l (dN l s (ByteArray.mk #[123])) (ByteArray.mk #[114,101,103]) F2 _ eQ (λ w' hc=>hT w' (eA w' hc).aF) hk (fz h0)
  rintro _ w4 rfl hs;refine aX (λ fw=>?_) (λ fw=>?_)
  ·obtain ⟨ys,hys,hrs⟩:=Ho BV fw;have hyl:ys.length≤1000000:=by obtain ⟨_,_,_,h⟩:=xo hys; exact h
   refine bG Pk hs (H':=λ v=>sep (cD p (ee lv q)) (bK v ys)) (Φ:=λ _ _=>True) (λ F2 eQ eA=>?_) ?_
   ·exact (C166 p lv l (gM l (dN l s (ByteArray.mk #[123])) (ByteArray.mk #[114,101,103])).1 false q ys F2 _ eQ (λ w' hc=>hT w' (eA w' hc).aF) hk (jU (fz h0)) hys).mono λ _ _ r=>r.mono λ _ _ h=>⟨trivial,h⟩
   rintro Vi w5 _ hs;have hs:=(((((hs.split.fX (α:=ByteArray)).p1).p3).p3).p4).p4;refine ⟨λ mm i w'=>∃ (j:Nat) (rv:SV),i = .int .i64 (j:Int)∧mm=ys.length - j∧j≤ys.length∧St w F [bK (Flat.val rv) ((ys.take j).map dF.name),cD acI (Flat.enc (⟨nm,rv,⟨none,0,0⟩,a⟩:eg)),bK Vi ys,cD Cj (Flat.enc (⟨(ByteArray.mk #[]),⟨none,0,0⟩,⟨none,0,0⟩,0⟩:eg)),cD p (ee lv q)] w',⟨_,0,⟨none,0,0⟩,rfl,rfl,Nat.zero_le _,hs⟩,?_⟩;rintro mm _ w6 ⟨j,rv,rfl,rfl,hj,hs⟩ fB;refine aJ jZ (hs.p2).fI (aR (aC (λ fP=>?_) (λ fP=>?_)))
   ·refine aA jo (have hs:=hs.drew;aB (v:=Flat.val (rv:SV)) pq hs.p1.hb rfl ?_);obtain ⟨agp,XE⟩:=gx (ys) (i:=((j:Int)).toNat) (by omega);refine dT hs.p2 jZ (by omega) (by omega) (λ _ zX=>mZ py zX (λ _ zY=>nX (agp).name hs.p2 j4 zY XE rfl (bW ([(agp).name]) hs mS rfl rfl (eJ rfl) (λ ao2 w7 hs=>?_))));refine ⟨aG pq (hs.p2.hb.cell rfl),?_⟩;have akZ:=(hs).fI;refine cN hs.p1 mS akZ (by simp; omega) (by decide) (λ afj w8 hs=>have hs:=hs.p1.drop;aA jo ?_);obtain ⟨XF,rfl⟩:=(hs).fQ;refine aV hs.p1 pq (eJ rfl) (rfl) (λ w9 hs=>have hs:=hs.enc (cs':=Flat.enc (⟨nm,XF,⟨none,0,0⟩,a⟩:eg)) rfl;aO (by omega) ?_)
    have hs:=hs.p4.p4.p4.p3.p4;exact ⟨_,by omega,j+1,XF,rfl,rfl,by omega,by rw [← F3 (k:=j) XE]; exact hs⟩
   ·have hs:=(hs.p2.drop.p3.p3.p3).p3;rw [List.take_of_length_le (by omega)] at hs;rw [hrs];exact ⟨rv,hs⟩
  ·have hs:=((((hs.fX (α:=ByteArray)).p1).p2).p3).p3;obtain ⟨e1,e3⟩:=L8 BV fw;rw [wK fw] at hs;rw [e1,e3];exact ⟨⟨none,0,0⟩,hs⟩
 ·rintro pP ⟨rv,hs⟩ jw;refine ⟨λ w'=>∃ (rv bv:SV) (body:List cE),x=⟨nm,rs,body,a⟩∧St w F [bK (Flat.val rv) rs,eS (λ w=>DL w (Flat.val bv) body),cD acI (Flat.enc (⟨nm,rv,bv,a⟩:eg)),cD Cj (Flat.enc (⟨(ByteArray.mk #[]),⟨none,0,0⟩,⟨none,0,0⟩,0⟩:eg)),cD p (ee lv s2)] w',?_,?_⟩
  ·refine aE (aA lU (aB nj hs.p3.hb rfl (aH (aC (λ lL=>?_) (λ lL=>?_)))))
   ·obtain ⟨R,hR,hR0,hR1,e2,hx⟩:=hg2 (by omega);have EV:(dN l s B8).e=0:=Decidable.not_not.1 λ hh=>OJ hh BV (by omega);have jN:=rH (adF EV);refine aE (aA jE (have hs:=hs.drew;aB iK hs.p3.hb rfl (aE (aA fm (aB bL hs.p3.hb rfl (eu ans (C213 l _ q.at_ s.at_ R _ (hT _ hs.aF) hk hqi jN hR) ?_))))));rintro _ sQ ⟨Oi,rfl,bY⟩;have hs:=hs.made bY;refine bE rfl (bE rfl (bE rfl (bE rfl (aA qu (aV hs.p2 sO (eJ rfl) (rfl) (λ vl hs=>have hs:=hs.enc (cs':=Flat.enc (⟨nm,rv,Oi,a⟩:eg)) rfl;aE (aA fm (aV hs.p4 bL (eJ rfl) (rfl) (λ vm hs=>aE (aA lU (aV hs nj (eJ rfl) (rfl) (λ sd hs=>aE ?_))))))))))))
    refine aA vR (aV hs bL (eJ rfl) (rfl) (λ v7 hs=>?_));have hs:=hs.p4.p2.p3.p4;rw [e2];exact ⟨rv,Oi,R.1,hx,hs⟩
   ·have hs:=hs.gE (Φ:=λ w=>DL w (Flat.val (⟨none,0,0⟩:SV)) ([]:List cE)) λ w=>DL.nil w;have hs:=hs.p4.p4.p4.p3.p4;obtain ⟨e2,hx⟩:=Ft lL;rw [e2];exact ⟨rv,⟨none,0,0⟩,[],hx,hs⟩
  ·rintro yT ⟨rv,bv,body,rfl,hs⟩ oN;refine aD H8 hs.p2.At (aI (x:=(⟨nm,rv,bv,a⟩:eg)) hs.p3 H8 rfl rfl (λ Ch hs=>aD H8 hs.At ?_));have hs:=hs.p1.freeze.p2.p1.fL.dO (Ψ:=(λ w=>cA.dr w (⟨nm,rv,bv,a⟩:eg) (⟨nm,rs,body,a⟩:dR))) (λ w h=>⟨_,_,rfl,DL.fq h.1,id (h.2)⟩);have hs:=((hs.p1.drop.p1).drop).p1;exact (wI hs).mut
set_option maxHeartbeats 1000000 in
theorem C169 (p:Nat) (lv:Value) (l:List bF) (s:fN) (a:Int) (s2:fN) (x:ju) (F:Nat→Prop) (w:World) (hF:(cD p (ee lv s)).p w F) (hT:∀ w',ix F w w'→eF (λ _=>True) w' lv l) (hk:ir l) (h0:lM l s) (hr:wJ l s a=some (s2,x)):CR 169 [(.pointer (some ⟨p,0,none⟩)),.int .i64 a] w (λ v w'=>qj F (tS λ sh:lI=>fact (v=Flat.val sh) (sep (cD p (ee lv s2)) (eS (λ w=>cA.dr w sh x)))) w w'):=by
 have hs:=St.begin hF;obtain ⟨R,hxr,Ft,hg2⟩:=SM hr;have Fu:=hk.n;have hn:l.length≤1000000:=by omega
 have sS:=hk.at_;obtain ⟨QY,QZ⟩:=id h0;refine ZM _ _ _ _ ?_;unfold S169;refine aN hs ahW (λ Cj w1 hs=>have hs:=hs.enc (cs':=Flat.enc (⟨⟨none,0,0⟩,0⟩:lI)) rfl;aE (aA jE (have hs:=hs.drew;aB iK hs.p1.hb rfl (aE (aA fm (aB bL hs.p1.hb rfl (eu aeJ (C214 l _ s.at_ R _ (hT _ hs.aF) hk (by omega) hxr) ?_)))))));rintro _ w2 ⟨XG,rfl,bY⟩;have hs:=hs.made bY;refine bE rfl (bE rfl (bE rfl (bE rfl (cS (aC (λ iB=>?_) (λ iB=>?_))))))
 ·obtain ⟨rfl,rfl⟩:=Ft iB;refine aE (aA lU (aV hs.p2 nj (eJ rfl) (rfl) (λ w3 hs=>aE (aA vR (aV hs bL (eJ rfl) (rfl) (λ w4 hs=>pop (v:=Flat.val (⟨⟨none,0,0⟩,0⟩:lI)) (by kernel_rfl) (aI (x:=(⟨⟨none,0,0⟩,0⟩:lI)) hs.p2 abg rfl rfl (λ w5 hs=>aD abg hs.At ?_))))))));have hs:=hs.gE (Φ:=(λ w=>cA.dr w (⟨⟨none,0,0⟩,0⟩:lI) (⟨[],0⟩:ju))) (λ w=>⟨_,rfl,DL.nil _⟩);have hs:=((hs.p1.drop.p2).drop).p1;exact (wI hs).mut
 ·obtain ⟨BV,rfl,rfl⟩:=hg2 iB;refine aE (aA fm (aV hs.p2 bL (eJ rfl) (rfl) (λ w6 hs=>have hs:=hs.enc (cs':=ee lv ({s with at_:=R.2.1}:fN)) rfl;bG T5 hs (H':=λ _=>cD p (ee lv (dN l ({s with at_:=R.2.1}:fN) (ByteArray.mk #[59])))) (Φ:=λ _ _=>True) (λ F2 eQ eA=>?_) ?_)))
  ·exact (C212 p lv l ({s with at_:=R.2.1}:fN) (ByteArray.mk #[59]) F2 _ eQ (λ w' hc=>hT w' (eA w' hc).aF) hk (show lM l ({s with at_:=R.2.1}:fN) from BV)).mono λ _ _ r=>r.mono λ _ _ h=>⟨trivial,h.2⟩
  rintro _ w7 _ hs;refine pop (Gv _ _ _ _) (aI (x:=(⟨XG,a⟩:lI)) hs.p2 abg rfl rfl (λ w8 hs=>aD abg hs.At ?_));have hs:=hs.p2.dO (Ψ:=(λ w=>cA.dr w (⟨XG,a⟩:lI) (⟨R.1,a⟩:ju))) (λ w h=>⟨_,rfl,id (h)⟩);have hs:=(hs.p1.drop).p1;exact (wI hs).mut
set_option maxHeartbeats 8000000 in
theorem C109 (s:ByteArray) (R:cU × Int × Int) (w:World) (Yk:s.size≤1000000) (hr:rJ s=some R) (hTk:∀ l e a,ux s=some (l,e,a)→ir l):CR 109 [.string s] w (λ v w'=>∃ pv:bN,v = .tuple #[Flat.val pv,.int .i64 R.2.1,.int .i64 R.2.2]∧lW (eS (λ w=>cA.dr w pv R.1)) w w'):=by
 obtain ⟨l,e,a,hsc⟩:=OK hr;have hk:=hTk l e a hsc;have Fu:=hk.n;have hn:l.length≤1000000:=by omega
 have sS:=hk.at_;have hs:=St.start w;refine Y0 _ _ _ ?_;unfold S109;refine aN hs uJ (λ lZ w1 hs=>have hs:=hs.enc (cs':=Flat.enc (⟨⟨none,0,0⟩,⟨none,0,0⟩,⟨none,0,0⟩,⟨none,0,0⟩,⟨none,0,0⟩,⟨none,0,0⟩⟩:bN)) rfl;eu am4 (C164 s (l,e,a) _ Yk hsc) ?_);rintro _ w2 ⟨lv,rfl,bY⟩;have hs:=hs.made bY;refine bE rfl (bE rfl (bE rfl (cS (aC (λ gd=>?_) (λ gd=>?_)))))
 ·refine pop (v:=Flat.val (⟨⟨none,0,0⟩,⟨none,0,0⟩,⟨none,0,0⟩,⟨none,0,0⟩,⟨none,0,0⟩,⟨none,0,0⟩⟩:bN)) (by kernel_rfl) (aI (x:=(⟨⟨none,0,0⟩,⟨none,0,0⟩,⟨none,0,0⟩,⟨none,0,0⟩,⟨none,0,0⟩,⟨none,0,0⟩⟩:bN)) hs.p1 gI rfl rfl (λ w3 hs=>aD gI hs.At ?_));have hs:=hs.gE (Φ:=(λ w=>cA.dr w (⟨⟨none,0,0⟩,⟨none,0,0⟩,⟨none,0,0⟩,⟨none,0,0⟩,⟨none,0,0⟩,⟨none,0,0⟩⟩:bN) (⟨[],[],[],[],[],[]⟩:cU))) (λ w=>⟨_,_,_,_,_,_,rfl,DL.nil _,DL.nil _,DL.nil _,DL.nil _,DL.nil _,DL.nil _⟩);have hs:=((hs.p1.drop).p1).drop;rw [SO hr hsc gd];exact ⟨_,rfl,hs.fresh⟩
 ·obtain ⟨t1,t2,t3,t4,t5,t6,y1,y2,y3,y4,y5,y6,hp⟩:=XC hr hsc gd;obtain ⟨lsv,hlv⟩:=(hs).fQ;rw [hlv];refine pop (Uq _ _ _) (lR hs (λ BR w4 hs=>pop (v:=Flat.val (⟨⟨none,0,0⟩,⟨none,0,0⟩,⟨none,0,0⟩,⟨none,0,0⟩,⟨none,0,0⟩,⟨none,0,0⟩⟩:bN)) (by kernel_rfl) (aN hs uJ (λ OL w5 hs=>have hs:=hs.enc (cs':=Flat.enc (⟨⟨none,0,0⟩,⟨none,0,0⟩,⟨none,0,0⟩,⟨none,0,0⟩,⟨none,0,0⟩,⟨none,0,0⟩⟩:bN)) rfl;aI (x:=(⟨⟨none,0,0⟩,⟨none,0,0⟩,⟨none,0,0⟩,⟨none,0,0⟩,⟨none,0,0⟩,⟨none,0,0⟩⟩:bN)) hs gI rfl rfl (λ w6 hs=>?_)))));obtain ⟨p,rfl⟩:∃ p,p=BR:=⟨_,rfl⟩;have hs:=hs.p1.enc (cs':=ee (Flat.val lsv) (tq 0)) rfl
  rw [← hlv] at hs ⊢;have ay1:lM l (tq 0):=⟨Int.le_refl _,by show (0:Int)≤_; omega⟩;have hs:=(((((hs.xD (α:=(List dF))).p4).p4).p3).p4).p4;refine ⟨λ mm w'=>∃ (s0:fN) (v0:SV) (xs0 a0:List (List dF)),lM l s0∧mG l Xx (mN l true) mm s0=some (t1,a0)∧y1=xs0++a0∧St w bD [fk (Flat.val v0) xs0,cD OL (Flat.enc (⟨v0,⟨none,0,0⟩,⟨none,0,0⟩,⟨none,0,0⟩,⟨none,0,0⟩,⟨none,0,0⟩⟩:bN)),cD p (ee lv s0),bK lv l,cD lZ (Flat.enc (⟨⟨none,0,0⟩,⟨none,0,0⟩,⟨none,0,0⟩,⟨none,0,0⟩,⟨none,0,0⟩,⟨none,0,0⟩⟩:bN))] w',⟨10000,tq 0,⟨none,0,0⟩,[],y1,ay1,hp.h1,rfl,hs⟩,?_⟩;rintro mm w7 ⟨s0,v0,xs0,a0,hi0,EV,hy0,hs⟩ fB
  obtain ⟨m0,rfl⟩:=rK EV;refine bG xP hs.p2 (H':=λ _=>cD p (ee lv (gM l s0 (ByteArray.mk #[108,105,110,101])).1)) (Φ:=λ v _=>v = .bool (gM l s0 (ByteArray.mk #[108,105,110,101])).2) (λ F2 eQ eA=>?_) ?_
  ·exact C165 p lv l s0 (ByteArray.mk #[108,105,110,101]) F2 _ eQ (λ w' hc=>(eA w' hc).p2.fI) hk hi0
  rintro _ w8 rfl hs;refine aX (λ gh=>?_) (λ gh=>?_)
  ·obtain ⟨q0,z0,b0,hd0,hn0,rfl⟩:=wL EV gh;refine aA jn (have hs:=hs.drew;aB (v:=Flat.val (v0:SV)) rP hs.p2.hb rfl (bG Pk hs (H':=λ v=>sep (cD p (ee lv q0)) (bK v z0)) (Φ:=λ _ _=>True) (λ F2 eQ eA=>?_) ?_))
   ·exact (C166 p lv l (gM l s0 (ByteArray.mk #[108,105,110,101])).1 true q0 z0 F2 _ eQ (λ w' hc=>(eA w' hc).p2.fI) hk (jU hi0) hd0).mono λ _ _ r=>r.mono λ _ _ h=>⟨trivial,h⟩
   rintro x31 w9 _ hs;have hs:=hs.split;refine ⟨aG rP (hs.p3.hb.cell rfl),?_⟩;obtain ⟨XH,rfl⟩:=(hs.p1).fQ;have hs:=hs.p1.freeze.dO (Ψ:=λ w=>cA.dr w XH (z0)) (λ w h=>DL.fq h);refine eK (s:=XH) (x:=z0) hs vy (by decide) (λ VQ pP hs=>?_);refine ⟨aG rP (hs.p3.hb.cell rfl),?_⟩;have hs:=hs.p2;refine ed hs vy (by have h1:=congrArg List.length hy0; have h2:=hp.b1; simp at h1 ⊢; omega) (by decide) (λ s_x33 sQ hs=>aA jn ?_);obtain ⟨wz,rfl⟩:=(hs).lH;refine aV hs.p2 rP (eJ rfl) (rfl) (λ vl hs=>?_);have hs:=hs.enc (cs':=Flat.enc (⟨wz,⟨none,0,0⟩,⟨none,0,0⟩,⟨none,0,0⟩,⟨none,0,0⟩,⟨none,0,0⟩⟩:bN)) rfl
   have hs:=hs.p4.p4.p4.p3.p4;exact ⟨_,by omega,q0,wz,xs0++[z0],b0,xp (jU hi0) hd0,hn0,by rw [hy0,List.append_assoc]; rfl,hs⟩
  ·obtain ⟨e9,rfl⟩:=uA EV gh;replace e9:=e9.symm;subst e9;rw [List.append_nil] at hy0;subst hy0;rw [wK gh] at hs;have hs:=((((((hs.fX (α:=dF)).p5).p5).p3).p5).p5).p5;refine ⟨λ mm w'=>∃ (s1:fN) (v1:SV) (xs1 a1:List (List dF)),lM l s1∧mG l akU (mN l true) mm s1=some (t2,a1)∧y2=xs1++a1∧St w bD [bK (Flat.val v1) (xs1.flatten),fk (Flat.val v0) y1,cD OL (Flat.enc (⟨v0,v1,⟨none,0,0⟩,⟨none,0,0⟩,⟨none,0,0⟩,⟨none,0,0⟩⟩:bN)),cD p (ee lv s1),bK lv l,cD lZ (Flat.enc (⟨⟨none,0,0⟩,⟨none,0,0⟩,⟨none,0,0⟩,⟨none,0,0⟩,⟨none,0,0⟩,⟨none,0,0⟩⟩:bN))] w',⟨10000,s0,⟨none,0,0⟩,[],y2,hi0,hp.h2,rfl,hs⟩,?_⟩
   rintro mm vm ⟨s1,v1,xs1,a1,hi1,hm1,hy1,hs⟩ jw;obtain ⟨m1,rfl⟩:=rK hm1;refine bG xP hs.p3 (H':=λ _=>cD p (ee lv (gM l s1 (ByteArray.mk #[118,111,108])).1)) (Φ:=λ v _=>v = .bool (gM l s1 (ByteArray.mk #[118,111,108])).2) (λ F2 eQ eA=>?_) ?_
   ·exact C165 p lv l s1 (ByteArray.mk #[118,111,108]) F2 _ eQ (λ w' hc=>(eA w' hc).p3.fI) hk hi1
   rintro _ sd rfl hs;refine aX (λ lh=>?_) (λ lh=>?_)
   ·obtain ⟨q1,z1,b1,YG,UQ,rfl⟩:=wL hm1 lh;refine aA uI (have hs:=hs.drew;aB (v:=Flat.val (v1:SV)) jt hs.p3.hb rfl (bG Pk hs (H':=λ v=>sep (cD p (ee lv q1)) (bK v z1)) (Φ:=λ _ _=>True) (λ F2 eQ eA=>?_) ?_))
    ·exact (C166 p lv l (gM l s1 (ByteArray.mk #[118,111,108])).1 true q1 z1 F2 _ eQ (λ w' hc=>(eA w' hc).p3.fI) hk (jU hi1) YG).mono λ _ _ r=>r.mono λ _ _ h=>⟨trivial,h⟩
    rintro x40 v7 _ hs;have hs:=hs.split;refine ⟨aG jt (hs.p4.hb.cell rfl),?_⟩;have vc:=(hs.p1).fI;refine cN hs.p2 jZ vc (by have:=Rc hy1; have:=hp.b2; omega) (by decide) (λ VE yT hs=>have hs:=hs.p2.drop;aA uI ?_);obtain ⟨IG,rfl⟩:=(hs).fQ;refine aV hs.p3 jt (eJ rfl) (rfl) (λ Ch hs=>?_);have hs:=hs.enc (cs':=Flat.enc (⟨v0,IG,⟨none,0,0⟩,⟨none,0,0⟩,⟨none,0,0⟩,⟨none,0,0⟩⟩:bN)) rfl;have hs:=hs.p5.p5.p4.p3.p5.p5;rw [← AJ] at hs;exact ⟨_,by omega,q1,IG,xs1++[z1],b1,xp (jU hi1) YG,UQ,by rw [hy1,List.append_assoc]; rfl,hs⟩
   ·obtain ⟨e9,rfl⟩:=uA hm1 lh;replace e9:=e9.symm;subst e9;rw [List.append_nil] at hy1;subst hy1;rw [wK lh] at hs;have hs:=(((((((hs.fX (α:=dF)).p6).p6).p3).p6).p5).p6).p6;refine ⟨λ mm w'=>∃ (s2:fN) (v2:SV) (xs2 a2:List (List dF)),lM l s2∧mG l Xy (mN l false) mm s2=some (t3,a2)∧y3=xs2++a2∧St w bD [bK (Flat.val v2) (xs2.flatten),fk (Flat.val v0) y1,bK (Flat.val v1) (y2.flatten),cD OL (Flat.enc (⟨v0,v1,v2,⟨none,0,0⟩,⟨none,0,0⟩,⟨none,0,0⟩⟩:bN)),cD p (ee lv s2),bK lv l,cD lZ (Flat.enc (⟨⟨none,0,0⟩,⟨none,0,0⟩,⟨none,0,0⟩,⟨none,0,0⟩,⟨none,0,0⟩,⟨none,0,0⟩⟩:bN))] w',⟨10000,s1,⟨none,0,0⟩,[],y3,hi1,hp.h3,rfl,hs⟩,?_⟩
    rintro mm Im ⟨s2,v2,xs2,a2,hi2,hm2,hy2,hs⟩ oN;obtain ⟨m2,rfl⟩:=rK hm2;refine bG xP hs.p4 (H':=λ _=>cD p (ee lv (gM l s2 (ByteArray.mk #[108,111,99,107])).1)) (Φ:=λ v _=>v = .bool (gM l s2 (ByteArray.mk #[108,111,99,107])).2) (λ F2 eQ eA=>?_) ?_
    ·exact C165 p lv l s2 (ByteArray.mk #[108,111,99,107]) F2 _ eQ (λ w' hc=>(eA w' hc).p4.fI) hk hi2
    rintro _ Jp rfl hs;refine aX (λ sj=>?_) (λ sj=>?_)
    ·obtain ⟨q2,z2,b2,Mx,hn2,rfl⟩:=wL hm2 sj;refine aA rT (have hs:=hs.drew;aB (v:=Flat.val (v2:SV)) jt hs.p4.hb rfl (bG Pk hs (H':=λ v=>sep (cD p (ee lv q2)) (bK v z2)) (Φ:=λ _ _=>True) (λ F2 eQ eA=>?_) ?_))
     ·exact (C166 p lv l (gM l s2 (ByteArray.mk #[108,111,99,107])).1 false q2 z2 F2 _ eQ (λ w' hc=>(eA w' hc).p4.fI) hk (jU hi2) Mx).mono λ _ _ r=>r.mono λ _ _ h=>⟨trivial,h⟩
     rintro x48 Kz _ hs;have hs:=hs.split;refine ⟨aG jt (hs.p5.hb.cell rfl),?_⟩;have ak2:=(hs.p1).fI;refine cN hs.p2 jZ ak2 (by have:=Rc hy2; have:=hp.b3; omega) (by decide) (λ apI Mu hs=>have hs:=hs.p2.drop;aA rT ?_);obtain ⟨XI,rfl⟩:=(hs).fQ;refine aV hs.p4 jt (eJ rfl) (rfl) (λ Qm hs=>?_);have hs:=hs.enc (cs':=Flat.enc (⟨v0,v1,XI,⟨none,0,0⟩,⟨none,0,0⟩,⟨none,0,0⟩⟩:bN)) rfl;have hs:=hs.p6.p6.p4.p3.p6.p6.p6;rw [← AJ] at hs;exact ⟨_,by omega,q2,XI,xs2++[z2],b2,xp (jU hi2) Mx,hn2,by rw [hy2,List.append_assoc]; rfl,hs⟩
    ·obtain ⟨e9,rfl⟩:=uA hm2 sj;replace e9:=e9.symm;subst e9;rw [List.append_nil] at hy2;subst hy2;rw [wK sj] at hs;have hs:=((((((((hs.xD (α:=dR)).p7).p7).p3).p7).p5).p7).p7).p7;refine ⟨λ mm w'=>∃ (s3:fN) (v3:SV) (xs3 a3:List dR),lM l s3∧mG l Jd (akV l) mm s3=some (t4,a3)∧y4=xs3++a3∧St w bD [fk (Flat.val v3) xs3,fk (Flat.val v0) y1,bK (Flat.val v1) (y2.flatten),bK (Flat.val v2) (y3.flatten),cD OL (Flat.enc (⟨v0,v1,v2,v3,⟨none,0,0⟩,⟨none,0,0⟩⟩:bN)),cD p (ee lv s3),bK lv l,cD lZ (Flat.enc (⟨⟨none,0,0⟩,⟨none,0,0⟩,⟨none,0,0⟩,⟨none,0,0⟩,⟨none,0,0⟩,⟨none,0,0⟩⟩:bN))] w',⟨10000,s2,⟨none,0,0⟩,[],y4,hi2,hp.h4,rfl,hs⟩,?_⟩
     rintro mm Tn ⟨s3,v3,xs3,a3,hi3,hm3,hy3,hs⟩ GJ;obtain ⟨m3,rfl⟩:=rK hm3;refine bG xP hs.p5 (H':=λ _=>cD p (ee lv (gM l s3 (ByteArray.mk #[116,104,114,101,97,100])).1)) (Φ:=λ v _=>v = .bool (gM l s3 (ByteArray.mk #[116,104,114,101,97,100])).2) (λ F2 eQ eA=>?_) ?_
     ·exact C165 p lv l s3 (ByteArray.mk #[116,104,114,101,97,100]) F2 _ eQ (λ w' hc=>(eA w' hc).p5.fI) hk hi3
     rintro _ VG rfl hs;refine aX (λ so=>?_) (λ so=>?_)
     ·obtain ⟨q3,z3,b3,hd3,hn3,rfl⟩:=wL hm3 so;refine bG aeB hs (H':=λ _=>cD p (ee lv (eW l (gM l s3 (ByteArray.mk #[116,104,114,101,97,100])).1).1)) (Φ:=λ v _=>v=Flat.val (eW l (gM l s3 (ByteArray.mk #[116,104,114,101,97,100])).1).2) (λ F2 eQ eA=>?_) ?_
      ·exact C167 p lv l (gM l s3 (ByteArray.mk #[116,104,114,101,97,100])).1 F2 _ eQ (λ w' hc=>(eA w' hc).p5.fI) hk (jU hi3)
      rintro _ R4 rfl hs;refine aN hs CC (λ b_c10 w26 hs=>aI (x:=(eW l (gM l s3 (ByteArray.mk #[116,104,114,101,97,100])).1).2) hs xU rfl rfl (λ w27 hs=>aA nc (have hs:=hs.drew;aB (v:=Flat.val (v3:SV)) ja hs.p6.hb rfl (aA py (aB (v:=.string (((eW l (gM l s3 (ByteArray.mk #[116,104,114,101,97,100])).1).2).name)) j4 hs.hb rfl (aA Dv (aB (v:=.int .i64 (((eW l (gM l s3 (ByteArray.mk #[116,104,114,101,97,100])).1).2).at_)) bL hs.hb rfl (pop (RN _ _) (bG aeC hs.p1 (H':=λ v=>tS λ sh:eg=>fact (v=Flat.val sh) (sep (cD p (ee lv q3)) (eS (λ w=>cA.dr w sh z3)))) (Φ:=λ _ _=>True) (λ F2 eQ eA=>?_) ?_)))))))))
      ·exact (C168 p lv l (eW l (gM l s3 (ByteArray.mk #[116,104,114,101,97,100])).1).1 ((eW l (gM l s3 (ByteArray.mk #[116,104,114,101,97,100])).1).2).name ((eW l (gM l s3 (ByteArray.mk #[116,104,114,101,97,100])).1).2).at_ q3 z3 F2 _ eQ (λ w' hc=>(eA w' hc).p6.fI) hk (uy (jU hi3)) hd3).mono λ _ _ r=>r.mono λ _ _ h=>⟨trivial,h⟩
      rintro v_x63 w28 _ Az;obtain ⟨ak4,AA⟩:=Az.eV
      clear Az
      obtain ⟨ak5,CP⟩:=AA.oB
      clear AA
      subst ak5;have hs:=CP.split
      clear CP
      refine ⟨aG ja (hs.p7.hb.cell rfl),?_⟩;have hs:=hs.p1;refine eK (s:=ak4) (x:=z3) hs iI (by decide) (λ arc w29 hs=>?_);refine ⟨aG ja (hs.p7.hb.cell rfl),?_⟩;have hs:=hs.p3;refine ed hs iI (by have h1:=congrArg List.length hy3; have h2:=hp.b4; simp at h1 ⊢; omega) (by decide) (λ age w30 hs=>aA nc ?_);obtain ⟨XJ,rfl⟩:=(hs).lH;refine aV hs.p6 ja (eJ rfl) (rfl) (λ w31 hs=>?_);have hs:=((hs.enc (cs':=Flat.enc (⟨v0,v1,v2,XJ,⟨none,0,0⟩,⟨none,0,0⟩⟩:bN)) rfl).p3).drop;have hs:=hs.p7.p7.p4.p3.p7.p7.p7.p7;exact ⟨_,by omega,q3,XJ,xs3++[z3],b3,Fg (uy (jU hi3)) hd3,hn3,by rw [hy3,List.append_assoc]; rfl,hs⟩
     ·obtain ⟨e9,rfl⟩:=uA hm3 so;replace e9:=e9.symm;subst e9;rw [List.append_nil] at hy3;subst hy3;rw [wK so] at hs;refine ⟨λ w'=>∃ v4:SV,St w bD [fk (Flat.val v4) y5,fk (Flat.val v0) y1,bK (Flat.val v1) (y2.flatten),bK (Flat.val v2) (y3.flatten),fk (Flat.val v3) y4,cD OL (Flat.enc (⟨v0,v1,v2,v3,v4,⟨none,0,0⟩⟩:bN)),cD p (ee lv t5),bK lv l,cD lZ (Flat.enc (⟨⟨none,0,0⟩,⟨none,0,0⟩,⟨none,0,0⟩,⟨none,0,0⟩,⟨none,0,0⟩,⟨none,0,0⟩⟩:bN))] w',?_,?_⟩
      ·refine bG xP hs (H':=λ _=>cD p (ee lv (gM l s3 (ByteArray.mk #[114,101,99,111,118,101,114])).1)) (Φ:=λ v _=>v = .bool (gM l s3 (ByteArray.mk #[114,101,99,111,118,101,114])).2) (λ F2 eQ eA=>?_) ?_
       ·exact C165 p lv l s3 (ByteArray.mk #[114,101,99,111,118,101,114]) F2 _ eQ (λ w' hc=>(eA w' hc).p5.fI) hk hi3
       rintro _ w32 rfl hs;refine aX (λ Mc=>?_) (λ Mc=>?_)
       ·obtain ⟨z4,hd4,hy5⟩:=Mb hp.h5 Mc;obtain ⟨ay4,_,hlo68,hhi68⟩:=Xz Mc;have hat68:(gM l s3 (ByteArray.mk #[114,101,99,111,118,101,114])).1.at_=s3.at_+1:=by rw [ay4]
        refine aA rU (have hs:=hs.drew;aB (v:=Flat.val (⟨none,0,0⟩:SV)) ja hs.p5.hb rfl (aE (aA fm (aB bL hs.hb rfl (gy (by omega) ?_)))));obtain ⟨XK,XL⟩:=gx (l) (i:=((((gM l s3 (ByteArray.mk #[114,101,99,111,118,101,114])).1).at_ - 1)).toNat) (by omega);refine dT hs.p6 fC (by omega) (by omega) (λ _ Xs=>mZ ld Xs (λ _ arO=>nX (XK).at_ hs.p6 bL arO XL rfl (pop (abr _) ?_)));have NA:yQ l (gM l s3 (ByteArray.mk #[114,101,99,111,118,101,114])).1=(XK).at_:=congrArg bF.at_ (AI (by omega) XL);rw [NA] at hd4;refine bG aeC hs (H':=λ v=>tS λ sh:eg=>fact (v=Flat.val sh) (sep (cD p (ee lv t5)) (eS (λ w=>cA.dr w sh z4)))) (Φ:=λ _ _=>True) (λ F2 eQ eA=>?_) ?_
        ·exact (C168 p lv l (gM l s3 (ByteArray.mk #[114,101,99,111,118,101,114])).1 (ByteArray.mk #[]) (XK).at_ t5 z4 F2 _ eQ (λ w' hc=>(eA w' hc).p5.fI) hk (jU hi3) hd4).mono λ _ _ r=>r.mono λ _ _ h=>⟨trivial,h⟩
        rintro v_x82 w33 _ Az;obtain ⟨ak6,AA⟩:=Az.eV
        clear Az
        obtain ⟨ak7,CP⟩:=AA.oB
        clear AA
        subst ak7;have hs:=CP.split
        clear CP
        refine ⟨aG ja (hs.p6.hb.cell rfl),?_⟩;have hs:=hs.p1;refine eK (s:=ak6) (x:=z4) hs iI (by decide) (λ apY w34 hs=>?_);refine ⟨aG ja (hs.p6.hb.cell rfl),?_⟩;have hs:=((hs.xD (α:=dR)).p1).p1;refine ed hs iI (by simp) (by decide) (λ afn w35 hs=>aA rU ?_);obtain ⟨XM,rfl⟩:=(hs).lH;refine aV hs.p6 ja (eJ rfl) (rfl) (λ w36 hs=>?_);have hs:=(((hs.enc (cs':=Flat.enc (⟨v0,v1,v2,v3,XM,⟨none,0,0⟩⟩:bN)) rfl).p8).p8).p4;have hs:=hs.p3.p5.p8.p8.p8.p8;rw [hy5];exact ⟨XM,hs⟩
       ·rw [wK Mc] at hs;have hs:=(((((((((hs.xD (α:=dR)).p8).p8).p3).p8).p5).p8).p8).p8).p8;obtain ⟨e5,e6⟩:=Rb hp.h5 Mc;rw [e5,e6];exact ⟨⟨none,0,0⟩,hs⟩
      ·rintro w37 ⟨v4,hs⟩ RX;have hs:=((((((((((hs.xD (α:=ju)).p9).p9).p9).p9).p5).p9).p9).p9).p9).p9;refine ⟨λ mm w'=>∃ (s5:fN) (v5:SV) (xs5 a5:List ju),lM l s5∧mG l Je (λ s=>wJ l s (yQ l s)) mm s5=some (t6,a5)∧y6=xs5++a5∧St w bD [fk (Flat.val v5) xs5,fk (Flat.val v0) y1,bK (Flat.val v1) (y2.flatten),bK (Flat.val v2) (y3.flatten),fk (Flat.val v3) y4,fk (Flat.val v4) y5,cD OL (Flat.enc (⟨v0,v1,v2,v3,v4,v5⟩:bN)),cD p (ee lv s5),bK lv l,cD lZ (Flat.enc (⟨⟨none,0,0⟩,⟨none,0,0⟩,⟨none,0,0⟩,⟨none,0,0⟩,⟨none,0,0⟩,⟨none,0,0⟩⟩:bN))] w',⟨10000,t5,⟨none,0,0⟩,[],y6,(adG hi3 hp.h5),hp.h6,rfl,hs⟩,?_⟩
       rintro mm w38 ⟨s5,v5,xs5,a5,hi5,hm5,hy5,hs⟩ dd6;obtain ⟨m5,rfl⟩:=rK hm5;refine bG xP hs.p7 (H':=λ _=>cD p (ee lv (gM l s5 (ByteArray.mk #[97,108,119,97,121,115])).1)) (Φ:=λ v _=>v = .bool (gM l s5 (ByteArray.mk #[97,108,119,97,121,115])).2) (λ F2 eQ eA=>?_) ?_
       ·exact C165 p lv l s5 (ByteArray.mk #[97,108,119,97,121,115]) F2 _ eQ (λ w' hc=>(eA w' hc).p7.fI) hk hi5
       rintro _ V6 rfl hs;refine aX (λ zQ=>?_) (λ zQ=>?_)
       ·obtain ⟨q5,z5,b5,hd5,Fu,rfl⟩:=wL hm5 zQ;obtain ⟨ay7,_,hlo87,hhi87⟩:=Xz zQ;have hat87:(gM l s5 (ByteArray.mk #[97,108,119,97,121,115])).1.at_=s5.at_+1:=by rw [ay7]
        refine aA kJ (have hs:=hs.drew;aB (v:=Flat.val (v5:SV)) sN hs.p7.hb rfl (aE (aA fm (aB bL hs.hb rfl (gy (by omega) ?_)))));obtain ⟨XN,XO⟩:=gx (l) (i:=((((gM l s5 (ByteArray.mk #[97,108,119,97,121,115])).1).at_ - 1)).toNat) (by omega);refine dT hs.p8 fC (by omega) (by omega) (λ _ arQ=>mZ ld arQ (λ _ arR=>nX (XN).at_ hs.p8 bL arR XO rfl ?_));have NA:yQ l (gM l s5 (ByteArray.mk #[97,108,119,97,121,115])).1=(XN).at_:=congrArg bF.at_ (AI (by omega) XO);rw [NA] at hd5;refine bG am5 hs (H':=λ v=>tS λ sh:lI=>fact (v=Flat.val sh) (sep (cD p (ee lv q5)) (eS (λ w=>cA.dr w sh z5)))) (Φ:=λ _ _=>True) (λ F2 eQ eA=>?_) ?_
        ·exact (C169 p lv l (gM l s5 (ByteArray.mk #[97,108,119,97,121,115])).1 (XN).at_ q5 z5 F2 _ eQ (λ w' hc=>(eA w' hc).p7.fI) hk (jU hi5) hd5).mono λ _ _ r=>r.mono λ _ _ h=>⟨trivial,h⟩
        rintro ay8 w40 _ Az;obtain ⟨adH,AA⟩:=Az.eV
        clear Az
        obtain ⟨adI,CP⟩:=AA.oB
        clear AA
        subst adI;have hs:=CP.split
        clear CP
        refine ⟨aG sN (hs.p8.hb.cell rfl),?_⟩;have hs:=hs.p1;refine eK (s:=adH) (x:=z5) hs yp (by decide) (λ akj w41 hs=>?_);refine ⟨aG sN (hs.p8.hb.cell rfl),?_⟩;have hs:=hs.p2;refine ed hs yp (by have h1:=congrArg List.length hy5; have h2:=hp.b6; simp at h1 ⊢; omega) (by decide) (λ akk w42 hs=>aA kJ ?_);obtain ⟨Rd,rfl⟩:=(hs).lH;refine aV hs.p7 sN (eJ rfl) (rfl) (λ w43 hs=>?_);have hs:=(((((hs.enc (cs':=Flat.enc (⟨v0,v1,v2,v3,v4,Rd⟩:bN)) rfl).p9).p9).p4).p3).p9;have hs:=hs.p9.p9.p9.p9.p9;exact ⟨_,by omega,q5,Rd,xs5++[z5],b5,SJ (jU hi5) hd5,Fu,by rw [hy5,List.append_assoc]; rfl,hs⟩
       ·obtain ⟨e9,rfl⟩:=uA hm5 zQ;replace e9:=e9.symm;subst e9;rw [List.append_nil] at hy5;subst hy5;rw [wK zQ] at hs;obtain ⟨hi50,hi51⟩:=id hi5;refine ⟨λ w'=>St w bD [fk (Flat.val v5) y6,fk (Flat.val v0) y1,bK (Flat.val v1) (y2.flatten),bK (Flat.val v2) (y3.flatten),fk (Flat.val v3) y4,fk (Flat.val v4) y5,cD OL (Flat.enc (⟨v0,v1,v2,v3,v4,v5⟩:bN)),cD p (ee lv (F0 l s5)),bK lv l,cD lZ (Flat.enc (⟨⟨none,0,0⟩,⟨none,0,0⟩,⟨none,0,0⟩,⟨none,0,0⟩,⟨none,0,0⟩,⟨none,0,0⟩⟩:bN))] w',?_,?_⟩
        ·refine aE (aA fm (aB bL hs.hb rfl (aJ fC (hs.p8).fI (aR (aC (λ yK=>?_) (λ yK=>?_))))))
         ·refine bG Pl hs (H':=λ _=>cD p (ee lv (iU l s5 5))) (Φ:=λ _ _=>True) (λ F2 eQ eA=>?_) ?_
          ·exact (C170 p lv l s5 F2 _ eQ (λ w' hc=>(eA w' hc).p7.fI) hk hi5).mono λ _ _ r=>r.mono λ _ _ h=>⟨trivial,h.2⟩
          rintro _ w44 _ hs;have hs:=hs.p9.p9.p2.p9.p9.p9.p9.p9.p9.p9;have he6:F0 l s5=iU l s5 5:=if_pos yK;rw [he6]; exact hs
         ·have hs:=hs.p9.p9.p2.p9.p9.p9.p9.p9.p9.p9;have he6:F0 l s5=s5:=if_neg yK;rw [he6]; exact hs
        ·intro w45 hs dd7;refine aE (aA lU (aB nj hs.p7.hb rfl (cS (aC (λ OM=>?_) (λ OM=>?_)))))
         ·refine pop (v:=Flat.val (⟨⟨none,0,0⟩,⟨none,0,0⟩,⟨none,0,0⟩,⟨none,0,0⟩,⟨none,0,0⟩,⟨none,0,0⟩⟩:bN)) (by kernel_rfl) (aE (aA lU (have hs:=hs.drew;aB nj hs.p7.hb rfl (aE (aA vR (aB bL hs.p7.hb rfl (aI (x:=(⟨⟨none,0,0⟩,⟨none,0,0⟩,⟨none,0,0⟩,⟨none,0,0⟩,⟨none,0,0⟩,⟨none,0,0⟩⟩:bN)) hs.p9 gI rfl rfl (λ w46 hs=>?_))))))));refine ⟨aG nj (hs.p8.hb.cell rfl),?_⟩;refine ⟨aG bL (hs.p8.hb.cell rfl),?_⟩;refine aD gI hs.At ?_;have hs:=hs.gE (Φ:=(λ w=>cA.dr w (⟨⟨none,0,0⟩,⟨none,0,0⟩,⟨none,0,0⟩,⟨none,0,0⟩,⟨none,0,0⟩,⟨none,0,0⟩⟩:bN) (⟨[],[],[],[],[],[]⟩:cU))) (λ w=>⟨_,_,_,_,_,_,rfl,DL.nil _,DL.nil _,DL.nil _,DL.nil _,DL.nil _,DL.nil _⟩)
          have hs:=(((((((((hs.p1.drop.p1.drop.p1.drop.p1.drop.p1).drop).p1).drop).p1).drop).p1).drop).p1).drop;have hs:=(hs.p1).drop;rw [hp.bad OM];exact ⟨_,rfl,hs.fresh⟩
         ·refine aD gI hs.p6.At (aI (x:=(⟨v0,v1,v2,v3,v4,v5⟩:bN)) hs.p9 gI rfl rfl (λ w47 hs=>aD gI hs.At ?_));have hs:=hs.p2.jF.p3.freeze.p1.fL.p3.freeze.p1.fL.p3.jF.p1.fL.p3.jF.p1.fL;have hs:=hs.p2.jF.p1.fL.dO (Ψ:=(λ w=>cA.dr w (⟨v0,v1,v2,v3,v4,v5⟩:bN) (⟨y1,y2.flatten,y3.flatten,y4,y5,y6⟩:cU))) (λ w h=>⟨_,_,_,_,_,_,rfl,h.1.1.1.1.1,DL.fq h.1.1.1.1.2,DL.fq h.1.1.1.2,h.1.1.2,h.1.2,h.2⟩);have hs:=((((hs.p1.drop.p1.drop).p1).drop).p1).drop;rw [hp.ayV OM];exact ⟨_,rfl,hs.fresh⟩
theorem C48 (s:ByteArray) (R:cU × Int × Int) (w:World) (Yk:s.size≤1000000) (hr:rJ s=some R) (hTk:∀ l e a,ux s=some (l,e,a)→ir l) (hz:PZ R.1):CR 48 [.string s] w (λ v w'=>∃ uv:dM,v=Flat.val uv∧lW (eS (λ w=>cA.dr w uv (if gK R.1=0 then eC R.1 else Ey))) w w'):=by
 have hs:=St.start w;refine ahb _ _ _ ?_;unfold S48;refine aN hs vO (λ lZ w1 hs=>have hs:=hs.enc (cs':=Flat.enc (⟨⟨none,0,0⟩,0,⟨none,0,0⟩,0,⟨none,0,0⟩,(⟨0,0,⟨none,0,0⟩⟩:cK),⟨none,0,0⟩⟩:dM)) rfl;eu amK (C109 s R _ Yk hr hTk) ?_);rintro _ w2 ⟨XP,rfl,bY⟩;have hs:=hs.made bY;refine bE rfl (bE rfl (bE rfl (aN hs uJ (λ xG w3 hs=>have hs:=hs.enc (cs':=Flat.enc (⟨⟨none,0,0⟩,⟨none,0,0⟩,⟨none,0,0⟩,⟨none,0,0⟩,⟨none,0,0⟩,⟨none,0,0⟩⟩:bN)) rfl;aI (x:=XP) hs gI rfl rfl (λ w4 hs=>aD gI hs.At (eu amv (C12 R.1 XP _ (hs.p1).eS hz) ?_))))));rintro _ w5 ⟨XQ,rfl,bY⟩
 have hs:=hs.made bY;refine bE rfl (bE rfl (aN hs vO (λ axo w6 hs=>have hs:=hs.enc (cs':=Flat.enc (⟨⟨none,0,0⟩,0,⟨none,0,0⟩,0,⟨none,0,0⟩,(⟨0,0,⟨none,0,0⟩⟩:cK),⟨none,0,0⟩⟩:dM)) rfl;aI (x:=XQ) hs tG rfl rfl (λ w7 hs=>aD tG hs.At (aI (x:=XQ) hs.p4 tG rfl rfl (λ w8 hs=>aD tG hs.At ?_))))));have hs:=((((((hs.drop)).drop).p1).drop).p1).drop;exact ⟨_,rfl,hs.fresh⟩
structure lO (c:fo) (cells lines locks:Int):Prop where
 rb:0≤c.aK∧c.aK≤4
 cb:0≤c.counts∧c.counts≤12
 fld:∀ (i:Nat) (x:aW),c.l[i]? = some x→u4 x c cells lines locks=true
 to:∀ (i:Nat) (x:aW),c.l[i]? = some x→IH c.l i x=true
theorem Md {c:fo} {cells lines locks:Int} (h:lj c cells lines locks=true):lO c cells lines locks:=by
 unfold lj at h
 simp only [Bool.and_eq_true,Bool.not_eq_true'] at h
 obtain ⟨⟨h1,h2⟩,h3⟩:=h
 unfold va at h1
 simp only [Bool.or_eq_false_iff,decide_eq_false_iff_not] at h1
 have hi:∀ (i:Nat) (x:aW),c.l[i]? = some x→u4 x c cells lines locks=true∧IH c.l i x=true:=by
  intro i x hx
  have h4:=GR h2 i (List.getElem?_eq_some_iff.1 hx).1
  rw [ue hx] at h4
  simpa using h4
 exact ⟨by omega,by omega,λ i x hx=>(hi i x hx).1,λ i x hx=>(hi i x hx).2⟩
structure Fh (u:il):Prop where
 ll:u.lines.length≤20
 st:0≤u.stays∧u.stays≤u.lines.length
 fl:u.dC.length=u.lines.length
 lk:0≤u.locks∧u.locks≤2
 tl:1≤u.threads.length∧u.threads.length≤3
 ln:∀ i,i<u.lines.length→j5 u i=false
 fr:∀ n∈u.dC,0≤n∧n≤4294967296
 th:∀ c∈u.threads,lO c u.lines.length (gp u) u.locks
 cl:∀ l∈u.cC,eL l u.stays=true
 rc:lO u.recover u.lines.length (gp u) u.locks
theorem rL {u:il} (h:nt u=true):Fh u:=by
 unfold nt at h
 simp only [Bool.and_eq_true,Bool.not_eq_true'] at h
 obtain ⟨h1,⟨⟨⟨⟨h2,h3⟩,h4⟩,h5⟩,h6⟩⟩:=h
 unfold kQ at h1
 simp only [Bool.or_eq_false_iff,decide_eq_false_iff_not] at h1
 rw [List.any_eq_false] at h2 h4 h5
 refine ⟨by omega,by omega,by omega,by omega,by omega,λ i hi=>GR h3 i hi,λ n hn=>?_,λ c hc=>?_,λ l hl=>?_,Md h6⟩
 ·have:=h2 n hn
  unfold lr at this
  simp at this; omega
 ·have:=h4 c hc
  exact Md (by simpa using this)
 ·have:=h5 l hl
  simpa using this
theorem Re {n k:Int} (h:Ln n k=true):0≤n∧n<k:=by unfold Ln at h; simpa using h
section
variable {c:fo} {cells lines locks:Int} {i:Nat} {x:aW}
theorem lO.kd (h:lO c cells lines locks) (hx:c.l[i]? = some x):1≤x.kind∧x.kind≤15:=by
 have:=h.fld i x hx; unfold u4 at this; simp only [Bool.and_eq_true,decide_eq_true_eq] at this; exact ⟨this.2.1.1.1,this.2.1.1.2⟩
theorem lO.a (h:lO c cells lines locks) (hx:c.l[i]? = some x):aM x c.aK c.counts=true:=by
 have:=h.fld i x hx; unfold u4 at this; simp only [Bool.and_eq_true,decide_eq_true_eq] at this; exact this.2.1.2
theorem lO.b (h:lO c cells lines locks) (hx:c.l[i]? = some x):bM x cells lines locks=true:=by
 have:=h.fld i x hx; unfold u4 at this; simp only [Bool.and_eq_true,decide_eq_true_eq] at this; exact this.2.2
theorem lO.a13 (h:lO c cells lines locks) (hx:c.l[i]? = some x) (hk:x.kind=13∨x.kind=14):0≤x.a∧x.a<c.counts:=by
 have:=h.a hx; unfold aM at this; rw [if_pos hk] at this; exact Re this
theorem lO.a1 (h:lO c cells lines locks) (hx:c.l[i]? = some x) (hk:x.kind=1∨x.kind=2∨x.kind=4):0≤x.a∧x.a<c.aK:=by
 have:=h.a hx; unfold aM at this; rw [if_neg (by omega),if_pos hk] at this; exact Re this
theorem lO.b2 (h:lO c cells lines locks) (hx:c.l[i]? = some x) (hk:x.kind=2∨x.kind=3∨x.kind=4):0≤x.b∧x.b<cells:=by
 have:=h.b hx; unfold bM at this; rw [if_pos hk] at this; exact Re this
theorem lO.b9 (h:lO c cells lines locks) (hx:c.l[i]? = some x) (hk:x.kind=9∨x.kind=10):0≤x.b∧x.b<locks:=by
 have:=h.b hx; unfold bM at this; rw [if_neg (by omega),if_neg (by omega),if_pos hk] at this; exact Re this
theorem lO.tob (h:lO c cells lines locks) (hx:c.l[i]? = some x):0≤x.to∧x.to≤c.l.length:=by
 have h1:=h.to i x hx
 have hi:=(List.getElem?_eq_some_iff.1 hx).1
 by_cases hk:x.kind=14
 ·have:=V8 hk h1; omega
 ·unfold IH at h1
  split at h1
  ·simp at h1; omega
  ·simp at h1; omega
theorem o8 {α:Type} {l:List α} {x:α} (h:x∈l):∃ i:Nat,l[i]? = some x:=List.mem_iff_getElem?.1 h
theorem lO.ok (h:lO c cells lines locks) (hz:CZ c):Bx c:=by
 have h1:=h.rb; have h2:=h.cb; have h3:=hz.l
 refine ⟨by omega,by omega,by omega,λ x hx=>?_,λ x hx hk=>?_,λ x hx hk=>?_⟩
 ·obtain ⟨i,hi⟩:=o8 hx
  have:=h.tob hi
  have h4:=hz.ef x hx
  exact ⟨h4.1,h4.2,by omega,by omega⟩
 ·obtain ⟨i,hi⟩:=o8 hx; exact h.a1 hi (.inl hk)
 ·obtain ⟨i,hi⟩:=o8 hx; exact h.a13 hi hk
end
def Vis (t:fM):Prop:=∀ x,gS t=some x→t.fault=0→2≤x.kind∧x.kind≤10
theorem XR {t:fM} {x:aW} {e:Int}:(wD t x e).1.code=t.code∧(wD t x e).1.buf=t.buf:=by
 unfold wD; repeat' split
 all_goals exact ⟨rfl,rfl⟩
theorem pO (t:fM):(fH t).1.code=t.code∧(fH t).1.buf=t.buf:=by
 unfold fH
 cases hn:gS t with
 | none=>exact ⟨rfl,rfl⟩
 | some x=>
  dsimp only
  split
  ·split
   ·exact XR
   ·exact ⟨rfl,rfl⟩
  ·exact ⟨rfl,rfl⟩
theorem AL:∀ {n:Nat} {t t':fM},sJ n t=some t'→t'.code=t.code∧t'.buf=t.buf
 | 0,_,_,h=>by cases h
 | n+1,t,t',h=>by
  have hc:=pO t
  unfold sJ at h
  split at h
  ·have:=AL h; exact ⟨this.1.trans hc.1,this.2.trans hc.2⟩
  ·cases h; exact hc
theorem Jf:∀ {n:Nat} {t t':fM},G7 t→sJ n t=some t'→G7 t'
 | 0,_,_,_,h=>by cases h
 | n+1,t,t',h0,h=>by
  unfold sJ at h
  split at h
  ·exact Jf (ly h0) h
  ·cases h; exact ly h0
theorem Fi:∀ {n k:Nat} {t t':fM},sJ n t=some t'→sJ (n+k) t=some t'
 | 0,_,_,_,h=>by cases h
 | n+1,k,t,t',h=>by
  rw [show n+1+k=(n+k)+1 from by omega]
  unfold sJ at h ⊢
  split at h
  ·rename_i hs; rw [if_pos hs]; exact Fi h
  ·rename_i hs; rw [if_neg hs]; exact h
theorem ON {t:fM} (hk:∀ x∈t.code.l,1≤x.kind∧x.kind≤15) (h:(fH t).2=false):Vis (fH t).1:=by
 intro x hx hf
 cases hn:gS t with
 | none=>rw [An hn] at hx; rw [hx] at hn; cases hn
 | some y=>
  have hy:=hk y (qG hn).1
  cases he:(ey y.e t.aK).2 with
  | false=>rw [Ao hn he] at hf; simp [tE,he] at hf
  | true=>
   cases TI:(ey y.f t.aK).2 with
   | false=>rw [Ap hn he TI] at hf; simp [tF,tE,TI] at hf
   | true=>
    rw [ku hn he TI] at h hx hf
    unfold wD at h hx hf
    have e:∀ z,gS (tF (tE t y) y)=some z→z=y:=by
     intro z hz
     have:gS (tF (tE t y) y)=gS t:=rfl
     rw [this,hn] at hz; exact (Option.some.inj hz).symm
    split at h
    ·cases h
    ·split at h
     ·cases h
     ·split at h
      ·split at h <;> cases h
      ·split at h
       ·cases h
       ·split at h
        ·split at h <;> cases h
        ·split at h
         ·rename_i h1 h2 h3 h4 h5 h6
          rw [if_neg h1,if_neg h2,if_neg h3,if_neg h4,if_neg h5,if_pos h6] at hf
          split at hf
          ·cases hf
          ·rename_i h7; rw [if_neg h7] at h; cases h
         ·rename_i h1 h2 h3 h4 h5 h6
          rw [if_neg h1,if_neg h2,if_neg h3,if_neg h4,if_neg h5,if_neg h6] at hx
          have:=e x hx; subst this
          omega
theorem CW:∀ {n:Nat} {t t':fM},(∀ x∈t.code.l,1≤x.kind∧x.kind≤15)→sJ n t=some t'→Vis t'
 | 0,_,_,_,h=>by cases h
 | n+1,t,t',hk,h=>by
  unfold sJ at h
  split at h
  ·exact CW (by rw [(pO t).1]; exact hk) h
  ·rename_i hs; cases h; exact ON hk (by simpa using hs)
theorem B9 {l:List Int} {k:Nat} (hk:0<k) (h:k≤l.length):kS (l.take k)=l.getD (k - 1) 0+1:=by
 unfold kS
 rw [List.length_take,Nat.min_eq_left h,if_neg (by omega),List.getD_eq_getElem?_getD,List.getD_eq_getElem?_getD,List.getElem?_take,if_pos (by omega)]
theorem CX {u:il} (h:Fh u) {k:Nat} {n:Int} (hk:(k:Int)<u.stays) (hn:u.lines[k]? = some n):(n=lq u.lines k∨(0<k∧n=lq u.lines k - 1))∧-1≤n∧n≤k:=by
 have mz:=(List.getElem?_eq_some_iff.1 hn).1
 have hb:=EJ (u:=u) (k:=u.lines.length) (λ j hj=>h.ln j hj) k n mz hn
 have h1:=h.ln k mz
 unfold j5 at h1
 rw [hn] at h1
 simp only [Bool.and_eq_false_iff,Bool.or_eq_false_iff,decide_eq_false_iff_not,Decidable.not_not] at h1
 refine ⟨?_,hb⟩
 rcases h1 with h1 | h1
 ·exact .inl h1
 ·exact .inr ⟨by omega,h1.2⟩
theorem Jg {u:il} (h:Fh u):∀ (k:Nat) (n:Int),(k:Int)<u.stays→u.lines[k]? = some n→0≤n∧∀ j m,j≤k→u.lines[j]? = some m→m≤n
 | 0,n,hk,hn=>by
  have h1:=(CX h hk hn).1
  have e:lq u.lines 0=0:=rfl
  rw [e] at h1
  refine ⟨by omega,λ j m hj hm=>?_⟩
  obtain rfl:j=0:=by omega
  rw [hn] at hm; cases hm; exact Int.le_refl _
 | k+1,n,hk,hn=>by
  have mz:=(List.getElem?_eq_some_iff.1 hn).1
  obtain ⟨q,hq⟩:∃ q,u.lines[k]? = some q:=⟨_,List.getElem?_eq_getElem (by omega)⟩
  have ih:=Jg h k q (by omega) hq
  have h1:=(CX h hk hn).1
  have e:lq u.lines (k+1)=q+1:=by unfold lq; rw [if_neg (by omega),Nat.add_sub_cancel,List.getD_eq_getElem?_getD,hq]; rfl
  rw [e] at h1
  refine ⟨by omega,λ j m hj hm=>?_⟩
  by_cases hjk:j=k+1
  ·subst hjk; rw [hn] at hm; cases hm; exact Int.le_refl _
  ·have:=ih.2 j m (by omega) hm; omega
theorem adJ {u:il} (h:Fh u):xk (WR u.lines u.stays u.dC):=by
 have h1:=h.st; have h2:=h.fl; have h3:=h.ll
 have hl:(u.lines.take u.stays.toNat).length=u.stays.toNat:=by rw [List.length_take]; omega
 refine ⟨?_,?_,rfl,?_,λ n hn=>?_,?_,λ k x hx=>by cases hx⟩
 ·show (u.lines.take u.stays.toNat).length≤u.dC.length; omega
 ·show u.dC.length≤20; omega
 ·show (u.dC.take u.stays.toNat).length=(u.lines.take u.stays.toNat).length; rw [hl,List.length_take]; omega
 ·obtain ⟨i,hi⟩:=o8 (show n∈u.lines.take u.stays.toNat from hn)
  have mz:=(List.getElem?_eq_some_iff.1 hi).1
  rw [hl] at mz
  rw [List.getElem?_take,if_pos mz] at hi
  obtain ⟨q,hq⟩:∃ q,u.lines[u.stays.toNat - 1]? = some q:=⟨_,List.getElem?_eq_getElem (by omega)⟩
  have h4:=Jg h (u.stays.toNat - 1) q (by omega) hq
  have h5:=(Jg h i n (by omega) hi).1
  have h6:=h4.2 i n (by omega) hi
  show 0≤n∧n<kS (u.lines.take u.stays.toNat)
  rw [B9 (by omega) (by omega),List.getD_eq_getElem?_getD,hq]
  exact ⟨h5,by show n<q+1; omega⟩
 ·show kS (u.lines.take u.stays.toNat)≤20
  by_cases h0:u.stays.toNat=0
  ·rw [h0,List.take_zero]; decide
  ·obtain ⟨q,hq⟩:∃ q,u.lines[u.stays.toNat - 1]? = some q:=⟨_,List.getElem?_eq_getElem (by omega)⟩
   have:=(CX h (by omega) hq).2
   rw [B9 (by omega) (by omega),List.getD_eq_getElem?_getD,hq]
   show q+1≤20
   omega
theorem Rf {f:Int→List jj} {a k:Int} {xs:List jj} {x:jj} (h:x∈sZ f a xs k):x∈xs∨x∈f k:=by
 unfold sZ at h; split at h; exact .inl h; exact .inr h
theorem Hp {m:Mem} {c n:Int} (h:xk m):xk (iH m c n):=by
 unfold iH
 split
 ·rename_i vk
  unfold N4 at vk; rw [decide_eq_true_eq] at vk
  refine ⟨h.QA,h.fl,by show (m.l.set _ _).length=_; rw [List.length_set]; exact h.ll,h.kl,h.ofr,h.lb,λ k x hx=>?_⟩
  dsimp only at hx
  split at hx
  ·rename_i hc
   rcases Rf hx with h1 | h1
   ·rw [List.mem_append] at h1
    rcases h1 with h1 | h1
    ·exact h.pc _ x h1
    ·simp at h1; subst h1; exact ⟨vk.1,hc⟩
   ·exact h.pc _ x h1
  ·exact h.pc _ x hx
 ·exact h
theorem adK {m:Mem} {c:Int} (h:xk m):xk (vC m c):=by
 unfold vC
 split
 ·refine ⟨h.QA,h.fl,h.ll,by show (xL _ _).length=_; rw [Ai]; exact h.kl,h.ofr,h.lb,λ k x hx=>?_⟩
  rcases Rf hx with h1 | h1
  ·cases h1
  ·exact h.pc _ x h1
 ·exact h
theorem SP {m:Mem} {cut pX:List Int} (h:jA m cut=some pX):pX.length=m.kept.length:=by
 unfold jA at h; split at h
 ·cases h; exact uj _ _ _
 ·cases h
theorem SQ {m:Mem} {cut pX:List Int} (h:xk m) (hi:jA m cut=some pX):xk (yI m pX):=by
 have h1:=SP hi
 have h2:=h.kl; have h3:=h.QA
 refine ⟨h.QA,h.fl,?_,?_,h.ofr,h.lb,λ k x hx=>by cases hx⟩
 ·show (pX++m.dC.drop pX.length).length=m.dC.length
  rw [List.length_append,List.length_drop]; omega
 ·show pX.length=m.of.length; omega
structure GM (m:gL):Prop where
 ru:Fh m.u
 uz:UZ m.u
 mem:xk m.mem
 of:m.mem.of=m.u.lines.take m.u.stays.toNat
 dC:m.mem.dC=m.u.dC
 th:∀ t∈m.l,G7 t∧Vis t∧(t.code∈m.u.threads∨t.code=m.u.recover)
 tl:m.l.length≤3
 lk:(m.locks.length:Int)=m.u.locks
 rm:1≤m.room∧m.room≤16
 cr:0≤m.er
section
variable {m:gL} {t:fM}
theorem GM.code (h:GM m) (ht:t∈m.l):lO t.code m.u.lines.length (gp m.u) m.u.locks:=by
 rcases (h.th t ht).2.2 with h1 | h1
 ·exact h.ru.th _ h1
 ·rw [h1]; exact h.ru.rc
theorem GM.ok (h:GM m):rE m:=by
 have MW:=h.tl
 refine ⟨h.mem,λ t ht=>(h.th t ht).1,by omega,h.lk,λ t ht x hx hk=>?_,λ t ht x hx hk=>?_,λ t ht x hx hk=>?_,h.rm,λ t ht=>(h.th t ht).2.1,λ n hn=>?_⟩
 ·obtain ⟨i,hi⟩:=o8 hx; exact (h.code ht).b9 hi hk
 ·obtain ⟨i,hi⟩:=o8 hx; exact (h.code ht).b2 hi (.inr (.inl hk))
 ·obtain ⟨i,hi⟩:=o8 hx
  exact (h.code ht).a1 hi (by omega)
 ·obtain ⟨i,hi⟩:=o8 hn
  have mz:=(List.getElem?_eq_some_iff.1 hi).1
  have:=EJ (u:=m.u) (k:=m.u.lines.length) (λ j hj=>h.ru.ln j hj) i n mz hi
  have:=h.ru.ll
  omega
theorem SR {mm:Mem} {x:bJ} (h:xk mm):xk (ia mm x)∧(ia mm x).of=mm.of∧(ia mm x).dC=mm.dC:=by
 unfold ia
 split
 ·exact ⟨Hp h,BB _ _ _,tj _ _ _⟩
 ·split
  ·exact ⟨h,rfl,rfl⟩
  ·exact ⟨adK h,QH _ _,B5 _ _⟩
theorem XS {i:Int} {x:aW} (h:xk m.mem):xk (dY m t i x).1.mem∧(dY m t i x).1.mem.of=m.mem.of∧(dY m t i x).1.mem.dC=m.mem.dC:=by
 unfold dY BA ye ur
 repeat' split
 all_goals first
  | exact ⟨h,rfl,rfl⟩
  | exact ⟨Hp h,BB _ _ _,tj _ _ _⟩
theorem Rg {i:Int} {x:aW}:(dY m t i x).1.locks.length=m.locks.length∧(dY m t i x).1.er=m.er:=by
 unfold dY BA ye ur
 repeat' split
 all_goals first
  | exact ⟨rfl,rfl⟩
  | exact ⟨List.length_set ..,rfl⟩
theorem SS {l:List bJ} {i:Int}:(mc l i).length≤l.length:=by
 unfold mc; split
 ·exact List.length_eraseIdx_le ..
 ·exact Nat.le_refl _
theorem GM.out {q:ep} (h:GM m) (ht:m.l[q.t.toNat]? = some t):GM (mv m t q):=by
 have hm:=SR (x:=eh t.buf q.i) h.mem
 have Cn:=List.mem_of_getElem? ht
 refine ⟨h.ru,h.uz,hm.1,hm.2.1.trans h.of,hm.2.2.trans h.dC,λ t' XT=>?_,by show (m.l.set _ _).length≤3; rw [List.length_set]; exact h.tl,h.lk,h.rm,h.cr⟩
 rcases List.mem_or_eq_of_mem_set (show t'∈m.l.set _ _ from XT) with h1 | h1
 ·exact h.th t' h1
 ·subst h1
  obtain ⟨h2,h3,h4⟩:=h.th t Cn
  have:=SS (l:=t.buf) (i:=q.i)
  have hb:=h2.bl
  exact ⟨⟨h2.code,h2.rg,h2.cn,h2.Tl,by show (mc t.buf q.i).length≤1000; omega⟩,h3,h4⟩
theorem lO.kds {c:fo} {a b d:Int} (h:lO c a b d):∀ x∈c.l,1≤x.kind∧x.kind≤15:=λ x hx=>by
 obtain ⟨i,hi⟩:=o8 hx; exact h.kd hi
theorem GM.step {N:Nat} {i:Int} {m':gL} {ev:cY} (h:GM m) (hs:mF N m i=some (m',ev)):GM m':=by
 cases ht:m.l[i.toNat]? with
 | none=>unfold mF at hs; rw [ht] at hs; cases hs
 | some t=>
  have Cn:=List.mem_of_getElem? ht
  have htt:=h.th t Cn
  by_cases hf:t.fault≠0
  ·rw [(Au hs ht hf).1]
   exact ⟨h.ru,h.uz,h.mem,h.of,h.dC,h.th,h.tl,h.lk,h.rm,h.cr⟩
  ·obtain ⟨x,hn⟩:=Av hs ht hf
   have hm:=XS (m:=m) (t:=t) (i:=i) (x:=x) h.mem
   have Mr:=Rg (m:=m) (t:=t) (i:=i) (x:=x)
   have oC:=QI (m:=m) (i:=i) (x:=x) htt.1 h.rm.2
   have key:∀ t2:fM,G7 t2→Vis t2→t2.code=t.code→GM { (dY m t i x).1 with l:=(dY m t i x).1.l.set i.toNat t2}:=by
    intro t2 h1 h2 h3
    have hu:=Oe (m:=m) (t:=t) (i:=i) (x:=x)
    refine ⟨by rw [hu]; exact h.ru,by rw [hu]; exact h.uz,hm.1,by rw [hu]; exact hm.2.1.trans h.of,by rw [hu]; exact hm.2.2.trans h.dC,λ t' XT=>?_,?_,?_,?_,?_⟩
    ·rw [I0] at XT
     rw [hu]
     rcases List.mem_or_eq_of_mem_set (show t'∈m.l.set _ _ from XT) with h4 | h4
     ·exact h.th t' h4
     ·subst h4; exact ⟨h1,h2,by rw [h3]; exact htt.2.2⟩
    ·show ((dY m t i x).1.l.set _ _).length≤3
     rw [List.length_set,I0]; exact h.tl
    ·show ((dY m t i x).1.locks.length:Int)=(dY m t i x).1.u.locks
     rw [Mr.1,hu]; exact h.lk
    ·show 1≤(dY m t i x).1.room∧(dY m t i x).1.room≤16
     rw [xl]; exact h.rm
    ·show 0≤(dY m t i x).1.er
     rw [Mr.2]; exact h.cr
   by_cases h0:(dY m t i x).1.fault=0
   ·obtain ⟨t2,hg,Ms,_⟩:=Aw hs ht hf hn h0
    rw [Ms]
    have hc:=AL hg
    have hcc:t2.code=t.code:=hc.1.trans (qI (m:=m) (t:=t) (i:=i) (x:=x))
    refine key t2 (Jf ?_ hg) (CW (t:={ (dY m t i x).2.1 with at_:=(dY m t i x).2.1.at_+1}) ?_ hg) hcc
    ·exact ⟨oC.code,oC.rg,oC.cn,by show 0≤(dY m t i x).2.1.at_+1; have:=oC.Tl; omega,oC.bl⟩
    ·show ∀ x'∈(dY m t i x).2.1.code.l,_
     rw [qI]; exact (h.code Cn).kds
   ·obtain ⟨Ms,_⟩:=Ax hs ht hf hn h0
    rw [Ms]
    refine key _ oC ?_ (qI (m:=m) (t:=t) (i:=i) (x:=x))
    intro y hy hfy
    have e:gS (dY m t i x).2.1=gS t:=by unfold gS; rw [qI,CM]
    rw [e] at hy
    exact htt.2.1 y hy (by omega)
theorem GM.arT {q:ep} {pX:List Int} {N:Nat} (h:GM m) (hi:iT m q=some pX) (hg:sJ N (qa m.u.recover)=some t):GM (mL (yM m pX) [t]):=by
 have hi2:jA m.mem q.cut=some pX:=by unfold iT at hi; split at hi; exact hi; cases hi
 have hr:=h.ru.rc
 have Mr:=h.ru.lk
 refine ⟨h.ru,h.uz,SQ h.mem hi2,h.of,h.dC,λ t' XT=>?_,by show [t].length≤3; simp,?_,h.rm,by show 0≤m.er+1; have:=h.cr; omega⟩
 ·obtain rfl:t'=t:=by simpa using (show t'∈[t] from XT)
  exact ⟨Jf (I1 (hr.ok h.uz.rc)) hg,CW (t:=qa m.u.recover) hr.kds hg,.inr (AL hg).1⟩
 ·show ((List.replicate m.u.locks.toNat (-1:Int)).length:Int)=m.u.locks
  rw [List.length_replicate]; omega
theorem GM.do {N:Nat} {q:ep} {m2:gL} {ev:cY} {e:Int} (h:GM m) (hd:CO N m q=some (m2,ev,e)):GM m2:=by
 cases hc:iT m q with
 | some pX=>obtain ⟨t,hg,hm,_⟩:=uu hd hc; rw [hm]; exact h.arT hc hg
 | none=>
  by_cases ha:(dU m).any (jM q)=true
  ·by_cases hk:q.kind=2
   ·obtain ⟨_,t,ht⟩:=tm ha
    rw [(qB hd hc ha hk ht).1]; exact h.out ht
   ·exact h.step (ow hd hc ha hk).1
  ·rw [(qA hd hc ha).1]; exact h
end
theorem GM.new {N:Nat} {u:il} {room:Int} {nf:List fM} (hu:Fh u) (hz:UZ u) (hb:rF N u.threads nf) (hr:1≤room∧room≤16):GM (mL (mw u room) nf):=by
 have h1:=hu.tl; have h2:=hu.lk
 refine ⟨hu,hz,adJ hu,rfl,rfl,λ t ht=>?_,by show nf.length≤3; rw [hb.1]; exact h1.2,?_,hr,Int.le_refl _⟩
 ·obtain ⟨i,hi⟩:=o8 (show t∈nf from ht)
  have mz:=(List.getElem?_eq_some_iff.1 hi).1
  obtain ⟨c,hc⟩:∃ c,u.threads[i]? = some c:=⟨_,List.getElem?_eq_getElem (by rw [← hb.1]; exact mz)⟩
  have hg:=hb.2 i c t hc hi
  have Mw:=List.mem_of_getElem? hc
  have hcu:=hu.th c Mw
  exact ⟨Jf (I1 (hcu.ok (hz.th c Mw))) hg,CW (t:=qa c) hcu.kds hg,.inl (by rw [(AL hg).1]; exact Mw)⟩
 ·show ((List.replicate u.locks.toNat (-1:Int)).length:Int)=u.locks
  rw [List.length_replicate]; omega
theorem Me {N:Nat} {u:il} {nf:List fM} (hu:Fh u) (hz:UZ u) (hb:rF N u.threads nf):QJ N u nf:=by
 have h1:=hu.lk; have h2:=hu.st; have h3:=hu.ll
 refine ⟨hb,λ c hc=>(hu.th c hc).ok (hz.th c hc),hu.fl.symm,hu.ll,hu.st,λ k n hk hn=>?_,by omega⟩
 have h4:=CX hu hk hn
 have mz:=(List.getElem?_eq_some_iff.1 hn).1
 exact ⟨h4.1,by omega,by omega⟩
theorem MB.mono {mm:Mem} {a b:Nat} (h:MB mm a) (hab:a≤b):MB mm b:=λ k=>Nat.le_trans (h k) hab
theorem MB.write {mm:Mem} {c x:Int} {n:Nat} (h:MB mm n):MB (iH mm c x) (n+1):=by
 intro k
 unfold iH
 split
 ·dsimp only
  split
  ·unfold sZ
   split
   ·rw [List.length_append,List.length_singleton]; have:=h (mm.of.getD c.toNat 0); omega
   ·have:=h k; omega
  ·have:=h k; omega
 ·have:=h k; omega
theorem MB.out {mm:Mem} {c:Int} {n:Nat} (h:MB mm n):MB (vC mm c) n:=by
 intro k
 unfold vC
 split
 ·dsimp only
  unfold sZ
  split
  ·simp
  ·exact h k
 ·exact h k
theorem MB.ia {mm:Mem} {x:bJ} {n:Nat} (h:MB mm n):MB (ia mm x) (n+1):=by
 unfold Go.Proofs.YtnjcingfdhjfkaaGreat.ia
 split
 ·exact h.write
 ·split
  ·exact h.mono (Nat.le_succ n)
  ·exact h.out.mono (Nat.le_succ n)
theorem MB.act {m:gL} {t:fM} {i:Int} {x:aW} {n:Nat} (h:MB m.mem n):MB (dY m t i x).1.mem (n+1):=by
 unfold dY BA ye ur
 repeat' split
 all_goals first
  | exact h.mono (Nat.le_succ n)
  | exact h.write
theorem MB.step {N n:Nat} {m m':gL} {i:Int} {ev:cY} (h:MB m.mem n) (hs:mF N m i=some (m',ev)):MB m'.mem (n+1):=by
 cases ht:m.l[i.toNat]? with
 | none=>unfold mF at hs; rw [ht] at hs; cases hs
 | some t=>
  by_cases hf:t.fault≠0
  ·rw [(Au hs ht hf).1]; exact h.mono (Nat.le_succ n)
  ·obtain ⟨x,hn⟩:=Av hs ht hf
   by_cases h0:(dY m t i x).1.fault=0
   ·obtain ⟨t2,_,Ms,_⟩:=Aw hs ht hf hn h0
    rw [Ms]; exact h.act
   ·rw [(Ax hs ht hf hn h0).1]; exact h.act
theorem MB.do {N n:Nat} {m m2:gL} {q:ep} {ev:cY} {e:Int} (h:MB m.mem n) (hd:CO N m q=some (m2,ev,e)):MB m2.mem (n+1):=by
 cases hc:iT m q with
 | some pX=>obtain ⟨t,_,hm,_⟩:=uu hd hc; rw [hm]; intro k; exact Nat.zero_le _
 | none=>
  by_cases ha:(dU m).any (jM q)=true
  ·by_cases hk:q.kind=2
   ·obtain ⟨_,t,ht⟩:=tm ha
    rw [(qB hd hc ha hk ht).1]; exact h.ia
   ·exact h.step (ow hd hc ha hk).1
  ·rw [(qA hd hc ha).1]; exact h.mono (Nat.le_succ n)
theorem MB.new {u:il} {room:Int} {nf:List fM}:MB (mL (mw u room) nf).mem 0:=λ _=>Nat.le_refl _
theorem Fj {N:Nat} {m m2:gL} {q:ep} {ev:cY} {e:Int} (hd:CO N m q=some (m2,ev,e)):m2.er≤m.er+1∧m2.u=m.u∧m2.room=m.room:=by
 cases hc:iT m q with
 | some pX=>obtain ⟨t,_,hm,_⟩:=uu hd hc; rw [hm]; exact ⟨Int.le_refl _,rfl,rfl⟩
 | none=>
  by_cases ha:(dU m).any (jM q)=true
  ·by_cases hk:q.kind=2
   ·obtain ⟨_,t,ht⟩:=tm ha
    rw [(qB hd hc ha hk ht).1]; exact ⟨by show m.er≤_; omega,rfl,rfl⟩
   ·have hs:=(ow hd hc ha hk).1
    cases ht:m.l[q.t.toNat]? with
    | none=>unfold mF at hs; rw [ht] at hs; cases hs
    | some t=>
     by_cases hf:t.fault≠0
     ·rw [(Au hs ht hf).1]; exact ⟨by show m.er≤_; omega,rfl,rfl⟩
     ·obtain ⟨x,hn⟩:=Av hs ht hf
      have Jo:=(Rg (m:=m) (t:=t) (i:=q.t) (x:=x)).2
      by_cases h0:(dY m t q.t x).1.fault=0
      ·obtain ⟨t2,_,Ms,_⟩:=Aw hs ht hf hn h0
       rw [Ms]; exact ⟨by show (dY m t q.t x).1.er≤_; omega,Oe,xl⟩
      ·rw [(Ax hs ht hf hn h0).1]; exact ⟨by show (dY m t q.t x).1.er≤_; omega,Oe,xl⟩
  ·rw [(qA hd hc ha).1]; exact ⟨by omega,rfl,rfl⟩
theorem ak8 {α:Type} {g:α→Bool} {l:List α} (h:0≤uQ g l):uQ g l<l.length:=by
 unfold uQ at h ⊢
 cases hf:l.findIdx? g with
 | none=>rw [hf] at h; simp at h
 | some k=>
  have:=(List.findIdx?_eq_some_iff_getElem.1 hf).1
  simp; exact this
theorem AM {ns:List ByteArray} {s:ByteArray} (h:0≤dP ns s):dP ns s<ns.length:=ak8 h
theorem Mf {s:ByteArray} (h:jX s=true):s≠⟨#[]⟩:=by
 rintro rfl
 exact absurd h (by decide)
theorem Ex.arU (ns:List ByteArray) (t:Ex):t.wf→∀ n h:Int,0≤n→∃ h',(t.steps ns).foldl KA (some (n,h))=some (n+1,h'):=by
 induction t with
 | leaf x=>
  intro hw n h hn
  have Nh:kids x.op=0:=hw
  have hw1:fF x.op=0:=by
   unfold kids at Nh
   unfold fF
   split at Nh <;> (try split at Nh) <;> (try split at Nh) <;> repeat' split
   all_goals omega
  refine ⟨max h (n+1),(show KA (some (n,h)) ⟨x.op,Ex.numOf ns x⟩=some (n+1,max h (n+1)) from ?_)⟩
  unfold KA; dsimp only; rw [hw1,if_neg (by omega),Int.sub_zero]
 | un x a ih=>
  intro hw n h hn
  have Nh:kids x.op=1:=hw.1
  have hw1:fF x.op=1:=by
   unfold kids at Nh
   unfold fF
   split at Nh <;> (try split at Nh) <;> (try split at Nh) <;> repeat' split
   all_goals omega
  obtain ⟨h1,e1⟩:=ih hw.2 n h hn
  refine ⟨max h1 (n+1),?_⟩
  show List.foldl KA (some (n,h)) (a.steps ns++[(⟨x.op,numOf ns x⟩:nk)])=_
  rw [List.foldl_append,e1]
  show KA (some (n+1,h1)) ⟨x.op,numOf ns x⟩=_
  unfold KA; dsimp only; rw [hw1,if_neg (by omega),Int.add_sub_cancel]
 | bin x a b vA xE=>
  intro hw n h hn
  have Nh:kids x.op=2:=hw.1
  have hw1:fF x.op=2:=by
   unfold kids at Nh
   unfold fF
   split at Nh <;> (try split at Nh) <;> (try split at Nh) <;> repeat' split
   all_goals omega
  obtain ⟨h1,e1⟩:=vA hw.2.1 n h hn
  obtain ⟨h2,e2⟩:=xE hw.2.2 (n+1) h1 (by omega)
  refine ⟨max h2 (n+1),?_⟩
  show List.foldl KA (some (n,h)) (a.steps ns++b.steps ns++[(⟨x.op,numOf ns x⟩:nk)])=_
  rw [List.foldl_append,List.foldl_append,e1,e2]
  show KA (some (n+1+1,h2)) ⟨x.op,numOf ns x⟩=_
  unfold KA; dsimp only; rw [hw1,if_neg (by omega),show n+1+1 - 2+1=n+1 from by omega]
theorem Jh {k:Int} (h:kids k=0∨kids k=1∨kids k=2):1≤k∧k≤15:=by
 unfold kids at h
 repeat' split at h
 all_goals omega
theorem Ex.SU (ns:List ByteArray) (t:Ex):t.wf→∀ o∈t.steps ns,∃ x∈t.flat,o=⟨x.op,numOf ns x⟩∧1≤x.op∧x.op≤15:=by
 induction t with
 | leaf x=>intro hw o ho; exact ⟨x,by simp [Ex.flat],by simpa [Ex.steps] using ho,Jh (.inl hw)⟩
 | un x a ih=>
  intro hw o ho
  have ho:o∈a.steps ns++[⟨x.op,numOf ns x⟩]:=ho
  rw [List.mem_append] at ho
  rcases ho with ho | ho
  ·obtain ⟨y,h1,h2⟩:=ih hw.2 o ho; exact ⟨y,by simp [Ex.flat,h1],h2⟩
  ·exact ⟨x,by simp [Ex.flat],by simpa using ho,Jh (.inr (.inl hw.1))⟩
 | bin x a b vA xE=>
  intro hw o ho
  have ho:o∈a.steps ns++b.steps ns++[⟨x.op,numOf ns x⟩]:=ho
  rw [List.mem_append,List.mem_append] at ho
  rcases ho with (ho | ho) | ho
  ·obtain ⟨y,h1,h2⟩:=vA hw.2.1 o ho; exact ⟨y,by simp [Ex.flat,h1],h2⟩
  ·obtain ⟨y,h1,h2⟩:=xE hw.2.2 o ho; exact ⟨y,by simp [Ex.flat,h1],h2⟩
  ·exact ⟨x,by simp [Ex.flat],by simpa using ho,Jh (.inr (.inr hw.1))⟩
theorem wM {ns:List ByteArray} {l:List cX} {many:Int} (hr:jy l=true) (hv:vo l ns=false) (hm:many=ns.length):eL (gg ns l) many=true∧(gg ns l).length≤40:=by
 have hr0:=hr
 unfold jy at hr
 simp only [Bool.and_eq_true,Bool.not_eq_true',decide_eq_true_eq,List.any_eq_false] at hr
 obtain ⟨⟨⟨h1,h2⟩,h3⟩,h4⟩:=hr
 obtain ⟨t,ht0⟩:=Option.isSome_iff_exists.1 h2
 obtain ⟨hw,Ce⟩:=yw ht0
 have hv0:=hv
 unfold vo at hv
 have he:xY ns l=0:=by unfold xY; rw [if_neg (by rw [hr0]; decide),if_neg (by rw [hv]; decide)]
 have hl:gg ns l=t.steps ns:=by unfold gg; rw [if_pos he]; unfold Nk; rw [ht0]
 rw [hl]
 have hlen:(t.steps ns).length≤40:=by rw [Ex.xc,← Ex.cO,← Ce]; exact h1
 obtain ⟨h',e'⟩:=t.arU ns hw 0 0 (Int.le_refl _)
 have e2:ht (t.steps ns)=some (1,h'):=by unfold ht; rw [e']; rfl
 refine ⟨?_,hlen⟩
 unfold eL htN
 rw [e2]
 simp only [Option.isSome_some,decide_true,Bool.and_true,Bool.and_eq_true,decide_eq_true_eq,Bool.not_eq_true',List.any_eq_false]
 refine ⟨hlen,λ o ho=>?_⟩
 obtain ⟨x,hx,rfl,Tg,Jo⟩:=t.SU ns hw o ho
 rw [← Ce] at hx
 have XU:=h3 x hx
 unfold oO at XU
 simp only [Bool.or_eq_true,decide_eq_true_eq,not_or,Bool.and_eq_true,Bool.not_eq_true',not_and,Bool.not_eq_false] at XU
 obtain ⟨⟨⟨⟨g1,g2⟩,g3⟩,g4⟩,g5⟩:=XU
 have hn:Ex.numOf ns x=if x.op=2 then dP ns x.name else x.n:=rfl
 unfold se
 simp only [decide_eq_true_eq]
 rintro (⟨q1,q2⟩ | ⟨q1,q2⟩ | ⟨q1,q2,q3⟩)
 ·have q1:x.op=1:=q1
  rw [hn,if_neg (by omega)] at q2; omega
 ·have q1:x.op=2:=q1
  rw [hn,if_pos q1] at q2
  rw [List.any_eq_false] at hv
  have:=hv x hx
  simp only [Bool.and_eq_true,decide_eq_true_eq,not_and] at this
  have h5:=this q1
  have h6:=AM (ns:=ns) (s:=x.name) (by omega)
  omega
 ·have q1:¬ x.op=1:=q1
  have q2:¬ x.op=2:=q2
  rw [hn,if_neg q2] at q3
  have:=g2
  omega
theorem arW {k:Int} (h:1≤k∧k≤14):en (j1 k) 101=decide (k=1∨k=3∨k=4∨k=11∨k=14)∧en (j1 k) 102=decide (k=4)∧en (j1 k) 114=decide (k=1∨k=2∨k=4)∧en (j1 k) 110=decide (k=2∨k=3∨k=4∨k=5∨k=6∨k=9∨k=10):=by
 obtain rfl | rfl | rfl | rfl | rfl | rfl | rfl | rfl | rfl | rfl | rfl | rfl | rfl | rfl:k=1∨k=2∨k=3∨k=4∨k=5∨k=6∨k=7∨k=8∨k=9∨k=10∨k=11∨k=12∨k=13∨k=14:=by omega
 all_goals decide
structure arX (x:cE):Prop where
 kind:1≤x.kind∧x.kind≤14
 e1:x.kind=1∨x.kind=3∨x.kind=4∨x.kind=11∨x.kind=14→jy x.e=true
 e0:¬ (x.kind=1∨x.kind=3∨x.kind=4∨x.kind=11∨x.kind=14)→x.e=[]
 f1:x.kind=4→jy x.f=true
 f0:¬ x.kind=4→x.f=[]
 r1:x.kind=1∨x.kind=2∨x.kind=4→jX x.gJ=true
 r0:¬ (x.kind=1∨x.kind=2∨x.kind=4)→x.gJ=⟨#[]⟩
theorem azc {x:cE} (h:rf x=true):arX x:=by
 have h:=Bf h
 obtain ⟨g1,g2,g3,g4⟩:=arW h.kind
 refine ⟨h.kind,λ hk=>?_,λ hk=>?_,λ hk=>?_,λ hk=>?_,λ hk=>?_,λ hk=>?_⟩
 ·rcases h.e with q | q
  ·exact q.2
  ·rw [g1,decide_eq_true hk] at q; exact absurd q.1 (by decide)
 ·rcases h.e with q | q
  ·rw [g1,decide_eq_false hk] at q; exact absurd q.1 (by decide)
  ·exact q.2
 ·rcases h.f with q | q
  ·exact q.2
  ·rw [g2,decide_eq_true hk] at q; exact absurd q.1 (by decide)
 ·rcases h.f with q | q
  ·rw [g2,decide_eq_false hk] at q; exact absurd q.1 (by decide)
  ·exact q.2
 ·rcases h.gJ with q | q
  ·exact q.2
  ·rw [g3,decide_eq_true hk] at q; exact absurd q.1 (by decide)
 ·rcases h.gJ with q | q
  ·rw [g3,decide_eq_false hk] at q; exact absurd q.1 (by decide)
  ·exact q.2
theorem Hq (ns:List ByteArray):gg ns []=[]:=by
 unfold gg; split
 ·rfl
 ·rfl
theorem CY:∀ (ls:List (List dF)) (i a:Int),0≤a→(∀ l∈ls,l≠[])→i≤iq ls i a∧(∀ b,a≤b→iq ls i a≤iq ls i b)∧(iq ls i (a+1)=iq ls i a∨iq ls i (a+1)=iq ls i a+1)
 | [],i,a,ha,_=>⟨by unfold iq; omega,λ b hb=>by unfold iq; omega,by unfold iq; omega⟩
 | l::r,i,a,ha,hl=>by
  have Cb:0<l.length:=List.length_pos_iff.2 (hl l (List.mem_cons_self ..))
  have hr:=λ l Dc=>hl l (List.mem_cons_of_mem _ Dc)
  unfold iq
  by_cases h1:a<l.length
  ·rw [if_pos h1]
   refine ⟨Int.le_refl _,λ b hb=>?_,?_⟩
   ·split
    ·exact Int.le_refl _
    ·have:=(CY r (i+1) (b - l.length) (by omega) hr).1; omega
   ·split
    ·exact .inl rfl
    ·have e:a+1 - (l.length:Int)=0:=by omega
     rw [e]
     cases r with
     | nil=>unfold iq; omega
     | cons l2 r2=>
      have hne2:0<l2.length:=List.length_pos_iff.2 (hr l2 (List.mem_cons_self ..))
      unfold iq; rw [if_pos (by omega)]; exact .inr rfl
  ·rw [if_neg h1]
   obtain ⟨g1,g2,g3⟩:=CY r (i+1) (a - l.length) (by omega) hr
   refine ⟨by omega,λ b hb=>?_,?_⟩
   ·rw [if_neg (by omega)]; exact g2 _ (by omega)
   ·rw [if_neg (by omega),show a+1 - (l.length:Int)=a - l.length+1 from by omega]; exact g3
theorem C0:∀ (ls:List (List dF)) (i a:Int),(ls.flatten.length:Int)≤a→iq ls i a=i+ls.length+(a - ls.flatten.length)
 | [],i,a,_=>by unfold iq; simp
 | l::r,i,a,ha=>by
  have e:(((l::r).flatten).length:Int)=l.length+r.flatten.length:=by simp
  unfold iq
  rw [if_neg (by omega),C0 r (i+1) (a - l.length) (by omega),e]
  simp only [List.length_cons]
  omega
theorem Rh:∀ (ls:List (List dF)) (i a:Int),0≤a→a<ls.flatten.length→iq ls i a<i+ls.length
 | [],i,a,h0,ha=>by simp at ha; omega
 | l::r,i,a,h0,ha=>by
  have e:(((l::r).flatten).length:Int)=l.length+r.flatten.length:=by simp
  unfold iq
  split
  ·simp only [List.length_cons]; omega
  ·have:=Rh r (i+1) (a - l.length) (by omega) (by omega)
   simp only [List.length_cons]; omega
section
variable {p:cU}
theorem Hr (p:cU):(eC p).lines.length=(gF p).length:=by show ((List.range _).map _).length=_; rw [List.length_map,List.length_range]
theorem Fk {i:Nat} (h:i<(gF p).length):(eC p).lines[i]? = some (l6 p i):=by
 show ((List.range _).map _)[i]? = _
 rw [List.getElem?_map,List.getElem?_range h]; rfl
theorem Bm.pf (h:Bm p):PF p:=wk h.right
theorem Bm.sz (h:Bm p):p.lines.length≤4∧(∀ l∈p.lines,l.length≤4)∧p.jP.length≤4∧p.locks.length≤2∧1≤p.threads.length∧p.threads.length≤3∧p.cC.length≤4∧∀ t∈iG p,t.aK.length≤4:=by
 have hb:=h.big
 unfold zU at hb
 simp only [Bool.or_eq_false_iff,decide_eq_false_iff_not,List.any_eq_false,decide_eq_true_eq] at hb
 obtain ⟨⟨h1,h2⟩,⟨⟨⟨⟨⟨h3,h4⟩,h5⟩,h6⟩,h7⟩,h8⟩⟩:=hb
 exact ⟨by omega,λ l hl=>by have:=h1 l hl; omega,by omega,by omega,by omega,by omega,by omega,λ t ht=>by have:=h2 t ht; omega⟩
theorem Mg:∀ {ls:List (List dF)},(∀ l∈ls,l.length≤4)→ls.flatten.length≤4 * ls.length
 | [],_=>by simp
 | l::r,h=>by
  have h1:=h l (List.mem_cons_self ..)
  have h2:=Mg (ls:=r) λ l hl=>h l (List.mem_cons_of_mem _ hl)
  rw [List.flatten_cons,List.length_append,List.length_cons]; omega
theorem Bm.gF (h:Bm p):(gF p).length≤20:=by
 obtain ⟨h1,h2,h3,_⟩:=h.sz
 have:=Mg h2
 unfold Go.Proofs.YtnjcingfdhjfkaaGreat.gF
 rw [List.length_append]; omega
theorem Fl (p:cU):0≤ew p∧ew p≤(gF p).length:=by unfold ew gF; rw [List.length_append]; omega
theorem wN {c:Int} (h:0≤c∧c<(gF p).length):l6 p c=iq p.lines 0 c:=by unfold l6; rw [if_neg (by omega)]
theorem SW (h:Bm p) {c:Int} (hc:0≤c∧c<ew p):0≤l6 p c∧l6 p c<gp (eC p):=by
 have hs:=Fl p
 have Cb:=λ l hl=>(h.pf.lines l hl).1
 obtain ⟨g1,g2,_⟩:=CY p.lines 0 c hc.1 Cb
 rw [wN (by omega)]
 refine ⟨g1,?_⟩
 have g3:=g2 (ew p - 1) (by omega)
 have e:gp (eC p)=iq p.lines 0 (ew p - 1)+1:=by
  unfold gp
  rw [Hr]
  show (if 1≤ew p∧ew p≤((Go.Proofs.YtnjcingfdhjfkaaGreat.gF p).length:Int) then (eC p).lines.getD (ew p - 1).toNat 0+1 else 0)=_
  rw [if_pos (by omega),List.getD_eq_getElem?_getD,Fk (by omega)]
  show l6 p ((ew p - 1).toNat:Nat)+1=_
  rw [show (((ew p - 1).toNat:Nat):Int)=ew p - 1 from by omega,wN (by omega)]
 omega
theorem OO (h:Bm p) {i:Nat} (hi:i<(gF p).length):j5 (eC p) i=false:=by
 have Cb:=λ l hl=>(h.pf.lines l hl).1
 have hs:=Fl p
 unfold j5
 rw [Fk hi]
 dsimp only
 by_cases h0:i=0
 ·subst h0
  have e:l6 p (0:Nat)=0:=by
   rw [wN (by omega)]
   cases hl:p.lines with
   | nil=>unfold iq; rfl
   | cons l r=>
    have:=List.length_pos_iff.2 (Cb l (by rw [hl]; exact List.mem_cons_self ..))
    unfold iq; rw [if_pos (by omega)]
  rw [e]
  have e2:lq (eC p).lines 0=0:=rfl
  rw [e2]; rfl
 ·have e2:lq (eC p).lines i=l6 p ((i - 1:Nat):Int)+1:=by
   unfold lq; rw [if_neg h0,List.getD_eq_getElem?_getD,Fk (by omega)]; rfl
  rw [e2,wN (by omega),wN (by omega)]
  obtain ⟨_,_,g3⟩:=CY p.lines 0 ((i - 1:Nat):Int) (by omega) Cb
  rw [show ((i - 1:Nat):Int)+1=(i:Int) from by omega] at g3
  by_cases gk:(i:Int)<ew p
  ·rcases g3 with g3 | g3
   ·rw [g3]
    have e3:decide ((eC p).stays≤(i:Int))=false:=decide_eq_false (by show ¬ ew p≤_; omega)
    rw [e3,decide_eq_false h0]
    simp
   ·rw [g3]; simp
  ·have hlen:(p.lines.flatten.length:Int)=ew p:=rfl
   by_cases KU:((i - 1:Nat):Int)<ew p
   ·have hi2:(i:Int)=ew p:=by omega
    have q1:=C0 p.lines 0 i (by omega)
    have q2:=Rh p.lines 0 ((i - 1:Nat):Int) (by omega) (by omega)
    have:iq p.lines 0 i=iq p.lines 0 ((i - 1:Nat):Int)+1:=by omega
    rw [this]; simp
   ·have q1:=C0 p.lines 0 i (by omega)
    have q2:=C0 p.lines 0 ((i - 1:Nat):Int) (by omega)
    have:iq p.lines 0 i=iq p.lines 0 ((i - 1:Nat):Int)+1:=by omega
    rw [this]; simp
end
theorem OP {ns:List ByteArray} (h:∀ s∈ns,jX s=true):dP ns ⟨#[]⟩ = -1:=kn λ y hy=>decide_eq_false (Mf (h y hy))
structure StK (p:cU) (rs:List ByteArray) (x:cE):Prop where
 fit:arX x
 rg:∀ s∈rs,jX s=true
 nb:oh p rs x=false
section
variable {p:cU} {rs:List ByteArray} {x:cE} {c:fo}
theorem arY (h:StK p rs x) (hc:c.aK=rs.length) (hk:x.kind=1∨x.kind=3∨x.kind=4∨x.kind=11∨x.kind=14):eL (gg rs x.e) c.aK=true:=by
 have hb:=h.nb; unfold oh at hb; simp only [Bool.or_eq_false_iff] at hb
 exact (wM (h.fit.e1 hk) hb.1.2 hc).1
theorem azd (h:StK p rs x) (hc:c.aK=rs.length) (hk:x.kind=4):eL (gg rs x.f) c.aK=true:=by
 have hb:=h.nb; unfold oh at hb; simp only [Bool.or_eq_false_iff] at hb
 exact (wM (h.fit.f1 hk) hb.2 hc).1
theorem adL (hp:Bm p) (h:StK p rs x) (hc:c.aK=rs.length) (hk:¬ x.kind=11) (Jo:¬ x.kind=12) (hk3:¬ x.kind=13) :
  u4 (lC p rs x) c (gF p).length (gp (eC p)) p.locks.length=true∧(lC p rs x).to=0∧¬ (lC p rs x).kind=11∧¬ (lC p rs x).kind=12∧¬ (lC p rs x).kind=13∧¬ (lC p rs x).kind=14:=by
 have hkd:=h.fit.kind
 have ng:(lC p rs x).kind=if x.kind=14 then 15 else x.kind:=rfl
 have hka:¬ (lC p rs x).kind=11∧¬ (lC p rs x).kind=12∧¬ (lC p rs x).kind=13∧¬ (lC p rs x).kind=14∧1≤(lC p rs x).kind∧(lC p rs x).kind≤15:=by rw [ng]; split <;> omega
 refine ⟨?_,rfl,hka.1,hka.2.1,hka.2.2.1,hka.2.2.2.1⟩
 have hb:=h.nb; unfold oh at hb
 simp only [Bool.or_eq_false_iff,Bool.and_eq_false_iff,decide_eq_false_iff_not,not_or,Decidable.not_not] at hb
 obtain ⟨⟨⟨⟨⟨b1,b2⟩,b3⟩,b4⟩,b5⟩,b6⟩:=hb
 have hE:(if sq (lC p rs x).kind=true then eL (lC p rs x).e c.aK else !decide (0<((lC p rs x).e.length:Int)))=true:=by
  by_cases hq:x.kind=1∨x.kind=3∨x.kind=4∨x.kind=11∨x.kind=14
  ·have Cb:sq (lC p rs x).kind=true:=by
    unfold sq; rw [ng]
    split
    ·rfl
    ·simp only [Bool.or_eq_true,decide_eq_true_eq]; omega
   rw [if_pos Cb]; exact arY h hc hq
  ·have Cb:¬ sq (lC p rs x).kind=true:=by
    unfold sq; rw [ng,if_neg (by omega)]
    simp only [Bool.or_eq_true,decide_eq_true_eq]; omega
   rw [if_neg Cb]
   have:(lC p rs x).e=[]:=by show gg rs x.e=[]; rw [h.fit.e0 hq,Hq]
   rw [this]; rfl
 have hF:(if (lC p rs x).kind=4 then eL (lC p rs x).f c.aK else !decide (0<((lC p rs x).f.length:Int)))=true:=by
  by_cases hq:x.kind=4
  ·rw [if_pos (by rw [ng]; split <;> omega)]; exact azd h hc hq
  ·rw [if_neg (by rw [ng]; split <;> omega)]
   have:(lC p rs x).f=[]:=by show gg rs x.f=[]; rw [h.fit.f0 hq,Hq]
   rw [this]; rfl
 have hA:aM (lC p rs x) c.aK c.counts=true:=by
  unfold aM
  rw [if_neg (by omega)]
  have ea:(lC p rs x).a=max 0 (dP rs x.gJ):=rfl
  by_cases hq:x.kind=1∨x.kind=2∨x.kind=4
  ·rw [if_pos (by rw [ng]; split <;> omega),ea]
   have Cb:=Mf (h.fit.r1 hq)
   have:¬ dP rs x.gJ<0:=by
    rcases b1 with b1 | b1
    ·exact absurd b1 Cb
    ·exact b1
   have h2:=AM (ns:=rs) (s:=x.gJ) (by omega)
   unfold Ln; simp only [Bool.and_eq_true,decide_eq_true_eq]; omega
  ·rw [if_neg (by rw [ng]; split <;> omega),ea,h.fit.r0 hq,OP h.rg]; rfl
 have hB:bM (lC p rs x) (gF p).length (gp (eC p)) p.locks.length=true:=by
  unfold bM
  have eb:(lC p rs x).b=if x.kind=2∨x.kind=3∨x.kind=4 then dP (fc p) x.name else if x.kind=5∨x.kind=6 then l6 p (dP (fc p) x.name) else if x.kind=9∨x.kind=10 then dP (gY p) x.name else 0:=rfl
  have Qi:(fc p).length=(gF p).length:=by unfold fc; rw [List.length_map]
  have Nj:(gY p).length=p.locks.length:=by unfold gY; rw [List.length_map]
  by_cases q1:x.kind=2∨x.kind=3∨x.kind=4
  ·rw [if_pos (by rw [ng]; split <;> omega),eb,if_pos q1]
   have h1:¬ dP (fc p) x.name<0:=by
    rcases b2 with b2 | b2
    ·omega
    ·exact b2
   have h2:=AM (ns:=fc p) (s:=x.name) (by omega)
   unfold Ln; simp only [Bool.and_eq_true,decide_eq_true_eq]; omega
  ·rw [if_neg (by rw [ng]; split <;> omega)]
   by_cases q2:x.kind=5∨x.kind=6
   ·rw [if_pos (by rw [ng]; split <;> omega),eb,if_neg q1,if_pos q2]
    have h1:¬ dP (fc p) x.name<0∧¬ ew p≤dP (fc p) x.name:=by
     rcases b3 with b3 | b3
     ·omega
     ·exact b3
    have:=SW hp (c:=dP (fc p) x.name) (by omega)
    unfold Ln; simp only [Bool.and_eq_true,decide_eq_true_eq]; omega
   ·rw [if_neg (by rw [ng]; split <;> omega)]
    by_cases q3:x.kind=9∨x.kind=10
    ·rw [if_pos (by rw [ng]; split <;> omega),eb,if_neg q1,if_neg q2,if_pos q3]
     have h1:¬ dP (gY p) x.name<0:=by
      rcases b4 with b4 | b4
      ·omega
      ·exact b4
     have h2:=AM (ns:=gY p) (s:=x.name) (by omega)
     unfold Ln; simp only [Bool.and_eq_true,decide_eq_true_eq]; omega
    ·rw [if_neg (by rw [ng]; split <;> omega),if_neg hka.2.2.1,eb,if_neg q1,if_neg q2,if_neg q3]; rfl
 unfold u4 efM
 rw [hE,hF,hA,hB,decide_eq_true hka.2.2.2.2.1,decide_eq_true hka.2.2.2.2.2]; rfl
end
structure XV (c:fo) (cells lines locks:Int) (L:List aW) (i:Nat) (x:aW):Prop where
 fld:u4 x c cells lines locks=true
 to:IH L i x=true
 nest:x.kind=14→∀ (k:Nat) (y:aW),x.to≤k→k<i→L[k]? = some y→y.kind=14→x.to≤y.to
 b13:x.kind=14→∃ y,L[(x.to - 1).toNat]? = some y∧y.kind=13
def XW (L:List aW) (n:Nat) (l:List aW):Prop:=∀ (k:Nat) (y:aW),l[k]? = some y→L[n+k]? = some y
def qe (c:fo) (cells lines locks:Int) (L:List aW) (n:Nat) (l:List aW):Prop:=∀ (k:Nat) (y:aW),l[k]? = some y→XV c cells lines locks L (n+k) y
section
variable {L l1 l2:List aW} {n:Nat} {c:fo} {cells lines locks:Int}
theorem XW.left (h:XW L n (l1++l2)):XW L n l1:=λ k y hk=>h k y (by rw [List.getElem?_append_left (List.getElem?_eq_some_iff.1 hk).1]; exact hk)
theorem XW.right (h:XW L n (l1++l2)):XW L (n+l1.length) l2:=λ k y hk=>by
 have:=h (l1.length+k) y (by rw [List.getElem?_append_right (by omega),Nat.add_sub_cancel_left]; exact hk)
 rw [Nat.add_assoc]; exact this
theorem XW.one {y:aW} (h:XW L n [y]):L[n]? = some y:=h 0 y rfl
theorem qe.app (h1:qe c cells lines locks L n l1) (h2:qe c cells lines locks L (n+l1.length) l2):qe c cells lines locks L n (l1++l2):=λ k y hk=>by
 rcases Nat.lt_or_ge k l1.length with h | h
 ·rw [List.getElem?_append_left h] at hk; exact h1 k y hk
 ·rw [List.getElem?_append_right h] at hk
  have:=h2 (k - l1.length) y hk
  rwa [show n+l1.length+(k - l1.length)=n+k from by omega] at this
theorem qe.nil:qe c cells lines locks L n []:=λ k y hk=>by simp at hk
theorem qe.one {y:aW} (h:XV c cells lines locks L n y):qe c cells lines locks L n [y]:=λ k z hk=>by
 cases k with
 | zero=>simp at hk; subst hk; exact h
 | succ k=>simp at hk
end
theorem Ri (p:cU) (rs:List ByteArray) (t:Bk):∀ at_ lp out,∀ y∈eR p rs t at_ lp out,(y.kind=13→lp≤y.a)∧(y.kind=14→at_+1≤y.to):=by
 induction t with
 | nil=>intro at_ lp out y hy; cases hy
 | cons x a b r vA xE GG=>
  intro at_ lp out y hy
  rw [uZ,List.mem_append] at hy
  have hsa:=iQ a
  rcases hy with hy | hy
  ·unfold FT at hy
   split at hy
   ·have ht:at_+1≤rn x a at_:=by unfold rn; split <;> omega
    rw [List.mem_append,List.mem_append,List.mem_append] at hy
    rcases hy with ((hy | hy) | hy) | hy
    ·rw [List.mem_singleton] at hy; subst hy; exact ⟨λ h=>by simp at h,λ h=>by simp at h⟩
    ·have:=vA _ _ _ y hy; exact ⟨this.1,λ h=>by have:=this.2 h; omega⟩
    ·split at hy
     ·rw [List.mem_singleton] at hy; subst hy; exact ⟨λ h=>by simp at h,λ h=>by simp at h⟩
     ·cases hy
    ·have:=xE _ _ _ y hy; exact ⟨this.1,λ h=>by have:=this.2 h; omega⟩
   ·split at hy
    ·rw [List.mem_append,List.mem_append] at hy
     rcases hy with (hy | hy) | hy
     ·rw [List.mem_singleton] at hy; subst hy; exact ⟨λ _=>Int.le_refl _,λ h=>by simp at h⟩
     ·have:=vA _ _ _ y hy; exact ⟨λ h=>by have:=this.1 h; omega,λ h=>by have:=this.2 h; omega⟩
     ·rw [List.mem_singleton] at hy; subst hy; exact ⟨λ h=>by simp at h,λ _=>Int.le_refl _⟩
    ·split at hy
     ·rw [List.mem_singleton] at hy; subst hy; exact ⟨λ h=>by simp at h,λ h=>by simp at h⟩
     ·rename_i h1 h2 h3
      rw [List.mem_singleton] at hy; subst hy
      have e:(lC p rs x).kind=if x.kind=14 then 15 else x.kind:=rfl
      refine ⟨λ h=>?_,λ h=>?_⟩
      ·rw [e] at h; split at h <;> omega
      ·rw [e] at h; split at h <;> omega
  ·have:=GG _ _ _ y hy
   exact ⟨this.1,λ h=>by have:=this.2 h; omega⟩
theorem Fm {b:Bk} (h:(b.len:Int)≤0):b = .nil:=by
 cases b with
 | nil=>rfl
 | cons x a b r=>exfalso; unfold Bk.len at h; omega
theorem Rj {x:aW} {r:Int} (he:sq x.kind=false) (h1:x.e=[]) (hk:¬ x.kind=4) (h2:x.f=[]):efM x r=true:=by
 unfold efM; rw [if_neg (by rw [he]; decide),if_neg hk,h1,h2]; rfl
section
variable {p:cU} {rs:List ByteArray} {c:fo}
theorem adM (hp:Bm p) (hc:c.aK=rs.length) (L:List aW) (t:Bk):∀ (n:Nat) (lp out loops:Int),XW L n (eR p rs t n lp out)→n+bV t≤(L.length:Int)→t.ok loops=true→t.str→kq t→0≤loops→
  (loops≠0→n+bV t≤out∧out≤L.length)→0≤lp→lp+iR t≤c.counts→(∀ x∈t.flat,StK p rs x)→qe c (gF p).length (gp (eC p)) p.locks.length L n (eR p rs t n lp out):=by
 induction t with
 | nil=>intros; exact qe.nil
 | cons x a b r vA xE GG=>
  intro n lp out loops hE hL oC Iv HD hlo adN LW Tx gk
  have hsa:=iQ a; have hsb:=iQ b; have hsr:=iQ r
  have hda:=sT a; have hdb:=sT b; have hdr:=sT r
  obtain ⟨R6,hs2,_,_,OQ,XX,XY⟩:=Iv
  have W9:=oC
  unfold Bk.ok at W9
  simp only [Bool.and_eq_true] at W9
  obtain ⟨⟨⟨ho1,O7⟩,XU⟩,ho4⟩:=W9
  unfold Bk.yV at ho1
  rw [decide_eq_true_eq] at ho1
  have hx:StK p rs x:=gk x (by simp [Bk.flat])
  have lz:bV (.cons x a b r)=(if x.kind=12 then 2+bV a else if x.kind=11 then (if 0<x.fE then 1+bV a+bV b+1 else 1+bV a+bV b) else 1)+bV r:=rfl
  have hdp:iR (.cons x a b r)=max (if x.kind=12 then max (iR a) (iR b)+1 else max (iR a) (iR b)) (iR r):=rfl
  rw [uZ] at hE ⊢
  have Le:=Iy p rs x a b r n lp out
  have hER:=hE.right
  have OR:=hE.left
  generalize hH:FT p rs x a b n lp out=H at *
  refine qe.app ?_ ?_
  ·rw [← hH] at OR Le ⊢
   unfold FT at OR Le ⊢
   by_cases vB:x.kind=11
   ·rw [if_pos vB] at OR Le ⊢
    rw [if_neg (by omega),if_pos vB] at lz
    rw [if_neg (by omega)] at hdp
    have vk:Bk.BS x loops=loops:=by unfold Bk.BS; rw [if_neg (by omega)]
    rw [vk] at O7 XU
    have hA1:=OR.left.left.left
    have hA2:=OR.left.left.right
    have hA3:=OR.left.right
    have hA4:=OR.right
    have Mt:=gZ p rs a (n+1) lp out
    have C1:rn x a n=if 0<x.fE then (n:Int)+1+bV a+1 else (n:Int)+1+bV a:=rfl
    refine qe.app (qe.app (qe.app (qe.one ?_) ?_) ?_) ?_
    ·refine ⟨?_,?_,λ h=>by simp at h,λ h=>by simp at h⟩
     ·unfold u4 efM aM bM sq
      simp only [arY hx hc (.inr (.inr (.inr (.inl vB))))]
      rfl
     ·unfold IH; rw [if_pos (.inr rfl)]
      show (decide ((n:Int)<rn x a n) && decide (rn x a n≤L.length))=true
      rw [Bool.and_eq_true,decide_eq_true_eq,decide_eq_true_eq,C1]
      split <;> (rename_i he; first | rw [if_pos he] at lz | rw [if_neg he] at lz) <;> omega
    ·have hE2:XW L (n+1) (eR p rs a ((n+1:Nat):Int) lp out):=hA2
     exact vA (n+1) lp out loops hE2 (by split at lz <;> omega) O7 OQ HD.a hlo (λ hl=>by have:=adN hl; refine ⟨?_,this.2⟩; split at lz <;> omega) LW (by omega) λ y hy=>gk y (by simp [Bk.flat,hy])
    ·split
     ·rename_i he
      refine qe.one ⟨?_,?_,λ h=>by simp at h,λ h=>by simp at h⟩
      ·rfl
      ·unfold IH; rw [if_pos (.inl rfl)]
       rw [if_pos he] at lz C1
       rw [Bool.and_eq_true,decide_eq_true_eq,decide_eq_true_eq]
       show ((n+([(⟨12,0,0,gg rs x.e,[],rn x a n⟩:aW)]++eR p rs a (n+1) lp out).length:Nat):Int)<rn x a n+bV b∧rn x a n+bV b≤L.length
       rw [List.length_append,List.length_singleton,C1]
       omega
     ·exact qe.nil
    ·by_cases he:0<x.fE
     ·rw [if_pos he] at lz C1 hA4 ⊢
      have hn4:((n+([(⟨12,0,0,gg rs x.e,[],rn x a n⟩:aW)]++eR p rs a (n+1) lp out++[(⟨11,0,0,[],[],rn x a n+bV b⟩:aW)]).length:Nat):Int)=rn x a n:=by
       simp only [List.length_append,List.length_singleton]; rw [C1]; omega
      generalize n+([(⟨12,0,0,gg rs x.e,[],rn x a n⟩:aW)]++eR p rs a (n+1) lp out++[(⟨11,0,0,[],[],rn x a n+bV b⟩:aW)]).length=m at hA4 hn4 ⊢
      rw [← hn4] at hA4 ⊢
      exact xE _ lp out loops hA4 (by rw [hn4,C1]; omega) XU XX HD.b hlo (λ hl=>by have:=adN hl; rw [hn4,C1]; exact ⟨by omega,this.2⟩) LW (by omega) λ y hy=>gk y (by simp [Bk.flat,hy])
     ·have Jr:=Fm (b:=b) (by omega)
      subst Jr; exact qe.nil
   ·rw [if_neg vB] at OR Le ⊢
    by_cases xF:x.kind=12
    ·rw [if_pos xF] at OR Le ⊢
     rw [if_pos xF] at lz hdp
     have vk:Bk.BS x loops=loops+1:=by unfold Bk.BS; rw [if_pos xF]
     rw [vk] at O7
     have hA1:=OR.left.left
     have hA2:=OR.left.right
     have hA3:=OR.right
     have Mt:=gZ p rs a (n+1) (lp+1) (n+2+bV a)
     have hxn:=HD.x xF
     have Ju:=hA1.one
     refine qe.app (qe.app (qe.one ?_) ?_) (qe.one ?_)
     ·refine ⟨?_,?_,λ h=>by simp at h,λ h=>by simp at h⟩
      ·unfold u4
       rw [Rj rfl rfl (by decide:¬ (13:Int)=4) rfl]
       have e1:aM ⟨13,lp,x.n,[],[],0⟩ c.aK c.counts=true:=by unfold aM; rw [if_pos (.inl rfl)]; unfold Ln; rw [Bool.and_eq_true,decide_eq_true_eq,decide_eq_true_eq]; exact ⟨LW,by show lp<c.counts; omega⟩
       have e2:bM ⟨13,lp,x.n,[],[],0⟩ (gF p).length (gp (eC p)) p.locks.length=true:=by
        unfold bM; show (decide (1≤x.n) && decide (x.n≤8))=true
        rw [Bool.and_eq_true,decide_eq_true_eq,decide_eq_true_eq]; exact hxn
       rw [e1,e2]; rfl
      ·rfl
     ·have hE2:XW L (n+1) (eR p rs a ((n+1:Nat):Int) (lp+1) (n+2+bV a)):=hA2
      exact vA (n+1) (lp+1) (n+2+bV a) (loops+1) hE2 (by omega) O7 OQ HD.a (by omega) (λ _=>⟨by omega,by omega⟩) (by omega) (by omega) λ y hy=>gk y (by simp [Bk.flat,hy])
     ·have zp:n+([(⟨13,lp,x.n,[],[],0⟩:aW)]++eR p rs a (n+1) (lp+1) (n+2+bV a)).length=n+1+(eR p rs a (n+1) (lp+1) (n+2+bV a)).length:=by
       rw [List.length_append,List.length_singleton]; omega
      rw [zp]
      have agr:∀ (k:Nat) (y:aW),n+1≤k→k<n+1+(eR p rs a (n+1) (lp+1) (n+2+bV a)).length→L[k]? = some y→y∈eR p rs a (n+1) (lp+1) (n+2+bV a):=by
       intro k y h1 h2 hy
       obtain ⟨z,hz⟩:∃ z,(eR p rs a (n+1) (lp+1) (n+2+bV a))[k - (n+1)]? = some z:=⟨_,List.getElem?_eq_getElem (by omega)⟩
       have h3:L[n+1+(k - (n+1))]? = some z:=hA2 _ z hz
       rw [show n+1+(k - (n+1))=k from by omega,hy] at h3
       obtain rfl:=Option.some.inj h3
       exact List.mem_of_getElem? hz
      refine ⟨?_,?_,λ _ k y h1 h2 hy hk=>?_,λ _=>?_⟩
      ·unfold u4
       rw [Rj rfl rfl (by decide:¬ (14:Int)=4) rfl]
       have e1:aM ⟨14,lp,0,[],[],n+1⟩ c.aK c.counts=true:=by unfold aM; rw [if_pos (.inr rfl)]; unfold Ln; rw [Bool.and_eq_true,decide_eq_true_eq,decide_eq_true_eq]; exact ⟨LW,by show lp<c.counts; omega⟩
       have e2:bM ⟨14,lp,0,[],[],n+1⟩ (gF p).length (gp (eC p)) p.locks.length=true:=rfl
       rw [e1,e2]; rfl
      ·unfold IH; rw [if_neg (by decide:¬ ((14:Int)=11∨(14:Int)=12)),if_pos rfl]
       unfold BX
       rw [Bool.and_eq_true]
       refine ⟨?_,?_⟩
       ·rw [V7 (y:=⟨13,lp,x.n,[],[],0⟩) (by show 1≤(n:Int)+1; omega) (by show (n:Int)+1≤_; omega) (by show L[((n:Int)+1 - 1).toNat]? = _; rw [show ((n:Int)+1 - 1).toNat=n from by omega]; exact Ju)]
        unfold sr; simp
       ·rw [Bool.not_eq_true',List.any_eq_false]
        intro y hy
        obtain ⟨k,hk⟩:=o8 hy
        rw [List.getElem?_drop,List.getElem?_take] at hk
        split at hk
        ·have h5:=agr _ y (by show n+1≤((n:Int)+1).toNat+k; omega) (by assumption) hk
         have h6:=(Ri p rs a _ _ _ y h5).1
         unfold sr
         rw [Bool.and_eq_true,decide_eq_true_eq,decide_eq_true_eq]
         rintro ⟨q1,q2⟩
         have:=h6 q1
         have q2:y.a=lp:=q2
         omega
        ·cases hk
      ·have h1:(n:Int)+1≤k:=h1
       have h5:=agr k y (by omega) h2 hy
       have:=(Ri p rs a _ _ _ y h5).2 hk
       show (n:Int)+1≤y.to
       omega
      ·exact ⟨_,by show L[((n:Int)+1 - 1).toNat]? = _; rw [show ((n:Int)+1 - 1).toNat=n from by omega]; exact Ju,rfl⟩
    ·rw [if_neg xF] at OR Le ⊢
     rw [if_neg xF,if_neg vB] at lz
     by_cases Ju:x.kind=13
     ·rw [if_pos Ju] at OR Le ⊢
      have hl0:loops≠0:=by omega
      have hou:=adN hl0
      refine qe.one ⟨rfl,?_,λ h=>by simp at h,λ h=>by simp at h⟩
      unfold IH; rw [if_pos (.inl rfl)]
      rw [Bool.and_eq_true,decide_eq_true_eq,decide_eq_true_eq]
      show (n:Int)<out∧out≤L.length
      omega
     ·rw [if_neg Ju] at OR Le ⊢
      obtain ⟨g1,g2,g3,g4,g5,g6⟩:=adL (c:=c) hp hx hc vB xF Ju
      refine qe.one ⟨g1,?_,λ h=>absurd h g6,λ h=>absurd h g6⟩
      unfold IH; rw [if_neg (by omega),if_neg g6,g2]; rfl
  ·have hn2:((n+H.length:Nat):Int)=n+H.length:=by omega
   rw [← hn2] at hER ⊢
   exact GG _ lp out loops hER (by omega) ho4 XY HD.r hlo (λ hl=>by have:=adN hl; exact ⟨by omega,this.2⟩) LW (by omega) λ y hy=>gk y (by simp [Bk.flat,hy])
end
theorem adO (t:Bk):∀ n:Int,t.ok n=true→t.str→iR t≤t.depth:=by
 induction t with
 | nil=>intro n _ _; exact Int.le_refl _
 | cons x a b r vA xE GG=>
  intro n oC Iv
  obtain ⟨R6,hs2,_,_,OQ,XX,XY⟩:=Iv
  unfold Bk.ok at oC
  simp only [Bool.and_eq_true] at oC
  obtain ⟨⟨⟨ho1,O7⟩,XU⟩,ho4⟩:=oC
  unfold Bk.yV at ho1
  rw [decide_eq_true_eq] at ho1
  have h1:=vA _ O7 OQ
  have h2:=xE _ XU XX
  have h3:=GG _ ho4 XY
  have hd:=Bk.re a
  have Mx:=Bk.re b
  have hd3:=Bk.re r
  have e:iR (.cons x a b r)=max (if x.kind=12 then max (iR a) (iR b)+1 else max (iR a) (iR b)) (iR r):=rfl
  have e2:(Bk.cons x a b r).depth=if Bk.D5 x then max (max (1+a.depth) (1+b.depth)) r.depth else r.depth:=rfl
  rw [e,e2]
  by_cases hk:x.kind=11∨x.kind=12
  ·have:Bk.D5 x=true:=decide_eq_true hk
   rw [if_pos this]
   split <;> omega
  ·have:Bk.D5 x=false:=decide_eq_false hk
   rw [if_neg (by omega:¬ x.kind=12),if_neg (show ¬ Bk.D5 x=true by rw [this]; decide)]
   have ha:=Fm (b:=a) (by omega)
   have hb:=Fm (b:=b) (by omega)
   subst ha hb
   have:iR .nil=0:=rfl
   omega
section
variable {p:cU}
theorem Bm.stk (h:Bm p) {t:dR} (ht:t∈iG p):∀ x∈t.body,StK p t.aK x:=by
 intro x hx
 obtain ⟨_,h2,_⟩:=nB (h.pf.nf ht).2.1
 refine ⟨azc (h2 x hx),(h.pf.nf ht).2.2,?_⟩
 have:=h.names t ht x hx
 simpa using this
theorem Mh (h:Bm p) {t:dR} (ht:t∈iG p):lj (l9 p t) (gF p).length (gp (eC p)) p.locks.length=true∧CZ (l9 p t):=by
 obtain ⟨azg,_,b,Ii,hb2,hb3,hb4⟩:=nB (h.pf.nf ht).2.1
 have NA:oP t.body=some b:=by rw [Ii]; exact oQ hb2
 have hq:kq b:=λ x hx=>by
  obtain ⟨_,h2,_⟩:=nB (h.pf.nf ht).2.1
  exact (Np (h2 x (by rw [Ii]; exact hx))).2
 have hlen:b.len≤40:=by rw [← Bk.cO,← Ii]; exact azg
 have hd:=adO b 0 hb3 hb2
 have Mx:=sT b
 have BV:=(h.sz.2.2.2.2.2.2.2) t ht
 have hml:=gZ p t.aK b 0 0 0
 have lz:=iQ b
 rw [Ez NA]
 have azh:qe ⟨t.aK.length,iR b,eR p t.aK b 0 0 0⟩ (gF p).length (gp (eC p)) p.locks.length (eR p t.aK b 0 0 0) 0 (eR p t.aK b 0 0 0):=
  adM (c:=⟨t.aK.length,iR b,eR p t.aK b 0 0 0⟩) h rfl (eR p t.aK b 0 0 0) b 0 0 0 0 (λ k y hk=>by rw [Nat.zero_add]; exact hk) (by omega) hb3 hb2 hq (Int.le_refl _) (λ hh=>absurd rfl hh) (Int.le_refl _) (by show 0+iR b≤iR b; omega) (λ x hx=>h.stk ht x (by rw [Ii]; exact hx))
 have hG:∀ (i:Nat) (x:aW),(eR p t.aK b 0 0 0)[i]? = some x→XV ⟨t.aK.length,iR b,eR p t.aK b 0 0 0⟩ (gF p).length (gp (eC p)) p.locks.length (eR p t.aK b 0 0 0) i x:=λ i x hx=>by
  have:=azh i x hx; rwa [Nat.zero_add] at this
 refine ⟨?_,?_,λ x hx=>?_⟩
 ·unfold lj
  have e1:va ⟨t.aK.length,iR b,eR p t.aK b 0 0 0⟩=false:=by
   unfold va
   simp only [Bool.or_eq_false_iff,decide_eq_false_iff_not]
   omega
  rw [e1,m6 (f:=u7 _ _ _ _) λ i hi=>?_,m6 (f:=qx _) λ i hi=>?_]
  ·rfl
  ·obtain ⟨x,hx⟩:∃ x,(eR p t.aK b 0 0 0)[i]? = some x:=⟨_,List.getElem?_eq_getElem hi⟩
   have hg:=hG i x hx
   rw [xj hx]
   by_cases hk:x.kind=14
   ·rw [decide_eq_true hk,Bool.true_and]
    refine m6 λ k Jo=>?_
    obtain ⟨y,hy⟩:∃ y,(eR p t.aK b 0 0 0)[k]? = some y:=⟨_,List.getElem?_eq_getElem (by have hi:i<(eR p t.aK b 0 0 0).length:=hi; omega)⟩
    rw [Ae hy]
    by_cases hyk:y.kind=14
    ·rw [decide_eq_true hyk,Bool.true_and,Bool.not_eq_false',Bool.or_eq_true,decide_eq_true_eq,decide_eq_true_eq]
     by_cases h1:x.to≤k
     ·exact .inl (hg.nest hk k y h1 Jo hy hyk)
     ·by_cases h2:(k:Int)+1<x.to
      ·exact .inr h2
      ·exfalso
       obtain ⟨z,hz,hz2⟩:=hg.b13 hk
       rw [show (x.to - 1).toNat=k from by omega,hy] at hz
       obtain rfl:=Option.some.inj hz
       omega
    ·rw [decide_eq_false hyk,Bool.false_and]
   ·rw [decide_eq_false hk,Bool.false_and]
  ·obtain ⟨x,hx⟩:∃ x,(eR p t.aK b 0 0 0)[i]? = some x:=⟨_,List.getElem?_eq_getElem hi⟩
   have hg:=hG i x hx
   rw [ue (show (⟨t.aK.length,iR b,eR p t.aK b 0 0 0⟩:fo).l[i]? = some x from hx),hg.fld,hg.to]; rfl
 ·show (eR p t.aK b 0 0 0).length≤1000; omega
 ·obtain ⟨i,hi⟩:=o8 (show x∈eR p t.aK b 0 0 0 from hx)
  have hf:=(hG i x hi).fld
  unfold u4 efM at hf
  simp only [Bool.and_eq_true] at hf
  obtain ⟨⟨h1,h2⟩,_⟩:=hf
  refine ⟨?_,?_⟩
  ·split at h1
   ·unfold eL at h1; simp only [Bool.and_eq_true,decide_eq_true_eq] at h1; omega
   ·simp at h1; rw [h1]; simp
  ·split at h2
   ·unfold eL at h2; simp only [Bool.and_eq_true,decide_eq_true_eq] at h2; omega
   ·simp at h2; rw [h2]; simp
theorem XZ (a b c:Int):lj Lb a b c=true∧CZ Lb:=⟨rfl,by decide,λ x hx=>by cases hx⟩
theorem ar1 (h:Bm p):lj (eC p).recover (gF p).length (gp (eC p)) p.locks.length=true∧CZ (eC p).recover:=by
 show lj (match p.recover[0]? with | some t=>l9 p t | none=>⟨0,0,[]⟩) _ _ _=true∧CZ (match p.recover[0]? with | some t=>l9 p t | none=>⟨0,0,[]⟩)
 cases hr:p.recover[0]? with
 | none=>exact XZ _ _ _
 | some t=>exact Mh h (List.mem_append_right _ (List.mem_of_getElem? hr))
theorem sI (h:Bm p):nt (eC p)=true∧UZ (eC p):=by
 obtain ⟨g1,g2,g3,g4,g5,g6,g7,g8⟩:=h.sz
 have mi:=h.gF
 have gk:=Fl p
 have Nj:=Hr p
 have Ce:(eC p).dC.length=(gF p).length:=by show ((gF p).map _).length=_; rw [List.length_map]
 have MW:(eC p).threads.length=p.threads.length:=by show (p.threads.map _).length=_; rw [List.length_map]
 have Qi:(eC p).cC.length=p.cC.length:=by show (p.cC.map _).length=_; rw [List.length_map]
 have hth:∀ c∈(eC p).threads,lj c (gF p).length (gp (eC p)) p.locks.length=true∧CZ c:=λ c hc=>by
  obtain ⟨t,ht,rfl⟩:=List.mem_map.1 (show c∈p.threads.map (l9 p) from hc)
  exact Mh h (List.mem_append_left _ ht)
 have ar2:∀ l∈(eC p).cC,eL l (eC p).stays=true∧l.length≤40:=λ l hl=>by
  obtain ⟨c,hc,rfl⟩:=List.mem_map.1 (show l∈p.cC.map (λ c=>gg (oR p) c.e) from hl)
  refine wM (h.pf.cl c hc).2 (by simpa using h.cC c hc) ?_
  show ew p=((oR p).length:Int)
  unfold oR fc
  rw [List.length_take,List.length_map]; omega
 have ak9:∀ c∈gF p,0≤c.n∧c.n≤4294967296:=λ c hc=>by
  unfold gF at hc
  rcases List.mem_append.1 hc with hc | hc
  ·obtain ⟨l,hl,azj⟩:=List.mem_flatten.1 hc
   have:=rh ((h.pf.lines l hl).2 c azj); exact ⟨this.2.2.1,this.2.2.2⟩
  ·have:=rh (h.pf.jP c hc); exact ⟨this.2.2.1,this.2.2.2⟩
 refine ⟨?_,?_⟩
 ·unfold nt
  have e1:kQ (eC p)=false:=by
   unfold kQ
   rw [Nj,Ce,MW]
   have e2:(eC p).stays=ew p:=rfl
   have e3:(eC p).locks=p.locks.length:=rfl
   rw [e2,e3]
   simp only [Bool.or_eq_false_iff,decide_eq_false_iff_not,not_true_eq_false,not_false_eq_true,and_true]
   omega
  have e2:(eC p).dC.any lr=false:=iF λ n hn=>by
   obtain ⟨c,hc,rfl⟩:=List.mem_map.1 (show n∈(gF p).map dF.n from hn)
   have:=ak9 c hc
   unfold lr
   rw [decide_eq_false (by omega),decide_eq_false (by omega)]; rfl
  have e3:(List.range (eC p).lines.length).any (j5 (eC p))=false:=m6 λ i hi=>OO h (by omega)
  have e4:(eC p).threads.any (λ c=>!lj c (eC p).lines.length (gp (eC p)) (eC p).locks)=false:=iF λ c hc=>by
   have:=(hth c hc).1
   rw [Nj]
   show (!lj c (gF p).length (gp (eC p)) p.locks.length)=false
   rw [this]; rfl
  have e5:(eC p).cC.any (λ l=>!eL l (eC p).stays)=false:=iF λ l hl=>by rw [(ar2 l hl).1]; rfl
  rw [e1,e2,e3,e4,e5,Nj]
  show (!false && (!false && !false && !false && !false && lj (eC p).recover (gF p).length (gp (eC p)) p.locks.length))=true
  rw [(ar1 h).1]; rfl
 ·exact ⟨by omega,by omega,by omega,by omega,λ c hc=>(hth c hc).2,(ar1 h).2,λ l hl=>by have:=(ar2 l hl).2; omega⟩
end
end Go.Proofs.YtnjcingfdhjfkaaGreat
