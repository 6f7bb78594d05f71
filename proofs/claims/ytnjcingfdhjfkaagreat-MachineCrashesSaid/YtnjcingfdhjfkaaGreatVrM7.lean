/-
  What the proof needs, part 7.
-/
import Derived.Test.YtnjcingfdhjfkaaGreatVrM6
set_option linter.all false
namespace Go.Proofs.YtnjcingfdhjfkaaGreat
open Go.Fw
structure fN where
 at_:Int
 e:Int
 pos:Int
deriving DecidableEq
def iU (l:List bF) (s:fN) (e:Int):fN:=if s.e=0 then {s with e:=if (l.length:Int)≤s.at_ then 6 else e,pos:=mP l s.at_} else s
def dM (l:List bF) (s:fN) (t:ByteArray):fN:=if (decide (s.e=0) && sH l s.at_ t)=true then {s with at_:=s.at_+1} else iU l s 5
def kD (l:List bF) (i:Int):Option bF:=if 0≤i then l[i.toNat]? else none
def sI (l:List bF) (s:fN):Bool:=decide (s.e=0) && (match kD l s.at_ with | some t=>decide (t.kind=1) && j1 t.text | none=>false)
def oK (l:List bF) (i:Int):bF:=(kD l i).getD ⟨0,⟨#[]⟩,0,0⟩
def cS (l:List bF) (s:fN):fN × ByteArray:=if sI l s=true then ({s with at_:=s.at_+1},(oK l s.at_).text) else (iU l s 5,⟨#[]⟩)
def qy (l:List bF) (s:fN):Option (fN × List cY):=if s.e≠0 then some (s,[]) else (vx l s.at_).bind λ R=>
 if R.2.2.1≠0 then some ({s with e:=R.2.2.1,pos:=R.2.2.2},[]) else if 0≤R.2.1∧R.2.1≤l.length then some ({s with at_:=R.2.1},R.1) else none
def OI (l:List bF) (s:fN):Bool:=decide (s.e=0) && (match kD l s.at_ with | some t=>decide (t.kind=2) | none=>false)
def kF (l:List bF) (s:fN):fN × Int:=if OI l s=true then (if 1≤(oK l s.at_).n∧(oK l s.at_).n≤8 then ({s with at_:=s.at_+1},(oK l s.at_).n) else (iU l s 11,0)) else (iU l s 5,0)
def C4:List ByteArray:=[⟨#[]⟩,⟨#[]⟩,⟨#[108,111,97,100]⟩,⟨#[115,116,111,114,101]⟩,⟨#[99,97,115]⟩,⟨#[102,108,117,115,104]⟩,⟨#[111,112,116]⟩,⟨#[115,102,101,110,99,101]⟩,⟨#[109,102,101,110,99,101]⟩,⟨#[116,97,107,101]⟩,⟨#[103,105,118,101]⟩,⟨#[105,102]⟩,⟨#[108,111,111,112]⟩,⟨#[98,114,101,97,107]⟩,⟨#[99,104,101,99,107]⟩]
def Hj (k:Int):ByteArray:=(C4[k.toNat]?).getD ⟨#[]⟩
def lV (l:List bF) (s:fN):Prop:=0≤s.at_∧s.at_≤l.length
section
variable {l:List bF} {s:fN} {e:Int} {t:ByteArray}
theorem sJ (h:lV l s):lV l (iU l s e):=by unfold iU; split <;> exact h
theorem fz (h:lV l s):lV l (dM l s t):=by
 unfold dM; split
 ·rename_i h2
  rw [Bool.and_eq_true] at h2
  have:=rM h2.2
  exact ⟨by show 0≤s.at_+1; omega,by show s.at_+1≤_; omega⟩
 ·exact sJ h
theorem mu {i:Int} {k:bF} (h:kD l i=some k):0≤i∧i<l.length∧l[i.toNat]? = some k:=by
 unfold kD at h
 split at h
 ·have:=(List.getElem?_eq_some_iff.1 h).1; exact ⟨by omega,by omega,h⟩
 ·cases h
theorem AM (h:sI l s=true):s.e=0∧∃ k,kD l s.at_=some k∧k.kind=1∧j1 k.text=true:=by
 unfold sI at h
 rw [Bool.and_eq_true,decide_eq_true_eq] at h
 refine ⟨h.1,?_⟩
 cases hk:kD l s.at_ with
 | none=>rw [hk] at h; cases h.2
 | some k=>
  rw [hk] at h
  have:=h.2; dsimp only at this
  rw [Bool.and_eq_true,decide_eq_true_eq] at this
  exact ⟨k,rfl,this⟩
theorem Q6 (h:OI l s=true):s.e=0∧∃ k,kD l s.at_=some k∧k.kind=2:=by
 unfold OI at h
 rw [Bool.and_eq_true,decide_eq_true_eq] at h
 refine ⟨h.1,?_⟩
 cases hk:kD l s.at_ with
 | none=>rw [hk] at h; cases h.2
 | some k=>rw [hk] at h; exact ⟨k,rfl,by simpa using h.2⟩
theorem gz (h:lV l s):lV l (cS l s).1:=by
 unfold cS; split
 ·rename_i h2
  obtain ⟨_,k,hk,_⟩:=AM h2
  have:=mu hk
  exact ⟨by show 0≤s.at_+1; omega,by show s.at_+1≤_; omega⟩
 ·exact sJ h
theorem SL (h:lV l s):lV l (kF l s).1:=by
 unfold kF; split
 ·rename_i h2
  obtain ⟨_,k,hk,_⟩:=Q6 h2
  have:=mu hk
  split
  ·exact ⟨by show 0≤s.at_+1; omega,by show s.at_+1≤_; omega⟩
  ·exact sJ h
 ·exact sJ h
theorem rN {s':fN} {x:List cY} (h:lV l s) (he:qy l s=some (s',x)):lV l s':=by
 unfold qy at he
 split at he
 ·cases he; exact h
 ·cases hx:vx l s.at_ with
  | none=>rw [hx] at he; cases he
  | some R=>
   rw [hx] at he
   simp only [Option.bind_some] at he
   split at he
   ·cases he; exact h
   ·split at he
    ·rename_i h2; cases he; exact h2
    ·cases he
end
@[reducible] def dU (lv ov:Value) (s:fN):List Value:=[lv,.int .i64 s.at_,.int .i64 s.e,.int .i64 s.pos,ov]
@[reducible] def eh (lv:Value) (s:fN):List Value:=[lv,.int .i64 s.at_,.int .i64 s.e,.int .i64 s.pos]
def gM (l:List bF) (s:fN) (t:ByteArray):fN × Bool:=if (decide (s.e=0) && sH l s.at_ t)=true then ({s with at_:=s.at_+1},true) else (s,false)
def eW (l:List bF) (s:fN):fN × dG:=if sI l s=true then ({s with at_:=s.at_+1},⟨(oK l s.at_).text,0,(oK l s.at_).at_⟩) else (iU l s 5,⟨⟨#[]⟩,0,0⟩)
theorem jY {l:List bF} {s:fN} {t:ByteArray} (h:lV l s):lV l (gM l s t).1:=by
 unfold gM; split
 ·rename_i h2
  rw [Bool.and_eq_true] at h2
  have:=rM h2.2
  exact ⟨by show 0≤s.at_+1; omega,by show s.at_+1≤_; omega⟩
 ·exact h
theorem uy {l:List bF} {s:fN} (h:lV l s):lV l (eW l s).1:=by
 unfold eW; split
 ·rename_i h2
  obtain ⟨_,k,hk,_⟩:=AM h2
  have:=mu hk
  exact ⟨by show 0≤s.at_+1; omega,by show s.at_+1≤_; omega⟩
 ·exact sJ h
theorem Xz {l:List bF} {s s2:fN} {x:List cY} (h:qy l s=some (s2,x)) (he:¬ s.e≠0):∃ R,vx l s.at_=some R∧
  (if R.2.2.1≠0 then some ({s with e:=R.2.2.1,pos:=R.2.2.2},[]) else if 0≤R.2.1∧R.2.1≤l.length then some ({s with at_:=R.2.1},R.1) else none)=some (s2,x):=by
 unfold qy at h; rw [if_neg he] at h
 cases hx:vx l s.at_ with
 | none=>rw [hx] at h; cases h
 | some R=>rw [hx] at h; exact ⟨R,rfl,h⟩
theorem XA {l:List bF} {s s2:fN} {x:List cY} {R:List cY × Int × Int × Int} (h:(if R.2.2.1≠0 then some ({s with e:=R.2.2.1,pos:=R.2.2.2},[]) else if 0≤R.2.1∧R.2.1≤l.length then some ({s with at_:=R.2.1},R.1) else none)=some (s2,x)) (he:¬ R.2.2.1≠0):0≤R.2.1∧R.2.1≤l.length:=by
 rw [if_neg he] at h
 split at h
 ·assumption
 ·cases h
theorem C254 (p:Nat) (lv ov:Value) (l:List bF) (s:fN) (e:Int) (F:Nat→Prop) (w:World) (hF:(cE p (dU lv ov s)).p w F) (hT:∀ w',ix F w w'→eJ (λ _=>True) w' lv l) (hk:iu l) (h0:lV l s):CR 254 [(.pointer (some ⟨p,0,none⟩)),.int .i64 e] w (λ v w'=>v = .tuple #[]∧qn F (cE p (dU lv ov (iU l s e))) w w'):=by
 have hs:=St.begin hF;have Fy:=hk.n;have hn:l.length≤1000000:=by omega
 have sW:=hk.at_;obtain ⟨Q7,Q8⟩:=id h0;refine aba _ _ _ _ ?_;unfold S254;refine aE (aA kp (aB nq hs.hb rfl (aH (aC (λ gp=>?_) (λ gp=>?_)))))
 ·refine aE (aA kp (aV hs nq (eI rfl) (rfl) (λ w1 hs=>?_)));refine ⟨_,?_,λ _ h=>h⟩;refine aE (aA eT (have hs:=hs.drew;aB bL hs.hb rfl (aE (aA gO (aB iL hs.hb rfl (aJ fD (hT _ hs.aF) (dF (aC (λ iM=>?_) (λ iM=>?_)))))))))
  ·refine aE (aA kp (aV hs nq (eI rfl) (rfl) (λ w2 hs=>?_)));intro fy;refine aE (aA gO (have hs:=hs.drew;aB iL hs.hb rfl (aE (aA eT (aB bL hs.hb rfl (aZ Gp hs (C215 _ l s.at_ _ (hT _ hs.aF) hn sW) (λ w4 he hs=>aE (aA zH (aV hs bL (eI rfl) (rfl) (λ w5 hs=>?_))))))))));have hb:iU l s e=(⟨s.at_,6,(mP l s.at_)⟩:fN):=by unfold iU; rw [if_pos gp,if_pos iM]
   rw [hb];exact ⟨rfl,hs.mut⟩
  ·intro fy;refine aE (aA gO (have hs:=hs.drew;aB iL hs.hb rfl (aE (aA eT (aB bL hs.hb rfl (aZ Gp hs (C215 _ l s.at_ _ (hT _ hs.aF) hn sW) (λ w4 he hs=>aE (aA zH (aV hs bL (eI rfl) (rfl) (λ w5 hs=>?_))))))))));have hb:iU l s e=(⟨s.at_,e,(mP l s.at_)⟩:fN):=by unfold iU; rw [if_pos gp,if_neg iM]
   rw [hb];exact ⟨rfl,hs.mut⟩
 ·have hb:iU l s e=s:=by unfold iU; rw [if_neg gp]
  rw [hb];exact ⟨rfl,hs.mut⟩
theorem C170 (p:Nat) (lv:Value) (l:List bF) (s:fN) (F:Nat→Prop) (w:World) (hF:(cE p (eh lv s)).p w F) (hT:∀ w',ix F w w'→eJ (λ _=>True) w' lv l) (hk:iu l) (h0:lV l s):CR 170 [(.pointer (some ⟨p,0,none⟩))] w (λ v w'=>v = .tuple #[]∧qn F (cE p (eh lv (iU l s 5))) w w'):=by
 have hs:=St.begin hF;have Fy:=hk.n;have hn:l.length≤1000000:=by omega
 have sW:=hk.at_;obtain ⟨Q7,Q8⟩:=id h0;refine ZW _ _ _ ?_;unfold S170;refine aE (aA l8 (aB nq hs.hb rfl (aH (aC (λ oC=>?_) (λ oC=>?_)))))
 ·refine aE (aA l8 (aV hs nq (eI rfl) (rfl) (λ w1 hs=>?_)));refine ⟨_,?_,λ _ h=>h⟩;refine aE (aA fk (have hs:=hs.drew;aB bL hs.hb rfl (aE (aA jI (aB iL hs.hb rfl (aJ fD (hT _ hs.aF) (dF (aC (λ fw=>?_) (λ fw=>?_)))))))))
  ·refine aE (aA l8 (aV hs nq (eI rfl) (rfl) (λ w2 hs=>?_)));intro fy;refine aE (aA jI (have hs:=hs.drew;aB iL hs.hb rfl (aE (aA fk (aB bL hs.hb rfl (aZ Gp hs (C215 _ l s.at_ _ (hT _ hs.aF) hn sW) (λ w4 he hs=>aE (aA vS (aV hs bL (eI rfl) (rfl) (λ w5 hs=>?_))))))))));have hb:iU l s 5=(⟨s.at_,6,(mP l s.at_)⟩:fN):=by unfold iU; rw [if_pos oC,if_pos fw]
   rw [hb];exact ⟨rfl,hs.mut⟩
  ·intro fy;refine aE (aA jI (have hs:=hs.drew;aB iL hs.hb rfl (aE (aA fk (aB bL hs.hb rfl (aZ Gp hs (C215 _ l s.at_ _ (hT _ hs.aF) hn sW) (λ w4 he hs=>aE (aA vS (aV hs bL (eI rfl) (rfl) (λ w5 hs=>?_))))))))));have hb:iU l s 5=(⟨s.at_,5,(mP l s.at_)⟩:fN):=by unfold iU; rw [if_pos oC,if_neg fw]
   rw [hb];exact ⟨rfl,hs.mut⟩
 ·have hb:iU l s 5=s:=by unfold iU; rw [if_neg oC]
  rw [hb];exact ⟨rfl,hs.mut⟩
theorem C234 (p:Nat) (lv ov:Value) (l:List bF) (s:fN) (t:ByteArray) (F:Nat→Prop) (w:World) (hF:(cE p (dU lv ov s)).p w F) (hT:∀ w',ix F w w'→eJ (λ _=>True) w' lv l) (hk:iu l) (h0:lV l s):CR 234 [(.pointer (some ⟨p,0,none⟩)),.string t] w (λ v w'=>v = .tuple #[]∧qn F (cE p (dU lv ov (dM l s t))) w w'):=by
 have hs:=St.begin hF;have Fy:=hk.n;have hn:l.length≤1000000:=by omega
 have sW:=hk.at_;obtain ⟨Q7,Q8⟩:=id h0;refine aaQ _ _ _ _ ?_;unfold S234;refine ⟨λ jv w'=>jv = .bool (decide (s.e=0) && sH l s.at_ t)∧St w F [cE p (dU lv ov s)] w',?_,?_⟩
 ·refine aE (aA kp (have hs:=hs.drew;aB nq hs.hb rfl (aH (aC (λ gp=>?_) (λ gp=>?_)))))
  ·refine aE (aA gO (aB iL hs.hb rfl (aE (aA eT (aB bL hs.hb rfl (aZ vk hs (C211 _ l s.at_ t _ (hT _ hs.aF) hn) (λ w1 he hs=>?_)))))));exact ⟨vb (by first | (rw [decide_eq_true gp]; rfl) | (rw [decide_eq_false gp]; rfl)),hs⟩
  ·exact ⟨vb (by first | (rw [decide_eq_true gp]; rfl) | (rw [decide_eq_false gp]; rfl)),hs⟩
 ·rintro _ w2 ⟨rfl,hs⟩ fy;refine aX (λ jy=>?_) (λ jy=>?_)
  ·have ayY:=rM (by rw [Bool.and_eq_true] at jy; exact jy.2);refine aE (aA eT (aB bL hs.hb rfl (aO (by omega) (aE (aA eT (aV hs bL (eI rfl) (rfl) (λ w3 hs=>?_)))))));have hb:dM l s t={s with at_:=s.at_+1}:=by unfold dM; rw [if_pos (by simpa using jy)]
   rw [hb];exact ⟨rfl,hs.mut⟩
  ·refine bG Gs hs (H':=λ _=>cE p (dU lv ov (iU l s 5))) (Φ:=λ _ _=>True) (λ F2 eQ eA=>?_) ?_
   ·exact (C254 p lv ov l s 5 F2 _ eQ (λ w' hc=>hT w' (eA w' hc).aF) hk h0).mono λ _ _ r=>r.mono λ _ _ h=>⟨trivial,h.2⟩
   rintro _ w4 _ hs;have hb:dM l s t=iU l s 5:=by unfold dM; rw [if_neg (by simpa using jy)]
   rw [hb];exact ⟨rfl,hs.mut⟩
theorem C165 (p:Nat) (lv:Value) (l:List bF) (s:fN) (t:ByteArray) (F:Nat→Prop) (w:World) (hF:(cE p (eh lv s)).p w F) (hT:∀ w',ix F w w'→eJ (λ _=>True) w' lv l) (hk:iu l) (h0:lV l s):CR 165 [(.pointer (some ⟨p,0,none⟩)),.string t] w (λ v w'=>v = .bool (gM l s t).2∧qn F (cE p (eh lv (gM l s t).1)) w w'):=by
 have hs:=St.begin hF;have Fy:=hk.n;have hn:l.length≤1000000:=by omega
 have sW:=hk.at_;obtain ⟨Q7,Q8⟩:=id h0;refine ZR _ _ _ _ ?_;unfold S165;refine ⟨λ jv w'=>jv = .bool (decide (s.e=0) && sH l s.at_ t)∧St w F [cE p (eh lv s)] w',?_,?_⟩
 ·refine aE (aA l8 (have hs:=hs.drew;aB nq hs.hb rfl (aH (aC (λ gv=>?_) (λ gv=>?_)))))
  ·refine aE (aA jI (aB iL hs.hb rfl (aE (aA fk (aB bL hs.hb rfl (aZ vk hs (C211 _ l s.at_ t _ (hT _ hs.aF) hn) (λ w1 he hs=>?_)))))));exact ⟨vb (by first | (rw [decide_eq_true gv]; rfl) | (rw [decide_eq_false gv]; rfl)),hs⟩
  ·exact ⟨vb (by first | (rw [decide_eq_true gv]; rfl) | (rw [decide_eq_false gv]; rfl)),hs⟩
 ·rintro _ w2 ⟨rfl,hs⟩ fy;refine aX (λ gu=>?_) (λ gu=>?_)
  ·have ayY:=rM (by rw [Bool.and_eq_true] at gu; exact gu.2);refine aE (aA fk (aB bL hs.hb rfl (aO (by omega) (aE (aA fk (aV hs bL (eI rfl) (rfl) (λ w3 hs=>?_)))))));have hb:gM l s t=({s with at_:=s.at_+1},true):=by unfold gM; rw [if_pos (by simpa using gu)]
   rw [hb];exact ⟨rfl,hs.mut⟩
  ·have hb:gM l s t=(s,false):=by unfold gM; rw [if_neg (by simpa using gu)]
   rw [hb];exact ⟨rfl,hs.mut⟩
theorem C212 (p:Nat) (lv:Value) (l:List bF) (s:fN) (t:ByteArray) (F:Nat→Prop) (w:World) (hF:(cE p (eh lv s)).p w F) (hT:∀ w',ix F w w'→eJ (λ _=>True) w' lv l) (hk:iu l) (h0:lV l s):CR 212 [(.pointer (some ⟨p,0,none⟩)),.string t] w (λ v w'=>v = .tuple #[]∧qn F (cE p (eh lv (dM l s t))) w w'):=by
 have hs:=St.begin hF;have Fy:=hk.n;have hn:l.length≤1000000:=by omega
 have sW:=hk.at_;obtain ⟨Q7,Q8⟩:=id h0;refine aav _ _ _ _ ?_;unfold S212;refine bG xU hs (H':=λ _=>cE p (eh lv (gM l s t).1)) (Φ:=λ v _=>v = .bool (gM l s t).2) (λ F2 eQ eA=>?_) ?_
 ·exact C165 p lv l s t F2 _ eQ (λ w' hc=>hT w' (eA w' hc).aF) hk h0
 rintro _ w1 rfl hs;refine cB (aX (λ iQ=>?_) (λ iQ=>?_))
 ·refine bG Pu hs (H':=λ _=>cE p (eh lv (iU l (gM l s t).1 5))) (Φ:=λ _ _=>True) (λ F2 eQ eA=>?_) ?_
  ·exact (C170 p lv l (gM l s t).1 F2 _ eQ (λ w' hc=>hT w' (eA w' hc).aF) hk (jY h0)).mono λ _ _ r=>r.mono λ _ _ h=>⟨trivial,h.2⟩
  rintro _ w2 _ hs
  have tB:dM l s t=iU l (gM l s t).1 5:=by
   have h7:(gM l s t).2=false:=by simpa using iQ
   unfold gM at h7 ⊢; unfold dM
   split at h7
   ·cases h7
   ·rename_i h8; rw [if_neg h8,if_neg h8]
  rw [tB];exact ⟨rfl,hs.mut⟩
 ·have tB:dM l s t=(gM l s t).1:=by
   have h7:(gM l s t).2=true:=by simpa using iQ
   unfold gM at h7 ⊢; unfold dM
   split at h7
   ·rename_i h8; rw [if_pos h8,if_pos h8]
   ·cases h7
  rw [tB];exact ⟨rfl,hs.mut⟩
theorem C260 (p:Nat) (lv ov:Value) (l:List bF) (s:fN) (F:Nat→Prop) (w:World) (hF:(cE p (dU lv ov s)).p w F) (hT:∀ w',ix F w w'→eJ (λ _=>True) w' lv l) (hk:iu l) (h0:lV l s):CR 260 [(.pointer (some ⟨p,0,none⟩))] w (λ v w'=>v = .string (cS l s).2∧qn F (cE p (dU lv ov (cS l s).1)) w w'):=by
 have hs:=St.begin hF;have Fy:=hk.n;have hn:l.length≤1000000:=by omega
 have sW:=hk.at_;obtain ⟨Q7,Q8⟩:=id h0;refine abg _ _ _ ?_;unfold S260;refine ⟨λ jv w'=>jv = .bool (sI l s)∧St w F [cE p (dU lv ov s)] w',?_,?_⟩
 ·refine aE (aA kp (have hs:=hs.drew;aB nq hs.hb rfl (aH (aC (λ iQ=>?_) (λ iQ=>?_)))))
  ·refine aE (aA eT (aB bL hs.hb rfl (aE (aA gO (aB iL hs.hb rfl (aJ fD (hT _ hs.aF) (aR (aC (λ gh=>?_) (λ gh=>?_)))))))))
   ·refine aE (aA gO (aB iL hs.hb rfl (aE (aA eT (aB bL hs.hb rfl ?_)))));obtain ⟨Cb,lG⟩:=gx (l) (i:=(s.at_).toNat) (by omega);refine aQ fD (hT _ hs.aF) (by omega) lG (λ _ D3=>bT (Cb).kind lf D3 rfl rfl (λ _ oe=>aD bL (oe) (aH (aC (λ jK=>?_) (λ jK=>?_)))))
    ·refine aE (aA gO (aB iL hs.hb rfl (aE (aA eT (aB bL hs.hb rfl (aQ fD (hT _ hs.aF) (by omega) lG (λ _ yg=>bT (Cb).text m6 yg rfl rfl (λ _ AJ=>aD j8 (AJ) (aZ tG hs (C161 _ _ (by have:=sW _ (List.mem_of_getElem? lG); omega)) (λ w1 he hs=>?_))))))))));exact ⟨vb (by unfold sI kD; first | (rw [decide_eq_false iQ]; rfl) | (rw [if_pos (by omega),List.getElem?_eq_none (by omega)]; simp; done) | (rw [if_pos (by omega),lG,decide_eq_true iQ]; dsimp only; first | (rw [decide_eq_false jK]; rfl) | (rw [decide_eq_true jK]; rfl))),hs⟩
    ·exact ⟨vb (by unfold sI kD; first | (rw [decide_eq_false iQ]; rfl) | (rw [if_pos (by omega),List.getElem?_eq_none (by omega)]; simp; done) | (rw [if_pos (by omega),lG,decide_eq_true iQ]; dsimp only; first | (rw [decide_eq_false jK]; rfl) | (rw [decide_eq_true jK]; rfl))),hs⟩
   ·exact ⟨vb (by unfold sI kD; first | (rw [decide_eq_false iQ]; rfl) | (rw [if_pos (by omega),List.getElem?_eq_none (by omega)]; simp; done) | (rw [if_pos (by omega),lG,decide_eq_true iQ]; dsimp only; first | (rw [decide_eq_false jK]; rfl) | (rw [decide_eq_true jK]; rfl))),hs⟩
  ·exact ⟨vb (by unfold sI kD; first | (rw [decide_eq_false iQ]; rfl) | (rw [if_pos (by omega),List.getElem?_eq_none (by omega)]; simp; done) | (rw [if_pos (by omega),lG,decide_eq_true iQ]; dsimp only; first | (rw [decide_eq_false jK]; rfl) | (rw [decide_eq_true jK]; rfl))),hs⟩
 ·rintro _ w2 ⟨rfl,hs⟩ fy;refine aX (λ rA=>?_) (λ rA=>?_)
  ·obtain ⟨_,tk,AY,_,_⟩:=AM rA;obtain ⟨arL,arM,akR⟩:=mu AY;have SK:l[(s.at_+1 - 1).toNat]? = some tk:=by rw [← akR]; congr 2; omega
   refine aE (aA eT (aB bL hs.hb rfl (aO (by omega) (aE (aA eT (aV hs bL (eI rfl) (rfl) (λ w3 hs=>aE (aA gO (have hs:=hs.drew;aB iL hs.hb rfl (aE (aA eT (aB bL hs.hb rfl ?_))))))))))));refine gA (by omega) (aQ fD (hT _ hs.aF) (by omega) SK (λ _ B7=>bT (tk).text m6 B7 rfl rfl (λ _ XB=>aD j8 (XB) ?_)));have hb:cS l s=({s with at_:=s.at_+1},tk.text):=by unfold cS; rw [if_pos rA]; unfold oK; rw [AY]; rfl
   rw [hb];exact ⟨rfl,hs.mut⟩
  ·refine bG Gs hs (H':=λ _=>cE p (dU lv ov (iU l s 5))) (Φ:=λ _ _=>True) (λ F2 eQ eA=>?_) ?_
   ·exact (C254 p lv ov l s 5 F2 _ eQ (λ w' hc=>hT w' (eA w' hc).aF) hk h0).mono λ _ _ r=>r.mono λ _ _ h=>⟨trivial,h.2⟩
   rintro _ w4 _ hs;have hb:cS l s=(iU l s 5,⟨#[]⟩):=by unfold cS; rw [if_neg (by simpa using rA)]
   rw [hb];exact ⟨rfl,hs.mut⟩
theorem C167 (p:Nat) (lv:Value) (l:List bF) (s:fN) (F:Nat→Prop) (w:World) (hF:(cE p (eh lv s)).p w F) (hT:∀ w',ix F w w'→eJ (λ _=>True) w' lv l) (hk:iu l) (h0:lV l s):CR 167 [(.pointer (some ⟨p,0,none⟩))] w (λ v w'=>v=Flat.val (eW l s).2∧qn F (cE p (eh lv (eW l s).1)) w w'):=by
 have hs:=St.begin hF;have Fy:=hk.n;have hn:l.length≤1000000:=by omega
 have sW:=hk.at_;obtain ⟨Q7,Q8⟩:=id h0;refine ZT _ _ _ ?_;unfold S167;refine aN hs CL (λ mc w1 hs=>?_);refine ⟨λ jv w'=>jv = .bool (sI l s)∧St w F [cE p (eh lv s),cE mc (Flat.enc (⟨ByteArray.mk #[],0,0⟩:dG))] w',?_,?_⟩
 ·refine aE (aA l8 (have hs:=hs.drew;aB nq hs.p1.hb rfl (aH (aC (λ iQ=>?_) (λ iQ=>?_)))))
  ·refine aE (aA fk (aB bL hs.p1.hb rfl (aE (aA jI (aB iL hs.p1.hb rfl (aJ fD (hT _ hs.aF) (aR (aC (λ gh=>?_) (λ gh=>?_)))))))))
   ·refine aE (aA jI (aB iL hs.p1.hb rfl (aE (aA fk (aB bL hs.p1.hb rfl ?_)))));obtain ⟨Cb,lG⟩:=gx (l) (i:=(s.at_).toNat) (by omega);refine aQ fD (hT _ hs.aF) (by omega) lG (λ _ D3=>bT (Cb).kind lf D3 rfl rfl (λ _ oe=>aD bL (oe) (aH (aC (λ jK=>?_) (λ jK=>?_)))))
    ·refine aE (aA jI (aB iL hs.p1.hb rfl (aE (aA fk (aB bL hs.p1.hb rfl (aQ fD (hT _ hs.aF) (by omega) lG (λ _ yg=>bT (Cb).text m6 yg rfl rfl (λ _ AJ=>aD j8 (AJ) (aZ tG hs (C161 _ _ (by have:=sW _ (List.mem_of_getElem? lG); omega)) (λ w2 he hs=>?_))))))))));have hs:=hs.p1;exact ⟨vb (by unfold sI kD; first | (rw [decide_eq_false iQ]; rfl) | (rw [if_pos (by omega),List.getElem?_eq_none (by omega)]; simp; done) | (rw [if_pos (by omega),lG,decide_eq_true iQ]; dsimp only; first | (rw [decide_eq_false jK]; rfl) | (rw [decide_eq_true jK]; rfl))),hs⟩
    ·have hs:=hs.p1;exact ⟨vb (by unfold sI kD; first | (rw [decide_eq_false iQ]; rfl) | (rw [if_pos (by omega),List.getElem?_eq_none (by omega)]; simp; done) | (rw [if_pos (by omega),lG,decide_eq_true iQ]; dsimp only; first | (rw [decide_eq_false jK]; rfl) | (rw [decide_eq_true jK]; rfl))),hs⟩
   ·have hs:=hs.p1;exact ⟨vb (by unfold sI kD; first | (rw [decide_eq_false iQ]; rfl) | (rw [if_pos (by omega),List.getElem?_eq_none (by omega)]; simp; done) | (rw [if_pos (by omega),lG,decide_eq_true iQ]; dsimp only; first | (rw [decide_eq_false jK]; rfl) | (rw [decide_eq_true jK]; rfl))),hs⟩
  ·have hs:=hs.p1;exact ⟨vb (by unfold sI kD; first | (rw [decide_eq_false iQ]; rfl) | (rw [if_pos (by omega),List.getElem?_eq_none (by omega)]; simp; done) | (rw [if_pos (by omega),lG,decide_eq_true iQ]; dsimp only; first | (rw [decide_eq_false jK]; rfl) | (rw [decide_eq_true jK]; rfl))),hs⟩
 ·rintro _ w3 ⟨rfl,hs⟩ fy;refine aX (λ rA=>?_) (λ rA=>?_)
  ·obtain ⟨_,tk,AY,_,_⟩:=AM rA;obtain ⟨arL,arM,akR⟩:=mu AY;have SK:l[(s.at_+1 - 1).toNat]? = some tk:=by rw [← akR]; congr 2; omega
   refine aE (aA fk (aB bL hs.hb rfl (aO (by omega) (aE (aA fk (aV hs bL (eI rfl) (rfl) (λ w4 hs=>aE (aA jI (have hs:=hs.drew;aB iL hs.hb rfl (aE (aA fk (aB bL hs.hb rfl ?_))))))))))));refine gA (by omega) (aQ fD (hT _ hs.aF) (by omega) SK (λ _ B7=>bT (tk).text m6 B7 rfl rfl (λ _ XB=>aD j8 (XB) (aE (aA jI (aB iL hs.hb rfl (aE (aA fk (aB bL hs.hb rfl (gA (by omega) (aQ fD (hT _ hs.aF) (by omega) SK (λ _ arN=>bT (tk).at_ lg arN rfl rfl (λ _ XC=>?_)))))))))))))
   refine aD bL (XC) (pop (DG _ _) (aI (x:=(⟨(tk).text,0,(tk).at_⟩:dG)) hs.p1 xY rfl rfl (λ w5 hs=>aD xY hs.At ?_)));have hs:=(hs).drop;have hb:eW l s=({s with at_:=s.at_+1},⟨tk.text,0,tk.at_⟩):=by unfold eW; rw [if_pos rA]; unfold oK; rw [AY]; rfl
   rw [hb];exact ⟨rfl,hs.mut⟩
  ·refine bG Pu hs (H':=λ _=>cE p (eh lv (iU l s 5))) (Φ:=λ _ _=>True) (λ F2 eQ eA=>?_) ?_
   ·exact (C170 p lv l s F2 _ eQ (λ w' hc=>hT w' (eA w' hc).aF) hk h0).mono λ _ _ r=>r.mono λ _ _ h=>⟨trivial,h.2⟩
   rintro _ w6 _ hs;refine pop (abD) (aI (x:=(⟨(ByteArray.mk #[]),0,0⟩:dG)) hs.p1 xY rfl rfl (λ w7 hs=>aD xY hs.At ?_));have hs:=(hs).drop;have hb:eW l s=(iU l s 5,⟨⟨#[]⟩,0,0⟩):=by unfold eW; rw [if_neg (by simpa using rA)]
   rw [hb];exact ⟨rfl,hs.mut⟩
theorem C253 (k:Int) (w:World) (hk:0≤k∧k≤14):CR 253 [.int .i64 k] w (λ v w'=>v = .string (Hj k)∧Ext w w'):=by
 have hs:=St.start w;refine aa9 _ _ _ ?_;unfold S253;refine bW (C4) hs mV rfl rfl (eI rfl) (λ arI w1 hs=>?_);have hsl:C4.length=15:=rfl;obtain ⟨ayM,L5⟩:=gx (C4) (i:=(k).toNat) (by omega);refine dR hs mV (by omega) (by omega) (λ _ Se=>ga hs j8 Se L5 ?_);refine ⟨?_,hs.drop.aF⟩;unfold Hj;rw [L5]; rfl
theorem C262 (p:Nat) (lv ov:Value) (l:List bF) (s:fN) (F:Nat→Prop) (w:World) (hF:(cE p (dU lv ov s)).p w F) (hT:∀ w',ix F w w'→eJ (λ _=>True) w' lv l) (hk:iu l) (h0:lV l s):CR 262 [(.pointer (some ⟨p,0,none⟩))] w (λ v w'=>v = .int .i64 (kF l s).2∧qn F (cE p (dU lv ov (kF l s).1)) w w'):=by
 have hs:=St.begin hF;have Fy:=hk.n;have hn:l.length≤1000000:=by omega
 have sW:=hk.at_;obtain ⟨Q7,Q8⟩:=id h0;refine abi _ _ _ ?_;unfold S262;refine ⟨λ jv w'=>jv = .bool (OI l s)∧St w F [cE p (dU lv ov s)] w',?_,?_⟩
 ·refine aE (aA kp (have hs:=hs.drew;aB nq hs.hb rfl (aH (aC (λ gp=>?_) (λ gp=>?_)))))
  ·refine aE (aA eT (aB bL hs.hb rfl (aE (aA gO (aB iL hs.hb rfl (aJ fD (hT _ hs.aF) (aR (aC (λ fw=>?_) (λ fw=>?_)))))))))
   ·refine aE (aA gO (aB iL hs.hb rfl (aE (aA eT (aB bL hs.hb rfl ?_)))));obtain ⟨D2,lE⟩:=gx (l) (i:=(s.at_).toNat) (by omega);refine aQ fD (hT _ hs.aF) (by omega) lE (λ _ oe=>bT (D2).kind lf oe rfl rfl (λ _ oG=>aD bL (oG) (aH ?_)));exact ⟨vb (by unfold OI kD; first | (rw [decide_eq_false gp]; rfl) | (rw [if_pos (by omega),List.getElem?_eq_none (by omega)]; simp; done) | (rw [if_pos (by omega),lE,decide_eq_true gp]; rfl)),hs⟩
   ·exact ⟨vb (by unfold OI kD; first | (rw [decide_eq_false gp]; rfl) | (rw [if_pos (by omega),List.getElem?_eq_none (by omega)]; simp; done) | (rw [if_pos (by omega),lE,decide_eq_true gp]; rfl)),hs⟩
  ·exact ⟨vb (by unfold OI kD; first | (rw [decide_eq_false gp]; rfl) | (rw [if_pos (by omega),List.getElem?_eq_none (by omega)]; simp; done) | (rw [if_pos (by omega),lE,decide_eq_true gp]; rfl)),hs⟩
 ·rintro _ w1 ⟨rfl,hs⟩ fy;refine aX (λ iC=>?_) (λ iC=>?_)
  ·obtain ⟨_,tk,AY,_⟩:=Q6 iC;obtain ⟨arL,arM,SK⟩:=mu AY;refine aE (aA gO (have hs:=hs.drew;aB iL hs.hb rfl (aE (aA eT (aB bL hs.hb rfl (aQ fD (hT _ hs.aF) (by omega) SK (λ _ yg=>bT (tk).n q7 yg rfl rfl (λ _ AJ=>aD bL (AJ) ?_))))))));refine ⟨λ jv w'=>jv = .bool (decide (1≤tk.n∧tk.n≤8))∧St w F [cE p (dU lv ov s)] w',?_,?_⟩
   ·refine dF (aC (λ rA=>?_) (λ rA=>?_))
    ·refine j7 ?_;exact ⟨vb (by first | exact (decide_eq_false (by omega)).symm | exact decide_eq_decide.2 (by omega)),hs⟩
    ·exact ⟨vb (by first | exact (decide_eq_false (by omega)).symm | exact decide_eq_decide.2 (by omega)),hs⟩
   ·rintro _ w2 ⟨rfl,hs⟩ jB;refine aC (λ pG=>?_) (λ pG=>?_)
    ·refine aE (aA eT (aB bL hs.hb rfl (aO (by omega) (aE (aA eT (aV hs bL (eI rfl) (rfl) (λ w3 hs=>?_)))))));have hb:kF l s=({s with at_:=s.at_+1},tk.n):=by unfold kF; rw [if_pos iC]; unfold oK; rw [AY]; exact if_pos pG
     rw [hb];exact ⟨rfl,hs.mut⟩
    ·refine bG Gs hs (H':=λ _=>cE p (dU lv ov (iU l s 11))) (Φ:=λ _ _=>True) (λ F2 eQ eA=>?_) ?_
     ·exact (C254 p lv ov l s 11 F2 _ eQ (λ w' hc=>hT w' (eA w' hc).aF) hk h0).mono λ _ _ r=>r.mono λ _ _ h=>⟨trivial,h.2⟩
     rintro _ w4 _ hs;have hb:kF l s=(iU l s 11,0):=by unfold kF; rw [if_pos iC]; unfold oK; rw [AY]; exact if_neg pG
     rw [hb];exact ⟨rfl,hs.mut⟩
  ·refine bG Gs hs (H':=λ _=>cE p (dU lv ov (iU l s 5))) (Φ:=λ _ _=>True) (λ F2 eQ eA=>?_) ?_
   ·exact (C254 p lv ov l s 5 F2 _ eQ (λ w' hc=>hT w' (eA w' hc).aF) hk h0).mono λ _ _ r=>r.mono λ _ _ h=>⟨trivial,h.2⟩
   rintro _ w5 _ hs;have hb:kF l s=(iU l s 5,0):=by unfold kF; rw [if_neg (by simpa using iC)]
   rw [hb];exact ⟨rfl,hs.mut⟩
theorem C261 (p:Nat) (lv ov:Value) (l:List bF) (s:fN) (s2:fN) (x:List cY) (F:Nat→Prop) (w:World) (hF:(cE p (dU lv ov s)).p w F) (hT:∀ w',ix F w w'→eJ (λ _=>True) w' lv l) (hk:iu l) (h0:lV l s) (hr:qy l s=some (s2,x)):CR 261 [(.pointer (some ⟨p,0,none⟩))] w (λ v w'=>qn F (tW λ sv:SV=>fact (v=Flat.val sv) (sep (cE p (dU lv ov s2)) (eU (λ w=>DL w (Flat.val sv) x)))) w w'):=by
 have hs:=St.begin hF;have Fy:=hk.n;have hn:l.length≤1000000:=by omega
 have sW:=hk.at_;obtain ⟨Q7,Q8⟩:=id h0;refine abh _ _ _ ?_;unfold S261;refine aE (aA kp (aB nq hs.hb rfl (cQ (aC (λ gP=>?_) (λ gP=>?_)))))
 ·have hR:((s,[]):fN × List cY)=(s2,x):=by unfold qy at hr; rw [if_pos gP] at hr; exact Option.some.inj hr
  cases hR;have hs:=(hs.gF (Φ:=λ w=>DL w (Flat.val (⟨none,0,0⟩:SV)) ([]:List cY)) λ w=>DL.nil w).p1;exact (St.eP (⟨none,0,0⟩:SV) (St.qm rfl (St.join hs))).mut
 ·refine aE (aA gO (have hs:=hs.drew;aB iL hs.hb rfl (aE (aA eT (aB bL hs.hb rfl ?_)))));obtain ⟨R,hxr,Gl⟩:=Xz hr (by omega);refine eD aeU (C214 l _ s.at_ R _ (hT _ hs.aF) hk (by omega) hxr) ?_;rintro _ w1 ⟨ay0,rfl,bY⟩;have hs:=hs.made bY;refine bE rfl (bE rfl (bE rfl (bE rfl (cQ (aC (λ gj=>?_) (λ gj=>?_))))))
  ·refine aE (aA kp (aV hs.p1 nq (eI rfl) (rfl) (λ w2 hs=>aE (aA zH (aV hs bL (eI rfl) (rfl) (λ w3 hs=>?_))))));have hR:(({s with e:=R.2.2.1,pos:=R.2.2.2},[]):fN × List cY)=(s2,x):=by rw [if_pos gj] at Gl; exact Option.some.inj Gl
   cases hR;have hs:=((hs.p1.drop).gF (Φ:=λ w=>DL w (Flat.val (⟨none,0,0⟩:SV)) ([]:List cY)) λ w=>DL.nil w).p1;exact (St.eP (⟨none,0,0⟩:SV) (St.qm rfl (St.join hs))).mut
  ·have Bw:=XA Gl gj;refine aE (aA eT (aV hs.p1 bL (eI rfl) (rfl) (λ w4 hs=>?_)));have hR:(({s with at_:=R.2.1},R.1):fN × List cY)=(s2,x):=by rw [if_neg gj,if_pos Bw] at Gl; exact Option.some.inj Gl
   cases hR;have hs:=hs.p1.p1;exact (St.eP ay0 (St.qm rfl (St.join hs))).mut
def MJ (k at_:Int):cG:=⟨k,⟨#[]⟩,⟨#[]⟩,[],[],0,0,0,at_⟩
abbrev JB:ByteArray:=⟨#[61]⟩
def Ts (l:List bF) (s:fN):fN:=dM l (cS l s).1 (ByteArray.mk #[61])
def s2M (l:List bF) (s:fN):fN:=dM l (cS l (Ts l s)).1 (ByteArray.mk #[44])
def kG (l:List bF) (s:fN) (k a:Int):Option (fN × cG):=
 if k=1 then (qy l (Ts l s)).bind λ r=>some (r.1,{MJ k a with gK:=(cS l s).2,e:=r.2})
 else if k=2 then some ((cS l (Ts l s)).1,{MJ k a with gK:=(cS l s).2,name:=(cS l (Ts l s)).2})
 else if k=3 then (qy l (Ts l s)).bind λ r=>some (r.1,{MJ k a with name:=(cS l s).2,e:=r.2})
 else if k=4 then (qy l (s2M l s)).bind λ r=>(qy l (dM l r.1 (ByteArray.mk #[44]))).bind λ q=>some (q.1,{MJ k a with gK:=(cS l s).2,name:=(cS l (Ts l s)).2,e:=r.2,f:=q.2})
 else if k=5∨k=6∨k=9∨k=10 then some ((cS l s).1,{MJ k a with name:=(cS l s).2})
 else if k=11∨k=14 then (qy l s).bind λ r=>some (r.1,{MJ k a with e:=r.2})
 else if k=12 then some ((kF l s).1,{MJ k a with n:=(kF l s).2})
 else some (s,MJ k a)
section
variable {l:List bF} {s s':fN} {k a:Int} {x:cG}
theorem eG {α β γ:Type} {o:Option (α × β)} {g:α × β→Option γ} {c:γ} (h:o.bind g=some c):∃ p q,o=some (p,q)∧g (p,q)=some c:=by
 cases o with
 | none=>cases h
 | some r=>exact ⟨r.1,r.2,rfl,h⟩
theorem Q9 (h:kG l s k a=some (s',x)) (hk:k=1):∃ q e,qy l (Ts l s)=some (q,e)∧s'=q∧x={MJ k a with gK:=(cS l s).2,e:=e}:=by
 unfold kG at h; rw [if_pos hk] at h
 obtain ⟨q,e,h1,h2⟩:=eG h
 cases h2; exact ⟨_,_,h1,rfl,rfl⟩
theorem Ra (h:kG l s k a=some (s',x)) (hk:k=2):s'=(cS l (Ts l s)).1∧x={MJ k a with gK:=(cS l s).2,name:=(cS l (Ts l s)).2}:=by
 unfold kG at h; rw [if_neg (by omega),if_pos hk] at h; cases h; exact ⟨rfl,rfl⟩
theorem Rb (h:kG l s k a=some (s',x)) (hk:k=3):∃ q e,qy l (Ts l s)=some (q,e)∧s'=q∧x={MJ k a with name:=(cS l s).2,e:=e}:=by
 unfold kG at h; rw [if_neg (by omega),if_neg (by omega),if_pos hk] at h
 obtain ⟨q,e,h1,h2⟩:=eG h
 cases h2; exact ⟨_,_,h1,rfl,rfl⟩
theorem Rc (h:kG l s k a=some (s',x)) (hk:k=4):∃ q e q2 f,qy l (s2M l s)=some (q,e)∧qy l (dM l q (ByteArray.mk #[44]))=some (q2,f)∧s'=q2∧x={MJ k a with gK:=(cS l s).2,name:=(cS l (Ts l s)).2,e:=e,f:=f}:=by
 unfold kG at h; rw [if_neg (by omega),if_neg (by omega),if_neg (by omega),if_pos hk] at h
 obtain ⟨q,e,h1,h2⟩:=eG h
 obtain ⟨q2,f,h3,h4⟩:=eG h2
 cases h4; exact ⟨_,_,_,_,h1,h3,rfl,rfl⟩
theorem Rd (h:kG l s k a=some (s',x)) (hk:k=5∨k=6∨k=9∨k=10):s'=(cS l s).1∧x={MJ k a with name:=(cS l s).2}:=by
 unfold kG at h; rw [if_neg (by omega),if_neg (by omega),if_neg (by omega),if_neg (by omega),if_pos hk] at h; cases h; exact ⟨rfl,rfl⟩
theorem L8 (h:kG l s k a=some (s',x)) (hk:k=11∨k=14):∃ q e,qy l s=some (q,e)∧s'=q∧x={MJ k a with e:=e}:=by
 unfold kG at h; rw [if_neg (by omega),if_neg (by omega),if_neg (by omega),if_neg (by omega),if_neg (by omega),if_pos hk] at h
 obtain ⟨q,e,h1,h2⟩:=eG h
 cases h2; exact ⟨_,_,h1,rfl,rfl⟩
theorem L9 (h:kG l s k a=some (s',x)) (hk:k=12):s'=(kF l s).1∧x={MJ k a with n:=(kF l s).2}:=by
 unfold kG at h; rw [if_neg (by omega),if_neg (by omega),if_neg (by omega),if_neg (by omega),if_neg (by omega),if_neg (by omega),if_pos hk] at h; cases h; exact ⟨rfl,rfl⟩
theorem Ma (h:kG l s k a=some (s',x)) (h1:¬ k=1) (h2:¬ k=2) (h3:¬ k=3) (h4:¬ k=4) (h5:¬ (k=5∨k=6∨k=9∨k=10)) (h6:¬ (k=11∨k=14)) (h7:¬ k=12):s'=s∧x=MJ k a:=by
 unfold kG at h; rw [if_neg h1,if_neg h2,if_neg h3,if_neg h4,if_neg h5,if_neg h6,if_neg h7] at h; cases h; exact ⟨rfl,rfl⟩
end
theorem BQ {l:List bF} {s s':fN} {k a:Int} {x:cG} (h0:lV l s) (h:kG l s k a=some (s',x)):lV l s':=by
 have Sb:lV l (Ts l s):=fz (gz h0)
 have hs2:lV l (s2M l s):=fz (gz Sb)
 by_cases h1:k=1
 ·obtain ⟨q,e,he,rfl,_⟩:=Q9 h h1; exact rN Sb he
 by_cases h2:k=2
 ·obtain ⟨rfl,_⟩:=Ra h h2; exact gz Sb
 by_cases h3:k=3
 ·obtain ⟨q,e,he,rfl,_⟩:=Rb h h3; exact rN Sb he
 by_cases h4:k=4
 ·obtain ⟨q,e,q2,f,he,hf,rfl,_⟩:=Rc h h4; exact rN (fz (rN hs2 he)) hf
 by_cases h5:k=5∨k=6∨k=9∨k=10
 ·obtain ⟨rfl,_⟩:=Rd h h5; exact gz h0
 by_cases h6:k=11∨k=14
 ·obtain ⟨q,e,he,rfl,_⟩:=L8 h h6; exact rN h0 he
 by_cases h7:k=12
 ·obtain ⟨rfl,_⟩:=L9 h h7; exact SL h0
 ·obtain ⟨rfl,_⟩:=Ma h h1 h2 h3 h4 h5 h6 h7; exact h0
theorem wL {α σ:Type} [Flat σ] [bZ α σ] {w w0:World} {A:Nat→Prop} {L:List HP} {B:HP} {sh:σ} {x:α} (hs:St w0 A (B::eU (λ w=>bZ.dr w sh x)::L) w) :
  St w0 A ((tW λ s:σ=>fact (Flat.val sh=Flat.val s) (sep B (eU (λ w=>bZ.dr w s x))))::L) w:=
 St.eP (H:=λ s:σ=>fact (Flat.val sh=Flat.val s) (sep B (eU (λ w=>bZ.dr w s x)))) sh (St.qm rfl (St.join hs))
set_option maxHeartbeats 2000000 in
theorem C255 (p:Nat) (lv ov:Value) (l:List bF) (s:fN) (kd a:Int) (s2:fN) (x:cG) (F:Nat→Prop) (w:World) (hF:(cE p (dU lv ov s)).p w F) (hT:∀ w',ix F w w'→eJ (λ _=>True) w' lv l) (hk:iu l) (h0:lV l s) (hp:kG l s kd a=some (s2,x)):CR 255 [(.pointer (some ⟨p,0,none⟩)),.int .i64 kd,.int .i64 a] w (λ v w'=>qn F (tW λ sh:bX=>fact (v=Flat.val sh) (sep (cE p (dU lv ov s2)) (eU (λ w=>bZ.dr w sh x)))) w w'):=by
 have hs:=St.begin hF;have Fy:=hk.n;have hn:l.length≤1000000:=by omega
 have sW:=hk.at_;obtain ⟨Q7,Q8⟩:=id h0;refine abb _ _ _ _ _ ?_;unfold S255;refine aN hs qA (λ Od w1 hs=>have hs:=hs.enc (cs':=Flat.enc (⟨0,(ByteArray.mk #[]),(ByteArray.mk #[]),⟨none,0,0⟩,⟨none,0,0⟩,0,0,0,0⟩:bX)) rfl;pop (Nc _ _) (aN hs qA (λ Bn w2 hs=>have hs:=hs.enc (cs':=Flat.enc (⟨0,(ByteArray.mk #[]),(ByteArray.mk #[]),⟨none,0,0⟩,⟨none,0,0⟩,0,0,0,0⟩:bX)) rfl;aI (x:=(⟨kd,(ByteArray.mk #[]),(ByteArray.mk #[]),⟨none,0,0⟩,⟨none,0,0⟩,0,0,0,a⟩:bX)) hs fY rfl rfl (λ w3 hs=>?_))));refine ⟨_,?_,λ _ h=>h⟩;refine aH (aC (λ kJ=>?_) (λ kJ=>?_))
 ·obtain ⟨q,e,hex,rfl,rfl⟩:=Q9 hp kJ;refine bG Dq hs.p2 (H':=λ _=>cE p (dU lv ov (cS l s).1)) (Φ:=λ v _=>v = .string (cS l s).2) (λ F2 eQ eA=>?_) ?_
  ·exact C260 p lv ov l s F2 _ eQ (λ w' hc=>hT w' (eA w' hc).aF) hk h0
  rintro _ w4 rfl hs;refine aA l6 (aV hs.p1 j8 (eI rfl) (rfl) (λ w5 hs=>have hs:=hs.enc (cs':=Flat.enc (⟨kd,(cS l s).2,(ByteArray.mk #[]),⟨none,0,0⟩,⟨none,0,0⟩,0,0,0,a⟩:bX)) rfl;bG xV hs.p1 (H':=λ _=>cE p (dU lv ov (dM l (cS l s).1 (ByteArray.mk #[61])))) (Φ:=λ _ _=>True) (λ F2 eQ eA=>?_) ?_))
  ·exact (C234 p lv ov l (cS l s).1 (ByteArray.mk #[61]) F2 _ eQ (λ w' hc=>hT w' (eA w' hc).aF) hk (gz h0)).mono λ _ _ r=>r.mono λ _ _ h=>⟨trivial,h.2⟩
  rintro _ w6 _ hs;refine bG J6 hs (H':=λ v=>tW λ sv:SV=>fact (v=Flat.val sv) (sep (cE p (dU lv ov s2)) (eU (λ w=>DL w (Flat.val sv) e)))) (Φ:=λ _ _=>True) (λ F2 eQ eA=>?_) ?_
  ·exact (C261 p lv ov l (dM l (cS l s).1 (ByteArray.mk #[61])) s2 e F2 _ eQ (λ w' hc=>hT w' (eA w' hc).aF) hk (fz (gz h0)) hex).mono λ _ _ r=>r.mono λ _ _ h=>⟨trivial,h⟩
  rintro v_x20 w7 _ AG;obtain ⟨OJ,AH⟩:=AG.eV
  clear AG
  obtain ⟨akS,CX⟩:=AH.oE
  clear AH
  subst akS;have hs:=CX.split;refine aA l7 (aV hs.p2 mU (eI rfl) (rfl) (λ w8 hs=>?_));have hs:=hs.enc (cs':=Flat.enc (⟨kd,(cS l s).2,(ByteArray.mk #[]),OJ,⟨none,0,0⟩,0,0,0,a⟩:bX)) rfl;intro oS;refine aD fY hs.At (aI (x:=(⟨kd,(cS l s).2,(ByteArray.mk #[]),OJ,⟨none,0,0⟩,0,0,0,a⟩:bX)) hs.p3 fY rfl rfl (λ YB hs=>aD fY hs.At ?_));have hs:=hs.p3.dN (Ψ:=(λ w=>bZ.dr w (⟨kd,(cS l s).2,(ByteArray.mk #[]),OJ,⟨none,0,0⟩,0,0,0,a⟩:bX) (⟨kd,(cS l s).2,(ByteArray.mk #[]),e,[],0,0,0,a⟩:cG))) (λ w h=>⟨_,_,rfl,id (h),DL.nil _⟩);have hs:=((hs.p1.drop.p1).drop).p1
  exact (wL hs).mut
 ·refine aH (aC (λ iO=>?_) (λ iO=>?_))
  ·obtain ⟨rfl,rfl⟩:=Ra hp iO;refine bG Dq hs.p2 (H':=λ _=>cE p (dU lv ov (cS l s).1)) (Φ:=λ v _=>v = .string (cS l s).2) (λ F2 eQ eA=>?_) ?_
   ·exact C260 p lv ov l s F2 _ eQ (λ w' hc=>hT w' (eA w' hc).aF) hk h0
   rintro _ w9 rfl hs;refine aA l6 (aV hs.p1 j8 (eI rfl) (rfl) (λ pS hs=>have hs:=hs.enc (cs':=Flat.enc (⟨kd,(cS l s).2,(ByteArray.mk #[]),⟨none,0,0⟩,⟨none,0,0⟩,0,0,0,a⟩:bX)) rfl;bG xV hs.p1 (H':=λ _=>cE p (dU lv ov (dM l (cS l s).1 (ByteArray.mk #[61])))) (Φ:=λ _ _=>True) (λ F2 eQ eA=>?_) ?_))
   ·exact (C234 p lv ov l (cS l s).1 (ByteArray.mk #[61]) F2 _ eQ (λ w' hc=>hT w' (eA w' hc).aF) hk (gz h0)).mono λ _ _ r=>r.mono λ _ _ h=>⟨trivial,h.2⟩
   rintro _ sU _ hs;refine bG Dq hs (H':=λ _=>cE p (dU lv ov (cS l (dM l (cS l s).1 (ByteArray.mk #[61]))).1)) (Φ:=λ v _=>v = .string (cS l (dM l (cS l s).1 (ByteArray.mk #[61]))).2) (λ F2 eQ eA=>?_) ?_
   ·exact C260 p lv ov l (dM l (cS l s).1 (ByteArray.mk #[61])) F2 _ eQ (λ w' hc=>hT w' (eA w' hc).aF) hk (fz (gz h0))
   rintro _ vm rfl hs;refine aA jj (aV hs.p1 j8 (eI rfl) (rfl) (λ vn hs=>?_));have hs:=hs.enc (cs':=Flat.enc (⟨kd,(cS l s).2,(cS l (dM l (cS l s).1 (ByteArray.mk #[61]))).2,⟨none,0,0⟩,⟨none,0,0⟩,0,0,0,a⟩:bX)) rfl;intro oS;refine aD fY hs.At (aI (x:=(⟨kd,(cS l s).2,(cS l (dM l (cS l s).1 (ByteArray.mk #[61]))).2,⟨none,0,0⟩,⟨none,0,0⟩,0,0,0,a⟩:bX)) hs.p2 fY rfl rfl (λ YB hs=>aD fY hs.At ?_));have hs:=hs.gF (Φ:=(λ w=>bZ.dr w (⟨kd,(cS l s).2,(cS l (dM l (cS l s).1 (ByteArray.mk #[61]))).2,⟨none,0,0⟩,⟨none,0,0⟩,0,0,0,a⟩:bX) (⟨kd,(cS l s).2,(cS l (dM l (cS l s).1 (ByteArray.mk #[61]))).2,[],[],0,0,0,a⟩:cG))) (λ w=>⟨_,_,rfl,DL.nil _,DL.nil _⟩)
   have hs:=((hs.p1.drop.p1).drop).p1;exact (wL hs).mut
  ·refine aH (aC (λ nB=>?_) (λ nB=>?_))
   ·obtain ⟨q,e,hex,rfl,rfl⟩:=Rb hp nB;refine bG Dq hs.p2 (H':=λ _=>cE p (dU lv ov (cS l s).1)) (Φ:=λ v _=>v = .string (cS l s).2) (λ F2 eQ eA=>?_) ?_
    ·exact C260 p lv ov l s F2 _ eQ (λ w' hc=>hT w' (eA w' hc).aF) hk h0
    rintro _ sm rfl hs;refine aA jj (aV hs.p1 j8 (eI rfl) (rfl) (λ v7 hs=>have hs:=hs.enc (cs':=Flat.enc (⟨kd,(ByteArray.mk #[]),(cS l s).2,⟨none,0,0⟩,⟨none,0,0⟩,0,0,0,a⟩:bX)) rfl;bG xV hs.p1 (H':=λ _=>cE p (dU lv ov (dM l (cS l s).1 (ByteArray.mk #[61])))) (Φ:=λ _ _=>True) (λ F2 eQ eA=>?_) ?_))
    ·exact (C234 p lv ov l (cS l s).1 (ByteArray.mk #[61]) F2 _ eQ (λ w' hc=>hT w' (eA w' hc).aF) hk (gz h0)).mono λ _ _ r=>r.mono λ _ _ h=>⟨trivial,h.2⟩
    rintro _ yZ _ hs;refine bG J6 hs (H':=λ v=>tW λ sv:SV=>fact (v=Flat.val sv) (sep (cE p (dU lv ov s2)) (eU (λ w=>DL w (Flat.val sv) e)))) (Φ:=λ _ _=>True) (λ F2 eQ eA=>?_) ?_
    ·exact (C261 p lv ov l (dM l (cS l s).1 (ByteArray.mk #[61])) s2 e F2 _ eQ (λ w' hc=>hT w' (eA w' hc).aF) hk (fz (gz h0)) hex).mono λ _ _ r=>r.mono λ _ _ h=>⟨trivial,h⟩
    rintro v_x40 Cp _ AG;obtain ⟨OK,AH⟩:=AG.eV
    clear AG
    obtain ⟨akT,CX⟩:=AH.oE
    clear AH
    subst akT;have hs:=CX.split;refine aA l7 (aV hs.p2 mU (eI rfl) (rfl) (λ Iv hs=>?_));have hs:=hs.enc (cs':=Flat.enc (⟨kd,(ByteArray.mk #[]),(cS l s).2,OK,⟨none,0,0⟩,0,0,0,a⟩:bX)) rfl;intro oS;refine aD fY hs.At (aI (x:=(⟨kd,(ByteArray.mk #[]),(cS l s).2,OK,⟨none,0,0⟩,0,0,0,a⟩:bX)) hs.p3 fY rfl rfl (λ YB hs=>aD fY hs.At ?_));have hs:=hs.p3.dN (Ψ:=(λ w=>bZ.dr w (⟨kd,(ByteArray.mk #[]),(cS l s).2,OK,⟨none,0,0⟩,0,0,0,a⟩:bX) (⟨kd,(ByteArray.mk #[]),(cS l s).2,e,[],0,0,0,a⟩:cG))) (λ w h=>⟨_,_,rfl,id (h),DL.nil _⟩);have hs:=((hs.p1.drop.p1).drop).p1
    exact (wL hs).mut
   ·refine aH (aC (λ ub=>?_) (λ ub=>?_))
    ·obtain ⟨q,e,q2,f,hex,hfx,rfl,rfl⟩:=Rc hp ub;refine bG Dq hs.p2 (H':=λ _=>cE p (dU lv ov (cS l s).1)) (Φ:=λ v _=>v = .string (cS l s).2) (λ F2 eQ eA=>?_) ?_
     ·exact C260 p lv ov l s F2 _ eQ (λ w' hc=>hT w' (eA w' hc).aF) hk h0
     rintro _ Jy rfl hs;refine aA l6 (aV hs.p1 j8 (eI rfl) (rfl) (λ KG hs=>have hs:=hs.enc (cs':=Flat.enc (⟨kd,(cS l s).2,(ByteArray.mk #[]),⟨none,0,0⟩,⟨none,0,0⟩,0,0,0,a⟩:bX)) rfl;bG xV hs.p1 (H':=λ _=>cE p (dU lv ov (dM l (cS l s).1 (ByteArray.mk #[61])))) (Φ:=λ _ _=>True) (λ F2 eQ eA=>?_) ?_))
     ·exact (C234 p lv ov l (cS l s).1 (ByteArray.mk #[61]) F2 _ eQ (λ w' hc=>hT w' (eA w' hc).aF) hk (gz h0)).mono λ _ _ r=>r.mono λ _ _ h=>⟨trivial,h.2⟩
     rintro _ MH _ hs;refine bG Dq hs (H':=λ _=>cE p (dU lv ov (cS l (dM l (cS l s).1 (ByteArray.mk #[61]))).1)) (Φ:=λ v _=>v = .string (cS l (dM l (cS l s).1 (ByteArray.mk #[61]))).2) (λ F2 eQ eA=>?_) ?_
     ·exact C260 p lv ov l (dM l (cS l s).1 (ByteArray.mk #[61])) F2 _ eQ (λ w' hc=>hT w' (eA w' hc).aF) hk (fz (gz h0))
     rintro _ Qv rfl hs;refine aA jj (aV hs.p1 j8 (eI rfl) (rfl) (λ To hs=>have hs:=hs.enc (cs':=Flat.enc (⟨kd,(cS l s).2,(cS l (dM l (cS l s).1 (ByteArray.mk #[61]))).2,⟨none,0,0⟩,⟨none,0,0⟩,0,0,0,a⟩:bX)) rfl;bG xV hs.p1 (H':=λ _=>cE p (dU lv ov (dM l (cS l (dM l (cS l s).1 (ByteArray.mk #[61]))).1 (ByteArray.mk #[44])))) (Φ:=λ _ _=>True) (λ F2 eQ eA=>?_) ?_))
     ·exact (C234 p lv ov l (cS l (dM l (cS l s).1 (ByteArray.mk #[61]))).1 (ByteArray.mk #[44]) F2 _ eQ (λ w' hc=>hT w' (eA w' hc).aF) hk (gz (fz (gz h0)))).mono λ _ _ r=>r.mono λ _ _ h=>⟨trivial,h.2⟩
     rintro _ VM _ hs;refine bG J6 hs (H':=λ v=>tW λ sv:SV=>fact (v=Flat.val sv) (sep (cE p (dU lv ov q)) (eU (λ w=>DL w (Flat.val sv) e)))) (Φ:=λ _ _=>True) (λ F2 eQ eA=>?_) ?_
     ·exact (C261 p lv ov l (dM l (cS l (dM l (cS l s).1 (ByteArray.mk #[61]))).1 (ByteArray.mk #[44])) q e F2 _ eQ (λ w' hc=>hT w' (eA w' hc).aF) hk (fz (gz (fz (gz h0)))) hex).mono λ _ _ r=>r.mono λ _ _ h=>⟨trivial,h⟩
     rintro v_x55 Tp _ AG;obtain ⟨EZ,AH⟩:=AG.eV
     clear AG
     obtain ⟨akU,CX⟩:=AH.oE
     clear AH
     subst akU;have hs:=CX.split;refine aA l7 (aV hs.p2 mU (eI rfl) (rfl) (λ w26 hs=>have hs:=hs.enc (cs':=Flat.enc (⟨kd,(cS l s).2,(cS l (dM l (cS l s).1 (ByteArray.mk #[61]))).2,EZ,⟨none,0,0⟩,0,0,0,a⟩:bX)) rfl;bG xV hs.p1 (H':=λ _=>cE p (dU lv ov (dM l q (ByteArray.mk #[44])))) (Φ:=λ _ _=>True) (λ F2 eQ eA=>?_) ?_))
     ·exact (C234 p lv ov l q (ByteArray.mk #[44]) F2 _ eQ (λ w' hc=>hT w' (eA w' hc).aF) hk (rN (fz (gz (fz (gz h0)))) hex)).mono λ _ _ r=>r.mono λ _ _ h=>⟨trivial,h.2⟩
     rintro _ w27 _ hs;refine bG J6 hs (H':=λ v=>tW λ sv:SV=>fact (v=Flat.val sv) (sep (cE p (dU lv ov s2)) (eU (λ w=>DL w (Flat.val sv) f)))) (Φ:=λ _ _=>True) (λ F2 eQ eA=>?_) ?_
     ·exact (C261 p lv ov l (dM l q (ByteArray.mk #[44])) s2 f F2 _ eQ (λ w' hc=>hT w' (eA w' hc).aF) hk (fz (rN (fz (gz (fz (gz h0)))) hex)) hfx).mono λ _ _ r=>r.mono λ _ _ h=>⟨trivial,h⟩
     rintro v_x60 w28 _ AG;obtain ⟨BB,AH⟩:=AG.eV
     clear AG
     obtain ⟨akV,CX⟩:=AH.oE
     clear AH
     subst akV;have hs:=CX.split;refine aA nV (aV hs.p2 mU (eI rfl) (rfl) (λ w29 hs=>?_));have hs:=hs.enc (cs':=Flat.enc (⟨kd,(cS l s).2,(cS l (dM l (cS l s).1 (ByteArray.mk #[61]))).2,EZ,BB,0,0,0,a⟩:bX)) rfl;intro oS;refine aD fY hs.At (aI (x:=(⟨kd,(cS l s).2,(cS l (dM l (cS l s).1 (ByteArray.mk #[61]))).2,EZ,BB,0,0,0,a⟩:bX)) hs.p4 fY rfl rfl (λ YB hs=>aD fY hs.At ?_));have hs:=hs.p4.p4.p1.fM.dN (Ψ:=(λ w=>bZ.dr w (⟨kd,(cS l s).2,(cS l (dM l (cS l s).1 (ByteArray.mk #[61]))).2,EZ,BB,0,0,0,a⟩:bX) (⟨kd,(cS l s).2,(cS l (dM l (cS l s).1 (ByteArray.mk #[61]))).2,e,f,0,0,0,a⟩:cG))) (λ w h=>⟨_,_,rfl,id (h.1),id (h.2)⟩)
     have hs:=((hs.p1.drop.p1).drop).p1;exact (wL hs).mut
    ·refine ⟨λ jv w'=>jv = .bool (decide (kd=5∨kd=6∨kd=9∨kd=10))∧w3=w',?_,?_⟩
     ·refine aH (aC (λ VF=>?_) (λ VF=>?_))
      ·exact ⟨vb (by grind),rfl⟩
      ·refine aH (aC (λ oI=>?_) (λ oI=>?_))
       ·exact ⟨vb (by grind),rfl⟩
       ·refine aH (aC (λ nf=>?_) (λ nf=>?_))
        ·exact ⟨vb (by grind),rfl⟩
        ·refine aH ?_;exact ⟨vb (by grind),rfl⟩
     ·rintro _ w30 ⟨rfl,hw⟩ fy;subst hw;refine aC (λ su=>?_) (λ su=>?_)
      ·obtain ⟨rfl,rfl⟩:=Rd hp su;refine bG Dq hs.p2 (H':=λ _=>cE p (dU lv ov (cS l s).1)) (Φ:=λ v _=>v = .string (cS l s).2) (λ F2 eQ eA=>?_) ?_
       ·exact C260 p lv ov l s F2 _ eQ (λ w' hc=>hT w' (eA w' hc).aF) hk h0
       rintro _ w31 rfl hs;refine aA jj (aV hs.p1 j8 (eI rfl) (rfl) (λ w32 hs=>?_));have hs:=hs.enc (cs':=Flat.enc (⟨kd,(ByteArray.mk #[]),(cS l s).2,⟨none,0,0⟩,⟨none,0,0⟩,0,0,0,a⟩:bX)) rfl;intro oS;refine aD fY hs.At (aI (x:=(⟨kd,(ByteArray.mk #[]),(cS l s).2,⟨none,0,0⟩,⟨none,0,0⟩,0,0,0,a⟩:bX)) hs.p2 fY rfl rfl (λ YB hs=>aD fY hs.At ?_));have hs:=hs.gF (Φ:=(λ w=>bZ.dr w (⟨kd,(ByteArray.mk #[]),(cS l s).2,⟨none,0,0⟩,⟨none,0,0⟩,0,0,0,a⟩:bX) (⟨kd,(ByteArray.mk #[]),(cS l s).2,[],[],0,0,0,a⟩:cG))) (λ w=>⟨_,_,rfl,DL.nil _,DL.nil _⟩);have hs:=((hs.p1.drop.p1).drop).p1
       exact (wL hs).mut
      ·refine ⟨λ jv w'=>jv = .bool (decide (kd=11∨kd=14))∧w3=w',?_,?_⟩
       ·refine aH (aC (λ vo=>?_) (λ vo=>?_))
        ·exact ⟨vb (by grind),rfl⟩
        ·refine aH ?_;exact ⟨vb (by grind),rfl⟩
       ·rintro _ w33 ⟨rfl,hw⟩ jB;subst hw;refine aC (λ Ei=>?_) (λ Ei=>?_)
        ·obtain ⟨q,e,hex,rfl,rfl⟩:=L8 hp Ei;refine bG J6 hs.p2 (H':=λ v=>tW λ sv:SV=>fact (v=Flat.val sv) (sep (cE p (dU lv ov s2)) (eU (λ w=>DL w (Flat.val sv) e)))) (Φ:=λ _ _=>True) (λ F2 eQ eA=>?_) ?_
         ·exact (C261 p lv ov l s s2 e F2 _ eQ (λ w' hc=>hT w' (eA w' hc).aF) hk h0 hex).mono λ _ _ r=>r.mono λ _ _ h=>⟨trivial,h⟩
         rintro v_x74 w34 _ AG;obtain ⟨OL,AH⟩:=AG.eV
         clear AG
         obtain ⟨akW,CX⟩:=AH.oE
         clear AH
         subst akW;have hs:=CX.split;refine aA l7 (aV hs.p2 mU (eI rfl) (rfl) (λ w35 hs=>?_));have hs:=hs.enc (cs':=Flat.enc (⟨kd,(ByteArray.mk #[]),(ByteArray.mk #[]),OL,⟨none,0,0⟩,0,0,0,a⟩:bX)) rfl;intro oS;refine aD fY hs.At (aI (x:=(⟨kd,(ByteArray.mk #[]),(ByteArray.mk #[]),OL,⟨none,0,0⟩,0,0,0,a⟩:bX)) hs.p3 fY rfl rfl (λ YB hs=>aD fY hs.At ?_));have hs:=hs.p3.dN (Ψ:=(λ w=>bZ.dr w (⟨kd,(ByteArray.mk #[]),(ByteArray.mk #[]),OL,⟨none,0,0⟩,0,0,0,a⟩:bX) (⟨kd,(ByteArray.mk #[]),(ByteArray.mk #[]),e,[],0,0,0,a⟩:cG))) (λ w h=>⟨_,_,rfl,id (h),DL.nil _⟩)
         have hs:=((hs.p1.drop.p1).drop).p1;exact (wL hs).mut
        ·refine aH (aC (λ KU=>?_) (λ KU=>?_))
         ·obtain ⟨rfl,rfl⟩:=L9 hp KU;refine bG an9 hs.p2 (H':=λ _=>cE p (dU lv ov (kF l s).1)) (Φ:=λ v _=>v = .int .i64 (kF l s).2) (λ F2 eQ eA=>?_) ?_
          ·exact C262 p lv ov l s F2 _ eQ (λ w' hc=>hT w' (eA w' hc).aF) hk h0
          rintro _ w36 rfl hs;refine aA tQ (aV hs.p1 bL (eI rfl) (rfl) (λ w37 hs=>?_));have hs:=hs.enc (cs':=Flat.enc (⟨kd,(ByteArray.mk #[]),(ByteArray.mk #[]),⟨none,0,0⟩,⟨none,0,0⟩,(kF l s).2,0,0,a⟩:bX)) rfl;intro oS;refine aD fY hs.At (aI (x:=(⟨kd,(ByteArray.mk #[]),(ByteArray.mk #[]),⟨none,0,0⟩,⟨none,0,0⟩,(kF l s).2,0,0,a⟩:bX)) hs.p2 fY rfl rfl (λ YB hs=>aD fY hs.At ?_));have hs:=hs.gF (Φ:=(λ w=>bZ.dr w (⟨kd,(ByteArray.mk #[]),(ByteArray.mk #[]),⟨none,0,0⟩,⟨none,0,0⟩,(kF l s).2,0,0,a⟩:bX) (⟨kd,(ByteArray.mk #[]),(ByteArray.mk #[]),[],[],(kF l s).2,0,0,a⟩:cG))) (λ w=>⟨_,_,rfl,DL.nil _,DL.nil _⟩)
          have hs:=((hs.p1.drop.p1).drop).p1;exact (wL hs).mut
         ·obtain ⟨rfl,rfl⟩:=Ma hp kJ iO nB ub su Ei KU;intro oS;refine aD fY hs.At (aI (x:=(⟨kd,(ByteArray.mk #[]),(ByteArray.mk #[]),⟨none,0,0⟩,⟨none,0,0⟩,0,0,0,a⟩:bX)) hs.p1 fY rfl rfl (λ YB hs=>aD fY hs.At ?_));have hs:=hs.gF (Φ:=(λ w=>bZ.dr w (⟨kd,(ByteArray.mk #[]),(ByteArray.mk #[]),⟨none,0,0⟩,⟨none,0,0⟩,0,0,0,a⟩:bX) (⟨kd,(ByteArray.mk #[]),(ByteArray.mk #[]),[],[],0,0,0,a⟩:cG))) (λ w=>⟨_,_,rfl,DL.nil _,DL.nil _⟩);have hs:=((hs.p1.drop.p1).drop).p1;exact (wL hs).mut
def gT (l:List bF) (a:Int):Nat→Int
 | 0=>1
 | n+1=>if sH l a (Hj ((n:Int)+2))=true then (n:Int)+2 else gT l a n
theorem Re {l:List bF} {a:Int}:∀ n:Nat,1≤gT l a n∧gT l a n≤(n:Int)+1
 | 0=>by unfold gT; omega
 | n+1=>by
  have:=Re (l:=l) (a:=a) n
  unfold gT
  split <;> omega
theorem Mb {l:List bF} {a:Int}:∀ n:Nat,gT l a n=1∨∃ t,sH l a t=true
 | 0=>.inl rfl
 | n+1=>by
  unfold gT
  split
  ·rename_i h; exact .inr ⟨_,h⟩
  ·exact Mb n
theorem Hk {l:List bF} {a:Int} {n:Nat} (h:sH l a (Hj ((n:Int)+2))=true):gT l a (n+1)=(n:Int)+2:=if_pos h
theorem Hl {l:List bF} {a:Int} {n:Nat} (h:¬ sH l a (Hj ((n:Int)+2))=true):gT l a (n+1)=gT l a n:=if_neg h
def YH (l:List bF) (s:fN):fN:=if gT l s.at_ 13≠1 then {s with at_:=s.at_+1} else s
theorem Ji {l:List bF} {s:fN} (h:lV l s):lV l (YH l s):=by
 unfold YH
 split
 ·rename_i h1
  rcases Mb (l:=l) (a:=s.at_) 13 with h2 | ⟨t,h2⟩
  ·exact absurd h2 h1
  ·have:=rM h2
   exact ⟨by show 0≤s.at_+1; omega,by show s.at_+1≤_; omega⟩
 ·exact h
abbrev agv:ByteArray:=⟨#[101,108,115,101]⟩
def kf (l:List bF) (kd:Int) (s:fN):Bool:=decide (kd=11) && decide (s.e=0) && sH l s.at_ agv
def XD (s:fN):fN:={s with at_:=s.at_+1}
abbrev adH:=fN→Int→Int→Option (fN × List cG)
def CA (l:List bF) (cE:adH) (s:fN) (d lp:Int):Option (fN × List cG):=
 if gT l s.at_ 13=13∧lp=0 then some (iU l s 5,[])
 else (kG l (YH l s) (gT l s.at_ 13) (mP l s.at_)).bind λ r=>
  if gT l s.at_ 13≠11∧gT l s.at_ 13≠12 then some (dM l r.1 ⟨#[59]⟩,[r.2])
  else (cE r.1 (d+1) (if gT l s.at_ 13=12 then lp+1 else lp)).bind λ q=>
   if kf l (gT l s.at_ 13) q.1=true then (cE (XD q.1) (d+1) lp).bind λ t=>some (t.1,{r.2 with body:=(q.2.length:Int),fF:=(t.2.length:Int)}::(q.2++t.2))
   else some (q.1,{r.2 with body:=(q.2.length:Int)}::q.2)
section
variable {l:List bF} {cE:adH} {s s':fN} {d lp:Int} {add:List cG}
theorem Rf (h:CA l cE s d lp=some (s',add)) (hb:gT l s.at_ 13=13∧lp=0):s'=iU l s 5∧add=[]:=by
 unfold CA at h; rw [if_pos hb] at h; cases h; exact ⟨rfl,rfl⟩
theorem XE (h:CA l cE s d lp=some (s',add)) (hb:¬ (gT l s.at_ 13=13∧lp=0)):∃ s2 x,kG l (YH l s) (gT l s.at_ 13) (mP l s.at_)=some (s2,x)∧
  (if gT l s.at_ 13≠11∧gT l s.at_ 13≠12 then some (dM l s2 ⟨#[59]⟩,[x])
  else (cE s2 (d+1) (if gT l s.at_ 13=12 then lp+1 else lp)).bind λ q=>
   if kf l (gT l s.at_ 13) q.1=true then (cE (XD q.1) (d+1) lp).bind λ t=>some (t.1,{x with body:=(q.2.length:Int),fF:=(t.2.length:Int)}::(q.2++t.2))
   else some (q.1,{x with body:=(q.2.length:Int)}::q.2))=some (s',add):=by
 unfold CA at h; rw [if_neg hb] at h
 obtain ⟨p,q,h1,h2⟩:=eG h
 exact ⟨p,q,h1,h2⟩
theorem Rg {kd:Int} {s2:fN} {x:cG} (h:(if kd≠11∧kd≠12 then some (dM l s2 ⟨#[59]⟩,[x])
  else (cE s2 (d+1) (if kd=12 then lp+1 else lp)).bind λ q=>
   if kf l kd q.1=true then (cE (XD q.1) (d+1) lp).bind λ t=>some (t.1,{x with body:=(q.2.length:Int),fF:=(t.2.length:Int)}::(q.2++t.2))
   else some (q.1,{x with body:=(q.2.length:Int)}::q.2))=some (s',add)) (hk:¬ (kd≠11∧kd≠12)) :
  ∃ s3 m1,cE s2 (d+1) (if kd=12 then lp+1 else lp)=some (s3,m1)∧
   ((kf l kd s3=true∧∃ s5 m2,cE (XD s3) (d+1) lp=some (s5,m2)∧s'=s5∧add={x with body:=(m1.length:Int),fF:=(m2.length:Int)}::(m1++m2))∨
    (kf l kd s3=false∧s'=s3∧add={x with body:=(m1.length:Int)}::m1)):=by
 rw [if_neg hk] at h
 obtain ⟨s3,m1,h1,h2⟩:=eG h
 refine ⟨s3,m1,h1,?_⟩
 dsimp only at h2
 cases he:kf l kd s3 with
 | true=>
  rw [he,if_pos rfl] at h2
  obtain ⟨s5,m2,h3,h4⟩:=eG h2
  cases h4
  exact .inl ⟨rfl,_,_,h3,rfl,rfl⟩
 | false=>
  rw [he,if_neg (by simp)] at h2
  cases h2
  exact .inr ⟨rfl,rfl,rfl⟩
theorem Hm {kd:Int} {s2:fN} {x:cG} (h:(if kd≠11∧kd≠12 then some (dM l s2 ⟨#[59]⟩,[x])
  else (cE s2 (d+1) (if kd=12 then lp+1 else lp)).bind λ q=>
   if kf l kd q.1=true then (cE (XD q.1) (d+1) lp).bind λ t=>some (t.1,{x with body:=(q.2.length:Int),fF:=(t.2.length:Int)}::(q.2++t.2))
   else some (q.1,{x with body:=(q.2.length:Int)}::q.2))=some (s',add)) (hk:kd≠11∧kd≠12):s'=dM l s2 ⟨#[59]⟩∧add=[x]:=by
 rw [if_pos hk] at h; cases h; exact ⟨rfl,rfl⟩
end
abbrev Ci:ByteArray:=⟨#[123]⟩
abbrev nI:ByteArray:=⟨#[125]⟩
def sK (l:List bF) (one:fN→Option (fN × List cG)):Nat→fN→Option (fN × List cG)
 | 0,_=>none
 | m+1,s=>if (decide (s.e=0) && !sH l s.at_ nI)=true then (one s).bind λ r=>(sK l one m r.1).bind λ q=>some (q.1,r.2++q.2) else some (s,[])
def Tt (l:List bF) (s:fN) (d:Int):fN:=if (decide (12<d) && sH l s.at_ Ci)=true then iU l s 7 else s
theorem OM {l:List bF} {s:fN} {d:Int} (h:lV l s):lV l (Tt l s d):=by unfold Tt; split; exact sJ h; exact h
def Tu (l:List bF):Nat→adH
 | 0=>λ _ _ _=>none
 | k+1=>λ s d lp=>(sK l (λ s=>CA l (Tu l k) s d lp) 10000 (dM l (Tt l s d) Ci)).bind λ r=>some (dM l r.1 nI,r.2)
section
variable {l:List bF} {one:fN→Option (fN × List cG)} {s s':fN} {d lp:Int} {add:List cG} {m:Nat}
theorem Hn (h:sK l one m s=some (s',add)):∃ k,m=k+1:=by
 cases m with
 | zero=>cases h
 | succ k=>exact ⟨k,rfl⟩
theorem Fe (h:sK l one (m+1) s=some (s',add)) (hb:(decide (s.e=0) && !sH l s.at_ nI)=false):s'=s∧add=[]:=by
 unfold sK at h; rw [hb,if_neg (by simp)] at h; cases h; exact ⟨rfl,rfl⟩
theorem Jj (h:sK l one (m+1) s=some (s',add)) (hb:(decide (s.e=0) && !sH l s.at_ nI)=true):∃ s1 a1 a2,one s=some (s1,a1)∧sK l one m s1=some (s',a2)∧add=a1++a2:=by
 unfold sK at h; rw [hb,if_pos rfl] at h
 obtain ⟨s1,a1,h1,h2⟩:=eG h
 obtain ⟨s2,a2,h3,h4⟩:=eG h2
 cases h4
 exact ⟨_,_,_,h1,h3,rfl⟩
theorem XF {k:Nat} (h:Tu l (k+1) s d lp=some (s',add)):∃ s1,sK l (λ s=>CA l (Tu l k) s d lp) 10000 (dM l (Tt l s d) Ci)=some (s1,add)∧s'=dM l s1 nI:=by
 unfold Tu at h
 obtain ⟨s1,a1,h1,h2⟩:=eG h
 cases h2
 exact ⟨_,h1,rfl⟩
end
theorem ON {l:List bF} {cE:adH} {s s':fN} {d lp:Int} {add:List cG} (hb:∀ s d lp s' a,lV l s→cE s d lp=some (s',a)→lV l s') (h0:lV l s) (h:CA l cE s d lp=some (s',add)):lV l s':=by
 by_cases h1:gT l s.at_ 13=13∧lp=0
 ·rw [(Rf h h1).1]; exact sJ h0
 ·obtain ⟨s2,x,h2,h3⟩:=XE h h1
  have h2i:=BQ (Ji h0) h2
  by_cases h4:gT l s.at_ 13≠11∧gT l s.at_ 13≠12
  ·rw [(Hm h3 h4).1]; exact fz h2i
  ·obtain ⟨s3,m1,h5,h6⟩:=Rg h3 h4
   have h3i:=hb _ _ _ _ _ h2i h5
   rcases h6 with ⟨h7,s5,m2,h8,h9,_⟩ | ⟨_,h9,_⟩
   ·rw [h9]
    refine hb _ _ _ _ _ ?_ h8
    unfold kf at h7
    rw [Bool.and_eq_true] at h7
    have:=rM h7.2
    exact ⟨by show 0≤s3.at_+1; omega,by show s3.at_+1≤_; omega⟩
   ·rw [h9]; exact h3i
theorem Rh {l:List bF} {one:fN→Option (fN × List cG)} (ho:∀ s s' a,lV l s→one s=some (s',a)→lV l s'):∀ {m:Nat} {s s':fN} {add:List cG},lV l s→sK l one m s=some (s',add)→lV l s'
 | 0,_,_,_,_,h=>by cases h
 | m+1,s,s',add,h0,h=>by
  cases hb:(decide (s.e=0) && !sH l s.at_ nI) with
  | false=>rw [(Fe h hb).1]; exact h0
  | true=>
   obtain ⟨s1,a1,a2,h1,h2,_⟩:=Jj h hb
   exact Rh ho (ho _ _ _ h0 h1) h2
theorem OO {l:List bF}:∀ {k:Nat} {s s':fN} {d lp:Int} {add:List cG},lV l s→Tu l k s d lp=some (s',add)→lV l s'
 | 0,_,_,_,_,_,_,h=>by cases h
 | k+1,s,s',d,lp,add,h0,h=>by
  obtain ⟨s1,h1,h2⟩:=XF h
  rw [h2]
  exact fz (Rh (λ _ _ _ a b=>ON (λ _ _ _ _ _ c e=>OO c e) a b) (fz (OM h0)) h1)
def pT (p:Nat) (lv:Value) (s:fN) (out:List cG) (Q:World→Prop):HP:=tW λ ov:Value=>tW λ ts:List bX=>sep (cE p (dU lv ov s)) (sep (bK ov ts) (eU (λ w=>jS ts out w∧Q w)))
section
variable {w0 w:World} {A:Nat→Prop} {L:List HP} {p:Nat} {lv:Value} {s:fN} {out:List cG} {Q:World→Prop}
theorem pT.open (hs:St w0 A (pT p lv s out Q::L) w):∃ (ov:Value) (ts:List bX),St w0 A (cE p (dU lv ov s)::bK ov ts::eU (λ w=>jS ts out w∧Q w)::L) w:=by
 obtain ⟨ov,h1⟩:=hs.eV
 obtain ⟨ts,h2⟩:=h1.eV
 exact ⟨ov,ts,h2.split.p1.split.p2⟩
theorem pT.shut {ov:Value} {ts:List bX} (hs:St w0 A (cE p (dU lv ov s)::bK ov ts::eU (λ w=>jS ts out w∧Q w)::L) w):St w0 A (pT p lv s out Q::L) w:=
 St.eP (H:=λ ov:Value=>tW λ ts:List bX=>sep (cE p (dU lv ov s)) (sep (bK ov ts) (eU (λ w=>jS ts out w∧Q w)))) ov (St.eP (H:=λ ts:List bX=>sep (cE p (dU lv ov s)) (sep (bK ov ts) (eU (λ w=>jS ts out w∧Q w)))) ts (St.join (hs.p2.p2.join).p1))
end
def akX (l:List bF) (k:Nat):Prop:=∀ (p:Nat) (lv:Value) (s:fN) (d lp:Int) (out:List cG) (s2:fN) (add:List cG) (Q:World→Prop) (F:Nat→Prop) (w:World),
 (pT p lv s out Q).p w F→(∀ w',ix F w w'→eJ (λ _=>True) w' lv l)→lV l s→0≤d∧d+k≤1001→0≤lp∧lp+k≤1001→out.length+add.length≤1000000→Tu l k s d lp=some (s2,add)→
 Calls PG 256 [.pointer (some ⟨p,0,none⟩),.int .i64 d,.int .i64 lp].toArray w (pU λ v w'=>v = .int .i64 (add.length:Int)∧qn F (pT p lv s2 (out++add) Q) w w')
theorem adI {w:World} {sh:bX} {x:cG} (h:bZ.dr w sh x):DL w (Flat.val sh.e) x.e:=by obtain ⟨_,_,rfl,h,_⟩:=h; exact h
theorem adJ {w:World} {sh:bX} {x:cG} (h:bZ.dr w sh x):DL w (Flat.val sh.f) x.f:=by obtain ⟨_,_,rfl,_,h⟩:=h; exact h
theorem OP {l:List bF} {kd:Int} {s:fN} (h:kf l kd s=true):lV l (XD s):=by
 unfold kf at h
 rw [Bool.and_eq_true] at h
 have:=rM h.2
 exact ⟨by show 0≤s.at_+1; omega,by show s.at_+1≤_; omega⟩
theorem adK {α σ:Type} [Flat σ] [bZ α σ] {w:World} {ts:List σ} {xs:List α} {i:Nat} {t:σ} {x:α} (h:jS ts xs w) (ht:bZ.dr w t x):jS (ts.set i t) (xs.set i x) w:=by
 refine ⟨by rw [List.length_set,List.length_set,h.1],λ j t' x' h1 h2=>?_⟩
 rw [List.getElem?_set] at h1 h2
 by_cases hj:i=j
 ·rw [if_pos hj] at h1 h2
  split at h1
  ·split at h2
   ·cases h1; cases h2; exact ht
   ·cases h2
  ·cases h1
 ·rw [if_neg hj] at h1 h2; exact h.2 _ _ _ h1 h2
theorem XG {α:Type} {a b:List α} {x y:α}:(a++x::b).set a.length y=a++y::b:=by
 rw [List.set_append_right _ _ (Nat.le_refl _),Nat.sub_self,List.set_cons_zero]
set_option maxHeartbeats 4000000 in
theorem C233 (p:Nat) (lv:Value) (l:List bF) (s:fN) (k:Nat) (d lp:Int) (out:List cG) (s2:fN) (add:List cG) (Q:World→Prop) (F:Nat→Prop) (w:World) (hF:(pT p lv s out Q).p w F) (hT:∀ w',ix F w w'→eJ (λ _=>True) w' lv l) (hk:iu l) (h0:lV l s) (HB:akX l k) (hd:0≤d∧d+k≤1000) (L7:0≤lp∧lp+k≤1000) (Tn:out.length+add.length≤1000000) (hr:CA l (Tu l k) s d lp=some (s2,add)):CR 233 [(.pointer (some ⟨p,0,none⟩)),.int .i64 d,.int .i64 lp] w (λ v w'=>v = .tuple #[]∧qn F (pT p lv s2 (out++add) Q) w w'):=by
 have hs:=St.begin hF;obtain ⟨ov,ts,hs⟩:=pT.open hs;have M7:ts.length=out.length:=(hs.p2.eU).1.1;have Fy:=hk.n;have hn:l.length≤1000000:=by omega
 have sW:=hk.at_;obtain ⟨Q7,Q8⟩:=id h0;refine aaP _ _ _ _ _ ?_;unfold S233;refine aE (aA gO (have hs:=hs.drew;aB iL hs.hb rfl (aE (aA eT (aB bL hs.hb rfl (aZ Gp hs (C215 _ l s.at_ _ (hT _ hs.aF) hn sW) (λ w1 he hs=>?_)))))));have hs:=hs.p2.p2.p2;refine ⟨λ mm a b w'=>∃ j:Nat,a = .int .i64 (gT l s.at_ j)∧b = .int .i64 ((j:Int)+2)∧mm=13 - j∧j≤13∧St w F [cE p (dU lv ov s),bK ov ts,eU (λ w=>jS ts out w∧Q w)] w',⟨_,0,rfl,rfl,rfl,Nat.zero_le _,hs⟩,?_⟩;rintro mm _ _ w2 ⟨j,rfl,rfl,rfl,hj,hs⟩ fy;refine j7 (aC (λ iM=>?_) (λ iM=>?_))
 ·refine ⟨_,?_,λ _ _ h=>h⟩;refine aE (aA gO (have hs:=hs.drew;aB iL hs.hb rfl (aE (aA eT (aB bL hs.hb rfl (aZ an6 hs (C253 ((j:Int)+2) _ (by omega)) (λ w3 he hs=>?_)))))));refine ⟨aG iL (hs.hb.cell rfl),?_⟩;refine ⟨aG bL (hs.hb.cell rfl),?_⟩;refine aZ vk hs (C211 _ l s.at_ (Hj ((j:Int)+2)) _ (hT _ hs.aF) hn) (λ w4 he hs=>aX (λ jx=>?_) (λ jx=>?_))
  ·intro jB;refine aO (by omega) ?_;exact ⟨_,by omega,j+1,congrArg (Value.int .i64) (by first | exact (Hk jx).symm | exact (Hl (by rw [jx]; simp)).symm),congrArg (Value.int .i64) (by omega),rfl,by omega,hs⟩
  ·intro jB;refine aO (by omega) ?_;exact ⟨_,by omega,j+1,congrArg (Value.int .i64) (by first | exact (Hk jx).symm | exact (Hl (by rw [jx]; simp)).symm),congrArg (Value.int .i64) (by omega),rfl,by omega,hs⟩
 ·obtain rfl:j=13:=by omega
  have hkb:=Re (l:=l) (a:=s.at_) 13;refine ⟨λ jv w'=>jv = .bool (decide ((gT l s.at_ 13)=13∧lp=0))∧w2=w',?_,?_⟩
  ·refine aH (aC (λ nd=>?_) (λ nd=>?_))
   ·refine aH ?_;exact ⟨wW (by omega),rfl⟩
   ·exact ⟨YU (by omega),rfl⟩
  ·rintro _ w6 ⟨rfl,hw⟩ oS;subst hw;refine aC (λ lU=>?_) (λ lU=>?_)
   ·refine bG Gs hs (H':=λ _=>cE p (dU lv ov (iU l s 5))) (Φ:=λ _ _=>True) (λ F2 eQ eA=>?_) ?_
    ·exact (C254 p lv ov l s 5 F2 _ eQ (λ w' hc=>hT w' (eA w' hc).aF) hk h0).mono λ _ _ r=>r.mono λ _ _ h=>⟨trivial,h.2⟩
    rintro _ w7 _ hs;obtain ⟨e1,e2⟩:=Rf hr lU;rw [e1,e2,List.append_nil];exact ⟨rfl,(pT.shut hs).mut⟩
   ·refine ⟨λ w'=>St w F [cE p (dU lv ov (YH l s)),bK ov ts,eU (λ w=>jS ts out w∧Q w)] w',?_,?_⟩
    ·refine cQ (aC (λ so=>?_) (λ so=>?_))
     ·refine aE (aA eT (aB bL hs.hb rfl (aO (by omega) (aE (aA eT (aV hs bL (eI rfl) (rfl) (λ w8 hs=>?_)))))));have hs:=hs.p2.p2.p2;have Sb:(YH l s)={s with at_:=s.at_+1}:=by unfold YH; rw [if_pos (by omega)]
      rw [Sb];exact hs
     ·have hs:=hs.p2.p2.p2;have Sb:(YH l s)=s:=by unfold YH; rw [if_neg (by omega)]
      rw [Sb];exact hs
    ·intro w9 hs GQ;obtain ⟨q,x,vj,Gl⟩:=XE hr lU;refine bG an7 hs (H':=λ v=>tW λ sh:bX=>fact (v=Flat.val sh) (sep (cE p (dU lv ov q)) (eU (λ w=>bZ.dr w sh x)))) (Φ:=λ _ _=>True) (λ F2 eQ eA=>?_) ?_
     ·exact (C255 p lv ov l (YH l s) (gT l s.at_ 13) (mP l s.at_) q x F2 _ eQ (λ w' hc=>hT w' (eA w' hc).aF) hk (Ji h0) vj).mono λ _ _ r=>r.mono λ _ _ h=>⟨trivial,h⟩
     rintro v_x58 pS _ AG;obtain ⟨ay2,AH⟩:=AG.eV
     clear AG
     obtain ⟨akY,CX⟩:=AH.oE
     clear AH
     subst akY;have hs:=CX.split
     clear CX
     obtain ⟨gB,gC,akZ,hde,hdf⟩:=hs.p1.eU;subst akZ;refine aN hs qA (λ DY sU hs=>have hs:=hs.enc (cs':=Flat.enc (⟨0,(ByteArray.mk #[]),(ByteArray.mk #[]),⟨none,0,0⟩,⟨none,0,0⟩,0,0,0,0⟩:bX)) rfl;aI (x:=(⟨(x).kind,(x).gK,(x).name,gB,gC,(x).n,(x).body,(x).fF,(x).at_⟩:bX)) hs fY rfl rfl (λ vm hs=>aE (aA pD (aB sS hs.p1.hb rfl (aJ j5 (hs.p3).fB (aE (aA pD (have hs:=hs.drew;aB sS hs.p1.hb rfl (aD fY hs.At (bW ([(⟨(x).kind,(x).gK,(x).name,gB,gC,(x).n,(x).body,(x).fF,(x).at_⟩:bX)]) hs j5 rfl rfl (eI rfl) (λ agd vn hs=>?_)))))))))))
     refine ⟨aG sS (hs.p2.hb.cell rfl),?_⟩;have ak0:=(hs).fB;refine cN hs.p4 j5 ak0 (by simp; omega) (by decide) (λ Ri sm hs=>have hs:=hs.p1.drop;aE (aA pD (aV hs.p2 sS (eI rfl) ((hs).fB.one) (λ v7 hs=>?_))));refine ⟨λ jv w'=>jv = .bool (decide ((gT l s.at_ 13)≠11∧(gT l s.at_ 13)≠12))∧St w F [cE p (dU lv Ri q),bK Ri (ts++[(⟨(x).kind,(x).gK,(x).name,gB,gC,(x).n,(x).body,(x).fF,(x).at_⟩:bX)]),eU (λ w=>jS (ts++[(⟨(x).kind,(x).gK,(x).name,gB,gC,(x).n,(x).body,(x).fF,(x).at_⟩:bX)]) (out++[x]) w∧(λ w=>Q w∧bZ.dr w (⟨(x).kind,(x).gK,(x).name,gB,gC,(x).n,(x).body,(x).fF,(x).at_⟩:bX) x) w),cE DY (Flat.enc (⟨(x).kind,(x).gK,(x).name,gB,gC,(x).n,(x).body,(x).fF,(x).at_⟩:bX))] w',?_,?_⟩
     ·refine cQ (aC (λ arO=>?_) (λ arO=>?_))
      ·refine cQ ?_;have hs:=hs.p3.p4.fM.dN (Ψ:=λ w=>jS (ts++[(⟨(x).kind,(x).gK,(x).name,gB,gC,(x).n,(x).body,(x).fF,(x).at_⟩:bX)]) (out++[x]) w∧(λ w=>Q w∧bZ.dr w (⟨(x).kind,(x).gK,(x).name,gB,gC,(x).n,(x).body,(x).fF,(x).at_⟩:bX) x) w) (λ w h=>⟨h.1.1.snoc h.2,h.1.2,h.2⟩);have hs:=hs.p3.p1.p3.p3;exact ⟨vb (by grind),hs⟩
      ·have hs:=hs.p3.p4.fM.dN (Ψ:=λ w=>jS (ts++[(⟨(x).kind,(x).gK,(x).name,gB,gC,(x).n,(x).body,(x).fF,(x).at_⟩:bX)]) (out++[x]) w∧(λ w=>Q w∧bZ.dr w (⟨(x).kind,(x).gK,(x).name,gB,gC,(x).n,(x).body,(x).fF,(x).at_⟩:bX) x) w) (λ w h=>⟨h.1.1.snoc h.2,h.1.2,h.2⟩);have hs:=hs.p3.p1.p3.p3;exact ⟨vb (by grind),hs⟩
     ·rintro _ yZ ⟨rfl,hs⟩ R4;refine aC (λ KT=>?_) (λ KT=>?_)
      ·refine bG xV hs (H':=λ _=>cE p (dU lv Ri (dM l q (ByteArray.mk #[59])))) (Φ:=λ _ _=>True) (λ F2 eQ eA=>?_) ?_
       ·exact (C234 p lv Ri l q (ByteArray.mk #[59]) F2 _ eQ (λ w' hc=>hT w' (eA w' hc).aF) hk (BQ (Ji h0) vj)).mono λ _ _ r=>r.mono λ _ _ h=>⟨trivial,h.2⟩
       rintro _ Cp _ hs;have hs:=(hs.p3.drop.p1.p1.p2).dN (Ψ:=λ w=>jS (ts++[(⟨(x).kind,(x).gK,(x).name,gB,gC,(x).n,(x).body,(x).fF,(x).at_⟩:bX)]) (out++[x]) w∧Q w) (λ w h=>⟨h.1,h.2.1⟩);have hs:=hs.p2.p2;obtain ⟨e1,e2⟩:=Hm Gl KT;rw [e1,e2];exact ⟨rfl,(pT.shut hs).mut⟩
      ·refine ⟨λ jv w'=>jv = .int .i64 (if (gT l s.at_ 13)=12 then lp+1 else lp)∧yZ=w',?_,?_⟩
       ·refine aH (aC (λ arP=>?_) (λ arP=>?_))
        ·refine aO (by omega) ?_;exact ⟨by rw [if_pos (by omega)],rfl⟩
        ·exact ⟨by rw [if_neg (by omega)],rfl⟩
       ·rintro _ Iv ⟨rfl,hw⟩ dd6;subst hw;refine aO (by omega) ?_;have hs:=pT.shut hs.p2.p2.p2;obtain ⟨s3,m1,Ir,Yu⟩:=Rg Gl KT;have hm1:m1.length<add.length:=by rcases Yu with ⟨_,s5,m2,_,_,e⟩ | ⟨_,_,e⟩ <;> rw [e] <;> simp <;> omega
        refine bG aeY hs (H':=λ _=>pT p lv s3 ((out++[x])++m1) (λ w=>Q w∧bZ.dr w (⟨(x).kind,(x).gK,(x).name,gB,gC,(x).n,(x).body,(x).fF,(x).at_⟩:bX) x)) (Φ:=λ v _=>v = .int .i64 (m1.length:Int)) (λ F2 eQ eA=>?_) ?_
        ·exact HB p lv q (d+1) (if (gT l s.at_ 13)=12 then lp+1 else lp) (out++[x]) s3 m1 (λ w=>Q w∧bZ.dr w (⟨(x).kind,(x).gK,(x).name,gB,gC,(x).n,(x).body,(x).fF,(x).at_⟩:bX) x) F2 _ eQ (λ w' hc=>hT w' (eA w' hc).aF) (BQ (Ji h0) vj) (by omega) (by split <;> omega) (by rw [List.length_append,List.length_singleton]; omega) Ir
        rintro _ Jy rfl hs;obtain ⟨ov3,ts3,hs⟩:=pT.open hs;refine aA mZ (aV hs.p3 bL (eI rfl) (rfl) (λ KG hs=>?_));have hs:=hs.enc (cs':=Flat.enc (⟨(x).kind,(x).gK,(x).name,gB,gC,(x).n,(m1.length:Int),(x).fF,(x).at_⟩:bX)) rfl;refine ⟨λ w'=>∃ (bd el:Int) (rest:List cG),add={x with body:=bd,fF:=el}::rest∧St w F [pT p lv s2 ((out++[x])++rest) (λ w=>Q w∧bZ.dr w (⟨(x).kind,(x).gK,(x).name,gB,gC,(x).n,(x).body,(x).fF,(x).at_⟩:bX) x),cE DY (Flat.enc (⟨(x).kind,(x).gK,(x).name,gB,gC,(x).n,bd,el,(x).at_⟩:bX))] w',?_,?_⟩
        ·refine ⟨λ jv w'=>jv = .bool (kf l (gT l s.at_ 13) s3)∧St w F [cE p (dU lv ov3 s3),bK ov3 ts3,eU (λ w=>jS ts3 ((out++[x])++m1) w∧(λ w=>Q w∧bZ.dr w (⟨(x).kind,(x).gK,(x).name,gB,gC,(x).n,(x).body,(x).fF,(x).at_⟩:bX) x) w),cE DY (Flat.enc (⟨(x).kind,(x).gK,(x).name,gB,gC,(x).n,(m1.length:Int),(x).fF,(x).at_⟩:bX))] w',?_,?_⟩
         ·refine aH (aC (λ Ho=>?_) (λ Ho=>?_))
          ·refine aE (aA kp (have hs:=hs.drew;aB nq hs.p1.hb rfl (aH (aC (λ Bm=>?_) (λ Bm=>?_)))))
           ·refine aE (aA gO (aB iL hs.p1.hb rfl (aE (aA eT (aB bL hs.p1.hb rfl (aZ vk hs (C211 _ l s3.at_ (ByteArray.mk #[101,108,115,101]) _ (hT _ hs.aF) hn) (λ MH he hs=>?_)))))));have hs:=hs.p3.p3.p3;exact ⟨vb (by unfold kf; rw [decide_eq_true Ho,decide_eq_true Bm]; rfl),hs⟩
           ·have hs:=hs.p3.p3.p3;exact ⟨vb (by unfold kf; first | (rw [decide_eq_false Ho]; rfl) | (rw [decide_eq_true Ho,decide_eq_false Bm]; rfl)),hs⟩
          ·have hs:=hs.drew.p3.p3.p3;exact ⟨vb (by unfold kf; first | (rw [decide_eq_false Ho]; rfl) | (rw [decide_eq_true Ho,decide_eq_false Bm]; rfl)),hs⟩
         ·rintro _ Qv ⟨rfl,hs⟩ dd7;refine aX (λ qg=>?_) (λ qg=>?_)
          ·obtain ⟨hhe,s5,m2,hb2,e5,sQ⟩ | ⟨hhe,_⟩:=Yu
           rotate_left
           ·rw [hhe] at qg; cases qg
           subst e5;have hin3:=rM (show sH l s3.at_ agv=true by unfold kf at qg; rw [Bool.and_eq_true] at qg; exact qg.2);refine aE (aA eT (aB bL hs.hb rfl (aO (by omega) (aE (aA eT (aV hs bL (eI rfl) (rfl) (λ To hs=>aO (by omega) ?_)))))));have hs:=pT.shut (s:=XD s3) hs.p2.p2.p2;have hkd11:(gT l s.at_ 13)=11:=by unfold kf at qg; simp at qg; exact qg.1.1
           rw [if_neg (show ¬ (gT l s.at_ 13)=12 by omega)];refine bG aeY hs (H':=λ _=>pT p lv s2 (((out++[x])++m1)++m2) (λ w=>Q w∧bZ.dr w (⟨(x).kind,(x).gK,(x).name,gB,gC,(x).n,(x).body,(x).fF,(x).at_⟩:bX) x)) (Φ:=λ v _=>v = .int .i64 (m2.length:Int)) (λ F2 eQ eA=>?_) ?_
           ·exact HB p lv (XD s3) (d+1) lp ((out++[x])++m1) s2 m2 (λ w=>Q w∧bZ.dr w (⟨(x).kind,(x).gK,(x).name,gB,gC,(x).n,(x).body,(x).fF,(x).at_⟩:bX) x) F2 _ eQ (λ w' hc=>hT w' (eA w' hc).aF) (OP qg) (by omega) (by omega) (by have:=congrArg List.length sQ; simp at this ⊢; omega) hb2
           rintro _ VM rfl hs;rw [List.append_assoc (out++[x])] at hs;refine aA iK (aV hs.p1 bL (eI rfl) (rfl) (λ Tp hs=>?_));have hs:=hs.enc (cs':=Flat.enc (⟨(x).kind,(x).gK,(x).name,gB,gC,(x).n,(m1.length:Int),(m2.length:Int),(x).at_⟩:bX)) rfl;have hs:=hs.p1;exact ⟨_,_,_,sQ,hs⟩
          ·obtain ⟨hhe,_⟩ | ⟨hhe,e5,sQ⟩:=Yu
           ·rw [hhe] at qg; cases qg
           subst e5;have hs:=((pT.shut hs.p2.p2.p2).p1).p1;exact ⟨(m1.length:Int),x.fF,m1,sQ,hs⟩
        ·rintro w26 ⟨bd,el,rest,sQ,hs⟩ dd8;obtain ⟨ov5,ts5,hs⟩:=pT.open hs;refine aE (aA pD (have hs:=hs.drew;aB sS hs.hb rfl (aD fY hs.p3.At ?_)));have h5l:ts5.length=(out++[x]++rest).length:=(hs.p2.eU).1.1;have h6l:=congrArg List.length sQ;simp only [List.length_append,List.length_cons,List.length_nil] at h5l h6l;obtain ⟨ay4,atK⟩:=gx (ts5) (i:=(((ts).length:Int)).toNat) (by omega);refine dR hs.p1 j5 (by omega) (by omega) (λ _ ak1=>lJ _ hs.p1 fY ak1 (by omega) (λ w27 hs=>?_));have hs:=(hs.p3.drop.p1.p2).dN (Ψ:=λ w=>jS (ts5.set (ts.length:Int).toNat (⟨(x).kind,(x).gK,(x).name,gB,gC,(x).n,bd,el,(x).at_⟩:bX)) (out++add) w∧Q w) (λ w h=>⟨by
  have hh:=adK (i:=(ts.length:Int).toNat) (t:=(⟨(x).kind,(x).gK,(x).name,gB,gC,(x).n,bd,el,(x).at_⟩:bX)) (x:={x with body:=bd,fF:=el}) h.1 ⟨gB,gC,rfl,adI (x:=x) h.2.2,adJ (x:=x) h.2.2⟩;rw [show (ts.length:Int).toNat=out.length from by omega,List.append_assoc,List.singleton_append,XG] at hh
  rw [sQ,show (ts.length:Int).toNat=out.length from by omega]; exact hh,h.2.1⟩)
         have hs:=hs.p2.p2;exact ⟨rfl,(pT.shut hs).mut⟩
set_option maxHeartbeats 2000000 in
theorem C256 (p:Nat) (lv:Value) (l:List bF) (s:fN) (k:Nat) (d lp:Int) (out:List cG) (s2:fN) (add:List cG) (Q:World→Prop) (F:Nat→Prop) (w:World) (hF:(pT p lv s out Q).p w F) (hT:∀ w',ix F w w'→eJ (λ _=>True) w' lv l) (hk:iu l) (h0:lV l s) (HB:akX l k) (hd:0≤d∧d+k≤1000) (L7:0≤lp∧lp+k≤1000) (Tn:out.length+add.length≤1000000) (hr:Tu l (k+1) s d lp=some (s2,add)):CR 256 [(.pointer (some ⟨p,0,none⟩)),.int .i64 d,.int .i64 lp] w (λ v w'=>v = .int .i64 (add.length:Int)∧qn F (pT p lv s2 (out++add) Q) w w'):=by
 have hs:=St.begin hF;obtain ⟨ov,ts,hs⟩:=pT.open hs;have M7:ts.length=out.length:=(hs.p2.eU).1.1;obtain ⟨s9,JA,e2⟩:=XF hr;have Fy:=hk.n;have hn:l.length≤1000000:=by omega
 have sW:=hk.at_;obtain ⟨Q7,Q8⟩:=id h0;refine abc _ _ _ _ _ ?_;unfold S256;refine aE (aA pD (aB sS hs.hb rfl (aJ j5 (hs.p1).fB ?_)));refine ⟨λ w'=>St w F [cE p (dU lv ov (Tt l s d)),bK ov ts,eU (λ w=>jS ts out w∧Q w)] w',?_,?_⟩
 ·refine ⟨λ jv w'=>jv = .bool (decide (12<d) && sH l s.at_ Ci)∧St w F [cE p (dU lv ov s),bK ov ts,eU (λ w=>jS ts out w∧Q w)] w',?_,?_⟩
  ·refine dB (aC (λ gQ=>?_) (λ gQ=>?_))
   ·refine aE (aA gO (have hs:=hs.drew;aB iL hs.hb rfl (aE (aA eT (aB bL hs.hb rfl (aZ vk hs (C211 _ l s.at_ (ByteArray.mk #[123]) _ (hT _ hs.aF) hn) (λ w1 he hs=>?_)))))));exact ⟨vb (by first | (rw [decide_eq_true (show 12<d by omega)]; rfl) | (rw [decide_eq_false (show ¬ 12<d by omega)]; rfl)),hs⟩
   ·have hs:=hs.drew;exact ⟨vb (by first | (rw [decide_eq_true (show 12<d by omega)]; rfl) | (rw [decide_eq_false (show ¬ 12<d by omega)]; rfl)),hs⟩
  ·rintro _ w2 ⟨rfl,hs⟩ fy;refine aX (λ fQ=>?_) (λ fQ=>?_)
   ·refine bG Gs hs (H':=λ _=>cE p (dU lv ov (iU l s 7))) (Φ:=λ _ _=>True) (λ F2 eQ eA=>?_) ?_
    ·exact (C254 p lv ov l s 7 F2 _ eQ (λ w' hc=>hT w' (eA w' hc).aF) hk h0).mono λ _ _ r=>r.mono λ _ _ h=>⟨trivial,h.2⟩
    rintro _ w3 _ hs;have hs:=hs.p2.p2.p2;have h7:Tt l s d=iU l s 7:=by unfold Tt; rw [if_pos fQ]
    rw [h7]; exact hs
   ·have hs:=hs.p2.p2.p2;have h7:Tt l s d=s:=by unfold Tt; rw [if_neg (by rw [fQ]; simp)]
    rw [h7]; exact hs
 ·intro w4 hs jB;refine bG xV hs (H':=λ _=>cE p (dU lv ov (dM l (Tt l s d) (ByteArray.mk #[123])))) (Φ:=λ _ _=>True) (λ F2 eQ eA=>?_) ?_
  ·exact (C234 p lv ov l (Tt l s d) (ByteArray.mk #[123]) F2 _ eQ (λ w' hc=>hT w' (eA w' hc).aF) hk (OM h0)).mono λ _ _ r=>r.mono λ _ _ h=>⟨trivial,h.2⟩
  rintro _ w5 _ hs;have hs:=pT.shut (s:=dM l (Tt l s d) Ci) hs.p2.p2.p2;refine ⟨λ mm w'=>∃ (s1:fN) (o1 a2:List cG),lV l s1∧sK l (λ s=>CA l (Tu l k) s d lp) mm s1=some (s9,a2)∧add=o1++a2∧St w F [pT p lv s1 (out++o1) Q] w',⟨10000,_,[],add,fz (OM h0),JA,rfl,by rw [List.append_nil]; exact hs⟩,?_⟩;rintro mm w6 ⟨s1,o1,a2,Mc,Ir,sQ,hs⟩ oS;obtain ⟨m,rfl⟩:=Hn Ir;obtain ⟨ov1,Yw,hs⟩:=pT.open hs;have adM:Yw.length=(out++o1).length:=(hs.p2.eU).1.1;rw [List.length_append] at adM;refine ⟨λ jv w'=>jv = .bool (decide (s1.e=0) && !sH l s1.at_ nI)∧St w F [cE p (dU lv ov1 s1),bK ov1 Yw,eU (λ w=>jS Yw (out++o1) w∧Q w)] w',?_,?_⟩
  ·refine aE (aA kp (have hs:=hs.drew;aB nq hs.hb rfl (aH (aC (λ iC=>?_) (λ iC=>?_)))))
   ·refine aE (aA gO (aB iL hs.hb rfl (aE (aA eT (aB bL hs.hb rfl (aZ vk hs (C211 _ l s1.at_ (ByteArray.mk #[125]) _ (hT _ hs.aF) hn) (λ w7 he hs=>cB ?_)))))));have hs:=hs.p2.p2.p2;exact ⟨vb (by first | (rw [decide_eq_true iC]; rfl) | (rw [decide_eq_false iC]; rfl)),hs⟩
   ·have hs:=hs.p2.p2.p2;exact ⟨vb (by first | (rw [decide_eq_true iC]; rfl) | (rw [decide_eq_false iC]; rfl)),hs⟩
  ·rintro _ w8 ⟨rfl,hs⟩ GQ;refine aX (λ so=>?_) (λ so=>?_)
   ·obtain ⟨s3,a1,a3,ho,hb3,rfl⟩:=Jj Ir so;have hs:=pT.shut hs.p2.p2.p2;refine bG aeX hs (H':=λ _=>pT p lv s3 ((out++o1)++a1) Q) (Φ:=λ _ _=>True) (λ F2 eQ eA=>?_) ?_
    ·exact (C233 p lv l s1 k d lp (out++o1) s3 a1 Q F2 _ eQ (λ w' hc=>hT w' (eA w' hc).aF) hk Mc HB (by omega) (by omega) (by have:=congrArg List.length sQ; simp at this ⊢; omega) ho).mono λ _ _ r=>r.mono λ _ _ h=>⟨trivial,h.2⟩
    rintro _ w9 _ hs;exact ⟨_,by omega,s3,o1++a1,a3,ON (λ _ _ _ _ _ c e=>OO c e) Mc ho,hb3,by rw [sQ,List.append_assoc],by rw [← List.append_assoc]; exact hs⟩
   ·obtain ⟨e9,rfl⟩:=Fe Ir so;replace e9:=e9.symm;subst e9;rw [List.append_nil] at sQ;subst sQ;refine bG xV hs (H':=λ _=>cE p (dU lv ov1 (dM l s1 (ByteArray.mk #[125])))) (Φ:=λ _ _=>True) (λ F2 eQ eA=>?_) ?_
    ·exact (C234 p lv ov1 l s1 (ByteArray.mk #[125]) F2 _ eQ (λ w' hc=>hT w' (eA w' hc).aF) hk Mc).mono λ _ _ r=>r.mono λ _ _ h=>⟨trivial,h.2⟩
    rintro _ pS _ hs;refine aE (aA pD (aB sS hs.hb rfl (aJ j5 (hs.p1).fB (gA (by omega) ?_))));rw [e2];exact ⟨congrArg (Value.int .i64) (by omega),(pT.shut hs).mut⟩
theorem arR {l:List bF} (hk:iu l):∀ k,akX l k
 | 0=>λ p lv s d lp out s2 add Q F w _ _ _ _ _ _ h=>by cases h
 | k+1=>λ p lv s d lp out s2 add Q F w hF hT h0 hd L7 Tn h=>C256 p lv l s k d lp out s2 add Q F w hF hT hk h0 (arR hk k) (by omega) (by omega) Tn h
def tA (i:Int):fN:=⟨i,0,0⟩
def Ff (l:List bF) (i op:Int):Option (List cG × Int × Int × Int):=
 (sK l (λ s=>CA l (Tu l 20) s 0 0) 10000 (tA i)).bind λ r=>
  if 1000000<r.2.length then none else if (dM l r.1 nI).e≠0 then some ([],0,(dM l r.1 nI).e,(dM l r.1 nI).pos)
  else if 40<r.2.length then some ([],0,2,(oK l op).at_)
  else some (r.2,(dM l r.1 nI).at_,0,0)
def Jk (l:List bF) (s:fN):Bool:=match kD l s.at_ with | some t=>decide (t.kind=2) | none=>false
def fg (l:List bF) (nb:Bool) (s:fN):fN × dG:=
 if (nb && (gM l (eW l s).1 JB).2)=true then
  (if Jk l (gM l (eW l s).1 JB).1=true then (XD (gM l (eW l s).1 JB).1,{ (eW l s).2 with n:=(oK l (gM l (eW l s).1 JB).1.at_).n})
  else (iU l (gM l (eW l s).1 JB).1 5,(eW l s).2))
 else eW l s
abbrev BR:ByteArray:=⟨#[44]⟩
abbrev Rj:ByteArray:=⟨#[59]⟩
def pd (l:List bF) (nb:Bool):Nat→Bool→fN→Option (fN × List dG)
 | 0,_,_=>none
 | m+1,more,s=>if (more && decide (s.e=0))=true then (pd l nb m (gM l (fg l nb s).1 BR).2 (gM l (fg l nb s).1 BR).1).bind λ r=>some (r.1,(fg l nb s).2::r.2) else some (s,[])
def mQ (l:List bF) (nb:Bool) (s:fN):Option (fN × List dG):=(pd l nb 10000 true s).bind λ r=>if 1000000<r.2.length then none else some (dM l r.1 Rj,r.2)
abbrev SM:ByteArray:=⟨#[114,101,103]⟩
def AN (l:List bF) (s:fN):Option (fN × List ByteArray):=
 if (gM l s SM).2=true then (mQ l false (gM l s SM).1).bind λ r=>some (r.1,r.2.map dG.name) else some (s,[])
def sL (l:List bF) (s:fN) (nm:ByteArray) (a:Int):Option (fN × dQ):=
 (AN l (dM l s Ci)).bind λ r=>
  if r.1.e≠0 then some (r.1,⟨nm,r.2,[],a⟩)
  else (Ff l r.1.at_ s.at_).bind λ R=>if 0≤R.2.1∧R.2.1≤l.length then some (⟨R.2.1,R.2.2.1,R.2.2.2⟩,⟨nm,r.2,R.1,a⟩) else none
def wM (l:List bF) (s:fN) (a:Int):Option (fN × jA):=
 (vx l s.at_).bind λ R=>if R.2.2.1≠0 then some ({s with e:=R.2.2.1,pos:=R.2.2.2},⟨[],0⟩)
  else if 0≤R.2.1∧R.2.1≤l.length then some (dM l {s with at_:=R.2.1} Rj,⟨R.1,a⟩) else none
def mJ {α:Type} (l:List bF) (t:ByteArray) (rd:fN→Option (fN × α)):Nat→fN→Option (fN × List α)
 | 0,_=>none
 | m+1,s=>if (gM l s t).2=true then (rd (gM l s t).1).bind λ r=>(mJ l t rd m r.1).bind λ q=>some (q.1,r.2::q.2) else some (s,[])
def yX (l:List bF) (s:fN):Int:=(oK l (s.at_ - 1)).at_
def OQ (l:List bF) (s:fN):Option (fN × List dQ):=
 if (gM l s ⟨#[114,101,99,111,118,101,114]⟩).2=true then (sL l (gM l s ⟨#[114,101,99,111,118,101,114]⟩).1 ⟨#[]⟩ (yX l (gM l s ⟨#[114,101,99,111,118,101,114]⟩).1)).bind λ r=>some (r.1,[r.2]) else some (s,[])
abbrev XH:ByteArray:=⟨#[108,105,110,101]⟩
abbrev ak2:ByteArray:=⟨#[118,111,108]⟩
abbrev XI:ByteArray:=⟨#[108,111,99,107]⟩
abbrev Jl:ByteArray:=⟨#[116,104,114,101,97,100]⟩
abbrev Jm:ByteArray:=⟨#[97,108,119,97,121,115]⟩
def ak3 (l:List bF) (s:fN):Option (fN × dQ):=sL l (eW l s).1 (eW l s).2.name (eW l s).2.at_
def F4 (l:List bF) (s:fN):fN:=if s.at_<l.length then iU l s 5 else s
def Md:cU:=⟨[],[],[],[],[],[]⟩
def rO (t:ByteArray):Option (cU × Int × Int):=
 (ux t).bind λ L=>if L.2.1≠0 then some (Md,L.2.1,L.2.2) else
 (mJ L.1 XH (mQ L.1 true) 10000 (tA 0)).bind λ r1=>
 (mJ L.1 ak2 (mQ L.1 true) 10000 r1.1).bind λ r2=>
 (mJ L.1 XI (mQ L.1 false) 10000 r2.1).bind λ r3=>
 (mJ L.1 Jl (ak3 L.1) 10000 r3.1).bind λ r4=>
 (OQ L.1 r4.1).bind λ r5=>
 (mJ L.1 Jm (λ s=>wM L.1 s (yX L.1 s)) 10000 r5.1).bind λ r6=>
  if 1000000<r1.2.length∨1000000<r2.2.flatten.length∨1000000<r3.2.flatten.length∨1000000<r4.2.length∨1000000<r6.2.length then none else if (F4 L.1 r6.1).e≠0 then some (Md,(F4 L.1 r6.1).e,(F4 L.1 r6.1).pos) else some (⟨r1.2,r2.2.flatten,r3.2.flatten,r4.2,r5.2,r6.2⟩,0,0)
section
variable {l:List bF} {s s':fN}
theorem XJ {t:ByteArray} (h:(gM l s t).2=true):gM l s t=({s with at_:=s.at_+1},true)∧s.e=0∧0≤s.at_∧s.at_<l.length:=by
 unfold gM at h ⊢
 split at h
 ·rename_i h2
  rw [if_pos h2]
  rw [Bool.and_eq_true,decide_eq_true_eq] at h2
  exact ⟨rfl,h2.1,rM h2.2⟩
 ·cases h
theorem wN {t:ByteArray} (h:(gM l s t).2=false):gM l s t=(s,false):=by
 unfold gM at h ⊢
 split at h
 ·cases h
 ·rename_i h2; rw [if_neg h2]
theorem Fg {nb:Bool} (h:lV l s):lV l (fg l nb s).1:=by
 have h1:=uy h
 have h2:=jY (t:=JB) h1
 unfold fg
 split
 ·split
  ·rename_i h3
   unfold Jk at h3
   cases ht:kD l (gM l (eW l s).1 JB).1.at_ with
   | none=>rw [ht] at h3; cases h3
   | some t=>
    have:=mu ht
    exact ⟨by show 0≤(gM l (eW l s).1 JB).1.at_+1; omega,by show (gM l (eW l s).1 JB).1.at_+1≤_; omega⟩
  ·exact sJ h2
 ·exact h1
theorem Hp {nb:Bool}:∀ {m:Nat} {more:Bool} {s s':fN} {x:List dG},lV l s→pd l nb m more s=some (s',x)→lV l s'
 | 0,_,_,_,_,_,h=>by cases h
 | m+1,more,s,s',x,h0,h=>by
  unfold pd at h
  split at h
  ·obtain ⟨q,y,h1,h2⟩:=eG h
   cases h2
   exact Hp (jY (Fg h0)) h1
  ·cases h; exact h0
theorem xu {nb:Bool} {x:List dG} (h:mQ l nb s=some (s',x)):∃ s1,pd l nb 10000 true s=some (s1,x)∧s'=dM l s1 Rj∧x.length≤1000000:=by
 unfold mQ at h
 obtain ⟨q,y,h1,h2⟩:=eG h
 dsimp only at h2
 split at h2
 ·cases h2
 ·cases h2; exact ⟨_,h1,rfl,by omega⟩
theorem xw {nb:Bool} {x:List dG} (h0:lV l s) (h:mQ l nb s=some (s',x)):lV l s':=by
 obtain ⟨s1,h1,h2,_⟩:=xu h
 rw [h2]; exact fz (Hp h0 h1)
theorem Me {nb more:Bool} {m:Nat} {x:List dG} (h:pd l nb m more s=some (s',x)):∃ k,m=k+1:=by
 cases m with
 | zero=>cases h
 | succ k=>exact ⟨k,rfl⟩
theorem Fh {nb more:Bool} {m:Nat} {x:List dG} (h:pd l nb (m+1) more s=some (s',x)) (hb:(more && decide (s.e=0))=false):s'=s∧x=[]:=by
 unfold pd at h; rw [hb,if_neg (by simp)] at h; cases h; exact ⟨rfl,rfl⟩
theorem SN {nb more:Bool} {m:Nat} {x:List dG} (h:pd l nb (m+1) more s=some (s',x)) (hb:(more && decide (s.e=0))=true):∃ y,pd l nb m (gM l (fg l nb s).1 BR).2 (gM l (fg l nb s).1 BR).1=some (s',y)∧x=(fg l nb s).2::y:=by
 unfold pd at h; rw [hb,if_pos rfl] at h
 obtain ⟨q,y,h1,h2⟩:=eG h
 cases h2
 exact ⟨_,h1,rfl⟩
theorem Mf {x:List ByteArray} (h0:lV l s) (h:AN l s=some (s',x)):lV l s':=by
 unfold AN at h
 split at h
 ·obtain ⟨q,y,h1,h2⟩:=eG h
  cases h2
  exact xw (jY h0) h1
 ·cases h; exact h0
theorem Fi {nm:ByteArray} {a:Int} {x:dQ} (h0:lV l s) (h:sL l s nm a=some (s',x)):lV l s':=by
 unfold sL at h
 obtain ⟨q,y,h1,h2⟩:=eG h
 have h3:=Mf (fz h0) h1
 dsimp only at h2
 split at h2
 ·cases h2; exact h3
 ·cases hr:Ff l q.at_ s.at_ with
  | none=>rw [hr] at h2; cases h2
  | some R=>
   rw [hr] at h2
   simp only [Option.bind_some] at h2
   split at h2
   ·rename_i h4; cases h2; exact h4
   ·cases h2
theorem SO {a:Int} {x:jA} (h0:lV l s) (h:wM l s a=some (s',x)):lV l s':=by
 unfold wM at h
 cases hr:vx l s.at_ with
 | none=>rw [hr] at h; cases h
 | some R=>
  rw [hr] at h
  simp only [Option.bind_some] at h
  split at h
  ·cases h; exact h0
  ·split at h
   ·rename_i h4; cases h; exact fz h4
   ·cases h
theorem rP {α:Type} {t:ByteArray} {rd:fN→Option (fN × α)} {m:Nat} {x:List α} (h:mJ l t rd m s=some (s',x)):∃ k,m=k+1:=by
 cases m with
 | zero=>cases h
 | succ k=>exact ⟨k,rfl⟩
theorem uA {α:Type} {t:ByteArray} {rd:fN→Option (fN × α)} {m:Nat} {x:List α} (h:mJ l t rd (m+1) s=some (s',x)) (hb:(gM l s t).2=false):s'=s∧x=[]:=by
 unfold mJ at h; rw [hb,if_neg (by simp)] at h; cases h; exact ⟨rfl,rfl⟩
theorem wO {α:Type} {t:ByteArray} {rd:fN→Option (fN × α)} {m:Nat} {x:List α} (h:mJ l t rd (m+1) s=some (s',x)) (hb:(gM l s t).2=true):∃ s1 y z,rd (gM l s t).1=some (s1,y)∧mJ l t rd m s1=some (s',z)∧x=y::z:=by
 unfold mJ at h; rw [hb,if_pos rfl] at h
 obtain ⟨q,y,h1,h2⟩:=eG h
 obtain ⟨q2,y2,h3,h4⟩:=eG h2
 cases h4
 exact ⟨_,_,_,h1,h3,rfl⟩
end
def noQ:World→Prop:=λ _=>True
theorem AO {l:List bF} {i:Int} {t:bF} (h0:0≤i) (h:l[i.toNat]? = some t):oK l i=t:=by
 unfold oK kD; rw [if_pos h0,h]; rfl
theorem adN {l:List bF} {i op:Int} {R:List cG × Int × Int × Int} (h:Ff l i op=some R):∃ s9 add,sK l (λ s=>CA l (Tu l 20) s 0 0) 10000 (tA i)=some (s9,add)∧add.length≤1000000∧
  ((dM l s9 nI).e≠0→R=([],0,(dM l s9 nI).e,(dM l s9 nI).pos))∧(¬ (dM l s9 nI).e≠0→40<(add.length:Int)→R=([],0,2,(oK l op).at_))∧
  (¬ (dM l s9 nI).e≠0→¬ 40<(add.length:Int)→R=(add,(dM l s9 nI).at_,0,0)):=by
 unfold Ff at h
 obtain ⟨q,y,h1,h2⟩:=eG h
 dsimp only at h2
 split at h2
 ·cases h2
 ·rename_i hl
  refine ⟨q,y,h1,by omega,λ he=>?_,λ he hb=>?_,λ he hb=>?_⟩
  ·rw [if_pos he] at h2; exact (Option.some.inj h2).symm
  ·rw [if_neg he,if_pos (by omega)] at h2; exact (Option.some.inj h2).symm
  ·rw [if_neg he,if_neg (by omega)] at h2; exact (Option.some.inj h2).symm
section
variable {l:List bF} {s s':fN} {nb:Bool}
theorem SP (hn:nb=true) (h2:(gM l (eW l s).1 JB).2=true) (h3:Jk l (gM l (eW l s).1 JB).1=true) :
  fg l nb s=(XD (gM l (eW l s).1 JB).1,{ (eW l s).2 with n:=(oK l (gM l (eW l s).1 JB).1.at_).n}):=by
 unfold fg; rw [hn,h2,if_pos (show (true && true)=true from rfl),if_pos h3]
theorem SQ (hn:nb=true) (h2:(gM l (eW l s).1 JB).2=true) (h3:Jk l (gM l (eW l s).1 JB).1=false) :
  fg l nb s=(iU l (gM l (eW l s).1 JB).1 5,(eW l s).2):=by
 unfold fg; rw [hn,h2,if_pos (show (true && true)=true from rfl),if_neg (by rw [h3]; simp)]
theorem XK (h2:(gM l (eW l s).1 JB).2=false):fg l nb s=((gM l (eW l s).1 JB).1,(eW l s).2):=by
 unfold fg; rw [if_neg (by rw [h2]; simp),wN h2]
theorem XL (hn:nb=false):fg l nb s=((eW l s).1,(eW l s).2):=by
 unfold fg; rw [if_neg (by rw [hn]; simp)]
theorem adO {q:fN} (h:Jk l q=true):∃ tk,kD l q.at_=some tk∧l[q.at_.toNat]? = some tk∧0≤q.at_∧q.at_<l.length:=by
 unfold Jk at h
 cases ht:kD l q.at_ with
 | none=>rw [ht] at h; cases h
 | some tk=>have:=mu ht; exact ⟨tk,rfl,this.2.2,this.1,this.2.1⟩
theorem Hq {x:List ByteArray} (h:AN l s=some (s',x)) (h1:(gM l s SM).2=true):∃ ys,mQ l false (gM l s SM).1=some (s',ys)∧x=ys.map dG.name:=by
 unfold AN at h; rw [if_pos h1] at h
 obtain ⟨q,y,h2,h3⟩:=eG h
 cases h3
 exact ⟨y,h2,rfl⟩
theorem Mg {x:List ByteArray} (h:AN l s=some (s',x)) (h1:(gM l s SM).2=false):s'=s∧x=[]:=by
 unfold AN at h; rw [if_neg (by rw [h1]; simp)] at h
 cases h; exact ⟨rfl,rfl⟩
theorem OR {nm:ByteArray} {a:Int} {x:dQ} (h:sL l s nm a=some (s',x)):∃ q rs,AN l (dM l s Ci)=some (q,rs)∧
  (q.e≠0→s'=q∧x=⟨nm,rs,[],a⟩)∧(¬ q.e≠0→∃ R,Ff l q.at_ s.at_=some R∧0≤R.2.1∧R.2.1≤l.length∧s'=⟨R.2.1,R.2.2.1,R.2.2.2⟩∧x=⟨nm,rs,R.1,a⟩):=by
 unfold sL at h
 obtain ⟨q,rs,h1,h2⟩:=eG h
 refine ⟨q,rs,h1,λ he=>?_,λ he=>?_⟩
 ·dsimp only at h2; rw [if_pos he] at h2; cases h2; exact ⟨rfl,rfl⟩
 ·dsimp only at h2; rw [if_neg he] at h2
  cases hr:Ff l q.at_ s.at_ with
  | none=>rw [hr] at h2; cases h2
  | some R=>
   rw [hr] at h2
   simp only [Option.bind_some] at h2
   split at h2
   ·rename_i h4; cases h2; exact ⟨R,rfl,h4.1,h4.2,rfl,rfl⟩
   ·cases h2
theorem SR {a:Int} {x:jA} (h:wM l s a=some (s',x)):∃ R,vx l s.at_=some R∧
  (R.2.2.1≠0→s'={s with e:=R.2.2.1,pos:=R.2.2.2}∧x=⟨[],0⟩)∧(¬ R.2.2.1≠0→(0≤R.2.1∧R.2.1≤l.length)∧s'=dM l {s with at_:=R.2.1} Rj∧x=⟨R.1,a⟩):=by
 unfold wM at h
 cases hr:vx l s.at_ with
 | none=>rw [hr] at h; cases h
 | some R=>
  rw [hr] at h
  simp only [Option.bind_some] at h
  refine ⟨R,rfl,λ he=>?_,λ he=>?_⟩
  ·rw [if_pos he] at h; cases h; exact ⟨rfl,rfl⟩
  ·rw [if_neg he] at h
   split at h
   ·rename_i h4; cases h; exact ⟨h4,rfl,rfl⟩
   ·cases h
theorem ak4 {e:Int} (he:e≠0) (h:(iU l s e).e=0):False:=by
 unfold iU at h
 split at h
 ·dsimp only at h; split at h <;> omega
 ·rename_i h1; exact h1 h
theorem adP {t:ByteArray} (h:(dM l s t).e=0):sH l s.at_ t=true:=by
 unfold dM at h
 split at h
 ·rename_i h1; rw [Bool.and_eq_true] at h1; exact h1.2
 ·exact (ak4 (by decide) h).elim
theorem arT {t:ByteArray}:(gM l s t).1.e=s.e:=by unfold gM; split <;> rfl
theorem SS {e:Int} (h:s.e≠0):(iU l s e).e≠0:=by unfold iU; rw [if_neg h]; exact h
theorem OS {t:ByteArray} (h:s.e≠0):(dM l s t).e≠0:=by
 unfold dM; rw [if_neg (by rw [Bool.and_eq_true,decide_eq_true_eq]; exact λ hh=>h hh.1)]; exact SS h
theorem Mh:∀ {m:Nat} {more:Bool} {s s':fN} {x:List dG},s.e≠0→pd l nb m more s=some (s',x)→s'.e≠0
 | 0,_,_,_,_,_,h=>by cases h
 | m+1,more,s,s',x,h0,h=>by
  have:=Fh h (by rw [decide_eq_false h0,Bool.and_false])
  rw [this.1]; exact h0
theorem Mi {x:List dG} (h0:s.e≠0) (h:mQ l nb s=some (s',x)):s'.e≠0:=by
 obtain ⟨s1,h1,h2,_⟩:=xu h
 rw [h2]; exact OS (Mh h0 h1)
theorem OT {x:List ByteArray} (h0:s.e≠0) (h:AN l s=some (s',x)):s'.e≠0:=by
 cases h1:(gM l s SM).2 with
 | true=>obtain ⟨ys,h2,_⟩:=Hq h h1; exact Mi (by rw [arT]; exact h0) h2
 | false=>rw [(Mg h h1).1]; exact h0
end
theorem F5 {α β:Type} {f:α→β} {l:List α} {k:Nat} {e:α} (h:l[k]? = some e):(l.take k).map f++[f e]=(l.take (k+1)).map f:=by
 rw [← gX h,List.map_append]; rfl
theorem Mj {l:List bF} {s s':fN} {x:List dQ} (h:OQ l s=some (s',x)) (h1:(gM l s ⟨#[114,101,99,111,118,101,114]⟩).2=true):∃ y,sL l (gM l s ⟨#[114,101,99,111,118,101,114]⟩).1 ⟨#[]⟩ (yX l (gM l s ⟨#[114,101,99,111,118,101,114]⟩).1)=some (s',y)∧x=[y]:=by
 unfold OQ at h; rw [if_pos h1] at h
 obtain ⟨q,y,h2,h3⟩:=eG h
 cases h3
 exact ⟨y,h2,rfl⟩
theorem Rk {l:List bF} {s s':fN} {x:List dQ} (h:OQ l s=some (s',x)) (h1:(gM l s ⟨#[114,101,99,111,118,101,114]⟩).2=false):s'=s∧x=[]:=by
 unfold OQ at h; rw [if_neg (by rw [h1]; simp)] at h
 cases h; exact ⟨rfl,rfl⟩
theorem SU {t:ByteArray} {l:List bF} {e a:Int} {R:cU × Int × Int} (h:rO t=some R) (hs:ux t=some (l,e,a)) (he:e≠0):R=(Md,e,a):=by
 unfold rO at h; rw [hs] at h
 simp only [Option.bind_some] at h
 rw [if_pos he] at h; exact (Option.some.inj h).symm
theorem OU {t:ByteArray} {R:cU × Int × Int} (h:rO t=some R):∃ l e a,ux t=some (l,e,a):=by
 unfold rO at h
 cases hs:ux t with
 | none=>rw [hs] at h; cases h
 | some L=>exact ⟨L.1,L.2.1,L.2.2,rfl⟩
structure ak5 (l:List bF) (R:cU × Int × Int) (t1 t2 t3 t4 t5 t6:fN) (y1:List (List dG)) (y2 y3:List (List dG)) (y4 y5:List dQ) (y6:List jA):Prop where
 h1:mJ l XH (mQ l true) 10000 (tA 0)=some (t1,y1)
 h2:mJ l ak2 (mQ l true) 10000 t1=some (t2,y2)
 h3:mJ l XI (mQ l false) 10000 t2=some (t3,y3)
 h4:mJ l Jl (ak3 l) 10000 t3=some (t4,y4)
 h5:OQ l t4=some (t5,y5)
 h6:mJ l Jm (λ s=>wM l s (yX l s)) 10000 t5=some (t6,y6)
 b1:y1.length≤1000000
 b2:y2.flatten.length≤1000000
 b3:y3.flatten.length≤1000000
 b4:y4.length≤1000000
 b6:y6.length≤1000000
 bad:(F4 l t6).e≠0→R=(Md,(F4 l t6).e,(F4 l t6).pos)
 ay5:¬ (F4 l t6).e≠0→R=(⟨y1,y2.flatten,y3.flatten,y4,y5,y6⟩,0,0)
theorem XM {t:ByteArray} {l:List bF} {e a:Int} {R:cU × Int × Int} (h:rO t=some R) (hs:ux t=some (l,e,a)) (he:¬ e≠0):∃ t1 t2 t3 t4 t5 t6 y1 y2 y3 y4 y5 y6,ak5 l R t1 t2 t3 t4 t5 t6 y1 y2 y3 y4 y5 y6:=by
 unfold rO at h; rw [hs] at h
 simp only [Option.bind_some] at h
 rw [if_neg he] at h
 obtain ⟨t1,y1,h1,h⟩:=eG h
 obtain ⟨t2,y2,h2,h⟩:=eG h
 obtain ⟨t3,y3,h3,h⟩:=eG h
 obtain ⟨t4,y4,h4,h⟩:=eG h
 obtain ⟨t5,y5,h5,h⟩:=eG h
 obtain ⟨t6,y6,h6,h⟩:=eG h
 dsimp only at h
 split at h
 ·cases h
 ·rename_i hb
  simp only [not_or,Nat.not_lt] at hb
  refine ⟨t1,t2,t3,t4,t5,t6,y1,y2,y3,y4,y5,y6,h1,h2,h3,h4,h5,h6,hb.1,hb.2.1,hb.2.2.1,hb.2.2.2.1,hb.2.2.2.2,λ hh=>?_,λ hh=>?_⟩
  ·rw [if_pos hh] at h; exact (Option.some.inj h).symm
  ·rw [if_neg hh] at h; exact (Option.some.inj h).symm
theorem adQ {l:List bF} {s s':fN} {x:List dQ} (h0:lV l s) (h:OQ l s=some (s',x)):lV l s':=by
 cases h1:(gM l s ⟨#[114,101,99,111,118,101,114]⟩).2 with
 | true=>obtain ⟨y,h2,_⟩:=Mj h h1; exact Fi (jY h0) h2
 | false=>rw [(Rk h h1).1]; exact h0
theorem AP {α:Type} {a:List (List α)} {b:List α}:(a++[b]).flatten=a.flatten++b:=by simp
theorem Rl {α:Type} {y a c:List (List α)} {b:List α} (h:y=a++b::c):a.flatten.length+b.length≤y.flatten.length:=by rw [h]; simp
theorem C213 (l:List bF) (lv:Value) (i op:Int) (R:List cG × Int × Int × Int) (w:World) (hL:eJ (λ _=>True) w lv l) (hk:iu l) (h0:0≤i∧i≤l.length) (jQ:0≤op∧op<l.length) (hr:Ff l i op=some R):CR 213 [lv,.int .i64 i,.int .i64 op] w (λ v w'=>∃ sv:SV,v = .tuple #[Flat.val sv,.int .i64 R.2.1,.int .i64 R.2.2.1,.int .i64 R.2.2.2]∧lY (eU (λ w=>DL w (Flat.val sv) R.1)) w w'):=by
 have Fy:=hk.n;have hn:l.length≤1000000:=by omega
 have sW:=hk.at_;obtain ⟨s9,add,JA,Tn,hR⟩:=adN hr;obtain ⟨lsv,hlv⟩:=hL.fR;have hs:=St.start w;refine aaw _ _ _ _ _ ?_;unfold S213;rw [hlv];refine pop (Ni _ _ _ _) (l5 hs (λ arV w1 hs=>?_));obtain ⟨p,rfl⟩:∃ p,p=arV:=⟨_,rfl⟩;have hs:=hs.enc (cs':=dU (Flat.val lsv) (.slice none 0 0) (tA i)) rfl;rw [← hlv] at hs ⊢;have hT:∀ w',ix bD w w'→eJ (λ _=>True) w' lv l:=λ w' hc=>hL.ext hc;have hs:=((hs.gF (Φ:=λ w=>jS ([]:List bX) ([]:List cG) w∧noQ w) λ w=>⟨jS.nil,trivial⟩).fU (α:=bX)).p2;have hs:=pT.shut hs;refine ⟨λ mm w'=>∃ (s1:fN) (o1 a2:List cG),lV l s1∧sK l (λ s=>CA l (Tu l 20) s 0 0) mm s1=some (s9,a2)∧add=o1++a2∧St w bD [pT p lv s1 (([]:List cG)++o1) noQ] w',⟨10000,tA i,[],add,(show lV l (tA i) from h0),JA,rfl,by rw [List.append_nil]; exact hs⟩,?_⟩
 rintro mm w2 ⟨s1,o1,a2,Mc,Ir,sQ,hs⟩ fy;obtain ⟨m,rfl⟩:=Hn Ir;obtain ⟨ov1,Yw,hs⟩:=pT.open hs;have adM:Yw.length=(([]:List cG)++o1).length:=(hs.p2.eU).1.1;rw [List.length_append] at adM;refine ⟨λ jv w'=>jv = .bool (decide (s1.e=0) && !sH l s1.at_ nI)∧St w bD [cE p (dU lv ov1 s1),bK ov1 Yw,eU (λ w=>jS Yw (([]:List cG)++o1) w∧noQ w)] w',?_,?_⟩
 ·refine aE (aA kp (have hs:=hs.drew;aB nq hs.hb rfl (aH (aC (λ fw=>?_) (λ fw=>?_)))))
  ·refine aE (aA gO (aB iL hs.hb rfl (aE (aA eT (aB bL hs.hb rfl (aZ vk hs (C211 _ l s1.at_ (ByteArray.mk #[125]) _ (hT _ hs.aF) hn) (λ w3 he hs=>cB ?_)))))));have hs:=hs.p2.p2.p2;exact ⟨vb (by first | (rw [decide_eq_true fw]; rfl) | (rw [decide_eq_false fw]; rfl)),hs⟩
  ·have hs:=hs.p2.p2.p2;exact ⟨vb (by first | (rw [decide_eq_true fw]; rfl) | (rw [decide_eq_false fw]; rfl)),hs⟩
 ·rintro _ w4 ⟨rfl,hs⟩ jB;refine aX (λ lR=>?_) (λ lR=>?_)
  ·obtain ⟨s3,a1,a3,ho,hb3,rfl⟩:=Jj Ir lR;have hs:=pT.shut hs.p2.p2.p2;refine bG aeX hs (H':=λ _=>pT p lv s3 ((([]:List cG)++o1)++a1) noQ) (Φ:=λ _ _=>True) (λ F2 eQ eA=>?_) ?_
   ·exact (C233 p lv l s1 20 0 0 (([]:List cG)++o1) s3 a1 noQ F2 _ eQ (λ w' hc=>hT w' (eA w' hc).aF) hk Mc (arR hk 20) (by omega) (by omega) (by have:=congrArg List.length sQ; simp at this ⊢; omega) ho).mono λ _ _ r=>r.mono λ _ _ h=>⟨trivial,h.2⟩
   rintro _ w5 _ hs;exact ⟨_,by omega,s3,o1++a1,a3,ON (λ _ _ _ _ _ c e=>OO c e) Mc ho,hb3,by rw [sQ,List.append_assoc],by rw [← List.append_assoc]; exact hs⟩
  ·obtain ⟨e9,rfl⟩:=Fe Ir lR;replace e9:=e9.symm;subst e9;rw [List.append_nil] at sQ;subst sQ;obtain ⟨ay7,ay8⟩:=id Mc;simp only [List.length_nil,Nat.zero_add] at adM;refine bG xV hs (H':=λ _=>cE p (dU lv ov1 (dM l s1 (ByteArray.mk #[125])))) (Φ:=λ _ _=>True) (λ F2 eQ eA=>?_) ?_
   ·exact (C234 p lv ov1 l s1 (ByteArray.mk #[125]) F2 _ eQ (λ w' hc=>hT w' (eA w' hc).aF) hk Mc).mono λ _ _ r=>r.mono λ _ _ h=>⟨trivial,h.2⟩
   rintro _ w6 _ hs;refine aE (aA kp (aB nq hs.hb rfl (cQ (aC (λ qp=>?_) (λ qp=>?_)))))
   ·refine aE (aA kp (have hs:=hs.drew;aB nq hs.hb rfl (aE (aA zH (aB bL hs.hb rfl ?_)))));have hRR:R=([],0,(dM l s1 nI).e,(dM l s1 nI).pos):=hR.1 qp;rw [hRR];exact ⟨⟨none,0,0⟩,rfl,(hs.gF (Φ:=λ w=>DL w (Flat.val (⟨none,0,0⟩:SV)) ([]:List cG)) λ w=>DL.nil w).fresh⟩
   ·refine aE (aA pD (aB sS hs.hb rfl (aJ j5 (hs.p1).fB (dB (aC (λ wm=>?_) (λ wm=>?_))))))
    ·obtain ⟨Lm,oZ⟩:=gx (l) (i:=(op).toNat) (by omega);refine aQ fD hL (by omega) oZ (λ _ wo=>bT (Lm).at_ lg wo rfl rfl (λ _ Ab=>have hs:=hs.drew;aD bL (Ab.ext hs.aF) ?_));have hRR:R=([],0,2,Lm.at_):=(hR.2.1 qp (by omega)).trans (by rw [AO jQ.1 oZ]);rw [hRR];exact ⟨⟨none,0,0⟩,rfl,(hs.gF (Φ:=λ w=>DL w (Flat.val (⟨none,0,0⟩:SV)) ([]:List cG)) λ w=>DL.nil w).fresh⟩
    ·refine aE (aA pD (have hs:=hs.drew;aB sS hs.hb rfl (aE (aA eT (aB bL hs.hb rfl ?_)))));have hs:=((hs.drop.p1).dN (Ψ:=jS Yw ([]++add)) (λ w h=>h.1)).p1;have hs:=St.DO hs;obtain ⟨sv,hsv⟩:=hs.lP;subst hsv;rw [hR.2.2 qp (by omega)];exact ⟨sv,rfl,hs.jJ.fresh⟩
theorem C166 (p:Nat) (lv:Value) (l:List bF) (s:fN) (nb:Bool) (s2:fN) (x:List dG) (F:Nat→Prop) (w:World) (hF:(cE p (eh lv s)).p w F) (hT:∀ w',ix F w w'→eJ (λ _=>True) w' lv l) (hk:iu l) (h0:lV l s) (hr:mQ l nb s=some (s2,x)):CR 166 [(.pointer (some ⟨p,0,none⟩)),.bool nb] w (λ v w'=>qn F (sep (cE p (eh lv s2)) (bK v x)) w w'):=by
 have hs:=St.begin hF;obtain ⟨s9,hn0,e2,Tn⟩:=xu hr;have Fy:=hk.n;have hn:l.length≤1000000:=by omega
 have sW:=hk.at_;obtain ⟨Q7,Q8⟩:=id h0;refine ZS _ _ _ _ ?_;unfold S166;refine bW (([]:List dG)) hs j4 rfl rfl (eI rfl) (λ xN w1 hs=>?_);have hs:=hs.p1.p1;refine ⟨λ mm o mo w'=>∃ (s1:fN) (b:Bool) (o1 a2:List dG),mo = .bool b∧lV l s1∧pd l nb mm b s1=some (s9,a2)∧x=o1++a2∧St w F [bK o o1,cE p (eh lv s1)] w',⟨10000,s,true,[],x,rfl,h0,hn0,rfl,hs⟩,?_⟩;rintro mm yq _ w2 ⟨s1,b,o1,a2,rfl,Mc,UU,hx,hs⟩ fy;obtain ⟨m,rfl⟩:=Me UU;obtain ⟨ay7,ay8⟩:=id Mc;refine ⟨λ jv w'=>jv = .bool (b && decide (s1.e=0))∧w2=w',?_,?_⟩
 ·refine aX (λ AQ=>?_) (λ AQ=>?_)
  ·refine aE (aA l8 (aB nq hs.p1.hb rfl (aH ?_)));exact ⟨vb (by first | (rw [AQ]; rfl) | (rw [AQ]; rfl)),rfl⟩
  ·exact ⟨vb (by first | (rw [AQ]; rfl) | (rw [AQ]; rfl)),rfl⟩
 ·rintro _ w3 ⟨rfl,hw⟩ jB;subst hw;refine aX (λ eB=>?_) (λ eB=>?_)
  ·obtain ⟨a3,hn3,rfl⟩:=SN UU eB;refine bG aeM hs.p1 (H':=λ _=>cE p (eh lv (eW l s1).1)) (Φ:=λ v _=>v=Flat.val (eW l s1).2) (λ F2 eQ eA=>?_) ?_
   ·exact C167 p lv l s1 F2 _ eQ (λ w' hc=>hT w' (eA w' hc).aF) hk Mc
   rintro _ w4 rfl hs;refine aN hs CL (λ arW w5 hs=>aI (x:=(eW l s1).2) hs xY rfl rfl (λ w6 hs=>?_));refine ⟨λ w'=>St w F [cE p (eh lv (fg l nb s1).1),cE arW (Flat.enc (fg l nb s1).2),bK yq o1] w',?_,?_⟩
   ·refine ⟨_,?_,λ _ _ h=>h⟩;refine aX (λ vg=>?_) (λ vg=>?_)
    ·refine bG xU hs.p1 (H':=λ _=>cE p (eh lv (gM l (eW l s1).1 (ByteArray.mk #[61])).1)) (Φ:=λ v _=>v = .bool (gM l (eW l s1).1 (ByteArray.mk #[61])).2) (λ F2 eQ eA=>?_) ?_
     ·exact C165 p lv l (eW l s1).1 (ByteArray.mk #[61]) F2 _ eQ (λ w' hc=>hT w' (eA w' hc).aF) hk (uy Mc)
     rintro _ w7 rfl hs;intro oS;refine aX (λ fQ=>?_) (λ fQ=>?_)
     ·have hq:=jY (t:=ByteArray.mk #[61]) (uy Mc);obtain ⟨hq0,hq1⟩:=id hq;refine ⟨λ jv w'=>jv = .bool (Jk l (gM l (eW l s1).1 (ByteArray.mk #[61])).1)∧St w F [cE p (eh lv (gM l (eW l s1).1 (ByteArray.mk #[61])).1),cE arW (Flat.enc (eW l s1).2),bK yq o1] w',?_,?_⟩
      ·refine aE (aA fk (have hs:=hs.drew;aB bL hs.hb rfl (aE (aA jI (aB iL hs.hb rfl (aJ fD (hT _ hs.aF) (aR (aC (λ jx=>?_) (λ jx=>?_)))))))))
       ·refine aE (aA jI (aB iL hs.hb rfl (aE (aA fk (aB bL hs.hb rfl ?_)))));obtain ⟨arX,XN⟩:=gx (l) (i:=(((gM l (eW l s1).1 (ByteArray.mk #[61])).1).at_).toNat) (by omega);refine aQ fD (hT _ hs.aF) (by omega) XN (λ _ KX=>bT (arX).kind lf KX rfl rfl (λ _ KY=>aD bL (KY) (aH ?_)));have hs:=hs.p2.p2.p2;exact ⟨vb (by unfold Jk kD; rw [if_pos hq0,XN]),hs⟩
       ·have hs:=hs.p2.p2.p2;exact ⟨vb (by unfold Jk kD; rw [if_pos hq0,List.getElem?_eq_none (by omega)]),hs⟩
      ·rintro _ w9 ⟨rfl,hs⟩ GQ;refine aX (λ vr=>?_) (λ vr=>?_)
       ·obtain ⟨tk,Xt,SK,_,hqlt⟩:=adO vr;have AY:oK l (gM l (eW l s1).1 (ByteArray.mk #[61])).1.at_=tk:=AO hq0 SK;refine aE (aA jI (have hs:=hs.drew;aB iL hs.hb rfl (aE (aA fk (aB bL hs.hb rfl (aQ fD (hT _ hs.aF) (by omega) SK (λ _ Ab=>bT (tk).n q7 Ab rfl rfl (λ _ arY=>aD bL (arY) (aA zE (aV hs.p1 bL (eI rfl) (rfl) (λ pS hs=>have hs:=hs.enc (cs':=Flat.enc ({ (eW l s1).2 with n:=(tk).n}:dG)) rfl;aE (aA fk ?_))))))))))));refine aB bL hs.p1.hb rfl (aO (by omega) (aE (aA fk (aV hs.p1 bL (eI rfl) (rfl) (λ sU hs=>?_)))))
        have hs:=hs.p2.p2.p2;have Cs:(fg l nb s1)=(XD (gM l (eW l s1).1 (ByteArray.mk #[61])).1,{ (eW l s1).2 with n:=tk.n}):=(SP vg fQ vr).trans (by rw [AY]);rw [Cs];exact hs
       ·refine bG Pu hs (H':=λ _=>cE p (eh lv (iU l (gM l (eW l s1).1 (ByteArray.mk #[61])).1 5))) (Φ:=λ _ _=>True) (λ F2 eQ eA=>?_) ?_
        ·exact (C170 p lv l (gM l (eW l s1).1 (ByteArray.mk #[61])).1 F2 _ eQ (λ w' hc=>hT w' (eA w' hc).aF) hk (jY (uy Mc))).mono λ _ _ r=>r.mono λ _ _ h=>⟨trivial,h.2⟩
        rintro _ vm _ hs;have hs:=hs.p2.p2.p2;have Cs:=SQ vg fQ vr;rw [Cs];exact hs
     ·have hs:=hs.p2.p2.p2;have Cs:=XK (nb:=nb) fQ;rw [Cs];exact hs
    ·intro oS;refine fP ?_;have hs:=hs.p2.p1.p2;have Cs:=XL (l:=l) (s:=s1) vg;rw [Cs];exact hs
   ·intro vn hs R4;refine aD xY hs.p1.At (bW ([(fg l nb s1).2]) hs j4 rfl rfl (eI rfl) (λ afy sm hs=>?_));have ak6:=(hs).fB;refine cN hs.p3 j4 ak6 (by have:=congrArg List.length hx; simp at this ⊢; omega) (by decide) (λ apU v7 hs=>have hs:=hs.p1.drop;bG xU hs.p1 (H':=λ _=>cE p (eh lv (gM l (fg l nb s1).1 (ByteArray.mk #[44])).1)) (Φ:=λ v _=>v = .bool (gM l (fg l nb s1).1 (ByteArray.mk #[44])).2) (λ F2 eQ eA=>?_) ?_)
    ·exact C165 p lv l (fg l nb s1).1 (ByteArray.mk #[44]) F2 _ eQ (λ w' hc=>hT w' (eA w' hc).aF) hk (Fg Mc)
    rintro _ yZ rfl hs;have hs:=(hs.p2.drop).p1;exact ⟨_,by omega,(gM l (fg l nb s1).1 BR).1,(gM l (fg l nb s1).1 BR).2,o1++[(fg l nb s1).2],a3,rfl,jY (Fg Mc),hn3,by rw [hx,List.append_assoc]; rfl,hs⟩
  ·obtain ⟨e9,rfl⟩:=Fh UU eB;replace e9:=e9.symm;subst e9;rw [List.append_nil] at hx;subst hx;refine bG T8 hs.p1 (H':=λ _=>cE p (eh lv (dM l s1 (ByteArray.mk #[59])))) (Φ:=λ _ _=>True) (λ F2 eQ eA=>?_) ?_
   ·exact (C212 p lv l s1 (ByteArray.mk #[59]) F2 _ eQ (λ w' hc=>hT w' (eA w' hc).aF) hk Mc).mono λ _ _ r=>r.mono λ _ _ h=>⟨trivial,h.2⟩
   rintro _ Cp _ hs;have hs:=hs.p1.p1;rw [e2];exact (St.join hs).mut
set_option maxHeartbeats 1000000 in
theorem C168 (p:Nat) (lv:Value) (l:List bF) (s:fN) (nm:ByteArray) (a:Int) (s2:fN) (x:dQ) (F:Nat→Prop) (w:World) (hF:(cE p (eh lv s)).p w F) (hT:∀ w',ix F w w'→eJ (λ _=>True) w' lv l) (hk:iu l) (h0:lV l s) (hr:sL l s nm a=some (s2,x)):CR 168 [(.pointer (some ⟨p,0,none⟩)),Flat.val (⟨nm,⟨none,0,0⟩,⟨none,0,0⟩,a⟩:ei)] w (λ v w'=>qn F (tW λ sh:ei=>fact (v=Flat.val sh) (sep (cE p (eh lv s2)) (eU (λ w=>bZ.dr w sh x)))) w w'):=by
 have hs:=St.begin hF;obtain ⟨q,rs,Bw,Fx,hg2⟩:=OR hr;have hqi:=Mf (fz h0) Bw;obtain ⟨hqi0,hqi1⟩:=id hqi;have Fy:=hk.n;have hn:l.length≤1000000:=by omega
 have sW:=hk.at_;obtain ⟨Q7,Q8⟩:=id h0;refine ZU _ _ _ _ ?_;unfold S168;refine dE (x:=(⟨nm,⟨none,0,0⟩,⟨none,0,0⟩,a⟩:ei)) hs (λ acR w1 hs=>aN hs M9 (λ Cr w2 hs=>have hs:=hs.enc (cs':=Flat.enc (⟨(ByteArray.mk #[]),⟨none,0,0⟩,⟨none,0,0⟩,0⟩:ei)) rfl;aE (aA fk (aB bL hs.p2.hb rfl (bG T8 hs.p2 (H':=λ _=>cE p (eh lv (dM l s (ByteArray.mk #[123])))) (Φ:=λ _ _=>True) (λ F2 eQ eA=>?_) ?_)))))
 ·exact (C212 p lv l s (ByteArray.mk #[123]) F2 _ eQ (λ w' hc=>hT w' (eA w' hc).aF) hk h0).mono λ _ _ r=>r.mono λ _ _ h=>⟨trivial,h.2⟩
 rintro _ w3 _ hs;refine ⟨λ w'=>∃ rv:SV,St w F [bK (Flat.val rv) rs,cE acR (Flat.enc (⟨nm,rv,⟨none,0,0⟩,a⟩:ei)),cE Cr (Flat.enc (⟨(ByteArray.mk #[]),⟨none,0,0⟩,⟨none,0,0⟩,0⟩:ei)),cE p (eh lv q)] w',?_,?_⟩
 ·refine bG xU hs (H':=λ _=>cE p (eh lv (gM l (dM l s (ByteArray.mk #[123])) (ByteArray.mk #[114,101,103])).1)) (Φ:=λ v _=>v = .bool (gM l (dM l s (ByteArray.mk #[123])) (ByteArray.mk #[114,101,103])).2) (λ F2 eQ eA=>?_) ?_
  ·exact C165 p lv l (dM l s (ByteArray.mk #[123])) (ByteArray.mk #[114,101,103]) F2 _ eQ (λ w' hc=>hT w' (eA w' hc).aF) hk (fz h0)
  rintro _ w4 rfl hs;refine aX (λ fw=>?_) (λ fw=>?_)
  ·obtain ⟨ys,hys,hrs⟩:=Hq Bw fw;have hyl:ys.length≤1000000:=by obtain ⟨_,_,_,h⟩:=xu hys; exact h
   refine bG Pt hs (H':=λ v=>sep (cE p (eh lv q)) (bK v ys)) (Φ:=λ _ _=>True) (λ F2 eQ eA=>?_) ?_
   ·exact (C166 p lv l (gM l (dM l s (ByteArray.mk #[123])) (ByteArray.mk #[114,101,103])).1 false q ys F2 _ eQ (λ w' hc=>hT w' (eA w' hc).aF) hk (jY (fz h0)) hys).mono λ _ _ r=>r.mono λ _ _ h=>⟨trivial,h⟩
   rintro Vm w5 _ hs;have hs:=(((((hs.split.fU (α:=ByteArray)).p1).p3).p3).p4).p4;refine ⟨λ mm i w'=>∃ (j:Nat) (rv:SV),i = .int .i64 (j:Int)∧mm=ys.length - j∧j≤ys.length∧St w F [bK (Flat.val rv) ((ys.take j).map dG.name),cE acR (Flat.enc (⟨nm,rv,⟨none,0,0⟩,a⟩:ei)),bK Vm ys,cE Cr (Flat.enc (⟨(ByteArray.mk #[]),⟨none,0,0⟩,⟨none,0,0⟩,0⟩:ei)),cE p (eh lv q)] w',⟨_,0,⟨none,0,0⟩,rfl,rfl,Nat.zero_le _,hs⟩,?_⟩;rintro mm _ w6 ⟨j,rv,rfl,rfl,hj,hs⟩ fy;refine aJ j4 (hs.p2).fB (aR (aC (λ fQ=>?_) (λ fQ=>?_)))
   ·refine aA ju (have hs:=hs.drew;aB (v:=Flat.val (rv:SV)) px hs.p1.hb rfl ?_);obtain ⟨agw,XO⟩:=gx (ys) (i:=((j:Int)).toNat) (by omega);refine dR hs.p2 j4 (by omega) (by omega) (λ _ z9=>m8 pB z9 (λ _ Aa=>nY (agw).name hs.p2 j8 Aa XO rfl (bW ([(agw).name]) hs mV rfl rfl (eI rfl) (λ aph w7 hs=>?_))));refine ⟨aG px (hs.p2.hb.cell rfl),?_⟩;have ak7:=(hs).fB;refine cN hs.p1 mV ak7 (by simp; omega) (by decide) (λ afv w8 hs=>have hs:=hs.p1.drop;aA ju ?_);obtain ⟨XP,rfl⟩:=(hs).fR;refine aV hs.p1 px (eI rfl) (rfl) (λ w9 hs=>have hs:=hs.enc (cs':=Flat.enc (⟨nm,XP,⟨none,0,0⟩,a⟩:ei)) rfl;aO (by omega) ?_)
    have hs:=hs.p4.p4.p4.p3.p4;exact ⟨_,by omega,j+1,XP,rfl,rfl,by omega,by rw [← F5 (k:=j) XO]; exact hs⟩
   ·have hs:=(hs.p2.drop.p3.p3.p3).p3;rw [List.take_of_length_le (by omega)] at hs;rw [hrs];exact ⟨rv,hs⟩
  ·have hs:=((((hs.fU (α:=ByteArray)).p1).p2).p3).p3;obtain ⟨e1,e3⟩:=Mg Bw fw;rw [wN fw] at hs;rw [e1,e3];exact ⟨⟨none,0,0⟩,hs⟩
 ·rintro pS ⟨rv,hs⟩ jB;refine ⟨λ w'=>∃ (rv bv:SV) (body:List cG),x=⟨nm,rs,body,a⟩∧St w F [bK (Flat.val rv) rs,eU (λ w=>DL w (Flat.val bv) body),cE acR (Flat.enc (⟨nm,rv,bv,a⟩:ei)),cE Cr (Flat.enc (⟨(ByteArray.mk #[]),⟨none,0,0⟩,⟨none,0,0⟩,0⟩:ei)),cE p (eh lv s2)] w',?_,?_⟩
  ·refine aE (aA l8 (aB nq hs.p3.hb rfl (aH (aC (λ lU=>?_) (λ lU=>?_)))))
   ·obtain ⟨R,hR,hR0,hR1,e2,hx⟩:=hg2 (by omega);have EY:(dM l s Ci).e=0:=Decidable.not_not.1 λ hh=>OT hh Bw (by omega);have jQ:=rM (adP EY);refine aE (aA jI (have hs:=hs.drew;aB iL hs.p3.hb rfl (aE (aA fk (aB bL hs.p3.hb rfl (eD anG (C213 l _ q.at_ s.at_ R _ (hT _ hs.aF) hk hqi jQ hR) ?_))))));rintro _ sU ⟨Ov,rfl,bY⟩;have hs:=hs.made bY;refine bE rfl (bE rfl (bE rfl (bE rfl (aA qz (aV hs.p2 sS (eI rfl) (rfl) (λ vm hs=>have hs:=hs.enc (cs':=Flat.enc (⟨nm,rv,Ov,a⟩:ei)) rfl;aE (aA fk (aV hs.p4 bL (eI rfl) (rfl) (λ vn hs=>aE (aA l8 (aV hs nq (eI rfl) (rfl) (λ sm hs=>aE ?_))))))))))))
    refine aA vS (aV hs bL (eI rfl) (rfl) (λ v7 hs=>?_));have hs:=hs.p4.p2.p3.p4;rw [e2];exact ⟨rv,Ov,R.1,hx,hs⟩
   ·have hs:=hs.gF (Φ:=λ w=>DL w (Flat.val (⟨none,0,0⟩:SV)) ([]:List cG)) λ w=>DL.nil w;have hs:=hs.p4.p4.p4.p3.p4;obtain ⟨e2,hx⟩:=Fx lU;rw [e2];exact ⟨rv,⟨none,0,0⟩,[],hx,hs⟩
  ·rintro yZ ⟨rv,bv,body,rfl,hs⟩ oS;refine aD Ih hs.p2.At (aI (x:=(⟨nm,rv,bv,a⟩:ei)) hs.p3 Ih rfl rfl (λ Cp hs=>aD Ih hs.At ?_));have hs:=hs.p1.freeze.p2.p1.fM.dN (Ψ:=(λ w=>bZ.dr w (⟨nm,rv,bv,a⟩:ei) (⟨nm,rs,body,a⟩:dQ))) (λ w h=>⟨_,_,rfl,DL.fp h.1,id (h.2)⟩);have hs:=((hs.p1.drop.p1).drop).p1;exact (wL hs).mut
set_option maxHeartbeats 1000000 in
theorem C169 (p:Nat) (lv:Value) (l:List bF) (s:fN) (a:Int) (s2:fN) (x:jA) (F:Nat→Prop) (w:World) (hF:(cE p (eh lv s)).p w F) (hT:∀ w',ix F w w'→eJ (λ _=>True) w' lv l) (hk:iu l) (h0:lV l s) (hr:wM l s a=some (s2,x)):CR 169 [(.pointer (some ⟨p,0,none⟩)),.int .i64 a] w (λ v w'=>qn F (tW λ sh:lQ=>fact (v=Flat.val sh) (sep (cE p (eh lv s2)) (eU (λ w=>bZ.dr w sh x)))) w w'):=by
 have hs:=St.begin hF;obtain ⟨R,hxr,Fx,hg2⟩:=SR hr;have Fy:=hk.n;have hn:l.length≤1000000:=by omega
 have sW:=hk.at_;obtain ⟨Q7,Q8⟩:=id h0;refine ZV _ _ _ _ ?_;unfold S169;refine aN hs ah8 (λ Cr w1 hs=>have hs:=hs.enc (cs':=Flat.enc (⟨⟨none,0,0⟩,0⟩:lQ)) rfl;aE (aA jI (have hs:=hs.drew;aB iL hs.p1.hb rfl (aE (aA fk (aB bL hs.p1.hb rfl (eD aeU (C214 l _ s.at_ R _ (hT _ hs.aF) hk (by omega) hxr) ?_)))))));rintro _ w2 ⟨XQ,rfl,bY⟩;have hs:=hs.made bY;refine bE rfl (bE rfl (bE rfl (bE rfl (cQ (aC (λ iB=>?_) (λ iB=>?_))))))
 ·obtain ⟨rfl,rfl⟩:=Fx iB;refine aE (aA l8 (aV hs.p2 nq (eI rfl) (rfl) (λ w3 hs=>aE (aA vS (aV hs bL (eI rfl) (rfl) (λ w4 hs=>pop (v:=Flat.val (⟨⟨none,0,0⟩,0⟩:lQ)) (by kernel_rfl) (aI (x:=(⟨⟨none,0,0⟩,0⟩:lQ)) hs.p2 abq rfl rfl (λ w5 hs=>aD abq hs.At ?_))))))));have hs:=hs.gF (Φ:=(λ w=>bZ.dr w (⟨⟨none,0,0⟩,0⟩:lQ) (⟨[],0⟩:jA))) (λ w=>⟨_,rfl,DL.nil _⟩);have hs:=((hs.p1.drop.p2).drop).p1;exact (wL hs).mut
 ·obtain ⟨Bw,rfl,rfl⟩:=hg2 iB;refine aE (aA fk (aV hs.p2 bL (eI rfl) (rfl) (λ w6 hs=>have hs:=hs.enc (cs':=eh lv ({s with at_:=R.2.1}:fN)) rfl;bG T8 hs (H':=λ _=>cE p (eh lv (dM l ({s with at_:=R.2.1}:fN) (ByteArray.mk #[59])))) (Φ:=λ _ _=>True) (λ F2 eQ eA=>?_) ?_)))
  ·exact (C212 p lv l ({s with at_:=R.2.1}:fN) (ByteArray.mk #[59]) F2 _ eQ (λ w' hc=>hT w' (eA w' hc).aF) hk (show lV l ({s with at_:=R.2.1}:fN) from Bw)).mono λ _ _ r=>r.mono λ _ _ h=>⟨trivial,h.2⟩
  rintro _ w7 _ hs;refine pop (Gz _ _ _ _) (aI (x:=(⟨XQ,a⟩:lQ)) hs.p2 abq rfl rfl (λ w8 hs=>aD abq hs.At ?_));have hs:=hs.p2.dN (Ψ:=(λ w=>bZ.dr w (⟨XQ,a⟩:lQ) (⟨R.1,a⟩:jA))) (λ w h=>⟨_,rfl,id (h)⟩);have hs:=(hs.p1.drop).p1;exact (wL hs).mut
set_option maxHeartbeats 8000000 in
theorem C109 (s:ByteArray) (R:cU × Int × Int) (w:World) (Yv:s.size≤1000000) (hr:rO s=some R) (hTk:∀ l e a,ux s=some (l,e,a)→iu l):CR 109 [.string s] w (λ v w'=>∃ pv:bN,v = .tuple #[Flat.val pv,.int .i64 R.2.1,.int .i64 R.2.2]∧lY (eU (λ w=>bZ.dr w pv R.1)) w w'):=by
 obtain ⟨l,e,a,hsc⟩:=OU hr;have hk:=hTk l e a hsc;have Fy:=hk.n;have hn:l.length≤1000000:=by omega
 have sW:=hk.at_;have hs:=St.start w;refine Zb _ _ _ ?_;unfold S109;refine aN hs uK (λ mc w1 hs=>have hs:=hs.enc (cs':=Flat.enc (⟨⟨none,0,0⟩,⟨none,0,0⟩,⟨none,0,0⟩,⟨none,0,0⟩,⟨none,0,0⟩,⟨none,0,0⟩⟩:bN)) rfl;eD ani (C164 s (l,e,a) _ Yv hsc) ?_);rintro _ w2 ⟨lv,rfl,bY⟩;have hs:=hs.made bY;refine bE rfl (bE rfl (bE rfl (cQ (aC (λ gh=>?_) (λ gh=>?_)))))
 ·refine pop (v:=Flat.val (⟨⟨none,0,0⟩,⟨none,0,0⟩,⟨none,0,0⟩,⟨none,0,0⟩,⟨none,0,0⟩,⟨none,0,0⟩⟩:bN)) (by kernel_rfl) (aI (x:=(⟨⟨none,0,0⟩,⟨none,0,0⟩,⟨none,0,0⟩,⟨none,0,0⟩,⟨none,0,0⟩,⟨none,0,0⟩⟩:bN)) hs.p1 gJ rfl rfl (λ w3 hs=>aD gJ hs.At ?_));have hs:=hs.gF (Φ:=(λ w=>bZ.dr w (⟨⟨none,0,0⟩,⟨none,0,0⟩,⟨none,0,0⟩,⟨none,0,0⟩,⟨none,0,0⟩,⟨none,0,0⟩⟩:bN) (⟨[],[],[],[],[],[]⟩:cU))) (λ w=>⟨_,_,_,_,_,_,rfl,DL.nil _,DL.nil _,DL.nil _,DL.nil _,DL.nil _,DL.nil _⟩);have hs:=((hs.p1.drop).p1).drop;rw [SU hr hsc gh];exact ⟨_,rfl,hs.fresh⟩
 ·obtain ⟨t1,t2,t3,t4,t5,t6,y1,y2,y3,y4,y5,y6,hp⟩:=XM hr hsc gh;obtain ⟨lsv,hlv⟩:=(hs).fR;rw [hlv];refine pop (Uu _ _ _) (l5 hs (λ B3 w4 hs=>pop (v:=Flat.val (⟨⟨none,0,0⟩,⟨none,0,0⟩,⟨none,0,0⟩,⟨none,0,0⟩,⟨none,0,0⟩,⟨none,0,0⟩⟩:bN)) (by kernel_rfl) (aN hs uK (λ OV w5 hs=>have hs:=hs.enc (cs':=Flat.enc (⟨⟨none,0,0⟩,⟨none,0,0⟩,⟨none,0,0⟩,⟨none,0,0⟩,⟨none,0,0⟩,⟨none,0,0⟩⟩:bN)) rfl;aI (x:=(⟨⟨none,0,0⟩,⟨none,0,0⟩,⟨none,0,0⟩,⟨none,0,0⟩,⟨none,0,0⟩,⟨none,0,0⟩⟩:bN)) hs gJ rfl rfl (λ w6 hs=>?_)))));obtain ⟨p,rfl⟩:∃ p,p=B3:=⟨_,rfl⟩;have hs:=hs.p1.enc (cs':=eh (Flat.val lsv) (tA 0)) rfl
  rw [← hlv] at hs ⊢;have azb:lV l (tA 0):=⟨Int.le_refl _,by show (0:Int)≤_; omega⟩;have hs:=(((((hs.xI (α:=(List dG))).p4).p4).p3).p4).p4;refine ⟨λ mm w'=>∃ (s0:fN) (v0:SV) (xs0 a0:List (List dG)),lV l s0∧mJ l XH (mQ l true) mm s0=some (t1,a0)∧y1=xs0++a0∧St w bD [fj (Flat.val v0) xs0,cE OV (Flat.enc (⟨v0,⟨none,0,0⟩,⟨none,0,0⟩,⟨none,0,0⟩,⟨none,0,0⟩,⟨none,0,0⟩⟩:bN)),cE p (eh lv s0),bK lv l,cE mc (Flat.enc (⟨⟨none,0,0⟩,⟨none,0,0⟩,⟨none,0,0⟩,⟨none,0,0⟩,⟨none,0,0⟩,⟨none,0,0⟩⟩:bN))] w',⟨10000,tA 0,⟨none,0,0⟩,[],y1,azb,hp.h1,rfl,hs⟩,?_⟩;rintro mm w7 ⟨s0,v0,xs0,a0,hi0,EY,hy0,hs⟩ fy
  obtain ⟨m0,rfl⟩:=rP EY;refine bG xU hs.p2 (H':=λ _=>cE p (eh lv (gM l s0 (ByteArray.mk #[108,105,110,101])).1)) (Φ:=λ v _=>v = .bool (gM l s0 (ByteArray.mk #[108,105,110,101])).2) (λ F2 eQ eA=>?_) ?_
  ·exact C165 p lv l s0 (ByteArray.mk #[108,105,110,101]) F2 _ eQ (λ w' hc=>(eA w' hc).p2.fB) hk hi0
  rintro _ w8 rfl hs;refine aX (λ gj=>?_) (λ gj=>?_)
  ·obtain ⟨q0,z0,b0,hd0,hn0,rfl⟩:=wO EY gj;refine aA jt (have hs:=hs.drew;aB (v:=Flat.val (v0:SV)) rU hs.p2.hb rfl (bG Pt hs (H':=λ v=>sep (cE p (eh lv q0)) (bK v z0)) (Φ:=λ _ _=>True) (λ F2 eQ eA=>?_) ?_))
   ·exact (C166 p lv l (gM l s0 (ByteArray.mk #[108,105,110,101])).1 true q0 z0 F2 _ eQ (λ w' hc=>(eA w' hc).p2.fB) hk (jY hi0) hd0).mono λ _ _ r=>r.mono λ _ _ h=>⟨trivial,h⟩
   rintro x31 w9 _ hs;have hs:=hs.split;refine ⟨aG rU (hs.p3.hb.cell rfl),?_⟩;obtain ⟨XR,rfl⟩:=(hs.p1).fR;have hs:=hs.p1.freeze.dN (Ψ:=λ w=>bZ.dr w XR (z0)) (λ w h=>DL.fp h);refine eK (s:=XR) (x:=z0) hs vz (by decide) (λ VW pS hs=>?_);refine ⟨aG rU (hs.p3.hb.cell rfl),?_⟩;have hs:=hs.p2;refine ee hs vz (by have h1:=congrArg List.length hy0; have h2:=hp.b1; simp at h1 ⊢; omega) (by decide) (λ s_x33 sU hs=>aA jt ?_);obtain ⟨wC,rfl⟩:=(hs).lP;refine aV hs.p2 rU (eI rfl) (rfl) (λ vm hs=>?_);have hs:=hs.enc (cs':=Flat.enc (⟨wC,⟨none,0,0⟩,⟨none,0,0⟩,⟨none,0,0⟩,⟨none,0,0⟩,⟨none,0,0⟩⟩:bN)) rfl
   have hs:=hs.p4.p4.p4.p3.p4;exact ⟨_,by omega,q0,wC,xs0++[z0],b0,xw (jY hi0) hd0,hn0,by rw [hy0,List.append_assoc]; rfl,hs⟩
  ·obtain ⟨e9,rfl⟩:=uA EY gj;replace e9:=e9.symm;subst e9;rw [List.append_nil] at hy0;subst hy0;rw [wN gj] at hs;have hs:=((((((hs.fU (α:=dG)).p5).p5).p3).p5).p5).p5;refine ⟨λ mm w'=>∃ (s1:fN) (v1:SV) (xs1 a1:List (List dG)),lV l s1∧mJ l ak2 (mQ l true) mm s1=some (t2,a1)∧y2=xs1++a1∧St w bD [bK (Flat.val v1) (xs1.flatten),fj (Flat.val v0) y1,cE OV (Flat.enc (⟨v0,v1,⟨none,0,0⟩,⟨none,0,0⟩,⟨none,0,0⟩,⟨none,0,0⟩⟩:bN)),cE p (eh lv s1),bK lv l,cE mc (Flat.enc (⟨⟨none,0,0⟩,⟨none,0,0⟩,⟨none,0,0⟩,⟨none,0,0⟩,⟨none,0,0⟩,⟨none,0,0⟩⟩:bN))] w',⟨10000,s0,⟨none,0,0⟩,[],y2,hi0,hp.h2,rfl,hs⟩,?_⟩
   rintro mm vn ⟨s1,v1,xs1,a1,hi1,hm1,hy1,hs⟩ jB;obtain ⟨m1,rfl⟩:=rP hm1;refine bG xU hs.p3 (H':=λ _=>cE p (eh lv (gM l s1 (ByteArray.mk #[118,111,108])).1)) (Φ:=λ v _=>v = .bool (gM l s1 (ByteArray.mk #[118,111,108])).2) (λ F2 eQ eA=>?_) ?_
   ·exact C165 p lv l s1 (ByteArray.mk #[118,111,108]) F2 _ eQ (λ w' hc=>(eA w' hc).p3.fB) hk hi1
   rintro _ sm rfl hs;refine aX (λ lq=>?_) (λ lq=>?_)
   ·obtain ⟨q1,z1,b1,hd1,UU,rfl⟩:=wO hm1 lq;refine aA uJ (have hs:=hs.drew;aB (v:=Flat.val (v1:SV)) jz hs.p3.hb rfl (bG Pt hs (H':=λ v=>sep (cE p (eh lv q1)) (bK v z1)) (Φ:=λ _ _=>True) (λ F2 eQ eA=>?_) ?_))
    ·exact (C166 p lv l (gM l s1 (ByteArray.mk #[118,111,108])).1 true q1 z1 F2 _ eQ (λ w' hc=>(eA w' hc).p3.fB) hk (jY hi1) hd1).mono λ _ _ r=>r.mono λ _ _ h=>⟨trivial,h⟩
    rintro x40 v7 _ hs;have hs:=hs.split;refine ⟨aG jz (hs.p4.hb.cell rfl),?_⟩;have vc:=(hs.p1).fB;refine cN hs.p2 j4 vc (by have:=Rl hy1; have:=hp.b2; omega) (by decide) (λ VJ yZ hs=>have hs:=hs.p2.drop;aA uJ ?_);obtain ⟨IP,rfl⟩:=(hs).fR;refine aV hs.p3 jz (eI rfl) (rfl) (λ Cp hs=>?_);have hs:=hs.enc (cs':=Flat.enc (⟨v0,IP,⟨none,0,0⟩,⟨none,0,0⟩,⟨none,0,0⟩,⟨none,0,0⟩⟩:bN)) rfl;have hs:=hs.p5.p5.p4.p3.p5.p5;rw [← AP] at hs;exact ⟨_,by omega,q1,IP,xs1++[z1],b1,xw (jY hi1) hd1,UU,by rw [hy1,List.append_assoc]; rfl,hs⟩
   ·obtain ⟨e9,rfl⟩:=uA hm1 lq;replace e9:=e9.symm;subst e9;rw [List.append_nil] at hy1;subst hy1;rw [wN lq] at hs;have hs:=(((((((hs.fU (α:=dG)).p6).p6).p3).p6).p5).p6).p6;refine ⟨λ mm w'=>∃ (s2:fN) (v2:SV) (xs2 a2:List (List dG)),lV l s2∧mJ l XI (mQ l false) mm s2=some (t3,a2)∧y3=xs2++a2∧St w bD [bK (Flat.val v2) (xs2.flatten),fj (Flat.val v0) y1,bK (Flat.val v1) (y2.flatten),cE OV (Flat.enc (⟨v0,v1,v2,⟨none,0,0⟩,⟨none,0,0⟩,⟨none,0,0⟩⟩:bN)),cE p (eh lv s2),bK lv l,cE mc (Flat.enc (⟨⟨none,0,0⟩,⟨none,0,0⟩,⟨none,0,0⟩,⟨none,0,0⟩,⟨none,0,0⟩,⟨none,0,0⟩⟩:bN))] w',⟨10000,s1,⟨none,0,0⟩,[],y3,hi1,hp.h3,rfl,hs⟩,?_⟩
    rintro mm Iv ⟨s2,v2,xs2,a2,hi2,hm2,hy2,hs⟩ oS;obtain ⟨m2,rfl⟩:=rP hm2;refine bG xU hs.p4 (H':=λ _=>cE p (eh lv (gM l s2 (ByteArray.mk #[108,111,99,107])).1)) (Φ:=λ v _=>v = .bool (gM l s2 (ByteArray.mk #[108,111,99,107])).2) (λ F2 eQ eA=>?_) ?_
    ·exact C165 p lv l s2 (ByteArray.mk #[108,111,99,107]) F2 _ eQ (λ w' hc=>(eA w' hc).p4.fB) hk hi2
    rintro _ Jy rfl hs;refine aX (λ sr=>?_) (λ sr=>?_)
    ·obtain ⟨q2,z2,b2,CY,hn2,rfl⟩:=wO hm2 sr;refine aA rZ (have hs:=hs.drew;aB (v:=Flat.val (v2:SV)) jz hs.p4.hb rfl (bG Pt hs (H':=λ v=>sep (cE p (eh lv q2)) (bK v z2)) (Φ:=λ _ _=>True) (λ F2 eQ eA=>?_) ?_))
     ·exact (C166 p lv l (gM l s2 (ByteArray.mk #[108,111,99,107])).1 false q2 z2 F2 _ eQ (λ w' hc=>(eA w' hc).p4.fB) hk (jY hi2) CY).mono λ _ _ r=>r.mono λ _ _ h=>⟨trivial,h⟩
     rintro x48 KG _ hs;have hs:=hs.split;refine ⟨aG jz (hs.p5.hb.cell rfl),?_⟩;have ala:=(hs.p1).fB;refine cN hs.p2 j4 ala (by have:=Rl hy2; have:=hp.b3; omega) (by decide) (λ apW MH hs=>have hs:=hs.p2.drop;aA rZ ?_);obtain ⟨XS,rfl⟩:=(hs).fR;refine aV hs.p4 jz (eI rfl) (rfl) (λ Qv hs=>?_);have hs:=hs.enc (cs':=Flat.enc (⟨v0,v1,XS,⟨none,0,0⟩,⟨none,0,0⟩,⟨none,0,0⟩⟩:bN)) rfl;have hs:=hs.p6.p6.p4.p3.p6.p6.p6;rw [← AP] at hs;exact ⟨_,by omega,q2,XS,xs2++[z2],b2,xw (jY hi2) CY,hn2,by rw [hy2,List.append_assoc]; rfl,hs⟩
    ·obtain ⟨e9,rfl⟩:=uA hm2 sr;replace e9:=e9.symm;subst e9;rw [List.append_nil] at hy2;subst hy2;rw [wN sr] at hs;have hs:=((((((((hs.xI (α:=dQ)).p7).p7).p3).p7).p5).p7).p7).p7;refine ⟨λ mm w'=>∃ (s3:fN) (v3:SV) (xs3 a3:List dQ),lV l s3∧mJ l Jl (ak3 l) mm s3=some (t4,a3)∧y4=xs3++a3∧St w bD [fj (Flat.val v3) xs3,fj (Flat.val v0) y1,bK (Flat.val v1) (y2.flatten),bK (Flat.val v2) (y3.flatten),cE OV (Flat.enc (⟨v0,v1,v2,v3,⟨none,0,0⟩,⟨none,0,0⟩⟩:bN)),cE p (eh lv s3),bK lv l,cE mc (Flat.enc (⟨⟨none,0,0⟩,⟨none,0,0⟩,⟨none,0,0⟩,⟨none,0,0⟩,⟨none,0,0⟩,⟨none,0,0⟩⟩:bN))] w',⟨10000,s2,⟨none,0,0⟩,[],y4,hi2,hp.h4,rfl,hs⟩,?_⟩
     rintro mm To ⟨s3,v3,xs3,a3,hi3,hm3,hy3,hs⟩ GQ;obtain ⟨m3,rfl⟩:=rP hm3;refine bG xU hs.p5 (H':=λ _=>cE p (eh lv (gM l s3 (ByteArray.mk #[116,104,114,101,97,100])).1)) (Φ:=λ v _=>v = .bool (gM l s3 (ByteArray.mk #[116,104,114,101,97,100])).2) (λ F2 eQ eA=>?_) ?_
     ·exact C165 p lv l s3 (ByteArray.mk #[116,104,114,101,97,100]) F2 _ eQ (λ w' hc=>(eA w' hc).p5.fB) hk hi3
     rintro _ VM rfl hs;refine aX (λ sy=>?_) (λ sy=>?_)
     ·obtain ⟨q3,z3,b3,hd3,hn3,rfl⟩:=wO hm3 sy;refine bG aeM hs (H':=λ _=>cE p (eh lv (eW l (gM l s3 (ByteArray.mk #[116,104,114,101,97,100])).1).1)) (Φ:=λ v _=>v=Flat.val (eW l (gM l s3 (ByteArray.mk #[116,104,114,101,97,100])).1).2) (λ F2 eQ eA=>?_) ?_
      ·exact C167 p lv l (gM l s3 (ByteArray.mk #[116,104,114,101,97,100])).1 F2 _ eQ (λ w' hc=>(eA w' hc).p5.fB) hk (jY hi3)
      rintro _ Tp rfl hs;refine aN hs CL (λ b_c10 w26 hs=>aI (x:=(eW l (gM l s3 (ByteArray.mk #[116,104,114,101,97,100])).1).2) hs xY rfl rfl (λ w27 hs=>aA ng (have hs:=hs.drew;aB (v:=Flat.val (v3:SV)) jb hs.p6.hb rfl (aA pB (aB (v:=.string (((eW l (gM l s3 (ByteArray.mk #[116,104,114,101,97,100])).1).2).name)) j8 hs.hb rfl (aA DA (aB (v:=.int .i64 (((eW l (gM l s3 (ByteArray.mk #[116,104,114,101,97,100])).1).2).at_)) bL hs.hb rfl (pop (RT _ _) (bG aeN hs.p1 (H':=λ v=>tW λ sh:ei=>fact (v=Flat.val sh) (sep (cE p (eh lv q3)) (eU (λ w=>bZ.dr w sh z3)))) (Φ:=λ _ _=>True) (λ F2 eQ eA=>?_) ?_)))))))))
      ·exact (C168 p lv l (eW l (gM l s3 (ByteArray.mk #[116,104,114,101,97,100])).1).1 ((eW l (gM l s3 (ByteArray.mk #[116,104,114,101,97,100])).1).2).name ((eW l (gM l s3 (ByteArray.mk #[116,104,114,101,97,100])).1).2).at_ q3 z3 F2 _ eQ (λ w' hc=>(eA w' hc).p6.fB) hk (uy (jY hi3)) hd3).mono λ _ _ r=>r.mono λ _ _ h=>⟨trivial,h⟩
      rintro v_x63 w28 _ AG;obtain ⟨alc,AH⟩:=AG.eV
      clear AG
      obtain ⟨ald,CX⟩:=AH.oE
      clear AH
      subst ald;have hs:=CX.split
      clear CX
      refine ⟨aG jb (hs.p7.hb.cell rfl),?_⟩;have hs:=hs.p1;refine eK (s:=alc) (x:=z3) hs iJ (by decide) (λ ars w29 hs=>?_);refine ⟨aG jb (hs.p7.hb.cell rfl),?_⟩;have hs:=hs.p3;refine ee hs iJ (by have h1:=congrArg List.length hy3; have h2:=hp.b4; simp at h1 ⊢; omega) (by decide) (λ agm w30 hs=>aA ng ?_);obtain ⟨XT,rfl⟩:=(hs).lP;refine aV hs.p6 jb (eI rfl) (rfl) (λ w31 hs=>?_);have hs:=((hs.enc (cs':=Flat.enc (⟨v0,v1,v2,XT,⟨none,0,0⟩,⟨none,0,0⟩⟩:bN)) rfl).p3).drop;have hs:=hs.p7.p7.p4.p3.p7.p7.p7.p7;exact ⟨_,by omega,q3,XT,xs3++[z3],b3,Fi (uy (jY hi3)) hd3,hn3,by rw [hy3,List.append_assoc]; rfl,hs⟩
     ·obtain ⟨e9,rfl⟩:=uA hm3 sy;replace e9:=e9.symm;subst e9;rw [List.append_nil] at hy3;subst hy3;rw [wN sy] at hs;refine ⟨λ w'=>∃ v4:SV,St w bD [fj (Flat.val v4) y5,fj (Flat.val v0) y1,bK (Flat.val v1) (y2.flatten),bK (Flat.val v2) (y3.flatten),fj (Flat.val v3) y4,cE OV (Flat.enc (⟨v0,v1,v2,v3,v4,⟨none,0,0⟩⟩:bN)),cE p (eh lv t5),bK lv l,cE mc (Flat.enc (⟨⟨none,0,0⟩,⟨none,0,0⟩,⟨none,0,0⟩,⟨none,0,0⟩,⟨none,0,0⟩,⟨none,0,0⟩⟩:bN))] w',?_,?_⟩
      ·refine bG xU hs (H':=λ _=>cE p (eh lv (gM l s3 (ByteArray.mk #[114,101,99,111,118,101,114])).1)) (Φ:=λ v _=>v = .bool (gM l s3 (ByteArray.mk #[114,101,99,111,118,101,114])).2) (λ F2 eQ eA=>?_) ?_
       ·exact C165 p lv l s3 (ByteArray.mk #[114,101,99,111,118,101,114]) F2 _ eQ (λ w' hc=>(eA w' hc).p5.fB) hk hi3
       rintro _ w32 rfl hs;refine aX (λ Mk=>?_) (λ Mk=>?_)
       ·obtain ⟨z4,hd4,hy5⟩:=Mj hp.h5 Mk;obtain ⟨azf,_,hlo68,hhi68⟩:=XJ Mk;have hat68:(gM l s3 (ByteArray.mk #[114,101,99,111,118,101,114])).1.at_=s3.at_+1:=by rw [azf]
        refine aA r7 (have hs:=hs.drew;aB (v:=Flat.val (⟨none,0,0⟩:SV)) jb hs.p5.hb rfl (aE (aA fk (aB bL hs.hb rfl (gA (by omega) ?_)))));obtain ⟨XU,XV⟩:=gx (l) (i:=((((gM l s3 (ByteArray.mk #[114,101,99,111,118,101,114])).1).at_ - 1)).toNat) (by omega);refine dR hs.p6 fD (by omega) (by omega) (λ _ XC=>m8 lg XC (λ _ ar0=>nY (XU).at_ hs.p6 bL ar0 XV rfl (pop (abC _) ?_)));have NL:yX l (gM l s3 (ByteArray.mk #[114,101,99,111,118,101,114])).1=(XU).at_:=congrArg bF.at_ (AO (by omega) XV);rw [NL] at hd4;refine bG aeN hs (H':=λ v=>tW λ sh:ei=>fact (v=Flat.val sh) (sep (cE p (eh lv t5)) (eU (λ w=>bZ.dr w sh z4)))) (Φ:=λ _ _=>True) (λ F2 eQ eA=>?_) ?_
        ·exact (C168 p lv l (gM l s3 (ByteArray.mk #[114,101,99,111,118,101,114])).1 (ByteArray.mk #[]) (XU).at_ t5 z4 F2 _ eQ (λ w' hc=>(eA w' hc).p5.fB) hk (jY hi3) hd4).mono λ _ _ r=>r.mono λ _ _ h=>⟨trivial,h⟩
        rintro v_x82 w33 _ AG;obtain ⟨ale,AH⟩:=AG.eV
        clear AG
        obtain ⟨alf,CX⟩:=AH.oE
        clear AH
        subst alf;have hs:=CX.split
        clear CX
        refine ⟨aG jb (hs.p6.hb.cell rfl),?_⟩;have hs:=hs.p1;refine eK (s:=ale) (x:=z4) hs iJ (by decide) (λ aqc w34 hs=>?_);refine ⟨aG jb (hs.p6.hb.cell rfl),?_⟩;have hs:=((hs.xI (α:=dQ)).p1).p1;refine ee hs iJ (by simp) (by decide) (λ afz w35 hs=>aA r7 ?_);obtain ⟨XW,rfl⟩:=(hs).lP;refine aV hs.p6 jb (eI rfl) (rfl) (λ w36 hs=>?_);have hs:=(((hs.enc (cs':=Flat.enc (⟨v0,v1,v2,v3,XW,⟨none,0,0⟩⟩:bN)) rfl).p8).p8).p4;have hs:=hs.p3.p5.p8.p8.p8.p8;rw [hy5];exact ⟨XW,hs⟩
       ·rw [wN Mk] at hs;have hs:=(((((((((hs.xI (α:=dQ)).p8).p8).p3).p8).p5).p8).p8).p8).p8;obtain ⟨e5,e6⟩:=Rk hp.h5 Mk;rw [e5,e6];exact ⟨⟨none,0,0⟩,hs⟩
      ·rintro w37 ⟨v4,hs⟩ R4;have hs:=((((((((((hs.xI (α:=jA)).p9).p9).p9).p9).p5).p9).p9).p9).p9).p9;refine ⟨λ mm w'=>∃ (s5:fN) (v5:SV) (xs5 a5:List jA),lV l s5∧mJ l Jm (λ s=>wM l s (yX l s)) mm s5=some (t6,a5)∧y6=xs5++a5∧St w bD [fj (Flat.val v5) xs5,fj (Flat.val v0) y1,bK (Flat.val v1) (y2.flatten),bK (Flat.val v2) (y3.flatten),fj (Flat.val v3) y4,fj (Flat.val v4) y5,cE OV (Flat.enc (⟨v0,v1,v2,v3,v4,v5⟩:bN)),cE p (eh lv s5),bK lv l,cE mc (Flat.enc (⟨⟨none,0,0⟩,⟨none,0,0⟩,⟨none,0,0⟩,⟨none,0,0⟩,⟨none,0,0⟩,⟨none,0,0⟩⟩:bN))] w',⟨10000,t5,⟨none,0,0⟩,[],y6,(adQ hi3 hp.h5),hp.h6,rfl,hs⟩,?_⟩
       rintro mm w38 ⟨s5,v5,xs5,a5,hi5,hm5,hy5,hs⟩ dd6;obtain ⟨m5,rfl⟩:=rP hm5;refine bG xU hs.p7 (H':=λ _=>cE p (eh lv (gM l s5 (ByteArray.mk #[97,108,119,97,121,115])).1)) (Φ:=λ v _=>v = .bool (gM l s5 (ByteArray.mk #[97,108,119,97,121,115])).2) (λ F2 eQ eA=>?_) ?_
       ·exact C165 p lv l s5 (ByteArray.mk #[97,108,119,97,121,115]) F2 _ eQ (λ w' hc=>(eA w' hc).p7.fB) hk hi5
       rintro _ YB rfl hs;refine aX (λ zW=>?_) (λ zW=>?_)
       ·obtain ⟨q5,z5,b5,hd5,Fy,rfl⟩:=wO hm5 zW;obtain ⟨azi,_,hlo87,hhi87⟩:=XJ zW;have hat87:(gM l s5 (ByteArray.mk #[97,108,119,97,121,115])).1.at_=s5.at_+1:=by rw [azi]
        refine aA kN (have hs:=hs.drew;aB (v:=Flat.val (v5:SV)) sR hs.p7.hb rfl (aE (aA fk (aB bL hs.hb rfl (gA (by omega) ?_)))));obtain ⟨XX,XY⟩:=gx (l) (i:=((((gM l s5 (ByteArray.mk #[97,108,119,97,121,115])).1).at_ - 1)).toNat) (by omega);refine dR hs.p8 fD (by omega) (by omega) (λ _ ar2=>m8 lg ar2 (λ _ ar3=>nY (XX).at_ hs.p8 bL ar3 XY rfl ?_));have NL:yX l (gM l s5 (ByteArray.mk #[97,108,119,97,121,115])).1=(XX).at_:=congrArg bF.at_ (AO (by omega) XY);rw [NL] at hd5;refine bG anj hs (H':=λ v=>tW λ sh:lQ=>fact (v=Flat.val sh) (sep (cE p (eh lv q5)) (eU (λ w=>bZ.dr w sh z5)))) (Φ:=λ _ _=>True) (λ F2 eQ eA=>?_) ?_
        ·exact (C169 p lv l (gM l s5 (ByteArray.mk #[97,108,119,97,121,115])).1 (XX).at_ q5 z5 F2 _ eQ (λ w' hc=>(eA w' hc).p7.fB) hk (jY hi5) hd5).mono λ _ _ r=>r.mono λ _ _ h=>⟨trivial,h⟩
        rintro azj w40 _ AG;obtain ⟨adR,AH⟩:=AG.eV
        clear AG
        obtain ⟨adS,CX⟩:=AH.oE
        clear AH
        subst adS;have hs:=CX.split
        clear CX
        refine ⟨aG sR (hs.p8.hb.cell rfl),?_⟩;have hs:=hs.p1;refine eK (s:=adR) (x:=z5) hs yx (by decide) (λ akr w41 hs=>?_);refine ⟨aG sR (hs.p8.hb.cell rfl),?_⟩;have hs:=hs.p2;refine ee hs yx (by have h1:=congrArg List.length hy5; have h2:=hp.b6; simp at h1 ⊢; omega) (by decide) (λ aks w42 hs=>aA kN ?_);obtain ⟨Rm,rfl⟩:=(hs).lP;refine aV hs.p7 sR (eI rfl) (rfl) (λ w43 hs=>?_);have hs:=(((((hs.enc (cs':=Flat.enc (⟨v0,v1,v2,v3,v4,Rm⟩:bN)) rfl).p9).p9).p4).p3).p9;have hs:=hs.p9.p9.p9.p9.p9;exact ⟨_,by omega,q5,Rm,xs5++[z5],b5,SO (jY hi5) hd5,Fy,by rw [hy5,List.append_assoc]; rfl,hs⟩
       ·obtain ⟨e9,rfl⟩:=uA hm5 zW;replace e9:=e9.symm;subst e9;rw [List.append_nil] at hy5;subst hy5;rw [wN zW] at hs;obtain ⟨hi50,hi51⟩:=id hi5;refine ⟨λ w'=>St w bD [fj (Flat.val v5) y6,fj (Flat.val v0) y1,bK (Flat.val v1) (y2.flatten),bK (Flat.val v2) (y3.flatten),fj (Flat.val v3) y4,fj (Flat.val v4) y5,cE OV (Flat.enc (⟨v0,v1,v2,v3,v4,v5⟩:bN)),cE p (eh lv (F4 l s5)),bK lv l,cE mc (Flat.enc (⟨⟨none,0,0⟩,⟨none,0,0⟩,⟨none,0,0⟩,⟨none,0,0⟩,⟨none,0,0⟩,⟨none,0,0⟩⟩:bN))] w',?_,?_⟩
        ·refine aE (aA fk (aB bL hs.hb rfl (aJ fD (hs.p8).fB (aR (aC (λ yR=>?_) (λ yR=>?_))))))
         ·refine bG Pu hs (H':=λ _=>cE p (eh lv (iU l s5 5))) (Φ:=λ _ _=>True) (λ F2 eQ eA=>?_) ?_
          ·exact (C170 p lv l s5 F2 _ eQ (λ w' hc=>(eA w' hc).p7.fB) hk hi5).mono λ _ _ r=>r.mono λ _ _ h=>⟨trivial,h.2⟩
          rintro _ w44 _ hs;have hs:=hs.p9.p9.p2.p9.p9.p9.p9.p9.p9.p9;have he6:F4 l s5=iU l s5 5:=if_pos yR;rw [he6]; exact hs
         ·have hs:=hs.p9.p9.p2.p9.p9.p9.p9.p9.p9.p9;have he6:F4 l s5=s5:=if_neg yR;rw [he6]; exact hs
        ·intro w45 hs dd7;refine aE (aA l8 (aB nq hs.p7.hb rfl (cQ (aC (λ OW=>?_) (λ OW=>?_)))))
         ·refine pop (v:=Flat.val (⟨⟨none,0,0⟩,⟨none,0,0⟩,⟨none,0,0⟩,⟨none,0,0⟩,⟨none,0,0⟩,⟨none,0,0⟩⟩:bN)) (by kernel_rfl) (aE (aA l8 (have hs:=hs.drew;aB nq hs.p7.hb rfl (aE (aA vS (aB bL hs.p7.hb rfl (aI (x:=(⟨⟨none,0,0⟩,⟨none,0,0⟩,⟨none,0,0⟩,⟨none,0,0⟩,⟨none,0,0⟩,⟨none,0,0⟩⟩:bN)) hs.p9 gJ rfl rfl (λ w46 hs=>?_))))))));refine ⟨aG nq (hs.p8.hb.cell rfl),?_⟩;refine ⟨aG bL (hs.p8.hb.cell rfl),?_⟩;refine aD gJ hs.At ?_;have hs:=hs.gF (Φ:=(λ w=>bZ.dr w (⟨⟨none,0,0⟩,⟨none,0,0⟩,⟨none,0,0⟩,⟨none,0,0⟩,⟨none,0,0⟩,⟨none,0,0⟩⟩:bN) (⟨[],[],[],[],[],[]⟩:cU))) (λ w=>⟨_,_,_,_,_,_,rfl,DL.nil _,DL.nil _,DL.nil _,DL.nil _,DL.nil _,DL.nil _⟩)
          have hs:=(((((((((hs.p1.drop.p1.drop.p1.drop.p1.drop.p1).drop).p1).drop).p1).drop).p1).drop).p1).drop;have hs:=(hs.p1).drop;rw [hp.bad OW];exact ⟨_,rfl,hs.fresh⟩
         ·refine aD gJ hs.p6.At (aI (x:=(⟨v0,v1,v2,v3,v4,v5⟩:bN)) hs.p9 gJ rfl rfl (λ w47 hs=>aD gJ hs.At ?_));have hs:=hs.p2.jJ.p3.freeze.p1.fM.p3.freeze.p1.fM.p3.jJ.p1.fM.p3.jJ.p1.fM;have hs:=hs.p2.jJ.p1.fM.dN (Ψ:=(λ w=>bZ.dr w (⟨v0,v1,v2,v3,v4,v5⟩:bN) (⟨y1,y2.flatten,y3.flatten,y4,y5,y6⟩:cU))) (λ w h=>⟨_,_,_,_,_,_,rfl,h.1.1.1.1.1,DL.fp h.1.1.1.1.2,DL.fp h.1.1.1.2,h.1.1.2,h.1.2,h.2⟩);have hs:=((((hs.p1.drop.p1.drop).p1).drop).p1).drop;rw [hp.ay5 OW];exact ⟨_,rfl,hs.fresh⟩
theorem C48 (s:ByteArray) (R:cU × Int × Int) (w:World) (Yv:s.size≤1000000) (hr:rO s=some R) (hTk:∀ l e a,ux s=some (l,e,a)→iu l) (hz:PZ R.1):CR 48 [.string s] w (λ v w'=>∃ uv:dJ,v=Flat.val uv∧lY (eU (λ w=>bZ.dr w uv (if gL R.1=0 then ek R.1 else EB))) w w'):=by
 have hs:=St.start w;refine ahl _ _ _ ?_;unfold S48;refine aN hs vP (λ mc w1 hs=>have hs:=hs.enc (cs':=Flat.enc (⟨⟨none,0,0⟩,0,⟨none,0,0⟩,0,⟨none,0,0⟩,(⟨0,0,⟨none,0,0⟩⟩:cK),⟨none,0,0⟩⟩:dJ)) rfl;eD amX (C109 s R _ Yv hr hTk) ?_);rintro _ w2 ⟨XZ,rfl,bY⟩;have hs:=hs.made bY;refine bE rfl (bE rfl (bE rfl (aN hs uK (λ wq w3 hs=>have hs:=hs.enc (cs':=Flat.enc (⟨⟨none,0,0⟩,⟨none,0,0⟩,⟨none,0,0⟩,⟨none,0,0⟩,⟨none,0,0⟩,⟨none,0,0⟩⟩:bN)) rfl;aI (x:=XZ) hs gJ rfl rfl (λ w4 hs=>aD gJ hs.At (eD amL (C12 R.1 XZ _ (hs.p1).eU hz) ?_))))));rintro _ w5 ⟨X0,rfl,bY⟩
 have hs:=hs.made bY;refine bE rfl (bE rfl (aN hs vP (λ axA w6 hs=>have hs:=hs.enc (cs':=Flat.enc (⟨⟨none,0,0⟩,0,⟨none,0,0⟩,0,⟨none,0,0⟩,(⟨0,0,⟨none,0,0⟩⟩:cK),⟨none,0,0⟩⟩:dJ)) rfl;aI (x:=X0) hs tK rfl rfl (λ w7 hs=>aD tK hs.At (aI (x:=X0) hs.p4 tK rfl rfl (λ w8 hs=>aD tK hs.At ?_))))));have hs:=((((((hs.drop)).drop).p1).drop).p1).drop;exact ⟨_,rfl,hs.fresh⟩
structure lW (c:fm) (cells lines locks:Int):Prop where
 rb:0≤c.aK∧c.aK≤4
 cb:0≤c.counts∧c.counts≤12
 fld:∀ (i:Nat) (x:aW),c.l[i]? = some x→u4 x c cells lines locks=true
 to:∀ (i:Nat) (x:aW),c.l[i]? = some x→IQ c.l i x=true
theorem Ml {c:fm} {cells lines locks:Int} (h:lr c cells lines locks=true):lW c cells lines locks:=by
 unfold lr at h
 simp only [Bool.and_eq_true,Bool.not_eq_true'] at h
 obtain ⟨⟨h1,h2⟩,h3⟩:=h
 unfold va at h1
 simp only [Bool.or_eq_false_iff,decide_eq_false_iff_not] at h1
 have hi:∀ (i:Nat) (x:aW),c.l[i]? = some x→u4 x c cells lines locks=true∧IQ c.l i x=true:=by
  intro i x hx
  have h4:=GY h2 i (List.getElem?_eq_some_iff.1 hx).1
  rw [ui hx] at h4
  simpa using h4
 exact ⟨by omega,by omega,λ i x hx=>(hi i x hx).1,λ i x hx=>(hi i x hx).2⟩
structure Fj (u:ib):Prop where
 ll:u.lines.length≤20
 st:0≤u.stays∧u.stays≤u.lines.length
 fl:u.cT.length=u.lines.length
 lk:0≤u.locks∧u.locks≤2
 tl:1≤u.threads.length∧u.threads.length≤3
 ln:∀ i,i<u.lines.length→j9 u i=false
 fr:∀ n∈u.cT,0≤n∧n≤4294967296
 th:∀ c∈u.threads,lW c u.lines.length (gq u) u.locks
 cl:∀ l∈u.cC,eL l u.stays=true
 rc:lW u.recover u.lines.length (gq u) u.locks
theorem rQ {u:ib} (h:nx u=true):Fj u:=by
 unfold nx at h
 simp only [Bool.and_eq_true,Bool.not_eq_true'] at h
 obtain ⟨h1,⟨⟨⟨⟨h2,h3⟩,h4⟩,h5⟩,h6⟩⟩:=h
 unfold kU at h1
 simp only [Bool.or_eq_false_iff,decide_eq_false_iff_not] at h1
 rw [List.any_eq_false] at h2 h4 h5
 refine ⟨by omega,by omega,by omega,by omega,by omega,λ i hi=>GY h3 i hi,λ n hn=>?_,λ c hc=>?_,λ l hl=>?_,Ml h6⟩
 ·have:=h2 n hn
  unfold lx at this
  simp at this; omega
 ·have:=h4 c hc
  exact Ml (by simpa using this)
 ·have:=h5 l hl
  simpa using this
theorem Rn {n k:Int} (h:Lu n k=true):0≤n∧n<k:=by unfold Lu at h; simpa using h
section
variable {c:fm} {cells lines locks:Int} {i:Nat} {x:aW}
theorem lW.kd (h:lW c cells lines locks) (hx:c.l[i]? = some x):1≤x.kind∧x.kind≤15:=by
 have:=h.fld i x hx; unfold u4 at this; simp only [Bool.and_eq_true,decide_eq_true_eq] at this; exact ⟨this.2.1.1.1,this.2.1.1.2⟩
theorem lW.a (h:lW c cells lines locks) (hx:c.l[i]? = some x):aM x c.aK c.counts=true:=by
 have:=h.fld i x hx; unfold u4 at this; simp only [Bool.and_eq_true,decide_eq_true_eq] at this; exact this.2.1.2
theorem lW.b (h:lW c cells lines locks) (hx:c.l[i]? = some x):bM x cells lines locks=true:=by
 have:=h.fld i x hx; unfold u4 at this; simp only [Bool.and_eq_true,decide_eq_true_eq] at this; exact this.2.2
theorem lW.a13 (h:lW c cells lines locks) (hx:c.l[i]? = some x) (hk:x.kind=13∨x.kind=14):0≤x.a∧x.a<c.counts:=by
 have:=h.a hx; unfold aM at this; rw [if_pos hk] at this; exact Rn this
theorem lW.a1 (h:lW c cells lines locks) (hx:c.l[i]? = some x) (hk:x.kind=1∨x.kind=2∨x.kind=4):0≤x.a∧x.a<c.aK:=by
 have:=h.a hx; unfold aM at this; rw [if_neg (by omega),if_pos hk] at this; exact Rn this
theorem lW.b2 (h:lW c cells lines locks) (hx:c.l[i]? = some x) (hk:x.kind=2∨x.kind=3∨x.kind=4):0≤x.b∧x.b<cells:=by
 have:=h.b hx; unfold bM at this; rw [if_pos hk] at this; exact Rn this
theorem lW.b9 (h:lW c cells lines locks) (hx:c.l[i]? = some x) (hk:x.kind=9∨x.kind=10):0≤x.b∧x.b<locks:=by
 have:=h.b hx; unfold bM at this; rw [if_neg (by omega),if_neg (by omega),if_pos hk] at this; exact Rn this
theorem lW.tob (h:lW c cells lines locks) (hx:c.l[i]? = some x):0≤x.to∧x.to≤c.l.length:=by
 have h1:=h.to i x hx
 have hi:=(List.getElem?_eq_some_iff.1 hx).1
 by_cases hk:x.kind=14
 ·have:=Wd hk h1; omega
 ·unfold IQ at h1
  split at h1
  ·simp at h1; omega
  ·simp at h1; omega
theorem pe {α:Type} {l:List α} {x:α} (h:x∈l):∃ i:Nat,l[i]? = some x:=List.mem_iff_getElem?.1 h
theorem lW.ok (h:lW c cells lines locks) (hz:CZ c):BK c:=by
 have h1:=h.rb; have h2:=h.cb; have h3:=hz.l
 refine ⟨by omega,by omega,by omega,λ x hx=>?_,λ x hx hk=>?_,λ x hx hk=>?_⟩
 ·obtain ⟨i,hi⟩:=pe hx
  have:=h.tob hi
  have h4:=hz.ef x hx
  exact ⟨h4.1,h4.2,by omega,by omega⟩
 ·obtain ⟨i,hi⟩:=pe hx; exact h.a1 hi (.inl hk)
 ·obtain ⟨i,hi⟩:=pe hx; exact h.a13 hi hk
end
def Vis (t:fK):Prop:=∀ x,gS t=some x→t.fault=0→2≤x.kind∧x.kind≤10
theorem X1 {t:fK} {x:aW} {e:Int}:(wG t x e).1.code=t.code∧(wG t x e).1.buf=t.buf:=by
 unfold wG; repeat' split
 all_goals exact ⟨rfl,rfl⟩
theorem pR (t:fK):(fI t).1.code=t.code∧(fI t).1.buf=t.buf:=by
 unfold fI
 cases hn:gS t with
 | none=>exact ⟨rfl,rfl⟩
 | some x=>
  dsimp only
  split
  ·split
   ·exact X1
   ·exact ⟨rfl,rfl⟩
  ·exact ⟨rfl,rfl⟩
theorem wP:∀ {n:Nat} {t t':fK},sN n t=some t'→t'.code=t.code∧t'.buf=t.buf
 | 0,_,_,h=>by cases h
 | n+1,t,t',h=>by
  have hc:=pR t
  unfold sN at h
  split at h
  ·have:=wP h; exact ⟨this.1.trans hc.1,this.2.trans hc.2⟩
  ·cases h; exact hc
theorem Jn:∀ {n:Nat} {t t':fK},G9 t→sN n t=some t'→G9 t'
 | 0,_,_,_,h=>by cases h
 | n+1,t,t',h0,h=>by
  unfold sN at h
  split at h
  ·exact Jn (lB h0) h
  ·cases h; exact lB h0
theorem Fk:∀ {n k:Nat} {t t':fK},sN n t=some t'→sN (n+k) t=some t'
 | 0,_,_,_,h=>by cases h
 | n+1,k,t,t',h=>by
  rw [show n+1+k=(n+k)+1 from by omega]
  unfold sN at h ⊢
  split at h
  ·rename_i hs; rw [if_pos hs]; exact Fk h
  ·rename_i hs; rw [if_neg hs]; exact h
theorem OX {t:fK} (hk:∀ x∈t.code.l,1≤x.kind∧x.kind≤15) (h:(fI t).2=false):Vis (fI t).1:=by
 intro x hx hf
 cases hn:gS t with
 | none=>rw [Av hn] at hx; rw [hx] at hn; cases hn
 | some y=>
  have hy:=hk y (qM hn).1
  cases he:(ew y.e t.aK).2 with
  | false=>rw [Aw hn he] at hf; simp [tE,he] at hf
  | true=>
   cases RF:(ew y.f t.aK).2 with
   | false=>rw [Ax hn he RF] at hf; simp [tF,tE,RF] at hf
   | true=>
    rw [kB hn he RF] at h hx hf
    unfold wG at h hx hf
    have e:∀ z,gS (tF (tE t y) y)=some z→z=y:=by
     intro z hz
     have:gS (tF (tE t y) y)=gS t:=rfl
     rw [this,hn] at hz; exact (Option.some.inj hz).symm
    split at h
    ·cases h
    ·split at h
     ·cases h
     ·split at h
      ·split at h <;> cases h
      ·split at h
       ·cases h
       ·split at h
        ·split at h <;> cases h
        ·split at h
         ·rename_i h1 h2 h3 h4 h5 h6
          rw [if_neg h1,if_neg h2,if_neg h3,if_neg h4,if_neg h5,if_pos h6] at hf
          split at hf
          ·cases hf
          ·rename_i h7; rw [if_neg h7] at h; cases h
         ·rename_i h1 h2 h3 h4 h5 h6
          rw [if_neg h1,if_neg h2,if_neg h3,if_neg h4,if_neg h5,if_neg h6] at hx
          have:=e x hx; subst this
          omega
theorem C5:∀ {n:Nat} {t t':fK},(∀ x∈t.code.l,1≤x.kind∧x.kind≤15)→sN n t=some t'→Vis t'
 | 0,_,_,_,h=>by cases h
 | n+1,t,t',hk,h=>by
  unfold sN at h
  split at h
  ·exact C5 (by rw [(pR t).1]; exact hk) h
  ·rename_i hs; cases h; exact OX hk (by simpa using hs)
theorem wQ {l:List Int} {k:Nat} (hk:0<k) (h:k≤l.length):jq (l.take k)=l.getD (k - 1) 0+1:=by
 unfold jq
 rw [List.length_take,Nat.min_eq_left h,if_neg (by omega),List.getD_eq_getElem?_getD,List.getD_eq_getElem?_getD,List.getElem?_take,if_pos (by omega)]
theorem C6 {u:ib} (h:Fj u) {k:Nat} {n:Int} (hk:(k:Int)<u.stays) (hn:u.lines[k]? = some n):(n=lu u.lines k∨(0<k∧n=lu u.lines k - 1))∧-1≤n∧n≤k:=by
 have mD:=(List.getElem?_eq_some_iff.1 hn).1
 have hb:=EM (u:=u) (k:=u.lines.length) (λ j hj=>h.ln j hj) k n mD hn
 have h1:=h.ln k mD
 unfold j9 at h1
 rw [hn] at h1
 simp only [Bool.and_eq_false_iff,Bool.or_eq_false_iff,decide_eq_false_iff_not,Decidable.not_not] at h1
 refine ⟨?_,hb⟩
 rcases h1 with h1 | h1
 ·exact .inl h1
 ·exact .inr ⟨by omega,h1.2⟩
theorem Jo {u:ib} (h:Fj u):∀ (k:Nat) (n:Int),(k:Int)<u.stays→u.lines[k]? = some n→0≤n∧∀ j m,j≤k→u.lines[j]? = some m→m≤n
 | 0,n,hk,hn=>by
  have h1:=(C6 h hk hn).1
  have e:lu u.lines 0=0:=rfl
  rw [e] at h1
  refine ⟨by omega,λ j m hj hm=>?_⟩
  obtain rfl:j=0:=by omega
  rw [hn] at hm; cases hm; exact Int.le_refl _
 | k+1,n,hk,hn=>by
  have mD:=(List.getElem?_eq_some_iff.1 hn).1
  obtain ⟨q,hq⟩:∃ q,u.lines[k]? = some q:=⟨_,List.getElem?_eq_getElem (by omega)⟩
  have ih:=Jo h k q (by omega) hq
  have h1:=(C6 h hk hn).1
  have e:lu u.lines (k+1)=q+1:=by unfold lu; rw [if_neg (by omega),Nat.add_sub_cancel,List.getD_eq_getElem?_getD,hq]; rfl
  rw [e] at h1
  refine ⟨by omega,λ j m hj hm=>?_⟩
  by_cases hjk:j=k+1
  ·subst hjk; rw [hn] at hm; cases hm; exact Int.le_refl _
  ·have:=ih.2 j m (by omega) hm; omega
theorem adT {u:ib} (h:Fj u):vG (WX u.lines u.stays u.cT):=by
 have h1:=h.st; have h2:=h.fl; have h3:=h.ll
 have hl:(u.lines.take u.stays.toNat).length=u.stays.toNat:=by rw [List.length_take]; omega
 refine ⟨?_,?_,rfl,?_,λ n hn=>?_,?_,λ k x hx=>by cases hx⟩
 ·show (u.lines.take u.stays.toNat).length≤u.cT.length; omega
 ·show u.cT.length≤20; omega
 ·show (u.cT.take u.stays.toNat).length=(u.lines.take u.stays.toNat).length; rw [hl,List.length_take]; omega
 ·obtain ⟨i,hi⟩:=pe (show n∈u.lines.take u.stays.toNat from hn)
  have mD:=(List.getElem?_eq_some_iff.1 hi).1
  rw [hl] at mD
  rw [List.getElem?_take,if_pos mD] at hi
  obtain ⟨q,hq⟩:∃ q,u.lines[u.stays.toNat - 1]? = some q:=⟨_,List.getElem?_eq_getElem (by omega)⟩
  have h4:=Jo h (u.stays.toNat - 1) q (by omega) hq
  have h5:=(Jo h i n (by omega) hi).1
  have h6:=h4.2 i n (by omega) hi
  show 0≤n∧n<jq (u.lines.take u.stays.toNat)
  rw [wQ (by omega) (by omega),List.getD_eq_getElem?_getD,hq]
  exact ⟨h5,by show n<q+1; omega⟩
 ·show jq (u.lines.take u.stays.toNat)≤20
  by_cases h0:u.stays.toNat=0
  ·rw [h0,List.take_zero]; decide
  ·obtain ⟨q,hq⟩:∃ q,u.lines[u.stays.toNat - 1]? = some q:=⟨_,List.getElem?_eq_getElem (by omega)⟩
   have:=(C6 h (by omega) hq).2
   rw [wQ (by omega) (by omega),List.getD_eq_getElem?_getD,hq]
   show q+1≤20
   omega
theorem Ro {f:Int→List jk} {a k:Int} {xs:List jk} {x:jk} (h:x∈tg f a xs k):x∈xs∨x∈f k:=by
 unfold tg at h; split at h; exact .inl h; exact .inr h
theorem Hr {m:Mem} {c n:Int} (h:vG m):vG (iH m c n):=by
 unfold iH
 split
 ·rename_i vl
  unfold Oe at vl; rw [decide_eq_true_eq] at vl
  refine ⟨h.QJ,h.fl,by show (m.l.set _ _).length=_; rw [List.length_set]; exact h.ll,h.kl,h.ofr,h.lb,λ k x hx=>?_⟩
  dsimp only at hx
  split at hx
  ·rename_i hc
   rcases Ro hx with h1 | h1
   ·rw [List.mem_append] at h1
    rcases h1 with h1 | h1
    ·exact h.pc _ x h1
    ·simp at h1; subst h1; exact ⟨vl.1,hc⟩
   ·exact h.pc _ x h1
  ·exact h.pc _ x hx
 ·exact h
theorem adU {m:Mem} {c:Int} (h:vG m):vG (vD m c):=by
 unfold vD
 split
 ·refine ⟨h.QJ,h.fl,h.ll,by show (xP _ _).length=_; rw [An]; exact h.kl,h.ofr,h.lb,λ k x hx=>?_⟩
  rcases Ro hx with h1 | h1
  ·cases h1
  ·exact h.pc _ x h1
 ·exact h
theorem SW {m:Mem} {cut qb:List Int} (h:jr m cut=some qb):qb.length=m.kept.length:=by
 unfold jr at h; split at h
 ·cases h; exact rI _ _ _
 ·cases h
theorem SX {m:Mem} {cut qb:List Int} (h:vG m) (hi:jr m cut=some qb):vG (yO m qb):=by
 have h1:=SW hi
 have h2:=h.kl; have h3:=h.QJ
 refine ⟨h.QJ,h.fl,?_,?_,h.ofr,h.lb,λ k x hx=>by cases hx⟩
 ·show (qb++m.cT.drop qb.length).length=m.cT.length
  rw [List.length_append,List.length_drop]; omega
 ·show qb.length=m.of.length; omega
structure GM (m:gE):Prop where
 ru:Fj m.u
 uz:UZ m.u
 mem:vG m.mem
 of:m.mem.of=m.u.lines.take m.u.stays.toNat
 cT:m.mem.cT=m.u.cT
 th:∀ t∈m.l,G9 t∧Vis t∧(t.code∈m.u.threads∨t.code=m.u.recover)
 tl:m.l.length≤3
 lk:(m.locks.length:Int)=m.u.locks
 rm:1≤m.room∧m.room≤16
 cr:0≤m.dT
section
variable {m:gE} {t:fK}
theorem GM.code (h:GM m) (ht:t∈m.l):lW t.code m.u.lines.length (gq m.u) m.u.locks:=by
 rcases (h.th t ht).2.2 with h1 | h1
 ·exact h.ru.th _ h1
 ·rw [h1]; exact h.ru.rc
theorem GM.ok (h:GM m):qx m:=by
 have M7:=h.tl
 refine ⟨h.mem,λ t ht=>(h.th t ht).1,by omega,h.lk,λ t ht x hx hk=>?_,λ t ht x hx hk=>?_,λ t ht x hx hk=>?_,h.rm,λ t ht=>(h.th t ht).2.1,λ n hn=>?_⟩
 ·obtain ⟨i,hi⟩:=pe hx; exact (h.code ht).b9 hi hk
 ·obtain ⟨i,hi⟩:=pe hx; exact (h.code ht).b2 hi (.inr (.inl hk))
 ·obtain ⟨i,hi⟩:=pe hx
  exact (h.code ht).a1 hi (by omega)
 ·obtain ⟨i,hi⟩:=pe hn
  have mD:=(List.getElem?_eq_some_iff.1 hi).1
  have:=EM (u:=m.u) (k:=m.u.lines.length) (λ j hj=>h.ru.ln j hj) i n mD hi
  have:=h.ru.ll
  omega
theorem SY {mm:Mem} {x:bJ} (h:vG mm):vG (ia mm x)∧(ia mm x).of=mm.of∧(ia mm x).cT=mm.cT:=by
 unfold ia
 split
 ·exact ⟨Hr h,BN _ _ _,tu _ _ _⟩
 ·split
  ·exact ⟨h,rfl,rfl⟩
  ·exact ⟨adU h,QQ _ _,Cf _ _⟩
theorem X2 {i:Int} {x:aW} (h:vG m.mem):vG (dX m t i x).1.mem∧(dX m t i x).1.mem.of=m.mem.of∧(dX m t i x).1.mem.cT=m.mem.cT:=by
 unfold dX BM yj uu
 repeat' split
 all_goals first
  | exact ⟨h,rfl,rfl⟩
  | exact ⟨Hr h,BN _ _ _,tu _ _ _⟩
theorem Rp {i:Int} {x:aW}:(dX m t i x).1.locks.length=m.locks.length∧(dX m t i x).1.dT=m.dT:=by
 unfold dX BM yj uu
 repeat' split
 all_goals first
  | exact ⟨rfl,rfl⟩
  | exact ⟨List.length_set ..,rfl⟩
theorem SZ {l:List bJ} {i:Int}:(ml l i).length≤l.length:=by
 unfold ml; split
 ·exact List.length_eraseIdx_le ..
 ·exact Nat.le_refl _
theorem GM.out {q:et} (h:GM m) (ht:m.l[q.t.toNat]? = some t):GM (mB m t q):=by
 have hm:=SY (x:=ej t.buf q.i) h.mem
 have Cv:=List.mem_of_getElem? ht
 refine ⟨h.ru,h.uz,hm.1,hm.2.1.trans h.of,hm.2.2.trans h.cT,λ t' X3=>?_,by show (m.l.set _ _).length≤3; rw [List.length_set]; exact h.tl,h.lk,h.rm,h.cr⟩
 rcases List.mem_or_eq_of_mem_set (show t'∈m.l.set _ _ from X3) with h1 | h1
 ·exact h.th t' h1
 ·subst h1
  obtain ⟨h2,h3,h4⟩:=h.th t Cv
  have:=SZ (l:=t.buf) (i:=q.i)
  have hb:=h2.bl
  exact ⟨⟨h2.code,h2.rg,h2.cn,h2.Tm,by show (ml t.buf q.i).length≤1000; omega⟩,h3,h4⟩
theorem lW.kds {c:fm} {a b d:Int} (h:lW c a b d):∀ x∈c.l,1≤x.kind∧x.kind≤15:=λ x hx=>by
 obtain ⟨i,hi⟩:=pe hx; exact h.kd hi
theorem GM.step {N:Nat} {i:Int} {m':gE} {ev:dC} (h:GM m) (hs:mI N m i=some (m',ev)):GM m':=by
 cases ht:m.l[i.toNat]? with
 | none=>unfold mI at hs; rw [ht] at hs; cases hs
 | some t=>
  have Cv:=List.mem_of_getElem? ht
  have htt:=h.th t Cv
  by_cases hf:t.fault≠0
  ·rw [(AA hs ht hf).1]
   exact ⟨h.ru,h.uz,h.mem,h.of,h.cT,h.th,h.tl,h.lk,h.rm,h.cr⟩
  ·obtain ⟨x,hn⟩:=AB hs ht hf
   have hm:=X2 (m:=m) (t:=t) (i:=i) (x:=x) h.mem
   have ME:=Rp (m:=m) (t:=t) (i:=i) (x:=x)
   have oF:=QR (m:=m) (i:=i) (x:=x) htt.1 h.rm.2
   have key:∀ t2:fK,G9 t2→Vis t2→t2.code=t.code→GM { (dX m t i x).1 with l:=(dX m t i x).1.l.set i.toNat t2}:=by
    intro t2 h1 h2 h3
    have hu:=Oo (m:=m) (t:=t) (i:=i) (x:=x)
    refine ⟨by rw [hu]; exact h.ru,by rw [hu]; exact h.uz,hm.1,by rw [hu]; exact hm.2.1.trans h.of,by rw [hu]; exact hm.2.2.trans h.cT,λ t' X3=>?_,?_,?_,?_,?_⟩
    ·rw [I8] at X3
     rw [hu]
     rcases List.mem_or_eq_of_mem_set (show t'∈m.l.set _ _ from X3) with h4 | h4
     ·exact h.th t' h4
     ·subst h4; exact ⟨h1,h2,by rw [h3]; exact htt.2.2⟩
    ·show ((dX m t i x).1.l.set _ _).length≤3
     rw [List.length_set,I8]; exact h.tl
    ·show ((dX m t i x).1.locks.length:Int)=(dX m t i x).1.u.locks
     rw [ME.1,hu]; exact h.lk
    ·show 1≤(dX m t i x).1.room∧(dX m t i x).1.room≤16
     rw [xq]; exact h.rm
    ·show 0≤(dX m t i x).1.dT
     rw [ME.2]; exact h.cr
   by_cases h0:(dX m t i x).1.fault=0
   ·obtain ⟨t2,hg,MF,_⟩:=AD hs ht hf hn h0
    rw [MF]
    have hc:=wP hg
    have hcc:t2.code=t.code:=hc.1.trans (qO (m:=m) (t:=t) (i:=i) (x:=x))
    refine key t2 (Jn ?_ hg) (C5 (t:={ (dX m t i x).2.1 with at_:=(dX m t i x).2.1.at_+1}) ?_ hg) hcc
    ·exact ⟨oF.code,oF.rg,oF.cn,by show 0≤(dX m t i x).2.1.at_+1; have:=oF.Tm; omega,oF.bl⟩
    ·show ∀ x'∈(dX m t i x).2.1.code.l,_
     rw [qO]; exact (h.code Cv).kds
   ·obtain ⟨MF,_⟩:=AE hs ht hf hn h0
    rw [MF]
    refine key _ oF ?_ (qO (m:=m) (t:=t) (i:=i) (x:=x))
    intro y hy hfy
    have e:gS (dX m t i x).2.1=gS t:=by unfold gS; rw [qO,CV]
    rw [e] at hy
    exact htt.2.1 y hy (by omega)
theorem GM.ar5 {q:et} {qb:List Int} {N:Nat} (h:GM m) (hi:ir m q=some qb) (hg:sN N (qd m.u.recover)=some t):GM (lH (vf m qb) [t]):=by
 have hi2:jr m.mem q.cut=some qb:=by unfold ir at hi; split at hi; exact hi; cases hi
 have hr:=h.ru.rc
 have ME:=h.ru.lk
 refine ⟨h.ru,h.uz,SX h.mem hi2,h.of,h.cT,λ t' X3=>?_,by show [t].length≤3; simp,?_,h.rm,by show 0≤m.dT+1; have:=h.cr; omega⟩
 ·obtain rfl:t'=t:=by simpa using (show t'∈[t] from X3)
  exact ⟨Jn (I9 (hr.ok h.uz.rc)) hg,C5 (t:=qd m.u.recover) hr.kds hg,.inr (wP hg).1⟩
 ·show ((List.replicate m.u.locks.toNat (-1:Int)).length:Int)=m.u.locks
  rw [List.length_replicate]; omega
theorem GM.do {N:Nat} {q:et} {m2:gE} {ev:dC} {e:Int} (h:GM m) (hd:Cx N m q=some (m2,ev,e)):GM m2:=by
 cases hc:ir m q with
 | some qb=>obtain ⟨t,hg,hm,_⟩:=qP hd hc; rw [hm]; exact h.ar5 hc hg
 | none=>
  by_cases ha:(ft m).any (jP q)=true
  ·by_cases hk:q.kind=2
   ·obtain ⟨_,t,ht⟩:=tx ha
    rw [(qG hd hc ha hk ht).1]; exact h.out ht
   ·exact h.step (oy hd hc ha hk).1
  ·rw [(qF hd hc ha).1]; exact h
end
theorem GM.new {N:Nat} {u:ib} {room:Int} {ni:List fK} (hu:Fj u) (hz:UZ u) (hb:rK N u.threads ni) (hr:1≤room∧room≤16):GM (lH (mC u room) ni):=by
 have h1:=hu.tl; have h2:=hu.lk
 refine ⟨hu,hz,adT hu,rfl,rfl,λ t ht=>?_,by show ni.length≤3; rw [hb.1]; exact h1.2,?_,hr,Int.le_refl _⟩
 ·obtain ⟨i,hi⟩:=pe (show t∈ni from ht)
  have mD:=(List.getElem?_eq_some_iff.1 hi).1
  obtain ⟨c,hc⟩:∃ c,u.threads[i]? = some c:=⟨_,List.getElem?_eq_getElem (by rw [← hb.1]; exact mD)⟩
  have hg:=hb.2 i c t hc hi
  have MI:=List.mem_of_getElem? hc
  have hcu:=hu.th c MI
  exact ⟨Jn (I9 (hcu.ok (hz.th c MI))) hg,C5 (t:=qd c) hcu.kds hg,.inl (by rw [(wP hg).1]; exact MI)⟩
 ·show ((List.replicate u.locks.toNat (-1:Int)).length:Int)=u.locks
  rw [List.length_replicate]; omega
theorem Mm {N:Nat} {u:ib} {ni:List fK} (hu:Fj u) (hz:UZ u) (hb:rK N u.threads ni):QS N u ni:=by
 have h1:=hu.lk; have h2:=hu.st; have h3:=hu.ll
 refine ⟨hb,λ c hc=>(hu.th c hc).ok (hz.th c hc),hu.fl.symm,hu.ll,hu.st,λ k n hk hn=>?_,by omega⟩
 have h4:=C6 hu hk hn
 have mD:=(List.getElem?_eq_some_iff.1 hn).1
 exact ⟨h4.1,by omega,by omega⟩
theorem MB.mono {mm:Mem} {a b:Nat} (h:MB mm a) (hab:a≤b):MB mm b:=λ k=>Nat.le_trans (h k) hab
theorem MB.write {mm:Mem} {c x:Int} {n:Nat} (h:MB mm n):MB (iH mm c x) (n+1):=by
 intro k
 unfold iH
 split
 ·dsimp only
  split
  ·unfold tg
   split
   ·rw [List.length_append,List.length_singleton]; have:=h (mm.of.getD c.toNat 0); omega
   ·have:=h k; omega
  ·have:=h k; omega
 ·have:=h k; omega
theorem MB.out {mm:Mem} {c:Int} {n:Nat} (h:MB mm n):MB (vD mm c) n:=by
 intro k
 unfold vD
 split
 ·dsimp only
  unfold tg
  split
  ·simp
  ·exact h k
 ·exact h k
theorem MB.ia {mm:Mem} {x:bJ} {n:Nat} (h:MB mm n):MB (ia mm x) (n+1):=by
 unfold Go.Proofs.YtnjcingfdhjfkaaGreat.ia
 split
 ·exact h.write
 ·split
  ·exact h.mono (Nat.le_succ n)
  ·exact h.out.mono (Nat.le_succ n)
theorem MB.act {m:gE} {t:fK} {i:Int} {x:aW} {n:Nat} (h:MB m.mem n):MB (dX m t i x).1.mem (n+1):=by
 unfold dX BM yj uu
 repeat' split
 all_goals first
  | exact h.mono (Nat.le_succ n)
  | exact h.write
theorem MB.step {N n:Nat} {m m':gE} {i:Int} {ev:dC} (h:MB m.mem n) (hs:mI N m i=some (m',ev)):MB m'.mem (n+1):=by
 cases ht:m.l[i.toNat]? with
 | none=>unfold mI at hs; rw [ht] at hs; cases hs
 | some t=>
  by_cases hf:t.fault≠0
  ·rw [(AA hs ht hf).1]; exact h.mono (Nat.le_succ n)
  ·obtain ⟨x,hn⟩:=AB hs ht hf
   by_cases h0:(dX m t i x).1.fault=0
   ·obtain ⟨t2,_,MF,_⟩:=AD hs ht hf hn h0
    rw [MF]; exact h.act
   ·rw [(AE hs ht hf hn h0).1]; exact h.act
theorem MB.do {N n:Nat} {m m2:gE} {q:et} {ev:dC} {e:Int} (h:MB m.mem n) (hd:Cx N m q=some (m2,ev,e)):MB m2.mem (n+1):=by
 cases hc:ir m q with
 | some qb=>obtain ⟨t,_,hm,_⟩:=qP hd hc; rw [hm]; intro k; exact Nat.zero_le _
 | none=>
  by_cases ha:(ft m).any (jP q)=true
  ·by_cases hk:q.kind=2
   ·obtain ⟨_,t,ht⟩:=tx ha
    rw [(qG hd hc ha hk ht).1]; exact h.ia
   ·exact h.step (oy hd hc ha hk).1
  ·rw [(qF hd hc ha).1]; exact h.mono (Nat.le_succ n)
theorem MB.new {u:ib} {room:Int} {ni:List fK}:MB (lH (mC u room) ni).mem 0:=λ _=>Nat.le_refl _
theorem Fl {N:Nat} {m m2:gE} {q:et} {ev:dC} {e:Int} (hd:Cx N m q=some (m2,ev,e)):m2.dT≤m.dT+1∧m2.u=m.u∧m2.room=m.room:=by
 cases hc:ir m q with
 | some qb=>obtain ⟨t,_,hm,_⟩:=qP hd hc; rw [hm]; exact ⟨Int.le_refl _,rfl,rfl⟩
 | none=>
  by_cases ha:(ft m).any (jP q)=true
  ·by_cases hk:q.kind=2
   ·obtain ⟨_,t,ht⟩:=tx ha
    rw [(qG hd hc ha hk ht).1]; exact ⟨by show m.dT≤_; omega,rfl,rfl⟩
   ·have hs:=(oy hd hc ha hk).1
    cases ht:m.l[q.t.toNat]? with
    | none=>unfold mI at hs; rw [ht] at hs; cases hs
    | some t=>
     by_cases hf:t.fault≠0
     ·rw [(AA hs ht hf).1]; exact ⟨by show m.dT≤_; omega,rfl,rfl⟩
     ·obtain ⟨x,hn⟩:=AB hs ht hf
      have Fu:=(Rp (m:=m) (t:=t) (i:=q.t) (x:=x)).2
      by_cases h0:(dX m t q.t x).1.fault=0
      ·obtain ⟨t2,_,MF,_⟩:=AD hs ht hf hn h0
       rw [MF]; exact ⟨by show (dX m t q.t x).1.dT≤_; omega,Oo,xq⟩
      ·rw [(AE hs ht hf hn h0).1]; exact ⟨by show (dX m t q.t x).1.dT≤_; omega,Oo,xq⟩
  ·rw [(qF hd hc ha).1]; exact ⟨by omega,rfl,rfl⟩
theorem alg {α:Type} {g:α→Bool} {l:List α} (h:0≤uQ g l):uQ g l<l.length:=by
 unfold uQ at h ⊢
 cases hf:l.findIdx? g with
 | none=>rw [hf] at h; simp at h
 | some k=>
  have:=(List.findIdx?_eq_some_iff_getElem.1 hf).1
  simp; exact this
theorem AR {ns:List ByteArray} {s:ByteArray} (h:0≤dO ns s):dO ns s<ns.length:=alg h
theorem Mn {s:ByteArray} (h:j1 s=true):s≠⟨#[]⟩:=by
 rintro rfl
 exact absurd h (by decide)
theorem Ex.ar6 (ns:List ByteArray) (t:Ex):t.wf→∀ n h:Int,0≤n→∃ h',(t.steps ns).foldl KH (some (n,h))=some (n+1,h'):=by
 induction t with
 | leaf x=>
  intro hw n h hn
  have Nr:kids x.op=0:=hw
  have hw1:fG x.op=0:=by
   unfold kids at Nr
   unfold fG
   split at Nr <;> (try split at Nr) <;> (try split at Nr) <;> repeat' split
   all_goals omega
  refine ⟨max h (n+1),(show KH (some (n,h)) ⟨x.op,Ex.numOf ns x⟩=some (n+1,max h (n+1)) from ?_)⟩
  unfold KH; dsimp only; rw [hw1,if_neg (by omega),Int.sub_zero]
 | un x a ih=>
  intro hw n h hn
  have Nr:kids x.op=1:=hw.1
  have hw1:fG x.op=1:=by
   unfold kids at Nr
   unfold fG
   split at Nr <;> (try split at Nr) <;> (try split at Nr) <;> repeat' split
   all_goals omega
  obtain ⟨h1,e1⟩:=ih hw.2 n h hn
  refine ⟨max h1 (n+1),?_⟩
  show List.foldl KH (some (n,h)) (a.steps ns++[(⟨x.op,numOf ns x⟩:nt)])=_
  rw [List.foldl_append,e1]
  show KH (some (n+1,h1)) ⟨x.op,numOf ns x⟩=_
  unfold KH; dsimp only; rw [hw1,if_neg (by omega),Int.add_sub_cancel]
 | bin x a b vB xJ=>
  intro hw n h hn
  have Nr:kids x.op=2:=hw.1
  have hw1:fG x.op=2:=by
   unfold kids at Nr
   unfold fG
   split at Nr <;> (try split at Nr) <;> (try split at Nr) <;> repeat' split
   all_goals omega
  obtain ⟨h1,e1⟩:=vB hw.2.1 n h hn
  obtain ⟨h2,e2⟩:=xJ hw.2.2 (n+1) h1 (by omega)
  refine ⟨max h2 (n+1),?_⟩
  show List.foldl KH (some (n,h)) (a.steps ns++b.steps ns++[(⟨x.op,numOf ns x⟩:nt)])=_
  rw [List.foldl_append,List.foldl_append,e1,e2]
  show KH (some (n+1+1,h2)) ⟨x.op,numOf ns x⟩=_
  unfold KH; dsimp only; rw [hw1,if_neg (by omega),show n+1+1 - 2+1=n+1 from by omega]
theorem Jp {k:Int} (h:kids k=0∨kids k=1∨kids k=2):1≤k∧k≤15:=by
 unfold kids at h
 repeat' split at h
 all_goals omega
theorem Ex.S0 (ns:List ByteArray) (t:Ex):t.wf→∀ o∈t.steps ns,∃ x∈t.flat,o=⟨x.op,numOf ns x⟩∧1≤x.op∧x.op≤15:=by
 induction t with
 | leaf x=>intro hw o ho; exact ⟨x,by simp [Ex.flat],by simpa [Ex.steps] using ho,Jp (.inl hw)⟩
 | un x a ih=>
  intro hw o ho
  have ho:o∈a.steps ns++[⟨x.op,numOf ns x⟩]:=ho
  rw [List.mem_append] at ho
  rcases ho with ho | ho
  ·obtain ⟨y,h1,h2⟩:=ih hw.2 o ho; exact ⟨y,by simp [Ex.flat,h1],h2⟩
  ·exact ⟨x,by simp [Ex.flat],by simpa using ho,Jp (.inr (.inl hw.1))⟩
 | bin x a b vB xJ=>
  intro hw o ho
  have ho:o∈a.steps ns++b.steps ns++[⟨x.op,numOf ns x⟩]:=ho
  rw [List.mem_append,List.mem_append] at ho
  rcases ho with (ho | ho) | ho
  ·obtain ⟨y,h1,h2⟩:=vB hw.2.1 o ho; exact ⟨y,by simp [Ex.flat,h1],h2⟩
  ·obtain ⟨y,h1,h2⟩:=xJ hw.2.2 o ho; exact ⟨y,by simp [Ex.flat,h1],h2⟩
  ·exact ⟨x,by simp [Ex.flat],by simpa using ho,Jp (.inr (.inr hw.1))⟩
theorem wR {ns:List ByteArray} {l:List cY} {many:Int} (hr:jD l=true) (hv:vp l ns=false) (hm:many=ns.length):eL (gi ns l) many=true∧(gi ns l).length≤40:=by
 have hr0:=hr
 unfold jD at hr
 simp only [Bool.and_eq_true,Bool.not_eq_true',decide_eq_true_eq,List.any_eq_false] at hr
 obtain ⟨⟨⟨h1,h2⟩,h3⟩,h4⟩:=hr
 obtain ⟨t,ht0⟩:=Option.isSome_iff_exists.1 h2
 obtain ⟨hw,Bd⟩:=yC ht0
 have hv0:=hv
 unfold vp at hv
 have he:yc ns l=0:=by unfold yc; rw [if_neg (by rw [hr0]; decide),if_neg (by rw [hv]; decide)]
 have hl:gi ns l=t.steps ns:=by unfold gi; rw [if_pos he]; unfold Nu; rw [ht0]
 rw [hl]
 have hlen:(t.steps ns).length≤40:=by rw [Ex.xi,← Ex.cO,← Bd]; exact h1
 obtain ⟨h',e'⟩:=t.ar6 ns hw 0 0 (Int.le_refl _)
 have e2:ht (t.steps ns)=some (1,h'):=by unfold ht; rw [e']; rfl
 refine ⟨?_,hlen⟩
 unfold eL htN
 rw [e2]
 simp only [Option.isSome_some,decide_true,Bool.and_true,Bool.and_eq_true,decide_eq_true_eq,Bool.not_eq_true',List.any_eq_false]
 refine ⟨hlen,λ o ho=>?_⟩
 obtain ⟨x,hx,rfl,Th,Fu⟩:=t.S0 ns hw o ho
 rw [← Bd] at hx
 have X4:=h3 x hx
 unfold oT at X4
 simp only [Bool.or_eq_true,decide_eq_true_eq,not_or,Bool.and_eq_true,Bool.not_eq_true',not_and,Bool.not_eq_false] at X4
 obtain ⟨⟨⟨⟨g1,g2⟩,g3⟩,g4⟩,g5⟩:=X4
 have hn:Ex.numOf ns x=if x.op=2 then dO ns x.name else x.n:=rfl
 unfold sn
 simp only [decide_eq_true_eq]
 rintro (⟨q1,q2⟩ | ⟨q1,q2⟩ | ⟨q1,q2,q3⟩)
 ·have q1:x.op=1:=q1
  rw [hn,if_neg (by omega)] at q2; omega
 ·have q1:x.op=2:=q1
  rw [hn,if_pos q1] at q2
  rw [List.any_eq_false] at hv
  have:=hv x hx
  simp only [Bool.and_eq_true,decide_eq_true_eq,not_and] at this
  have h5:=this q1
  have h6:=AR (ns:=ns) (s:=x.name) (by omega)
  omega
 ·have q1:¬ x.op=1:=q1
  have q2:¬ x.op=2:=q2
  rw [hn,if_neg q2] at q3
  have:=g2
  omega
theorem ar8 {k:Int} (h:1≤k∧k≤14):ep (j6 k) 101=decide (k=1∨k=3∨k=4∨k=11∨k=14)∧ep (j6 k) 102=decide (k=4)∧ep (j6 k) 114=decide (k=1∨k=2∨k=4)∧ep (j6 k) 110=decide (k=2∨k=3∨k=4∨k=5∨k=6∨k=9∨k=10):=by
 obtain rfl | rfl | rfl | rfl | rfl | rfl | rfl | rfl | rfl | rfl | rfl | rfl | rfl | rfl:k=1∨k=2∨k=3∨k=4∨k=5∨k=6∨k=7∨k=8∨k=9∨k=10∨k=11∨k=12∨k=13∨k=14:=by omega
 all_goals decide
structure ar9 (x:cG):Prop where
 kind:1≤x.kind∧x.kind≤14
 e1:x.kind=1∨x.kind=3∨x.kind=4∨x.kind=11∨x.kind=14→jD x.e=true
 e0:¬ (x.kind=1∨x.kind=3∨x.kind=4∨x.kind=11∨x.kind=14)→x.e=[]
 f1:x.kind=4→jD x.f=true
 f0:¬ x.kind=4→x.f=[]
 r1:x.kind=1∨x.kind=2∨x.kind=4→j1 x.gK=true
 r0:¬ (x.kind=1∨x.kind=2∨x.kind=4)→x.gK=⟨#[]⟩
theorem azn {x:cG} (h:rp x=true):ar9 x:=by
 have h:=Bp h
 obtain ⟨g1,g2,g3,g4⟩:=ar8 h.kind
 refine ⟨h.kind,λ hk=>?_,λ hk=>?_,λ hk=>?_,λ hk=>?_,λ hk=>?_,λ hk=>?_⟩
 ·rcases h.e with q | q
  ·exact q.2
  ·rw [g1,decide_eq_true hk] at q; exact absurd q.1 (by decide)
 ·rcases h.e with q | q
  ·rw [g1,decide_eq_false hk] at q; exact absurd q.1 (by decide)
  ·exact q.2
 ·rcases h.f with q | q
  ·exact q.2
  ·rw [g2,decide_eq_true hk] at q; exact absurd q.1 (by decide)
 ·rcases h.f with q | q
  ·rw [g2,decide_eq_false hk] at q; exact absurd q.1 (by decide)
  ·exact q.2
 ·rcases h.gK with q | q
  ·exact q.2
  ·rw [g3,decide_eq_true hk] at q; exact absurd q.1 (by decide)
 ·rcases h.gK with q | q
  ·rw [g3,decide_eq_false hk] at q; exact absurd q.1 (by decide)
  ·exact q.2
theorem Hs (ns:List ByteArray):gi ns []=[]:=by
 unfold gi; split
 ·rfl
 ·rfl
theorem C7:∀ (ls:List (List dG)) (i a:Int),0≤a→(∀ l∈ls,l≠[])→i≤iq ls i a∧(∀ b,a≤b→iq ls i a≤iq ls i b)∧(iq ls i (a+1)=iq ls i a∨iq ls i (a+1)=iq ls i a+1)
 | [],i,a,ha,_=>⟨by unfold iq; omega,λ b hb=>by unfold iq; omega,by unfold iq; omega⟩
 | l::r,i,a,ha,hl=>by
  have Ck:0<l.length:=List.length_pos_iff.2 (hl l (List.mem_cons_self ..))
  have hr:=λ l A6=>hl l (List.mem_cons_of_mem _ A6)
  unfold iq
  by_cases h1:a<l.length
  ·rw [if_pos h1]
   refine ⟨Int.le_refl _,λ b hb=>?_,?_⟩
   ·split
    ·exact Int.le_refl _
    ·have:=(C7 r (i+1) (b - l.length) (by omega) hr).1; omega
   ·split
    ·exact .inl rfl
    ·have e:a+1 - (l.length:Int)=0:=by omega
     rw [e]
     cases r with
     | nil=>unfold iq; omega
     | cons l2 r2=>
      have hne2:0<l2.length:=List.length_pos_iff.2 (hr l2 (List.mem_cons_self ..))
      unfold iq; rw [if_pos (by omega)]; exact .inr rfl
  ·rw [if_neg h1]
   obtain ⟨g1,g2,g3⟩:=C7 r (i+1) (a - l.length) (by omega) hr
   refine ⟨by omega,λ b hb=>?_,?_⟩
   ·rw [if_neg (by omega)]; exact g2 _ (by omega)
   ·rw [if_neg (by omega),show a+1 - (l.length:Int)=a - l.length+1 from by omega]; exact g3
theorem C8:∀ (ls:List (List dG)) (i a:Int),(ls.flatten.length:Int)≤a→iq ls i a=i+ls.length+(a - ls.flatten.length)
 | [],i,a,_=>by unfold iq; simp
 | l::r,i,a,ha=>by
  have e:(((l::r).flatten).length:Int)=l.length+r.flatten.length:=by simp
  unfold iq
  rw [if_neg (by omega),C8 r (i+1) (a - l.length) (by omega),e]
  simp only [List.length_cons]
  omega
theorem Jq:∀ (ls:List (List dG)) (i a:Int),0≤a→a<ls.flatten.length→iq ls i a<i+ls.length
 | [],i,a,h0,ha=>by simp at ha; omega
 | l::r,i,a,h0,ha=>by
  have e:(((l::r).flatten).length:Int)=l.length+r.flatten.length:=by simp
  unfold iq
  split
  ·simp only [List.length_cons]; omega
  ·have:=Jq r (i+1) (a - l.length) (by omega) (by omega)
   simp only [List.length_cons]; omega
section
variable {p:cU}
theorem BS (p:cU):(ek p).lines.length=(gG p).length:=by show ((List.range _).map _).length=_; rw [List.length_map,List.length_range]
theorem AS {i:Nat} (h:i<(gG p).length):(ek p).lines[i]? = some (lT p i):=by
 show ((List.range _).map _)[i]? = _
 rw [List.getElem?_map,List.getElem?_range h]; rfl
theorem Bv.pf (h:Bv p):PF p:=wk h.right
theorem Bv.sz (h:Bv p):p.lines.length≤4∧(∀ l∈p.lines,l.length≤4)∧p.jT.length≤4∧p.locks.length≤2∧1≤p.threads.length∧p.threads.length≤3∧p.cC.length≤4∧∀ t∈iG p,t.aK.length≤4:=by
 have hb:=h.big
 unfold z6 at hb
 simp only [Bool.or_eq_false_iff,decide_eq_false_iff_not,List.any_eq_false,decide_eq_true_eq] at hb
 obtain ⟨⟨h1,h2⟩,⟨⟨⟨⟨⟨h3,h4⟩,h5⟩,h6⟩,h7⟩,h8⟩⟩:=hb
 exact ⟨by omega,λ l hl=>by have:=h1 l hl; omega,by omega,by omega,by omega,by omega,by omega,λ t ht=>by have:=h2 t ht; omega⟩
theorem Mo:∀ {ls:List (List dG)},(∀ l∈ls,l.length≤4)→ls.flatten.length≤4 * ls.length
 | [],_=>by simp
 | l::r,h=>by
  have h1:=h l (List.mem_cons_self ..)
  have h2:=Mo (ls:=r) λ l hl=>h l (List.mem_cons_of_mem _ hl)
  rw [List.flatten_cons,List.length_append,List.length_cons]; omega
theorem Bv.gG (h:Bv p):(gG p).length≤20:=by
 obtain ⟨h1,h2,h3,_⟩:=h.sz
 have:=Mo h2
 unfold Go.Proofs.YtnjcingfdhjfkaaGreat.gG
 rw [List.length_append]; omega
theorem AT (p:cU):0≤eg p∧eg p≤(gG p).length:=by unfold eg gG; rw [List.length_append]; omega
theorem uB {c:Int} (h:0≤c∧c<(gG p).length):lT p c=iq p.lines 0 c:=by unfold lT; rw [if_neg (by omega)]
theorem S1 (h:Bv p) {c:Int} (hc:0≤c∧c<eg p):0≤lT p c∧lT p c<gq (ek p):=by
 have hs:=AT p
 have Ck:=λ l hl=>(h.pf.lines l hl).1
 obtain ⟨g1,g2,_⟩:=C7 p.lines 0 c hc.1 Ck
 rw [uB (by omega)]
 refine ⟨g1,?_⟩
 have g3:=g2 (eg p - 1) (by omega)
 have e:gq (ek p)=iq p.lines 0 (eg p - 1)+1:=by
  unfold gq
  rw [BS]
  show (if 1≤eg p∧eg p≤((Go.Proofs.YtnjcingfdhjfkaaGreat.gG p).length:Int) then (ek p).lines.getD (eg p - 1).toNat 0+1 else 0)=_
  rw [if_pos (by omega),List.getD_eq_getElem?_getD,AS (by omega)]
  show lT p ((eg p - 1).toNat:Nat)+1=_
  rw [show (((eg p - 1).toNat:Nat):Int)=eg p - 1 from by omega,uB (by omega)]
 omega
theorem OY (h:Bv p) {i:Nat} (hi:i<(gG p).length):j9 (ek p) i=false:=by
 have Ck:=λ l hl=>(h.pf.lines l hl).1
 have hs:=AT p
 unfold j9
 rw [AS hi]
 dsimp only
 by_cases h0:i=0
 ·subst h0
  have e:lT p (0:Nat)=0:=by
   rw [uB (by omega)]
   cases hl:p.lines with
   | nil=>unfold iq; rfl
   | cons l r=>
    have:=List.length_pos_iff.2 (Ck l (by rw [hl]; exact List.mem_cons_self ..))
    unfold iq; rw [if_pos (by omega)]
  rw [e]
  have e2:lu (ek p).lines 0=0:=rfl
  rw [e2]; rfl
 ·have e2:lu (ek p).lines i=lT p ((i - 1:Nat):Int)+1:=by
   unfold lu; rw [if_neg h0,List.getD_eq_getElem?_getD,AS (by omega)]; rfl
  rw [e2,uB (by omega),uB (by omega)]
  obtain ⟨_,_,g3⟩:=C7 p.lines 0 ((i - 1:Nat):Int) (by omega) Ck
  rw [show ((i - 1:Nat):Int)+1=(i:Int) from by omega] at g3
  by_cases gn:(i:Int)<eg p
  ·rcases g3 with g3 | g3
   ·rw [g3]
    have e3:decide ((ek p).stays≤(i:Int))=false:=decide_eq_false (by show ¬ eg p≤_; omega)
    rw [e3,decide_eq_false h0]
    simp
   ·rw [g3]; simp
  ·have hlen:(p.lines.flatten.length:Int)=eg p:=rfl
   by_cases Lb:((i - 1:Nat):Int)<eg p
   ·have hi2:(i:Int)=eg p:=by omega
    have q1:=C8 p.lines 0 i (by omega)
    have q2:=Jq p.lines 0 ((i - 1:Nat):Int) (by omega) (by omega)
    have:iq p.lines 0 i=iq p.lines 0 ((i - 1:Nat):Int)+1:=by omega
    rw [this]; simp
   ·have q1:=C8 p.lines 0 i (by omega)
    have q2:=C8 p.lines 0 ((i - 1:Nat):Int) (by omega)
    have:iq p.lines 0 i=iq p.lines 0 ((i - 1:Nat):Int)+1:=by omega
    rw [this]; simp
end
theorem OZ {ns:List ByteArray} (h:∀ s∈ns,j1 s=true):dO ns ⟨#[]⟩ = -1:=kr λ y hy=>decide_eq_false (Mn (h y hy))
structure StK (p:cU) (rs:List ByteArray) (x:cG):Prop where
 fit:ar9 x
 rg:∀ s∈rs,j1 s=true
 nb:om p rs x=false
section
variable {p:cU} {rs:List ByteArray} {x:cG} {c:fm}
theorem asa (h:StK p rs x) (hc:c.aK=rs.length) (hk:x.kind=1∨x.kind=3∨x.kind=4∨x.kind=11∨x.kind=14):eL (gi rs x.e) c.aK=true:=by
 have hb:=h.nb; unfold om at hb; simp only [Bool.or_eq_false_iff] at hb
 exact (wR (h.fit.e1 hk) hb.1.2 hc).1
theorem azo (h:StK p rs x) (hc:c.aK=rs.length) (hk:x.kind=4):eL (gi rs x.f) c.aK=true:=by
 have hb:=h.nb; unfold om at hb; simp only [Bool.or_eq_false_iff] at hb
 exact (wR (h.fit.f1 hk) hb.2 hc).1
theorem adV (hp:Bv p) (h:StK p rs x) (hc:c.aK=rs.length) (hk:¬ x.kind=11) (Fu:¬ x.kind=12) (hk3:¬ x.kind=13) :
  u4 (lF p rs x) c (gG p).length (gq (ek p)) p.locks.length=true∧(lF p rs x).to=0∧¬ (lF p rs x).kind=11∧¬ (lF p rs x).kind=12∧¬ (lF p rs x).kind=13∧¬ (lF p rs x).kind=14:=by
 have hkd:=h.fit.kind
 have nj:(lF p rs x).kind=if x.kind=14 then 15 else x.kind:=rfl
 have hka:¬ (lF p rs x).kind=11∧¬ (lF p rs x).kind=12∧¬ (lF p rs x).kind=13∧¬ (lF p rs x).kind=14∧1≤(lF p rs x).kind∧(lF p rs x).kind≤15:=by rw [nj]; split <;> omega
 refine ⟨?_,rfl,hka.1,hka.2.1,hka.2.2.1,hka.2.2.2.1⟩
 have hb:=h.nb; unfold om at hb
 simp only [Bool.or_eq_false_iff,Bool.and_eq_false_iff,decide_eq_false_iff_not,not_or,Decidable.not_not] at hb
 obtain ⟨⟨⟨⟨⟨b1,b2⟩,b3⟩,b4⟩,b5⟩,b6⟩:=hb
 have hE:(if sB (lF p rs x).kind=true then eL (lF p rs x).e c.aK else !decide (0<((lF p rs x).e.length:Int)))=true:=by
  by_cases hq:x.kind=1∨x.kind=3∨x.kind=4∨x.kind=11∨x.kind=14
  ·have Ck:sB (lF p rs x).kind=true:=by
    unfold sB; rw [nj]
    split
    ·rfl
    ·simp only [Bool.or_eq_true,decide_eq_true_eq]; omega
   rw [if_pos Ck]; exact asa h hc hq
  ·have Ck:¬ sB (lF p rs x).kind=true:=by
    unfold sB; rw [nj,if_neg (by omega)]
    simp only [Bool.or_eq_true,decide_eq_true_eq]; omega
   rw [if_neg Ck]
   have:(lF p rs x).e=[]:=by show gi rs x.e=[]; rw [h.fit.e0 hq,Hs]
   rw [this]; rfl
 have hF:(if (lF p rs x).kind=4 then eL (lF p rs x).f c.aK else !decide (0<((lF p rs x).f.length:Int)))=true:=by
  by_cases hq:x.kind=4
  ·rw [if_pos (by rw [nj]; split <;> omega)]; exact azo h hc hq
  ·rw [if_neg (by rw [nj]; split <;> omega)]
   have:(lF p rs x).f=[]:=by show gi rs x.f=[]; rw [h.fit.f0 hq,Hs]
   rw [this]; rfl
 have hA:aM (lF p rs x) c.aK c.counts=true:=by
  unfold aM
  rw [if_neg (by omega)]
  have ea:(lF p rs x).a=max 0 (dO rs x.gK):=rfl
  by_cases hq:x.kind=1∨x.kind=2∨x.kind=4
  ·rw [if_pos (by rw [nj]; split <;> omega),ea]
   have Ck:=Mn (h.fit.r1 hq)
   have:¬ dO rs x.gK<0:=by
    rcases b1 with b1 | b1
    ·exact absurd b1 Ck
    ·exact b1
   have h2:=AR (ns:=rs) (s:=x.gK) (by omega)
   unfold Lu; simp only [Bool.and_eq_true,decide_eq_true_eq]; omega
  ·rw [if_neg (by rw [nj]; split <;> omega),ea,h.fit.r0 hq,OZ h.rg]; rfl
 have hB:bM (lF p rs x) (gG p).length (gq (ek p)) p.locks.length=true:=by
  unfold bM
  have eb:(lF p rs x).b=if x.kind=2∨x.kind=3∨x.kind=4 then dO (fc p) x.name else if x.kind=5∨x.kind=6 then lT p (dO (fc p) x.name) else if x.kind=9∨x.kind=10 then dO (gY p) x.name else 0:=rfl
  have Qq:(fc p).length=(gG p).length:=by unfold fc; rw [List.length_map]
  have Nt:(gY p).length=p.locks.length:=by unfold gY; rw [List.length_map]
  by_cases q1:x.kind=2∨x.kind=3∨x.kind=4
  ·rw [if_pos (by rw [nj]; split <;> omega),eb,if_pos q1]
   have h1:¬ dO (fc p) x.name<0:=by
    rcases b2 with b2 | b2
    ·omega
    ·exact b2
   have h2:=AR (ns:=fc p) (s:=x.name) (by omega)
   unfold Lu; simp only [Bool.and_eq_true,decide_eq_true_eq]; omega
  ·rw [if_neg (by rw [nj]; split <;> omega)]
   by_cases q2:x.kind=5∨x.kind=6
   ·rw [if_pos (by rw [nj]; split <;> omega),eb,if_neg q1,if_pos q2]
    have h1:¬ dO (fc p) x.name<0∧¬ eg p≤dO (fc p) x.name:=by
     rcases b3 with b3 | b3
     ·omega
     ·exact b3
    have:=S1 hp (c:=dO (fc p) x.name) (by omega)
    unfold Lu; simp only [Bool.and_eq_true,decide_eq_true_eq]; omega
   ·rw [if_neg (by rw [nj]; split <;> omega)]
    by_cases q3:x.kind=9∨x.kind=10
    ·rw [if_pos (by rw [nj]; split <;> omega),eb,if_neg q1,if_neg q2,if_pos q3]
     have h1:¬ dO (gY p) x.name<0:=by
      rcases b4 with b4 | b4
      ·omega
      ·exact b4
     have h2:=AR (ns:=gY p) (s:=x.name) (by omega)
     unfold Lu; simp only [Bool.and_eq_true,decide_eq_true_eq]; omega
    ·rw [if_neg (by rw [nj]; split <;> omega),if_neg hka.2.2.1,eb,if_neg q1,if_neg q2,if_neg q3]; rfl
 unfold u4 efM
 rw [hE,hF,hA,hB,decide_eq_true hka.2.2.2.2.1,decide_eq_true hka.2.2.2.2.2]; rfl
end
structure X5 (c:fm) (cells lines locks:Int) (L:List aW) (i:Nat) (x:aW):Prop where
 fld:u4 x c cells lines locks=true
 to:IQ L i x=true
 nest:x.kind=14→∀ (k:Nat) (y:aW),x.to≤k→k<i→L[k]? = some y→y.kind=14→x.to≤y.to
 b13:x.kind=14→∃ y,L[(x.to - 1).toNat]? = some y∧y.kind=13
def X6 (L:List aW) (n:Nat) (l:List aW):Prop:=∀ (k:Nat) (y:aW),l[k]? = some y→L[n+k]? = some y
def qh (c:fm) (cells lines locks:Int) (L:List aW) (n:Nat) (l:List aW):Prop:=∀ (k:Nat) (y:aW),l[k]? = some y→X5 c cells lines locks L (n+k) y
section
variable {L l1 l2:List aW} {n:Nat} {c:fm} {cells lines locks:Int}
theorem X6.left (h:X6 L n (l1++l2)):X6 L n l1:=λ k y hk=>h k y (by rw [List.getElem?_append_left (List.getElem?_eq_some_iff.1 hk).1]; exact hk)
theorem X6.right (h:X6 L n (l1++l2)):X6 L (n+l1.length) l2:=λ k y hk=>by
 have:=h (l1.length+k) y (by rw [List.getElem?_append_right (by omega),Nat.add_sub_cancel_left]; exact hk)
 rw [Nat.add_assoc]; exact this
theorem X6.one {y:aW} (h:X6 L n [y]):L[n]? = some y:=h 0 y rfl
theorem qh.app (h1:qh c cells lines locks L n l1) (h2:qh c cells lines locks L (n+l1.length) l2):qh c cells lines locks L n (l1++l2):=λ k y hk=>by
 rcases Nat.lt_or_ge k l1.length with h | h
 ·rw [List.getElem?_append_left h] at hk; exact h1 k y hk
 ·rw [List.getElem?_append_right h] at hk
  have:=h2 (k - l1.length) y hk
  rwa [show n+l1.length+(k - l1.length)=n+k from by omega] at this
theorem qh.nil:qh c cells lines locks L n []:=λ k y hk=>by simp at hk
theorem qh.one {y:aW} (h:X5 c cells lines locks L n y):qh c cells lines locks L n [y]:=λ k z hk=>by
 cases k with
 | zero=>simp at hk; subst hk; exact h
 | succ k=>simp at hk
end
theorem Rq (p:cU) (rs:List ByteArray) (t:Bk):∀ at_ lp out,∀ y∈eR p rs t at_ lp out,(y.kind=13→lp≤y.a)∧(y.kind=14→at_+1≤y.to):=by
 induction t with
 | nil=>intro at_ lp out y hy; cases hy
 | cons x a b r vB xJ GN=>
  intro at_ lp out y hy
  rw [uZ,List.mem_append] at hy
  have hsa:=iR a
  rcases hy with hy | hy
  ·unfold FW at hy
   split at hy
   ·have ht:at_+1≤rB x a at_:=by unfold rB; split <;> omega
    rw [List.mem_append,List.mem_append,List.mem_append] at hy
    rcases hy with ((hy | hy) | hy) | hy
    ·rw [List.mem_singleton] at hy; subst hy; exact ⟨λ h=>by simp at h,λ h=>by simp at h⟩
    ·have:=vB _ _ _ y hy; exact ⟨this.1,λ h=>by have:=this.2 h; omega⟩
    ·split at hy
     ·rw [List.mem_singleton] at hy; subst hy; exact ⟨λ h=>by simp at h,λ h=>by simp at h⟩
     ·cases hy
    ·have:=xJ _ _ _ y hy; exact ⟨this.1,λ h=>by have:=this.2 h; omega⟩
   ·split at hy
    ·rw [List.mem_append,List.mem_append] at hy
     rcases hy with (hy | hy) | hy
     ·rw [List.mem_singleton] at hy; subst hy; exact ⟨λ _=>Int.le_refl _,λ h=>by simp at h⟩
     ·have:=vB _ _ _ y hy; exact ⟨λ h=>by have:=this.1 h; omega,λ h=>by have:=this.2 h; omega⟩
     ·rw [List.mem_singleton] at hy; subst hy; exact ⟨λ h=>by simp at h,λ _=>Int.le_refl _⟩
    ·split at hy
     ·rw [List.mem_singleton] at hy; subst hy; exact ⟨λ h=>by simp at h,λ h=>by simp at h⟩
     ·rename_i h1 h2 h3
      rw [List.mem_singleton] at hy; subst hy
      have e:(lF p rs x).kind=if x.kind=14 then 15 else x.kind:=rfl
      refine ⟨λ h=>?_,λ h=>?_⟩
      ·rw [e] at h; split at h <;> omega
      ·rw [e] at h; split at h <;> omega
  ·have:=GN _ _ _ y hy
   exact ⟨this.1,λ h=>by have:=this.2 h; omega⟩
theorem Fm {b:Bk} (h:(b.len:Int)≤0):b = .nil:=by
 cases b with
 | nil=>rfl
 | cons x a b r=>exfalso; unfold Bk.len at h; omega
theorem Rr {x:aW} {r:Int} (he:sB x.kind=false) (h1:x.e=[]) (hk:¬ x.kind=4) (h2:x.f=[]):efM x r=true:=by
 unfold efM; rw [if_neg (by rw [he]; decide),if_neg hk,h1,h2]; rfl
section
variable {p:cU} {rs:List ByteArray} {c:fm}
theorem adW (hp:Bv p) (hc:c.aK=rs.length) (L:List aW) (t:Bk):∀ (n:Nat) (lp out loops:Int),X6 L n (eR p rs t n lp out)→n+bV t≤(L.length:Int)→t.ok loops=true→t.str→ky t→0≤loops→
  (loops≠0→n+bV t≤out∧out≤L.length)→0≤lp→lp+iS t≤c.counts→(∀ x∈t.flat,StK p rs x)→qh c (gG p).length (gq (ek p)) p.locks.length L n (eR p rs t n lp out):=by
 induction t with
 | nil=>intros; exact qh.nil
 | cons x a b r vB xJ GN=>
  intro n lp out loops hE hL oF IE HF hlo adX L7 TA gn
  have hsa:=iR a; have hsb:=iR b; have hsr:=iR r
  have hda:=sX a; have hdb:=sX b; have hdr:=sX r
  obtain ⟨Sb,hs2,_,_,O0,X7,X8⟩:=IE
  have Xj:=oF
  unfold Bk.ok at Xj
  simp only [Bool.and_eq_true] at Xj
  obtain ⟨⟨⟨ho1,Pf⟩,X4⟩,ho4⟩:=Xj
  unfold Bk.y9 at ho1
  rw [decide_eq_true_eq] at ho1
  have hx:StK p rs x:=gn x (by simp [Bk.flat])
  have lC:bV (.cons x a b r)=(if x.kind=12 then 2+bV a else if x.kind=11 then (if 0<x.fF then 1+bV a+bV b+1 else 1+bV a+bV b) else 1)+bV r:=rfl
  have hdp:iS (.cons x a b r)=max (if x.kind=12 then max (iS a) (iS b)+1 else max (iS a) (iS b)) (iS r):=rfl
  rw [uZ] at hE ⊢
  have Ll:=IG p rs x a b r n lp out
  have hER:=hE.right
  have O1:=hE.left
  generalize hH:FW p rs x a b n lp out=H at *
  refine qh.app ?_ ?_
  ·rw [← hH] at O1 Ll ⊢
   unfold FW at O1 Ll ⊢
   by_cases vC:x.kind=11
   ·rw [if_pos vC] at O1 Ll ⊢
    rw [if_neg (by omega),if_pos vC] at lC
    rw [if_neg (by omega)] at hdp
    have vl:Bk.B4 x loops=loops:=by unfold Bk.B4; rw [if_neg (by omega)]
    rw [vl] at Pf X4
    have hA1:=O1.left.left.left
    have hA2:=O1.left.left.right
    have hA3:=O1.left.right
    have hA4:=O1.right
    have MG:=gZ p rs a (n+1) lp out
    have Da:rB x a n=if 0<x.fF then (n:Int)+1+bV a+1 else (n:Int)+1+bV a:=rfl
    refine qh.app (qh.app (qh.app (qh.one ?_) ?_) ?_) ?_
    ·refine ⟨?_,?_,λ h=>by simp at h,λ h=>by simp at h⟩
     ·unfold u4 efM aM bM sB
      simp only [asa hx hc (.inr (.inr (.inr (.inl vC))))]
      rfl
     ·unfold IQ; rw [if_pos (.inr rfl)]
      show (decide ((n:Int)<rB x a n) && decide (rB x a n≤L.length))=true
      rw [Bool.and_eq_true,decide_eq_true_eq,decide_eq_true_eq,Da]
      split <;> (rename_i he; first | rw [if_pos he] at lC | rw [if_neg he] at lC) <;> omega
    ·have hE2:X6 L (n+1) (eR p rs a ((n+1:Nat):Int) lp out):=hA2
     exact vB (n+1) lp out loops hE2 (by split at lC <;> omega) Pf O0 HF.a hlo (λ hl=>by have:=adX hl; refine ⟨?_,this.2⟩; split at lC <;> omega) L7 (by omega) λ y hy=>gn y (by simp [Bk.flat,hy])
    ·split
     ·rename_i he
      refine qh.one ⟨?_,?_,λ h=>by simp at h,λ h=>by simp at h⟩
      ·rfl
      ·unfold IQ; rw [if_pos (.inl rfl)]
       rw [if_pos he] at lC Da
       rw [Bool.and_eq_true,decide_eq_true_eq,decide_eq_true_eq]
       show ((n+([(⟨12,0,0,gi rs x.e,[],rB x a n⟩:aW)]++eR p rs a (n+1) lp out).length:Nat):Int)<rB x a n+bV b∧rB x a n+bV b≤L.length
       rw [List.length_append,List.length_singleton,Da]
       omega
     ·exact qh.nil
    ·by_cases he:0<x.fF
     ·rw [if_pos he] at lC Da hA4 ⊢
      have hn4:((n+([(⟨12,0,0,gi rs x.e,[],rB x a n⟩:aW)]++eR p rs a (n+1) lp out++[(⟨11,0,0,[],[],rB x a n+bV b⟩:aW)]).length:Nat):Int)=rB x a n:=by
       simp only [List.length_append,List.length_singleton]; rw [Da]; omega
      generalize n+([(⟨12,0,0,gi rs x.e,[],rB x a n⟩:aW)]++eR p rs a (n+1) lp out++[(⟨11,0,0,[],[],rB x a n+bV b⟩:aW)]).length=m at hA4 hn4 ⊢
      rw [← hn4] at hA4 ⊢
      exact xJ _ lp out loops hA4 (by rw [hn4,Da]; omega) X4 X7 HF.b hlo (λ hl=>by have:=adX hl; rw [hn4,Da]; exact ⟨by omega,this.2⟩) L7 (by omega) λ y hy=>gn y (by simp [Bk.flat,hy])
     ·have JA:=Fm (b:=b) (by omega)
      subst JA; exact qh.nil
   ·rw [if_neg vC] at O1 Ll ⊢
    by_cases xK:x.kind=12
    ·rw [if_pos xK] at O1 Ll ⊢
     rw [if_pos xK] at lC hdp
     have vl:Bk.B4 x loops=loops+1:=by unfold Bk.B4; rw [if_pos xK]
     rw [vl] at Pf
     have hA1:=O1.left.left
     have hA2:=O1.left.right
     have hA3:=O1.right
     have MG:=gZ p rs a (n+1) (lp+1) (n+2+bV a)
     have hxn:=HF.x xK
     have JC:=hA1.one
     refine qh.app (qh.app (qh.one ?_) ?_) (qh.one ?_)
     ·refine ⟨?_,?_,λ h=>by simp at h,λ h=>by simp at h⟩
      ·unfold u4
       rw [Rr rfl rfl (by decide:¬ (13:Int)=4) rfl]
       have e1:aM ⟨13,lp,x.n,[],[],0⟩ c.aK c.counts=true:=by unfold aM; rw [if_pos (.inl rfl)]; unfold Lu; rw [Bool.and_eq_true,decide_eq_true_eq,decide_eq_true_eq]; exact ⟨L7,by show lp<c.counts; omega⟩
       have e2:bM ⟨13,lp,x.n,[],[],0⟩ (gG p).length (gq (ek p)) p.locks.length=true:=by
        unfold bM; show (decide (1≤x.n) && decide (x.n≤8))=true
        rw [Bool.and_eq_true,decide_eq_true_eq,decide_eq_true_eq]; exact hxn
       rw [e1,e2]; rfl
      ·rfl
     ·have hE2:X6 L (n+1) (eR p rs a ((n+1:Nat):Int) (lp+1) (n+2+bV a)):=hA2
      exact vB (n+1) (lp+1) (n+2+bV a) (loops+1) hE2 (by omega) Pf O0 HF.a (by omega) (λ _=>⟨by omega,by omega⟩) (by omega) (by omega) λ y hy=>gn y (by simp [Bk.flat,hy])
     ·have zx:n+([(⟨13,lp,x.n,[],[],0⟩:aW)]++eR p rs a (n+1) (lp+1) (n+2+bV a)).length=n+1+(eR p rs a (n+1) (lp+1) (n+2+bV a)).length:=by
       rw [List.length_append,List.length_singleton]; omega
      rw [zx]
      have agy:∀ (k:Nat) (y:aW),n+1≤k→k<n+1+(eR p rs a (n+1) (lp+1) (n+2+bV a)).length→L[k]? = some y→y∈eR p rs a (n+1) (lp+1) (n+2+bV a):=by
       intro k y h1 h2 hy
       obtain ⟨z,hz⟩:∃ z,(eR p rs a (n+1) (lp+1) (n+2+bV a))[k - (n+1)]? = some z:=⟨_,List.getElem?_eq_getElem (by omega)⟩
       have h3:L[n+1+(k - (n+1))]? = some z:=hA2 _ z hz
       rw [show n+1+(k - (n+1))=k from by omega,hy] at h3
       obtain rfl:=Option.some.inj h3
       exact List.mem_of_getElem? hz
      refine ⟨?_,?_,λ _ k y h1 h2 hy hk=>?_,λ _=>?_⟩
      ·unfold u4
       rw [Rr rfl rfl (by decide:¬ (14:Int)=4) rfl]
       have e1:aM ⟨14,lp,0,[],[],n+1⟩ c.aK c.counts=true:=by unfold aM; rw [if_pos (.inr rfl)]; unfold Lu; rw [Bool.and_eq_true,decide_eq_true_eq,decide_eq_true_eq]; exact ⟨L7,by show lp<c.counts; omega⟩
       have e2:bM ⟨14,lp,0,[],[],n+1⟩ (gG p).length (gq (ek p)) p.locks.length=true:=rfl
       rw [e1,e2]; rfl
      ·unfold IQ; rw [if_neg (by decide:¬ ((14:Int)=11∨(14:Int)=12)),if_pos rfl]
       unfold B8
       rw [Bool.and_eq_true]
       refine ⟨?_,?_⟩
       ·rw [Wc (y:=⟨13,lp,x.n,[],[],0⟩) (by show 1≤(n:Int)+1; omega) (by show (n:Int)+1≤_; omega) (by show L[((n:Int)+1 - 1).toNat]? = _; rw [show ((n:Int)+1 - 1).toNat=n from by omega]; exact JC)]
        unfold sC; simp
       ·rw [Bool.not_eq_true',List.any_eq_false]
        intro y hy
        obtain ⟨k,hk⟩:=pe hy
        rw [List.getElem?_drop,List.getElem?_take] at hk
        split at hk
        ·have h5:=agy _ y (by show n+1≤((n:Int)+1).toNat+k; omega) (by assumption) hk
         have h6:=(Rq p rs a _ _ _ y h5).1
         unfold sC
         rw [Bool.and_eq_true,decide_eq_true_eq,decide_eq_true_eq]
         rintro ⟨q1,q2⟩
         have:=h6 q1
         have q2:y.a=lp:=q2
         omega
        ·cases hk
      ·have h1:(n:Int)+1≤k:=h1
       have h5:=agy k y (by omega) h2 hy
       have:=(Rq p rs a _ _ _ y h5).2 hk
       show (n:Int)+1≤y.to
       omega
      ·exact ⟨_,by show L[((n:Int)+1 - 1).toNat]? = _; rw [show ((n:Int)+1 - 1).toNat=n from by omega]; exact JC,rfl⟩
    ·rw [if_neg xK] at O1 Ll ⊢
     rw [if_neg xK,if_neg vC] at lC
     by_cases JC:x.kind=13
     ·rw [if_pos JC] at O1 Ll ⊢
      have hl0:loops≠0:=by omega
      have hou:=adX hl0
      refine qh.one ⟨rfl,?_,λ h=>by simp at h,λ h=>by simp at h⟩
      unfold IQ; rw [if_pos (.inl rfl)]
      rw [Bool.and_eq_true,decide_eq_true_eq,decide_eq_true_eq]
      show (n:Int)<out∧out≤L.length
      omega
     ·rw [if_neg JC] at O1 Ll ⊢
      obtain ⟨g1,g2,g3,g4,g5,g6⟩:=adV (c:=c) hp hx hc vC xK JC
      refine qh.one ⟨g1,?_,λ h=>absurd h g6,λ h=>absurd h g6⟩
      unfold IQ; rw [if_neg (by omega),if_neg g6,g2]; rfl
  ·have hn2:((n+H.length:Nat):Int)=n+H.length:=by omega
   rw [← hn2] at hER ⊢
   exact GN _ lp out loops hER (by omega) ho4 X8 HF.r hlo (λ hl=>by have:=adX hl; exact ⟨by omega,this.2⟩) L7 (by omega) λ y hy=>gn y (by simp [Bk.flat,hy])
end
theorem adY (t:Bk):∀ n:Int,t.ok n=true→t.str→iS t≤t.depth:=by
 induction t with
 | nil=>intro n _ _; exact Int.le_refl _
 | cons x a b r vB xJ GN=>
  intro n oF IE
  obtain ⟨Sb,hs2,_,_,O0,X7,X8⟩:=IE
  unfold Bk.ok at oF
  simp only [Bool.and_eq_true] at oF
  obtain ⟨⟨⟨ho1,Pf⟩,X4⟩,ho4⟩:=oF
  unfold Bk.y9 at ho1
  rw [decide_eq_true_eq] at ho1
  have h1:=vB _ Pf O0
  have h2:=xJ _ X4 X7
  have h3:=GN _ ho4 X8
  have hd:=Bk.rn a
  have CY:=Bk.rn b
  have hd3:=Bk.rn r
  have e:iS (.cons x a b r)=max (if x.kind=12 then max (iS a) (iS b)+1 else max (iS a) (iS b)) (iS r):=rfl
  have e2:(Bk.cons x a b r).depth=if Bk.D8 x then max (max (1+a.depth) (1+b.depth)) r.depth else r.depth:=rfl
  rw [e,e2]
  by_cases hk:x.kind=11∨x.kind=12
  ·have:Bk.D8 x=true:=decide_eq_true hk
   rw [if_pos this]
   split <;> omega
  ·have:Bk.D8 x=false:=decide_eq_false hk
   rw [if_neg (by omega:¬ x.kind=12),if_neg (show ¬ Bk.D8 x=true by rw [this]; decide)]
   have ha:=Fm (b:=a) (by omega)
   have hb:=Fm (b:=b) (by omega)
   subst ha hb
   have:iS .nil=0:=rfl
   omega
section
variable {p:cU}
theorem Bv.stk (h:Bv p) {t:dQ} (ht:t∈iG p):∀ x∈t.body,StK p t.aK x:=by
 intro x hx
 obtain ⟨_,h2,_⟩:=nE (h.pf.ni ht).2.1
 refine ⟨azn (h2 x hx),(h.pf.ni ht).2.2,?_⟩
 have:=h.names t ht x hx
 simpa using this
theorem Mp (h:Bv p) {t:dQ} (ht:t∈iG p):lr (mi p t) (gG p).length (gq (ek p)) p.locks.length=true∧CZ (mi p t):=by
 obtain ⟨azr,_,b,Ir,hb2,hb3,hb4⟩:=nE (h.pf.ni ht).2.1
 have NL:oU t.body=some b:=by rw [Ir]; exact oV hb2
 have hq:ky b:=λ x hx=>by
  obtain ⟨_,h2,_⟩:=nE (h.pf.ni ht).2.1
  exact (Ny (h2 x (by rw [Ir]; exact hx))).2
 have hlen:b.len≤40:=by rw [← Bk.cO,← Ir]; exact azr
 have hd:=adY b 0 hb3 hb2
 have CY:=sX b
 have Bw:=(h.sz.2.2.2.2.2.2.2) t ht
 have hml:=gZ p t.aK b 0 0 0
 have lC:=iR b
 rw [EC NL]
 have azs:qh ⟨t.aK.length,iS b,eR p t.aK b 0 0 0⟩ (gG p).length (gq (ek p)) p.locks.length (eR p t.aK b 0 0 0) 0 (eR p t.aK b 0 0 0):=
  adW (c:=⟨t.aK.length,iS b,eR p t.aK b 0 0 0⟩) h rfl (eR p t.aK b 0 0 0) b 0 0 0 0 (λ k y hk=>by rw [Nat.zero_add]; exact hk) (by omega) hb3 hb2 hq (Int.le_refl _) (λ hh=>absurd rfl hh) (Int.le_refl _) (by show 0+iS b≤iS b; omega) (λ x hx=>h.stk ht x (by rw [Ir]; exact hx))
 have hG:∀ (i:Nat) (x:aW),(eR p t.aK b 0 0 0)[i]? = some x→X5 ⟨t.aK.length,iS b,eR p t.aK b 0 0 0⟩ (gG p).length (gq (ek p)) p.locks.length (eR p t.aK b 0 0 0) i x:=λ i x hx=>by
  have:=azs i x hx; rwa [Nat.zero_add] at this
 refine ⟨?_,?_,λ x hx=>?_⟩
 ·unfold lr
  have e1:va ⟨t.aK.length,iS b,eR p t.aK b 0 0 0⟩=false:=by
   unfold va
   simp only [Bool.or_eq_false_iff,decide_eq_false_iff_not]
   omega
  rw [e1,nc (f:=u5 _ _ _ _) λ i hi=>?_,nc (f:=qB _) λ i hi=>?_]
  ·rfl
  ·obtain ⟨x,hx⟩:∃ x,(eR p t.aK b 0 0 0)[i]? = some x:=⟨_,List.getElem?_eq_getElem hi⟩
   have hg:=hG i x hx
   rw [xp hx]
   by_cases hk:x.kind=14
   ·rw [decide_eq_true hk,Bool.true_and]
    refine nc λ k Fu=>?_
    obtain ⟨y,hy⟩:∃ y,(eR p t.aK b 0 0 0)[k]? = some y:=⟨_,List.getElem?_eq_getElem (by have hi:i<(eR p t.aK b 0 0 0).length:=hi; omega)⟩
    rw [Aj hy]
    by_cases hyk:y.kind=14
    ·rw [decide_eq_true hyk,Bool.true_and,Bool.not_eq_false',Bool.or_eq_true,decide_eq_true_eq,decide_eq_true_eq]
     by_cases h1:x.to≤k
     ·exact .inl (hg.nest hk k y h1 Fu hy hyk)
     ·by_cases h2:(k:Int)+1<x.to
      ·exact .inr h2
      ·exfalso
       obtain ⟨z,hz,hz2⟩:=hg.b13 hk
       rw [show (x.to - 1).toNat=k from by omega,hy] at hz
       obtain rfl:=Option.some.inj hz
       omega
    ·rw [decide_eq_false hyk,Bool.false_and]
   ·rw [decide_eq_false hk,Bool.false_and]
  ·obtain ⟨x,hx⟩:∃ x,(eR p t.aK b 0 0 0)[i]? = some x:=⟨_,List.getElem?_eq_getElem hi⟩
   have hg:=hG i x hx
   rw [ui (show (⟨t.aK.length,iS b,eR p t.aK b 0 0 0⟩:fm).l[i]? = some x from hx),hg.fld,hg.to]; rfl
 ·show (eR p t.aK b 0 0 0).length≤1000; omega
 ·obtain ⟨i,hi⟩:=pe (show x∈eR p t.aK b 0 0 0 from hx)
  have hf:=(hG i x hi).fld
  unfold u4 efM at hf
  simp only [Bool.and_eq_true] at hf
  obtain ⟨⟨h1,h2⟩,_⟩:=hf
  refine ⟨?_,?_⟩
  ·split at h1
   ·unfold eL at h1; simp only [Bool.and_eq_true,decide_eq_true_eq] at h1; omega
   ·simp at h1; rw [h1]; simp
  ·split at h2
   ·unfold eL at h2; simp only [Bool.and_eq_true,decide_eq_true_eq] at h2; omega
   ·simp at h2; rw [h2]; simp
theorem X9 (a b c:Int):lr Li a b c=true∧CZ Li:=⟨rfl,by decide,λ x hx=>by cases hx⟩
theorem asd (h:Bv p):lr (ek p).recover (gG p).length (gq (ek p)) p.locks.length=true∧CZ (ek p).recover:=by
 show lr (match p.recover[0]? with | some t=>mi p t | none=>⟨0,0,[]⟩) _ _ _=true∧CZ (match p.recover[0]? with | some t=>mi p t | none=>⟨0,0,[]⟩)
 cases hr:p.recover[0]? with
 | none=>exact X9 _ _ _
 | some t=>exact Mp h (List.mem_append_right _ (List.mem_of_getElem? hr))
theorem sM (h:Bv p):nx (ek p)=true∧UZ (ek p):=by
 obtain ⟨g1,g2,g3,g4,g5,g6,g7,g8⟩:=h.sz
 have mv:=h.gG
 have gn:=AT p
 have Nt:=BS p
 have Bd:(ek p).cT.length=(gG p).length:=by show ((gG p).map _).length=_; rw [List.length_map]
 have M7:(ek p).threads.length=p.threads.length:=by show (p.threads.map _).length=_; rw [List.length_map]
 have Qq:(ek p).cC.length=p.cC.length:=by show (p.cC.map _).length=_; rw [List.length_map]
 have hth:∀ c∈(ek p).threads,lr c (gG p).length (gq (ek p)) p.locks.length=true∧CZ c:=λ c hc=>by
  obtain ⟨t,ht,rfl⟩:=List.mem_map.1 (show c∈p.threads.map (mi p) from hc)
  exact Mp h (List.mem_append_left _ ht)
 have ase:∀ l∈(ek p).cC,eL l (ek p).stays=true∧l.length≤40:=λ l hl=>by
  obtain ⟨c,hc,rfl⟩:=List.mem_map.1 (show l∈p.cC.map (λ c=>gi (oW p) c.e) from hl)
  refine wR (h.pf.cl c hc).2 (by simpa using h.cC c hc) ?_
  show eg p=((oW p).length:Int)
  unfold oW fc
  rw [List.length_take,List.length_map]; omega
 have ali:∀ c∈gG p,0≤c.n∧c.n≤4294967296:=λ c hc=>by
  unfold gG at hc
  rcases List.mem_append.1 hc with hc | hc
  ·obtain ⟨l,hl,azu⟩:=List.mem_flatten.1 hc
   have:=rq ((h.pf.lines l hl).2 c azu); exact ⟨this.2.2.1,this.2.2.2⟩
  ·have:=rq (h.pf.jT c hc); exact ⟨this.2.2.1,this.2.2.2⟩
 refine ⟨?_,?_⟩
 ·unfold nx
  have e1:kU (ek p)=false:=by
   unfold kU
   rw [Nt,Bd,M7]
   have e2:(ek p).stays=eg p:=rfl
   have e3:(ek p).locks=p.locks.length:=rfl
   rw [e2,e3]
   simp only [Bool.or_eq_false_iff,decide_eq_false_iff_not,not_true_eq_false,not_false_eq_true,and_true]
   omega
  have e2:(ek p).cT.any lx=false:=iF λ n hn=>by
   obtain ⟨c,hc,rfl⟩:=List.mem_map.1 (show n∈(gG p).map dG.n from hn)
   have:=ali c hc
   unfold lx
   rw [decide_eq_false (by omega),decide_eq_false (by omega)]; rfl
  have e3:(List.range (ek p).lines.length).any (j9 (ek p))=false:=nc λ i hi=>OY h (by omega)
  have e4:(ek p).threads.any (λ c=>!lr c (ek p).lines.length (gq (ek p)) (ek p).locks)=false:=iF λ c hc=>by
   have:=(hth c hc).1
   rw [Nt]
   show (!lr c (gG p).length (gq (ek p)) p.locks.length)=false
   rw [this]; rfl
  have e5:(ek p).cC.any (λ l=>!eL l (ek p).stays)=false:=iF λ l hl=>by rw [(ase l hl).1]; rfl
  rw [e1,e2,e3,e4,e5,Nt]
  show (!false && (!false && !false && !false && !false && lr (ek p).recover (gG p).length (gq (ek p)) p.locks.length))=true
  rw [(asd h).1]; rfl
 ·exact ⟨by omega,by omega,by omega,by omega,λ c hc=>(hth c hc).2,(asd h).2,λ l hl=>by have:=(ase l hl).2; omega⟩
end
end Go.Proofs.YtnjcingfdhjfkaaGreat
