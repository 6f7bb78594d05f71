/-
  What the proof needs, part 7.
-/
import Derived.Test.YtnjcingfdhjfkaaGreatVsM6
set_option linter.all false
namespace Go.Proofs.YtnjcingfdhjfkaaGreat
open Go.Fw
structure fN where
 at_:Int
 e:Int
 pos:Int
deriving DecidableEq
def iU (l:List bF) (s:fN) (e:Int):fN:=if s.e=0 then {s with e:=if (l.length:Int)≤s.at_ then 6 else e,pos:=mL l s.at_} else s
def dM (l:List bF) (s:fN) (t:ByteArray):fN:=if (decide (s.e=0) && sC l s.at_ t)=true then {s with at_:=s.at_+1} else iU l s 5
def kz (l:List bF) (i:Int):Option bF:=if 0≤i then l[i.toNat]? else none
def sD (l:List bF) (s:fN):Bool:=decide (s.e=0) && (match kz l s.at_ with | some t=>decide (t.kind=1) && jY t.text | none=>false)
def oG (l:List bF) (i:Int):bF:=(kz l i).getD ⟨0,⟨#[]⟩,0,0⟩
def cR (l:List bF) (s:fN):fN × ByteArray:=if sD l s=true then ({s with at_:=s.at_+1},(oG l s.at_).text) else (iU l s 5,⟨#[]⟩)
def qp (l:List bF) (s:fN):Option (fN × List cW):=if s.e≠0 then some (s,[]) else (vt l s.at_).bind λ R=>
 if R.2.2.1≠0 then some ({s with e:=R.2.2.1,pos:=R.2.2.2},[]) else if 0≤R.2.1∧R.2.1≤l.length then some ({s with at_:=R.2.1},R.1) else none
def OC (l:List bF) (s:fN):Bool:=decide (s.e=0) && (match kz l s.at_ with | some t=>decide (t.kind=2) | none=>false)
def kB (l:List bF) (s:fN):fN × Int:=if OC l s=true then (if 1≤(oG l s.at_).n∧(oG l s.at_).n≤8 then ({s with at_:=s.at_+1},(oG l s.at_).n) else (iU l s 11,0)) else (iU l s 5,0)
def CP:List ByteArray:=[⟨#[]⟩,⟨#[]⟩,⟨#[108,111,97,100]⟩,⟨#[115,116,111,114,101]⟩,⟨#[99,97,115]⟩,⟨#[102,108,117,115,104]⟩,⟨#[111,112,116]⟩,⟨#[115,102,101,110,99,101]⟩,⟨#[109,102,101,110,99,101]⟩,⟨#[116,97,107,101]⟩,⟨#[103,105,118,101]⟩,⟨#[105,102]⟩,⟨#[108,111,111,112]⟩,⟨#[98,114,101,97,107]⟩,⟨#[99,104,101,99,107]⟩]
def He (k:Int):ByteArray:=(CP[k.toNat]?).getD ⟨#[]⟩
def lM (l:List bF) (s:fN):Prop:=0≤s.at_∧s.at_≤l.length
section
variable {l:List bF} {s:fN} {e:Int} {t:ByteArray}
theorem sE (h:lM l s):lM l (iU l s e):=by unfold iU; split <;> exact h
theorem fx (h:lM l s):lM l (dM l s t):=by
 unfold dM; split
 ·rename_i h2
  rw [Bool.and_eq_true] at h2
  have:=rG h2.2
  exact ⟨by show 0≤s.at_+1; omega,by show s.at_+1≤_; omega⟩
 ·exact sE h
theorem mg {i:Int} {k:bF} (h:kz l i=some k):0≤i∧i<l.length∧l[i.toNat]? = some k:=by
 unfold kz at h
 split at h
 ·have:=(List.getElem?_eq_some_iff.1 h).1; exact ⟨by omega,by omega,h⟩
 ·cases h
theorem AA (h:sD l s=true):s.e=0∧∃ k,kz l s.at_=some k∧k.kind=1∧jY k.text=true:=by
 unfold sD at h
 rw [Bool.and_eq_true,decide_eq_true_eq] at h
 refine ⟨h.1,?_⟩
 cases hk:kz l s.at_ with
 | none=>rw [hk] at h; cases h.2
 | some k=>
  rw [hk] at h
  have:=h.2; dsimp only at this
  rw [Bool.and_eq_true,decide_eq_true_eq] at this
  exact ⟨k,rfl,this⟩
theorem Q0 (h:OC l s=true):s.e=0∧∃ k,kz l s.at_=some k∧k.kind=2:=by
 unfold OC at h
 rw [Bool.and_eq_true,decide_eq_true_eq] at h
 refine ⟨h.1,?_⟩
 cases hk:kz l s.at_ with
 | none=>rw [hk] at h; cases h.2
 | some k=>rw [hk] at h; exact ⟨k,rfl,by simpa using h.2⟩
theorem gw (h:lM l s):lM l (cR l s).1:=by
 unfold cR; split
 ·rename_i h2
  obtain ⟨_,k,hk,_⟩:=AA h2
  have:=mg hk
  exact ⟨by show 0≤s.at_+1; omega,by show s.at_+1≤_; omega⟩
 ·exact sE h
theorem SJ (h:lM l s):lM l (kB l s).1:=by
 unfold kB; split
 ·rename_i h2
  obtain ⟨_,k,hk,_⟩:=Q0 h2
  have:=mg hk
  split
  ·exact ⟨by show 0≤s.at_+1; omega,by show s.at_+1≤_; omega⟩
  ·exact sE h
 ·exact sE h
theorem rH {s':fN} {x:List cW} (h:lM l s) (he:qp l s=some (s',x)):lM l s':=by
 unfold qp at he
 split at he
 ·cases he; exact h
 ·cases hx:vt l s.at_ with
  | none=>rw [hx] at he; cases he
  | some R=>
   rw [hx] at he
   simp only [Option.bind_some] at he
   split at he
   ·cases he; exact h
   ·split at he
    ·rename_i h2; cases he; exact h2
    ·cases he
end
@[reducible] def dU (lv ov:Value) (s:fN):List Value:=[lv,.int .i64 s.at_,.int .i64 s.e,.int .i64 s.pos,ov]
@[reducible] def ed (lv:Value) (s:fN):List Value:=[lv,.int .i64 s.at_,.int .i64 s.e,.int .i64 s.pos]
def gL (l:List bF) (s:fN) (t:ByteArray):fN × Bool:=if (decide (s.e=0) && sC l s.at_ t)=true then ({s with at_:=s.at_+1},true) else (s,false)
def eU (l:List bF) (s:fN):fN × dF:=if sD l s=true then ({s with at_:=s.at_+1},⟨(oG l s.at_).text,0,(oG l s.at_).at_⟩) else (iU l s 5,⟨⟨#[]⟩,0,0⟩)
theorem jU {l:List bF} {s:fN} {t:ByteArray} (h:lM l s):lM l (gL l s t).1:=by
 unfold gL; split
 ·rename_i h2
  rw [Bool.and_eq_true] at h2
  have:=rG h2.2
  exact ⟨by show 0≤s.at_+1; omega,by show s.at_+1≤_; omega⟩
 ·exact h
theorem uw {l:List bF} {s:fN} (h:lM l s):lM l (eU l s).1:=by
 unfold eU; split
 ·rename_i h2
  obtain ⟨_,k,hk,_⟩:=AA h2
  have:=mg hk
  exact ⟨by show 0≤s.at_+1; omega,by show s.at_+1≤_; omega⟩
 ·exact sE h
theorem Xm {l:List bF} {s s2:fN} {x:List cW} (h:qp l s=some (s2,x)) (he:¬ s.e≠0):∃ R,vt l s.at_=some R∧
  (if R.2.2.1≠0 then some ({s with e:=R.2.2.1,pos:=R.2.2.2},[]) else if 0≤R.2.1∧R.2.1≤l.length then some ({s with at_:=R.2.1},R.1) else none)=some (s2,x):=by
 unfold qp at h; rw [if_neg he] at h
 cases hx:vt l s.at_ with
 | none=>rw [hx] at h; cases h
 | some R=>rw [hx] at h; exact ⟨R,rfl,h⟩
theorem Xn {l:List bF} {s s2:fN} {x:List cW} {R:List cW × Int × Int × Int} (h:(if R.2.2.1≠0 then some ({s with e:=R.2.2.1,pos:=R.2.2.2},[]) else if 0≤R.2.1∧R.2.1≤l.length then some ({s with at_:=R.2.1},R.1) else none)=some (s2,x)) (he:¬ R.2.2.1≠0):0≤R.2.1∧R.2.1≤l.length:=by
 rw [if_neg he] at h
 split at h
 ·assumption
 ·cases h
theorem C254 (p:Nat) (lv ov:Value) (l:List bF) (s:fN) (e:Int) (F:Nat→Prop) (w:World) (hF:(cD p (dU lv ov s)).p w F) (hT:∀ w',iy F w w'→eI (λ _=>True) w' lv l) (hk:iu l) (h0:lM l s):CR 254 [(.pointer (some ⟨p,0,none⟩)),.int .i64 e] w (λ v w'=>v = .tuple #[]∧qk F (cD p (dU lv ov (iU l s e))) w w'):=by
 have hs:=St.begin hF;have Fm:=hk.n;have hn:l.length≤1000000:=by omega
 have sR:=hk.at_;obtain ⟨Q1,Q2⟩:=id h0;refine aaW _ _ _ _ ?_;unfold S254;refine aE (aA km (aB nj hs.hb rfl (aH (aC (λ gn=>?_) (λ gn=>?_)))))
 ·refine aE (aA km (aV hs nj (eF rfl) (rfl) (λ w1 hs=>?_)));refine ⟨_,?_,λ _ h=>h⟩;refine aE (aA eS (have hs:=hs.drew;aB bL hs.hb rfl (aE (aA gN (aB iL hs.hb rfl (aJ fz (hT _ hs.aF) (dG (aC (λ iM=>?_) (λ iM=>?_)))))))))
  ·refine aE (aA km (aV hs nj (eF rfl) (rfl) (λ w2 hs=>?_)));intro fy;refine aE (aA gN (have hs:=hs.drew;aB iL hs.hb rfl (aE (aA eS (aB bL hs.hb rfl (aZ Gg hs (C215 _ l s.at_ _ (hT _ hs.aF) hn sR) (λ w4 he hs=>aE (aA zw (aV hs bL (eF rfl) (rfl) (λ w5 hs=>?_))))))))));have hb:iU l s e=(⟨s.at_,6,(mL l s.at_)⟩:fN):=by unfold iU; rw [if_pos gn,if_pos iM]
   rw [hb];exact ⟨rfl,hs.mut⟩
  ·intro fy;refine aE (aA gN (have hs:=hs.drew;aB iL hs.hb rfl (aE (aA eS (aB bL hs.hb rfl (aZ Gg hs (C215 _ l s.at_ _ (hT _ hs.aF) hn sR) (λ w4 he hs=>aE (aA zw (aV hs bL (eF rfl) (rfl) (λ w5 hs=>?_))))))))));have hb:iU l s e=(⟨s.at_,e,(mL l s.at_)⟩:fN):=by unfold iU; rw [if_pos gn,if_neg iM]
   rw [hb];exact ⟨rfl,hs.mut⟩
 ·have hb:iU l s e=s:=by unfold iU; rw [if_neg gn]
  rw [hb];exact ⟨rfl,hs.mut⟩
theorem C170 (p:Nat) (lv:Value) (l:List bF) (s:fN) (F:Nat→Prop) (w:World) (hF:(cD p (ed lv s)).p w F) (hT:∀ w',iy F w w'→eI (λ _=>True) w' lv l) (hk:iu l) (h0:lM l s):CR 170 [(.pointer (some ⟨p,0,none⟩))] w (λ v w'=>v = .tuple #[]∧qk F (cD p (ed lv (iU l s 5))) w w'):=by
 have hs:=St.begin hF;have Fm:=hk.n;have hn:l.length≤1000000:=by omega
 have sR:=hk.at_;obtain ⟨Q1,Q2⟩:=id h0;refine ZI _ _ _ ?_;unfold S170;refine aE (aA lU (aB nj hs.hb rfl (aH (aC (λ pD=>?_) (λ pD=>?_)))))
 ·refine aE (aA lU (aV hs nj (eF rfl) (rfl) (λ w1 hs=>?_)));refine ⟨_,?_,λ _ h=>h⟩;refine aE (aA fk (have hs:=hs.drew;aB bL hs.hb rfl (aE (aA jE (aB iL hs.hb rfl (aJ fz (hT _ hs.aF) (dG (aC (λ fu=>?_) (λ fu=>?_)))))))))
  ·refine aE (aA lU (aV hs nj (eF rfl) (rfl) (λ w2 hs=>?_)));intro fy;refine aE (aA jE (have hs:=hs.drew;aB iL hs.hb rfl (aE (aA fk (aB bL hs.hb rfl (aZ Gg hs (C215 _ l s.at_ _ (hT _ hs.aF) hn sR) (λ w4 he hs=>aE (aA vO (aV hs bL (eF rfl) (rfl) (λ w5 hs=>?_))))))))));have hb:iU l s 5=(⟨s.at_,6,(mL l s.at_)⟩:fN):=by unfold iU; rw [if_pos pD,if_pos fu]
   rw [hb];exact ⟨rfl,hs.mut⟩
  ·intro fy;refine aE (aA jE (have hs:=hs.drew;aB iL hs.hb rfl (aE (aA fk (aB bL hs.hb rfl (aZ Gg hs (C215 _ l s.at_ _ (hT _ hs.aF) hn sR) (λ w4 he hs=>aE (aA vO (aV hs bL (eF rfl) (rfl) (λ w5 hs=>?_))))))))));have hb:iU l s 5=(⟨s.at_,5,(mL l s.at_)⟩:fN):=by unfold iU; rw [if_pos pD,if_neg fu]
   rw [hb];exact ⟨rfl,hs.mut⟩
 ·have hb:iU l s 5=s:=by unfold iU; rw [if_neg pD]
  rw [hb];exact ⟨rfl,hs.mut⟩
theorem C234 (p:Nat) (lv ov:Value) (l:List bF) (s:fN) (t:ByteArray) (F:Nat→Prop) (w:World) (hF:(cD p (dU lv ov s)).p w F) (hT:∀ w',iy F w w'→eI (λ _=>True) w' lv l) (hk:iu l) (h0:lM l s):CR 234 [(.pointer (some ⟨p,0,none⟩)),.string t] w (λ v w'=>v = .tuple #[]∧qk F (cD p (dU lv ov (dM l s t))) w w'):=by
 have hs:=St.begin hF;have Fm:=hk.n;have hn:l.length≤1000000:=by omega
 have sR:=hk.at_;obtain ⟨Q1,Q2⟩:=id h0;refine aaC _ _ _ _ ?_;unfold S234;refine ⟨λ jv w'=>jv = .bool (decide (s.e=0) && sC l s.at_ t)∧St w F [cD p (dU lv ov s)] w',?_,?_⟩
 ·refine aE (aA km (have hs:=hs.drew;aB nj hs.hb rfl (aH (aC (λ gn=>?_) (λ gn=>?_)))))
  ·refine aE (aA gN (aB iL hs.hb rfl (aE (aA eS (aB bL hs.hb rfl (aZ vg hs (C211 _ l s.at_ t _ (hT _ hs.aF) hn) (λ w1 he hs=>?_)))))));exact ⟨vb (by first | (rw [decide_eq_true gn]; rfl) | (rw [decide_eq_false gn]; rfl)),hs⟩
  ·exact ⟨vb (by first | (rw [decide_eq_true gn]; rfl) | (rw [decide_eq_false gn]; rfl)),hs⟩
 ·rintro _ w2 ⟨rfl,hs⟩ fy;refine aX (λ jr=>?_) (λ jr=>?_)
  ·have ayG:=rG (by rw [Bool.and_eq_true] at jr; exact jr.2);refine aE (aA eS (aB bL hs.hb rfl (aO (by omega) (aE (aA eS (aV hs bL (eF rfl) (rfl) (λ w3 hs=>?_)))))));have hb:dM l s t={s with at_:=s.at_+1}:=by unfold dM; rw [if_pos (by simpa using jr)]
   rw [hb];exact ⟨rfl,hs.mut⟩
  ·refine bG Gj hs (H':=λ _=>cD p (dU lv ov (iU l s 5))) (Φ:=λ _ _=>True) (λ F2 eO ew=>?_) ?_
   ·exact (C254 p lv ov l s 5 F2 _ eO (λ w' hc=>hT w' (ew w' hc).aF) hk h0).mono λ _ _ r=>r.mono λ _ _ h=>⟨trivial,h.2⟩
   rintro _ w4 _ hs;have hb:dM l s t=iU l s 5:=by unfold dM; rw [if_neg (by simpa using jr)]
   rw [hb];exact ⟨rfl,hs.mut⟩
theorem C165 (p:Nat) (lv:Value) (l:List bF) (s:fN) (t:ByteArray) (F:Nat→Prop) (w:World) (hF:(cD p (ed lv s)).p w F) (hT:∀ w',iy F w w'→eI (λ _=>True) w' lv l) (hk:iu l) (h0:lM l s):CR 165 [(.pointer (some ⟨p,0,none⟩)),.string t] w (λ v w'=>v = .bool (gL l s t).2∧qk F (cD p (ed lv (gL l s t).1)) w w'):=by
 have hs:=St.begin hF;have Fm:=hk.n;have hn:l.length≤1000000:=by omega
 have sR:=hk.at_;obtain ⟨Q1,Q2⟩:=id h0;refine ZD _ _ _ _ ?_;unfold S165;refine ⟨λ jv w'=>jv = .bool (decide (s.e=0) && sC l s.at_ t)∧St w F [cD p (ed lv s)] w',?_,?_⟩
 ·refine aE (aA lU (have hs:=hs.drew;aB nj hs.hb rfl (aH (aC (λ gu=>?_) (λ gu=>?_)))))
  ·refine aE (aA jE (aB iL hs.hb rfl (aE (aA fk (aB bL hs.hb rfl (aZ vg hs (C211 _ l s.at_ t _ (hT _ hs.aF) hn) (λ w1 he hs=>?_)))))));exact ⟨vb (by first | (rw [decide_eq_true gu]; rfl) | (rw [decide_eq_false gu]; rfl)),hs⟩
  ·exact ⟨vb (by first | (rw [decide_eq_true gu]; rfl) | (rw [decide_eq_false gu]; rfl)),hs⟩
 ·rintro _ w2 ⟨rfl,hs⟩ fy;refine aX (λ gr=>?_) (λ gr=>?_)
  ·have ayG:=rG (by rw [Bool.and_eq_true] at gr; exact gr.2);refine aE (aA fk (aB bL hs.hb rfl (aO (by omega) (aE (aA fk (aV hs bL (eF rfl) (rfl) (λ w3 hs=>?_)))))));have hb:gL l s t=({s with at_:=s.at_+1},true):=by unfold gL; rw [if_pos (by simpa using gr)]
   rw [hb];exact ⟨rfl,hs.mut⟩
  ·have hb:gL l s t=(s,false):=by unfold gL; rw [if_neg (by simpa using gr)]
   rw [hb];exact ⟨rfl,hs.mut⟩
theorem C212 (p:Nat) (lv:Value) (l:List bF) (s:fN) (t:ByteArray) (F:Nat→Prop) (w:World) (hF:(cD p (ed lv s)).p w F) (hT:∀ w',iy F w w'→eI (λ _=>True) w' lv l) (hk:iu l) (h0:lM l s):CR 212 [(.pointer (some ⟨p,0,none⟩)),.string t] w (λ v w'=>v = .tuple #[]∧qk F (cD p (ed lv (dM l s t))) w w'):=by
 have hs:=St.begin hF;have Fm:=hk.n;have hn:l.length≤1000000:=by omega
 have sR:=hk.at_;obtain ⟨Q1,Q2⟩:=id h0;refine aah _ _ _ _ ?_;unfold S212;refine bG xM hs (H':=λ _=>cD p (ed lv (gL l s t).1)) (Φ:=λ v _=>v = .bool (gL l s t).2) (λ F2 eO ew=>?_) ?_
 ·exact C165 p lv l s t F2 _ eO (λ w' hc=>hT w' (ew w' hc).aF) hk h0
 rintro _ w1 rfl hs;refine bY (aX (λ iQ=>?_) (λ iQ=>?_))
 ·refine bG Pn hs (H':=λ _=>cD p (ed lv (iU l (gL l s t).1 5))) (Φ:=λ _ _=>True) (λ F2 eO ew=>?_) ?_
  ·exact (C170 p lv l (gL l s t).1 F2 _ eO (λ w' hc=>hT w' (ew w' hc).aF) hk (jU h0)).mono λ _ _ r=>r.mono λ _ _ h=>⟨trivial,h.2⟩
  rintro _ w2 _ hs
  have tn:dM l s t=iU l (gL l s t).1 5:=by
   have h7:(gL l s t).2=false:=by simpa using iQ
   unfold gL at h7 ⊢; unfold dM
   split at h7
   ·cases h7
   ·rename_i h8; rw [if_neg h8,if_neg h8]
  rw [tn];exact ⟨rfl,hs.mut⟩
 ·have tn:dM l s t=(gL l s t).1:=by
   have h7:(gL l s t).2=true:=by simpa using iQ
   unfold gL at h7 ⊢; unfold dM
   split at h7
   ·rename_i h8; rw [if_pos h8,if_pos h8]
   ·cases h7
  rw [tn];exact ⟨rfl,hs.mut⟩
theorem C260 (p:Nat) (lv ov:Value) (l:List bF) (s:fN) (F:Nat→Prop) (w:World) (hF:(cD p (dU lv ov s)).p w F) (hT:∀ w',iy F w w'→eI (λ _=>True) w' lv l) (hk:iu l) (h0:lM l s):CR 260 [(.pointer (some ⟨p,0,none⟩))] w (λ v w'=>v = .string (cR l s).2∧qk F (cD p (dU lv ov (cR l s).1)) w w'):=by
 have hs:=St.begin hF;have Fm:=hk.n;have hn:l.length≤1000000:=by omega
 have sR:=hk.at_;obtain ⟨Q1,Q2⟩:=id h0;refine aa2 _ _ _ ?_;unfold S260;refine ⟨λ jv w'=>jv = .bool (sD l s)∧St w F [cD p (dU lv ov s)] w',?_,?_⟩
 ·refine aE (aA km (have hs:=hs.drew;aB nj hs.hb rfl (aH (aC (λ iQ=>?_) (λ iQ=>?_)))))
  ·refine aE (aA eS (aB bL hs.hb rfl (aE (aA gN (aB iL hs.hb rfl (aJ fz (hT _ hs.aF) (aR (aC (λ gd=>?_) (λ gd=>?_)))))))))
   ·refine aE (aA gN (aB iL hs.hb rfl (aE (aA eS (aB bL hs.hb rfl ?_)))));obtain ⟨BW,lE⟩:=gx (l) (i:=(s.at_).toNat) (by omega);refine aQ fz (hT _ hs.aF) (by omega) lE (λ _ DP=>bP (BW).kind kZ DP rfl rfl (λ _ od=>aD bL (od) (aH (aC (λ jH=>?_) (λ jH=>?_)))))
    ·refine aE (aA gN (aB iL hs.hb rfl (aE (aA eS (aB bL hs.hb rfl (aQ fz (hT _ hs.aF) (by omega) lE (λ _ xZ=>bP (BW).text mX xZ rfl rfl (λ _ Ax=>aD j5 (Ax) (aZ tx hs (C161 _ _ (by have:=sR _ (List.mem_of_getElem? lE); omega)) (λ w1 he hs=>?_))))))))));exact ⟨vb (by unfold sD kz; first | (rw [decide_eq_false iQ]; rfl) | (rw [if_pos (by omega),List.getElem?_eq_none (by omega)]; simp; done) | (rw [if_pos (by omega),lE,decide_eq_true iQ]; dsimp only; first | (rw [decide_eq_false jH]; rfl) | (rw [decide_eq_true jH]; rfl))),hs⟩
    ·exact ⟨vb (by unfold sD kz; first | (rw [decide_eq_false iQ]; rfl) | (rw [if_pos (by omega),List.getElem?_eq_none (by omega)]; simp; done) | (rw [if_pos (by omega),lE,decide_eq_true iQ]; dsimp only; first | (rw [decide_eq_false jH]; rfl) | (rw [decide_eq_true jH]; rfl))),hs⟩
   ·exact ⟨vb (by unfold sD kz; first | (rw [decide_eq_false iQ]; rfl) | (rw [if_pos (by omega),List.getElem?_eq_none (by omega)]; simp; done) | (rw [if_pos (by omega),lE,decide_eq_true iQ]; dsimp only; first | (rw [decide_eq_false jH]; rfl) | (rw [decide_eq_true jH]; rfl))),hs⟩
  ·exact ⟨vb (by unfold sD kz; first | (rw [decide_eq_false iQ]; rfl) | (rw [if_pos (by omega),List.getElem?_eq_none (by omega)]; simp; done) | (rw [if_pos (by omega),lE,decide_eq_true iQ]; dsimp only; first | (rw [decide_eq_false jH]; rfl) | (rw [decide_eq_true jH]; rfl))),hs⟩
 ·rintro _ w2 ⟨rfl,hs⟩ fy;refine aX (λ ri=>?_) (λ ri=>?_)
  ·obtain ⟨_,tk,AL,_,_⟩:=AA ri;obtain ⟨arp,arq,akw⟩:=mg AL;have SI:l[(s.at_+1 - 1).toNat]? = some tk:=by rw [← akw]; congr 2; omega
   refine aE (aA eS (aB bL hs.hb rfl (aO (by omega) (aE (aA eS (aV hs bL (eF rfl) (rfl) (λ w3 hs=>aE (aA gN (have hs:=hs.drew;aB iL hs.hb rfl (aE (aA eS (aB bL hs.hb rfl ?_))))))))))));refine gy (by omega) (aQ fz (hT _ hs.aF) (by omega) SI (λ _ BS=>bP (tk).text mX BS rfl rfl (λ _ Xo=>aD j5 (Xo) ?_)));have hb:cR l s=({s with at_:=s.at_+1},tk.text):=by unfold cR; rw [if_pos ri]; unfold oG; rw [AL]; rfl
   rw [hb];exact ⟨rfl,hs.mut⟩
  ·refine bG Gj hs (H':=λ _=>cD p (dU lv ov (iU l s 5))) (Φ:=λ _ _=>True) (λ F2 eO ew=>?_) ?_
   ·exact (C254 p lv ov l s 5 F2 _ eO (λ w' hc=>hT w' (ew w' hc).aF) hk h0).mono λ _ _ r=>r.mono λ _ _ h=>⟨trivial,h.2⟩
   rintro _ w4 _ hs;have hb:cR l s=(iU l s 5,⟨#[]⟩):=by unfold cR; rw [if_neg (by simpa using ri)]
   rw [hb];exact ⟨rfl,hs.mut⟩
theorem C167 (p:Nat) (lv:Value) (l:List bF) (s:fN) (F:Nat→Prop) (w:World) (hF:(cD p (ed lv s)).p w F) (hT:∀ w',iy F w w'→eI (λ _=>True) w' lv l) (hk:iu l) (h0:lM l s):CR 167 [(.pointer (some ⟨p,0,none⟩))] w (λ v w'=>v=Flat.val (eU l s).2∧qk F (cD p (ed lv (eU l s).1)) w w'):=by
 have hs:=St.begin hF;have Fm:=hk.n;have hn:l.length≤1000000:=by omega
 have sR:=hk.at_;obtain ⟨Q1,Q2⟩:=id h0;refine ZF _ _ _ ?_;unfold S167;refine aN hs Cz (λ lY w1 hs=>?_);refine ⟨λ jv w'=>jv = .bool (sD l s)∧St w F [cD p (ed lv s),cD lY (Flat.enc (⟨ByteArray.mk #[],0,0⟩:dF))] w',?_,?_⟩
 ·refine aE (aA lU (have hs:=hs.drew;aB nj hs.p1.hb rfl (aH (aC (λ iQ=>?_) (λ iQ=>?_)))))
  ·refine aE (aA fk (aB bL hs.p1.hb rfl (aE (aA jE (aB iL hs.p1.hb rfl (aJ fz (hT _ hs.aF) (aR (aC (λ gd=>?_) (λ gd=>?_)))))))))
   ·refine aE (aA jE (aB iL hs.p1.hb rfl (aE (aA fk (aB bL hs.p1.hb rfl ?_)))));obtain ⟨BW,lE⟩:=gx (l) (i:=(s.at_).toNat) (by omega);refine aQ fz (hT _ hs.aF) (by omega) lE (λ _ DP=>bP (BW).kind kZ DP rfl rfl (λ _ od=>aD bL (od) (aH (aC (λ jH=>?_) (λ jH=>?_)))))
    ·refine aE (aA jE (aB iL hs.p1.hb rfl (aE (aA fk (aB bL hs.p1.hb rfl (aQ fz (hT _ hs.aF) (by omega) lE (λ _ xZ=>bP (BW).text mX xZ rfl rfl (λ _ Ax=>aD j5 (Ax) (aZ tx hs (C161 _ _ (by have:=sR _ (List.mem_of_getElem? lE); omega)) (λ w2 he hs=>?_))))))))));have hs:=hs.p1;exact ⟨vb (by unfold sD kz; first | (rw [decide_eq_false iQ]; rfl) | (rw [if_pos (by omega),List.getElem?_eq_none (by omega)]; simp; done) | (rw [if_pos (by omega),lE,decide_eq_true iQ]; dsimp only; first | (rw [decide_eq_false jH]; rfl) | (rw [decide_eq_true jH]; rfl))),hs⟩
    ·have hs:=hs.p1;exact ⟨vb (by unfold sD kz; first | (rw [decide_eq_false iQ]; rfl) | (rw [if_pos (by omega),List.getElem?_eq_none (by omega)]; simp; done) | (rw [if_pos (by omega),lE,decide_eq_true iQ]; dsimp only; first | (rw [decide_eq_false jH]; rfl) | (rw [decide_eq_true jH]; rfl))),hs⟩
   ·have hs:=hs.p1;exact ⟨vb (by unfold sD kz; first | (rw [decide_eq_false iQ]; rfl) | (rw [if_pos (by omega),List.getElem?_eq_none (by omega)]; simp; done) | (rw [if_pos (by omega),lE,decide_eq_true iQ]; dsimp only; first | (rw [decide_eq_false jH]; rfl) | (rw [decide_eq_true jH]; rfl))),hs⟩
  ·have hs:=hs.p1;exact ⟨vb (by unfold sD kz; first | (rw [decide_eq_false iQ]; rfl) | (rw [if_pos (by omega),List.getElem?_eq_none (by omega)]; simp; done) | (rw [if_pos (by omega),lE,decide_eq_true iQ]; dsimp only; first | (rw [decide_eq_false jH]; rfl) | (rw [decide_eq_true jH]; rfl))),hs⟩
 ·rintro _ w3 ⟨rfl,hs⟩ fy;refine aX (λ ri=>?_) (λ ri=>?_)
  ·obtain ⟨_,tk,AL,_,_⟩:=AA ri;obtain ⟨arp,arq,akw⟩:=mg AL;have SI:l[(s.at_+1 - 1).toNat]? = some tk:=by rw [← akw]; congr 2; omega
   refine aE (aA fk (aB bL hs.hb rfl (aO (by omega) (aE (aA fk (aV hs bL (eF rfl) (rfl) (λ w4 hs=>aE (aA jE (have hs:=hs.drew;aB iL hs.hb rfl (aE (aA fk (aB bL hs.hb rfl ?_))))))))))));refine gy (by omega) (aQ fz (hT _ hs.aF) (by omega) SI (λ _ BS=>bP (tk).text mX BS rfl rfl (λ _ Xo=>aD j5 (Xo) (aE (aA jE (aB iL hs.hb rfl (aE (aA fk (aB bL hs.hb rfl (gy (by omega) (aQ fz (hT _ hs.aF) (by omega) SI (λ _ ars=>bP (tk).at_ ld ars rfl rfl (λ _ Xp=>?_)))))))))))))
   refine aD bL (Xp) (pop (Du _ _) (aI (x:=(⟨(tk).text,0,(tk).at_⟩:dF)) hs.p1 xQ rfl rfl (λ w5 hs=>aD xQ hs.At ?_)));have hs:=(hs).drop;have hb:eU l s=({s with at_:=s.at_+1},⟨tk.text,0,tk.at_⟩):=by unfold eU; rw [if_pos ri]; unfold oG; rw [AL]; rfl
   rw [hb];exact ⟨rfl,hs.mut⟩
  ·refine bG Pn hs (H':=λ _=>cD p (ed lv (iU l s 5))) (Φ:=λ _ _=>True) (λ F2 eO ew=>?_) ?_
   ·exact (C170 p lv l s F2 _ eO (λ w' hc=>hT w' (ew w' hc).aF) hk h0).mono λ _ _ r=>r.mono λ _ _ h=>⟨trivial,h.2⟩
   rintro _ w6 _ hs;refine pop (abn) (aI (x:=(⟨(ByteArray.mk #[]),0,0⟩:dF)) hs.p1 xQ rfl rfl (λ w7 hs=>aD xQ hs.At ?_));have hs:=(hs).drop;have hb:eU l s=(iU l s 5,⟨⟨#[]⟩,0,0⟩):=by unfold eU; rw [if_neg (by simpa using ri)]
   rw [hb];exact ⟨rfl,hs.mut⟩
theorem C253 (k:Int) (w:World) (hk:0≤k∧k≤14):CR 253 [.int .i64 k] w (λ v w'=>v = .string (He k)∧Ext w w'):=by
 have hs:=St.start w;refine aaV _ _ _ ?_;unfold S253;refine bW (CP) hs mS rfl rfl (eF rfl) (λ arl w1 hs=>?_);have hsl:CP.length=15:=rfl;obtain ⟨ayu,LU⟩:=gx (CP) (i:=(k).toNat) (by omega);refine dS hs mS (by omega) (by omega) (λ _ Sc=>gj hs j5 Sc LU ?_);refine ⟨?_,hs.drop.aF⟩;unfold He;rw [LU]; rfl
theorem C262 (p:Nat) (lv ov:Value) (l:List bF) (s:fN) (F:Nat→Prop) (w:World) (hF:(cD p (dU lv ov s)).p w F) (hT:∀ w',iy F w w'→eI (λ _=>True) w' lv l) (hk:iu l) (h0:lM l s):CR 262 [(.pointer (some ⟨p,0,none⟩))] w (λ v w'=>v = .int .i64 (kB l s).2∧qk F (cD p (dU lv ov (kB l s).1)) w w'):=by
 have hs:=St.begin hF;have Fm:=hk.n;have hn:l.length≤1000000:=by omega
 have sR:=hk.at_;obtain ⟨Q1,Q2⟩:=id h0;refine aa4 _ _ _ ?_;unfold S262;refine ⟨λ jv w'=>jv = .bool (OC l s)∧St w F [cD p (dU lv ov s)] w',?_,?_⟩
 ·refine aE (aA km (have hs:=hs.drew;aB nj hs.hb rfl (aH (aC (λ gn=>?_) (λ gn=>?_)))))
  ·refine aE (aA eS (aB bL hs.hb rfl (aE (aA gN (aB iL hs.hb rfl (aJ fz (hT _ hs.aF) (aR (aC (λ fu=>?_) (λ fu=>?_)))))))))
   ·refine aE (aA gN (aB iL hs.hb rfl (aE (aA eS (aB bL hs.hb rfl ?_)))));obtain ⟨DO,lC⟩:=gx (l) (i:=(s.at_).toNat) (by omega);refine aQ fz (hT _ hs.aF) (by omega) lC (λ _ od=>bP (DO).kind kZ od rfl rfl (λ _ oD=>aD bL (oD) (aH ?_)));exact ⟨vb (by unfold OC kz; first | (rw [decide_eq_false gn]; rfl) | (rw [if_pos (by omega),List.getElem?_eq_none (by omega)]; simp; done) | (rw [if_pos (by omega),lC,decide_eq_true gn]; rfl)),hs⟩
   ·exact ⟨vb (by unfold OC kz; first | (rw [decide_eq_false gn]; rfl) | (rw [if_pos (by omega),List.getElem?_eq_none (by omega)]; simp; done) | (rw [if_pos (by omega),lC,decide_eq_true gn]; rfl)),hs⟩
  ·exact ⟨vb (by unfold OC kz; first | (rw [decide_eq_false gn]; rfl) | (rw [if_pos (by omega),List.getElem?_eq_none (by omega)]; simp; done) | (rw [if_pos (by omega),lC,decide_eq_true gn]; rfl)),hs⟩
 ·rintro _ w1 ⟨rfl,hs⟩ fy;refine aX (λ iC=>?_) (λ iC=>?_)
  ·obtain ⟨_,tk,AL,_⟩:=Q0 iC;obtain ⟨arp,arq,SI⟩:=mg AL;refine aE (aA gN (have hs:=hs.drew;aB iL hs.hb rfl (aE (aA eS (aB bL hs.hb rfl (aQ fz (hT _ hs.aF) (by omega) SI (λ _ xZ=>bP (tk).n qT xZ rfl rfl (λ _ Ax=>aD bL (Ax) ?_))))))));refine ⟨λ jv w'=>jv = .bool (decide (1≤tk.n∧tk.n≤8))∧St w F [cD p (dU lv ov s)] w',?_,?_⟩
   ·refine dG (aC (λ ri=>?_) (λ ri=>?_))
    ·refine j4 ?_;exact ⟨vb (by first | exact (decide_eq_false (by omega)).symm | exact decide_eq_decide.2 (by omega)),hs⟩
    ·exact ⟨vb (by first | exact (decide_eq_false (by omega)).symm | exact decide_eq_decide.2 (by omega)),hs⟩
   ·rintro _ w2 ⟨rfl,hs⟩ jw;refine aC (λ pF=>?_) (λ pF=>?_)
    ·refine aE (aA eS (aB bL hs.hb rfl (aO (by omega) (aE (aA eS (aV hs bL (eF rfl) (rfl) (λ w3 hs=>?_)))))));have hb:kB l s=({s with at_:=s.at_+1},tk.n):=by unfold kB; rw [if_pos iC]; unfold oG; rw [AL]; exact if_pos pF
     rw [hb];exact ⟨rfl,hs.mut⟩
    ·refine bG Gj hs (H':=λ _=>cD p (dU lv ov (iU l s 11))) (Φ:=λ _ _=>True) (λ F2 eO ew=>?_) ?_
     ·exact (C254 p lv ov l s 11 F2 _ eO (λ w' hc=>hT w' (ew w' hc).aF) hk h0).mono λ _ _ r=>r.mono λ _ _ h=>⟨trivial,h.2⟩
     rintro _ w4 _ hs;have hb:kB l s=(iU l s 11,0):=by unfold kB; rw [if_pos iC]; unfold oG; rw [AL]; exact if_neg pF
     rw [hb];exact ⟨rfl,hs.mut⟩
  ·refine bG Gj hs (H':=λ _=>cD p (dU lv ov (iU l s 5))) (Φ:=λ _ _=>True) (λ F2 eO ew=>?_) ?_
   ·exact (C254 p lv ov l s 5 F2 _ eO (λ w' hc=>hT w' (ew w' hc).aF) hk h0).mono λ _ _ r=>r.mono λ _ _ h=>⟨trivial,h.2⟩
   rintro _ w5 _ hs;have hb:kB l s=(iU l s 5,0):=by unfold kB; rw [if_neg (by simpa using iC)]
   rw [hb];exact ⟨rfl,hs.mut⟩
theorem C261 (p:Nat) (lv ov:Value) (l:List bF) (s:fN) (s2:fN) (x:List cW) (F:Nat→Prop) (w:World) (hF:(cD p (dU lv ov s)).p w F) (hT:∀ w',iy F w w'→eI (λ _=>True) w' lv l) (hk:iu l) (h0:lM l s) (hr:qp l s=some (s2,x)):CR 261 [(.pointer (some ⟨p,0,none⟩))] w (λ v w'=>qk F (tQ λ sv:SV=>fact (v=Flat.val sv) (sep (cD p (dU lv ov s2)) (eX (λ w=>DL w (Flat.val sv) x)))) w w'):=by
 have hs:=St.begin hF;have Fm:=hk.n;have hn:l.length≤1000000:=by omega
 have sR:=hk.at_;obtain ⟨Q1,Q2⟩:=id h0;refine aa3 _ _ _ ?_;unfold S261;refine aE (aA km (aB nj hs.hb rfl (cS (aC (λ gO=>?_) (λ gO=>?_)))))
 ·have hR:((s,[]):fN × List cW)=(s2,x):=by unfold qp at hr; rw [if_pos gO] at hr; exact Option.some.inj hr
  cases hR;have hs:=(hs.gE (Φ:=λ w=>DL w (Flat.val (⟨none,0,0⟩:SV)) ([]:List cW)) λ w=>DL.nil w).p1;exact (St.eN (⟨none,0,0⟩:SV) (St.qj rfl (St.join hs))).mut
 ·refine aE (aA gN (have hs:=hs.drew;aB iL hs.hb rfl (aE (aA eS (aB bL hs.hb rfl ?_)))));obtain ⟨R,hxr,Gd⟩:=Xm hr (by omega);refine ey aey (C214 l _ s.at_ R _ (hT _ hs.aF) hk (by omega) hxr) ?_;rintro _ w1 ⟨ayI,rfl,bZ⟩;have hs:=hs.made bZ;refine bE rfl (bE rfl (bE rfl (bE rfl (cS (aC (λ gh=>?_) (λ gh=>?_))))))
  ·refine aE (aA km (aV hs.p1 nj (eF rfl) (rfl) (λ w2 hs=>aE (aA zw (aV hs bL (eF rfl) (rfl) (λ w3 hs=>?_))))));have hR:(({s with e:=R.2.2.1,pos:=R.2.2.2},[]):fN × List cW)=(s2,x):=by rw [if_pos gh] at Gd; exact Option.some.inj Gd
   cases hR;have hs:=((hs.p1.drop).gE (Φ:=λ w=>DL w (Flat.val (⟨none,0,0⟩:SV)) ([]:List cW)) λ w=>DL.nil w).p1;exact (St.eN (⟨none,0,0⟩:SV) (St.qj rfl (St.join hs))).mut
  ·have BR:=Xn Gd gh;refine aE (aA eS (aV hs.p1 bL (eF rfl) (rfl) (λ w4 hs=>?_)));have hR:(({s with at_:=R.2.1},R.1):fN × List cW)=(s2,x):=by rw [if_neg gh,if_pos BR] at Gd; exact Option.some.inj Gd
   cases hR;have hs:=hs.p1.p1;exact (St.eN ayI (St.qj rfl (St.join hs))).mut
def MC (k at_:Int):cE:=⟨k,⟨#[]⟩,⟨#[]⟩,[],[],0,0,0,at_⟩
abbrev Js:ByteArray:=⟨#[61]⟩
def To (l:List bF) (s:fN):fN:=dM l (cR l s).1 (ByteArray.mk #[61])
def s2M (l:List bF) (s:fN):fN:=dM l (cR l (To l s)).1 (ByteArray.mk #[44])
def kC (l:List bF) (s:fN) (k a:Int):Option (fN × cE):=
 if k=1 then (qp l (To l s)).bind λ r=>some (r.1,{MC k a with gJ:=(cR l s).2,e:=r.2})
 else if k=2 then some ((cR l (To l s)).1,{MC k a with gJ:=(cR l s).2,name:=(cR l (To l s)).2})
 else if k=3 then (qp l (To l s)).bind λ r=>some (r.1,{MC k a with name:=(cR l s).2,e:=r.2})
 else if k=4 then (qp l (s2M l s)).bind λ r=>(qp l (dM l r.1 (ByteArray.mk #[44]))).bind λ q=>some (q.1,{MC k a with gJ:=(cR l s).2,name:=(cR l (To l s)).2,e:=r.2,f:=q.2})
 else if k=5∨k=6∨k=9∨k=10 then some ((cR l s).1,{MC k a with name:=(cR l s).2})
 else if k=11∨k=14 then (qp l s).bind λ r=>some (r.1,{MC k a with e:=r.2})
 else if k=12 then some ((kB l s).1,{MC k a with n:=(kB l s).2})
 else some (s,MC k a)
section
variable {l:List bF} {s s':fN} {k a:Int} {x:cE}
theorem eE {α β γ:Type} {o:Option (α × β)} {g:α × β→Option γ} {c:γ} (h:o.bind g=some c):∃ p q,o=some (p,q)∧g (p,q)=some c:=by
 cases o with
 | none=>cases h
 | some r=>exact ⟨r.1,r.2,rfl,h⟩
theorem Q3 (h:kC l s k a=some (s',x)) (hk:k=1):∃ q e,qp l (To l s)=some (q,e)∧s'=q∧x={MC k a with gJ:=(cR l s).2,e:=e}:=by
 unfold kC at h; rw [if_pos hk] at h
 obtain ⟨q,e,h1,h2⟩:=eE h
 cases h2; exact ⟨_,_,h1,rfl,rfl⟩
theorem Q4 (h:kC l s k a=some (s',x)) (hk:k=2):s'=(cR l (To l s)).1∧x={MC k a with gJ:=(cR l s).2,name:=(cR l (To l s)).2}:=by
 unfold kC at h; rw [if_neg (by omega),if_pos hk] at h; cases h; exact ⟨rfl,rfl⟩
theorem Q5 (h:kC l s k a=some (s',x)) (hk:k=3):∃ q e,qp l (To l s)=some (q,e)∧s'=q∧x={MC k a with name:=(cR l s).2,e:=e}:=by
 unfold kC at h; rw [if_neg (by omega),if_neg (by omega),if_pos hk] at h
 obtain ⟨q,e,h1,h2⟩:=eE h
 cases h2; exact ⟨_,_,h1,rfl,rfl⟩
theorem Q6 (h:kC l s k a=some (s',x)) (hk:k=4):∃ q e q2 f,qp l (s2M l s)=some (q,e)∧qp l (dM l q (ByteArray.mk #[44]))=some (q2,f)∧s'=q2∧x={MC k a with gJ:=(cR l s).2,name:=(cR l (To l s)).2,e:=e,f:=f}:=by
 unfold kC at h; rw [if_neg (by omega),if_neg (by omega),if_neg (by omega),if_pos hk] at h
 obtain ⟨q,e,h1,h2⟩:=eE h
 obtain ⟨q2,f,h3,h4⟩:=eE h2
 cases h4; exact ⟨_,_,_,_,h1,h3,rfl,rfl⟩
theorem Q7 (h:kC l s k a=some (s',x)) (hk:k=5∨k=6∨k=9∨k=10):s'=(cR l s).1∧x={MC k a with name:=(cR l s).2}:=by
 unfold kC at h; rw [if_neg (by omega),if_neg (by omega),if_neg (by omega),if_neg (by omega),if_pos hk] at h; cases h; exact ⟨rfl,rfl⟩
theorem LX (h:kC l s k a=some (s',x)) (hk:k=11∨k=14):∃ q e,qp l s=some (q,e)∧s'=q∧x={MC k a with e:=e}:=by
 unfold kC at h; rw [if_neg (by omega),if_neg (by omega),if_neg (by omega),if_neg (by omega),if_neg (by omega),if_pos hk] at h
 obtain ⟨q,e,h1,h2⟩:=eE h
 cases h2; exact ⟨_,_,h1,rfl,rfl⟩
theorem LY (h:kC l s k a=some (s',x)) (hk:k=12):s'=(kB l s).1∧x={MC k a with n:=(kB l s).2}:=by
 unfold kC at h; rw [if_neg (by omega),if_neg (by omega),if_neg (by omega),if_neg (by omega),if_neg (by omega),if_neg (by omega),if_pos hk] at h; cases h; exact ⟨rfl,rfl⟩
theorem LZ (h:kC l s k a=some (s',x)) (h1:¬ k=1) (h2:¬ k=2) (h3:¬ k=3) (h4:¬ k=4) (h5:¬ (k=5∨k=6∨k=9∨k=10)) (h6:¬ (k=11∨k=14)) (h7:¬ k=12):s'=s∧x=MC k a:=by
 unfold kC at h; rw [if_neg h1,if_neg h2,if_neg h3,if_neg h4,if_neg h5,if_neg h6,if_neg h7] at h; cases h; exact ⟨rfl,rfl⟩
end
theorem Bz {l:List bF} {s s':fN} {k a:Int} {x:cE} (h0:lM l s) (h:kC l s k a=some (s',x)):lM l s':=by
 have R9:lM l (To l s):=fx (gw h0)
 have hs2:lM l (s2M l s):=fx (gw R9)
 by_cases h1:k=1
 ·obtain ⟨q,e,he,rfl,_⟩:=Q3 h h1; exact rH R9 he
 by_cases h2:k=2
 ·obtain ⟨rfl,_⟩:=Q4 h h2; exact gw R9
 by_cases h3:k=3
 ·obtain ⟨q,e,he,rfl,_⟩:=Q5 h h3; exact rH R9 he
 by_cases h4:k=4
 ·obtain ⟨q,e,q2,f,he,hf,rfl,_⟩:=Q6 h h4; exact rH (fx (rH hs2 he)) hf
 by_cases h5:k=5∨k=6∨k=9∨k=10
 ·obtain ⟨rfl,_⟩:=Q7 h h5; exact gw h0
 by_cases h6:k=11∨k=14
 ·obtain ⟨q,e,he,rfl,_⟩:=LX h h6; exact rH h0 he
 by_cases h7:k=12
 ·obtain ⟨rfl,_⟩:=LY h h7; exact SJ h0
 ·obtain ⟨rfl,_⟩:=LZ h h1 h2 h3 h4 h5 h6 h7; exact h0
theorem wG {α σ:Type} [Flat σ] [cA α σ] {w w0:World} {A:Nat→Prop} {L:List HP} {B:HP} {sh:σ} {x:α} (hs:St w0 A (B::eX (λ w=>cA.dr w sh x)::L) w) :
  St w0 A ((tQ λ s:σ=>fact (Flat.val sh=Flat.val s) (sep B (eX (λ w=>cA.dr w s x))))::L) w:=
 St.eN (H:=λ s:σ=>fact (Flat.val sh=Flat.val s) (sep B (eX (λ w=>cA.dr w s x)))) sh (St.qj rfl (St.join hs))
set_option maxHeartbeats 2000000 in
theorem C255 (p:Nat) (lv ov:Value) (l:List bF) (s:fN) (kd a:Int) (s2:fN) (x:cE) (F:Nat→Prop) (w:World) (hF:(cD p (dU lv ov s)).p w F) (hT:∀ w',iy F w w'→eI (λ _=>True) w' lv l) (hk:iu l) (h0:lM l s) (hp:kC l s kd a=some (s2,x)):CR 255 [(.pointer (some ⟨p,0,none⟩)),.int .i64 kd,.int .i64 a] w (λ v w'=>qk F (tQ λ sh:bX=>fact (v=Flat.val sh) (sep (cD p (dU lv ov s2)) (eX (λ w=>cA.dr w sh x)))) w w'):=by
 have hs:=St.begin hF;have Fm:=hk.n;have hn:l.length≤1000000:=by omega
 have sR:=hk.at_;obtain ⟨Q1,Q2⟩:=id h0;refine aaX _ _ _ _ _ ?_;unfold S255;refine aN hs qu (λ N6 w1 hs=>have hs:=hs.enc (cs':=Flat.enc (⟨0,(ByteArray.mk #[]),(ByteArray.mk #[]),⟨none,0,0⟩,⟨none,0,0⟩,0,0,0,0⟩:bX)) rfl;pop (M6 _ _) (aN hs qu (λ A8 w2 hs=>have hs:=hs.enc (cs':=Flat.enc (⟨0,(ByteArray.mk #[]),(ByteArray.mk #[]),⟨none,0,0⟩,⟨none,0,0⟩,0,0,0,0⟩:bX)) rfl;aI (x:=(⟨kd,(ByteArray.mk #[]),(ByteArray.mk #[]),⟨none,0,0⟩,⟨none,0,0⟩,0,0,0,a⟩:bX)) hs fW rfl rfl (λ w3 hs=>?_))));refine ⟨_,?_,λ _ h=>h⟩;refine aH (aC (λ kF=>?_) (λ kF=>?_))
 ·obtain ⟨q,e,hex,rfl,rfl⟩:=Q3 hp kF;refine bG De hs.p2 (H':=λ _=>cD p (dU lv ov (cR l s).1)) (Φ:=λ v _=>v = .string (cR l s).2) (λ F2 eO ew=>?_) ?_
  ·exact C260 p lv ov l s F2 _ eO (λ w' hc=>hT w' (ew w' hc).aF) hk h0
  rintro _ w4 rfl hs;refine aA lS (aV hs.p1 j5 (eF rfl) (rfl) (λ w5 hs=>have hs:=hs.enc (cs':=Flat.enc (⟨kd,(cR l s).2,(ByteArray.mk #[]),⟨none,0,0⟩,⟨none,0,0⟩,0,0,0,a⟩:bX)) rfl;bG xN hs.p1 (H':=λ _=>cD p (dU lv ov (dM l (cR l s).1 (ByteArray.mk #[61])))) (Φ:=λ _ _=>True) (λ F2 eO ew=>?_) ?_))
  ·exact (C234 p lv ov l (cR l s).1 (ByteArray.mk #[61]) F2 _ eO (λ w' hc=>hT w' (ew w' hc).aF) hk (gw h0)).mono λ _ _ r=>r.mono λ _ _ h=>⟨trivial,h.2⟩
  rintro _ w6 _ hs;refine bG JY hs (H':=λ v=>tQ λ sv:SV=>fact (v=Flat.val sv) (sep (cD p (dU lv ov s2)) (eX (λ w=>DL w (Flat.val sv) e)))) (Φ:=λ _ _=>True) (λ F2 eO ew=>?_) ?_
  ·exact (C261 p lv ov l (dM l (cR l s).1 (ByteArray.mk #[61])) s2 e F2 _ eO (λ w' hc=>hT w' (ew w' hc).aF) hk (fx (gw h0)) hex).mono λ _ _ r=>r.mono λ _ _ h=>⟨trivial,h⟩
  rintro v_x20 w7 _ Au;obtain ⟨OD,Av⟩:=Au.eT
  clear Au
  obtain ⟨akx,CK⟩:=Av.oA
  clear Av
  subst akx;have hs:=CK.split;refine aA lT (aV hs.p2 mR (eF rfl) (rfl) (λ w8 hs=>?_));have hs:=hs.enc (cs':=Flat.enc (⟨kd,(cR l s).2,(ByteArray.mk #[]),OD,⟨none,0,0⟩,0,0,0,a⟩:bX)) rfl;intro oN;refine aD fW hs.At (aI (x:=(⟨kd,(cR l s).2,(ByteArray.mk #[]),OD,⟨none,0,0⟩,0,0,0,a⟩:bX)) hs.p3 fW rfl rfl (λ Yn hs=>aD fW hs.At ?_));have hs:=hs.p3.dN (Ψ:=(λ w=>cA.dr w (⟨kd,(cR l s).2,(ByteArray.mk #[]),OD,⟨none,0,0⟩,0,0,0,a⟩:bX) (⟨kd,(cR l s).2,(ByteArray.mk #[]),e,[],0,0,0,a⟩:cE))) (λ w h=>⟨_,_,rfl,id (h),DL.nil _⟩);have hs:=((hs.p1.drop.p1).drop).p1
  exact (wG hs).mut
 ·refine aH (aC (λ iO=>?_) (λ iO=>?_))
  ·obtain ⟨rfl,rfl⟩:=Q4 hp iO;refine bG De hs.p2 (H':=λ _=>cD p (dU lv ov (cR l s).1)) (Φ:=λ v _=>v = .string (cR l s).2) (λ F2 eO ew=>?_) ?_
   ·exact C260 p lv ov l s F2 _ eO (λ w' hc=>hT w' (ew w' hc).aF) hk h0
   rintro _ w9 rfl hs;refine aA lS (aV hs.p1 j5 (eF rfl) (rfl) (λ pQ hs=>have hs:=hs.enc (cs':=Flat.enc (⟨kd,(cR l s).2,(ByteArray.mk #[]),⟨none,0,0⟩,⟨none,0,0⟩,0,0,0,a⟩:bX)) rfl;bG xN hs.p1 (H':=λ _=>cD p (dU lv ov (dM l (cR l s).1 (ByteArray.mk #[61])))) (Φ:=λ _ _=>True) (λ F2 eO ew=>?_) ?_))
   ·exact (C234 p lv ov l (cR l s).1 (ByteArray.mk #[61]) F2 _ eO (λ w' hc=>hT w' (ew w' hc).aF) hk (gw h0)).mono λ _ _ r=>r.mono λ _ _ h=>⟨trivial,h.2⟩
   rintro _ sP _ hs;refine bG De hs (H':=λ _=>cD p (dU lv ov (cR l (dM l (cR l s).1 (ByteArray.mk #[61]))).1)) (Φ:=λ v _=>v = .string (cR l (dM l (cR l s).1 (ByteArray.mk #[61]))).2) (λ F2 eO ew=>?_) ?_
   ·exact C260 p lv ov l (dM l (cR l s).1 (ByteArray.mk #[61])) F2 _ eO (λ w' hc=>hT w' (ew w' hc).aF) hk (fx (gw h0))
   rintro _ vi rfl hs;refine aA jh (aV hs.p1 j5 (eF rfl) (rfl) (λ vj hs=>?_));have hs:=hs.enc (cs':=Flat.enc (⟨kd,(cR l s).2,(cR l (dM l (cR l s).1 (ByteArray.mk #[61]))).2,⟨none,0,0⟩,⟨none,0,0⟩,0,0,0,a⟩:bX)) rfl;intro oN;refine aD fW hs.At (aI (x:=(⟨kd,(cR l s).2,(cR l (dM l (cR l s).1 (ByteArray.mk #[61]))).2,⟨none,0,0⟩,⟨none,0,0⟩,0,0,0,a⟩:bX)) hs.p2 fW rfl rfl (λ Yn hs=>aD fW hs.At ?_));have hs:=hs.gE (Φ:=(λ w=>cA.dr w (⟨kd,(cR l s).2,(cR l (dM l (cR l s).1 (ByteArray.mk #[61]))).2,⟨none,0,0⟩,⟨none,0,0⟩,0,0,0,a⟩:bX) (⟨kd,(cR l s).2,(cR l (dM l (cR l s).1 (ByteArray.mk #[61]))).2,[],[],0,0,0,a⟩:cE))) (λ w=>⟨_,_,rfl,DL.nil _,DL.nil _⟩)
   have hs:=((hs.p1.drop.p1).drop).p1;exact (wG hs).mut
  ·refine aH (aC (λ nz=>?_) (λ nz=>?_))
   ·obtain ⟨q,e,hex,rfl,rfl⟩:=Q5 hp nz;refine bG De hs.p2 (H':=λ _=>cD p (dU lv ov (cR l s).1)) (Φ:=λ v _=>v = .string (cR l s).2) (λ F2 eO ew=>?_) ?_
    ·exact C260 p lv ov l s F2 _ eO (λ w' hc=>hT w' (ew w' hc).aF) hk h0
    rintro _ sd rfl hs;refine aA jh (aV hs.p1 j5 (eF rfl) (rfl) (λ vW hs=>have hs:=hs.enc (cs':=Flat.enc (⟨kd,(ByteArray.mk #[]),(cR l s).2,⟨none,0,0⟩,⟨none,0,0⟩,0,0,0,a⟩:bX)) rfl;bG xN hs.p1 (H':=λ _=>cD p (dU lv ov (dM l (cR l s).1 (ByteArray.mk #[61])))) (Φ:=λ _ _=>True) (λ F2 eO ew=>?_) ?_))
    ·exact (C234 p lv ov l (cR l s).1 (ByteArray.mk #[61]) F2 _ eO (λ w' hc=>hT w' (ew w' hc).aF) hk (gw h0)).mono λ _ _ r=>r.mono λ _ _ h=>⟨trivial,h.2⟩
    rintro _ yM _ hs;refine bG JY hs (H':=λ v=>tQ λ sv:SV=>fact (v=Flat.val sv) (sep (cD p (dU lv ov s2)) (eX (λ w=>DL w (Flat.val sv) e)))) (Φ:=λ _ _=>True) (λ F2 eO ew=>?_) ?_
    ·exact (C261 p lv ov l (dM l (cR l s).1 (ByteArray.mk #[61])) s2 e F2 _ eO (λ w' hc=>hT w' (ew w' hc).aF) hk (fx (gw h0)) hex).mono λ _ _ r=>r.mono λ _ _ h=>⟨trivial,h⟩
    rintro v_x40 Cd _ Au;obtain ⟨OE,Av⟩:=Au.eT
    clear Au
    obtain ⟨aky,CK⟩:=Av.oA
    clear Av
    subst aky;have hs:=CK.split;refine aA lT (aV hs.p2 mR (eF rfl) (rfl) (λ Il hs=>?_));have hs:=hs.enc (cs':=Flat.enc (⟨kd,(ByteArray.mk #[]),(cR l s).2,OE,⟨none,0,0⟩,0,0,0,a⟩:bX)) rfl;intro oN;refine aD fW hs.At (aI (x:=(⟨kd,(ByteArray.mk #[]),(cR l s).2,OE,⟨none,0,0⟩,0,0,0,a⟩:bX)) hs.p3 fW rfl rfl (λ Yn hs=>aD fW hs.At ?_));have hs:=hs.p3.dN (Ψ:=(λ w=>cA.dr w (⟨kd,(ByteArray.mk #[]),(cR l s).2,OE,⟨none,0,0⟩,0,0,0,a⟩:bX) (⟨kd,(ByteArray.mk #[]),(cR l s).2,e,[],0,0,0,a⟩:cE))) (λ w h=>⟨_,_,rfl,id (h),DL.nil _⟩);have hs:=((hs.p1.drop.p1).drop).p1
    exact (wG hs).mut
   ·refine aH (aC (λ tW=>?_) (λ tW=>?_))
    ·obtain ⟨q,e,q2,f,hex,hfx,rfl,rfl⟩:=Q6 hp tW;refine bG De hs.p2 (H':=λ _=>cD p (dU lv ov (cR l s).1)) (Φ:=λ v _=>v = .string (cR l s).2) (λ F2 eO ew=>?_) ?_
     ·exact C260 p lv ov l s F2 _ eO (λ w' hc=>hT w' (ew w' hc).aF) hk h0
     rintro _ Jo rfl hs;refine aA lS (aV hs.p1 j5 (eF rfl) (rfl) (λ KA hs=>have hs:=hs.enc (cs':=Flat.enc (⟨kd,(cR l s).2,(ByteArray.mk #[]),⟨none,0,0⟩,⟨none,0,0⟩,0,0,0,a⟩:bX)) rfl;bG xN hs.p1 (H':=λ _=>cD p (dU lv ov (dM l (cR l s).1 (ByteArray.mk #[61])))) (Φ:=λ _ _=>True) (λ F2 eO ew=>?_) ?_))
     ·exact (C234 p lv ov l (cR l s).1 (ByteArray.mk #[61]) F2 _ eO (λ w' hc=>hT w' (ew w' hc).aF) hk (gw h0)).mono λ _ _ r=>r.mono λ _ _ h=>⟨trivial,h.2⟩
     rintro _ Mx _ hs;refine bG De hs (H':=λ _=>cD p (dU lv ov (cR l (dM l (cR l s).1 (ByteArray.mk #[61]))).1)) (Φ:=λ v _=>v = .string (cR l (dM l (cR l s).1 (ByteArray.mk #[61]))).2) (λ F2 eO ew=>?_) ?_
     ·exact C260 p lv ov l (dM l (cR l s).1 (ByteArray.mk #[61])) F2 _ eO (λ w' hc=>hT w' (ew w' hc).aF) hk (fx (gw h0))
     rintro _ Qp rfl hs;refine aA jh (aV hs.p1 j5 (eF rfl) (rfl) (λ Tn hs=>have hs:=hs.enc (cs':=Flat.enc (⟨kd,(cR l s).2,(cR l (dM l (cR l s).1 (ByteArray.mk #[61]))).2,⟨none,0,0⟩,⟨none,0,0⟩,0,0,0,a⟩:bX)) rfl;bG xN hs.p1 (H':=λ _=>cD p (dU lv ov (dM l (cR l (dM l (cR l s).1 (ByteArray.mk #[61]))).1 (ByteArray.mk #[44])))) (Φ:=λ _ _=>True) (λ F2 eO ew=>?_) ?_))
     ·exact (C234 p lv ov l (cR l (dM l (cR l s).1 (ByteArray.mk #[61]))).1 (ByteArray.mk #[44]) F2 _ eO (λ w' hc=>hT w' (ew w' hc).aF) hk (gw (fx (gw h0)))).mono λ _ _ r=>r.mono λ _ _ h=>⟨trivial,h.2⟩
     rintro _ VF _ hs;refine bG JY hs (H':=λ v=>tQ λ sv:SV=>fact (v=Flat.val sv) (sep (cD p (dU lv ov q)) (eX (λ w=>DL w (Flat.val sv) e)))) (Φ:=λ _ _=>True) (λ F2 eO ew=>?_) ?_
     ·exact (C261 p lv ov l (dM l (cR l (dM l (cR l s).1 (ByteArray.mk #[61]))).1 (ByteArray.mk #[44])) q e F2 _ eO (λ w' hc=>hT w' (ew w' hc).aF) hk (fx (gw (fx (gw h0)))) hex).mono λ _ _ r=>r.mono λ _ _ h=>⟨trivial,h⟩
     rintro v_x55 R7 _ Au;obtain ⟨EP,Av⟩:=Au.eT
     clear Au
     obtain ⟨akz,CK⟩:=Av.oA
     clear Av
     subst akz;have hs:=CK.split;refine aA lT (aV hs.p2 mR (eF rfl) (rfl) (λ w26 hs=>have hs:=hs.enc (cs':=Flat.enc (⟨kd,(cR l s).2,(cR l (dM l (cR l s).1 (ByteArray.mk #[61]))).2,EP,⟨none,0,0⟩,0,0,0,a⟩:bX)) rfl;bG xN hs.p1 (H':=λ _=>cD p (dU lv ov (dM l q (ByteArray.mk #[44])))) (Φ:=λ _ _=>True) (λ F2 eO ew=>?_) ?_))
     ·exact (C234 p lv ov l q (ByteArray.mk #[44]) F2 _ eO (λ w' hc=>hT w' (ew w' hc).aF) hk (rH (fx (gw (fx (gw h0)))) hex)).mono λ _ _ r=>r.mono λ _ _ h=>⟨trivial,h.2⟩
     rintro _ w27 _ hs;refine bG JY hs (H':=λ v=>tQ λ sv:SV=>fact (v=Flat.val sv) (sep (cD p (dU lv ov s2)) (eX (λ w=>DL w (Flat.val sv) f)))) (Φ:=λ _ _=>True) (λ F2 eO ew=>?_) ?_
     ·exact (C261 p lv ov l (dM l q (ByteArray.mk #[44])) s2 f F2 _ eO (λ w' hc=>hT w' (ew w' hc).aF) hk (fx (rH (fx (gw (fx (gw h0)))) hex)) hfx).mono λ _ _ r=>r.mono λ _ _ h=>⟨trivial,h⟩
     rintro v_x60 w28 _ Au;obtain ⟨Bm,Av⟩:=Au.eT
     clear Au
     obtain ⟨akA,CK⟩:=Av.oA
     clear Av
     subst akA;have hs:=CK.split;refine aA nU (aV hs.p2 mR (eF rfl) (rfl) (λ w29 hs=>?_));have hs:=hs.enc (cs':=Flat.enc (⟨kd,(cR l s).2,(cR l (dM l (cR l s).1 (ByteArray.mk #[61]))).2,EP,Bm,0,0,0,a⟩:bX)) rfl;intro oN;refine aD fW hs.At (aI (x:=(⟨kd,(cR l s).2,(cR l (dM l (cR l s).1 (ByteArray.mk #[61]))).2,EP,Bm,0,0,0,a⟩:bX)) hs.p4 fW rfl rfl (λ Yn hs=>aD fW hs.At ?_));have hs:=hs.p4.p4.p1.fL.dN (Ψ:=(λ w=>cA.dr w (⟨kd,(cR l s).2,(cR l (dM l (cR l s).1 (ByteArray.mk #[61]))).2,EP,Bm,0,0,0,a⟩:bX) (⟨kd,(cR l s).2,(cR l (dM l (cR l s).1 (ByteArray.mk #[61]))).2,e,f,0,0,0,a⟩:cE))) (λ w h=>⟨_,_,rfl,id (h.1),id (h.2)⟩)
     have hs:=((hs.p1.drop.p1).drop).p1;exact (wG hs).mut
    ·refine ⟨λ jv w'=>jv = .bool (decide (kd=5∨kd=6∨kd=9∨kd=10))∧w3=w',?_,?_⟩
     ·refine aH (aC (λ Vz=>?_) (λ Vz=>?_))
      ·exact ⟨vb (by grind),rfl⟩
      ·refine aH (aC (λ qm=>?_) (λ qm=>?_))
       ·exact ⟨vb (by grind),rfl⟩
       ·refine aH (aC (λ m9=>?_) (λ m9=>?_))
        ·exact ⟨vb (by grind),rfl⟩
        ·refine aH ?_;exact ⟨vb (by grind),rfl⟩
     ·rintro _ w30 ⟨rfl,hw⟩ fy;subst hw;refine aC (λ sj=>?_) (λ sj=>?_)
      ·obtain ⟨rfl,rfl⟩:=Q7 hp sj;refine bG De hs.p2 (H':=λ _=>cD p (dU lv ov (cR l s).1)) (Φ:=λ v _=>v = .string (cR l s).2) (λ F2 eO ew=>?_) ?_
       ·exact C260 p lv ov l s F2 _ eO (λ w' hc=>hT w' (ew w' hc).aF) hk h0
       rintro _ w31 rfl hs;refine aA jh (aV hs.p1 j5 (eF rfl) (rfl) (λ w32 hs=>?_));have hs:=hs.enc (cs':=Flat.enc (⟨kd,(ByteArray.mk #[]),(cR l s).2,⟨none,0,0⟩,⟨none,0,0⟩,0,0,0,a⟩:bX)) rfl;intro oN;refine aD fW hs.At (aI (x:=(⟨kd,(ByteArray.mk #[]),(cR l s).2,⟨none,0,0⟩,⟨none,0,0⟩,0,0,0,a⟩:bX)) hs.p2 fW rfl rfl (λ Yn hs=>aD fW hs.At ?_));have hs:=hs.gE (Φ:=(λ w=>cA.dr w (⟨kd,(ByteArray.mk #[]),(cR l s).2,⟨none,0,0⟩,⟨none,0,0⟩,0,0,0,a⟩:bX) (⟨kd,(ByteArray.mk #[]),(cR l s).2,[],[],0,0,0,a⟩:cE))) (λ w=>⟨_,_,rfl,DL.nil _,DL.nil _⟩);have hs:=((hs.p1.drop.p1).drop).p1
       exact (wG hs).mut
      ·refine ⟨λ jv w'=>jv = .bool (decide (kd=11∨kd=14))∧w3=w',?_,?_⟩
       ·refine aH (aC (λ vk=>?_) (λ vk=>?_))
        ·exact ⟨vb (by grind),rfl⟩
        ·refine aH ?_;exact ⟨vb (by grind),rfl⟩
       ·rintro _ w33 ⟨rfl,hw⟩ jw;subst hw;refine aC (λ D8=>?_) (λ D8=>?_)
        ·obtain ⟨q,e,hex,rfl,rfl⟩:=LX hp D8;refine bG JY hs.p2 (H':=λ v=>tQ λ sv:SV=>fact (v=Flat.val sv) (sep (cD p (dU lv ov s2)) (eX (λ w=>DL w (Flat.val sv) e)))) (Φ:=λ _ _=>True) (λ F2 eO ew=>?_) ?_
         ·exact (C261 p lv ov l s s2 e F2 _ eO (λ w' hc=>hT w' (ew w' hc).aF) hk h0 hex).mono λ _ _ r=>r.mono λ _ _ h=>⟨trivial,h⟩
         rintro v_x74 w34 _ Au;obtain ⟨OF,Av⟩:=Au.eT
         clear Au
         obtain ⟨akB,CK⟩:=Av.oA
         clear Av
         subst akB;have hs:=CK.split;refine aA lT (aV hs.p2 mR (eF rfl) (rfl) (λ w35 hs=>?_));have hs:=hs.enc (cs':=Flat.enc (⟨kd,(ByteArray.mk #[]),(ByteArray.mk #[]),OF,⟨none,0,0⟩,0,0,0,a⟩:bX)) rfl;intro oN;refine aD fW hs.At (aI (x:=(⟨kd,(ByteArray.mk #[]),(ByteArray.mk #[]),OF,⟨none,0,0⟩,0,0,0,a⟩:bX)) hs.p3 fW rfl rfl (λ Yn hs=>aD fW hs.At ?_));have hs:=hs.p3.dN (Ψ:=(λ w=>cA.dr w (⟨kd,(ByteArray.mk #[]),(ByteArray.mk #[]),OF,⟨none,0,0⟩,0,0,0,a⟩:bX) (⟨kd,(ByteArray.mk #[]),(ByteArray.mk #[]),e,[],0,0,0,a⟩:cE))) (λ w h=>⟨_,_,rfl,id (h),DL.nil _⟩)
         have hs:=((hs.p1.drop.p1).drop).p1;exact (wG hs).mut
        ·refine aH (aC (λ KO=>?_) (λ KO=>?_))
         ·obtain ⟨rfl,rfl⟩:=LY hp KO;refine bG anM hs.p2 (H':=λ _=>cD p (dU lv ov (kB l s).1)) (Φ:=λ v _=>v = .int .i64 (kB l s).2) (λ F2 eO ew=>?_) ?_
          ·exact C262 p lv ov l s F2 _ eO (λ w' hc=>hT w' (ew w' hc).aF) hk h0
          rintro _ w36 rfl hs;refine aA tL (aV hs.p1 bL (eF rfl) (rfl) (λ w37 hs=>?_));have hs:=hs.enc (cs':=Flat.enc (⟨kd,(ByteArray.mk #[]),(ByteArray.mk #[]),⟨none,0,0⟩,⟨none,0,0⟩,(kB l s).2,0,0,a⟩:bX)) rfl;intro oN;refine aD fW hs.At (aI (x:=(⟨kd,(ByteArray.mk #[]),(ByteArray.mk #[]),⟨none,0,0⟩,⟨none,0,0⟩,(kB l s).2,0,0,a⟩:bX)) hs.p2 fW rfl rfl (λ Yn hs=>aD fW hs.At ?_));have hs:=hs.gE (Φ:=(λ w=>cA.dr w (⟨kd,(ByteArray.mk #[]),(ByteArray.mk #[]),⟨none,0,0⟩,⟨none,0,0⟩,(kB l s).2,0,0,a⟩:bX) (⟨kd,(ByteArray.mk #[]),(ByteArray.mk #[]),[],[],(kB l s).2,0,0,a⟩:cE))) (λ w=>⟨_,_,rfl,DL.nil _,DL.nil _⟩)
          have hs:=((hs.p1.drop.p1).drop).p1;exact (wG hs).mut
         ·obtain ⟨rfl,rfl⟩:=LZ hp kF iO nz tW sj D8 KO;intro oN;refine aD fW hs.At (aI (x:=(⟨kd,(ByteArray.mk #[]),(ByteArray.mk #[]),⟨none,0,0⟩,⟨none,0,0⟩,0,0,0,a⟩:bX)) hs.p1 fW rfl rfl (λ Yn hs=>aD fW hs.At ?_));have hs:=hs.gE (Φ:=(λ w=>cA.dr w (⟨kd,(ByteArray.mk #[]),(ByteArray.mk #[]),⟨none,0,0⟩,⟨none,0,0⟩,0,0,0,a⟩:bX) (⟨kd,(ByteArray.mk #[]),(ByteArray.mk #[]),[],[],0,0,0,a⟩:cE))) (λ w=>⟨_,_,rfl,DL.nil _,DL.nil _⟩);have hs:=((hs.p1.drop.p1).drop).p1;exact (wG hs).mut
def gS (l:List bF) (a:Int):Nat→Int
 | 0=>1
 | n+1=>if sC l a (He ((n:Int)+2))=true then (n:Int)+2 else gS l a n
theorem Q8 {l:List bF} {a:Int}:∀ n:Nat,1≤gS l a n∧gS l a n≤(n:Int)+1
 | 0=>by unfold gS; omega
 | n+1=>by
  have:=Q8 (l:=l) (a:=a) n
  unfold gS
  split <;> omega
theorem L3 {l:List bF} {a:Int}:∀ n:Nat,gS l a n=1∨∃ t,sC l a t=true
 | 0=>.inl rfl
 | n+1=>by
  unfold gS
  split
  ·rename_i h; exact .inr ⟨_,h⟩
  ·exact L3 n
theorem Hf {l:List bF} {a:Int} {n:Nat} (h:sC l a (He ((n:Int)+2))=true):gS l a (n+1)=(n:Int)+2:=if_pos h
theorem Hg {l:List bF} {a:Int} {n:Nat} (h:¬ sC l a (He ((n:Int)+2))=true):gS l a (n+1)=gS l a n:=if_neg h
def Ys (l:List bF) (s:fN):fN:=if gS l s.at_ 13≠1 then {s with at_:=s.at_+1} else s
theorem I9 {l:List bF} {s:fN} (h:lM l s):lM l (Ys l s):=by
 unfold Ys
 split
 ·rename_i h1
  rcases L3 (l:=l) (a:=s.at_) 13 with h2 | ⟨t,h2⟩
  ·exact absurd h2 h1
  ·have:=rG h2
   exact ⟨by show 0≤s.at_+1; omega,by show s.at_+1≤_; omega⟩
 ·exact h
abbrev agb:ByteArray:=⟨#[101,108,115,101]⟩
def j7 (l:List bF) (kd:Int) (s:fN):Bool:=decide (kd=11) && decide (s.e=0) && sC l s.at_ agb
def Xq (s:fN):fN:={s with at_:=s.at_+1}
abbrev adr:=fN→Int→Int→Option (fN × List cE)
def Co (l:List bF) (cD:adr) (s:fN) (d lp:Int):Option (fN × List cE):=
 if gS l s.at_ 13=13∧lp=0 then some (iU l s 5,[])
 else (kC l (Ys l s) (gS l s.at_ 13) (mL l s.at_)).bind λ r=>
  if gS l s.at_ 13≠11∧gS l s.at_ 13≠12 then some (dM l r.1 ⟨#[59]⟩,[r.2])
  else (cD r.1 (d+1) (if gS l s.at_ 13=12 then lp+1 else lp)).bind λ q=>
   if j7 l (gS l s.at_ 13) q.1=true then (cD (Xq q.1) (d+1) lp).bind λ t=>some (t.1,{r.2 with body:=(q.2.length:Int),fD:=(t.2.length:Int)}::(q.2++t.2))
   else some (q.1,{r.2 with body:=(q.2.length:Int)}::q.2)
section
variable {l:List bF} {cD:adr} {s s':fN} {d lp:Int} {add:List cE}
theorem Q9 (h:Co l cD s d lp=some (s',add)) (hb:gS l s.at_ 13=13∧lp=0):s'=iU l s 5∧add=[]:=by
 unfold Co at h; rw [if_pos hb] at h; cases h; exact ⟨rfl,rfl⟩
theorem Xr (h:Co l cD s d lp=some (s',add)) (hb:¬ (gS l s.at_ 13=13∧lp=0)):∃ s2 x,kC l (Ys l s) (gS l s.at_ 13) (mL l s.at_)=some (s2,x)∧
  (if gS l s.at_ 13≠11∧gS l s.at_ 13≠12 then some (dM l s2 ⟨#[59]⟩,[x])
  else (cD s2 (d+1) (if gS l s.at_ 13=12 then lp+1 else lp)).bind λ q=>
   if j7 l (gS l s.at_ 13) q.1=true then (cD (Xq q.1) (d+1) lp).bind λ t=>some (t.1,{x with body:=(q.2.length:Int),fD:=(t.2.length:Int)}::(q.2++t.2))
   else some (q.1,{x with body:=(q.2.length:Int)}::q.2))=some (s',add):=by
 unfold Co at h; rw [if_neg hb] at h
 obtain ⟨p,q,h1,h2⟩:=eE h
 exact ⟨p,q,h1,h2⟩
theorem Ra {kd:Int} {s2:fN} {x:cE} (h:(if kd≠11∧kd≠12 then some (dM l s2 ⟨#[59]⟩,[x])
  else (cD s2 (d+1) (if kd=12 then lp+1 else lp)).bind λ q=>
   if j7 l kd q.1=true then (cD (Xq q.1) (d+1) lp).bind λ t=>some (t.1,{x with body:=(q.2.length:Int),fD:=(t.2.length:Int)}::(q.2++t.2))
   else some (q.1,{x with body:=(q.2.length:Int)}::q.2))=some (s',add)) (hk:¬ (kd≠11∧kd≠12)) :
  ∃ s3 m1,cD s2 (d+1) (if kd=12 then lp+1 else lp)=some (s3,m1)∧
   ((j7 l kd s3=true∧∃ s5 m2,cD (Xq s3) (d+1) lp=some (s5,m2)∧s'=s5∧add={x with body:=(m1.length:Int),fD:=(m2.length:Int)}::(m1++m2))∨
    (j7 l kd s3=false∧s'=s3∧add={x with body:=(m1.length:Int)}::m1)):=by
 rw [if_neg hk] at h
 obtain ⟨s3,m1,h1,h2⟩:=eE h
 refine ⟨s3,m1,h1,?_⟩
 dsimp only at h2
 cases he:j7 l kd s3 with
 | true=>
  rw [he,if_pos rfl] at h2
  obtain ⟨s5,m2,h3,h4⟩:=eE h2
  cases h4
  exact .inl ⟨rfl,_,_,h3,rfl,rfl⟩
 | false=>
  rw [he,if_neg (by simp)] at h2
  cases h2
  exact .inr ⟨rfl,rfl,rfl⟩
theorem Hh {kd:Int} {s2:fN} {x:cE} (h:(if kd≠11∧kd≠12 then some (dM l s2 ⟨#[59]⟩,[x])
  else (cD s2 (d+1) (if kd=12 then lp+1 else lp)).bind λ q=>
   if j7 l kd q.1=true then (cD (Xq q.1) (d+1) lp).bind λ t=>some (t.1,{x with body:=(q.2.length:Int),fD:=(t.2.length:Int)}::(q.2++t.2))
   else some (q.1,{x with body:=(q.2.length:Int)}::q.2))=some (s',add)) (hk:kd≠11∧kd≠12):s'=dM l s2 ⟨#[59]⟩∧add=[x]:=by
 rw [if_pos hk] at h; cases h; exact ⟨rfl,rfl⟩
end
abbrev B4:ByteArray:=⟨#[123]⟩
abbrev nG:ByteArray:=⟨#[125]⟩
def sF (l:List bF) (one:fN→Option (fN × List cE)):Nat→fN→Option (fN × List cE)
 | 0,_=>none
 | m+1,s=>if (decide (s.e=0) && !sC l s.at_ nG)=true then (one s).bind λ r=>(sF l one m r.1).bind λ q=>some (q.1,r.2++q.2) else some (s,[])
def Tp (l:List bF) (s:fN) (d:Int):fN:=if (decide (12<d) && sC l s.at_ B4)=true then iU l s 7 else s
theorem OG {l:List bF} {s:fN} {d:Int} (h:lM l s):lM l (Tp l s d):=by unfold Tp; split; exact sE h; exact h
def Tq (l:List bF):Nat→adr
 | 0=>λ _ _ _=>none
 | k+1=>λ s d lp=>(sF l (λ s=>Co l (Tq l k) s d lp) 10000 (dM l (Tp l s d) B4)).bind λ r=>some (dM l r.1 nG,r.2)
section
variable {l:List bF} {one:fN→Option (fN × List cE)} {s s':fN} {d lp:Int} {add:List cE} {m:Nat}
theorem Hi (h:sF l one m s=some (s',add)):∃ k,m=k+1:=by
 cases m with
 | zero=>cases h
 | succ k=>exact ⟨k,rfl⟩
theorem E5 (h:sF l one (m+1) s=some (s',add)) (hb:(decide (s.e=0) && !sC l s.at_ nG)=false):s'=s∧add=[]:=by
 unfold sF at h; rw [hb,if_neg (by simp)] at h; cases h; exact ⟨rfl,rfl⟩
theorem Ja (h:sF l one (m+1) s=some (s',add)) (hb:(decide (s.e=0) && !sC l s.at_ nG)=true):∃ s1 a1 a2,one s=some (s1,a1)∧sF l one m s1=some (s',a2)∧add=a1++a2:=by
 unfold sF at h; rw [hb,if_pos rfl] at h
 obtain ⟨s1,a1,h1,h2⟩:=eE h
 obtain ⟨s2,a2,h3,h4⟩:=eE h2
 cases h4
 exact ⟨_,_,_,h1,h3,rfl⟩
theorem Xs {k:Nat} (h:Tq l (k+1) s d lp=some (s',add)):∃ s1,sF l (λ s=>Co l (Tq l k) s d lp) 10000 (dM l (Tp l s d) B4)=some (s1,add)∧s'=dM l s1 nG:=by
 unfold Tq at h
 obtain ⟨s1,a1,h1,h2⟩:=eE h
 cases h2
 exact ⟨_,h1,rfl⟩
end
theorem OH {l:List bF} {cD:adr} {s s':fN} {d lp:Int} {add:List cE} (hb:∀ s d lp s' a,lM l s→cD s d lp=some (s',a)→lM l s') (h0:lM l s) (h:Co l cD s d lp=some (s',add)):lM l s':=by
 by_cases h1:gS l s.at_ 13=13∧lp=0
 ·rw [(Q9 h h1).1]; exact sE h0
 ·obtain ⟨s2,x,h2,h3⟩:=Xr h h1
  have h2i:=Bz (I9 h0) h2
  by_cases h4:gS l s.at_ 13≠11∧gS l s.at_ 13≠12
  ·rw [(Hh h3 h4).1]; exact fx h2i
  ·obtain ⟨s3,m1,h5,h6⟩:=Ra h3 h4
   have h3i:=hb _ _ _ _ _ h2i h5
   rcases h6 with ⟨h7,s5,m2,h8,h9,_⟩ | ⟨_,h9,_⟩
   ·rw [h9]
    refine hb _ _ _ _ _ ?_ h8
    unfold j7 at h7
    rw [Bool.and_eq_true] at h7
    have:=rG h7.2
    exact ⟨by show 0≤s3.at_+1; omega,by show s3.at_+1≤_; omega⟩
   ·rw [h9]; exact h3i
theorem Rb {l:List bF} {one:fN→Option (fN × List cE)} (ho:∀ s s' a,lM l s→one s=some (s',a)→lM l s'):∀ {m:Nat} {s s':fN} {add:List cE},lM l s→sF l one m s=some (s',add)→lM l s'
 | 0,_,_,_,_,h=>by cases h
 | m+1,s,s',add,h0,h=>by
  cases hb:(decide (s.e=0) && !sC l s.at_ nG) with
  | false=>rw [(E5 h hb).1]; exact h0
  | true=>
   obtain ⟨s1,a1,a2,h1,h2,_⟩:=Ja h hb
   exact Rb ho (ho _ _ _ h0 h1) h2
theorem OI {l:List bF}:∀ {k:Nat} {s s':fN} {d lp:Int} {add:List cE},lM l s→Tq l k s d lp=some (s',add)→lM l s'
 | 0,_,_,_,_,_,_,h=>by cases h
 | k+1,s,s',d,lp,add,h0,h=>by
  obtain ⟨s1,h1,h2⟩:=Xs h
  rw [h2]
  exact fx (Rb (λ _ _ _ a b=>OH (λ _ _ _ _ _ c e=>OI c e) a b) (fx (OG h0)) h1)
def pT (p:Nat) (lv:Value) (s:fN) (out:List cE) (Q:World→Prop):HP:=tQ λ ov:Value=>tQ λ ts:List bX=>sep (cD p (dU lv ov s)) (sep (bK ov ts) (eX (λ w=>jO ts out w∧Q w)))
section
variable {w0 w:World} {A:Nat→Prop} {L:List HP} {p:Nat} {lv:Value} {s:fN} {out:List cE} {Q:World→Prop}
theorem pT.open (hs:St w0 A (pT p lv s out Q::L) w):∃ (ov:Value) (ts:List bX),St w0 A (cD p (dU lv ov s)::bK ov ts::eX (λ w=>jO ts out w∧Q w)::L) w:=by
 obtain ⟨ov,h1⟩:=hs.eT
 obtain ⟨ts,h2⟩:=h1.eT
 exact ⟨ov,ts,h2.split.p1.split.p2⟩
theorem pT.shut {ov:Value} {ts:List bX} (hs:St w0 A (cD p (dU lv ov s)::bK ov ts::eX (λ w=>jO ts out w∧Q w)::L) w):St w0 A (pT p lv s out Q::L) w:=
 St.eN (H:=λ ov:Value=>tQ λ ts:List bX=>sep (cD p (dU lv ov s)) (sep (bK ov ts) (eX (λ w=>jO ts out w∧Q w)))) ov (St.eN (H:=λ ts:List bX=>sep (cD p (dU lv ov s)) (sep (bK ov ts) (eX (λ w=>jO ts out w∧Q w)))) ts (St.join (hs.p2.p2.join).p1))
end
def akC (l:List bF) (k:Nat):Prop:=∀ (p:Nat) (lv:Value) (s:fN) (d lp:Int) (out:List cE) (s2:fN) (add:List cE) (Q:World→Prop) (F:Nat→Prop) (w:World),
 (pT p lv s out Q).p w F→(∀ w',iy F w w'→eI (λ _=>True) w' lv l)→lM l s→0≤d∧d+k≤1001→0≤lp∧lp+k≤1001→out.length+add.length≤1000000→Tq l k s d lp=some (s2,add)→
 Calls PG 256 [.pointer (some ⟨p,0,none⟩),.int .i64 d,.int .i64 lp].toArray w (qg λ v w'=>v = .int .i64 (add.length:Int)∧qk F (pT p lv s2 (out++add) Q) w w')
theorem ads {w:World} {sh:bX} {x:cE} (h:cA.dr w sh x):DL w (Flat.val sh.e) x.e:=by obtain ⟨_,_,rfl,h,_⟩:=h; exact h
theorem adt {w:World} {sh:bX} {x:cE} (h:cA.dr w sh x):DL w (Flat.val sh.f) x.f:=by obtain ⟨_,_,rfl,_,h⟩:=h; exact h
theorem OJ {l:List bF} {kd:Int} {s:fN} (h:j7 l kd s=true):lM l (Xq s):=by
 unfold j7 at h
 rw [Bool.and_eq_true] at h
 have:=rG h.2
 exact ⟨by show 0≤s.at_+1; omega,by show s.at_+1≤_; omega⟩
theorem adu {α σ:Type} [Flat σ] [cA α σ] {w:World} {ts:List σ} {xs:List α} {i:Nat} {t:σ} {x:α} (h:jO ts xs w) (ht:cA.dr w t x):jO (ts.set i t) (xs.set i x) w:=by
 refine ⟨by rw [List.length_set,List.length_set,h.1],λ j t' x' h1 h2=>?_⟩
 rw [List.getElem?_set] at h1 h2
 by_cases hj:i=j
 ·rw [if_pos hj] at h1 h2
  split at h1
  ·split at h2
   ·cases h1; cases h2; exact ht
   ·cases h2
  ·cases h1
 ·rw [if_neg hj] at h1 h2; exact h.2 _ _ _ h1 h2
theorem Xt {α:Type} {a b:List α} {x y:α}:(a++x::b).set a.length y=a++y::b:=by
 rw [List.set_append_right _ _ (Nat.le_refl _),Nat.sub_self,List.set_cons_zero]
set_option maxHeartbeats 4000000 in
theorem C233 (p:Nat) (lv:Value) (l:List bF) (s:fN) (k:Nat) (d lp:Int) (out:List cE) (s2:fN) (add:List cE) (Q:World→Prop) (F:Nat→Prop) (w:World) (hF:(pT p lv s out Q).p w F) (hT:∀ w',iy F w w'→eI (λ _=>True) w' lv l) (hk:iu l) (h0:lM l s) (HB:akC l k) (hd:0≤d∧d+k≤1000) (LW:0≤lp∧lp+k≤1000) (Tm:out.length+add.length≤1000000) (hr:Co l (Tq l k) s d lp=some (s2,add)):CR 233 [(.pointer (some ⟨p,0,none⟩)),.int .i64 d,.int .i64 lp] w (λ v w'=>v = .tuple #[]∧qk F (pT p lv s2 (out++add) Q) w w'):=by
 have hs:=St.begin hF;obtain ⟨ov,ts,hs⟩:=pT.open hs;have MZ:ts.length=out.length:=(hs.p2.eX).1.1;have Fm:=hk.n;have hn:l.length≤1000000:=by omega
 have sR:=hk.at_;obtain ⟨Q1,Q2⟩:=id h0;refine aaB _ _ _ _ _ ?_;unfold S233;refine aE (aA gN (have hs:=hs.drew;aB iL hs.hb rfl (aE (aA eS (aB bL hs.hb rfl (aZ Gg hs (C215 _ l s.at_ _ (hT _ hs.aF) hn sR) (λ w1 he hs=>?_)))))));have hs:=hs.p2.p2.p2;refine ⟨λ mm a b w'=>∃ j:Nat,a = .int .i64 (gS l s.at_ j)∧b = .int .i64 ((j:Int)+2)∧mm=13 - j∧j≤13∧St w F [cD p (dU lv ov s),bK ov ts,eX (λ w=>jO ts out w∧Q w)] w',⟨_,0,rfl,rfl,rfl,Nat.zero_le _,hs⟩,?_⟩;rintro mm _ _ w2 ⟨j,rfl,rfl,rfl,hj,hs⟩ fy;refine j4 (aC (λ iM=>?_) (λ iM=>?_))
 ·refine ⟨_,?_,λ _ _ h=>h⟩;refine aE (aA gN (have hs:=hs.drew;aB iL hs.hb rfl (aE (aA eS (aB bL hs.hb rfl (aZ anJ hs (C253 ((j:Int)+2) _ (by omega)) (λ w3 he hs=>?_)))))));refine ⟨aG iL (hs.hb.cell rfl),?_⟩;refine ⟨aG bL (hs.hb.cell rfl),?_⟩;refine aZ vg hs (C211 _ l s.at_ (He ((j:Int)+2)) _ (hT _ hs.aF) hn) (λ w4 he hs=>aX (λ jq=>?_) (λ jq=>?_))
  ·intro jw;refine aO (by omega) ?_;exact ⟨_,by omega,j+1,congrArg (Value.int .i64) (by first | exact (Hf jq).symm | exact (Hg (by rw [jq]; simp)).symm),congrArg (Value.int .i64) (by omega),rfl,by omega,hs⟩
  ·intro jw;refine aO (by omega) ?_;exact ⟨_,by omega,j+1,congrArg (Value.int .i64) (by first | exact (Hf jq).symm | exact (Hg (by rw [jq]; simp)).symm),congrArg (Value.int .i64) (by omega),rfl,by omega,hs⟩
 ·obtain rfl:j=13:=by omega
  have hkb:=Q8 (l:=l) (a:=s.at_) 13;refine ⟨λ jv w'=>jv = .bool (decide ((gS l s.at_ 13)=13∧lp=0))∧w2=w',?_,?_⟩
  ·refine aH (aC (λ m7=>?_) (λ m7=>?_))
   ·refine aH ?_;exact ⟨xu (by omega),rfl⟩
   ·exact ⟨YF (by omega),rfl⟩
  ·rintro _ w6 ⟨rfl,hw⟩ oN;subst hw;refine aC (λ mB=>?_) (λ mB=>?_)
   ·refine bG Gj hs (H':=λ _=>cD p (dU lv ov (iU l s 5))) (Φ:=λ _ _=>True) (λ F2 eO ew=>?_) ?_
    ·exact (C254 p lv ov l s 5 F2 _ eO (λ w' hc=>hT w' (ew w' hc).aF) hk h0).mono λ _ _ r=>r.mono λ _ _ h=>⟨trivial,h.2⟩
    rintro _ w7 _ hs;obtain ⟨e1,e2⟩:=Q9 hr mB;rw [e1,e2,List.append_nil];exact ⟨rfl,(pT.shut hs).mut⟩
   ·refine ⟨λ w'=>St w F [cD p (dU lv ov (Ys l s)),bK ov ts,eX (λ w=>jO ts out w∧Q w)] w',?_,?_⟩
    ·refine cS (aC (λ vZ=>?_) (λ vZ=>?_))
     ·refine aE (aA eS (aB bL hs.hb rfl (aO (by omega) (aE (aA eS (aV hs bL (eF rfl) (rfl) (λ w8 hs=>?_)))))));have hs:=hs.p2.p2.p2;have R9:(Ys l s)={s with at_:=s.at_+1}:=by unfold Ys; rw [if_pos (by omega)]
      rw [R9];exact hs
     ·have hs:=hs.p2.p2.p2;have R9:(Ys l s)=s:=by unfold Ys; rw [if_neg (by omega)]
      rw [R9];exact hs
    ·intro w9 hs GF;obtain ⟨q,x,vf,Gd⟩:=Xr hr mB;refine bG anK hs (H':=λ v=>tQ λ sh:bX=>fact (v=Flat.val sh) (sep (cD p (dU lv ov q)) (eX (λ w=>cA.dr w sh x)))) (Φ:=λ _ _=>True) (λ F2 eO ew=>?_) ?_
     ·exact (C255 p lv ov l (Ys l s) (gS l s.at_ 13) (mL l s.at_) q x F2 _ eO (λ w' hc=>hT w' (ew w' hc).aF) hk (I9 h0) vf).mono λ _ _ r=>r.mono λ _ _ h=>⟨trivial,h⟩
     rintro v_x58 pQ _ Au;obtain ⟨ayK,Av⟩:=Au.eT
     clear Au
     obtain ⟨akD,CK⟩:=Av.oA
     clear Av
     subst akD;have hs:=CK.split
     clear CK
     obtain ⟨gz,gA,akE,hde,hdf⟩:=hs.p1.eX;subst akE;refine aN hs qu (λ DJ sP hs=>have hs:=hs.enc (cs':=Flat.enc (⟨0,(ByteArray.mk #[]),(ByteArray.mk #[]),⟨none,0,0⟩,⟨none,0,0⟩,0,0,0,0⟩:bX)) rfl;aI (x:=(⟨(x).kind,(x).gJ,(x).name,gz,gA,(x).n,(x).body,(x).fD,(x).at_⟩:bX)) hs fW rfl rfl (λ vi hs=>aE (aA pB (aB sN hs.p1.hb rfl (aJ j1 (hs.p3).fK (aE (aA pB (have hs:=hs.drew;aB sN hs.p1.hb rfl (aD fW hs.At (bW ([(⟨(x).kind,(x).gJ,(x).name,gz,gA,(x).n,(x).body,(x).fD,(x).at_⟩:bX)]) hs j1 rfl rfl (eF rfl) (λ afQ vj hs=>?_)))))))))))
     refine ⟨aG sN (hs.p2.hb.cell rfl),?_⟩;have akF:=(hs).fK;refine cN hs.p4 j1 akF (by simp; omega) (by decide) (λ Rc sd hs=>have hs:=hs.p1.drop;aE (aA pB (aV hs.p2 sN (eF rfl) ((hs).fK.one) (λ vW hs=>?_))));refine ⟨λ jv w'=>jv = .bool (decide ((gS l s.at_ 13)≠11∧(gS l s.at_ 13)≠12))∧St w F [cD p (dU lv Rc q),bK Rc (ts++[(⟨(x).kind,(x).gJ,(x).name,gz,gA,(x).n,(x).body,(x).fD,(x).at_⟩:bX)]),eX (λ w=>jO (ts++[(⟨(x).kind,(x).gJ,(x).name,gz,gA,(x).n,(x).body,(x).fD,(x).at_⟩:bX)]) (out++[x]) w∧(λ w=>Q w∧cA.dr w (⟨(x).kind,(x).gJ,(x).name,gz,gA,(x).n,(x).body,(x).fD,(x).at_⟩:bX) x) w),cD DJ (Flat.enc (⟨(x).kind,(x).gJ,(x).name,gz,gA,(x).n,(x).body,(x).fD,(x).at_⟩:bX))] w',?_,?_⟩
     ·refine cS (aC (λ art=>?_) (λ art=>?_))
      ·refine cS ?_;have hs:=hs.p3.p4.fL.dN (Ψ:=λ w=>jO (ts++[(⟨(x).kind,(x).gJ,(x).name,gz,gA,(x).n,(x).body,(x).fD,(x).at_⟩:bX)]) (out++[x]) w∧(λ w=>Q w∧cA.dr w (⟨(x).kind,(x).gJ,(x).name,gz,gA,(x).n,(x).body,(x).fD,(x).at_⟩:bX) x) w) (λ w h=>⟨h.1.1.snoc h.2,h.1.2,h.2⟩);have hs:=hs.p3.p1.p3.p3;exact ⟨vb (by grind),hs⟩
      ·have hs:=hs.p3.p4.fL.dN (Ψ:=λ w=>jO (ts++[(⟨(x).kind,(x).gJ,(x).name,gz,gA,(x).n,(x).body,(x).fD,(x).at_⟩:bX)]) (out++[x]) w∧(λ w=>Q w∧cA.dr w (⟨(x).kind,(x).gJ,(x).name,gz,gA,(x).n,(x).body,(x).fD,(x).at_⟩:bX) x) w) (λ w h=>⟨h.1.1.snoc h.2,h.1.2,h.2⟩);have hs:=hs.p3.p1.p3.p3;exact ⟨vb (by grind),hs⟩
     ·rintro _ yM ⟨rfl,hs⟩ R0;refine aC (λ KN=>?_) (λ KN=>?_)
      ·refine bG xN hs (H':=λ _=>cD p (dU lv Rc (dM l q (ByteArray.mk #[59])))) (Φ:=λ _ _=>True) (λ F2 eO ew=>?_) ?_
       ·exact (C234 p lv Rc l q (ByteArray.mk #[59]) F2 _ eO (λ w' hc=>hT w' (ew w' hc).aF) hk (Bz (I9 h0) vf)).mono λ _ _ r=>r.mono λ _ _ h=>⟨trivial,h.2⟩
       rintro _ Cd _ hs;have hs:=(hs.p3.drop.p1.p1.p2).dN (Ψ:=λ w=>jO (ts++[(⟨(x).kind,(x).gJ,(x).name,gz,gA,(x).n,(x).body,(x).fD,(x).at_⟩:bX)]) (out++[x]) w∧Q w) (λ w h=>⟨h.1,h.2.1⟩);have hs:=hs.p2.p2;obtain ⟨e1,e2⟩:=Hh Gd KN;rw [e1,e2];exact ⟨rfl,(pT.shut hs).mut⟩
      ·refine ⟨λ jv w'=>jv = .int .i64 (if (gS l s.at_ 13)=12 then lp+1 else lp)∧yM=w',?_,?_⟩
       ·refine aH (aC (λ aru=>?_) (λ aru=>?_))
        ·refine aO (by omega) ?_;exact ⟨by rw [if_pos (by omega)],rfl⟩
        ·exact ⟨by rw [if_neg (by omega)],rfl⟩
       ·rintro _ Il ⟨rfl,hw⟩ dd6;subst hw;refine aO (by omega) ?_;have hs:=pT.shut hs.p2.p2.p2;obtain ⟨s3,m1,Ih,Yh⟩:=Ra Gd KN;have hm1:m1.length<add.length:=by rcases Yh with ⟨_,s5,m2,_,_,e⟩ | ⟨_,_,e⟩ <;> rw [e] <;> simp <;> omega
        refine bG aeC hs (H':=λ _=>pT p lv s3 ((out++[x])++m1) (λ w=>Q w∧cA.dr w (⟨(x).kind,(x).gJ,(x).name,gz,gA,(x).n,(x).body,(x).fD,(x).at_⟩:bX) x)) (Φ:=λ v _=>v = .int .i64 (m1.length:Int)) (λ F2 eO ew=>?_) ?_
        ·exact HB p lv q (d+1) (if (gS l s.at_ 13)=12 then lp+1 else lp) (out++[x]) s3 m1 (λ w=>Q w∧cA.dr w (⟨(x).kind,(x).gJ,(x).name,gz,gA,(x).n,(x).body,(x).fD,(x).at_⟩:bX) x) F2 _ eO (λ w' hc=>hT w' (ew w' hc).aF) (Bz (I9 h0) vf) (by omega) (by split <;> omega) (by rw [List.length_append,List.length_singleton]; omega) Ih
        rintro _ Jo rfl hs;obtain ⟨ov3,ts3,hs⟩:=pT.open hs;refine aA mV (aV hs.p3 bL (eF rfl) (rfl) (λ KA hs=>?_));have hs:=hs.enc (cs':=Flat.enc (⟨(x).kind,(x).gJ,(x).name,gz,gA,(x).n,(m1.length:Int),(x).fD,(x).at_⟩:bX)) rfl;refine ⟨λ w'=>∃ (bd el:Int) (rest:List cE),add={x with body:=bd,fD:=el}::rest∧St w F [pT p lv s2 ((out++[x])++rest) (λ w=>Q w∧cA.dr w (⟨(x).kind,(x).gJ,(x).name,gz,gA,(x).n,(x).body,(x).fD,(x).at_⟩:bX) x),cD DJ (Flat.enc (⟨(x).kind,(x).gJ,(x).name,gz,gA,(x).n,bd,el,(x).at_⟩:bX))] w',?_,?_⟩
        ·refine ⟨λ jv w'=>jv = .bool (j7 l (gS l s.at_ 13) s3)∧St w F [cD p (dU lv ov3 s3),bK ov3 ts3,eX (λ w=>jO ts3 ((out++[x])++m1) w∧(λ w=>Q w∧cA.dr w (⟨(x).kind,(x).gJ,(x).name,gz,gA,(x).n,(x).body,(x).fD,(x).at_⟩:bX) x) w),cD DJ (Flat.enc (⟨(x).kind,(x).gJ,(x).name,gz,gA,(x).n,(m1.length:Int),(x).fD,(x).at_⟩:bX))] w',?_,?_⟩
         ·refine aH (aC (λ Hj=>?_) (λ Hj=>?_))
          ·refine aE (aA km (have hs:=hs.drew;aB nj hs.p1.hb rfl (aH (aC (λ A7=>?_) (λ A7=>?_)))))
           ·refine aE (aA gN (aB iL hs.p1.hb rfl (aE (aA eS (aB bL hs.p1.hb rfl (aZ vg hs (C211 _ l s3.at_ (ByteArray.mk #[101,108,115,101]) _ (hT _ hs.aF) hn) (λ Mx he hs=>?_)))))));have hs:=hs.p3.p3.p3;exact ⟨vb (by unfold j7; rw [decide_eq_true Hj,decide_eq_true A7]; rfl),hs⟩
           ·have hs:=hs.p3.p3.p3;exact ⟨vb (by unfold j7; first | (rw [decide_eq_false Hj]; rfl) | (rw [decide_eq_true Hj,decide_eq_false A7]; rfl)),hs⟩
          ·have hs:=hs.drew.p3.p3.p3;exact ⟨vb (by unfold j7; first | (rw [decide_eq_false Hj]; rfl) | (rw [decide_eq_true Hj,decide_eq_false A7]; rfl)),hs⟩
         ·rintro _ Qp ⟨rfl,hs⟩ dd7;refine aX (λ qe=>?_) (λ qe=>?_)
          ·obtain ⟨hhe,s5,m2,hb2,e5,sL⟩ | ⟨hhe,_⟩:=Yh
           rotate_left
           ·rw [hhe] at qe; cases qe
           subst e5;have hin3:=rG (show sC l s3.at_ agb=true by unfold j7 at qe; rw [Bool.and_eq_true] at qe; exact qe.2);refine aE (aA eS (aB bL hs.hb rfl (aO (by omega) (aE (aA eS (aV hs bL (eF rfl) (rfl) (λ Tn hs=>aO (by omega) ?_)))))));have hs:=pT.shut (s:=Xq s3) hs.p2.p2.p2;have hkd11:(gS l s.at_ 13)=11:=by unfold j7 at qe; simp at qe; exact qe.1.1
           rw [if_neg (show ¬ (gS l s.at_ 13)=12 by omega)];refine bG aeC hs (H':=λ _=>pT p lv s2 (((out++[x])++m1)++m2) (λ w=>Q w∧cA.dr w (⟨(x).kind,(x).gJ,(x).name,gz,gA,(x).n,(x).body,(x).fD,(x).at_⟩:bX) x)) (Φ:=λ v _=>v = .int .i64 (m2.length:Int)) (λ F2 eO ew=>?_) ?_
           ·exact HB p lv (Xq s3) (d+1) lp ((out++[x])++m1) s2 m2 (λ w=>Q w∧cA.dr w (⟨(x).kind,(x).gJ,(x).name,gz,gA,(x).n,(x).body,(x).fD,(x).at_⟩:bX) x) F2 _ eO (λ w' hc=>hT w' (ew w' hc).aF) (OJ qe) (by omega) (by omega) (by have:=congrArg List.length sL; simp at this ⊢; omega) hb2
           rintro _ VF rfl hs;rw [List.append_assoc (out++[x])] at hs;refine aA iK (aV hs.p1 bL (eF rfl) (rfl) (λ R7 hs=>?_));have hs:=hs.enc (cs':=Flat.enc (⟨(x).kind,(x).gJ,(x).name,gz,gA,(x).n,(m1.length:Int),(m2.length:Int),(x).at_⟩:bX)) rfl;have hs:=hs.p1;exact ⟨_,_,_,sL,hs⟩
          ·obtain ⟨hhe,_⟩ | ⟨hhe,e5,sL⟩:=Yh
           ·rw [hhe] at qe; cases qe
           subst e5;have hs:=((pT.shut hs.p2.p2.p2).p1).p1;exact ⟨(m1.length:Int),x.fD,m1,sL,hs⟩
        ·rintro w26 ⟨bd,el,rest,sL,hs⟩ dd8;obtain ⟨ov5,ts5,hs⟩:=pT.open hs;refine aE (aA pB (have hs:=hs.drew;aB sN hs.hb rfl (aD fW hs.p3.At ?_)));have h5l:ts5.length=(out++[x]++rest).length:=(hs.p2.eX).1.1;have h6l:=congrArg List.length sL;simp only [List.length_append,List.length_cons,List.length_nil] at h5l h6l;obtain ⟨ayM,atr⟩:=gx (ts5) (i:=(((ts).length:Int)).toNat) (by omega);refine dS hs.p1 j1 (by omega) (by omega) (λ _ akG=>lF _ hs.p1 fW akG (by omega) (λ w27 hs=>?_));have hs:=(hs.p3.drop.p1.p2).dN (Ψ:=λ w=>jO (ts5.set (ts.length:Int).toNat (⟨(x).kind,(x).gJ,(x).name,gz,gA,(x).n,bd,el,(x).at_⟩:bX)) (out++add) w∧Q w) (λ w h=>⟨by
  have hh:=adu (i:=(ts.length:Int).toNat) (t:=(⟨(x).kind,(x).gJ,(x).name,gz,gA,(x).n,bd,el,(x).at_⟩:bX)) (x:={x with body:=bd,fD:=el}) h.1 ⟨gz,gA,rfl,ads (x:=x) h.2.2,adt (x:=x) h.2.2⟩;rw [show (ts.length:Int).toNat=out.length from by omega,List.append_assoc,List.singleton_append,Xt] at hh
  rw [sL,show (ts.length:Int).toNat=out.length from by omega]; exact hh,h.2.1⟩)
         have hs:=hs.p2.p2;exact ⟨rfl,(pT.shut hs).mut⟩
set_option maxHeartbeats 2000000 in
theorem C256 (p:Nat) (lv:Value) (l:List bF) (s:fN) (k:Nat) (d lp:Int) (out:List cE) (s2:fN) (add:List cE) (Q:World→Prop) (F:Nat→Prop) (w:World) (hF:(pT p lv s out Q).p w F) (hT:∀ w',iy F w w'→eI (λ _=>True) w' lv l) (hk:iu l) (h0:lM l s) (HB:akC l k) (hd:0≤d∧d+k≤1000) (LW:0≤lp∧lp+k≤1000) (Tm:out.length+add.length≤1000000) (hr:Tq l (k+1) s d lp=some (s2,add)):CR 256 [(.pointer (some ⟨p,0,none⟩)),.int .i64 d,.int .i64 lp] w (λ v w'=>v = .int .i64 (add.length:Int)∧qk F (pT p lv s2 (out++add) Q) w w'):=by
 have hs:=St.begin hF;obtain ⟨ov,ts,hs⟩:=pT.open hs;have MZ:ts.length=out.length:=(hs.p2.eX).1.1;obtain ⟨s9,Jq,e2⟩:=Xs hr;have Fm:=hk.n;have hn:l.length≤1000000:=by omega
 have sR:=hk.at_;obtain ⟨Q1,Q2⟩:=id h0;refine aaY _ _ _ _ _ ?_;unfold S256;refine aE (aA pB (aB sN hs.hb rfl (aJ j1 (hs.p1).fK ?_)));refine ⟨λ w'=>St w F [cD p (dU lv ov (Tp l s d)),bK ov ts,eX (λ w=>jO ts out w∧Q w)] w',?_,?_⟩
 ·refine ⟨λ jv w'=>jv = .bool (decide (12<d) && sC l s.at_ B4)∧St w F [cD p (dU lv ov s),bK ov ts,eX (λ w=>jO ts out w∧Q w)] w',?_,?_⟩
  ·refine cZ (aC (λ gP=>?_) (λ gP=>?_))
   ·refine aE (aA gN (have hs:=hs.drew;aB iL hs.hb rfl (aE (aA eS (aB bL hs.hb rfl (aZ vg hs (C211 _ l s.at_ (ByteArray.mk #[123]) _ (hT _ hs.aF) hn) (λ w1 he hs=>?_)))))));exact ⟨vb (by first | (rw [decide_eq_true (show 12<d by omega)]; rfl) | (rw [decide_eq_false (show ¬ 12<d by omega)]; rfl)),hs⟩
   ·have hs:=hs.drew;exact ⟨vb (by first | (rw [decide_eq_true (show 12<d by omega)]; rfl) | (rw [decide_eq_false (show ¬ 12<d by omega)]; rfl)),hs⟩
  ·rintro _ w2 ⟨rfl,hs⟩ fy;refine aX (λ fR=>?_) (λ fR=>?_)
   ·refine bG Gj hs (H':=λ _=>cD p (dU lv ov (iU l s 7))) (Φ:=λ _ _=>True) (λ F2 eO ew=>?_) ?_
    ·exact (C254 p lv ov l s 7 F2 _ eO (λ w' hc=>hT w' (ew w' hc).aF) hk h0).mono λ _ _ r=>r.mono λ _ _ h=>⟨trivial,h.2⟩
    rintro _ w3 _ hs;have hs:=hs.p2.p2.p2;have h7:Tp l s d=iU l s 7:=by unfold Tp; rw [if_pos fR]
    rw [h7]; exact hs
   ·have hs:=hs.p2.p2.p2;have h7:Tp l s d=s:=by unfold Tp; rw [if_neg (by rw [fR]; simp)]
    rw [h7]; exact hs
 ·intro w4 hs jw;refine bG xN hs (H':=λ _=>cD p (dU lv ov (dM l (Tp l s d) (ByteArray.mk #[123])))) (Φ:=λ _ _=>True) (λ F2 eO ew=>?_) ?_
  ·exact (C234 p lv ov l (Tp l s d) (ByteArray.mk #[123]) F2 _ eO (λ w' hc=>hT w' (ew w' hc).aF) hk (OG h0)).mono λ _ _ r=>r.mono λ _ _ h=>⟨trivial,h.2⟩
  rintro _ w5 _ hs;have hs:=pT.shut (s:=dM l (Tp l s d) B4) hs.p2.p2.p2;refine ⟨λ mm w'=>∃ (s1:fN) (o1 a2:List cE),lM l s1∧sF l (λ s=>Co l (Tq l k) s d lp) mm s1=some (s9,a2)∧add=o1++a2∧St w F [pT p lv s1 (out++o1) Q] w',⟨10000,_,[],add,fx (OG h0),Jq,rfl,by rw [List.append_nil]; exact hs⟩,?_⟩;rintro mm w6 ⟨s1,o1,a2,L4,Ih,sL,hs⟩ oN;obtain ⟨m,rfl⟩:=Hi Ih;obtain ⟨ov1,Yj,hs⟩:=pT.open hs;have adw:Yj.length=(out++o1).length:=(hs.p2.eX).1.1;rw [List.length_append] at adw;refine ⟨λ jv w'=>jv = .bool (decide (s1.e=0) && !sC l s1.at_ nG)∧St w F [cD p (dU lv ov1 s1),bK ov1 Yj,eX (λ w=>jO Yj (out++o1) w∧Q w)] w',?_,?_⟩
  ·refine aE (aA km (have hs:=hs.drew;aB nj hs.hb rfl (aH (aC (λ iC=>?_) (λ iC=>?_)))))
   ·refine aE (aA gN (aB iL hs.hb rfl (aE (aA eS (aB bL hs.hb rfl (aZ vg hs (C211 _ l s1.at_ (ByteArray.mk #[125]) _ (hT _ hs.aF) hn) (λ w7 he hs=>bY ?_)))))));have hs:=hs.p2.p2.p2;exact ⟨vb (by first | (rw [decide_eq_true iC]; rfl) | (rw [decide_eq_false iC]; rfl)),hs⟩
   ·have hs:=hs.p2.p2.p2;exact ⟨vb (by first | (rw [decide_eq_true iC]; rfl) | (rw [decide_eq_false iC]; rfl)),hs⟩
  ·rintro _ w8 ⟨rfl,hs⟩ GF;refine aX (λ vZ=>?_) (λ vZ=>?_)
   ·obtain ⟨s3,a1,a3,ho,hb3,rfl⟩:=Ja Ih vZ;have hs:=pT.shut hs.p2.p2.p2;refine bG aeB hs (H':=λ _=>pT p lv s3 ((out++o1)++a1) Q) (Φ:=λ _ _=>True) (λ F2 eO ew=>?_) ?_
    ·exact (C233 p lv l s1 k d lp (out++o1) s3 a1 Q F2 _ eO (λ w' hc=>hT w' (ew w' hc).aF) hk L4 HB (by omega) (by omega) (by have:=congrArg List.length sL; simp at this ⊢; omega) ho).mono λ _ _ r=>r.mono λ _ _ h=>⟨trivial,h.2⟩
    rintro _ w9 _ hs;exact ⟨_,by omega,s3,o1++a1,a3,OH (λ _ _ _ _ _ c e=>OI c e) L4 ho,hb3,by rw [sL,List.append_assoc],by rw [← List.append_assoc]; exact hs⟩
   ·obtain ⟨e9,rfl⟩:=E5 Ih vZ;replace e9:=e9.symm;subst e9;rw [List.append_nil] at sL;subst sL;refine bG xN hs (H':=λ _=>cD p (dU lv ov1 (dM l s1 (ByteArray.mk #[125])))) (Φ:=λ _ _=>True) (λ F2 eO ew=>?_) ?_
    ·exact (C234 p lv ov1 l s1 (ByteArray.mk #[125]) F2 _ eO (λ w' hc=>hT w' (ew w' hc).aF) hk L4).mono λ _ _ r=>r.mono λ _ _ h=>⟨trivial,h.2⟩
    rintro _ pQ _ hs;refine aE (aA pB (aB sN hs.hb rfl (aJ j1 (hs.p1).fK (gy (by omega) ?_))));rw [e2];exact ⟨congrArg (Value.int .i64) (by omega),(pT.shut hs).mut⟩
theorem arw {l:List bF} (hk:iu l):∀ k,akC l k
 | 0=>λ p lv s d lp out s2 add Q F w _ _ _ _ _ _ h=>by cases h
 | k+1=>λ p lv s d lp out s2 add Q F w hF hT h0 hd LW Tm h=>C256 p lv l s k d lp out s2 add Q F w hF hT hk h0 (arw hk k) (by omega) (by omega) Tm h
def tm (i:Int):fN:=⟨i,0,0⟩
def E6 (l:List bF) (i op:Int):Option (List cE × Int × Int × Int):=
 (sF l (λ s=>Co l (Tq l 20) s 0 0) 10000 (tm i)).bind λ r=>
  if 1000000<r.2.length then none else if (dM l r.1 nG).e≠0 then some ([],0,(dM l r.1 nG).e,(dM l r.1 nG).pos)
  else if 40<r.2.length then some ([],0,2,(oG l op).at_)
  else some (r.2,(dM l r.1 nG).at_,0,0)
def Jb (l:List bF) (s:fN):Bool:=match kz l s.at_ with | some t=>decide (t.kind=2) | none=>false
def fg (l:List bF) (nb:Bool) (s:fN):fN × dF:=
 if (nb && (gL l (eU l s).1 Js).2)=true then
  (if Jb l (gL l (eU l s).1 Js).1=true then (Xq (gL l (eU l s).1 Js).1,{ (eU l s).2 with n:=(oG l (gL l (eU l s).1 Js).1.at_).n})
  else (iU l (gL l (eU l s).1 Js).1 5,(eU l s).2))
 else eU l s
abbrev BA:ByteArray:=⟨#[44]⟩
abbrev Rd:ByteArray:=⟨#[59]⟩
def o7 (l:List bF) (nb:Bool):Nat→Bool→fN→Option (fN × List dF)
 | 0,_,_=>none
 | m+1,more,s=>if (more && decide (s.e=0))=true then (o7 l nb m (gL l (fg l nb s).1 BA).2 (gL l (fg l nb s).1 BA).1).bind λ r=>some (r.1,(fg l nb s).2::r.2) else some (s,[])
def mM (l:List bF) (nb:Bool) (s:fN):Option (fN × List dF):=(o7 l nb 10000 true s).bind λ r=>if 1000000<r.2.length then none else some (dM l r.1 Rd,r.2)
abbrev SK:ByteArray:=⟨#[114,101,103]⟩
def AB (l:List bF) (s:fN):Option (fN × List ByteArray):=
 if (gL l s SK).2=true then (mM l false (gL l s SK).1).bind λ r=>some (r.1,r.2.map dF.name) else some (s,[])
def sG (l:List bF) (s:fN) (nm:ByteArray) (a:Int):Option (fN × dQ):=
 (AB l (dM l s B4)).bind λ r=>
  if r.1.e≠0 then some (r.1,⟨nm,r.2,[],a⟩)
  else (E6 l r.1.at_ s.at_).bind λ R=>if 0≤R.2.1∧R.2.1≤l.length then some (⟨R.2.1,R.2.2.1,R.2.2.2⟩,⟨nm,r.2,R.1,a⟩) else none
def wH (l:List bF) (s:fN) (a:Int):Option (fN × ju):=
 (vt l s.at_).bind λ R=>if R.2.2.1≠0 then some ({s with e:=R.2.2.1,pos:=R.2.2.2},⟨[],0⟩)
  else if 0≤R.2.1∧R.2.1≤l.length then some (dM l {s with at_:=R.2.1} Rd,⟨R.1,a⟩) else none
def mE {α:Type} (l:List bF) (t:ByteArray) (rd:fN→Option (fN × α)):Nat→fN→Option (fN × List α)
 | 0,_=>none
 | m+1,s=>if (gL l s t).2=true then (rd (gL l s t).1).bind λ r=>(mE l t rd m r.1).bind λ q=>some (q.1,r.2::q.2) else some (s,[])
def yK (l:List bF) (s:fN):Int:=(oG l (s.at_ - 1)).at_
def OK (l:List bF) (s:fN):Option (fN × List dQ):=
 if (gL l s ⟨#[114,101,99,111,118,101,114]⟩).2=true then (sG l (gL l s ⟨#[114,101,99,111,118,101,114]⟩).1 ⟨#[]⟩ (yK l (gL l s ⟨#[114,101,99,111,118,101,114]⟩).1)).bind λ r=>some (r.1,[r.2]) else some (s,[])
abbrev Xu:ByteArray:=⟨#[108,105,110,101]⟩
abbrev akH:ByteArray:=⟨#[118,111,108]⟩
abbrev Xv:ByteArray:=⟨#[108,111,99,107]⟩
abbrev Jc:ByteArray:=⟨#[116,104,114,101,97,100]⟩
abbrev Jd:ByteArray:=⟨#[97,108,119,97,121,115]⟩
def akI (l:List bF) (s:fN):Option (fN × dQ):=sG l (eU l s).1 (eU l s).2.name (eU l s).2.at_
def FU (l:List bF) (s:fN):fN:=if s.at_<l.length then iU l s 5 else s
def L5:cX:=⟨[],[],[],[],[],[]⟩
def rI (t:ByteArray):Option (cX × Int × Int):=
 (uu t).bind λ L=>if L.2.1≠0 then some (L5,L.2.1,L.2.2) else
 (mE L.1 Xu (mM L.1 true) 10000 (tm 0)).bind λ r1=>
 (mE L.1 akH (mM L.1 true) 10000 r1.1).bind λ r2=>
 (mE L.1 Xv (mM L.1 false) 10000 r2.1).bind λ r3=>
 (mE L.1 Jc (akI L.1) 10000 r3.1).bind λ r4=>
 (OK L.1 r4.1).bind λ r5=>
 (mE L.1 Jd (λ s=>wH L.1 s (yK L.1 s)) 10000 r5.1).bind λ r6=>
  if 1000000<r1.2.length∨1000000<r2.2.flatten.length∨1000000<r3.2.flatten.length∨1000000<r4.2.length∨1000000<r6.2.length then none else if (FU L.1 r6.1).e≠0 then some (L5,(FU L.1 r6.1).e,(FU L.1 r6.1).pos) else some (⟨r1.2,r2.2.flatten,r3.2.flatten,r4.2,r5.2,r6.2⟩,0,0)
section
variable {l:List bF} {s s':fN}
theorem Xw {t:ByteArray} (h:(gL l s t).2=true):gL l s t=({s with at_:=s.at_+1},true)∧s.e=0∧0≤s.at_∧s.at_<l.length:=by
 unfold gL at h ⊢
 split at h
 ·rename_i h2
  rw [if_pos h2]
  rw [Bool.and_eq_true,decide_eq_true_eq] at h2
  exact ⟨rfl,h2.1,rG h2.2⟩
 ·cases h
theorem wI {t:ByteArray} (h:(gL l s t).2=false):gL l s t=(s,false):=by
 unfold gL at h ⊢
 split at h
 ·cases h
 ·rename_i h2; rw [if_neg h2]
theorem E7 {nb:Bool} (h:lM l s):lM l (fg l nb s).1:=by
 have h1:=uw h
 have h2:=jU (t:=Js) h1
 unfold fg
 split
 ·split
  ·rename_i h3
   unfold Jb at h3
   cases ht:kz l (gL l (eU l s).1 Js).1.at_ with
   | none=>rw [ht] at h3; cases h3
   | some t=>
    have:=mg ht
    exact ⟨by show 0≤(gL l (eU l s).1 Js).1.at_+1; omega,by show (gL l (eU l s).1 Js).1.at_+1≤_; omega⟩
  ·exact sE h2
 ·exact h1
theorem Hk {nb:Bool}:∀ {m:Nat} {more:Bool} {s s':fN} {x:List dF},lM l s→o7 l nb m more s=some (s',x)→lM l s'
 | 0,_,_,_,_,_,h=>by cases h
 | m+1,more,s,s',x,h0,h=>by
  unfold o7 at h
  split at h
  ·obtain ⟨q,y,h1,h2⟩:=eE h
   cases h2
   exact Hk (jU (E7 h0)) h1
  ·cases h; exact h0
theorem xn {nb:Bool} {x:List dF} (h:mM l nb s=some (s',x)):∃ s1,o7 l nb 10000 true s=some (s1,x)∧s'=dM l s1 Rd∧x.length≤1000000:=by
 unfold mM at h
 obtain ⟨q,y,h1,h2⟩:=eE h
 dsimp only at h2
 split at h2
 ·cases h2
 ·cases h2; exact ⟨_,h1,rfl,by omega⟩
theorem xo {nb:Bool} {x:List dF} (h0:lM l s) (h:mM l nb s=some (s',x)):lM l s':=by
 obtain ⟨s1,h1,h2,_⟩:=xn h
 rw [h2]; exact fx (Hk h0 h1)
theorem L6 {nb more:Bool} {m:Nat} {x:List dF} (h:o7 l nb m more s=some (s',x)):∃ k,m=k+1:=by
 cases m with
 | zero=>cases h
 | succ k=>exact ⟨k,rfl⟩
theorem E8 {nb more:Bool} {m:Nat} {x:List dF} (h:o7 l nb (m+1) more s=some (s',x)) (hb:(more && decide (s.e=0))=false):s'=s∧x=[]:=by
 unfold o7 at h; rw [hb,if_neg (by simp)] at h; cases h; exact ⟨rfl,rfl⟩
theorem SL {nb more:Bool} {m:Nat} {x:List dF} (h:o7 l nb (m+1) more s=some (s',x)) (hb:(more && decide (s.e=0))=true):∃ y,o7 l nb m (gL l (fg l nb s).1 BA).2 (gL l (fg l nb s).1 BA).1=some (s',y)∧x=(fg l nb s).2::y:=by
 unfold o7 at h; rw [hb,if_pos rfl] at h
 obtain ⟨q,y,h1,h2⟩:=eE h
 cases h2
 exact ⟨_,h1,rfl⟩
theorem L7 {x:List ByteArray} (h0:lM l s) (h:AB l s=some (s',x)):lM l s':=by
 unfold AB at h
 split at h
 ·obtain ⟨q,y,h1,h2⟩:=eE h
  cases h2
  exact xo (jU h0) h1
 ·cases h; exact h0
theorem E9 {nm:ByteArray} {a:Int} {x:dQ} (h0:lM l s) (h:sG l s nm a=some (s',x)):lM l s':=by
 unfold sG at h
 obtain ⟨q,y,h1,h2⟩:=eE h
 have h3:=L7 (fx h0) h1
 dsimp only at h2
 split at h2
 ·cases h2; exact h3
 ·cases hr:E6 l q.at_ s.at_ with
  | none=>rw [hr] at h2; cases h2
  | some R=>
   rw [hr] at h2
   simp only [Option.bind_some] at h2
   split at h2
   ·rename_i h4; cases h2; exact h4
   ·cases h2
theorem SM {a:Int} {x:ju} (h0:lM l s) (h:wH l s a=some (s',x)):lM l s':=by
 unfold wH at h
 cases hr:vt l s.at_ with
 | none=>rw [hr] at h; cases h
 | some R=>
  rw [hr] at h
  simp only [Option.bind_some] at h
  split at h
  ·cases h; exact h0
  ·split at h
   ·rename_i h4; cases h; exact fx h4
   ·cases h
theorem rJ {α:Type} {t:ByteArray} {rd:fN→Option (fN × α)} {m:Nat} {x:List α} (h:mE l t rd m s=some (s',x)):∃ k,m=k+1:=by
 cases m with
 | zero=>cases h
 | succ k=>exact ⟨k,rfl⟩
theorem ux {α:Type} {t:ByteArray} {rd:fN→Option (fN × α)} {m:Nat} {x:List α} (h:mE l t rd (m+1) s=some (s',x)) (hb:(gL l s t).2=false):s'=s∧x=[]:=by
 unfold mE at h; rw [hb,if_neg (by simp)] at h; cases h; exact ⟨rfl,rfl⟩
theorem wJ {α:Type} {t:ByteArray} {rd:fN→Option (fN × α)} {m:Nat} {x:List α} (h:mE l t rd (m+1) s=some (s',x)) (hb:(gL l s t).2=true):∃ s1 y z,rd (gL l s t).1=some (s1,y)∧mE l t rd m s1=some (s',z)∧x=y::z:=by
 unfold mE at h; rw [hb,if_pos rfl] at h
 obtain ⟨q,y,h1,h2⟩:=eE h
 obtain ⟨q2,y2,h3,h4⟩:=eE h2
 cases h4
 exact ⟨_,_,_,h1,h3,rfl⟩
end
def noQ:World→Prop:=λ _=>True
theorem AD {l:List bF} {i:Int} {t:bF} (h0:0≤i) (h:l[i.toNat]? = some t):oG l i=t:=by
 unfold oG kz; rw [if_pos h0,h]; rfl
theorem adx {l:List bF} {i op:Int} {R:List cE × Int × Int × Int} (h:E6 l i op=some R):∃ s9 add,sF l (λ s=>Co l (Tq l 20) s 0 0) 10000 (tm i)=some (s9,add)∧add.length≤1000000∧
  ((dM l s9 nG).e≠0→R=([],0,(dM l s9 nG).e,(dM l s9 nG).pos))∧(¬ (dM l s9 nG).e≠0→40<(add.length:Int)→R=([],0,2,(oG l op).at_))∧
  (¬ (dM l s9 nG).e≠0→¬ 40<(add.length:Int)→R=(add,(dM l s9 nG).at_,0,0)):=by
 unfold E6 at h
 obtain ⟨q,y,h1,h2⟩:=eE h
 dsimp only at h2
 split at h2
 ·cases h2
 ·rename_i hl
  refine ⟨q,y,h1,by omega,λ he=>?_,λ he hb=>?_,λ he hb=>?_⟩
  ·rw [if_pos he] at h2; exact (Option.some.inj h2).symm
  ·rw [if_neg he,if_pos (by omega)] at h2; exact (Option.some.inj h2).symm
  ·rw [if_neg he,if_neg (by omega)] at h2; exact (Option.some.inj h2).symm
section
variable {l:List bF} {s s':fN} {nb:Bool}
theorem SN (hn:nb=true) (h2:(gL l (eU l s).1 Js).2=true) (h3:Jb l (gL l (eU l s).1 Js).1=true) :
  fg l nb s=(Xq (gL l (eU l s).1 Js).1,{ (eU l s).2 with n:=(oG l (gL l (eU l s).1 Js).1.at_).n}):=by
 unfold fg; rw [hn,h2,if_pos (show (true && true)=true from rfl),if_pos h3]
theorem SO (hn:nb=true) (h2:(gL l (eU l s).1 Js).2=true) (h3:Jb l (gL l (eU l s).1 Js).1=false) :
  fg l nb s=(iU l (gL l (eU l s).1 Js).1 5,(eU l s).2):=by
 unfold fg; rw [hn,h2,if_pos (show (true && true)=true from rfl),if_neg (by rw [h3]; simp)]
theorem Xx (h2:(gL l (eU l s).1 Js).2=false):fg l nb s=((gL l (eU l s).1 Js).1,(eU l s).2):=by
 unfold fg; rw [if_neg (by rw [h2]; simp),wI h2]
theorem Xy (hn:nb=false):fg l nb s=((eU l s).1,(eU l s).2):=by
 unfold fg; rw [if_neg (by rw [hn]; simp)]
theorem ady {q:fN} (h:Jb l q=true):∃ tk,kz l q.at_=some tk∧l[q.at_.toNat]? = some tk∧0≤q.at_∧q.at_<l.length:=by
 unfold Jb at h
 cases ht:kz l q.at_ with
 | none=>rw [ht] at h; cases h
 | some tk=>have:=mg ht; exact ⟨tk,rfl,this.2.2,this.1,this.2.1⟩
theorem Hl {x:List ByteArray} (h:AB l s=some (s',x)) (h1:(gL l s SK).2=true):∃ ys,mM l false (gL l s SK).1=some (s',ys)∧x=ys.map dF.name:=by
 unfold AB at h; rw [if_pos h1] at h
 obtain ⟨q,y,h2,h3⟩:=eE h
 cases h3
 exact ⟨y,h2,rfl⟩
theorem L8 {x:List ByteArray} (h:AB l s=some (s',x)) (h1:(gL l s SK).2=false):s'=s∧x=[]:=by
 unfold AB at h; rw [if_neg (by rw [h1]; simp)] at h
 cases h; exact ⟨rfl,rfl⟩
theorem OL {nm:ByteArray} {a:Int} {x:dQ} (h:sG l s nm a=some (s',x)):∃ q rs,AB l (dM l s B4)=some (q,rs)∧
  (q.e≠0→s'=q∧x=⟨nm,rs,[],a⟩)∧(¬ q.e≠0→∃ R,E6 l q.at_ s.at_=some R∧0≤R.2.1∧R.2.1≤l.length∧s'=⟨R.2.1,R.2.2.1,R.2.2.2⟩∧x=⟨nm,rs,R.1,a⟩):=by
 unfold sG at h
 obtain ⟨q,rs,h1,h2⟩:=eE h
 refine ⟨q,rs,h1,λ he=>?_,λ he=>?_⟩
 ·dsimp only at h2; rw [if_pos he] at h2; cases h2; exact ⟨rfl,rfl⟩
 ·dsimp only at h2; rw [if_neg he] at h2
  cases hr:E6 l q.at_ s.at_ with
  | none=>rw [hr] at h2; cases h2
  | some R=>
   rw [hr] at h2
   simp only [Option.bind_some] at h2
   split at h2
   ·rename_i h4; cases h2; exact ⟨R,rfl,h4.1,h4.2,rfl,rfl⟩
   ·cases h2
theorem SP {a:Int} {x:ju} (h:wH l s a=some (s',x)):∃ R,vt l s.at_=some R∧
  (R.2.2.1≠0→s'={s with e:=R.2.2.1,pos:=R.2.2.2}∧x=⟨[],0⟩)∧(¬ R.2.2.1≠0→(0≤R.2.1∧R.2.1≤l.length)∧s'=dM l {s with at_:=R.2.1} Rd∧x=⟨R.1,a⟩):=by
 unfold wH at h
 cases hr:vt l s.at_ with
 | none=>rw [hr] at h; cases h
 | some R=>
  rw [hr] at h
  simp only [Option.bind_some] at h
  refine ⟨R,rfl,λ he=>?_,λ he=>?_⟩
  ·rw [if_pos he] at h; cases h; exact ⟨rfl,rfl⟩
  ·rw [if_neg he] at h
   split at h
   ·rename_i h4; cases h; exact ⟨h4,rfl,rfl⟩
   ·cases h
theorem akJ {e:Int} (he:e≠0) (h:(iU l s e).e=0):False:=by
 unfold iU at h
 split at h
 ·dsimp only at h; split at h <;> omega
 ·rename_i h1; exact h1 h
theorem adz {t:ByteArray} (h:(dM l s t).e=0):sC l s.at_ t=true:=by
 unfold dM at h
 split at h
 ·rename_i h1; rw [Bool.and_eq_true] at h1; exact h1.2
 ·exact (akJ (by decide) h).elim
theorem ary {t:ByteArray}:(gL l s t).1.e=s.e:=by unfold gL; split <;> rfl
theorem SQ {e:Int} (h:s.e≠0):(iU l s e).e≠0:=by unfold iU; rw [if_neg h]; exact h
theorem OM {t:ByteArray} (h:s.e≠0):(dM l s t).e≠0:=by
 unfold dM; rw [if_neg (by rw [Bool.and_eq_true,decide_eq_true_eq]; exact λ hh=>h hh.1)]; exact SQ h
theorem L9:∀ {m:Nat} {more:Bool} {s s':fN} {x:List dF},s.e≠0→o7 l nb m more s=some (s',x)→s'.e≠0
 | 0,_,_,_,_,_,h=>by cases h
 | m+1,more,s,s',x,h0,h=>by
  have:=E8 h (by rw [decide_eq_false h0,Bool.and_false])
  rw [this.1]; exact h0
theorem Ma {x:List dF} (h0:s.e≠0) (h:mM l nb s=some (s',x)):s'.e≠0:=by
 obtain ⟨s1,h1,h2,_⟩:=xn h
 rw [h2]; exact OM (L9 h0 h1)
theorem ON {x:List ByteArray} (h0:s.e≠0) (h:AB l s=some (s',x)):s'.e≠0:=by
 cases h1:(gL l s SK).2 with
 | true=>obtain ⟨ys,h2,_⟩:=Hl h h1; exact Ma (by rw [ary]; exact h0) h2
 | false=>rw [(L8 h h1).1]; exact h0
end
theorem FV {α β:Type} {f:α→β} {l:List α} {k:Nat} {e:α} (h:l[k]? = some e):(l.take k).map f++[f e]=(l.take (k+1)).map f:=by
 rw [← gX h,List.map_append]; rfl
theorem Mb {l:List bF} {s s':fN} {x:List dQ} (h:OK l s=some (s',x)) (h1:(gL l s ⟨#[114,101,99,111,118,101,114]⟩).2=true):∃ y,sG l (gL l s ⟨#[114,101,99,111,118,101,114]⟩).1 ⟨#[]⟩ (yK l (gL l s ⟨#[114,101,99,111,118,101,114]⟩).1)=some (s',y)∧x=[y]:=by
 unfold OK at h; rw [if_pos h1] at h
 obtain ⟨q,y,h2,h3⟩:=eE h
 cases h3
 exact ⟨y,h2,rfl⟩
theorem Re {l:List bF} {s s':fN} {x:List dQ} (h:OK l s=some (s',x)) (h1:(gL l s ⟨#[114,101,99,111,118,101,114]⟩).2=false):s'=s∧x=[]:=by
 unfold OK at h; rw [if_neg (by rw [h1]; simp)] at h
 cases h; exact ⟨rfl,rfl⟩
theorem SR {t:ByteArray} {l:List bF} {e a:Int} {R:cX × Int × Int} (h:rI t=some R) (hs:uu t=some (l,e,a)) (he:e≠0):R=(L5,e,a):=by
 unfold rI at h; rw [hs] at h
 simp only [Option.bind_some] at h
 rw [if_pos he] at h; exact (Option.some.inj h).symm
theorem OO {t:ByteArray} {R:cX × Int × Int} (h:rI t=some R):∃ l e a,uu t=some (l,e,a):=by
 unfold rI at h
 cases hs:uu t with
 | none=>rw [hs] at h; cases h
 | some L=>exact ⟨L.1,L.2.1,L.2.2,rfl⟩
structure akK (l:List bF) (R:cX × Int × Int) (t1 t2 t3 t4 t5 t6:fN) (y1:List (List dF)) (y2 y3:List (List dF)) (y4 y5:List dQ) (y6:List ju):Prop where
 h1:mE l Xu (mM l true) 10000 (tm 0)=some (t1,y1)
 h2:mE l akH (mM l true) 10000 t1=some (t2,y2)
 h3:mE l Xv (mM l false) 10000 t2=some (t3,y3)
 h4:mE l Jc (akI l) 10000 t3=some (t4,y4)
 h5:OK l t4=some (t5,y5)
 h6:mE l Jd (λ s=>wH l s (yK l s)) 10000 t5=some (t6,y6)
 b1:y1.length≤1000000
 b2:y2.flatten.length≤1000000
 b3:y3.flatten.length≤1000000
 b4:y4.length≤1000000
 b6:y6.length≤1000000
 bad:(FU l t6).e≠0→R=(L5,(FU l t6).e,(FU l t6).pos)
 ayN:¬ (FU l t6).e≠0→R=(⟨y1,y2.flatten,y3.flatten,y4,y5,y6⟩,0,0)
theorem Xz {t:ByteArray} {l:List bF} {e a:Int} {R:cX × Int × Int} (h:rI t=some R) (hs:uu t=some (l,e,a)) (he:¬ e≠0):∃ t1 t2 t3 t4 t5 t6 y1 y2 y3 y4 y5 y6,akK l R t1 t2 t3 t4 t5 t6 y1 y2 y3 y4 y5 y6:=by
 unfold rI at h; rw [hs] at h
 simp only [Option.bind_some] at h
 rw [if_neg he] at h
 obtain ⟨t1,y1,h1,h⟩:=eE h
 obtain ⟨t2,y2,h2,h⟩:=eE h
 obtain ⟨t3,y3,h3,h⟩:=eE h
 obtain ⟨t4,y4,h4,h⟩:=eE h
 obtain ⟨t5,y5,h5,h⟩:=eE h
 obtain ⟨t6,y6,h6,h⟩:=eE h
 dsimp only at h
 split at h
 ·cases h
 ·rename_i hb
  simp only [not_or,Nat.not_lt] at hb
  refine ⟨t1,t2,t3,t4,t5,t6,y1,y2,y3,y4,y5,y6,h1,h2,h3,h4,h5,h6,hb.1,hb.2.1,hb.2.2.1,hb.2.2.2.1,hb.2.2.2.2,λ hh=>?_,λ hh=>?_⟩
  ·rw [if_pos hh] at h; exact (Option.some.inj h).symm
  ·rw [if_neg hh] at h; exact (Option.some.inj h).symm
theorem adA {l:List bF} {s s':fN} {x:List dQ} (h0:lM l s) (h:OK l s=some (s',x)):lM l s':=by
 cases h1:(gL l s ⟨#[114,101,99,111,118,101,114]⟩).2 with
 | true=>obtain ⟨y,h2,_⟩:=Mb h h1; exact E9 (jU h0) h2
 | false=>rw [(Re h h1).1]; exact h0
theorem AE {α:Type} {a:List (List α)} {b:List α}:(a++[b]).flatten=a.flatten++b:=by simp
theorem Rf {α:Type} {y a c:List (List α)} {b:List α} (h:y=a++b::c):a.flatten.length+b.length≤y.flatten.length:=by rw [h]; simp
theorem C213 (l:List bF) (lv:Value) (i op:Int) (R:List cE × Int × Int × Int) (w:World) (hL:eI (λ _=>True) w lv l) (hk:iu l) (h0:0≤i∧i≤l.length) (jM:0≤op∧op<l.length) (hr:E6 l i op=some R):CR 213 [lv,.int .i64 i,.int .i64 op] w (λ v w'=>∃ sv:SV,v = .tuple #[Flat.val sv,.int .i64 R.2.1,.int .i64 R.2.2.1,.int .i64 R.2.2.2]∧lW (eX (λ w=>DL w (Flat.val sv) R.1)) w w'):=by
 have Fm:=hk.n;have hn:l.length≤1000000:=by omega
 have sR:=hk.at_;obtain ⟨s9,add,Jq,Tm,hR⟩:=adx hr;obtain ⟨lsv,hlv⟩:=hL.fQ;have hs:=St.start w;refine aai _ _ _ _ _ ?_;unfold S213;rw [hlv];refine pop (Nb _ _ _ _) (lR hs (λ arA w1 hs=>?_));obtain ⟨p,rfl⟩:∃ p,p=arA:=⟨_,rfl⟩;have hs:=hs.enc (cs':=dU (Flat.val lsv) (.slice none 0 0) (tm i)) rfl;rw [← hlv] at hs ⊢;have hT:∀ w',iy bD w w'→eI (λ _=>True) w' lv l:=λ w' hc=>hL.ext hc;have hs:=((hs.gE (Φ:=λ w=>jO ([]:List bX) ([]:List cE) w∧noQ w) λ w=>⟨jO.nil,trivial⟩).fX (α:=bX)).p2;have hs:=pT.shut hs;refine ⟨λ mm w'=>∃ (s1:fN) (o1 a2:List cE),lM l s1∧sF l (λ s=>Co l (Tq l 20) s 0 0) mm s1=some (s9,a2)∧add=o1++a2∧St w bD [pT p lv s1 (([]:List cE)++o1) noQ] w',⟨10000,tm i,[],add,(show lM l (tm i) from h0),Jq,rfl,by rw [List.append_nil]; exact hs⟩,?_⟩
 rintro mm w2 ⟨s1,o1,a2,L4,Ih,sL,hs⟩ fy;obtain ⟨m,rfl⟩:=Hi Ih;obtain ⟨ov1,Yj,hs⟩:=pT.open hs;have adw:Yj.length=(([]:List cE)++o1).length:=(hs.p2.eX).1.1;rw [List.length_append] at adw;refine ⟨λ jv w'=>jv = .bool (decide (s1.e=0) && !sC l s1.at_ nG)∧St w bD [cD p (dU lv ov1 s1),bK ov1 Yj,eX (λ w=>jO Yj (([]:List cE)++o1) w∧noQ w)] w',?_,?_⟩
 ·refine aE (aA km (have hs:=hs.drew;aB nj hs.hb rfl (aH (aC (λ fu=>?_) (λ fu=>?_)))))
  ·refine aE (aA gN (aB iL hs.hb rfl (aE (aA eS (aB bL hs.hb rfl (aZ vg hs (C211 _ l s1.at_ (ByteArray.mk #[125]) _ (hT _ hs.aF) hn) (λ w3 he hs=>bY ?_)))))));have hs:=hs.p2.p2.p2;exact ⟨vb (by first | (rw [decide_eq_true fu]; rfl) | (rw [decide_eq_false fu]; rfl)),hs⟩
  ·have hs:=hs.p2.p2.p2;exact ⟨vb (by first | (rw [decide_eq_true fu]; rfl) | (rw [decide_eq_false fu]; rfl)),hs⟩
 ·rintro _ w4 ⟨rfl,hs⟩ jw;refine aX (λ lK=>?_) (λ lK=>?_)
  ·obtain ⟨s3,a1,a3,ho,hb3,rfl⟩:=Ja Ih lK;have hs:=pT.shut hs.p2.p2.p2;refine bG aeB hs (H':=λ _=>pT p lv s3 ((([]:List cE)++o1)++a1) noQ) (Φ:=λ _ _=>True) (λ F2 eO ew=>?_) ?_
   ·exact (C233 p lv l s1 20 0 0 (([]:List cE)++o1) s3 a1 noQ F2 _ eO (λ w' hc=>hT w' (ew w' hc).aF) hk L4 (arw hk 20) (by omega) (by omega) (by have:=congrArg List.length sL; simp at this ⊢; omega) ho).mono λ _ _ r=>r.mono λ _ _ h=>⟨trivial,h.2⟩
   rintro _ w5 _ hs;exact ⟨_,by omega,s3,o1++a1,a3,OH (λ _ _ _ _ _ c e=>OI c e) L4 ho,hb3,by rw [sL,List.append_assoc],by rw [← List.append_assoc]; exact hs⟩
  ·obtain ⟨e9,rfl⟩:=E5 Ih lK;replace e9:=e9.symm;subst e9;rw [List.append_nil] at sL;subst sL;obtain ⟨ayP,ayQ⟩:=id L4;simp only [List.length_nil,Nat.zero_add] at adw;refine bG xN hs (H':=λ _=>cD p (dU lv ov1 (dM l s1 (ByteArray.mk #[125])))) (Φ:=λ _ _=>True) (λ F2 eO ew=>?_) ?_
   ·exact (C234 p lv ov1 l s1 (ByteArray.mk #[125]) F2 _ eO (λ w' hc=>hT w' (ew w' hc).aF) hk L4).mono λ _ _ r=>r.mono λ _ _ h=>⟨trivial,h.2⟩
   rintro _ w6 _ hs;refine aE (aA km (aB nj hs.hb rfl (cS (aC (λ oC=>?_) (λ oC=>?_)))))
   ·refine aE (aA km (have hs:=hs.drew;aB nj hs.hb rfl (aE (aA zw (aB bL hs.hb rfl ?_)))));have hRR:R=([],0,(dM l s1 nG).e,(dM l s1 nG).pos):=hR.1 oC;rw [hRR];exact ⟨⟨none,0,0⟩,rfl,(hs.gE (Φ:=λ w=>DL w (Flat.val (⟨none,0,0⟩:SV)) ([]:List cE)) λ w=>DL.nil w).fresh⟩
   ·refine aE (aA pB (aB sN hs.hb rfl (aJ j1 (hs.p1).fK (cZ (aC (λ wi=>?_) (λ wi=>?_))))))
    ·obtain ⟨Lf,oU⟩:=gx (l) (i:=(op).toNat) (by omega);refine aQ fz hL (by omega) oU (λ _ ub=>bP (Lf).at_ ld ub rfl rfl (λ _ wj=>have hs:=hs.drew;aD bL (wj.ext hs.aF) ?_));have hRR:R=([],0,2,Lf.at_):=(hR.2.1 oC (by omega)).trans (by rw [AD jM.1 oU]);rw [hRR];exact ⟨⟨none,0,0⟩,rfl,(hs.gE (Φ:=λ w=>DL w (Flat.val (⟨none,0,0⟩:SV)) ([]:List cE)) λ w=>DL.nil w).fresh⟩
    ·refine aE (aA pB (have hs:=hs.drew;aB sN hs.hb rfl (aE (aA eS (aB bL hs.hb rfl ?_)))));have hs:=((hs.drop.p1).dN (Ψ:=jO Yj ([]++add)) (λ w h=>h.1)).p1;have hs:=St.DC hs;obtain ⟨sv,hsv⟩:=hs.lI;subst hsv;rw [hR.2.2 oC (by omega)];exact ⟨sv,rfl,hs.jF.fresh⟩
theorem C166 (p:Nat) (lv:Value) (l:List bF) (s:fN) (nb:Bool) (s2:fN) (x:List dF) (F:Nat→Prop) (w:World) (hF:(cD p (ed lv s)).p w F) (hT:∀ w',iy F w w'→eI (λ _=>True) w' lv l) (hk:iu l) (h0:lM l s) (hr:mM l nb s=some (s2,x)):CR 166 [(.pointer (some ⟨p,0,none⟩)),.bool nb] w (λ v w'=>qk F (sep (cD p (ed lv s2)) (bK v x)) w w'):=by
 have hs:=St.begin hF;obtain ⟨s9,hn0,e2,Tm⟩:=xn hr;have Fm:=hk.n;have hn:l.length≤1000000:=by omega
 have sR:=hk.at_;obtain ⟨Q1,Q2⟩:=id h0;refine ZE _ _ _ _ ?_;unfold S166;refine bW (([]:List dF)) hs j0 rfl rfl (eF rfl) (λ xH w1 hs=>?_);have hs:=hs.p1.p1;refine ⟨λ mm o mo w'=>∃ (s1:fN) (b:Bool) (o1 a2:List dF),mo = .bool b∧lM l s1∧o7 l nb mm b s1=some (s9,a2)∧x=o1++a2∧St w F [bK o o1,cD p (ed lv s1)] w',⟨10000,s,true,[],x,rfl,h0,hn0,rfl,hs⟩,?_⟩;rintro mm yg _ w2 ⟨s1,b,o1,a2,rfl,L4,UP,hx,hs⟩ fy;obtain ⟨m,rfl⟩:=L6 UP;obtain ⟨ayP,ayQ⟩:=id L4;refine ⟨λ jv w'=>jv = .bool (b && decide (s1.e=0))∧w2=w',?_,?_⟩
 ·refine aX (λ AF=>?_) (λ AF=>?_)
  ·refine aE (aA lU (aB nj hs.p1.hb rfl (aH ?_)));exact ⟨vb (by first | (rw [AF]; rfl) | (rw [AF]; rfl)),rfl⟩
  ·exact ⟨vb (by first | (rw [AF]; rfl) | (rw [AF]; rfl)),rfl⟩
 ·rintro _ w3 ⟨rfl,hw⟩ jw;subst hw;refine aX (λ eA=>?_) (λ eA=>?_)
  ·obtain ⟨a3,hn3,rfl⟩:=SL UP eA;refine bG aeq hs.p1 (H':=λ _=>cD p (ed lv (eU l s1).1)) (Φ:=λ v _=>v=Flat.val (eU l s1).2) (λ F2 eO ew=>?_) ?_
   ·exact C167 p lv l s1 F2 _ eO (λ w' hc=>hT w' (ew w' hc).aF) hk L4
   rintro _ w4 rfl hs;refine aN hs Cz (λ arB w5 hs=>aI (x:=(eU l s1).2) hs xQ rfl rfl (λ w6 hs=>?_));refine ⟨λ w'=>St w F [cD p (ed lv (fg l nb s1).1),cD arB (Flat.enc (fg l nb s1).2),bK yg o1] w',?_,?_⟩
   ·refine ⟨_,?_,λ _ _ h=>h⟩;refine aX (λ vc=>?_) (λ vc=>?_)
    ·refine bG xM hs.p1 (H':=λ _=>cD p (ed lv (gL l (eU l s1).1 (ByteArray.mk #[61])).1)) (Φ:=λ v _=>v = .bool (gL l (eU l s1).1 (ByteArray.mk #[61])).2) (λ F2 eO ew=>?_) ?_
     ·exact C165 p lv l (eU l s1).1 (ByteArray.mk #[61]) F2 _ eO (λ w' hc=>hT w' (ew w' hc).aF) hk (uw L4)
     rintro _ w7 rfl hs;intro oN;refine aX (λ fR=>?_) (λ fR=>?_)
     ·have hq:=jU (t:=ByteArray.mk #[61]) (uw L4);obtain ⟨hq0,hq1⟩:=id hq;refine ⟨λ jv w'=>jv = .bool (Jb l (gL l (eU l s1).1 (ByteArray.mk #[61])).1)∧St w F [cD p (ed lv (gL l (eU l s1).1 (ByteArray.mk #[61])).1),cD arB (Flat.enc (eU l s1).2),bK yg o1] w',?_,?_⟩
      ·refine aE (aA fk (have hs:=hs.drew;aB bL hs.hb rfl (aE (aA jE (aB iL hs.hb rfl (aJ fz (hT _ hs.aF) (aR (aC (λ jq=>?_) (λ jq=>?_)))))))))
       ·refine aE (aA jE (aB iL hs.hb rfl (aE (aA fk (aB bL hs.hb rfl ?_)))));obtain ⟨arC,XA⟩:=gx (l) (i:=(((gL l (eU l s1).1 (ByteArray.mk #[61])).1).at_).toNat) (by omega);refine aQ fz (hT _ hs.aF) (by omega) XA (λ _ KR=>bP (arC).kind kZ KR rfl rfl (λ _ KS=>aD bL (KS) (aH ?_)));have hs:=hs.p2.p2.p2;exact ⟨vb (by unfold Jb kz; rw [if_pos hq0,XA]),hs⟩
       ·have hs:=hs.p2.p2.p2;exact ⟨vb (by unfold Jb kz; rw [if_pos hq0,List.getElem?_eq_none (by omega)]),hs⟩
      ·rintro _ w9 ⟨rfl,hs⟩ GF;refine aX (λ vn=>?_) (λ vn=>?_)
       ·obtain ⟨tk,Xg,SI,_,hqlt⟩:=ady vn;have AL:oG l (gL l (eU l s1).1 (ByteArray.mk #[61])).1.at_=tk:=AD hq0 SI;refine aE (aA jE (have hs:=hs.drew;aB iL hs.hb rfl (aE (aA fk (aB bL hs.hb rfl (aQ fz (hT _ hs.aF) (by omega) SI (λ _ wj=>bP (tk).n qT wj rfl rfl (λ _ arD=>aD bL (arD) (aA zq (aV hs.p1 bL (eF rfl) (rfl) (λ pQ hs=>have hs:=hs.enc (cs':=Flat.enc ({ (eU l s1).2 with n:=(tk).n}:dF)) rfl;aE (aA fk ?_))))))))))));refine aB bL hs.p1.hb rfl (aO (by omega) (aE (aA fk (aV hs.p1 bL (eF rfl) (rfl) (λ sP hs=>?_)))))
        have hs:=hs.p2.p2.p2;have Cg:(fg l nb s1)=(Xq (gL l (eU l s1).1 (ByteArray.mk #[61])).1,{ (eU l s1).2 with n:=tk.n}):=(SN vc fR vn).trans (by rw [AL]);rw [Cg];exact hs
       ·refine bG Pn hs (H':=λ _=>cD p (ed lv (iU l (gL l (eU l s1).1 (ByteArray.mk #[61])).1 5))) (Φ:=λ _ _=>True) (λ F2 eO ew=>?_) ?_
        ·exact (C170 p lv l (gL l (eU l s1).1 (ByteArray.mk #[61])).1 F2 _ eO (λ w' hc=>hT w' (ew w' hc).aF) hk (jU (uw L4))).mono λ _ _ r=>r.mono λ _ _ h=>⟨trivial,h.2⟩
        rintro _ vi _ hs;have hs:=hs.p2.p2.p2;have Cg:=SO vc fR vn;rw [Cg];exact hs
     ·have hs:=hs.p2.p2.p2;have Cg:=Xx (nb:=nb) fR;rw [Cg];exact hs
    ·intro oN;refine fC ?_;have hs:=hs.p2.p1.p2;have Cg:=Xy (l:=l) (s:=s1) vc;rw [Cg];exact hs
   ·intro vj hs R0;refine aD xQ hs.p1.At (bW ([(fg l nb s1).2]) hs j0 rfl rfl (eF rfl) (λ afa sd hs=>?_));have akL:=(hs).fK;refine cN hs.p3 j0 akL (by have:=congrArg List.length hx; simp at this ⊢; omega) (by decide) (λ apy vW hs=>have hs:=hs.p1.drop;bG xM hs.p1 (H':=λ _=>cD p (ed lv (gL l (fg l nb s1).1 (ByteArray.mk #[44])).1)) (Φ:=λ v _=>v = .bool (gL l (fg l nb s1).1 (ByteArray.mk #[44])).2) (λ F2 eO ew=>?_) ?_)
    ·exact C165 p lv l (fg l nb s1).1 (ByteArray.mk #[44]) F2 _ eO (λ w' hc=>hT w' (ew w' hc).aF) hk (E7 L4)
    rintro _ yM rfl hs;have hs:=(hs.p2.drop).p1;exact ⟨_,by omega,(gL l (fg l nb s1).1 BA).1,(gL l (fg l nb s1).1 BA).2,o1++[(fg l nb s1).2],a3,rfl,jU (E7 L4),hn3,by rw [hx,List.append_assoc]; rfl,hs⟩
  ·obtain ⟨e9,rfl⟩:=E8 UP eA;replace e9:=e9.symm;subst e9;rw [List.append_nil] at hx;subst hx;refine bG T5 hs.p1 (H':=λ _=>cD p (ed lv (dM l s1 (ByteArray.mk #[59])))) (Φ:=λ _ _=>True) (λ F2 eO ew=>?_) ?_
   ·exact (C212 p lv l s1 (ByteArray.mk #[59]) F2 _ eO (λ w' hc=>hT w' (ew w' hc).aF) hk L4).mono λ _ _ r=>r.mono λ _ _ h=>⟨trivial,h.2⟩
   rintro _ Cd _ hs;have hs:=hs.p1.p1;rw [e2];exact (St.join hs).mut
set_option maxHeartbeats 1000000 in
theorem C168 (p:Nat) (lv:Value) (l:List bF) (s:fN) (nm:ByteArray) (a:Int) (s2:fN) (x:dQ) (F:Nat→Prop) (w:World) (hF:(cD p (ed lv s)).p w F) (hT:∀ w',iy F w w'→eI (λ _=>True) w' lv l) (hk:iu l) (h0:lM l s) (hr:sG l s nm a=some (s2,x)):CR 168 [(.pointer (some ⟨p,0,none⟩)),Flat.val (⟨nm,⟨none,0,0⟩,⟨none,0,0⟩,a⟩:eg)] w (λ v w'=>qk F (tQ λ sh:eg=>fact (v=Flat.val sh) (sep (cD p (ed lv s2)) (eX (λ w=>cA.dr w sh x)))) w w'):=by
 have hs:=St.begin hF;obtain ⟨q,rs,BR,Fl,hg2⟩:=OL hr;have hqi:=L7 (fx h0) BR;obtain ⟨hqi0,hqi1⟩:=id hqi;have Fm:=hk.n;have hn:l.length≤1000000:=by omega
 have sR:=hk.at_;obtain ⟨Q1,Q2⟩:=id h0;refine ZG _ _ _ _ ?_;unfold S168;refine dE (x:=(⟨nm,⟨none,0,0⟩,⟨none,0,0⟩,a⟩:eg)) hs (λ acC w1 hs=>aN hs M3 (λ Cf w2 hs=>have hs:=hs.enc (cs':=Flat.enc (⟨(ByteArray.mk #[]),⟨none,0,0⟩,⟨none,0,0⟩,0⟩:eg)) rfl;aE (aA fk (aB bL hs.p2.hb rfl (bG T5 hs.p2 (H':=λ _=>cD p (ed lv (dM l s (ByteArray.mk #[123])))) (Φ:=λ _ _=>True) (λ F2 eO ew=>?_) ?_)))))
 ·exact (C212 p lv l s (ByteArray.mk #[123]) F2 _ eO (λ w' hc=>hT w' (ew w' hc).aF) hk h0).mono λ _ _ r=>r.mono λ _ _ h=>⟨trivial,h.2⟩
 rintro _ w3 _ hs;refine ⟨λ w'=>∃ rv:SV,St w F [bK (Flat.val rv) rs,cD acC (Flat.enc (⟨nm,rv,⟨none,0,0⟩,a⟩:eg)),cD Cf (Flat.enc (⟨(ByteArray.mk #[]),⟨none,0,0⟩,⟨none,0,0⟩,0⟩:eg)),cD p (ed lv q)] w',?_,?_⟩
 ·refine bG xM hs (H':=λ _=>cD p (ed lv (gL l (dM l s (ByteArray.mk #[123])) (ByteArray.mk #[114,101,103])).1)) (Φ:=λ v _=>v = .bool (gL l (dM l s (ByteArray.mk #[123])) (ByteArray.mk #[114,101,103])).2) (λ F2 eO ew=>?_) ?_
  ·exact C165 p lv l (dM l s (ByteArray.mk #[123])) (ByteArray.mk #[114,101,103]) F2 _ eO (λ w' hc=>hT w' (ew w' hc).aF) hk (fx h0)
  rintro _ w4 rfl hs;refine aX (λ fu=>?_) (λ fu=>?_)
  ·obtain ⟨ys,hys,hrs⟩:=Hl BR fu;have hyl:ys.length≤1000000:=by obtain ⟨_,_,_,h⟩:=xn hys; exact h
   refine bG Pm hs (H':=λ v=>sep (cD p (ed lv q)) (bK v ys)) (Φ:=λ _ _=>True) (λ F2 eO ew=>?_) ?_
   ·exact (C166 p lv l (gL l (dM l s (ByteArray.mk #[123])) (ByteArray.mk #[114,101,103])).1 false q ys F2 _ eO (λ w' hc=>hT w' (ew w' hc).aF) hk (jU (fx h0)) hys).mono λ _ _ r=>r.mono λ _ _ h=>⟨trivial,h⟩
   rintro Vh w5 _ hs;have hs:=(((((hs.split.fX (α:=ByteArray)).p1).p3).p3).p4).p4;refine ⟨λ mm i w'=>∃ (j:Nat) (rv:SV),i = .int .i64 (j:Int)∧mm=ys.length - j∧j≤ys.length∧St w F [bK (Flat.val rv) ((ys.take j).map dF.name),cD acC (Flat.enc (⟨nm,rv,⟨none,0,0⟩,a⟩:eg)),bK Vh ys,cD Cf (Flat.enc (⟨(ByteArray.mk #[]),⟨none,0,0⟩,⟨none,0,0⟩,0⟩:eg)),cD p (ed lv q)] w',⟨_,0,⟨none,0,0⟩,rfl,rfl,Nat.zero_le _,hs⟩,?_⟩;rintro mm _ w6 ⟨j,rv,rfl,rfl,hj,hs⟩ fy;refine aJ j0 (hs.p2).fK (aR (aC (λ fR=>?_) (λ fR=>?_)))
   ·refine aA jn (have hs:=hs.drew;aB (v:=Flat.val (rv:SV)) pw hs.p1.hb rfl ?_);obtain ⟨agc,XB⟩:=gx (ys) (i:=((j:Int)).toNat) (by omega);refine dS hs.p2 j0 (by omega) (by omega) (λ _ zS=>mZ pz zS (λ _ zT=>nX (agc).name hs.p2 j5 zT XB rfl (bW ([(agc).name]) hs mS rfl rfl (eF rfl) (λ aoU w7 hs=>?_))));refine ⟨aG pw (hs.p2.hb.cell rfl),?_⟩;have akM:=(hs).fK;refine cN hs.p1 mS akM (by simp; omega) (by decide) (λ ae7 w8 hs=>have hs:=hs.p1.drop;aA jn ?_);obtain ⟨XC,rfl⟩:=(hs).fQ;refine aV hs.p1 pw (eF rfl) (rfl) (λ w9 hs=>have hs:=hs.enc (cs':=Flat.enc (⟨nm,XC,⟨none,0,0⟩,a⟩:eg)) rfl;aO (by omega) ?_)
    have hs:=hs.p4.p4.p4.p3.p4;exact ⟨_,by omega,j+1,XC,rfl,rfl,by omega,by rw [← FV (k:=j) XB]; exact hs⟩
   ·have hs:=(hs.p2.drop.p3.p3.p3).p3;rw [List.take_of_length_le (by omega)] at hs;rw [hrs];exact ⟨rv,hs⟩
  ·have hs:=((((hs.fX (α:=ByteArray)).p1).p2).p3).p3;obtain ⟨e1,e3⟩:=L8 BR fu;rw [wI fu] at hs;rw [e1,e3];exact ⟨⟨none,0,0⟩,hs⟩
 ·rintro pQ ⟨rv,hs⟩ jw;refine ⟨λ w'=>∃ (rv bv:SV) (body:List cE),x=⟨nm,rs,body,a⟩∧St w F [bK (Flat.val rv) rs,eX (λ w=>DL w (Flat.val bv) body),cD acC (Flat.enc (⟨nm,rv,bv,a⟩:eg)),cD Cf (Flat.enc (⟨(ByteArray.mk #[]),⟨none,0,0⟩,⟨none,0,0⟩,0⟩:eg)),cD p (ed lv s2)] w',?_,?_⟩
  ·refine aE (aA lU (aB nj hs.p3.hb rfl (aH (aC (λ mB=>?_) (λ mB=>?_)))))
   ·obtain ⟨R,hR,hR0,hR1,e2,hx⟩:=hg2 (by omega);have EO:(dM l s B4).e=0:=Decidable.not_not.1 λ hh=>ON hh BR (by omega);have jM:=rG (adz EO);refine aE (aA jE (have hs:=hs.drew;aB iL hs.p3.hb rfl (aE (aA fk (aB bL hs.p3.hb rfl (ey ani (C213 l _ q.at_ s.at_ R _ (hT _ hs.aF) hk hqi jM hR) ?_))))));rintro _ sP ⟨Ol,rfl,bZ⟩;have hs:=hs.made bZ;refine bE rfl (bE rfl (bE rfl (bE rfl (aA qt (aV hs.p2 sN (eF rfl) (rfl) (λ vi hs=>have hs:=hs.enc (cs':=Flat.enc (⟨nm,rv,Ol,a⟩:eg)) rfl;aE (aA fk (aV hs.p4 bL (eF rfl) (rfl) (λ vj hs=>aE (aA lU (aV hs nj (eF rfl) (rfl) (λ sd hs=>aE ?_))))))))))))
    refine aA vO (aV hs bL (eF rfl) (rfl) (λ vW hs=>?_));have hs:=hs.p4.p2.p3.p4;rw [e2];exact ⟨rv,Ol,R.1,hx,hs⟩
   ·have hs:=hs.gE (Φ:=λ w=>DL w (Flat.val (⟨none,0,0⟩:SV)) ([]:List cE)) λ w=>DL.nil w;have hs:=hs.p4.p4.p4.p3.p4;obtain ⟨e2,hx⟩:=Fl mB;rw [e2];exact ⟨rv,⟨none,0,0⟩,[],hx,hs⟩
  ·rintro yM ⟨rv,bv,body,rfl,hs⟩ oN;refine aD H6 hs.p2.At (aI (x:=(⟨nm,rv,bv,a⟩:eg)) hs.p3 H6 rfl rfl (λ Cd hs=>aD H6 hs.At ?_));have hs:=hs.p1.freeze.p2.p1.fL.dN (Ψ:=(λ w=>cA.dr w (⟨nm,rv,bv,a⟩:eg) (⟨nm,rs,body,a⟩:dQ))) (λ w h=>⟨_,_,rfl,DL.fp h.1,id (h.2)⟩);have hs:=((hs.p1.drop.p1).drop).p1;exact (wG hs).mut
set_option maxHeartbeats 1000000 in
theorem C169 (p:Nat) (lv:Value) (l:List bF) (s:fN) (a:Int) (s2:fN) (x:ju) (F:Nat→Prop) (w:World) (hF:(cD p (ed lv s)).p w F) (hT:∀ w',iy F w w'→eI (λ _=>True) w' lv l) (hk:iu l) (h0:lM l s) (hr:wH l s a=some (s2,x)):CR 169 [(.pointer (some ⟨p,0,none⟩)),.int .i64 a] w (λ v w'=>qk F (tQ λ sh:lJ=>fact (v=Flat.val sh) (sep (cD p (ed lv s2)) (eX (λ w=>cA.dr w sh x)))) w w'):=by
 have hs:=St.begin hF;obtain ⟨R,hxr,Fl,hg2⟩:=SP hr;have Fm:=hk.n;have hn:l.length≤1000000:=by omega
 have sR:=hk.at_;obtain ⟨Q1,Q2⟩:=id h0;refine ZH _ _ _ _ ?_;unfold S169;refine aN hs ahK (λ Cf w1 hs=>have hs:=hs.enc (cs':=Flat.enc (⟨⟨none,0,0⟩,0⟩:lJ)) rfl;aE (aA jE (have hs:=hs.drew;aB iL hs.p1.hb rfl (aE (aA fk (aB bL hs.p1.hb rfl (ey aey (C214 l _ s.at_ R _ (hT _ hs.aF) hk (by omega) hxr) ?_)))))));rintro _ w2 ⟨XD,rfl,bZ⟩;have hs:=hs.made bZ;refine bE rfl (bE rfl (bE rfl (bE rfl (cS (aC (λ ib=>?_) (λ ib=>?_))))))
 ·obtain ⟨rfl,rfl⟩:=Fl ib;refine aE (aA lU (aV hs.p2 nj (eF rfl) (rfl) (λ w3 hs=>aE (aA vO (aV hs bL (eF rfl) (rfl) (λ w4 hs=>pop (v:=Flat.val (⟨⟨none,0,0⟩,0⟩:lJ)) (by kernel_rfl) (aI (x:=(⟨⟨none,0,0⟩,0⟩:lJ)) hs.p2 abb rfl rfl (λ w5 hs=>aD abb hs.At ?_))))))));have hs:=hs.gE (Φ:=(λ w=>cA.dr w (⟨⟨none,0,0⟩,0⟩:lJ) (⟨[],0⟩:ju))) (λ w=>⟨_,rfl,DL.nil _⟩);have hs:=((hs.p1.drop.p2).drop).p1;exact (wG hs).mut
 ·obtain ⟨BR,rfl,rfl⟩:=hg2 ib;refine aE (aA fk (aV hs.p2 bL (eF rfl) (rfl) (λ w6 hs=>have hs:=hs.enc (cs':=ed lv ({s with at_:=R.2.1}:fN)) rfl;bG T5 hs (H':=λ _=>cD p (ed lv (dM l ({s with at_:=R.2.1}:fN) (ByteArray.mk #[59])))) (Φ:=λ _ _=>True) (λ F2 eO ew=>?_) ?_)))
  ·exact (C212 p lv l ({s with at_:=R.2.1}:fN) (ByteArray.mk #[59]) F2 _ eO (λ w' hc=>hT w' (ew w' hc).aF) hk (show lM l ({s with at_:=R.2.1}:fN) from BR)).mono λ _ _ r=>r.mono λ _ _ h=>⟨trivial,h.2⟩
  rintro _ w7 _ hs;refine pop (Gr _ _ _ _) (aI (x:=(⟨XD,a⟩:lJ)) hs.p2 abb rfl rfl (λ w8 hs=>aD abb hs.At ?_));have hs:=hs.p2.dN (Ψ:=(λ w=>cA.dr w (⟨XD,a⟩:lJ) (⟨R.1,a⟩:ju))) (λ w h=>⟨_,rfl,id (h)⟩);have hs:=(hs.p1.drop).p1;exact (wG hs).mut
set_option maxHeartbeats 8000000 in
theorem C109 (s:ByteArray) (R:cX × Int × Int) (w:World) (Yi:s.size≤1000000) (hr:rI s=some R) (hTk:∀ l e a,uu s=some (l,e,a)→iu l):CR 109 [.string s] w (λ v w'=>∃ pv:bN,v = .tuple #[Flat.val pv,.int .i64 R.2.1,.int .i64 R.2.2]∧lW (eX (λ w=>cA.dr w pv R.1)) w w'):=by
 obtain ⟨l,e,a,hsc⟩:=OO hr;have hk:=hTk l e a hsc;have Fm:=hk.n;have hn:l.length≤1000000:=by omega
 have sR:=hk.at_;have hs:=St.start w;refine YV _ _ _ ?_;unfold S109;refine aN hs uH (λ lY w1 hs=>have hs:=hs.enc (cs':=Flat.enc (⟨⟨none,0,0⟩,⟨none,0,0⟩,⟨none,0,0⟩,⟨none,0,0⟩,⟨none,0,0⟩,⟨none,0,0⟩⟩:bN)) rfl;ey amU (C164 s (l,e,a) _ Yi hsc) ?_);rintro _ w2 ⟨lv,rfl,bZ⟩;have hs:=hs.made bZ;refine bE rfl (bE rfl (bE rfl (cS (aC (λ gd=>?_) (λ gd=>?_)))))
 ·refine pop (v:=Flat.val (⟨⟨none,0,0⟩,⟨none,0,0⟩,⟨none,0,0⟩,⟨none,0,0⟩,⟨none,0,0⟩,⟨none,0,0⟩⟩:bN)) (by kernel_rfl) (aI (x:=(⟨⟨none,0,0⟩,⟨none,0,0⟩,⟨none,0,0⟩,⟨none,0,0⟩,⟨none,0,0⟩,⟨none,0,0⟩⟩:bN)) hs.p1 gI rfl rfl (λ w3 hs=>aD gI hs.At ?_));have hs:=hs.gE (Φ:=(λ w=>cA.dr w (⟨⟨none,0,0⟩,⟨none,0,0⟩,⟨none,0,0⟩,⟨none,0,0⟩,⟨none,0,0⟩,⟨none,0,0⟩⟩:bN) (⟨[],[],[],[],[],[]⟩:cX))) (λ w=>⟨_,_,_,_,_,_,rfl,DL.nil _,DL.nil _,DL.nil _,DL.nil _,DL.nil _,DL.nil _⟩);have hs:=((hs.p1.drop).p1).drop;rw [SR hr hsc gd];exact ⟨_,rfl,hs.fresh⟩
 ·obtain ⟨t1,t2,t3,t4,t5,t6,y1,y2,y3,y4,y5,y6,hp⟩:=Xz hr hsc gd;obtain ⟨lsv,hlv⟩:=(hs).fQ;rw [hlv];refine pop (Uq _ _ _) (lR hs (λ BN w4 hs=>pop (v:=Flat.val (⟨⟨none,0,0⟩,⟨none,0,0⟩,⟨none,0,0⟩,⟨none,0,0⟩,⟨none,0,0⟩,⟨none,0,0⟩⟩:bN)) (by kernel_rfl) (aN hs uH (λ OP w5 hs=>have hs:=hs.enc (cs':=Flat.enc (⟨⟨none,0,0⟩,⟨none,0,0⟩,⟨none,0,0⟩,⟨none,0,0⟩,⟨none,0,0⟩,⟨none,0,0⟩⟩:bN)) rfl;aI (x:=(⟨⟨none,0,0⟩,⟨none,0,0⟩,⟨none,0,0⟩,⟨none,0,0⟩,⟨none,0,0⟩,⟨none,0,0⟩⟩:bN)) hs gI rfl rfl (λ w6 hs=>?_)))));obtain ⟨p,rfl⟩:∃ p,p=BN:=⟨_,rfl⟩;have hs:=hs.p1.enc (cs':=ed (Flat.val lsv) (tm 0)) rfl
  rw [← hlv] at hs ⊢;have ayT:lM l (tm 0):=⟨Int.le_refl _,by show (0:Int)≤_; omega⟩;have hs:=(((((hs.xC (α:=(List dF))).p4).p4).p3).p4).p4;refine ⟨λ mm w'=>∃ (s0:fN) (v0:SV) (xs0 a0:List (List dF)),lM l s0∧mE l Xu (mM l true) mm s0=some (t1,a0)∧y1=xs0++a0∧St w bD [fj (Flat.val v0) xs0,cD OP (Flat.enc (⟨v0,⟨none,0,0⟩,⟨none,0,0⟩,⟨none,0,0⟩,⟨none,0,0⟩,⟨none,0,0⟩⟩:bN)),cD p (ed lv s0),bK lv l,cD lY (Flat.enc (⟨⟨none,0,0⟩,⟨none,0,0⟩,⟨none,0,0⟩,⟨none,0,0⟩,⟨none,0,0⟩,⟨none,0,0⟩⟩:bN))] w',⟨10000,tm 0,⟨none,0,0⟩,[],y1,ayT,hp.h1,rfl,hs⟩,?_⟩;rintro mm w7 ⟨s0,v0,xs0,a0,hi0,EO,hy0,hs⟩ fy
  obtain ⟨m0,rfl⟩:=rJ EO;refine bG xM hs.p2 (H':=λ _=>cD p (ed lv (gL l s0 (ByteArray.mk #[108,105,110,101])).1)) (Φ:=λ v _=>v = .bool (gL l s0 (ByteArray.mk #[108,105,110,101])).2) (λ F2 eO ew=>?_) ?_
  ·exact C165 p lv l s0 (ByteArray.mk #[108,105,110,101]) F2 _ eO (λ w' hc=>(ew w' hc).p2.fK) hk hi0
  rintro _ w8 rfl hs;refine aX (λ gh=>?_) (λ gh=>?_)
  ·obtain ⟨q0,z0,b0,hd0,hn0,rfl⟩:=wJ EO gh;refine aA jm (have hs:=hs.drew;aB (v:=Flat.val (v0:SV)) rO hs.p2.hb rfl (bG Pm hs (H':=λ v=>sep (cD p (ed lv q0)) (bK v z0)) (Φ:=λ _ _=>True) (λ F2 eO ew=>?_) ?_))
   ·exact (C166 p lv l (gL l s0 (ByteArray.mk #[108,105,110,101])).1 true q0 z0 F2 _ eO (λ w' hc=>(ew w' hc).p2.fK) hk (jU hi0) hd0).mono λ _ _ r=>r.mono λ _ _ h=>⟨trivial,h⟩
   rintro x31 w9 _ hs;have hs:=hs.split;refine ⟨aG rO (hs.p3.hb.cell rfl),?_⟩;obtain ⟨XE,rfl⟩:=(hs.p1).fQ;have hs:=hs.p1.freeze.dN (Ψ:=λ w=>cA.dr w XE (z0)) (λ w h=>DL.fp h);refine eJ (s:=XE) (x:=z0) hs vv (by decide) (λ VP pQ hs=>?_);refine ⟨aG rO (hs.p3.hb.cell rfl),?_⟩;have hs:=hs.p2;refine dZ hs vv (by have h1:=congrArg List.length hy0; have h2:=hp.b1; simp at h1 ⊢; omega) (by decide) (λ s_x33 sP hs=>aA jm ?_);obtain ⟨wx,rfl⟩:=(hs).lI;refine aV hs.p2 rO (eF rfl) (rfl) (λ vi hs=>?_);have hs:=hs.enc (cs':=Flat.enc (⟨wx,⟨none,0,0⟩,⟨none,0,0⟩,⟨none,0,0⟩,⟨none,0,0⟩,⟨none,0,0⟩⟩:bN)) rfl
   have hs:=hs.p4.p4.p4.p3.p4;exact ⟨_,by omega,q0,wx,xs0++[z0],b0,xo (jU hi0) hd0,hn0,by rw [hy0,List.append_assoc]; rfl,hs⟩
  ·obtain ⟨e9,rfl⟩:=ux EO gh;replace e9:=e9.symm;subst e9;rw [List.append_nil] at hy0;subst hy0;rw [wI gh] at hs;have hs:=((((((hs.fX (α:=dF)).p5).p5).p3).p5).p5).p5;refine ⟨λ mm w'=>∃ (s1:fN) (v1:SV) (xs1 a1:List (List dF)),lM l s1∧mE l akH (mM l true) mm s1=some (t2,a1)∧y2=xs1++a1∧St w bD [bK (Flat.val v1) (xs1.flatten),fj (Flat.val v0) y1,cD OP (Flat.enc (⟨v0,v1,⟨none,0,0⟩,⟨none,0,0⟩,⟨none,0,0⟩,⟨none,0,0⟩⟩:bN)),cD p (ed lv s1),bK lv l,cD lY (Flat.enc (⟨⟨none,0,0⟩,⟨none,0,0⟩,⟨none,0,0⟩,⟨none,0,0⟩,⟨none,0,0⟩,⟨none,0,0⟩⟩:bN))] w',⟨10000,s0,⟨none,0,0⟩,[],y2,hi0,hp.h2,rfl,hs⟩,?_⟩
   rintro mm vj ⟨s1,v1,xs1,a1,hi1,hm1,hy1,hs⟩ jw;obtain ⟨m1,rfl⟩:=rJ hm1;refine bG xM hs.p3 (H':=λ _=>cD p (ed lv (gL l s1 (ByteArray.mk #[118,111,108])).1)) (Φ:=λ v _=>v = .bool (gL l s1 (ByteArray.mk #[118,111,108])).2) (λ F2 eO ew=>?_) ?_
   ·exact C165 p lv l s1 (ByteArray.mk #[118,111,108]) F2 _ eO (λ w' hc=>(ew w' hc).p3.fK) hk hi1
   rintro _ sd rfl hs;refine aX (λ lh=>?_) (λ lh=>?_)
   ·obtain ⟨q1,z1,b1,hd1,UP,rfl⟩:=wJ hm1 lh;refine aA uG (have hs:=hs.drew;aB (v:=Flat.val (v1:SV)) jt hs.p3.hb rfl (bG Pm hs (H':=λ v=>sep (cD p (ed lv q1)) (bK v z1)) (Φ:=λ _ _=>True) (λ F2 eO ew=>?_) ?_))
    ·exact (C166 p lv l (gL l s1 (ByteArray.mk #[118,111,108])).1 true q1 z1 F2 _ eO (λ w' hc=>(ew w' hc).p3.fK) hk (jU hi1) hd1).mono λ _ _ r=>r.mono λ _ _ h=>⟨trivial,h⟩
    rintro x40 vW _ hs;have hs:=hs.split;refine ⟨aG jt (hs.p4.hb.cell rfl),?_⟩;have u5:=(hs.p1).fK;refine cN hs.p2 j0 u5 (by have:=Rf hy1; have:=hp.b2; omega) (by decide) (λ VD yM hs=>have hs:=hs.p2.drop;aA uG ?_);obtain ⟨IF,rfl⟩:=(hs).fQ;refine aV hs.p3 jt (eF rfl) (rfl) (λ Cd hs=>?_);have hs:=hs.enc (cs':=Flat.enc (⟨v0,IF,⟨none,0,0⟩,⟨none,0,0⟩,⟨none,0,0⟩,⟨none,0,0⟩⟩:bN)) rfl;have hs:=hs.p5.p5.p4.p3.p5.p5;rw [← AE] at hs;exact ⟨_,by omega,q1,IF,xs1++[z1],b1,xo (jU hi1) hd1,UP,by rw [hy1,List.append_assoc]; rfl,hs⟩
   ·obtain ⟨e9,rfl⟩:=ux hm1 lh;replace e9:=e9.symm;subst e9;rw [List.append_nil] at hy1;subst hy1;rw [wI lh] at hs;have hs:=(((((((hs.fX (α:=dF)).p6).p6).p3).p6).p5).p6).p6;refine ⟨λ mm w'=>∃ (s2:fN) (v2:SV) (xs2 a2:List (List dF)),lM l s2∧mE l Xv (mM l false) mm s2=some (t3,a2)∧y3=xs2++a2∧St w bD [bK (Flat.val v2) (xs2.flatten),fj (Flat.val v0) y1,bK (Flat.val v1) (y2.flatten),cD OP (Flat.enc (⟨v0,v1,v2,⟨none,0,0⟩,⟨none,0,0⟩,⟨none,0,0⟩⟩:bN)),cD p (ed lv s2),bK lv l,cD lY (Flat.enc (⟨⟨none,0,0⟩,⟨none,0,0⟩,⟨none,0,0⟩,⟨none,0,0⟩,⟨none,0,0⟩,⟨none,0,0⟩⟩:bN))] w',⟨10000,s1,⟨none,0,0⟩,[],y3,hi1,hp.h3,rfl,hs⟩,?_⟩
    rintro mm Il ⟨s2,v2,xs2,a2,hi2,hm2,hy2,hs⟩ oN;obtain ⟨m2,rfl⟩:=rJ hm2;refine bG xM hs.p4 (H':=λ _=>cD p (ed lv (gL l s2 (ByteArray.mk #[108,111,99,107])).1)) (Φ:=λ v _=>v = .bool (gL l s2 (ByteArray.mk #[108,111,99,107])).2) (λ F2 eO ew=>?_) ?_
    ·exact C165 p lv l s2 (ByteArray.mk #[108,111,99,107]) F2 _ eO (λ w' hc=>(ew w' hc).p4.fK) hk hi2
    rintro _ Jo rfl hs;refine aX (λ pJ=>?_) (λ pJ=>?_)
    ·obtain ⟨q2,z2,b2,LN,hn2,rfl⟩:=wJ hm2 pJ;refine aA rT (have hs:=hs.drew;aB (v:=Flat.val (v2:SV)) jt hs.p4.hb rfl (bG Pm hs (H':=λ v=>sep (cD p (ed lv q2)) (bK v z2)) (Φ:=λ _ _=>True) (λ F2 eO ew=>?_) ?_))
     ·exact (C166 p lv l (gL l s2 (ByteArray.mk #[108,111,99,107])).1 false q2 z2 F2 _ eO (λ w' hc=>(ew w' hc).p4.fK) hk (jU hi2) LN).mono λ _ _ r=>r.mono λ _ _ h=>⟨trivial,h⟩
     rintro x48 KA _ hs;have hs:=hs.split;refine ⟨aG jt (hs.p5.hb.cell rfl),?_⟩;have akP:=(hs.p1).fK;refine cN hs.p2 j0 akP (by have:=Rf hy2; have:=hp.b3; omega) (by decide) (λ apA Mx hs=>have hs:=hs.p2.drop;aA rT ?_);obtain ⟨XF,rfl⟩:=(hs).fQ;refine aV hs.p4 jt (eF rfl) (rfl) (λ Qp hs=>?_);have hs:=hs.enc (cs':=Flat.enc (⟨v0,v1,XF,⟨none,0,0⟩,⟨none,0,0⟩,⟨none,0,0⟩⟩:bN)) rfl;have hs:=hs.p6.p6.p4.p3.p6.p6.p6;rw [← AE] at hs;exact ⟨_,by omega,q2,XF,xs2++[z2],b2,xo (jU hi2) LN,hn2,by rw [hy2,List.append_assoc]; rfl,hs⟩
    ·obtain ⟨e9,rfl⟩:=ux hm2 pJ;replace e9:=e9.symm;subst e9;rw [List.append_nil] at hy2;subst hy2;rw [wI pJ] at hs;have hs:=((((((((hs.xC (α:=dQ)).p7).p7).p3).p7).p5).p7).p7).p7;refine ⟨λ mm w'=>∃ (s3:fN) (v3:SV) (xs3 a3:List dQ),lM l s3∧mE l Jc (akI l) mm s3=some (t4,a3)∧y4=xs3++a3∧St w bD [fj (Flat.val v3) xs3,fj (Flat.val v0) y1,bK (Flat.val v1) (y2.flatten),bK (Flat.val v2) (y3.flatten),cD OP (Flat.enc (⟨v0,v1,v2,v3,⟨none,0,0⟩,⟨none,0,0⟩⟩:bN)),cD p (ed lv s3),bK lv l,cD lY (Flat.enc (⟨⟨none,0,0⟩,⟨none,0,0⟩,⟨none,0,0⟩,⟨none,0,0⟩,⟨none,0,0⟩,⟨none,0,0⟩⟩:bN))] w',⟨10000,s2,⟨none,0,0⟩,[],y4,hi2,hp.h4,rfl,hs⟩,?_⟩
     rintro mm Tn ⟨s3,v3,xs3,a3,hi3,hm3,hy3,hs⟩ GF;obtain ⟨m3,rfl⟩:=rJ hm3;refine bG xM hs.p5 (H':=λ _=>cD p (ed lv (gL l s3 (ByteArray.mk #[116,104,114,101,97,100])).1)) (Φ:=λ v _=>v = .bool (gL l s3 (ByteArray.mk #[116,104,114,101,97,100])).2) (λ F2 eO ew=>?_) ?_
     ·exact C165 p lv l s3 (ByteArray.mk #[116,104,114,101,97,100]) F2 _ eO (λ w' hc=>(ew w' hc).p5.fK) hk hi3
     rintro _ VF rfl hs;refine aX (λ sn=>?_) (λ sn=>?_)
     ·obtain ⟨q3,z3,b3,hd3,hn3,rfl⟩:=wJ hm3 sn;refine bG aeq hs (H':=λ _=>cD p (ed lv (eU l (gL l s3 (ByteArray.mk #[116,104,114,101,97,100])).1).1)) (Φ:=λ v _=>v=Flat.val (eU l (gL l s3 (ByteArray.mk #[116,104,114,101,97,100])).1).2) (λ F2 eO ew=>?_) ?_
      ·exact C167 p lv l (gL l s3 (ByteArray.mk #[116,104,114,101,97,100])).1 F2 _ eO (λ w' hc=>(ew w' hc).p5.fK) hk (jU hi3)
      rintro _ R7 rfl hs;refine aN hs Cz (λ b_c10 w26 hs=>aI (x:=(eU l (gL l s3 (ByteArray.mk #[116,104,114,101,97,100])).1).2) hs xQ rfl rfl (λ w27 hs=>aA nc (have hs:=hs.drew;aB (v:=Flat.val (v3:SV)) ja hs.p6.hb rfl (aA pz (aB (v:=.string (((eU l (gL l s3 (ByteArray.mk #[116,104,114,101,97,100])).1).2).name)) j5 hs.hb rfl (aA Dp (aB (v:=.int .i64 (((eU l (gL l s3 (ByteArray.mk #[116,104,114,101,97,100])).1).2).at_)) bL hs.hb rfl (pop (RQ _ _) (bG aer hs.p1 (H':=λ v=>tQ λ sh:eg=>fact (v=Flat.val sh) (sep (cD p (ed lv q3)) (eX (λ w=>cA.dr w sh z3)))) (Φ:=λ _ _=>True) (λ F2 eO ew=>?_) ?_)))))))))
      ·exact (C168 p lv l (eU l (gL l s3 (ByteArray.mk #[116,104,114,101,97,100])).1).1 ((eU l (gL l s3 (ByteArray.mk #[116,104,114,101,97,100])).1).2).name ((eU l (gL l s3 (ByteArray.mk #[116,104,114,101,97,100])).1).2).at_ q3 z3 F2 _ eO (λ w' hc=>(ew w' hc).p6.fK) hk (uw (jU hi3)) hd3).mono λ _ _ r=>r.mono λ _ _ h=>⟨trivial,h⟩
      rintro v_x63 w28 _ Au;obtain ⟨akR,Av⟩:=Au.eT
      clear Au
      obtain ⟨akS,CK⟩:=Av.oA
      clear Av
      subst akS;have hs:=CK.split
      clear CK
      refine ⟨aG ja (hs.p7.hb.cell rfl),?_⟩;have hs:=hs.p1;refine eJ (s:=akR) (x:=z3) hs iJ (by decide) (λ aq4 w29 hs=>?_);refine ⟨aG ja (hs.p7.hb.cell rfl),?_⟩;have hs:=hs.p3;refine dZ hs iJ (by have h1:=congrArg List.length hy3; have h2:=hp.b4; simp at h1 ⊢; omega) (by decide) (λ af2 w30 hs=>aA nc ?_);obtain ⟨XG,rfl⟩:=(hs).lI;refine aV hs.p6 ja (eF rfl) (rfl) (λ w31 hs=>?_);have hs:=((hs.enc (cs':=Flat.enc (⟨v0,v1,v2,XG,⟨none,0,0⟩,⟨none,0,0⟩⟩:bN)) rfl).p3).drop;have hs:=hs.p7.p7.p4.p3.p7.p7.p7.p7;exact ⟨_,by omega,q3,XG,xs3++[z3],b3,E9 (uw (jU hi3)) hd3,hn3,by rw [hy3,List.append_assoc]; rfl,hs⟩
     ·obtain ⟨e9,rfl⟩:=ux hm3 sn;replace e9:=e9.symm;subst e9;rw [List.append_nil] at hy3;subst hy3;rw [wI sn] at hs;refine ⟨λ w'=>∃ v4:SV,St w bD [fj (Flat.val v4) y5,fj (Flat.val v0) y1,bK (Flat.val v1) (y2.flatten),bK (Flat.val v2) (y3.flatten),fj (Flat.val v3) y4,cD OP (Flat.enc (⟨v0,v1,v2,v3,v4,⟨none,0,0⟩⟩:bN)),cD p (ed lv t5),bK lv l,cD lY (Flat.enc (⟨⟨none,0,0⟩,⟨none,0,0⟩,⟨none,0,0⟩,⟨none,0,0⟩,⟨none,0,0⟩,⟨none,0,0⟩⟩:bN))] w',?_,?_⟩
      ·refine bG xM hs (H':=λ _=>cD p (ed lv (gL l s3 (ByteArray.mk #[114,101,99,111,118,101,114])).1)) (Φ:=λ v _=>v = .bool (gL l s3 (ByteArray.mk #[114,101,99,111,118,101,114])).2) (λ F2 eO ew=>?_) ?_
       ·exact C165 p lv l s3 (ByteArray.mk #[114,101,99,111,118,101,114]) F2 _ eO (λ w' hc=>(ew w' hc).p5.fK) hk hi3
       rintro _ w32 rfl hs;refine aX (λ Mc=>?_) (λ Mc=>?_)
       ·obtain ⟨z4,hd4,hy5⟩:=Mb hp.h5 Mc;obtain ⟨ayX,_,hlo68,hhi68⟩:=Xw Mc;have hat68:(gL l s3 (ByteArray.mk #[114,101,99,111,118,101,114])).1.at_=s3.at_+1:=by rw [ayX]
        refine aA rU (have hs:=hs.drew;aB (v:=Flat.val (⟨none,0,0⟩:SV)) ja hs.p5.hb rfl (aE (aA fk (aB bL hs.hb rfl (gy (by omega) ?_)))));obtain ⟨XH,XI⟩:=gx (l) (i:=((((gL l s3 (ByteArray.mk #[114,101,99,111,118,101,114])).1).at_ - 1)).toNat) (by omega);refine dS hs.p6 fz (by omega) (by omega) (λ _ Xp=>mZ ld Xp (λ _ arF=>nX (XH).at_ hs.p6 bL arF XI rfl (pop (abm _) ?_)));have ND:yK l (gL l s3 (ByteArray.mk #[114,101,99,111,118,101,114])).1=(XH).at_:=congrArg bF.at_ (AD (by omega) XI);rw [ND] at hd4;refine bG aer hs (H':=λ v=>tQ λ sh:eg=>fact (v=Flat.val sh) (sep (cD p (ed lv t5)) (eX (λ w=>cA.dr w sh z4)))) (Φ:=λ _ _=>True) (λ F2 eO ew=>?_) ?_
        ·exact (C168 p lv l (gL l s3 (ByteArray.mk #[114,101,99,111,118,101,114])).1 (ByteArray.mk #[]) (XH).at_ t5 z4 F2 _ eO (λ w' hc=>(ew w' hc).p5.fK) hk (jU hi3) hd4).mono λ _ _ r=>r.mono λ _ _ h=>⟨trivial,h⟩
        rintro v_x82 w33 _ Au;obtain ⟨akT,Av⟩:=Au.eT
        clear Au
        obtain ⟨akU,CK⟩:=Av.oA
        clear Av
        subst akU;have hs:=CK.split
        clear CK
        refine ⟨aG ja (hs.p6.hb.cell rfl),?_⟩;have hs:=hs.p1;refine eJ (s:=akT) (x:=z4) hs iJ (by decide) (λ apQ w34 hs=>?_);refine ⟨aG ja (hs.p6.hb.cell rfl),?_⟩;have hs:=((hs.xC (α:=dQ)).p1).p1;refine dZ hs iJ (by simp) (by decide) (λ afb w35 hs=>aA rU ?_);obtain ⟨XJ,rfl⟩:=(hs).lI;refine aV hs.p6 ja (eF rfl) (rfl) (λ w36 hs=>?_);have hs:=(((hs.enc (cs':=Flat.enc (⟨v0,v1,v2,v3,XJ,⟨none,0,0⟩⟩:bN)) rfl).p8).p8).p4;have hs:=hs.p3.p5.p8.p8.p8.p8;rw [hy5];exact ⟨XJ,hs⟩
       ·rw [wI Mc] at hs;have hs:=(((((((((hs.xC (α:=dQ)).p8).p8).p3).p8).p5).p8).p8).p8).p8;obtain ⟨e5,e6⟩:=Re hp.h5 Mc;rw [e5,e6];exact ⟨⟨none,0,0⟩,hs⟩
      ·rintro w37 ⟨v4,hs⟩ R0;have hs:=((((((((((hs.xC (α:=ju)).p9).p9).p9).p9).p5).p9).p9).p9).p9).p9;refine ⟨λ mm w'=>∃ (s5:fN) (v5:SV) (xs5 a5:List ju),lM l s5∧mE l Jd (λ s=>wH l s (yK l s)) mm s5=some (t6,a5)∧y6=xs5++a5∧St w bD [fj (Flat.val v5) xs5,fj (Flat.val v0) y1,bK (Flat.val v1) (y2.flatten),bK (Flat.val v2) (y3.flatten),fj (Flat.val v3) y4,fj (Flat.val v4) y5,cD OP (Flat.enc (⟨v0,v1,v2,v3,v4,v5⟩:bN)),cD p (ed lv s5),bK lv l,cD lY (Flat.enc (⟨⟨none,0,0⟩,⟨none,0,0⟩,⟨none,0,0⟩,⟨none,0,0⟩,⟨none,0,0⟩,⟨none,0,0⟩⟩:bN))] w',⟨10000,t5,⟨none,0,0⟩,[],y6,(adA hi3 hp.h5),hp.h6,rfl,hs⟩,?_⟩
       rintro mm w38 ⟨s5,v5,xs5,a5,hi5,hm5,hy5,hs⟩ dd6;obtain ⟨m5,rfl⟩:=rJ hm5;refine bG xM hs.p7 (H':=λ _=>cD p (ed lv (gL l s5 (ByteArray.mk #[97,108,119,97,121,115])).1)) (Φ:=λ v _=>v = .bool (gL l s5 (ByteArray.mk #[97,108,119,97,121,115])).2) (λ F2 eO ew=>?_) ?_
       ·exact C165 p lv l s5 (ByteArray.mk #[97,108,119,97,121,115]) F2 _ eO (λ w' hc=>(ew w' hc).p7.fK) hk hi5
       rintro _ Yn rfl hs;refine aX (λ zL=>?_) (λ zL=>?_)
       ·obtain ⟨q5,z5,b5,hd5,Fm,rfl⟩:=wJ hm5 zL;obtain ⟨ay0,_,hlo87,hhi87⟩:=Xw zL;have hat87:(gL l s5 (ByteArray.mk #[97,108,119,97,121,115])).1.at_=s5.at_+1:=by rw [ay0]
        refine aA kJ (have hs:=hs.drew;aB (v:=Flat.val (v5:SV)) sM hs.p7.hb rfl (aE (aA fk (aB bL hs.hb rfl (gy (by omega) ?_)))));obtain ⟨XK,XL⟩:=gx (l) (i:=((((gL l s5 (ByteArray.mk #[97,108,119,97,121,115])).1).at_ - 1)).toNat) (by omega);refine dS hs.p8 fz (by omega) (by omega) (λ _ arH=>mZ ld arH (λ _ arI=>nX (XK).at_ hs.p8 bL arI XL rfl ?_));have ND:yK l (gL l s5 (ByteArray.mk #[97,108,119,97,121,115])).1=(XK).at_:=congrArg bF.at_ (AD (by omega) XL);rw [ND] at hd5;refine bG amV hs (H':=λ v=>tQ λ sh:lJ=>fact (v=Flat.val sh) (sep (cD p (ed lv q5)) (eX (λ w=>cA.dr w sh z5)))) (Φ:=λ _ _=>True) (λ F2 eO ew=>?_) ?_
        ·exact (C169 p lv l (gL l s5 (ByteArray.mk #[97,108,119,97,121,115])).1 (XK).at_ q5 z5 F2 _ eO (λ w' hc=>(ew w' hc).p7.fK) hk (jU hi5) hd5).mono λ _ _ r=>r.mono λ _ _ h=>⟨trivial,h⟩
        rintro ay1 w40 _ Au;obtain ⟨adB,Av⟩:=Au.eT
        clear Au
        obtain ⟨adC,CK⟩:=Av.oA
        clear Av
        subst adC;have hs:=CK.split
        clear CK
        refine ⟨aG sM (hs.p8.hb.cell rfl),?_⟩;have hs:=hs.p1;refine eJ (s:=adB) (x:=z5) hs yk (by decide) (λ aj7 w41 hs=>?_);refine ⟨aG sM (hs.p8.hb.cell rfl),?_⟩;have hs:=hs.p2;refine dZ hs yk (by have h1:=congrArg List.length hy5; have h2:=hp.b6; simp at h1 ⊢; omega) (by decide) (λ aj8 w42 hs=>aA kJ ?_);obtain ⟨Rg,rfl⟩:=(hs).lI;refine aV hs.p7 sM (eF rfl) (rfl) (λ w43 hs=>?_);have hs:=(((((hs.enc (cs':=Flat.enc (⟨v0,v1,v2,v3,v4,Rg⟩:bN)) rfl).p9).p9).p4).p3).p9;have hs:=hs.p9.p9.p9.p9.p9;exact ⟨_,by omega,q5,Rg,xs5++[z5],b5,SM (jU hi5) hd5,Fm,by rw [hy5,List.append_assoc]; rfl,hs⟩
       ·obtain ⟨e9,rfl⟩:=ux hm5 zL;replace e9:=e9.symm;subst e9;rw [List.append_nil] at hy5;subst hy5;rw [wI zL] at hs;obtain ⟨hi50,hi51⟩:=id hi5;refine ⟨λ w'=>St w bD [fj (Flat.val v5) y6,fj (Flat.val v0) y1,bK (Flat.val v1) (y2.flatten),bK (Flat.val v2) (y3.flatten),fj (Flat.val v3) y4,fj (Flat.val v4) y5,cD OP (Flat.enc (⟨v0,v1,v2,v3,v4,v5⟩:bN)),cD p (ed lv (FU l s5)),bK lv l,cD lY (Flat.enc (⟨⟨none,0,0⟩,⟨none,0,0⟩,⟨none,0,0⟩,⟨none,0,0⟩,⟨none,0,0⟩,⟨none,0,0⟩⟩:bN))] w',?_,?_⟩
        ·refine aE (aA fk (aB bL hs.hb rfl (aJ fz (hs.p8).fK (aR (aC (λ yE=>?_) (λ yE=>?_))))))
         ·refine bG Pn hs (H':=λ _=>cD p (ed lv (iU l s5 5))) (Φ:=λ _ _=>True) (λ F2 eO ew=>?_) ?_
          ·exact (C170 p lv l s5 F2 _ eO (λ w' hc=>(ew w' hc).p7.fK) hk hi5).mono λ _ _ r=>r.mono λ _ _ h=>⟨trivial,h.2⟩
          rintro _ w44 _ hs;have hs:=hs.p9.p9.p2.p9.p9.p9.p9.p9.p9.p9;have he6:FU l s5=iU l s5 5:=if_pos yE;rw [he6]; exact hs
         ·have hs:=hs.p9.p9.p2.p9.p9.p9.p9.p9.p9.p9;have he6:FU l s5=s5:=if_neg yE;rw [he6]; exact hs
        ·intro w45 hs dd7;refine aE (aA lU (aB nj hs.p7.hb rfl (cS (aC (λ OQ=>?_) (λ OQ=>?_)))))
         ·refine pop (v:=Flat.val (⟨⟨none,0,0⟩,⟨none,0,0⟩,⟨none,0,0⟩,⟨none,0,0⟩,⟨none,0,0⟩,⟨none,0,0⟩⟩:bN)) (by kernel_rfl) (aE (aA lU (have hs:=hs.drew;aB nj hs.p7.hb rfl (aE (aA vO (aB bL hs.p7.hb rfl (aI (x:=(⟨⟨none,0,0⟩,⟨none,0,0⟩,⟨none,0,0⟩,⟨none,0,0⟩,⟨none,0,0⟩,⟨none,0,0⟩⟩:bN)) hs.p9 gI rfl rfl (λ w46 hs=>?_))))))));refine ⟨aG nj (hs.p8.hb.cell rfl),?_⟩;refine ⟨aG bL (hs.p8.hb.cell rfl),?_⟩;refine aD gI hs.At ?_;have hs:=hs.gE (Φ:=(λ w=>cA.dr w (⟨⟨none,0,0⟩,⟨none,0,0⟩,⟨none,0,0⟩,⟨none,0,0⟩,⟨none,0,0⟩,⟨none,0,0⟩⟩:bN) (⟨[],[],[],[],[],[]⟩:cX))) (λ w=>⟨_,_,_,_,_,_,rfl,DL.nil _,DL.nil _,DL.nil _,DL.nil _,DL.nil _,DL.nil _⟩)
          have hs:=(((((((((hs.p1.drop.p1.drop.p1.drop.p1.drop.p1).drop).p1).drop).p1).drop).p1).drop).p1).drop;have hs:=(hs.p1).drop;rw [hp.bad OQ];exact ⟨_,rfl,hs.fresh⟩
         ·refine aD gI hs.p6.At (aI (x:=(⟨v0,v1,v2,v3,v4,v5⟩:bN)) hs.p9 gI rfl rfl (λ w47 hs=>aD gI hs.At ?_));have hs:=hs.p2.jF.p3.freeze.p1.fL.p3.freeze.p1.fL.p3.jF.p1.fL.p3.jF.p1.fL;have hs:=hs.p2.jF.p1.fL.dN (Ψ:=(λ w=>cA.dr w (⟨v0,v1,v2,v3,v4,v5⟩:bN) (⟨y1,y2.flatten,y3.flatten,y4,y5,y6⟩:cX))) (λ w h=>⟨_,_,_,_,_,_,rfl,h.1.1.1.1.1,DL.fp h.1.1.1.1.2,DL.fp h.1.1.1.2,h.1.1.2,h.1.2,h.2⟩);have hs:=((((hs.p1.drop.p1.drop).p1).drop).p1).drop;rw [hp.ayN OQ];exact ⟨_,rfl,hs.fresh⟩
theorem C48 (s:ByteArray) (R:cX × Int × Int) (w:World) (Yi:s.size≤1000000) (hr:rI s=some R) (hTk:∀ l e a,uu s=some (l,e,a)→iu l) (hz:PZ R.1):CR 48 [.string s] w (λ v w'=>∃ uv:dL,v=Flat.val uv∧lW (eX (λ w=>cA.dr w uv (if gK R.1=0 then eB R.1 else Eo))) w w'):=by
 have hs:=St.start w;refine agZ _ _ _ ?_;unfold S48;refine aN hs vL (λ lY w1 hs=>have hs:=hs.enc (cs':=Flat.enc (⟨⟨none,0,0⟩,0,⟨none,0,0⟩,0,⟨none,0,0⟩,(⟨0,0,⟨none,0,0⟩⟩:cK),⟨none,0,0⟩⟩:dL)) rfl;ey amA (C109 s R _ Yi hr hTk) ?_);rintro _ w2 ⟨XM,rfl,bZ⟩;have hs:=hs.made bZ;refine bE rfl (bE rfl (bE rfl (aN hs uH (λ wk w3 hs=>have hs:=hs.enc (cs':=Flat.enc (⟨⟨none,0,0⟩,⟨none,0,0⟩,⟨none,0,0⟩,⟨none,0,0⟩,⟨none,0,0⟩,⟨none,0,0⟩⟩:bN)) rfl;aI (x:=XM) hs gI rfl rfl (λ w4 hs=>aD gI hs.At (ey amk (C12 R.1 XM _ (hs.p1).eX hz) ?_))))));rintro _ w5 ⟨XN,rfl,bZ⟩
 have hs:=hs.made bZ;refine bE rfl (bE rfl (aN hs vL (λ axf w6 hs=>have hs:=hs.enc (cs':=Flat.enc (⟨⟨none,0,0⟩,0,⟨none,0,0⟩,0,⟨none,0,0⟩,(⟨0,0,⟨none,0,0⟩⟩:cK),⟨none,0,0⟩⟩:dL)) rfl;aI (x:=XN) hs tD rfl rfl (λ w7 hs=>aD tD hs.At (aI (x:=XN) hs.p4 tD rfl rfl (λ w8 hs=>aD tD hs.At ?_))))));have hs:=((((((hs.drop)).drop).p1).drop).p1).drop;exact ⟨_,rfl,hs.fresh⟩
structure lO (c:fm) (cells lines locks:Int):Prop where
 rb:0≤c.aK∧c.aK≤4
 cb:0≤c.counts∧c.counts≤12
 fld:∀ (i:Nat) (x:aW),c.l[i]? = some x→uY x c cells lines locks=true
 to:∀ (i:Nat) (x:aW),c.l[i]? = some x→IG c.l i x=true
theorem Md {c:fm} {cells lines locks:Int} (h:lj c cells lines locks=true):lO c cells lines locks:=by
 unfold lj at h
 simp only [Bool.and_eq_true,Bool.not_eq_true'] at h
 obtain ⟨⟨h1,h2⟩,h3⟩:=h
 unfold u4 at h1
 simp only [Bool.or_eq_false_iff,decide_eq_false_iff_not] at h1
 have hi:∀ (i:Nat) (x:aW),c.l[i]? = some x→uY x c cells lines locks=true∧IG c.l i x=true:=by
  intro i x hx
  have h4:=GO h2 i (List.getElem?_eq_some_iff.1 hx).1
  rw [ue hx] at h4
  simpa using h4
 exact ⟨by omega,by omega,λ i x hx=>(hi i x hx).1,λ i x hx=>(hi i x hx).2⟩
structure Fa (u:im):Prop where
 ll:u.lines.length≤20
 st:0≤u.stays∧u.stays≤u.lines.length
 fl:u.dC.length=u.lines.length
 lk:0≤u.locks∧u.locks≤2
 tl:1≤u.threads.length∧u.threads.length≤3
 ln:∀ i,i<u.lines.length→j6 u i=false
 fr:∀ n∈u.dC,0≤n∧n≤4294967296
 th:∀ c∈u.threads,lO c u.lines.length (gp u) u.locks
 cl:∀ l∈u.cC,eK l u.stays=true
 rc:lO u.recover u.lines.length (gp u) u.locks
theorem rK {u:im} (h:nt u=true):Fa u:=by
 unfold nt at h
 simp only [Bool.and_eq_true,Bool.not_eq_true'] at h
 obtain ⟨h1,⟨⟨⟨⟨h2,h3⟩,h4⟩,h5⟩,h6⟩⟩:=h
 unfold kQ at h1
 simp only [Bool.or_eq_false_iff,decide_eq_false_iff_not] at h1
 rw [List.any_eq_false] at h2 h4 h5
 refine ⟨by omega,by omega,by omega,by omega,by omega,λ i hi=>GO h3 i hi,λ n hn=>?_,λ c hc=>?_,λ l hl=>?_,Md h6⟩
 ·have:=h2 n hn
  unfold lr at this
  simp at this; omega
 ·have:=h4 c hc
  exact Md (by simpa using this)
 ·have:=h5 l hl
  simpa using this
theorem Rh {n k:Int} (h:Lm n k=true):0≤n∧n<k:=by unfold Lm at h; simpa using h
section
variable {c:fm} {cells lines locks:Int} {i:Nat} {x:aW}
theorem lO.kd (h:lO c cells lines locks) (hx:c.l[i]? = some x):1≤x.kind∧x.kind≤15:=by
 have:=h.fld i x hx; unfold uY at this; simp only [Bool.and_eq_true,decide_eq_true_eq] at this; exact ⟨this.2.1.1.1,this.2.1.1.2⟩
theorem lO.a (h:lO c cells lines locks) (hx:c.l[i]? = some x):aM x c.aK c.counts=true:=by
 have:=h.fld i x hx; unfold uY at this; simp only [Bool.and_eq_true,decide_eq_true_eq] at this; exact this.2.1.2
theorem lO.b (h:lO c cells lines locks) (hx:c.l[i]? = some x):bM x cells lines locks=true:=by
 have:=h.fld i x hx; unfold uY at this; simp only [Bool.and_eq_true,decide_eq_true_eq] at this; exact this.2.2
theorem lO.a13 (h:lO c cells lines locks) (hx:c.l[i]? = some x) (hk:x.kind=13∨x.kind=14):0≤x.a∧x.a<c.counts:=by
 have:=h.a hx; unfold aM at this; rw [if_pos hk] at this; exact Rh this
theorem lO.a1 (h:lO c cells lines locks) (hx:c.l[i]? = some x) (hk:x.kind=1∨x.kind=2∨x.kind=4):0≤x.a∧x.a<c.aK:=by
 have:=h.a hx; unfold aM at this; rw [if_neg (by omega),if_pos hk] at this; exact Rh this
theorem lO.b2 (h:lO c cells lines locks) (hx:c.l[i]? = some x) (hk:x.kind=2∨x.kind=3∨x.kind=4):0≤x.b∧x.b<cells:=by
 have:=h.b hx; unfold bM at this; rw [if_pos hk] at this; exact Rh this
theorem lO.b9 (h:lO c cells lines locks) (hx:c.l[i]? = some x) (hk:x.kind=9∨x.kind=10):0≤x.b∧x.b<locks:=by
 have:=h.b hx; unfold bM at this; rw [if_neg (by omega),if_neg (by omega),if_pos hk] at this; exact Rh this
theorem lO.tob (h:lO c cells lines locks) (hx:c.l[i]? = some x):0≤x.to∧x.to≤c.l.length:=by
 have h1:=h.to i x hx
 have hi:=(List.getElem?_eq_some_iff.1 hx).1
 by_cases hk:x.kind=14
 ·have:=V6 hk h1; omega
 ·unfold IG at h1
  split at h1
  ·simp at h1; omega
  ·simp at h1; omega
theorem o8 {α:Type} {l:List α} {x:α} (h:x∈l):∃ i:Nat,l[i]? = some x:=List.mem_iff_getElem?.1 h
theorem lO.ok (h:lO c cells lines locks) (hz:CZ c):Bs c:=by
 have h1:=h.rb; have h2:=h.cb; have h3:=hz.l
 refine ⟨by omega,by omega,by omega,λ x hx=>?_,λ x hx hk=>?_,λ x hx hk=>?_⟩
 ·obtain ⟨i,hi⟩:=o8 hx
  have:=h.tob hi
  have h4:=hz.ef x hx
  exact ⟨h4.1,h4.2,by omega,by omega⟩
 ·obtain ⟨i,hi⟩:=o8 hx; exact h.a1 hi (.inl hk)
 ·obtain ⟨i,hi⟩:=o8 hx; exact h.a13 hi hk
end
def Vis (t:fM):Prop:=∀ x,gR t=some x→t.fault=0→2≤x.kind∧x.kind≤10
theorem XO {t:fM} {x:aW} {e:Int}:(wB t x e).1.code=t.code∧(wB t x e).1.buf=t.buf:=by
 unfold wB; repeat' split
 all_goals exact ⟨rfl,rfl⟩
theorem pP (t:fM):(fG t).1.code=t.code∧(fG t).1.buf=t.buf:=by
 unfold fG
 cases hn:gR t with
 | none=>exact ⟨rfl,rfl⟩
 | some x=>
  dsimp only
  split
  ·split
   ·exact XO
   ·exact ⟨rfl,rfl⟩
  ·exact ⟨rfl,rfl⟩
theorem AG:∀ {n:Nat} {t t':fM},sI n t=some t'→t'.code=t.code∧t'.buf=t.buf
 | 0,_,_,h=>by cases h
 | n+1,t,t',h=>by
  have hc:=pP t
  unfold sI at h
  split at h
  ·have:=AG h; exact ⟨this.1.trans hc.1,this.2.trans hc.2⟩
  ·cases h; exact hc
theorem Je:∀ {n:Nat} {t t':fM},G4 t→sI n t=some t'→G4 t'
 | 0,_,_,_,h=>by cases h
 | n+1,t,t',h0,h=>by
  unfold sI at h
  split at h
  ·exact Je (ly h0) h
  ·cases h; exact ly h0
theorem Fb:∀ {n k:Nat} {t t':fM},sI n t=some t'→sI (n+k) t=some t'
 | 0,_,_,_,h=>by cases h
 | n+1,k,t,t',h=>by
  rw [show n+1+k=(n+k)+1 from by omega]
  unfold sI at h ⊢
  split at h
  ·rename_i hs; rw [if_pos hs]; exact Fb h
  ·rename_i hs; rw [if_neg hs]; exact h
theorem OR {t:fM} (hk:∀ x∈t.code.l,1≤x.kind∧x.kind≤15) (h:(fG t).2=false):Vis (fG t).1:=by
 intro x hx hf
 cases hn:gR t with
 | none=>rw [Ah hn] at hx; rw [hx] at hn; cases hn
 | some y=>
  have hy:=hk y (qE hn).1
  cases he:(eu y.e t.aK).2 with
  | false=>rw [Ai hn he] at hf; simp [tE,he] at hf
  | true=>
   cases TI:(eu y.f t.aK).2 with
   | false=>rw [Aj hn he TI] at hf; simp [tF,tE,TI] at hf
   | true=>
    rw [kx hn he TI] at h hx hf
    unfold wB at h hx hf
    have e:∀ z,gR (tF (tE t y) y)=some z→z=y:=by
     intro z hz
     have:gR (tF (tE t y) y)=gR t:=rfl
     rw [this,hn] at hz; exact (Option.some.inj hz).symm
    split at h
    ·cases h
    ·split at h
     ·cases h
     ·split at h
      ·split at h <;> cases h
      ·split at h
       ·cases h
       ·split at h
        ·split at h <;> cases h
        ·split at h
         ·rename_i h1 h2 h3 h4 h5 h6
          rw [if_neg h1,if_neg h2,if_neg h3,if_neg h4,if_neg h5,if_pos h6] at hf
          split at hf
          ·cases hf
          ·rename_i h7; rw [if_neg h7] at h; cases h
         ·rename_i h1 h2 h3 h4 h5 h6
          rw [if_neg h1,if_neg h2,if_neg h3,if_neg h4,if_neg h5,if_neg h6] at hx
          have:=e x hx; subst this
          omega
theorem CQ:∀ {n:Nat} {t t':fM},(∀ x∈t.code.l,1≤x.kind∧x.kind≤15)→sI n t=some t'→Vis t'
 | 0,_,_,_,h=>by cases h
 | n+1,t,t',hk,h=>by
  unfold sI at h
  split at h
  ·exact CQ (by rw [(pP t).1]; exact hk) h
  ·rename_i hs; cases h; exact OR hk (by simpa using hs)
theorem B5 {l:List Int} {k:Nat} (hk:0<k) (h:k≤l.length):kS (l.take k)=l.getD (k - 1) 0+1:=by
 unfold kS
 rw [List.length_take,Nat.min_eq_left h,if_neg (by omega),List.getD_eq_getElem?_getD,List.getD_eq_getElem?_getD,List.getElem?_take,if_pos (by omega)]
theorem CS {u:im} (h:Fa u) {k:Nat} {n:Int} (hk:(k:Int)<u.stays) (hn:u.lines[k]? = some n):(n=lq u.lines k∨(0<k∧n=lq u.lines k - 1))∧-1≤n∧n≤k:=by
 have mv:=(List.getElem?_eq_some_iff.1 hn).1
 have hb:=ED (u:=u) (k:=u.lines.length) (λ j hj=>h.ln j hj) k n mv hn
 have h1:=h.ln k mv
 unfold j6 at h1
 rw [hn] at h1
 simp only [Bool.and_eq_false_iff,Bool.or_eq_false_iff,decide_eq_false_iff_not,Decidable.not_not] at h1
 refine ⟨?_,hb⟩
 rcases h1 with h1 | h1
 ·exact .inl h1
 ·exact .inr ⟨by omega,h1.2⟩
theorem Jf {u:im} (h:Fa u):∀ (k:Nat) (n:Int),(k:Int)<u.stays→u.lines[k]? = some n→0≤n∧∀ j m,j≤k→u.lines[j]? = some m→m≤n
 | 0,n,hk,hn=>by
  have h1:=(CS h hk hn).1
  have e:lq u.lines 0=0:=rfl
  rw [e] at h1
  refine ⟨by omega,λ j m hj hm=>?_⟩
  obtain rfl:j=0:=by omega
  rw [hn] at hm; cases hm; exact Int.le_refl _
 | k+1,n,hk,hn=>by
  have mv:=(List.getElem?_eq_some_iff.1 hn).1
  obtain ⟨q,hq⟩:∃ q,u.lines[k]? = some q:=⟨_,List.getElem?_eq_getElem (by omega)⟩
  have ih:=Jf h k q (by omega) hq
  have h1:=(CS h hk hn).1
  have e:lq u.lines (k+1)=q+1:=by unfold lq; rw [if_neg (by omega),Nat.add_sub_cancel,List.getD_eq_getElem?_getD,hq]; rfl
  rw [e] at h1
  refine ⟨by omega,λ j m hj hm=>?_⟩
  by_cases hjk:j=k+1
  ·subst hjk; rw [hn] at hm; cases hm; exact Int.le_refl _
  ·have:=ih.2 j m (by omega) hm; omega
theorem adD {u:im} (h:Fa u):xj (WO u.lines u.stays u.dC):=by
 have h1:=h.st; have h2:=h.fl; have h3:=h.ll
 have hl:(u.lines.take u.stays.toNat).length=u.stays.toNat:=by rw [List.length_take]; omega
 refine ⟨?_,?_,rfl,?_,λ n hn=>?_,?_,λ k x hx=>by cases hx⟩
 ·show (u.lines.take u.stays.toNat).length≤u.dC.length; omega
 ·show u.dC.length≤20; omega
 ·show (u.dC.take u.stays.toNat).length=(u.lines.take u.stays.toNat).length; rw [hl,List.length_take]; omega
 ·obtain ⟨i,hi⟩:=o8 (show n∈u.lines.take u.stays.toNat from hn)
  have mv:=(List.getElem?_eq_some_iff.1 hi).1
  rw [hl] at mv
  rw [List.getElem?_take,if_pos mv] at hi
  obtain ⟨q,hq⟩:∃ q,u.lines[u.stays.toNat - 1]? = some q:=⟨_,List.getElem?_eq_getElem (by omega)⟩
  have h4:=Jf h (u.stays.toNat - 1) q (by omega) hq
  have h5:=(Jf h i n (by omega) hi).1
  have h6:=h4.2 i n (by omega) hi
  show 0≤n∧n<kS (u.lines.take u.stays.toNat)
  rw [B5 (by omega) (by omega),List.getD_eq_getElem?_getD,hq]
  exact ⟨h5,by show n<q+1; omega⟩
 ·show kS (u.lines.take u.stays.toNat)≤20
  by_cases h0:u.stays.toNat=0
  ·rw [h0,List.take_zero]; decide
  ·obtain ⟨q,hq⟩:∃ q,u.lines[u.stays.toNat - 1]? = some q:=⟨_,List.getElem?_eq_getElem (by omega)⟩
   have:=(CS h (by omega) hq).2
   rw [B5 (by omega) (by omega),List.getD_eq_getElem?_getD,hq]
   show q+1≤20
   omega
theorem Ri {f:Int→List ji} {a k:Int} {xs:List ji} {x:ji} (h:x∈sY f a xs k):x∈xs∨x∈f k:=by
 unfold sY at h; split at h; exact .inl h; exact .inr h
theorem Hm {m:Mem} {c n:Int} (h:xj m):xj (iH m c n):=by
 unfold iH
 split
 ·rename_i vh
  unfold N7 at vh; rw [decide_eq_true_eq] at vh
  refine ⟨h.QD,h.fl,by show (m.l.set _ _).length=_; rw [List.length_set]; exact h.ll,h.kl,h.ofr,h.lb,λ k x hx=>?_⟩
  dsimp only at hx
  split at hx
  ·rename_i hc
   rcases Ri hx with h1 | h1
   ·rw [List.mem_append] at h1
    rcases h1 with h1 | h1
    ·exact h.pc _ x h1
    ·simp at h1; subst h1; exact ⟨vh.1,hc⟩
   ·exact h.pc _ x h1
  ·exact h.pc _ x hx
 ·exact h
theorem adE {m:Mem} {c:Int} (h:xj m):xj (vz m c):=by
 unfold vz
 split
 ·refine ⟨h.QD,h.fl,h.ll,by show (xJ _ _).length=_; rw [Ac]; exact h.kl,h.ofr,h.lb,λ k x hx=>?_⟩
  rcases Ri hx with h1 | h1
  ·cases h1
  ·exact h.pc _ x h1
 ·exact h
theorem SS {m:Mem} {cut pR:List Int} (h:jA m cut=some pR):pR.length=m.kept.length:=by
 unfold jA at h; split at h
 ·cases h; exact uj _ _ _
 ·cases h
theorem SU {m:Mem} {cut pR:List Int} (h:xj m) (hi:jA m cut=some pR):xj (yC m pR):=by
 have h1:=SS hi
 have h2:=h.kl; have h3:=h.QD
 refine ⟨h.QD,h.fl,?_,?_,h.ofr,h.lb,λ k x hx=>by cases hx⟩
 ·show (pR++m.dC.drop pR.length).length=m.dC.length
  rw [List.length_append,List.length_drop]; omega
 ·show pR.length=m.of.length; omega
structure GM (m:gT):Prop where
 ru:Fa m.u
 uz:UZ m.u
 mem:xj m.mem
 of:m.mem.of=m.u.lines.take m.u.stays.toNat
 dC:m.mem.dC=m.u.dC
 th:∀ t∈m.l,G4 t∧Vis t∧(t.code∈m.u.threads∨t.code=m.u.recover)
 tl:m.l.length≤3
 lk:(m.locks.length:Int)=m.u.locks
 rm:1≤m.room∧m.room≤16
 cr:0≤m.er
section
variable {m:gT} {t:fM}
theorem GM.code (h:GM m) (ht:t∈m.l):lO t.code m.u.lines.length (gp m.u) m.u.locks:=by
 rcases (h.th t ht).2.2 with h1 | h1
 ·exact h.ru.th _ h1
 ·rw [h1]; exact h.ru.rc
theorem GM.ok (h:GM m):rC m:=by
 have MZ:=h.tl
 refine ⟨h.mem,λ t ht=>(h.th t ht).1,by omega,h.lk,λ t ht x hx hk=>?_,λ t ht x hx hk=>?_,λ t ht x hx hk=>?_,h.rm,λ t ht=>(h.th t ht).2.1,λ n hn=>?_⟩
 ·obtain ⟨i,hi⟩:=o8 hx; exact (h.code ht).b9 hi hk
 ·obtain ⟨i,hi⟩:=o8 hx; exact (h.code ht).b2 hi (.inr (.inl hk))
 ·obtain ⟨i,hi⟩:=o8 hx
  exact (h.code ht).a1 hi (by omega)
 ·obtain ⟨i,hi⟩:=o8 hn
  have mv:=(List.getElem?_eq_some_iff.1 hi).1
  have:=ED (u:=m.u) (k:=m.u.lines.length) (λ j hj=>h.ru.ln j hj) i n mv hi
  have:=h.ru.ll
  omega
theorem SW {mm:Mem} {x:bJ} (h:xj mm):xj (ia mm x)∧(ia mm x).of=mm.of∧(ia mm x).dC=mm.dC:=by
 unfold ia
 split
 ·exact ⟨Hm h,Bw _ _ _,ti _ _ _⟩
 ·split
  ·exact ⟨h,rfl,rfl⟩
  ·exact ⟨adE h,QK _ _,B0 _ _⟩
theorem XP {i:Int} {x:aW} (h:xj m.mem):xj (dX m t i x).1.mem∧(dX m t i x).1.mem.of=m.mem.of∧(dX m t i x).1.mem.dC=m.mem.dC:=by
 unfold dX Bv ya uq
 repeat' split
 all_goals first
  | exact ⟨h,rfl,rfl⟩
  | exact ⟨Hm h,Bw _ _ _,ti _ _ _⟩
theorem Rj {i:Int} {x:aW}:(dX m t i x).1.locks.length=m.locks.length∧(dX m t i x).1.er=m.er:=by
 unfold dX Bv ya uq
 repeat' split
 all_goals first
  | exact ⟨rfl,rfl⟩
  | exact ⟨List.length_set ..,rfl⟩
theorem SX {l:List bJ} {i:Int}:(ma l i).length≤l.length:=by
 unfold ma; split
 ·exact List.length_eraseIdx_le ..
 ·exact Nat.le_refl _
theorem GM.out {q:ei} (h:GM m) (ht:m.l[q.t.toNat]? = some t):GM (mr m t q):=by
 have hm:=SW (x:=eh t.buf q.i) h.mem
 have Cj:=List.mem_of_getElem? ht
 refine ⟨h.ru,h.uz,hm.1,hm.2.1.trans h.of,hm.2.2.trans h.dC,λ t' XQ=>?_,by show (m.l.set _ _).length≤3; rw [List.length_set]; exact h.tl,h.lk,h.rm,h.cr⟩
 rcases List.mem_or_eq_of_mem_set (show t'∈m.l.set _ _ from XQ) with h1 | h1
 ·exact h.th t' h1
 ·subst h1
  obtain ⟨h2,h3,h4⟩:=h.th t Cj
  have:=SX (l:=t.buf) (i:=q.i)
  have hb:=h2.bl
  exact ⟨⟨h2.code,h2.rg,h2.cn,h2.Tl,by show (ma t.buf q.i).length≤1000; omega⟩,h3,h4⟩
theorem lO.kds {c:fm} {a b d:Int} (h:lO c a b d):∀ x∈c.l,1≤x.kind∧x.kind≤15:=λ x hx=>by
 obtain ⟨i,hi⟩:=o8 hx; exact h.kd hi
theorem GM.step {N:Nat} {i:Int} {m':gT} {ev:dA} (h:GM m) (hs:mD N m i=some (m',ev)):GM m':=by
 cases ht:m.l[i.toNat]? with
 | none=>unfold mD at hs; rw [ht] at hs; cases hs
 | some t=>
  have Cj:=List.mem_of_getElem? ht
  have htt:=h.th t Cj
  by_cases hf:t.fault≠0
  ·rw [(Ao hs ht hf).1]
   exact ⟨h.ru,h.uz,h.mem,h.of,h.dC,h.th,h.tl,h.lk,h.rm,h.cr⟩
  ·obtain ⟨x,hn⟩:=Ap hs ht hf
   have hm:=XP (m:=m) (t:=t) (i:=i) (x:=x) h.mem
   have Mu:=Rj (m:=m) (t:=t) (i:=i) (x:=x)
   have oB:=QL (m:=m) (i:=i) (x:=x) htt.1 h.rm.2
   have key:∀ t2:fM,G4 t2→Vis t2→t2.code=t.code→GM { (dX m t i x).1 with l:=(dX m t i x).1.l.set i.toNat t2}:=by
    intro t2 h1 h2 h3
    have hu:=Oh (m:=m) (t:=t) (i:=i) (x:=x)
    refine ⟨by rw [hu]; exact h.ru,by rw [hu]; exact h.uz,hm.1,by rw [hu]; exact hm.2.1.trans h.of,by rw [hu]; exact hm.2.2.trans h.dC,λ t' XQ=>?_,?_,?_,?_,?_⟩
    ·rw [IZ] at XQ
     rw [hu]
     rcases List.mem_or_eq_of_mem_set (show t'∈m.l.set _ _ from XQ) with h4 | h4
     ·exact h.th t' h4
     ·subst h4; exact ⟨h1,h2,by rw [h3]; exact htt.2.2⟩
    ·show ((dX m t i x).1.l.set _ _).length≤3
     rw [List.length_set,IZ]; exact h.tl
    ·show ((dX m t i x).1.locks.length:Int)=(dX m t i x).1.u.locks
     rw [Mu.1,hu]; exact h.lk
    ·show 1≤(dX m t i x).1.room∧(dX m t i x).1.room≤16
     rw [xk]; exact h.rm
    ·show 0≤(dX m t i x).1.er
     rw [Mu.2]; exact h.cr
   by_cases h0:(dX m t i x).1.fault=0
   ·obtain ⟨t2,hg,Mv,_⟩:=Aq hs ht hf hn h0
    rw [Mv]
    have hc:=AG hg
    have hcc:t2.code=t.code:=hc.1.trans (qG (m:=m) (t:=t) (i:=i) (x:=x))
    refine key t2 (Je ?_ hg) (CQ (t:={ (dX m t i x).2.1 with at_:=(dX m t i x).2.1.at_+1}) ?_ hg) hcc
    ·exact ⟨oB.code,oB.rg,oB.cn,by show 0≤(dX m t i x).2.1.at_+1; have:=oB.Tl; omega,oB.bl⟩
    ·show ∀ x'∈(dX m t i x).2.1.code.l,_
     rw [qG]; exact (h.code Cj).kds
   ·obtain ⟨Mv,_⟩:=Ar hs ht hf hn h0
    rw [Mv]
    refine key _ oB ?_ (qG (m:=m) (t:=t) (i:=i) (x:=x))
    intro y hy hfy
    have e:gR (dX m t i x).2.1=gR t:=by unfold gR; rw [qG,CI]
    rw [e] at hy
    exact htt.2.1 y hy (by omega)
theorem GM.arK {q:ei} {pR:List Int} {N:Nat} (h:GM m) (hi:iI m q=some pR) (hg:sI N (qb m.u.recover)=some t):GM (mK (yG m pR) [t]):=by
 have hi2:jA m.mem q.cut=some pR:=by unfold iI at hi; split at hi; exact hi; cases hi
 have hr:=h.ru.rc
 have Mu:=h.ru.lk
 refine ⟨h.ru,h.uz,SU h.mem hi2,h.of,h.dC,λ t' XQ=>?_,by show [t].length≤3; simp,?_,h.rm,by show 0≤m.er+1; have:=h.cr; omega⟩
 ·obtain rfl:t'=t:=by simpa using (show t'∈[t] from XQ)
  exact ⟨Je (I0 (hr.ok h.uz.rc)) hg,CQ (t:=qb m.u.recover) hr.kds hg,.inr (AG hg).1⟩
 ·show ((List.replicate m.u.locks.toNat (-1:Int)).length:Int)=m.u.locks
  rw [List.length_replicate]; omega
theorem GM.do {N:Nat} {q:ei} {m2:gT} {ev:dA} {e:Int} (h:GM m) (hd:Cl N m q=some (m2,ev,e)):GM m2:=by
 cases hc:iI m q with
 | some pR=>obtain ⟨t,hg,hm,_⟩:=qH hd hc; rw [hm]; exact h.arK hc hg
 | none=>
  by_cases ha:(fc m).any (js q)=true
  ·by_cases hk:q.kind=2
   ·obtain ⟨_,t,ht⟩:=rE ha
    rw [(pj hd hc ha hk ht).1]; exact h.out ht
   ·exact h.step (m8 hd hc ha hk).1
  ·rw [(ph hd hc ha).1]; exact h
end
theorem GM.new {N:Nat} {u:im} {room:Int} {nf:List fM} (hu:Fa u) (hz:UZ u) (hb:rD N u.threads nf) (hr:1≤room∧room≤16):GM (mK (mu u room) nf):=by
 have h1:=hu.tl; have h2:=hu.lk
 refine ⟨hu,hz,adD hu,rfl,rfl,λ t ht=>?_,by show nf.length≤3; rw [hb.1]; exact h1.2,?_,hr,Int.le_refl _⟩
 ·obtain ⟨i,hi⟩:=o8 (show t∈nf from ht)
  have mv:=(List.getElem?_eq_some_iff.1 hi).1
  obtain ⟨c,hc⟩:∃ c,u.threads[i]? = some c:=⟨_,List.getElem?_eq_getElem (by rw [← hb.1]; exact mv)⟩
  have hg:=hb.2 i c t hc hi
  have Mz:=List.mem_of_getElem? hc
  have hcu:=hu.th c Mz
  exact ⟨Je (I0 (hcu.ok (hz.th c Mz))) hg,CQ (t:=qb c) hcu.kds hg,.inl (by rw [(AG hg).1]; exact Mz)⟩
 ·show ((List.replicate u.locks.toNat (-1:Int)).length:Int)=u.locks
  rw [List.length_replicate]; omega
theorem Me {N:Nat} {u:im} {nf:List fM} (hu:Fa u) (hz:UZ u) (hb:rD N u.threads nf):QM N u nf:=by
 have h1:=hu.lk; have h2:=hu.st; have h3:=hu.ll
 refine ⟨hb,λ c hc=>(hu.th c hc).ok (hz.th c hc),hu.fl.symm,hu.ll,hu.st,λ k n hk hn=>?_,by omega⟩
 have h4:=CS hu hk hn
 have mv:=(List.getElem?_eq_some_iff.1 hn).1
 exact ⟨h4.1,by omega,by omega⟩
theorem MB.mono {mm:Mem} {a b:Nat} (h:MB mm a) (hab:a≤b):MB mm b:=λ k=>Nat.le_trans (h k) hab
theorem MB.write {mm:Mem} {c x:Int} {n:Nat} (h:MB mm n):MB (iH mm c x) (n+1):=by
 intro k
 unfold iH
 split
 ·dsimp only
  split
  ·unfold sY
   split
   ·rw [List.length_append,List.length_singleton]; have:=h (mm.of.getD c.toNat 0); omega
   ·have:=h k; omega
  ·have:=h k; omega
 ·have:=h k; omega
theorem MB.out {mm:Mem} {c:Int} {n:Nat} (h:MB mm n):MB (vz mm c) n:=by
 intro k
 unfold vz
 split
 ·dsimp only
  unfold sY
  split
  ·simp
  ·exact h k
 ·exact h k
theorem MB.ia {mm:Mem} {x:bJ} {n:Nat} (h:MB mm n):MB (ia mm x) (n+1):=by
 unfold Go.Proofs.YtnjcingfdhjfkaaGreat.ia
 split
 ·exact h.write
 ·split
  ·exact h.mono (Nat.le_succ n)
  ·exact h.out.mono (Nat.le_succ n)
theorem MB.act {m:gT} {t:fM} {i:Int} {x:aW} {n:Nat} (h:MB m.mem n):MB (dX m t i x).1.mem (n+1):=by
 unfold dX Bv ya uq
 repeat' split
 all_goals first
  | exact h.mono (Nat.le_succ n)
  | exact h.write
theorem MB.step {N n:Nat} {m m':gT} {i:Int} {ev:dA} (h:MB m.mem n) (hs:mD N m i=some (m',ev)):MB m'.mem (n+1):=by
 cases ht:m.l[i.toNat]? with
 | none=>unfold mD at hs; rw [ht] at hs; cases hs
 | some t=>
  by_cases hf:t.fault≠0
  ·rw [(Ao hs ht hf).1]; exact h.mono (Nat.le_succ n)
  ·obtain ⟨x,hn⟩:=Ap hs ht hf
   by_cases h0:(dX m t i x).1.fault=0
   ·obtain ⟨t2,_,Mv,_⟩:=Aq hs ht hf hn h0
    rw [Mv]; exact h.act
   ·rw [(Ar hs ht hf hn h0).1]; exact h.act
theorem MB.do {N n:Nat} {m m2:gT} {q:ei} {ev:dA} {e:Int} (h:MB m.mem n) (hd:Cl N m q=some (m2,ev,e)):MB m2.mem (n+1):=by
 cases hc:iI m q with
 | some pR=>obtain ⟨t,_,hm,_⟩:=qH hd hc; rw [hm]; intro k; exact Nat.zero_le _
 | none=>
  by_cases ha:(fc m).any (js q)=true
  ·by_cases hk:q.kind=2
   ·obtain ⟨_,t,ht⟩:=rE ha
    rw [(pj hd hc ha hk ht).1]; exact h.ia
   ·exact h.step (m8 hd hc ha hk).1
  ·rw [(ph hd hc ha).1]; exact h.mono (Nat.le_succ n)
theorem MB.new {u:im} {room:Int} {nf:List fM}:MB (mK (mu u room) nf).mem 0:=λ _=>Nat.le_refl _
theorem Fc {N:Nat} {m m2:gT} {q:ei} {ev:dA} {e:Int} (hd:Cl N m q=some (m2,ev,e)):m2.er≤m.er+1∧m2.u=m.u∧m2.room=m.room:=by
 cases hc:iI m q with
 | some pR=>obtain ⟨t,_,hm,_⟩:=qH hd hc; rw [hm]; exact ⟨Int.le_refl _,rfl,rfl⟩
 | none=>
  by_cases ha:(fc m).any (js q)=true
  ·by_cases hk:q.kind=2
   ·obtain ⟨_,t,ht⟩:=rE ha
    rw [(pj hd hc ha hk ht).1]; exact ⟨by show m.er≤_; omega,rfl,rfl⟩
   ·have hs:=(m8 hd hc ha hk).1
    cases ht:m.l[q.t.toNat]? with
    | none=>unfold mD at hs; rw [ht] at hs; cases hs
    | some t=>
     by_cases hf:t.fault≠0
     ·rw [(Ao hs ht hf).1]; exact ⟨by show m.er≤_; omega,rfl,rfl⟩
     ·obtain ⟨x,hn⟩:=Ap hs ht hf
      have Jn:=(Rj (m:=m) (t:=t) (i:=q.t) (x:=x)).2
      by_cases h0:(dX m t q.t x).1.fault=0
      ·obtain ⟨t2,_,Mv,_⟩:=Aq hs ht hf hn h0
       rw [Mv]; exact ⟨by show (dX m t q.t x).1.er≤_; omega,Oh,xk⟩
      ·rw [(Ar hs ht hf hn h0).1]; exact ⟨by show (dX m t q.t x).1.er≤_; omega,Oh,xk⟩
  ·rw [(ph hd hc ha).1]; exact ⟨by omega,rfl,rfl⟩
theorem akV {α:Type} {g:α→Bool} {l:List α} (h:0≤uN g l):uN g l<l.length:=by
 unfold uN at h ⊢
 cases hf:l.findIdx? g with
 | none=>rw [hf] at h; simp at h
 | some k=>
  have:=(List.findIdx?_eq_some_iff_getElem.1 hf).1
  simp; exact this
theorem AH {ns:List ByteArray} {s:ByteArray} (h:0≤dO ns s):dO ns s<ns.length:=akV h
theorem Mf {s:ByteArray} (h:jY s=true):s≠⟨#[]⟩:=by
 rintro rfl
 exact absurd h (by decide)
theorem Ex.arL (ns:List ByteArray) (t:Ex):t.wf→∀ n h:Int,0≤n→∃ h',(t.steps ns).foldl KB (some (n,h))=some (n+1,h'):=by
 induction t with
 | leaf x=>
  intro hw n h hn
  have Nk:kids x.op=0:=hw
  have hw1:fE x.op=0:=by
   unfold kids at Nk
   unfold fE
   split at Nk <;> (try split at Nk) <;> (try split at Nk) <;> repeat' split
   all_goals omega
  refine ⟨max h (n+1),(show KB (some (n,h)) ⟨x.op,Ex.numOf ns x⟩=some (n+1,max h (n+1)) from ?_)⟩
  unfold KB; dsimp only; rw [hw1,if_neg (by omega),Int.sub_zero]
 | un x a ih=>
  intro hw n h hn
  have Nk:kids x.op=1:=hw.1
  have hw1:fE x.op=1:=by
   unfold kids at Nk
   unfold fE
   split at Nk <;> (try split at Nk) <;> (try split at Nk) <;> repeat' split
   all_goals omega
  obtain ⟨h1,e1⟩:=ih hw.2 n h hn
  refine ⟨max h1 (n+1),?_⟩
  show List.foldl KB (some (n,h)) (a.steps ns++[(⟨x.op,numOf ns x⟩:nk)])=_
  rw [List.foldl_append,e1]
  show KB (some (n+1,h1)) ⟨x.op,numOf ns x⟩=_
  unfold KB; dsimp only; rw [hw1,if_neg (by omega),Int.add_sub_cancel]
 | bin x a b vx xD=>
  intro hw n h hn
  have Nk:kids x.op=2:=hw.1
  have hw1:fE x.op=2:=by
   unfold kids at Nk
   unfold fE
   split at Nk <;> (try split at Nk) <;> (try split at Nk) <;> repeat' split
   all_goals omega
  obtain ⟨h1,e1⟩:=vx hw.2.1 n h hn
  obtain ⟨h2,e2⟩:=xD hw.2.2 (n+1) h1 (by omega)
  refine ⟨max h2 (n+1),?_⟩
  show List.foldl KB (some (n,h)) (a.steps ns++b.steps ns++[(⟨x.op,numOf ns x⟩:nk)])=_
  rw [List.foldl_append,List.foldl_append,e1,e2]
  show KB (some (n+1+1,h2)) ⟨x.op,numOf ns x⟩=_
  unfold KB; dsimp only; rw [hw1,if_neg (by omega),show n+1+1 - 2+1=n+1 from by omega]
theorem Jg {k:Int} (h:kids k=0∨kids k=1∨kids k=2):1≤k∧k≤15:=by
 unfold kids at h
 repeat' split at h
 all_goals omega
theorem Ex.SY (ns:List ByteArray) (t:Ex):t.wf→∀ o∈t.steps ns,∃ x∈t.flat,o=⟨x.op,numOf ns x⟩∧1≤x.op∧x.op≤15:=by
 induction t with
 | leaf x=>intro hw o ho; exact ⟨x,by simp [Ex.flat],by simpa [Ex.steps] using ho,Jg (.inl hw)⟩
 | un x a ih=>
  intro hw o ho
  have ho:o∈a.steps ns++[⟨x.op,numOf ns x⟩]:=ho
  rw [List.mem_append] at ho
  rcases ho with ho | ho
  ·obtain ⟨y,h1,h2⟩:=ih hw.2 o ho; exact ⟨y,by simp [Ex.flat,h1],h2⟩
  ·exact ⟨x,by simp [Ex.flat],by simpa using ho,Jg (.inr (.inl hw.1))⟩
 | bin x a b vx xD=>
  intro hw o ho
  have ho:o∈a.steps ns++b.steps ns++[⟨x.op,numOf ns x⟩]:=ho
  rw [List.mem_append,List.mem_append] at ho
  rcases ho with (ho | ho) | ho
  ·obtain ⟨y,h1,h2⟩:=vx hw.2.1 o ho; exact ⟨y,by simp [Ex.flat,h1],h2⟩
  ·obtain ⟨y,h1,h2⟩:=xD hw.2.2 o ho; exact ⟨y,by simp [Ex.flat,h1],h2⟩
  ·exact ⟨x,by simp [Ex.flat],by simpa using ho,Jg (.inr (.inr hw.1))⟩
theorem wK {ns:List ByteArray} {l:List cW} {many:Int} (hr:jy l=true) (hv:vl l ns=false) (hm:many=ns.length):eK (gg ns l) many=true∧(gg ns l).length≤40:=by
 have hr0:=hr
 unfold jy at hr
 simp only [Bool.and_eq_true,Bool.not_eq_true',decide_eq_true_eq,List.any_eq_false] at hr
 obtain ⟨⟨⟨h1,h2⟩,h3⟩,h4⟩:=hr
 obtain ⟨t,ht0⟩:=Option.isSome_iff_exists.1 h2
 obtain ⟨hw,Ca⟩:=yo ht0
 have hv0:=hv
 unfold vl at hv
 have he:xV ns l=0:=by unfold xV; rw [if_neg (by rw [hr0]; decide),if_neg (by rw [hv]; decide)]
 have hl:gg ns l=t.steps ns:=by unfold gg; rw [if_pos he]; unfold Nn; rw [ht0]
 rw [hl]
 have hlen:(t.steps ns).length≤40:=by rw [Ex.xb,← Ex.cO,← Ca]; exact h1
 obtain ⟨h',e'⟩:=t.arL ns hw 0 0 (Int.le_refl _)
 have e2:ht (t.steps ns)=some (1,h'):=by unfold ht; rw [e']; rfl
 refine ⟨?_,hlen⟩
 unfold eK htN
 rw [e2]
 simp only [Option.isSome_some,decide_true,Bool.and_true,Bool.and_eq_true,decide_eq_true_eq,Bool.not_eq_true',List.any_eq_false]
 refine ⟨hlen,λ o ho=>?_⟩
 obtain ⟨x,hx,rfl,Tg,Jn⟩:=t.SY ns hw o ho
 rw [← Ca] at hx
 have XR:=h3 x hx
 unfold oO at XR
 simp only [Bool.or_eq_true,decide_eq_true_eq,not_or,Bool.and_eq_true,Bool.not_eq_true',not_and,Bool.not_eq_false] at XR
 obtain ⟨⟨⟨⟨g1,g2⟩,g3⟩,g4⟩,g5⟩:=XR
 have hn:Ex.numOf ns x=if x.op=2 then dO ns x.name else x.n:=rfl
 unfold se
 simp only [decide_eq_true_eq]
 rintro (⟨q1,q2⟩ | ⟨q1,q2⟩ | ⟨q1,q2,q3⟩)
 ·have q1:x.op=1:=q1
  rw [hn,if_neg (by omega)] at q2; omega
 ·have q1:x.op=2:=q1
  rw [hn,if_pos q1] at q2
  rw [List.any_eq_false] at hv
  have:=hv x hx
  simp only [Bool.and_eq_true,decide_eq_true_eq,not_and] at this
  have h5:=this q1
  have h6:=AH (ns:=ns) (s:=x.name) (by omega)
  omega
 ·have q1:¬ x.op=1:=q1
  have q2:¬ x.op=2:=q2
  rw [hn,if_neg q2] at q3
  have:=g2
  omega
theorem arN {k:Int} (h:1≤k∧k≤14):eo (j3 k) 101=decide (k=1∨k=3∨k=4∨k=11∨k=14)∧eo (j3 k) 102=decide (k=4)∧eo (j3 k) 114=decide (k=1∨k=2∨k=4)∧eo (j3 k) 110=decide (k=2∨k=3∨k=4∨k=5∨k=6∨k=9∨k=10):=by
 obtain rfl | rfl | rfl | rfl | rfl | rfl | rfl | rfl | rfl | rfl | rfl | rfl | rfl | rfl:k=1∨k=2∨k=3∨k=4∨k=5∨k=6∨k=7∨k=8∨k=9∨k=10∨k=11∨k=12∨k=13∨k=14:=by omega
 all_goals decide
structure arO (x:cE):Prop where
 kind:1≤x.kind∧x.kind≤14
 e1:x.kind=1∨x.kind=3∨x.kind=4∨x.kind=11∨x.kind=14→jy x.e=true
 e0:¬ (x.kind=1∨x.kind=3∨x.kind=4∨x.kind=11∨x.kind=14)→x.e=[]
 f1:x.kind=4→jy x.f=true
 f0:¬ x.kind=4→x.f=[]
 r1:x.kind=1∨x.kind=2∨x.kind=4→jY x.gJ=true
 r0:¬ (x.kind=1∨x.kind=2∨x.kind=4)→x.gJ=⟨#[]⟩
theorem ay5 {x:cE} (h:q9 x=true):arO x:=by
 have h:=Ba h
 obtain ⟨g1,g2,g3,g4⟩:=arN h.kind
 refine ⟨h.kind,λ hk=>?_,λ hk=>?_,λ hk=>?_,λ hk=>?_,λ hk=>?_,λ hk=>?_⟩
 ·rcases h.e with q | q
  ·exact q.2
  ·rw [g1,decide_eq_true hk] at q; exact absurd q.1 (by decide)
 ·rcases h.e with q | q
  ·rw [g1,decide_eq_false hk] at q; exact absurd q.1 (by decide)
  ·exact q.2
 ·rcases h.f with q | q
  ·exact q.2
  ·rw [g2,decide_eq_true hk] at q; exact absurd q.1 (by decide)
 ·rcases h.f with q | q
  ·rw [g2,decide_eq_false hk] at q; exact absurd q.1 (by decide)
  ·exact q.2
 ·rcases h.gJ with q | q
  ·exact q.2
  ·rw [g3,decide_eq_true hk] at q; exact absurd q.1 (by decide)
 ·rcases h.gJ with q | q
  ·rw [g3,decide_eq_false hk] at q; exact absurd q.1 (by decide)
  ·exact q.2
theorem Hn (ns:List ByteArray):gg ns []=[]:=by
 unfold gg; split
 ·rfl
 ·rfl
theorem CT:∀ (ls:List (List dF)) (i a:Int),0≤a→(∀ l∈ls,l≠[])→i≤ir ls i a∧(∀ b,a≤b→ir ls i a≤ir ls i b)∧(ir ls i (a+1)=ir ls i a∨ir ls i (a+1)=ir ls i a+1)
 | [],i,a,ha,_=>⟨by unfold ir; omega,λ b hb=>by unfold ir; omega,by unfold ir; omega⟩
 | l::r,i,a,ha,hl=>by
  have B7:0<l.length:=List.length_pos_iff.2 (hl l (List.mem_cons_self ..))
  have hr:=λ l C7=>hl l (List.mem_cons_of_mem _ C7)
  unfold ir
  by_cases h1:a<l.length
  ·rw [if_pos h1]
   refine ⟨Int.le_refl _,λ b hb=>?_,?_⟩
   ·split
    ·exact Int.le_refl _
    ·have:=(CT r (i+1) (b - l.length) (by omega) hr).1; omega
   ·split
    ·exact .inl rfl
    ·have e:a+1 - (l.length:Int)=0:=by omega
     rw [e]
     cases r with
     | nil=>unfold ir; omega
     | cons l2 r2=>
      have hne2:0<l2.length:=List.length_pos_iff.2 (hr l2 (List.mem_cons_self ..))
      unfold ir; rw [if_pos (by omega)]; exact .inr rfl
  ·rw [if_neg h1]
   obtain ⟨g1,g2,g3⟩:=CT r (i+1) (a - l.length) (by omega) hr
   refine ⟨by omega,λ b hb=>?_,?_⟩
   ·rw [if_neg (by omega)]; exact g2 _ (by omega)
   ·rw [if_neg (by omega),show a+1 - (l.length:Int)=a - l.length+1 from by omega]; exact g3
theorem CU:∀ (ls:List (List dF)) (i a:Int),(ls.flatten.length:Int)≤a→ir ls i a=i+ls.length+(a - ls.flatten.length)
 | [],i,a,_=>by unfold ir; simp
 | l::r,i,a,ha=>by
  have e:(((l::r).flatten).length:Int)=l.length+r.flatten.length:=by simp
  unfold ir
  rw [if_neg (by omega),CU r (i+1) (a - l.length) (by omega),e]
  simp only [List.length_cons]
  omega
theorem Rk:∀ (ls:List (List dF)) (i a:Int),0≤a→a<ls.flatten.length→ir ls i a<i+ls.length
 | [],i,a,h0,ha=>by simp at ha; omega
 | l::r,i,a,h0,ha=>by
  have e:(((l::r).flatten).length:Int)=l.length+r.flatten.length:=by simp
  unfold ir
  split
  ·simp only [List.length_cons]; omega
  ·have:=Rk r (i+1) (a - l.length) (by omega) (by omega)
   simp only [List.length_cons]; omega
section
variable {p:cX}
theorem Ho (p:cX):(eB p).lines.length=(gF p).length:=by show ((List.range _).map _).length=_; rw [List.length_map,List.length_range]
theorem Fe {i:Nat} (h:i<(gF p).length):(eB p).lines[i]? = some (l5 p i):=by
 show ((List.range _).map _)[i]? = _
 rw [List.getElem?_map,List.getElem?_range h]; rfl
theorem Bg.pf (h:Bg p):PF p:=wh h.right
theorem Bg.sz (h:Bg p):p.lines.length≤4∧(∀ l∈p.lines,l.length≤4)∧p.jP.length≤4∧p.locks.length≤2∧1≤p.threads.length∧p.threads.length≤3∧p.cC.length≤4∧∀ t∈iG p,t.aK.length≤4:=by
 have hb:=h.big
 unfold zP at hb
 simp only [Bool.or_eq_false_iff,decide_eq_false_iff_not,List.any_eq_false,decide_eq_true_eq] at hb
 obtain ⟨⟨h1,h2⟩,⟨⟨⟨⟨⟨h3,h4⟩,h5⟩,h6⟩,h7⟩,h8⟩⟩:=hb
 exact ⟨by omega,λ l hl=>by have:=h1 l hl; omega,by omega,by omega,by omega,by omega,by omega,λ t ht=>by have:=h2 t ht; omega⟩
theorem Mg:∀ {ls:List (List dF)},(∀ l∈ls,l.length≤4)→ls.flatten.length≤4 * ls.length
 | [],_=>by simp
 | l::r,h=>by
  have h1:=h l (List.mem_cons_self ..)
  have h2:=Mg (ls:=r) λ l hl=>h l (List.mem_cons_of_mem _ hl)
  rw [List.flatten_cons,List.length_append,List.length_cons]; omega
theorem Bg.gF (h:Bg p):(gF p).length≤20:=by
 obtain ⟨h1,h2,h3,_⟩:=h.sz
 have:=Mg h2
 unfold Go.Proofs.YtnjcingfdhjfkaaGreat.gF
 rw [List.length_append]; omega
theorem Ff (p:cX):0≤et p∧et p≤(gF p).length:=by unfold et gF; rw [List.length_append]; omega
theorem wL {c:Int} (h:0≤c∧c<(gF p).length):l5 p c=ir p.lines 0 c:=by unfold l5; rw [if_neg (by omega)]
theorem SZ (h:Bg p) {c:Int} (hc:0≤c∧c<et p):0≤l5 p c∧l5 p c<gp (eB p):=by
 have hs:=Ff p
 have B7:=λ l hl=>(h.pf.lines l hl).1
 obtain ⟨g1,g2,_⟩:=CT p.lines 0 c hc.1 B7
 rw [wL (by omega)]
 refine ⟨g1,?_⟩
 have g3:=g2 (et p - 1) (by omega)
 have e:gp (eB p)=ir p.lines 0 (et p - 1)+1:=by
  unfold gp
  rw [Ho]
  show (if 1≤et p∧et p≤((Go.Proofs.YtnjcingfdhjfkaaGreat.gF p).length:Int) then (eB p).lines.getD (et p - 1).toNat 0+1 else 0)=_
  rw [if_pos (by omega),List.getD_eq_getElem?_getD,Fe (by omega)]
  show l5 p ((et p - 1).toNat:Nat)+1=_
  rw [show (((et p - 1).toNat:Nat):Int)=et p - 1 from by omega,wL (by omega)]
 omega
theorem OS (h:Bg p) {i:Nat} (hi:i<(gF p).length):j6 (eB p) i=false:=by
 have B7:=λ l hl=>(h.pf.lines l hl).1
 have hs:=Ff p
 unfold j6
 rw [Fe hi]
 dsimp only
 by_cases h0:i=0
 ·subst h0
  have e:l5 p (0:Nat)=0:=by
   rw [wL (by omega)]
   cases hl:p.lines with
   | nil=>unfold ir; rfl
   | cons l r=>
    have:=List.length_pos_iff.2 (B7 l (by rw [hl]; exact List.mem_cons_self ..))
    unfold ir; rw [if_pos (by omega)]
  rw [e]
  have e2:lq (eB p).lines 0=0:=rfl
  rw [e2]; rfl
 ·have e2:lq (eB p).lines i=l5 p ((i - 1:Nat):Int)+1:=by
   unfold lq; rw [if_neg h0,List.getD_eq_getElem?_getD,Fe (by omega)]; rfl
  rw [e2,wL (by omega),wL (by omega)]
  obtain ⟨_,_,g3⟩:=CT p.lines 0 ((i - 1:Nat):Int) (by omega) B7
  rw [show ((i - 1:Nat):Int)+1=(i:Int) from by omega] at g3
  by_cases gk:(i:Int)<et p
  ·rcases g3 with g3 | g3
   ·rw [g3]
    have e3:decide ((eB p).stays≤(i:Int))=false:=decide_eq_false (by show ¬ et p≤_; omega)
    rw [e3,decide_eq_false h0]
    simp
   ·rw [g3]; simp
  ·have hlen:(p.lines.flatten.length:Int)=et p:=rfl
   by_cases KU:((i - 1:Nat):Int)<et p
   ·have hi2:(i:Int)=et p:=by omega
    have q1:=CU p.lines 0 i (by omega)
    have q2:=Rk p.lines 0 ((i - 1:Nat):Int) (by omega) (by omega)
    have:ir p.lines 0 i=ir p.lines 0 ((i - 1:Nat):Int)+1:=by omega
    rw [this]; simp
   ·have q1:=CU p.lines 0 i (by omega)
    have q2:=CU p.lines 0 ((i - 1:Nat):Int) (by omega)
    have:ir p.lines 0 i=ir p.lines 0 ((i - 1:Nat):Int)+1:=by omega
    rw [this]; simp
end
theorem OT {ns:List ByteArray} (h:∀ s∈ns,jY s=true):dO ns ⟨#[]⟩ = -1:=ko λ y hy=>decide_eq_false (Mf (h y hy))
structure StK (p:cX) (rs:List ByteArray) (x:cE):Prop where
 fit:arO x
 rg:∀ s∈rs,jY s=true
 nb:om p rs x=false
section
variable {p:cX} {rs:List ByteArray} {x:cE} {c:fm}
theorem arP (h:StK p rs x) (hc:c.aK=rs.length) (hk:x.kind=1∨x.kind=3∨x.kind=4∨x.kind=11∨x.kind=14):eK (gg rs x.e) c.aK=true:=by
 have hb:=h.nb; unfold om at hb; simp only [Bool.or_eq_false_iff] at hb
 exact (wK (h.fit.e1 hk) hb.1.2 hc).1
theorem ay6 (h:StK p rs x) (hc:c.aK=rs.length) (hk:x.kind=4):eK (gg rs x.f) c.aK=true:=by
 have hb:=h.nb; unfold om at hb; simp only [Bool.or_eq_false_iff] at hb
 exact (wK (h.fit.f1 hk) hb.2 hc).1
theorem adF (hp:Bg p) (h:StK p rs x) (hc:c.aK=rs.length) (hk:¬ x.kind=11) (Jn:¬ x.kind=12) (hk3:¬ x.kind=13) :
  uY (lD p rs x) c (gF p).length (gp (eB p)) p.locks.length=true∧(lD p rs x).to=0∧¬ (lD p rs x).kind=11∧¬ (lD p rs x).kind=12∧¬ (lD p rs x).kind=13∧¬ (lD p rs x).kind=14:=by
 have hkd:=h.fit.kind
 have ng:(lD p rs x).kind=if x.kind=14 then 15 else x.kind:=rfl
 have hka:¬ (lD p rs x).kind=11∧¬ (lD p rs x).kind=12∧¬ (lD p rs x).kind=13∧¬ (lD p rs x).kind=14∧1≤(lD p rs x).kind∧(lD p rs x).kind≤15:=by rw [ng]; split <;> omega
 refine ⟨?_,rfl,hka.1,hka.2.1,hka.2.2.1,hka.2.2.2.1⟩
 have hb:=h.nb; unfold om at hb
 simp only [Bool.or_eq_false_iff,Bool.and_eq_false_iff,decide_eq_false_iff_not,not_or,Decidable.not_not] at hb
 obtain ⟨⟨⟨⟨⟨b1,b2⟩,b3⟩,b4⟩,b5⟩,b6⟩:=hb
 have hE:(if so (lD p rs x).kind=true then eK (lD p rs x).e c.aK else !decide (0<((lD p rs x).e.length:Int)))=true:=by
  by_cases hq:x.kind=1∨x.kind=3∨x.kind=4∨x.kind=11∨x.kind=14
  ·have B7:so (lD p rs x).kind=true:=by
    unfold so; rw [ng]
    split
    ·rfl
    ·simp only [Bool.or_eq_true,decide_eq_true_eq]; omega
   rw [if_pos B7]; exact arP h hc hq
  ·have B7:¬ so (lD p rs x).kind=true:=by
    unfold so; rw [ng,if_neg (by omega)]
    simp only [Bool.or_eq_true,decide_eq_true_eq]; omega
   rw [if_neg B7]
   have:(lD p rs x).e=[]:=by show gg rs x.e=[]; rw [h.fit.e0 hq,Hn]
   rw [this]; rfl
 have hF:(if (lD p rs x).kind=4 then eK (lD p rs x).f c.aK else !decide (0<((lD p rs x).f.length:Int)))=true:=by
  by_cases hq:x.kind=4
  ·rw [if_pos (by rw [ng]; split <;> omega)]; exact ay6 h hc hq
  ·rw [if_neg (by rw [ng]; split <;> omega)]
   have:(lD p rs x).f=[]:=by show gg rs x.f=[]; rw [h.fit.f0 hq,Hn]
   rw [this]; rfl
 have hA:aM (lD p rs x) c.aK c.counts=true:=by
  unfold aM
  rw [if_neg (by omega)]
  have ea:(lD p rs x).a=max 0 (dO rs x.gJ):=rfl
  by_cases hq:x.kind=1∨x.kind=2∨x.kind=4
  ·rw [if_pos (by rw [ng]; split <;> omega),ea]
   have B7:=Mf (h.fit.r1 hq)
   have:¬ dO rs x.gJ<0:=by
    rcases b1 with b1 | b1
    ·exact absurd b1 B7
    ·exact b1
   have h2:=AH (ns:=rs) (s:=x.gJ) (by omega)
   unfold Lm; simp only [Bool.and_eq_true,decide_eq_true_eq]; omega
  ·rw [if_neg (by rw [ng]; split <;> omega),ea,h.fit.r0 hq,OT h.rg]; rfl
 have hB:bM (lD p rs x) (gF p).length (gp (eB p)) p.locks.length=true:=by
  unfold bM
  have eb:(lD p rs x).b=if x.kind=2∨x.kind=3∨x.kind=4 then dO (fb p) x.name else if x.kind=5∨x.kind=6 then l5 p (dO (fb p) x.name) else if x.kind=9∨x.kind=10 then dO (gY p) x.name else 0:=rfl
  have Ql:(fb p).length=(gF p).length:=by unfold fb; rw [List.length_map]
  have Nm:(gY p).length=p.locks.length:=by unfold gY; rw [List.length_map]
  by_cases q1:x.kind=2∨x.kind=3∨x.kind=4
  ·rw [if_pos (by rw [ng]; split <;> omega),eb,if_pos q1]
   have h1:¬ dO (fb p) x.name<0:=by
    rcases b2 with b2 | b2
    ·omega
    ·exact b2
   have h2:=AH (ns:=fb p) (s:=x.name) (by omega)
   unfold Lm; simp only [Bool.and_eq_true,decide_eq_true_eq]; omega
  ·rw [if_neg (by rw [ng]; split <;> omega)]
   by_cases q2:x.kind=5∨x.kind=6
   ·rw [if_pos (by rw [ng]; split <;> omega),eb,if_neg q1,if_pos q2]
    have h1:¬ dO (fb p) x.name<0∧¬ et p≤dO (fb p) x.name:=by
     rcases b3 with b3 | b3
     ·omega
     ·exact b3
    have:=SZ hp (c:=dO (fb p) x.name) (by omega)
    unfold Lm; simp only [Bool.and_eq_true,decide_eq_true_eq]; omega
   ·rw [if_neg (by rw [ng]; split <;> omega)]
    by_cases q3:x.kind=9∨x.kind=10
    ·rw [if_pos (by rw [ng]; split <;> omega),eb,if_neg q1,if_neg q2,if_pos q3]
     have h1:¬ dO (gY p) x.name<0:=by
      rcases b4 with b4 | b4
      ·omega
      ·exact b4
     have h2:=AH (ns:=gY p) (s:=x.name) (by omega)
     unfold Lm; simp only [Bool.and_eq_true,decide_eq_true_eq]; omega
    ·rw [if_neg (by rw [ng]; split <;> omega),if_neg hka.2.2.1,eb,if_neg q1,if_neg q2,if_neg q3]; rfl
 unfold uY efM
 rw [hE,hF,hA,hB,decide_eq_true hka.2.2.2.2.1,decide_eq_true hka.2.2.2.2.2]; rfl
end
structure XS (c:fm) (cells lines locks:Int) (L:List aW) (i:Nat) (x:aW):Prop where
 fld:uY x c cells lines locks=true
 to:IG L i x=true
 nest:x.kind=14→∀ (k:Nat) (y:aW),x.to≤k→k<i→L[k]? = some y→y.kind=14→x.to≤y.to
 b13:x.kind=14→∃ y,L[(x.to - 1).toNat]? = some y∧y.kind=13
def XT (L:List aW) (n:Nat) (l:List aW):Prop:=∀ (k:Nat) (y:aW),l[k]? = some y→L[n+k]? = some y
def qf (c:fm) (cells lines locks:Int) (L:List aW) (n:Nat) (l:List aW):Prop:=∀ (k:Nat) (y:aW),l[k]? = some y→XS c cells lines locks L (n+k) y
section
variable {L l1 l2:List aW} {n:Nat} {c:fm} {cells lines locks:Int}
theorem XT.left (h:XT L n (l1++l2)):XT L n l1:=λ k y hk=>h k y (by rw [List.getElem?_append_left (List.getElem?_eq_some_iff.1 hk).1]; exact hk)
theorem XT.right (h:XT L n (l1++l2)):XT L (n+l1.length) l2:=λ k y hk=>by
 have:=h (l1.length+k) y (by rw [List.getElem?_append_right (by omega),Nat.add_sub_cancel_left]; exact hk)
 rw [Nat.add_assoc]; exact this
theorem XT.one {y:aW} (h:XT L n [y]):L[n]? = some y:=h 0 y rfl
theorem qf.app (h1:qf c cells lines locks L n l1) (h2:qf c cells lines locks L (n+l1.length) l2):qf c cells lines locks L n (l1++l2):=λ k y hk=>by
 rcases Nat.lt_or_ge k l1.length with h | h
 ·rw [List.getElem?_append_left h] at hk; exact h1 k y hk
 ·rw [List.getElem?_append_right h] at hk
  have:=h2 (k - l1.length) y hk
  rwa [show n+l1.length+(k - l1.length)=n+k from by omega] at this
theorem qf.nil:qf c cells lines locks L n []:=λ k y hk=>by simp at hk
theorem qf.one {y:aW} (h:XS c cells lines locks L n y):qf c cells lines locks L n [y]:=λ k z hk=>by
 cases k with
 | zero=>simp at hk; subst hk; exact h
 | succ k=>simp at hk
end
theorem Rl (p:cX) (rs:List ByteArray) (t:Bk):∀ at_ lp out,∀ y∈eQ p rs t at_ lp out,(y.kind=13→lp≤y.a)∧(y.kind=14→at_+1≤y.to):=by
 induction t with
 | nil=>intro at_ lp out y hy; cases hy
 | cons x a b r vx xD GB=>
  intro at_ lp out y hy
  rw [uW,List.mem_append] at hy
  have hsa:=iR a
  rcases hy with hy | hy
  ·unfold FL at hy
   split at hy
   ·have ht:at_+1≤rj x a at_:=by unfold rj; split <;> omega
    rw [List.mem_append,List.mem_append,List.mem_append] at hy
    rcases hy with ((hy | hy) | hy) | hy
    ·rw [List.mem_singleton] at hy; subst hy; exact ⟨λ h=>by simp at h,λ h=>by simp at h⟩
    ·have:=vx _ _ _ y hy; exact ⟨this.1,λ h=>by have:=this.2 h; omega⟩
    ·split at hy
     ·rw [List.mem_singleton] at hy; subst hy; exact ⟨λ h=>by simp at h,λ h=>by simp at h⟩
     ·cases hy
    ·have:=xD _ _ _ y hy; exact ⟨this.1,λ h=>by have:=this.2 h; omega⟩
   ·split at hy
    ·rw [List.mem_append,List.mem_append] at hy
     rcases hy with (hy | hy) | hy
     ·rw [List.mem_singleton] at hy; subst hy; exact ⟨λ _=>Int.le_refl _,λ h=>by simp at h⟩
     ·have:=vx _ _ _ y hy; exact ⟨λ h=>by have:=this.1 h; omega,λ h=>by have:=this.2 h; omega⟩
     ·rw [List.mem_singleton] at hy; subst hy; exact ⟨λ h=>by simp at h,λ _=>Int.le_refl _⟩
    ·split at hy
     ·rw [List.mem_singleton] at hy; subst hy; exact ⟨λ h=>by simp at h,λ h=>by simp at h⟩
     ·rename_i h1 h2 h3
      rw [List.mem_singleton] at hy; subst hy
      have e:(lD p rs x).kind=if x.kind=14 then 15 else x.kind:=rfl
      refine ⟨λ h=>?_,λ h=>?_⟩
      ·rw [e] at h; split at h <;> omega
      ·rw [e] at h; split at h <;> omega
  ·have:=GB _ _ _ y hy
   exact ⟨this.1,λ h=>by have:=this.2 h; omega⟩
theorem Fg {b:Bk} (h:(b.len:Int)≤0):b = .nil:=by
 cases b with
 | nil=>rfl
 | cons x a b r=>exfalso; unfold Bk.len at h; omega
theorem Rm {x:aW} {r:Int} (he:so x.kind=false) (h1:x.e=[]) (hk:¬ x.kind=4) (h2:x.f=[]):efM x r=true:=by
 unfold efM; rw [if_neg (by rw [he]; decide),if_neg hk,h1,h2]; rfl
section
variable {p:cX} {rs:List ByteArray} {c:fm}
theorem adG (hp:Bg p) (hc:c.aK=rs.length) (L:List aW) (t:Bk):∀ (n:Nat) (lp out loops:Int),XT L n (eQ p rs t n lp out)→n+bV t≤(L.length:Int)→t.ok loops=true→t.str→kr t→0≤loops→
  (loops≠0→n+bV t≤out∧out≤L.length)→0≤lp→lp+iS t≤c.counts→(∀ x∈t.flat,StK p rs x)→qf c (gF p).length (gp (eB p)) p.locks.length L n (eQ p rs t n lp out):=by
 induction t with
 | nil=>intros; exact qf.nil
 | cons x a b r vx xD GB=>
  intro n lp out loops hE hL oB Iu Hz hlo adH LW Tx gk
  have hsa:=iR a; have hsb:=iR b; have hsr:=iR r
  have hda:=sS a; have hdb:=sS b; have hdr:=sS r
  obtain ⟨R9,hs2,_,_,OU,XU,XV⟩:=Iu
  have W7:=oB
  unfold Bk.ok at W7
  simp only [Bool.and_eq_true] at W7
  obtain ⟨⟨⟨ho1,O8⟩,XR⟩,ho4⟩:=W7
  unfold Bk.yO at ho1
  rw [decide_eq_true_eq] at ho1
  have hx:StK p rs x:=gk x (by simp [Bk.flat])
  have lz:bV (.cons x a b r)=(if x.kind=12 then 2+bV a else if x.kind=11 then (if 0<x.fD then 1+bV a+bV b+1 else 1+bV a+bV b) else 1)+bV r:=rfl
  have hdp:iS (.cons x a b r)=max (if x.kind=12 then max (iS a) (iS b)+1 else max (iS a) (iS b)) (iS r):=rfl
  rw [uW] at hE ⊢
  have Le:=Iw p rs x a b r n lp out
  have hER:=hE.right
  have OV:=hE.left
  generalize hH:FL p rs x a b n lp out=H at *
  refine qf.app ?_ ?_
  ·rw [← hH] at OV Le ⊢
   unfold FL at OV Le ⊢
   by_cases vy:x.kind=11
   ·rw [if_pos vy] at OV Le ⊢
    rw [if_neg (by omega),if_pos vy] at lz
    rw [if_neg (by omega)] at hdp
    have vh:Bk.BO x loops=loops:=by unfold Bk.BO; rw [if_neg (by omega)]
    rw [vh] at O8 XR
    have hA1:=OV.left.left.left
    have hA2:=OV.left.left.right
    have hA3:=OV.left.right
    have hA4:=OV.right
    have Mw:=gZ p rs a (n+1) lp out
    have CV:rj x a n=if 0<x.fD then (n:Int)+1+bV a+1 else (n:Int)+1+bV a:=rfl
    refine qf.app (qf.app (qf.app (qf.one ?_) ?_) ?_) ?_
    ·refine ⟨?_,?_,λ h=>by simp at h,λ h=>by simp at h⟩
     ·unfold uY efM aM bM so
      simp only [arP hx hc (.inr (.inr (.inr (.inl vy))))]
      rfl
     ·unfold IG; rw [if_pos (.inr rfl)]
      show (decide ((n:Int)<rj x a n) && decide (rj x a n≤L.length))=true
      rw [Bool.and_eq_true,decide_eq_true_eq,decide_eq_true_eq,CV]
      split <;> (rename_i he; first | rw [if_pos he] at lz | rw [if_neg he] at lz) <;> omega
    ·have hE2:XT L (n+1) (eQ p rs a ((n+1:Nat):Int) lp out):=hA2
     exact vx (n+1) lp out loops hE2 (by split at lz <;> omega) O8 OU Hz.a hlo (λ hl=>by have:=adH hl; refine ⟨?_,this.2⟩; split at lz <;> omega) LW (by omega) λ y hy=>gk y (by simp [Bk.flat,hy])
    ·split
     ·rename_i he
      refine qf.one ⟨?_,?_,λ h=>by simp at h,λ h=>by simp at h⟩
      ·rfl
      ·unfold IG; rw [if_pos (.inl rfl)]
       rw [if_pos he] at lz CV
       rw [Bool.and_eq_true,decide_eq_true_eq,decide_eq_true_eq]
       show ((n+([(⟨12,0,0,gg rs x.e,[],rj x a n⟩:aW)]++eQ p rs a (n+1) lp out).length:Nat):Int)<rj x a n+bV b∧rj x a n+bV b≤L.length
       rw [List.length_append,List.length_singleton,CV]
       omega
     ·exact qf.nil
    ·by_cases he:0<x.fD
     ·rw [if_pos he] at lz CV hA4 ⊢
      have hn4:((n+([(⟨12,0,0,gg rs x.e,[],rj x a n⟩:aW)]++eQ p rs a (n+1) lp out++[(⟨11,0,0,[],[],rj x a n+bV b⟩:aW)]).length:Nat):Int)=rj x a n:=by
       simp only [List.length_append,List.length_singleton]; rw [CV]; omega
      generalize n+([(⟨12,0,0,gg rs x.e,[],rj x a n⟩:aW)]++eQ p rs a (n+1) lp out++[(⟨11,0,0,[],[],rj x a n+bV b⟩:aW)]).length=m at hA4 hn4 ⊢
      rw [← hn4] at hA4 ⊢
      exact xD _ lp out loops hA4 (by rw [hn4,CV]; omega) XR XU Hz.b hlo (λ hl=>by have:=adH hl; rw [hn4,CV]; exact ⟨by omega,this.2⟩) LW (by omega) λ y hy=>gk y (by simp [Bk.flat,hy])
     ·have Jq:=Fg (b:=b) (by omega)
      subst Jq; exact qf.nil
   ·rw [if_neg vy] at OV Le ⊢
    by_cases xE:x.kind=12
    ·rw [if_pos xE] at OV Le ⊢
     rw [if_pos xE] at lz hdp
     have vh:Bk.BO x loops=loops+1:=by unfold Bk.BO; rw [if_pos xE]
     rw [vh] at O8
     have hA1:=OV.left.left
     have hA2:=OV.left.right
     have hA3:=OV.right
     have Mw:=gZ p rs a (n+1) (lp+1) (n+2+bV a)
     have hxn:=Hz.x xE
     have Jt:=hA1.one
     refine qf.app (qf.app (qf.one ?_) ?_) (qf.one ?_)
     ·refine ⟨?_,?_,λ h=>by simp at h,λ h=>by simp at h⟩
      ·unfold uY
       rw [Rm rfl rfl (by decide:¬ (13:Int)=4) rfl]
       have e1:aM ⟨13,lp,x.n,[],[],0⟩ c.aK c.counts=true:=by unfold aM; rw [if_pos (.inl rfl)]; unfold Lm; rw [Bool.and_eq_true,decide_eq_true_eq,decide_eq_true_eq]; exact ⟨LW,by show lp<c.counts; omega⟩
       have e2:bM ⟨13,lp,x.n,[],[],0⟩ (gF p).length (gp (eB p)) p.locks.length=true:=by
        unfold bM; show (decide (1≤x.n) && decide (x.n≤8))=true
        rw [Bool.and_eq_true,decide_eq_true_eq,decide_eq_true_eq]; exact hxn
       rw [e1,e2]; rfl
      ·rfl
     ·have hE2:XT L (n+1) (eQ p rs a ((n+1:Nat):Int) (lp+1) (n+2+bV a)):=hA2
      exact vx (n+1) (lp+1) (n+2+bV a) (loops+1) hE2 (by omega) O8 OU Hz.a (by omega) (λ _=>⟨by omega,by omega⟩) (by omega) (by omega) λ y hy=>gk y (by simp [Bk.flat,hy])
     ·have zh:n+([(⟨13,lp,x.n,[],[],0⟩:aW)]++eQ p rs a (n+1) (lp+1) (n+2+bV a)).length=n+1+(eQ p rs a (n+1) (lp+1) (n+2+bV a)).length:=by
       rw [List.length_append,List.length_singleton]; omega
      rw [zh]
      have age:∀ (k:Nat) (y:aW),n+1≤k→k<n+1+(eQ p rs a (n+1) (lp+1) (n+2+bV a)).length→L[k]? = some y→y∈eQ p rs a (n+1) (lp+1) (n+2+bV a):=by
       intro k y h1 h2 hy
       obtain ⟨z,hz⟩:∃ z,(eQ p rs a (n+1) (lp+1) (n+2+bV a))[k - (n+1)]? = some z:=⟨_,List.getElem?_eq_getElem (by omega)⟩
       have h3:L[n+1+(k - (n+1))]? = some z:=hA2 _ z hz
       rw [show n+1+(k - (n+1))=k from by omega,hy] at h3
       obtain rfl:=Option.some.inj h3
       exact List.mem_of_getElem? hz
      refine ⟨?_,?_,λ _ k y h1 h2 hy hk=>?_,λ _=>?_⟩
      ·unfold uY
       rw [Rm rfl rfl (by decide:¬ (14:Int)=4) rfl]
       have e1:aM ⟨14,lp,0,[],[],n+1⟩ c.aK c.counts=true:=by unfold aM; rw [if_pos (.inr rfl)]; unfold Lm; rw [Bool.and_eq_true,decide_eq_true_eq,decide_eq_true_eq]; exact ⟨LW,by show lp<c.counts; omega⟩
       have e2:bM ⟨14,lp,0,[],[],n+1⟩ (gF p).length (gp (eB p)) p.locks.length=true:=rfl
       rw [e1,e2]; rfl
      ·unfold IG; rw [if_neg (by decide:¬ ((14:Int)=11∨(14:Int)=12)),if_pos rfl]
       unfold BT
       rw [Bool.and_eq_true]
       refine ⟨?_,?_⟩
       ·rw [V5 (y:=⟨13,lp,x.n,[],[],0⟩) (by show 1≤(n:Int)+1; omega) (by show (n:Int)+1≤_; omega) (by show L[((n:Int)+1 - 1).toNat]? = _; rw [show ((n:Int)+1 - 1).toNat=n from by omega]; exact Jt)]
        unfold sq; simp
       ·rw [Bool.not_eq_true',List.any_eq_false]
        intro y hy
        obtain ⟨k,hk⟩:=o8 hy
        rw [List.getElem?_drop,List.getElem?_take] at hk
        split at hk
        ·have h5:=age _ y (by show n+1≤((n:Int)+1).toNat+k; omega) (by assumption) hk
         have h6:=(Rl p rs a _ _ _ y h5).1
         unfold sq
         rw [Bool.and_eq_true,decide_eq_true_eq,decide_eq_true_eq]
         rintro ⟨q1,q2⟩
         have:=h6 q1
         have q2:y.a=lp:=q2
         omega
        ·cases hk
      ·have h1:(n:Int)+1≤k:=h1
       have h5:=age k y (by omega) h2 hy
       have:=(Rl p rs a _ _ _ y h5).2 hk
       show (n:Int)+1≤y.to
       omega
      ·exact ⟨_,by show L[((n:Int)+1 - 1).toNat]? = _; rw [show ((n:Int)+1 - 1).toNat=n from by omega]; exact Jt,rfl⟩
    ·rw [if_neg xE] at OV Le ⊢
     rw [if_neg xE,if_neg vy] at lz
     by_cases Jt:x.kind=13
     ·rw [if_pos Jt] at OV Le ⊢
      have hl0:loops≠0:=by omega
      have hou:=adH hl0
      refine qf.one ⟨rfl,?_,λ h=>by simp at h,λ h=>by simp at h⟩
      unfold IG; rw [if_pos (.inl rfl)]
      rw [Bool.and_eq_true,decide_eq_true_eq,decide_eq_true_eq]
      show (n:Int)<out∧out≤L.length
      omega
     ·rw [if_neg Jt] at OV Le ⊢
      obtain ⟨g1,g2,g3,g4,g5,g6⟩:=adF (c:=c) hp hx hc vy xE Jt
      refine qf.one ⟨g1,?_,λ h=>absurd h g6,λ h=>absurd h g6⟩
      unfold IG; rw [if_neg (by omega),if_neg g6,g2]; rfl
  ·have hn2:((n+H.length:Nat):Int)=n+H.length:=by omega
   rw [← hn2] at hER ⊢
   exact GB _ lp out loops hER (by omega) ho4 XV Hz.r hlo (λ hl=>by have:=adH hl; exact ⟨by omega,this.2⟩) LW (by omega) λ y hy=>gk y (by simp [Bk.flat,hy])
end
theorem adI (t:Bk):∀ n:Int,t.ok n=true→t.str→iS t≤t.depth:=by
 induction t with
 | nil=>intro n _ _; exact Int.le_refl _
 | cons x a b r vx xD GB=>
  intro n oB Iu
  obtain ⟨R9,hs2,_,_,OU,XU,XV⟩:=Iu
  unfold Bk.ok at oB
  simp only [Bool.and_eq_true] at oB
  obtain ⟨⟨⟨ho1,O8⟩,XR⟩,ho4⟩:=oB
  unfold Bk.yO at ho1
  rw [decide_eq_true_eq] at ho1
  have h1:=vx _ O8 OU
  have h2:=xD _ XR XU
  have h3:=GB _ ho4 XV
  have hd:=Bk.q8 a
  have LN:=Bk.q8 b
  have hd3:=Bk.q8 r
  have e:iS (.cons x a b r)=max (if x.kind=12 then max (iS a) (iS b)+1 else max (iS a) (iS b)) (iS r):=rfl
  have e2:(Bk.cons x a b r).depth=if Bk.DX x then max (max (1+a.depth) (1+b.depth)) r.depth else r.depth:=rfl
  rw [e,e2]
  by_cases hk:x.kind=11∨x.kind=12
  ·have:Bk.DX x=true:=decide_eq_true hk
   rw [if_pos this]
   split <;> omega
  ·have:Bk.DX x=false:=decide_eq_false hk
   rw [if_neg (by omega:¬ x.kind=12),if_neg (show ¬ Bk.DX x=true by rw [this]; decide)]
   have ha:=Fg (b:=a) (by omega)
   have hb:=Fg (b:=b) (by omega)
   subst ha hb
   have:iS .nil=0:=rfl
   omega
section
variable {p:cX}
theorem Bg.stk (h:Bg p) {t:dQ} (ht:t∈iG p):∀ x∈t.body,StK p t.aK x:=by
 intro x hx
 obtain ⟨_,h2,_⟩:=nB (h.pf.nf ht).2.1
 refine ⟨ay5 (h2 x hx),(h.pf.nf ht).2.2,?_⟩
 have:=h.names t ht x hx
 simpa using this
theorem Mh (h:Bg p) {t:dQ} (ht:t∈iG p):lj (l8 p t) (gF p).length (gp (eB p)) p.locks.length=true∧CZ (l8 p t):=by
 obtain ⟨ay9,_,b,Ih,hb2,hb3,hb4⟩:=nB (h.pf.nf ht).2.1
 have ND:oP t.body=some b:=by rw [Ih]; exact oQ hb2
 have hq:kr b:=λ x hx=>by
  obtain ⟨_,h2,_⟩:=nB (h.pf.nf ht).2.1
  exact (Ns (h2 x (by rw [Ih]; exact hx))).2
 have hlen:b.len≤40:=by rw [← Bk.cO,← Ih]; exact ay9
 have hd:=adI b 0 hb3 hb2
 have LN:=sS b
 have BR:=(h.sz.2.2.2.2.2.2.2) t ht
 have hml:=gZ p t.aK b 0 0 0
 have lz:=iR b
 rw [Ep ND]
 have aza:qf ⟨t.aK.length,iS b,eQ p t.aK b 0 0 0⟩ (gF p).length (gp (eB p)) p.locks.length (eQ p t.aK b 0 0 0) 0 (eQ p t.aK b 0 0 0):=
  adG (c:=⟨t.aK.length,iS b,eQ p t.aK b 0 0 0⟩) h rfl (eQ p t.aK b 0 0 0) b 0 0 0 0 (λ k y hk=>by rw [Nat.zero_add]; exact hk) (by omega) hb3 hb2 hq (Int.le_refl _) (λ hh=>absurd rfl hh) (Int.le_refl _) (by show 0+iS b≤iS b; omega) (λ x hx=>h.stk ht x (by rw [Ih]; exact hx))
 have hG:∀ (i:Nat) (x:aW),(eQ p t.aK b 0 0 0)[i]? = some x→XS ⟨t.aK.length,iS b,eQ p t.aK b 0 0 0⟩ (gF p).length (gp (eB p)) p.locks.length (eQ p t.aK b 0 0 0) i x:=λ i x hx=>by
  have:=aza i x hx; rwa [Nat.zero_add] at this
 refine ⟨?_,?_,λ x hx=>?_⟩
 ·unfold lj
  have e1:u4 ⟨t.aK.length,iS b,eQ p t.aK b 0 0 0⟩=false:=by
   unfold u4
   simp only [Bool.or_eq_false_iff,decide_eq_false_iff_not]
   omega
  rw [e1,m6 (f:=uZ _ _ _ _) λ i hi=>?_,m6 (f:=qw _) λ i hi=>?_]
  ·rfl
  ·obtain ⟨x,hx⟩:∃ x,(eQ p t.aK b 0 0 0)[i]? = some x:=⟨_,List.getElem?_eq_getElem hi⟩
   have hg:=hG i x hx
   rw [xi hx]
   by_cases hk:x.kind=14
   ·rw [decide_eq_true hk,Bool.true_and]
    refine m6 λ k Jn=>?_
    obtain ⟨y,hy⟩:∃ y,(eQ p t.aK b 0 0 0)[k]? = some y:=⟨_,List.getElem?_eq_getElem (by have hi:i<(eQ p t.aK b 0 0 0).length:=hi; omega)⟩
    rw [z8 hy]
    by_cases hyk:y.kind=14
    ·rw [decide_eq_true hyk,Bool.true_and,Bool.not_eq_false',Bool.or_eq_true,decide_eq_true_eq,decide_eq_true_eq]
     by_cases h1:x.to≤k
     ·exact .inl (hg.nest hk k y h1 Jn hy hyk)
     ·by_cases h2:(k:Int)+1<x.to
      ·exact .inr h2
      ·exfalso
       obtain ⟨z,hz,hz2⟩:=hg.b13 hk
       rw [show (x.to - 1).toNat=k from by omega,hy] at hz
       obtain rfl:=Option.some.inj hz
       omega
    ·rw [decide_eq_false hyk,Bool.false_and]
   ·rw [decide_eq_false hk,Bool.false_and]
  ·obtain ⟨x,hx⟩:∃ x,(eQ p t.aK b 0 0 0)[i]? = some x:=⟨_,List.getElem?_eq_getElem hi⟩
   have hg:=hG i x hx
   rw [ue (show (⟨t.aK.length,iS b,eQ p t.aK b 0 0 0⟩:fm).l[i]? = some x from hx),hg.fld,hg.to]; rfl
 ·show (eQ p t.aK b 0 0 0).length≤1000; omega
 ·obtain ⟨i,hi⟩:=o8 (show x∈eQ p t.aK b 0 0 0 from hx)
  have hf:=(hG i x hi).fld
  unfold uY efM at hf
  simp only [Bool.and_eq_true] at hf
  obtain ⟨⟨h1,h2⟩,_⟩:=hf
  refine ⟨?_,?_⟩
  ·split at h1
   ·unfold eK at h1; simp only [Bool.and_eq_true,decide_eq_true_eq] at h1; omega
   ·simp at h1; rw [h1]; simp
  ·split at h2
   ·unfold eK at h2; simp only [Bool.and_eq_true,decide_eq_true_eq] at h2; omega
   ·simp at h2; rw [h2]; simp
theorem XW (a b c:Int):lj Lb a b c=true∧CZ Lb:=⟨rfl,by decide,λ x hx=>by cases hx⟩
theorem arS (h:Bg p):lj (eB p).recover (gF p).length (gp (eB p)) p.locks.length=true∧CZ (eB p).recover:=by
 show lj (match p.recover[0]? with | some t=>l8 p t | none=>⟨0,0,[]⟩) _ _ _=true∧CZ (match p.recover[0]? with | some t=>l8 p t | none=>⟨0,0,[]⟩)
 cases hr:p.recover[0]? with
 | none=>exact XW _ _ _
 | some t=>exact Mh h (List.mem_append_right _ (List.mem_of_getElem? hr))
theorem sH (h:Bg p):nt (eB p)=true∧UZ (eB p):=by
 obtain ⟨g1,g2,g3,g4,g5,g6,g7,g8⟩:=h.sz
 have mh:=h.gF
 have gk:=Ff p
 have Nm:=Ho p
 have Ca:(eB p).dC.length=(gF p).length:=by show ((gF p).map _).length=_; rw [List.length_map]
 have MZ:(eB p).threads.length=p.threads.length:=by show (p.threads.map _).length=_; rw [List.length_map]
 have Ql:(eB p).cC.length=p.cC.length:=by show (p.cC.map _).length=_; rw [List.length_map]
 have hth:∀ c∈(eB p).threads,lj c (gF p).length (gp (eB p)) p.locks.length=true∧CZ c:=λ c hc=>by
  obtain ⟨t,ht,rfl⟩:=List.mem_map.1 (show c∈p.threads.map (l8 p) from hc)
  exact Mh h (List.mem_append_left _ ht)
 have arT:∀ l∈(eB p).cC,eK l (eB p).stays=true∧l.length≤40:=λ l hl=>by
  obtain ⟨c,hc,rfl⟩:=List.mem_map.1 (show l∈p.cC.map (λ c=>gg (oR p) c.e) from hl)
  refine wK (h.pf.cl c hc).2 (by simpa using h.cC c hc) ?_
  show et p=((oR p).length:Int)
  unfold oR fb
  rw [List.length_take,List.length_map]; omega
 have akW:∀ c∈gF p,0≤c.n∧c.n≤4294967296:=λ c hc=>by
  unfold gF at hc
  rcases List.mem_append.1 hc with hc | hc
  ·obtain ⟨l,hl,azc⟩:=List.mem_flatten.1 hc
   have:=re ((h.pf.lines l hl).2 c azc); exact ⟨this.2.2.1,this.2.2.2⟩
  ·have:=re (h.pf.jP c hc); exact ⟨this.2.2.1,this.2.2.2⟩
 refine ⟨?_,?_⟩
 ·unfold nt
  have e1:kQ (eB p)=false:=by
   unfold kQ
   rw [Nm,Ca,MZ]
   have e2:(eB p).stays=et p:=rfl
   have e3:(eB p).locks=p.locks.length:=rfl
   rw [e2,e3]
   simp only [Bool.or_eq_false_iff,decide_eq_false_iff_not,not_true_eq_false,not_false_eq_true,and_true]
   omega
  have e2:(eB p).dC.any lr=false:=iF λ n hn=>by
   obtain ⟨c,hc,rfl⟩:=List.mem_map.1 (show n∈(gF p).map dF.n from hn)
   have:=akW c hc
   unfold lr
   rw [decide_eq_false (by omega),decide_eq_false (by omega)]; rfl
  have e3:(List.range (eB p).lines.length).any (j6 (eB p))=false:=m6 λ i hi=>OS h (by omega)
  have e4:(eB p).threads.any (λ c=>!lj c (eB p).lines.length (gp (eB p)) (eB p).locks)=false:=iF λ c hc=>by
   have:=(hth c hc).1
   rw [Nm]
   show (!lj c (gF p).length (gp (eB p)) p.locks.length)=false
   rw [this]; rfl
  have e5:(eB p).cC.any (λ l=>!eK l (eB p).stays)=false:=iF λ l hl=>by rw [(arT l hl).1]; rfl
  rw [e1,e2,e3,e4,e5,Nm]
  show (!false && (!false && !false && !false && !false && lj (eB p).recover (gF p).length (gp (eB p)) p.locks.length))=true
  rw [(arS h).1]; rfl
 ·exact ⟨by omega,by omega,by omega,by omega,λ c hc=>(hth c hc).2,(arS h).2,λ l hl=>by have:=(arT l hl).2; omega⟩
end
end Go.Proofs.YtnjcingfdhjfkaaGreat
