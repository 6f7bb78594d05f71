/-
  What the proof needs, part 7.
-/
import Derived.Test.YtnjcingfdhjfkaaGreatVaM6
set_option linter.all false
namespace Go.Proofs.YtnjcingfdhjfkaaGreat
open Go.Fw
structure fQ where
 at_:Int
 e:Int
 pos:Int
deriving DecidableEq
def ja (l:List bI) (s:fQ) (e:Int):fQ:=if s.e=0 then {s with e:=if (l.length:Int)≤s.at_ then 6 else e,pos:=mQ l s.at_} else s
def dP (l:List bI) (s:fQ) (t:ByteArray):fQ:=if (decide (s.e=0) && sR l s.at_ t)=true then {s with at_:=s.at_+1} else ja l s 5
def kH (l:List bI) (i:Int):Option bI:=if 0≤i then l[i.toNat]? else none
def sS (l:List bI) (s:fQ):Bool:=decide (s.e=0) && (match kH l s.at_ with | some t=>decide (t.kind=1) && j4 t.text | none=>false)
def oR (l:List bI) (i:Int):bI:=(kH l i).getD ⟨0,⟨#[]⟩,0,0⟩
def cU (l:List bI) (s:fQ):fQ × ByteArray:=if sS l s=true then ({s with at_:=s.at_+1},(oR l s.at_).text) else (ja l s 5,⟨#[]⟩)
def qH (l:List bI) (s:fQ):Option (fQ × List dC):=if s.e≠0 then some (s,[]) else (vK l s.at_).bind λ R=>
 if R.2.2.1≠0 then some ({s with e:=R.2.2.1,pos:=R.2.2.2},[]) else if 0≤R.2.1∧R.2.1≤l.length then some ({s with at_:=R.2.1},R.1) else none
def OV (l:List bI) (s:fQ):Bool:=decide (s.e=0) && (match kH l s.at_ with | some t=>decide (t.kind=2) | none=>false)
def kI (l:List bI) (s:fQ):fQ × Int:=if OV l s=true then (if 1≤(oR l s.at_).n∧(oR l s.at_).n≤8 then ({s with at_:=s.at_+1},(oR l s.at_).n) else (ja l s 11,0)) else (ja l s 5,0)
def De:List ByteArray:=[⟨#[]⟩,⟨#[]⟩,⟨#[108,111,97,100]⟩,⟨#[115,116,111,114,101]⟩,⟨#[99,97,115]⟩,⟨#[102,108,117,115,104]⟩,⟨#[111,112,116]⟩,⟨#[115,102,101,110,99,101]⟩,⟨#[109,102,101,110,99,101]⟩,⟨#[116,97,107,101]⟩,⟨#[103,105,118,101]⟩,⟨#[105,102]⟩,⟨#[108,111,111,112]⟩,⟨#[98,114,101,97,107]⟩,⟨#[99,104,101,99,107]⟩]
def Hy (k:Int):ByteArray:=(De[k.toNat]?).getD ⟨#[]⟩
def lT (l:List bI) (s:fQ):Prop:=0≤s.at_∧s.at_≤l.length
section
variable {l:List bI} {s:fQ} {e:Int} {t:ByteArray}
theorem sT (h:lT l s):lT l (ja l s e):=by unfold ja; split <;> exact h
theorem fE (h:lT l s):lT l (dP l s t):=by
 unfold dP; split
 ·rename_i h2
  rw [Bool.and_eq_true] at h2
  have:=rT h2.2
  exact ⟨by show 0≤s.at_+1; omega,by show s.at_+1≤_; omega⟩
 ·exact sT h
theorem mz {i:Int} {k:bI} (h:kH l i=some k):0≤i∧i<l.length∧l[i.toNat]? = some k:=by
 unfold kH at h
 split at h
 ·have:=(List.getElem?_eq_some_iff.1 h).1; exact ⟨by omega,by omega,h⟩
 ·cases h
theorem AU (h:sS l s=true):s.e=0∧∃ k,kH l s.at_=some k∧k.kind=1∧j4 k.text=true:=by
 unfold sS at h
 rw [Bool.and_eq_true,decide_eq_true_eq] at h
 refine ⟨h.1,?_⟩
 cases hk:kH l s.at_ with
 | none=>rw [hk] at h; cases h.2
 | some k=>
  rw [hk] at h
  have:=h.2; dsimp only at this
  rw [Bool.and_eq_true,decide_eq_true_eq] at this
  exact ⟨k,rfl,this⟩
theorem Ro (h:OV l s=true):s.e=0∧∃ k,kH l s.at_=some k∧k.kind=2:=by
 unfold OV at h
 rw [Bool.and_eq_true,decide_eq_true_eq] at h
 refine ⟨h.1,?_⟩
 cases hk:kH l s.at_ with
 | none=>rw [hk] at h; cases h.2
 | some k=>rw [hk] at h; exact ⟨k,rfl,by simpa using h.2⟩
theorem gz (h:lT l s):lT l (cU l s).1:=by
 unfold cU; split
 ·rename_i h2
  obtain ⟨_,k,hk,_⟩:=AU h2
  have:=mz hk
  exact ⟨by show 0≤s.at_+1; omega,by show s.at_+1≤_; omega⟩
 ·exact sT h
theorem Ta (h:lT l s):lT l (kI l s).1:=by
 unfold kI; split
 ·rename_i h2
  obtain ⟨_,k,hk,_⟩:=Ro h2
  have:=mz hk
  split
  ·exact ⟨by show 0≤s.at_+1; omega,by show s.at_+1≤_; omega⟩
  ·exact sT h
 ·exact sT h
theorem rU {s':fQ} {x:List dC} (h:lT l s) (he:qH l s=some (s',x)):lT l s':=by
 unfold qH at he
 split at he
 ·cases he; exact h
 ·cases hx:vK l s.at_ with
  | none=>rw [hx] at he; cases he
  | some R=>
   rw [hx] at he
   simp only [Option.bind_some] at he
   split at he
   ·cases he; exact h
   ·split at he
    ·rename_i h2; cases he; exact h2
    ·cases he
end
@[reducible] def dW (lv ov:Value) (s:fQ):List Value:=[lv,.int .i64 s.at_,.int .i64 s.e,.int .i64 s.pos,ov]
@[reducible] def eg (lv:Value) (s:fQ):List Value:=[lv,.int .i64 s.at_,.int .i64 s.e,.int .i64 s.pos]
def gQ (l:List bI) (s:fQ) (t:ByteArray):fQ × Bool:=if (decide (s.e=0) && sR l s.at_ t)=true then ({s with at_:=s.at_+1},true) else (s,false)
def eY (l:List bI) (s:fQ):fQ × dI:=if sS l s=true then ({s with at_:=s.at_+1},⟨(oR l s.at_).text,0,(oR l s.at_).at_⟩) else (ja l s 5,⟨⟨#[]⟩,0,0⟩)
theorem j0 {l:List bI} {s:fQ} {t:ByteArray} (h:lT l s):lT l (gQ l s t).1:=by
 unfold gQ; split
 ·rename_i h2
  rw [Bool.and_eq_true] at h2
  have:=rT h2.2
  exact ⟨by show 0≤s.at_+1; omega,by show s.at_+1≤_; omega⟩
 ·exact h
theorem uJ {l:List bI} {s:fQ} (h:lT l s):lT l (eY l s).1:=by
 unfold eY; split
 ·rename_i h2
  obtain ⟨_,k,hk,_⟩:=AU h2
  have:=mz hk
  exact ⟨by show 0≤s.at_+1; omega,by show s.at_+1≤_; omega⟩
 ·exact sT h
theorem XW {l:List bI} {s s2:fQ} {x:List dC} (h:qH l s=some (s2,x)) (he:¬ s.e≠0):∃ R,vK l s.at_=some R∧
  (if R.2.2.1≠0 then some ({s with e:=R.2.2.1,pos:=R.2.2.2},[]) else if 0≤R.2.1∧R.2.1≤l.length then some ({s with at_:=R.2.1},R.1) else none)=some (s2,x):=by
 unfold qH at h; rw [if_neg he] at h
 cases hx:vK l s.at_ with
 | none=>rw [hx] at h; cases h
 | some R=>rw [hx] at h; exact ⟨R,rfl,h⟩
theorem XX {l:List bI} {s s2:fQ} {x:List dC} {R:List dC × Int × Int × Int} (h:(if R.2.2.1≠0 then some ({s with e:=R.2.2.1,pos:=R.2.2.2},[]) else if 0≤R.2.1∧R.2.1≤l.length then some ({s with at_:=R.2.1},R.1) else none)=some (s2,x)) (he:¬ R.2.2.1≠0):0≤R.2.1∧R.2.1≤l.length:=by
 rw [if_neg he] at h
 split at h
 ·assumption
 ·cases h
theorem C254 (p:Nat) (lv ov:Value) (l:List bI) (s:fQ) (e:Int) (F:Nat→Prop) (w:World) (hF:(cE p (dW lv ov s)).p w F) (hT:∀ w',iE F w w'→eE (λ _=>True) w' lv l) (hk:iz l) (h0:lT l s):CR 254 [(.pointer (some ⟨p,0,none⟩)),.int .i64 e] w (λ v w'=>v = .tuple #[]∧qz F (cE p (dW lv ov (ja l s e))) w w'):=by
 have hs:=St.begin hF;have FL:=hk.n;have hn:l.length≤1000000:=by omega
 have ti:=hk.at_;obtain ⟨Rp,Rq⟩:=id h0;refine abI _ _ _ _ ?_;unfold S254;refine aF (aA ku (aB nu hs.hb rfl (aH (aC (λ gp=>?_) (λ gp=>?_)))))
 ·refine aF (aA ku (aV hs nu (eL rfl) (rfl) (λ w1 hs=>?_)));refine ⟨_,?_,λ _ h=>h⟩;refine aF (aA eV (have hs:=hs.drew;aB bN hs.hb rfl (aF (aA gS (aB iR hs.hb rfl (aK fG (hT _ hs.aE) (dH (aC (λ iu=>?_) (λ iu=>?_)))))))))
  ·refine aF (aA ku (aV hs nu (eL rfl) (rfl) (λ w2 hs=>?_)));intro fz;refine aF (aA gS (have hs:=hs.drew;aB iR hs.hb rfl (aF (aA eV (aB bN hs.hb rfl (aZ GA hs (C215 _ l s.at_ _ (hT _ hs.aE) hn ti) (λ w4 he hs=>aF (aA zU (aV hs bN (eL rfl) (rfl) (λ w5 hs=>?_))))))))));have hb:ja l s e=(⟨s.at_,6,(mQ l s.at_)⟩:fQ):=by unfold ja; rw [if_pos gp,if_pos iu]
   rw [hb];exact ⟨rfl,hs.mut⟩
  ·intro fz;refine aF (aA gS (have hs:=hs.drew;aB iR hs.hb rfl (aF (aA eV (aB bN hs.hb rfl (aZ GA hs (C215 _ l s.at_ _ (hT _ hs.aE) hn ti) (λ w4 he hs=>aF (aA zU (aV hs bN (eL rfl) (rfl) (λ w5 hs=>?_))))))))));have hb:ja l s e=(⟨s.at_,e,(mQ l s.at_)⟩:fQ):=by unfold ja; rw [if_pos gp,if_neg iu]
   rw [hb];exact ⟨rfl,hs.mut⟩
 ·have hb:ja l s e=s:=by unfold ja; rw [if_neg gp]
  rw [hb];exact ⟨rfl,hs.mut⟩
theorem C170 (p:Nat) (lv:Value) (l:List bI) (s:fQ) (F:Nat→Prop) (w:World) (hF:(cE p (eg lv s)).p w F) (hT:∀ w',iE F w w'→eE (λ _=>True) w' lv l) (hk:iz l) (h0:lT l s):CR 170 [(.pointer (some ⟨p,0,none⟩))] w (λ v w'=>v = .tuple #[]∧qz F (cE p (eg lv (ja l s 5))) w w'):=by
 have hs:=St.begin hF;have FL:=hk.n;have hn:l.length≤1000000:=by omega
 have ti:=hk.at_;obtain ⟨Rp,Rq⟩:=id h0;refine aat _ _ _ ?_;unfold S170;refine aF (aA l6 (aB nu hs.hb rfl (aH (aC (λ oJ=>?_) (λ oJ=>?_)))))
 ·refine aF (aA l6 (aV hs nu (eL rfl) (rfl) (λ w1 hs=>?_)));refine ⟨_,?_,λ _ h=>h⟩;refine aF (aA fp (have hs:=hs.drew;aB bN hs.hb rfl (aF (aA jN (aB iR hs.hb rfl (aK fG (hT _ hs.aE) (dH (aC (λ fy=>?_) (λ fy=>?_)))))))))
  ·refine aF (aA l6 (aV hs nu (eL rfl) (rfl) (λ w2 hs=>?_)));intro fz;refine aF (aA jN (have hs:=hs.drew;aB iR hs.hb rfl (aF (aA fp (aB bN hs.hb rfl (aZ GA hs (C215 _ l s.at_ _ (hT _ hs.aE) hn ti) (λ w4 he hs=>aF (aA we (aV hs bN (eL rfl) (rfl) (λ w5 hs=>?_))))))))));have hb:ja l s 5=(⟨s.at_,6,(mQ l s.at_)⟩:fQ):=by unfold ja; rw [if_pos oJ,if_pos fy]
   rw [hb];exact ⟨rfl,hs.mut⟩
  ·intro fz;refine aF (aA jN (have hs:=hs.drew;aB iR hs.hb rfl (aF (aA fp (aB bN hs.hb rfl (aZ GA hs (C215 _ l s.at_ _ (hT _ hs.aE) hn ti) (λ w4 he hs=>aF (aA we (aV hs bN (eL rfl) (rfl) (λ w5 hs=>?_))))))))));have hb:ja l s 5=(⟨s.at_,5,(mQ l s.at_)⟩:fQ):=by unfold ja; rw [if_pos oJ,if_neg fy]
   rw [hb];exact ⟨rfl,hs.mut⟩
 ·have hb:ja l s 5=s:=by unfold ja; rw [if_neg oJ]
  rw [hb];exact ⟨rfl,hs.mut⟩
theorem C234 (p:Nat) (lv ov:Value) (l:List bI) (s:fQ) (t:ByteArray) (F:Nat→Prop) (w:World) (hF:(cE p (dW lv ov s)).p w F) (hT:∀ w',iE F w w'→eE (λ _=>True) w' lv l) (hk:iz l) (h0:lT l s):CR 234 [(.pointer (some ⟨p,0,none⟩)),.string t] w (λ v w'=>v = .tuple #[]∧qz F (cE p (dW lv ov (dP l s t))) w w'):=by
 have hs:=St.begin hF;have FL:=hk.n;have hn:l.length≤1000000:=by omega
 have ti:=hk.at_;obtain ⟨Rp,Rq⟩:=id h0;refine abn _ _ _ _ ?_;unfold S234;refine ⟨λ jv w'=>jv = .bool (decide (s.e=0) && sR l s.at_ t)∧St w F [cE p (dW lv ov s)] w',?_,?_⟩
 ·refine aF (aA ku (have hs:=hs.drew;aB nu hs.hb rfl (aH (aC (λ gp=>?_) (λ gp=>?_)))))
  ·refine aF (aA gS (aB iR hs.hb rfl (aF (aA eV (aB bN hs.hb rfl (aZ vA hs (C211 _ l s.at_ t _ (hT _ hs.aE) hn) (λ w1 he hs=>?_)))))));exact ⟨vb (by first | (rw [decide_eq_true gp]; rfl) | (rw [decide_eq_false gp]; rfl)),hs⟩
  ·exact ⟨vb (by first | (rw [decide_eq_true gp]; rfl) | (rw [decide_eq_false gp]; rfl)),hs⟩
 ·rintro _ w2 ⟨rfl,hs⟩ fz;refine aY (λ jD=>?_) (λ jD=>?_)
  ·have azq:=rT (by rw [Bool.and_eq_true] at jD; exact jD.2);refine aF (aA eV (aB bN hs.hb rfl (aO (by omega) (aF (aA eV (aV hs bN (eL rfl) (rfl) (λ w3 hs=>?_)))))));have hb:dP l s t={s with at_:=s.at_+1}:=by unfold dP; rw [if_pos (by simpa using jD)]
   rw [hb];exact ⟨rfl,hs.mut⟩
  ·refine bH GD hs (H':=λ _=>cE p (dW lv ov (ja l s 5))) (Φ:=λ _ _=>True) (λ F2 eQ ey=>?_) ?_
   ·exact (C254 p lv ov l s 5 F2 _ eQ (λ w' hc=>hT w' (ey w' hc).aE) hk h0).mono λ _ _ r=>r.mono λ _ _ h=>⟨trivial,h.2⟩
   rintro _ w4 _ hs;have hb:dP l s t=ja l s 5:=by unfold dP; rw [if_neg (by simpa using jD)]
   rw [hb];exact ⟨rfl,hs.mut⟩
theorem C165 (p:Nat) (lv:Value) (l:List bI) (s:fQ) (t:ByteArray) (F:Nat→Prop) (w:World) (hF:(cE p (eg lv s)).p w F) (hT:∀ w',iE F w w'→eE (λ _=>True) w' lv l) (hk:iz l) (h0:lT l s):CR 165 [(.pointer (some ⟨p,0,none⟩)),.string t] w (λ v w'=>v = .bool (gQ l s t).2∧qz F (cE p (eg lv (gQ l s t).1)) w w'):=by
 have hs:=St.begin hF;have FL:=hk.n;have hn:l.length≤1000000:=by omega
 have ti:=hk.at_;obtain ⟨Rp,Rq⟩:=id h0;refine aao _ _ _ _ ?_;unfold S165;refine ⟨λ jv w'=>jv = .bool (decide (s.e=0) && sR l s.at_ t)∧St w F [cE p (eg lv s)] w',?_,?_⟩
 ·refine aF (aA l6 (have hs:=hs.drew;aB nu hs.hb rfl (aH (aC (λ gw=>?_) (λ gw=>?_)))))
  ·refine aF (aA jN (aB iR hs.hb rfl (aF (aA fp (aB bN hs.hb rfl (aZ vA hs (C211 _ l s.at_ t _ (hT _ hs.aE) hn) (λ w1 he hs=>?_)))))));exact ⟨vb (by first | (rw [decide_eq_true gw]; rfl) | (rw [decide_eq_false gw]; rfl)),hs⟩
  ·exact ⟨vb (by first | (rw [decide_eq_true gw]; rfl) | (rw [decide_eq_false gw]; rfl)),hs⟩
 ·rintro _ w2 ⟨rfl,hs⟩ fz;refine aY (λ gv=>?_) (λ gv=>?_)
  ·have azq:=rT (by rw [Bool.and_eq_true] at gv; exact gv.2);refine aF (aA fp (aB bN hs.hb rfl (aO (by omega) (aF (aA fp (aV hs bN (eL rfl) (rfl) (λ w3 hs=>?_)))))));have hb:gQ l s t=({s with at_:=s.at_+1},true):=by unfold gQ; rw [if_pos (by simpa using gv)]
   rw [hb];exact ⟨rfl,hs.mut⟩
  ·have hb:gQ l s t=(s,false):=by unfold gQ; rw [if_neg (by simpa using gv)]
   rw [hb];exact ⟨rfl,hs.mut⟩
theorem C212 (p:Nat) (lv:Value) (l:List bI) (s:fQ) (t:ByteArray) (F:Nat→Prop) (w:World) (hF:(cE p (eg lv s)).p w F) (hT:∀ w',iE F w w'→eE (λ _=>True) w' lv l) (hk:iz l) (h0:lT l s):CR 212 [(.pointer (some ⟨p,0,none⟩)),.string t] w (λ v w'=>v = .tuple #[]∧qz F (cE p (eg lv (dP l s t))) w w'):=by
 have hs:=St.begin hF;have FL:=hk.n;have hn:l.length≤1000000:=by omega
 have ti:=hk.at_;obtain ⟨Rp,Rq⟩:=id h0;refine aa2 _ _ _ _ ?_;unfold S212;refine bH yj hs (H':=λ _=>cE p (eg lv (gQ l s t).1)) (Φ:=λ v _=>v = .bool (gQ l s t).2) (λ F2 eQ ey=>?_) ?_
 ·exact C165 p lv l s t F2 _ eQ (λ w' hc=>hT w' (ey w' hc).aE) hk h0
 rintro _ w1 rfl hs;refine bZ (aY (λ iV=>?_) (λ iV=>?_))
 ·refine bH PU hs (H':=λ _=>cE p (eg lv (ja l (gQ l s t).1 5))) (Φ:=λ _ _=>True) (λ F2 eQ ey=>?_) ?_
  ·exact (C170 p lv l (gQ l s t).1 F2 _ eQ (λ w' hc=>hT w' (ey w' hc).aE) hk (j0 h0)).mono λ _ _ r=>r.mono λ _ _ h=>⟨trivial,h.2⟩
  rintro _ w2 _ hs
  have tL:dP l s t=ja l (gQ l s t).1 5:=by
   have h7:(gQ l s t).2=false:=by simpa using iV
   unfold gQ at h7 ⊢; unfold dP
   split at h7
   ·cases h7
   ·rename_i h8; rw [if_neg h8,if_neg h8]
  rw [tL];exact ⟨rfl,hs.mut⟩
 ·have tL:dP l s t=(gQ l s t).1:=by
   have h7:(gQ l s t).2=true:=by simpa using iV
   unfold gQ at h7 ⊢; unfold dP
   split at h7
   ·rename_i h8; rw [if_pos h8,if_pos h8]
   ·cases h7
  rw [tL];exact ⟨rfl,hs.mut⟩
theorem C260 (p:Nat) (lv ov:Value) (l:List bI) (s:fQ) (F:Nat→Prop) (w:World) (hF:(cE p (dW lv ov s)).p w F) (hT:∀ w',iE F w w'→eE (λ _=>True) w' lv l) (hk:iz l) (h0:lT l s):CR 260 [(.pointer (some ⟨p,0,none⟩))] w (λ v w'=>v = .string (cU l s).2∧qz F (cE p (dW lv ov (cU l s).1)) w w'):=by
 have hs:=St.begin hF;have FL:=hk.n;have hn:l.length≤1000000:=by omega
 have ti:=hk.at_;obtain ⟨Rp,Rq⟩:=id h0;refine abO _ _ _ ?_;unfold S260;refine ⟨λ jv w'=>jv = .bool (sS l s)∧St w F [cE p (dW lv ov s)] w',?_,?_⟩
 ·refine aF (aA ku (have hs:=hs.drew;aB nu hs.hb rfl (aH (aC (λ iV=>?_) (λ iV=>?_)))))
  ·refine aF (aA eV (aB bN hs.hb rfl (aF (aA gS (aB iR hs.hb rfl (aK fG (hT _ hs.aE) (aR (aC (λ gd=>?_) (λ gd=>?_)))))))))
   ·refine aF (aA gS (aB iR hs.hb rfl (aF (aA eV (aB bN hs.hb rfl ?_)))));obtain ⟨Cf,lI⟩:=gx (l) (i:=(s.at_).toNat) (by omega);refine aQ fG (hT _ hs.aE) (by omega) lI (λ _ Eg=>bT (Cf).kind lj Eg rfl rfl (λ _ ow=>aD bN (ow) (aH (aC (λ jP=>?_) (λ jP=>?_)))))
    ·refine aF (aA gS (aB iR hs.hb rfl (aF (aA eV (aB bN hs.hb rfl (aQ fG (hT _ hs.aE) (by omega) lI (λ _ yA=>bT (Cf).text m8 yA rfl rfl (λ _ AR=>aD ke (AR) (aZ tO hs (C161 _ _ (by have:=ti _ (List.mem_of_getElem? lI); omega)) (λ w1 he hs=>?_))))))))));exact ⟨vb (by unfold sS kH; first | (rw [decide_eq_false iV]; rfl) | (rw [if_pos (by omega),List.getElem?_eq_none (by omega)]; simp; done) | (rw [if_pos (by omega),lI,decide_eq_true iV]; dsimp only; first | (rw [decide_eq_false jP]; rfl) | (rw [decide_eq_true jP]; rfl))),hs⟩
    ·exact ⟨vb (by unfold sS kH; first | (rw [decide_eq_false iV]; rfl) | (rw [if_pos (by omega),List.getElem?_eq_none (by omega)]; simp; done) | (rw [if_pos (by omega),lI,decide_eq_true iV]; dsimp only; first | (rw [decide_eq_false jP]; rfl) | (rw [decide_eq_true jP]; rfl))),hs⟩
   ·exact ⟨vb (by unfold sS kH; first | (rw [decide_eq_false iV]; rfl) | (rw [if_pos (by omega),List.getElem?_eq_none (by omega)]; simp; done) | (rw [if_pos (by omega),lI,decide_eq_true iV]; dsimp only; first | (rw [decide_eq_false jP]; rfl) | (rw [decide_eq_true jP]; rfl))),hs⟩
  ·exact ⟨vb (by unfold sS kH; first | (rw [decide_eq_false iV]; rfl) | (rw [if_pos (by omega),List.getElem?_eq_none (by omega)]; simp; done) | (rw [if_pos (by omega),lI,decide_eq_true iV]; dsimp only; first | (rw [decide_eq_false jP]; rfl) | (rw [decide_eq_true jP]; rfl))),hs⟩
 ·rintro _ w2 ⟨rfl,hs⟩ fz;refine aY (λ rH=>?_) (λ rH=>?_)
  ·obtain ⟨_,tk,A5,_,_⟩:=AU rH;obtain ⟨asl,asm,alu⟩:=mz A5;have S9:l[(s.at_+1 - 1).toNat]? = some tk:=by rw [← alu]; congr 2; omega
   refine aF (aA eV (aB bN hs.hb rfl (aO (by omega) (aF (aA eV (aV hs bN (eL rfl) (rfl) (λ w3 hs=>aF (aA gS (have hs:=hs.drew;aB iR hs.hb rfl (aF (aA eV (aB bN hs.hb rfl ?_))))))))))));refine gA (by omega) (aQ fG (hT _ hs.aE) (by omega) S9 (λ _ Cb=>bT (tk).text m8 Cb rfl rfl (λ _ XY=>aD ke (XY) ?_)));have hb:cU l s=({s with at_:=s.at_+1},tk.text):=by unfold cU; rw [if_pos rH]; unfold oR; rw [A5]; rfl
   rw [hb];exact ⟨rfl,hs.mut⟩
  ·refine bH GD hs (H':=λ _=>cE p (dW lv ov (ja l s 5))) (Φ:=λ _ _=>True) (λ F2 eQ ey=>?_) ?_
   ·exact (C254 p lv ov l s 5 F2 _ eQ (λ w' hc=>hT w' (ey w' hc).aE) hk h0).mono λ _ _ r=>r.mono λ _ _ h=>⟨trivial,h.2⟩
   rintro _ w4 _ hs;have hb:cU l s=(ja l s 5,⟨#[]⟩):=by unfold cU; rw [if_neg (by simpa using rH)]
   rw [hb];exact ⟨rfl,hs.mut⟩
theorem C167 (p:Nat) (lv:Value) (l:List bI) (s:fQ) (F:Nat→Prop) (w:World) (hF:(cE p (eg lv s)).p w F) (hT:∀ w',iE F w w'→eE (λ _=>True) w' lv l) (hk:iz l) (h0:lT l s):CR 167 [(.pointer (some ⟨p,0,none⟩))] w (λ v w'=>v=Flat.val (eY l s).2∧qz F (cE p (eg lv (eY l s).1)) w w'):=by
 have hs:=St.begin hF;have FL:=hk.n;have hn:l.length≤1000000:=by omega
 have ti:=hk.at_;obtain ⟨Rp,Rq⟩:=id h0;refine aaq _ _ _ ?_;unfold S167;refine aJ hs CV (λ ma w1 hs=>?_);refine ⟨λ jv w'=>jv = .bool (sS l s)∧St w F [cE p (eg lv s),cE ma (Flat.enc (⟨ByteArray.mk #[],0,0⟩:dI))] w',?_,?_⟩
 ·refine aF (aA l6 (have hs:=hs.drew;aB nu hs.p1.hb rfl (aH (aC (λ iV=>?_) (λ iV=>?_)))))
  ·refine aF (aA fp (aB bN hs.p1.hb rfl (aF (aA jN (aB iR hs.p1.hb rfl (aK fG (hT _ hs.aE) (aR (aC (λ gd=>?_) (λ gd=>?_)))))))))
   ·refine aF (aA jN (aB iR hs.p1.hb rfl (aF (aA fp (aB bN hs.p1.hb rfl ?_)))));obtain ⟨Cf,lI⟩:=gx (l) (i:=(s.at_).toNat) (by omega);refine aQ fG (hT _ hs.aE) (by omega) lI (λ _ Eg=>bT (Cf).kind lj Eg rfl rfl (λ _ ow=>aD bN (ow) (aH (aC (λ jP=>?_) (λ jP=>?_)))))
    ·refine aF (aA jN (aB iR hs.p1.hb rfl (aF (aA fp (aB bN hs.p1.hb rfl (aQ fG (hT _ hs.aE) (by omega) lI (λ _ yA=>bT (Cf).text m8 yA rfl rfl (λ _ AR=>aD ke (AR) (aZ tO hs (C161 _ _ (by have:=ti _ (List.mem_of_getElem? lI); omega)) (λ w2 he hs=>?_))))))))));have hs:=hs.p1;exact ⟨vb (by unfold sS kH; first | (rw [decide_eq_false iV]; rfl) | (rw [if_pos (by omega),List.getElem?_eq_none (by omega)]; simp; done) | (rw [if_pos (by omega),lI,decide_eq_true iV]; dsimp only; first | (rw [decide_eq_false jP]; rfl) | (rw [decide_eq_true jP]; rfl))),hs⟩
    ·have hs:=hs.p1;exact ⟨vb (by unfold sS kH; first | (rw [decide_eq_false iV]; rfl) | (rw [if_pos (by omega),List.getElem?_eq_none (by omega)]; simp; done) | (rw [if_pos (by omega),lI,decide_eq_true iV]; dsimp only; first | (rw [decide_eq_false jP]; rfl) | (rw [decide_eq_true jP]; rfl))),hs⟩
   ·have hs:=hs.p1;exact ⟨vb (by unfold sS kH; first | (rw [decide_eq_false iV]; rfl) | (rw [if_pos (by omega),List.getElem?_eq_none (by omega)]; simp; done) | (rw [if_pos (by omega),lI,decide_eq_true iV]; dsimp only; first | (rw [decide_eq_false jP]; rfl) | (rw [decide_eq_true jP]; rfl))),hs⟩
  ·have hs:=hs.p1;exact ⟨vb (by unfold sS kH; first | (rw [decide_eq_false iV]; rfl) | (rw [if_pos (by omega),List.getElem?_eq_none (by omega)]; simp; done) | (rw [if_pos (by omega),lI,decide_eq_true iV]; dsimp only; first | (rw [decide_eq_false jP]; rfl) | (rw [decide_eq_true jP]; rfl))),hs⟩
 ·rintro _ w3 ⟨rfl,hs⟩ fz;refine aY (λ rH=>?_) (λ rH=>?_)
  ·obtain ⟨_,tk,A5,_,_⟩:=AU rH;obtain ⟨asl,asm,alu⟩:=mz A5;have S9:l[(s.at_+1 - 1).toNat]? = some tk:=by rw [← alu]; congr 2; omega
   refine aF (aA fp (aB bN hs.hb rfl (aO (by omega) (aF (aA fp (aV hs bN (eL rfl) (rfl) (λ w4 hs=>aF (aA jN (have hs:=hs.drew;aB iR hs.hb rfl (aF (aA fp (aB bN hs.hb rfl ?_))))))))))));refine gA (by omega) (aQ fG (hT _ hs.aE) (by omega) S9 (λ _ Cb=>bT (tk).text m8 Cb rfl rfl (λ _ XY=>aD ke (XY) (aF (aA jN (aB iR hs.hb rfl (aF (aA fp (aB bN hs.hb rfl (gA (by omega) (aQ fG (hT _ hs.aE) (by omega) S9 (λ _ asn=>bT (tk).at_ lq asn rfl rfl (λ _ XZ=>?_)))))))))))))
   refine aD bN (XZ) (pop (DV _ _) (aI (x:=(⟨(tk).text,0,(tk).at_⟩:dI)) hs.p1 yo rfl rfl (λ w5 hs=>aD yo hs.At ?_)));have hs:=(hs).drop;have hb:eY l s=({s with at_:=s.at_+1},⟨tk.text,0,tk.at_⟩):=by unfold eY; rw [if_pos rH]; unfold oR; rw [A5]; rfl
   rw [hb];exact ⟨rfl,hs.mut⟩
  ·refine bH PU hs (H':=λ _=>cE p (eg lv (ja l s 5))) (Φ:=λ _ _=>True) (λ F2 eQ ey=>?_) ?_
   ·exact (C170 p lv l s F2 _ eQ (λ w' hc=>hT w' (ey w' hc).aE) hk h0).mono λ _ _ r=>r.mono λ _ _ h=>⟨trivial,h.2⟩
   rintro _ w6 _ hs;refine pop (acb) (aI (x:=(⟨(ByteArray.mk #[]),0,0⟩:dI)) hs.p1 yo rfl rfl (λ w7 hs=>aD yo hs.At ?_));have hs:=(hs).drop;have hb:eY l s=(ja l s 5,⟨⟨#[]⟩,0,0⟩):=by unfold eY; rw [if_neg (by simpa using rH)]
   rw [hb];exact ⟨rfl,hs.mut⟩
theorem C253 (k:Int) (w:World) (hk:0≤k∧k≤14):CR 253 [.int .i64 k] w (λ v w'=>v = .string (Hy k)∧Ext w w'):=by
 have hs:=St.start w;refine abH _ _ _ ?_;unfold S253;refine bX (De) hs mX rfl rfl (eL rfl) (λ ash w1 hs=>?_);have hsl:De.length=15:=rfl;obtain ⟨aze,Mg⟩:=gx (De) (i:=(k).toNat) (by omega);refine dU hs mX (by omega) (by omega) (λ _ SC=>gk hs ke SC Mg ?_);refine ⟨?_,hs.drop.aE⟩;unfold Hy;rw [Mg]; rfl
theorem C262 (p:Nat) (lv ov:Value) (l:List bI) (s:fQ) (F:Nat→Prop) (w:World) (hF:(cE p (dW lv ov s)).p w F) (hT:∀ w',iE F w w'→eE (λ _=>True) w' lv l) (hk:iz l) (h0:lT l s):CR 262 [(.pointer (some ⟨p,0,none⟩))] w (λ v w'=>v = .int .i64 (kI l s).2∧qz F (cE p (dW lv ov (kI l s).1)) w w'):=by
 have hs:=St.begin hF;have FL:=hk.n;have hn:l.length≤1000000:=by omega
 have ti:=hk.at_;obtain ⟨Rp,Rq⟩:=id h0;refine abQ _ _ _ ?_;unfold S262;refine ⟨λ jv w'=>jv = .bool (OV l s)∧St w F [cE p (dW lv ov s)] w',?_,?_⟩
 ·refine aF (aA ku (have hs:=hs.drew;aB nu hs.hb rfl (aH (aC (λ gp=>?_) (λ gp=>?_)))))
  ·refine aF (aA eV (aB bN hs.hb rfl (aF (aA gS (aB iR hs.hb rfl (aK fG (hT _ hs.aE) (aR (aC (λ fy=>?_) (λ fy=>?_)))))))))
   ·refine aF (aA gS (aB iR hs.hb rfl (aF (aA eV (aB bN hs.hb rfl ?_)))));obtain ⟨Ef,lG⟩:=gx (l) (i:=(s.at_).toNat) (by omega);refine aQ fG (hT _ hs.aE) (by omega) lG (λ _ ow=>bT (Ef).kind lj ow rfl rfl (λ _ oO=>aD bN (oO) (aH ?_)));exact ⟨vb (by unfold OV kH; first | (rw [decide_eq_false gp]; rfl) | (rw [if_pos (by omega),List.getElem?_eq_none (by omega)]; simp; done) | (rw [if_pos (by omega),lG,decide_eq_true gp]; rfl)),hs⟩
   ·exact ⟨vb (by unfold OV kH; first | (rw [decide_eq_false gp]; rfl) | (rw [if_pos (by omega),List.getElem?_eq_none (by omega)]; simp; done) | (rw [if_pos (by omega),lG,decide_eq_true gp]; rfl)),hs⟩
  ·exact ⟨vb (by unfold OV kH; first | (rw [decide_eq_false gp]; rfl) | (rw [if_pos (by omega),List.getElem?_eq_none (by omega)]; simp; done) | (rw [if_pos (by omega),lG,decide_eq_true gp]; rfl)),hs⟩
 ·rintro _ w1 ⟨rfl,hs⟩ fz;refine aY (λ iI=>?_) (λ iI=>?_)
  ·obtain ⟨_,tk,A5,_⟩:=Ro iI;obtain ⟨asl,asm,S9⟩:=mz A5;refine aF (aA gS (have hs:=hs.drew;aB iR hs.hb rfl (aF (aA eV (aB bN hs.hb rfl (aQ fG (hT _ hs.aE) (by omega) S9 (λ _ yA=>bT (tk).n rn yA rfl rfl (λ _ AR=>aD bN (AR) ?_))))))));refine ⟨λ jv w'=>jv = .bool (decide (1≤tk.n∧tk.n≤8))∧St w F [cE p (dW lv ov s)] w',?_,?_⟩
   ·refine dH (aC (λ rH=>?_) (λ rH=>?_))
    ·refine j9 ?_;exact ⟨vb (by first | exact (decide_eq_false (by omega)).symm | exact decide_eq_decide.2 (by omega)),hs⟩
    ·exact ⟨vb (by first | exact (decide_eq_false (by omega)).symm | exact decide_eq_decide.2 (by omega)),hs⟩
   ·rintro _ w2 ⟨rfl,hs⟩ jB;refine aC (λ pR=>?_) (λ pR=>?_)
    ·refine aF (aA eV (aB bN hs.hb rfl (aO (by omega) (aF (aA eV (aV hs bN (eL rfl) (rfl) (λ w3 hs=>?_)))))));have hb:kI l s=({s with at_:=s.at_+1},tk.n):=by unfold kI; rw [if_pos iI]; unfold oR; rw [A5]; exact if_pos pR
     rw [hb];exact ⟨rfl,hs.mut⟩
    ·refine bH GD hs (H':=λ _=>cE p (dW lv ov (ja l s 11))) (Φ:=λ _ _=>True) (λ F2 eQ ey=>?_) ?_
     ·exact (C254 p lv ov l s 11 F2 _ eQ (λ w' hc=>hT w' (ey w' hc).aE) hk h0).mono λ _ _ r=>r.mono λ _ _ h=>⟨trivial,h.2⟩
     rintro _ w4 _ hs;have hb:kI l s=(ja l s 11,0):=by unfold kI; rw [if_pos iI]; unfold oR; rw [A5]; exact if_neg pR
     rw [hb];exact ⟨rfl,hs.mut⟩
  ·refine bH GD hs (H':=λ _=>cE p (dW lv ov (ja l s 5))) (Φ:=λ _ _=>True) (λ F2 eQ ey=>?_) ?_
   ·exact (C254 p lv ov l s 5 F2 _ eQ (λ w' hc=>hT w' (ey w' hc).aE) hk h0).mono λ _ _ r=>r.mono λ _ _ h=>⟨trivial,h.2⟩
   rintro _ w5 _ hs;have hb:kI l s=(ja l s 5,0):=by unfold kI; rw [if_neg (by simpa using iI)]
   rw [hb];exact ⟨rfl,hs.mut⟩
theorem C261 (p:Nat) (lv ov:Value) (l:List bI) (s:fQ) (s2:fQ) (x:List dC) (F:Nat→Prop) (w:World) (hF:(cE p (dW lv ov s)).p w F) (hT:∀ w',iE F w w'→eE (λ _=>True) w' lv l) (hk:iz l) (h0:lT l s) (hr:qH l s=some (s2,x)):CR 261 [(.pointer (some ⟨p,0,none⟩))] w (λ v w'=>qz F (ue λ sv:SV=>fact (v=Flat.val sv) (sep (cE p (dW lv ov s2)) (eB (λ w=>DL w (Flat.val sv) x)))) w w'):=by
 have hs:=St.begin hF;have FL:=hk.n;have hn:l.length≤1000000:=by omega
 have ti:=hk.at_;obtain ⟨Rp,Rq⟩:=id h0;refine abP _ _ _ ?_;unfold S261;refine aF (aA ku (aB nu hs.hb rfl (cO (aC (λ gT=>?_) (λ gT=>?_)))))
 ·have hR:((s,[]):fQ × List dC)=(s2,x):=by unfold qH at hr; rw [if_pos gT] at hr; exact Option.some.inj hr
  cases hR;have hs:=(hs.gH (Φ:=λ w=>DL w (Flat.val (⟨none,0,0⟩:SV)) ([]:List dC)) λ w=>DL.nil w).p1;exact (St.eR (⟨none,0,0⟩:SV) (St.qy rfl (St.join hs))).mut
 ·refine aF (aA gS (have hs:=hs.drew;aB iR hs.hb rfl (aF (aA eV (aB bN hs.hb rfl ?_)))));obtain ⟨R,hxr,Gx⟩:=XW hr (by omega);refine ed afz (C214 l _ s.at_ R _ (hT _ hs.aE) hk (by omega) hxr) ?_;rintro _ w1 ⟨azs,rfl,bV⟩;have hs:=hs.made bV;refine bE rfl (bE rfl (bE rfl (bE rfl (cO (aC (λ gh=>?_) (λ gh=>?_))))))
  ·refine aF (aA ku (aV hs.p1 nu (eL rfl) (rfl) (λ w2 hs=>aF (aA zU (aV hs bN (eL rfl) (rfl) (λ w3 hs=>?_))))));have hR:(({s with e:=R.2.2.1,pos:=R.2.2.2},[]):fQ × List dC)=(s2,x):=by rw [if_pos gh] at Gx; exact Option.some.inj Gx
   cases hR;have hs:=((hs.p1.drop).gH (Φ:=λ w=>DL w (Flat.val (⟨none,0,0⟩:SV)) ([]:List dC)) λ w=>DL.nil w).p1;exact (St.eR (⟨none,0,0⟩:SV) (St.qy rfl (St.join hs))).mut
  ·have BB:=XX Gx gh;refine aF (aA eV (aV hs.p1 bN (eL rfl) (rfl) (λ w4 hs=>?_)));have hR:(({s with at_:=R.2.1},R.1):fQ × List dC)=(s2,x):=by rw [if_neg gh,if_pos BB] at Gx; exact Option.some.inj Gx
   cases hR;have hs:=hs.p1.p1;exact (St.eR azs (St.qy rfl (St.join hs))).mut
def MT (k at_:Int):cG:=⟨k,⟨#[]⟩,⟨#[]⟩,[],[],0,0,0,at_⟩
abbrev JK:ByteArray:=⟨#[61]⟩
def TV (l:List bI) (s:fQ):fQ:=dP l (cU l s).1 (ByteArray.mk #[61])
def s2M (l:List bI) (s:fQ):fQ:=dP l (cU l (TV l s)).1 (ByteArray.mk #[44])
def kJ (l:List bI) (s:fQ) (k a:Int):Option (fQ × cG):=
 if k=1 then (qH l (TV l s)).bind λ r=>some (r.1,{MT k a with gP:=(cU l s).2,e:=r.2})
 else if k=2 then some ((cU l (TV l s)).1,{MT k a with gP:=(cU l s).2,name:=(cU l (TV l s)).2})
 else if k=3 then (qH l (TV l s)).bind λ r=>some (r.1,{MT k a with name:=(cU l s).2,e:=r.2})
 else if k=4 then (qH l (s2M l s)).bind λ r=>(qH l (dP l r.1 (ByteArray.mk #[44]))).bind λ q=>some (q.1,{MT k a with gP:=(cU l s).2,name:=(cU l (TV l s)).2,e:=r.2,f:=q.2})
 else if k=5∨k=6∨k=9∨k=10 then some ((cU l s).1,{MT k a with name:=(cU l s).2})
 else if k=11∨k=14 then (qH l s).bind λ r=>some (r.1,{MT k a with e:=r.2})
 else if k=12 then some ((kI l s).1,{MT k a with n:=(kI l s).2})
 else some (s,MT k a)
section
variable {l:List bI} {s s':fQ} {k a:Int} {x:cG}
theorem eK {α β γ:Type} {o:Option (α × β)} {g:α × β→Option γ} {c:γ} (h:o.bind g=some c):∃ p q,o=some (p,q)∧g (p,q)=some c:=by
 cases o with
 | none=>cases h
 | some r=>exact ⟨r.1,r.2,rfl,h⟩
theorem Rr (h:kJ l s k a=some (s',x)) (hk:k=1):∃ q e,qH l (TV l s)=some (q,e)∧s'=q∧x={MT k a with gP:=(cU l s).2,e:=e}:=by
 unfold kJ at h; rw [if_pos hk] at h
 obtain ⟨q,e,h1,h2⟩:=eK h
 cases h2; exact ⟨_,_,h1,rfl,rfl⟩
theorem Rs (h:kJ l s k a=some (s',x)) (hk:k=2):s'=(cU l (TV l s)).1∧x={MT k a with gP:=(cU l s).2,name:=(cU l (TV l s)).2}:=by
 unfold kJ at h; rw [if_neg (by omega),if_pos hk] at h; cases h; exact ⟨rfl,rfl⟩
theorem Rt (h:kJ l s k a=some (s',x)) (hk:k=3):∃ q e,qH l (TV l s)=some (q,e)∧s'=q∧x={MT k a with name:=(cU l s).2,e:=e}:=by
 unfold kJ at h; rw [if_neg (by omega),if_neg (by omega),if_pos hk] at h
 obtain ⟨q,e,h1,h2⟩:=eK h
 cases h2; exact ⟨_,_,h1,rfl,rfl⟩
theorem Ru (h:kJ l s k a=some (s',x)) (hk:k=4):∃ q e q2 f,qH l (s2M l s)=some (q,e)∧qH l (dP l q (ByteArray.mk #[44]))=some (q2,f)∧s'=q2∧x={MT k a with gP:=(cU l s).2,name:=(cU l (TV l s)).2,e:=e,f:=f}:=by
 unfold kJ at h; rw [if_neg (by omega),if_neg (by omega),if_neg (by omega),if_pos hk] at h
 obtain ⟨q,e,h1,h2⟩:=eK h
 obtain ⟨q2,f,h3,h4⟩:=eK h2
 cases h4; exact ⟨_,_,_,_,h1,h3,rfl,rfl⟩
theorem Rv (h:kJ l s k a=some (s',x)) (hk:k=5∨k=6∨k=9∨k=10):s'=(cU l s).1∧x={MT k a with name:=(cU l s).2}:=by
 unfold kJ at h; rw [if_neg (by omega),if_neg (by omega),if_neg (by omega),if_neg (by omega),if_pos hk] at h; cases h; exact ⟨rfl,rfl⟩
theorem Mj (h:kJ l s k a=some (s',x)) (hk:k=11∨k=14):∃ q e,qH l s=some (q,e)∧s'=q∧x={MT k a with e:=e}:=by
 unfold kJ at h; rw [if_neg (by omega),if_neg (by omega),if_neg (by omega),if_neg (by omega),if_neg (by omega),if_pos hk] at h
 obtain ⟨q,e,h1,h2⟩:=eK h
 cases h2; exact ⟨_,_,h1,rfl,rfl⟩
theorem Mk (h:kJ l s k a=some (s',x)) (hk:k=12):s'=(kI l s).1∧x={MT k a with n:=(kI l s).2}:=by
 unfold kJ at h; rw [if_neg (by omega),if_neg (by omega),if_neg (by omega),if_neg (by omega),if_neg (by omega),if_neg (by omega),if_pos hk] at h; cases h; exact ⟨rfl,rfl⟩
theorem Ml (h:kJ l s k a=some (s',x)) (h1:¬ k=1) (h2:¬ k=2) (h3:¬ k=3) (h4:¬ k=4) (h5:¬ (k=5∨k=6∨k=9∨k=10)) (h6:¬ (k=11∨k=14)) (h7:¬ k=12):s'=s∧x=MT k a:=by
 unfold kJ at h; rw [if_neg h1,if_neg h2,if_neg h3,if_neg h4,if_neg h5,if_neg h6,if_neg h7] at h; cases h; exact ⟨rfl,rfl⟩
end
theorem BU {l:List bI} {s s':fQ} {k a:Int} {x:cG} (h0:lT l s) (h:kJ l s k a=some (s',x)):lT l s':=by
 have Sz:lT l (TV l s):=fE (gz h0)
 have hs2:lT l (s2M l s):=fE (gz Sz)
 by_cases h1:k=1
 ·obtain ⟨q,e,he,rfl,_⟩:=Rr h h1; exact rU Sz he
 by_cases h2:k=2
 ·obtain ⟨rfl,_⟩:=Rs h h2; exact gz Sz
 by_cases h3:k=3
 ·obtain ⟨q,e,he,rfl,_⟩:=Rt h h3; exact rU Sz he
 by_cases h4:k=4
 ·obtain ⟨q,e,q2,f,he,hf,rfl,_⟩:=Ru h h4; exact rU (fE (rU hs2 he)) hf
 by_cases h5:k=5∨k=6∨k=9∨k=10
 ·obtain ⟨rfl,_⟩:=Rv h h5; exact gz h0
 by_cases h6:k=11∨k=14
 ·obtain ⟨q,e,he,rfl,_⟩:=Mj h h6; exact rU h0 he
 by_cases h7:k=12
 ·obtain ⟨rfl,_⟩:=Mk h h7; exact Ta h0
 ·obtain ⟨rfl,_⟩:=Ml h h1 h2 h3 h4 h5 h6 h7; exact h0
theorem wX {α σ:Type} [Flat σ] [cA α σ] {w w0:World} {A:Nat→Prop} {L:List HP} {B:HP} {sh:σ} {x:α} (hs:St w0 A (B::eB (λ w=>cA.dr w sh x)::L) w) :
  St w0 A ((ue λ s:σ=>fact (Flat.val sh=Flat.val s) (sep B (eB (λ w=>cA.dr w s x))))::L) w:=
 St.eR (H:=λ s:σ=>fact (Flat.val sh=Flat.val s) (sep B (eB (λ w=>cA.dr w s x)))) sh (St.qy rfl (St.join hs))
set_option maxHeartbeats 2000000 in
theorem C255 (p:Nat) (lv ov:Value) (l:List bI) (s:fQ) (kd a:Int) (s2:fQ) (x:cG) (F:Nat→Prop) (w:World) (hF:(cE p (dW lv ov s)).p w F) (hT:∀ w',iE F w w'→eE (λ _=>True) w' lv l) (hk:iz l) (h0:lT l s) (hp:kJ l s kd a=some (s2,x)):CR 255 [(.pointer (some ⟨p,0,none⟩)),.int .i64 kd,.int .i64 a] w (λ v w'=>qz F (ue λ sh:bY=>fact (v=Flat.val sh) (sep (cE p (dW lv ov s2)) (eB (λ w=>cA.dr w sh x)))) w w'):=by
 have hs:=St.begin hF;have FL:=hk.n;have hn:l.length≤1000000:=by omega
 have ti:=hk.at_;obtain ⟨Rp,Rq⟩:=id h0;refine abJ _ _ _ _ _ ?_;unfold S255;refine aJ hs qJ (λ Ot w1 hs=>have hs:=hs.enc (cs':=Flat.enc (⟨0,(ByteArray.mk #[]),(ByteArray.mk #[]),⟨none,0,0⟩,⟨none,0,0⟩,0,0,0,0⟩:bY)) rfl;pop (Nq _ _) (aJ hs qJ (λ Bs w2 hs=>have hs:=hs.enc (cs':=Flat.enc (⟨0,(ByteArray.mk #[]),(ByteArray.mk #[]),⟨none,0,0⟩,⟨none,0,0⟩,0,0,0,0⟩:bY)) rfl;aI (x:=(⟨kd,(ByteArray.mk #[]),(ByteArray.mk #[]),⟨none,0,0⟩,⟨none,0,0⟩,0,0,0,a⟩:bY)) hs fX rfl rfl (λ w3 hs=>?_))));refine ⟨_,?_,λ _ h=>h⟩;refine aH (aC (λ kM=>?_) (λ kM=>?_))
 ·obtain ⟨q,e,hex,rfl,rfl⟩:=Rr hp kM;refine bH DA hs.p2 (H':=λ _=>cE p (dW lv ov (cU l s).1)) (Φ:=λ v _=>v = .string (cU l s).2) (λ F2 eQ ey=>?_) ?_
  ·exact C260 p lv ov l s F2 _ eQ (λ w' hc=>hT w' (ey w' hc).aE) hk h0
  rintro _ w4 rfl hs;refine aA l4 (aV hs.p1 ke (eL rfl) (rfl) (λ w5 hs=>have hs:=hs.enc (cs':=Flat.enc (⟨kd,(cU l s).2,(ByteArray.mk #[]),⟨none,0,0⟩,⟨none,0,0⟩,0,0,0,a⟩:bY)) rfl;bH yk hs.p1 (H':=λ _=>cE p (dW lv ov (dP l (cU l s).1 (ByteArray.mk #[61])))) (Φ:=λ _ _=>True) (λ F2 eQ ey=>?_) ?_))
  ·exact (C234 p lv ov l (cU l s).1 (ByteArray.mk #[61]) F2 _ eQ (λ w' hc=>hT w' (ey w' hc).aE) hk (gz h0)).mono λ _ _ r=>r.mono λ _ _ h=>⟨trivial,h.2⟩
  rintro _ w6 _ hs;refine bH Ki hs (H':=λ v=>ue λ sv:SV=>fact (v=Flat.val sv) (sep (cE p (dW lv ov s2)) (eB (λ w=>DL w (Flat.val sv) e)))) (Φ:=λ _ _=>True) (λ F2 eQ ey=>?_) ?_
  ·exact (C261 p lv ov l (dP l (cU l s).1 (ByteArray.mk #[61])) s2 e F2 _ eQ (λ w' hc=>hT w' (ey w' hc).aE) hk (fE (gz h0)) hex).mono λ _ _ r=>r.mono λ _ _ h=>⟨trivial,h⟩
  rintro v_x20 w7 _ AO;obtain ⟨OW,AP⟩:=AO.eX
  clear AO
  obtain ⟨alv,C9⟩:=AP.oM
  clear AP
  subst alv;have hs:=C9.split;refine aA l5 (aV hs.p2 mW (eL rfl) (rfl) (λ w8 hs=>?_));have hs:=hs.enc (cs':=Flat.enc (⟨kd,(cU l s).2,(ByteArray.mk #[]),OW,⟨none,0,0⟩,0,0,0,a⟩:bY)) rfl;intro oN;refine aD fX hs.At (aI (x:=(⟨kd,(cU l s).2,(ByteArray.mk #[]),OW,⟨none,0,0⟩,0,0,0,a⟩:bY)) hs.p3 fX rfl rfl (λ WA hs=>aD fX hs.At ?_));have hs:=hs.p3.dO (Ψ:=(λ w=>cA.dr w (⟨kd,(cU l s).2,(ByteArray.mk #[]),OW,⟨none,0,0⟩,0,0,0,a⟩:bY) (⟨kd,(cU l s).2,(ByteArray.mk #[]),e,[],0,0,0,a⟩:cG))) (λ w h=>⟨_,_,rfl,id (h),DL.nil _⟩);have hs:=((hs.p1.drop.p1).drop).p1
  exact (wX hs).mut
 ·refine aH (aC (λ iT=>?_) (λ iT=>?_))
  ·obtain ⟨rfl,rfl⟩:=Rs hp iT;refine bH DA hs.p2 (H':=λ _=>cE p (dW lv ov (cU l s).1)) (Φ:=λ v _=>v = .string (cU l s).2) (λ F2 eQ ey=>?_) ?_
   ·exact C260 p lv ov l s F2 _ eQ (λ w' hc=>hT w' (ey w' hc).aE) hk h0
   rintro _ w9 rfl hs;refine aA l4 (aV hs.p1 ke (eL rfl) (rfl) (λ pP hs=>have hs:=hs.enc (cs':=Flat.enc (⟨kd,(cU l s).2,(ByteArray.mk #[]),⟨none,0,0⟩,⟨none,0,0⟩,0,0,0,a⟩:bY)) rfl;bH yk hs.p1 (H':=λ _=>cE p (dW lv ov (dP l (cU l s).1 (ByteArray.mk #[61])))) (Φ:=λ _ _=>True) (λ F2 eQ ey=>?_) ?_))
   ·exact (C234 p lv ov l (cU l s).1 (ByteArray.mk #[61]) F2 _ eQ (λ w' hc=>hT w' (ey w' hc).aE) hk (gz h0)).mono λ _ _ r=>r.mono λ _ _ h=>⟨trivial,h.2⟩
   rintro _ sB _ hs;refine bH DA hs (H':=λ _=>cE p (dW lv ov (cU l (dP l (cU l s).1 (ByteArray.mk #[61]))).1)) (Φ:=λ v _=>v = .string (cU l (dP l (cU l s).1 (ByteArray.mk #[61]))).2) (λ F2 eQ ey=>?_) ?_
   ·exact C260 p lv ov l (dP l (cU l s).1 (ByteArray.mk #[61])) F2 _ eQ (λ w' hc=>hT w' (ey w' hc).aE) hk (fE (gz h0))
   rintro _ u7 rfl hs;refine aA jo (aV hs.p1 ke (eL rfl) (rfl) (λ u9 hs=>?_));have hs:=hs.enc (cs':=Flat.enc (⟨kd,(cU l s).2,(cU l (dP l (cU l s).1 (ByteArray.mk #[61]))).2,⟨none,0,0⟩,⟨none,0,0⟩,0,0,0,a⟩:bY)) rfl;intro oN;refine aD fX hs.At (aI (x:=(⟨kd,(cU l s).2,(cU l (dP l (cU l s).1 (ByteArray.mk #[61]))).2,⟨none,0,0⟩,⟨none,0,0⟩,0,0,0,a⟩:bY)) hs.p2 fX rfl rfl (λ WA hs=>aD fX hs.At ?_));have hs:=hs.gH (Φ:=(λ w=>cA.dr w (⟨kd,(cU l s).2,(cU l (dP l (cU l s).1 (ByteArray.mk #[61]))).2,⟨none,0,0⟩,⟨none,0,0⟩,0,0,0,a⟩:bY) (⟨kd,(cU l s).2,(cU l (dP l (cU l s).1 (ByteArray.mk #[61]))).2,[],[],0,0,0,a⟩:cG))) (λ w=>⟨_,_,rfl,DL.nil _,DL.nil _⟩)
   have hs:=((hs.p1.drop.p1).drop).p1;exact (wX hs).mut
  ·refine aH (aC (λ nH=>?_) (λ nH=>?_))
   ·obtain ⟨q,e,hex,rfl,rfl⟩:=Rt hp nH;refine bH DA hs.p2 (H':=λ _=>cE p (dW lv ov (cU l s).1)) (Φ:=λ v _=>v = .string (cU l s).2) (λ F2 eQ ey=>?_) ?_
    ·exact C260 p lv ov l s F2 _ eQ (λ w' hc=>hT w' (ey w' hc).aE) hk h0
    rintro _ r9 rfl hs;refine aA jo (aV hs.p1 ke (eL rfl) (rfl) (λ vT hs=>have hs:=hs.enc (cs':=Flat.enc (⟨kd,(ByteArray.mk #[]),(cU l s).2,⟨none,0,0⟩,⟨none,0,0⟩,0,0,0,a⟩:bY)) rfl;bH yk hs.p1 (H':=λ _=>cE p (dW lv ov (dP l (cU l s).1 (ByteArray.mk #[61])))) (Φ:=λ _ _=>True) (λ F2 eQ ey=>?_) ?_))
    ·exact (C234 p lv ov l (cU l s).1 (ByteArray.mk #[61]) F2 _ eQ (λ w' hc=>hT w' (ey w' hc).aE) hk (gz h0)).mono λ _ _ r=>r.mono λ _ _ h=>⟨trivial,h.2⟩
    rintro _ yO _ hs;refine bH Ki hs (H':=λ v=>ue λ sv:SV=>fact (v=Flat.val sv) (sep (cE p (dW lv ov s2)) (eB (λ w=>DL w (Flat.val sv) e)))) (Φ:=λ _ _=>True) (λ F2 eQ ey=>?_) ?_
    ·exact (C261 p lv ov l (dP l (cU l s).1 (ByteArray.mk #[61])) s2 e F2 _ eQ (λ w' hc=>hT w' (ey w' hc).aE) hk (fE (gz h0)) hex).mono λ _ _ r=>r.mono λ _ _ h=>⟨trivial,h⟩
    rintro v_x40 B6 _ AO;obtain ⟨OX,AP⟩:=AO.eX
    clear AO
    obtain ⟨alw,C9⟩:=AP.oM
    clear AP
    subst alw;have hs:=C9.split;refine aA l5 (aV hs.p2 mW (eL rfl) (rfl) (λ GQ hs=>?_));have hs:=hs.enc (cs':=Flat.enc (⟨kd,(ByteArray.mk #[]),(cU l s).2,OX,⟨none,0,0⟩,0,0,0,a⟩:bY)) rfl;intro oN;refine aD fX hs.At (aI (x:=(⟨kd,(ByteArray.mk #[]),(cU l s).2,OX,⟨none,0,0⟩,0,0,0,a⟩:bY)) hs.p3 fX rfl rfl (λ WA hs=>aD fX hs.At ?_));have hs:=hs.p3.dO (Ψ:=(λ w=>cA.dr w (⟨kd,(ByteArray.mk #[]),(cU l s).2,OX,⟨none,0,0⟩,0,0,0,a⟩:bY) (⟨kd,(ByteArray.mk #[]),(cU l s).2,e,[],0,0,0,a⟩:cG))) (λ w h=>⟨_,_,rfl,id (h),DL.nil _⟩);have hs:=((hs.p1.drop.p1).drop).p1
    exact (wX hs).mut
   ·refine aH (aC (λ uj=>?_) (λ uj=>?_))
    ·obtain ⟨q,e,q2,f,hex,hfx,rfl,rfl⟩:=Ru hp uj;refine bH DA hs.p2 (H':=λ _=>cE p (dW lv ov (cU l s).1)) (Φ:=λ v _=>v = .string (cU l s).2) (λ F2 eQ ey=>?_) ?_
     ·exact C260 p lv ov l s F2 _ eQ (λ w' hc=>hT w' (ey w' hc).aE) hk h0
     rintro _ IF rfl hs;refine aA l4 (aV hs.p1 ke (eL rfl) (rfl) (λ JH hs=>have hs:=hs.enc (cs':=Flat.enc (⟨kd,(cU l s).2,(ByteArray.mk #[]),⟨none,0,0⟩,⟨none,0,0⟩,0,0,0,a⟩:bY)) rfl;bH yk hs.p1 (H':=λ _=>cE p (dW lv ov (dP l (cU l s).1 (ByteArray.mk #[61])))) (Φ:=λ _ _=>True) (λ F2 eQ ey=>?_) ?_))
     ·exact (C234 p lv ov l (cU l s).1 (ByteArray.mk #[61]) F2 _ eQ (λ w' hc=>hT w' (ey w' hc).aE) hk (gz h0)).mono λ _ _ r=>r.mono λ _ _ h=>⟨trivial,h.2⟩
     rintro _ Lr _ hs;refine bH DA hs (H':=λ _=>cE p (dW lv ov (cU l (dP l (cU l s).1 (ByteArray.mk #[61]))).1)) (Φ:=λ v _=>v = .string (cU l (dP l (cU l s).1 (ByteArray.mk #[61]))).2) (λ F2 eQ ey=>?_) ?_
     ·exact C260 p lv ov l (dP l (cU l s).1 (ByteArray.mk #[61])) F2 _ eQ (λ w' hc=>hT w' (ey w' hc).aE) hk (fE (gz h0))
     rintro _ NS rfl hs;refine aA jo (aV hs.p1 ke (eL rfl) (rfl) (λ Sy hs=>have hs:=hs.enc (cs':=Flat.enc (⟨kd,(cU l s).2,(cU l (dP l (cU l s).1 (ByteArray.mk #[61]))).2,⟨none,0,0⟩,⟨none,0,0⟩,0,0,0,a⟩:bY)) rfl;bH yk hs.p1 (H':=λ _=>cE p (dW lv ov (dP l (cU l (dP l (cU l s).1 (ByteArray.mk #[61]))).1 (ByteArray.mk #[44])))) (Φ:=λ _ _=>True) (λ F2 eQ ey=>?_) ?_))
     ·exact (C234 p lv ov l (cU l (dP l (cU l s).1 (ByteArray.mk #[61]))).1 (ByteArray.mk #[44]) F2 _ eQ (λ w' hc=>hT w' (ey w' hc).aE) hk (gz (fE (gz h0)))).mono λ _ _ r=>r.mono λ _ _ h=>⟨trivial,h.2⟩
     rintro _ TU _ hs;refine bH Ki hs (H':=λ v=>ue λ sv:SV=>fact (v=Flat.val sv) (sep (cE p (dW lv ov q)) (eB (λ w=>DL w (Flat.val sv) e)))) (Φ:=λ _ _=>True) (λ F2 eQ ey=>?_) ?_
     ·exact (C261 p lv ov l (dP l (cU l (dP l (cU l s).1 (ByteArray.mk #[61]))).1 (ByteArray.mk #[44])) q e F2 _ eQ (λ w' hc=>hT w' (ey w' hc).aE) hk (fE (gz (fE (gz h0)))) hex).mono λ _ _ r=>r.mono λ _ _ h=>⟨trivial,h⟩
     rintro v_x55 QQ _ AO;obtain ⟨Fa,AP⟩:=AO.eX
     clear AO
     obtain ⟨alx,C9⟩:=AP.oM
     clear AP
     subst alx;have hs:=C9.split;refine aA l5 (aV hs.p2 mW (eL rfl) (rfl) (λ Y6 hs=>have hs:=hs.enc (cs':=Flat.enc (⟨kd,(cU l s).2,(cU l (dP l (cU l s).1 (ByteArray.mk #[61]))).2,Fa,⟨none,0,0⟩,0,0,0,a⟩:bY)) rfl;bH yk hs.p1 (H':=λ _=>cE p (dW lv ov (dP l q (ByteArray.mk #[44])))) (Φ:=λ _ _=>True) (λ F2 eQ ey=>?_) ?_))
     ·exact (C234 p lv ov l q (ByteArray.mk #[44]) F2 _ eQ (λ w' hc=>hT w' (ey w' hc).aE) hk (rU (fE (gz (fE (gz h0)))) hex)).mono λ _ _ r=>r.mono λ _ _ h=>⟨trivial,h.2⟩
     rintro _ Y7 _ hs;refine bH Ki hs (H':=λ v=>ue λ sv:SV=>fact (v=Flat.val sv) (sep (cE p (dW lv ov s2)) (eB (λ w=>DL w (Flat.val sv) f)))) (Φ:=λ _ _=>True) (λ F2 eQ ey=>?_) ?_
     ·exact (C261 p lv ov l (dP l q (ByteArray.mk #[44])) s2 f F2 _ eQ (λ w' hc=>hT w' (ey w' hc).aE) hk (fE (rU (fE (gz (fE (gz h0)))) hex)) hfx).mono λ _ _ r=>r.mono λ _ _ h=>⟨trivial,h⟩
     rintro v_x60 w28 _ AO;obtain ⟨BG,AP⟩:=AO.eX
     clear AO
     obtain ⟨aly,C9⟩:=AP.oM
     clear AP
     subst aly;have hs:=C9.split;refine aA oc (aV hs.p2 mW (eL rfl) (rfl) (λ w29 hs=>?_));have hs:=hs.enc (cs':=Flat.enc (⟨kd,(cU l s).2,(cU l (dP l (cU l s).1 (ByteArray.mk #[61]))).2,Fa,BG,0,0,0,a⟩:bY)) rfl;intro oN;refine aD fX hs.At (aI (x:=(⟨kd,(cU l s).2,(cU l (dP l (cU l s).1 (ByteArray.mk #[61]))).2,Fa,BG,0,0,0,a⟩:bY)) hs.p4 fX rfl rfl (λ WA hs=>aD fX hs.At ?_));have hs:=hs.p4.p4.p1.fP.dO (Ψ:=(λ w=>cA.dr w (⟨kd,(cU l s).2,(cU l (dP l (cU l s).1 (ByteArray.mk #[61]))).2,Fa,BG,0,0,0,a⟩:bY) (⟨kd,(cU l s).2,(cU l (dP l (cU l s).1 (ByteArray.mk #[61]))).2,e,f,0,0,0,a⟩:cG))) (λ w h=>⟨_,_,rfl,id (h.1),id (h.2)⟩)
     have hs:=((hs.p1.drop.p1).drop).p1;exact (wX hs).mut
    ·refine ⟨λ jv w'=>jv = .bool (decide (kd=5∨kd=6∨kd=9∨kd=10))∧w3=w',?_,?_⟩
     ·refine aH (aC (λ G7=>?_) (λ G7=>?_))
      ·exact ⟨vb (by grind),rfl⟩
      ·refine aH (aC (λ qD=>?_) (λ qD=>?_))
       ·exact ⟨vb (by grind),rfl⟩
       ·refine aH (aC (λ ni=>?_) (λ ni=>?_))
        ·exact ⟨vb (by grind),rfl⟩
        ·refine aH ?_;exact ⟨vb (by grind),rfl⟩
     ·rintro _ w30 ⟨rfl,hw⟩ fz;subst hw;refine aC (λ sH=>?_) (λ sH=>?_)
      ·obtain ⟨rfl,rfl⟩:=Rv hp sH;refine bH DA hs.p2 (H':=λ _=>cE p (dW lv ov (cU l s).1)) (Φ:=λ v _=>v = .string (cU l s).2) (λ F2 eQ ey=>?_) ?_
       ·exact C260 p lv ov l s F2 _ eQ (λ w' hc=>hT w' (ey w' hc).aE) hk h0
       rintro _ w31 rfl hs;refine aA jo (aV hs.p1 ke (eL rfl) (rfl) (λ w32 hs=>?_));have hs:=hs.enc (cs':=Flat.enc (⟨kd,(ByteArray.mk #[]),(cU l s).2,⟨none,0,0⟩,⟨none,0,0⟩,0,0,0,a⟩:bY)) rfl;intro oN;refine aD fX hs.At (aI (x:=(⟨kd,(ByteArray.mk #[]),(cU l s).2,⟨none,0,0⟩,⟨none,0,0⟩,0,0,0,a⟩:bY)) hs.p2 fX rfl rfl (λ WA hs=>aD fX hs.At ?_));have hs:=hs.gH (Φ:=(λ w=>cA.dr w (⟨kd,(ByteArray.mk #[]),(cU l s).2,⟨none,0,0⟩,⟨none,0,0⟩,0,0,0,a⟩:bY) (⟨kd,(ByteArray.mk #[]),(cU l s).2,[],[],0,0,0,a⟩:cG))) (λ w=>⟨_,_,rfl,DL.nil _,DL.nil _⟩);have hs:=((hs.p1.drop.p1).drop).p1
       exact (wX hs).mut
      ·refine ⟨λ jv w'=>jv = .bool (decide (kd=11∨kd=14))∧w3=w',?_,?_⟩
       ·refine aH (aC (λ vC=>?_) (λ vC=>?_))
        ·exact ⟨vb (by grind),rfl⟩
        ·refine aH ?_;exact ⟨vb (by grind),rfl⟩
       ·rintro _ w33 ⟨rfl,hw⟩ jB;subst hw;refine aC (λ Ah=>?_) (λ Ah=>?_)
        ·obtain ⟨q,e,hex,rfl,rfl⟩:=Mj hp Ah;refine bH Ki hs.p2 (H':=λ v=>ue λ sv:SV=>fact (v=Flat.val sv) (sep (cE p (dW lv ov s2)) (eB (λ w=>DL w (Flat.val sv) e)))) (Φ:=λ _ _=>True) (λ F2 eQ ey=>?_) ?_
         ·exact (C261 p lv ov l s s2 e F2 _ eQ (λ w' hc=>hT w' (ey w' hc).aE) hk h0 hex).mono λ _ _ r=>r.mono λ _ _ h=>⟨trivial,h⟩
         rintro v_x74 w34 _ AO;obtain ⟨OY,AP⟩:=AO.eX
         clear AO
         obtain ⟨alz,C9⟩:=AP.oM
         clear AP
         subst alz;have hs:=C9.split;refine aA l5 (aV hs.p2 mW (eL rfl) (rfl) (λ w35 hs=>?_));have hs:=hs.enc (cs':=Flat.enc (⟨kd,(ByteArray.mk #[]),(ByteArray.mk #[]),OY,⟨none,0,0⟩,0,0,0,a⟩:bY)) rfl;intro oN;refine aD fX hs.At (aI (x:=(⟨kd,(ByteArray.mk #[]),(ByteArray.mk #[]),OY,⟨none,0,0⟩,0,0,0,a⟩:bY)) hs.p3 fX rfl rfl (λ WA hs=>aD fX hs.At ?_));have hs:=hs.p3.dO (Ψ:=(λ w=>cA.dr w (⟨kd,(ByteArray.mk #[]),(ByteArray.mk #[]),OY,⟨none,0,0⟩,0,0,0,a⟩:bY) (⟨kd,(ByteArray.mk #[]),(ByteArray.mk #[]),e,[],0,0,0,a⟩:cG))) (λ w h=>⟨_,_,rfl,id (h),DL.nil _⟩)
         have hs:=((hs.p1.drop.p1).drop).p1;exact (wX hs).mut
        ·refine aH (aC (λ Lf=>?_) (λ Lf=>?_))
         ·obtain ⟨rfl,rfl⟩:=Mk hp Lf;refine bH aoG hs.p2 (H':=λ _=>cE p (dW lv ov (kI l s).1)) (Φ:=λ v _=>v = .int .i64 (kI l s).2) (λ F2 eQ ey=>?_) ?_
          ·exact C262 p lv ov l s F2 _ eQ (λ w' hc=>hT w' (ey w' hc).aE) hk h0
          rintro _ w36 rfl hs;refine aA tZ (aV hs.p1 bN (eL rfl) (rfl) (λ w37 hs=>?_));have hs:=hs.enc (cs':=Flat.enc (⟨kd,(ByteArray.mk #[]),(ByteArray.mk #[]),⟨none,0,0⟩,⟨none,0,0⟩,(kI l s).2,0,0,a⟩:bY)) rfl;intro oN;refine aD fX hs.At (aI (x:=(⟨kd,(ByteArray.mk #[]),(ByteArray.mk #[]),⟨none,0,0⟩,⟨none,0,0⟩,(kI l s).2,0,0,a⟩:bY)) hs.p2 fX rfl rfl (λ WA hs=>aD fX hs.At ?_));have hs:=hs.gH (Φ:=(λ w=>cA.dr w (⟨kd,(ByteArray.mk #[]),(ByteArray.mk #[]),⟨none,0,0⟩,⟨none,0,0⟩,(kI l s).2,0,0,a⟩:bY) (⟨kd,(ByteArray.mk #[]),(ByteArray.mk #[]),[],[],(kI l s).2,0,0,a⟩:cG))) (λ w=>⟨_,_,rfl,DL.nil _,DL.nil _⟩)
          have hs:=((hs.p1.drop.p1).drop).p1;exact (wX hs).mut
         ·obtain ⟨rfl,rfl⟩:=Ml hp kM iT nH uj sH Ah Lf;intro oN;refine aD fX hs.At (aI (x:=(⟨kd,(ByteArray.mk #[]),(ByteArray.mk #[]),⟨none,0,0⟩,⟨none,0,0⟩,0,0,0,a⟩:bY)) hs.p1 fX rfl rfl (λ WA hs=>aD fX hs.At ?_));have hs:=hs.gH (Φ:=(λ w=>cA.dr w (⟨kd,(ByteArray.mk #[]),(ByteArray.mk #[]),⟨none,0,0⟩,⟨none,0,0⟩,0,0,0,a⟩:bY) (⟨kd,(ByteArray.mk #[]),(ByteArray.mk #[]),[],[],0,0,0,a⟩:cG))) (λ w=>⟨_,_,rfl,DL.nil _,DL.nil _⟩);have hs:=((hs.p1.drop.p1).drop).p1;exact (wX hs).mut
def gV (l:List bI) (a:Int):Nat→Int
 | 0=>1
 | n+1=>if sR l a (Hy ((n:Int)+2))=true then (n:Int)+2 else gV l a n
theorem Rw {l:List bI} {a:Int}:∀ n:Nat,1≤gV l a n∧gV l a n≤(n:Int)+1
 | 0=>by unfold gV; omega
 | n+1=>by
  have:=Rw (l:=l) (a:=a) n
  unfold gV
  split <;> omega
theorem Mm {l:List bI} {a:Int}:∀ n:Nat,gV l a n=1∨∃ t,sR l a t=true
 | 0=>.inl rfl
 | n+1=>by
  unfold gV
  split
  ·rename_i h; exact .inr ⟨_,h⟩
  ·exact Mm n
theorem Hz {l:List bI} {a:Int} {n:Nat} (h:sR l a (Hy ((n:Int)+2))=true):gV l a (n+1)=(n:Int)+2:=if_pos h
theorem HA {l:List bI} {a:Int} {n:Nat} (h:¬ sR l a (Hy ((n:Int)+2))=true):gV l a (n+1)=gV l a n:=if_neg h
def Zd (l:List bI) (s:fQ):fQ:=if gV l s.at_ 13≠1 then {s with at_:=s.at_+1} else s
theorem Jq {l:List bI} {s:fQ} (h:lT l s):lT l (Zd l s):=by
 unfold Zd
 split
 ·rename_i h1
  rcases Mm (l:=l) (a:=s.at_) 13 with h2 | ⟨t,h2⟩
  ·exact absurd h2 h1
  ·have:=rT h2
   exact ⟨by show 0≤s.at_+1; omega,by show s.at_+1≤_; omega⟩
 ·exact h
abbrev ag7:ByteArray:=⟨#[101,108,115,101]⟩
def kh (l:List bI) (kd:Int) (s:fQ):Bool:=decide (kd=11) && decide (s.e=0) && sR l s.at_ ag7
def X0 (s:fQ):fQ:={s with at_:=s.at_+1}
abbrev aej:=fQ→Int→Int→Option (fQ × List cG)
def CI (l:List bI) (cE:aej) (s:fQ) (d lp:Int):Option (fQ × List cG):=
 if gV l s.at_ 13=13∧lp=0 then some (ja l s 5,[])
 else (kJ l (Zd l s) (gV l s.at_ 13) (mQ l s.at_)).bind λ r=>
  if gV l s.at_ 13≠11∧gV l s.at_ 13≠12 then some (dP l r.1 ⟨#[59]⟩,[r.2])
  else (cE r.1 (d+1) (if gV l s.at_ 13=12 then lp+1 else lp)).bind λ q=>
   if kh l (gV l s.at_ 13) q.1=true then (cE (X0 q.1) (d+1) lp).bind λ t=>some (t.1,{r.2 with body:=(q.2.length:Int),fJ:=(t.2.length:Int)}::(q.2++t.2))
   else some (q.1,{r.2 with body:=(q.2.length:Int)}::q.2)
section
variable {l:List bI} {cE:aej} {s s':fQ} {d lp:Int} {add:List cG}
theorem Rx (h:CI l cE s d lp=some (s',add)) (hb:gV l s.at_ 13=13∧lp=0):s'=ja l s 5∧add=[]:=by
 unfold CI at h; rw [if_pos hb] at h; cases h; exact ⟨rfl,rfl⟩
theorem X1 (h:CI l cE s d lp=some (s',add)) (hb:¬ (gV l s.at_ 13=13∧lp=0)):∃ s2 x,kJ l (Zd l s) (gV l s.at_ 13) (mQ l s.at_)=some (s2,x)∧
  (if gV l s.at_ 13≠11∧gV l s.at_ 13≠12 then some (dP l s2 ⟨#[59]⟩,[x])
  else (cE s2 (d+1) (if gV l s.at_ 13=12 then lp+1 else lp)).bind λ q=>
   if kh l (gV l s.at_ 13) q.1=true then (cE (X0 q.1) (d+1) lp).bind λ t=>some (t.1,{x with body:=(q.2.length:Int),fJ:=(t.2.length:Int)}::(q.2++t.2))
   else some (q.1,{x with body:=(q.2.length:Int)}::q.2))=some (s',add):=by
 unfold CI at h; rw [if_neg hb] at h
 obtain ⟨p,q,h1,h2⟩:=eK h
 exact ⟨p,q,h1,h2⟩
theorem Ry {kd:Int} {s2:fQ} {x:cG} (h:(if kd≠11∧kd≠12 then some (dP l s2 ⟨#[59]⟩,[x])
  else (cE s2 (d+1) (if kd=12 then lp+1 else lp)).bind λ q=>
   if kh l kd q.1=true then (cE (X0 q.1) (d+1) lp).bind λ t=>some (t.1,{x with body:=(q.2.length:Int),fJ:=(t.2.length:Int)}::(q.2++t.2))
   else some (q.1,{x with body:=(q.2.length:Int)}::q.2))=some (s',add)) (hk:¬ (kd≠11∧kd≠12)) :
  ∃ s3 m1,cE s2 (d+1) (if kd=12 then lp+1 else lp)=some (s3,m1)∧
   ((kh l kd s3=true∧∃ s5 m2,cE (X0 s3) (d+1) lp=some (s5,m2)∧s'=s5∧add={x with body:=(m1.length:Int),fJ:=(m2.length:Int)}::(m1++m2))∨
    (kh l kd s3=false∧s'=s3∧add={x with body:=(m1.length:Int)}::m1)):=by
 rw [if_neg hk] at h
 obtain ⟨s3,m1,h1,h2⟩:=eK h
 refine ⟨s3,m1,h1,?_⟩
 dsimp only at h2
 cases he:kh l kd s3 with
 | true=>
  rw [he,if_pos rfl] at h2
  obtain ⟨s5,m2,h3,h4⟩:=eK h2
  cases h4
  exact .inl ⟨rfl,_,_,h3,rfl,rfl⟩
 | false=>
  rw [he,if_neg (by simp)] at h2
  cases h2
  exact .inr ⟨rfl,rfl,rfl⟩
theorem HC {kd:Int} {s2:fQ} {x:cG} (h:(if kd≠11∧kd≠12 then some (dP l s2 ⟨#[59]⟩,[x])
  else (cE s2 (d+1) (if kd=12 then lp+1 else lp)).bind λ q=>
   if kh l kd q.1=true then (cE (X0 q.1) (d+1) lp).bind λ t=>some (t.1,{x with body:=(q.2.length:Int),fJ:=(t.2.length:Int)}::(q.2++t.2))
   else some (q.1,{x with body:=(q.2.length:Int)}::q.2))=some (s',add)) (hk:kd≠11∧kd≠12):s'=dP l s2 ⟨#[59]⟩∧add=[x]:=by
 rw [if_pos hk] at h; cases h; exact ⟨rfl,rfl⟩
end
abbrev Cn:ByteArray:=⟨#[123]⟩
abbrev nO:ByteArray:=⟨#[125]⟩
def sU (l:List bI) (one:fQ→Option (fQ × List cG)):Nat→fQ→Option (fQ × List cG)
 | 0,_=>none
 | m+1,s=>if (decide (s.e=0) && !sR l s.at_ nO)=true then (one s).bind λ r=>(sU l one m r.1).bind λ q=>some (q.1,r.2++q.2) else some (s,[])
def TX (l:List bI) (s:fQ) (d:Int):fQ:=if (decide (12<d) && sR l s.at_ Cn)=true then ja l s 7 else s
theorem OZ {l:List bI} {s:fQ} {d:Int} (h:lT l s):lT l (TX l s d):=by unfold TX; split; exact sT h; exact h
def TY (l:List bI):Nat→aej
 | 0=>λ _ _ _=>none
 | k+1=>λ s d lp=>(sU l (λ s=>CI l (TY l k) s d lp) 10000 (dP l (TX l s d) Cn)).bind λ r=>some (dP l r.1 nO,r.2)
section
variable {l:List bI} {one:fQ→Option (fQ × List cG)} {s s':fQ} {d lp:Int} {add:List cG} {m:Nat}
theorem HD (h:sU l one m s=some (s',add)):∃ k,m=k+1:=by
 cases m with
 | zero=>cases h
 | succ k=>exact ⟨k,rfl⟩
theorem Ft (h:sU l one (m+1) s=some (s',add)) (hb:(decide (s.e=0) && !sR l s.at_ nO)=false):s'=s∧add=[]:=by
 unfold sU at h; rw [hb,if_neg (by simp)] at h; cases h; exact ⟨rfl,rfl⟩
theorem Jr (h:sU l one (m+1) s=some (s',add)) (hb:(decide (s.e=0) && !sR l s.at_ nO)=true):∃ s1 a1 a2,one s=some (s1,a1)∧sU l one m s1=some (s',a2)∧add=a1++a2:=by
 unfold sU at h; rw [hb,if_pos rfl] at h
 obtain ⟨s1,a1,h1,h2⟩:=eK h
 obtain ⟨s2,a2,h3,h4⟩:=eK h2
 cases h4
 exact ⟨_,_,_,h1,h3,rfl⟩
theorem X2 {k:Nat} (h:TY l (k+1) s d lp=some (s',add)):∃ s1,sU l (λ s=>CI l (TY l k) s d lp) 10000 (dP l (TX l s d) Cn)=some (s1,add)∧s'=dP l s1 nO:=by
 unfold TY at h
 obtain ⟨s1,a1,h1,h2⟩:=eK h
 cases h2
 exact ⟨_,h1,rfl⟩
end
theorem O0 {l:List bI} {cE:aej} {s s':fQ} {d lp:Int} {add:List cG} (hb:∀ s d lp s' a,lT l s→cE s d lp=some (s',a)→lT l s') (h0:lT l s) (h:CI l cE s d lp=some (s',add)):lT l s':=by
 by_cases h1:gV l s.at_ 13=13∧lp=0
 ·rw [(Rx h h1).1]; exact sT h0
 ·obtain ⟨s2,x,h2,h3⟩:=X1 h h1
  have h2i:=BU (Jq h0) h2
  by_cases h4:gV l s.at_ 13≠11∧gV l s.at_ 13≠12
  ·rw [(HC h3 h4).1]; exact fE h2i
  ·obtain ⟨s3,m1,h5,h6⟩:=Ry h3 h4
   have h3i:=hb _ _ _ _ _ h2i h5
   rcases h6 with ⟨h7,s5,m2,h8,h9,_⟩ | ⟨_,h9,_⟩
   ·rw [h9]
    refine hb _ _ _ _ _ ?_ h8
    unfold kh at h7
    rw [Bool.and_eq_true] at h7
    have:=rT h7.2
    exact ⟨by show 0≤s3.at_+1; omega,by show s3.at_+1≤_; omega⟩
   ·rw [h9]; exact h3i
theorem Rz {l:List bI} {one:fQ→Option (fQ × List cG)} (ho:∀ s s' a,lT l s→one s=some (s',a)→lT l s'):∀ {m:Nat} {s s':fQ} {add:List cG},lT l s→sU l one m s=some (s',add)→lT l s'
 | 0,_,_,_,_,h=>by cases h
 | m+1,s,s',add,h0,h=>by
  cases hb:(decide (s.e=0) && !sR l s.at_ nO) with
  | false=>rw [(Ft h hb).1]; exact h0
  | true=>
   obtain ⟨s1,a1,a2,h1,h2,_⟩:=Jr h hb
   exact Rz ho (ho _ _ _ h0 h1) h2
theorem O1 {l:List bI}:∀ {k:Nat} {s s':fQ} {d lp:Int} {add:List cG},lT l s→TY l k s d lp=some (s',add)→lT l s'
 | 0,_,_,_,_,_,_,h=>by cases h
 | k+1,s,s',d,lp,add,h0,h=>by
  obtain ⟨s1,h1,h2⟩:=X2 h
  rw [h2]
  exact fE (Rz (λ _ _ _ a b=>O0 (λ _ _ _ _ _ c e=>O1 c e) a b) (fE (OZ h0)) h1)
def pT (p:Nat) (lv:Value) (s:fQ) (out:List cG) (Q:World→Prop):HP:=ue λ ov:Value=>ue λ ts:List bY=>sep (cE p (dW lv ov s)) (sep (bK ov ts) (eB (λ w=>iB ts out w∧Q w)))
section
variable {w0 w:World} {A:Nat→Prop} {L:List HP} {p:Nat} {lv:Value} {s:fQ} {out:List cG} {Q:World→Prop}
theorem pT.open (hs:St w0 A (pT p lv s out Q::L) w):∃ (ov:Value) (ts:List bY),St w0 A (cE p (dW lv ov s)::bK ov ts::eB (λ w=>iB ts out w∧Q w)::L) w:=by
 obtain ⟨ov,h1⟩:=hs.eX
 obtain ⟨ts,h2⟩:=h1.eX
 exact ⟨ov,ts,h2.split.p1.split.p2⟩
theorem pT.shut {ov:Value} {ts:List bY} (hs:St w0 A (cE p (dW lv ov s)::bK ov ts::eB (λ w=>iB ts out w∧Q w)::L) w):St w0 A (pT p lv s out Q::L) w:=
 St.eR (H:=λ ov:Value=>ue λ ts:List bY=>sep (cE p (dW lv ov s)) (sep (bK ov ts) (eB (λ w=>iB ts out w∧Q w)))) ov (St.eR (H:=λ ts:List bY=>sep (cE p (dW lv ov s)) (sep (bK ov ts) (eB (λ w=>iB ts out w∧Q w)))) ts (St.join (hs.p2.p2.join).p1))
end
def alA (l:List bI) (k:Nat):Prop:=∀ (p:Nat) (lv:Value) (s:fQ) (d lp:Int) (out:List cG) (s2:fQ) (add:List cG) (Q:World→Prop) (F:Nat→Prop) (w:World),
 (pT p lv s out Q).p w F→(∀ w',iE F w w'→eE (λ _=>True) w' lv l)→lT l s→0≤d∧d+k≤1001→0≤lp∧lp+k≤1001→out.length+add.length≤1000000→TY l k s d lp=some (s2,add)→
 Calls PG 256 [.pointer (some ⟨p,0,none⟩),.int .i64 d,.int .i64 lp].toArray w (qf λ v w'=>v = .int .i64 (add.length:Int)∧qz F (pT p lv s2 (out++add) Q) w w')
theorem aek {w:World} {sh:bY} {x:cG} (h:cA.dr w sh x):DL w (Flat.val sh.e) x.e:=by obtain ⟨_,_,rfl,h,_⟩:=h; exact h
theorem ael {w:World} {sh:bY} {x:cG} (h:cA.dr w sh x):DL w (Flat.val sh.f) x.f:=by obtain ⟨_,_,rfl,_,h⟩:=h; exact h
theorem O2 {l:List bI} {kd:Int} {s:fQ} (h:kh l kd s=true):lT l (X0 s):=by
 unfold kh at h
 rw [Bool.and_eq_true] at h
 have:=rT h.2
 exact ⟨by show 0≤s.at_+1; omega,by show s.at_+1≤_; omega⟩
theorem aem {α σ:Type} [Flat σ] [cA α σ] {w:World} {ts:List σ} {xs:List α} {i:Nat} {t:σ} {x:α} (h:iB ts xs w) (ht:cA.dr w t x):iB (ts.set i t) (xs.set i x) w:=by
 refine ⟨by rw [List.length_set,List.length_set,h.1],λ j t' x' h1 h2=>?_⟩
 rw [List.getElem?_set] at h1 h2
 by_cases hj:i=j
 ·rw [if_pos hj] at h1 h2
  split at h1
  ·split at h2
   ·cases h1; cases h2; exact ht
   ·cases h2
  ·cases h1
 ·rw [if_neg hj] at h1 h2; exact h.2 _ _ _ h1 h2
theorem X3 {α:Type} {a b:List α} {x y:α}:(a++x::b).set a.length y=a++y::b:=by
 rw [List.set_append_right _ _ (Nat.le_refl _),Nat.sub_self,List.set_cons_zero]
set_option maxHeartbeats 4000000 in
theorem C233 (p:Nat) (lv:Value) (l:List bI) (s:fQ) (k:Nat) (d lp:Int) (out:List cG) (s2:fQ) (add:List cG) (Q:World→Prop) (F:Nat→Prop) (w:World) (hF:(pT p lv s out Q).p w F) (hT:∀ w',iE F w w'→eE (λ _=>True) w' lv l) (hk:iz l) (h0:lT l s) (HB:alA l k) (hd:0≤d∧d+k≤1000) (Mi:0≤lp∧lp+k≤1000) (TT:out.length+add.length≤1000000) (hr:CI l (TY l k) s d lp=some (s2,add)):CR 233 [(.pointer (some ⟨p,0,none⟩)),.int .i64 d,.int .i64 lp] w (λ v w'=>v = .tuple #[]∧qz F (pT p lv s2 (out++add) Q) w w'):=by
 have hs:=St.begin hF;obtain ⟨ov,ts,hs⟩:=pT.open hs;have Nk:ts.length=out.length:=(hs.p2.eB).1.1;have FL:=hk.n;have hn:l.length≤1000000:=by omega
 have ti:=hk.at_;obtain ⟨Rp,Rq⟩:=id h0;refine abm _ _ _ _ _ ?_;unfold S233;refine aF (aA gS (have hs:=hs.drew;aB iR hs.hb rfl (aF (aA eV (aB bN hs.hb rfl (aZ GA hs (C215 _ l s.at_ _ (hT _ hs.aE) hn ti) (λ w1 he hs=>?_)))))));have hs:=hs.p2.p2.p2;refine ⟨λ mm a b w'=>∃ j:Nat,a = .int .i64 (gV l s.at_ j)∧b = .int .i64 ((j:Int)+2)∧mm=13 - j∧j≤13∧St w F [cE p (dW lv ov s),bK ov ts,eB (λ w=>iB ts out w∧Q w)] w',⟨_,0,rfl,rfl,rfl,Nat.zero_le _,hs⟩,?_⟩;rintro mm _ _ w2 ⟨j,rfl,rfl,rfl,hj,hs⟩ fz;refine j9 (aC (λ iu=>?_) (λ iu=>?_))
 ·refine ⟨_,?_,λ _ _ h=>h⟩;refine aF (aA gS (have hs:=hs.drew;aB iR hs.hb rfl (aF (aA eV (aB bN hs.hb rfl (aZ aoD hs (C253 ((j:Int)+2) _ (by omega)) (λ w3 he hs=>?_)))))));refine ⟨aG iR (hs.hb.cell rfl),?_⟩;refine ⟨aG bN (hs.hb.cell rfl),?_⟩;refine aZ vA hs (C211 _ l s.at_ (Hy ((j:Int)+2)) _ (hT _ hs.aE) hn) (λ w4 he hs=>aY (λ jC=>?_) (λ jC=>?_))
  ·intro jB;refine aO (by omega) ?_;exact ⟨_,by omega,j+1,congrArg (Value.int .i64) (by first | exact (Hz jC).symm | exact (HA (by rw [jC]; simp)).symm),congrArg (Value.int .i64) (by omega),rfl,by omega,hs⟩
  ·intro jB;refine aO (by omega) ?_;exact ⟨_,by omega,j+1,congrArg (Value.int .i64) (by first | exact (Hz jC).symm | exact (HA (by rw [jC]; simp)).symm),congrArg (Value.int .i64) (by omega),rfl,by omega,hs⟩
 ·obtain rfl:j=13:=by omega
  have hkb:=Rw (l:=l) (a:=s.at_) 13;refine ⟨λ jv w'=>jv = .bool (decide ((gV l s.at_ 13)=13∧lp=0))∧w2=w',?_,?_⟩
  ·refine aH (aC (λ mi=>?_) (λ mi=>?_))
   ·refine aH ?_;exact ⟨vX (by omega),rfl⟩
   ·exact ⟨Zq (by omega),rfl⟩
  ·rintro _ w6 ⟨rfl,hw⟩ oN;subst hw;refine aC (λ kB=>?_) (λ kB=>?_)
   ·refine bH GD hs (H':=λ _=>cE p (dW lv ov (ja l s 5))) (Φ:=λ _ _=>True) (λ F2 eQ ey=>?_) ?_
    ·exact (C254 p lv ov l s 5 F2 _ eQ (λ w' hc=>hT w' (ey w' hc).aE) hk h0).mono λ _ _ r=>r.mono λ _ _ h=>⟨trivial,h.2⟩
    rintro _ w7 _ hs;obtain ⟨e1,e2⟩:=Rx hr kB;rw [e1,e2,List.append_nil];exact ⟨rfl,(pT.shut hs).mut⟩
   ·refine ⟨λ w'=>St w F [cE p (dW lv ov (Zd l s)),bK ov ts,eB (λ w=>iB ts out w∧Q w)] w',?_,?_⟩
    ·refine cO (aC (λ sD=>?_) (λ sD=>?_))
     ·refine aF (aA eV (aB bN hs.hb rfl (aO (by omega) (aF (aA eV (aV hs bN (eL rfl) (rfl) (λ w8 hs=>?_)))))));have hs:=hs.p2.p2.p2;have Sz:(Zd l s)={s with at_:=s.at_+1}:=by unfold Zd; rw [if_pos (by omega)]
      rw [Sz];exact hs
     ·have hs:=hs.p2.p2.p2;have Sz:(Zd l s)=s:=by unfold Zd; rw [if_neg (by omega)]
      rw [Sz];exact hs
    ·intro w9 hs F6;obtain ⟨q,x,vz,Gx⟩:=X1 hr kB;refine bH aoE hs (H':=λ v=>ue λ sh:bY=>fact (v=Flat.val sh) (sep (cE p (dW lv ov q)) (eB (λ w=>cA.dr w sh x)))) (Φ:=λ _ _=>True) (λ F2 eQ ey=>?_) ?_
     ·exact (C255 p lv ov l (Zd l s) (gV l s.at_ 13) (mQ l s.at_) q x F2 _ eQ (λ w' hc=>hT w' (ey w' hc).aE) hk (Jq h0) vz).mono λ _ _ r=>r.mono λ _ _ h=>⟨trivial,h⟩
     rintro v_x58 pP _ AO;obtain ⟨azu,AP⟩:=AO.eX
     clear AO
     obtain ⟨alB,C9⟩:=AP.oM
     clear AP
     subst alB;have hs:=C9.split
     clear C9
     obtain ⟨gB,gC,alC,hde,hdf⟩:=hs.p1.eB;subst alC;refine aJ hs qJ (λ Eb sB hs=>have hs:=hs.enc (cs':=Flat.enc (⟨0,(ByteArray.mk #[]),(ByteArray.mk #[]),⟨none,0,0⟩,⟨none,0,0⟩,0,0,0,0⟩:bY)) rfl;aI (x:=(⟨(x).kind,(x).gP,(x).name,gB,gC,(x).n,(x).body,(x).fJ,(x).at_⟩:bY)) hs fX rfl rfl (λ u7 hs=>aF (aA pN (aB te hs.p1.hb rfl (aK j7 (hs.p3).fB (aF (aA pN (have hs:=hs.drew;aB te hs.p1.hb rfl (aD fX hs.At (bX ([(⟨(x).kind,(x).gP,(x).name,gB,gC,(x).n,(x).body,(x).fJ,(x).at_⟩:bY)]) hs j7 rfl rfl (eL rfl) (λ agQ u9 hs=>?_)))))))))))
     refine ⟨aG te (hs.p2.hb.cell rfl),?_⟩;have alD:=(hs).fB;refine cP hs.p4 j7 alD (by simp; omega) (by decide) (λ RA r9 hs=>have hs:=hs.p1.drop;aF (aA pN (aV hs.p2 te (eL rfl) ((hs).fB.one) (λ vT hs=>?_))));refine ⟨λ jv w'=>jv = .bool (decide ((gV l s.at_ 13)≠11∧(gV l s.at_ 13)≠12))∧St w F [cE p (dW lv RA q),bK RA (ts++[(⟨(x).kind,(x).gP,(x).name,gB,gC,(x).n,(x).body,(x).fJ,(x).at_⟩:bY)]),eB (λ w=>iB (ts++[(⟨(x).kind,(x).gP,(x).name,gB,gC,(x).n,(x).body,(x).fJ,(x).at_⟩:bY)]) (out++[x]) w∧(λ w=>Q w∧cA.dr w (⟨(x).kind,(x).gP,(x).name,gB,gC,(x).n,(x).body,(x).fJ,(x).at_⟩:bY) x) w),cE Eb (Flat.enc (⟨(x).kind,(x).gP,(x).name,gB,gC,(x).n,(x).body,(x).fJ,(x).at_⟩:bY))] w',?_,?_⟩
     ·refine cO (aC (λ aso=>?_) (λ aso=>?_))
      ·refine cO ?_;have hs:=hs.p3.p4.fP.dO (Ψ:=λ w=>iB (ts++[(⟨(x).kind,(x).gP,(x).name,gB,gC,(x).n,(x).body,(x).fJ,(x).at_⟩:bY)]) (out++[x]) w∧(λ w=>Q w∧cA.dr w (⟨(x).kind,(x).gP,(x).name,gB,gC,(x).n,(x).body,(x).fJ,(x).at_⟩:bY) x) w) (λ w h=>⟨h.1.1.snoc h.2,h.1.2,h.2⟩);have hs:=hs.p3.p1.p3.p3;exact ⟨vb (by grind),hs⟩
      ·have hs:=hs.p3.p4.fP.dO (Ψ:=λ w=>iB (ts++[(⟨(x).kind,(x).gP,(x).name,gB,gC,(x).n,(x).body,(x).fJ,(x).at_⟩:bY)]) (out++[x]) w∧(λ w=>Q w∧cA.dr w (⟨(x).kind,(x).gP,(x).name,gB,gC,(x).n,(x).body,(x).fJ,(x).at_⟩:bY) x) w) (λ w h=>⟨h.1.1.snoc h.2,h.1.2,h.2⟩);have hs:=hs.p3.p1.p3.p3;exact ⟨vb (by grind),hs⟩
     ·rintro _ yO ⟨rfl,hs⟩ QC;refine aC (λ Le=>?_) (λ Le=>?_)
      ·refine bH yk hs (H':=λ _=>cE p (dW lv RA (dP l q (ByteArray.mk #[59])))) (Φ:=λ _ _=>True) (λ F2 eQ ey=>?_) ?_
       ·exact (C234 p lv RA l q (ByteArray.mk #[59]) F2 _ eQ (λ w' hc=>hT w' (ey w' hc).aE) hk (BU (Jq h0) vz)).mono λ _ _ r=>r.mono λ _ _ h=>⟨trivial,h.2⟩
       rintro _ B6 _ hs;have hs:=(hs.p3.drop.p1.p1.p2).dO (Ψ:=λ w=>iB (ts++[(⟨(x).kind,(x).gP,(x).name,gB,gC,(x).n,(x).body,(x).fJ,(x).at_⟩:bY)]) (out++[x]) w∧Q w) (λ w h=>⟨h.1,h.2.1⟩);have hs:=hs.p2.p2;obtain ⟨e1,e2⟩:=HC Gx Le;rw [e1,e2];exact ⟨rfl,(pT.shut hs).mut⟩
      ·refine ⟨λ jv w'=>jv = .int .i64 (if (gV l s.at_ 13)=12 then lp+1 else lp)∧yO=w',?_,?_⟩
       ·refine aH (aC (λ asp=>?_) (λ asp=>?_))
        ·refine aO (by omega) ?_;exact ⟨by rw [if_pos (by omega)],rfl⟩
        ·exact ⟨by rw [if_neg (by omega)],rfl⟩
       ·rintro _ GQ ⟨rfl,hw⟩ dd6;subst hw;refine aO (by omega) ?_;have hs:=pT.shut hs.p2.p2.p2;obtain ⟨s3,m1,IB,YX⟩:=Ry Gx Le;have hm1:m1.length<add.length:=by rcases YX with ⟨_,s5,m2,_,_,e⟩ | ⟨_,_,e⟩ <;> rw [e] <;> simp <;> omega
        refine bH afD hs (H':=λ _=>pT p lv s3 ((out++[x])++m1) (λ w=>Q w∧cA.dr w (⟨(x).kind,(x).gP,(x).name,gB,gC,(x).n,(x).body,(x).fJ,(x).at_⟩:bY) x)) (Φ:=λ v _=>v = .int .i64 (m1.length:Int)) (λ F2 eQ ey=>?_) ?_
        ·exact HB p lv q (d+1) (if (gV l s.at_ 13)=12 then lp+1 else lp) (out++[x]) s3 m1 (λ w=>Q w∧cA.dr w (⟨(x).kind,(x).gP,(x).name,gB,gC,(x).n,(x).body,(x).fJ,(x).at_⟩:bY) x) F2 _ eQ (λ w' hc=>hT w' (ey w' hc).aE) (BU (Jq h0) vz) (by omega) (by split <;> omega) (by rw [List.length_append,List.length_singleton]; omega) IB
        rintro _ IF rfl hs;obtain ⟨ov3,ts3,hs⟩:=pT.open hs;refine aA m6 (aV hs.p3 bN (eL rfl) (rfl) (λ JH hs=>?_));have hs:=hs.enc (cs':=Flat.enc (⟨(x).kind,(x).gP,(x).name,gB,gC,(x).n,(m1.length:Int),(x).fJ,(x).at_⟩:bY)) rfl;refine ⟨λ w'=>∃ (bd el:Int) (rest:List cG),add={x with body:=bd,fJ:=el}::rest∧St w F [pT p lv s2 ((out++[x])++rest) (λ w=>Q w∧cA.dr w (⟨(x).kind,(x).gP,(x).name,gB,gC,(x).n,(x).body,(x).fJ,(x).at_⟩:bY) x),cE Eb (Flat.enc (⟨(x).kind,(x).gP,(x).name,gB,gC,(x).n,bd,el,(x).at_⟩:bY))] w',?_,?_⟩
        ·refine ⟨λ jv w'=>jv = .bool (kh l (gV l s.at_ 13) s3)∧St w F [cE p (dW lv ov3 s3),bK ov3 ts3,eB (λ w=>iB ts3 ((out++[x])++m1) w∧(λ w=>Q w∧cA.dr w (⟨(x).kind,(x).gP,(x).name,gB,gC,(x).n,(x).body,(x).fJ,(x).at_⟩:bY) x) w),cE Eb (Flat.enc (⟨(x).kind,(x).gP,(x).name,gB,gC,(x).n,(m1.length:Int),(x).fJ,(x).at_⟩:bY))] w',?_,?_⟩
         ·refine aH (aC (λ HE=>?_) (λ HE=>?_))
          ·refine aF (aA ku (have hs:=hs.drew;aB nu hs.p1.hb rfl (aH (aC (λ Br=>?_) (λ Br=>?_)))))
           ·refine aF (aA gS (aB iR hs.p1.hb rfl (aF (aA eV (aB bN hs.p1.hb rfl (aZ vA hs (C211 _ l s3.at_ (ByteArray.mk #[101,108,115,101]) _ (hT _ hs.aE) hn) (λ Lr he hs=>?_)))))));have hs:=hs.p3.p3.p3;exact ⟨vb (by unfold kh; rw [decide_eq_true HE,decide_eq_true Br]; rfl),hs⟩
           ·have hs:=hs.p3.p3.p3;exact ⟨vb (by unfold kh; first | (rw [decide_eq_false HE]; rfl) | (rw [decide_eq_true HE,decide_eq_false Br]; rfl)),hs⟩
          ·have hs:=hs.drew.p3.p3.p3;exact ⟨vb (by unfold kh; first | (rw [decide_eq_false HE]; rfl) | (rw [decide_eq_true HE,decide_eq_false Br]; rfl)),hs⟩
         ·rintro _ NS ⟨rfl,hs⟩ dd7;refine aY (λ qq=>?_) (λ qq=>?_)
          ·obtain ⟨hhe,s5,m2,hb2,e5,sY⟩ | ⟨hhe,_⟩:=YX
           rotate_left
           ·rw [hhe] at qq; cases qq
           subst e5;have hin3:=rT (show sR l s3.at_ ag7=true by unfold kh at qq; rw [Bool.and_eq_true] at qq; exact qq.2);refine aF (aA eV (aB bN hs.hb rfl (aO (by omega) (aF (aA eV (aV hs bN (eL rfl) (rfl) (λ Sy hs=>aO (by omega) ?_)))))));have hs:=pT.shut (s:=X0 s3) hs.p2.p2.p2;have hkd11:(gV l s.at_ 13)=11:=by unfold kh at qq; simp at qq; exact qq.1.1
           rw [if_neg (show ¬ (gV l s.at_ 13)=12 by omega)];refine bH afD hs (H':=λ _=>pT p lv s2 (((out++[x])++m1)++m2) (λ w=>Q w∧cA.dr w (⟨(x).kind,(x).gP,(x).name,gB,gC,(x).n,(x).body,(x).fJ,(x).at_⟩:bY) x)) (Φ:=λ v _=>v = .int .i64 (m2.length:Int)) (λ F2 eQ ey=>?_) ?_
           ·exact HB p lv (X0 s3) (d+1) lp ((out++[x])++m1) s2 m2 (λ w=>Q w∧cA.dr w (⟨(x).kind,(x).gP,(x).name,gB,gC,(x).n,(x).body,(x).fJ,(x).at_⟩:bY) x) F2 _ eQ (λ w' hc=>hT w' (ey w' hc).aE) (O2 qq) (by omega) (by omega) (by have:=congrArg List.length sY; simp at this ⊢; omega) hb2
           rintro _ TU rfl hs;rw [List.append_assoc (out++[x])] at hs;refine aA iQ (aV hs.p1 bN (eL rfl) (rfl) (λ QQ hs=>?_));have hs:=hs.enc (cs':=Flat.enc (⟨(x).kind,(x).gP,(x).name,gB,gC,(x).n,(m1.length:Int),(m2.length:Int),(x).at_⟩:bY)) rfl;have hs:=hs.p1;exact ⟨_,_,_,sY,hs⟩
          ·obtain ⟨hhe,_⟩ | ⟨hhe,e5,sY⟩:=YX
           ·rw [hhe] at qq; cases qq
           subst e5;have hs:=((pT.shut hs.p2.p2.p2).p1).p1;exact ⟨(m1.length:Int),x.fJ,m1,sY,hs⟩
        ·rintro Y6 ⟨bd,el,rest,sY,hs⟩ dd8;obtain ⟨ov5,O3,hs⟩:=pT.open hs;refine aF (aA pN (have hs:=hs.drew;aB te hs.hb rfl (aD fX hs.p3.At ?_)));have h5l:O3.length=(out++[x]++rest).length:=(hs.p2.eB).1.1;have h6l:=congrArg List.length sY;simp only [List.length_append,List.length_cons,List.length_nil] at h5l h6l;obtain ⟨azv,auk⟩:=gx (O3) (i:=(((ts).length:Int)).toNat) (by omega);refine dU hs.p1 j7 (by omega) (by omega) (λ _ alE=>lK _ hs.p1 fX alE (by omega) (λ Y7 hs=>?_));have hs:=(hs.p3.drop.p1.p2).dO (Ψ:=λ w=>iB (O3.set (ts.length:Int).toNat (⟨(x).kind,(x).gP,(x).name,gB,gC,(x).n,bd,el,(x).at_⟩:bY)) (out++add) w∧Q w) (λ w h=>⟨by
  have hh:=aem (i:=(ts.length:Int).toNat) (t:=(⟨(x).kind,(x).gP,(x).name,gB,gC,(x).n,bd,el,(x).at_⟩:bY)) (x:={x with body:=bd,fJ:=el}) h.1 ⟨gB,gC,rfl,aek (x:=x) h.2.2,ael (x:=x) h.2.2⟩;rw [show (ts.length:Int).toNat=out.length from by omega,List.append_assoc,List.singleton_append,X3] at hh
  rw [sY,show (ts.length:Int).toNat=out.length from by omega]; exact hh,h.2.1⟩)
         have hs:=hs.p2.p2;exact ⟨rfl,(pT.shut hs).mut⟩
set_option maxHeartbeats 2000000 in
theorem C256 (p:Nat) (lv:Value) (l:List bI) (s:fQ) (k:Nat) (d lp:Int) (out:List cG) (s2:fQ) (add:List cG) (Q:World→Prop) (F:Nat→Prop) (w:World) (hF:(pT p lv s out Q).p w F) (hT:∀ w',iE F w w'→eE (λ _=>True) w' lv l) (hk:iz l) (h0:lT l s) (HB:alA l k) (hd:0≤d∧d+k≤1000) (Mi:0≤lp∧lp+k≤1000) (TT:out.length+add.length≤1000000) (hr:TY l (k+1) s d lp=some (s2,add)):CR 256 [(.pointer (some ⟨p,0,none⟩)),.int .i64 d,.int .i64 lp] w (λ v w'=>v = .int .i64 (add.length:Int)∧qz F (pT p lv s2 (out++add) Q) w w'):=by
 have hs:=St.begin hF;obtain ⟨ov,ts,hs⟩:=pT.open hs;have Nk:ts.length=out.length:=(hs.p2.eB).1.1;obtain ⟨s9,Ge,e2⟩:=X2 hr;have FL:=hk.n;have hn:l.length≤1000000:=by omega
 have ti:=hk.at_;obtain ⟨Rp,Rq⟩:=id h0;refine abK _ _ _ _ _ ?_;unfold S256;refine aF (aA pN (aB te hs.hb rfl (aK j7 (hs.p1).fB ?_)));refine ⟨λ w'=>St w F [cE p (dW lv ov (TX l s d)),bK ov ts,eB (λ w=>iB ts out w∧Q w)] w',?_,?_⟩
 ·refine ⟨λ jv w'=>jv = .bool (decide (12<d) && sR l s.at_ Cn)∧St w F [cE p (dW lv ov s),bK ov ts,eB (λ w=>iB ts out w∧Q w)] w',?_,?_⟩
  ·refine dD (aC (λ gI=>?_) (λ gI=>?_))
   ·refine aF (aA gS (have hs:=hs.drew;aB iR hs.hb rfl (aF (aA eV (aB bN hs.hb rfl (aZ vA hs (C211 _ l s.at_ (ByteArray.mk #[123]) _ (hT _ hs.aE) hn) (λ w1 he hs=>?_)))))));exact ⟨vb (by first | (rw [decide_eq_true (show 12<d by omega)]; rfl) | (rw [decide_eq_false (show ¬ 12<d by omega)]; rfl)),hs⟩
   ·have hs:=hs.drew;exact ⟨vb (by first | (rw [decide_eq_true (show 12<d by omega)]; rfl) | (rw [decide_eq_false (show ¬ 12<d by omega)]; rfl)),hs⟩
  ·rintro _ w2 ⟨rfl,hs⟩ fz;refine aY (λ fD=>?_) (λ fD=>?_)
   ·refine bH GD hs (H':=λ _=>cE p (dW lv ov (ja l s 7))) (Φ:=λ _ _=>True) (λ F2 eQ ey=>?_) ?_
    ·exact (C254 p lv ov l s 7 F2 _ eQ (λ w' hc=>hT w' (ey w' hc).aE) hk h0).mono λ _ _ r=>r.mono λ _ _ h=>⟨trivial,h.2⟩
    rintro _ w3 _ hs;have hs:=hs.p2.p2.p2;have h7:TX l s d=ja l s 7:=by unfold TX; rw [if_pos fD]
    rw [h7]; exact hs
   ·have hs:=hs.p2.p2.p2;have h7:TX l s d=s:=by unfold TX; rw [if_neg (by rw [fD]; simp)]
    rw [h7]; exact hs
 ·intro w4 hs jB;refine bH yk hs (H':=λ _=>cE p (dW lv ov (dP l (TX l s d) (ByteArray.mk #[123])))) (Φ:=λ _ _=>True) (λ F2 eQ ey=>?_) ?_
  ·exact (C234 p lv ov l (TX l s d) (ByteArray.mk #[123]) F2 _ eQ (λ w' hc=>hT w' (ey w' hc).aE) hk (OZ h0)).mono λ _ _ r=>r.mono λ _ _ h=>⟨trivial,h.2⟩
  rintro _ w5 _ hs;have hs:=pT.shut (s:=dP l (TX l s d) Cn) hs.p2.p2.p2;refine ⟨λ mm w'=>∃ (s1:fQ) (o1 a2:List cG),lT l s1∧sU l (λ s=>CI l (TY l k) s d lp) mm s1=some (s9,a2)∧add=o1++a2∧St w F [pT p lv s1 (out++o1) Q] w',⟨10000,_,[],add,fE (OZ h0),Ge,rfl,by rw [List.append_nil]; exact hs⟩,?_⟩;rintro mm w6 ⟨s1,o1,a2,Mn,IB,sY,hs⟩ oN;obtain ⟨m,rfl⟩:=HD IB;obtain ⟨ov1,YZ,hs⟩:=pT.open hs;have aeo:YZ.length=(out++o1).length:=(hs.p2.eB).1.1;rw [List.length_append] at aeo;refine ⟨λ jv w'=>jv = .bool (decide (s1.e=0) && !sR l s1.at_ nO)∧St w F [cE p (dW lv ov1 s1),bK ov1 YZ,eB (λ w=>iB YZ (out++o1) w∧Q w)] w',?_,?_⟩
  ·refine aF (aA ku (have hs:=hs.drew;aB nu hs.hb rfl (aH (aC (λ iI=>?_) (λ iI=>?_)))))
   ·refine aF (aA gS (aB iR hs.hb rfl (aF (aA eV (aB bN hs.hb rfl (aZ vA hs (C211 _ l s1.at_ (ByteArray.mk #[125]) _ (hT _ hs.aE) hn) (λ w7 he hs=>bZ ?_)))))));have hs:=hs.p2.p2.p2;exact ⟨vb (by first | (rw [decide_eq_true iI]; rfl) | (rw [decide_eq_false iI]; rfl)),hs⟩
   ·have hs:=hs.p2.p2.p2;exact ⟨vb (by first | (rw [decide_eq_true iI]; rfl) | (rw [decide_eq_false iI]; rfl)),hs⟩
  ·rintro _ w8 ⟨rfl,hs⟩ F6;refine aY (λ sD=>?_) (λ sD=>?_)
   ·obtain ⟨s3,a1,a3,ho,hb3,rfl⟩:=Jr IB sD;have hs:=pT.shut hs.p2.p2.p2;refine bH afC hs (H':=λ _=>pT p lv s3 ((out++o1)++a1) Q) (Φ:=λ _ _=>True) (λ F2 eQ ey=>?_) ?_
    ·exact (C233 p lv l s1 k d lp (out++o1) s3 a1 Q F2 _ eQ (λ w' hc=>hT w' (ey w' hc).aE) hk Mn HB (by omega) (by omega) (by have:=congrArg List.length sY; simp at this ⊢; omega) ho).mono λ _ _ r=>r.mono λ _ _ h=>⟨trivial,h.2⟩
    rintro _ w9 _ hs;exact ⟨_,by omega,s3,o1++a1,a3,O0 (λ _ _ _ _ _ c e=>O1 c e) Mn ho,hb3,by rw [sY,List.append_assoc],by rw [← List.append_assoc]; exact hs⟩
   ·obtain ⟨e9,rfl⟩:=Ft IB sD;replace e9:=e9.symm;subst e9;rw [List.append_nil] at sY;subst sY;refine bH yk hs (H':=λ _=>cE p (dW lv ov1 (dP l s1 (ByteArray.mk #[125])))) (Φ:=λ _ _=>True) (λ F2 eQ ey=>?_) ?_
    ·exact (C234 p lv ov1 l s1 (ByteArray.mk #[125]) F2 _ eQ (λ w' hc=>hT w' (ey w' hc).aE) hk Mn).mono λ _ _ r=>r.mono λ _ _ h=>⟨trivial,h.2⟩
    rintro _ pP _ hs;refine aF (aA pN (aB te hs.hb rfl (aK j7 (hs.p1).fB (gA (by omega) ?_))));rw [e2];exact ⟨congrArg (Value.int .i64) (by omega),(pT.shut hs).mut⟩
theorem asr {l:List bI} (hk:iz l):∀ k,alA l k
 | 0=>λ p lv s d lp out s2 add Q F w _ _ _ _ _ _ h=>by cases h
 | k+1=>λ p lv s d lp out s2 add Q F w hF hT h0 hd Mi TT h=>C256 p lv l s k d lp out s2 add Q F w hF hT hk h0 (asr hk k) (by omega) (by omega) TT h
def tI (i:Int):fQ:=⟨i,0,0⟩
def Fu (l:List bI) (i op:Int):Option (List cG × Int × Int × Int):=
 (sU l (λ s=>CI l (TY l 20) s 0 0) 10000 (tI i)).bind λ r=>
  if 1000000<r.2.length then none else if (dP l r.1 nO).e≠0 then some ([],0,(dP l r.1 nO).e,(dP l r.1 nO).pos)
  else if 40<r.2.length then some ([],0,2,(oR l op).at_)
  else some (r.2,(dP l r.1 nO).at_,0,0)
def Js (l:List bI) (s:fQ):Bool:=match kH l s.at_ with | some t=>decide (t.kind=2) | none=>false
def fh (l:List bI) (nb:Bool) (s:fQ):fQ × dI:=
 if (nb && (gQ l (eY l s).1 JK).2)=true then
  (if Js l (gQ l (eY l s).1 JK).1=true then (X0 (gQ l (eY l s).1 JK).1,{ (eY l s).2 with n:=(oR l (gQ l (eY l s).1 JK).1.at_).n})
  else (ja l (gQ l (eY l s).1 JK).1 5,(eY l s).2))
 else eY l s
abbrev BV:ByteArray:=⟨#[44]⟩
abbrev RB:ByteArray:=⟨#[59]⟩
def pn (l:List bI) (nb:Bool):Nat→Bool→fQ→Option (fQ × List dI)
 | 0,_,_=>none
 | m+1,more,s=>if (more && decide (s.e=0))=true then (pn l nb m (gQ l (fh l nb s).1 BV).2 (gQ l (fh l nb s).1 BV).1).bind λ r=>some (r.1,(fh l nb s).2::r.2) else some (s,[])
def mR (l:List bI) (nb:Bool) (s:fQ):Option (fQ × List dI):=(pn l nb 10000 true s).bind λ r=>if 1000000<r.2.length then none else some (dP l r.1 RB,r.2)
abbrev Tb:ByteArray:=⟨#[114,101,103]⟩
def AV (l:List bI) (s:fQ):Option (fQ × List ByteArray):=
 if (gQ l s Tb).2=true then (mR l false (gQ l s Tb).1).bind λ r=>some (r.1,r.2.map dI.name) else some (s,[])
def sV (l:List bI) (s:fQ) (nm:ByteArray) (a:Int):Option (fQ × dS):=
 (AV l (dP l s Cn)).bind λ r=>
  if r.1.e≠0 then some (r.1,⟨nm,r.2,[],a⟩)
  else (Fu l r.1.at_ s.at_).bind λ R=>if 0≤R.2.1∧R.2.1≤l.length then some (⟨R.2.1,R.2.2.1,R.2.2.2⟩,⟨nm,r.2,R.1,a⟩) else none
def wY (l:List bI) (s:fQ) (a:Int):Option (fQ × jG):=
 (vK l s.at_).bind λ R=>if R.2.2.1≠0 then some ({s with e:=R.2.2.1,pos:=R.2.2.2},⟨[],0⟩)
  else if 0≤R.2.1∧R.2.1≤l.length then some (dP l {s with at_:=R.2.1} RB,⟨R.1,a⟩) else none
def mM {α:Type} (l:List bI) (t:ByteArray) (rd:fQ→Option (fQ × α)):Nat→fQ→Option (fQ × List α)
 | 0,_=>none
 | m+1,s=>if (gQ l s t).2=true then (rd (gQ l s t).1).bind λ r=>(mM l t rd m r.1).bind λ q=>some (q.1,r.2::q.2) else some (s,[])
def zp (l:List bI) (s:fQ):Int:=(oR l (s.at_ - 1)).at_
def O4 (l:List bI) (s:fQ):Option (fQ × List dS):=
 if (gQ l s ⟨#[114,101,99,111,118,101,114]⟩).2=true then (sV l (gQ l s ⟨#[114,101,99,111,118,101,114]⟩).1 ⟨#[]⟩ (zp l (gQ l s ⟨#[114,101,99,111,118,101,114]⟩).1)).bind λ r=>some (r.1,[r.2]) else some (s,[])
abbrev X4:ByteArray:=⟨#[108,105,110,101]⟩
abbrev alF:ByteArray:=⟨#[118,111,108]⟩
abbrev X5:ByteArray:=⟨#[108,111,99,107]⟩
abbrev Jt:ByteArray:=⟨#[116,104,114,101,97,100]⟩
abbrev Ju:ByteArray:=⟨#[97,108,119,97,121,115]⟩
def alG (l:List bI) (s:fQ):Option (fQ × dS):=sV l (eY l s).1 (eY l s).2.name (eY l s).2.at_
def Gh (l:List bI) (s:fQ):fQ:=if s.at_<l.length then ja l s 5 else s
def Mo:cW:=⟨[],[],[],[],[],[]⟩
def rV (t:ByteArray):Option (cW × Int × Int):=
 (uI t).bind λ L=>if L.2.1≠0 then some (Mo,L.2.1,L.2.2) else
 (mM L.1 X4 (mR L.1 true) 10000 (tI 0)).bind λ r1=>
 (mM L.1 alF (mR L.1 true) 10000 r1.1).bind λ r2=>
 (mM L.1 X5 (mR L.1 false) 10000 r2.1).bind λ r3=>
 (mM L.1 Jt (alG L.1) 10000 r3.1).bind λ r4=>
 (O4 L.1 r4.1).bind λ r5=>
 (mM L.1 Ju (λ s=>wY L.1 s (zp L.1 s)) 10000 r5.1).bind λ r6=>
  if 1000000<r1.2.length∨1000000<r2.2.flatten.length∨1000000<r3.2.flatten.length∨1000000<r4.2.length∨1000000<r6.2.length then none else if (Gh L.1 r6.1).e≠0 then some (Mo,(Gh L.1 r6.1).e,(Gh L.1 r6.1).pos) else some (⟨r1.2,r2.2.flatten,r3.2.flatten,r4.2,r5.2,r6.2⟩,0,0)
section
variable {l:List bI} {s s':fQ}
theorem X6 {t:ByteArray} (h:(gQ l s t).2=true):gQ l s t=({s with at_:=s.at_+1},true)∧s.e=0∧0≤s.at_∧s.at_<l.length:=by
 unfold gQ at h ⊢
 split at h
 ·rename_i h2
  rw [if_pos h2]
  rw [Bool.and_eq_true,decide_eq_true_eq] at h2
  exact ⟨rfl,h2.1,rT h2.2⟩
 ·cases h
theorem wZ {t:ByteArray} (h:(gQ l s t).2=false):gQ l s t=(s,false):=by
 unfold gQ at h ⊢
 split at h
 ·cases h
 ·rename_i h2; rw [if_neg h2]
theorem Fv {nb:Bool} (h:lT l s):lT l (fh l nb s).1:=by
 have h1:=uJ h
 have h2:=j0 (t:=JK) h1
 unfold fh
 split
 ·split
  ·rename_i h3
   unfold Js at h3
   cases ht:kH l (gQ l (eY l s).1 JK).1.at_ with
   | none=>rw [ht] at h3; cases h3
   | some t=>
    have:=mz ht
    exact ⟨by show 0≤(gQ l (eY l s).1 JK).1.at_+1; omega,by show (gQ l (eY l s).1 JK).1.at_+1≤_; omega⟩
  ·exact sT h2
 ·exact h1
theorem HF {nb:Bool}:∀ {m:Nat} {more:Bool} {s s':fQ} {x:List dI},lT l s→pn l nb m more s=some (s',x)→lT l s'
 | 0,_,_,_,_,_,h=>by cases h
 | m+1,more,s,s',x,h0,h=>by
  unfold pn at h
  split at h
  ·obtain ⟨q,y,h1,h2⟩:=eK h
   cases h2
   exact HF (j0 (Fv h0)) h1
  ·cases h; exact h0
theorem xL {nb:Bool} {x:List dI} (h:mR l nb s=some (s',x)):∃ s1,pn l nb 10000 true s=some (s1,x)∧s'=dP l s1 RB∧x.length≤1000000:=by
 unfold mR at h
 obtain ⟨q,y,h1,h2⟩:=eK h
 dsimp only at h2
 split at h2
 ·cases h2
 ·cases h2; exact ⟨_,h1,rfl,by omega⟩
theorem xM {nb:Bool} {x:List dI} (h0:lT l s) (h:mR l nb s=some (s',x)):lT l s':=by
 obtain ⟨s1,h1,h2,_⟩:=xL h
 rw [h2]; exact fE (HF h0 h1)
theorem Mp {nb more:Bool} {m:Nat} {x:List dI} (h:pn l nb m more s=some (s',x)):∃ k,m=k+1:=by
 cases m with
 | zero=>cases h
 | succ k=>exact ⟨k,rfl⟩
theorem Fx {nb more:Bool} {m:Nat} {x:List dI} (h:pn l nb (m+1) more s=some (s',x)) (hb:(more && decide (s.e=0))=false):s'=s∧x=[]:=by
 unfold pn at h; rw [hb,if_neg (by simp)] at h; cases h; exact ⟨rfl,rfl⟩
theorem Tc {nb more:Bool} {m:Nat} {x:List dI} (h:pn l nb (m+1) more s=some (s',x)) (hb:(more && decide (s.e=0))=true):∃ y,pn l nb m (gQ l (fh l nb s).1 BV).2 (gQ l (fh l nb s).1 BV).1=some (s',y)∧x=(fh l nb s).2::y:=by
 unfold pn at h; rw [hb,if_pos rfl] at h
 obtain ⟨q,y,h1,h2⟩:=eK h
 cases h2
 exact ⟨_,h1,rfl⟩
theorem Mq {x:List ByteArray} (h0:lT l s) (h:AV l s=some (s',x)):lT l s':=by
 unfold AV at h
 split at h
 ·obtain ⟨q,y,h1,h2⟩:=eK h
  cases h2
  exact xM (j0 h0) h1
 ·cases h; exact h0
theorem Fy {nm:ByteArray} {a:Int} {x:dS} (h0:lT l s) (h:sV l s nm a=some (s',x)):lT l s':=by
 unfold sV at h
 obtain ⟨q,y,h1,h2⟩:=eK h
 have h3:=Mq (fE h0) h1
 dsimp only at h2
 split at h2
 ·cases h2; exact h3
 ·cases hr:Fu l q.at_ s.at_ with
  | none=>rw [hr] at h2; cases h2
  | some R=>
   rw [hr] at h2
   simp only [Option.bind_some] at h2
   split at h2
   ·rename_i h4; cases h2; exact h4
   ·cases h2
theorem Td {a:Int} {x:jG} (h0:lT l s) (h:wY l s a=some (s',x)):lT l s':=by
 unfold wY at h
 cases hr:vK l s.at_ with
 | none=>rw [hr] at h; cases h
 | some R=>
  rw [hr] at h
  simp only [Option.bind_some] at h
  split at h
  ·cases h; exact h0
  ·split at h
   ·rename_i h4; cases h; exact fE h4
   ·cases h
theorem rW {α:Type} {t:ByteArray} {rd:fQ→Option (fQ × α)} {m:Nat} {x:List α} (h:mM l t rd m s=some (s',x)):∃ k,m=k+1:=by
 cases m with
 | zero=>cases h
 | succ k=>exact ⟨k,rfl⟩
theorem uK {α:Type} {t:ByteArray} {rd:fQ→Option (fQ × α)} {m:Nat} {x:List α} (h:mM l t rd (m+1) s=some (s',x)) (hb:(gQ l s t).2=false):s'=s∧x=[]:=by
 unfold mM at h; rw [hb,if_neg (by simp)] at h; cases h; exact ⟨rfl,rfl⟩
theorem xa {α:Type} {t:ByteArray} {rd:fQ→Option (fQ × α)} {m:Nat} {x:List α} (h:mM l t rd (m+1) s=some (s',x)) (hb:(gQ l s t).2=true):∃ s1 y z,rd (gQ l s t).1=some (s1,y)∧mM l t rd m s1=some (s',z)∧x=y::z:=by
 unfold mM at h; rw [hb,if_pos rfl] at h
 obtain ⟨q,y,h1,h2⟩:=eK h
 obtain ⟨q2,y2,h3,h4⟩:=eK h2
 cases h4
 exact ⟨_,_,_,h1,h3,rfl⟩
end
def noQ:World→Prop:=λ _=>True
theorem AW {l:List bI} {i:Int} {t:bI} (h0:0≤i) (h:l[i.toNat]? = some t):oR l i=t:=by
 unfold oR kH; rw [if_pos h0,h]; rfl
theorem aep {l:List bI} {i op:Int} {R:List cG × Int × Int × Int} (h:Fu l i op=some R):∃ s9 add,sU l (λ s=>CI l (TY l 20) s 0 0) 10000 (tI i)=some (s9,add)∧add.length≤1000000∧
  ((dP l s9 nO).e≠0→R=([],0,(dP l s9 nO).e,(dP l s9 nO).pos))∧(¬ (dP l s9 nO).e≠0→40<(add.length:Int)→R=([],0,2,(oR l op).at_))∧
  (¬ (dP l s9 nO).e≠0→¬ 40<(add.length:Int)→R=(add,(dP l s9 nO).at_,0,0)):=by
 unfold Fu at h
 obtain ⟨q,y,h1,h2⟩:=eK h
 dsimp only at h2
 split at h2
 ·cases h2
 ·rename_i hl
  refine ⟨q,y,h1,by omega,λ he=>?_,λ he hb=>?_,λ he hb=>?_⟩
  ·rw [if_pos he] at h2; exact (Option.some.inj h2).symm
  ·rw [if_neg he,if_pos (by omega)] at h2; exact (Option.some.inj h2).symm
  ·rw [if_neg he,if_neg (by omega)] at h2; exact (Option.some.inj h2).symm
section
variable {l:List bI} {s s':fQ} {nb:Bool}
theorem Te (hn:nb=true) (h2:(gQ l (eY l s).1 JK).2=true) (h3:Js l (gQ l (eY l s).1 JK).1=true) :
  fh l nb s=(X0 (gQ l (eY l s).1 JK).1,{ (eY l s).2 with n:=(oR l (gQ l (eY l s).1 JK).1.at_).n}):=by
 unfold fh; rw [hn,h2,if_pos (show (true && true)=true from rfl),if_pos h3]
theorem Tf (hn:nb=true) (h2:(gQ l (eY l s).1 JK).2=true) (h3:Js l (gQ l (eY l s).1 JK).1=false) :
  fh l nb s=(ja l (gQ l (eY l s).1 JK).1 5,(eY l s).2):=by
 unfold fh; rw [hn,h2,if_pos (show (true && true)=true from rfl),if_neg (by rw [h3]; simp)]
theorem X7 (h2:(gQ l (eY l s).1 JK).2=false):fh l nb s=((gQ l (eY l s).1 JK).1,(eY l s).2):=by
 unfold fh; rw [if_neg (by rw [h2]; simp),wZ h2]
theorem X8 (hn:nb=false):fh l nb s=((eY l s).1,(eY l s).2):=by
 unfold fh; rw [if_neg (by rw [hn]; simp)]
theorem aeq {q:fQ} (h:Js l q=true):∃ tk,kH l q.at_=some tk∧l[q.at_.toNat]? = some tk∧0≤q.at_∧q.at_<l.length:=by
 unfold Js at h
 cases ht:kH l q.at_ with
 | none=>rw [ht] at h; cases h
 | some tk=>have:=mz ht; exact ⟨tk,rfl,this.2.2,this.1,this.2.1⟩
theorem HG {x:List ByteArray} (h:AV l s=some (s',x)) (h1:(gQ l s Tb).2=true):∃ ys,mR l false (gQ l s Tb).1=some (s',ys)∧x=ys.map dI.name:=by
 unfold AV at h; rw [if_pos h1] at h
 obtain ⟨q,y,h2,h3⟩:=eK h
 cases h3
 exact ⟨y,h2,rfl⟩
theorem Mr {x:List ByteArray} (h:AV l s=some (s',x)) (h1:(gQ l s Tb).2=false):s'=s∧x=[]:=by
 unfold AV at h; rw [if_neg (by rw [h1]; simp)] at h
 cases h; exact ⟨rfl,rfl⟩
theorem O5 {nm:ByteArray} {a:Int} {x:dS} (h:sV l s nm a=some (s',x)):∃ q rs,AV l (dP l s Cn)=some (q,rs)∧
  (q.e≠0→s'=q∧x=⟨nm,rs,[],a⟩)∧(¬ q.e≠0→∃ R,Fu l q.at_ s.at_=some R∧0≤R.2.1∧R.2.1≤l.length∧s'=⟨R.2.1,R.2.2.1,R.2.2.2⟩∧x=⟨nm,rs,R.1,a⟩):=by
 unfold sV at h
 obtain ⟨q,rs,h1,h2⟩:=eK h
 refine ⟨q,rs,h1,λ he=>?_,λ he=>?_⟩
 ·dsimp only at h2; rw [if_pos he] at h2; cases h2; exact ⟨rfl,rfl⟩
 ·dsimp only at h2; rw [if_neg he] at h2
  cases hr:Fu l q.at_ s.at_ with
  | none=>rw [hr] at h2; cases h2
  | some R=>
   rw [hr] at h2
   simp only [Option.bind_some] at h2
   split at h2
   ·rename_i h4; cases h2; exact ⟨R,rfl,h4.1,h4.2,rfl,rfl⟩
   ·cases h2
theorem Tg {a:Int} {x:jG} (h:wY l s a=some (s',x)):∃ R,vK l s.at_=some R∧
  (R.2.2.1≠0→s'={s with e:=R.2.2.1,pos:=R.2.2.2}∧x=⟨[],0⟩)∧(¬ R.2.2.1≠0→(0≤R.2.1∧R.2.1≤l.length)∧s'=dP l {s with at_:=R.2.1} RB∧x=⟨R.1,a⟩):=by
 unfold wY at h
 cases hr:vK l s.at_ with
 | none=>rw [hr] at h; cases h
 | some R=>
  rw [hr] at h
  simp only [Option.bind_some] at h
  refine ⟨R,rfl,λ he=>?_,λ he=>?_⟩
  ·rw [if_pos he] at h; cases h; exact ⟨rfl,rfl⟩
  ·rw [if_neg he] at h
   split at h
   ·rename_i h4; cases h; exact ⟨h4,rfl,rfl⟩
   ·cases h
theorem alH {e:Int} (he:e≠0) (h:(ja l s e).e=0):False:=by
 unfold ja at h
 split at h
 ·dsimp only at h; split at h <;> omega
 ·rename_i h1; exact h1 h
theorem aer {t:ByteArray} (h:(dP l s t).e=0):sR l s.at_ t=true:=by
 unfold dP at h
 split at h
 ·rename_i h1; rw [Bool.and_eq_true] at h1; exact h1.2
 ·exact (alH (by decide) h).elim
theorem ast {t:ByteArray}:(gQ l s t).1.e=s.e:=by unfold gQ; split <;> rfl
theorem Th {e:Int} (h:s.e≠0):(ja l s e).e≠0:=by unfold ja; rw [if_neg h]; exact h
theorem O6 {t:ByteArray} (h:s.e≠0):(dP l s t).e≠0:=by
 unfold dP; rw [if_neg (by rw [Bool.and_eq_true,decide_eq_true_eq]; exact λ hh=>h hh.1)]; exact Th h
theorem Ms:∀ {m:Nat} {more:Bool} {s s':fQ} {x:List dI},s.e≠0→pn l nb m more s=some (s',x)→s'.e≠0
 | 0,_,_,_,_,_,h=>by cases h
 | m+1,more,s,s',x,h0,h=>by
  have:=Fx h (by rw [decide_eq_false h0,Bool.and_false])
  rw [this.1]; exact h0
theorem Mt {x:List dI} (h0:s.e≠0) (h:mR l nb s=some (s',x)):s'.e≠0:=by
 obtain ⟨s1,h1,h2,_⟩:=xL h
 rw [h2]; exact O6 (Ms h0 h1)
theorem O7 {x:List ByteArray} (h0:s.e≠0) (h:AV l s=some (s',x)):s'.e≠0:=by
 cases h1:(gQ l s Tb).2 with
 | true=>obtain ⟨ys,h2,_⟩:=HG h h1; exact Mt (by rw [ast]; exact h0) h2
 | false=>rw [(Mr h h1).1]; exact h0
end
theorem Gi {α β:Type} {f:α→β} {l:List α} {k:Nat} {e:α} (h:l[k]? = some e):(l.take k).map f++[f e]=(l.take (k+1)).map f:=by
 rw [← gZ h,List.map_append]; rfl
theorem Mu {l:List bI} {s s':fQ} {x:List dS} (h:O4 l s=some (s',x)) (h1:(gQ l s ⟨#[114,101,99,111,118,101,114]⟩).2=true):∃ y,sV l (gQ l s ⟨#[114,101,99,111,118,101,114]⟩).1 ⟨#[]⟩ (zp l (gQ l s ⟨#[114,101,99,111,118,101,114]⟩).1)=some (s',y)∧x=[y]:=by
 unfold O4 at h; rw [if_pos h1] at h
 obtain ⟨q,y,h2,h3⟩:=eK h
 cases h3
 exact ⟨y,h2,rfl⟩
theorem RC {l:List bI} {s s':fQ} {x:List dS} (h:O4 l s=some (s',x)) (h1:(gQ l s ⟨#[114,101,99,111,118,101,114]⟩).2=false):s'=s∧x=[]:=by
 unfold O4 at h; rw [if_neg (by rw [h1]; simp)] at h
 cases h; exact ⟨rfl,rfl⟩
theorem Ti {t:ByteArray} {l:List bI} {e a:Int} {R:cW × Int × Int} (h:rV t=some R) (hs:uI t=some (l,e,a)) (he:e≠0):R=(Mo,e,a):=by
 unfold rV at h; rw [hs] at h
 simp only [Option.bind_some] at h
 rw [if_pos he] at h; exact (Option.some.inj h).symm
theorem O8 {t:ByteArray} {R:cW × Int × Int} (h:rV t=some R):∃ l e a,uI t=some (l,e,a):=by
 unfold rV at h
 cases hs:uI t with
 | none=>rw [hs] at h; cases h
 | some L=>exact ⟨L.1,L.2.1,L.2.2,rfl⟩
structure alI (l:List bI) (R:cW × Int × Int) (t1 t2 t3 t4 t5 t6:fQ) (y1:List (List dI)) (y2 y3:List (List dI)) (y4 y5:List dS) (y6:List jG):Prop where
 h1:mM l X4 (mR l true) 10000 (tI 0)=some (t1,y1)
 h2:mM l alF (mR l true) 10000 t1=some (t2,y2)
 h3:mM l X5 (mR l false) 10000 t2=some (t3,y3)
 h4:mM l Jt (alG l) 10000 t3=some (t4,y4)
 h5:O4 l t4=some (t5,y5)
 h6:mM l Ju (λ s=>wY l s (zp l s)) 10000 t5=some (t6,y6)
 b1:y1.length≤1000000
 b2:y2.flatten.length≤1000000
 b3:y3.flatten.length≤1000000
 b4:y4.length≤1000000
 b6:y6.length≤1000000
 bad:(Gh l t6).e≠0→R=(Mo,(Gh l t6).e,(Gh l t6).pos)
 azw:¬ (Gh l t6).e≠0→R=(⟨y1,y2.flatten,y3.flatten,y4,y5,y6⟩,0,0)
theorem X9 {t:ByteArray} {l:List bI} {e a:Int} {R:cW × Int × Int} (h:rV t=some R) (hs:uI t=some (l,e,a)) (he:¬ e≠0):∃ t1 t2 t3 t4 t5 t6 y1 y2 y3 y4 y5 y6,alI l R t1 t2 t3 t4 t5 t6 y1 y2 y3 y4 y5 y6:=by
 unfold rV at h; rw [hs] at h
 simp only [Option.bind_some] at h
 rw [if_neg he] at h
 obtain ⟨t1,y1,h1,h⟩:=eK h
 obtain ⟨t2,y2,h2,h⟩:=eK h
 obtain ⟨t3,y3,h3,h⟩:=eK h
 obtain ⟨t4,y4,h4,h⟩:=eK h
 obtain ⟨t5,y5,h5,h⟩:=eK h
 obtain ⟨t6,y6,h6,h⟩:=eK h
 dsimp only at h
 split at h
 ·cases h
 ·rename_i hb
  simp only [not_or,Nat.not_lt] at hb
  refine ⟨t1,t2,t3,t4,t5,t6,y1,y2,y3,y4,y5,y6,h1,h2,h3,h4,h5,h6,hb.1,hb.2.1,hb.2.2.1,hb.2.2.2.1,hb.2.2.2.2,λ hh=>?_,λ hh=>?_⟩
  ·rw [if_pos hh] at h; exact (Option.some.inj h).symm
  ·rw [if_neg hh] at h; exact (Option.some.inj h).symm
theorem aes {l:List bI} {s s':fQ} {x:List dS} (h0:lT l s) (h:O4 l s=some (s',x)):lT l s':=by
 cases h1:(gQ l s ⟨#[114,101,99,111,118,101,114]⟩).2 with
 | true=>obtain ⟨y,h2,_⟩:=Mu h h1; exact Fy (j0 h0) h2
 | false=>rw [(RC h h1).1]; exact h0
theorem AX {α:Type} {a:List (List α)} {b:List α}:(a++[b]).flatten=a.flatten++b:=by simp
theorem RD {α:Type} {y a c:List (List α)} {b:List α} (h:y=a++b::c):a.flatten.length+b.length≤y.flatten.length:=by rw [h]; simp
theorem C213 (l:List bI) (lv:Value) (i op:Int) (R:List cG × Int × Int × Int) (w:World) (hL:eE (λ _=>True) w lv l) (hk:iz l) (h0:0≤i∧i≤l.length) (jT:0≤op∧op<l.length) (hr:Fu l i op=some R):CR 213 [lv,.int .i64 i,.int .i64 op] w (λ v w'=>∃ sv:SV,v = .tuple #[Flat.val sv,.int .i64 R.2.1,.int .i64 R.2.2.1,.int .i64 R.2.2.2]∧lW (eB (λ w=>DL w (Flat.val sv) R.1)) w w'):=by
 have FL:=hk.n;have hn:l.length≤1000000:=by omega
 have ti:=hk.at_;obtain ⟨s9,add,Ge,TT,hR⟩:=aep hr;obtain ⟨lsv,hlv⟩:=hL.fR;have hs:=St.start w;refine aa3 _ _ _ _ _ ?_;unfold S213;rw [hlv];refine pop (Nv _ _ _ _) (lZ hs (λ asv w1 hs=>?_));obtain ⟨p,rfl⟩:∃ p,p=asv:=⟨_,rfl⟩;have hs:=hs.enc (cs':=dW (Flat.val lsv) (.slice none 0 0) (tI i)) rfl;rw [← hlv] at hs ⊢;have hT:∀ w',iE bD w w'→eE (λ _=>True) w' lv l:=λ w' hc=>hL.ext hc;have hs:=((hs.gH (Φ:=λ w=>iB ([]:List bY) ([]:List cG) w∧noQ w) λ w=>⟨iB.nil,trivial⟩).fU (α:=bY)).p2;have hs:=pT.shut hs;refine ⟨λ mm w'=>∃ (s1:fQ) (o1 a2:List cG),lT l s1∧sU l (λ s=>CI l (TY l 20) s 0 0) mm s1=some (s9,a2)∧add=o1++a2∧St w bD [pT p lv s1 (([]:List cG)++o1) noQ] w',⟨10000,tI i,[],add,(show lT l (tI i) from h0),Ge,rfl,by rw [List.append_nil]; exact hs⟩,?_⟩
 rintro mm w2 ⟨s1,o1,a2,Mn,IB,sY,hs⟩ fz;obtain ⟨m,rfl⟩:=HD IB;obtain ⟨ov1,YZ,hs⟩:=pT.open hs;have aeo:YZ.length=(([]:List cG)++o1).length:=(hs.p2.eB).1.1;rw [List.length_append] at aeo;refine ⟨λ jv w'=>jv = .bool (decide (s1.e=0) && !sR l s1.at_ nO)∧St w bD [cE p (dW lv ov1 s1),bK ov1 YZ,eB (λ w=>iB YZ (([]:List cG)++o1) w∧noQ w)] w',?_,?_⟩
 ·refine aF (aA ku (have hs:=hs.drew;aB nu hs.hb rfl (aH (aC (λ fy=>?_) (λ fy=>?_)))))
  ·refine aF (aA gS (aB iR hs.hb rfl (aF (aA eV (aB bN hs.hb rfl (aZ vA hs (C211 _ l s1.at_ (ByteArray.mk #[125]) _ (hT _ hs.aE) hn) (λ w3 he hs=>bZ ?_)))))));have hs:=hs.p2.p2.p2;exact ⟨vb (by first | (rw [decide_eq_true fy]; rfl) | (rw [decide_eq_false fy]; rfl)),hs⟩
  ·have hs:=hs.p2.p2.p2;exact ⟨vb (by first | (rw [decide_eq_true fy]; rfl) | (rw [decide_eq_false fy]; rfl)),hs⟩
 ·rintro _ w4 ⟨rfl,hs⟩ jB;refine aY (λ lQ=>?_) (λ lQ=>?_)
  ·obtain ⟨s3,a1,a3,ho,hb3,rfl⟩:=Jr IB lQ;have hs:=pT.shut hs.p2.p2.p2;refine bH afC hs (H':=λ _=>pT p lv s3 ((([]:List cG)++o1)++a1) noQ) (Φ:=λ _ _=>True) (λ F2 eQ ey=>?_) ?_
   ·exact (C233 p lv l s1 20 0 0 (([]:List cG)++o1) s3 a1 noQ F2 _ eQ (λ w' hc=>hT w' (ey w' hc).aE) hk Mn (asr hk 20) (by omega) (by omega) (by have:=congrArg List.length sY; simp at this ⊢; omega) ho).mono λ _ _ r=>r.mono λ _ _ h=>⟨trivial,h.2⟩
   rintro _ w5 _ hs;exact ⟨_,by omega,s3,o1++a1,a3,O0 (λ _ _ _ _ _ c e=>O1 c e) Mn ho,hb3,by rw [sY,List.append_assoc],by rw [← List.append_assoc]; exact hs⟩
  ·obtain ⟨e9,rfl⟩:=Ft IB lQ;replace e9:=e9.symm;subst e9;rw [List.append_nil] at sY;subst sY;obtain ⟨azy,azz⟩:=id Mn;simp only [List.length_nil,Nat.zero_add] at aeo;refine bH yk hs (H':=λ _=>cE p (dW lv ov1 (dP l s1 (ByteArray.mk #[125])))) (Φ:=λ _ _=>True) (λ F2 eQ ey=>?_) ?_
   ·exact (C234 p lv ov1 l s1 (ByteArray.mk #[125]) F2 _ eQ (λ w' hc=>hT w' (ey w' hc).aE) hk Mn).mono λ _ _ r=>r.mono λ _ _ h=>⟨trivial,h.2⟩
   rintro _ w6 _ hs;refine aF (aA ku (aB nu hs.hb rfl (cO (aC (λ qB=>?_) (λ qB=>?_)))))
   ·refine aF (aA ku (have hs:=hs.drew;aB nu hs.hb rfl (aF (aA zU (aB bN hs.hb rfl ?_)))));have hRR:R=([],0,(dP l s1 nO).e,(dP l s1 nO).pos):=hR.1 qB;rw [hRR];exact ⟨⟨none,0,0⟩,rfl,(hs.gH (Φ:=λ w=>DL w (Flat.val (⟨none,0,0⟩:SV)) ([]:List cG)) λ w=>DL.nil w).fresh⟩
   ·refine aF (aA pN (aB te hs.hb rfl (aK j7 (hs.p1).fB (dD (aC (λ wE=>?_) (λ wE=>?_))))))
    ·obtain ⟨Ly,pa⟩:=gx (l) (i:=(op).toNat) (by omega);refine aQ fG hL (by omega) pa (λ _ wF=>bT (Ly).at_ lq wF rfl rfl (λ _ Ao=>have hs:=hs.drew;aD bN (Ao.ext hs.aE) ?_));have hRR:R=([],0,2,Ly.at_):=(hR.2.1 qB (by omega)).trans (by rw [AW jT.1 pa]);rw [hRR];exact ⟨⟨none,0,0⟩,rfl,(hs.gH (Φ:=λ w=>DL w (Flat.val (⟨none,0,0⟩:SV)) ([]:List cG)) λ w=>DL.nil w).fresh⟩
    ·refine aF (aA pN (have hs:=hs.drew;aB te hs.hb rfl (aF (aA eV (aB bN hs.hb rfl ?_)))));have hs:=((hs.drop.p1).dO (Ψ:=iB YZ ([]++add)) (λ w h=>h.1)).p1;have hs:=St.D3 hs;obtain ⟨sv,hsv⟩:=hs.lO;subst hsv;rw [hR.2.2 qB (by omega)];exact ⟨sv,rfl,hs.jO.fresh⟩
theorem C166 (p:Nat) (lv:Value) (l:List bI) (s:fQ) (nb:Bool) (s2:fQ) (x:List dI) (F:Nat→Prop) (w:World) (hF:(cE p (eg lv s)).p w F) (hT:∀ w',iE F w w'→eE (λ _=>True) w' lv l) (hk:iz l) (h0:lT l s) (hr:mR l nb s=some (s2,x)):CR 166 [(.pointer (some ⟨p,0,none⟩)),.bool nb] w (λ v w'=>qz F (sep (cE p (eg lv s2)) (bK v x)) w w'):=by
 have hs:=St.begin hF;obtain ⟨s9,hn0,e2,TT⟩:=xL hr;have FL:=hk.n;have hn:l.length≤1000000:=by omega
 have ti:=hk.at_;obtain ⟨Rp,Rq⟩:=id h0;refine aap _ _ _ _ ?_;unfold S166;refine bX (([]:List dI)) hs j6 rfl rfl (eL rfl) (λ yd w1 hs=>?_);have hs:=hs.p1.p1;refine ⟨λ mm o mo w'=>∃ (s1:fQ) (b:Bool) (o1 a2:List dI),mo = .bool b∧lT l s1∧pn l nb mm b s1=some (s9,a2)∧x=o1++a2∧St w F [bK o o1,cE p (eg lv s1)] w',⟨10000,s,true,[],x,rfl,h0,hn0,rfl,hs⟩,?_⟩;rintro mm yI _ w2 ⟨s1,b,o1,a2,rfl,Mn,Vp,hx,hs⟩ fz;obtain ⟨m,rfl⟩:=Mp Vp;obtain ⟨azy,azz⟩:=id Mn;refine ⟨λ jv w'=>jv = .bool (b && decide (s1.e=0))∧w2=w',?_,?_⟩
 ·refine aY (λ AY=>?_) (λ AY=>?_)
  ·refine aF (aA l6 (aB nu hs.p1.hb rfl (aH ?_)));exact ⟨vb (by first | (rw [AY]; rfl) | (rw [AY]; rfl)),rfl⟩
  ·exact ⟨vb (by first | (rw [AY]; rfl) | (rw [AY]; rfl)),rfl⟩
 ·rintro _ w3 ⟨rfl,hw⟩ jB;subst hw;refine aY (λ eF=>?_) (λ eF=>?_)
  ·obtain ⟨a3,hn3,rfl⟩:=Tc Vp eF;refine bH afq hs.p1 (H':=λ _=>cE p (eg lv (eY l s1).1)) (Φ:=λ v _=>v=Flat.val (eY l s1).2) (λ F2 eQ ey=>?_) ?_
   ·exact C167 p lv l s1 F2 _ eQ (λ w' hc=>hT w' (ey w' hc).aE) hk Mn
   rintro _ w4 rfl hs;refine aJ hs CV (λ asw w5 hs=>aI (x:=(eY l s1).2) hs yo rfl rfl (λ w6 hs=>?_));refine ⟨λ w'=>St w F [cE p (eg lv (fh l nb s1).1),cE asw (Flat.enc (fh l nb s1).2),bK yI o1] w',?_,?_⟩
   ·refine ⟨_,?_,λ _ _ h=>h⟩;refine aY (λ vv=>?_) (λ vv=>?_)
    ·refine bH yj hs.p1 (H':=λ _=>cE p (eg lv (gQ l (eY l s1).1 (ByteArray.mk #[61])).1)) (Φ:=λ v _=>v = .bool (gQ l (eY l s1).1 (ByteArray.mk #[61])).2) (λ F2 eQ ey=>?_) ?_
     ·exact C165 p lv l (eY l s1).1 (ByteArray.mk #[61]) F2 _ eQ (λ w' hc=>hT w' (ey w' hc).aE) hk (uJ Mn)
     rintro _ w7 rfl hs;intro oN;refine aY (λ fD=>?_) (λ fD=>?_)
     ·have hq:=j0 (t:=ByteArray.mk #[61]) (uJ Mn);obtain ⟨hq0,hq1⟩:=id hq;refine ⟨λ jv w'=>jv = .bool (Js l (gQ l (eY l s1).1 (ByteArray.mk #[61])).1)∧St w F [cE p (eg lv (gQ l (eY l s1).1 (ByteArray.mk #[61])).1),cE asw (Flat.enc (eY l s1).2),bK yI o1] w',?_,?_⟩
      ·refine aF (aA fp (have hs:=hs.drew;aB bN hs.hb rfl (aF (aA jN (aB iR hs.hb rfl (aK fG (hT _ hs.aE) (aR (aC (λ jC=>?_) (λ jC=>?_)))))))))
       ·refine aF (aA jN (aB iR hs.hb rfl (aF (aA fp (aB bN hs.hb rfl ?_)))));obtain ⟨asx,Ya⟩:=gx (l) (i:=(((gQ l (eY l s1).1 (ByteArray.mk #[61])).1).at_).toNat) (by omega);refine aQ fG (hT _ hs.aE) (by omega) Ya (λ _ Li=>bT (asx).kind lj Li rfl rfl (λ _ Lj=>aD bN (Lj) (aH ?_)));have hs:=hs.p2.p2.p2;exact ⟨vb (by unfold Js kH; rw [if_pos hq0,Ya]),hs⟩
       ·have hs:=hs.p2.p2.p2;exact ⟨vb (by unfold Js kH; rw [if_pos hq0,List.getElem?_eq_none (by omega)]),hs⟩
      ·rintro _ w9 ⟨rfl,hs⟩ F6;refine aY (λ vF=>?_) (λ vF=>?_)
       ·obtain ⟨tk,XQ,S9,_,hqlt⟩:=aeq vF;have A5:oR l (gQ l (eY l s1).1 (ByteArray.mk #[61])).1.at_=tk:=AW hq0 S9;refine aF (aA jN (have hs:=hs.drew;aB iR hs.hb rfl (aF (aA fp (aB bN hs.hb rfl (aQ fG (hT _ hs.aE) (by omega) S9 (λ _ Ao=>bT (tk).n rn Ao rfl rfl (λ _ asy=>aD bN (asy) (aA zR (aV hs.p1 bN (eL rfl) (rfl) (λ pP hs=>have hs:=hs.enc (cs':=Flat.enc ({ (eY l s1).2 with n:=(tk).n}:dI)) rfl;aF (aA fp ?_))))))))))));refine aB bN hs.p1.hb rfl (aO (by omega) (aF (aA fp (aV hs.p1 bN (eL rfl) (rfl) (λ sB hs=>?_)))))
        have hs:=hs.p2.p2.p2;have CC:(fh l nb s1)=(X0 (gQ l (eY l s1).1 (ByteArray.mk #[61])).1,{ (eY l s1).2 with n:=tk.n}):=(Te vv fD vF).trans (by rw [A5]);rw [CC];exact hs
       ·refine bH PU hs (H':=λ _=>cE p (eg lv (ja l (gQ l (eY l s1).1 (ByteArray.mk #[61])).1 5))) (Φ:=λ _ _=>True) (λ F2 eQ ey=>?_) ?_
        ·exact (C170 p lv l (gQ l (eY l s1).1 (ByteArray.mk #[61])).1 F2 _ eQ (λ w' hc=>hT w' (ey w' hc).aE) hk (j0 (uJ Mn))).mono λ _ _ r=>r.mono λ _ _ h=>⟨trivial,h.2⟩
        rintro _ u7 _ hs;have hs:=hs.p2.p2.p2;have CC:=Tf vv fD vF;rw [CC];exact hs
     ·have hs:=hs.p2.p2.p2;have CC:=X7 (nb:=nb) fD;rw [CC];exact hs
    ·intro oN;refine fi ?_;have hs:=hs.p2.p1.p2;have CC:=X8 (l:=l) (s:=s1) vv;rw [CC];exact hs
   ·intro u9 hs QC;refine aD yo hs.p1.At (bX ([(fh l nb s1).2]) hs j6 rfl rfl (eL rfl) (λ agb r9 hs=>?_));have alJ:=(hs).fB;refine cP hs.p3 j6 alJ (by have:=congrArg List.length hx; simp at this ⊢; omega) (by decide) (λ aqq vT hs=>have hs:=hs.p1.drop;bH yj hs.p1 (H':=λ _=>cE p (eg lv (gQ l (fh l nb s1).1 (ByteArray.mk #[44])).1)) (Φ:=λ v _=>v = .bool (gQ l (fh l nb s1).1 (ByteArray.mk #[44])).2) (λ F2 eQ ey=>?_) ?_)
    ·exact C165 p lv l (fh l nb s1).1 (ByteArray.mk #[44]) F2 _ eQ (λ w' hc=>hT w' (ey w' hc).aE) hk (Fv Mn)
    rintro _ yO rfl hs;have hs:=(hs.p2.drop).p1;exact ⟨_,by omega,(gQ l (fh l nb s1).1 BV).1,(gQ l (fh l nb s1).1 BV).2,o1++[(fh l nb s1).2],a3,rfl,j0 (Fv Mn),hn3,by rw [hx,List.append_assoc]; rfl,hs⟩
  ·obtain ⟨e9,rfl⟩:=Fx Vp eF;replace e9:=e9.symm;subst e9;rw [List.append_nil] at hx;subst hx;refine bH UB hs.p1 (H':=λ _=>cE p (eg lv (dP l s1 (ByteArray.mk #[59])))) (Φ:=λ _ _=>True) (λ F2 eQ ey=>?_) ?_
   ·exact (C212 p lv l s1 (ByteArray.mk #[59]) F2 _ eQ (λ w' hc=>hT w' (ey w' hc).aE) hk Mn).mono λ _ _ r=>r.mono λ _ _ h=>⟨trivial,h.2⟩
   rintro _ B6 _ hs;have hs:=hs.p1.p1;rw [e2];exact (St.join hs).mut
set_option maxHeartbeats 1000000 in
theorem C168 (p:Nat) (lv:Value) (l:List bI) (s:fQ) (nm:ByteArray) (a:Int) (s2:fQ) (x:dS) (F:Nat→Prop) (w:World) (hF:(cE p (eg lv s)).p w F) (hT:∀ w',iE F w w'→eE (λ _=>True) w' lv l) (hk:iz l) (h0:lT l s) (hr:sV l s nm a=some (s2,x)):CR 168 [(.pointer (some ⟨p,0,none⟩)),Flat.val (⟨nm,⟨none,0,0⟩,⟨none,0,0⟩,a⟩:ei)] w (λ v w'=>qz F (ue λ sh:ei=>fact (v=Flat.val sh) (sep (cE p (eg lv s2)) (eB (λ w=>cA.dr w sh x)))) w w'):=by
 have hs:=St.begin hF;obtain ⟨q,rs,BB,FK,hg2⟩:=O5 hr;have hqi:=Mq (fE h0) BB;obtain ⟨hqi0,hqi1⟩:=id hqi;have FL:=hk.n;have hn:l.length≤1000000:=by omega
 have ti:=hk.at_;obtain ⟨Rp,Rq⟩:=id h0;refine aar _ _ _ _ ?_;unfold S168;refine dE (x:=(⟨nm,⟨none,0,0⟩,⟨none,0,0⟩,a⟩:ei)) hs (λ adv w1 hs=>aJ hs Nm (λ CB w2 hs=>have hs:=hs.enc (cs':=Flat.enc (⟨(ByteArray.mk #[]),⟨none,0,0⟩,⟨none,0,0⟩,0⟩:ei)) rfl;aF (aA fp (aB bN hs.p2.hb rfl (bH UB hs.p2 (H':=λ _=>cE p (eg lv (dP l s (ByteArray.mk #[123])))) (Φ:=λ _ _=>True) (λ F2 eQ ey=>?_) ?_)))))
 ·exact (C212 p lv l s (ByteArray.mk #[123]) F2 _ eQ (λ w' hc=>hT w' (ey w' hc).aE) hk h0).mono λ _ _ r=>r.mono λ _ _ h=>⟨trivial,h.2⟩
 rintro _ w3 _ hs;refine ⟨λ w'=>∃ rv:SV,St w F [bK (Flat.val rv) rs,cE adv (Flat.enc (⟨nm,rv,⟨none,0,0⟩,a⟩:ei)),cE CB (Flat.enc (⟨(ByteArray.mk #[]),⟨none,0,0⟩,⟨none,0,0⟩,0⟩:ei)),cE p (eg lv q)] w',?_,?_⟩
 ·refine bH yj hs (H':=λ _=>cE p (eg lv (gQ l (dP l s (ByteArray.mk #[123])) (ByteArray.mk #[114,101,103])).1)) (Φ:=λ v _=>v = .bool (gQ l (dP l s (ByteArray.mk #[123])) (ByteArray.mk #[114,101,103])).2) (λ F2 eQ ey=>?_) ?_
  ·exact C165 p lv l (dP l s (ByteArray.mk #[123])) (ByteArray.mk #[114,101,103]) F2 _ eQ (λ w' hc=>hT w' (ey w' hc).aE) hk (fE h0)
  rintro _ w4 rfl hs;refine aY (λ fy=>?_) (λ fy=>?_)
  ·obtain ⟨ys,hys,hrs⟩:=HG BB fy;have hyl:ys.length≤1000000:=by obtain ⟨_,_,_,h⟩:=xL hys; exact h
   refine bH PR hs (H':=λ v=>sep (cE p (eg lv q)) (bK v ys)) (Φ:=λ _ _=>True) (λ F2 eQ ey=>?_) ?_
   ·exact (C166 p lv l (gQ l (dP l s (ByteArray.mk #[123])) (ByteArray.mk #[114,101,103])).1 false q ys F2 _ eQ (λ w' hc=>hT w' (ey w' hc).aE) hk (j0 (fE h0)) hys).mono λ _ _ r=>r.mono λ _ _ h=>⟨trivial,h⟩
   rintro VO w5 _ hs;have hs:=(((((hs.split.fU (α:=ByteArray)).p1).p3).p3).p4).p4;refine ⟨λ mm i w'=>∃ (j:Nat) (rv:SV),i = .int .i64 (j:Int)∧mm=ys.length - j∧j≤ys.length∧St w F [bK (Flat.val rv) ((ys.take j).map dI.name),cE adv (Flat.enc (⟨nm,rv,⟨none,0,0⟩,a⟩:ei)),bK VO ys,cE CB (Flat.enc (⟨(ByteArray.mk #[]),⟨none,0,0⟩,⟨none,0,0⟩,0⟩:ei)),cE p (eg lv q)] w',⟨_,0,⟨none,0,0⟩,rfl,rfl,Nat.zero_le _,hs⟩,?_⟩;rintro mm _ w6 ⟨j,rv,rfl,rfl,hj,hs⟩ fz;refine aK j6 (hs.p2).fB (aR (aC (λ fD=>?_) (λ fD=>?_)))
   ·refine aA jz (have hs:=hs.drew;aB (v:=Flat.val (rv:SV)) pH hs.p1.hb rfl ?_);obtain ⟨ag8,Yb⟩:=gx (ys) (i:=((j:Int)).toNat) (by omega);refine dU hs.p2 j6 (by omega) (by omega) (λ _ Am=>nd pL Am (λ _ An=>og (ag8).name hs.p2 ke An Yb rfl (bX ([(ag8).name]) hs mX rfl rfl (eL rfl) (λ apO w7 hs=>?_))));refine ⟨aG pH (hs.p2.hb.cell rfl),?_⟩;have alK:=(hs).fB;refine cP hs.p1 mX alK (by simp; omega) (by decide) (λ af8 w8 hs=>have hs:=hs.p1.drop;aA jz ?_);obtain ⟨Yc,rfl⟩:=(hs).fR;refine aV hs.p1 pH (eL rfl) (rfl) (λ w9 hs=>have hs:=hs.enc (cs':=Flat.enc (⟨nm,Yc,⟨none,0,0⟩,a⟩:ei)) rfl;aO (by omega) ?_)
    have hs:=hs.p4.p4.p4.p3.p4;exact ⟨_,by omega,j+1,Yc,rfl,rfl,by omega,by rw [← Gi (k:=j) Yb]; exact hs⟩
   ·have hs:=(hs.p2.drop.p3.p3.p3).p3;rw [List.take_of_length_le (by omega)] at hs;rw [hrs];exact ⟨rv,hs⟩
  ·have hs:=((((hs.fU (α:=ByteArray)).p1).p2).p3).p3;obtain ⟨e1,e3⟩:=Mr BB fy;rw [wZ fy] at hs;rw [e1,e3];exact ⟨⟨none,0,0⟩,hs⟩
 ·rintro pP ⟨rv,hs⟩ jB;refine ⟨λ w'=>∃ (rv bv:SV) (body:List cG),x=⟨nm,rs,body,a⟩∧St w F [bK (Flat.val rv) rs,eB (λ w=>DL w (Flat.val bv) body),cE adv (Flat.enc (⟨nm,rv,bv,a⟩:ei)),cE CB (Flat.enc (⟨(ByteArray.mk #[]),⟨none,0,0⟩,⟨none,0,0⟩,0⟩:ei)),cE p (eg lv s2)] w',?_,?_⟩
  ·refine aF (aA l6 (aB nu hs.p3.hb rfl (aH (aC (λ kB=>?_) (λ kB=>?_)))))
   ·obtain ⟨R,hR,hR0,hR1,e2,hx⟩:=hg2 (by omega);have E9:(dP l s Cn).e=0:=Decidable.not_not.1 λ hh=>O7 hh BB (by omega);have jT:=rT (aer E9);refine aF (aA jN (have hs:=hs.drew;aB iR hs.p3.hb rfl (aF (aA fp (aB bN hs.p3.hb rfl (ed aod (C213 l _ q.at_ s.at_ R _ (hT _ hs.aE) hk hqi jT hR) ?_))))));rintro _ sB ⟨OI,rfl,bV⟩;have hs:=hs.made bV;refine bE rfl (bE rfl (bE rfl (bE rfl (aA qI (aV hs.p2 te (eL rfl) (rfl) (λ u7 hs=>have hs:=hs.enc (cs':=Flat.enc (⟨nm,rv,OI,a⟩:ei)) rfl;aF (aA fp (aV hs.p4 bN (eL rfl) (rfl) (λ u9 hs=>aF (aA l6 (aV hs nu (eL rfl) (rfl) (λ r9 hs=>aF ?_))))))))))))
    refine aA we (aV hs bN (eL rfl) (rfl) (λ vT hs=>?_));have hs:=hs.p4.p2.p3.p4;rw [e2];exact ⟨rv,OI,R.1,hx,hs⟩
   ·have hs:=hs.gH (Φ:=λ w=>DL w (Flat.val (⟨none,0,0⟩:SV)) ([]:List cG)) λ w=>DL.nil w;have hs:=hs.p4.p4.p4.p3.p4;obtain ⟨e2,hx⟩:=FK kB;rw [e2];exact ⟨rv,⟨none,0,0⟩,[],hx,hs⟩
  ·rintro yO ⟨rv,bv,body,rfl,hs⟩ oN;refine aD Is hs.p2.At (aI (x:=(⟨nm,rv,bv,a⟩:ei)) hs.p3 Is rfl rfl (λ B6 hs=>aD Is hs.At ?_));have hs:=hs.p1.freeze.p2.p1.fP.dO (Ψ:=(λ w=>cA.dr w (⟨nm,rv,bv,a⟩:ei) (⟨nm,rs,body,a⟩:dS))) (λ w h=>⟨_,_,rfl,DL.fu h.1,id (h.2)⟩);have hs:=((hs.p1.drop.p1).drop).p1;exact (wX hs).mut
set_option maxHeartbeats 1000000 in
theorem C169 (p:Nat) (lv:Value) (l:List bI) (s:fQ) (a:Int) (s2:fQ) (x:jG) (F:Nat→Prop) (w:World) (hF:(cE p (eg lv s)).p w F) (hT:∀ w',iE F w w'→eE (λ _=>True) w' lv l) (hk:iz l) (h0:lT l s) (hr:wY l s a=some (s2,x)):CR 169 [(.pointer (some ⟨p,0,none⟩)),.int .i64 a] w (λ v w'=>qz F (ue λ sh:lP=>fact (v=Flat.val sh) (sep (cE p (eg lv s2)) (eB (λ w=>cA.dr w sh x)))) w w'):=by
 have hs:=St.begin hF;obtain ⟨R,hxr,FK,hg2⟩:=Tg hr;have FL:=hk.n;have hn:l.length≤1000000:=by omega
 have ti:=hk.at_;obtain ⟨Rp,Rq⟩:=id h0;refine aas _ _ _ _ ?_;unfold S169;refine aJ hs aiK (λ CB w1 hs=>have hs:=hs.enc (cs':=Flat.enc (⟨⟨none,0,0⟩,0⟩:lP)) rfl;aF (aA jN (have hs:=hs.drew;aB iR hs.p1.hb rfl (aF (aA fp (aB bN hs.p1.hb rfl (ed afz (C214 l _ s.at_ R _ (hT _ hs.aE) hk (by omega) hxr) ?_)))))));rintro _ w2 ⟨Yd,rfl,bV⟩;have hs:=hs.made bV;refine bE rfl (bE rfl (bE rfl (bE rfl (cO (aC (λ iH=>?_) (λ iH=>?_))))))
 ·obtain ⟨rfl,rfl⟩:=FK iH;refine aF (aA l6 (aV hs.p2 nu (eL rfl) (rfl) (λ w3 hs=>aF (aA we (aV hs bN (eL rfl) (rfl) (λ w4 hs=>pop (v:=Flat.val (⟨⟨none,0,0⟩,0⟩:lP)) (by kernel_rfl) (aI (x:=(⟨⟨none,0,0⟩,0⟩:lP)) hs.p2 abZ rfl rfl (λ w5 hs=>aD abZ hs.At ?_))))))));have hs:=hs.gH (Φ:=(λ w=>cA.dr w (⟨⟨none,0,0⟩,0⟩:lP) (⟨[],0⟩:jG))) (λ w=>⟨_,rfl,DL.nil _⟩);have hs:=((hs.p1.drop.p2).drop).p1;exact (wX hs).mut
 ·obtain ⟨BB,rfl,rfl⟩:=hg2 iH;refine aF (aA fp (aV hs.p2 bN (eL rfl) (rfl) (λ w6 hs=>have hs:=hs.enc (cs':=eg lv ({s with at_:=R.2.1}:fQ)) rfl;bH UB hs (H':=λ _=>cE p (eg lv (dP l ({s with at_:=R.2.1}:fQ) (ByteArray.mk #[59])))) (Φ:=λ _ _=>True) (λ F2 eQ ey=>?_) ?_)))
  ·exact (C212 p lv l ({s with at_:=R.2.1}:fQ) (ByteArray.mk #[59]) F2 _ eQ (λ w' hc=>hT w' (ey w' hc).aE) hk (show lT l ({s with at_:=R.2.1}:fQ) from BB)).mono λ _ _ r=>r.mono λ _ _ h=>⟨trivial,h.2⟩
  rintro _ w7 _ hs;refine pop (GL _ _ _ _) (aI (x:=(⟨Yd,a⟩:lP)) hs.p2 abZ rfl rfl (λ w8 hs=>aD abZ hs.At ?_));have hs:=hs.p2.dO (Ψ:=(λ w=>cA.dr w (⟨Yd,a⟩:lP) (⟨R.1,a⟩:jG))) (λ w h=>⟨_,rfl,id (h)⟩);have hs:=(hs.p1.drop).p1;exact (wX hs).mut
set_option maxHeartbeats 8000000 in
theorem C109 (s:ByteArray) (R:cW × Int × Int) (w:World) (YY:s.size≤1000000) (hr:rV s=some R) (hTk:∀ l e a,uI s=some (l,e,a)→iz l):CR 109 [.string s] w (λ v w'=>∃ pv:bL,v = .tuple #[Flat.val pv,.int .i64 R.2.1,.int .i64 R.2.2]∧lW (eB (λ w=>cA.dr w pv R.1)) w w'):=by
 obtain ⟨l,e,a,hsc⟩:=O8 hr;have hk:=hTk l e a hsc;have FL:=hk.n;have hn:l.length≤1000000:=by omega
 have ti:=hk.at_;have hs:=St.start w;refine ZI _ _ _ ?_;unfold S109;refine aJ hs uU (λ ma w1 hs=>have hs:=hs.enc (cs':=Flat.enc (⟨⟨none,0,0⟩,⟨none,0,0⟩,⟨none,0,0⟩,⟨none,0,0⟩,⟨none,0,0⟩,⟨none,0,0⟩⟩:bL)) rfl;ed anQ (C164 s (l,e,a) _ YY hsc) ?_);rintro _ w2 ⟨lv,rfl,bV⟩;have hs:=hs.made bV;refine bE rfl (bE rfl (bE rfl (cO (aC (λ gd=>?_) (λ gd=>?_)))))
 ·refine pop (v:=Flat.val (⟨⟨none,0,0⟩,⟨none,0,0⟩,⟨none,0,0⟩,⟨none,0,0⟩,⟨none,0,0⟩,⟨none,0,0⟩⟩:bL)) (by kernel_rfl) (aI (x:=(⟨⟨none,0,0⟩,⟨none,0,0⟩,⟨none,0,0⟩,⟨none,0,0⟩,⟨none,0,0⟩,⟨none,0,0⟩⟩:bL)) hs.p1 gF rfl rfl (λ w3 hs=>aD gF hs.At ?_));have hs:=hs.gH (Φ:=(λ w=>cA.dr w (⟨⟨none,0,0⟩,⟨none,0,0⟩,⟨none,0,0⟩,⟨none,0,0⟩,⟨none,0,0⟩,⟨none,0,0⟩⟩:bL) (⟨[],[],[],[],[],[]⟩:cW))) (λ w=>⟨_,_,_,_,_,_,rfl,DL.nil _,DL.nil _,DL.nil _,DL.nil _,DL.nil _,DL.nil _⟩);have hs:=((hs.p1.drop).p1).drop;rw [Ti hr hsc gd];exact ⟨_,rfl,hs.fresh⟩
 ·obtain ⟨t1,t2,t3,t4,t5,t6,y1,y2,y3,y4,y5,y6,hp⟩:=X9 hr hsc gd;obtain ⟨lsv,hlv⟩:=(hs).fR;rw [hlv];refine pop (UY _ _ _) (lZ hs (λ B7 w4 hs=>pop (v:=Flat.val (⟨⟨none,0,0⟩,⟨none,0,0⟩,⟨none,0,0⟩,⟨none,0,0⟩,⟨none,0,0⟩,⟨none,0,0⟩⟩:bL)) (by kernel_rfl) (aJ hs uU (λ O9 w5 hs=>have hs:=hs.enc (cs':=Flat.enc (⟨⟨none,0,0⟩,⟨none,0,0⟩,⟨none,0,0⟩,⟨none,0,0⟩,⟨none,0,0⟩,⟨none,0,0⟩⟩:bL)) rfl;aI (x:=(⟨⟨none,0,0⟩,⟨none,0,0⟩,⟨none,0,0⟩,⟨none,0,0⟩,⟨none,0,0⟩,⟨none,0,0⟩⟩:bL)) hs gF rfl rfl (λ w6 hs=>?_)))));obtain ⟨p,rfl⟩:∃ p,p=B7:=⟨_,rfl⟩;have hs:=hs.p1.enc (cs':=eg (Flat.val lsv) (tI 0)) rfl
  rw [← hlv] at hs ⊢;have azC:lT l (tI 0):=⟨Int.le_refl _,by show (0:Int)≤_; omega⟩;have hs:=(((((hs.xX (α:=(List dI))).p4).p4).p3).p4).p4;refine ⟨λ mm w'=>∃ (s0:fQ) (v0:SV) (xs0 a0:List (List dI)),lT l s0∧mM l X4 (mR l true) mm s0=some (t1,a0)∧y1=xs0++a0∧St w bD [fo (Flat.val v0) xs0,cE O9 (Flat.enc (⟨v0,⟨none,0,0⟩,⟨none,0,0⟩,⟨none,0,0⟩,⟨none,0,0⟩,⟨none,0,0⟩⟩:bL)),cE p (eg lv s0),bK lv l,cE ma (Flat.enc (⟨⟨none,0,0⟩,⟨none,0,0⟩,⟨none,0,0⟩,⟨none,0,0⟩,⟨none,0,0⟩,⟨none,0,0⟩⟩:bL))] w',⟨10000,tI 0,⟨none,0,0⟩,[],y1,azC,hp.h1,rfl,hs⟩,?_⟩;rintro mm w7 ⟨s0,v0,xs0,a0,hi0,E9,hy0,hs⟩ fz
  obtain ⟨m0,rfl⟩:=rW E9;refine bH yj hs.p2 (H':=λ _=>cE p (eg lv (gQ l s0 (ByteArray.mk #[108,105,110,101])).1)) (Φ:=λ v _=>v = .bool (gQ l s0 (ByteArray.mk #[108,105,110,101])).2) (λ F2 eQ ey=>?_) ?_
  ·exact C165 p lv l s0 (ByteArray.mk #[108,105,110,101]) F2 _ eQ (λ w' hc=>(ey w' hc).p2.fB) hk hi0
  rintro _ w8 rfl hs;refine aY (λ gh=>?_) (λ gh=>?_)
  ·obtain ⟨q0,z0,b0,hd0,hn0,rfl⟩:=xa E9 gh;refine aA jx (have hs:=hs.drew;aB (v:=Flat.val (v0:SV)) r7 hs.p2.hb rfl (bH PR hs (H':=λ v=>sep (cE p (eg lv q0)) (bK v z0)) (Φ:=λ _ _=>True) (λ F2 eQ ey=>?_) ?_))
   ·exact (C166 p lv l (gQ l s0 (ByteArray.mk #[108,105,110,101])).1 true q0 z0 F2 _ eQ (λ w' hc=>(ey w' hc).p2.fB) hk (j0 hi0) hd0).mono λ _ _ r=>r.mono λ _ _ h=>⟨trivial,h⟩
   rintro x31 w9 _ hs;have hs:=hs.split;refine ⟨aG r7 (hs.p3.hb.cell rfl),?_⟩;obtain ⟨Ye,rfl⟩:=(hs.p1).fR;have hs:=hs.p1.freeze.dO (Ψ:=λ w=>cA.dr w Ye (z0)) (λ w h=>DL.fu h);refine eM (s:=Ye) (x:=z0) hs vM (by decide) (λ Wk pP hs=>?_);refine ⟨aG r7 (hs.p3.hb.cell rfl),?_⟩;have hs:=hs.p2;refine ee hs vM (by have h1:=congrArg List.length hy0; have h2:=hp.b1; simp at h1 ⊢; omega) (by decide) (λ s_x33 sB hs=>aA jx ?_);obtain ⟨wN,rfl⟩:=(hs).lO;refine aV hs.p2 r7 (eL rfl) (rfl) (λ u7 hs=>?_);have hs:=hs.enc (cs':=Flat.enc (⟨wN,⟨none,0,0⟩,⟨none,0,0⟩,⟨none,0,0⟩,⟨none,0,0⟩,⟨none,0,0⟩⟩:bL)) rfl
   have hs:=hs.p4.p4.p4.p3.p4;exact ⟨_,by omega,q0,wN,xs0++[z0],b0,xM (j0 hi0) hd0,hn0,by rw [hy0,List.append_assoc]; rfl,hs⟩
  ·obtain ⟨e9,rfl⟩:=uK E9 gh;replace e9:=e9.symm;subst e9;rw [List.append_nil] at hy0;subst hy0;rw [wZ gh] at hs;have hs:=((((((hs.fU (α:=dI)).p5).p5).p3).p5).p5).p5;refine ⟨λ mm w'=>∃ (s1:fQ) (v1:SV) (xs1 a1:List (List dI)),lT l s1∧mM l alF (mR l true) mm s1=some (t2,a1)∧y2=xs1++a1∧St w bD [bK (Flat.val v1) (xs1.flatten),fo (Flat.val v0) y1,cE O9 (Flat.enc (⟨v0,v1,⟨none,0,0⟩,⟨none,0,0⟩,⟨none,0,0⟩,⟨none,0,0⟩⟩:bL)),cE p (eg lv s1),bK lv l,cE ma (Flat.enc (⟨⟨none,0,0⟩,⟨none,0,0⟩,⟨none,0,0⟩,⟨none,0,0⟩,⟨none,0,0⟩,⟨none,0,0⟩⟩:bL))] w',⟨10000,s0,⟨none,0,0⟩,[],y2,hi0,hp.h2,rfl,hs⟩,?_⟩
   rintro mm u9 ⟨s1,v1,xs1,a1,hi1,hm1,hy1,hs⟩ jB;obtain ⟨m1,rfl⟩:=rW hm1;refine bH yj hs.p3 (H':=λ _=>cE p (eg lv (gQ l s1 (ByteArray.mk #[118,111,108])).1)) (Φ:=λ v _=>v = .bool (gQ l s1 (ByteArray.mk #[118,111,108])).2) (λ F2 eQ ey=>?_) ?_
   ·exact C165 p lv l s1 (ByteArray.mk #[118,111,108]) F2 _ eQ (λ w' hc=>(ey w' hc).p3.fB) hk hi1
   rintro _ r9 rfl hs;refine aY (λ lx=>?_) (λ lx=>?_)
   ·obtain ⟨q1,z1,b1,MO,Vp,rfl⟩:=xa hm1 lx;refine aA uT (have hs:=hs.drew;aB (v:=Flat.val (v1:SV)) jF hs.p3.hb rfl (bH PR hs (H':=λ v=>sep (cE p (eg lv q1)) (bK v z1)) (Φ:=λ _ _=>True) (λ F2 eQ ey=>?_) ?_))
    ·exact (C166 p lv l (gQ l s1 (ByteArray.mk #[118,111,108])).1 true q1 z1 F2 _ eQ (λ w' hc=>(ey w' hc).p3.fB) hk (j0 hi1) MO).mono λ _ _ r=>r.mono λ _ _ h=>⟨trivial,h⟩
    rintro x40 vT _ hs;have hs:=hs.split;refine ⟨aG jF (hs.p4.hb.cell rfl),?_⟩;have vq:=(hs.p1).fB;refine cP hs.p2 j6 vq (by have:=RD hy1; have:=hp.b2; omega) (by decide) (λ V9 yO hs=>have hs:=hs.p2.drop;aA uT ?_);obtain ⟨I0,rfl⟩:=(hs).fR;refine aV hs.p3 jF (eL rfl) (rfl) (λ B6 hs=>?_);have hs:=hs.enc (cs':=Flat.enc (⟨v0,I0,⟨none,0,0⟩,⟨none,0,0⟩,⟨none,0,0⟩,⟨none,0,0⟩⟩:bL)) rfl;have hs:=hs.p5.p5.p4.p3.p5.p5;rw [← AX] at hs;exact ⟨_,by omega,q1,I0,xs1++[z1],b1,xM (j0 hi1) MO,Vp,by rw [hy1,List.append_assoc]; rfl,hs⟩
   ·obtain ⟨e9,rfl⟩:=uK hm1 lx;replace e9:=e9.symm;subst e9;rw [List.append_nil] at hy1;subst hy1;rw [wZ lx] at hs;have hs:=(((((((hs.fU (α:=dI)).p6).p6).p3).p6).p5).p6).p6;refine ⟨λ mm w'=>∃ (s2:fQ) (v2:SV) (xs2 a2:List (List dI)),lT l s2∧mM l X5 (mR l false) mm s2=some (t3,a2)∧y3=xs2++a2∧St w bD [bK (Flat.val v2) (xs2.flatten),fo (Flat.val v0) y1,bK (Flat.val v1) (y2.flatten),cE O9 (Flat.enc (⟨v0,v1,v2,⟨none,0,0⟩,⟨none,0,0⟩,⟨none,0,0⟩⟩:bL)),cE p (eg lv s2),bK lv l,cE ma (Flat.enc (⟨⟨none,0,0⟩,⟨none,0,0⟩,⟨none,0,0⟩,⟨none,0,0⟩,⟨none,0,0⟩,⟨none,0,0⟩⟩:bL))] w',⟨10000,s1,⟨none,0,0⟩,[],y3,hi1,hp.h3,rfl,hs⟩,?_⟩
    rintro mm GQ ⟨s2,v2,xs2,a2,hi2,hm2,hy2,hs⟩ oN;obtain ⟨m2,rfl⟩:=rW hm2;refine bH yj hs.p4 (H':=λ _=>cE p (eg lv (gQ l s2 (ByteArray.mk #[108,111,99,107])).1)) (Φ:=λ v _=>v = .bool (gQ l s2 (ByteArray.mk #[108,111,99,107])).2) (λ F2 eQ ey=>?_) ?_
    ·exact C165 p lv l s2 (ByteArray.mk #[108,111,99,107]) F2 _ eQ (λ w' hc=>(ey w' hc).p4.fB) hk hi2
    rintro _ IF rfl hs;refine aY (λ sG=>?_) (λ sG=>?_)
    ·obtain ⟨q2,z2,b2,MS,hn2,rfl⟩:=xa hm2 sG;refine aA si (have hs:=hs.drew;aB (v:=Flat.val (v2:SV)) jF hs.p4.hb rfl (bH PR hs (H':=λ v=>sep (cE p (eg lv q2)) (bK v z2)) (Φ:=λ _ _=>True) (λ F2 eQ ey=>?_) ?_))
     ·exact (C166 p lv l (gQ l s2 (ByteArray.mk #[108,111,99,107])).1 false q2 z2 F2 _ eQ (λ w' hc=>(ey w' hc).p4.fB) hk (j0 hi2) MS).mono λ _ _ r=>r.mono λ _ _ h=>⟨trivial,h⟩
     rintro x48 JH _ hs;have hs:=hs.split;refine ⟨aG jF (hs.p5.hb.cell rfl),?_⟩;have alO:=(hs.p1).fB;refine cP hs.p2 j6 alO (by have:=RD hy2; have:=hp.b3; omega) (by decide) (λ aqs Lr hs=>have hs:=hs.p2.drop;aA si ?_);obtain ⟨Yf,rfl⟩:=(hs).fR;refine aV hs.p4 jF (eL rfl) (rfl) (λ NS hs=>?_);have hs:=hs.enc (cs':=Flat.enc (⟨v0,v1,Yf,⟨none,0,0⟩,⟨none,0,0⟩,⟨none,0,0⟩⟩:bL)) rfl;have hs:=hs.p6.p6.p4.p3.p6.p6.p6;rw [← AX] at hs;exact ⟨_,by omega,q2,Yf,xs2++[z2],b2,xM (j0 hi2) MS,hn2,by rw [hy2,List.append_assoc]; rfl,hs⟩
    ·obtain ⟨e9,rfl⟩:=uK hm2 sG;replace e9:=e9.symm;subst e9;rw [List.append_nil] at hy2;subst hy2;rw [wZ sG] at hs;have hs:=((((((((hs.xX (α:=dS)).p7).p7).p3).p7).p5).p7).p7).p7;refine ⟨λ mm w'=>∃ (s3:fQ) (v3:SV) (xs3 a3:List dS),lT l s3∧mM l Jt (alG l) mm s3=some (t4,a3)∧y4=xs3++a3∧St w bD [fo (Flat.val v3) xs3,fo (Flat.val v0) y1,bK (Flat.val v1) (y2.flatten),bK (Flat.val v2) (y3.flatten),cE O9 (Flat.enc (⟨v0,v1,v2,v3,⟨none,0,0⟩,⟨none,0,0⟩⟩:bL)),cE p (eg lv s3),bK lv l,cE ma (Flat.enc (⟨⟨none,0,0⟩,⟨none,0,0⟩,⟨none,0,0⟩,⟨none,0,0⟩,⟨none,0,0⟩,⟨none,0,0⟩⟩:bL))] w',⟨10000,s2,⟨none,0,0⟩,[],y4,hi2,hp.h4,rfl,hs⟩,?_⟩
     rintro mm Sy ⟨s3,v3,xs3,a3,hi3,hm3,hy3,hs⟩ F6;obtain ⟨m3,rfl⟩:=rW hm3;refine bH yj hs.p5 (H':=λ _=>cE p (eg lv (gQ l s3 (ByteArray.mk #[116,104,114,101,97,100])).1)) (Φ:=λ v _=>v = .bool (gQ l s3 (ByteArray.mk #[116,104,114,101,97,100])).2) (λ F2 eQ ey=>?_) ?_
     ·exact C165 p lv l s3 (ByteArray.mk #[116,104,114,101,97,100]) F2 _ eQ (λ w' hc=>(ey w' hc).p5.fB) hk hi3
     rintro _ TU rfl hs;refine aY (λ sJ=>?_) (λ sJ=>?_)
     ·obtain ⟨q3,z3,b3,hd3,hn3,rfl⟩:=xa hm3 sJ;refine bH afq hs (H':=λ _=>cE p (eg lv (eY l (gQ l s3 (ByteArray.mk #[116,104,114,101,97,100])).1).1)) (Φ:=λ v _=>v=Flat.val (eY l (gQ l s3 (ByteArray.mk #[116,104,114,101,97,100])).1).2) (λ F2 eQ ey=>?_) ?_
      ·exact C167 p lv l (gQ l s3 (ByteArray.mk #[116,104,114,101,97,100])).1 F2 _ eQ (λ w' hc=>(ey w' hc).p5.fB) hk (j0 hi3)
      rintro _ QQ rfl hs;refine aJ hs CV (λ b_c10 Y6 hs=>aI (x:=(eY l (gQ l s3 (ByteArray.mk #[116,104,114,101,97,100])).1).2) hs yo rfl rfl (λ Y7 hs=>aA nj (have hs:=hs.drew;aB (v:=Flat.val (v3:SV)) jh hs.p6.hb rfl (aA pL (aB (v:=.string (((eY l (gQ l s3 (ByteArray.mk #[116,104,114,101,97,100])).1).2).name)) ke hs.hb rfl (aA DM (aB (v:=.int .i64 (((eY l (gQ l s3 (ByteArray.mk #[116,104,114,101,97,100])).1).2).at_)) bN hs.hb rfl (pop (Sh _ _) (bH afr hs.p1 (H':=λ v=>ue λ sh:ei=>fact (v=Flat.val sh) (sep (cE p (eg lv q3)) (eB (λ w=>cA.dr w sh z3)))) (Φ:=λ _ _=>True) (λ F2 eQ ey=>?_) ?_)))))))))
      ·exact (C168 p lv l (eY l (gQ l s3 (ByteArray.mk #[116,104,114,101,97,100])).1).1 ((eY l (gQ l s3 (ByteArray.mk #[116,104,114,101,97,100])).1).2).name ((eY l (gQ l s3 (ByteArray.mk #[116,104,114,101,97,100])).1).2).at_ q3 z3 F2 _ eQ (λ w' hc=>(ey w' hc).p6.fB) hk (uJ (j0 hi3)) hd3).mono λ _ _ r=>r.mono λ _ _ h=>⟨trivial,h⟩
      rintro v_x63 w28 _ AO;obtain ⟨alQ,AP⟩:=AO.eX
      clear AO
      obtain ⟨alR,C9⟩:=AP.oM
      clear AP
      subst alR;have hs:=C9.split
      clear C9
      refine ⟨aG jh (hs.p7.hb.cell rfl),?_⟩;have hs:=hs.p1;refine eM (s:=alQ) (x:=z3) hs iP (by decide) (λ ar1 w29 hs=>?_);refine ⟨aG jh (hs.p7.hb.cell rfl),?_⟩;have hs:=hs.p3;refine ee hs iP (by have h1:=congrArg List.length hy3; have h2:=hp.b4; simp at h1 ⊢; omega) (by decide) (λ agY w30 hs=>aA nj ?_);obtain ⟨Yg,rfl⟩:=(hs).lO;refine aV hs.p6 jh (eL rfl) (rfl) (λ w31 hs=>?_);have hs:=((hs.enc (cs':=Flat.enc (⟨v0,v1,v2,Yg,⟨none,0,0⟩,⟨none,0,0⟩⟩:bL)) rfl).p3).drop;have hs:=hs.p7.p7.p4.p3.p7.p7.p7.p7;exact ⟨_,by omega,q3,Yg,xs3++[z3],b3,Fy (uJ (j0 hi3)) hd3,hn3,by rw [hy3,List.append_assoc]; rfl,hs⟩
     ·obtain ⟨e9,rfl⟩:=uK hm3 sJ;replace e9:=e9.symm;subst e9;rw [List.append_nil] at hy3;subst hy3;rw [wZ sJ] at hs;refine ⟨λ w'=>∃ v4:SV,St w bD [fo (Flat.val v4) y5,fo (Flat.val v0) y1,bK (Flat.val v1) (y2.flatten),bK (Flat.val v2) (y3.flatten),fo (Flat.val v3) y4,cE O9 (Flat.enc (⟨v0,v1,v2,v3,v4,⟨none,0,0⟩⟩:bL)),cE p (eg lv t5),bK lv l,cE ma (Flat.enc (⟨⟨none,0,0⟩,⟨none,0,0⟩,⟨none,0,0⟩,⟨none,0,0⟩,⟨none,0,0⟩,⟨none,0,0⟩⟩:bL))] w',?_,?_⟩
      ·refine bH yj hs (H':=λ _=>cE p (eg lv (gQ l s3 (ByteArray.mk #[114,101,99,111,118,101,114])).1)) (Φ:=λ v _=>v = .bool (gQ l s3 (ByteArray.mk #[114,101,99,111,118,101,114])).2) (λ F2 eQ ey=>?_) ?_
       ·exact C165 p lv l s3 (ByteArray.mk #[114,101,99,111,118,101,114]) F2 _ eQ (λ w' hc=>(ey w' hc).p5.fB) hk hi3
       rintro _ w32 rfl hs;refine aY (λ Fz=>?_) (λ Fz=>?_)
       ·obtain ⟨z4,hd4,hy5⟩:=Mu hp.h5 Fz;obtain ⟨azF,_,hlo68,hhi68⟩:=X6 Fz;have hat68:(gQ l s3 (ByteArray.mk #[114,101,99,111,118,101,114])).1.at_=s3.at_+1:=by rw [azF]
        refine aA sj (have hs:=hs.drew;aB (v:=Flat.val (⟨none,0,0⟩:SV)) jh hs.p5.hb rfl (aF (aA fp (aB bN hs.hb rfl (gA (by omega) ?_)))));obtain ⟨Yh,Yi⟩:=gx (l) (i:=((((gQ l s3 (ByteArray.mk #[114,101,99,111,118,101,114])).1).at_ - 1)).toNat) (by omega);refine dU hs.p6 fG (by omega) (by omega) (λ _ XZ=>nd lq XZ (λ _ asA=>og (Yh).at_ hs.p6 bN asA Yi rfl (pop (aca _) ?_)));have NY:zp l (gQ l s3 (ByteArray.mk #[114,101,99,111,118,101,114])).1=(Yh).at_:=congrArg bI.at_ (AW (by omega) Yi);rw [NY] at hd4;refine bH afr hs (H':=λ v=>ue λ sh:ei=>fact (v=Flat.val sh) (sep (cE p (eg lv t5)) (eB (λ w=>cA.dr w sh z4)))) (Φ:=λ _ _=>True) (λ F2 eQ ey=>?_) ?_
        ·exact (C168 p lv l (gQ l s3 (ByteArray.mk #[114,101,99,111,118,101,114])).1 (ByteArray.mk #[]) (Yh).at_ t5 z4 F2 _ eQ (λ w' hc=>(ey w' hc).p5.fB) hk (j0 hi3) hd4).mono λ _ _ r=>r.mono λ _ _ h=>⟨trivial,h⟩
        rintro v_x82 w33 _ AO;obtain ⟨alS,AP⟩:=AO.eX
        clear AO
        obtain ⟨alT,C9⟩:=AP.oM
        clear AP
        subst alT;have hs:=C9.split
        clear C9
        refine ⟨aG jh (hs.p6.hb.cell rfl),?_⟩;have hs:=hs.p1;refine eM (s:=alS) (x:=z4) hs iP (by decide) (λ aqI w34 hs=>?_);refine ⟨aG jh (hs.p6.hb.cell rfl),?_⟩;have hs:=((hs.xX (α:=dS)).p1).p1;refine ee hs iP (by simp) (by decide) (λ agc w35 hs=>aA sj ?_);obtain ⟨Yj,rfl⟩:=(hs).lO;refine aV hs.p6 jh (eL rfl) (rfl) (λ w36 hs=>?_);have hs:=(((hs.enc (cs':=Flat.enc (⟨v0,v1,v2,v3,Yj,⟨none,0,0⟩⟩:bL)) rfl).p8).p8).p4;have hs:=hs.p3.p5.p8.p8.p8.p8;rw [hy5];exact ⟨Yj,hs⟩
       ·rw [wZ Fz] at hs;have hs:=(((((((((hs.xX (α:=dS)).p8).p8).p3).p8).p5).p8).p8).p8).p8;obtain ⟨e5,e6⟩:=RC hp.h5 Fz;rw [e5,e6];exact ⟨⟨none,0,0⟩,hs⟩
      ·rintro w37 ⟨v4,hs⟩ QC;have hs:=((((((((((hs.xX (α:=jG)).p9).p9).p9).p9).p5).p9).p9).p9).p9).p9;refine ⟨λ mm w'=>∃ (s5:fQ) (v5:SV) (xs5 a5:List jG),lT l s5∧mM l Ju (λ s=>wY l s (zp l s)) mm s5=some (t6,a5)∧y6=xs5++a5∧St w bD [fo (Flat.val v5) xs5,fo (Flat.val v0) y1,bK (Flat.val v1) (y2.flatten),bK (Flat.val v2) (y3.flatten),fo (Flat.val v3) y4,fo (Flat.val v4) y5,cE O9 (Flat.enc (⟨v0,v1,v2,v3,v4,v5⟩:bL)),cE p (eg lv s5),bK lv l,cE ma (Flat.enc (⟨⟨none,0,0⟩,⟨none,0,0⟩,⟨none,0,0⟩,⟨none,0,0⟩,⟨none,0,0⟩,⟨none,0,0⟩⟩:bL))] w',⟨10000,t5,⟨none,0,0⟩,[],y6,(aes hi3 hp.h5),hp.h6,rfl,hs⟩,?_⟩
       rintro mm w38 ⟨s5,v5,xs5,a5,hi5,hm5,hy5,hs⟩ dd6;obtain ⟨m5,rfl⟩:=rW hm5;refine bH yj hs.p7 (H':=λ _=>cE p (eg lv (gQ l s5 (ByteArray.mk #[97,108,119,97,121,115])).1)) (Φ:=λ v _=>v = .bool (gQ l s5 (ByteArray.mk #[97,108,119,97,121,115])).2) (λ F2 eQ ey=>?_) ?_
       ·exact C165 p lv l s5 (ByteArray.mk #[97,108,119,97,121,115]) F2 _ eQ (λ w' hc=>(ey w' hc).p7.fB) hk hi5
       rintro _ WA rfl hs;refine aY (λ Ae=>?_) (λ Ae=>?_)
       ·obtain ⟨q5,z5,b5,hd5,FL,rfl⟩:=xa hm5 Ae;obtain ⟨azI,_,hlo87,hhi87⟩:=X6 Ae;have hat87:(gQ l s5 (ByteArray.mk #[97,108,119,97,121,115])).1.at_=s5.at_+1:=by rw [azI]
        refine aA kR (have hs:=hs.drew;aB (v:=Flat.val (v5:SV)) sZ hs.p7.hb rfl (aF (aA fp (aB bN hs.hb rfl (gA (by omega) ?_)))));obtain ⟨Yk,Yl⟩:=gx (l) (i:=((((gQ l s5 (ByteArray.mk #[97,108,119,97,121,115])).1).at_ - 1)).toNat) (by omega);refine dU hs.p8 fG (by omega) (by omega) (λ _ asC=>nd lq asC (λ _ asD=>og (Yk).at_ hs.p8 bN asD Yl rfl ?_));have NY:zp l (gQ l s5 (ByteArray.mk #[97,108,119,97,121,115])).1=(Yk).at_:=congrArg bI.at_ (AW (by omega) Yl);rw [NY] at hd5;refine bH anR hs (H':=λ v=>ue λ sh:lP=>fact (v=Flat.val sh) (sep (cE p (eg lv q5)) (eB (λ w=>cA.dr w sh z5)))) (Φ:=λ _ _=>True) (λ F2 eQ ey=>?_) ?_
        ·exact (C169 p lv l (gQ l s5 (ByteArray.mk #[97,108,119,97,121,115])).1 (Yk).at_ q5 z5 F2 _ eQ (λ w' hc=>(ey w' hc).p7.fB) hk (j0 hi5) hd5).mono λ _ _ r=>r.mono λ _ _ h=>⟨trivial,h⟩
        rintro azJ w40 _ AO;obtain ⟨aet,AP⟩:=AO.eX
        clear AO
        obtain ⟨aeu,C9⟩:=AP.oM
        clear AP
        subst aeu;have hs:=C9.split
        clear C9
        refine ⟨aG sZ (hs.p8.hb.cell rfl),?_⟩;have hs:=hs.p1;refine eM (s:=aet) (x:=z5) hs yM (by decide) (λ ak2 w41 hs=>?_);refine ⟨aG sZ (hs.p8.hb.cell rfl),?_⟩;have hs:=hs.p2;refine ee hs yM (by have h1:=congrArg List.length hy5; have h2:=hp.b6; simp at h1 ⊢; omega) (by decide) (λ ak3 w42 hs=>aA kR ?_);obtain ⟨RE,rfl⟩:=(hs).lO;refine aV hs.p7 sZ (eL rfl) (rfl) (λ w43 hs=>?_);have hs:=(((((hs.enc (cs':=Flat.enc (⟨v0,v1,v2,v3,v4,RE⟩:bL)) rfl).p9).p9).p4).p3).p9;have hs:=hs.p9.p9.p9.p9.p9;exact ⟨_,by omega,q5,RE,xs5++[z5],b5,Td (j0 hi5) hd5,FL,by rw [hy5,List.append_assoc]; rfl,hs⟩
       ·obtain ⟨e9,rfl⟩:=uK hm5 Ae;replace e9:=e9.symm;subst e9;rw [List.append_nil] at hy5;subst hy5;rw [wZ Ae] at hs;obtain ⟨hi50,hi51⟩:=id hi5;refine ⟨λ w'=>St w bD [fo (Flat.val v5) y6,fo (Flat.val v0) y1,bK (Flat.val v1) (y2.flatten),bK (Flat.val v2) (y3.flatten),fo (Flat.val v3) y4,fo (Flat.val v4) y5,cE O9 (Flat.enc (⟨v0,v1,v2,v3,v4,v5⟩:bL)),cE p (eg lv (Gh l s5)),bK lv l,cE ma (Flat.enc (⟨⟨none,0,0⟩,⟨none,0,0⟩,⟨none,0,0⟩,⟨none,0,0⟩,⟨none,0,0⟩,⟨none,0,0⟩⟩:bL))] w',?_,?_⟩
        ·refine aF (aA fp (aB bN hs.hb rfl (aK fG (hs.p8).fB (aR (aC (λ zg=>?_) (λ zg=>?_))))))
         ·refine bH PU hs (H':=λ _=>cE p (eg lv (ja l s5 5))) (Φ:=λ _ _=>True) (λ F2 eQ ey=>?_) ?_
          ·exact (C170 p lv l s5 F2 _ eQ (λ w' hc=>(ey w' hc).p7.fB) hk hi5).mono λ _ _ r=>r.mono λ _ _ h=>⟨trivial,h.2⟩
          rintro _ w44 _ hs;have hs:=hs.p9.p9.p2.p9.p9.p9.p9.p9.p9.p9;have he6:Gh l s5=ja l s5 5:=if_pos zg;rw [he6]; exact hs
         ·have hs:=hs.p9.p9.p2.p9.p9.p9.p9.p9.p9.p9;have he6:Gh l s5=s5:=if_neg zg;rw [he6]; exact hs
        ·intro w45 hs dd7;refine aF (aA l6 (aB nu hs.p7.hb rfl (cO (aC (λ Pa=>?_) (λ Pa=>?_)))))
         ·refine pop (v:=Flat.val (⟨⟨none,0,0⟩,⟨none,0,0⟩,⟨none,0,0⟩,⟨none,0,0⟩,⟨none,0,0⟩,⟨none,0,0⟩⟩:bL)) (by kernel_rfl) (aF (aA l6 (have hs:=hs.drew;aB nu hs.p7.hb rfl (aF (aA we (aB bN hs.p7.hb rfl (aI (x:=(⟨⟨none,0,0⟩,⟨none,0,0⟩,⟨none,0,0⟩,⟨none,0,0⟩,⟨none,0,0⟩,⟨none,0,0⟩⟩:bL)) hs.p9 gF rfl rfl (λ w46 hs=>?_))))))));refine ⟨aG nu (hs.p8.hb.cell rfl),?_⟩;refine ⟨aG bN (hs.p8.hb.cell rfl),?_⟩;refine aD gF hs.At ?_;have hs:=hs.gH (Φ:=(λ w=>cA.dr w (⟨⟨none,0,0⟩,⟨none,0,0⟩,⟨none,0,0⟩,⟨none,0,0⟩,⟨none,0,0⟩,⟨none,0,0⟩⟩:bL) (⟨[],[],[],[],[],[]⟩:cW))) (λ w=>⟨_,_,_,_,_,_,rfl,DL.nil _,DL.nil _,DL.nil _,DL.nil _,DL.nil _,DL.nil _⟩)
          have hs:=(((((((((hs.p1.drop.p1.drop.p1.drop.p1.drop.p1).drop).p1).drop).p1).drop).p1).drop).p1).drop;have hs:=(hs.p1).drop;rw [hp.bad Pa];exact ⟨_,rfl,hs.fresh⟩
         ·refine aD gF hs.p6.At (aI (x:=(⟨v0,v1,v2,v3,v4,v5⟩:bL)) hs.p9 gF rfl rfl (λ w47 hs=>aD gF hs.At ?_));have hs:=hs.p2.jO.p3.freeze.p1.fP.p3.freeze.p1.fP.p3.jO.p1.fP.p3.jO.p1.fP;have hs:=hs.p2.jO.p1.fP.dO (Ψ:=(λ w=>cA.dr w (⟨v0,v1,v2,v3,v4,v5⟩:bL) (⟨y1,y2.flatten,y3.flatten,y4,y5,y6⟩:cW))) (λ w h=>⟨_,_,_,_,_,_,rfl,h.1.1.1.1.1,DL.fu h.1.1.1.1.2,DL.fu h.1.1.1.2,h.1.1.2,h.1.2,h.2⟩);have hs:=((((hs.p1.drop.p1.drop).p1).drop).p1).drop;rw [hp.azw Pa];exact ⟨_,rfl,hs.fresh⟩
theorem C48 (s:ByteArray) (R:cW × Int × Int) (w:World) (YY:s.size≤1000000) (hr:rV s=some R) (hTk:∀ l e a,uI s=some (l,e,a)→iz l) (hz:PZ R.1):CR 48 [.string s] w (λ v w'=>∃ uv:dL,v=Flat.val uv∧lW (eB (λ w=>cA.dr w uv (if gK R.1=0 then eu R.1 else EL))) w w'):=by
 have hs:=St.start w;refine ahX _ _ _ ?_;unfold S48;refine aJ hs uW (λ ma w1 hs=>have hs:=hs.enc (cs':=Flat.enc (⟨⟨none,0,0⟩,0,⟨none,0,0⟩,0,⟨none,0,0⟩,(⟨0,0,⟨none,0,0⟩⟩:cL),⟨none,0,0⟩⟩:dL)) rfl;ed anv (C109 s R _ YY hr hTk) ?_);rintro _ w2 ⟨Ym,rfl,bV⟩;have hs:=hs.made bV;refine bE rfl (bE rfl (bE rfl (aJ hs uU (λ ya w3 hs=>have hs:=hs.enc (cs':=Flat.enc (⟨⟨none,0,0⟩,⟨none,0,0⟩,⟨none,0,0⟩,⟨none,0,0⟩,⟨none,0,0⟩,⟨none,0,0⟩⟩:bL)) rfl;aI (x:=Ym) hs gF rfl rfl (λ w4 hs=>aD gF hs.At (ed ahG (C12 R.1 Ym _ (hs.p1).eB hz) ?_))))));rintro _ w5 ⟨Yn,rfl,bV⟩
 have hs:=hs.made bV;refine bE rfl (bE rfl (aJ hs uW (λ ax0 w6 hs=>have hs:=hs.enc (cs':=Flat.enc (⟨⟨none,0,0⟩,0,⟨none,0,0⟩,0,⟨none,0,0⟩,(⟨0,0,⟨none,0,0⟩⟩:cL),⟨none,0,0⟩⟩:dL)) rfl;aI (x:=Yn) hs r8 rfl rfl (λ w7 hs=>aD r8 hs.At (aI (x:=Yn) hs.p4 r8 rfl rfl (λ w8 hs=>aD r8 hs.At ?_))))));have hs:=((((((hs.drop)).drop).p1).drop).p1).drop;exact ⟨_,rfl,hs.fresh⟩
structure lU (c:fq) (cells lines locks:Int):Prop where
 rb:0≤c.aN∧c.aN≤4
 cb:0≤c.counts∧c.counts≤12
 fld:∀ (i:Nat) (x:aW),c.l[i]? = some x→vm x c cells lines locks=true
 to:∀ (i:Nat) (x:aW),c.l[i]? = some x→I1 c.l i x=true
theorem Mv {c:fq} {cells lines locks:Int} (h:ly c cells lines locks=true):lU c cells lines locks:=by
 unfold ly at h
 simp only [Bool.and_eq_true,Bool.not_eq_true'] at h
 obtain ⟨⟨h1,h2⟩,h3⟩:=h
 unfold vp at h1
 simp only [Bool.or_eq_false_iff,decide_eq_false_iff_not] at h1
 have hi:∀ (i:Nat) (x:aW),c.l[i]? = some x→vm x c cells lines locks=true∧I1 c.l i x=true:=by
  intro i x hx
  have h4:=Ha h2 i (List.getElem?_eq_some_iff.1 hx).1
  rw [ux hx] at h4
  simpa using h4
 exact ⟨by omega,by omega,λ i x hx=>(hi i x hx).1,λ i x hx=>(hi i x hx).2⟩
structure FA (u:ir):Prop where
 ll:u.lines.length≤20
 st:0≤u.stays∧u.stays≤u.lines.length
 fl:u.dF.length=u.lines.length
 lk:0≤u.locks∧u.locks≤2
 tl:1≤u.threads.length∧u.threads.length≤3
 ln:∀ i,i<u.lines.length→kf u i=false
 fr:∀ n∈u.dF,0≤n∧n≤4294967296
 th:∀ c∈u.threads,lU c u.lines.length (gq u) u.locks
 cl:∀ l∈u.cC,eN l u.stays=true
 rc:lU u.recover u.lines.length (gq u) u.locks
theorem qd {u:ir} (h:nA u=true):FA u:=by
 unfold nA at h
 simp only [Bool.and_eq_true,Bool.not_eq_true'] at h
 obtain ⟨h1,⟨⟨⟨⟨h2,h3⟩,h4⟩,h5⟩,h6⟩⟩:=h
 unfold kW at h1
 simp only [Bool.or_eq_false_iff,decide_eq_false_iff_not] at h1
 rw [List.any_eq_false] at h2 h4 h5
 refine ⟨by omega,by omega,by omega,by omega,by omega,λ i hi=>Ha h3 i hi,λ n hn=>?_,λ c hc=>?_,λ l hl=>?_,Mv h6⟩
 ·have:=h2 n hn
  unfold lB at this
  simp at this; omega
 ·have:=h4 c hc
  exact Mv (by simpa using this)
 ·have:=h5 l hl
  simpa using this
theorem RF {n k:Int} (h:LH n k=true):0≤n∧n<k:=by unfold LH at h; simpa using h
section
variable {c:fq} {cells lines locks:Int} {i:Nat} {x:aW}
theorem lU.kd (h:lU c cells lines locks) (hx:c.l[i]? = some x):1≤x.kind∧x.kind≤15:=by
 have:=h.fld i x hx; unfold vm at this; simp only [Bool.and_eq_true,decide_eq_true_eq] at this; exact ⟨this.2.1.1.1,this.2.1.1.2⟩
theorem lU.a (h:lU c cells lines locks) (hx:c.l[i]? = some x):aM x c.aN c.counts=true:=by
 have:=h.fld i x hx; unfold vm at this; simp only [Bool.and_eq_true,decide_eq_true_eq] at this; exact this.2.1.2
theorem lU.b (h:lU c cells lines locks) (hx:c.l[i]? = some x):bM x cells lines locks=true:=by
 have:=h.fld i x hx; unfold vm at this; simp only [Bool.and_eq_true,decide_eq_true_eq] at this; exact this.2.2
theorem lU.a13 (h:lU c cells lines locks) (hx:c.l[i]? = some x) (hk:x.kind=13∨x.kind=14):0≤x.a∧x.a<c.counts:=by
 have:=h.a hx; unfold aM at this; rw [if_pos hk] at this; exact RF this
theorem lU.a1 (h:lU c cells lines locks) (hx:c.l[i]? = some x) (hk:x.kind=1∨x.kind=2∨x.kind=4):0≤x.a∧x.a<c.aN:=by
 have:=h.a hx; unfold aM at this; rw [if_neg (by omega),if_pos hk] at this; exact RF this
theorem lU.b2 (h:lU c cells lines locks) (hx:c.l[i]? = some x) (hk:x.kind=2∨x.kind=3∨x.kind=4):0≤x.b∧x.b<cells:=by
 have:=h.b hx; unfold bM at this; rw [if_pos hk] at this; exact RF this
theorem lU.b9 (h:lU c cells lines locks) (hx:c.l[i]? = some x) (hk:x.kind=9∨x.kind=10):0≤x.b∧x.b<locks:=by
 have:=h.b hx; unfold bM at this; rw [if_neg (by omega),if_neg (by omega),if_pos hk] at this; exact RF this
theorem lU.tob (h:lU c cells lines locks) (hx:c.l[i]? = some x):0≤x.to∧x.to≤c.l.length:=by
 have h1:=h.to i x hx
 have hi:=(List.getElem?_eq_some_iff.1 hx).1
 by_cases hk:x.kind=14
 ·have:=WC hk h1; omega
 ·unfold I1 at h1
  split at h1
  ·simp at h1; omega
  ·simp at h1; omega
theorem po {α:Type} {l:List α} {x:α} (h:x∈l):∃ i:Nat,l[i]? = some x:=List.mem_iff_getElem?.1 h
theorem lU.ok (h:lU c cells lines locks) (hz:CZ c):BM c:=by
 have h1:=h.rb; have h2:=h.cb; have h3:=hz.l
 refine ⟨by omega,by omega,by omega,λ x hx=>?_,λ x hx hk=>?_,λ x hx hk=>?_⟩
 ·obtain ⟨i,hi⟩:=po hx
  have:=h.tob hi
  have h4:=hz.ef x hx
  exact ⟨h4.1,h4.2,by omega,by omega⟩
 ·obtain ⟨i,hi⟩:=po hx; exact h.a1 hi (.inl hk)
 ·obtain ⟨i,hi⟩:=po hx; exact h.a13 hi hk
end
def Vis (t:fF):Prop:=∀ x,gO t=some x→t.fault=0→2≤x.kind∧x.kind≤10
theorem Yo {t:fF} {x:aW} {e:Int}:(wR t x e).1.code=t.code∧(wR t x e).1.buf=t.buf:=by
 unfold wR; repeat' split
 all_goals exact ⟨rfl,rfl⟩
theorem qe (t:fF):(fL t).1.code=t.code∧(fL t).1.buf=t.buf:=by
 unfold fL
 cases hn:gO t with
 | none=>exact ⟨rfl,rfl⟩
 | some x=>
  dsimp only
  split
  ·split
   ·exact Yo
   ·exact ⟨rfl,rfl⟩
  ·exact ⟨rfl,rfl⟩
theorem AZ:∀ {n:Nat} {t t':fF},sd n t=some t'→t'.code=t.code∧t'.buf=t.buf
 | 0,_,_,h=>by cases h
 | n+1,t,t',h=>by
  have hc:=qe t
  unfold sd at h
  split at h
  ·have:=AZ h; exact ⟨this.1.trans hc.1,this.2.trans hc.2⟩
  ·cases h; exact hc
theorem Jv:∀ {n:Nat} {t t':fF},Ho t→sd n t=some t'→Ho t'
 | 0,_,_,_,h=>by cases h
 | n+1,t,t',h0,h=>by
  unfold sd at h
  split at h
  ·exact Jv (lE h0) h
  ·cases h; exact lE h0
theorem FB:∀ {n k:Nat} {t t':fF},sd n t=some t'→sd (n+k) t=some t'
 | 0,_,_,_,h=>by cases h
 | n+1,k,t,t',h=>by
  rw [show n+1+k=(n+k)+1 from by omega]
  unfold sd at h ⊢
  split at h
  ·rename_i hs; rw [if_pos hs]; exact FB h
  ·rename_i hs; rw [if_neg hs]; exact h
theorem Pb {t:fF} (hk:∀ x∈t.code.l,1≤x.kind∧x.kind≤15) (h:(fL t).2=false):Vis (fL t).1:=by
 intro x hx hf
 cases hn:gO t with
 | none=>rw [AJ hn] at hx; rw [hx] at hn; cases hn
 | some y=>
  have hy:=hk y (qS hn).1
  cases he:(eD y.e t.aN).2 with
  | false=>rw [AK hn he] at hf; simp [tE,he] at hf
  | true=>
   cases Ug:(eD y.f t.aN).2 with
   | false=>rw [AL hn he Ug] at hf; simp [tF,tE,Ug] at hf
   | true=>
    rw [kF hn he Ug] at h hx hf
    unfold wR at h hx hf
    have e:∀ z,gO (tF (tE t y) y)=some z→z=y:=by
     intro z hz
     have:gO (tF (tE t y) y)=gO t:=rfl
     rw [this,hn] at hz; exact (Option.some.inj hz).symm
    split at h
    ·cases h
    ·split at h
     ·cases h
     ·split at h
      ·split at h <;> cases h
      ·split at h
       ·cases h
       ·split at h
        ·split at h <;> cases h
        ·split at h
         ·rename_i h1 h2 h3 h4 h5 h6
          rw [if_neg h1,if_neg h2,if_neg h3,if_neg h4,if_neg h5,if_pos h6] at hf
          split at hf
          ·cases hf
          ·rename_i h7; rw [if_neg h7] at h; cases h
         ·rename_i h1 h2 h3 h4 h5 h6
          rw [if_neg h1,if_neg h2,if_neg h3,if_neg h4,if_neg h5,if_neg h6] at hx
          have:=e x hx; subst this
          omega
theorem Df:∀ {n:Nat} {t t':fF},(∀ x∈t.code.l,1≤x.kind∧x.kind≤15)→sd n t=some t'→Vis t'
 | 0,_,_,_,h=>by cases h
 | n+1,t,t',hk,h=>by
  unfold sd at h
  split at h
  ·exact Df (by rw [(qe t).1]; exact hk) h
  ·rename_i hs; cases h; exact Pb hk (by simpa using hs)
theorem Co {l:List Int} {k:Nat} (hk:0<k) (h:k≤l.length):kY (l.take k)=l.getD (k - 1) 0+1:=by
 unfold kY
 rw [List.length_take,Nat.min_eq_left h,if_neg (by omega),List.getD_eq_getElem?_getD,List.getD_eq_getElem?_getD,List.getElem?_take,if_pos (by omega)]
theorem Dg {u:ir} (h:FA u) {k:Nat} {n:Int} (hk:(k:Int)<u.stays) (hn:u.lines[k]? = some n):(n=lz u.lines k∨(0<k∧n=lz u.lines k - 1))∧-1≤n∧n≤k:=by
 have mF:=(List.getElem?_eq_some_iff.1 hn).1
 have hb:=EX (u:=u) (k:=u.lines.length) (λ j hj=>h.ln j hj) k n mF hn
 have h1:=h.ln k mF
 unfold kf at h1
 rw [hn] at h1
 simp only [Bool.and_eq_false_iff,Bool.or_eq_false_iff,decide_eq_false_iff_not,Decidable.not_not] at h1
 refine ⟨?_,hb⟩
 rcases h1 with h1 | h1
 ·exact .inl h1
 ·exact .inr ⟨by omega,h1.2⟩
theorem Jw {u:ir} (h:FA u):∀ (k:Nat) (n:Int),(k:Int)<u.stays→u.lines[k]? = some n→0≤n∧∀ j m,j≤k→u.lines[j]? = some m→m≤n
 | 0,n,hk,hn=>by
  have h1:=(Dg h hk hn).1
  have e:lz u.lines 0=0:=rfl
  rw [e] at h1
  refine ⟨by omega,λ j m hj hm=>?_⟩
  obtain rfl:j=0:=by omega
  rw [hn] at hm; cases hm; exact Int.le_refl _
 | k+1,n,hk,hn=>by
  have mF:=(List.getElem?_eq_some_iff.1 hn).1
  obtain ⟨q,hq⟩:∃ q,u.lines[k]? = some q:=⟨_,List.getElem?_eq_getElem (by omega)⟩
  have ih:=Jw h k q (by omega) hq
  have h1:=(Dg h hk hn).1
  have e:lz u.lines (k+1)=q+1:=by unfold lz; rw [if_neg (by omega),Nat.add_sub_cancel,List.getD_eq_getElem?_getD,hq]; rfl
  rw [e] at h1
  refine ⟨by omega,λ j m hj hm=>?_⟩
  by_cases hjk:j=k+1
  ·subst hjk; rw [hn] at hm; cases hm; exact Int.le_refl _
  ·have:=ih.2 j m (by omega) hm; omega
theorem aev {u:ir} (h:FA u):xD (Xm u.lines u.stays u.dF):=by
 have h1:=h.st; have h2:=h.fl; have h3:=h.ll
 have hl:(u.lines.take u.stays.toNat).length=u.stays.toNat:=by rw [List.length_take]; omega
 refine ⟨?_,?_,rfl,?_,λ n hn=>?_,?_,λ k x hx=>by cases hx⟩
 ·show (u.lines.take u.stays.toNat).length≤u.dF.length; omega
 ·show u.dF.length≤20; omega
 ·show (u.dF.take u.stays.toNat).length=(u.lines.take u.stays.toNat).length; rw [hl,List.length_take]; omega
 ·obtain ⟨i,hi⟩:=po (show n∈u.lines.take u.stays.toNat from hn)
  have mF:=(List.getElem?_eq_some_iff.1 hi).1
  rw [hl] at mF
  rw [List.getElem?_take,if_pos mF] at hi
  obtain ⟨q,hq⟩:∃ q,u.lines[u.stays.toNat - 1]? = some q:=⟨_,List.getElem?_eq_getElem (by omega)⟩
  have h4:=Jw h (u.stays.toNat - 1) q (by omega) hq
  have h5:=(Jw h i n (by omega) hi).1
  have h6:=h4.2 i n (by omega) hi
  show 0≤n∧n<kY (u.lines.take u.stays.toNat)
  rw [Co (by omega) (by omega),List.getD_eq_getElem?_getD,hq]
  exact ⟨h5,by show n<q+1; omega⟩
 ·show kY (u.lines.take u.stays.toNat)≤20
  by_cases h0:u.stays.toNat=0
  ·rw [h0,List.take_zero]; decide
  ·obtain ⟨q,hq⟩:∃ q,u.lines[u.stays.toNat - 1]? = some q:=⟨_,List.getElem?_eq_getElem (by omega)⟩
   have:=(Dg h (by omega) hq).2
   rw [Co (by omega) (by omega),List.getD_eq_getElem?_getD,hq]
   show q+1≤20
   omega
theorem RG {f:Int→List jq} {a k:Int} {xs:List jq} {x:jq} (h:x∈tx f a xs k):x∈xs∨x∈f k:=by
 unfold tx at h; split at h; exact .inl h; exact .inr h
theorem HH {m:Mem} {c n:Int} (h:xD m):xD (iO m c n):=by
 unfold iO
 split
 ·rename_i vB
  unfold Ou at vB; rw [decide_eq_true_eq] at vB
  refine ⟨h.Q1,h.fl,by show (m.l.set _ _).length=_; rw [List.length_set]; exact h.ll,h.kl,h.ofr,h.lb,λ k x hx=>?_⟩
  dsimp only at hx
  split at hx
  ·rename_i hc
   rcases RG hx with h1 | h1
   ·rw [List.mem_append] at h1
    rcases h1 with h1 | h1
    ·exact h.pc _ x h1
    ·simp at h1; subst h1; exact ⟨vB.1,hc⟩
   ·exact h.pc _ x h1
  ·exact h.pc _ x hx
 ·exact h
theorem aew {m:Mem} {c:Int} (h:xD m):xD (vQ m c):=by
 unfold vQ
 split
 ·refine ⟨h.Q1,h.fl,h.ll,by show (yf _ _).length=_; rw [AE]; exact h.kl,h.ofr,h.lb,λ k x hx=>?_⟩
  rcases RG hx with h1 | h1
  ·cases h1
  ·exact h.pc _ x h1
 ·exact h
theorem Tj {m:Mem} {cut oK:List Int} (h:jK m cut=some oK):oK.length=m.kept.length:=by
 unfold jK at h; split at h
 ·cases h; exact uD _ _ _
 ·cases h
theorem Tl {m:Mem} {cut oK:List Int} (h:xD m) (hi:jK m cut=some oK):xD (ze m oK):=by
 have h1:=Tj hi
 have h2:=h.kl; have h3:=h.Q1
 refine ⟨h.Q1,h.fl,?_,?_,h.ofr,h.lb,λ k x hx=>by cases hx⟩
 ·show (oK++m.dF.drop oK.length).length=m.dF.length
  rw [List.length_append,List.length_drop]; omega
 ·show oK.length=m.of.length; omega
structure GM (m:gr):Prop where
 ru:FA m.u
 uz:UZ m.u
 mem:xD m.mem
 of:m.mem.of=m.u.lines.take m.u.stays.toNat
 dF:m.mem.dF=m.u.dF
 th:∀ t∈m.l,Ho t∧Vis t∧(t.code∈m.u.threads∨t.code=m.u.recover)
 tl:m.l.length≤3
 lk:(m.locks.length:Int)=m.u.locks
 rm:1≤m.room∧m.room≤16
 cr:0≤m.ew
section
variable {m:gr} {t:fF}
theorem GM.code (h:GM m) (ht:t∈m.l):lU t.code m.u.lines.length (gq m.u) m.u.locks:=by
 rcases (h.th t ht).2.2 with h1 | h1
 ·exact h.ru.th _ h1
 ·rw [h1]; exact h.ru.rc
theorem GM.ok (h:GM m):qG m:=by
 have Nk:=h.tl
 refine ⟨h.mem,λ t ht=>(h.th t ht).1,by omega,h.lk,λ t ht x hx hk=>?_,λ t ht x hx hk=>?_,λ t ht x hx hk=>?_,h.rm,λ t ht=>(h.th t ht).2.1,λ n hn=>?_⟩
 ·obtain ⟨i,hi⟩:=po hx; exact (h.code ht).b9 hi hk
 ·obtain ⟨i,hi⟩:=po hx; exact (h.code ht).b2 hi (.inr (.inl hk))
 ·obtain ⟨i,hi⟩:=po hx
  exact (h.code ht).a1 hi (by omega)
 ·obtain ⟨i,hi⟩:=po hn
  have mF:=(List.getElem?_eq_some_iff.1 hi).1
  have:=EX (u:=m.u) (k:=m.u.lines.length) (λ j hj=>h.ru.ln j hj) i n mF hi
  have:=h.ru.ll
  omega
theorem Tm {mm:Mem} {x:bJ} (h:xD mm):xD (ic mm x)∧(ic mm x).of=mm.of∧(ic mm x).dF=mm.dF:=by
 unfold ic
 split
 ·exact ⟨HH h,BQ _ _ _,tG _ _ _⟩
 ·split
  ·exact ⟨h,rfl,rfl⟩
  ·exact ⟨aew h,Q8 _ _,Cj _ _⟩
theorem Yp {i:Int} {x:aW} (h:xD m.mem):xD (dV m t i x).1.mem∧(dV m t i x).1.mem.of=m.mem.of∧(dV m t i x).1.mem.dF=m.mem.dF:=by
 unfold dV BP yC uG
 repeat' split
 all_goals first
  | exact ⟨h,rfl,rfl⟩
  | exact ⟨HH h,BQ _ _ _,tG _ _ _⟩
theorem RH {i:Int} {x:aW}:(dV m t i x).1.locks.length=m.locks.length∧(dV m t i x).1.ew=m.ew:=by
 unfold dV BP yC uG
 repeat' split
 all_goals first
  | exact ⟨rfl,rfl⟩
  | exact ⟨List.length_set ..,rfl⟩
theorem Tn {l:List bJ} {i:Int}:(mq l i).length≤l.length:=by
 unfold mq; split
 ·exact List.length_eraseIdx_le ..
 ·exact Nat.le_refl _
theorem GM.out {q:ej} (h:GM m) (ht:m.l[q.t.toNat]? = some t):GM (mw m t q):=by
 have hm:=Tm (x:=eh t.buf q.i) h.mem
 have CE:=List.mem_of_getElem? ht
 refine ⟨h.ru,h.uz,hm.1,hm.2.1.trans h.of,hm.2.2.trans h.dF,λ t' Yq=>?_,by show (m.l.set _ _).length≤3; rw [List.length_set]; exact h.tl,h.lk,h.rm,h.cr⟩
 rcases List.mem_or_eq_of_mem_set (show t'∈m.l.set _ _ from Yq) with h1 | h1
 ·exact h.th t' h1
 ·subst h1
  obtain ⟨h2,h3,h4⟩:=h.th t CE
  have:=Tn (l:=t.buf) (i:=q.i)
  have hb:=h2.bl
  exact ⟨⟨h2.code,h2.rg,h2.cn,h2.TS,by show (mq t.buf q.i).length≤1000; omega⟩,h3,h4⟩
theorem lU.kds {c:fq} {a b d:Int} (h:lU c a b d):∀ x∈c.l,1≤x.kind∧x.kind≤15:=λ x hx=>by
 obtain ⟨i,hi⟩:=po hx; exact h.kd hi
theorem GM.step {N:Nat} {i:Int} {m':gr} {ev:cQ} (h:GM m) (hs:mL N m i=some (m',ev)):GM m':=by
 cases ht:m.l[i.toNat]? with
 | none=>unfold mL at hs; rw [ht] at hs; cases hs
 | some t=>
  have CE:=List.mem_of_getElem? ht
  have htt:=h.th t CE
  by_cases hf:t.fault≠0
  ·rw [(xF hs ht hf).1]
   exact ⟨h.ru,h.uz,h.mem,h.of,h.dF,h.th,h.tl,h.lk,h.rm,h.cr⟩
  ·obtain ⟨x,hn⟩:=xG hs ht hf
   have hm:=Yp (m:=m) (t:=t) (i:=i) (x:=x) h.mem
   have MM:=RH (m:=m) (t:=t) (i:=i) (x:=x)
   have nP:=Q9 (m:=m) (i:=i) (x:=x) htt.1 h.rm.2
   have key:∀ t2:fF,Ho t2→Vis t2→t2.code=t.code→GM { (dV m t i x).1 with l:=(dV m t i x).1.l.set i.toNat t2}:=by
    intro t2 h1 h2 h3
    have hu:=OE (m:=m) (t:=t) (i:=i) (x:=x)
    refine ⟨by rw [hu]; exact h.ru,by rw [hu]; exact h.uz,hm.1,by rw [hu]; exact hm.2.1.trans h.of,by rw [hu]; exact hm.2.2.trans h.dF,λ t' Yq=>?_,?_,?_,?_,?_⟩
    ·rw [BR] at Yq
     rw [hu]
     rcases List.mem_or_eq_of_mem_set (show t'∈m.l.set _ _ from Yq) with h4 | h4
     ·exact h.th t' h4
     ·subst h4; exact ⟨h1,h2,by rw [h3]; exact htt.2.2⟩
    ·show ((dV m t i x).1.l.set _ _).length≤3
     rw [List.length_set,BR]; exact h.tl
    ·show ((dV m t i x).1.locks.length:Int)=(dV m t i x).1.u.locks
     rw [MM.1,hu]; exact h.lk
    ·show 1≤(dV m t i x).1.room∧(dV m t i x).1.room≤16
     rw [xE]; exact h.rm
    ·show 0≤(dV m t i x).1.ew
     rw [MM.2]; exact h.cr
   by_cases h0:(dV m t i x).1.fault=0
   ·obtain ⟨t2,hg,MN,_⟩:=xH hs ht hf hn h0
    rw [MN]
    have hc:=AZ hg
    have hcc:t2.code=t.code:=hc.1.trans (qU (m:=m) (t:=t) (i:=i) (x:=x))
    refine key t2 (Jv ?_ hg) (Df (t:={ (dV m t i x).2.1 with at_:=(dV m t i x).2.1.at_+1}) ?_ hg) hcc
    ·exact ⟨nP.code,nP.rg,nP.cn,by show 0≤(dV m t i x).2.1.at_+1; have:=nP.TS; omega,nP.bl⟩
    ·show ∀ x'∈(dV m t i x).2.1.code.l,_
     rw [qU]; exact (h.code CE).kds
   ·obtain ⟨MN,_⟩:=xI hs ht hf hn h0
    rw [MN]
    refine key _ nP ?_ (qU (m:=m) (t:=t) (i:=i) (x:=x))
    intro y hy hfy
    have e:gO (dV m t i x).2.1=gO t:=by unfold gO; rw [qU,C7]
    rw [e] at hy
    exact htt.2.1 y hy (by omega)
theorem GM.RI {q:ej} {oK:List Int} {N:Nat} (h:GM m) (hi:iy m q=some oK) (hg:sd N (qb m.u.recover)=some t):GM (lJ (wV m oK) [t]):=by
 have hi2:jK m.mem q.cut=some oK:=by unfold iy at hi; split at hi; exact hi; cases hi
 have hr:=h.ru.rc
 have MM:=h.ru.lk
 refine ⟨h.ru,h.uz,Tl h.mem hi2,h.of,h.dF,λ t' Yq=>?_,by show [t].length≤3; simp,?_,h.rm,by show 0≤m.ew+1; have:=h.cr; omega⟩
 ·obtain rfl:t'=t:=by simpa using (show t'∈[t] from Yq)
  exact ⟨Jv (Jh (hr.ok h.uz.rc)) hg,Df (t:=qb m.u.recover) hr.kds hg,.inr (AZ hg).1⟩
 ·show ((List.replicate m.u.locks.toNat (-1:Int)).length:Int)=m.u.locks
  rw [List.length_replicate]; omega
theorem GM.do {N:Nat} {q:ej} {m2:gr} {ev:cQ} {e:Int} (h:GM m) (hd:Ck N m q=some (m2,ev,e)):GM m2:=by
 cases hc:iy m q with
 | some oK=>obtain ⟨t,hg,hm,_⟩:=qV hd hc; rw [hm]; exact h.RI hc hg
 | none=>
  by_cases ha:(cJ m).any (jE q)=true
  ·by_cases hk:q.kind=2
   ·obtain ⟨_,t,ht⟩:=qn ha
    rw [(pC hd hc ha hk ht).1]; exact h.out ht
   ·exact h.step (nh hd hc ha hk).1
  ·rw [(pB hd hc ha).1]; exact h
end
theorem GM.new {N:Nat} {u:ir} {room:Int} {mP:List fF} (hu:FA u) (hz:UZ u) (hb:rR N u.threads mP) (hr:1≤room∧room≤16):GM (lJ (lS u room) mP):=by
 have h1:=hu.tl; have h2:=hu.lk
 refine ⟨hu,hz,aev hu,rfl,rfl,λ t ht=>?_,by show mP.length≤3; rw [hb.1]; exact h1.2,?_,hr,Int.le_refl _⟩
 ·obtain ⟨i,hi⟩:=po (show t∈mP from ht)
  have mF:=(List.getElem?_eq_some_iff.1 hi).1
  obtain ⟨c,hc⟩:∃ c,u.threads[i]? = some c:=⟨_,List.getElem?_eq_getElem (by rw [← hb.1]; exact mF)⟩
  have hg:=hb.2 i c t hc hi
  have MR:=List.mem_of_getElem? hc
  have hcu:=hu.th c MR
  exact ⟨Jv (Jh (hcu.ok (hz.th c MR))) hg,Df (t:=qb c) hcu.kds hg,.inl (by rw [(AZ hg).1]; exact MR)⟩
 ·show ((List.replicate u.locks.toNat (-1:Int)).length:Int)=u.locks
  rw [List.length_replicate]; omega
theorem FC {N:Nat} {u:ir} {mP:List fF} (hu:FA u) (hz:UZ u) (hb:rR N u.threads mP):Ra N u mP:=by
 have h1:=hu.lk; have h2:=hu.st; have h3:=hu.ll
 refine ⟨hb,λ c hc=>(hu.th c hc).ok (hz.th c hc),hu.fl.symm,hu.ll,hu.st,λ k n hk hn=>?_,by omega⟩
 have h4:=Dg hu hk hn
 have mF:=(List.getElem?_eq_some_iff.1 hn).1
 exact ⟨h4.1,by omega,by omega⟩
theorem MB.mono {mm:Mem} {a b:Nat} (h:MB mm a) (hab:a≤b):MB mm b:=λ k=>Nat.le_trans (h k) hab
theorem MB.write {mm:Mem} {c x:Int} {n:Nat} (h:MB mm n):MB (iO mm c x) (n+1):=by
 intro k
 unfold iO
 split
 ·dsimp only
  split
  ·unfold tx
   split
   ·rw [List.length_append,List.length_singleton]; have:=h (mm.of.getD c.toNat 0); omega
   ·have:=h k; omega
  ·have:=h k; omega
 ·have:=h k; omega
theorem MB.out {mm:Mem} {c:Int} {n:Nat} (h:MB mm n):MB (vQ mm c) n:=by
 intro k
 unfold vQ
 split
 ·dsimp only
  unfold tx
  split
  ·simp
  ·exact h k
 ·exact h k
theorem MB.ic {mm:Mem} {x:bJ} {n:Nat} (h:MB mm n):MB (ic mm x) (n+1):=by
 unfold Go.Proofs.YtnjcingfdhjfkaaGreat.ic
 split
 ·exact h.write
 ·split
  ·exact h.mono (Nat.le_succ n)
  ·exact h.out.mono (Nat.le_succ n)
theorem MB.act {m:gr} {t:fF} {i:Int} {x:aW} {n:Nat} (h:MB m.mem n):MB (dV m t i x).1.mem (n+1):=by
 unfold dV BP yC uG
 repeat' split
 all_goals first
  | exact h.mono (Nat.le_succ n)
  | exact h.write
theorem MB.step {N n:Nat} {m m':gr} {i:Int} {ev:cQ} (h:MB m.mem n) (hs:mL N m i=some (m',ev)):MB m'.mem (n+1):=by
 cases ht:m.l[i.toNat]? with
 | none=>unfold mL at hs; rw [ht] at hs; cases hs
 | some t=>
  by_cases hf:t.fault≠0
  ·rw [(xF hs ht hf).1]; exact h.mono (Nat.le_succ n)
  ·obtain ⟨x,hn⟩:=xG hs ht hf
   by_cases h0:(dV m t i x).1.fault=0
   ·obtain ⟨t2,_,MN,_⟩:=xH hs ht hf hn h0
    rw [MN]; exact h.act
   ·rw [(xI hs ht hf hn h0).1]; exact h.act
theorem MB.do {N n:Nat} {m m2:gr} {q:ej} {ev:cQ} {e:Int} (h:MB m.mem n) (hd:Ck N m q=some (m2,ev,e)):MB m2.mem (n+1):=by
 cases hc:iy m q with
 | some oK=>obtain ⟨t,_,hm,_⟩:=qV hd hc; rw [hm]; intro k; exact Nat.zero_le _
 | none=>
  by_cases ha:(cJ m).any (jE q)=true
  ·by_cases hk:q.kind=2
   ·obtain ⟨_,t,ht⟩:=qn ha
    rw [(pC hd hc ha hk ht).1]; exact h.ic
   ·exact h.step (nh hd hc ha hk).1
  ·rw [(pB hd hc ha).1]; exact h.mono (Nat.le_succ n)
theorem MB.new {u:ir} {room:Int} {mP:List fF}:MB (lJ (lS u room) mP).mem 0:=λ _=>Nat.le_refl _
theorem FD {N:Nat} {m m2:gr} {q:ej} {ev:cQ} {e:Int} (hd:Ck N m q=some (m2,ev,e)):m2.ew≤m.ew+1∧m2.u=m.u∧m2.room=m.room:=by
 cases hc:iy m q with
 | some oK=>obtain ⟨t,_,hm,_⟩:=qV hd hc; rw [hm]; exact ⟨Int.le_refl _,rfl,rfl⟩
 | none=>
  by_cases ha:(cJ m).any (jE q)=true
  ·by_cases hk:q.kind=2
   ·obtain ⟨_,t,ht⟩:=qn ha
    rw [(pC hd hc ha hk ht).1]; exact ⟨by show m.ew≤_; omega,rfl,rfl⟩
   ·have hs:=(nh hd hc ha hk).1
    cases ht:m.l[q.t.toNat]? with
    | none=>unfold mL at hs; rw [ht] at hs; cases hs
    | some t=>
     by_cases hf:t.fault≠0
     ·rw [(xF hs ht hf).1]; exact ⟨by show m.ew≤_; omega,rfl,rfl⟩
     ·obtain ⟨x,hn⟩:=xG hs ht hf
      have JG:=(RH (m:=m) (t:=t) (i:=q.t) (x:=x)).2
      by_cases h0:(dV m t q.t x).1.fault=0
      ·obtain ⟨t2,_,MN,_⟩:=xH hs ht hf hn h0
       rw [MN]; exact ⟨by show (dV m t q.t x).1.ew≤_; omega,OE,xE⟩
      ·rw [(xI hs ht hf hn h0).1]; exact ⟨by show (dV m t q.t x).1.ew≤_; omega,OE,xE⟩
  ·rw [(pB hd hc ha).1]; exact ⟨by omega,rfl,rfl⟩
theorem alU {α:Type} {g:α→Bool} {l:List α} (h:0≤va g l):va g l<l.length:=by
 unfold va at h ⊢
 cases hf:l.findIdx? g with
 | none=>rw [hf] at h; simp at h
 | some k=>
  have:=(List.findIdx?_eq_some_iff_getElem.1 hf).1
  simp; exact this
theorem A0 {ns:List ByteArray} {s:ByteArray} (h:0≤dQ ns s):dQ ns s<ns.length:=alU h
theorem Mw {s:ByteArray} (h:j4 s=true):s≠⟨#[]⟩:=by
 rintro rfl
 exact absurd h (by decide)
theorem Ex.asF (ns:List ByteArray) (t:Ex):t.wf→∀ n h:Int,0≤n→∃ h',(t.steps ns).foldl KS (some (n,h))=some (n+1,h'):=by
 induction t with
 | leaf x=>
  intro hw n h hn
  have NF:kids x.op=0:=hw
  have hw1:fK x.op=0:=by
   unfold kids at NF
   unfold fK
   split at NF <;> (try split at NF) <;> (try split at NF) <;> repeat' split
   all_goals omega
  refine ⟨max h (n+1),(show KS (some (n,h)) ⟨x.op,Ex.numOf ns x⟩=some (n+1,max h (n+1)) from ?_)⟩
  unfold KS; dsimp only; rw [hw1,if_neg (by omega),Int.sub_zero]
 | un x a ih=>
  intro hw n h hn
  have NF:kids x.op=1:=hw.1
  have hw1:fK x.op=1:=by
   unfold kids at NF
   unfold fK
   split at NF <;> (try split at NF) <;> (try split at NF) <;> repeat' split
   all_goals omega
  obtain ⟨h1,e1⟩:=ih hw.2 n h hn
  refine ⟨max h1 (n+1),?_⟩
  show List.foldl KS (some (n,h)) (a.steps ns++[(⟨x.op,numOf ns x⟩:nx)])=_
  rw [List.foldl_append,e1]
  show KS (some (n+1,h1)) ⟨x.op,numOf ns x⟩=_
  unfold KS; dsimp only; rw [hw1,if_neg (by omega),Int.add_sub_cancel]
 | bin x a b vO xY=>
  intro hw n h hn
  have NF:kids x.op=2:=hw.1
  have hw1:fK x.op=2:=by
   unfold kids at NF
   unfold fK
   split at NF <;> (try split at NF) <;> (try split at NF) <;> repeat' split
   all_goals omega
  obtain ⟨h1,e1⟩:=vO hw.2.1 n h hn
  obtain ⟨h2,e2⟩:=xY hw.2.2 (n+1) h1 (by omega)
  refine ⟨max h2 (n+1),?_⟩
  show List.foldl KS (some (n,h)) (a.steps ns++b.steps ns++[(⟨x.op,numOf ns x⟩:nx)])=_
  rw [List.foldl_append,List.foldl_append,e1,e2]
  show KS (some (n+1+1,h2)) ⟨x.op,numOf ns x⟩=_
  unfold KS; dsimp only; rw [hw1,if_neg (by omega),show n+1+1 - 2+1=n+1 from by omega]
theorem Jy {k:Int} (h:kids k=0∨kids k=1∨kids k=2):1≤k∧k≤15:=by
 unfold kids at h
 repeat' split at h
 all_goals omega
theorem Ex.To (ns:List ByteArray) (t:Ex):t.wf→∀ o∈t.steps ns,∃ x∈t.flat,o=⟨x.op,numOf ns x⟩∧1≤x.op∧x.op≤15:=by
 induction t with
 | leaf x=>intro hw o ho; exact ⟨x,by simp [Ex.flat],by simpa [Ex.steps] using ho,Jy (.inl hw)⟩
 | un x a ih=>
  intro hw o ho
  have ho:o∈a.steps ns++[⟨x.op,numOf ns x⟩]:=ho
  rw [List.mem_append] at ho
  rcases ho with ho | ho
  ·obtain ⟨y,h1,h2⟩:=ih hw.2 o ho; exact ⟨y,by simp [Ex.flat,h1],h2⟩
  ·exact ⟨x,by simp [Ex.flat],by simpa using ho,Jy (.inr (.inl hw.1))⟩
 | bin x a b vO xY=>
  intro hw o ho
  have ho:o∈a.steps ns++b.steps ns++[⟨x.op,numOf ns x⟩]:=ho
  rw [List.mem_append,List.mem_append] at ho
  rcases ho with (ho | ho) | ho
  ·obtain ⟨y,h1,h2⟩:=vO hw.2.1 o ho; exact ⟨y,by simp [Ex.flat,h1],h2⟩
  ·obtain ⟨y,h1,h2⟩:=xY hw.2.2 o ho; exact ⟨y,by simp [Ex.flat,h1],h2⟩
  ·exact ⟨x,by simp [Ex.flat],by simpa using ho,Jy (.inr (.inr hw.1))⟩
theorem xb {ns:List ByteArray} {l:List dC} {many:Int} (hr:jI l=true) (hv:vD l ns=false) (hm:many=ns.length):eN (gg ns l) many=true∧(gg ns l).length≤40:=by
 have hr0:=hr
 unfold jI at hr
 simp only [Bool.and_eq_true,Bool.not_eq_true',decide_eq_true_eq,List.any_eq_false] at hr
 obtain ⟨⟨⟨h1,h2⟩,h3⟩,h4⟩:=hr
 obtain ⟨t,ht0⟩:=Option.isSome_iff_exists.1 h2
 obtain ⟨hw,Cw⟩:=yS ht0
 have hv0:=hv
 unfold vD at hv
 have he:yu ns l=0:=by unfold yu; rw [if_neg (by rw [hr0]; decide),if_neg (by rw [hv]; decide)]
 have hl:gg ns l=t.steps ns:=by unfold gg; rw [if_pos he]; unfold NI; rw [ht0]
 rw [hl]
 have hlen:(t.steps ns).length≤40:=by rw [Ex.xt,← Ex.cR,← Cw]; exact h1
 obtain ⟨h',e'⟩:=t.asF ns hw 0 0 (Int.le_refl _)
 have e2:ht (t.steps ns)=some (1,h'):=by unfold ht; rw [e']; rfl
 refine ⟨?_,hlen⟩
 unfold eN htN
 rw [e2]
 simp only [Option.isSome_some,decide_true,Bool.and_true,Bool.and_eq_true,decide_eq_true_eq,Bool.not_eq_true',List.any_eq_false]
 refine ⟨hlen,λ o ho=>?_⟩
 obtain ⟨x,hx,rfl,TP,JG⟩:=t.To ns hw o ho
 rw [← Cw] at hx
 have Yr:=h3 x hx
 unfold oY at Yr
 simp only [Bool.or_eq_true,decide_eq_true_eq,not_or,Bool.and_eq_true,Bool.not_eq_true',not_and,Bool.not_eq_false] at Yr
 obtain ⟨⟨⟨⟨g1,g2⟩,g3⟩,g4⟩,g5⟩:=Yr
 have hn:Ex.numOf ns x=if x.op=2 then dQ ns x.name else x.n:=rfl
 unfold sC
 simp only [decide_eq_true_eq]
 rintro (⟨q1,q2⟩ | ⟨q1,q2⟩ | ⟨q1,q2,q3⟩)
 ·have q1:x.op=1:=q1
  rw [hn,if_neg (by omega)] at q2; omega
 ·have q1:x.op=2:=q1
  rw [hn,if_pos q1] at q2
  rw [List.any_eq_false] at hv
  have:=hv x hx
  simp only [Bool.and_eq_true,decide_eq_true_eq,not_and] at this
  have h5:=this q1
  have h6:=A0 (ns:=ns) (s:=x.name) (by omega)
  omega
 ·have q1:¬ x.op=1:=q1
  have q2:¬ x.op=2:=q2
  rw [hn,if_neg q2] at q3
  have:=g2
  omega
theorem asH {k:Int} (h:1≤k∧k≤14):er (j8 k) 101=decide (k=1∨k=3∨k=4∨k=11∨k=14)∧er (j8 k) 102=decide (k=4)∧er (j8 k) 114=decide (k=1∨k=2∨k=4)∧er (j8 k) 110=decide (k=2∨k=3∨k=4∨k=5∨k=6∨k=9∨k=10):=by
 obtain rfl | rfl | rfl | rfl | rfl | rfl | rfl | rfl | rfl | rfl | rfl | rfl | rfl | rfl:k=1∨k=2∨k=3∨k=4∨k=5∨k=6∨k=7∨k=8∨k=9∨k=10∨k=11∨k=12∨k=13∨k=14:=by omega
 all_goals decide
structure asI (x:cG):Prop where
 kind:1≤x.kind∧x.kind≤14
 e1:x.kind=1∨x.kind=3∨x.kind=4∨x.kind=11∨x.kind=14→jI x.e=true
 e0:¬ (x.kind=1∨x.kind=3∨x.kind=4∨x.kind=11∨x.kind=14)→x.e=[]
 f1:x.kind=4→jI x.f=true
 f0:¬ x.kind=4→x.f=[]
 r1:x.kind=1∨x.kind=2∨x.kind=4→j4 x.gP=true
 r0:¬ (x.kind=1∨x.kind=2∨x.kind=4)→x.gP=⟨#[]⟩
theorem azN {x:cG} (h:rD x=true):asI x:=by
 have h:=Bu h
 obtain ⟨g1,g2,g3,g4⟩:=asH h.kind
 refine ⟨h.kind,λ hk=>?_,λ hk=>?_,λ hk=>?_,λ hk=>?_,λ hk=>?_,λ hk=>?_⟩
 ·rcases h.e with q | q
  ·exact q.2
  ·rw [g1,decide_eq_true hk] at q; exact absurd q.1 (by decide)
 ·rcases h.e with q | q
  ·rw [g1,decide_eq_false hk] at q; exact absurd q.1 (by decide)
  ·exact q.2
 ·rcases h.f with q | q
  ·exact q.2
  ·rw [g2,decide_eq_true hk] at q; exact absurd q.1 (by decide)
 ·rcases h.f with q | q
  ·rw [g2,decide_eq_false hk] at q; exact absurd q.1 (by decide)
  ·exact q.2
 ·rcases h.gP with q | q
  ·exact q.2
  ·rw [g3,decide_eq_true hk] at q; exact absurd q.1 (by decide)
 ·rcases h.gP with q | q
  ·rw [g3,decide_eq_false hk] at q; exact absurd q.1 (by decide)
  ·exact q.2
theorem HI (ns:List ByteArray):gg ns []=[]:=by
 unfold gg; split
 ·rfl
 ·rfl
theorem Dh:∀ (ls:List (List dI)) (i a:Int),0≤a→(∀ l∈ls,l≠[])→i≤ix ls i a∧(∀ b,a≤b→ix ls i a≤ix ls i b)∧(ix ls i (a+1)=ix ls i a∨ix ls i (a+1)=ix ls i a+1)
 | [],i,a,ha,_=>⟨by unfold ix; omega,λ b hb=>by unfold ix; omega,by unfold ix; omega⟩
 | l::r,i,a,ha,hl=>by
  have Cr:0<l.length:=List.length_pos_iff.2 (hl l (List.mem_cons_self ..))
  have hr:=λ l Du=>hl l (List.mem_cons_of_mem _ Du)
  unfold ix
  by_cases h1:a<l.length
  ·rw [if_pos h1]
   refine ⟨Int.le_refl _,λ b hb=>?_,?_⟩
   ·split
    ·exact Int.le_refl _
    ·have:=(Dh r (i+1) (b - l.length) (by omega) hr).1; omega
   ·split
    ·exact .inl rfl
    ·have e:a+1 - (l.length:Int)=0:=by omega
     rw [e]
     cases r with
     | nil=>unfold ix; omega
     | cons l2 r2=>
      have hne2:0<l2.length:=List.length_pos_iff.2 (hr l2 (List.mem_cons_self ..))
      unfold ix; rw [if_pos (by omega)]; exact .inr rfl
  ·rw [if_neg h1]
   obtain ⟨g1,g2,g3⟩:=Dh r (i+1) (a - l.length) (by omega) hr
   refine ⟨by omega,λ b hb=>?_,?_⟩
   ·rw [if_neg (by omega)]; exact g2 _ (by omega)
   ·rw [if_neg (by omega),show a+1 - (l.length:Int)=a - l.length+1 from by omega]; exact g3
theorem Di:∀ (ls:List (List dI)) (i a:Int),(ls.flatten.length:Int)≤a→ix ls i a=i+ls.length+(a - ls.flatten.length)
 | [],i,a,_=>by unfold ix; simp
 | l::r,i,a,ha=>by
  have e:(((l::r).flatten).length:Int)=l.length+r.flatten.length:=by simp
  unfold ix
  rw [if_neg (by omega),Di r (i+1) (a - l.length) (by omega),e]
  simp only [List.length_cons]
  omega
theorem RJ:∀ (ls:List (List dI)) (i a:Int),0≤a→a<ls.flatten.length→ix ls i a<i+ls.length
 | [],i,a,h0,ha=>by simp at ha; omega
 | l::r,i,a,h0,ha=>by
  have e:(((l::r).flatten).length:Int)=l.length+r.flatten.length:=by simp
  unfold ix
  split
  ·simp only [List.length_cons]; omega
  ·have:=RJ r (i+1) (a - l.length) (by omega) (by omega)
   simp only [List.length_cons]; omega
section
variable {p:cW}
theorem HJ (p:cW):(eu p).lines.length=(gJ p).length:=by show ((List.range _).map _).length=_; rw [List.length_map,List.length_range]
theorem FE {i:Nat} (h:i<(gJ p).length):(eu p).lines[i]? = some (mf p i):=by
 show ((List.range _).map _)[i]? = _
 rw [List.getElem?_map,List.getElem?_range h]; rfl
theorem BA.pf (h:BA p):PF p:=wD h.right
theorem BA.sz (h:BA p):p.lines.length≤4∧(∀ l∈p.lines,l.length≤4)∧p.jV.length≤4∧p.locks.length≤2∧1≤p.threads.length∧p.threads.length≤3∧p.cC.length≤4∧∀ t∈iN p,t.aN.length≤4:=by
 have hb:=h.big
 unfold Aj at hb
 simp only [Bool.or_eq_false_iff,decide_eq_false_iff_not,List.any_eq_false,decide_eq_true_eq] at hb
 obtain ⟨⟨h1,h2⟩,⟨⟨⟨⟨⟨h3,h4⟩,h5⟩,h6⟩,h7⟩,h8⟩⟩:=hb
 exact ⟨by omega,λ l hl=>by have:=h1 l hl; omega,by omega,by omega,by omega,by omega,by omega,λ t ht=>by have:=h2 t ht; omega⟩
theorem Mx:∀ {ls:List (List dI)},(∀ l∈ls,l.length≤4)→ls.flatten.length≤4 * ls.length
 | [],_=>by simp
 | l::r,h=>by
  have h1:=h l (List.mem_cons_self ..)
  have h2:=Mx (ls:=r) λ l hl=>h l (List.mem_cons_of_mem _ hl)
  rw [List.flatten_cons,List.length_append,List.length_cons]; omega
theorem BA.gJ (h:BA p):(gJ p).length≤20:=by
 obtain ⟨h1,h2,h3,_⟩:=h.sz
 have:=Mx h2
 unfold Go.Proofs.YtnjcingfdhjfkaaGreat.gJ
 rw [List.length_append]; omega
theorem FF (p:cW):0≤eC p∧eC p≤(gJ p).length:=by unfold eC gJ; rw [List.length_append]; omega
theorem xc {c:Int} (h:0≤c∧c<(gJ p).length):mf p c=ix p.lines 0 c:=by unfold mf; rw [if_neg (by omega)]
theorem Tp (h:BA p) {c:Int} (hc:0≤c∧c<eC p):0≤mf p c∧mf p c<gq (eu p):=by
 have hs:=FF p
 have Cr:=λ l hl=>(h.pf.lines l hl).1
 obtain ⟨g1,g2,_⟩:=Dh p.lines 0 c hc.1 Cr
 rw [xc (by omega)]
 refine ⟨g1,?_⟩
 have g3:=g2 (eC p - 1) (by omega)
 have e:gq (eu p)=ix p.lines 0 (eC p - 1)+1:=by
  unfold gq
  rw [HJ]
  show (if 1≤eC p∧eC p≤((Go.Proofs.YtnjcingfdhjfkaaGreat.gJ p).length:Int) then (eu p).lines.getD (eC p - 1).toNat 0+1 else 0)=_
  rw [if_pos (by omega),List.getD_eq_getElem?_getD,FE (by omega)]
  show mf p ((eC p - 1).toNat:Nat)+1=_
  rw [show (((eC p - 1).toNat:Nat):Int)=eC p - 1 from by omega,xc (by omega)]
 omega
theorem Pc (h:BA p) {i:Nat} (hi:i<(gJ p).length):kf (eu p) i=false:=by
 have Cr:=λ l hl=>(h.pf.lines l hl).1
 have hs:=FF p
 unfold kf
 rw [FE hi]
 dsimp only
 by_cases h0:i=0
 ·subst h0
  have e:mf p (0:Nat)=0:=by
   rw [xc (by omega)]
   cases hl:p.lines with
   | nil=>unfold ix; rfl
   | cons l r=>
    have:=List.length_pos_iff.2 (Cr l (by rw [hl]; exact List.mem_cons_self ..))
    unfold ix; rw [if_pos (by omega)]
  rw [e]
  have e2:lz (eu p).lines 0=0:=rfl
  rw [e2]; rfl
 ·have e2:lz (eu p).lines i=mf p ((i - 1:Nat):Int)+1:=by
   unfold lz; rw [if_neg h0,List.getD_eq_getElem?_getD,FE (by omega)]; rfl
  rw [e2,xc (by omega),xc (by omega)]
  obtain ⟨_,_,g3⟩:=Dh p.lines 0 ((i - 1:Nat):Int) (by omega) Cr
  rw [show ((i - 1:Nat):Int)+1=(i:Int) from by omega] at g3
  by_cases gn:(i:Int)<eC p
  ·rcases g3 with g3 | g3
   ·rw [g3]
    have e3:decide ((eu p).stays≤(i:Int))=false:=decide_eq_false (by show ¬ eC p≤_; omega)
    rw [e3,decide_eq_false h0]
    simp
   ·rw [g3]; simp
  ·have hlen:(p.lines.flatten.length:Int)=eC p:=rfl
   by_cases Lm:((i - 1:Nat):Int)<eC p
   ·have hi2:(i:Int)=eC p:=by omega
    have q1:=Di p.lines 0 i (by omega)
    have q2:=RJ p.lines 0 ((i - 1:Nat):Int) (by omega) (by omega)
    have:ix p.lines 0 i=ix p.lines 0 ((i - 1:Nat):Int)+1:=by omega
    rw [this]; simp
   ·have q1:=Di p.lines 0 i (by omega)
    have q2:=Di p.lines 0 ((i - 1:Nat):Int) (by omega)
    have:ix p.lines 0 i=ix p.lines 0 ((i - 1:Nat):Int)+1:=by omega
    rw [this]; simp
end
theorem Pd {ns:List ByteArray} (h:∀ s∈ns,j4 s=true):dQ ns ⟨#[]⟩ = -1:=ky λ y hy=>decide_eq_false (Mw (h y hy))
structure StK (p:cW) (rs:List ByteArray) (x:cG):Prop where
 fit:asI x
 rg:∀ s∈rs,j4 s=true
 nb:oA p rs x=false
section
variable {p:cW} {rs:List ByteArray} {x:cG} {c:fq}
theorem asJ (h:StK p rs x) (hc:c.aN=rs.length) (hk:x.kind=1∨x.kind=3∨x.kind=4∨x.kind=11∨x.kind=14):eN (gg rs x.e) c.aN=true:=by
 have hb:=h.nb; unfold oA at hb; simp only [Bool.or_eq_false_iff] at hb
 exact (xb (h.fit.e1 hk) hb.1.2 hc).1
theorem azO (h:StK p rs x) (hc:c.aN=rs.length) (hk:x.kind=4):eN (gg rs x.f) c.aN=true:=by
 have hb:=h.nb; unfold oA at hb; simp only [Bool.or_eq_false_iff] at hb
 exact (xb (h.fit.f1 hk) hb.2 hc).1
theorem aex (hp:BA p) (h:StK p rs x) (hc:c.aN=rs.length) (hk:¬ x.kind=11) (JG:¬ x.kind=12) (hk3:¬ x.kind=13) :
  vm (lH p rs x) c (gJ p).length (gq (eu p)) p.locks.length=true∧(lH p rs x).to=0∧¬ (lH p rs x).kind=11∧¬ (lH p rs x).kind=12∧¬ (lH p rs x).kind=13∧¬ (lH p rs x).kind=14:=by
 have hkd:=h.fit.kind
 have nn:(lH p rs x).kind=if x.kind=14 then 15 else x.kind:=rfl
 have hka:¬ (lH p rs x).kind=11∧¬ (lH p rs x).kind=12∧¬ (lH p rs x).kind=13∧¬ (lH p rs x).kind=14∧1≤(lH p rs x).kind∧(lH p rs x).kind≤15:=by rw [nn]; split <;> omega
 refine ⟨?_,rfl,hka.1,hka.2.1,hka.2.2.1,hka.2.2.2.1⟩
 have hb:=h.nb; unfold oA at hb
 simp only [Bool.or_eq_false_iff,Bool.and_eq_false_iff,decide_eq_false_iff_not,not_or,Decidable.not_not] at hb
 obtain ⟨⟨⟨⟨⟨b1,b2⟩,b3⟩,b4⟩,b5⟩,b6⟩:=hb
 have hE:(if sK (lH p rs x).kind=true then eN (lH p rs x).e c.aN else !decide (0<((lH p rs x).e.length:Int)))=true:=by
  by_cases hq:x.kind=1∨x.kind=3∨x.kind=4∨x.kind=11∨x.kind=14
  ·have Cr:sK (lH p rs x).kind=true:=by
    unfold sK; rw [nn]
    split
    ·rfl
    ·simp only [Bool.or_eq_true,decide_eq_true_eq]; omega
   rw [if_pos Cr]; exact asJ h hc hq
  ·have Cr:¬ sK (lH p rs x).kind=true:=by
    unfold sK; rw [nn,if_neg (by omega)]
    simp only [Bool.or_eq_true,decide_eq_true_eq]; omega
   rw [if_neg Cr]
   have:(lH p rs x).e=[]:=by show gg rs x.e=[]; rw [h.fit.e0 hq,HI]
   rw [this]; rfl
 have hF:(if (lH p rs x).kind=4 then eN (lH p rs x).f c.aN else !decide (0<((lH p rs x).f.length:Int)))=true:=by
  by_cases hq:x.kind=4
  ·rw [if_pos (by rw [nn]; split <;> omega)]; exact azO h hc hq
  ·rw [if_neg (by rw [nn]; split <;> omega)]
   have:(lH p rs x).f=[]:=by show gg rs x.f=[]; rw [h.fit.f0 hq,HI]
   rw [this]; rfl
 have hA:aM (lH p rs x) c.aN c.counts=true:=by
  unfold aM
  rw [if_neg (by omega)]
  have ea:(lH p rs x).a=max 0 (dQ rs x.gP):=rfl
  by_cases hq:x.kind=1∨x.kind=2∨x.kind=4
  ·rw [if_pos (by rw [nn]; split <;> omega),ea]
   have Cr:=Mw (h.fit.r1 hq)
   have:¬ dQ rs x.gP<0:=by
    rcases b1 with b1 | b1
    ·exact absurd b1 Cr
    ·exact b1
   have h2:=A0 (ns:=rs) (s:=x.gP) (by omega)
   unfold LH; simp only [Bool.and_eq_true,decide_eq_true_eq]; omega
  ·rw [if_neg (by rw [nn]; split <;> omega),ea,h.fit.r0 hq,Pd h.rg]; rfl
 have hB:bM (lH p rs x) (gJ p).length (gq (eu p)) p.locks.length=true:=by
  unfold bM
  have eb:(lH p rs x).b=if x.kind=2∨x.kind=3∨x.kind=4 then dQ (fe p) x.name else if x.kind=5∨x.kind=6 then mf p (dQ (fe p) x.name) else if x.kind=9∨x.kind=10 then dQ (g9 p) x.name else 0:=rfl
  have QK:(fe p).length=(gJ p).length:=by unfold fe; rw [List.length_map]
  have NH:(g9 p).length=p.locks.length:=by unfold g9; rw [List.length_map]
  by_cases q1:x.kind=2∨x.kind=3∨x.kind=4
  ·rw [if_pos (by rw [nn]; split <;> omega),eb,if_pos q1]
   have h1:¬ dQ (fe p) x.name<0:=by
    rcases b2 with b2 | b2
    ·omega
    ·exact b2
   have h2:=A0 (ns:=fe p) (s:=x.name) (by omega)
   unfold LH; simp only [Bool.and_eq_true,decide_eq_true_eq]; omega
  ·rw [if_neg (by rw [nn]; split <;> omega)]
   by_cases q2:x.kind=5∨x.kind=6
   ·rw [if_pos (by rw [nn]; split <;> omega),eb,if_neg q1,if_pos q2]
    have h1:¬ dQ (fe p) x.name<0∧¬ eC p≤dQ (fe p) x.name:=by
     rcases b3 with b3 | b3
     ·omega
     ·exact b3
    have:=Tp hp (c:=dQ (fe p) x.name) (by omega)
    unfold LH; simp only [Bool.and_eq_true,decide_eq_true_eq]; omega
   ·rw [if_neg (by rw [nn]; split <;> omega)]
    by_cases q3:x.kind=9∨x.kind=10
    ·rw [if_pos (by rw [nn]; split <;> omega),eb,if_neg q1,if_neg q2,if_pos q3]
     have h1:¬ dQ (g9 p) x.name<0:=by
      rcases b4 with b4 | b4
      ·omega
      ·exact b4
     have h2:=A0 (ns:=g9 p) (s:=x.name) (by omega)
     unfold LH; simp only [Bool.and_eq_true,decide_eq_true_eq]; omega
    ·rw [if_neg (by rw [nn]; split <;> omega),if_neg hka.2.2.1,eb,if_neg q1,if_neg q2,if_neg q3]; rfl
 unfold vm efM
 rw [hE,hF,hA,hB,decide_eq_true hka.2.2.2.2.1,decide_eq_true hka.2.2.2.2.2]; rfl
end
structure Ys (c:fq) (cells lines locks:Int) (L:List aW) (i:Nat) (x:aW):Prop where
 fld:vm x c cells lines locks=true
 to:I1 L i x=true
 nest:x.kind=14→∀ (k:Nat) (y:aW),x.to≤k→k<i→L[k]? = some y→y.kind=14→x.to≤y.to
 b13:x.kind=14→∃ y,L[(x.to - 1).toNat]? = some y∧y.kind=13
def Yt (L:List aW) (n:Nat) (l:List aW):Prop:=∀ (k:Nat) (y:aW),l[k]? = some y→L[n+k]? = some y
def qt (c:fq) (cells lines locks:Int) (L:List aW) (n:Nat) (l:List aW):Prop:=∀ (k:Nat) (y:aW),l[k]? = some y→Ys c cells lines locks L (n+k) y
section
variable {L l1 l2:List aW} {n:Nat} {c:fq} {cells lines locks:Int}
theorem Yt.left (h:Yt L n (l1++l2)):Yt L n l1:=λ k y hk=>h k y (by rw [List.getElem?_append_left (List.getElem?_eq_some_iff.1 hk).1]; exact hk)
theorem Yt.right (h:Yt L n (l1++l2)):Yt L (n+l1.length) l2:=λ k y hk=>by
 have:=h (l1.length+k) y (by rw [List.getElem?_append_right (by omega),Nat.add_sub_cancel_left]; exact hk)
 rw [Nat.add_assoc]; exact this
theorem Yt.one {y:aW} (h:Yt L n [y]):L[n]? = some y:=h 0 y rfl
theorem qt.app (h1:qt c cells lines locks L n l1) (h2:qt c cells lines locks L (n+l1.length) l2):qt c cells lines locks L n (l1++l2):=λ k y hk=>by
 rcases Nat.lt_or_ge k l1.length with h | h
 ·rw [List.getElem?_append_left h] at hk; exact h1 k y hk
 ·rw [List.getElem?_append_right h] at hk
  have:=h2 (k - l1.length) y hk
  rwa [show n+l1.length+(k - l1.length)=n+k from by omega] at this
theorem qt.nil:qt c cells lines locks L n []:=λ k y hk=>by simp at hk
theorem qt.one {y:aW} (h:Ys c cells lines locks L n y):qt c cells lines locks L n [y]:=λ k z hk=>by
 cases k with
 | zero=>simp at hk; subst hk; exact h
 | succ k=>simp at hk
end
theorem RK (p:cW) (rs:List ByteArray) (t:Bk):∀ at_ lp out,∀ y∈eT p rs t at_ lp out,(y.kind=13→lp≤y.a)∧(y.kind=14→at_+1≤y.to):=by
 induction t with
 | nil=>intro at_ lp out y hy; cases hy
 | cons x a b r vO xY GY=>
  intro at_ lp out y hy
  rw [vk,List.mem_append] at hy
  have hsa:=iX a
  rcases hy with hy | hy
  ·unfold Ga at hy
   split at hy
   ·have ht:at_+1≤rI x a at_:=by unfold rI; split <;> omega
    rw [List.mem_append,List.mem_append,List.mem_append] at hy
    rcases hy with ((hy | hy) | hy) | hy
    ·rw [List.mem_singleton] at hy; subst hy; exact ⟨λ h=>by simp at h,λ h=>by simp at h⟩
    ·have:=vO _ _ _ y hy; exact ⟨this.1,λ h=>by have:=this.2 h; omega⟩
    ·split at hy
     ·rw [List.mem_singleton] at hy; subst hy; exact ⟨λ h=>by simp at h,λ h=>by simp at h⟩
     ·cases hy
    ·have:=xY _ _ _ y hy; exact ⟨this.1,λ h=>by have:=this.2 h; omega⟩
   ·split at hy
    ·rw [List.mem_append,List.mem_append] at hy
     rcases hy with (hy | hy) | hy
     ·rw [List.mem_singleton] at hy; subst hy; exact ⟨λ _=>Int.le_refl _,λ h=>by simp at h⟩
     ·have:=vO _ _ _ y hy; exact ⟨λ h=>by have:=this.1 h; omega,λ h=>by have:=this.2 h; omega⟩
     ·rw [List.mem_singleton] at hy; subst hy; exact ⟨λ h=>by simp at h,λ _=>Int.le_refl _⟩
    ·split at hy
     ·rw [List.mem_singleton] at hy; subst hy; exact ⟨λ h=>by simp at h,λ h=>by simp at h⟩
     ·rename_i h1 h2 h3
      rw [List.mem_singleton] at hy; subst hy
      have e:(lH p rs x).kind=if x.kind=14 then 15 else x.kind:=rfl
      refine ⟨λ h=>?_,λ h=>?_⟩
      ·rw [e] at h; split at h <;> omega
      ·rw [e] at h; split at h <;> omega
  ·have:=GY _ _ _ y hy
   exact ⟨this.1,λ h=>by have:=this.2 h; omega⟩
theorem FG {b:Bk} (h:(b.len:Int)≤0):b = .nil:=by
 cases b with
 | nil=>rfl
 | cons x a b r=>exfalso; unfold Bk.len at h; omega
theorem RL {x:aW} {r:Int} (he:sK x.kind=false) (h1:x.e=[]) (hk:¬ x.kind=4) (h2:x.f=[]):efM x r=true:=by
 unfold efM; rw [if_neg (by rw [he]; decide),if_neg hk,h1,h2]; rfl
section
variable {p:cW} {rs:List ByteArray} {c:fq}
theorem aey (hp:BA p) (hc:c.aN=rs.length) (L:List aW) (t:Bk):∀ (n:Nat) (lp out loops:Int),Yt L n (eT p rs t n lp out)→n+bW t≤(L.length:Int)→t.ok loops=true→t.str→kC t→0≤loops→
  (loops≠0→n+bW t≤out∧out≤L.length)→0≤lp→lp+iY t≤c.counts→(∀ x∈t.flat,StK p rs x)→qt c (gJ p).length (gq (eu p)) p.locks.length L n (eT p rs t n lp out):=by
 induction t with
 | nil=>intros; exact qt.nil
 | cons x a b r vO xY GY=>
  intro n lp out loops hE hL nP IN HW hlo aez Mi T5 gn
  have hsa:=iX a; have hsb:=iX b; have hsr:=iX r
  have hda:=tj a; have hdb:=tj b; have hdr:=tj r
  obtain ⟨Sz,hs2,_,_,Pe,Yu,Yv⟩:=IN
  have XG:=nP
  unfold Bk.ok at XG
  simp only [Bool.and_eq_true] at XG
  obtain ⟨⟨⟨ho1,PA⟩,Yr⟩,ho4⟩:=XG
  unfold Bk.zs at ho1
  rw [decide_eq_true_eq] at ho1
  have hx:StK p rs x:=gn x (by simp [Bk.flat])
  have lF:bW (.cons x a b r)=(if x.kind=12 then 2+bW a else if x.kind=11 then (if 0<x.fJ then 1+bW a+bW b+1 else 1+bW a+bW b) else 1)+bW r:=rfl
  have hdp:iY (.cons x a b r)=max (if x.kind=12 then max (iY a) (iY b)+1 else max (iY a) (iY b)) (iY r):=rfl
  rw [vk] at hE ⊢
  have Lx:=IQ p rs x a b r n lp out
  have hER:=hE.right
  have Pf:=hE.left
  generalize hH:Ga p rs x a b n lp out=H at *
  refine qt.app ?_ ?_
  ·rw [← hH] at Pf Lx ⊢
   unfold Ga at Pf Lx ⊢
   by_cases vP:x.kind=11
   ·rw [if_pos vP] at Pf Lx ⊢
    rw [if_neg (by omega),if_pos vP] at lF
    rw [if_neg (by omega)] at hdp
    have vB:Bk.B8 x loops=loops:=by unfold Bk.B8; rw [if_neg (by omega)]
    rw [vB] at PA Yr
    have hA1:=Pf.left.left.left
    have hA2:=Pf.left.left.right
    have hA3:=Pf.left.right
    have hA4:=Pf.right
    have MP:=ia p rs a (n+1) lp out
    have Dj:rI x a n=if 0<x.fJ then (n:Int)+1+bW a+1 else (n:Int)+1+bW a:=rfl
    refine qt.app (qt.app (qt.app (qt.one ?_) ?_) ?_) ?_
    ·refine ⟨?_,?_,λ h=>by simp at h,λ h=>by simp at h⟩
     ·unfold vm efM aM bM sK
      simp only [asJ hx hc (.inr (.inr (.inr (.inl vP))))]
      rfl
     ·unfold I1; rw [if_pos (.inr rfl)]
      show (decide ((n:Int)<rI x a n) && decide (rI x a n≤L.length))=true
      rw [Bool.and_eq_true,decide_eq_true_eq,decide_eq_true_eq,Dj]
      split <;> (rename_i he; first | rw [if_pos he] at lF | rw [if_neg he] at lF) <;> omega
    ·have hE2:Yt L (n+1) (eT p rs a ((n+1:Nat):Int) lp out):=hA2
     exact vO (n+1) lp out loops hE2 (by split at lF <;> omega) PA Pe HW.a hlo (λ hl=>by have:=aez hl; refine ⟨?_,this.2⟩; split at lF <;> omega) Mi (by omega) λ y hy=>gn y (by simp [Bk.flat,hy])
    ·split
     ·rename_i he
      refine qt.one ⟨?_,?_,λ h=>by simp at h,λ h=>by simp at h⟩
      ·rfl
      ·unfold I1; rw [if_pos (.inl rfl)]
       rw [if_pos he] at lF Dj
       rw [Bool.and_eq_true,decide_eq_true_eq,decide_eq_true_eq]
       show ((n+([(⟨12,0,0,gg rs x.e,[],rI x a n⟩:aW)]++eT p rs a (n+1) lp out).length:Nat):Int)<rI x a n+bW b∧rI x a n+bW b≤L.length
       rw [List.length_append,List.length_singleton,Dj]
       omega
     ·exact qt.nil
    ·by_cases he:0<x.fJ
     ·rw [if_pos he] at lF Dj hA4 ⊢
      have hn4:((n+([(⟨12,0,0,gg rs x.e,[],rI x a n⟩:aW)]++eT p rs a (n+1) lp out++[(⟨11,0,0,[],[],rI x a n+bW b⟩:aW)]).length:Nat):Int)=rI x a n:=by
       simp only [List.length_append,List.length_singleton]; rw [Dj]; omega
      generalize n+([(⟨12,0,0,gg rs x.e,[],rI x a n⟩:aW)]++eT p rs a (n+1) lp out++[(⟨11,0,0,[],[],rI x a n+bW b⟩:aW)]).length=m at hA4 hn4 ⊢
      rw [← hn4] at hA4 ⊢
      exact xY _ lp out loops hA4 (by rw [hn4,Dj]; omega) Yr Yu HW.b hlo (λ hl=>by have:=aez hl; rw [hn4,Dj]; exact ⟨by omega,this.2⟩) Mi (by omega) λ y hy=>gn y (by simp [Bk.flat,hy])
     ·have Ge:=FG (b:=b) (by omega)
      subst Ge; exact qt.nil
   ·rw [if_neg vP] at Pf Lx ⊢
    by_cases xZ:x.kind=12
    ·rw [if_pos xZ] at Pf Lx ⊢
     rw [if_pos xZ] at lF hdp
     have vB:Bk.B8 x loops=loops+1:=by unfold Bk.B8; rw [if_pos xZ]
     rw [vB] at PA
     have hA1:=Pf.left.left
     have hA2:=Pf.left.right
     have hA3:=Pf.right
     have MP:=ia p rs a (n+1) (lp+1) (n+2+bW a)
     have hxn:=HW.x xZ
     have JL:=hA1.one
     refine qt.app (qt.app (qt.one ?_) ?_) (qt.one ?_)
     ·refine ⟨?_,?_,λ h=>by simp at h,λ h=>by simp at h⟩
      ·unfold vm
       rw [RL rfl rfl (by decide:¬ (13:Int)=4) rfl]
       have e1:aM ⟨13,lp,x.n,[],[],0⟩ c.aN c.counts=true:=by unfold aM; rw [if_pos (.inl rfl)]; unfold LH; rw [Bool.and_eq_true,decide_eq_true_eq,decide_eq_true_eq]; exact ⟨Mi,by show lp<c.counts; omega⟩
       have e2:bM ⟨13,lp,x.n,[],[],0⟩ (gJ p).length (gq (eu p)) p.locks.length=true:=by
        unfold bM; show (decide (1≤x.n) && decide (x.n≤8))=true
        rw [Bool.and_eq_true,decide_eq_true_eq,decide_eq_true_eq]; exact hxn
       rw [e1,e2]; rfl
      ·rfl
     ·have hE2:Yt L (n+1) (eT p rs a ((n+1:Nat):Int) (lp+1) (n+2+bW a)):=hA2
      exact vO (n+1) (lp+1) (n+2+bW a) (loops+1) hE2 (by omega) PA Pe HW.a (by omega) (λ _=>⟨by omega,by omega⟩) (by omega) (by omega) λ y hy=>gn y (by simp [Bk.flat,hy])
     ·have zK:n+([(⟨13,lp,x.n,[],[],0⟩:aW)]++eT p rs a (n+1) (lp+1) (n+2+bW a)).length=n+1+(eT p rs a (n+1) (lp+1) (n+2+bW a)).length:=by
       rw [List.length_append,List.length_singleton]; omega
      rw [zK]
      have aha:∀ (k:Nat) (y:aW),n+1≤k→k<n+1+(eT p rs a (n+1) (lp+1) (n+2+bW a)).length→L[k]? = some y→y∈eT p rs a (n+1) (lp+1) (n+2+bW a):=by
       intro k y h1 h2 hy
       obtain ⟨z,hz⟩:∃ z,(eT p rs a (n+1) (lp+1) (n+2+bW a))[k - (n+1)]? = some z:=⟨_,List.getElem?_eq_getElem (by omega)⟩
       have h3:L[n+1+(k - (n+1))]? = some z:=hA2 _ z hz
       rw [show n+1+(k - (n+1))=k from by omega,hy] at h3
       obtain rfl:=Option.some.inj h3
       exact List.mem_of_getElem? hz
      refine ⟨?_,?_,λ _ k y h1 h2 hy hk=>?_,λ _=>?_⟩
      ·unfold vm
       rw [RL rfl rfl (by decide:¬ (14:Int)=4) rfl]
       have e1:aM ⟨14,lp,0,[],[],n+1⟩ c.aN c.counts=true:=by unfold aM; rw [if_pos (.inr rfl)]; unfold LH; rw [Bool.and_eq_true,decide_eq_true_eq,decide_eq_true_eq]; exact ⟨Mi,by show lp<c.counts; omega⟩
       have e2:bM ⟨14,lp,0,[],[],n+1⟩ (gJ p).length (gq (eu p)) p.locks.length=true:=rfl
       rw [e1,e2]; rfl
      ·unfold I1; rw [if_neg (by decide:¬ ((14:Int)=11∨(14:Int)=12)),if_pos rfl]
       unfold Cc
       rw [Bool.and_eq_true]
       refine ⟨?_,?_⟩
       ·rw [WB (y:=⟨13,lp,x.n,[],[],0⟩) (by show 1≤(n:Int)+1; omega) (by show (n:Int)+1≤_; omega) (by show L[((n:Int)+1 - 1).toNat]? = _; rw [show ((n:Int)+1 - 1).toNat=n from by omega]; exact JL)]
        unfold sL; simp
       ·rw [Bool.not_eq_true',List.any_eq_false]
        intro y hy
        obtain ⟨k,hk⟩:=po hy
        rw [List.getElem?_drop,List.getElem?_take] at hk
        split at hk
        ·have h5:=aha _ y (by show n+1≤((n:Int)+1).toNat+k; omega) (by assumption) hk
         have h6:=(RK p rs a _ _ _ y h5).1
         unfold sL
         rw [Bool.and_eq_true,decide_eq_true_eq,decide_eq_true_eq]
         rintro ⟨q1,q2⟩
         have:=h6 q1
         have q2:y.a=lp:=q2
         omega
        ·cases hk
      ·have h1:(n:Int)+1≤k:=h1
       have h5:=aha k y (by omega) h2 hy
       have:=(RK p rs a _ _ _ y h5).2 hk
       show (n:Int)+1≤y.to
       omega
      ·exact ⟨_,by show L[((n:Int)+1 - 1).toNat]? = _; rw [show ((n:Int)+1 - 1).toNat=n from by omega]; exact JL,rfl⟩
    ·rw [if_neg xZ] at Pf Lx ⊢
     rw [if_neg xZ,if_neg vP] at lF
     by_cases JL:x.kind=13
     ·rw [if_pos JL] at Pf Lx ⊢
      have hl0:loops≠0:=by omega
      have hou:=aez hl0
      refine qt.one ⟨rfl,?_,λ h=>by simp at h,λ h=>by simp at h⟩
      unfold I1; rw [if_pos (.inl rfl)]
      rw [Bool.and_eq_true,decide_eq_true_eq,decide_eq_true_eq]
      show (n:Int)<out∧out≤L.length
      omega
     ·rw [if_neg JL] at Pf Lx ⊢
      obtain ⟨g1,g2,g3,g4,g5,g6⟩:=aex (c:=c) hp hx hc vP xZ JL
      refine qt.one ⟨g1,?_,λ h=>absurd h g6,λ h=>absurd h g6⟩
      unfold I1; rw [if_neg (by omega),if_neg g6,g2]; rfl
  ·have hn2:((n+H.length:Nat):Int)=n+H.length:=by omega
   rw [← hn2] at hER ⊢
   exact GY _ lp out loops hER (by omega) ho4 Yv HW.r hlo (λ hl=>by have:=aez hl; exact ⟨by omega,this.2⟩) Mi (by omega) λ y hy=>gn y (by simp [Bk.flat,hy])
end
theorem aeA (t:Bk):∀ n:Int,t.ok n=true→t.str→iY t≤t.depth:=by
 induction t with
 | nil=>intro n _ _; exact Int.le_refl _
 | cons x a b r vO xY GY=>
  intro n nP IN
  obtain ⟨Sz,hs2,_,_,Pe,Yu,Yv⟩:=IN
  unfold Bk.ok at nP
  simp only [Bool.and_eq_true] at nP
  obtain ⟨⟨⟨ho1,PA⟩,Yr⟩,ho4⟩:=nP
  unfold Bk.zs at ho1
  rw [decide_eq_true_eq] at ho1
  have h1:=vO _ PA Pe
  have h2:=xY _ Yr Yu
  have h3:=GY _ ho4 Yv
  have hd:=Bk.rC a
  have MS:=Bk.rC b
  have hd3:=Bk.rC r
  have e:iY (.cons x a b r)=max (if x.kind=12 then max (iY a) (iY b)+1 else max (iY a) (iY b)) (iY r):=rfl
  have e2:(Bk.cons x a b r).depth=if Bk.Ek x then max (max (1+a.depth) (1+b.depth)) r.depth else r.depth:=rfl
  rw [e,e2]
  by_cases hk:x.kind=11∨x.kind=12
  ·have:Bk.Ek x=true:=decide_eq_true hk
   rw [if_pos this]
   split <;> omega
  ·have:Bk.Ek x=false:=decide_eq_false hk
   rw [if_neg (by omega:¬ x.kind=12),if_neg (show ¬ Bk.Ek x=true by rw [this]; decide)]
   have ha:=FG (b:=a) (by omega)
   have hb:=FG (b:=b) (by omega)
   subst ha hb
   have:iY .nil=0:=rfl
   omega
section
variable {p:cW}
theorem BA.stk (h:BA p) {t:dS} (ht:t∈iN p):∀ x∈t.body,StK p t.aN x:=by
 intro x hx
 obtain ⟨_,h2,_⟩:=nJ (h.pf.mP ht).2.1
 refine ⟨azN (h2 x hx),(h.pf.mP ht).2.2,?_⟩
 have:=h.names t ht x hx
 simpa using this
theorem My (h:BA p) {t:dS} (ht:t∈iN p):ly (mj p t) (gJ p).length (gq (eu p)) p.locks.length=true∧CZ (mj p t):=by
 obtain ⟨azR,_,b,IB,hb2,hb3,hb4⟩:=nJ (h.pf.mP ht).2.1
 have NY:oZ t.body=some b:=by rw [IB]; exact o0 hb2
 have hq:kC b:=λ x hx=>by
  obtain ⟨_,h2,_⟩:=nJ (h.pf.mP ht).2.1
  exact (NM (h2 x (by rw [IB]; exact hx))).2
 have hlen:b.len≤40:=by rw [← Bk.cR,← IB]; exact azR
 have hd:=aeA b 0 hb3 hb2
 have MS:=tj b
 have BB:=(h.sz.2.2.2.2.2.2.2) t ht
 have hml:=ia p t.aN b 0 0 0
 have lF:=iX b
 rw [EM NY]
 have azS:qt ⟨t.aN.length,iY b,eT p t.aN b 0 0 0⟩ (gJ p).length (gq (eu p)) p.locks.length (eT p t.aN b 0 0 0) 0 (eT p t.aN b 0 0 0):=
  aey (c:=⟨t.aN.length,iY b,eT p t.aN b 0 0 0⟩) h rfl (eT p t.aN b 0 0 0) b 0 0 0 0 (λ k y hk=>by rw [Nat.zero_add]; exact hk) (by omega) hb3 hb2 hq (Int.le_refl _) (λ hh=>absurd rfl hh) (Int.le_refl _) (by show 0+iY b≤iY b; omega) (λ x hx=>h.stk ht x (by rw [IB]; exact hx))
 have hG:∀ (i:Nat) (x:aW),(eT p t.aN b 0 0 0)[i]? = some x→Ys ⟨t.aN.length,iY b,eT p t.aN b 0 0 0⟩ (gJ p).length (gq (eu p)) p.locks.length (eT p t.aN b 0 0 0) i x:=λ i x hx=>by
  have:=azS i x hx; rwa [Nat.zero_add] at this
 refine ⟨?_,?_,λ x hx=>?_⟩
 ·unfold ly
  have e1:vp ⟨t.aN.length,iY b,eT p t.aN b 0 0 0⟩=false:=by
   unfold vp
   simp only [Bool.or_eq_false_iff,decide_eq_false_iff_not]
   omega
  rw [e1,ng (f:=vn _ _ _ _) λ i hi=>?_,ng (f:=qK _) λ i hi=>?_]
  ·rfl
  ·obtain ⟨x,hx⟩:∃ x,(eT p t.aN b 0 0 0)[i]? = some x:=⟨_,List.getElem?_eq_getElem hi⟩
   have hg:=hG i x hx
   rw [xC hx]
   by_cases hk:x.kind=14
   ·rw [decide_eq_true hk,Bool.true_and]
    refine ng λ k JG=>?_
    obtain ⟨y,hy⟩:∃ y,(eT p t.aN b 0 0 0)[k]? = some y:=⟨_,List.getElem?_eq_getElem (by have hi:i<(eT p t.aN b 0 0 0).length:=hi; omega)⟩
    rw [Ay hy]
    by_cases hyk:y.kind=14
    ·rw [decide_eq_true hyk,Bool.true_and,Bool.not_eq_false',Bool.or_eq_true,decide_eq_true_eq,decide_eq_true_eq]
     by_cases h1:x.to≤k
     ·exact .inl (hg.nest hk k y h1 JG hy hyk)
     ·by_cases h2:(k:Int)+1<x.to
      ·exact .inr h2
      ·exfalso
       obtain ⟨z,hz,hz2⟩:=hg.b13 hk
       rw [show (x.to - 1).toNat=k from by omega,hy] at hz
       obtain rfl:=Option.some.inj hz
       omega
    ·rw [decide_eq_false hyk,Bool.false_and]
   ·rw [decide_eq_false hk,Bool.false_and]
  ·obtain ⟨x,hx⟩:∃ x,(eT p t.aN b 0 0 0)[i]? = some x:=⟨_,List.getElem?_eq_getElem hi⟩
   have hg:=hG i x hx
   rw [ux (show (⟨t.aN.length,iY b,eT p t.aN b 0 0 0⟩:fq).l[i]? = some x from hx),hg.fld,hg.to]; rfl
 ·show (eT p t.aN b 0 0 0).length≤1000; omega
 ·obtain ⟨i,hi⟩:=po (show x∈eT p t.aN b 0 0 0 from hx)
  have hf:=(hG i x hi).fld
  unfold vm efM at hf
  simp only [Bool.and_eq_true] at hf
  obtain ⟨⟨h1,h2⟩,_⟩:=hf
  refine ⟨?_,?_⟩
  ·split at h1
   ·unfold eN at h1; simp only [Bool.and_eq_true,decide_eq_true_eq] at h1; omega
   ·simp at h1; rw [h1]; simp
  ·split at h2
   ·unfold eN at h2; simp only [Bool.and_eq_true,decide_eq_true_eq] at h2; omega
   ·simp at h2; rw [h2]; simp
theorem Yw (a b c:Int):ly Lu a b c=true∧CZ Lu:=⟨rfl,by decide,λ x hx=>by cases hx⟩
theorem asM (h:BA p):ly (eu p).recover (gJ p).length (gq (eu p)) p.locks.length=true∧CZ (eu p).recover:=by
 show ly (match p.recover[0]? with | some t=>mj p t | none=>⟨0,0,[]⟩) _ _ _=true∧CZ (match p.recover[0]? with | some t=>mj p t | none=>⟨0,0,[]⟩)
 cases hr:p.recover[0]? with
 | none=>exact Yw _ _ _
 | some t=>exact My h (List.mem_append_right _ (List.mem_of_getElem? hr))
theorem qN (h:BA p):nA (eu p)=true∧UZ (eu p):=by
 obtain ⟨g1,g2,g3,g4,g5,g6,g7,g8⟩:=h.sz
 have mA:=h.gJ
 have gn:=FF p
 have NH:=HJ p
 have Cw:(eu p).dF.length=(gJ p).length:=by show ((gJ p).map _).length=_; rw [List.length_map]
 have Nk:(eu p).threads.length=p.threads.length:=by show (p.threads.map _).length=_; rw [List.length_map]
 have QK:(eu p).cC.length=p.cC.length:=by show (p.cC.map _).length=_; rw [List.length_map]
 have hth:∀ c∈(eu p).threads,ly c (gJ p).length (gq (eu p)) p.locks.length=true∧CZ c:=λ c hc=>by
  obtain ⟨t,ht,rfl⟩:=List.mem_map.1 (show c∈p.threads.map (mj p) from hc)
  exact My h (List.mem_append_left _ ht)
 have asN:∀ l∈(eu p).cC,eN l (eu p).stays=true∧l.length≤40:=λ l hl=>by
  obtain ⟨c,hc,rfl⟩:=List.mem_map.1 (show l∈p.cC.map (λ c=>gg (o7 p) c.e) from hl)
  refine xb (h.pf.cl c hc).2 (by simpa using h.cC c hc) ?_
  show eC p=((o7 p).length:Int)
  unfold o7 fe
  rw [List.length_take,List.length_map]; omega
 have alV:∀ c∈gJ p,0≤c.n∧c.n≤4294967296:=λ c hc=>by
  unfold gJ at hc
  rcases List.mem_append.1 hc with hc | hc
  ·obtain ⟨l,hl,azU⟩:=List.mem_flatten.1 hc
   have:=rE ((h.pf.lines l hl).2 c azU); exact ⟨this.2.2.1,this.2.2.2⟩
  ·have:=rE (h.pf.jV c hc); exact ⟨this.2.2.1,this.2.2.2⟩
 refine ⟨?_,?_⟩
 ·unfold nA
  have e1:kW (eu p)=false:=by
   unfold kW
   rw [NH,Cw,Nk]
   have e2:(eu p).stays=eC p:=rfl
   have e3:(eu p).locks=p.locks.length:=rfl
   rw [e2,e3]
   simp only [Bool.or_eq_false_iff,decide_eq_false_iff_not,not_true_eq_false,not_false_eq_true,and_true]
   omega
  have e2:(eu p).dF.any lB=false:=iM λ n hn=>by
   obtain ⟨c,hc,rfl⟩:=List.mem_map.1 (show n∈(gJ p).map dI.n from hn)
   have:=alV c hc
   unfold lB
   rw [decide_eq_false (by omega),decide_eq_false (by omega)]; rfl
  have e3:(List.range (eu p).lines.length).any (kf (eu p))=false:=ng λ i hi=>Pc h (by omega)
  have e4:(eu p).threads.any (λ c=>!ly c (eu p).lines.length (gq (eu p)) (eu p).locks)=false:=iM λ c hc=>by
   have:=(hth c hc).1
   rw [NH]
   show (!ly c (gJ p).length (gq (eu p)) p.locks.length)=false
   rw [this]; rfl
  have e5:(eu p).cC.any (λ l=>!eN l (eu p).stays)=false:=iM λ l hl=>by rw [(asN l hl).1]; rfl
  rw [e1,e2,e3,e4,e5,NH]
  show (!false && (!false && !false && !false && !false && ly (eu p).recover (gJ p).length (gq (eu p)) p.locks.length))=true
  rw [(asM h).1]; rfl
 ·exact ⟨by omega,by omega,by omega,by omega,λ c hc=>(hth c hc).2,(asM h).2,λ l hl=>by have:=(asN l hl).2; omega⟩
end
end Go.Proofs.YtnjcingfdhjfkaaGreat
