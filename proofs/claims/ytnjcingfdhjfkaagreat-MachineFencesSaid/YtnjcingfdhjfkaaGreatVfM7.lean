/-
 Part 7.
-/
import Derived.Test.YtnjcingfdhjfkaaGreatVfM6
set_option linter.all false
namespace Go.Proofs.YtnjcingfdhjfkaaGreat
open Go.Fw
structure fQ where
 at_:Int
 e:Int
 pos:Int
deriving DecidableEq
def ja (l:List bF) (s:fQ) (e:Int):fQ:=if s.e=0 then {s with e:=if (l.length:Int)≤s.at_ then 6 else e,pos:=mS l s.at_} else s
def dT (l:List bF) (s:fQ) (t:ByteArray):fQ:=if (decide (s.e=0) && sN l s.at_ t)=true then {s with at_:=s.at_+1} else ja l s 5
def kK (l:List bF) (i:Int):Option bF:=if 0≤i then l[i.toNat]? else none
def sO (l:List bF) (s:fQ):Bool:=decide (s.e=0) && (match kK l s.at_ with | some t=>decide (t.kind=1) && j9 t.text | none=>false)
def oQ (l:List bF) (i:Int):bF:=(kK l i).getD ⟨0,⟨#[]⟩,0,0⟩
def cX (l:List bF) (s:fQ):fQ × ByteArray:=if sO l s=true then ({s with at_:=s.at_+1},(oQ l s.at_).text) else (ja l s 5,⟨#[]⟩)
def qF (l:List bF) (s:fQ):Option (fQ × List dC):=if s.e≠0 then some (s,[]) else (vG l s.at_).bind λ R=>
 if R.2.2.1≠0 then some ({s with e:=R.2.2.1,pos:=R.2.2.2},[]) else if 0≤R.2.1∧R.2.1≤l.length then some ({s with at_:=R.2.1},R.1) else none
def O3 (l:List bF) (s:fQ):Bool:=decide (s.e=0) && (match kK l s.at_ with | some t=>decide (t.kind=2) | none=>false)
def kL (l:List bF) (s:fQ):fQ × Int:=if O3 l s=true then (if 1≤(oQ l s.at_).n∧(oQ l s.at_).n≤8 then ({s with at_:=s.at_+1},(oQ l s.at_).n) else (ja l s 11,0)) else (ja l s 5,0)
def Dm:List ByteArray:=[⟨#[]⟩,⟨#[]⟩,⟨#[108,111,97,100]⟩,⟨#[115,116,111,114,101]⟩,⟨#[99,97,115]⟩,⟨#[102,108,117,115,104]⟩,⟨#[111,112,116]⟩,⟨#[115,102,101,110,99,101]⟩,⟨#[109,102,101,110,99,101]⟩,⟨#[116,97,107,101]⟩,⟨#[103,105,118,101]⟩,⟨#[105,102]⟩,⟨#[108,111,111,112]⟩,⟨#[98,114,101,97,107]⟩,⟨#[99,104,101,99,107]⟩]
def HC (k:Int):ByteArray:=(Dm[k.toNat]?).getD ⟨#[]⟩
def lV (l:List bF) (s:fQ):Prop:=0≤s.at_∧s.at_≤l.length
section
variable {l:List bF} {s:fQ} {e:Int} {t:ByteArray}
theorem sP (h:lV l s):lV l (ja l s e):=by unfold ja; split <;> exact h
theorem fE (h:lV l s):lV l (dT l s t):=by
 unfold dT; split
 ·rename_i h2
  rw [Bool.and_eq_true] at h2
  have:=rN h2.2
  exact ⟨by show 0≤s.at_+1; omega,by show s.at_+1≤_; omega⟩
 ·exact sP h
theorem mA {i:Int} {k:bF} (h:kK l i=some k):0≤i∧i<l.length∧l[i.toNat]? = some k:=by
 unfold kK at h
 split at h
 ·have:=(List.getElem?_eq_some_iff.1 h).1; exact ⟨by omega,by omega,h⟩
 ·cases h
theorem AZ (h:sO l s=true):s.e=0∧∃ k,kK l s.at_=some k∧k.kind=1∧j9 k.text=true:=by
 unfold sO at h
 rw [Bool.and_eq_true,decide_eq_true_eq] at h
 refine ⟨h.1,?_⟩
 cases hk:kK l s.at_ with
 | none=>rw [hk] at h; cases h.2
 | some k=>
  rw [hk] at h
  have:=h.2; dsimp only at this
  rw [Bool.and_eq_true,decide_eq_true_eq] at this
  exact ⟨k,rfl,this⟩
theorem Rs (h:O3 l s=true):s.e=0∧∃ k,kK l s.at_=some k∧k.kind=2:=by
 unfold O3 at h
 rw [Bool.and_eq_true,decide_eq_true_eq] at h
 refine ⟨h.1,?_⟩
 cases hk:kK l s.at_ with
 | none=>rw [hk] at h; cases h.2
 | some k=>rw [hk] at h; exact ⟨k,rfl,by simpa using h.2⟩
theorem gC (h:lV l s):lV l (cX l s).1:=by
 unfold cX; split
 ·rename_i h2
  obtain ⟨_,k,hk,_⟩:=AZ h2
  have:=mA hk
  exact ⟨by show 0≤s.at_+1; omega,by show s.at_+1≤_; omega⟩
 ·exact sP h
theorem Tg (h:lV l s):lV l (kL l s).1:=by
 unfold kL; split
 ·rename_i h2
  obtain ⟨_,k,hk,_⟩:=Rs h2
  have:=mA hk
  split
  ·exact ⟨by show 0≤s.at_+1; omega,by show s.at_+1≤_; omega⟩
  ·exact sP h
 ·exact sP h
theorem rO {s':fQ} {x:List dC} (h:lV l s) (he:qF l s=some (s',x)):lV l s':=by
 unfold qF at he
 split at he
 ·cases he; exact h
 ·cases hx:vG l s.at_ with
  | none=>rw [hx] at he; cases he
  | some R=>
   rw [hx] at he
   simp only [Option.bind_some] at he
   split at he
   ·cases he; exact h
   ·split at he
    ·rename_i h2; cases he; exact h2
    ·cases he
end
@[reducible] def dZ (lv ov:Value) (s:fQ):List Value:=[lv,.int .i64 s.at_,.int .i64 s.e,.int .i64 s.pos,ov]
@[reducible] def en (lv:Value) (s:fQ):List Value:=[lv,.int .i64 s.at_,.int .i64 s.e,.int .i64 s.pos]
def gT (l:List bF) (s:fQ) (t:ByteArray):fQ × Bool:=if (decide (s.e=0) && sN l s.at_ t)=true then ({s with at_:=s.at_+1},true) else (s,false)
def fb (l:List bF) (s:fQ):fQ × dL:=if sO l s=true then ({s with at_:=s.at_+1},⟨(oQ l s.at_).text,0,(oQ l s.at_).at_⟩) else (ja l s 5,⟨⟨#[]⟩,0,0⟩)
theorem j5 {l:List bF} {s:fQ} {t:ByteArray} (h:lV l s):lV l (gT l s t).1:=by
 unfold gT; split
 ·rename_i h2
  rw [Bool.and_eq_true] at h2
  have:=rN h2.2
  exact ⟨by show 0≤s.at_+1; omega,by show s.at_+1≤_; omega⟩
 ·exact h
theorem uG {l:List bF} {s:fQ} (h:lV l s):lV l (fb l s).1:=by
 unfold fb; split
 ·rename_i h2
  obtain ⟨_,k,hk,_⟩:=AZ h2
  have:=mA hk
  exact ⟨by show 0≤s.at_+1; omega,by show s.at_+1≤_; omega⟩
 ·exact sP h
theorem X7 {l:List bF} {s s2:fQ} {x:List dC} (h:qF l s=some (s2,x)) (he:¬ s.e≠0):∃ R,vG l s.at_=some R∧
  (if R.2.2.1≠0 then some ({s with e:=R.2.2.1,pos:=R.2.2.2},[]) else if 0≤R.2.1∧R.2.1≤l.length then some ({s with at_:=R.2.1},R.1) else none)=some (s2,x):=by
 unfold qF at h; rw [if_neg he] at h
 cases hx:vG l s.at_ with
 | none=>rw [hx] at h; cases h
 | some R=>rw [hx] at h; exact ⟨R,rfl,h⟩
theorem X8 {l:List bF} {s s2:fQ} {x:List dC} {R:List dC × Int × Int × Int} (h:(if R.2.2.1≠0 then some ({s with e:=R.2.2.1,pos:=R.2.2.2},[]) else if 0≤R.2.1∧R.2.1≤l.length then some ({s with at_:=R.2.1},R.1) else none)=some (s2,x)) (he:¬ R.2.2.1≠0):0≤R.2.1∧R.2.1≤l.length:=by
 rw [if_neg he] at h
 split at h
 ·assumption
 ·cases h
theorem C254 (p:Nat) (lv ov:Value) (l:List bF) (s:fQ) (e:Int) (F:Nat→Prop) (w:World) (hF:(cH p (dZ lv ov s)).p w F) (hT:∀ w',iF F w w'→eP (λ _=>True) w' lv l) (hk:iD l) (h0:lV l s):CR 254 [(.pointer (some ⟨p,0,none⟩)),.int .i64 e] w (λ v w'=>v = .tuple #[]∧qy F (cH p (dZ lv ov (ja l s e))) w w'):=by
 have hs:=St.begin hF;have FR:=hk.n;have hn:l.length≤1000000:=by omega
 have te:=hk.at_;obtain ⟨Rt,Ru⟩:=id h0;refine abM _ _ _ _ ?_;unfold S254;refine aE (aA kz (aB nu hs.hb rfl (aH (aC (λ gu=>?_) (λ gu=>?_)))))
 ·refine aE (aA kz (aV hs nu (eK rfl) (rfl) (λ w1 hs=>?_)));refine ⟨_,?_,λ _ h=>h⟩;refine aE (aA eY (have hs:=hs.drew;aB bL hs.hb rfl (aE (aA gV (aB iS hs.hb rfl (aJ fH (hT _ hs.aF) (dK (aC (λ iT=>?_) (λ iT=>?_)))))))))
  ·refine aE (aA kz (aV hs nu (eK rfl) (rfl) (λ w2 hs=>?_)));intro fD;refine aE (aA gV (have hs:=hs.drew;aB iS hs.hb rfl (aE (aA eY (aB bL hs.hb rfl (aZ GI hs (C215 _ l s.at_ _ (hT _ hs.aF) hn te) (λ w4 he hs=>aE (aA zX (aV hs bL (eK rfl) (rfl) (λ w5 hs=>?_))))))))));have hb:ja l s e=(⟨s.at_,6,(mS l s.at_)⟩:fQ):=by unfold ja; rw [if_pos gu,if_pos iT]
   rw [hb];exact ⟨rfl,hs.mut⟩
  ·intro fD;refine aE (aA gV (have hs:=hs.drew;aB iS hs.hb rfl (aE (aA eY (aB bL hs.hb rfl (aZ GI hs (C215 _ l s.at_ _ (hT _ hs.aF) hn te) (λ w4 he hs=>aE (aA zX (aV hs bL (eK rfl) (rfl) (λ w5 hs=>?_))))))))));have hb:ja l s e=(⟨s.at_,e,(mS l s.at_)⟩:fQ):=by unfold ja; rw [if_pos gu,if_neg iT]
   rw [hb];exact ⟨rfl,hs.mut⟩
 ·have hb:ja l s e=s:=by unfold ja; rw [if_neg gu]
  rw [hb];exact ⟨rfl,hs.mut⟩
theorem C170 (p:Nat) (lv:Value) (l:List bF) (s:fQ) (F:Nat→Prop) (w:World) (hF:(cH p (en lv s)).p w F) (hT:∀ w',iF F w w'→eP (λ _=>True) w' lv l) (hk:iD l) (h0:lV l s):CR 170 [(.pointer (some ⟨p,0,none⟩))] w (λ v w'=>v = .tuple #[]∧qy F (cH p (en lv (ja l s 5))) w w'):=by
 have hs:=St.begin hF;have FR:=hk.n;have hn:l.length≤1000000:=by omega
 have te:=hk.at_;obtain ⟨Rt,Ru⟩:=id h0;refine aax _ _ _ ?_;unfold S170;refine aE (aA l9 (aB nu hs.hb rfl (aH (aC (λ oJ=>?_) (λ oJ=>?_)))))
 ·refine aE (aA l9 (aV hs nu (eK rfl) (rfl) (λ w1 hs=>?_)));refine ⟨_,?_,λ _ h=>h⟩;refine aE (aA ft (have hs:=hs.drew;aB bL hs.hb rfl (aE (aA jN (aB iS hs.hb rfl (aJ fH (hT _ hs.aF) (dK (aC (λ fB=>?_) (λ fB=>?_)))))))))
  ·refine aE (aA l9 (aV hs nu (eK rfl) (rfl) (λ w2 hs=>?_)));intro fD;refine aE (aA jN (have hs:=hs.drew;aB iS hs.hb rfl (aE (aA ft (aB bL hs.hb rfl (aZ GI hs (C215 _ l s.at_ _ (hT _ hs.aF) hn te) (λ w4 he hs=>aE (aA wb (aV hs bL (eK rfl) (rfl) (λ w5 hs=>?_))))))))));have hb:ja l s 5=(⟨s.at_,6,(mS l s.at_)⟩:fQ):=by unfold ja; rw [if_pos oJ,if_pos fB]
   rw [hb];exact ⟨rfl,hs.mut⟩
  ·intro fD;refine aE (aA jN (have hs:=hs.drew;aB iS hs.hb rfl (aE (aA ft (aB bL hs.hb rfl (aZ GI hs (C215 _ l s.at_ _ (hT _ hs.aF) hn te) (λ w4 he hs=>aE (aA wb (aV hs bL (eK rfl) (rfl) (λ w5 hs=>?_))))))))));have hb:ja l s 5=(⟨s.at_,5,(mS l s.at_)⟩:fQ):=by unfold ja; rw [if_pos oJ,if_neg fB]
   rw [hb];exact ⟨rfl,hs.mut⟩
 ·have hb:ja l s 5=s:=by unfold ja; rw [if_neg oJ]
  rw [hb];exact ⟨rfl,hs.mut⟩
theorem C234 (p:Nat) (lv ov:Value) (l:List bF) (s:fQ) (t:ByteArray) (F:Nat→Prop) (w:World) (hF:(cH p (dZ lv ov s)).p w F) (hT:∀ w',iF F w w'→eP (λ _=>True) w' lv l) (hk:iD l) (h0:lV l s):CR 234 [(.pointer (some ⟨p,0,none⟩)),.string t] w (λ v w'=>v = .tuple #[]∧qy F (cH p (dZ lv ov (dT l s t))) w w'):=by
 have hs:=St.begin hF;have FR:=hk.n;have hn:l.length≤1000000:=by omega
 have te:=hk.at_;obtain ⟨Rt,Ru⟩:=id h0;refine abr _ _ _ _ ?_;unfold S234;refine ⟨λ jv w'=>jv = .bool (decide (s.e=0) && sN l s.at_ t)∧St w F [cH p (dZ lv ov s)] w',?_,?_⟩
 ·refine aE (aA kz (have hs:=hs.drew;aB nu hs.hb rfl (aH (aC (λ gu=>?_) (λ gu=>?_)))))
  ·refine aE (aA gV (aB iS hs.hb rfl (aE (aA eY (aB bL hs.hb rfl (aZ vw hs (C211 _ l s.at_ t _ (hT _ hs.aF) hn) (λ w1 he hs=>?_)))))));exact ⟨vb (by first | (rw [decide_eq_true gu]; rfl) | (rw [decide_eq_false gu]; rfl)),hs⟩
  ·exact ⟨vb (by first | (rw [decide_eq_true gu]; rfl) | (rw [decide_eq_false gu]; rfl)),hs⟩
 ·rintro _ w2 ⟨rfl,hs⟩ fD;refine aX (λ jE=>?_) (λ jE=>?_)
  ·have azE:=rN (by rw [Bool.and_eq_true] at jE; exact jE.2);refine aE (aA eY (aB bL hs.hb rfl (aO (by omega) (aE (aA eY (aV hs bL (eK rfl) (rfl) (λ w3 hs=>?_)))))));have hb:dT l s t={s with at_:=s.at_+1}:=by unfold dT; rw [if_pos (by simpa using jE)]
   rw [hb];exact ⟨rfl,hs.mut⟩
  ·refine bI GL hs (H':=λ _=>cH p (dZ lv ov (ja l s 5))) (Φ:=λ _ _=>True) (λ F2 eW eF=>?_) ?_
   ·exact (C254 p lv ov l s 5 F2 _ eW (λ w' hc=>hT w' (eF w' hc).aF) hk h0).mono λ _ _ r=>r.mono λ _ _ h=>⟨trivial,h.2⟩
   rintro _ w4 _ hs;have hb:dT l s t=ja l s 5:=by unfold dT; rw [if_neg (by simpa using jE)]
   rw [hb];exact ⟨rfl,hs.mut⟩
theorem C165 (p:Nat) (lv:Value) (l:List bF) (s:fQ) (t:ByteArray) (F:Nat→Prop) (w:World) (hF:(cH p (en lv s)).p w F) (hT:∀ w',iF F w w'→eP (λ _=>True) w' lv l) (hk:iD l) (h0:lV l s):CR 165 [(.pointer (some ⟨p,0,none⟩)),.string t] w (λ v w'=>v = .bool (gT l s t).2∧qy F (cH p (en lv (gT l s t).1)) w w'):=by
 have hs:=St.begin hF;have FR:=hk.n;have hn:l.length≤1000000:=by omega
 have te:=hk.at_;obtain ⟨Rt,Ru⟩:=id h0;refine aas _ _ _ _ ?_;unfold S165;refine ⟨λ jv w'=>jv = .bool (decide (s.e=0) && sN l s.at_ t)∧St w F [cH p (en lv s)] w',?_,?_⟩
 ·refine aE (aA l9 (have hs:=hs.drew;aB nu hs.hb rfl (aH (aC (λ gA=>?_) (λ gA=>?_)))))
  ·refine aE (aA jN (aB iS hs.hb rfl (aE (aA ft (aB bL hs.hb rfl (aZ vw hs (C211 _ l s.at_ t _ (hT _ hs.aF) hn) (λ w1 he hs=>?_)))))));exact ⟨vb (by first | (rw [decide_eq_true gA]; rfl) | (rw [decide_eq_false gA]; rfl)),hs⟩
  ·exact ⟨vb (by first | (rw [decide_eq_true gA]; rfl) | (rw [decide_eq_false gA]; rfl)),hs⟩
 ·rintro _ w2 ⟨rfl,hs⟩ fD;refine aX (λ gz=>?_) (λ gz=>?_)
  ·have azE:=rN (by rw [Bool.and_eq_true] at gz; exact gz.2);refine aE (aA ft (aB bL hs.hb rfl (aO (by omega) (aE (aA ft (aV hs bL (eK rfl) (rfl) (λ w3 hs=>?_)))))));have hb:gT l s t=({s with at_:=s.at_+1},true):=by unfold gT; rw [if_pos (by simpa using gz)]
   rw [hb];exact ⟨rfl,hs.mut⟩
  ·have hb:gT l s t=(s,false):=by unfold gT; rw [if_neg (by simpa using gz)]
   rw [hb];exact ⟨rfl,hs.mut⟩
theorem C212 (p:Nat) (lv:Value) (l:List bF) (s:fQ) (t:ByteArray) (F:Nat→Prop) (w:World) (hF:(cH p (en lv s)).p w F) (hT:∀ w',iF F w w'→eP (λ _=>True) w' lv l) (hk:iD l) (h0:lV l s):CR 212 [(.pointer (some ⟨p,0,none⟩)),.string t] w (λ v w'=>v = .tuple #[]∧qy F (cH p (en lv (dT l s t))) w w'):=by
 have hs:=St.begin hF;have FR:=hk.n;have hn:l.length≤1000000:=by omega
 have te:=hk.at_;obtain ⟨Rt,Ru⟩:=id h0;refine aa6 _ _ _ _ ?_;unfold S212;refine bI yn hs (H':=λ _=>cH p (en lv (gT l s t).1)) (Φ:=λ v _=>v = .bool (gT l s t).2) (λ F2 eW eF=>?_) ?_
 ·exact C165 p lv l s t F2 _ eW (λ w' hc=>hT w' (eF w' hc).aF) hk h0
 rintro _ w1 rfl hs;refine cC (aX (λ iX=>?_) (λ iX=>?_))
 ·refine bI Qa hs (H':=λ _=>cH p (en lv (ja l (gT l s t).1 5))) (Φ:=λ _ _=>True) (λ F2 eW eF=>?_) ?_
  ·exact (C170 p lv l (gT l s t).1 F2 _ eW (λ w' hc=>hT w' (eF w' hc).aF) hk (j5 h0)).mono λ _ _ r=>r.mono λ _ _ h=>⟨trivial,h.2⟩
  rintro _ w2 _ hs
  have tH:dT l s t=ja l (gT l s t).1 5:=by
   have h7:(gT l s t).2=false:=by simpa using iX
   unfold gT at h7 ⊢; unfold dT
   split at h7
   ·cases h7
   ·rename_i h8; rw [if_neg h8,if_neg h8]
  rw [tH];exact ⟨rfl,hs.mut⟩
 ·have tH:dT l s t=(gT l s t).1:=by
   have h7:(gT l s t).2=true:=by simpa using iX
   unfold gT at h7 ⊢; unfold dT
   split at h7
   ·rename_i h8; rw [if_pos h8,if_pos h8]
   ·cases h7
  rw [tH];exact ⟨rfl,hs.mut⟩
theorem C260 (p:Nat) (lv ov:Value) (l:List bF) (s:fQ) (F:Nat→Prop) (w:World) (hF:(cH p (dZ lv ov s)).p w F) (hT:∀ w',iF F w w'→eP (λ _=>True) w' lv l) (hk:iD l) (h0:lV l s):CR 260 [(.pointer (some ⟨p,0,none⟩))] w (λ v w'=>v = .string (cX l s).2∧qy F (cH p (dZ lv ov (cX l s).1)) w w'):=by
 have hs:=St.begin hF;have FR:=hk.n;have hn:l.length≤1000000:=by omega
 have te:=hk.at_;obtain ⟨Rt,Ru⟩:=id h0;refine abS _ _ _ ?_;unfold S260;refine ⟨λ jv w'=>jv = .bool (sO l s)∧St w F [cH p (dZ lv ov s)] w',?_,?_⟩
 ·refine aE (aA kz (have hs:=hs.drew;aB nu hs.hb rfl (aH (aC (λ iX=>?_) (λ iX=>?_)))))
  ·refine aE (aA eY (aB bL hs.hb rfl (aE (aA gV (aB iS hs.hb rfl (aJ fH (hT _ hs.aF) (aR (aC (λ gj=>?_) (λ gj=>?_)))))))))
   ·refine aE (aA gV (aB iS hs.hb rfl (aE (aA eY (aB bL hs.hb rfl ?_)))));obtain ⟨Cs,lJ⟩:=gx (l) (i:=(s.at_).toNat) (by omega);refine aQ fH (hT _ hs.aF) (by omega) lJ (λ _ Em=>bT (Cs).kind lj Em rfl rfl (λ _ oo=>aD bL (oo) (aH (aC (λ jP=>?_) (λ jP=>?_)))))
    ·refine aE (aA gV (aB iS hs.hb rfl (aE (aA eY (aB bL hs.hb rfl (aQ fH (hT _ hs.aF) (by omega) lJ (λ _ yB=>bT (Cs).text m9 yB rfl rfl (λ _ AW=>aD kn (AW) (aZ tK hs (C161 _ _ (by have:=te _ (List.mem_of_getElem? lJ); omega)) (λ w1 he hs=>?_))))))))));exact ⟨vb (by unfold sO kK; first | (rw [decide_eq_false iX]; rfl) | (rw [if_pos (by omega),List.getElem?_eq_none (by omega)]; simp; done) | (rw [if_pos (by omega),lJ,decide_eq_true iX]; dsimp only; first | (rw [decide_eq_false jP]; rfl) | (rw [decide_eq_true jP]; rfl))),hs⟩
    ·exact ⟨vb (by unfold sO kK; first | (rw [decide_eq_false iX]; rfl) | (rw [if_pos (by omega),List.getElem?_eq_none (by omega)]; simp; done) | (rw [if_pos (by omega),lJ,decide_eq_true iX]; dsimp only; first | (rw [decide_eq_false jP]; rfl) | (rw [decide_eq_true jP]; rfl))),hs⟩
   ·exact ⟨vb (by unfold sO kK; first | (rw [decide_eq_false iX]; rfl) | (rw [if_pos (by omega),List.getElem?_eq_none (by omega)]; simp; done) | (rw [if_pos (by omega),lJ,decide_eq_true iX]; dsimp only; first | (rw [decide_eq_false jP]; rfl) | (rw [decide_eq_true jP]; rfl))),hs⟩
  ·exact ⟨vb (by unfold sO kK; first | (rw [decide_eq_false iX]; rfl) | (rw [if_pos (by omega),List.getElem?_eq_none (by omega)]; simp; done) | (rw [if_pos (by omega),lJ,decide_eq_true iX]; dsimp only; first | (rw [decide_eq_false jP]; rfl) | (rw [decide_eq_true jP]; rfl))),hs⟩
 ·rintro _ w2 ⟨rfl,hs⟩ fD;refine aX (λ rC=>?_) (λ rC=>?_)
  ·obtain ⟨_,tk,Bd,_,_⟩:=AZ rC;obtain ⟨asn,aeg,X9⟩:=mA Bd;have Tf:l[(s.at_+1 - 1).toNat]? = some tk:=by rw [← X9]; congr 2; omega
   refine aE (aA eY (aB bL hs.hb rfl (aO (by omega) (aE (aA eY (aV hs bL (eK rfl) (rfl) (λ w3 hs=>aE (aA gV (have hs:=hs.drew;aB iS hs.hb rfl (aE (aA eY (aB bL hs.hb rfl ?_))))))))))));refine gD (by omega) (aQ fH (hT _ hs.aF) (by omega) Tf (λ _ Co=>bT (tk).text m9 Co rfl rfl (λ _ Ya=>aD kn (Ya) ?_)));have hb:cX l s=({s with at_:=s.at_+1},tk.text):=by unfold cX; rw [if_pos rC]; unfold oQ; rw [Bd]; rfl
   rw [hb];exact ⟨rfl,hs.mut⟩
  ·refine bI GL hs (H':=λ _=>cH p (dZ lv ov (ja l s 5))) (Φ:=λ _ _=>True) (λ F2 eW eF=>?_) ?_
   ·exact (C254 p lv ov l s 5 F2 _ eW (λ w' hc=>hT w' (eF w' hc).aF) hk h0).mono λ _ _ r=>r.mono λ _ _ h=>⟨trivial,h.2⟩
   rintro _ w4 _ hs;have hb:cX l s=(ja l s 5,⟨#[]⟩):=by unfold cX; rw [if_neg (by simpa using rC)]
   rw [hb];exact ⟨rfl,hs.mut⟩
theorem C167 (p:Nat) (lv:Value) (l:List bF) (s:fQ) (F:Nat→Prop) (w:World) (hF:(cH p (en lv s)).p w F) (hT:∀ w',iF F w w'→eP (λ _=>True) w' lv l) (hk:iD l) (h0:lV l s):CR 167 [(.pointer (some ⟨p,0,none⟩))] w (λ v w'=>v=Flat.val (fb l s).2∧qy F (cH p (en lv (fb l s).1)) w w'):=by
 have hs:=St.begin hF;have FR:=hk.n;have hn:l.length≤1000000:=by omega
 have te:=hk.at_;obtain ⟨Rt,Ru⟩:=id h0;refine aau _ _ _ ?_;unfold S167;refine aN hs C5 (λ mf w1 hs=>?_);refine ⟨λ jv w'=>jv = .bool (sO l s)∧St w F [cH p (en lv s),cH mf (Flat.enc (⟨ByteArray.mk #[],0,0⟩:dL))] w',?_,?_⟩
 ·refine aE (aA l9 (have hs:=hs.drew;aB nu hs.p1.hb rfl (aH (aC (λ iX=>?_) (λ iX=>?_)))))
  ·refine aE (aA ft (aB bL hs.p1.hb rfl (aE (aA jN (aB iS hs.p1.hb rfl (aJ fH (hT _ hs.aF) (aR (aC (λ gj=>?_) (λ gj=>?_)))))))))
   ·refine aE (aA jN (aB iS hs.p1.hb rfl (aE (aA ft (aB bL hs.p1.hb rfl ?_)))));obtain ⟨Cs,lJ⟩:=gx (l) (i:=(s.at_).toNat) (by omega);refine aQ fH (hT _ hs.aF) (by omega) lJ (λ _ Em=>bT (Cs).kind lj Em rfl rfl (λ _ oo=>aD bL (oo) (aH (aC (λ jP=>?_) (λ jP=>?_)))))
    ·refine aE (aA jN (aB iS hs.p1.hb rfl (aE (aA ft (aB bL hs.p1.hb rfl (aQ fH (hT _ hs.aF) (by omega) lJ (λ _ yB=>bT (Cs).text m9 yB rfl rfl (λ _ AW=>aD kn (AW) (aZ tK hs (C161 _ _ (by have:=te _ (List.mem_of_getElem? lJ); omega)) (λ w2 he hs=>?_))))))))));have hs:=hs.p1;exact ⟨vb (by unfold sO kK; first | (rw [decide_eq_false iX]; rfl) | (rw [if_pos (by omega),List.getElem?_eq_none (by omega)]; simp; done) | (rw [if_pos (by omega),lJ,decide_eq_true iX]; dsimp only; first | (rw [decide_eq_false jP]; rfl) | (rw [decide_eq_true jP]; rfl))),hs⟩
    ·have hs:=hs.p1;exact ⟨vb (by unfold sO kK; first | (rw [decide_eq_false iX]; rfl) | (rw [if_pos (by omega),List.getElem?_eq_none (by omega)]; simp; done) | (rw [if_pos (by omega),lJ,decide_eq_true iX]; dsimp only; first | (rw [decide_eq_false jP]; rfl) | (rw [decide_eq_true jP]; rfl))),hs⟩
   ·have hs:=hs.p1;exact ⟨vb (by unfold sO kK; first | (rw [decide_eq_false iX]; rfl) | (rw [if_pos (by omega),List.getElem?_eq_none (by omega)]; simp; done) | (rw [if_pos (by omega),lJ,decide_eq_true iX]; dsimp only; first | (rw [decide_eq_false jP]; rfl) | (rw [decide_eq_true jP]; rfl))),hs⟩
  ·have hs:=hs.p1;exact ⟨vb (by unfold sO kK; first | (rw [decide_eq_false iX]; rfl) | (rw [if_pos (by omega),List.getElem?_eq_none (by omega)]; simp; done) | (rw [if_pos (by omega),lJ,decide_eq_true iX]; dsimp only; first | (rw [decide_eq_false jP]; rfl) | (rw [decide_eq_true jP]; rfl))),hs⟩
 ·rintro _ w3 ⟨rfl,hs⟩ fD;refine aX (λ rC=>?_) (λ rC=>?_)
  ·obtain ⟨_,tk,Bd,_,_⟩:=AZ rC;obtain ⟨asn,aeg,X9⟩:=mA Bd;have Tf:l[(s.at_+1 - 1).toNat]? = some tk:=by rw [← X9]; congr 2; omega
   refine aE (aA ft (aB bL hs.hb rfl (aO (by omega) (aE (aA ft (aV hs bL (eK rfl) (rfl) (λ w4 hs=>aE (aA jN (have hs:=hs.drew;aB iS hs.hb rfl (aE (aA ft (aB bL hs.hb rfl ?_))))))))))));refine gD (by omega) (aQ fH (hT _ hs.aF) (by omega) Tf (λ _ Co=>bT (tk).text m9 Co rfl rfl (λ _ Ya=>aD kn (Ya) (aE (aA jN (aB iS hs.hb rfl (aE (aA ft (aB bL hs.hb rfl (gD (by omega) (aQ fH (hT _ hs.aF) (by omega) Tf (λ _ aso=>bT (tk).at_ lq aso rfl rfl (λ _ Yb=>?_)))))))))))))
   refine aD bL (Yb) (pop (D3 _ _) (aI (x:=(⟨(tk).text,0,(tk).at_⟩:dL)) hs.p1 yr rfl rfl (λ w5 hs=>aD yr hs.At ?_)));have hs:=(hs).drop;have hb:fb l s=({s with at_:=s.at_+1},⟨tk.text,0,tk.at_⟩):=by unfold fb; rw [if_pos rC]; unfold oQ; rw [Bd]; rfl
   rw [hb];exact ⟨rfl,hs.mut⟩
  ·refine bI Qa hs (H':=λ _=>cH p (en lv (ja l s 5))) (Φ:=λ _ _=>True) (λ F2 eW eF=>?_) ?_
   ·exact (C170 p lv l s F2 _ eW (λ w' hc=>hT w' (eF w' hc).aF) hk h0).mono λ _ _ r=>r.mono λ _ _ h=>⟨trivial,h.2⟩
   rintro _ w6 _ hs;refine pop (acd) (aI (x:=(⟨(ByteArray.mk #[]),0,0⟩:dL)) hs.p1 yr rfl rfl (λ w7 hs=>aD yr hs.At ?_));have hs:=(hs).drop;have hb:fb l s=(ja l s 5,⟨⟨#[]⟩,0,0⟩):=by unfold fb; rw [if_neg (by simpa using rC)]
   rw [hb];exact ⟨rfl,hs.mut⟩
theorem C253 (k:Int) (w:World) (hk:0≤k∧k≤14):CR 253 [.int .i64 k] w (λ v w'=>v = .string (HC k)∧Ext w w'):=by
 have hs:=St.start w;refine abL _ _ _ ?_;unfold S253;refine bV (Dm) hs mY rfl rfl (eK rfl) (λ asj w1 hs=>?_);have hsl:Dm.length=15:=rfl;obtain ⟨azs,Mr⟩:=gx (Dm) (i:=(k).toNat) (by omega);refine dS hs mY (by omega) (by omega) (λ _ SG=>fY hs kn SG Mr ?_);refine ⟨?_,hs.drop.aF⟩;unfold HC;rw [Mr]; rfl
theorem C262 (p:Nat) (lv ov:Value) (l:List bF) (s:fQ) (F:Nat→Prop) (w:World) (hF:(cH p (dZ lv ov s)).p w F) (hT:∀ w',iF F w w'→eP (λ _=>True) w' lv l) (hk:iD l) (h0:lV l s):CR 262 [(.pointer (some ⟨p,0,none⟩))] w (λ v w'=>v = .int .i64 (kL l s).2∧qy F (cH p (dZ lv ov (kL l s).1)) w w'):=by
 have hs:=St.begin hF;have FR:=hk.n;have hn:l.length≤1000000:=by omega
 have te:=hk.at_;obtain ⟨Rt,Ru⟩:=id h0;refine abU _ _ _ ?_;unfold S262;refine ⟨λ jv w'=>jv = .bool (O3 l s)∧St w F [cH p (dZ lv ov s)] w',?_,?_⟩
 ·refine aE (aA kz (have hs:=hs.drew;aB nu hs.hb rfl (aH (aC (λ gu=>?_) (λ gu=>?_)))))
  ·refine aE (aA eY (aB bL hs.hb rfl (aE (aA gV (aB iS hs.hb rfl (aJ fH (hT _ hs.aF) (aR (aC (λ fB=>?_) (λ fB=>?_)))))))))
   ·refine aE (aA gV (aB iS hs.hb rfl (aE (aA eY (aB bL hs.hb rfl ?_)))));obtain ⟨El,lH⟩:=gx (l) (i:=(s.at_).toNat) (by omega);refine aQ fH (hT _ hs.aF) (by omega) lH (λ _ oo=>bT (El).kind lj oo rfl rfl (λ _ oN=>aD bL (oN) (aH ?_)));exact ⟨vb (by unfold O3 kK; first | (rw [decide_eq_false gu]; rfl) | (rw [if_pos (by omega),List.getElem?_eq_none (by omega)]; simp; done) | (rw [if_pos (by omega),lH,decide_eq_true gu]; rfl)),hs⟩
   ·exact ⟨vb (by unfold O3 kK; first | (rw [decide_eq_false gu]; rfl) | (rw [if_pos (by omega),List.getElem?_eq_none (by omega)]; simp; done) | (rw [if_pos (by omega),lH,decide_eq_true gu]; rfl)),hs⟩
  ·exact ⟨vb (by unfold O3 kK; first | (rw [decide_eq_false gu]; rfl) | (rw [if_pos (by omega),List.getElem?_eq_none (by omega)]; simp; done) | (rw [if_pos (by omega),lH,decide_eq_true gu]; rfl)),hs⟩
 ·rintro _ w1 ⟨rfl,hs⟩ fD;refine aX (λ iJ=>?_) (λ iJ=>?_)
  ·obtain ⟨_,tk,Bd,_⟩:=Rs iJ;obtain ⟨asn,aeg,Tf⟩:=mA Bd;refine aE (aA gV (have hs:=hs.drew;aB iS hs.hb rfl (aE (aA eY (aB bL hs.hb rfl (aQ fH (hT _ hs.aF) (by omega) Tf (λ _ yB=>bT (tk).n q9 yB rfl rfl (λ _ AW=>aD bL (AW) ?_))))))));refine ⟨λ jv w'=>jv = .bool (decide (1≤tk.n∧tk.n≤8))∧St w F [cH p (dZ lv ov s)] w',?_,?_⟩
   ·refine dK (aC (λ rC=>?_) (λ rC=>?_))
    ·refine kj ?_;exact ⟨vb (by first | exact (decide_eq_false (by omega)).symm | exact decide_eq_decide.2 (by omega)),hs⟩
    ·exact ⟨vb (by first | exact (decide_eq_false (by omega)).symm | exact decide_eq_decide.2 (by omega)),hs⟩
   ·rintro _ w2 ⟨rfl,hs⟩ jH;refine aC (λ pR=>?_) (λ pR=>?_)
    ·refine aE (aA eY (aB bL hs.hb rfl (aO (by omega) (aE (aA eY (aV hs bL (eK rfl) (rfl) (λ w3 hs=>?_)))))));have hb:kL l s=({s with at_:=s.at_+1},tk.n):=by unfold kL; rw [if_pos iJ]; unfold oQ; rw [Bd]; exact if_pos pR
     rw [hb];exact ⟨rfl,hs.mut⟩
    ·refine bI GL hs (H':=λ _=>cH p (dZ lv ov (ja l s 11))) (Φ:=λ _ _=>True) (λ F2 eW eF=>?_) ?_
     ·exact (C254 p lv ov l s 11 F2 _ eW (λ w' hc=>hT w' (eF w' hc).aF) hk h0).mono λ _ _ r=>r.mono λ _ _ h=>⟨trivial,h.2⟩
     rintro _ w4 _ hs;have hb:kL l s=(ja l s 11,0):=by unfold kL; rw [if_pos iJ]; unfold oQ; rw [Bd]; exact if_neg pR
     rw [hb];exact ⟨rfl,hs.mut⟩
  ·refine bI GL hs (H':=λ _=>cH p (dZ lv ov (ja l s 5))) (Φ:=λ _ _=>True) (λ F2 eW eF=>?_) ?_
   ·exact (C254 p lv ov l s 5 F2 _ eW (λ w' hc=>hT w' (eF w' hc).aF) hk h0).mono λ _ _ r=>r.mono λ _ _ h=>⟨trivial,h.2⟩
   rintro _ w5 _ hs;have hb:kL l s=(ja l s 5,0):=by unfold kL; rw [if_neg (by simpa using iJ)]
   rw [hb];exact ⟨rfl,hs.mut⟩
theorem C261 (p:Nat) (lv ov:Value) (l:List bF) (s:fQ) (s2:fQ) (x:List dC) (F:Nat→Prop) (w:World) (hF:(cH p (dZ lv ov s)).p w F) (hT:∀ w',iF F w w'→eP (λ _=>True) w' lv l) (hk:iD l) (h0:lV l s) (hr:qF l s=some (s2,x)):CR 261 [(.pointer (some ⟨p,0,none⟩))] w (λ v w'=>qy F (ua λ sv:SV=>fact (v=Flat.val sv) (sep (cH p (dZ lv ov s2)) (eL (λ w=>DL w (Flat.val sv) x)))) w w'):=by
 have hs:=St.begin hF;have FR:=hk.n;have hn:l.length≤1000000:=by omega
 have te:=hk.at_;obtain ⟨Rt,Ru⟩:=id h0;refine abT _ _ _ ?_;unfold S261;refine aE (aA kz (aB nu hs.hb rfl (cR (aC (λ gW=>?_) (λ gW=>?_)))))
 ·have hR:((s,[]):fQ × List dC)=(s2,x):=by unfold qF at hr; rw [if_pos gW] at hr; exact Option.some.inj hr
  cases hR;have hs:=(hs.gK (Φ:=λ w=>DL w (Flat.val (⟨none,0,0⟩:SV)) ([]:List dC)) λ w=>DL.nil w).p1;exact (St.eU (⟨none,0,0⟩:SV) (St.qx rfl (St.join hs))).mut
 ·refine aE (aA gV (have hs:=hs.drew;aB iS hs.hb rfl (aE (aA eY (aB bL hs.hb rfl ?_)))));obtain ⟨R,hxr,GF⟩:=X7 hr (by omega);refine eA afy (C214 l _ s.at_ R _ (hT _ hs.aF) hk (by omega) hxr) ?_;rintro _ w1 ⟨azG,rfl,cA⟩;have hs:=hs.made cA;refine bE rfl (bE rfl (bE rfl (bE rfl (cR (aC (λ gn=>?_) (λ gn=>?_))))))
  ·refine aE (aA kz (aV hs.p1 nu (eK rfl) (rfl) (λ w2 hs=>aE (aA zX (aV hs bL (eK rfl) (rfl) (λ w3 hs=>?_))))));have hR:(({s with e:=R.2.2.1,pos:=R.2.2.2},[]):fQ × List dC)=(s2,x):=by rw [if_pos gn] at GF; exact Option.some.inj GF
   cases hR;have hs:=((hs.p1.drop).gK (Φ:=λ w=>DL w (Flat.val (⟨none,0,0⟩:SV)) ([]:List dC)) λ w=>DL.nil w).p1;exact (St.eU (⟨none,0,0⟩:SV) (St.qx rfl (St.join hs))).mut
  ·have BJ:=X8 GF gn;refine aE (aA eY (aV hs.p1 bL (eK rfl) (rfl) (λ w4 hs=>?_)));have hR:(({s with at_:=R.2.1},R.1):fQ × List dC)=(s2,x):=by rw [if_neg gn,if_pos BJ] at GF; exact Option.some.inj GF
   cases hR;have hs:=hs.p1.p1;exact (St.eU azG (St.qx rfl (St.join hs))).mut
def M7 (k at_:Int):cI:=⟨k,⟨#[]⟩,⟨#[]⟩,[],[],0,0,0,at_⟩
abbrev JU:ByteArray:=⟨#[61]⟩
def T5 (l:List bF) (s:fQ):fQ:=dT l (cX l s).1 (ByteArray.mk #[61])
def s2M (l:List bF) (s:fQ):fQ:=dT l (cX l (T5 l s)).1 (ByteArray.mk #[44])
def kM (l:List bF) (s:fQ) (k a:Int):Option (fQ × cI):=
 if k=1 then (qF l (T5 l s)).bind λ r=>some (r.1,{M7 k a with gQ:=(cX l s).2,e:=r.2})
 else if k=2 then some ((cX l (T5 l s)).1,{M7 k a with gQ:=(cX l s).2,name:=(cX l (T5 l s)).2})
 else if k=3 then (qF l (T5 l s)).bind λ r=>some (r.1,{M7 k a with name:=(cX l s).2,e:=r.2})
 else if k=4 then (qF l (s2M l s)).bind λ r=>(qF l (dT l r.1 (ByteArray.mk #[44]))).bind λ q=>some (q.1,{M7 k a with gQ:=(cX l s).2,name:=(cX l (T5 l s)).2,e:=r.2,f:=q.2})
 else if k=5∨k=6∨k=9∨k=10 then some ((cX l s).1,{M7 k a with name:=(cX l s).2})
 else if k=11∨k=14 then (qF l s).bind λ r=>some (r.1,{M7 k a with e:=r.2})
 else if k=12 then some ((kL l s).1,{M7 k a with n:=(kL l s).2})
 else some (s,M7 k a)
section
variable {l:List bF} {s s':fQ} {k a:Int} {x:cI}
theorem eM {α β γ:Type} {o:Option (α × β)} {g:α × β→Option γ} {c:γ} (h:o.bind g=some c):∃ p q,o=some (p,q)∧g (p,q)=some c:=by
 cases o with
 | none=>cases h
 | some r=>exact ⟨r.1,r.2,rfl,h⟩
theorem Rv (h:kM l s k a=some (s',x)) (hk:k=1):∃ q e,qF l (T5 l s)=some (q,e)∧s'=q∧x={M7 k a with gQ:=(cX l s).2,e:=e}:=by
 unfold kM at h; rw [if_pos hk] at h
 obtain ⟨q,e,h1,h2⟩:=eM h
 cases h2; exact ⟨_,_,h1,rfl,rfl⟩
theorem Rw (h:kM l s k a=some (s',x)) (hk:k=2):s'=(cX l (T5 l s)).1∧x={M7 k a with gQ:=(cX l s).2,name:=(cX l (T5 l s)).2}:=by
 unfold kM at h; rw [if_neg (by omega),if_pos hk] at h; cases h; exact ⟨rfl,rfl⟩
theorem Rx (h:kM l s k a=some (s',x)) (hk:k=3):∃ q e,qF l (T5 l s)=some (q,e)∧s'=q∧x={M7 k a with name:=(cX l s).2,e:=e}:=by
 unfold kM at h; rw [if_neg (by omega),if_neg (by omega),if_pos hk] at h
 obtain ⟨q,e,h1,h2⟩:=eM h
 cases h2; exact ⟨_,_,h1,rfl,rfl⟩
theorem Ry (h:kM l s k a=some (s',x)) (hk:k=4):∃ q e q2 f,qF l (s2M l s)=some (q,e)∧qF l (dT l q (ByteArray.mk #[44]))=some (q2,f)∧s'=q2∧x={M7 k a with gQ:=(cX l s).2,name:=(cX l (T5 l s)).2,e:=e,f:=f}:=by
 unfold kM at h; rw [if_neg (by omega),if_neg (by omega),if_neg (by omega),if_pos hk] at h
 obtain ⟨q,e,h1,h2⟩:=eM h
 obtain ⟨q2,f,h3,h4⟩:=eM h2
 cases h4; exact ⟨_,_,_,_,h1,h3,rfl,rfl⟩
theorem Rz (h:kM l s k a=some (s',x)) (hk:k=5∨k=6∨k=9∨k=10):s'=(cX l s).1∧x={M7 k a with name:=(cX l s).2}:=by
 unfold kM at h; rw [if_neg (by omega),if_neg (by omega),if_neg (by omega),if_neg (by omega),if_pos hk] at h; cases h; exact ⟨rfl,rfl⟩
theorem Mu (h:kM l s k a=some (s',x)) (hk:k=11∨k=14):∃ q e,qF l s=some (q,e)∧s'=q∧x={M7 k a with e:=e}:=by
 unfold kM at h; rw [if_neg (by omega),if_neg (by omega),if_neg (by omega),if_neg (by omega),if_neg (by omega),if_pos hk] at h
 obtain ⟨q,e,h1,h2⟩:=eM h
 cases h2; exact ⟨_,_,h1,rfl,rfl⟩
theorem Mv (h:kM l s k a=some (s',x)) (hk:k=12):s'=(kL l s).1∧x={M7 k a with n:=(kL l s).2}:=by
 unfold kM at h; rw [if_neg (by omega),if_neg (by omega),if_neg (by omega),if_neg (by omega),if_neg (by omega),if_neg (by omega),if_pos hk] at h; cases h; exact ⟨rfl,rfl⟩
theorem Mw (h:kM l s k a=some (s',x)) (h1:¬ k=1) (h2:¬ k=2) (h3:¬ k=3) (h4:¬ k=4) (h5:¬ (k=5∨k=6∨k=9∨k=10)) (h6:¬ (k=11∨k=14)) (h7:¬ k=12):s'=s∧x=M7 k a:=by
 unfold kM at h; rw [if_neg h1,if_neg h2,if_neg h3,if_neg h4,if_neg h5,if_neg h6,if_neg h7] at h; cases h; exact ⟨rfl,rfl⟩
end
theorem B7 {l:List bF} {s s':fQ} {k a:Int} {x:cI} (h0:lV l s) (h:kM l s k a=some (s',x)):lV l s':=by
 have SD:lV l (T5 l s):=fE (gC h0)
 have hs2:lV l (s2M l s):=fE (gC SD)
 by_cases h1:k=1
 ·obtain ⟨q,e,he,rfl,_⟩:=Rv h h1; exact rO SD he
 by_cases h2:k=2
 ·obtain ⟨rfl,_⟩:=Rw h h2; exact gC SD
 by_cases h3:k=3
 ·obtain ⟨q,e,he,rfl,_⟩:=Rx h h3; exact rO SD he
 by_cases h4:k=4
 ·obtain ⟨q,e,q2,f,he,hf,rfl,_⟩:=Ry h h4; exact rO (fE (rO hs2 he)) hf
 by_cases h5:k=5∨k=6∨k=9∨k=10
 ·obtain ⟨rfl,_⟩:=Rz h h5; exact gC h0
 by_cases h6:k=11∨k=14
 ·obtain ⟨q,e,he,rfl,_⟩:=Mu h h6; exact rO h0 he
 by_cases h7:k=12
 ·obtain ⟨rfl,_⟩:=Mv h h7; exact Tg h0
 ·obtain ⟨rfl,_⟩:=Mw h h1 h2 h3 h4 h5 h6 h7; exact h0
theorem wX {α σ:Type} [Flat σ] [bZ α σ] {w w0:World} {A:Nat→Prop} {L:List HP} {B:HP} {sh:σ} {x:α} (hs:St w0 A (B::eL (λ w=>bZ.dr w sh x)::L) w) :
  St w0 A ((ua λ s:σ=>fact (Flat.val sh=Flat.val s) (sep B (eL (λ w=>bZ.dr w s x))))::L) w:=
 St.eU (H:=λ s:σ=>fact (Flat.val sh=Flat.val s) (sep B (eL (λ w=>bZ.dr w s x)))) sh (St.qx rfl (St.join hs))
set_option maxHeartbeats 2000000 in
theorem C255 (p:Nat) (lv ov:Value) (l:List bF) (s:fQ) (kd a:Int) (s2:fQ) (x:cI) (F:Nat→Prop) (w:World) (hF:(cH p (dZ lv ov s)).p w F) (hT:∀ w',iF F w w'→eP (λ _=>True) w' lv l) (hk:iD l) (h0:lV l s) (hp:kM l s kd a=some (s2,x)):CR 255 [(.pointer (some ⟨p,0,none⟩)),.int .i64 kd,.int .i64 a] w (λ v w'=>qy F (ua λ sh:bY=>fact (v=Flat.val sh) (sep (cH p (dZ lv ov s2)) (eL (λ w=>bZ.dr w sh x)))) w w'):=by
 have hs:=St.begin hF;have FR:=hk.n;have hn:l.length≤1000000:=by omega
 have te:=hk.at_;obtain ⟨Rt,Ru⟩:=id h0;refine abN _ _ _ _ _ ?_;unfold S255;refine aN hs qI (λ OA w1 hs=>have hs:=hs.enc (cs':=Flat.enc (⟨0,(ByteArray.mk #[]),(ByteArray.mk #[]),⟨none,0,0⟩,⟨none,0,0⟩,0,0,0,0⟩:bY)) rfl;pop (NA _ _) (aN hs qI (λ BA w2 hs=>have hs:=hs.enc (cs':=Flat.enc (⟨0,(ByteArray.mk #[]),(ByteArray.mk #[]),⟨none,0,0⟩,⟨none,0,0⟩,0,0,0,0⟩:bY)) rfl;aI (x:=(⟨kd,(ByteArray.mk #[]),(ByteArray.mk #[]),⟨none,0,0⟩,⟨none,0,0⟩,0,0,0,a⟩:bY)) hs gb rfl rfl (λ w3 hs=>?_))));refine ⟨_,?_,λ _ h=>h⟩;refine aH (aC (λ kP=>?_) (λ kP=>?_))
 ·obtain ⟨q,e,hex,rfl,rfl⟩:=Rv hp kP;refine bI DI hs.p2 (H':=λ _=>cH p (dZ lv ov (cX l s).1)) (Φ:=λ v _=>v = .string (cX l s).2) (λ F2 eW eF=>?_) ?_
  ·exact C260 p lv ov l s F2 _ eW (λ w' hc=>hT w' (eF w' hc).aF) hk h0
  rintro _ w4 rfl hs;refine aA l7 (aV hs.p1 kn (eK rfl) (rfl) (λ w5 hs=>have hs:=hs.enc (cs':=Flat.enc (⟨kd,(cX l s).2,(ByteArray.mk #[]),⟨none,0,0⟩,⟨none,0,0⟩,0,0,0,a⟩:bY)) rfl;bI yo hs.p1 (H':=λ _=>cH p (dZ lv ov (dT l (cX l s).1 (ByteArray.mk #[61])))) (Φ:=λ _ _=>True) (λ F2 eW eF=>?_) ?_))
  ·exact (C234 p lv ov l (cX l s).1 (ByteArray.mk #[61]) F2 _ eW (λ w' hc=>hT w' (eF w' hc).aF) hk (gC h0)).mono λ _ _ r=>r.mono λ _ _ h=>⟨trivial,h.2⟩
  rintro _ w6 _ hs;refine bI Ks hs (H':=λ v=>ua λ sv:SV=>fact (v=Flat.val sv) (sep (cH p (dZ lv ov s2)) (eL (λ w=>DL w (Flat.val sv) e)))) (Φ:=λ _ _=>True) (λ F2 eW eF=>?_) ?_
  ·exact (C261 p lv ov l (dT l (cX l s).1 (ByteArray.mk #[61])) s2 e F2 _ eW (λ w' hc=>hT w' (eF w' hc).aF) hk (fE (gC h0)) hex).mono λ _ _ r=>r.mono λ _ _ h=>⟨trivial,h⟩
  rintro v_x20 w7 _ AT;obtain ⟨O4,AU⟩:=AT.eZ
  clear AT
  obtain ⟨alv,Dh⟩:=AU.oL
  clear AU
  subst alv;have hs:=Dh.split;refine aA l8 (aV hs.p2 mX (eK rfl) (rfl) (λ w8 hs=>?_));have hs:=hs.enc (cs':=Flat.enc (⟨kd,(cX l s).2,(ByteArray.mk #[]),O4,⟨none,0,0⟩,0,0,0,a⟩:bY)) rfl;intro oY;refine aD gb hs.At (aI (x:=(⟨kd,(cX l s).2,(ByteArray.mk #[]),O4,⟨none,0,0⟩,0,0,0,a⟩:bY)) hs.p3 gb rfl rfl (λ WL hs=>aD gb hs.At ?_));have hs:=hs.p3.dU (Ψ:=(λ w=>bZ.dr w (⟨kd,(cX l s).2,(ByteArray.mk #[]),O4,⟨none,0,0⟩,0,0,0,a⟩:bY) (⟨kd,(cX l s).2,(ByteArray.mk #[]),e,[],0,0,0,a⟩:cI))) (λ w h=>⟨_,_,rfl,id (h),DL.nil _⟩);have hs:=((hs.p1.drop.p1).drop).p1
  exact (wX hs).mut
 ·refine aH (aC (λ iV=>?_) (λ iV=>?_))
  ·obtain ⟨rfl,rfl⟩:=Rw hp iV;refine bI DI hs.p2 (H':=λ _=>cH p (dZ lv ov (cX l s).1)) (Φ:=λ v _=>v = .string (cX l s).2) (λ F2 eW eF=>?_) ?_
   ·exact C260 p lv ov l s F2 _ eW (λ w' hc=>hT w' (eF w' hc).aF) hk h0
   rintro _ w9 rfl hs;refine aA l7 (aV hs.p1 kn (eK rfl) (rfl) (λ pP hs=>have hs:=hs.enc (cs':=Flat.enc (⟨kd,(cX l s).2,(ByteArray.mk #[]),⟨none,0,0⟩,⟨none,0,0⟩,0,0,0,a⟩:bY)) rfl;bI yo hs.p1 (H':=λ _=>cH p (dZ lv ov (dT l (cX l s).1 (ByteArray.mk #[61])))) (Φ:=λ _ _=>True) (λ F2 eW eF=>?_) ?_))
   ·exact (C234 p lv ov l (cX l s).1 (ByteArray.mk #[61]) F2 _ eW (λ w' hc=>hT w' (eF w' hc).aF) hk (gC h0)).mono λ _ _ r=>r.mono λ _ _ h=>⟨trivial,h.2⟩
   rintro _ sZ _ hs;refine bI DI hs (H':=λ _=>cH p (dZ lv ov (cX l (dT l (cX l s).1 (ByteArray.mk #[61]))).1)) (Φ:=λ v _=>v = .string (cX l (dT l (cX l s).1 (ByteArray.mk #[61]))).2) (λ F2 eW eF=>?_) ?_
   ·exact C260 p lv ov l (dT l (cX l s).1 (ByteArray.mk #[61])) F2 _ eW (λ w' hc=>hT w' (eF w' hc).aF) hk (fE (gC h0))
   rintro _ vy rfl hs;refine aA jq (aV hs.p1 kn (eK rfl) (rfl) (λ vz hs=>?_));have hs:=hs.enc (cs':=Flat.enc (⟨kd,(cX l s).2,(cX l (dT l (cX l s).1 (ByteArray.mk #[61]))).2,⟨none,0,0⟩,⟨none,0,0⟩,0,0,0,a⟩:bY)) rfl;intro oY;refine aD gb hs.At (aI (x:=(⟨kd,(cX l s).2,(cX l (dT l (cX l s).1 (ByteArray.mk #[61]))).2,⟨none,0,0⟩,⟨none,0,0⟩,0,0,0,a⟩:bY)) hs.p2 gb rfl rfl (λ WL hs=>aD gb hs.At ?_));have hs:=hs.gK (Φ:=(λ w=>bZ.dr w (⟨kd,(cX l s).2,(cX l (dT l (cX l s).1 (ByteArray.mk #[61]))).2,⟨none,0,0⟩,⟨none,0,0⟩,0,0,0,a⟩:bY) (⟨kd,(cX l s).2,(cX l (dT l (cX l s).1 (ByteArray.mk #[61]))).2,[],[],0,0,0,a⟩:cI))) (λ w=>⟨_,_,rfl,DL.nil _,DL.nil _⟩)
   have hs:=((hs.p1.drop.p1).drop).p1;exact (wX hs).mut
  ·refine aH (aC (λ nE=>?_) (λ nE=>?_))
   ·obtain ⟨q,e,hex,rfl,rfl⟩:=Rx hp nE;refine bI DI hs.p2 (H':=λ _=>cH p (dZ lv ov (cX l s).1)) (Φ:=λ v _=>v = .string (cX l s).2) (λ F2 eW eF=>?_) ?_
    ·exact C260 p lv ov l s F2 _ eW (λ w' hc=>hT w' (eF w' hc).aF) hk h0
    rintro _ su rfl hs;refine aA jq (aV hs.p1 kn (eK rfl) (rfl) (λ wm hs=>have hs:=hs.enc (cs':=Flat.enc (⟨kd,(ByteArray.mk #[]),(cX l s).2,⟨none,0,0⟩,⟨none,0,0⟩,0,0,0,a⟩:bY)) rfl;bI yo hs.p1 (H':=λ _=>cH p (dZ lv ov (dT l (cX l s).1 (ByteArray.mk #[61])))) (Φ:=λ _ _=>True) (λ F2 eW eF=>?_) ?_))
    ·exact (C234 p lv ov l (cX l s).1 (ByteArray.mk #[61]) F2 _ eW (λ w' hc=>hT w' (eF w' hc).aF) hk (gC h0)).mono λ _ _ r=>r.mono λ _ _ h=>⟨trivial,h.2⟩
    rintro _ zq _ hs;refine bI Ks hs (H':=λ v=>ua λ sv:SV=>fact (v=Flat.val sv) (sep (cH p (dZ lv ov s2)) (eL (λ w=>DL w (Flat.val sv) e)))) (Φ:=λ _ _=>True) (λ F2 eW eF=>?_) ?_
    ·exact (C261 p lv ov l (dT l (cX l s).1 (ByteArray.mk #[61])) s2 e F2 _ eW (λ w' hc=>hT w' (eF w' hc).aF) hk (fE (gC h0)) hex).mono λ _ _ r=>r.mono λ _ _ h=>⟨trivial,h⟩
    rintro v_x40 CH _ AT;obtain ⟨O5,AU⟩:=AT.eZ
    clear AT
    obtain ⟨alw,Dh⟩:=AU.oL
    clear AU
    subst alw;have hs:=Dh.split;refine aA l8 (aV hs.p2 mX (eK rfl) (rfl) (λ IN hs=>?_));have hs:=hs.enc (cs':=Flat.enc (⟨kd,(ByteArray.mk #[]),(cX l s).2,O5,⟨none,0,0⟩,0,0,0,a⟩:bY)) rfl;intro oY;refine aD gb hs.At (aI (x:=(⟨kd,(ByteArray.mk #[]),(cX l s).2,O5,⟨none,0,0⟩,0,0,0,a⟩:bY)) hs.p3 gb rfl rfl (λ WL hs=>aD gb hs.At ?_));have hs:=hs.p3.dU (Ψ:=(λ w=>bZ.dr w (⟨kd,(ByteArray.mk #[]),(cX l s).2,O5,⟨none,0,0⟩,0,0,0,a⟩:bY) (⟨kd,(ByteArray.mk #[]),(cX l s).2,e,[],0,0,0,a⟩:cI))) (λ w h=>⟨_,_,rfl,id (h),DL.nil _⟩);have hs:=((hs.p1.drop.p1).drop).p1
    exact (wX hs).mut
   ·refine aH (aC (λ ug=>?_) (λ ug=>?_))
    ·obtain ⟨q,e,q2,f,hex,hfx,rfl,rfl⟩:=Ry hp ug;refine bI DI hs.p2 (H':=λ _=>cH p (dZ lv ov (cX l s).1)) (Φ:=λ v _=>v = .string (cX l s).2) (λ F2 eW eF=>?_) ?_
     ·exact C260 p lv ov l s F2 _ eW (λ w' hc=>hT w' (eF w' hc).aF) hk h0
     rintro _ JQ rfl hs;refine aA l7 (aV hs.p1 kn (eK rfl) (rfl) (λ Lc hs=>have hs:=hs.enc (cs':=Flat.enc (⟨kd,(cX l s).2,(ByteArray.mk #[]),⟨none,0,0⟩,⟨none,0,0⟩,0,0,0,a⟩:bY)) rfl;bI yo hs.p1 (H':=λ _=>cH p (dZ lv ov (dT l (cX l s).1 (ByteArray.mk #[61])))) (Φ:=λ _ _=>True) (λ F2 eW eF=>?_) ?_))
     ·exact (C234 p lv ov l (cX l s).1 (ByteArray.mk #[61]) F2 _ eW (λ w' hc=>hT w' (eF w' hc).aF) hk (gC h0)).mono λ _ _ r=>r.mono λ _ _ h=>⟨trivial,h.2⟩
     rintro _ M4 _ hs;refine bI DI hs (H':=λ _=>cH p (dZ lv ov (cX l (dT l (cX l s).1 (ByteArray.mk #[61]))).1)) (Φ:=λ v _=>v = .string (cX l (dT l (cX l s).1 (ByteArray.mk #[61]))).2) (λ F2 eW eF=>?_) ?_
     ·exact C260 p lv ov l (dT l (cX l s).1 (ByteArray.mk #[61])) F2 _ eW (λ w' hc=>hT w' (eF w' hc).aF) hk (fE (gC h0))
     rintro _ QS rfl hs;refine aA jq (aV hs.p1 kn (eK rfl) (rfl) (λ T3 hs=>have hs:=hs.enc (cs':=Flat.enc (⟨kd,(cX l s).2,(cX l (dT l (cX l s).1 (ByteArray.mk #[61]))).2,⟨none,0,0⟩,⟨none,0,0⟩,0,0,0,a⟩:bY)) rfl;bI yo hs.p1 (H':=λ _=>cH p (dZ lv ov (dT l (cX l (dT l (cX l s).1 (ByteArray.mk #[61]))).1 (ByteArray.mk #[44])))) (Φ:=λ _ _=>True) (λ F2 eW eF=>?_) ?_))
     ·exact (C234 p lv ov l (cX l (dT l (cX l s).1 (ByteArray.mk #[61]))).1 (ByteArray.mk #[44]) F2 _ eW (λ w' hc=>hT w' (eF w' hc).aF) hk (gC (fE (gC h0)))).mono λ _ _ r=>r.mono λ _ _ h=>⟨trivial,h.2⟩
     rintro _ Wk _ hs;refine bI Ks hs (H':=λ v=>ua λ sv:SV=>fact (v=Flat.val sv) (sep (cH p (dZ lv ov q)) (eL (λ w=>DL w (Flat.val sv) e)))) (Φ:=λ _ _=>True) (λ F2 eW eF=>?_) ?_
     ·exact (C261 p lv ov l (dT l (cX l (dT l (cX l s).1 (ByteArray.mk #[61]))).1 (ByteArray.mk #[44])) q e F2 _ eW (λ w' hc=>hT w' (eF w' hc).aF) hk (fE (gC (fE (gC h0)))) hex).mono λ _ _ r=>r.mono λ _ _ h=>⟨trivial,h⟩
     rintro v_x55 SB _ AT;obtain ⟨Fk,AU⟩:=AT.eZ
     clear AT
     obtain ⟨alx,Dh⟩:=AU.oL
     clear AU
     subst alx;have hs:=Dh.split;refine aA l8 (aV hs.p2 mX (eK rfl) (rfl) (λ w26 hs=>have hs:=hs.enc (cs':=Flat.enc (⟨kd,(cX l s).2,(cX l (dT l (cX l s).1 (ByteArray.mk #[61]))).2,Fk,⟨none,0,0⟩,0,0,0,a⟩:bY)) rfl;bI yo hs.p1 (H':=λ _=>cH p (dZ lv ov (dT l q (ByteArray.mk #[44])))) (Φ:=λ _ _=>True) (λ F2 eW eF=>?_) ?_))
     ·exact (C234 p lv ov l q (ByteArray.mk #[44]) F2 _ eW (λ w' hc=>hT w' (eF w' hc).aF) hk (rO (fE (gC (fE (gC h0)))) hex)).mono λ _ _ r=>r.mono λ _ _ h=>⟨trivial,h.2⟩
     rintro _ w27 _ hs;refine bI Ks hs (H':=λ v=>ua λ sv:SV=>fact (v=Flat.val sv) (sep (cH p (dZ lv ov s2)) (eL (λ w=>DL w (Flat.val sv) f)))) (Φ:=λ _ _=>True) (λ F2 eW eF=>?_) ?_
     ·exact (C261 p lv ov l (dT l q (ByteArray.mk #[44])) s2 f F2 _ eW (λ w' hc=>hT w' (eF w' hc).aF) hk (fE (rO (fE (gC (fE (gC h0)))) hex)) hfx).mono λ _ _ r=>r.mono λ _ _ h=>⟨trivial,h⟩
     rintro v_x60 w28 _ AT;obtain ⟨BO,AU⟩:=AT.eZ
     clear AT
     obtain ⟨aly,Dh⟩:=AU.oL
     clear AU
     subst aly;have hs:=Dh.split;refine aA nZ (aV hs.p2 mX (eK rfl) (rfl) (λ w29 hs=>?_));have hs:=hs.enc (cs':=Flat.enc (⟨kd,(cX l s).2,(cX l (dT l (cX l s).1 (ByteArray.mk #[61]))).2,Fk,BO,0,0,0,a⟩:bY)) rfl;intro oY;refine aD gb hs.At (aI (x:=(⟨kd,(cX l s).2,(cX l (dT l (cX l s).1 (ByteArray.mk #[61]))).2,Fk,BO,0,0,0,a⟩:bY)) hs.p4 gb rfl rfl (λ WL hs=>aD gb hs.At ?_));have hs:=hs.p4.p4.p1.fP.dU (Ψ:=(λ w=>bZ.dr w (⟨kd,(cX l s).2,(cX l (dT l (cX l s).1 (ByteArray.mk #[61]))).2,Fk,BO,0,0,0,a⟩:bY) (⟨kd,(cX l s).2,(cX l (dT l (cX l s).1 (ByteArray.mk #[61]))).2,e,f,0,0,0,a⟩:cI))) (λ w h=>⟨_,_,rfl,id (h.1),id (h.2)⟩)
     have hs:=((hs.p1.drop.p1).drop).p1;exact (wX hs).mut
    ·refine ⟨λ jv w'=>jv = .bool (decide (kd=5∨kd=6∨kd=9∨kd=10))∧w3=w',?_,?_⟩
     ·refine aH (aC (λ We=>?_) (λ We=>?_))
      ·exact ⟨vb (by grind),rfl⟩
      ·refine aH (aC (λ qB=>?_) (λ qB=>?_))
       ·exact ⟨vb (by grind),rfl⟩
       ·refine aH (aC (λ nj=>?_) (λ nj=>?_))
        ·exact ⟨vb (by grind),rfl⟩
        ·refine aH ?_;exact ⟨vb (by grind),rfl⟩
     ·rintro _ w30 ⟨rfl,hw⟩ fD;subst hw;refine aC (λ sD=>?_) (λ sD=>?_)
      ·obtain ⟨rfl,rfl⟩:=Rz hp sD;refine bI DI hs.p2 (H':=λ _=>cH p (dZ lv ov (cX l s).1)) (Φ:=λ v _=>v = .string (cX l s).2) (λ F2 eW eF=>?_) ?_
       ·exact C260 p lv ov l s F2 _ eW (λ w' hc=>hT w' (eF w' hc).aF) hk h0
       rintro _ w31 rfl hs;refine aA jq (aV hs.p1 kn (eK rfl) (rfl) (λ w32 hs=>?_));have hs:=hs.enc (cs':=Flat.enc (⟨kd,(ByteArray.mk #[]),(cX l s).2,⟨none,0,0⟩,⟨none,0,0⟩,0,0,0,a⟩:bY)) rfl;intro oY;refine aD gb hs.At (aI (x:=(⟨kd,(ByteArray.mk #[]),(cX l s).2,⟨none,0,0⟩,⟨none,0,0⟩,0,0,0,a⟩:bY)) hs.p2 gb rfl rfl (λ WL hs=>aD gb hs.At ?_));have hs:=hs.gK (Φ:=(λ w=>bZ.dr w (⟨kd,(ByteArray.mk #[]),(cX l s).2,⟨none,0,0⟩,⟨none,0,0⟩,0,0,0,a⟩:bY) (⟨kd,(ByteArray.mk #[]),(cX l s).2,[],[],0,0,0,a⟩:cI))) (λ w=>⟨_,_,rfl,DL.nil _,DL.nil _⟩);have hs:=((hs.p1.drop.p1).drop).p1
       exact (wX hs).mut
      ·refine ⟨λ jv w'=>jv = .bool (decide (kd=11∨kd=14))∧w3=w',?_,?_⟩
       ·refine aH (aC (λ ry=>?_) (λ ry=>?_))
        ·exact ⟨vb (by grind),rfl⟩
        ·refine aH ?_;exact ⟨vb (by grind),rfl⟩
       ·rintro _ w33 ⟨rfl,hw⟩ jH;subst hw;refine aC (λ EE=>?_) (λ EE=>?_)
        ·obtain ⟨q,e,hex,rfl,rfl⟩:=Mu hp EE;refine bI Ks hs.p2 (H':=λ v=>ua λ sv:SV=>fact (v=Flat.val sv) (sep (cH p (dZ lv ov s2)) (eL (λ w=>DL w (Flat.val sv) e)))) (Φ:=λ _ _=>True) (λ F2 eW eF=>?_) ?_
         ·exact (C261 p lv ov l s s2 e F2 _ eW (λ w' hc=>hT w' (eF w' hc).aF) hk h0 hex).mono λ _ _ r=>r.mono λ _ _ h=>⟨trivial,h⟩
         rintro v_x74 w34 _ AT;obtain ⟨O6,AU⟩:=AT.eZ
         clear AT
         obtain ⟨alz,Dh⟩:=AU.oL
         clear AU
         subst alz;have hs:=Dh.split;refine aA l8 (aV hs.p2 mX (eK rfl) (rfl) (λ w35 hs=>?_));have hs:=hs.enc (cs':=Flat.enc (⟨kd,(ByteArray.mk #[]),(ByteArray.mk #[]),O6,⟨none,0,0⟩,0,0,0,a⟩:bY)) rfl;intro oY;refine aD gb hs.At (aI (x:=(⟨kd,(ByteArray.mk #[]),(ByteArray.mk #[]),O6,⟨none,0,0⟩,0,0,0,a⟩:bY)) hs.p3 gb rfl rfl (λ WL hs=>aD gb hs.At ?_));have hs:=hs.p3.dU (Ψ:=(λ w=>bZ.dr w (⟨kd,(ByteArray.mk #[]),(ByteArray.mk #[]),O6,⟨none,0,0⟩,0,0,0,a⟩:bY) (⟨kd,(ByteArray.mk #[]),(ByteArray.mk #[]),e,[],0,0,0,a⟩:cI))) (λ w h=>⟨_,_,rfl,id (h),DL.nil _⟩)
         have hs:=((hs.p1.drop.p1).drop).p1;exact (wX hs).mut
        ·refine aH (aC (λ Lr=>?_) (λ Lr=>?_))
         ·obtain ⟨rfl,rfl⟩:=Mv hp Lr;refine bI aoI hs.p2 (H':=λ _=>cH p (dZ lv ov (kL l s).1)) (Φ:=λ v _=>v = .int .i64 (kL l s).2) (λ F2 eW eF=>?_) ?_
          ·exact C262 p lv ov l s F2 _ eW (λ w' hc=>hT w' (eF w' hc).aF) hk h0
          rintro _ w36 rfl hs;refine aA tV (aV hs.p1 bL (eK rfl) (rfl) (λ w37 hs=>?_));have hs:=hs.enc (cs':=Flat.enc (⟨kd,(ByteArray.mk #[]),(ByteArray.mk #[]),⟨none,0,0⟩,⟨none,0,0⟩,(kL l s).2,0,0,a⟩:bY)) rfl;intro oY;refine aD gb hs.At (aI (x:=(⟨kd,(ByteArray.mk #[]),(ByteArray.mk #[]),⟨none,0,0⟩,⟨none,0,0⟩,(kL l s).2,0,0,a⟩:bY)) hs.p2 gb rfl rfl (λ WL hs=>aD gb hs.At ?_));have hs:=hs.gK (Φ:=(λ w=>bZ.dr w (⟨kd,(ByteArray.mk #[]),(ByteArray.mk #[]),⟨none,0,0⟩,⟨none,0,0⟩,(kL l s).2,0,0,a⟩:bY) (⟨kd,(ByteArray.mk #[]),(ByteArray.mk #[]),[],[],(kL l s).2,0,0,a⟩:cI))) (λ w=>⟨_,_,rfl,DL.nil _,DL.nil _⟩)
          have hs:=((hs.p1.drop.p1).drop).p1;exact (wX hs).mut
         ·obtain ⟨rfl,rfl⟩:=Mw hp kP iV nE ug sD EE Lr;intro oY;refine aD gb hs.At (aI (x:=(⟨kd,(ByteArray.mk #[]),(ByteArray.mk #[]),⟨none,0,0⟩,⟨none,0,0⟩,0,0,0,a⟩:bY)) hs.p1 gb rfl rfl (λ WL hs=>aD gb hs.At ?_));have hs:=hs.gK (Φ:=(λ w=>bZ.dr w (⟨kd,(ByteArray.mk #[]),(ByteArray.mk #[]),⟨none,0,0⟩,⟨none,0,0⟩,0,0,0,a⟩:bY) (⟨kd,(ByteArray.mk #[]),(ByteArray.mk #[]),[],[],0,0,0,a⟩:cI))) (λ w=>⟨_,_,rfl,DL.nil _,DL.nil _⟩);have hs:=((hs.p1.drop.p1).drop).p1;exact (wX hs).mut
def gZ (l:List bF) (a:Int):Nat→Int
 | 0=>1
 | n+1=>if sN l a (HC ((n:Int)+2))=true then (n:Int)+2 else gZ l a n
theorem RA {l:List bF} {a:Int}:∀ n:Nat,1≤gZ l a n∧gZ l a n≤(n:Int)+1
 | 0=>by unfold gZ; omega
 | n+1=>by
  have:=RA (l:=l) (a:=a) n
  unfold gZ
  split <;> omega
theorem Mx {l:List bF} {a:Int}:∀ n:Nat,gZ l a n=1∨∃ t,sN l a t=true
 | 0=>.inl rfl
 | n+1=>by
  unfold gZ
  split
  ·rename_i h; exact .inr ⟨_,h⟩
  ·exact Mx n
theorem HD {l:List bF} {a:Int} {n:Nat} (h:sN l a (HC ((n:Int)+2))=true):gZ l a (n+1)=(n:Int)+2:=if_pos h
theorem HE {l:List bF} {a:Int} {n:Nat} (h:¬ sN l a (HC ((n:Int)+2))=true):gZ l a (n+1)=gZ l a n:=if_neg h
def Zh (l:List bF) (s:fQ):fQ:=if gZ l s.at_ 13≠1 then {s with at_:=s.at_+1} else s
theorem Jz {l:List bF} {s:fQ} (h:lV l s):lV l (Zh l s):=by
 unfold Zh
 split
 ·rename_i h1
  rcases Mx (l:=l) (a:=s.at_) 13 with h2 | ⟨t,h2⟩
  ·exact absurd h2 h1
  ·have:=rN h2
   exact ⟨by show 0≤s.at_+1; omega,by show s.at_+1≤_; omega⟩
 ·exact h
abbrev aha:ByteArray:=⟨#[101,108,115,101]⟩
def kp (l:List bF) (kd:Int) (s:fQ):Bool:=decide (kd=11) && decide (s.e=0) && sN l s.at_ aha
def Yc (s:fQ):fQ:={s with at_:=s.at_+1}
abbrev aeh:=fQ→Int→Int→Option (fQ × List cI)
def CS (l:List bF) (cH:aeh) (s:fQ) (d lp:Int):Option (fQ × List cI):=
 if gZ l s.at_ 13=13∧lp=0 then some (ja l s 5,[])
 else (kM l (Zh l s) (gZ l s.at_ 13) (mS l s.at_)).bind λ r=>
  if gZ l s.at_ 13≠11∧gZ l s.at_ 13≠12 then some (dT l r.1 ⟨#[59]⟩,[r.2])
  else (cH r.1 (d+1) (if gZ l s.at_ 13=12 then lp+1 else lp)).bind λ q=>
   if kp l (gZ l s.at_ 13) q.1=true then (cH (Yc q.1) (d+1) lp).bind λ t=>some (t.1,{r.2 with body:=(q.2.length:Int),fK:=(t.2.length:Int)}::(q.2++t.2))
   else some (q.1,{r.2 with body:=(q.2.length:Int)}::q.2)
section
variable {l:List bF} {cH:aeh} {s s':fQ} {d lp:Int} {add:List cI}
theorem RB (h:CS l cH s d lp=some (s',add)) (hb:gZ l s.at_ 13=13∧lp=0):s'=ja l s 5∧add=[]:=by
 unfold CS at h; rw [if_pos hb] at h; cases h; exact ⟨rfl,rfl⟩
theorem Yd (h:CS l cH s d lp=some (s',add)) (hb:¬ (gZ l s.at_ 13=13∧lp=0)):∃ s2 x,kM l (Zh l s) (gZ l s.at_ 13) (mS l s.at_)=some (s2,x)∧
  (if gZ l s.at_ 13≠11∧gZ l s.at_ 13≠12 then some (dT l s2 ⟨#[59]⟩,[x])
  else (cH s2 (d+1) (if gZ l s.at_ 13=12 then lp+1 else lp)).bind λ q=>
   if kp l (gZ l s.at_ 13) q.1=true then (cH (Yc q.1) (d+1) lp).bind λ t=>some (t.1,{x with body:=(q.2.length:Int),fK:=(t.2.length:Int)}::(q.2++t.2))
   else some (q.1,{x with body:=(q.2.length:Int)}::q.2))=some (s',add):=by
 unfold CS at h; rw [if_neg hb] at h
 obtain ⟨p,q,h1,h2⟩:=eM h
 exact ⟨p,q,h1,h2⟩
theorem RC {kd:Int} {s2:fQ} {x:cI} (h:(if kd≠11∧kd≠12 then some (dT l s2 ⟨#[59]⟩,[x])
  else (cH s2 (d+1) (if kd=12 then lp+1 else lp)).bind λ q=>
   if kp l kd q.1=true then (cH (Yc q.1) (d+1) lp).bind λ t=>some (t.1,{x with body:=(q.2.length:Int),fK:=(t.2.length:Int)}::(q.2++t.2))
   else some (q.1,{x with body:=(q.2.length:Int)}::q.2))=some (s',add)) (hk:¬ (kd≠11∧kd≠12)) :
  ∃ s3 m1,cH s2 (d+1) (if kd=12 then lp+1 else lp)=some (s3,m1)∧
   ((kp l kd s3=true∧∃ s5 m2,cH (Yc s3) (d+1) lp=some (s5,m2)∧s'=s5∧add={x with body:=(m1.length:Int),fK:=(m2.length:Int)}::(m1++m2))∨
    (kp l kd s3=false∧s'=s3∧add={x with body:=(m1.length:Int)}::m1)):=by
 rw [if_neg hk] at h
 obtain ⟨s3,m1,h1,h2⟩:=eM h
 refine ⟨s3,m1,h1,?_⟩
 dsimp only at h2
 cases he:kp l kd s3 with
 | true=>
  rw [he,if_pos rfl] at h2
  obtain ⟨s5,m2,h3,h4⟩:=eM h2
  cases h4
  exact .inl ⟨rfl,_,_,h3,rfl,rfl⟩
 | false=>
  rw [he,if_neg (by simp)] at h2
  cases h2
  exact .inr ⟨rfl,rfl,rfl⟩
theorem HF {kd:Int} {s2:fQ} {x:cI} (h:(if kd≠11∧kd≠12 then some (dT l s2 ⟨#[59]⟩,[x])
  else (cH s2 (d+1) (if kd=12 then lp+1 else lp)).bind λ q=>
   if kp l kd q.1=true then (cH (Yc q.1) (d+1) lp).bind λ t=>some (t.1,{x with body:=(q.2.length:Int),fK:=(t.2.length:Int)}::(q.2++t.2))
   else some (q.1,{x with body:=(q.2.length:Int)}::q.2))=some (s',add)) (hk:kd≠11∧kd≠12):s'=dT l s2 ⟨#[59]⟩∧add=[x]:=by
 rw [if_pos hk] at h; cases h; exact ⟨rfl,rfl⟩
end
abbrev CA:ByteArray:=⟨#[123]⟩
abbrev nL:ByteArray:=⟨#[125]⟩
def sQ (l:List bF) (one:fQ→Option (fQ × List cI)):Nat→fQ→Option (fQ × List cI)
 | 0,_=>none
 | m+1,s=>if (decide (s.e=0) && !sN l s.at_ nL)=true then (one s).bind λ r=>(sQ l one m r.1).bind λ q=>some (q.1,r.2++q.2) else some (s,[])
def T6 (l:List bF) (s:fQ) (d:Int):fQ:=if (decide (12<d) && sN l s.at_ CA)=true then ja l s 7 else s
theorem O7 {l:List bF} {s:fQ} {d:Int} (h:lV l s):lV l (T6 l s d):=by unfold T6; split; exact sP h; exact h
def T7 (l:List bF):Nat→aeh
 | 0=>λ _ _ _=>none
 | k+1=>λ s d lp=>(sQ l (λ s=>CS l (T7 l k) s d lp) 10000 (dT l (T6 l s d) CA)).bind λ r=>some (dT l r.1 nL,r.2)
section
variable {l:List bF} {one:fQ→Option (fQ × List cI)} {s s':fQ} {d lp:Int} {add:List cI} {m:Nat}
theorem HG (h:sQ l one m s=some (s',add)):∃ k,m=k+1:=by
 cases m with
 | zero=>cases h
 | succ k=>exact ⟨k,rfl⟩
theorem FA (h:sQ l one (m+1) s=some (s',add)) (hb:(decide (s.e=0) && !sN l s.at_ nL)=false):s'=s∧add=[]:=by
 unfold sQ at h; rw [hb,if_neg (by simp)] at h; cases h; exact ⟨rfl,rfl⟩
theorem JA (h:sQ l one (m+1) s=some (s',add)) (hb:(decide (s.e=0) && !sN l s.at_ nL)=true):∃ s1 a1 a2,one s=some (s1,a1)∧sQ l one m s1=some (s',a2)∧add=a1++a2:=by
 unfold sQ at h; rw [hb,if_pos rfl] at h
 obtain ⟨s1,a1,h1,h2⟩:=eM h
 obtain ⟨s2,a2,h3,h4⟩:=eM h2
 cases h4
 exact ⟨_,_,_,h1,h3,rfl⟩
theorem Ye {k:Nat} (h:T7 l (k+1) s d lp=some (s',add)):∃ s1,sQ l (λ s=>CS l (T7 l k) s d lp) 10000 (dT l (T6 l s d) CA)=some (s1,add)∧s'=dT l s1 nL:=by
 unfold T7 at h
 obtain ⟨s1,a1,h1,h2⟩:=eM h
 cases h2
 exact ⟨_,h1,rfl⟩
end
theorem O8 {l:List bF} {cH:aeh} {s s':fQ} {d lp:Int} {add:List cI} (hb:∀ s d lp s' a,lV l s→cH s d lp=some (s',a)→lV l s') (h0:lV l s) (h:CS l cH s d lp=some (s',add)):lV l s':=by
 by_cases h1:gZ l s.at_ 13=13∧lp=0
 ·rw [(RB h h1).1]; exact sP h0
 ·obtain ⟨s2,x,h2,h3⟩:=Yd h h1
  have h2i:=B7 (Jz h0) h2
  by_cases h4:gZ l s.at_ 13≠11∧gZ l s.at_ 13≠12
  ·rw [(HF h3 h4).1]; exact fE h2i
  ·obtain ⟨s3,m1,h5,h6⟩:=RC h3 h4
   have h3i:=hb _ _ _ _ _ h2i h5
   rcases h6 with ⟨h7,s5,m2,h8,h9,_⟩ | ⟨_,h9,_⟩
   ·rw [h9]
    refine hb _ _ _ _ _ ?_ h8
    unfold kp at h7
    rw [Bool.and_eq_true] at h7
    have:=rN h7.2
    exact ⟨by show 0≤s3.at_+1; omega,by show s3.at_+1≤_; omega⟩
   ·rw [h9]; exact h3i
theorem RD {l:List bF} {one:fQ→Option (fQ × List cI)} (ho:∀ s s' a,lV l s→one s=some (s',a)→lV l s'):∀ {m:Nat} {s s':fQ} {add:List cI},lV l s→sQ l one m s=some (s',add)→lV l s'
 | 0,_,_,_,_,h=>by cases h
 | m+1,s,s',add,h0,h=>by
  cases hb:(decide (s.e=0) && !sN l s.at_ nL) with
  | false=>rw [(FA h hb).1]; exact h0
  | true=>
   obtain ⟨s1,a1,a2,h1,h2,_⟩:=JA h hb
   exact RD ho (ho _ _ _ h0 h1) h2
theorem O9 {l:List bF}:∀ {k:Nat} {s s':fQ} {d lp:Int} {add:List cI},lV l s→T7 l k s d lp=some (s',add)→lV l s'
 | 0,_,_,_,_,_,_,h=>by cases h
 | k+1,s,s',d,lp,add,h0,h=>by
  obtain ⟨s1,h1,h2⟩:=Ye h
  rw [h2]
  exact fE (RD (λ _ _ _ a b=>O8 (λ _ _ _ _ _ c e=>O9 c e) a b) (fE (O7 h0)) h1)
def pT (p:Nat) (lv:Value) (s:fQ) (out:List cI) (Q:World→Prop):HP:=ua λ ov:Value=>ua λ ts:List bY=>sep (cH p (dZ lv ov s)) (sep (bK ov ts) (eL (λ w=>jV ts out w∧Q w)))
section
variable {w0 w:World} {A:Nat→Prop} {L:List HP} {p:Nat} {lv:Value} {s:fQ} {out:List cI} {Q:World→Prop}
theorem pT.open (hs:St w0 A (pT p lv s out Q::L) w):∃ (ov:Value) (ts:List bY),St w0 A (cH p (dZ lv ov s)::bK ov ts::eL (λ w=>jV ts out w∧Q w)::L) w:=by
 obtain ⟨ov,h1⟩:=hs.eZ
 obtain ⟨ts,h2⟩:=h1.eZ
 exact ⟨ov,ts,h2.split.p1.split.p2⟩
theorem pT.shut {ov:Value} {ts:List bY} (hs:St w0 A (cH p (dZ lv ov s)::bK ov ts::eL (λ w=>jV ts out w∧Q w)::L) w):St w0 A (pT p lv s out Q::L) w:=
 St.eU (H:=λ ov:Value=>ua λ ts:List bY=>sep (cH p (dZ lv ov s)) (sep (bK ov ts) (eL (λ w=>jV ts out w∧Q w)))) ov (St.eU (H:=λ ts:List bY=>sep (cH p (dZ lv ov s)) (sep (bK ov ts) (eL (λ w=>jV ts out w∧Q w)))) ts (St.join (hs.p2.p2.join).p1))
end
def alA (l:List bF) (k:Nat):Prop:=∀ (p:Nat) (lv:Value) (s:fQ) (d lp:Int) (out:List cI) (s2:fQ) (add:List cI) (Q:World→Prop) (F:Nat→Prop) (w:World),
 (pT p lv s out Q).p w F→(∀ w',iF F w w'→eP (λ _=>True) w' lv l)→lV l s→0≤d∧d+k≤1001→0≤lp∧lp+k≤1001→out.length+add.length≤1000000→T7 l k s d lp=some (s2,add)→
 Calls PG 256 [.pointer (some ⟨p,0,none⟩),.int .i64 d,.int .i64 lp].toArray w (qf λ v w'=>v = .int .i64 (add.length:Int)∧qy F (pT p lv s2 (out++add) Q) w w')
theorem aei {w:World} {sh:bY} {x:cI} (h:bZ.dr w sh x):DL w (Flat.val sh.e) x.e:=by obtain ⟨_,_,rfl,h,_⟩:=h; exact h
theorem aej {w:World} {sh:bY} {x:cI} (h:bZ.dr w sh x):DL w (Flat.val sh.f) x.f:=by obtain ⟨_,_,rfl,_,h⟩:=h; exact h
theorem Pa {l:List bF} {kd:Int} {s:fQ} (h:kp l kd s=true):lV l (Yc s):=by
 unfold kp at h
 rw [Bool.and_eq_true] at h
 have:=rN h.2
 exact ⟨by show 0≤s.at_+1; omega,by show s.at_+1≤_; omega⟩
theorem aek {α σ:Type} [Flat σ] [bZ α σ] {w:World} {ts:List σ} {xs:List α} {i:Nat} {t:σ} {x:α} (h:jV ts xs w) (ht:bZ.dr w t x):jV (ts.set i t) (xs.set i x) w:=by
 refine ⟨by rw [List.length_set,List.length_set,h.1],λ j t' x' h1 h2=>?_⟩
 rw [List.getElem?_set] at h1 h2
 by_cases hj:i=j
 ·rw [if_pos hj] at h1 h2
  split at h1
  ·split at h2
   ·cases h1; cases h2; exact ht
   ·cases h2
  ·cases h1
 ·rw [if_neg hj] at h1 h2; exact h.2 _ _ _ h1 h2
theorem Yf {α:Type} {a b:List α} {x y:α}:(a++x::b).set a.length y=a++y::b:=by
 rw [List.set_append_right _ _ (Nat.le_refl _),Nat.sub_self,List.set_cons_zero]
set_option maxHeartbeats 4000000 in
theorem C233 (p:Nat) (lv:Value) (l:List bF) (s:fQ) (k:Nat) (d lp:Int) (out:List cI) (s2:fQ) (add:List cI) (Q:World→Prop) (F:Nat→Prop) (w:World) (hF:(pT p lv s out Q).p w F) (hT:∀ w',iF F w w'→eP (λ _=>True) w' lv l) (hk:iD l) (h0:lV l s) (HB:alA l k) (hd:0≤d∧d+k≤1000) (Mt:0≤lp∧lp+k≤1000) (T1:out.length+add.length≤1000000) (hr:CS l (T7 l k) s d lp=some (s2,add)):CR 233 [(.pointer (some ⟨p,0,none⟩)),.int .i64 d,.int .i64 lp] w (λ v w'=>v = .tuple #[]∧qy F (pT p lv s2 (out++add) Q) w w'):=by
 have hs:=St.begin hF;obtain ⟨ov,ts,hs⟩:=pT.open hs;have Nv:ts.length=out.length:=(hs.p2.eL).1.1;have FR:=hk.n;have hn:l.length≤1000000:=by omega
 have te:=hk.at_;obtain ⟨Rt,Ru⟩:=id h0;refine abq _ _ _ _ _ ?_;unfold S233;refine aE (aA gV (have hs:=hs.drew;aB iS hs.hb rfl (aE (aA eY (aB bL hs.hb rfl (aZ GI hs (C215 _ l s.at_ _ (hT _ hs.aF) hn te) (λ w1 he hs=>?_)))))));have hs:=hs.p2.p2.p2;refine ⟨λ mm a b w'=>∃ j:Nat,a = .int .i64 (gZ l s.at_ j)∧b = .int .i64 ((j:Int)+2)∧mm=13 - j∧j≤13∧St w F [cH p (dZ lv ov s),bK ov ts,eL (λ w=>jV ts out w∧Q w)] w',⟨_,0,rfl,rfl,rfl,Nat.zero_le _,hs⟩,?_⟩;rintro mm _ _ w2 ⟨j,rfl,rfl,rfl,hj,hs⟩ fD;refine kj (aC (λ iT=>?_) (λ iT=>?_))
 ·refine ⟨_,?_,λ _ _ h=>h⟩;refine aE (aA gV (have hs:=hs.drew;aB iS hs.hb rfl (aE (aA eY (aB bL hs.hb rfl (aZ aoF hs (C253 ((j:Int)+2) _ (by omega)) (λ w3 he hs=>?_)))))));refine ⟨aG iS (hs.hb.cell rfl),?_⟩;refine ⟨aG bL (hs.hb.cell rfl),?_⟩;refine aZ vw hs (C211 _ l s.at_ (HC ((j:Int)+2)) _ (hT _ hs.aF) hn) (λ w4 he hs=>aX (λ jC=>?_) (λ jC=>?_))
  ·intro jH;refine aO (by omega) ?_;exact ⟨_,by omega,j+1,congrArg (Value.int .i64) (by first | exact (HD jC).symm | exact (HE (by rw [jC]; simp)).symm),congrArg (Value.int .i64) (by omega),rfl,by omega,hs⟩
  ·intro jH;refine aO (by omega) ?_;exact ⟨_,by omega,j+1,congrArg (Value.int .i64) (by first | exact (HD jC).symm | exact (HE (by rw [jC]; simp)).symm),congrArg (Value.int .i64) (by omega),rfl,by omega,hs⟩
 ·obtain rfl:j=13:=by omega
  have hkb:=RA (l:=l) (a:=s.at_) 13;refine ⟨λ jv w'=>jv = .bool (decide ((gZ l s.at_ 13)=13∧lp=0))∧w2=w',?_,?_⟩
  ·refine aH (aC (λ nh=>?_) (λ nh=>?_))
   ·refine aH ?_;exact ⟨vQ (by omega),rfl⟩
   ·exact ⟨Zv (by omega),rfl⟩
  ·rintro _ w6 ⟨rfl,hw⟩ oY;subst hw;refine aC (λ mL=>?_) (λ mL=>?_)
   ·refine bI GL hs (H':=λ _=>cH p (dZ lv ov (ja l s 5))) (Φ:=λ _ _=>True) (λ F2 eW eF=>?_) ?_
    ·exact (C254 p lv ov l s 5 F2 _ eW (λ w' hc=>hT w' (eF w' hc).aF) hk h0).mono λ _ _ r=>r.mono λ _ _ h=>⟨trivial,h.2⟩
    rintro _ w7 _ hs;obtain ⟨e1,e2⟩:=RB hr mL;rw [e1,e2,List.append_nil];exact ⟨rfl,(pT.shut hs).mut⟩
   ·refine ⟨λ w'=>St w F [cH p (dZ lv ov (Zh l s)),bK ov ts,eL (λ w=>jV ts out w∧Q w)] w',?_,?_⟩
    ·refine cR (aC (λ wt=>?_) (λ wt=>?_))
     ·refine aE (aA eY (aB bL hs.hb rfl (aO (by omega) (aE (aA eY (aV hs bL (eK rfl) (rfl) (λ w8 hs=>?_)))))));have hs:=hs.p2.p2.p2;have SD:(Zh l s)={s with at_:=s.at_+1}:=by unfold Zh; rw [if_pos (by omega)]
      rw [SD];exact hs
     ·have hs:=hs.p2.p2.p2;have SD:(Zh l s)=s:=by unfold Zh; rw [if_neg (by omega)]
      rw [SD];exact hs
    ·intro w9 hs G9;obtain ⟨q,x,vv,GF⟩:=Yd hr mL;refine bI aoG hs (H':=λ v=>ua λ sh:bY=>fact (v=Flat.val sh) (sep (cH p (dZ lv ov q)) (eL (λ w=>bZ.dr w sh x)))) (Φ:=λ _ _=>True) (λ F2 eW eF=>?_) ?_
     ·exact (C255 p lv ov l (Zh l s) (gZ l s.at_ 13) (mS l s.at_) q x F2 _ eW (λ w' hc=>hT w' (eF w' hc).aF) hk (Jz h0) vv).mono λ _ _ r=>r.mono λ _ _ h=>⟨trivial,h⟩
     rintro v_x58 pP _ AT;obtain ⟨azI,AU⟩:=AT.eZ
     clear AT
     obtain ⟨alB,Dh⟩:=AU.oL
     clear AU
     subst alB;have hs:=Dh.split
     clear Dh
     obtain ⟨gE,gF,alC,hde,hdf⟩:=hs.p1.eL;subst alC;refine aN hs qI (λ Eh sZ hs=>have hs:=hs.enc (cs':=Flat.enc (⟨0,(ByteArray.mk #[]),(ByteArray.mk #[]),⟨none,0,0⟩,⟨none,0,0⟩,0,0,0,0⟩:bY)) rfl;aI (x:=(⟨(x).kind,(x).gQ,(x).name,gE,gF,(x).n,(x).body,(x).fK,(x).at_⟩:bY)) hs gb rfl rfl (λ vy hs=>aE (aA pN (aB sX hs.p1.hb rfl (aJ kh (hs.p3).fF (aE (aA pN (have hs:=hs.drew;aB sX hs.p1.hb rfl (aD gb hs.At (bV ([(⟨(x).kind,(x).gQ,(x).name,gE,gF,(x).n,(x).body,(x).fK,(x).at_⟩:bY)]) hs kh rfl rfl (eK rfl) (λ agT vz hs=>?_)))))))))))
     refine ⟨aG sX (hs.p2.hb.cell rfl),?_⟩;have alD:=(hs).fF;refine cS hs.p4 kh alD (by simp; omega) (by decide) (λ RE su hs=>have hs:=hs.p1.drop;aE (aA pN (aV hs.p2 sX (eK rfl) ((hs).fF.one) (λ wm hs=>?_))));refine ⟨λ jv w'=>jv = .bool (decide ((gZ l s.at_ 13)≠11∧(gZ l s.at_ 13)≠12))∧St w F [cH p (dZ lv RE q),bK RE (ts++[(⟨(x).kind,(x).gQ,(x).name,gE,gF,(x).n,(x).body,(x).fK,(x).at_⟩:bY)]),eL (λ w=>jV (ts++[(⟨(x).kind,(x).gQ,(x).name,gE,gF,(x).n,(x).body,(x).fK,(x).at_⟩:bY)]) (out++[x]) w∧(λ w=>Q w∧bZ.dr w (⟨(x).kind,(x).gQ,(x).name,gE,gF,(x).n,(x).body,(x).fK,(x).at_⟩:bY) x) w),cH Eh (Flat.enc (⟨(x).kind,(x).gQ,(x).name,gE,gF,(x).n,(x).body,(x).fK,(x).at_⟩:bY))] w',?_,?_⟩
     ·refine cR (aC (λ asp=>?_) (λ asp=>?_))
      ·refine cR ?_;have hs:=hs.p3.p4.fP.dU (Ψ:=λ w=>jV (ts++[(⟨(x).kind,(x).gQ,(x).name,gE,gF,(x).n,(x).body,(x).fK,(x).at_⟩:bY)]) (out++[x]) w∧(λ w=>Q w∧bZ.dr w (⟨(x).kind,(x).gQ,(x).name,gE,gF,(x).n,(x).body,(x).fK,(x).at_⟩:bY) x) w) (λ w h=>⟨h.1.1.snoc h.2,h.1.2,h.2⟩);have hs:=hs.p3.p1.p3.p3;exact ⟨vb (by grind),hs⟩
      ·have hs:=hs.p3.p4.fP.dU (Ψ:=λ w=>jV (ts++[(⟨(x).kind,(x).gQ,(x).name,gE,gF,(x).n,(x).body,(x).fK,(x).at_⟩:bY)]) (out++[x]) w∧(λ w=>Q w∧bZ.dr w (⟨(x).kind,(x).gQ,(x).name,gE,gF,(x).n,(x).body,(x).fK,(x).at_⟩:bY) x) w) (λ w h=>⟨h.1.1.snoc h.2,h.1.2,h.2⟩);have hs:=hs.p3.p1.p3.p3;exact ⟨vb (by grind),hs⟩
     ·rintro _ zq ⟨rfl,hs⟩ Sv;refine aC (λ Lq=>?_) (λ Lq=>?_)
      ·refine bI yo hs (H':=λ _=>cH p (dZ lv RE (dT l q (ByteArray.mk #[59])))) (Φ:=λ _ _=>True) (λ F2 eW eF=>?_) ?_
       ·exact (C234 p lv RE l q (ByteArray.mk #[59]) F2 _ eW (λ w' hc=>hT w' (eF w' hc).aF) hk (B7 (Jz h0) vv)).mono λ _ _ r=>r.mono λ _ _ h=>⟨trivial,h.2⟩
       rintro _ CH _ hs;have hs:=(hs.p3.drop.p1.p1.p2).dU (Ψ:=λ w=>jV (ts++[(⟨(x).kind,(x).gQ,(x).name,gE,gF,(x).n,(x).body,(x).fK,(x).at_⟩:bY)]) (out++[x]) w∧Q w) (λ w h=>⟨h.1,h.2.1⟩);have hs:=hs.p2.p2;obtain ⟨e1,e2⟩:=HF GF Lq;rw [e1,e2];exact ⟨rfl,(pT.shut hs).mut⟩
      ·refine ⟨λ jv w'=>jv = .int .i64 (if (gZ l s.at_ 13)=12 then lp+1 else lp)∧zq=w',?_,?_⟩
       ·refine aH (aC (λ asq=>?_) (λ asq=>?_))
        ·refine aO (by omega) ?_;exact ⟨by rw [if_pos (by omega)],rfl⟩
        ·exact ⟨by rw [if_neg (by omega)],rfl⟩
       ·rintro _ IN ⟨rfl,hw⟩ dd6;subst hw;refine aO (by omega) ?_;have hs:=pT.shut hs.p2.p2.p2;obtain ⟨s3,m1,IJ,Y7⟩:=RC GF Lq;have hm1:m1.length<add.length:=by rcases Y7 with ⟨_,s5,m2,_,_,e⟩ | ⟨_,_,e⟩ <;> rw [e] <;> simp <;> omega
        refine bI afC hs (H':=λ _=>pT p lv s3 ((out++[x])++m1) (λ w=>Q w∧bZ.dr w (⟨(x).kind,(x).gQ,(x).name,gE,gF,(x).n,(x).body,(x).fK,(x).at_⟩:bY) x)) (Φ:=λ v _=>v = .int .i64 (m1.length:Int)) (λ F2 eW eF=>?_) ?_
        ·exact HB p lv q (d+1) (if (gZ l s.at_ 13)=12 then lp+1 else lp) (out++[x]) s3 m1 (λ w=>Q w∧bZ.dr w (⟨(x).kind,(x).gQ,(x).name,gE,gF,(x).n,(x).body,(x).fK,(x).at_⟩:bY) x) F2 _ eW (λ w' hc=>hT w' (eF w' hc).aF) (B7 (Jz h0) vv) (by omega) (by split <;> omega) (by rw [List.length_append,List.length_singleton]; omega) IJ
        rintro _ JQ rfl hs;obtain ⟨ov3,ts3,hs⟩:=pT.open hs;refine aA m7 (aV hs.p3 bL (eK rfl) (rfl) (λ Lc hs=>?_));have hs:=hs.enc (cs':=Flat.enc (⟨(x).kind,(x).gQ,(x).name,gE,gF,(x).n,(m1.length:Int),(x).fK,(x).at_⟩:bY)) rfl;refine ⟨λ w'=>∃ (bd el:Int) (rest:List cI),add={x with body:=bd,fK:=el}::rest∧St w F [pT p lv s2 ((out++[x])++rest) (λ w=>Q w∧bZ.dr w (⟨(x).kind,(x).gQ,(x).name,gE,gF,(x).n,(x).body,(x).fK,(x).at_⟩:bY) x),cH Eh (Flat.enc (⟨(x).kind,(x).gQ,(x).name,gE,gF,(x).n,bd,el,(x).at_⟩:bY))] w',?_,?_⟩
        ·refine ⟨λ jv w'=>jv = .bool (kp l (gZ l s.at_ 13) s3)∧St w F [cH p (dZ lv ov3 s3),bK ov3 ts3,eL (λ w=>jV ts3 ((out++[x])++m1) w∧(λ w=>Q w∧bZ.dr w (⟨(x).kind,(x).gQ,(x).name,gE,gF,(x).n,(x).body,(x).fK,(x).at_⟩:bY) x) w),cH Eh (Flat.enc (⟨(x).kind,(x).gQ,(x).name,gE,gF,(x).n,(m1.length:Int),(x).fK,(x).at_⟩:bY))] w',?_,?_⟩
         ·refine aH (aC (λ HH=>?_) (λ HH=>?_))
          ·refine aE (aA kz (have hs:=hs.drew;aB nu hs.p1.hb rfl (aH (aC (λ Bz=>?_) (λ Bz=>?_)))))
           ·refine aE (aA gV (aB iS hs.p1.hb rfl (aE (aA eY (aB bL hs.p1.hb rfl (aZ vw hs (C211 _ l s3.at_ (ByteArray.mk #[101,108,115,101]) _ (hT _ hs.aF) hn) (λ M4 he hs=>?_)))))));have hs:=hs.p3.p3.p3;exact ⟨vb (by unfold kp; rw [decide_eq_true HH,decide_eq_true Bz]; rfl),hs⟩
           ·have hs:=hs.p3.p3.p3;exact ⟨vb (by unfold kp; first | (rw [decide_eq_false HH]; rfl) | (rw [decide_eq_true HH,decide_eq_false Bz]; rfl)),hs⟩
          ·have hs:=hs.drew.p3.p3.p3;exact ⟨vb (by unfold kp; first | (rw [decide_eq_false HH]; rfl) | (rw [decide_eq_true HH,decide_eq_false Bz]; rfl)),hs⟩
         ·rintro _ QS ⟨rfl,hs⟩ dd7;refine aX (λ qo=>?_) (λ qo=>?_)
          ·obtain ⟨hhe,s5,m2,hb2,e5,sV⟩ | ⟨hhe,_⟩:=Y7
           rotate_left
           ·rw [hhe] at qo; cases qo
           subst e5;have hin3:=rN (show sN l s3.at_ aha=true by unfold kp at qo; rw [Bool.and_eq_true] at qo; exact qo.2);refine aE (aA eY (aB bL hs.hb rfl (aO (by omega) (aE (aA eY (aV hs bL (eK rfl) (rfl) (λ T3 hs=>aO (by omega) ?_)))))));have hs:=pT.shut (s:=Yc s3) hs.p2.p2.p2;have hkd11:(gZ l s.at_ 13)=11:=by unfold kp at qo; simp at qo; exact qo.1.1
           rw [if_neg (show ¬ (gZ l s.at_ 13)=12 by omega)];refine bI afC hs (H':=λ _=>pT p lv s2 (((out++[x])++m1)++m2) (λ w=>Q w∧bZ.dr w (⟨(x).kind,(x).gQ,(x).name,gE,gF,(x).n,(x).body,(x).fK,(x).at_⟩:bY) x)) (Φ:=λ v _=>v = .int .i64 (m2.length:Int)) (λ F2 eW eF=>?_) ?_
           ·exact HB p lv (Yc s3) (d+1) lp ((out++[x])++m1) s2 m2 (λ w=>Q w∧bZ.dr w (⟨(x).kind,(x).gQ,(x).name,gE,gF,(x).n,(x).body,(x).fK,(x).at_⟩:bY) x) F2 _ eW (λ w' hc=>hT w' (eF w' hc).aF) (Pa qo) (by omega) (by omega) (by have:=congrArg List.length sV; simp at this ⊢; omega) hb2
           rintro _ Wk rfl hs;rw [List.append_assoc (out++[x])] at hs;refine aA iR (aV hs.p1 bL (eK rfl) (rfl) (λ SB hs=>?_));have hs:=hs.enc (cs':=Flat.enc (⟨(x).kind,(x).gQ,(x).name,gE,gF,(x).n,(m1.length:Int),(m2.length:Int),(x).at_⟩:bY)) rfl;have hs:=hs.p1;exact ⟨_,_,_,sV,hs⟩
          ·obtain ⟨hhe,_⟩ | ⟨hhe,e5,sV⟩:=Y7
           ·rw [hhe] at qo; cases qo
           subst e5;have hs:=((pT.shut hs.p2.p2.p2).p1).p1;exact ⟨(m1.length:Int),x.fK,m1,sV,hs⟩
        ·rintro w26 ⟨bd,el,rest,sV,hs⟩ dd8;obtain ⟨ov5,ts5,hs⟩:=pT.open hs;refine aE (aA pN (have hs:=hs.drew;aB sX hs.hb rfl (aD gb hs.p3.At ?_)));have h5l:ts5.length=(out++[x]++rest).length:=(hs.p2.eL).1.1;have h6l:=congrArg List.length sV;simp only [List.length_append,List.length_cons,List.length_nil] at h5l h6l;obtain ⟨azJ,aut⟩:=gx (ts5) (i:=(((ts).length:Int)).toNat) (by omega);refine dS hs.p1 kh (by omega) (by omega) (λ _ alE=>km _ hs.p1 gb alE (by omega) (λ w27 hs=>?_));have hs:=(hs.p3.drop.p1.p2).dU (Ψ:=λ w=>jV (ts5.set (ts.length:Int).toNat (⟨(x).kind,(x).gQ,(x).name,gE,gF,(x).n,bd,el,(x).at_⟩:bY)) (out++add) w∧Q w) (λ w h=>⟨by
  have hh:=aek (i:=(ts.length:Int).toNat) (t:=(⟨(x).kind,(x).gQ,(x).name,gE,gF,(x).n,bd,el,(x).at_⟩:bY)) (x:={x with body:=bd,fK:=el}) h.1 ⟨gE,gF,rfl,aei (x:=x) h.2.2,aej (x:=x) h.2.2⟩;rw [show (ts.length:Int).toNat=out.length from by omega,List.append_assoc,List.singleton_append,Yf] at hh
  rw [sV,show (ts.length:Int).toNat=out.length from by omega]; exact hh,h.2.1⟩)
         have hs:=hs.p2.p2;exact ⟨rfl,(pT.shut hs).mut⟩
set_option maxHeartbeats 2000000 in
theorem C256 (p:Nat) (lv:Value) (l:List bF) (s:fQ) (k:Nat) (d lp:Int) (out:List cI) (s2:fQ) (add:List cI) (Q:World→Prop) (F:Nat→Prop) (w:World) (hF:(pT p lv s out Q).p w F) (hT:∀ w',iF F w w'→eP (λ _=>True) w' lv l) (hk:iD l) (h0:lV l s) (HB:alA l k) (hd:0≤d∧d+k≤1000) (Mt:0≤lp∧lp+k≤1000) (T1:out.length+add.length≤1000000) (hr:T7 l (k+1) s d lp=some (s2,add)):CR 256 [(.pointer (some ⟨p,0,none⟩)),.int .i64 d,.int .i64 lp] w (λ v w'=>v = .int .i64 (add.length:Int)∧qy F (pT p lv s2 (out++add) Q) w w'):=by
 have hs:=St.begin hF;obtain ⟨ov,ts,hs⟩:=pT.open hs;have Nv:ts.length=out.length:=(hs.p2.eL).1.1;obtain ⟨s9,JS,e2⟩:=Ye hr;have FR:=hk.n;have hn:l.length≤1000000:=by omega
 have te:=hk.at_;obtain ⟨Rt,Ru⟩:=id h0;refine abO _ _ _ _ _ ?_;unfold S256;refine aE (aA pN (aB sX hs.hb rfl (aJ kh (hs.p1).fF ?_)));refine ⟨λ w'=>St w F [cH p (dZ lv ov (T6 l s d)),bK ov ts,eL (λ w=>jV ts out w∧Q w)] w',?_,?_⟩
 ·refine ⟨λ jv w'=>jv = .bool (decide (12<d) && sN l s.at_ CA)∧St w F [cH p (dZ lv ov s),bK ov ts,eL (λ w=>jV ts out w∧Q w)] w',?_,?_⟩
  ·refine dB (aC (λ gX=>?_) (λ gX=>?_))
   ·refine aE (aA gV (have hs:=hs.drew;aB iS hs.hb rfl (aE (aA eY (aB bL hs.hb rfl (aZ vw hs (C211 _ l s.at_ (ByteArray.mk #[123]) _ (hT _ hs.aF) hn) (λ w1 he hs=>?_)))))));exact ⟨vb (by first | (rw [decide_eq_true (show 12<d by omega)]; rfl) | (rw [decide_eq_false (show ¬ 12<d by omega)]; rfl)),hs⟩
   ·have hs:=hs.drew;exact ⟨vb (by first | (rw [decide_eq_true (show 12<d by omega)]; rfl) | (rw [decide_eq_false (show ¬ 12<d by omega)]; rfl)),hs⟩
  ·rintro _ w2 ⟨rfl,hs⟩ fD;refine aX (λ fT=>?_) (λ fT=>?_)
   ·refine bI GL hs (H':=λ _=>cH p (dZ lv ov (ja l s 7))) (Φ:=λ _ _=>True) (λ F2 eW eF=>?_) ?_
    ·exact (C254 p lv ov l s 7 F2 _ eW (λ w' hc=>hT w' (eF w' hc).aF) hk h0).mono λ _ _ r=>r.mono λ _ _ h=>⟨trivial,h.2⟩
    rintro _ w3 _ hs;have hs:=hs.p2.p2.p2;have h7:T6 l s d=ja l s 7:=by unfold T6; rw [if_pos fT]
    rw [h7]; exact hs
   ·have hs:=hs.p2.p2.p2;have h7:T6 l s d=s:=by unfold T6; rw [if_neg (by rw [fT]; simp)]
    rw [h7]; exact hs
 ·intro w4 hs jH;refine bI yo hs (H':=λ _=>cH p (dZ lv ov (dT l (T6 l s d) (ByteArray.mk #[123])))) (Φ:=λ _ _=>True) (λ F2 eW eF=>?_) ?_
  ·exact (C234 p lv ov l (T6 l s d) (ByteArray.mk #[123]) F2 _ eW (λ w' hc=>hT w' (eF w' hc).aF) hk (O7 h0)).mono λ _ _ r=>r.mono λ _ _ h=>⟨trivial,h.2⟩
  rintro _ w5 _ hs;have hs:=pT.shut (s:=dT l (T6 l s d) CA) hs.p2.p2.p2;refine ⟨λ mm w'=>∃ (s1:fQ) (o1 a2:List cI),lV l s1∧sQ l (λ s=>CS l (T7 l k) s d lp) mm s1=some (s9,a2)∧add=o1++a2∧St w F [pT p lv s1 (out++o1) Q] w',⟨10000,_,[],add,fE (O7 h0),JS,rfl,by rw [List.append_nil]; exact hs⟩,?_⟩;rintro mm w6 ⟨s1,o1,a2,My,IJ,sV,hs⟩ oY;obtain ⟨m,rfl⟩:=HG IJ;obtain ⟨ov1,Y9,hs⟩:=pT.open hs;have aem:Y9.length=(out++o1).length:=(hs.p2.eL).1.1;rw [List.length_append] at aem;refine ⟨λ jv w'=>jv = .bool (decide (s1.e=0) && !sN l s1.at_ nL)∧St w F [cH p (dZ lv ov1 s1),bK ov1 Y9,eL (λ w=>jV Y9 (out++o1) w∧Q w)] w',?_,?_⟩
  ·refine aE (aA kz (have hs:=hs.drew;aB nu hs.hb rfl (aH (aC (λ iJ=>?_) (λ iJ=>?_)))))
   ·refine aE (aA gV (aB iS hs.hb rfl (aE (aA eY (aB bL hs.hb rfl (aZ vw hs (C211 _ l s1.at_ (ByteArray.mk #[125]) _ (hT _ hs.aF) hn) (λ w7 he hs=>cC ?_)))))));have hs:=hs.p2.p2.p2;exact ⟨vb (by first | (rw [decide_eq_true iJ]; rfl) | (rw [decide_eq_false iJ]; rfl)),hs⟩
   ·have hs:=hs.p2.p2.p2;exact ⟨vb (by first | (rw [decide_eq_true iJ]; rfl) | (rw [decide_eq_false iJ]; rfl)),hs⟩
  ·rintro _ w8 ⟨rfl,hs⟩ G9;refine aX (λ wt=>?_) (λ wt=>?_)
   ·obtain ⟨s3,a1,a3,ho,hb3,rfl⟩:=JA IJ wt;have hs:=pT.shut hs.p2.p2.p2;refine bI afB hs (H':=λ _=>pT p lv s3 ((out++o1)++a1) Q) (Φ:=λ _ _=>True) (λ F2 eW eF=>?_) ?_
    ·exact (C233 p lv l s1 k d lp (out++o1) s3 a1 Q F2 _ eW (λ w' hc=>hT w' (eF w' hc).aF) hk My HB (by omega) (by omega) (by have:=congrArg List.length sV; simp at this ⊢; omega) ho).mono λ _ _ r=>r.mono λ _ _ h=>⟨trivial,h.2⟩
    rintro _ w9 _ hs;exact ⟨_,by omega,s3,o1++a1,a3,O8 (λ _ _ _ _ _ c e=>O9 c e) My ho,hb3,by rw [sV,List.append_assoc],by rw [← List.append_assoc]; exact hs⟩
   ·obtain ⟨e9,rfl⟩:=FA IJ wt;replace e9:=e9.symm;subst e9;rw [List.append_nil] at sV;subst sV;refine bI yo hs (H':=λ _=>cH p (dZ lv ov1 (dT l s1 (ByteArray.mk #[125])))) (Φ:=λ _ _=>True) (λ F2 eW eF=>?_) ?_
    ·exact (C234 p lv ov1 l s1 (ByteArray.mk #[125]) F2 _ eW (λ w' hc=>hT w' (eF w' hc).aF) hk My).mono λ _ _ r=>r.mono λ _ _ h=>⟨trivial,h.2⟩
    rintro _ pP _ hs;refine aE (aA pN (aB sX hs.hb rfl (aJ kh (hs.p1).fF (gD (by omega) ?_))));rw [e2];exact ⟨congrArg (Value.int .i64) (by omega),(pT.shut hs).mut⟩
theorem ass {l:List bF} (hk:iD l):∀ k,alA l k
 | 0=>λ p lv s d lp out s2 add Q F w _ _ _ _ _ _ h=>by cases h
 | k+1=>λ p lv s d lp out s2 add Q F w hF hT h0 hd Mt T1 h=>C256 p lv l s k d lp out s2 add Q F w hF hT hk h0 (ass hk k) (by omega) (by omega) T1 h
def tG (i:Int):fQ:=⟨i,0,0⟩
def FB (l:List bF) (i op:Int):Option (List cI × Int × Int × Int):=
 (sQ l (λ s=>CS l (T7 l 20) s 0 0) 10000 (tG i)).bind λ r=>
  if 1000000<r.2.length then none else if (dT l r.1 nL).e≠0 then some ([],0,(dT l r.1 nL).e,(dT l r.1 nL).pos)
  else if 40<r.2.length then some ([],0,2,(oQ l op).at_)
  else some (r.2,(dT l r.1 nL).at_,0,0)
def JB (l:List bF) (s:fQ):Bool:=match kK l s.at_ with | some t=>decide (t.kind=2) | none=>false
def fm (l:List bF) (nb:Bool) (s:fQ):fQ × dL:=
 if (nb && (gT l (fb l s).1 JU).2)=true then
  (if JB l (gT l (fb l s).1 JU).1=true then (Yc (gT l (fb l s).1 JU).1,{ (fb l s).2 with n:=(oQ l (gT l (fb l s).1 JU).1.at_).n})
  else (ja l (gT l (fb l s).1 JU).1 5,(fb l s).2))
 else fb l s
abbrev B8:ByteArray:=⟨#[44]⟩
abbrev RF:ByteArray:=⟨#[59]⟩
def pw (l:List bF) (nb:Bool):Nat→Bool→fQ→Option (fQ × List dL)
 | 0,_,_=>none
 | m+1,more,s=>if (more && decide (s.e=0))=true then (pw l nb m (gT l (fm l nb s).1 B8).2 (gT l (fm l nb s).1 B8).1).bind λ r=>some (r.1,(fm l nb s).2::r.2) else some (s,[])
def mT (l:List bF) (nb:Bool) (s:fQ):Option (fQ × List dL):=(pw l nb 10000 true s).bind λ r=>if 1000000<r.2.length then none else some (dT l r.1 RF,r.2)
abbrev Th:ByteArray:=⟨#[114,101,103]⟩
def A0 (l:List bF) (s:fQ):Option (fQ × List ByteArray):=
 if (gT l s Th).2=true then (mT l false (gT l s Th).1).bind λ r=>some (r.1,r.2.map dL.name) else some (s,[])
def sR (l:List bF) (s:fQ) (nm:ByteArray) (a:Int):Option (fQ × dX):=
 (A0 l (dT l s CA)).bind λ r=>
  if r.1.e≠0 then some (r.1,⟨nm,r.2,[],a⟩)
  else (FB l r.1.at_ s.at_).bind λ R=>if 0≤R.2.1∧R.2.1≤l.length then some (⟨R.2.1,R.2.2.1,R.2.2.2⟩,⟨nm,r.2,R.1,a⟩) else none
def wY (l:List bF) (s:fQ) (a:Int):Option (fQ × jG):=
 (vG l s.at_).bind λ R=>if R.2.2.1≠0 then some ({s with e:=R.2.2.1,pos:=R.2.2.2},⟨[],0⟩)
  else if 0≤R.2.1∧R.2.1≤l.length then some (dT l {s with at_:=R.2.1} RF,⟨R.1,a⟩) else none
def mO {α:Type} (l:List bF) (t:ByteArray) (rd:fQ→Option (fQ × α)):Nat→fQ→Option (fQ × List α)
 | 0,_=>none
 | m+1,s=>if (gT l s t).2=true then (rd (gT l s t).1).bind λ r=>(mO l t rd m r.1).bind λ q=>some (q.1,r.2::q.2) else some (s,[])
def zn (l:List bF) (s:fQ):Int:=(oQ l (s.at_ - 1)).at_
def Pb (l:List bF) (s:fQ):Option (fQ × List dX):=
 if (gT l s ⟨#[114,101,99,111,118,101,114]⟩).2=true then (sR l (gT l s ⟨#[114,101,99,111,118,101,114]⟩).1 ⟨#[]⟩ (zn l (gT l s ⟨#[114,101,99,111,118,101,114]⟩).1)).bind λ r=>some (r.1,[r.2]) else some (s,[])
abbrev Yg:ByteArray:=⟨#[108,105,110,101]⟩
abbrev alF:ByteArray:=⟨#[118,111,108]⟩
abbrev Yh:ByteArray:=⟨#[108,111,99,107]⟩
abbrev JC:ByteArray:=⟨#[116,104,114,101,97,100]⟩
abbrev JD:ByteArray:=⟨#[97,108,119,97,121,115]⟩
def alG (l:List bF) (s:fQ):Option (fQ × dX):=sR l (fb l s).1 (fb l s).2.name (fb l s).2.at_
def Gl (l:List bF) (s:fQ):fQ:=if s.at_<l.length then ja l s 5 else s
def Mz:cY:=⟨[],[],[],[],[],[]⟩
def rP (t:ByteArray):Option (cY × Int × Int):=
 (uF t).bind λ L=>if L.2.1≠0 then some (Mz,L.2.1,L.2.2) else
 (mO L.1 Yg (mT L.1 true) 10000 (tG 0)).bind λ r1=>
 (mO L.1 alF (mT L.1 true) 10000 r1.1).bind λ r2=>
 (mO L.1 Yh (mT L.1 false) 10000 r2.1).bind λ r3=>
 (mO L.1 JC (alG L.1) 10000 r3.1).bind λ r4=>
 (Pb L.1 r4.1).bind λ r5=>
 (mO L.1 JD (λ s=>wY L.1 s (zn L.1 s)) 10000 r5.1).bind λ r6=>
  if 1000000<r1.2.length∨1000000<r2.2.flatten.length∨1000000<r3.2.flatten.length∨1000000<r4.2.length∨1000000<r6.2.length then none else if (Gl L.1 r6.1).e≠0 then some (Mz,(Gl L.1 r6.1).e,(Gl L.1 r6.1).pos) else some (⟨r1.2,r2.2.flatten,r3.2.flatten,r4.2,r5.2,r6.2⟩,0,0)
section
variable {l:List bF} {s s':fQ}
theorem Yi {t:ByteArray} (h:(gT l s t).2=true):gT l s t=({s with at_:=s.at_+1},true)∧s.e=0∧0≤s.at_∧s.at_<l.length:=by
 unfold gT at h ⊢
 split at h
 ·rename_i h2
  rw [if_pos h2]
  rw [Bool.and_eq_true,decide_eq_true_eq] at h2
  exact ⟨rfl,h2.1,rN h2.2⟩
 ·cases h
theorem wZ {t:ByteArray} (h:(gT l s t).2=false):gT l s t=(s,false):=by
 unfold gT at h ⊢
 split at h
 ·cases h
 ·rename_i h2; rw [if_neg h2]
theorem FC {nb:Bool} (h:lV l s):lV l (fm l nb s).1:=by
 have h1:=uG h
 have h2:=j5 (t:=JU) h1
 unfold fm
 split
 ·split
  ·rename_i h3
   unfold JB at h3
   cases ht:kK l (gT l (fb l s).1 JU).1.at_ with
   | none=>rw [ht] at h3; cases h3
   | some t=>
    have:=mA ht
    exact ⟨by show 0≤(gT l (fb l s).1 JU).1.at_+1; omega,by show (gT l (fb l s).1 JU).1.at_+1≤_; omega⟩
  ·exact sP h2
 ·exact h1
theorem HI {nb:Bool}:∀ {m:Nat} {more:Bool} {s s':fQ} {x:List dL},lV l s→pw l nb m more s=some (s',x)→lV l s'
 | 0,_,_,_,_,_,h=>by cases h
 | m+1,more,s,s',x,h0,h=>by
  unfold pw at h
  split at h
  ·obtain ⟨q,y,h1,h2⟩:=eM h
   cases h2
   exact HI (j5 (FC h0)) h1
  ·cases h; exact h0
theorem xM {nb:Bool} {x:List dL} (h:mT l nb s=some (s',x)):∃ s1,pw l nb 10000 true s=some (s1,x)∧s'=dT l s1 RF∧x.length≤1000000:=by
 unfold mT at h
 obtain ⟨q,y,h1,h2⟩:=eM h
 dsimp only at h2
 split at h2
 ·cases h2
 ·cases h2; exact ⟨_,h1,rfl,by omega⟩
theorem xN {nb:Bool} {x:List dL} (h0:lV l s) (h:mT l nb s=some (s',x)):lV l s':=by
 obtain ⟨s1,h1,h2,_⟩:=xM h
 rw [h2]; exact fE (HI h0 h1)
theorem MC {nb more:Bool} {m:Nat} {x:List dL} (h:pw l nb m more s=some (s',x)):∃ k,m=k+1:=by
 cases m with
 | zero=>cases h
 | succ k=>exact ⟨k,rfl⟩
theorem FD {nb more:Bool} {m:Nat} {x:List dL} (h:pw l nb (m+1) more s=some (s',x)) (hb:(more && decide (s.e=0))=false):s'=s∧x=[]:=by
 unfold pw at h; rw [hb,if_neg (by simp)] at h; cases h; exact ⟨rfl,rfl⟩
theorem Ti {nb more:Bool} {m:Nat} {x:List dL} (h:pw l nb (m+1) more s=some (s',x)) (hb:(more && decide (s.e=0))=true):∃ y,pw l nb m (gT l (fm l nb s).1 B8).2 (gT l (fm l nb s).1 B8).1=some (s',y)∧x=(fm l nb s).2::y:=by
 unfold pw at h; rw [hb,if_pos rfl] at h
 obtain ⟨q,y,h1,h2⟩:=eM h
 cases h2
 exact ⟨_,h1,rfl⟩
theorem MD {x:List ByteArray} (h0:lV l s) (h:A0 l s=some (s',x)):lV l s':=by
 unfold A0 at h
 split at h
 ·obtain ⟨q,y,h1,h2⟩:=eM h
  cases h2
  exact xN (j5 h0) h1
 ·cases h; exact h0
theorem FE {nm:ByteArray} {a:Int} {x:dX} (h0:lV l s) (h:sR l s nm a=some (s',x)):lV l s':=by
 unfold sR at h
 obtain ⟨q,y,h1,h2⟩:=eM h
 have h3:=MD (fE h0) h1
 dsimp only at h2
 split at h2
 ·cases h2; exact h3
 ·cases hr:FB l q.at_ s.at_ with
  | none=>rw [hr] at h2; cases h2
  | some R=>
   rw [hr] at h2
   simp only [Option.bind_some] at h2
   split at h2
   ·rename_i h4; cases h2; exact h4
   ·cases h2
theorem Tj {a:Int} {x:jG} (h0:lV l s) (h:wY l s a=some (s',x)):lV l s':=by
 unfold wY at h
 cases hr:vG l s.at_ with
 | none=>rw [hr] at h; cases h
 | some R=>
  rw [hr] at h
  simp only [Option.bind_some] at h
  split at h
  ·cases h; exact h0
  ·split at h
   ·rename_i h4; cases h; exact fE h4
   ·cases h
theorem rQ {α:Type} {t:ByteArray} {rd:fQ→Option (fQ × α)} {m:Nat} {x:List α} (h:mO l t rd m s=some (s',x)):∃ k,m=k+1:=by
 cases m with
 | zero=>cases h
 | succ k=>exact ⟨k,rfl⟩
theorem uH {α:Type} {t:ByteArray} {rd:fQ→Option (fQ × α)} {m:Nat} {x:List α} (h:mO l t rd (m+1) s=some (s',x)) (hb:(gT l s t).2=false):s'=s∧x=[]:=by
 unfold mO at h; rw [hb,if_neg (by simp)] at h; cases h; exact ⟨rfl,rfl⟩
theorem xa {α:Type} {t:ByteArray} {rd:fQ→Option (fQ × α)} {m:Nat} {x:List α} (h:mO l t rd (m+1) s=some (s',x)) (hb:(gT l s t).2=true):∃ s1 y z,rd (gT l s t).1=some (s1,y)∧mO l t rd m s1=some (s',z)∧x=y::z:=by
 unfold mO at h; rw [hb,if_pos rfl] at h
 obtain ⟨q,y,h1,h2⟩:=eM h
 obtain ⟨q2,y2,h3,h4⟩:=eM h2
 cases h4
 exact ⟨_,_,_,h1,h3,rfl⟩
end
def noQ:World→Prop:=λ _=>True
theorem A1 {l:List bF} {i:Int} {t:bF} (h0:0≤i) (h:l[i.toNat]? = some t):oQ l i=t:=by
 unfold oQ kK; rw [if_pos h0,h]; rfl
theorem aen {l:List bF} {i op:Int} {R:List cI × Int × Int × Int} (h:FB l i op=some R):∃ s9 add,sQ l (λ s=>CS l (T7 l 20) s 0 0) 10000 (tG i)=some (s9,add)∧add.length≤1000000∧
  ((dT l s9 nL).e≠0→R=([],0,(dT l s9 nL).e,(dT l s9 nL).pos))∧(¬ (dT l s9 nL).e≠0→40<(add.length:Int)→R=([],0,2,(oQ l op).at_))∧
  (¬ (dT l s9 nL).e≠0→¬ 40<(add.length:Int)→R=(add,(dT l s9 nL).at_,0,0)):=by
 unfold FB at h
 obtain ⟨q,y,h1,h2⟩:=eM h
 dsimp only at h2
 split at h2
 ·cases h2
 ·rename_i hl
  refine ⟨q,y,h1,by omega,λ he=>?_,λ he hb=>?_,λ he hb=>?_⟩
  ·rw [if_pos he] at h2; exact (Option.some.inj h2).symm
  ·rw [if_neg he,if_pos (by omega)] at h2; exact (Option.some.inj h2).symm
  ·rw [if_neg he,if_neg (by omega)] at h2; exact (Option.some.inj h2).symm
section
variable {l:List bF} {s s':fQ} {nb:Bool}
theorem Tl (hn:nb=true) (h2:(gT l (fb l s).1 JU).2=true) (h3:JB l (gT l (fb l s).1 JU).1=true) :
  fm l nb s=(Yc (gT l (fb l s).1 JU).1,{ (fb l s).2 with n:=(oQ l (gT l (fb l s).1 JU).1.at_).n}):=by
 unfold fm; rw [hn,h2,if_pos (show (true && true)=true from rfl),if_pos h3]
theorem Tm (hn:nb=true) (h2:(gT l (fb l s).1 JU).2=true) (h3:JB l (gT l (fb l s).1 JU).1=false) :
  fm l nb s=(ja l (gT l (fb l s).1 JU).1 5,(fb l s).2):=by
 unfold fm; rw [hn,h2,if_pos (show (true && true)=true from rfl),if_neg (by rw [h3]; simp)]
theorem Yj (h2:(gT l (fb l s).1 JU).2=false):fm l nb s=((gT l (fb l s).1 JU).1,(fb l s).2):=by
 unfold fm; rw [if_neg (by rw [h2]; simp),wZ h2]
theorem Yk (hn:nb=false):fm l nb s=((fb l s).1,(fb l s).2):=by
 unfold fm; rw [if_neg (by rw [hn]; simp)]
theorem aeo {q:fQ} (h:JB l q=true):∃ tk,kK l q.at_=some tk∧l[q.at_.toNat]? = some tk∧0≤q.at_∧q.at_<l.length:=by
 unfold JB at h
 cases ht:kK l q.at_ with
 | none=>rw [ht] at h; cases h
 | some tk=>have:=mA ht; exact ⟨tk,rfl,this.2.2,this.1,this.2.1⟩
theorem HJ {x:List ByteArray} (h:A0 l s=some (s',x)) (h1:(gT l s Th).2=true):∃ ys,mT l false (gT l s Th).1=some (s',ys)∧x=ys.map dL.name:=by
 unfold A0 at h; rw [if_pos h1] at h
 obtain ⟨q,y,h2,h3⟩:=eM h
 cases h3
 exact ⟨y,h2,rfl⟩
theorem ME {x:List ByteArray} (h:A0 l s=some (s',x)) (h1:(gT l s Th).2=false):s'=s∧x=[]:=by
 unfold A0 at h; rw [if_neg (by rw [h1]; simp)] at h
 cases h; exact ⟨rfl,rfl⟩
theorem Pc {nm:ByteArray} {a:Int} {x:dX} (h:sR l s nm a=some (s',x)):∃ q rs,A0 l (dT l s CA)=some (q,rs)∧
  (q.e≠0→s'=q∧x=⟨nm,rs,[],a⟩)∧(¬ q.e≠0→∃ R,FB l q.at_ s.at_=some R∧0≤R.2.1∧R.2.1≤l.length∧s'=⟨R.2.1,R.2.2.1,R.2.2.2⟩∧x=⟨nm,rs,R.1,a⟩):=by
 unfold sR at h
 obtain ⟨q,rs,h1,h2⟩:=eM h
 refine ⟨q,rs,h1,λ he=>?_,λ he=>?_⟩
 ·dsimp only at h2; rw [if_pos he] at h2; cases h2; exact ⟨rfl,rfl⟩
 ·dsimp only at h2; rw [if_neg he] at h2
  cases hr:FB l q.at_ s.at_ with
  | none=>rw [hr] at h2; cases h2
  | some R=>
   rw [hr] at h2
   simp only [Option.bind_some] at h2
   split at h2
   ·rename_i h4; cases h2; exact ⟨R,rfl,h4.1,h4.2,rfl,rfl⟩
   ·cases h2
theorem Tn {a:Int} {x:jG} (h:wY l s a=some (s',x)):∃ R,vG l s.at_=some R∧
  (R.2.2.1≠0→s'={s with e:=R.2.2.1,pos:=R.2.2.2}∧x=⟨[],0⟩)∧(¬ R.2.2.1≠0→(0≤R.2.1∧R.2.1≤l.length)∧s'=dT l {s with at_:=R.2.1} RF∧x=⟨R.1,a⟩):=by
 unfold wY at h
 cases hr:vG l s.at_ with
 | none=>rw [hr] at h; cases h
 | some R=>
  rw [hr] at h
  simp only [Option.bind_some] at h
  refine ⟨R,rfl,λ he=>?_,λ he=>?_⟩
  ·rw [if_pos he] at h; cases h; exact ⟨rfl,rfl⟩
  ·rw [if_neg he] at h
   split at h
   ·rename_i h4; cases h; exact ⟨h4,rfl,rfl⟩
   ·cases h
theorem alH {e:Int} (he:e≠0) (h:(ja l s e).e=0):False:=by
 unfold ja at h
 split at h
 ·dsimp only at h; split at h <;> omega
 ·rename_i h1; exact h1 h
theorem aep {t:ByteArray} (h:(dT l s t).e=0):sN l s.at_ t=true:=by
 unfold dT at h
 split at h
 ·rename_i h1; rw [Bool.and_eq_true] at h1; exact h1.2
 ·exact (alH (by decide) h).elim
theorem asu {t:ByteArray}:(gT l s t).1.e=s.e:=by unfold gT; split <;> rfl
theorem To {e:Int} (h:s.e≠0):(ja l s e).e≠0:=by unfold ja; rw [if_neg h]; exact h
theorem Pd {t:ByteArray} (h:s.e≠0):(dT l s t).e≠0:=by
 unfold dT; rw [if_neg (by rw [Bool.and_eq_true,decide_eq_true_eq]; exact λ hh=>h hh.1)]; exact To h
theorem MF:∀ {m:Nat} {more:Bool} {s s':fQ} {x:List dL},s.e≠0→pw l nb m more s=some (s',x)→s'.e≠0
 | 0,_,_,_,_,_,h=>by cases h
 | m+1,more,s,s',x,h0,h=>by
  have:=FD h (by rw [decide_eq_false h0,Bool.and_false])
  rw [this.1]; exact h0
theorem MG {x:List dL} (h0:s.e≠0) (h:mT l nb s=some (s',x)):s'.e≠0:=by
 obtain ⟨s1,h1,h2,_⟩:=xM h
 rw [h2]; exact Pd (MF h0 h1)
theorem Pe {x:List ByteArray} (h0:s.e≠0) (h:A0 l s=some (s',x)):s'.e≠0:=by
 cases h1:(gT l s Th).2 with
 | true=>obtain ⟨ys,h2,_⟩:=HJ h h1; exact MG (by rw [asu]; exact h0) h2
 | false=>rw [(ME h h1).1]; exact h0
end
theorem Gm {α β:Type} {f:α→β} {l:List α} {k:Nat} {e:α} (h:l[k]? = some e):(l.take k).map f++[f e]=(l.take (k+1)).map f:=by
 rw [← ie h,List.map_append]; rfl
theorem MH {l:List bF} {s s':fQ} {x:List dX} (h:Pb l s=some (s',x)) (h1:(gT l s ⟨#[114,101,99,111,118,101,114]⟩).2=true):∃ y,sR l (gT l s ⟨#[114,101,99,111,118,101,114]⟩).1 ⟨#[]⟩ (zn l (gT l s ⟨#[114,101,99,111,118,101,114]⟩).1)=some (s',y)∧x=[y]:=by
 unfold Pb at h; rw [if_pos h1] at h
 obtain ⟨q,y,h2,h3⟩:=eM h
 cases h3
 exact ⟨y,h2,rfl⟩
theorem RG {l:List bF} {s s':fQ} {x:List dX} (h:Pb l s=some (s',x)) (h1:(gT l s ⟨#[114,101,99,111,118,101,114]⟩).2=false):s'=s∧x=[]:=by
 unfold Pb at h; rw [if_neg (by rw [h1]; simp)] at h
 cases h; exact ⟨rfl,rfl⟩
theorem Tp {t:ByteArray} {l:List bF} {e a:Int} {R:cY × Int × Int} (h:rP t=some R) (hs:uF t=some (l,e,a)) (he:e≠0):R=(Mz,e,a):=by
 unfold rP at h; rw [hs] at h
 simp only [Option.bind_some] at h
 rw [if_pos he] at h; exact (Option.some.inj h).symm
theorem Pf {t:ByteArray} {R:cY × Int × Int} (h:rP t=some R):∃ l e a,uF t=some (l,e,a):=by
 unfold rP at h
 cases hs:uF t with
 | none=>rw [hs] at h; cases h
 | some L=>exact ⟨L.1,L.2.1,L.2.2,rfl⟩
structure alI (l:List bF) (R:cY × Int × Int) (t1 t2 t3 t4 t5 t6:fQ) (y1:List (List dL)) (y2 y3:List (List dL)) (y4 y5:List dX) (y6:List jG):Prop where
 h1:mO l Yg (mT l true) 10000 (tG 0)=some (t1,y1)
 h2:mO l alF (mT l true) 10000 t1=some (t2,y2)
 h3:mO l Yh (mT l false) 10000 t2=some (t3,y3)
 h4:mO l JC (alG l) 10000 t3=some (t4,y4)
 h5:Pb l t4=some (t5,y5)
 h6:mO l JD (λ s=>wY l s (zn l s)) 10000 t5=some (t6,y6)
 b1:y1.length≤1000000
 b2:y2.flatten.length≤1000000
 b3:y3.flatten.length≤1000000
 b4:y4.length≤1000000
 b6:y6.length≤1000000
 bad:(Gl l t6).e≠0→R=(Mz,(Gl l t6).e,(Gl l t6).pos)
 azK:¬ (Gl l t6).e≠0→R=(⟨y1,y2.flatten,y3.flatten,y4,y5,y6⟩,0,0)
theorem Yl {t:ByteArray} {l:List bF} {e a:Int} {R:cY × Int × Int} (h:rP t=some R) (hs:uF t=some (l,e,a)) (he:¬ e≠0):∃ t1 t2 t3 t4 t5 t6 y1 y2 y3 y4 y5 y6,alI l R t1 t2 t3 t4 t5 t6 y1 y2 y3 y4 y5 y6:=by
 unfold rP at h; rw [hs] at h
 simp only [Option.bind_some] at h
 rw [if_neg he] at h
 obtain ⟨t1,y1,h1,h⟩:=eM h
 obtain ⟨t2,y2,h2,h⟩:=eM h
 obtain ⟨t3,y3,h3,h⟩:=eM h
 obtain ⟨t4,y4,h4,h⟩:=eM h
 obtain ⟨t5,y5,h5,h⟩:=eM h
 obtain ⟨t6,y6,h6,h⟩:=eM h
 dsimp only at h
 split at h
 ·cases h
 ·rename_i hb
  simp only [not_or,Nat.not_lt] at hb
  refine ⟨t1,t2,t3,t4,t5,t6,y1,y2,y3,y4,y5,y6,h1,h2,h3,h4,h5,h6,hb.1,hb.2.1,hb.2.2.1,hb.2.2.2.1,hb.2.2.2.2,λ hh=>?_,λ hh=>?_⟩
  ·rw [if_pos hh] at h; exact (Option.some.inj h).symm
  ·rw [if_neg hh] at h; exact (Option.some.inj h).symm
theorem aeq {l:List bF} {s s':fQ} {x:List dX} (h0:lV l s) (h:Pb l s=some (s',x)):lV l s':=by
 cases h1:(gT l s ⟨#[114,101,99,111,118,101,114]⟩).2 with
 | true=>obtain ⟨y,h2,_⟩:=MH h h1; exact FE (j5 h0) h2
 | false=>rw [(RG h h1).1]; exact h0
theorem A3 {α:Type} {a:List (List α)} {b:List α}:(a++[b]).flatten=a.flatten++b:=by simp
theorem RH {α:Type} {y a c:List (List α)} {b:List α} (h:y=a++b::c):a.flatten.length+b.length≤y.flatten.length:=by rw [h]; simp
theorem C213 (l:List bF) (lv:Value) (i op:Int) (R:List cI × Int × Int × Int) (w:World) (hL:eP (λ _=>True) w lv l) (hk:iD l) (h0:0≤i∧i≤l.length) (jW:0≤op∧op<l.length) (hr:FB l i op=some R):CR 213 [lv,.int .i64 i,.int .i64 op] w (λ v w'=>∃ sv:SV,v = .tuple #[Flat.val sv,.int .i64 R.2.1,.int .i64 R.2.2.1,.int .i64 R.2.2.2]∧lY (eL (λ w=>DL w (Flat.val sv) R.1)) w w'):=by
 have FR:=hk.n;have hn:l.length≤1000000:=by omega
 have te:=hk.at_;obtain ⟨s9,add,JS,T1,hR⟩:=aen hr;obtain ⟨lsv,hlv⟩:=hL.fU;have hs:=St.start w;refine aa7 _ _ _ _ _ ?_;unfold S213;rw [hlv];refine pop (NG _ _ _ _) (l5 hs (λ asw w1 hs=>?_));obtain ⟨p,rfl⟩:∃ p,p=asw:=⟨_,rfl⟩;have hs:=hs.enc (cs':=dZ (Flat.val lsv) (.slice none 0 0) (tG i)) rfl;rw [← hlv] at hs ⊢;have hT:∀ w',iF bD w w'→eP (λ _=>True) w' lv l:=λ w' hc=>hL.ext hc;have hs:=((hs.gK (Φ:=λ w=>jV ([]:List bY) ([]:List cI) w∧noQ w) λ w=>⟨jV.nil,trivial⟩).fX (α:=bY)).p2;have hs:=pT.shut hs;refine ⟨λ mm w'=>∃ (s1:fQ) (o1 a2:List cI),lV l s1∧sQ l (λ s=>CS l (T7 l 20) s 0 0) mm s1=some (s9,a2)∧add=o1++a2∧St w bD [pT p lv s1 (([]:List cI)++o1) noQ] w',⟨10000,tG i,[],add,(show lV l (tG i) from h0),JS,rfl,by rw [List.append_nil]; exact hs⟩,?_⟩
 rintro mm w2 ⟨s1,o1,a2,My,IJ,sV,hs⟩ fD;obtain ⟨m,rfl⟩:=HG IJ;obtain ⟨ov1,Y9,hs⟩:=pT.open hs;have aem:Y9.length=(([]:List cI)++o1).length:=(hs.p2.eL).1.1;rw [List.length_append] at aem;refine ⟨λ jv w'=>jv = .bool (decide (s1.e=0) && !sN l s1.at_ nL)∧St w bD [cH p (dZ lv ov1 s1),bK ov1 Y9,eL (λ w=>jV Y9 (([]:List cI)++o1) w∧noQ w)] w',?_,?_⟩
 ·refine aE (aA kz (have hs:=hs.drew;aB nu hs.hb rfl (aH (aC (λ fB=>?_) (λ fB=>?_)))))
  ·refine aE (aA gV (aB iS hs.hb rfl (aE (aA eY (aB bL hs.hb rfl (aZ vw hs (C211 _ l s1.at_ (ByteArray.mk #[125]) _ (hT _ hs.aF) hn) (λ w3 he hs=>cC ?_)))))));have hs:=hs.p2.p2.p2;exact ⟨vb (by first | (rw [decide_eq_true fB]; rfl) | (rw [decide_eq_false fB]; rfl)),hs⟩
  ·have hs:=hs.p2.p2.p2;exact ⟨vb (by first | (rw [decide_eq_true fB]; rfl) | (rw [decide_eq_false fB]; rfl)),hs⟩
 ·rintro _ w4 ⟨rfl,hs⟩ jH;refine aX (λ lR=>?_) (λ lR=>?_)
  ·obtain ⟨s3,a1,a3,ho,hb3,rfl⟩:=JA IJ lR;have hs:=pT.shut hs.p2.p2.p2;refine bI afB hs (H':=λ _=>pT p lv s3 ((([]:List cI)++o1)++a1) noQ) (Φ:=λ _ _=>True) (λ F2 eW eF=>?_) ?_
   ·exact (C233 p lv l s1 20 0 0 (([]:List cI)++o1) s3 a1 noQ F2 _ eW (λ w' hc=>hT w' (eF w' hc).aF) hk My (ass hk 20) (by omega) (by omega) (by have:=congrArg List.length sV; simp at this ⊢; omega) ho).mono λ _ _ r=>r.mono λ _ _ h=>⟨trivial,h.2⟩
   rintro _ w5 _ hs;exact ⟨_,by omega,s3,o1++a1,a3,O8 (λ _ _ _ _ _ c e=>O9 c e) My ho,hb3,by rw [sV,List.append_assoc],by rw [← List.append_assoc]; exact hs⟩
  ·obtain ⟨e9,rfl⟩:=FA IJ lR;replace e9:=e9.symm;subst e9;rw [List.append_nil] at sV;subst sV;obtain ⟨azM,azN⟩:=id My;simp only [List.length_nil,Nat.zero_add] at aem;refine bI yo hs (H':=λ _=>cH p (dZ lv ov1 (dT l s1 (ByteArray.mk #[125])))) (Φ:=λ _ _=>True) (λ F2 eW eF=>?_) ?_
   ·exact (C234 p lv ov1 l s1 (ByteArray.mk #[125]) F2 _ eW (λ w' hc=>hT w' (eF w' hc).aF) hk My).mono λ _ _ r=>r.mono λ _ _ h=>⟨trivial,h.2⟩
   rintro _ w6 _ hs;refine aE (aA kz (aB nu hs.hb rfl (cR (aC (λ qA=>?_) (λ qA=>?_)))))
   ·refine aE (aA kz (have hs:=hs.drew;aB nu hs.hb rfl (aE (aA zX (aB bL hs.hb rfl ?_)))));have hRR:R=([],0,(dT l s1 nL).e,(dT l s1 nL).pos):=hR.1 qA;rw [hRR];exact ⟨⟨none,0,0⟩,rfl,(hs.gK (Φ:=λ w=>DL w (Flat.val (⟨none,0,0⟩:SV)) ([]:List cI)) λ w=>DL.nil w).fresh⟩
   ·refine aE (aA pN (aB sX hs.hb rfl (aJ kh (hs.p1).fF (dB (aC (λ wD=>?_) (λ wD=>?_))))))
    ·obtain ⟨LK,pb⟩:=gx (l) (i:=(op).toNat) (by omega);refine aQ fH hL (by omega) pb (λ _ wE=>bT (LK).at_ lq wE rfl rfl (λ _ Aq=>have hs:=hs.drew;aD bL (Aq.ext hs.aF) ?_));have hRR:R=([],0,2,LK.at_):=(hR.2.1 qA (by omega)).trans (by rw [A1 jW.1 pb]);rw [hRR];exact ⟨⟨none,0,0⟩,rfl,(hs.gK (Φ:=λ w=>DL w (Flat.val (⟨none,0,0⟩:SV)) ([]:List cI)) λ w=>DL.nil w).fresh⟩
    ·refine aE (aA pN (have hs:=hs.drew;aB sX hs.hb rfl (aE (aA eY (aB bL hs.hb rfl ?_)))));have hs:=((hs.drop.p1).dU (Ψ:=jV Y9 ([]++add)) (λ w h=>h.1)).p1;have hs:=St.Ea hs;obtain ⟨sv,hsv⟩:=hs.lP;subst hsv;rw [hR.2.2 qA (by omega)];exact ⟨sv,rfl,hs.jO.fresh⟩
theorem C166 (p:Nat) (lv:Value) (l:List bF) (s:fQ) (nb:Bool) (s2:fQ) (x:List dL) (F:Nat→Prop) (w:World) (hF:(cH p (en lv s)).p w F) (hT:∀ w',iF F w w'→eP (λ _=>True) w' lv l) (hk:iD l) (h0:lV l s) (hr:mT l nb s=some (s2,x)):CR 166 [(.pointer (some ⟨p,0,none⟩)),.bool nb] w (λ v w'=>qy F (sep (cH p (en lv s2)) (bK v x)) w w'):=by
 have hs:=St.begin hF;obtain ⟨s9,hn0,e2,T1⟩:=xM hr;have FR:=hk.n;have hn:l.length≤1000000:=by omega
 have te:=hk.at_;obtain ⟨Rt,Ru⟩:=id h0;refine aat _ _ _ _ ?_;unfold S166;refine bV (([]:List dL)) hs kf rfl rfl (eK rfl) (λ ye w1 hs=>?_);have hs:=hs.p1.p1;refine ⟨λ mm o mo w'=>∃ (s1:fQ) (b:Bool) (o1 a2:List dL),mo = .bool b∧lV l s1∧pw l nb mm b s1=some (s9,a2)∧x=o1++a2∧St w F [bK o o1,cH p (en lv s1)] w',⟨10000,s,true,[],x,rfl,h0,hn0,rfl,hs⟩,?_⟩;rintro mm yI _ w2 ⟨s1,b,o1,a2,rfl,My,Vz,hx,hs⟩ fD;obtain ⟨m,rfl⟩:=MC Vz;obtain ⟨azM,azN⟩:=id My;refine ⟨λ jv w'=>jv = .bool (b && decide (s1.e=0))∧w2=w',?_,?_⟩
 ·refine aX (λ A4=>?_) (λ A4=>?_)
  ·refine aE (aA l9 (aB nu hs.p1.hb rfl (aH ?_)));exact ⟨vb (by first | (rw [A4]; rfl) | (rw [A4]; rfl)),rfl⟩
  ·exact ⟨vb (by first | (rw [A4]; rfl) | (rw [A4]; rfl)),rfl⟩
 ·rintro _ w3 ⟨rfl,hw⟩ jH;subst hw;refine aX (λ eE=>?_) (λ eE=>?_)
  ·obtain ⟨a3,hn3,rfl⟩:=Ti Vz eE;refine bI afp hs.p1 (H':=λ _=>cH p (en lv (fb l s1).1)) (Φ:=λ v _=>v=Flat.val (fb l s1).2) (λ F2 eW eF=>?_) ?_
   ·exact C167 p lv l s1 F2 _ eW (λ w' hc=>hT w' (eF w' hc).aF) hk My
   rintro _ w4 rfl hs;refine aN hs C5 (λ asx w5 hs=>aI (x:=(fb l s1).2) hs yr rfl rfl (λ w6 hs=>?_));refine ⟨λ w'=>St w F [cH p (en lv (fm l nb s1).1),cH asx (Flat.enc (fm l nb s1).2),bK yI o1] w',?_,?_⟩
   ·refine ⟨_,?_,λ _ _ h=>h⟩;refine aX (λ vr=>?_) (λ vr=>?_)
    ·refine bI yn hs.p1 (H':=λ _=>cH p (en lv (gT l (fb l s1).1 (ByteArray.mk #[61])).1)) (Φ:=λ v _=>v = .bool (gT l (fb l s1).1 (ByteArray.mk #[61])).2) (λ F2 eW eF=>?_) ?_
     ·exact C165 p lv l (fb l s1).1 (ByteArray.mk #[61]) F2 _ eW (λ w' hc=>hT w' (eF w' hc).aF) hk (uG My)
     rintro _ w7 rfl hs;intro oY;refine aX (λ fT=>?_) (λ fT=>?_)
     ·have hq:=j5 (t:=ByteArray.mk #[61]) (uG My);obtain ⟨hq0,hq1⟩:=id hq;refine ⟨λ jv w'=>jv = .bool (JB l (gT l (fb l s1).1 (ByteArray.mk #[61])).1)∧St w F [cH p (en lv (gT l (fb l s1).1 (ByteArray.mk #[61])).1),cH asx (Flat.enc (fb l s1).2),bK yI o1] w',?_,?_⟩
      ·refine aE (aA ft (have hs:=hs.drew;aB bL hs.hb rfl (aE (aA jN (aB iS hs.hb rfl (aJ fH (hT _ hs.aF) (aR (aC (λ jC=>?_) (λ jC=>?_)))))))))
       ·refine aE (aA jN (aB iS hs.hb rfl (aE (aA ft (aB bL hs.hb rfl ?_)))));obtain ⟨asz,Ym⟩:=gx (l) (i:=(((gT l (fb l s1).1 (ByteArray.mk #[61])).1).at_).toNat) (by omega);refine aQ fH (hT _ hs.aF) (by omega) Ym (λ _ Lu=>bT (asz).kind lj Lu rfl rfl (λ _ Lv=>aD bL (Lv) (aH ?_)));have hs:=hs.p2.p2.p2;exact ⟨vb (by unfold JB kK; rw [if_pos hq0,Ym]),hs⟩
       ·have hs:=hs.p2.p2.p2;exact ⟨vb (by unfold JB kK; rw [if_pos hq0,List.getElem?_eq_none (by omega)]),hs⟩
      ·rintro _ w9 ⟨rfl,hs⟩ G9;refine aX (λ vC=>?_) (λ vC=>?_)
       ·obtain ⟨tk,X1,Tf,_,hqlt⟩:=aeo vC;have Bd:oQ l (gT l (fb l s1).1 (ByteArray.mk #[61])).1.at_=tk:=A1 hq0 Tf;refine aE (aA jN (have hs:=hs.drew;aB iS hs.hb rfl (aE (aA ft (aB bL hs.hb rfl (aQ fH (hT _ hs.aF) (by omega) Tf (λ _ Aq=>bT (tk).n q9 Aq rfl rfl (λ _ asA=>aD bL (asA) (aA zU (aV hs.p1 bL (eK rfl) (rfl) (λ pP hs=>have hs:=hs.enc (cs':=Flat.enc ({ (fb l s1).2 with n:=(tk).n}:dL)) rfl;aE (aA ft ?_))))))))))));refine aB bL hs.p1.hb rfl (aO (by omega) (aE (aA ft (aV hs.p1 bL (eK rfl) (rfl) (λ sZ hs=>?_)))))
        have hs:=hs.p2.p2.p2;have CK:(fm l nb s1)=(Yc (gT l (fb l s1).1 (ByteArray.mk #[61])).1,{ (fb l s1).2 with n:=tk.n}):=(Tl vr fT vC).trans (by rw [Bd]);rw [CK];exact hs
       ·refine bI Qa hs (H':=λ _=>cH p (en lv (ja l (gT l (fb l s1).1 (ByteArray.mk #[61])).1 5))) (Φ:=λ _ _=>True) (λ F2 eW eF=>?_) ?_
        ·exact (C170 p lv l (gT l (fb l s1).1 (ByteArray.mk #[61])).1 F2 _ eW (λ w' hc=>hT w' (eF w' hc).aF) hk (j5 (uG My))).mono λ _ _ r=>r.mono λ _ _ h=>⟨trivial,h.2⟩
        rintro _ vy _ hs;have hs:=hs.p2.p2.p2;have CK:=Tm vr fT vC;rw [CK];exact hs
     ·have hs:=hs.p2.p2.p2;have CK:=Yj (nb:=nb) fT;rw [CK];exact hs
    ·intro oY;refine fJ ?_;have hs:=hs.p2.p1.p2;have CK:=Yk (l:=l) (s:=s1) vr;rw [CK];exact hs
   ·intro vz hs Sv;refine aD yr hs.p1.At (bV ([(fm l nb s1).2]) hs kf rfl rfl (eK rfl) (λ agd su hs=>?_));have alJ:=(hs).fF;refine cS hs.p3 kf alJ (by have:=congrArg List.length hx; simp at this ⊢; omega) (by decide) (λ aqs wm hs=>have hs:=hs.p1.drop;bI yn hs.p1 (H':=λ _=>cH p (en lv (gT l (fm l nb s1).1 (ByteArray.mk #[44])).1)) (Φ:=λ v _=>v = .bool (gT l (fm l nb s1).1 (ByteArray.mk #[44])).2) (λ F2 eW eF=>?_) ?_)
    ·exact C165 p lv l (fm l nb s1).1 (ByteArray.mk #[44]) F2 _ eW (λ w' hc=>hT w' (eF w' hc).aF) hk (FC My)
    rintro _ zq rfl hs;have hs:=(hs.p2.drop).p1;exact ⟨_,by omega,(gT l (fm l nb s1).1 B8).1,(gT l (fm l nb s1).1 B8).2,o1++[(fm l nb s1).2],a3,rfl,j5 (FC My),hn3,by rw [hx,List.append_assoc]; rfl,hs⟩
  ·obtain ⟨e9,rfl⟩:=FD Vz eE;replace e9:=e9.symm;subst e9;rw [List.append_nil] at hx;subst hx;refine bI UL hs.p1 (H':=λ _=>cH p (en lv (dT l s1 (ByteArray.mk #[59])))) (Φ:=λ _ _=>True) (λ F2 eW eF=>?_) ?_
   ·exact (C212 p lv l s1 (ByteArray.mk #[59]) F2 _ eW (λ w' hc=>hT w' (eF w' hc).aF) hk My).mono λ _ _ r=>r.mono λ _ _ h=>⟨trivial,h.2⟩
   rintro _ CH _ hs;have hs:=hs.p1.p1;rw [e2];exact (St.join hs).mut
set_option maxHeartbeats 1000000 in
theorem C168 (p:Nat) (lv:Value) (l:List bF) (s:fQ) (nm:ByteArray) (a:Int) (s2:fQ) (x:dX) (F:Nat→Prop) (w:World) (hF:(cH p (en lv s)).p w F) (hT:∀ w',iF F w w'→eP (λ _=>True) w' lv l) (hk:iD l) (h0:lV l s) (hr:sR l s nm a=some (s2,x)):CR 168 [(.pointer (some ⟨p,0,none⟩)),Flat.val (⟨nm,⟨none,0,0⟩,⟨none,0,0⟩,a⟩:er)] w (λ v w'=>qy F (ua λ sh:er=>fact (v=Flat.val sh) (sep (cH p (en lv s2)) (eL (λ w=>bZ.dr w sh x)))) w w'):=by
 have hs:=St.begin hF;obtain ⟨q,rs,BJ,FQ,hg2⟩:=Pc hr;have hqi:=MD (fE h0) BJ;obtain ⟨hqi0,hqi1⟩:=id hqi;have FR:=hk.n;have hn:l.length≤1000000:=by omega
 have te:=hk.at_;obtain ⟨Rt,Ru⟩:=id h0;refine aav _ _ _ _ ?_;unfold S168;refine dJ (x:=(⟨nm,⟨none,0,0⟩,⟨none,0,0⟩,a⟩:er)) hs (λ adt w1 hs=>aN hs Nx (λ CJ w2 hs=>have hs:=hs.enc (cs':=Flat.enc (⟨(ByteArray.mk #[]),⟨none,0,0⟩,⟨none,0,0⟩,0⟩:er)) rfl;aE (aA ft (aB bL hs.p2.hb rfl (bI UL hs.p2 (H':=λ _=>cH p (en lv (dT l s (ByteArray.mk #[123])))) (Φ:=λ _ _=>True) (λ F2 eW eF=>?_) ?_)))))
 ·exact (C212 p lv l s (ByteArray.mk #[123]) F2 _ eW (λ w' hc=>hT w' (eF w' hc).aF) hk h0).mono λ _ _ r=>r.mono λ _ _ h=>⟨trivial,h.2⟩
 rintro _ w3 _ hs;refine ⟨λ w'=>∃ rv:SV,St w F [bK (Flat.val rv) rs,cH adt (Flat.enc (⟨nm,rv,⟨none,0,0⟩,a⟩:er)),cH CJ (Flat.enc (⟨(ByteArray.mk #[]),⟨none,0,0⟩,⟨none,0,0⟩,0⟩:er)),cH p (en lv q)] w',?_,?_⟩
 ·refine bI yn hs (H':=λ _=>cH p (en lv (gT l (dT l s (ByteArray.mk #[123])) (ByteArray.mk #[114,101,103])).1)) (Φ:=λ v _=>v = .bool (gT l (dT l s (ByteArray.mk #[123])) (ByteArray.mk #[114,101,103])).2) (λ F2 eW eF=>?_) ?_
  ·exact C165 p lv l (dT l s (ByteArray.mk #[123])) (ByteArray.mk #[114,101,103]) F2 _ eW (λ w' hc=>hT w' (eF w' hc).aF) hk (fE h0)
  rintro _ w4 rfl hs;refine aX (λ fB=>?_) (λ fB=>?_)
  ·obtain ⟨ys,hys,hrs⟩:=HJ BJ fB;have hyl:ys.length≤1000000:=by obtain ⟨_,_,_,h⟩:=xM hys; exact h
   refine bI PY hs (H':=λ v=>sep (cH p (en lv q)) (bK v ys)) (Φ:=λ _ _=>True) (λ F2 eW eF=>?_) ?_
   ·exact (C166 p lv l (gT l (dT l s (ByteArray.mk #[123])) (ByteArray.mk #[114,101,103])).1 false q ys F2 _ eW (λ w' hc=>hT w' (eF w' hc).aF) hk (j5 (fE h0)) hys).mono λ _ _ r=>r.mono λ _ _ h=>⟨trivial,h⟩
   rintro VV w5 _ hs;have hs:=(((((hs.split.fX (α:=ByteArray)).p1).p3).p3).p4).p4;refine ⟨λ mm i w'=>∃ (j:Nat) (rv:SV),i = .int .i64 (j:Int)∧mm=ys.length - j∧j≤ys.length∧St w F [bK (Flat.val rv) ((ys.take j).map dL.name),cH adt (Flat.enc (⟨nm,rv,⟨none,0,0⟩,a⟩:er)),bK VV ys,cH CJ (Flat.enc (⟨(ByteArray.mk #[]),⟨none,0,0⟩,⟨none,0,0⟩,0⟩:er)),cH p (en lv q)] w',⟨_,0,⟨none,0,0⟩,rfl,rfl,Nat.zero_le _,hs⟩,?_⟩;rintro mm _ w6 ⟨j,rv,rfl,rfl,hj,hs⟩ fD;refine aJ kf (hs.p2).fF (aR (aC (λ fT=>?_) (λ fT=>?_)))
   ·refine aA jA (have hs:=hs.drew;aB (v:=Flat.val (rv:SV)) pH hs.p1.hb rfl ?_);obtain ⟨ahc,Yn⟩:=gx (ys) (i:=((j:Int)).toNat) (by omega);refine dS hs.p2 kf (by omega) (by omega) (λ _ Ao=>nd pL Ao (λ _ Ap=>oa (ahc).name hs.p2 kn Ap Yn rfl (bV ([(ahc).name]) hs mY rfl rfl (eK rfl) (λ apP w7 hs=>?_))));refine ⟨aG pH (hs.p2.hb.cell rfl),?_⟩;have alK:=(hs).fF;refine cS hs.p1 mY alK (by simp; omega) (by decide) (λ af9 w8 hs=>have hs:=hs.p1.drop;aA jA ?_);obtain ⟨Yo,rfl⟩:=(hs).fU;refine aV hs.p1 pH (eK rfl) (rfl) (λ w9 hs=>have hs:=hs.enc (cs':=Flat.enc (⟨nm,Yo,⟨none,0,0⟩,a⟩:er)) rfl;aO (by omega) ?_)
    have hs:=hs.p4.p4.p4.p3.p4;exact ⟨_,by omega,j+1,Yo,rfl,rfl,by omega,by rw [← Gm (k:=j) Yn]; exact hs⟩
   ·have hs:=(hs.p2.drop.p3.p3.p3).p3;rw [List.take_of_length_le (by omega)] at hs;rw [hrs];exact ⟨rv,hs⟩
  ·have hs:=((((hs.fX (α:=ByteArray)).p1).p2).p3).p3;obtain ⟨e1,e3⟩:=ME BJ fB;rw [wZ fB] at hs;rw [e1,e3];exact ⟨⟨none,0,0⟩,hs⟩
 ·rintro pP ⟨rv,hs⟩ jH;refine ⟨λ w'=>∃ (rv bv:SV) (body:List cI),x=⟨nm,rs,body,a⟩∧St w F [bK (Flat.val rv) rs,eL (λ w=>DL w (Flat.val bv) body),cH adt (Flat.enc (⟨nm,rv,bv,a⟩:er)),cH CJ (Flat.enc (⟨(ByteArray.mk #[]),⟨none,0,0⟩,⟨none,0,0⟩,0⟩:er)),cH p (en lv s2)] w',?_,?_⟩
  ·refine aE (aA l9 (aB nu hs.p3.hb rfl (aH (aC (λ mL=>?_) (λ mL=>?_)))))
   ·obtain ⟨R,hR,hR0,hR1,e2,hx⟩:=hg2 (by omega);have Fj:(dT l s CA).e=0:=Decidable.not_not.1 λ hh=>Pe hh BJ (by omega);have jW:=rN (aep Fj);refine aE (aA jN (have hs:=hs.drew;aB iS hs.p3.hb rfl (aE (aA ft (aB bL hs.p3.hb rfl (eA aof (C213 l _ q.at_ s.at_ R _ (hT _ hs.aF) hk hqi jW hR) ?_))))));rintro _ sZ ⟨OO,rfl,cA⟩;have hs:=hs.made cA;refine bE rfl (bE rfl (bE rfl (bE rfl (aA qH (aV hs.p2 sX (eK rfl) (rfl) (λ vy hs=>have hs:=hs.enc (cs':=Flat.enc (⟨nm,rv,OO,a⟩:er)) rfl;aE (aA ft (aV hs.p4 bL (eK rfl) (rfl) (λ vz hs=>aE (aA l9 (aV hs nu (eK rfl) (rfl) (λ su hs=>aE ?_))))))))))))
    refine aA wb (aV hs bL (eK rfl) (rfl) (λ wm hs=>?_));have hs:=hs.p4.p2.p3.p4;rw [e2];exact ⟨rv,OO,R.1,hx,hs⟩
   ·have hs:=hs.gK (Φ:=λ w=>DL w (Flat.val (⟨none,0,0⟩:SV)) ([]:List cI)) λ w=>DL.nil w;have hs:=hs.p4.p4.p4.p3.p4;obtain ⟨e2,hx⟩:=FQ mL;rw [e2];exact ⟨rv,⟨none,0,0⟩,[],hx,hs⟩
  ·rintro zq ⟨rv,bv,body,rfl,hs⟩ oY;refine aD IA hs.p2.At (aI (x:=(⟨nm,rv,bv,a⟩:er)) hs.p3 IA rfl rfl (λ CH hs=>aD IA hs.At ?_));have hs:=hs.p1.freeze.p2.p1.fP.dU (Ψ:=(λ w=>bZ.dr w (⟨nm,rv,bv,a⟩:er) (⟨nm,rs,body,a⟩:dX))) (λ w h=>⟨_,_,rfl,DL.fx h.1,id (h.2)⟩);have hs:=((hs.p1.drop.p1).drop).p1;exact (wX hs).mut
set_option maxHeartbeats 1000000 in
theorem C169 (p:Nat) (lv:Value) (l:List bF) (s:fQ) (a:Int) (s2:fQ) (x:jG) (F:Nat→Prop) (w:World) (hF:(cH p (en lv s)).p w F) (hT:∀ w',iF F w w'→eP (λ _=>True) w' lv l) (hk:iD l) (h0:lV l s) (hr:wY l s a=some (s2,x)):CR 169 [(.pointer (some ⟨p,0,none⟩)),.int .i64 a] w (λ v w'=>qy F (ua λ sh:lQ=>fact (v=Flat.val sh) (sep (cH p (en lv s2)) (eL (λ w=>bZ.dr w sh x)))) w w'):=by
 have hs:=St.begin hF;obtain ⟨R,hxr,FQ,hg2⟩:=Tn hr;have FR:=hk.n;have hn:l.length≤1000000:=by omega
 have te:=hk.at_;obtain ⟨Rt,Ru⟩:=id h0;refine aaw _ _ _ _ ?_;unfold S169;refine aN hs aiL (λ CJ w1 hs=>have hs:=hs.enc (cs':=Flat.enc (⟨⟨none,0,0⟩,0⟩:lQ)) rfl;aE (aA jN (have hs:=hs.drew;aB iS hs.p1.hb rfl (aE (aA ft (aB bL hs.p1.hb rfl (eA afy (C214 l _ s.at_ R _ (hT _ hs.aF) hk (by omega) hxr) ?_)))))));rintro _ w2 ⟨Yp,rfl,cA⟩;have hs:=hs.made cA;refine bE rfl (bE rfl (bE rfl (bE rfl (cR (aC (λ iq=>?_) (λ iq=>?_))))))
 ·obtain ⟨rfl,rfl⟩:=FQ iq;refine aE (aA l9 (aV hs.p2 nu (eK rfl) (rfl) (λ w3 hs=>aE (aA wb (aV hs bL (eK rfl) (rfl) (λ w4 hs=>pop (v:=Flat.val (⟨⟨none,0,0⟩,0⟩:lQ)) (by kernel_rfl) (aI (x:=(⟨⟨none,0,0⟩,0⟩:lQ)) hs.p2 ab0 rfl rfl (λ w5 hs=>aD ab0 hs.At ?_))))))));have hs:=hs.gK (Φ:=(λ w=>bZ.dr w (⟨⟨none,0,0⟩,0⟩:lQ) (⟨[],0⟩:jG))) (λ w=>⟨_,rfl,DL.nil _⟩);have hs:=((hs.p1.drop.p2).drop).p1;exact (wX hs).mut
 ·obtain ⟨BJ,rfl,rfl⟩:=hg2 iq;refine aE (aA ft (aV hs.p2 bL (eK rfl) (rfl) (λ w6 hs=>have hs:=hs.enc (cs':=en lv ({s with at_:=R.2.1}:fQ)) rfl;bI UL hs (H':=λ _=>cH p (en lv (dT l ({s with at_:=R.2.1}:fQ) (ByteArray.mk #[59])))) (Φ:=λ _ _=>True) (λ F2 eW eF=>?_) ?_)))
  ·exact (C212 p lv l ({s with at_:=R.2.1}:fQ) (ByteArray.mk #[59]) F2 _ eW (λ w' hc=>hT w' (eF w' hc).aF) hk (show lV l ({s with at_:=R.2.1}:fQ) from BJ)).mono λ _ _ r=>r.mono λ _ _ h=>⟨trivial,h.2⟩
  rintro _ w7 _ hs;refine pop (GS _ _ _ _) (aI (x:=(⟨Yp,a⟩:lQ)) hs.p2 ab0 rfl rfl (λ w8 hs=>aD ab0 hs.At ?_));have hs:=hs.p2.dU (Ψ:=(λ w=>bZ.dr w (⟨Yp,a⟩:lQ) (⟨R.1,a⟩:jG))) (λ w h=>⟨_,rfl,id (h)⟩);have hs:=(hs.p1.drop).p1;exact (wX hs).mut
set_option maxHeartbeats 8000000 in
theorem C109 (s:ByteArray) (R:cY × Int × Int) (w:World) (Y8:s.size≤1000000) (hr:rP s=some R) (hTk:∀ l e a,uF s=some (l,e,a)→iD l):CR 109 [.string s] w (λ v w'=>∃ pv:bN,v = .tuple #[Flat.val pv,.int .i64 R.2.1,.int .i64 R.2.2]∧lY (eL (λ w=>bZ.dr w pv R.1)) w w'):=by
 obtain ⟨l,e,a,hsc⟩:=Pf hr;have hk:=hTk l e a hsc;have FR:=hk.n;have hn:l.length≤1000000:=by omega
 have te:=hk.at_;have hs:=St.start w;refine ZM _ _ _ ?_;unfold S109;refine aN hs uR (λ mf w1 hs=>have hs:=hs.enc (cs':=Flat.enc (⟨⟨none,0,0⟩,⟨none,0,0⟩,⟨none,0,0⟩,⟨none,0,0⟩,⟨none,0,0⟩,⟨none,0,0⟩⟩:bN)) rfl;eA anS (C164 s (l,e,a) _ Y8 hsc) ?_);rintro _ w2 ⟨lv,rfl,cA⟩;have hs:=hs.made cA;refine bE rfl (bE rfl (bE rfl (cR (aC (λ gj=>?_) (λ gj=>?_)))))
 ·refine pop (v:=Flat.val (⟨⟨none,0,0⟩,⟨none,0,0⟩,⟨none,0,0⟩,⟨none,0,0⟩,⟨none,0,0⟩,⟨none,0,0⟩⟩:bN)) (by kernel_rfl) (aI (x:=(⟨⟨none,0,0⟩,⟨none,0,0⟩,⟨none,0,0⟩,⟨none,0,0⟩,⟨none,0,0⟩,⟨none,0,0⟩⟩:bN)) hs.p1 gO rfl rfl (λ w3 hs=>aD gO hs.At ?_));have hs:=hs.gK (Φ:=(λ w=>bZ.dr w (⟨⟨none,0,0⟩,⟨none,0,0⟩,⟨none,0,0⟩,⟨none,0,0⟩,⟨none,0,0⟩,⟨none,0,0⟩⟩:bN) (⟨[],[],[],[],[],[]⟩:cY))) (λ w=>⟨_,_,_,_,_,_,rfl,DL.nil _,DL.nil _,DL.nil _,DL.nil _,DL.nil _,DL.nil _⟩);have hs:=((hs.p1.drop).p1).drop;rw [Tp hr hsc gj];exact ⟨_,rfl,hs.fresh⟩
 ·obtain ⟨t1,t2,t3,t4,t5,t6,y1,y2,y3,y4,y5,y6,hp⟩:=Yl hr hsc gj;obtain ⟨lsv,hlv⟩:=(hs).fU;rw [hlv];refine pop (Vb _ _ _) (l5 hs (λ Ck w4 hs=>pop (v:=Flat.val (⟨⟨none,0,0⟩,⟨none,0,0⟩,⟨none,0,0⟩,⟨none,0,0⟩,⟨none,0,0⟩,⟨none,0,0⟩⟩:bN)) (by kernel_rfl) (aN hs uR (λ Pg w5 hs=>have hs:=hs.enc (cs':=Flat.enc (⟨⟨none,0,0⟩,⟨none,0,0⟩,⟨none,0,0⟩,⟨none,0,0⟩,⟨none,0,0⟩,⟨none,0,0⟩⟩:bN)) rfl;aI (x:=(⟨⟨none,0,0⟩,⟨none,0,0⟩,⟨none,0,0⟩,⟨none,0,0⟩,⟨none,0,0⟩,⟨none,0,0⟩⟩:bN)) hs gO rfl rfl (λ w6 hs=>?_)))));obtain ⟨p,rfl⟩:∃ p,p=Ck:=⟨_,rfl⟩;have hs:=hs.p1.enc (cs':=en (Flat.val lsv) (tG 0)) rfl
  rw [← hlv] at hs ⊢;have azP:lV l (tG 0):=⟨Int.le_refl _,by show (0:Int)≤_; omega⟩;have hs:=(((((hs.xY (α:=(List dL))).p4).p4).p3).p4).p4;refine ⟨λ mm w'=>∃ (s0:fQ) (v0:SV) (xs0 a0:List (List dL)),lV l s0∧mO l Yg (mT l true) mm s0=some (t1,a0)∧y1=xs0++a0∧St w bD [fq (Flat.val v0) xs0,cH Pg (Flat.enc (⟨v0,⟨none,0,0⟩,⟨none,0,0⟩,⟨none,0,0⟩,⟨none,0,0⟩,⟨none,0,0⟩⟩:bN)),cH p (en lv s0),bK lv l,cH mf (Flat.enc (⟨⟨none,0,0⟩,⟨none,0,0⟩,⟨none,0,0⟩,⟨none,0,0⟩,⟨none,0,0⟩,⟨none,0,0⟩⟩:bN))] w',⟨10000,tG 0,⟨none,0,0⟩,[],y1,azP,hp.h1,rfl,hs⟩,?_⟩;rintro mm w7 ⟨s0,v0,xs0,a0,hi0,Fj,hy0,hs⟩ fD
  obtain ⟨m0,rfl⟩:=rQ Fj;refine bI yn hs.p2 (H':=λ _=>cH p (en lv (gT l s0 (ByteArray.mk #[108,105,110,101])).1)) (Φ:=λ v _=>v = .bool (gT l s0 (ByteArray.mk #[108,105,110,101])).2) (λ F2 eW eF=>?_) ?_
  ·exact C165 p lv l s0 (ByteArray.mk #[108,105,110,101]) F2 _ eW (λ w' hc=>(eF w' hc).p2.fF) hk hi0
  rintro _ w8 rfl hs;refine aX (λ gn=>?_) (λ gn=>?_)
  ·obtain ⟨q0,z0,b0,hd0,hn0,rfl⟩:=xa Fj gn;refine aA jz (have hs:=hs.drew;aB (v:=Flat.val (v0:SV)) rX hs.p2.hb rfl (bI PY hs (H':=λ v=>sep (cH p (en lv q0)) (bK v z0)) (Φ:=λ _ _=>True) (λ F2 eW eF=>?_) ?_))
   ·exact (C166 p lv l (gT l s0 (ByteArray.mk #[108,105,110,101])).1 true q0 z0 F2 _ eW (λ w' hc=>(eF w' hc).p2.fF) hk (j5 hi0) hd0).mono λ _ _ r=>r.mono λ _ _ h=>⟨trivial,h⟩
   rintro x31 w9 _ hs;have hs:=hs.split;refine ⟨aG rX (hs.p3.hb.cell rfl),?_⟩;obtain ⟨Yq,rfl⟩:=(hs.p1).fU;have hs:=hs.p1.freeze.dU (Ψ:=λ w=>bZ.dr w Yq (z0)) (λ w h=>DL.fx h);refine eQ (s:=Yq) (x:=z0) hs vI (by decide) (λ Wu pP hs=>?_);refine ⟨aG rX (hs.p3.hb.cell rfl),?_⟩;have hs:=hs.p2;refine ej hs vI (by have h1:=congrArg List.length hy0; have h2:=hp.b1; simp at h1 ⊢; omega) (by decide) (λ s_x33 sZ hs=>aA jz ?_);obtain ⟨wM,rfl⟩:=(hs).lP;refine aV hs.p2 rX (eK rfl) (rfl) (λ vy hs=>?_);have hs:=hs.enc (cs':=Flat.enc (⟨wM,⟨none,0,0⟩,⟨none,0,0⟩,⟨none,0,0⟩,⟨none,0,0⟩,⟨none,0,0⟩⟩:bN)) rfl
   have hs:=hs.p4.p4.p4.p3.p4;exact ⟨_,by omega,q0,wM,xs0++[z0],b0,xN (j5 hi0) hd0,hn0,by rw [hy0,List.append_assoc]; rfl,hs⟩
  ·obtain ⟨e9,rfl⟩:=uH Fj gn;replace e9:=e9.symm;subst e9;rw [List.append_nil] at hy0;subst hy0;rw [wZ gn] at hs;have hs:=((((((hs.fX (α:=dL)).p5).p5).p3).p5).p5).p5;refine ⟨λ mm w'=>∃ (s1:fQ) (v1:SV) (xs1 a1:List (List dL)),lV l s1∧mO l alF (mT l true) mm s1=some (t2,a1)∧y2=xs1++a1∧St w bD [bK (Flat.val v1) (xs1.flatten),fq (Flat.val v0) y1,cH Pg (Flat.enc (⟨v0,v1,⟨none,0,0⟩,⟨none,0,0⟩,⟨none,0,0⟩,⟨none,0,0⟩⟩:bN)),cH p (en lv s1),bK lv l,cH mf (Flat.enc (⟨⟨none,0,0⟩,⟨none,0,0⟩,⟨none,0,0⟩,⟨none,0,0⟩,⟨none,0,0⟩,⟨none,0,0⟩⟩:bN))] w',⟨10000,s0,⟨none,0,0⟩,[],y2,hi0,hp.h2,rfl,hs⟩,?_⟩
   rintro mm vz ⟨s1,v1,xs1,a1,hi1,hm1,hy1,hs⟩ jH;obtain ⟨m1,rfl⟩:=rQ hm1;refine bI yn hs.p3 (H':=λ _=>cH p (en lv (gT l s1 (ByteArray.mk #[118,111,108])).1)) (Φ:=λ v _=>v = .bool (gT l s1 (ByteArray.mk #[118,111,108])).2) (λ F2 eW eF=>?_) ?_
   ·exact C165 p lv l s1 (ByteArray.mk #[118,111,108]) F2 _ eW (λ w' hc=>(eF w' hc).p3.fF) hk hi1
   rintro _ su rfl hs;refine aX (λ lx=>?_) (λ lx=>?_)
   ·obtain ⟨q1,z1,b1,TV,Vz,rfl⟩:=xa hm1 lx;refine aA uQ (have hs:=hs.drew;aB (v:=Flat.val (v1:SV)) jF hs.p3.hb rfl (bI PY hs (H':=λ v=>sep (cH p (en lv q1)) (bK v z1)) (Φ:=λ _ _=>True) (λ F2 eW eF=>?_) ?_))
    ·exact (C166 p lv l (gT l s1 (ByteArray.mk #[118,111,108])).1 true q1 z1 F2 _ eW (λ w' hc=>(eF w' hc).p3.fF) hk (j5 hi1) TV).mono λ _ _ r=>r.mono λ _ _ h=>⟨trivial,h⟩
    rintro x40 wm _ hs;have hs:=hs.split;refine ⟨aG jF (hs.p4.hb.cell rfl),?_⟩;have vl:=(hs.p1).fF;refine cS hs.p2 kf vl (by have:=RH hy1; have:=hp.b2; omega) (by decide) (λ Wi zq hs=>have hs:=hs.p2.drop;aA uQ ?_);obtain ⟨I7,rfl⟩:=(hs).fU;refine aV hs.p3 jF (eK rfl) (rfl) (λ CH hs=>?_);have hs:=hs.enc (cs':=Flat.enc (⟨v0,I7,⟨none,0,0⟩,⟨none,0,0⟩,⟨none,0,0⟩,⟨none,0,0⟩⟩:bN)) rfl;have hs:=hs.p5.p5.p4.p3.p5.p5;rw [← A3] at hs;exact ⟨_,by omega,q1,I7,xs1++[z1],b1,xN (j5 hi1) TV,Vz,by rw [hy1,List.append_assoc]; rfl,hs⟩
   ·obtain ⟨e9,rfl⟩:=uH hm1 lx;replace e9:=e9.symm;subst e9;rw [List.append_nil] at hy1;subst hy1;rw [wZ lx] at hs;have hs:=(((((((hs.fX (α:=dL)).p6).p6).p3).p6).p5).p6).p6;refine ⟨λ mm w'=>∃ (s2:fQ) (v2:SV) (xs2 a2:List (List dL)),lV l s2∧mO l Yh (mT l false) mm s2=some (t3,a2)∧y3=xs2++a2∧St w bD [bK (Flat.val v2) (xs2.flatten),fq (Flat.val v0) y1,bK (Flat.val v1) (y2.flatten),cH Pg (Flat.enc (⟨v0,v1,v2,⟨none,0,0⟩,⟨none,0,0⟩,⟨none,0,0⟩⟩:bN)),cH p (en lv s2),bK lv l,cH mf (Flat.enc (⟨⟨none,0,0⟩,⟨none,0,0⟩,⟨none,0,0⟩,⟨none,0,0⟩,⟨none,0,0⟩,⟨none,0,0⟩⟩:bN))] w',⟨10000,s1,⟨none,0,0⟩,[],y3,hi1,hp.h3,rfl,hs⟩,?_⟩
    rintro mm IN ⟨s2,v2,xs2,a2,hi2,hm2,hy2,hs⟩ oY;obtain ⟨m2,rfl⟩:=rQ hm2;refine bI yn hs.p4 (H':=λ _=>cH p (en lv (gT l s2 (ByteArray.mk #[108,111,99,107])).1)) (Φ:=λ v _=>v = .bool (gT l s2 (ByteArray.mk #[108,111,99,107])).2) (λ F2 eW eF=>?_) ?_
    ·exact C165 p lv l s2 (ByteArray.mk #[108,111,99,107]) F2 _ eW (λ w' hc=>(eF w' hc).p4.fF) hk hi2
    rintro _ JQ rfl hs;refine aX (λ sB=>?_) (λ sB=>?_)
    ·obtain ⟨q2,z2,b2,Rf,hn2,rfl⟩:=xa hm2 sB;refine aA sb (have hs:=hs.drew;aB (v:=Flat.val (v2:SV)) jF hs.p4.hb rfl (bI PY hs (H':=λ v=>sep (cH p (en lv q2)) (bK v z2)) (Φ:=λ _ _=>True) (λ F2 eW eF=>?_) ?_))
     ·exact (C166 p lv l (gT l s2 (ByteArray.mk #[108,111,99,107])).1 false q2 z2 F2 _ eW (λ w' hc=>(eF w' hc).p4.fF) hk (j5 hi2) Rf).mono λ _ _ r=>r.mono λ _ _ h=>⟨trivial,h⟩
     rintro x48 Lc _ hs;have hs:=hs.split;refine ⟨aG jF (hs.p5.hb.cell rfl),?_⟩;have alN:=(hs.p1).fF;refine cS hs.p2 kf alN (by have:=RH hy2; have:=hp.b3; omega) (by decide) (λ aqu M4 hs=>have hs:=hs.p2.drop;aA sb ?_);obtain ⟨Yr,rfl⟩:=(hs).fU;refine aV hs.p4 jF (eK rfl) (rfl) (λ QS hs=>?_);have hs:=hs.enc (cs':=Flat.enc (⟨v0,v1,Yr,⟨none,0,0⟩,⟨none,0,0⟩,⟨none,0,0⟩⟩:bN)) rfl;have hs:=hs.p6.p6.p4.p3.p6.p6.p6;rw [← A3] at hs;exact ⟨_,by omega,q2,Yr,xs2++[z2],b2,xN (j5 hi2) Rf,hn2,by rw [hy2,List.append_assoc]; rfl,hs⟩
    ·obtain ⟨e9,rfl⟩:=uH hm2 sB;replace e9:=e9.symm;subst e9;rw [List.append_nil] at hy2;subst hy2;rw [wZ sB] at hs;have hs:=((((((((hs.xY (α:=dX)).p7).p7).p3).p7).p5).p7).p7).p7;refine ⟨λ mm w'=>∃ (s3:fQ) (v3:SV) (xs3 a3:List dX),lV l s3∧mO l JC (alG l) mm s3=some (t4,a3)∧y4=xs3++a3∧St w bD [fq (Flat.val v3) xs3,fq (Flat.val v0) y1,bK (Flat.val v1) (y2.flatten),bK (Flat.val v2) (y3.flatten),cH Pg (Flat.enc (⟨v0,v1,v2,v3,⟨none,0,0⟩,⟨none,0,0⟩⟩:bN)),cH p (en lv s3),bK lv l,cH mf (Flat.enc (⟨⟨none,0,0⟩,⟨none,0,0⟩,⟨none,0,0⟩,⟨none,0,0⟩,⟨none,0,0⟩,⟨none,0,0⟩⟩:bN))] w',⟨10000,s2,⟨none,0,0⟩,[],y4,hi2,hp.h4,rfl,hs⟩,?_⟩
     rintro mm T3 ⟨s3,v3,xs3,a3,hi3,hm3,hy3,hs⟩ G9;obtain ⟨m3,rfl⟩:=rQ hm3;refine bI yn hs.p5 (H':=λ _=>cH p (en lv (gT l s3 (ByteArray.mk #[116,104,114,101,97,100])).1)) (Φ:=λ v _=>v = .bool (gT l s3 (ByteArray.mk #[116,104,114,101,97,100])).2) (λ F2 eW eF=>?_) ?_
     ·exact C165 p lv l s3 (ByteArray.mk #[116,104,114,101,97,100]) F2 _ eW (λ w' hc=>(eF w' hc).p5.fF) hk hi3
     rintro _ Wk rfl hs;refine aX (λ sF=>?_) (λ sF=>?_)
     ·obtain ⟨q3,z3,b3,hd3,hn3,rfl⟩:=xa hm3 sF;refine bI afp hs (H':=λ _=>cH p (en lv (fb l (gT l s3 (ByteArray.mk #[116,104,114,101,97,100])).1).1)) (Φ:=λ v _=>v=Flat.val (fb l (gT l s3 (ByteArray.mk #[116,104,114,101,97,100])).1).2) (λ F2 eW eF=>?_) ?_
      ·exact C167 p lv l (gT l s3 (ByteArray.mk #[116,104,114,101,97,100])).1 F2 _ eW (λ w' hc=>(eF w' hc).p5.fF) hk (j5 hi3)
      rintro _ SB rfl hs;refine aN hs C5 (λ b_c10 w26 hs=>aI (x:=(fb l (gT l s3 (ByteArray.mk #[116,104,114,101,97,100])).1).2) hs yr rfl rfl (λ w27 hs=>aA nk (have hs:=hs.drew;aB (v:=Flat.val (v3:SV)) ji hs.p6.hb rfl (aA pL (aB (v:=.string (((fb l (gT l s3 (ByteArray.mk #[116,104,114,101,97,100])).1).2).name)) kn hs.hb rfl (aA DX (aB (v:=.int .i64 (((fb l (gT l s3 (ByteArray.mk #[116,104,114,101,97,100])).1).2).at_)) bL hs.hb rfl (pop (Sk _ _) (bI afq hs.p1 (H':=λ v=>ua λ sh:er=>fact (v=Flat.val sh) (sep (cH p (en lv q3)) (eL (λ w=>bZ.dr w sh z3)))) (Φ:=λ _ _=>True) (λ F2 eW eF=>?_) ?_)))))))))
      ·exact (C168 p lv l (fb l (gT l s3 (ByteArray.mk #[116,104,114,101,97,100])).1).1 ((fb l (gT l s3 (ByteArray.mk #[116,104,114,101,97,100])).1).2).name ((fb l (gT l s3 (ByteArray.mk #[116,104,114,101,97,100])).1).2).at_ q3 z3 F2 _ eW (λ w' hc=>(eF w' hc).p6.fF) hk (uG (j5 hi3)) hd3).mono λ _ _ r=>r.mono λ _ _ h=>⟨trivial,h⟩
      rintro v_x63 w28 _ AT;obtain ⟨alP,AU⟩:=AT.eZ
      clear AT
      obtain ⟨alQ,Dh⟩:=AU.oL
      clear AU
      subst alQ;have hs:=Dh.split
      clear Dh
      refine ⟨aG ji (hs.p7.hb.cell rfl),?_⟩;have hs:=hs.p1;refine eQ (s:=alP) (x:=z3) hs iQ (by decide) (λ ar2 w29 hs=>?_);refine ⟨aG ji (hs.p7.hb.cell rfl),?_⟩;have hs:=hs.p3;refine ej hs iQ (by have h1:=congrArg List.length hy3; have h2:=hp.b4; simp at h1 ⊢; omega) (by decide) (λ ag1 w30 hs=>aA nk ?_);obtain ⟨Ys,rfl⟩:=(hs).lP;refine aV hs.p6 ji (eK rfl) (rfl) (λ w31 hs=>?_);have hs:=((hs.enc (cs':=Flat.enc (⟨v0,v1,v2,Ys,⟨none,0,0⟩,⟨none,0,0⟩⟩:bN)) rfl).p3).drop;have hs:=hs.p7.p7.p4.p3.p7.p7.p7.p7;exact ⟨_,by omega,q3,Ys,xs3++[z3],b3,FE (uG (j5 hi3)) hd3,hn3,by rw [hy3,List.append_assoc]; rfl,hs⟩
     ·obtain ⟨e9,rfl⟩:=uH hm3 sF;replace e9:=e9.symm;subst e9;rw [List.append_nil] at hy3;subst hy3;rw [wZ sF] at hs;refine ⟨λ w'=>∃ v4:SV,St w bD [fq (Flat.val v4) y5,fq (Flat.val v0) y1,bK (Flat.val v1) (y2.flatten),bK (Flat.val v2) (y3.flatten),fq (Flat.val v3) y4,cH Pg (Flat.enc (⟨v0,v1,v2,v3,v4,⟨none,0,0⟩⟩:bN)),cH p (en lv t5),bK lv l,cH mf (Flat.enc (⟨⟨none,0,0⟩,⟨none,0,0⟩,⟨none,0,0⟩,⟨none,0,0⟩,⟨none,0,0⟩,⟨none,0,0⟩⟩:bN))] w',?_,?_⟩
      ·refine bI yn hs (H':=λ _=>cH p (en lv (gT l s3 (ByteArray.mk #[114,101,99,111,118,101,114])).1)) (Φ:=λ v _=>v = .bool (gT l s3 (ByteArray.mk #[114,101,99,111,118,101,114])).2) (λ F2 eW eF=>?_) ?_
       ·exact C165 p lv l s3 (ByteArray.mk #[114,101,99,111,118,101,114]) F2 _ eW (λ w' hc=>(eF w' hc).p5.fF) hk hi3
       rintro _ w32 rfl hs;refine aX (λ MI=>?_) (λ MI=>?_)
       ·obtain ⟨z4,hd4,hy5⟩:=MH hp.h5 MI;obtain ⟨azS,_,hlo68,hhi68⟩:=Yi MI;have hat68:(gT l s3 (ByteArray.mk #[114,101,99,111,118,101,114])).1.at_=s3.at_+1:=by rw [azS]
        refine aA sd (have hs:=hs.drew;aB (v:=Flat.val (⟨none,0,0⟩:SV)) ji hs.p5.hb rfl (aE (aA ft (aB bL hs.hb rfl (gD (by omega) ?_)))));obtain ⟨Yt,Yu⟩:=gx (l) (i:=((((gT l s3 (ByteArray.mk #[114,101,99,111,118,101,114])).1).at_ - 1)).toNat) (by omega);refine dS hs.p6 fH (by omega) (by omega) (λ _ Yb=>nd lq Yb (λ _ asD=>oa (Yt).at_ hs.p6 bL asD Yu rfl (pop (acb _) ?_)));have N8:zn l (gT l s3 (ByteArray.mk #[114,101,99,111,118,101,114])).1=(Yt).at_:=congrArg bF.at_ (A1 (by omega) Yu);rw [N8] at hd4;refine bI afq hs (H':=λ v=>ua λ sh:er=>fact (v=Flat.val sh) (sep (cH p (en lv t5)) (eL (λ w=>bZ.dr w sh z4)))) (Φ:=λ _ _=>True) (λ F2 eW eF=>?_) ?_
        ·exact (C168 p lv l (gT l s3 (ByteArray.mk #[114,101,99,111,118,101,114])).1 (ByteArray.mk #[]) (Yt).at_ t5 z4 F2 _ eW (λ w' hc=>(eF w' hc).p5.fF) hk (j5 hi3) hd4).mono λ _ _ r=>r.mono λ _ _ h=>⟨trivial,h⟩
        rintro v_x82 w33 _ AT;obtain ⟨alR,AU⟩:=AT.eZ
        clear AT
        obtain ⟨alS,Dh⟩:=AU.oL
        clear AU
        subst alS;have hs:=Dh.split
        clear Dh
        refine ⟨aG ji (hs.p6.hb.cell rfl),?_⟩;have hs:=hs.p1;refine eQ (s:=alR) (x:=z4) hs iQ (by decide) (λ aqK w34 hs=>?_);refine ⟨aG ji (hs.p6.hb.cell rfl),?_⟩;have hs:=((hs.xY (α:=dX)).p1).p1;refine ej hs iQ (by simp) (by decide) (λ age w35 hs=>aA sd ?_);obtain ⟨Yv,rfl⟩:=(hs).lP;refine aV hs.p6 ji (eK rfl) (rfl) (λ w36 hs=>?_);have hs:=(((hs.enc (cs':=Flat.enc (⟨v0,v1,v2,v3,Yv,⟨none,0,0⟩⟩:bN)) rfl).p8).p8).p4;have hs:=hs.p3.p5.p8.p8.p8.p8;rw [hy5];exact ⟨Yv,hs⟩
       ·rw [wZ MI] at hs;have hs:=(((((((((hs.xY (α:=dX)).p8).p8).p3).p8).p5).p8).p8).p8).p8;obtain ⟨e5,e6⟩:=RG hp.h5 MI;rw [e5,e6];exact ⟨⟨none,0,0⟩,hs⟩
      ·rintro w37 ⟨v4,hs⟩ Sv;have hs:=((((((((((hs.xY (α:=jG)).p9).p9).p9).p9).p5).p9).p9).p9).p9).p9;refine ⟨λ mm w'=>∃ (s5:fQ) (v5:SV) (xs5 a5:List jG),lV l s5∧mO l JD (λ s=>wY l s (zn l s)) mm s5=some (t6,a5)∧y6=xs5++a5∧St w bD [fq (Flat.val v5) xs5,fq (Flat.val v0) y1,bK (Flat.val v1) (y2.flatten),bK (Flat.val v2) (y3.flatten),fq (Flat.val v3) y4,fq (Flat.val v4) y5,cH Pg (Flat.enc (⟨v0,v1,v2,v3,v4,v5⟩:bN)),cH p (en lv s5),bK lv l,cH mf (Flat.enc (⟨⟨none,0,0⟩,⟨none,0,0⟩,⟨none,0,0⟩,⟨none,0,0⟩,⟨none,0,0⟩,⟨none,0,0⟩⟩:bN))] w',⟨10000,t5,⟨none,0,0⟩,[],y6,(aeq hi3 hp.h5),hp.h6,rfl,hs⟩,?_⟩
       rintro mm w38 ⟨s5,v5,xs5,a5,hi5,hm5,hy5,hs⟩ dd6;obtain ⟨m5,rfl⟩:=rQ hm5;refine bI yn hs.p7 (H':=λ _=>cH p (en lv (gT l s5 (ByteArray.mk #[97,108,119,97,121,115])).1)) (Φ:=λ v _=>v = .bool (gT l s5 (ByteArray.mk #[97,108,119,97,121,115])).2) (λ F2 eW eF=>?_) ?_
       ·exact C165 p lv l s5 (ByteArray.mk #[97,108,119,97,121,115]) F2 _ eW (λ w' hc=>(eF w' hc).p7.fF) hk hi5
       rintro _ WL rfl hs;refine aX (λ Ah=>?_) (λ Ah=>?_)
       ·obtain ⟨q5,z5,b5,hd5,FR,rfl⟩:=xa hm5 Ah;obtain ⟨azV,_,hlo87,hhi87⟩:=Yi Ah;have hat87:(gT l s5 (ByteArray.mk #[97,108,119,97,121,115])).1.at_=s5.at_+1:=by rw [azV]
        refine aA kS (have hs:=hs.drew;aB (v:=Flat.val (v5:SV)) sW hs.p7.hb rfl (aE (aA ft (aB bL hs.hb rfl (gD (by omega) ?_)))));obtain ⟨Yw,Yx⟩:=gx (l) (i:=((((gT l s5 (ByteArray.mk #[97,108,119,97,121,115])).1).at_ - 1)).toNat) (by omega);refine dS hs.p8 fH (by omega) (by omega) (λ _ asF=>nd lq asF (λ _ asG=>oa (Yw).at_ hs.p8 bL asG Yx rfl ?_));have N8:zn l (gT l s5 (ByteArray.mk #[97,108,119,97,121,115])).1=(Yw).at_:=congrArg bF.at_ (A1 (by omega) Yx);rw [N8] at hd5;refine bI anT hs (H':=λ v=>ua λ sh:lQ=>fact (v=Flat.val sh) (sep (cH p (en lv q5)) (eL (λ w=>bZ.dr w sh z5)))) (Φ:=λ _ _=>True) (λ F2 eW eF=>?_) ?_
        ·exact (C169 p lv l (gT l s5 (ByteArray.mk #[97,108,119,97,121,115])).1 (Yw).at_ q5 z5 F2 _ eW (λ w' hc=>(eF w' hc).p7.fF) hk (j5 hi5) hd5).mono λ _ _ r=>r.mono λ _ _ h=>⟨trivial,h⟩
        rintro azW w40 _ AT;obtain ⟨aer,AU⟩:=AT.eZ
        clear AT
        obtain ⟨aes,Dh⟩:=AU.oL
        clear AU
        subst aes;have hs:=Dh.split
        clear Dh
        refine ⟨aG sW (hs.p8.hb.cell rfl),?_⟩;have hs:=hs.p1;refine eQ (s:=aer) (x:=z5) hs yN (by decide) (λ ak4 w41 hs=>?_);refine ⟨aG sW (hs.p8.hb.cell rfl),?_⟩;have hs:=hs.p2;refine ej hs yN (by have h1:=congrArg List.length hy5; have h2:=hp.b6; simp at h1 ⊢; omega) (by decide) (λ ak5 w42 hs=>aA kS ?_);obtain ⟨RI,rfl⟩:=(hs).lP;refine aV hs.p7 sW (eK rfl) (rfl) (λ w43 hs=>?_);have hs:=(((((hs.enc (cs':=Flat.enc (⟨v0,v1,v2,v3,v4,RI⟩:bN)) rfl).p9).p9).p4).p3).p9;have hs:=hs.p9.p9.p9.p9.p9;exact ⟨_,by omega,q5,RI,xs5++[z5],b5,Tj (j5 hi5) hd5,FR,by rw [hy5,List.append_assoc]; rfl,hs⟩
       ·obtain ⟨e9,rfl⟩:=uH hm5 Ah;replace e9:=e9.symm;subst e9;rw [List.append_nil] at hy5;subst hy5;rw [wZ Ah] at hs;obtain ⟨hi50,hi51⟩:=id hi5;refine ⟨λ w'=>St w bD [fq (Flat.val v5) y6,fq (Flat.val v0) y1,bK (Flat.val v1) (y2.flatten),bK (Flat.val v2) (y3.flatten),fq (Flat.val v3) y4,fq (Flat.val v4) y5,cH Pg (Flat.enc (⟨v0,v1,v2,v3,v4,v5⟩:bN)),cH p (en lv (Gl l s5)),bK lv l,cH mf (Flat.enc (⟨⟨none,0,0⟩,⟨none,0,0⟩,⟨none,0,0⟩,⟨none,0,0⟩,⟨none,0,0⟩,⟨none,0,0⟩⟩:bN))] w',?_,?_⟩
        ·refine aE (aA ft (aB bL hs.hb rfl (aJ fH (hs.p8).fF (aR (aC (λ vo=>?_) (λ vo=>?_))))))
         ·refine bI Qa hs (H':=λ _=>cH p (en lv (ja l s5 5))) (Φ:=λ _ _=>True) (λ F2 eW eF=>?_) ?_
          ·exact (C170 p lv l s5 F2 _ eW (λ w' hc=>(eF w' hc).p7.fF) hk hi5).mono λ _ _ r=>r.mono λ _ _ h=>⟨trivial,h.2⟩
          rintro _ w44 _ hs;have hs:=hs.p9.p9.p2.p9.p9.p9.p9.p9.p9.p9;have he6:Gl l s5=ja l s5 5:=if_pos vo;rw [he6]; exact hs
         ·have hs:=hs.p9.p9.p2.p9.p9.p9.p9.p9.p9.p9;have he6:Gl l s5=s5:=if_neg vo;rw [he6]; exact hs
        ·intro w45 hs dd7;refine aE (aA l9 (aB nu hs.p7.hb rfl (cR (aC (λ Ph=>?_) (λ Ph=>?_)))))
         ·refine pop (v:=Flat.val (⟨⟨none,0,0⟩,⟨none,0,0⟩,⟨none,0,0⟩,⟨none,0,0⟩,⟨none,0,0⟩,⟨none,0,0⟩⟩:bN)) (by kernel_rfl) (aE (aA l9 (have hs:=hs.drew;aB nu hs.p7.hb rfl (aE (aA wb (aB bL hs.p7.hb rfl (aI (x:=(⟨⟨none,0,0⟩,⟨none,0,0⟩,⟨none,0,0⟩,⟨none,0,0⟩,⟨none,0,0⟩,⟨none,0,0⟩⟩:bN)) hs.p9 gO rfl rfl (λ w46 hs=>?_))))))));refine ⟨aG nu (hs.p8.hb.cell rfl),?_⟩;refine ⟨aG bL (hs.p8.hb.cell rfl),?_⟩;refine aD gO hs.At ?_;have hs:=hs.gK (Φ:=(λ w=>bZ.dr w (⟨⟨none,0,0⟩,⟨none,0,0⟩,⟨none,0,0⟩,⟨none,0,0⟩,⟨none,0,0⟩,⟨none,0,0⟩⟩:bN) (⟨[],[],[],[],[],[]⟩:cY))) (λ w=>⟨_,_,_,_,_,_,rfl,DL.nil _,DL.nil _,DL.nil _,DL.nil _,DL.nil _,DL.nil _⟩)
          have hs:=(((((((((hs.p1.drop.p1.drop.p1.drop.p1.drop.p1).drop).p1).drop).p1).drop).p1).drop).p1).drop;have hs:=(hs.p1).drop;rw [hp.bad Ph];exact ⟨_,rfl,hs.fresh⟩
         ·refine aD gO hs.p6.At (aI (x:=(⟨v0,v1,v2,v3,v4,v5⟩:bN)) hs.p9 gO rfl rfl (λ w47 hs=>aD gO hs.At ?_));have hs:=hs.p2.jO.p3.freeze.p1.fP.p3.freeze.p1.fP.p3.jO.p1.fP.p3.jO.p1.fP;have hs:=hs.p2.jO.p1.fP.dU (Ψ:=(λ w=>bZ.dr w (⟨v0,v1,v2,v3,v4,v5⟩:bN) (⟨y1,y2.flatten,y3.flatten,y4,y5,y6⟩:cY))) (λ w h=>⟨_,_,_,_,_,_,rfl,h.1.1.1.1.1,DL.fx h.1.1.1.1.2,DL.fx h.1.1.1.2,h.1.1.2,h.1.2,h.2⟩);have hs:=((((hs.p1.drop.p1.drop).p1).drop).p1).drop;rw [hp.azK Ph];exact ⟨_,rfl,hs.fresh⟩
theorem C48 (s:ByteArray) (R:cY × Int × Int) (w:World) (Y8:s.size≤1000000) (hr:rP s=some R) (hTk:∀ l e a,uF s=some (l,e,a)→iD l) (hz:PZ R.1):CR 48 [.string s] w (λ v w'=>∃ uv:dQ,v=Flat.val uv∧lY (eL (λ w=>bZ.dr w uv (if gR R.1=0 then eD R.1 else EV))) w w'):=by
 have hs:=St.start w;refine ahY _ _ _ ?_;unfold S48;refine aN hs v7 (λ mf w1 hs=>have hs:=hs.enc (cs':=Flat.enc (⟨⟨none,0,0⟩,0,⟨none,0,0⟩,0,⟨none,0,0⟩,(⟨0,0,⟨none,0,0⟩⟩:cN),⟨none,0,0⟩⟩:dQ)) rfl;eA anx (C109 s R _ Y8 hr hTk) ?_);rintro _ w2 ⟨Yy,rfl,cA⟩;have hs:=hs.made cA;refine bE rfl (bE rfl (bE rfl (aN hs uR (λ yb w3 hs=>have hs:=hs.enc (cs':=Flat.enc (⟨⟨none,0,0⟩,⟨none,0,0⟩,⟨none,0,0⟩,⟨none,0,0⟩,⟨none,0,0⟩,⟨none,0,0⟩⟩:bN)) rfl;aI (x:=Yy) hs gO rfl rfl (λ w4 hs=>aD gO hs.At (eA ani (C12 R.1 Yy _ (hs.p1).eL hz) ?_))))));rintro _ w5 ⟨Yz,rfl,cA⟩
 have hs:=hs.made cA;refine bE rfl (bE rfl (aN hs v7 (λ aye w6 hs=>have hs:=hs.enc (cs':=Flat.enc (⟨⟨none,0,0⟩,0,⟨none,0,0⟩,0,⟨none,0,0⟩,(⟨0,0,⟨none,0,0⟩⟩:cN),⟨none,0,0⟩⟩:dQ)) rfl;aI (x:=Yz) hs tO rfl rfl (λ w7 hs=>aD tO hs.At (aI (x:=Yz) hs.p4 tO rfl rfl (λ w8 hs=>aD tO hs.At ?_))))));have hs:=((((((hs.drop)).drop).p1).drop).p1).drop;exact ⟨_,rfl,hs.fresh⟩
structure lW (c:fu) (cells lines locks:Int):Prop where
 rb:0≤c.aK∧c.aK≤4
 cb:0≤c.counts∧c.counts≤12
 fld:∀ (i:Nat) (x:aW),c.l[i]? = some x→vh x c cells lines locks=true
 to:∀ (i:Nat) (x:aW),c.l[i]? = some x→I8 c.l i x=true
theorem MJ {c:fu} {cells lines locks:Int} (h:ly c cells lines locks=true):lW c cells lines locks:=by
 unfold ly at h
 simp only [Bool.and_eq_true,Bool.not_eq_true'] at h
 obtain ⟨⟨h1,h2⟩,h3⟩:=h
 unfold vk at h1
 simp only [Bool.or_eq_false_iff,decide_eq_false_iff_not] at h1
 have hi:∀ (i:Nat) (x:aW),c.l[i]? = some x→vh x c cells lines locks=true∧I8 c.l i x=true:=by
  intro i x hx
  have h4:=Hg h2 i (List.getElem?_eq_some_iff.1 hx).1
  rw [ur hx] at h4
  simpa using h4
 exact ⟨by omega,by omega,λ i x hx=>(hi i x hx).1,λ i x hx=>(hi i x hx).2⟩
structure FF (u:im):Prop where
 ll:u.lines.length≤20
 st:0≤u.stays∧u.stays≤u.lines.length
 fl:u.dH.length=u.lines.length
 lk:0≤u.locks∧u.locks≤2
 tl:1≤u.threads.length∧u.threads.length≤3
 ln:∀ i,i<u.lines.length→ko u i=false
 fr:∀ n∈u.dH,0≤n∧n≤4294967296
 th:∀ c∈u.threads,lW c u.lines.length (gw u) u.locks
 cl:∀ l∈u.cD,eR l u.stays=true
 rc:lW u.recover u.lines.length (gw u) u.locks
theorem rR {u:im} (h:nz u=true):FF u:=by
 unfold nz at h
 simp only [Bool.and_eq_true,Bool.not_eq_true'] at h
 obtain ⟨h1,⟨⟨⟨⟨h2,h3⟩,h4⟩,h5⟩,h6⟩⟩:=h
 unfold kX at h1
 simp only [Bool.or_eq_false_iff,decide_eq_false_iff_not] at h1
 rw [List.any_eq_false] at h2 h4 h5
 refine ⟨by omega,by omega,by omega,by omega,by omega,λ i hi=>Hg h3 i hi,λ n hn=>?_,λ c hc=>?_,λ l hl=>?_,MJ h6⟩
 ·have:=h2 n hn
  unfold lB at this
  simp at this; omega
 ·have:=h4 c hc
  exact MJ (by simpa using this)
 ·have:=h5 l hl
  simpa using this
theorem RJ {n k:Int} (h:LU n k=true):0≤n∧n<k:=by unfold LU at h; simpa using h
section
variable {c:fu} {cells lines locks:Int} {i:Nat} {x:aW}
theorem lW.kd (h:lW c cells lines locks) (hx:c.l[i]? = some x):1≤x.kind∧x.kind≤15:=by
 have:=h.fld i x hx; unfold vh at this; simp only [Bool.and_eq_true,decide_eq_true_eq] at this; exact ⟨this.2.1.1.1,this.2.1.1.2⟩
theorem lW.a (h:lW c cells lines locks) (hx:c.l[i]? = some x):aM x c.aK c.counts=true:=by
 have:=h.fld i x hx; unfold vh at this; simp only [Bool.and_eq_true,decide_eq_true_eq] at this; exact this.2.1.2
theorem lW.b (h:lW c cells lines locks) (hx:c.l[i]? = some x):bM x cells lines locks=true:=by
 have:=h.fld i x hx; unfold vh at this; simp only [Bool.and_eq_true,decide_eq_true_eq] at this; exact this.2.2
theorem lW.a13 (h:lW c cells lines locks) (hx:c.l[i]? = some x) (hk:x.kind=13∨x.kind=14):0≤x.a∧x.a<c.counts:=by
 have:=h.a hx; unfold aM at this; rw [if_pos hk] at this; exact RJ this
theorem lW.a1 (h:lW c cells lines locks) (hx:c.l[i]? = some x) (hk:x.kind=1∨x.kind=2∨x.kind=4):0≤x.a∧x.a<c.aK:=by
 have:=h.a hx; unfold aM at this; rw [if_neg (by omega),if_pos hk] at this; exact RJ this
theorem lW.b2 (h:lW c cells lines locks) (hx:c.l[i]? = some x) (hk:x.kind=2∨x.kind=3∨x.kind=4):0≤x.b∧x.b<cells:=by
 have:=h.b hx; unfold bM at this; rw [if_pos hk] at this; exact RJ this
theorem lW.b9 (h:lW c cells lines locks) (hx:c.l[i]? = some x) (hk:x.kind=9∨x.kind=10):0≤x.b∧x.b<locks:=by
 have:=h.b hx; unfold bM at this; rw [if_neg (by omega),if_neg (by omega),if_pos hk] at this; exact RJ this
theorem lW.tob (h:lW c cells lines locks) (hx:c.l[i]? = some x):0≤x.to∧x.to≤c.l.length:=by
 have h1:=h.to i x hx
 have hi:=(List.getElem?_eq_some_iff.1 hx).1
 by_cases hk:x.kind=14
 ·have:=WN hk h1; omega
 ·unfold I8 at h1
  split at h1
  ·simp at h1; omega
  ·simp at h1; omega
theorem px {α:Type} {l:List α} {x:α} (h:x∈l):∃ i:Nat,l[i]? = some x:=List.mem_iff_getElem?.1 h
theorem lW.ok (h:lW c cells lines locks) (hz:CZ c):BZ c:=by
 have h1:=h.rb; have h2:=h.cb; have h3:=hz.l
 refine ⟨by omega,by omega,by omega,λ x hx=>?_,λ x hx hk=>?_,λ x hx hk=>?_⟩
 ·obtain ⟨i,hi⟩:=px hx
  have:=h.tob hi
  have h4:=hz.ef x hx
  exact ⟨h4.1,h4.2,by omega,by omega⟩
 ·obtain ⟨i,hi⟩:=px hx; exact h.a1 hi (.inl hk)
 ·obtain ⟨i,hi⟩:=px hx; exact h.a13 hi hk
end
def Vis (t:fG):Prop:=∀ x,gP t=some x→t.fault=0→2≤x.kind∧x.kind≤10
theorem YA {t:fG} {x:aW} {e:Int}:(wQ t x e).1.code=t.code∧(wQ t x e).1.buf=t.buf:=by
 unfold wQ; repeat' split
 all_goals exact ⟨rfl,rfl⟩
theorem qe (t:fG):(fN t).1.code=t.code∧(fN t).1.buf=t.buf:=by
 unfold fN
 cases hn:gP t with
 | none=>exact ⟨rfl,rfl⟩
 | some x=>
  dsimp only
  split
  ·split
   ·exact YA
   ·exact ⟨rfl,rfl⟩
  ·exact ⟨rfl,rfl⟩
theorem A5:∀ {n:Nat} {t t':fG},rZ n t=some t'→t'.code=t.code∧t'.buf=t.buf
 | 0,_,_,h=>by cases h
 | n+1,t,t',h=>by
  have hc:=qe t
  unfold rZ at h
  split at h
  ·have:=A5 h; exact ⟨this.1.trans hc.1,this.2.trans hc.2⟩
  ·cases h; exact hc
theorem JE:∀ {n:Nat} {t t':fG},Hp t→rZ n t=some t'→Hp t'
 | 0,_,_,_,h=>by cases h
 | n+1,t,t',h0,h=>by
  unfold rZ at h
  split at h
  ·exact JE (lE h0) h
  ·cases h; exact lE h0
theorem FG:∀ {n k:Nat} {t t':fG},rZ n t=some t'→rZ (n+k) t=some t'
 | 0,_,_,_,h=>by cases h
 | n+1,k,t,t',h=>by
  rw [show n+1+k=(n+k)+1 from by omega]
  unfold rZ at h ⊢
  split at h
  ·rename_i hs; rw [if_pos hs]; exact FG h
  ·rename_i hs; rw [if_neg hs]; exact h
theorem Pj {t:fG} (hk:∀ x∈t.code.l,1≤x.kind∧x.kind≤15) (h:(fN t).2=false):Vis (fN t).1:=by
 intro x hx hf
 cases hn:gP t with
 | none=>rw [AL hn] at hx; rw [hx] at hn; cases hn
 | some y=>
  have hy:=hk y (pj hn).1
  cases he:(eC y.e t.aK).2 with
  | false=>rw [AM hn he] at hf; simp [tE,he] at hf
  | true=>
   cases Uo:(eC y.f t.aK).2 with
   | false=>rw [AN hn he Uo] at hf; simp [tF,tE,Uo] at hf
   | true=>
    rw [kI hn he Uo] at h hx hf
    unfold wQ at h hx hf
    have e:∀ z,gP (tF (tE t y) y)=some z→z=y:=by
     intro z hz
     have:gP (tF (tE t y) y)=gP t:=rfl
     rw [this,hn] at hz; exact (Option.some.inj hz).symm
    split at h
    ·cases h
    ·split at h
     ·cases h
     ·split at h
      ·split at h <;> cases h
      ·split at h
       ·cases h
       ·split at h
        ·split at h <;> cases h
        ·split at h
         ·rename_i h1 h2 h3 h4 h5 h6
          rw [if_neg h1,if_neg h2,if_neg h3,if_neg h4,if_neg h5,if_pos h6] at hf
          split at hf
          ·cases hf
          ·rename_i h7; rw [if_neg h7] at h; cases h
         ·rename_i h1 h2 h3 h4 h5 h6
          rw [if_neg h1,if_neg h2,if_neg h3,if_neg h4,if_neg h5,if_neg h6] at hx
          have:=e x hx; subst this
          omega
theorem Dn:∀ {n:Nat} {t t':fG},(∀ x∈t.code.l,1≤x.kind∧x.kind≤15)→rZ n t=some t'→Vis t'
 | 0,_,_,_,h=>by cases h
 | n+1,t,t',hk,h=>by
  unfold rZ at h
  split at h
  ·exact Dn (by rw [(qe t).1]; exact hk) h
  ·rename_i hs; cases h; exact Pj hk (by simpa using hs)
theorem xb {l:List Int} {k:Nat} (hk:0<k) (h:k≤l.length):j3 (l.take k)=l.getD (k - 1) 0+1:=by
 unfold j3
 rw [List.length_take,Nat.min_eq_left h,if_neg (by omega),List.getD_eq_getElem?_getD,List.getD_eq_getElem?_getD,List.getElem?_take,if_pos (by omega)]
theorem Dp {u:im} (h:FF u) {k:Nat} {n:Int} (hk:(k:Int)<u.stays) (hn:u.lines[k]? = some n):(n=lz u.lines k∨(0<k∧n=lz u.lines k - 1))∧-1≤n∧n≤k:=by
 have mG:=(List.getElem?_eq_some_iff.1 hn).1
 have hb:=E6 (u:=u) (k:=u.lines.length) (λ j hj=>h.ln j hj) k n mG hn
 have h1:=h.ln k mG
 unfold ko at h1
 rw [hn] at h1
 simp only [Bool.and_eq_false_iff,Bool.or_eq_false_iff,decide_eq_false_iff_not,Decidable.not_not] at h1
 refine ⟨?_,hb⟩
 rcases h1 with h1 | h1
 ·exact .inl h1
 ·exact .inr ⟨by omega,h1.2⟩
theorem JF {u:im} (h:FF u):∀ (k:Nat) (n:Int),(k:Int)<u.stays→u.lines[k]? = some n→0≤n∧∀ j m,j≤k→u.lines[j]? = some m→m≤n
 | 0,n,hk,hn=>by
  have h1:=(Dp h hk hn).1
  have e:lz u.lines 0=0:=rfl
  rw [e] at h1
  refine ⟨by omega,λ j m hj hm=>?_⟩
  obtain rfl:j=0:=by omega
  rw [hn] at hm; cases hm; exact Int.le_refl _
 | k+1,n,hk,hn=>by
  have mG:=(List.getElem?_eq_some_iff.1 hn).1
  obtain ⟨q,hq⟩:∃ q,u.lines[k]? = some q:=⟨_,List.getElem?_eq_getElem (by omega)⟩
  have ih:=JF h k q (by omega) hq
  have h1:=(Dp h hk hn).1
  have e:lz u.lines (k+1)=q+1:=by unfold lz; rw [if_neg (by omega),Nat.add_sub_cancel,List.getD_eq_getElem?_getD,hq]; rfl
  rw [e] at h1
  refine ⟨by omega,λ j m hj hm=>?_⟩
  by_cases hjk:j=k+1
  ·subst hjk; rw [hn] at hm; cases hm; exact Int.le_refl _
  ·have:=ih.2 j m (by omega) hm; omega
theorem aet {u:im} (h:FF u):vN (Xx u.lines u.stays u.dH):=by
 have h1:=h.st; have h2:=h.fl; have h3:=h.ll
 have hl:(u.lines.take u.stays.toNat).length=u.stays.toNat:=by rw [List.length_take]; omega
 refine ⟨?_,?_,rfl,?_,λ n hn=>?_,?_,λ k x hx=>by cases hx⟩
 ·show (u.lines.take u.stays.toNat).length≤u.dH.length; omega
 ·show u.dH.length≤20; omega
 ·show (u.dH.take u.stays.toNat).length=(u.lines.take u.stays.toNat).length; rw [hl,List.length_take]; omega
 ·obtain ⟨i,hi⟩:=px (show n∈u.lines.take u.stays.toNat from hn)
  have mG:=(List.getElem?_eq_some_iff.1 hi).1
  rw [hl] at mG
  rw [List.getElem?_take,if_pos mG] at hi
  obtain ⟨q,hq⟩:∃ q,u.lines[u.stays.toNat - 1]? = some q:=⟨_,List.getElem?_eq_getElem (by omega)⟩
  have h4:=JF h (u.stays.toNat - 1) q (by omega) hq
  have h5:=(JF h i n (by omega) hi).1
  have h6:=h4.2 i n (by omega) hi
  show 0≤n∧n<j3 (u.lines.take u.stays.toNat)
  rw [xb (by omega) (by omega),List.getD_eq_getElem?_getD,hq]
  exact ⟨h5,by show n<q+1; omega⟩
 ·show j3 (u.lines.take u.stays.toNat)≤20
  by_cases h0:u.stays.toNat=0
  ·rw [h0,List.take_zero]; decide
  ·obtain ⟨q,hq⟩:∃ q,u.lines[u.stays.toNat - 1]? = some q:=⟨_,List.getElem?_eq_getElem (by omega)⟩
   have:=(Dp h (by omega) hq).2
   rw [xb (by omega) (by omega),List.getD_eq_getElem?_getD,hq]
   show q+1≤20
   omega
theorem RK {f:Int→List jr} {a k:Int} {xs:List jr} {x:jr} (h:x∈tq f a xs k):x∈xs∨x∈f k:=by
 unfold tq at h; split at h; exact .inl h; exact .inr h
theorem HK {m:Mem} {c n:Int} (h:vN m):vN (iO m c n):=by
 unfold iO
 split
 ·rename_i vx
  unfold OB at vx; rw [decide_eq_true_eq] at vx
  refine ⟨h.SU,h.fl,by show (m.l.set _ _).length=_; rw [List.length_set]; exact h.ll,h.kl,h.ofr,h.lb,λ k x hx=>?_⟩
  dsimp only at hx
  split at hx
  ·rename_i hc
   rcases RK hx with h1 | h1
   ·rw [List.mem_append] at h1
    rcases h1 with h1 | h1
    ·exact h.pc _ x h1
    ·simp at h1; subst h1; exact ⟨vx.1,hc⟩
   ·exact h.pc _ x h1
  ·exact h.pc _ x hx
 ·exact h
theorem aeu {m:Mem} {c:Int} (h:vN m):vN (vM m c):=by
 unfold vM
 split
 ·refine ⟨h.SU,h.fl,h.ll,by show (yg _ _).length=_; rw [AF]; exact h.kl,h.ofr,h.lb,λ k x hx=>?_⟩
  rcases RK hx with h1 | h1
  ·cases h1
  ·exact h.pc _ x h1
 ·exact h
theorem Tq {m:Mem} {cut oH:List Int} (h:jx m cut=some oH):oH.length=m.kept.length:=by
 unfold jx at h; split at h
 ·cases h; exact uA _ _ _
 ·cases h
theorem Ts {m:Mem} {cut oH:List Int} (h:vN m) (hi:jx m cut=some oH):vN (zf m oH):=by
 have h1:=Tq hi
 have h2:=h.kl; have h3:=h.SU
 refine ⟨h.SU,h.fl,?_,?_,h.ofr,h.lb,λ k x hx=>by cases hx⟩
 ·show (oH++m.dH.drop oH.length).length=m.dH.length
  rw [List.length_append,List.length_drop]; omega
 ·show oH.length=m.of.length; omega
structure GM (m:gp):Prop where
 ru:FF m.u
 uz:UZ m.u
 mem:vN m.mem
 of:m.mem.of=m.u.lines.take m.u.stays.toNat
 dH:m.mem.dH=m.u.dH
 th:∀ t∈m.l,Hp t∧Vis t∧(t.code∈m.u.threads∨t.code=m.u.recover)
 tl:m.l.length≤3
 lk:(m.locks.length:Int)=m.u.locks
 rm:1≤m.room∧m.room≤16
 cr:0≤m.bW
section
variable {m:gp} {t:fG}
theorem GM.code (h:GM m) (ht:t∈m.l):lW t.code m.u.lines.length (gw m.u) m.u.locks:=by
 rcases (h.th t ht).2.2 with h1 | h1
 ·exact h.ru.th _ h1
 ·rw [h1]; exact h.ru.rc
theorem GM.ok (h:GM m):qE m:=by
 have Nv:=h.tl
 refine ⟨h.mem,λ t ht=>(h.th t ht).1,by omega,h.lk,λ t ht x hx hk=>?_,λ t ht x hx hk=>?_,λ t ht x hx hk=>?_,h.rm,λ t ht=>(h.th t ht).2.1,λ n hn=>?_⟩
 ·obtain ⟨i,hi⟩:=px hx; exact (h.code ht).b9 hi hk
 ·obtain ⟨i,hi⟩:=px hx; exact (h.code ht).b2 hi (.inr (.inl hk))
 ·obtain ⟨i,hi⟩:=px hx
  exact (h.code ht).a1 hi (by omega)
 ·obtain ⟨i,hi⟩:=px hn
  have mG:=(List.getElem?_eq_some_iff.1 hi).1
  have:=E6 (u:=m.u) (k:=m.u.lines.length) (λ j hj=>h.ru.ln j hj) i n mG hi
  have:=h.ru.ll
  omega
theorem Tt {mm:Mem} {x:bJ} (h:vN mm):vN (il mm x)∧(il mm x).of=mm.of∧(il mm x).dH=mm.dH:=by
 unfold il
 split
 ·exact ⟨HK h,B2 _ _ _,tC _ _ _⟩
 ·split
  ·exact ⟨h,rfl,rfl⟩
  ·exact ⟨aeu h,Rc _ _,Cx _ _⟩
theorem YB {i:Int} {x:aW} (h:vN m.mem):vN (dR m t i x).1.mem∧(dR m t i x).1.mem.of=m.mem.of∧(dR m t i x).1.mem.dH=m.mem.dH:=by
 unfold dR yj wT nJ
 repeat' split
 all_goals first
  | exact ⟨h,rfl,rfl⟩
  | exact ⟨HK h,B2 _ _ _,tC _ _ _⟩
theorem RL {i:Int} {x:aW}:(dR m t i x).1.locks.length=m.locks.length∧(dR m t i x).1.bW=m.bW:=by
 unfold dR yj wT nJ
 repeat' split
 all_goals first
  | exact ⟨rfl,rfl⟩
  | exact ⟨List.length_set ..,rfl⟩
theorem Tu {l:List bJ} {i:Int}:(mq l i).length≤l.length:=by
 unfold mq; split
 ·exact List.length_eraseIdx_le ..
 ·exact Nat.le_refl _
theorem GM.out {q:eo} (h:GM m) (ht:m.l[q.t.toNat]? = some t):GM (mw m t q):=by
 have hm:=Tt (x:=ep t.buf q.i) h.mem
 have Bf:=List.mem_of_getElem? ht
 refine ⟨h.ru,h.uz,hm.1,hm.2.1.trans h.of,hm.2.2.trans h.dH,λ t' YC=>?_,by show (m.l.set _ _).length≤3; rw [List.length_set]; exact h.tl,h.lk,h.rm,h.cr⟩
 rcases List.mem_or_eq_of_mem_set (show t'∈m.l.set _ _ from YC) with h1 | h1
 ·exact h.th t' h1
 ·subst h1
  obtain ⟨h2,h3,h4⟩:=h.th t Bf
  have:=Tu (l:=t.buf) (i:=q.i)
  have hb:=h2.bl
  exact ⟨⟨h2.code,h2.rg,h2.cn,h2.T0,by show (mq t.buf q.i).length≤1000; omega⟩,h3,h4⟩
theorem lW.kds {c:fu} {a b d:Int} (h:lW c a b d):∀ x∈c.l,1≤x.kind∧x.kind≤15:=λ x hx=>by
 obtain ⟨i,hi⟩:=px hx; exact h.kd hi
theorem GM.step {N:Nat} {i:Int} {m':gp} {ev:cG} (h:GM m) (hs:mN N m i=some (m',ev)):GM m':=by
 cases ht:m.l[i.toNat]? with
 | none=>unfold mN at hs; rw [ht] at hs; cases hs
 | some t=>
  have Bf:=List.mem_of_getElem? ht
  have htt:=h.th t Bf
  by_cases hf:t.fault≠0
  ·rw [(xG hs ht hf).1]
   exact ⟨h.ru,h.uz,h.mem,h.of,h.dH,h.th,h.tl,h.lk,h.rm,h.cr⟩
  ·obtain ⟨x,hn⟩:=xH hs ht hf
   have hm:=YB (m:=m) (t:=t) (i:=i) (x:=x) h.mem
   have J2:=RL (m:=m) (t:=t) (i:=i) (x:=x)
   have oM:=Rd (m:=m) (i:=i) (x:=x) htt.1 h.rm.2
   have key:∀ t2:fG,Hp t2→Vis t2→t2.code=t.code→GM { (dR m t i x).1 with l:=(dR m t i x).1.l.set i.toNat t2}:=by
    intro t2 h1 h2 h3
    have hu:=OK (m:=m) (t:=t) (i:=i) (x:=x)
    refine ⟨by rw [hu]; exact h.ru,by rw [hu]; exact h.uz,hm.1,by rw [hu]; exact hm.2.1.trans h.of,by rw [hu]; exact hm.2.2.trans h.dH,λ t' YC=>?_,?_,?_,?_,?_⟩
    ·rw [B3] at YC
     rw [hu]
     rcases List.mem_or_eq_of_mem_set (show t'∈m.l.set _ _ from YC) with h4 | h4
     ·exact h.th t' h4
     ·subst h4; exact ⟨h1,h2,by rw [h3]; exact htt.2.2⟩
    ·show ((dR m t i x).1.l.set _ _).length≤3
     rw [List.length_set,B3]; exact h.tl
    ·show ((dR m t i x).1.locks.length:Int)=(dR m t i x).1.u.locks
     rw [J2.1,hu]; exact h.lk
    ·show 1≤(dR m t i x).1.room∧(dR m t i x).1.room≤16
     rw [xF]; exact h.rm
    ·show 0≤(dR m t i x).1.bW
     rw [J2.2]; exact h.cr
   by_cases h0:(dR m t i x).1.fault=0
   ·obtain ⟨t2,hg,MZ,_⟩:=xI hs ht hf hn h0
    rw [MZ]
    have hc:=A5 hg
    have hcc:t2.code=t.code:=hc.1.trans (qR (m:=m) (t:=t) (i:=i) (x:=x))
    refine key t2 (JE ?_ hg) (Dn (t:={ (dR m t i x).2.1 with at_:=(dR m t i x).2.1.at_+1}) ?_ hg) hcc
    ·exact ⟨oM.code,oM.rg,oM.cn,by show 0≤(dR m t i x).2.1.at_+1; have:=oM.T0; omega,oM.bl⟩
    ·show ∀ x'∈(dR m t i x).2.1.code.l,_
     rw [qR]; exact (h.code Bf).kds
   ·obtain ⟨MZ,_⟩:=xJ hs ht hf hn h0
    rw [MZ]
    refine key _ oM ?_ (qR (m:=m) (t:=t) (i:=i) (x:=x))
    intro y hy hfy
    have e:gP (dR m t i x).2.1=gP t:=by unfold gP; rw [qR,Df]
    rw [e] at hy
    exact htt.2.1 y hy (by omega)
theorem GM.RM {q:eo} {oH:List Int} {N:Nat} (h:GM m) (hi:gH m q=some oH) (hg:rZ N (qc m.u.recover)=some t):GM (lK (wV m oH) [t]):=by
 have hi2:jx m.mem q.cut=some oH:=by unfold gH at hi; split at hi; exact hi; cases hi
 have hr:=h.ru.rc
 have J2:=h.ru.lk
 refine ⟨h.ru,h.uz,Ts h.mem hi2,h.of,h.dH,λ t' YC=>?_,by show [t].length≤3; simp,?_,h.rm,by show 0≤m.bW+1; have:=h.cr; omega⟩
 ·obtain rfl:t'=t:=by simpa using (show t'∈[t] from YC)
  exact ⟨JE (Jp (hr.ok h.uz.rc)) hg,Dn (t:=qc m.u.recover) hr.kds hg,.inr (A5 hg).1⟩
 ·show ((List.replicate m.u.locks.toNat (-1:Int)).length:Int)=m.u.locks
  rw [List.length_replicate]; omega
theorem GM.do {N:Nat} {q:eo} {m2:gp} {ev:cG} {e:Int} (h:GM m) (hd:B4 N m q=some (m2,ev,e)):GM m2:=by
 cases hc:gH m q with
 | some oH=>obtain ⟨t,hg,hm,_⟩:=pk hd hc; rw [hm]; exact h.RM hc hg
 | none=>
  by_cases ha:(cQ m).any (jy q)=true
  ·by_cases hk:q.kind=2
   ·obtain ⟨_,t,ht⟩:=pn ha
    rw [(oF hd hc ha hk ht).1]; exact h.out ht
   ·exact h.step (my hd hc ha hk).1
  ·rw [(oE hd hc ha).1]; exact h
end
theorem GM.new {N:Nat} {u:im} {room:Int} {ths:List fG} (hu:FF u) (hz:UZ u) (hb:rL N u.threads ths) (hr:1≤room∧room≤16):GM (lK (lU u room) ths):=by
 have h1:=hu.tl; have h2:=hu.lk
 refine ⟨hu,hz,aet hu,rfl,rfl,λ t ht=>?_,by show ths.length≤3; rw [hb.1]; exact h1.2,?_,hr,Int.le_refl _⟩
 ·obtain ⟨i,hi⟩:=px (show t∈ths from ht)
  have mG:=(List.getElem?_eq_some_iff.1 hi).1
  obtain ⟨c,hc⟩:∃ c,u.threads[i]? = some c:=⟨_,List.getElem?_eq_getElem (by rw [← hb.1]; exact mG)⟩
  have hg:=hb.2 i c t hc hi
  have M6:=List.mem_of_getElem? hc
  have hcu:=hu.th c M6
  exact ⟨JE (Jp (hcu.ok (hz.th c M6))) hg,Dn (t:=qc c) hcu.kds hg,.inl (by rw [(A5 hg).1]; exact M6)⟩
 ·show ((List.replicate u.locks.toNat (-1:Int)).length:Int)=u.locks
  rw [List.length_replicate]; omega
theorem MK {N:Nat} {u:im} {ths:List fG} (hu:FF u) (hz:UZ u) (hb:rL N u.threads ths):Re N u ths:=by
 have h1:=hu.lk; have h2:=hu.st; have h3:=hu.ll
 refine ⟨hb,λ c hc=>(hu.th c hc).ok (hz.th c hc),hu.fl.symm,hu.ll,hu.st,λ k n hk hn=>?_,by omega⟩
 have h4:=Dp hu hk hn
 have mG:=(List.getElem?_eq_some_iff.1 hn).1
 exact ⟨h4.1,by omega,by omega⟩
theorem MB.mono {mm:Mem} {a b:Nat} (h:MB mm a) (hab:a≤b):MB mm b:=λ k=>Nat.le_trans (h k) hab
theorem MB.write {mm:Mem} {c x:Int} {n:Nat} (h:MB mm n):MB (iO mm c x) (n+1):=by
 intro k
 unfold iO
 split
 ·dsimp only
  split
  ·unfold tq
   split
   ·rw [List.length_append,List.length_singleton]; have:=h (mm.of.getD c.toNat 0); omega
   ·have:=h k; omega
  ·have:=h k; omega
 ·have:=h k; omega
theorem MB.out {mm:Mem} {c:Int} {n:Nat} (h:MB mm n):MB (vM mm c) n:=by
 intro k
 unfold vM
 split
 ·dsimp only
  unfold tq
  split
  ·simp
  ·exact h k
 ·exact h k
theorem MB.il {mm:Mem} {x:bJ} {n:Nat} (h:MB mm n):MB (il mm x) (n+1):=by
 unfold Go.Proofs.YtnjcingfdhjfkaaGreat.il
 split
 ·exact h.write
 ·split
  ·exact h.mono (Nat.le_succ n)
  ·exact h.out.mono (Nat.le_succ n)
theorem MB.act {m:gp} {t:fG} {i:Int} {x:aW} {n:Nat} (h:MB m.mem n):MB (dR m t i x).1.mem (n+1):=by
 unfold dR yj wT nJ
 repeat' split
 all_goals first
  | exact h.mono (Nat.le_succ n)
  | exact h.write
theorem MB.step {N n:Nat} {m m':gp} {i:Int} {ev:cG} (h:MB m.mem n) (hs:mN N m i=some (m',ev)):MB m'.mem (n+1):=by
 cases ht:m.l[i.toNat]? with
 | none=>unfold mN at hs; rw [ht] at hs; cases hs
 | some t=>
  by_cases hf:t.fault≠0
  ·rw [(xG hs ht hf).1]; exact h.mono (Nat.le_succ n)
  ·obtain ⟨x,hn⟩:=xH hs ht hf
   by_cases h0:(dR m t i x).1.fault=0
   ·obtain ⟨t2,_,MZ,_⟩:=xI hs ht hf hn h0
    rw [MZ]; exact h.act
   ·rw [(xJ hs ht hf hn h0).1]; exact h.act
theorem MB.do {N n:Nat} {m m2:gp} {q:eo} {ev:cG} {e:Int} (h:MB m.mem n) (hd:B4 N m q=some (m2,ev,e)):MB m2.mem (n+1):=by
 cases hc:gH m q with
 | some oH=>obtain ⟨t,_,hm,_⟩:=pk hd hc; rw [hm]; intro k; exact Nat.zero_le _
 | none=>
  by_cases ha:(cQ m).any (jy q)=true
  ·by_cases hk:q.kind=2
   ·obtain ⟨_,t,ht⟩:=pn ha
    rw [(oF hd hc ha hk ht).1]; exact h.il
   ·exact h.step (my hd hc ha hk).1
  ·rw [(oE hd hc ha).1]; exact h.mono (Nat.le_succ n)
theorem MB.new {u:im} {room:Int} {ths:List fG}:MB (lK (lU u room) ths).mem 0:=λ _=>Nat.le_refl _
theorem FH {N:Nat} {m m2:gp} {q:eo} {ev:cG} {e:Int} (hd:B4 N m q=some (m2,ev,e)):m2.bW≤m.bW+1∧m2.u=m.u∧m2.room=m.room:=by
 cases hc:gH m q with
 | some oH=>obtain ⟨t,_,hm,_⟩:=pk hd hc; rw [hm]; exact ⟨Int.le_refl _,rfl,rfl⟩
 | none=>
  by_cases ha:(cQ m).any (jy q)=true
  ·by_cases hk:q.kind=2
   ·obtain ⟨_,t,ht⟩:=pn ha
    rw [(oF hd hc ha hk ht).1]; exact ⟨by show m.bW≤_; omega,rfl,rfl⟩
   ·have hs:=(my hd hc ha hk).1
    cases ht:m.l[q.t.toNat]? with
    | none=>unfold mN at hs; rw [ht] at hs; cases hs
    | some t=>
     by_cases hf:t.fault≠0
     ·rw [(xG hs ht hf).1]; exact ⟨by show m.bW≤_; omega,rfl,rfl⟩
     ·obtain ⟨x,hn⟩:=xH hs ht hf
      have H0:=(RL (m:=m) (t:=t) (i:=q.t) (x:=x)).2
      by_cases h0:(dR m t q.t x).1.fault=0
      ·obtain ⟨t2,_,MZ,_⟩:=xI hs ht hf hn h0
       rw [MZ]; exact ⟨by show (dR m t q.t x).1.bW≤_; omega,OK,xF⟩
      ·rw [(xJ hs ht hf hn h0).1]; exact ⟨by show (dR m t q.t x).1.bW≤_; omega,OK,xF⟩
  ·rw [(oE hd hc ha).1]; exact ⟨by omega,rfl,rfl⟩
theorem alT {α:Type} {g:α→Bool} {l:List α} (h:0≤uZ g l):uZ g l<l.length:=by
 unfold uZ at h ⊢
 cases hf:l.findIdx? g with
 | none=>rw [hf] at h; simp at h
 | some k=>
  have:=(List.findIdx?_eq_some_iff_getElem.1 hf).1
  simp; exact this
theorem A6 {ns:List ByteArray} {s:ByteArray} (h:0≤dV ns s):dV ns s<ns.length:=alT h
theorem ML {s:ByteArray} (h:j9 s=true):s≠⟨#[]⟩:=by
 rintro rfl
 exact absurd h (by decide)
theorem Ex.asI (ns:List ByteArray) (t:Ex):t.wf→∀ n h:Int,0≤n→∃ h',(t.steps ns).foldl Ld (some (n,h))=some (n+1,h'):=by
 induction t with
 | leaf x=>
  intro hw n h hn
  have NO:kids x.op=0:=hw
  have hw1:fL x.op=0:=by
   unfold kids at NO
   unfold fL
   split at NO <;> (try split at NO) <;> (try split at NO) <;> repeat' split
   all_goals omega
  refine ⟨max h (n+1),(show Ld (some (n,h)) ⟨x.op,Ex.numOf ns x⟩=some (n+1,max h (n+1)) from ?_)⟩
  unfold Ld; dsimp only; rw [hw1,if_neg (by omega),Int.sub_zero]
 | un x a ih=>
  intro hw n h hn
  have NO:kids x.op=1:=hw.1
  have hw1:fL x.op=1:=by
   unfold kids at NO
   unfold fL
   split at NO <;> (try split at NO) <;> (try split at NO) <;> repeat' split
   all_goals omega
  obtain ⟨h1,e1⟩:=ih hw.2 n h hn
  refine ⟨max h1 (n+1),?_⟩
  show List.foldl Ld (some (n,h)) (a.steps ns++[(⟨x.op,numOf ns x⟩:nw)])=_
  rw [List.foldl_append,e1]
  show Ld (some (n+1,h1)) ⟨x.op,numOf ns x⟩=_
  unfold Ld; dsimp only; rw [hw1,if_neg (by omega),Int.add_sub_cancel]
 | bin x a b vK xZ=>
  intro hw n h hn
  have NO:kids x.op=2:=hw.1
  have hw1:fL x.op=2:=by
   unfold kids at NO
   unfold fL
   split at NO <;> (try split at NO) <;> (try split at NO) <;> repeat' split
   all_goals omega
  obtain ⟨h1,e1⟩:=vK hw.2.1 n h hn
  obtain ⟨h2,e2⟩:=xZ hw.2.2 (n+1) h1 (by omega)
  refine ⟨max h2 (n+1),?_⟩
  show List.foldl Ld (some (n,h)) (a.steps ns++b.steps ns++[(⟨x.op,numOf ns x⟩:nw)])=_
  rw [List.foldl_append,List.foldl_append,e1,e2]
  show Ld (some (n+1+1,h2)) ⟨x.op,numOf ns x⟩=_
  unfold Ld; dsimp only; rw [hw1,if_neg (by omega),show n+1+1 - 2+1=n+1 from by omega]
theorem JG {k:Int} (h:kids k=0∨kids k=1∨kids k=2):1≤k∧k≤15:=by
 unfold kids at h
 repeat' split at h
 all_goals omega
theorem Ex.Tv (ns:List ByteArray) (t:Ex):t.wf→∀ o∈t.steps ns,∃ x∈t.flat,o=⟨x.op,numOf ns x⟩∧1≤x.op∧x.op≤15:=by
 induction t with
 | leaf x=>intro hw o ho; exact ⟨x,by simp [Ex.flat],by simpa [Ex.steps] using ho,JG (.inl hw)⟩
 | un x a ih=>
  intro hw o ho
  have ho:o∈a.steps ns++[⟨x.op,numOf ns x⟩]:=ho
  rw [List.mem_append] at ho
  rcases ho with ho | ho
  ·obtain ⟨y,h1,h2⟩:=ih hw.2 o ho; exact ⟨y,by simp [Ex.flat,h1],h2⟩
  ·exact ⟨x,by simp [Ex.flat],by simpa using ho,JG (.inr (.inl hw.1))⟩
 | bin x a b vK xZ=>
  intro hw o ho
  have ho:o∈a.steps ns++b.steps ns++[⟨x.op,numOf ns x⟩]:=ho
  rw [List.mem_append,List.mem_append] at ho
  rcases ho with (ho | ho) | ho
  ·obtain ⟨y,h1,h2⟩:=vK hw.2.1 o ho; exact ⟨y,by simp [Ex.flat,h1],h2⟩
  ·obtain ⟨y,h1,h2⟩:=xZ hw.2.2 o ho; exact ⟨y,by simp [Ex.flat,h1],h2⟩
  ·exact ⟨x,by simp [Ex.flat],by simpa using ho,JG (.inr (.inr hw.1))⟩
theorem xc {ns:List ByteArray} {l:List dC} {many:Int} (hr:jJ l=true) (hv:vA l ns=false) (hm:many=ns.length):eR (gk ns l) many=true∧(gk ns l).length≤40:=by
 have hr0:=hr
 unfold jJ at hr
 simp only [Bool.and_eq_true,Bool.not_eq_true',decide_eq_true_eq,List.any_eq_false] at hr
 obtain ⟨⟨⟨h1,h2⟩,h3⟩,h4⟩:=hr
 obtain ⟨t,ht0⟩:=Option.isSome_iff_exists.1 h2
 obtain ⟨hw,CE⟩:=yT ht0
 have hv0:=hv
 unfold vA at hv
 have he:yx ns l=0:=by unfold yx; rw [if_neg (by rw [hr0]; decide),if_neg (by rw [hv]; decide)]
 have hl:gk ns l=t.steps ns:=by unfold gk; rw [if_pos he]; unfold NR; rw [ht0]
 rw [hl]
 have hlen:(t.steps ns).length≤40:=by rw [Ex.xw,← Ex.cT,← CE]; exact h1
 obtain ⟨h',e'⟩:=t.asI ns hw 0 0 (Int.le_refl _)
 have e2:ht (t.steps ns)=some (1,h'):=by unfold ht; rw [e']; rfl
 refine ⟨?_,hlen⟩
 unfold eR htN
 rw [e2]
 simp only [Option.isSome_some,decide_true,Bool.and_true,Bool.and_eq_true,decide_eq_true_eq,Bool.not_eq_true',List.any_eq_false]
 refine ⟨hlen,λ o ho=>?_⟩
 obtain ⟨x,hx,rfl,TU,H0⟩:=t.Tv ns hw o ho
 rw [← CE] at hx
 have YD:=h3 x hx
 unfold oZ at YD
 simp only [Bool.or_eq_true,decide_eq_true_eq,not_or,Bool.and_eq_true,Bool.not_eq_true',not_and,Bool.not_eq_false] at YD
 obtain ⟨⟨⟨⟨g1,g2⟩,g3⟩,g4⟩,g5⟩:=YD
 have hn:Ex.numOf ns x=if x.op=2 then dV ns x.name else x.n:=rfl
 unfold sw
 simp only [decide_eq_true_eq]
 rintro (⟨q1,q2⟩ | ⟨q1,q2⟩ | ⟨q1,q2,q3⟩)
 ·have q1:x.op=1:=q1
  rw [hn,if_neg (by omega)] at q2; omega
 ·have q1:x.op=2:=q1
  rw [hn,if_pos q1] at q2
  rw [List.any_eq_false] at hv
  have:=hv x hx
  simp only [Bool.and_eq_true,decide_eq_true_eq,not_and] at this
  have h5:=this q1
  have h6:=A6 (ns:=ns) (s:=x.name) (by omega)
  omega
 ·have q1:¬ x.op=1:=q1
  have q2:¬ x.op=2:=q2
  rw [hn,if_neg q2] at q3
  have:=g2
  omega
theorem asK {k:Int} (h:1≤k∧k≤14):ew (ki k) 101=decide (k=1∨k=3∨k=4∨k=11∨k=14)∧ew (ki k) 102=decide (k=4)∧ew (ki k) 114=decide (k=1∨k=2∨k=4)∧ew (ki k) 110=decide (k=2∨k=3∨k=4∨k=5∨k=6∨k=9∨k=10):=by
 obtain rfl | rfl | rfl | rfl | rfl | rfl | rfl | rfl | rfl | rfl | rfl | rfl | rfl | rfl:k=1∨k=2∨k=3∨k=4∨k=5∨k=6∨k=7∨k=8∨k=9∨k=10∨k=11∨k=12∨k=13∨k=14:=by omega
 all_goals decide
structure asL (x:cI):Prop where
 kind:1≤x.kind∧x.kind≤14
 e1:x.kind=1∨x.kind=3∨x.kind=4∨x.kind=11∨x.kind=14→jJ x.e=true
 e0:¬ (x.kind=1∨x.kind=3∨x.kind=4∨x.kind=11∨x.kind=14)→x.e=[]
 f1:x.kind=4→jJ x.f=true
 f0:¬ x.kind=4→x.f=[]
 r1:x.kind=1∨x.kind=2∨x.kind=4→j9 x.gQ=true
 r0:¬ (x.kind=1∨x.kind=2∨x.kind=4)→x.gQ=⟨#[]⟩
theorem az0 {x:cI} (h:rq x=true):asL x:=by
 have h:=BC h
 obtain ⟨g1,g2,g3,g4⟩:=asK h.kind
 refine ⟨h.kind,λ hk=>?_,λ hk=>?_,λ hk=>?_,λ hk=>?_,λ hk=>?_,λ hk=>?_⟩
 ·rcases h.e with q | q
  ·exact q.2
  ·rw [g1,decide_eq_true hk] at q; exact absurd q.1 (by decide)
 ·rcases h.e with q | q
  ·rw [g1,decide_eq_false hk] at q; exact absurd q.1 (by decide)
  ·exact q.2
 ·rcases h.f with q | q
  ·exact q.2
  ·rw [g2,decide_eq_true hk] at q; exact absurd q.1 (by decide)
 ·rcases h.f with q | q
  ·rw [g2,decide_eq_false hk] at q; exact absurd q.1 (by decide)
  ·exact q.2
 ·rcases h.gQ with q | q
  ·exact q.2
  ·rw [g3,decide_eq_true hk] at q; exact absurd q.1 (by decide)
 ·rcases h.gQ with q | q
  ·rw [g3,decide_eq_false hk] at q; exact absurd q.1 (by decide)
  ·exact q.2
theorem HL (ns:List ByteArray):gk ns []=[]:=by
 unfold gk; split
 ·rfl
 ·rfl
theorem Dq:∀ (ls:List (List dL)) (i a:Int),0≤a→(∀ l∈ls,l≠[])→i≤iC ls i a∧(∀ b,a≤b→iC ls i a≤iC ls i b)∧(iC ls i (a+1)=iC ls i a∨iC ls i (a+1)=iC ls i a+1)
 | [],i,a,ha,_=>⟨by unfold iC; omega,λ b hb=>by unfold iC; omega,by unfold iC; omega⟩
 | l::r,i,a,ha,hl=>by
  have CB:0<l.length:=List.length_pos_iff.2 (hl l (List.mem_cons_self ..))
  have hr:=λ l C0=>hl l (List.mem_cons_of_mem _ C0)
  unfold iC
  by_cases h1:a<l.length
  ·rw [if_pos h1]
   refine ⟨Int.le_refl _,λ b hb=>?_,?_⟩
   ·split
    ·exact Int.le_refl _
    ·have:=(Dq r (i+1) (b - l.length) (by omega) hr).1; omega
   ·split
    ·exact .inl rfl
    ·have e:a+1 - (l.length:Int)=0:=by omega
     rw [e]
     cases r with
     | nil=>unfold iC; omega
     | cons l2 r2=>
      have hne2:0<l2.length:=List.length_pos_iff.2 (hr l2 (List.mem_cons_self ..))
      unfold iC; rw [if_pos (by omega)]; exact .inr rfl
  ·rw [if_neg h1]
   obtain ⟨g1,g2,g3⟩:=Dq r (i+1) (a - l.length) (by omega) hr
   refine ⟨by omega,λ b hb=>?_,?_⟩
   ·rw [if_neg (by omega)]; exact g2 _ (by omega)
   ·rw [if_neg (by omega),show a+1 - (l.length:Int)=a - l.length+1 from by omega]; exact g3
theorem Dr:∀ (ls:List (List dL)) (i a:Int),(ls.flatten.length:Int)≤a→iC ls i a=i+ls.length+(a - ls.flatten.length)
 | [],i,a,_=>by unfold iC; simp
 | l::r,i,a,ha=>by
  have e:(((l::r).flatten).length:Int)=l.length+r.flatten.length:=by simp
  unfold iC
  rw [if_neg (by omega),Dr r (i+1) (a - l.length) (by omega),e]
  simp only [List.length_cons]
  omega
theorem JH:∀ (ls:List (List dL)) (i a:Int),0≤a→a<ls.flatten.length→iC ls i a<i+ls.length
 | [],i,a,h0,ha=>by simp at ha; omega
 | l::r,i,a,h0,ha=>by
  have e:(((l::r).flatten).length:Int)=l.length+r.flatten.length:=by simp
  unfold iC
  split
  ·simp only [List.length_cons]; omega
  ·have:=JH r (i+1) (a - l.length) (by omega) (by omega)
   simp only [List.length_cons]; omega
section
variable {p:cY}
theorem B9 (p:cY):(eD p).lines.length=(gL p).length:=by show ((List.range _).map _).length=_; rw [List.length_map,List.length_range]
theorem A7 {i:Nat} (h:i<(gL p).length):(eD p).lines[i]? = some (lT p i):=by
 show ((List.range _).map _)[i]? = _
 rw [List.getElem?_map,List.getElem?_range h]; rfl
theorem BI.pf (h:BI p):PF p:=wC h.right
theorem BI.sz (h:BI p):p.lines.length≤4∧(∀ l∈p.lines,l.length≤4)∧p.jY.length≤4∧p.locks.length≤2∧1≤p.threads.length∧p.threads.length≤3∧p.cD.length≤4∧∀ t∈iN p,t.aK.length≤4:=by
 have hb:=h.big
 unfold Al at hb
 simp only [Bool.or_eq_false_iff,decide_eq_false_iff_not,List.any_eq_false,decide_eq_true_eq] at hb
 obtain ⟨⟨h1,h2⟩,⟨⟨⟨⟨⟨h3,h4⟩,h5⟩,h6⟩,h7⟩,h8⟩⟩:=hb
 exact ⟨by omega,λ l hl=>by have:=h1 l hl; omega,by omega,by omega,by omega,by omega,by omega,λ t ht=>by have:=h2 t ht; omega⟩
theorem MM:∀ {ls:List (List dL)},(∀ l∈ls,l.length≤4)→ls.flatten.length≤4 * ls.length
 | [],_=>by simp
 | l::r,h=>by
  have h1:=h l (List.mem_cons_self ..)
  have h2:=MM (ls:=r) λ l hl=>h l (List.mem_cons_of_mem _ hl)
  rw [List.flatten_cons,List.length_append,List.length_cons]; omega
theorem BI.gL (h:BI p):(gL p).length≤20:=by
 obtain ⟨h1,h2,h3,_⟩:=h.sz
 have:=MM h2
 unfold Go.Proofs.YtnjcingfdhjfkaaGreat.gL
 rw [List.length_append]; omega
theorem A8 (p:cY):0≤ek p∧ek p≤(gL p).length:=by unfold ek gL; rw [List.length_append]; omega
theorem uI {c:Int} (h:0≤c∧c<(gL p).length):lT p c=iC p.lines 0 c:=by unfold lT; rw [if_neg (by omega)]
theorem Tw (h:BI p) {c:Int} (hc:0≤c∧c<ek p):0≤lT p c∧lT p c<gw (eD p):=by
 have hs:=A8 p
 have CB:=λ l hl=>(h.pf.lines l hl).1
 obtain ⟨g1,g2,_⟩:=Dq p.lines 0 c hc.1 CB
 rw [uI (by omega)]
 refine ⟨g1,?_⟩
 have g3:=g2 (ek p - 1) (by omega)
 have e:gw (eD p)=iC p.lines 0 (ek p - 1)+1:=by
  unfold gw
  rw [B9]
  show (if 1≤ek p∧ek p≤((Go.Proofs.YtnjcingfdhjfkaaGreat.gL p).length:Int) then (eD p).lines.getD (ek p - 1).toNat 0+1 else 0)=_
  rw [if_pos (by omega),List.getD_eq_getElem?_getD,A7 (by omega)]
  show lT p ((ek p - 1).toNat:Nat)+1=_
  rw [show (((ek p - 1).toNat:Nat):Int)=ek p - 1 from by omega,uI (by omega)]
 omega
theorem Pk (h:BI p) {i:Nat} (hi:i<(gL p).length):ko (eD p) i=false:=by
 have CB:=λ l hl=>(h.pf.lines l hl).1
 have hs:=A8 p
 unfold ko
 rw [A7 hi]
 dsimp only
 by_cases h0:i=0
 ·subst h0
  have e:lT p (0:Nat)=0:=by
   rw [uI (by omega)]
   cases hl:p.lines with
   | nil=>unfold iC; rfl
   | cons l r=>
    have:=List.length_pos_iff.2 (CB l (by rw [hl]; exact List.mem_cons_self ..))
    unfold iC; rw [if_pos (by omega)]
  rw [e]
  have e2:lz (eD p).lines 0=0:=rfl
  rw [e2]; rfl
 ·have e2:lz (eD p).lines i=lT p ((i - 1:Nat):Int)+1:=by
   unfold lz; rw [if_neg h0,List.getD_eq_getElem?_getD,A7 (by omega)]; rfl
  rw [e2,uI (by omega),uI (by omega)]
  obtain ⟨_,_,g3⟩:=Dq p.lines 0 ((i - 1:Nat):Int) (by omega) CB
  rw [show ((i - 1:Nat):Int)+1=(i:Int) from by omega] at g3
  by_cases gr:(i:Int)<ek p
  ·rcases g3 with g3 | g3
   ·rw [g3]
    have e3:decide ((eD p).stays≤(i:Int))=false:=decide_eq_false (by show ¬ ek p≤_; omega)
    rw [e3,decide_eq_false h0]
    simp
   ·rw [g3]; simp
  ·have hlen:(p.lines.flatten.length:Int)=ek p:=rfl
   by_cases Ly:((i - 1:Nat):Int)<ek p
   ·have hi2:(i:Int)=ek p:=by omega
    have q1:=Dr p.lines 0 i (by omega)
    have q2:=JH p.lines 0 ((i - 1:Nat):Int) (by omega) (by omega)
    have:iC p.lines 0 i=iC p.lines 0 ((i - 1:Nat):Int)+1:=by omega
    rw [this]; simp
   ·have q1:=Dr p.lines 0 i (by omega)
    have q2:=Dr p.lines 0 ((i - 1:Nat):Int) (by omega)
    have:iC p.lines 0 i=iC p.lines 0 ((i - 1:Nat):Int)+1:=by omega
    rw [this]; simp
end
theorem Pl {ns:List ByteArray} (h:∀ s∈ns,j9 s=true):dV ns ⟨#[]⟩ = -1:=kC λ y hy=>decide_eq_false (ML (h y hy))
structure StK (p:cY) (rs:List ByteArray) (x:cI):Prop where
 fit:asL x
 rg:∀ s∈rs,j9 s=true
 nb:ou p rs x=false
section
variable {p:cY} {rs:List ByteArray} {x:cI} {c:fu}
theorem asM (h:StK p rs x) (hc:c.aK=rs.length) (hk:x.kind=1∨x.kind=3∨x.kind=4∨x.kind=11∨x.kind=14):eR (gk rs x.e) c.aK=true:=by
 have hb:=h.nb; unfold ou at hb; simp only [Bool.or_eq_false_iff] at hb
 exact (xc (h.fit.e1 hk) hb.1.2 hc).1
theorem az1 (h:StK p rs x) (hc:c.aK=rs.length) (hk:x.kind=4):eR (gk rs x.f) c.aK=true:=by
 have hb:=h.nb; unfold ou at hb; simp only [Bool.or_eq_false_iff] at hb
 exact (xc (h.fit.f1 hk) hb.2 hc).1
theorem aev (hp:BI p) (h:StK p rs x) (hc:c.aK=rs.length) (hk:¬ x.kind=11) (H0:¬ x.kind=12) (hk3:¬ x.kind=13) :
  vh (lI p rs x) c (gL p).length (gw (eD p)) p.locks.length=true∧(lI p rs x).to=0∧¬ (lI p rs x).kind=11∧¬ (lI p rs x).kind=12∧¬ (lI p rs x).kind=13∧¬ (lI p rs x).kind=14:=by
 have hkd:=h.fit.kind
 have ni:(lI p rs x).kind=if x.kind=14 then 15 else x.kind:=rfl
 have hka:¬ (lI p rs x).kind=11∧¬ (lI p rs x).kind=12∧¬ (lI p rs x).kind=13∧¬ (lI p rs x).kind=14∧1≤(lI p rs x).kind∧(lI p rs x).kind≤15:=by rw [ni]; split <;> omega
 refine ⟨?_,rfl,hka.1,hka.2.1,hka.2.2.1,hka.2.2.2.1⟩
 have hb:=h.nb; unfold ou at hb
 simp only [Bool.or_eq_false_iff,Bool.and_eq_false_iff,decide_eq_false_iff_not,not_or,Decidable.not_not] at hb
 obtain ⟨⟨⟨⟨⟨b1,b2⟩,b3⟩,b4⟩,b5⟩,b6⟩:=hb
 have hE:(if sG (lI p rs x).kind=true then eR (lI p rs x).e c.aK else !decide (0<((lI p rs x).e.length:Int)))=true:=by
  by_cases hq:x.kind=1∨x.kind=3∨x.kind=4∨x.kind=11∨x.kind=14
  ·have CB:sG (lI p rs x).kind=true:=by
    unfold sG; rw [ni]
    split
    ·rfl
    ·simp only [Bool.or_eq_true,decide_eq_true_eq]; omega
   rw [if_pos CB]; exact asM h hc hq
  ·have CB:¬ sG (lI p rs x).kind=true:=by
    unfold sG; rw [ni,if_neg (by omega)]
    simp only [Bool.or_eq_true,decide_eq_true_eq]; omega
   rw [if_neg CB]
   have:(lI p rs x).e=[]:=by show gk rs x.e=[]; rw [h.fit.e0 hq,HL]
   rw [this]; rfl
 have hF:(if (lI p rs x).kind=4 then eR (lI p rs x).f c.aK else !decide (0<((lI p rs x).f.length:Int)))=true:=by
  by_cases hq:x.kind=4
  ·rw [if_pos (by rw [ni]; split <;> omega)]; exact az1 h hc hq
  ·rw [if_neg (by rw [ni]; split <;> omega)]
   have:(lI p rs x).f=[]:=by show gk rs x.f=[]; rw [h.fit.f0 hq,HL]
   rw [this]; rfl
 have hA:aM (lI p rs x) c.aK c.counts=true:=by
  unfold aM
  rw [if_neg (by omega)]
  have ea:(lI p rs x).a=max 0 (dV rs x.gQ):=rfl
  by_cases hq:x.kind=1∨x.kind=2∨x.kind=4
  ·rw [if_pos (by rw [ni]; split <;> omega),ea]
   have CB:=ML (h.fit.r1 hq)
   have:¬ dV rs x.gQ<0:=by
    rcases b1 with b1 | b1
    ·exact absurd b1 CB
    ·exact b1
   have h2:=A6 (ns:=rs) (s:=x.gQ) (by omega)
   unfold LU; simp only [Bool.and_eq_true,decide_eq_true_eq]; omega
  ·rw [if_neg (by rw [ni]; split <;> omega),ea,h.fit.r0 hq,Pl h.rg]; rfl
 have hB:bM (lI p rs x) (gL p).length (gw (eD p)) p.locks.length=true:=by
  unfold bM
  have eb:(lI p rs x).b=if x.kind=2∨x.kind=3∨x.kind=4 then dV (fj p) x.name else if x.kind=5∨x.kind=6 then lT p (dV (fj p) x.name) else if x.kind=9∨x.kind=10 then dV (ig p) x.name else 0:=rfl
  have QO:(fj p).length=(gL p).length:=by unfold fj; rw [List.length_map]
  have NQ:(ig p).length=p.locks.length:=by unfold ig; rw [List.length_map]
  by_cases q1:x.kind=2∨x.kind=3∨x.kind=4
  ·rw [if_pos (by rw [ni]; split <;> omega),eb,if_pos q1]
   have h1:¬ dV (fj p) x.name<0:=by
    rcases b2 with b2 | b2
    ·omega
    ·exact b2
   have h2:=A6 (ns:=fj p) (s:=x.name) (by omega)
   unfold LU; simp only [Bool.and_eq_true,decide_eq_true_eq]; omega
  ·rw [if_neg (by rw [ni]; split <;> omega)]
   by_cases q2:x.kind=5∨x.kind=6
   ·rw [if_pos (by rw [ni]; split <;> omega),eb,if_neg q1,if_pos q2]
    have h1:¬ dV (fj p) x.name<0∧¬ ek p≤dV (fj p) x.name:=by
     rcases b3 with b3 | b3
     ·omega
     ·exact b3
    have:=Tw hp (c:=dV (fj p) x.name) (by omega)
    unfold LU; simp only [Bool.and_eq_true,decide_eq_true_eq]; omega
   ·rw [if_neg (by rw [ni]; split <;> omega)]
    by_cases q3:x.kind=9∨x.kind=10
    ·rw [if_pos (by rw [ni]; split <;> omega),eb,if_neg q1,if_neg q2,if_pos q3]
     have h1:¬ dV (ig p) x.name<0:=by
      rcases b4 with b4 | b4
      ·omega
      ·exact b4
     have h2:=A6 (ns:=ig p) (s:=x.name) (by omega)
     unfold LU; simp only [Bool.and_eq_true,decide_eq_true_eq]; omega
    ·rw [if_neg (by rw [ni]; split <;> omega),if_neg hka.2.2.1,eb,if_neg q1,if_neg q2,if_neg q3]; rfl
 unfold vh efM
 rw [hE,hF,hA,hB,decide_eq_true hka.2.2.2.2.1,decide_eq_true hka.2.2.2.2.2]; rfl
end
structure YE (c:fu) (cells lines locks:Int) (L:List aW) (i:Nat) (x:aW):Prop where
 fld:vh x c cells lines locks=true
 to:I8 L i x=true
 nest:x.kind=14→∀ (k:Nat) (y:aW),x.to≤k→k<i→L[k]? = some y→y.kind=14→x.to≤y.to
 b13:x.kind=14→∃ y,L[(x.to - 1).toNat]? = some y∧y.kind=13
def YF (L:List aW) (n:Nat) (l:List aW):Prop:=∀ (k:Nat) (y:aW),l[k]? = some y→L[n+k]? = some y
def qp (c:fu) (cells lines locks:Int) (L:List aW) (n:Nat) (l:List aW):Prop:=∀ (k:Nat) (y:aW),l[k]? = some y→YE c cells lines locks L (n+k) y
section
variable {L l1 l2:List aW} {n:Nat} {c:fu} {cells lines locks:Int}
theorem YF.left (h:YF L n (l1++l2)):YF L n l1:=λ k y hk=>h k y (by rw [List.getElem?_append_left (List.getElem?_eq_some_iff.1 hk).1]; exact hk)
theorem YF.right (h:YF L n (l1++l2)):YF L (n+l1.length) l2:=λ k y hk=>by
 have:=h (l1.length+k) y (by rw [List.getElem?_append_right (by omega),Nat.add_sub_cancel_left]; exact hk)
 rw [Nat.add_assoc]; exact this
theorem YF.one {y:aW} (h:YF L n [y]):L[n]? = some y:=h 0 y rfl
theorem qp.app (h1:qp c cells lines locks L n l1) (h2:qp c cells lines locks L (n+l1.length) l2):qp c cells lines locks L n (l1++l2):=λ k y hk=>by
 rcases Nat.lt_or_ge k l1.length with h | h
 ·rw [List.getElem?_append_left h] at hk; exact h1 k y hk
 ·rw [List.getElem?_append_right h] at hk
  have:=h2 (k - l1.length) y hk
  rwa [show n+l1.length+(k - l1.length)=n+k from by omega] at this
theorem qp.nil:qp c cells lines locks L n []:=λ k y hk=>by simp at hk
theorem qp.one {y:aW} (h:YE c cells lines locks L n y):qp c cells lines locks L n [y]:=λ k z hk=>by
 cases k with
 | zero=>simp at hk; subst hk; exact h
 | succ k=>simp at hk
end
theorem RN (p:cY) (rs:List ByteArray) (t:Bk):∀ at_ lp out,∀ y∈eX p rs t at_ lp out,(y.kind=13→lp≤y.a)∧(y.kind=14→at_+1≤y.to):=by
 induction t with
 | nil=>intro at_ lp out y hy; cases hy
 | cons x a b r vK xZ G6=>
  intro at_ lp out y hy
  rw [vf,List.mem_append] at hy
  have hsa:=iY a
  rcases hy with hy | hy
  ·unfold Gg at hy
   split at hy
   ·have ht:at_+1≤rD x a at_:=by unfold rD; split <;> omega
    rw [List.mem_append,List.mem_append,List.mem_append] at hy
    rcases hy with ((hy | hy) | hy) | hy
    ·rw [List.mem_singleton] at hy; subst hy; exact ⟨λ h=>by simp at h,λ h=>by simp at h⟩
    ·have:=vK _ _ _ y hy; exact ⟨this.1,λ h=>by have:=this.2 h; omega⟩
    ·split at hy
     ·rw [List.mem_singleton] at hy; subst hy; exact ⟨λ h=>by simp at h,λ h=>by simp at h⟩
     ·cases hy
    ·have:=xZ _ _ _ y hy; exact ⟨this.1,λ h=>by have:=this.2 h; omega⟩
   ·split at hy
    ·rw [List.mem_append,List.mem_append] at hy
     rcases hy with (hy | hy) | hy
     ·rw [List.mem_singleton] at hy; subst hy; exact ⟨λ _=>Int.le_refl _,λ h=>by simp at h⟩
     ·have:=vK _ _ _ y hy; exact ⟨λ h=>by have:=this.1 h; omega,λ h=>by have:=this.2 h; omega⟩
     ·rw [List.mem_singleton] at hy; subst hy; exact ⟨λ h=>by simp at h,λ _=>Int.le_refl _⟩
    ·split at hy
     ·rw [List.mem_singleton] at hy; subst hy; exact ⟨λ h=>by simp at h,λ h=>by simp at h⟩
     ·rename_i h1 h2 h3
      rw [List.mem_singleton] at hy; subst hy
      have e:(lI p rs x).kind=if x.kind=14 then 15 else x.kind:=rfl
      refine ⟨λ h=>?_,λ h=>?_⟩
      ·rw [e] at h; split at h <;> omega
      ·rw [e] at h; split at h <;> omega
  ·have:=G6 _ _ _ y hy
   exact ⟨this.1,λ h=>by have:=this.2 h; omega⟩
theorem FI {b:Bk} (h:(b.len:Int)≤0):b = .nil:=by
 cases b with
 | nil=>rfl
 | cons x a b r=>exfalso; unfold Bk.len at h; omega
theorem RO {x:aW} {r:Int} (he:sG x.kind=false) (h1:x.e=[]) (hk:¬ x.kind=4) (h2:x.f=[]):efM x r=true:=by
 unfold efM; rw [if_neg (by rw [he]; decide),if_neg hk,h1,h2]; rfl
section
variable {p:cY} {rs:List ByteArray} {c:fu}
theorem aew (hp:BI p) (hc:c.aK=rs.length) (L:List aW) (t:Bk):∀ (n:Nat) (lp out loops:Int),YF L n (eX p rs t n lp out)→n+bX t≤(L.length:Int)→t.ok loops=true→t.str→kG t→0≤loops→
  (loops≠0→n+bX t≤out∧out≤L.length)→0≤lp→lp+iZ t≤c.counts→(∀ x∈t.flat,StK p rs x)→qp c (gL p).length (gw (eD p)) p.locks.length L n (eX p rs t n lp out):=by
 induction t with
 | nil=>intros; exact qp.nil
 | cons x a b r vK xZ G6=>
  intro n lp out loops hE hL oM IX HY hlo aex Mt Ud gr
  have hsa:=iY a; have hsb:=iY b; have hsr:=iY r
  have hda:=tf a; have hdb:=tf b; have hdr:=tf r
  obtain ⟨SD,hs2,_,_,Pm,YG,YH⟩:=IX
  have XS:=oM
  unfold Bk.ok at XS
  simp only [Bool.and_eq_true] at XS
  obtain ⟨⟨⟨ho1,M0⟩,YD⟩,ho4⟩:=XS
  unfold Bk.zs at ho1
  rw [decide_eq_true_eq] at ho1
  have hx:StK p rs x:=gr x (by simp [Bk.flat])
  have lF:bX (.cons x a b r)=(if x.kind=12 then 2+bX a else if x.kind=11 then (if 0<x.fK then 1+bX a+bX b+1 else 1+bX a+bX b) else 1)+bX r:=rfl
  have hdp:iZ (.cons x a b r)=max (if x.kind=12 then max (iZ a) (iZ b)+1 else max (iZ a) (iZ b)) (iZ r):=rfl
  rw [vf] at hE ⊢
  have LJ:=IZ p rs x a b r n lp out
  have hER:=hE.right
  have Pn:=hE.left
  generalize hH:Gg p rs x a b n lp out=H at *
  refine qp.app ?_ ?_
  ·rw [← hH] at Pn LJ ⊢
   unfold Gg at Pn LJ ⊢
   by_cases vL:x.kind=11
   ·rw [if_pos vL] at Pn LJ ⊢
    rw [if_neg (by omega),if_pos vL] at lF
    rw [if_neg (by omega)] at hdp
    have vx:Bk.Cl x loops=loops:=by unfold Bk.Cl; rw [if_neg (by omega)]
    rw [vx] at M0 YD
    have hA1:=Pn.left.left.left
    have hA2:=Pn.left.left.right
    have hA3:=Pn.left.right
    have hA4:=Pn.right
    have M3:=ij p rs a (n+1) lp out
    have Ds:rD x a n=if 0<x.fK then (n:Int)+1+bX a+1 else (n:Int)+1+bX a:=rfl
    refine qp.app (qp.app (qp.app (qp.one ?_) ?_) ?_) ?_
    ·refine ⟨?_,?_,λ h=>by simp at h,λ h=>by simp at h⟩
     ·unfold vh efM aM bM sG
      simp only [asM hx hc (.inr (.inr (.inr (.inl vL))))]
      rfl
     ·unfold I8; rw [if_pos (.inr rfl)]
      show (decide ((n:Int)<rD x a n) && decide (rD x a n≤L.length))=true
      rw [Bool.and_eq_true,decide_eq_true_eq,decide_eq_true_eq,Ds]
      split <;> (rename_i he; first | rw [if_pos he] at lF | rw [if_neg he] at lF) <;> omega
    ·have hE2:YF L (n+1) (eX p rs a ((n+1:Nat):Int) lp out):=hA2
     exact vK (n+1) lp out loops hE2 (by split at lF <;> omega) M0 Pm HY.a hlo (λ hl=>by have:=aex hl; refine ⟨?_,this.2⟩; split at lF <;> omega) Mt (by omega) λ y hy=>gr y (by simp [Bk.flat,hy])
    ·split
     ·rename_i he
      refine qp.one ⟨?_,?_,λ h=>by simp at h,λ h=>by simp at h⟩
      ·rfl
      ·unfold I8; rw [if_pos (.inl rfl)]
       rw [if_pos he] at lF Ds
       rw [Bool.and_eq_true,decide_eq_true_eq,decide_eq_true_eq]
       show ((n+([(⟨12,0,0,gk rs x.e,[],rD x a n⟩:aW)]++eX p rs a (n+1) lp out).length:Nat):Int)<rD x a n+bX b∧rD x a n+bX b≤L.length
       rw [List.length_append,List.length_singleton,Ds]
       omega
     ·exact qp.nil
    ·by_cases he:0<x.fK
     ·rw [if_pos he] at lF Ds hA4 ⊢
      have hn4:((n+([(⟨12,0,0,gk rs x.e,[],rD x a n⟩:aW)]++eX p rs a (n+1) lp out++[(⟨11,0,0,[],[],rD x a n+bX b⟩:aW)]).length:Nat):Int)=rD x a n:=by
       simp only [List.length_append,List.length_singleton]; rw [Ds]; omega
      generalize n+([(⟨12,0,0,gk rs x.e,[],rD x a n⟩:aW)]++eX p rs a (n+1) lp out++[(⟨11,0,0,[],[],rD x a n+bX b⟩:aW)]).length=m at hA4 hn4 ⊢
      rw [← hn4] at hA4 ⊢
      exact xZ _ lp out loops hA4 (by rw [hn4,Ds]; omega) YD YG HY.b hlo (λ hl=>by have:=aex hl; rw [hn4,Ds]; exact ⟨by omega,this.2⟩) Mt (by omega) λ y hy=>gr y (by simp [Bk.flat,hy])
     ·have JS:=FI (b:=b) (by omega)
      subst JS; exact qp.nil
   ·rw [if_neg vL] at Pn LJ ⊢
    by_cases ya:x.kind=12
    ·rw [if_pos ya] at Pn LJ ⊢
     rw [if_pos ya] at lF hdp
     have vx:Bk.Cl x loops=loops+1:=by unfold Bk.Cl; rw [if_pos ya]
     rw [vx] at M0
     have hA1:=Pn.left.left
     have hA2:=Pn.left.right
     have hA3:=Pn.right
     have M3:=ij p rs a (n+1) (lp+1) (n+2+bX a)
     have hxn:=HY.x ya
     have JV:=hA1.one
     refine qp.app (qp.app (qp.one ?_) ?_) (qp.one ?_)
     ·refine ⟨?_,?_,λ h=>by simp at h,λ h=>by simp at h⟩
      ·unfold vh
       rw [RO rfl rfl (by decide:¬ (13:Int)=4) rfl]
       have e1:aM ⟨13,lp,x.n,[],[],0⟩ c.aK c.counts=true:=by unfold aM; rw [if_pos (.inl rfl)]; unfold LU; rw [Bool.and_eq_true,decide_eq_true_eq,decide_eq_true_eq]; exact ⟨Mt,by show lp<c.counts; omega⟩
       have e2:bM ⟨13,lp,x.n,[],[],0⟩ (gL p).length (gw (eD p)) p.locks.length=true:=by
        unfold bM; show (decide (1≤x.n) && decide (x.n≤8))=true
        rw [Bool.and_eq_true,decide_eq_true_eq,decide_eq_true_eq]; exact hxn
       rw [e1,e2]; rfl
      ·rfl
     ·have hE2:YF L (n+1) (eX p rs a ((n+1:Nat):Int) (lp+1) (n+2+bX a)):=hA2
      exact vK (n+1) (lp+1) (n+2+bX a) (loops+1) hE2 (by omega) M0 Pm HY.a (by omega) (λ _=>⟨by omega,by omega⟩) (by omega) (by omega) λ y hy=>gr y (by simp [Bk.flat,hy])
     ·have zM:n+([(⟨13,lp,x.n,[],[],0⟩:aW)]++eX p rs a (n+1) (lp+1) (n+2+bX a)).length=n+1+(eX p rs a (n+1) (lp+1) (n+2+bX a)).length:=by
       rw [List.length_append,List.length_singleton]; omega
      rw [zM]
      have ahe:∀ (k:Nat) (y:aW),n+1≤k→k<n+1+(eX p rs a (n+1) (lp+1) (n+2+bX a)).length→L[k]? = some y→y∈eX p rs a (n+1) (lp+1) (n+2+bX a):=by
       intro k y h1 h2 hy
       obtain ⟨z,hz⟩:∃ z,(eX p rs a (n+1) (lp+1) (n+2+bX a))[k - (n+1)]? = some z:=⟨_,List.getElem?_eq_getElem (by omega)⟩
       have h3:L[n+1+(k - (n+1))]? = some z:=hA2 _ z hz
       rw [show n+1+(k - (n+1))=k from by omega,hy] at h3
       obtain rfl:=Option.some.inj h3
       exact List.mem_of_getElem? hz
      refine ⟨?_,?_,λ _ k y h1 h2 hy hk=>?_,λ _=>?_⟩
      ·unfold vh
       rw [RO rfl rfl (by decide:¬ (14:Int)=4) rfl]
       have e1:aM ⟨14,lp,0,[],[],n+1⟩ c.aK c.counts=true:=by unfold aM; rw [if_pos (.inr rfl)]; unfold LU; rw [Bool.and_eq_true,decide_eq_true_eq,decide_eq_true_eq]; exact ⟨Mt,by show lp<c.counts; omega⟩
       have e2:bM ⟨14,lp,0,[],[],n+1⟩ (gL p).length (gw (eD p)) p.locks.length=true:=rfl
       rw [e1,e2]; rfl
      ·unfold I8; rw [if_neg (by decide:¬ ((14:Int)=11∨(14:Int)=12)),if_pos rfl]
       unfold Cp
       rw [Bool.and_eq_true]
       refine ⟨?_,?_⟩
       ·rw [WM (y:=⟨13,lp,x.n,[],[],0⟩) (by show 1≤(n:Int)+1; omega) (by show (n:Int)+1≤_; omega) (by show L[((n:Int)+1 - 1).toNat]? = _; rw [show ((n:Int)+1 - 1).toNat=n from by omega]; exact JV)]
        unfold sH; simp
       ·rw [Bool.not_eq_true',List.any_eq_false]
        intro y hy
        obtain ⟨k,hk⟩:=px hy
        rw [List.getElem?_drop,List.getElem?_take] at hk
        split at hk
        ·have h5:=ahe _ y (by show n+1≤((n:Int)+1).toNat+k; omega) (by assumption) hk
         have h6:=(RN p rs a _ _ _ y h5).1
         unfold sH
         rw [Bool.and_eq_true,decide_eq_true_eq,decide_eq_true_eq]
         rintro ⟨q1,q2⟩
         have:=h6 q1
         have q2:y.a=lp:=q2
         omega
        ·cases hk
      ·have h1:(n:Int)+1≤k:=h1
       have h5:=ahe k y (by omega) h2 hy
       have:=(RN p rs a _ _ _ y h5).2 hk
       show (n:Int)+1≤y.to
       omega
      ·exact ⟨_,by show L[((n:Int)+1 - 1).toNat]? = _; rw [show ((n:Int)+1 - 1).toNat=n from by omega]; exact JV,rfl⟩
    ·rw [if_neg ya] at Pn LJ ⊢
     rw [if_neg ya,if_neg vL] at lF
     by_cases JV:x.kind=13
     ·rw [if_pos JV] at Pn LJ ⊢
      have hl0:loops≠0:=by omega
      have hou:=aex hl0
      refine qp.one ⟨rfl,?_,λ h=>by simp at h,λ h=>by simp at h⟩
      unfold I8; rw [if_pos (.inl rfl)]
      rw [Bool.and_eq_true,decide_eq_true_eq,decide_eq_true_eq]
      show (n:Int)<out∧out≤L.length
      omega
     ·rw [if_neg JV] at Pn LJ ⊢
      obtain ⟨g1,g2,g3,g4,g5,g6⟩:=aev (c:=c) hp hx hc vL ya JV
      refine qp.one ⟨g1,?_,λ h=>absurd h g6,λ h=>absurd h g6⟩
      unfold I8; rw [if_neg (by omega),if_neg g6,g2]; rfl
  ·have hn2:((n+H.length:Nat):Int)=n+H.length:=by omega
   rw [← hn2] at hER ⊢
   exact G6 _ lp out loops hER (by omega) ho4 YH HY.r hlo (λ hl=>by have:=aex hl; exact ⟨by omega,this.2⟩) Mt (by omega) λ y hy=>gr y (by simp [Bk.flat,hy])
end
theorem aey (t:Bk):∀ n:Int,t.ok n=true→t.str→iZ t≤t.depth:=by
 induction t with
 | nil=>intro n _ _; exact Int.le_refl _
 | cons x a b r vK xZ G6=>
  intro n oM IX
  obtain ⟨SD,hs2,_,_,Pm,YG,YH⟩:=IX
  unfold Bk.ok at oM
  simp only [Bool.and_eq_true] at oM
  obtain ⟨⟨⟨ho1,M0⟩,YD⟩,ho4⟩:=oM
  unfold Bk.zs at ho1
  rw [decide_eq_true_eq] at ho1
  have h1:=vK _ M0 Pm
  have h2:=xZ _ YD YG
  have h3:=G6 _ ho4 YH
  have hd:=Bk.rp a
  have Rf:=Bk.rp b
  have hd3:=Bk.rp r
  have e:iZ (.cons x a b r)=max (if x.kind=12 then max (iZ a) (iZ b)+1 else max (iZ a) (iZ b)) (iZ r):=rfl
  have e2:(Bk.cons x a b r).depth=if Bk.Es x then max (max (1+a.depth) (1+b.depth)) r.depth else r.depth:=rfl
  rw [e,e2]
  by_cases hk:x.kind=11∨x.kind=12
  ·have:Bk.Es x=true:=decide_eq_true hk
   rw [if_pos this]
   split <;> omega
  ·have:Bk.Es x=false:=decide_eq_false hk
   rw [if_neg (by omega:¬ x.kind=12),if_neg (show ¬ Bk.Es x=true by rw [this]; decide)]
   have ha:=FI (b:=a) (by omega)
   have hb:=FI (b:=b) (by omega)
   subst ha hb
   have:iZ .nil=0:=rfl
   omega
section
variable {p:cY}
theorem BI.stk (h:BI p) {t:dX} (ht:t∈iN p):∀ x∈t.body,StK p t.aK x:=by
 intro x hx
 obtain ⟨_,h2,_⟩:=nG (h.pf.ths ht).2.1
 refine ⟨az0 (h2 x hx),(h.pf.ths ht).2.2,?_⟩
 have:=h.names t ht x hx
 simpa using this
theorem MN (h:BI p) {t:dX} (ht:t∈iN p):ly (ml p t) (gL p).length (gw (eD p)) p.locks.length=true∧CZ (ml p t):=by
 obtain ⟨az4,_,b,IJ,hb2,hb3,hb4⟩:=nG (h.pf.ths ht).2.1
 have N8:o0 t.body=some b:=by rw [IJ]; exact o7 hb2
 have hq:kG b:=λ x hx=>by
  obtain ⟨_,h2,_⟩:=nG (h.pf.ths ht).2.1
  exact (NV (h2 x (by rw [IJ]; exact hx))).2
 have hlen:b.len≤40:=by rw [← Bk.cT,← IJ]; exact az4
 have hd:=aey b 0 hb3 hb2
 have Rf:=tf b
 have BJ:=(h.sz.2.2.2.2.2.2.2) t ht
 have DO:=ij p t.aK b 0 0 0
 have lF:=iY b
 rw [EW N8]
 have az5:qp ⟨t.aK.length,iZ b,eX p t.aK b 0 0 0⟩ (gL p).length (gw (eD p)) p.locks.length (eX p t.aK b 0 0 0) 0 (eX p t.aK b 0 0 0):=
  aew (c:=⟨t.aK.length,iZ b,eX p t.aK b 0 0 0⟩) h rfl (eX p t.aK b 0 0 0) b 0 0 0 0 (λ k y hk=>by rw [Nat.zero_add]; exact hk) (by omega) hb3 hb2 hq (Int.le_refl _) (λ hh=>absurd rfl hh) (Int.le_refl _) (by show 0+iZ b≤iZ b; omega) (λ x hx=>h.stk ht x (by rw [IJ]; exact hx))
 have hG:∀ (i:Nat) (x:aW),(eX p t.aK b 0 0 0)[i]? = some x→YE ⟨t.aK.length,iZ b,eX p t.aK b 0 0 0⟩ (gL p).length (gw (eD p)) p.locks.length (eX p t.aK b 0 0 0) i x:=λ i x hx=>by
  have:=az5 i x hx; rwa [Nat.zero_add] at this
 refine ⟨?_,?_,λ x hx=>?_⟩
 ·unfold ly
  have e1:vk ⟨t.aK.length,iZ b,eX p t.aK b 0 0 0⟩=false:=by
   unfold vk
   simp only [Bool.or_eq_false_iff,decide_eq_false_iff_not]
   omega
  rw [e1,ng (f:=vi _ _ _ _) λ i hi=>?_,ng (f:=qJ _) λ i hi=>?_]
  ·rfl
  ·obtain ⟨x,hx⟩:∃ x,(eX p t.aK b 0 0 0)[i]? = some x:=⟨_,List.getElem?_eq_getElem hi⟩
   have hg:=hG i x hx
   rw [xE hx]
   by_cases hk:x.kind=14
   ·rw [decide_eq_true hk,Bool.true_and]
    refine ng λ k H0=>?_
    obtain ⟨y,hy⟩:∃ y,(eX p t.aK b 0 0 0)[k]? = some y:=⟨_,List.getElem?_eq_getElem (by have hi:i<(eX p t.aK b 0 0 0).length:=hi; omega)⟩
    rw [AA hy]
    by_cases hyk:y.kind=14
    ·rw [decide_eq_true hyk,Bool.true_and,Bool.not_eq_false',Bool.or_eq_true,decide_eq_true_eq,decide_eq_true_eq]
     by_cases h1:x.to≤k
     ·exact .inl (hg.nest hk k y h1 H0 hy hyk)
     ·by_cases h2:(k:Int)+1<x.to
      ·exact .inr h2
      ·exfalso
       obtain ⟨z,hz,hz2⟩:=hg.b13 hk
       rw [show (x.to - 1).toNat=k from by omega,hy] at hz
       obtain rfl:=Option.some.inj hz
       omega
    ·rw [decide_eq_false hyk,Bool.false_and]
   ·rw [decide_eq_false hk,Bool.false_and]
  ·obtain ⟨x,hx⟩:∃ x,(eX p t.aK b 0 0 0)[i]? = some x:=⟨_,List.getElem?_eq_getElem hi⟩
   have hg:=hG i x hx
   rw [ur (show (⟨t.aK.length,iZ b,eX p t.aK b 0 0 0⟩:fu).l[i]? = some x from hx),hg.fld,hg.to]; rfl
 ·show (eX p t.aK b 0 0 0).length≤1000; omega
 ·obtain ⟨i,hi⟩:=px (show x∈eX p t.aK b 0 0 0 from hx)
  have hf:=(hG i x hi).fld
  unfold vh efM at hf
  simp only [Bool.and_eq_true] at hf
  obtain ⟨⟨h1,h2⟩,_⟩:=hf
  refine ⟨?_,?_⟩
  ·split at h1
   ·unfold eR at h1; simp only [Bool.and_eq_true,decide_eq_true_eq] at h1; omega
   ·simp at h1; rw [h1]; simp
  ·split at h2
   ·unfold eR at h2; simp only [Bool.and_eq_true,decide_eq_true_eq] at h2; omega
   ·simp at h2; rw [h2]; simp
theorem YI (a b c:Int):ly LG a b c=true∧CZ LG:=⟨rfl,by decide,λ x hx=>by cases hx⟩
theorem asP (h:BI p):ly (eD p).recover (gL p).length (gw (eD p)) p.locks.length=true∧CZ (eD p).recover:=by
 show ly (match p.recover[0]? with | some t=>ml p t | none=>⟨0,0,[]⟩) _ _ _=true∧CZ (match p.recover[0]? with | some t=>ml p t | none=>⟨0,0,[]⟩)
 cases hr:p.recover[0]? with
 | none=>exact YI _ _ _
 | some t=>exact MN h (List.mem_append_right _ (List.mem_of_getElem? hr))
theorem sS (h:BI p):nz (eD p)=true∧UZ (eD p):=by
 obtain ⟨g1,g2,g3,g4,g5,g6,g7,g8⟩:=h.sz
 have mB:=h.gL
 have gr:=A8 p
 have NQ:=B9 p
 have CE:(eD p).dH.length=(gL p).length:=by show ((gL p).map _).length=_; rw [List.length_map]
 have Nv:(eD p).threads.length=p.threads.length:=by show (p.threads.map _).length=_; rw [List.length_map]
 have QO:(eD p).cD.length=p.cD.length:=by show (p.cD.map _).length=_; rw [List.length_map]
 have hth:∀ c∈(eD p).threads,ly c (gL p).length (gw (eD p)) p.locks.length=true∧CZ c:=λ c hc=>by
  obtain ⟨t,ht,rfl⟩:=List.mem_map.1 (show c∈p.threads.map (ml p) from hc)
  exact MN h (List.mem_append_left _ ht)
 have asQ:∀ l∈(eD p).cD,eR l (eD p).stays=true∧l.length≤40:=λ l hl=>by
  obtain ⟨c,hc,rfl⟩:=List.mem_map.1 (show l∈p.cD.map (λ c=>gk (o8 p) c.e) from hl)
  refine xc (h.pf.cl c hc).2 (by simpa using h.cD c hc) ?_
  show ek p=((o8 p).length:Int)
  unfold o8 fj
  rw [List.length_take,List.length_map]; omega
 have alU:∀ c∈gL p,0≤c.n∧c.n≤4294967296:=λ c hc=>by
  unfold gL at hc
  rcases List.mem_append.1 hc with hc | hc
  ·obtain ⟨l,hl,az7⟩:=List.mem_flatten.1 hc
   have:=rz ((h.pf.lines l hl).2 c az7); exact ⟨this.2.2.1,this.2.2.2⟩
  ·have:=rz (h.pf.jY c hc); exact ⟨this.2.2.1,this.2.2.2⟩
 refine ⟨?_,?_⟩
 ·unfold nz
  have e1:kX (eD p)=false:=by
   unfold kX
   rw [NQ,CE,Nv]
   have e2:(eD p).stays=ek p:=rfl
   have e3:(eD p).locks=p.locks.length:=rfl
   rw [e2,e3]
   simp only [Bool.or_eq_false_iff,decide_eq_false_iff_not,not_true_eq_false,not_false_eq_true,and_true]
   omega
  have e2:(eD p).dH.any lB=false:=iM λ n hn=>by
   obtain ⟨c,hc,rfl⟩:=List.mem_map.1 (show n∈(gL p).map dL.n from hn)
   have:=alU c hc
   unfold lB
   rw [decide_eq_false (by omega),decide_eq_false (by omega)]; rfl
  have e3:(List.range (eD p).lines.length).any (ko (eD p))=false:=ng λ i hi=>Pk h (by omega)
  have e4:(eD p).threads.any (λ c=>!ly c (eD p).lines.length (gw (eD p)) (eD p).locks)=false:=iM λ c hc=>by
   have:=(hth c hc).1
   rw [NQ]
   show (!ly c (gL p).length (gw (eD p)) p.locks.length)=false
   rw [this]; rfl
  have e5:(eD p).cD.any (λ l=>!eR l (eD p).stays)=false:=iM λ l hl=>by rw [(asQ l hl).1]; rfl
  rw [e1,e2,e3,e4,e5,NQ]
  show (!false && (!false && !false && !false && !false && ly (eD p).recover (gL p).length (gw (eD p)) p.locks.length))=true
  rw [(asP h).1]; rfl
 ·exact ⟨by omega,by omega,by omega,by omega,λ c hc=>(hth c hc).2,(asP h).2,λ l hl=>by have:=(asQ l hl).2; omega⟩
end
end Go.Proofs.YtnjcingfdhjfkaaGreat
