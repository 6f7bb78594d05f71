/-
  What the proof needs, part 7.
-/
import Derived.Test.YtnjcingfdhjfkaaGreatVeM6
set_option linter.all false
namespace Go.Proofs.YtnjcingfdhjfkaaGreat
open Go.Fw
structure fC where
 l:(List cY)
 to:Int
 e:Int
 at_:Int
deriving DecidableEq
structure dS where
 l:SV
 to:Int
 e:Int
 at_:Int
instance:Flat dS where
 agg:=true
 sz:=4
 enc e:=[.slice e.l.a e.l.n e.l.cap,.int .i64 e.to,.int .i64 e.e,.int .i64 e.at_]
 val e:=.agg [.slice e.l.a e.l.n e.l.cap,.int .i64 e.to,.int .i64 e.e,.int .i64 e.at_].toArray
 pos:=by decide
 len _:=rfl
 one a v h:=by simp at h; rcases h with rfl | rfl | rfl | rfl <;> rfl
 oz _ _:=rfl
 oN h:=by cases h
instance:cD fC dS where
 dr w s x:=∃ (l_:SV),s=(⟨l_,x.to,x.e,x.at_⟩:dS)∧DL w (Flat.val l_) x.l
 ext h e:=by
  obtain ⟨g0,rfl,h0⟩:=h
  exact ⟨g0,rfl,h0.ext e⟩
theorem lf {w:World} {sh:dS} {x:fC} (h:cD.dr w sh x):DL w (Flat.val sh.l) x.l:=by obtain ⟨_,rfl,h⟩:=h; exact h
def qm (n:Int):List Int:=if n=0 then [15] else if n=1 then [14] else if n=2 then [10,11,12,13] else if n=3 then [5,6] else [7,8,9]
def CV:List ByteArray:=[⟨#[]⟩,⟨#[]⟩,⟨#[]⟩,⟨#[45]⟩,⟨#[33]⟩,⟨#[43]⟩,⟨#[45]⟩,⟨#[42]⟩,⟨#[47]⟩,⟨#[37]⟩,⟨#[61,61]⟩,⟨#[33,61]⟩,⟨#[60]⟩,⟨#[60,61]⟩,⟨#[38,38]⟩,⟨#[124,124]⟩]
def Mc (k:Int):ByteArray:=(CV[k.toNat]?).getD ⟨#[]⟩
def gp (l:List bH) (i e:Int):fC:=⟨[],0,if (l.length:Int)≤i then 6 else e,mR l i⟩
abbrev arn (r:fC) (w:World):=qp λ v w'=>∃ sh:dS,v=Flat.val sh∧mc (eY (λ w=>cD.dr w sh r)) w w'
def akg (l:List bH) (rec:Int→Int→Int→Option fC):Prop:=∀ (lv:Value) (i d n:Int) (r:fC) (w:World),eL (λ _=>True) w lv l→rec i d n=some r→0≤i∧i≤l.length→0≤d∧d≤12→0≤n∧n≤5→
 Calls PG 235 [lv,.int .i64 i,.int .i64 d,.int .i64 n].toArray w (arn r w)∧(n=5→Calls PG 257 [lv,.int .i64 i,.int .i64 d].toArray w (arn r w))
structure iD (l:List bH):Prop where
 n:l.length≤5000
 at_:∀ x∈l,0≤x.at_∧x.at_≤1000000∧x.text.size≤1000000
def SL (l:List bH) (i:Int):Bool:=sQ l i ⟨#[33]⟩ || sQ l i ⟨#[45]⟩
def pb (rec:Int→Int→Int→Option fC) (l:List bH) (i d:Int):Option fC:=
 match (if (l.length:Int)≤i then none else l[i.toNat]?) with
 | none=>some (gp l i 6)
 | some t=>if ((SL l i || sQ l i ⟨#[40]⟩) && decide (d=12))=true then some (gp l i 7)
  else if SL l i=true then (rec (i+1) (d+1) 5).bind λ x=>if x.l.length≤10000 then some (if x.e≠0 then x else {x with l:=[⟨if t.text=⟨#[45]⟩ then 3 else 4,0,⟨#[]⟩,t.at_⟩]++x.l}) else none
  else if sQ l i ⟨#[40]⟩=true then (rec (i+1) (d+1) 0).bind λ x=>some (if x.e≠0 then x else if sQ l x.to ⟨#[41]⟩=true then {x with to:=x.to+1} else gp l x.to 5)
  else if t.kind=2 then some ⟨[⟨1,t.n,⟨#[]⟩,t.at_⟩],i+1,0,0⟩
  else if (decide (t.kind=1) && j6 t.text)=true then some ⟨[⟨2,0,t.text,t.at_⟩],i+1,0,0⟩
  else some (gp l i 5)
def Fa (l:List bH) (to n:Int) (k:Nat):Int:=((qm n).take k).foldl (λ op f=>if sQ l to (Mc f)=true then f else op) 0
def Jo (l:List bH) (to n:Int):Int:=Fa l to n (qm n).length
theorem Hn {l:List bH} {to n:Int} {k:Nat} {f:Int} (h:(qm n)[k]? = some f):Fa l to n (k+1)=if sQ l to (Mc f)=true then f else Fa l to n k:=by
 unfold Fa; rw [List.take_add_one,h,Option.toList_some,List.foldl_append]; rfl
def vB (rec:Int→Int→Int→Option fC) (l:List bH) (d n:Int):Nat→fC→Option fC
 | 0,_=>none
 | k+1,x=>if x.e≠0 then some x else if Jo l x.to n=0 then some x else match (if 0≤x.to then l[x.to.toNat]? else none) with
  | none=>none
  | some t=>match rec (x.to+1) d (n+1) with
   | none=>none
   | some y=>if y.e≠0 then some y else if x.l.length+y.l.length≤10000 then
     (if n=2 then some ⟨[⟨Jo l x.to n,0,⟨#[]⟩,t.at_⟩]++x.l++y.l,y.to,0,0⟩ else vB rec l d n k ⟨[⟨Jo l x.to n,0,⟨#[]⟩,t.at_⟩]++x.l++y.l,y.to,0,0⟩) else none
def Ho (l:List bH):Nat→Int→Int→Int→Option fC
 | 0,_,_,_=>none
 | k+1,i,d,n=>if n=5 then pb (Ho l k) l i d else (Ho l k i d (n+1)).bind (vB (Ho l k) l d n k)
theorem Xq {n:Int} {k:Nat} {f:Int} (h:(qm n)[k]? = some f):5≤f∧f≤15:=by
 have hm:=List.mem_of_getElem? h
 unfold qm at hm
 repeat' split at hm
 all_goals (simp at hm; omega)
section
variable {rec:Int→Int→Int→Option fC} {l:List bH} {i d n:Int} {r x y:fC} {t:bH} {k:Nat}
theorem OL (h:pb rec l i d=some r) (hl:(l.length:Int)≤i):r=gp l i 6:=by
 unfold pb at h; rw [if_pos hl] at h; exact (Option.some.inj h).symm
theorem Md (h:pb rec l i d=some r) (hl:¬ (l.length:Int)≤i) (ht:l[i.toNat]? = some t) (hd:((SL l i || sQ l i ⟨#[40]⟩) && decide (d=12))=true):r=gp l i 7:=by
 unfold pb at h; rw [if_neg hl,ht] at h; dsimp only at h; rw [if_pos hd] at h; exact (Option.some.inj h).symm
theorem SM (h:pb rec l i d=some r) (hl:¬ (l.length:Int)≤i) (ht:l[i.toNat]? = some t) (hd:((SL l i || sQ l i ⟨#[40]⟩) && decide (d=12))=false) (hu:SL l i=true) :
  ∃ x,rec (i+1) (d+1) 5=some x∧x.l.length≤10000∧r=if x.e≠0 then x else {x with l:=[⟨if t.text=⟨#[45]⟩ then 3 else 4,0,⟨#[]⟩,t.at_⟩]++x.l}:=by
 unfold pb at h; rw [if_neg hl,ht] at h; dsimp only at h; rw [if_neg (by rw [hd]; simp),if_pos hu] at h
 cases hr:rec (i+1) (d+1) 5 with
 | none=>rw [hr] at h; cases h
 | some x=>
  rw [hr] at h
  by_cases hx:x.l.length≤10000
  ·exact ⟨x,rfl,hx,by simpa [hx] using h.symm⟩
  ·simp [hx] at h
theorem Me (h:pb rec l i d=some r) (hl:¬ (l.length:Int)≤i) (ht:l[i.toNat]? = some t) (hd:((SL l i || sQ l i ⟨#[40]⟩) && decide (d=12))=false) (hu:SL l i=false) (ho:sQ l i ⟨#[40]⟩=true) :
  ∃ x,rec (i+1) (d+1) 0=some x∧r=if x.e≠0 then x else if sQ l x.to ⟨#[41]⟩=true then {x with to:=x.to+1} else gp l x.to 5:=by
 unfold pb at h; rw [if_neg hl,ht] at h; dsimp only at h; rw [if_neg (by rw [hd]; simp),if_neg (by rw [hu]; simp),if_pos ho] at h
 cases hr:rec (i+1) (d+1) 0 with
 | none=>rw [hr] at h; cases h
 | some x=>rw [hr] at h; exact ⟨x,rfl,(Option.some.inj h).symm⟩
theorem Mf (h:pb rec l i d=some r) (hl:¬ (l.length:Int)≤i) (ht:l[i.toNat]? = some t) (hd:((SL l i || sQ l i ⟨#[40]⟩) && decide (d=12))=false) (hu:SL l i=false) (ho:sQ l i ⟨#[40]⟩=false) :
  r=if t.kind=2 then ⟨[⟨1,t.n,⟨#[]⟩,t.at_⟩],i+1,0,0⟩ else if (decide (t.kind=1) && j6 t.text)=true then ⟨[⟨2,0,t.text,t.at_⟩],i+1,0,0⟩ else gp l i 5:=by
 unfold pb at h; rw [if_neg hl,ht] at h; dsimp only at h; rw [if_neg (by rw [hd]; simp),if_neg (by rw [hu]; simp),if_neg (by rw [ho]; simp)] at h
 split at h
 ·rename_i h1; rw [if_pos h1]; exact (Option.some.inj h).symm
 ·rename_i h1; rw [if_neg h1]
  split at h
  ·rename_i h2; rw [if_pos h2]; exact (Option.some.inj h).symm
  ·rename_i h2; rw [if_neg h2]; exact (Option.some.inj h).symm
theorem OM (h:vB rec l d n k x=some r):∃ j,k=j+1:=by
 cases k with
 | zero=>cases h
 | succ j=>exact ⟨j,rfl⟩
theorem adm (h:vB rec l d n (k+1) x=some r) (he:x.e≠0):r=x:=by
 unfold vB at h; rw [if_pos he] at h; exact (Option.some.inj h).symm
theorem Xr (h:vB rec l d n (k+1) x=some r) (he:¬ x.e≠0) (ho:Jo l x.to n=0):r=x:=by
 unfold vB at h; rw [if_neg he,if_pos ho] at h; exact (Option.some.inj h).symm
theorem Xs (h:vB rec l d n (k+1) x=some r) (he:¬ x.e≠0) (ho:¬ Jo l x.to n=0):∃ t y,0≤x.to∧l[x.to.toNat]? = some t∧rec (x.to+1) d (n+1)=some y∧(y.e≠0→r=y)∧
  (¬ y.e≠0→x.l.length+y.l.length≤10000∧(n=2→r=⟨[⟨Jo l x.to n,0,⟨#[]⟩,t.at_⟩]++x.l++y.l,y.to,0,0⟩)∧(¬ n=2→vB rec l d n k ⟨[⟨Jo l x.to n,0,⟨#[]⟩,t.at_⟩]++x.l++y.l,y.to,0,0⟩=some r)):=by
 unfold vB at h; rw [if_neg he,if_neg ho] at h
 by_cases h0:0≤x.to
 ·rw [if_pos h0] at h
  cases ht:l[x.to.toNat]? with
  | none=>rw [ht] at h; cases h
  | some t=>
   rw [ht] at h; dsimp only at h
   cases hr:rec (x.to+1) d (n+1) with
   | none=>rw [hr] at h; cases h
   | some y=>
    rw [hr] at h; dsimp only at h
    refine ⟨t,y,h0,rfl,rfl,λ hy=>?_,λ hy=>?_⟩
    ·rw [if_pos hy] at h; exact (Option.some.inj h).symm
    ·rw [if_neg hy] at h
     by_cases hl:x.l.length+y.l.length≤10000
     ·rw [if_pos hl] at h
      refine ⟨hl,λ h2=>?_,λ h2=>?_⟩
      ·rw [if_pos h2] at h; exact (Option.some.inj h).symm
      ·rw [if_neg h2] at h; exact h
     ·rw [if_neg hl] at h; cases h
 ·rw [if_neg h0] at h; cases h
theorem af4 (h:Ho l (k+1) i d 5=some r):pb (Ho l k) l i d=some r:=by unfold Ho at h; rw [if_pos rfl] at h; exact h
theorem aro (h:Ho l (k+1) i d n=some r) (hn:¬ n=5):∃ x,Ho l k i d (n+1)=some x∧vB (Ho l k) l d n k x=some r:=by
 unfold Ho at h; rw [if_neg hn] at h
 cases hx:Ho l k i d (n+1) with
 | none=>rw [hx] at h; cases h
 | some x=>rw [hx] at h; exact ⟨x,rfl,h⟩
end
def vC (l:List bH) (i:Int):Option (List cY × Int × Int × Int):=if i<0 then some ([],0,1,0) else (Ho l 10000 i 0 0).bind λ x=>
 if x.e≠0 then some ([],0,x.e,x.at_) else match yF x.l,l[i.toNat]? with
  | some t,some k=>if x.l.length≤10000 then (if 12<t.depth then some ([],0,7,k.at_) else if 40<x.l.length then some ([],0,2,k.at_) else some (x.l,x.to,0,0)) else none
  | _,_=>none
theorem ON (n:Int):(qm n).length≤4:=by
 unfold qm
 repeat' split
 all_goals simp
theorem C258 (n:Int) (w:World) (hn:0≤n∧n≤4):CR 258 [.int .i64 n] w (λ v w'=>mc (bL v (qm n)) w w'):=by
 have hs:=St.start w;refine aa2 _ _ _ ?_;unfold S258;refine bX (([15]:List Int)) hs eg rfl rfl (eE rfl) (λ arp w1 hs=>bX (([14]:List Int)) hs eg rfl rfl (eE rfl) (λ awm w2 hs=>bX (([10,11,12,13]:List Int)) hs eg rfl rfl (eE rfl) (λ IA w3 hs=>bX (([5,6]:List Int)) hs eg rfl rfl (eE rfl) (λ aco w4 hs=>bX (([7,8,9]:List Int)) hs eg rfl rfl (eE rfl) (λ Ln w5 hs=>?_)))));obtain ⟨Q0,rfl⟩:=(hs.p4).fT;obtain ⟨CP,rfl⟩:=(hs.p3).fT;obtain ⟨Q1,rfl⟩:=(hs.p2).fT;obtain ⟨Q2,rfl⟩:=(hs.p1).fT;obtain ⟨Q3,rfl⟩:=(hs).fT;refine bX ([Q0,CP,Q1,Q2,Q3]) hs yc rfl rfl (eE rfl) (λ xS w6 hs=>?_)
 have hs:=((((((((((((hs.abr (α:=Int))).p6).p1).DF).p5).p1).DF).p4).p1).DF).p3).p1;have hs:=hs.DF.p2.p1.DF;obtain rfl | rfl | rfl | rfl | rfl:n=0∨n=1∨n=2∨n=3∨n=4:=by omega
 ·have adn:=hs.zJ;refine dT hs.p1 yc (by decide) (by simp) (λ Q4 qD=>ga hs.p1 er qD (show _=some Q0 from rfl) ?_);have hs:=hs.split;exact hs.fresh
 ·have adn:=hs.zJ;refine dT hs.p1 yc (by decide) (by simp) (λ Q4 qD=>ga hs.p1 er qD (show _=some CP from rfl) ?_);have hs:=hs.split.drop.split;exact hs.fresh
 ·have adn:=hs.zJ;refine dT hs.p1 yc (by decide) (by simp) (λ Q4 qD=>ga hs.p1 er qD (show _=some Q1 from rfl) ?_);have hs:=hs.split.drop.split.drop.split;exact hs.fresh
 ·have adn:=hs.zJ;refine dT hs.p1 yc (by decide) (by simp) (λ Q4 qD=>ga hs.p1 er qD (show _=some Q2 from rfl) ?_);have hs:=hs.split.drop.split.drop.split.drop.split;exact hs.fresh
 ·have adn:=hs.zJ;refine dT hs.p1 yc (by decide) (by simp) (λ Q4 qD=>ga hs.p1 er qD (show _=some Q3 from rfl) ?_);have hs:=hs.split.drop.split.drop.split.drop.split.drop.split;exact hs.fresh
theorem C259 (k:Int) (w:World) (hk:0≤k∧k≤15):CR 259 [.int .i64 k] w (λ v w'=>v = .string (Mc k)∧Ext w w'):=by
 have hs:=St.start w;refine aa3 _ _ _ ?_;unfold S259;refine bX (CV) hs mZ rfl rfl (eE rfl) (λ arp w1 hs=>?_);have U5:CV.length=16:=rfl;obtain ⟨ayz,Mg⟩:=gx (CV) (i:=(k).toNat) (by omega);refine dT hs mZ (by omega) (by omega) (λ _ Sh=>ga hs kf Sh Mg ?_);refine ⟨?_,hs.drop.aE⟩;unfold Mc;rw [Mg]; rfl
theorem C263 (lv:Value) (l:List bH) (i e:Int) (w:World) (hL:eL (λ _=>True) w lv l) (hk:iD l):CR 263 [lv,.int .i64 i,.int .i64 e] w (λ v w'=>∃ sh:dS,v=Flat.val sh∧mc (eY (λ w=>cD.dr w sh (gp l i e))) w w'):=by
 have Fx:=hk.n;have hn:l.length≤1000000:=by omega
 have td:=hk.at_;have hs:=St.start w;refine aa7 _ _ _ _ _ ?_;unfold S263;refine aO hs sq (λ On w1 hs=>?_);have hs:=hs.enc (cs':=Flat.enc (⟨⟨none,0,0⟩,0,0,0⟩:dS)) rfl;refine ⟨λ jv w'=>jv = .int .i64 (if (l.length:Int)≤i then 6 else e)∧w1=w',?_,?_⟩
 ·refine aJ fz (hL.ext hs.aE) (dI (aC (λ fB=>?_) (λ fB=>?_)))
  ·exact ⟨by rw [if_pos (by omega)],rfl⟩
  ·exact ⟨by rw [if_neg (by omega)],rfl⟩
 ·rintro _ w2 ⟨rfl,hw⟩ fu;subst hw;refine aZ Gt hs (C215 _ l i _ (hL.ext hs.aE) hn td) (λ w3 he hs=>pop (Nq _ _) (aI (x:=(⟨⟨none,0,0⟩,0,(if (l.length:Int)≤i then 6 else e),(mR l i)⟩:dS)) hs fR rfl rfl (λ w4 hs=>aD fR hs.At ?_)));have hs:=hs.gI (Φ:=(λ w=>cD.dr w (⟨⟨none,0,0⟩,0,(if (l.length:Int)≤i then 6 else e),(mR l i)⟩:dS) (⟨[],0,(if (l.length:Int)≤i then 6 else e),(mR l i)⟩:fC))) (λ w=>⟨_,rfl,DL.nil _⟩);have hs:=(hs.p1).drop;exact ⟨_,rfl,hs.fresh⟩
set_option maxHeartbeats 2000000 in
theorem C257 (l:List bH) (rec:Int→Int→Int→Option fC) (lv:Value) (i d:Int) (r:fC) (w:World) (hL:eL (λ _=>True) w lv l) (hk:iD l) (HR:akg l rec) (h0:0≤i∧i≤l.length) (hd:0≤d∧d≤12) (hr:pb rec l i d=some r):CR 257 [lv,.int .i64 i,.int .i64 d] w (λ v w'=>∃ sh:dS,v=Flat.val sh∧mc (eY (λ w=>cD.dr w sh r)) w w'):=by
 have Fx:=hk.n;have hn:l.length≤1000000:=by omega
 have td:=hk.at_;have hs:=St.start w;refine aa1 _ _ _ _ _ ?_;unfold S257;refine aO hs sq (λ On w1 hs=>have hs:=hs.enc (cs':=Flat.enc (⟨⟨none,0,0⟩,0,0,0⟩:dS)) rfl;aJ fz (hL.ext hs.aE) (dI (aC (λ eM=>?_) (λ eM=>?_))))
 ·refine eu PQ (C263 _ l i 6 _ (hL.ext hs.aE) hk) ?_;rintro _ w2 ⟨akh,rfl,cA⟩;have hs:=hs.made cA;obtain ⟨AM,OO,_⟩:=(hs).eY;subst OO;refine aI (x:=(⟨AM,((gp l i 6)).to,((gp l i 6)).e,((gp l i 6)).at_⟩:dS)) hs.p1 fR rfl rfl (λ w3 hs=>aD fR hs.At ?_);have hR:r=(⟨((gp l i 6)).l,((gp l i 6)).to,((gp l i 6)).e,((gp l i 6)).at_⟩:fC):=OL hr (by omega);rw [hR];have hs:=hs.p1.dQ (Ψ:=(λ w=>cD.dr w (⟨AM,((gp l i 6)).to,((gp l i 6)).e,((gp l i 6)).at_⟩:dS) (⟨((gp l i 6)).l,((gp l i 6)).to,((gp l i 6)).e,((gp l i 6)).at_⟩:fC))) (λ w h=>⟨_,rfl,lf (h)⟩)
  have hs:=(hs.p1).drop;exact ⟨_,rfl,hs.fresh⟩
 ·obtain ⟨t,ht⟩:∃ t,l[i.toNat]? = some t:=⟨_,List.getElem?_eq_getElem (by omega)⟩;have hta:=td t (List.mem_of_getElem? ht);refine ⟨λ jv w'=>jv = .bool (SL l i)∧St w bD [cC On (Flat.enc (⟨⟨none,0,0⟩,0,0,0⟩:dS))] w',?_,?_⟩
  ·refine aZ vp hs (C211 _ l i (ByteArray.mk #[33]) _ (hL.ext hs.aE) hn) (λ w4 he hs=>aY (λ iS=>?_) (λ iS=>?_))
   ·exact ⟨vb (by unfold SL; rw [iS]; rfl),hs⟩
   ·refine aZ vp hs (C211 _ l i (ByteArray.mk #[45]) _ (hL.ext hs.aE) hn) (λ w5 he hs=>?_);exact ⟨vb (by unfold SL; rw [iS]; rfl),hs⟩
  ·rintro _ w6 ⟨rfl,hs⟩ fu;refine aZ vp hs (C211 _ l i (ByteArray.mk #[40]) _ (hL.ext hs.aE) hn) (λ w7 he hs=>?_);refine ⟨λ jv w'=>jv = .bool ((SL l i || sQ l i (ByteArray.mk #[40])) && decide (d=12))∧St w bD [cC On (Flat.enc (⟨⟨none,0,0⟩,0,0,0⟩:dS))] w',?_,?_⟩
   ·refine aY (λ nG=>?_) (λ nG=>?_)
    ·refine aH ?_;exact ⟨vb (by first | (rw [nG]; simp; done) | (rw [nG,mH]; simp; done) | (rw [nG]; rfl) | (rw [nG,mH]; rfl)),hs⟩
    ·refine aY (λ mH=>?_) (λ mH=>?_)
     ·refine aH ?_;exact ⟨vb (by first | (rw [nG]; simp; done) | (rw [nG,mH]; simp; done) | (rw [nG]; rfl) | (rw [nG,mH]; rfl)),hs⟩
     ·exact ⟨vb (by first | (rw [nG]; simp; done) | (rw [nG,mH]; simp; done) | (rw [nG]; rfl) | (rw [nG,mH]; rfl)),hs⟩
   ·rintro _ w8 ⟨rfl,hs⟩ jz;refine aY (λ ml=>?_) (λ ml=>?_)
    ·refine eu PQ (C263 _ l i 7 _ (hL.ext hs.aE) hk) ?_;rintro _ w9 ⟨ayA,rfl,cA⟩;have hs:=hs.made cA;obtain ⟨Q5,aki,_⟩:=(hs).eY;subst aki;refine aI (x:=(⟨Q5,((gp l i 7)).to,((gp l i 7)).e,((gp l i 7)).at_⟩:dS)) hs.p1 fR rfl rfl (λ qd hs=>aD fR hs.At ?_);have hR:r=(⟨((gp l i 7)).l,((gp l i 7)).to,((gp l i 7)).e,((gp l i 7)).at_⟩:fC):=Md hr (by omega) ht ml;rw [hR];have hs:=hs.p1.dQ (Ψ:=(λ w=>cD.dr w (⟨Q5,((gp l i 7)).to,((gp l i 7)).e,((gp l i 7)).at_⟩:dS) (⟨((gp l i 7)).l,((gp l i 7)).to,((gp l i 7)).e,((gp l i 7)).at_⟩:fC))) (λ w h=>⟨_,rfl,lf (h)⟩)
     have hs:=(hs.p1).drop;exact ⟨_,rfl,hs.fresh⟩
    ·refine aY (λ nG=>?_) (λ nG=>?_)
     ·refine aN (by omega) (aN (by omega) ?_);have ayB:¬ d=12:=λ h=>by rw [nG,decide_eq_true h] at ml; cases ml
      obtain ⟨x1,hx1,MM,hrx⟩:=SM hr (by omega) ht ml nG;refine eu aeD ((HR _ (i+1) (d+1) 5 x1 _ (hL.ext hs.aE) hx1 (by omega) (by omega) (by omega)).2 rfl) ?_;rintro _ tG ⟨ayC,rfl,cA⟩;have hs:=hs.made cA;obtain ⟨CW,akj,_⟩:=(hs).eY;subst akj;refine aO hs sq (λ DU vt hs=>have hs:=hs.enc (cs':=Flat.enc (⟨⟨none,0,0⟩,0,0,0⟩:dS)) rfl;aI (x:=(⟨CW,(x1).to,(x1).e,(x1).at_⟩:dS)) hs fR rfl rfl (λ uU hs=>aA tY (aB (v:=.int .i64 (x1).e) nn hs.hb rfl (cT (aC (λ rj=>?_) (λ rj=>?_))))))
      ·refine aD fR hs.At (aI (x:=(⟨CW,(x1).to,(x1).e,(x1).at_⟩:dS)) hs.p2 fR rfl rfl (λ sw hs=>aD fR hs.At ?_));have hR:r=(⟨(x1).l,(x1).to,(x1).e,(x1).at_⟩:fC):=hrx.trans (if_pos rj);rw [hR];have hs:=hs.p2.dQ (Ψ:=(λ w=>cD.dr w (⟨CW,(x1).to,(x1).e,(x1).at_⟩:dS) (⟨(x1).l,(x1).to,(x1).e,(x1).at_⟩:fC))) (λ w h=>⟨_,rfl,lf (h)⟩);have hs:=((hs.p1.drop).p1).drop;exact ⟨_,rfl,hs.fresh⟩
      ·refine ⟨λ jv w'=>jv = .int .i64 (if t.text=ByteArray.mk #[45] then 3 else 4)∧uU=w',?_,?_⟩
       ·refine aQ fz (hL.ext hs.aE) (by omega) ht (λ _ DV=>bT (t).text m8 DV rfl rfl (λ _ LQ=>aD kf (LQ) (ub (aC (λ rC=>?_) (λ rC=>?_)))))
        ·exact ⟨by rw [if_pos rC],rfl⟩
        ·exact ⟨by rw [if_neg rC],rfl⟩
       ·rintro _ wc ⟨rfl,hw⟩ oG;subst hw;obtain ⟨op,af5⟩:∃ op,op=(if t.text=ByteArray.mk #[45] then (3:Int) else 4):=⟨_,rfl⟩;rw [← af5];refine aQ fz (hL.ext hs.aE) (by omega) ht (λ _ LD=>bT (t).at_ lu LD rfl rfl (λ _ Lk=>aD bN (Lk) (pop (DD _ _) (bX ([(⟨op,0,(ByteArray.mk #[]),(t).at_⟩:cY)]) hs lZ rfl rfl (eE rfl) (λ s_x66 ze hs=>aA re (aB (v:=Flat.val (CW:SV)) mY hs.p1.hb rfl ?_))))));have Bv:=(DL.flat (lf (hs.p2).eY));refine cP hs lZ Bv (by simp; omega) (by decide) (λ afM Cn hs=>aA re ?_);obtain ⟨OP,rfl⟩:=(hs).fT
        refine aV hs.p1 mY (eE rfl) (rfl) (λ Iy hs=>have hs:=hs.enc (cs':=Flat.enc (⟨OP,(x1).to,(x1).e,(x1).at_⟩:dS)) rfl;aD fR hs.At (aI (x:=(⟨OP,(x1).to,(x1).e,(x1).at_⟩:dS)) hs.p3 fR rfl rfl (λ JG hs=>aD fR hs.At ?_)));have hR:r=(⟨([(⟨op,0,(ByteArray.mk #[]),(t).at_⟩:cY)]++(x1).l),(x1).to,(x1).e,(x1).at_⟩:fC):=by rw [hrx,if_neg rj,← af5]
        rw [hR];have hs:=hs.p2.freeze.dQ (Ψ:=(λ w=>cD.dr w (⟨OP,(x1).to,(x1).e,(x1).at_⟩:dS) (⟨([(⟨op,0,(ByteArray.mk #[]),(t).at_⟩:cY)]++(x1).l),(x1).to,(x1).e,(x1).at_⟩:fC))) (λ w h=>⟨_,rfl,DL.fp h⟩);have hs:=(((hs.p1.drop.p1).drop).p1).drop;exact ⟨_,rfl,hs.fresh⟩
     ·refine aY (λ mH=>?_) (λ mH=>?_)
      ·refine aN (by omega) (aN (by omega) ?_);have ayB:¬ d=12:=λ h=>by rw [nG,mH,decide_eq_true h] at ml; cases ml
       obtain ⟨x1,hx1,hrx⟩:=Me hr (by omega) ht ml nG mH;refine eu PO ((HR _ (i+1) (d+1) 0 x1 _ (hL.ext hs.aE) hx1 (by omega) (by omega) (by omega)).1) ?_;rintro _ KR ⟨ayD,rfl,cA⟩;have hs:=hs.made cA;obtain ⟨xB,akk,_⟩:=(hs).eY;subst akk;refine aO hs sq (λ UL MN hs=>have hs:=hs.enc (cs':=Flat.enc (⟨⟨none,0,0⟩,0,0,0⟩:dS)) rfl;aI (x:=(⟨xB,(x1).to,(x1).e,(x1).at_⟩:dS)) hs fR rfl rfl (λ Qw hs=>aA tY (aB (v:=.int .i64 (x1).e) nn hs.hb rfl (cT (aC (λ Q6=>?_) (λ Q6=>?_))))))
       ·refine aD fR hs.At (aI (x:=(⟨xB,(x1).to,(x1).e,(x1).at_⟩:dS)) hs.p2 fR rfl rfl (λ Tl hs=>aD fR hs.At ?_));have hR:r=(⟨(x1).l,(x1).to,(x1).e,(x1).at_⟩:fC):=hrx.trans (if_pos Q6);rw [hR];have hs:=hs.p2.dQ (Ψ:=(λ w=>cD.dr w (⟨xB,(x1).to,(x1).e,(x1).at_⟩:dS) (⟨(x1).l,(x1).to,(x1).e,(x1).at_⟩:fC))) (λ w h=>⟨_,rfl,lf (h)⟩);have hs:=((hs.p1.drop).p1).drop;exact ⟨_,rfl,hs.fresh⟩
       ·refine aA nV (aB (v:=.int .i64 (x1).to) bN hs.hb rfl (aZ vp hs (C211 _ l (x1).to (ByteArray.mk #[41]) _ (hL.ext hs.aE) hn) (λ VK he hs=>bZ (aY (λ Q7=>?_) (λ Q7=>?_)))))
        ·refine aA nV (aB (v:=.int .i64 (x1).to) bN hs.hb rfl (eu PQ (C263 _ l (x1).to 5 _ (hL.ext hs.aE) hk) ?_));rintro _ Se ⟨ayE,rfl,cA⟩;have hs:=hs.made cA;obtain ⟨Q8,akl,_⟩:=(hs).eY;subst akl;refine aI (x:=(⟨Q8,((gp l (x1).to 5)).to,((gp l (x1).to 5)).e,((gp l (x1).to 5)).at_⟩:dS)) hs.p3 fR rfl rfl (λ w26 hs=>aD fR hs.At ?_);have hR:r=(⟨((gp l (x1).to 5)).l,((gp l (x1).to 5)).to,((gp l (x1).to 5)).e,((gp l (x1).to 5)).at_⟩:fC):=hrx.trans ((if_neg Q6).trans (if_neg (by simpa using Q7)));rw [hR];have hs:=hs.p1.dQ (Ψ:=(λ w=>cD.dr w (⟨Q8,((gp l (x1).to 5)).to,((gp l (x1).to 5)).e,((gp l (x1).to 5)).at_⟩:dS) (⟨((gp l (x1).to 5)).l,((gp l (x1).to 5)).to,((gp l (x1).to 5)).e,((gp l (x1).to 5)).at_⟩:fC))) (λ w h=>⟨_,rfl,lf (h)⟩)
         have hs:=(((hs.p1.drop.p1).drop).p1).drop;exact ⟨_,rfl,hs.fresh⟩
        ·refine aA nV (aB (v:=.int .i64 (x1).to) bN hs.hb rfl ?_);have vq:=rU (l:=l) (i:=x1.to) (t:=ByteArray.mk #[41]) (by simpa using Q7);refine aN (by omega) (aA nV (aV hs bN (eE rfl) (rfl) (λ w27 hs=>have hs:=hs.enc (cs':=Flat.enc (⟨xB,((x1).to+1),(x1).e,(x1).at_⟩:dS)) rfl;aD fR hs.At (aI (x:=(⟨xB,((x1).to+1),(x1).e,(x1).at_⟩:dS)) hs.p2 fR rfl rfl (λ w28 hs=>aD fR hs.At ?_)))));have hR:r=(⟨(x1).l,((x1).to+1),(x1).e,(x1).at_⟩:fC):=hrx.trans ((if_neg Q6).trans (if_pos (by simpa using Q7)));rw [hR];have hs:=hs.p2.dQ (Ψ:=(λ w=>cD.dr w (⟨xB,((x1).to+1),(x1).e,(x1).at_⟩:dS) (⟨(x1).l,((x1).to+1),(x1).e,(x1).at_⟩:fC))) (λ w h=>⟨_,rfl,lf (h)⟩)
         have hs:=((hs.p1.drop).p1).drop;exact ⟨_,rfl,hs.fresh⟩
      ·have NI:=Mf hr (by omega) ht ml nG mH;refine aQ fz (hL.ext hs.aE) (by omega) ht (λ _ akm=>bT (t).kind lr akm rfl rfl (λ _ akn=>aD bN (akn) (aH (aC (λ Jp=>?_) (λ Jp=>?_)))))
       ·refine aQ fz (hL.ext hs.aE) (by omega) ht (λ _ ako=>bT (t).n q9 ako rfl rfl (λ _ akp=>have hs:=hs.drew;aD bN (akp) (aQ fz (hL.ext hs.aE) (by omega) ht (λ _ akq=>bT (t).at_ lu akq rfl rfl (λ _ NM=>aD bN (NM) (pop (Iq _ _ _) (aN (by omega) (bX ([(⟨1,(t).n,(ByteArray.mk #[]),(t).at_⟩:cY)]) hs lZ rfl rfl (eE rfl) (λ ai8 w29 hs=>?_)))))))));obtain ⟨Q9,rfl⟩:=(hs).fT;refine pop (yC _ _ _ _) (aI (x:=(⟨Q9,(i+1),0,0⟩:dS)) hs.p1 fR rfl rfl (λ w30 hs=>aD fR hs.At ?_));have hR:r=(⟨[(⟨1,(t).n,(ByteArray.mk #[]),(t).at_⟩:cY)],(i+1),0,0⟩:fC):=NI.trans (if_pos Jp)
        rw [hR];have hs:=hs.p1.freeze.dQ (Ψ:=(λ w=>cD.dr w (⟨Q9,(i+1),0,0⟩:dS) (⟨[(⟨1,(t).n,(ByteArray.mk #[]),(t).at_⟩:cY)],(i+1),0,0⟩:fC))) (λ w h=>⟨_,rfl,DL.fp h⟩);have hs:=(hs.p1).drop;exact ⟨_,rfl,hs.fresh⟩
       ·refine ⟨λ jv w'=>jv = .bool (decide (t.kind=1) && j6 t.text)∧St w bD [cC On (Flat.enc (⟨⟨none,0,0⟩,0,0,0⟩:dS))] w',?_,?_⟩
        ·refine aQ fz (hL.ext hs.aE) (by omega) ht (λ _ akr=>bT (t).kind lr akr rfl rfl (λ _ aks=>aD bN (aks) (aH (aC (λ yL=>?_) (λ yL=>?_)))))
         ·refine aQ fz (hL.ext hs.aE) (by omega) ht (λ _ akt=>bT (t).text m8 akt rfl rfl (λ _ aku=>aD kf (aku) (aZ tL hs (C161 _ _ (by omega)) (λ w31 he hs=>?_))));exact ⟨vb (by rw [decide_eq_true yL]; rfl),hs⟩
         ·exact ⟨vb (by rw [decide_eq_false yL]; rfl),hs⟩
        ·rintro _ w32 ⟨rfl,hs⟩ GR;refine aY (λ ER=>?_) (λ ER=>?_)
         ·refine aQ fz (hL.ext hs.aE) (by omega) ht (λ _ akv=>bT (t).text m8 akv rfl rfl (λ _ akw=>have hs:=hs.drew;aD kf (akw) (aQ fz (hL.ext hs.aE) (by omega) ht (λ _ akx=>bT (t).at_ lu akx rfl rfl (λ _ NO=>aD bN (NO) (pop (Ir _ _ _) (aN (by omega) (bX ([(⟨2,0,(t).text,(t).at_⟩:cY)]) hs lZ rfl rfl (eE rfl) (λ ayF w33 hs=>?_)))))))));obtain ⟨Ra,rfl⟩:=(hs).fT;refine pop (yC _ _ _ _) (aI (x:=(⟨Ra,(i+1),0,0⟩:dS)) hs.p1 fR rfl rfl (λ w34 hs=>aD fR hs.At ?_));have hR:r=(⟨[(⟨2,0,(t).text,(t).at_⟩:cY)],(i+1),0,0⟩:fC):=NI.trans ((if_neg Jp).trans (if_pos ER))
          rw [hR];have hs:=hs.p1.freeze.dQ (Ψ:=(λ w=>cD.dr w (⟨Ra,(i+1),0,0⟩:dS) (⟨[(⟨2,0,(t).text,(t).at_⟩:cY)],(i+1),0,0⟩:fC))) (λ w h=>⟨_,rfl,DL.fp h⟩);have hs:=(hs.p1).drop;exact ⟨_,rfl,hs.fresh⟩
         ·refine eu PQ (C263 _ l i 5 _ (hL.ext hs.aE) hk) ?_;rintro _ w35 ⟨atr,rfl,cA⟩;have hs:=hs.made cA;obtain ⟨Mh,ado,_⟩:=(hs).eY;subst ado;refine aI (x:=(⟨Mh,((gp l i 5)).to,((gp l i 5)).e,((gp l i 5)).at_⟩:dS)) hs.p1 fR rfl rfl (λ w36 hs=>aD fR hs.At ?_);have hR:r=(⟨((gp l i 5)).l,((gp l i 5)).to,((gp l i 5)).e,((gp l i 5)).at_⟩:fC):=NI.trans ((if_neg Jp).trans (if_neg (by simpa using ER)));rw [hR];have hs:=hs.p1.dQ (Ψ:=(λ w=>cD.dr w (⟨Mh,((gp l i 5)).to,((gp l i 5)).e,((gp l i 5)).at_⟩:dS) (⟨((gp l i 5)).l,((gp l i 5)).to,((gp l i 5)).e,((gp l i 5)).at_⟩:fC))) (λ w h=>⟨_,rfl,lf (h)⟩)
          have hs:=(hs.p1).drop;exact ⟨_,rfl,hs.fresh⟩
theorem Xt {l:List bH} {i:Int} {R:List cY × Int × Int × Int} (h:vC l i=some R) (hi:¬ i<0):∃ x,Ho l 10000 i 0 0=some x∧
  (if x.e≠0 then some ([],0,x.e,x.at_) else match yF x.l,l[i.toNat]? with
  | some t,some k=>if x.l.length≤10000 then (if 12<t.depth then some ([],0,7,k.at_) else if 40<x.l.length then some ([],0,2,k.at_) else some (x.l,x.to,0,0)) else none
  | _,_=>none)=some R:=by
 unfold vC at h; rw [if_neg hi] at h
 cases hx:Ho l 10000 i 0 0 with
 | none=>rw [hx] at h; cases h
 | some x=>rw [hx] at h; exact ⟨x,rfl,h⟩
theorem OQ {x:fC} {o:Option bH} {R:List cY × Int × Int × Int} (h:(match yF x.l,o with
  | some t,some k=>if x.l.length≤10000 then (if 12<t.depth then some ([],0,7,k.at_) else if 40<x.l.length then some ([],0,2,k.at_) else some (x.l,x.to,0,0)) else none
  | _,_=>none)=some R):∃ t k,yF x.l=some t∧o=some k∧x.l.length≤10000∧(if 12<t.depth then some ([],0,7,k.at_) else if 40<x.l.length then some ([],0,2,k.at_) else some (x.l,x.to,0,0))=some R:=by
 cases he:yF x.l with
 | none=>rw [he] at h; cases h
 | some t=>
  cases o with
  | none=>rw [he] at h; cases h
  | some k=>
   rw [he] at h; dsimp only at h
   split at h
   ·rename_i hl; exact ⟨t,k,rfl,rfl,hl,h⟩
   ·cases h
set_option maxHeartbeats 2000000 in
theorem C235 (l:List bH) (j:Nat) (lv:Value) (i d n:Int) (r:fC) (w:World) (hL:eL (λ _=>True) w lv l) (hk:iD l) (HR:akg l (Ho l j)) (h0:0≤i∧i≤l.length) (hd:0≤d∧d≤12) (hnn:0≤n∧n≤5) (hr:Ho l (j+1) i d n=some r):CR 235 [lv,.int .i64 i,.int .i64 d,.int .i64 n] w (λ v w'=>∃ sh:dS,v=Flat.val sh∧mc (eY (λ w=>cD.dr w sh r)) w w'):=by
 have Fx:=hk.n;have hn:l.length≤1000000:=by omega
 have td:=hk.at_;have hs:=St.start w;refine aaF _ _ _ _ _ _ ?_;unfold S235;refine aO hs sq (λ Cp w1 hs=>have hs:=hs.enc (cs':=Flat.enc (⟨⟨none,0,0⟩,0,0,0⟩:dS)) rfl;aH (aC (λ jQ=>?_) (λ jQ=>?_)))
 ·refine eu aeD (C257 l (Ho l j) _ i d r _ (hL.ext hs.aE) hk HR h0 hd (af4 (by rw [jQ] at hr; exact hr))) ?_;rintro _ w2 ⟨akh,rfl,cA⟩;have hs:=hs.made cA;obtain ⟨AM,OO,_⟩:=(hs).eY;subst OO;refine aI (x:=(⟨AM,(r).to,(r).e,(r).at_⟩:dS)) hs.p1 fR rfl rfl (λ w3 hs=>aD fR hs.At ?_);have hR:r=(⟨(r).l,(r).to,(r).e,(r).at_⟩:fC):=rfl;rw [hR];have hs:=hs.p1.dQ (Ψ:=(λ w=>cD.dr w (⟨AM,(r).to,(r).e,(r).at_⟩:dS) (⟨(r).l,(r).to,(r).e,(r).at_⟩:fC))) (λ w h=>⟨_,rfl,lf (h)⟩);have hs:=(hs.p1).drop;exact ⟨_,rfl,hs.fresh⟩
 ·obtain ⟨x1,hx1,ayG⟩:=aro hr jQ;refine aN (by omega) (eu PO ((HR _ i d (n+1) x1 _ (hL.ext hs.aE) hx1 h0 hd (by omega)).1) ?_);rintro _ w4 ⟨ayH,rfl,cA⟩;have hs:=hs.made cA;obtain ⟨Jq,aky,_⟩:=(hs).eY;subst aky;refine aO hs sq (λ DU w5 hs=>have hs:=hs.enc (cs':=Flat.enc (⟨⟨none,0,0⟩,0,0,0⟩:dS)) rfl;aI (x:=(⟨Jq,(x1).to,(x1).e,(x1).at_⟩:dS)) hs fR rfl rfl (λ w6 hs=>?_));have hs:=hs.p2.p2.p2.p1.dQ (Ψ:=λ w=>DL w (Flat.val Jq) (x1).l) (λ w h=>lf h);have hs:=hs.p2.p1.p2;refine ⟨λ mm w'=>∃ (x:fC) (g:SV),vB (Ho l j) l d n mm x=some r∧St w bD [cC DU (Flat.enc (⟨g,(x).to,(x).e,(x).at_⟩:dS)),eY (λ w=>DL w (Flat.val g) (x).l),cC Cp (Flat.enc (⟨⟨none,0,0⟩,0,0,0⟩:dS))] w',⟨j,x1,Jq,ayG,hs⟩,?_⟩
  rintro mm w7 ⟨x,g,Mi,hs⟩ fu;obtain ⟨j2,rfl⟩:=OM Mi;refine aA tY (aB (v:=.int .i64 (x).e) nn hs.hb rfl (aH (aC (λ LL=>?_) (λ LL=>?_))))
  ·have hs:=hs.p2.p2.p2;refine ⟨λ mm o kk w'=>∃ k:Nat,o = .int .i64 (Fa l x.to n k)∧kk = .int .i64 (k:Int)∧mm=(qm n).length - k∧k≤(qm n).length∧St w bD [cC DU (Flat.enc (⟨g,(x).to,(x).e,(x).at_⟩:dS)),eY (λ w=>DL w (Flat.val g) (x).l),cC Cp (Flat.enc (⟨⟨none,0,0⟩,0,0,0⟩:dS))] w',⟨_,0,rfl,rfl,rfl,Nat.zero_le _,hs⟩,?_⟩;rintro mm _ _ w8 ⟨k,rfl,rfl,rfl,KW,hs⟩ jz;have hfl4:=ON n;refine dG T7 hs (C258 n _ (by omega)) (λ x31 w9 cA hs=>aJ eg (hs).fM (aR (aC (λ nB=>?_) (λ nB=>?_))))
   ·refine ⟨λ jv w'=>jv = .int .i64 (Fa l x.to n (k+1))∧St w bD [cC DU (Flat.enc (⟨g,(x).to,(x).e,(x).at_⟩:dS)),eY (λ w=>DL w (Flat.val g) (x).l),cC Cp (Flat.enc (⟨⟨none,0,0⟩,0,0,0⟩:dS))] w',?_,?_⟩
    ·refine aA nV (have hs:=hs.drew;aB (v:=.int .i64 (x).to) bN hs.p1.hb rfl (dG T7 hs (C258 n _ (by omega)) (λ x40 qd cA hs=>?_)));refine ⟨aG bN (hs.p2.hb.cell rfl),?_⟩;obtain ⟨af6,Fb⟩:=gx ((qm n)) (i:=((k:Int)).toNat) (by omega);refine dT hs eg (by omega) (by omega) (λ _ arq=>ga hs bN arq Fb ?_);have hfb:=Xq Fb;refine aZ anO hs (C259 af6 _ (by omega)) (λ tG he hs=>?_);refine ⟨aG bN (hs.p2.hb.cell rfl),?_⟩;refine aZ vp hs (C211 _ l (x).to (Mc af6) _ (hL.ext hs.aE) hn) (λ vt he hs=>aY (λ kL=>?_) (λ kL=>?_))
     ·refine dG T7 hs (C258 n _ (by omega)) (λ x47 uU cA hs=>dT hs eg (by omega) (by omega) (λ _ Eo=>ga hs bN Eo Fb ?_));have hs:=(((((((hs.drop)).drop)).drop).p2).p2).p2;exact ⟨by rw [Hn (k:=k) Fb,if_pos kL] <;> rfl,hs⟩
     ·have hs:=(((((hs.drop)).drop).p2).p2).p2;exact ⟨by rw [Hn (k:=k) Fb,if_neg (by simpa using kL)] <;> rfl,hs⟩
    ·rintro _ sw ⟨rfl,hs⟩ oG;refine aN (by omega) ?_;exact ⟨_,by omega,k+1,rfl,rfl,rfl,by omega,hs⟩
   ·have jV:Fa l x.to n k=Jo l x.to n:=by unfold Jo; rw [show k=(qm n).length from by omega]
    refine aH (aC (λ sE=>?_) (λ sE=>?_))
    ·refine aD fR hs.p1.At (aI (x:=(⟨g,(x).to,(x).e,(x).at_⟩:dS)) hs.p3 fR rfl rfl (λ wc hs=>aD fR hs.At ?_));have hR:r=(⟨(x).l,(x).to,(x).e,(x).at_⟩:fC):=Xr (x:=x) Mi (by omega) (by rw [← jV]; exact sE);rw [hR];have hs:=hs.p3.dQ (Ψ:=(λ w=>cD.dr w (⟨g,(x).to,(x).e,(x).at_⟩:dS) (⟨(x).l,(x).to,(x).e,(x).at_⟩:fC))) (λ w h=>⟨_,rfl,id (h)⟩);have hs:=(((hs.p1.drop.p1).drop).p1).drop;exact ⟨_,rfl,hs.fresh⟩
    ·obtain ⟨t,y,h0t,ht,hy,hye,hyn⟩:=Xs Mi (by omega) (by rw [← jV]; exact sE);have Nd:=(List.getElem?_eq_some_iff.1 ht).1;refine aA nV (aB (v:=.int .i64 (x).to) bN hs.p1.hb rfl (aN (by omega) (aN (by omega) (eu PO ((HR _ (x.to+1) d (n+1) y _ (hL.ext hs.aE) hy (by omega) hd (by omega)).1) ?_))));rintro _ ze ⟨ayJ,rfl,cA⟩;have hs:=hs.made cA;obtain ⟨CX,akz,_⟩:=(hs).eY;subst akz;refine aO hs sq (λ b_y12 Cn hs=>have hs:=hs.enc (cs':=Flat.enc (⟨⟨none,0,0⟩,0,0,0⟩:dS)) rfl;aI (x:=(⟨CX,(y).to,(y).e,(y).at_⟩:dS)) hs fR rfl rfl (λ Iy hs=>aA tY (aB (v:=.int .i64 (y).e) nn hs.hb rfl (cT (aC (λ qC=>?_) (λ qC=>?_))))))
     ·refine aD fR hs.At (aI (x:=(⟨CX,(y).to,(y).e,(y).at_⟩:dS)) hs.p5 fR rfl rfl (λ JG hs=>aD fR hs.At ?_));have hR:r=(⟨(y).l,(y).to,(y).e,(y).at_⟩:fC):=hye qC;rw [hR];have hs:=hs.p2.dQ (Ψ:=(λ w=>cD.dr w (⟨CX,(y).to,(y).e,(y).at_⟩:dS) (⟨(y).l,(y).to,(y).e,(y).at_⟩:fC))) (λ w h=>⟨_,rfl,lf (h)⟩);have hs:=(((((hs.p1.drop.p1.drop.p1).drop).p1).drop).p1).drop;exact ⟨_,rfl,hs.fresh⟩
     ·refine aA nV (aB (v:=.int .i64 (x).to) bN hs.p3.hb rfl (aQ fz (hL.ext hs.aE) (by omega) ht (λ _ LA=>bT (t).at_ lu LA rfl rfl (λ _ ars=>aD bN (ars) (pop (DD _ _) (bX ([(⟨(Fa l x.to n k),0,(ByteArray.mk #[]),(t).at_⟩:cY)]) hs lZ rfl rfl (eE rfl) (λ afe KR hs=>aA re (aB (v:=Flat.val (g:SV)) mY hs.p4.hb rfl ?_))))))));have Ny:=(hyn (by omega)).1;have akA:=(DL.flat (id (hs.p5).eY));refine cP hs lZ akA (by simp; omega) (by decide) (λ apT MN hs=>aA re (aB (v:=Flat.val (CX:SV)) mY hs.p1.hb rfl ?_));have akB:=(DL.flat (lf (hs.p2).eY))
      refine cP hs lZ akB (by simp; omega) (by decide) (λ s_x82 Qw hs=>aA nV (aB (v:=.int .i64 (y).to) bN hs.p1.hb rfl ?_));obtain ⟨Fc,rfl⟩:=(hs).fT;refine pop (yC _ _ _ _) (aI (x:=(⟨Fc,(y).to,0,0⟩:dS)) hs.p4 fR rfl rfl (λ Tl hs=>aH (aC (λ Ew=>?_) (λ Ew=>?_))))
      ·refine aD fR hs.At (aI (x:=(⟨Fc,(y).to,0,0⟩:dS)) hs.p6 fR rfl rfl (λ VK hs=>aD fR hs.At ?_));have hR:r=(⟨(([(⟨(Fa l x.to n k),0,(ByteArray.mk #[]),(t).at_⟩:cY)]++(x).l)++(y).l),(y).to,0,0⟩:fC):=((hyn (by omega)).2.1 Ew).trans (by rw [← jV]);rw [hR];have hs:=hs.p2.freeze.dQ (Ψ:=(λ w=>cD.dr w (⟨Fc,(y).to,0,0⟩:dS) (⟨(([(⟨(Fa l x.to n k),0,(ByteArray.mk #[]),(t).at_⟩:cY)]++(x).l)++(y).l),(y).to,0,0⟩:fC))) (λ w h=>⟨_,rfl,DL.fp h⟩);have hs:=((((((hs.p1.drop.p1.drop.p1.drop).p1).drop).p1).drop).p1).drop;exact ⟨_,rfl,hs.fresh⟩
      ·have hs:=hs.p1.freeze.dQ (Ψ:=λ w=>DL w (Flat.val Fc) ([(⟨Fa l x.to n k,0,ByteArray.mk #[],t.at_⟩:cY)]++x.l++y.l)) (λ w h=>DL.fp h);have hs:=((((hs.p2.drop.p2.drop.p2.drop.p2).drop).p2).p1).p2;have vA:=(hyn (by omega)).2.2 Ew;rw [← jV] at vA;exact ⟨_,by omega,⟨_,_,_,_⟩,Fc,vA,hs⟩
  ·refine aD fR hs.At (aI (x:=(⟨g,(x).to,(x).e,(x).at_⟩:dS)) hs.p2 fR rfl rfl (λ Se hs=>aD fR hs.At ?_));have hR:r=(⟨(x).l,(x).to,(x).e,(x).at_⟩:fC):=adm (x:=x) Mi (by omega);rw [hR];have hs:=hs.p2.dQ (Ψ:=(λ w=>cD.dr w (⟨g,(x).to,(x).e,(x).at_⟩:dS) (⟨(x).l,(x).to,(x).e,(x).at_⟩:fC))) (λ w h=>⟨_,rfl,id (h)⟩);have hs:=((hs.p1.drop).p1).drop;exact ⟨_,rfl,hs.fresh⟩
theorem akC {l:List bH} (hk:iD l):∀ j,akg l (Ho l j)
 | 0=>λ lv i d n r w hL hr=>by cases hr
 | j+1=>λ lv i d n r w hL hr h0 hd hn=>⟨C235 l j lv i d n r w hL hk (akC hk j) h0 hd hn hr,λ h5=>by subst h5; exact C257 l (Ho l j) lv i d r w hL hk (akC hk j) h0 hd (af4 hr)⟩
theorem C214 (l:List bH) (lv:Value) (i:Int) (R:List cY × Int × Int × Int) (w:World) (hL:eL (λ _=>True) w lv l) (hk:iD l) (hil:i≤l.length) (hr:vC l i=some R):CR 214 [lv,.int .i64 i] w (λ v w'=>∃ sv:SV,v = .tuple #[Flat.val sv,.int .i64 R.2.1,.int .i64 R.2.2.1,.int .i64 R.2.2.2]∧mc (eY (λ w=>DL w (Flat.val sv) R.1)) w w'):=by
 have Fx:=hk.n;have hn:l.length≤1000000:=by omega
 have td:=hk.at_;have hs:=St.start w;refine aal _ _ _ _ ?_;unfold S214;refine aR (aC (λ fB=>?_) (λ fB=>?_))
 ·have hR:R=([],0,1,0):=by
   unfold vC at hr; rw [if_pos fB] at hr; exact (Option.some.inj hr).symm
  rw [hR];exact ⟨⟨none,0,0⟩,rfl,(hs.gI (Φ:=λ w=>DL w (Flat.val (⟨none,0,0⟩:SV)) ([]:List cY)) λ w=>DL.nil w).fresh⟩
 ·obtain ⟨x,hx,Gq⟩:=Xt hr (by omega);refine eu PO ((akC hk 10000 _ i 0 0 x _ (hL.ext hs.aE) hx (by omega) (by omega) (by omega)).1) ?_;rintro _ w1 ⟨ayK,rfl,cA⟩;have hs:=hs.made cA;obtain ⟨xC,akD,_⟩:=(hs).eY;subst akD;refine aO hs sq (λ Cp w2 hs=>have hs:=hs.enc (cs':=Flat.enc (⟨⟨none,0,0⟩,0,0,0⟩:dS)) rfl;aI (x:=(⟨xC,(x).to,(x).e,(x).at_⟩:dS)) hs fR rfl rfl (λ w3 hs=>aA tY (aB (v:=.int .i64 (x).e) nn hs.hb rfl (cT (aC (λ eM=>?_) (λ eM=>?_))))))
  ·refine aA tY (have hs:=hs.drew;aB (v:=.int .i64 (x).e) nn hs.hb rfl (aA Ue (aB (v:=.int .i64 (x).at_) bN hs.hb rfl ?_)))
   have hR:R=([],0,x.e,x.at_):=by
    rw [if_pos eM] at Gq; exact (Option.some.inj Gq).symm
   rw [hR];exact ⟨⟨none,0,0⟩,rfl,(hs.gI (Φ:=λ w=>DL w (Flat.val (⟨none,0,0⟩:SV)) ([]:List cY)) λ w=>DL.nil w).fresh⟩
  ·rw [if_neg eM] at Gq;obtain ⟨tr,tk,htr,SN,MM,hr3⟩:=OQ Gq;have htki:=(List.getElem?_eq_some_iff.1 SN).1;obtain ⟨hwf,Bd⟩:=yG htr;have hAt:JH x.l 0 tr:=⟨by omega,hwf,[],by simpa using Bd⟩;refine aA re (aB (v:=Flat.val (xC:SV)) mY hs.hb rfl (aZ T3 hs (C162 _ x.l 0 tr (tr.size+1) _ (DL.flat (lf (hs.p1).eY)) (by omega) hAt (by omega)) (λ w4 he hs=>cZ (aC (λ gQ=>?_) (λ gQ=>?_)))))
   ·refine aQ fz (hL.ext hs.aE) (by omega) SN (λ _ wm=>bT (tk).at_ lu wm rfl rfl (λ _ wu=>have hs:=hs.drew;aD bN (wu) ?_))
    have hR:R=([],0,7,tk.at_):=by
     rw [if_pos gQ] at hr3; exact (Option.some.inj hr3).symm
    rw [hR];exact ⟨⟨none,0,0⟩,rfl,(hs.gI (Φ:=λ w=>DL w (Flat.val (⟨none,0,0⟩:SV)) ([]:List cY)) λ w=>DL.nil w).fresh⟩
   ·refine aA re (aB (v:=Flat.val (xC:SV)) mY hs.hb rfl (aJ lZ (DL.flat (lf (hs.p1).eY)) (cZ (aC (λ nB=>?_) (λ nB=>?_)))))
    ·refine aQ fz (hL.ext hs.aE) (by omega) SN (λ _ rq=>bT (tk).at_ lu rq rfl rfl (λ _ wv=>have hs:=hs.drew;aD bN (wv) ?_))
     have hR:R=([],0,2,tk.at_):=by
      rw [if_neg gQ,if_pos (by omega)] at hr3; exact (Option.some.inj hr3).symm
     rw [hR];exact ⟨⟨none,0,0⟩,rfl,(hs.gI (Φ:=λ w=>DL w (Flat.val (⟨none,0,0⟩:SV)) ([]:List cY)) λ w=>DL.nil w).fresh⟩
    ·refine aA re (have hs:=hs.drew;aB (v:=Flat.val (xC:SV)) mY hs.hb rfl (aA nV (aB (v:=.int .i64 (x).to) bN hs.hb rfl ?_)));have hs:=hs.p1.dQ (Ψ:=λ w=>DL w (Flat.val xC) x.l) (λ w h=>lf h)
     have hR:R=(x.l,x.to,0,0):=by
      rw [if_neg gQ,if_neg (by omega)] at hr3; exact (Option.some.inj hr3).symm
     rw [hR];exact ⟨xC,rfl,hs.fresh⟩
structure fL where
 at_:Int
 e:Int
 pos:Int
deriving DecidableEq
def jb (l:List bH) (s:fL) (e:Int):fL:=if s.e=0 then {s with e:=if (l.length:Int)≤s.at_ then 6 else e,pos:=mR l s.at_} else s
def dP (l:List bH) (s:fL) (t:ByteArray):fL:=if (decide (s.e=0) && sQ l s.at_ t)=true then {s with at_:=s.at_+1} else jb l s 5
def kF (l:List bH) (i:Int):Option bH:=if 0≤i then l[i.toNat]? else none
def sR (l:List bH) (s:fL):Bool:=decide (s.e=0) && (match kF l s.at_ with | some t=>decide (t.kind=1) && j6 t.text | none=>false)
def oL (l:List bH) (i:Int):bH:=(kF l i).getD ⟨0,⟨#[]⟩,0,0⟩
def cR (l:List bH) (s:fL):fL × ByteArray:=if sR l s=true then ({s with at_:=s.at_+1},(oL l s.at_).text) else (jb l s 5,⟨#[]⟩)
def qF (l:List bH) (s:fL):Option (fL × List cY):=if s.e≠0 then some (s,[]) else (vC l s.at_).bind λ R=>
 if R.2.2.1≠0 then some ({s with e:=R.2.2.1,pos:=R.2.2.2},[]) else if 0≤R.2.1∧R.2.1≤l.length then some ({s with at_:=R.2.1},R.1) else none
def OR (l:List bH) (s:fL):Bool:=decide (s.e=0) && (match kF l s.at_ with | some t=>decide (t.kind=2) | none=>false)
def kG (l:List bH) (s:fL):fL × Int:=if OR l s=true then (if 1≤(oL l s.at_).n∧(oL l s.at_).n≤8 then ({s with at_:=s.at_+1},(oL l s.at_).n) else (jb l s 11,0)) else (jb l s 5,0)
def CY:List ByteArray:=[⟨#[]⟩,⟨#[]⟩,⟨#[108,111,97,100]⟩,⟨#[115,116,111,114,101]⟩,⟨#[99,97,115]⟩,⟨#[102,108,117,115,104]⟩,⟨#[111,112,116]⟩,⟨#[115,102,101,110,99,101]⟩,⟨#[109,102,101,110,99,101]⟩,⟨#[116,97,107,101]⟩,⟨#[103,105,118,101]⟩,⟨#[105,102]⟩,⟨#[108,111,111,112]⟩,⟨#[98,114,101,97,107]⟩,⟨#[99,104,101,99,107]⟩]
def Hp (k:Int):ByteArray:=(CY[k.toNat]?).getD ⟨#[]⟩
def lX (l:List bH) (s:fL):Prop:=0≤s.at_∧s.at_≤l.length
section
variable {l:List bH} {s:fL} {e:Int} {t:ByteArray}
theorem sS (h:lX l s):lX l (jb l s e):=by unfold jb; split <;> exact h
theorem fy (h:lX l s):lX l (dP l s t):=by
 unfold dP; split
 ·rename_i h2
  rw [Bool.and_eq_true] at h2
  have:=rU h2.2
  exact ⟨by show 0≤s.at_+1; omega,by show s.at_+1≤_; omega⟩
 ·exact sS h
theorem mv {i:Int} {k:bH} (h:kF l i=some k):0≤i∧i<l.length∧l[i.toNat]? = some k:=by
 unfold kF at h
 split at h
 ·have:=(List.getElem?_eq_some_iff.1 h).1; exact ⟨by omega,by omega,h⟩
 ·cases h
theorem AN (h:sR l s=true):s.e=0∧∃ k,kF l s.at_=some k∧k.kind=1∧j6 k.text=true:=by
 unfold sR at h
 rw [Bool.and_eq_true,decide_eq_true_eq] at h
 refine ⟨h.1,?_⟩
 cases hk:kF l s.at_ with
 | none=>rw [hk] at h; cases h.2
 | some k=>
  rw [hk] at h
  have:=h.2; dsimp only at this
  rw [Bool.and_eq_true,decide_eq_true_eq] at this
  exact ⟨k,rfl,this⟩
theorem Rb (h:OR l s=true):s.e=0∧∃ k,kF l s.at_=some k∧k.kind=2:=by
 unfold OR at h
 rw [Bool.and_eq_true,decide_eq_true_eq] at h
 refine ⟨h.1,?_⟩
 cases hk:kF l s.at_ with
 | none=>rw [hk] at h; cases h.2
 | some k=>rw [hk] at h; exact ⟨k,rfl,by simpa using h.2⟩
theorem gB (h:lX l s):lX l (cR l s).1:=by
 unfold cR; split
 ·rename_i h2
  obtain ⟨_,k,hk,_⟩:=AN h2
  have:=mv hk
  exact ⟨by show 0≤s.at_+1; omega,by show s.at_+1≤_; omega⟩
 ·exact sS h
theorem SO (h:lX l s):lX l (kG l s).1:=by
 unfold kG; split
 ·rename_i h2
  obtain ⟨_,k,hk,_⟩:=Rb h2
  have:=mv hk
  split
  ·exact ⟨by show 0≤s.at_+1; omega,by show s.at_+1≤_; omega⟩
  ·exact sS h
 ·exact sS h
theorem rV {s':fL} {x:List cY} (h:lX l s) (he:qF l s=some (s',x)):lX l s':=by
 unfold qF at he
 split at he
 ·cases he; exact h
 ·cases hx:vC l s.at_ with
  | none=>rw [hx] at he; cases he
  | some R=>
   rw [hx] at he
   simp only [Option.bind_some] at he
   split at he
   ·cases he; exact h
   ·split at he
    ·rename_i h2; cases he; exact h2
    ·cases he
end
@[reducible] def dU (lv ov:Value) (s:fL):List Value:=[lv,.int .i64 s.at_,.int .i64 s.e,.int .i64 s.pos,ov]
@[reducible] def dZ (lv:Value) (s:fL):List Value:=[lv,.int .i64 s.at_,.int .i64 s.e,.int .i64 s.pos]
def gT (l:List bH) (s:fL) (t:ByteArray):fL × Bool:=if (decide (s.e=0) && sQ l s.at_ t)=true then ({s with at_:=s.at_+1},true) else (s,false)
def eS (l:List bH) (s:fL):fL × dH:=if sR l s=true then ({s with at_:=s.at_+1},⟨(oL l s.at_).text,0,(oL l s.at_).at_⟩) else (jb l s 5,⟨⟨#[]⟩,0,0⟩)
theorem j3 {l:List bH} {s:fL} {t:ByteArray} (h:lX l s):lX l (gT l s t).1:=by
 unfold gT; split
 ·rename_i h2
  rw [Bool.and_eq_true] at h2
  have:=rU h2.2
  exact ⟨by show 0≤s.at_+1; omega,by show s.at_+1≤_; omega⟩
 ·exact h
theorem uD {l:List bH} {s:fL} (h:lX l s):lX l (eS l s).1:=by
 unfold eS; split
 ·rename_i h2
  obtain ⟨_,k,hk,_⟩:=AN h2
  have:=mv hk
  exact ⟨by show 0≤s.at_+1; omega,by show s.at_+1≤_; omega⟩
 ·exact sS h
theorem Xu {l:List bH} {s s2:fL} {x:List cY} (h:qF l s=some (s2,x)) (he:¬ s.e≠0):∃ R,vC l s.at_=some R∧
  (if R.2.2.1≠0 then some ({s with e:=R.2.2.1,pos:=R.2.2.2},[]) else if 0≤R.2.1∧R.2.1≤l.length then some ({s with at_:=R.2.1},R.1) else none)=some (s2,x):=by
 unfold qF at h; rw [if_neg he] at h
 cases hx:vC l s.at_ with
 | none=>rw [hx] at h; cases h
 | some R=>rw [hx] at h; exact ⟨R,rfl,h⟩
theorem Xv {l:List bH} {s s2:fL} {x:List cY} {R:List cY × Int × Int × Int} (h:(if R.2.2.1≠0 then some ({s with e:=R.2.2.1,pos:=R.2.2.2},[]) else if 0≤R.2.1∧R.2.1≤l.length then some ({s with at_:=R.2.1},R.1) else none)=some (s2,x)) (he:¬ R.2.2.1≠0):0≤R.2.1∧R.2.1≤l.length:=by
 rw [if_neg he] at h
 split at h
 ·assumption
 ·cases h
theorem C254 (p:Nat) (lv ov:Value) (l:List bH) (s:fL) (e:Int) (F:Nat→Prop) (w:World) (hF:(cC p (dU lv ov s)).p w F) (hT:∀ w',iH F w w'→eL (λ _=>True) w' lv l) (hk:iD l) (h0:lX l s):CR 254 [(.pointer (some ⟨p,0,none⟩)),.int .i64 e] w (λ v w'=>v = .tuple #[]∧qx F (cC p (dU lv ov (jb l s e))) w w'):=by
 have hs:=St.begin hF;have Fx:=hk.n;have hn:l.length≤1000000:=by omega
 have td:=hk.at_;obtain ⟨Rc,Rd⟩:=id h0;refine aaY _ _ _ _ ?_;unfold S254;refine aF (aA kr (aB nn hs.hb rfl (aH (aC (λ gi=>?_) (λ gi=>?_)))))
 ·refine aF (aA kr (aV hs nn (eE rfl) (rfl) (λ w1 hs=>?_)));refine ⟨_,?_,λ _ h=>h⟩;refine aF (aA eP (have hs:=hs.drew;aB bN hs.hb rfl (aF (aA gU (aB iR hs.hb rfl (aJ fz (hT _ hs.aE) (dI (aC (λ iS=>?_) (λ iS=>?_)))))))))
  ·refine aF (aA kr (aV hs nn (eE rfl) (rfl) (λ w2 hs=>?_)));intro fu;refine aF (aA gU (have hs:=hs.drew;aB iR hs.hb rfl (aF (aA eP (aB bN hs.hb rfl (aZ Gt hs (C215 _ l s.at_ _ (hT _ hs.aE) hn td) (λ w4 he hs=>aF (aA zI (aV hs bN (eE rfl) (rfl) (λ w5 hs=>?_))))))))));have hb:jb l s e=(⟨s.at_,6,(mR l s.at_)⟩:fL):=by unfold jb; rw [if_pos gi,if_pos iS]
   rw [hb];exact ⟨rfl,hs.mut⟩
  ·intro fu;refine aF (aA gU (have hs:=hs.drew;aB iR hs.hb rfl (aF (aA eP (aB bN hs.hb rfl (aZ Gt hs (C215 _ l s.at_ _ (hT _ hs.aE) hn td) (λ w4 he hs=>aF (aA zI (aV hs bN (eE rfl) (rfl) (λ w5 hs=>?_))))))))));have hb:jb l s e=(⟨s.at_,e,(mR l s.at_)⟩:fL):=by unfold jb; rw [if_pos gi,if_neg iS]
   rw [hb];exact ⟨rfl,hs.mut⟩
 ·have hb:jb l s e=s:=by unfold jb; rw [if_neg gi]
  rw [hb];exact ⟨rfl,hs.mut⟩
theorem C170 (p:Nat) (lv:Value) (l:List bH) (s:fL) (F:Nat→Prop) (w:World) (hF:(cC p (dZ lv s)).p w F) (hT:∀ w',iH F w w'→eL (λ _=>True) w' lv l) (hk:iD l) (h0:lX l s):CR 170 [(.pointer (some ⟨p,0,none⟩))] w (λ v w'=>v = .tuple #[]∧qx F (cC p (dZ lv (jb l s 5))) w w'):=by
 have hs:=St.begin hF;have Fx:=hk.n;have hn:l.length≤1000000:=by omega
 have td:=hk.at_;obtain ⟨Rc,Rd⟩:=id h0;refine ZK _ _ _ ?_;unfold S170;refine aF (aA l9 (aB nn hs.hb rfl (aH (aC (λ oA=>?_) (λ oA=>?_)))))
 ·refine aF (aA l9 (aV hs nn (eE rfl) (rfl) (λ w1 hs=>?_)));refine ⟨_,?_,λ _ h=>h⟩;refine aF (aA fk (have hs:=hs.drew;aB bN hs.hb rfl (aF (aA jO (aB iR hs.hb rfl (aJ fz (hT _ hs.aE) (dI (aC (λ fi=>?_) (λ fi=>?_)))))))))
  ·refine aF (aA l9 (aV hs nn (eE rfl) (rfl) (λ w2 hs=>?_)));intro fu;refine aF (aA jO (have hs:=hs.drew;aB iR hs.hb rfl (aF (aA fk (aB bN hs.hb rfl (aZ Gt hs (C215 _ l s.at_ _ (hT _ hs.aE) hn td) (λ w4 he hs=>aF (aA vW (aV hs bN (eE rfl) (rfl) (λ w5 hs=>?_))))))))));have hb:jb l s 5=(⟨s.at_,6,(mR l s.at_)⟩:fL):=by unfold jb; rw [if_pos oA,if_pos fi]
   rw [hb];exact ⟨rfl,hs.mut⟩
  ·intro fu;refine aF (aA jO (have hs:=hs.drew;aB iR hs.hb rfl (aF (aA fk (aB bN hs.hb rfl (aZ Gt hs (C215 _ l s.at_ _ (hT _ hs.aE) hn td) (λ w4 he hs=>aF (aA vW (aV hs bN (eE rfl) (rfl) (λ w5 hs=>?_))))))))));have hb:jb l s 5=(⟨s.at_,5,(mR l s.at_)⟩:fL):=by unfold jb; rw [if_pos oA,if_neg fi]
   rw [hb];exact ⟨rfl,hs.mut⟩
 ·have hb:jb l s 5=s:=by unfold jb; rw [if_neg oA]
  rw [hb];exact ⟨rfl,hs.mut⟩
theorem C234 (p:Nat) (lv ov:Value) (l:List bH) (s:fL) (t:ByteArray) (F:Nat→Prop) (w:World) (hF:(cC p (dU lv ov s)).p w F) (hT:∀ w',iH F w w'→eL (λ _=>True) w' lv l) (hk:iD l) (h0:lX l s):CR 234 [(.pointer (some ⟨p,0,none⟩)),.string t] w (λ v w'=>v = .tuple #[]∧qx F (cC p (dU lv ov (dP l s t))) w w'):=by
 have hs:=St.begin hF;have Fx:=hk.n;have hn:l.length≤1000000:=by omega
 have td:=hk.at_;obtain ⟨Rc,Rd⟩:=id h0;refine aaE _ _ _ _ ?_;unfold S234;refine ⟨λ jv w'=>jv = .bool (decide (s.e=0) && sQ l s.at_ t)∧St w F [cC p (dU lv ov s)] w',?_,?_⟩
 ·refine aF (aA kr (have hs:=hs.drew;aB nn hs.hb rfl (aH (aC (λ gi=>?_) (λ gi=>?_)))))
  ·refine aF (aA gU (aB iR hs.hb rfl (aF (aA eP (aB bN hs.hb rfl (aZ vp hs (C211 _ l s.at_ t _ (hT _ hs.aE) hn) (λ w1 he hs=>?_)))))));exact ⟨vb (by first | (rw [decide_eq_true gi]; rfl) | (rw [decide_eq_false gi]; rfl)),hs⟩
  ·exact ⟨vb (by first | (rw [decide_eq_true gi]; rfl) | (rw [decide_eq_false gi]; rfl)),hs⟩
 ·rintro _ w2 ⟨rfl,hs⟩ fu;refine aY (λ jC=>?_) (λ jC=>?_)
  ·have ayL:=rU (by rw [Bool.and_eq_true] at jC; exact jC.2);refine aF (aA eP (aB bN hs.hb rfl (aN (by omega) (aF (aA eP (aV hs bN (eE rfl) (rfl) (λ w3 hs=>?_)))))));have hb:dP l s t={s with at_:=s.at_+1}:=by unfold dP; rw [if_pos (by simpa using jC)]
   rw [hb];exact ⟨rfl,hs.mut⟩
  ·refine bI Gw hs (H':=λ _=>cC p (dU lv ov (jb l s 5))) (Φ:=λ _ _=>True) (λ F2 eN ey=>?_) ?_
   ·exact (C254 p lv ov l s 5 F2 _ eN (λ w' hc=>hT w' (ey w' hc).aE) hk h0).mono λ _ _ r=>r.mono λ _ _ h=>⟨trivial,h.2⟩
   rintro _ w4 _ hs;have hb:dP l s t=jb l s 5:=by unfold dP; rw [if_neg (by simpa using jC)]
   rw [hb];exact ⟨rfl,hs.mut⟩
theorem C165 (p:Nat) (lv:Value) (l:List bH) (s:fL) (t:ByteArray) (F:Nat→Prop) (w:World) (hF:(cC p (dZ lv s)).p w F) (hT:∀ w',iH F w w'→eL (λ _=>True) w' lv l) (hk:iD l) (h0:lX l s):CR 165 [(.pointer (some ⟨p,0,none⟩)),.string t] w (λ v w'=>v = .bool (gT l s t).2∧qx F (cC p (dZ lv (gT l s t).1)) w w'):=by
 have hs:=St.begin hF;have Fx:=hk.n;have hn:l.length≤1000000:=by omega
 have td:=hk.at_;obtain ⟨Rc,Rd⟩:=id h0;refine ZF _ _ _ _ ?_;unfold S165;refine ⟨λ jv w'=>jv = .bool (decide (s.e=0) && sQ l s.at_ t)∧St w F [cC p (dZ lv s)] w',?_,?_⟩
 ·refine aF (aA l9 (have hs:=hs.drew;aB nn hs.hb rfl (aH (aC (λ gr=>?_) (λ gr=>?_)))))
  ·refine aF (aA jO (aB iR hs.hb rfl (aF (aA fk (aB bN hs.hb rfl (aZ vp hs (C211 _ l s.at_ t _ (hT _ hs.aE) hn) (λ w1 he hs=>?_)))))));exact ⟨vb (by first | (rw [decide_eq_true gr]; rfl) | (rw [decide_eq_false gr]; rfl)),hs⟩
  ·exact ⟨vb (by first | (rw [decide_eq_true gr]; rfl) | (rw [decide_eq_false gr]; rfl)),hs⟩
 ·rintro _ w2 ⟨rfl,hs⟩ fu;refine aY (λ gz=>?_) (λ gz=>?_)
  ·have ayL:=rU (by rw [Bool.and_eq_true] at gz; exact gz.2);refine aF (aA fk (aB bN hs.hb rfl (aN (by omega) (aF (aA fk (aV hs bN (eE rfl) (rfl) (λ w3 hs=>?_)))))));have hb:gT l s t=({s with at_:=s.at_+1},true):=by unfold gT; rw [if_pos (by simpa using gz)]
   rw [hb];exact ⟨rfl,hs.mut⟩
  ·have hb:gT l s t=(s,false):=by unfold gT; rw [if_neg (by simpa using gz)]
   rw [hb];exact ⟨rfl,hs.mut⟩
theorem C212 (p:Nat) (lv:Value) (l:List bH) (s:fL) (t:ByteArray) (F:Nat→Prop) (w:World) (hF:(cC p (dZ lv s)).p w F) (hT:∀ w',iH F w w'→eL (λ _=>True) w' lv l) (hk:iD l) (h0:lX l s):CR 212 [(.pointer (some ⟨p,0,none⟩)),.string t] w (λ v w'=>v = .tuple #[]∧qx F (cC p (dZ lv (dP l s t))) w w'):=by
 have hs:=St.begin hF;have Fx:=hk.n;have hn:l.length≤1000000:=by omega
 have td:=hk.at_;obtain ⟨Rc,Rd⟩:=id h0;refine aaj _ _ _ _ ?_;unfold S212;refine bI xZ hs (H':=λ _=>cC p (dZ lv (gT l s t).1)) (Φ:=λ v _=>v = .bool (gT l s t).2) (λ F2 eN ey=>?_) ?_
 ·exact C165 p lv l s t F2 _ eN (λ w' hc=>hT w' (ey w' hc).aE) hk h0
 rintro _ w1 rfl hs;refine bZ (aY (λ iN=>?_) (λ iN=>?_))
 ·refine bI PC hs (H':=λ _=>cC p (dZ lv (jb l (gT l s t).1 5))) (Φ:=λ _ _=>True) (λ F2 eN ey=>?_) ?_
  ·exact (C170 p lv l (gT l s t).1 F2 _ eN (λ w' hc=>hT w' (ey w' hc).aE) hk (j3 h0)).mono λ _ _ r=>r.mono λ _ _ h=>⟨trivial,h.2⟩
  rintro _ w2 _ hs
  have tH:dP l s t=jb l (gT l s t).1 5:=by
   have h7:(gT l s t).2=false:=by simpa using iN
   unfold gT at h7 ⊢; unfold dP
   split at h7
   ·cases h7
   ·rename_i h8; rw [if_neg h8,if_neg h8]
  rw [tH];exact ⟨rfl,hs.mut⟩
 ·have tH:dP l s t=(gT l s t).1:=by
   have h7:(gT l s t).2=true:=by simpa using iN
   unfold gT at h7 ⊢; unfold dP
   split at h7
   ·rename_i h8; rw [if_pos h8,if_pos h8]
   ·cases h7
  rw [tH];exact ⟨rfl,hs.mut⟩
theorem C260 (p:Nat) (lv ov:Value) (l:List bH) (s:fL) (F:Nat→Prop) (w:World) (hF:(cC p (dU lv ov s)).p w F) (hT:∀ w',iH F w w'→eL (λ _=>True) w' lv l) (hk:iD l) (h0:lX l s):CR 260 [(.pointer (some ⟨p,0,none⟩))] w (λ v w'=>v = .string (cR l s).2∧qx F (cC p (dU lv ov (cR l s).1)) w w'):=by
 have hs:=St.begin hF;have Fx:=hk.n;have hn:l.length≤1000000:=by omega
 have td:=hk.at_;obtain ⟨Rc,Rd⟩:=id h0;refine aa4 _ _ _ ?_;unfold S260;refine ⟨λ jv w'=>jv = .bool (sR l s)∧St w F [cC p (dU lv ov s)] w',?_,?_⟩
 ·refine aF (aA kr (have hs:=hs.drew;aB nn hs.hb rfl (aH (aC (λ iN=>?_) (λ iN=>?_)))))
  ·refine aF (aA eP (aB bN hs.hb rfl (aF (aA gU (aB iR hs.hb rfl (aJ fz (hT _ hs.aE) (aR (aC (λ gj=>?_) (λ gj=>?_)))))))))
   ·refine aF (aA gU (aB iR hs.hb rfl (aF (aA eP (aB bN hs.hb rfl ?_)))));obtain ⟨B8,lL⟩:=gx (l) (i:=(s.at_).toNat) (by omega);refine aQ fz (hT _ hs.aE) (by omega) lL (λ _ DZ=>bT (B8).kind lr DZ rfl rfl (λ _ od=>aD bN (od) (aH (aC (λ kx=>?_) (λ kx=>?_)))))
    ·refine aF (aA gU (aB iR hs.hb rfl (aF (aA eP (aB bN hs.hb rfl (aQ fz (hT _ hs.aE) (by omega) lL (λ _ yo=>bT (B8).text m8 yo rfl rfl (λ _ AK=>aD kf (AK) (aZ tL hs (C161 _ _ (by have:=td _ (List.mem_of_getElem? lL); omega)) (λ w1 he hs=>?_))))))))));exact ⟨vb (by unfold sR kF; first | (rw [decide_eq_false iN]; rfl) | (rw [if_pos (by omega),List.getElem?_eq_none (by omega)]; simp; done) | (rw [if_pos (by omega),lL,decide_eq_true iN]; dsimp only; first | (rw [decide_eq_false kx]; rfl) | (rw [decide_eq_true kx]; rfl))),hs⟩
    ·exact ⟨vb (by unfold sR kF; first | (rw [decide_eq_false iN]; rfl) | (rw [if_pos (by omega),List.getElem?_eq_none (by omega)]; simp; done) | (rw [if_pos (by omega),lL,decide_eq_true iN]; dsimp only; first | (rw [decide_eq_false kx]; rfl) | (rw [decide_eq_true kx]; rfl))),hs⟩
   ·exact ⟨vb (by unfold sR kF; first | (rw [decide_eq_false iN]; rfl) | (rw [if_pos (by omega),List.getElem?_eq_none (by omega)]; simp; done) | (rw [if_pos (by omega),lL,decide_eq_true iN]; dsimp only; first | (rw [decide_eq_false kx]; rfl) | (rw [decide_eq_true kx]; rfl))),hs⟩
  ·exact ⟨vb (by unfold sR kF; first | (rw [decide_eq_false iN]; rfl) | (rw [if_pos (by omega),List.getElem?_eq_none (by omega)]; simp; done) | (rw [if_pos (by omega),lL,decide_eq_true iN]; dsimp only; first | (rw [decide_eq_false kx]; rfl) | (rw [decide_eq_true kx]; rfl))),hs⟩
 ·rintro _ w2 ⟨rfl,hs⟩ fu;refine aY (λ rG=>?_) (λ rG=>?_)
  ·obtain ⟨_,tk,AX,_,_⟩:=AN rG;obtain ⟨art,aru,akE⟩:=mv AX;have SN:l[(s.at_+1 - 1).toNat]? = some tk:=by rw [← akE]; congr 2; omega
   refine aF (aA eP (aB bN hs.hb rfl (aN (by omega) (aF (aA eP (aV hs bN (eE rfl) (rfl) (λ w3 hs=>aF (aA gU (have hs:=hs.drew;aB iR hs.hb rfl (aF (aA eP (aB bN hs.hb rfl ?_))))))))))));refine gD (by omega) (aQ fz (hT _ hs.aE) (by omega) SN (λ _ yl=>bT (tk).text m8 yl rfl rfl (λ _ Xw=>aD kf (Xw) ?_)));have hb:cR l s=({s with at_:=s.at_+1},tk.text):=by unfold cR; rw [if_pos rG]; unfold oL; rw [AX]; rfl
   rw [hb];exact ⟨rfl,hs.mut⟩
  ·refine bI Gw hs (H':=λ _=>cC p (dU lv ov (jb l s 5))) (Φ:=λ _ _=>True) (λ F2 eN ey=>?_) ?_
   ·exact (C254 p lv ov l s 5 F2 _ eN (λ w' hc=>hT w' (ey w' hc).aE) hk h0).mono λ _ _ r=>r.mono λ _ _ h=>⟨trivial,h.2⟩
   rintro _ w4 _ hs;have hb:cR l s=(jb l s 5,⟨#[]⟩):=by unfold cR; rw [if_neg (by simpa using rG)]
   rw [hb];exact ⟨rfl,hs.mut⟩
theorem C167 (p:Nat) (lv:Value) (l:List bH) (s:fL) (F:Nat→Prop) (w:World) (hF:(cC p (dZ lv s)).p w F) (hT:∀ w',iH F w w'→eL (λ _=>True) w' lv l) (hk:iD l) (h0:lX l s):CR 167 [(.pointer (some ⟨p,0,none⟩))] w (λ v w'=>v=Flat.val (eS l s).2∧qx F (cC p (dZ lv (eS l s).1)) w w'):=by
 have hs:=St.begin hF;have Fx:=hk.n;have hn:l.length≤1000000:=by omega
 have td:=hk.at_;obtain ⟨Rc,Rd⟩:=id h0;refine ZH _ _ _ ?_;unfold S167;refine aO hs CJ (λ me w1 hs=>?_);refine ⟨λ jv w'=>jv = .bool (sR l s)∧St w F [cC p (dZ lv s),cC me (Flat.enc (⟨ByteArray.mk #[],0,0⟩:dH))] w',?_,?_⟩
 ·refine aF (aA l9 (have hs:=hs.drew;aB nn hs.p1.hb rfl (aH (aC (λ iN=>?_) (λ iN=>?_)))))
  ·refine aF (aA fk (aB bN hs.p1.hb rfl (aF (aA jO (aB iR hs.p1.hb rfl (aJ fz (hT _ hs.aE) (aR (aC (λ gj=>?_) (λ gj=>?_)))))))))
   ·refine aF (aA jO (aB iR hs.p1.hb rfl (aF (aA fk (aB bN hs.p1.hb rfl ?_)))));obtain ⟨B8,lL⟩:=gx (l) (i:=(s.at_).toNat) (by omega);refine aQ fz (hT _ hs.aE) (by omega) lL (λ _ DZ=>bT (B8).kind lr DZ rfl rfl (λ _ od=>aD bN (od) (aH (aC (λ kx=>?_) (λ kx=>?_)))))
    ·refine aF (aA jO (aB iR hs.p1.hb rfl (aF (aA fk (aB bN hs.p1.hb rfl (aQ fz (hT _ hs.aE) (by omega) lL (λ _ yo=>bT (B8).text m8 yo rfl rfl (λ _ AK=>aD kf (AK) (aZ tL hs (C161 _ _ (by have:=td _ (List.mem_of_getElem? lL); omega)) (λ w2 he hs=>?_))))))))));have hs:=hs.p1;exact ⟨vb (by unfold sR kF; first | (rw [decide_eq_false iN]; rfl) | (rw [if_pos (by omega),List.getElem?_eq_none (by omega)]; simp; done) | (rw [if_pos (by omega),lL,decide_eq_true iN]; dsimp only; first | (rw [decide_eq_false kx]; rfl) | (rw [decide_eq_true kx]; rfl))),hs⟩
    ·have hs:=hs.p1;exact ⟨vb (by unfold sR kF; first | (rw [decide_eq_false iN]; rfl) | (rw [if_pos (by omega),List.getElem?_eq_none (by omega)]; simp; done) | (rw [if_pos (by omega),lL,decide_eq_true iN]; dsimp only; first | (rw [decide_eq_false kx]; rfl) | (rw [decide_eq_true kx]; rfl))),hs⟩
   ·have hs:=hs.p1;exact ⟨vb (by unfold sR kF; first | (rw [decide_eq_false iN]; rfl) | (rw [if_pos (by omega),List.getElem?_eq_none (by omega)]; simp; done) | (rw [if_pos (by omega),lL,decide_eq_true iN]; dsimp only; first | (rw [decide_eq_false kx]; rfl) | (rw [decide_eq_true kx]; rfl))),hs⟩
  ·have hs:=hs.p1;exact ⟨vb (by unfold sR kF; first | (rw [decide_eq_false iN]; rfl) | (rw [if_pos (by omega),List.getElem?_eq_none (by omega)]; simp; done) | (rw [if_pos (by omega),lL,decide_eq_true iN]; dsimp only; first | (rw [decide_eq_false kx]; rfl) | (rw [decide_eq_true kx]; rfl))),hs⟩
 ·rintro _ w3 ⟨rfl,hs⟩ fu;refine aY (λ rG=>?_) (λ rG=>?_)
  ·obtain ⟨_,tk,AX,_,_⟩:=AN rG;obtain ⟨art,aru,akE⟩:=mv AX;have SN:l[(s.at_+1 - 1).toNat]? = some tk:=by rw [← akE]; congr 2; omega
   refine aF (aA fk (aB bN hs.hb rfl (aN (by omega) (aF (aA fk (aV hs bN (eE rfl) (rfl) (λ w4 hs=>aF (aA jO (have hs:=hs.drew;aB iR hs.hb rfl (aF (aA fk (aB bN hs.hb rfl ?_))))))))))));refine gD (by omega) (aQ fz (hT _ hs.aE) (by omega) SN (λ _ yl=>bT (tk).text m8 yl rfl rfl (λ _ Xw=>aD kf (Xw) (aF (aA jO (aB iR hs.hb rfl (aF (aA fk (aB bN hs.hb rfl (gD (by omega) (aQ fz (hT _ hs.aE) (by omega) SN (λ _ arv=>bT (tk).at_ lu arv rfl rfl (λ _ Xx=>?_)))))))))))))
   refine aD bN (Xx) (pop (DC _ _) (aI (x:=(⟨(tk).text,0,(tk).at_⟩:dH)) hs.p1 yd rfl rfl (λ w5 hs=>aD yd hs.At ?_)));have hs:=(hs).drop;have hb:eS l s=({s with at_:=s.at_+1},⟨tk.text,0,tk.at_⟩):=by unfold eS; rw [if_pos rG]; unfold oL; rw [AX]; rfl
   rw [hb];exact ⟨rfl,hs.mut⟩
  ·refine bI PC hs (H':=λ _=>cC p (dZ lv (jb l s 5))) (Φ:=λ _ _=>True) (λ F2 eN ey=>?_) ?_
   ·exact (C170 p lv l s F2 _ eN (λ w' hc=>hT w' (ey w' hc).aE) hk h0).mono λ _ _ r=>r.mono λ _ _ h=>⟨trivial,h.2⟩
   rintro _ w6 _ hs;refine pop (abp) (aI (x:=(⟨(ByteArray.mk #[]),0,0⟩:dH)) hs.p1 yd rfl rfl (λ w7 hs=>aD yd hs.At ?_));have hs:=(hs).drop;have hb:eS l s=(jb l s 5,⟨⟨#[]⟩,0,0⟩):=by unfold eS; rw [if_neg (by simpa using rG)]
   rw [hb];exact ⟨rfl,hs.mut⟩
theorem C253 (k:Int) (w:World) (hk:0≤k∧k≤14):CR 253 [.int .i64 k] w (λ v w'=>v = .string (Hp k)∧Ext w w'):=by
 have hs:=St.start w;refine aaX _ _ _ ?_;unfold S253;refine bX (CY) hs mZ rfl rfl (eE rfl) (λ arp w1 hs=>?_);have U5:CY.length=15:=rfl;obtain ⟨ayz,Mg⟩:=gx (CY) (i:=(k).toNat) (by omega);refine dT hs mZ (by omega) (by omega) (λ _ Sh=>ga hs kf Sh Mg ?_);refine ⟨?_,hs.drop.aE⟩;unfold Hp;rw [Mg]; rfl
theorem C262 (p:Nat) (lv ov:Value) (l:List bH) (s:fL) (F:Nat→Prop) (w:World) (hF:(cC p (dU lv ov s)).p w F) (hT:∀ w',iH F w w'→eL (λ _=>True) w' lv l) (hk:iD l) (h0:lX l s):CR 262 [(.pointer (some ⟨p,0,none⟩))] w (λ v w'=>v = .int .i64 (kG l s).2∧qx F (cC p (dU lv ov (kG l s).1)) w w'):=by
 have hs:=St.begin hF;have Fx:=hk.n;have hn:l.length≤1000000:=by omega
 have td:=hk.at_;obtain ⟨Rc,Rd⟩:=id h0;refine aa6 _ _ _ ?_;unfold S262;refine ⟨λ jv w'=>jv = .bool (OR l s)∧St w F [cC p (dU lv ov s)] w',?_,?_⟩
 ·refine aF (aA kr (have hs:=hs.drew;aB nn hs.hb rfl (aH (aC (λ gi=>?_) (λ gi=>?_)))))
  ·refine aF (aA eP (aB bN hs.hb rfl (aF (aA gU (aB iR hs.hb rfl (aJ fz (hT _ hs.aE) (aR (aC (λ fi=>?_) (λ fi=>?_)))))))))
   ·refine aF (aA gU (aB iR hs.hb rfl (aF (aA eP (aB bN hs.hb rfl ?_)))));obtain ⟨DY,lJ⟩:=gx (l) (i:=(s.at_).toNat) (by omega);refine aQ fz (hT _ hs.aE) (by omega) lJ (λ _ od=>bT (DY).kind lr od rfl rfl (λ _ oH=>aD bN (oH) (aH ?_)));exact ⟨vb (by unfold OR kF; first | (rw [decide_eq_false gi]; rfl) | (rw [if_pos (by omega),List.getElem?_eq_none (by omega)]; simp; done) | (rw [if_pos (by omega),lJ,decide_eq_true gi]; rfl)),hs⟩
   ·exact ⟨vb (by unfold OR kF; first | (rw [decide_eq_false gi]; rfl) | (rw [if_pos (by omega),List.getElem?_eq_none (by omega)]; simp; done) | (rw [if_pos (by omega),lJ,decide_eq_true gi]; rfl)),hs⟩
  ·exact ⟨vb (by unfold OR kF; first | (rw [decide_eq_false gi]; rfl) | (rw [if_pos (by omega),List.getElem?_eq_none (by omega)]; simp; done) | (rw [if_pos (by omega),lJ,decide_eq_true gi]; rfl)),hs⟩
 ·rintro _ w1 ⟨rfl,hs⟩ fu;refine aY (λ gX=>?_) (λ gX=>?_)
  ·obtain ⟨_,tk,AX,_⟩:=Rb gX;obtain ⟨art,aru,SN⟩:=mv AX;refine aF (aA gU (have hs:=hs.drew;aB iR hs.hb rfl (aF (aA eP (aB bN hs.hb rfl (aQ fz (hT _ hs.aE) (by omega) SN (λ _ yo=>bT (tk).n q9 yo rfl rfl (λ _ AK=>aD bN (AK) ?_))))))));refine ⟨λ jv w'=>jv = .bool (decide (1≤tk.n∧tk.n≤8))∧St w F [cC p (dU lv ov s)] w',?_,?_⟩
   ·refine dI (aC (λ rG=>?_) (λ rG=>?_))
    ·refine jL ?_;exact ⟨vb (by first | exact (decide_eq_false (by omega)).symm | exact decide_eq_decide.2 (by omega)),hs⟩
    ·exact ⟨vb (by first | exact (decide_eq_false (by omega)).symm | exact decide_eq_decide.2 (by omega)),hs⟩
   ·rintro _ w2 ⟨rfl,hs⟩ jz;refine aC (λ rj=>?_) (λ rj=>?_)
    ·refine aF (aA eP (aB bN hs.hb rfl (aN (by omega) (aF (aA eP (aV hs bN (eE rfl) (rfl) (λ w3 hs=>?_)))))));have hb:kG l s=({s with at_:=s.at_+1},tk.n):=by unfold kG; rw [if_pos gX]; unfold oL; rw [AX]; exact if_pos rj
     rw [hb];exact ⟨rfl,hs.mut⟩
    ·refine bI Gw hs (H':=λ _=>cC p (dU lv ov (jb l s 11))) (Φ:=λ _ _=>True) (λ F2 eN ey=>?_) ?_
     ·exact (C254 p lv ov l s 11 F2 _ eN (λ w' hc=>hT w' (ey w' hc).aE) hk h0).mono λ _ _ r=>r.mono λ _ _ h=>⟨trivial,h.2⟩
     rintro _ w4 _ hs;have hb:kG l s=(jb l s 11,0):=by unfold kG; rw [if_pos gX]; unfold oL; rw [AX]; exact if_neg rj
     rw [hb];exact ⟨rfl,hs.mut⟩
  ·refine bI Gw hs (H':=λ _=>cC p (dU lv ov (jb l s 5))) (Φ:=λ _ _=>True) (λ F2 eN ey=>?_) ?_
   ·exact (C254 p lv ov l s 5 F2 _ eN (λ w' hc=>hT w' (ey w' hc).aE) hk h0).mono λ _ _ r=>r.mono λ _ _ h=>⟨trivial,h.2⟩
   rintro _ w5 _ hs;have hb:kG l s=(jb l s 5,0):=by unfold kG; rw [if_neg (by simpa using gX)]
   rw [hb];exact ⟨rfl,hs.mut⟩
theorem C261 (p:Nat) (lv ov:Value) (l:List bH) (s:fL) (s2:fL) (x:List cY) (F:Nat→Prop) (w:World) (hF:(cC p (dU lv ov s)).p w F) (hT:∀ w',iH F w w'→eL (λ _=>True) w' lv l) (hk:iD l) (h0:lX l s) (hr:qF l s=some (s2,x)):CR 261 [(.pointer (some ⟨p,0,none⟩))] w (λ v w'=>qx F (ua λ sv:SV=>fact (v=Flat.val sv) (sep (cC p (dU lv ov s2)) (eY (λ w=>DL w (Flat.val sv) x)))) w w'):=by
 have hs:=St.begin hF;have Fx:=hk.n;have hn:l.length≤1000000:=by omega
 have td:=hk.at_;obtain ⟨Rc,Rd⟩:=id h0;refine aa5 _ _ _ ?_;unfold S261;refine aF (aA kr (aB nn hs.hb rfl (cT (aC (λ gJ=>?_) (λ gJ=>?_)))))
 ·have hR:((s,[]):fL × List cY)=(s2,x):=by unfold qF at hr; rw [if_pos gJ] at hr; exact Option.some.inj hr
  cases hR;have hs:=(hs.gI (Φ:=λ w=>DL w (Flat.val (⟨none,0,0⟩:SV)) ([]:List cY)) λ w=>DL.nil w).p1;exact (St.eJ (⟨none,0,0⟩:SV) (St.qw rfl (St.join hs))).mut
 ·refine aF (aA gU (have hs:=hs.drew;aB iR hs.hb rfl (aF (aA eP (aB bN hs.hb rfl ?_)))));obtain ⟨R,hxr,Gq⟩:=Xu hr (by omega);refine eu aey (C214 l _ s.at_ R _ (hT _ hs.aE) hk (by omega) hxr) ?_;rintro _ w1 ⟨ayN,rfl,cA⟩;have hs:=hs.made cA;refine bG rfl (bG rfl (bG rfl (bG rfl (cT (aC (λ gn=>?_) (λ gn=>?_))))))
  ·refine aF (aA kr (aV hs.p1 nn (eE rfl) (rfl) (λ w2 hs=>aF (aA zI (aV hs bN (eE rfl) (rfl) (λ w3 hs=>?_))))));have hR:(({s with e:=R.2.2.1,pos:=R.2.2.2},[]):fL × List cY)=(s2,x):=by rw [if_pos gn] at Gq; exact Option.some.inj Gq
   cases hR;have hs:=((hs.p1.drop).gI (Φ:=λ w=>DL w (Flat.val (⟨none,0,0⟩:SV)) ([]:List cY)) λ w=>DL.nil w).p1;exact (St.eJ (⟨none,0,0⟩:SV) (St.qw rfl (St.join hs))).mut
  ·have B4:=Xv Gq gn;refine aF (aA eP (aV hs.p1 bN (eE rfl) (rfl) (λ w4 hs=>?_)));have hR:(({s with at_:=R.2.1},R.1):fL × List cY)=(s2,x):=by rw [if_neg gn,if_pos B4] at Gq; exact Option.some.inj Gq
   cases hR;have hs:=hs.p1.p1;exact (St.eJ ayN (St.qw rfl (St.join hs))).mut
def MP (k at_:Int):cE:=⟨k,⟨#[]⟩,⟨#[]⟩,[],[],0,0,0,at_⟩
abbrev JL:ByteArray:=⟨#[61]⟩
def Tm (l:List bH) (s:fL):fL:=dP l (cR l s).1 (ByteArray.mk #[61])
def s2M (l:List bH) (s:fL):fL:=dP l (cR l (Tm l s)).1 (ByteArray.mk #[44])
def kH (l:List bH) (s:fL) (k a:Int):Option (fL × cE):=
 if k=1 then (qF l (Tm l s)).bind λ r=>some (r.1,{MP k a with gM:=(cR l s).2,e:=r.2})
 else if k=2 then some ((cR l (Tm l s)).1,{MP k a with gM:=(cR l s).2,name:=(cR l (Tm l s)).2})
 else if k=3 then (qF l (Tm l s)).bind λ r=>some (r.1,{MP k a with name:=(cR l s).2,e:=r.2})
 else if k=4 then (qF l (s2M l s)).bind λ r=>(qF l (dP l r.1 (ByteArray.mk #[44]))).bind λ q=>some (q.1,{MP k a with gM:=(cR l s).2,name:=(cR l (Tm l s)).2,e:=r.2,f:=q.2})
 else if k=5∨k=6∨k=9∨k=10 then some ((cR l s).1,{MP k a with name:=(cR l s).2})
 else if k=11∨k=14 then (qF l s).bind λ r=>some (r.1,{MP k a with e:=r.2})
 else if k=12 then some ((kG l s).1,{MP k a with n:=(kG l s).2})
 else some (s,MP k a)
section
variable {l:List bH} {s s':fL} {k a:Int} {x:cE}
theorem eC {α β γ:Type} {o:Option (α × β)} {g:α × β→Option γ} {c:γ} (h:o.bind g=some c):∃ p q,o=some (p,q)∧g (p,q)=some c:=by
 cases o with
 | none=>cases h
 | some r=>exact ⟨r.1,r.2,rfl,h⟩
theorem Re (h:kH l s k a=some (s',x)) (hk:k=1):∃ q e,qF l (Tm l s)=some (q,e)∧s'=q∧x={MP k a with gM:=(cR l s).2,e:=e}:=by
 unfold kH at h; rw [if_pos hk] at h
 obtain ⟨q,e,h1,h2⟩:=eC h
 cases h2; exact ⟨_,_,h1,rfl,rfl⟩
theorem Rf (h:kH l s k a=some (s',x)) (hk:k=2):s'=(cR l (Tm l s)).1∧x={MP k a with gM:=(cR l s).2,name:=(cR l (Tm l s)).2}:=by
 unfold kH at h; rw [if_neg (by omega),if_pos hk] at h; cases h; exact ⟨rfl,rfl⟩
theorem Rg (h:kH l s k a=some (s',x)) (hk:k=3):∃ q e,qF l (Tm l s)=some (q,e)∧s'=q∧x={MP k a with name:=(cR l s).2,e:=e}:=by
 unfold kH at h; rw [if_neg (by omega),if_neg (by omega),if_pos hk] at h
 obtain ⟨q,e,h1,h2⟩:=eC h
 cases h2; exact ⟨_,_,h1,rfl,rfl⟩
theorem Rh (h:kH l s k a=some (s',x)) (hk:k=4):∃ q e q2 f,qF l (s2M l s)=some (q,e)∧qF l (dP l q (ByteArray.mk #[44]))=some (q2,f)∧s'=q2∧x={MP k a with gM:=(cR l s).2,name:=(cR l (Tm l s)).2,e:=e,f:=f}:=by
 unfold kH at h; rw [if_neg (by omega),if_neg (by omega),if_neg (by omega),if_pos hk] at h
 obtain ⟨q,e,h1,h2⟩:=eC h
 obtain ⟨q2,f,h3,h4⟩:=eC h2
 cases h4; exact ⟨_,_,_,_,h1,h3,rfl,rfl⟩
theorem Ri (h:kH l s k a=some (s',x)) (hk:k=5∨k=6∨k=9∨k=10):s'=(cR l s).1∧x={MP k a with name:=(cR l s).2}:=by
 unfold kH at h; rw [if_neg (by omega),if_neg (by omega),if_neg (by omega),if_neg (by omega),if_pos hk] at h; cases h; exact ⟨rfl,rfl⟩
theorem Mj (h:kH l s k a=some (s',x)) (hk:k=11∨k=14):∃ q e,qF l s=some (q,e)∧s'=q∧x={MP k a with e:=e}:=by
 unfold kH at h; rw [if_neg (by omega),if_neg (by omega),if_neg (by omega),if_neg (by omega),if_neg (by omega),if_pos hk] at h
 obtain ⟨q,e,h1,h2⟩:=eC h
 cases h2; exact ⟨_,_,h1,rfl,rfl⟩
theorem Mk (h:kH l s k a=some (s',x)) (hk:k=12):s'=(kG l s).1∧x={MP k a with n:=(kG l s).2}:=by
 unfold kH at h; rw [if_neg (by omega),if_neg (by omega),if_neg (by omega),if_neg (by omega),if_neg (by omega),if_neg (by omega),if_pos hk] at h; cases h; exact ⟨rfl,rfl⟩
theorem Ml (h:kH l s k a=some (s',x)) (h1:¬ k=1) (h2:¬ k=2) (h3:¬ k=3) (h4:¬ k=4) (h5:¬ (k=5∨k=6∨k=9∨k=10)) (h6:¬ (k=11∨k=14)) (h7:¬ k=12):s'=s∧x=MP k a:=by
 unfold kH at h; rw [if_neg h1,if_neg h2,if_neg h3,if_neg h4,if_neg h5,if_neg h6,if_neg h7] at h; cases h; exact ⟨rfl,rfl⟩
end
theorem BM {l:List bH} {s s':fL} {k a:Int} {x:cE} (h0:lX l s) (h:kH l s k a=some (s',x)):lX l s':=by
 have NV:lX l (Tm l s):=fy (gB h0)
 have hs2:lX l (s2M l s):=fy (gB NV)
 by_cases h1:k=1
 ·obtain ⟨q,e,he,rfl,_⟩:=Re h h1; exact rV NV he
 by_cases h2:k=2
 ·obtain ⟨rfl,_⟩:=Rf h h2; exact gB NV
 by_cases h3:k=3
 ·obtain ⟨q,e,he,rfl,_⟩:=Rg h h3; exact rV NV he
 by_cases h4:k=4
 ·obtain ⟨q,e,q2,f,he,hf,rfl,_⟩:=Rh h h4; exact rV (fy (rV hs2 he)) hf
 by_cases h5:k=5∨k=6∨k=9∨k=10
 ·obtain ⟨rfl,_⟩:=Ri h h5; exact gB h0
 by_cases h6:k=11∨k=14
 ·obtain ⟨q,e,he,rfl,_⟩:=Mj h h6; exact rV h0 he
 by_cases h7:k=12
 ·obtain ⟨rfl,_⟩:=Mk h h7; exact SO h0
 ·obtain ⟨rfl,_⟩:=Ml h h1 h2 h3 h4 h5 h6 h7; exact h0
theorem wP {α σ:Type} [Flat σ] [cD α σ] {w w0:World} {A:Nat→Prop} {L:List HP} {B:HP} {sh:σ} {x:α} (hs:St w0 A (B::eY (λ w=>cD.dr w sh x)::L) w) :
  St w0 A ((ua λ s:σ=>fact (Flat.val sh=Flat.val s) (sep B (eY (λ w=>cD.dr w s x))))::L) w:=
 St.eJ (H:=λ s:σ=>fact (Flat.val sh=Flat.val s) (sep B (eY (λ w=>cD.dr w s x)))) sh (St.qw rfl (St.join hs))
set_option maxHeartbeats 2000000 in
theorem C255 (p:Nat) (lv ov:Value) (l:List bH) (s:fL) (kd a:Int) (s2:fL) (x:cE) (F:Nat→Prop) (w:World) (hF:(cC p (dU lv ov s)).p w F) (hT:∀ w',iH F w w'→eL (λ _=>True) w' lv l) (hk:iD l) (h0:lX l s) (hp:kH l s kd a=some (s2,x)):CR 255 [(.pointer (some ⟨p,0,none⟩)),.int .i64 kd,.int .i64 a] w (λ v w'=>qx F (ua λ sh:bV=>fact (v=Flat.val sh) (sep (cC p (dU lv ov s2)) (eY (λ w=>cD.dr w sh x)))) w w'):=by
 have hs:=St.begin hF;have Fx:=hk.n;have hn:l.length≤1000000:=by omega
 have td:=hk.at_;obtain ⟨Rc,Rd⟩:=id h0;refine aaZ _ _ _ _ _ ?_;unfold S255;refine aO hs pn (λ On w1 hs=>have hs:=hs.enc (cs':=Flat.enc (⟨0,(ByteArray.mk #[]),(ByteArray.mk #[]),⟨none,0,0⟩,⟨none,0,0⟩,0,0,0,0⟩:bV)) rfl;pop (Nj _ _) (aO hs pn (λ Bn w2 hs=>have hs:=hs.enc (cs':=Flat.enc (⟨0,(ByteArray.mk #[]),(ByteArray.mk #[]),⟨none,0,0⟩,⟨none,0,0⟩,0,0,0,0⟩:bV)) rfl;aI (x:=(⟨kd,(ByteArray.mk #[]),(ByteArray.mk #[]),⟨none,0,0⟩,⟨none,0,0⟩,0,0,0,a⟩:bV)) hs fO rfl rfl (λ w3 hs=>?_))));refine ⟨_,?_,λ _ h=>h⟩;refine aH (aC (λ j7=>?_) (λ j7=>?_))
 ·obtain ⟨q,e,hex,rfl,rfl⟩:=Re hp j7;refine bI Dl hs.p2 (H':=λ _=>cC p (dU lv ov (cR l s).1)) (Φ:=λ v _=>v = .string (cR l s).2) (λ F2 eN ey=>?_) ?_
  ·exact C260 p lv ov l s F2 _ eN (λ w' hc=>hT w' (ey w' hc).aE) hk h0
  rintro _ w4 rfl hs;refine aA l6 (aV hs.p1 kf (eE rfl) (rfl) (λ w5 hs=>have hs:=hs.enc (cs':=Flat.enc (⟨kd,(cR l s).2,(ByteArray.mk #[]),⟨none,0,0⟩,⟨none,0,0⟩,0,0,0,a⟩:bV)) rfl;bI ya hs.p1 (H':=λ _=>cC p (dU lv ov (dP l (cR l s).1 (ByteArray.mk #[61])))) (Φ:=λ _ _=>True) (λ F2 eN ey=>?_) ?_))
  ·exact (C234 p lv ov l (cR l s).1 (ByteArray.mk #[61]) F2 _ eN (λ w' hc=>hT w' (ey w' hc).aE) hk (gB h0)).mono λ _ _ r=>r.mono λ _ _ h=>⟨trivial,h.2⟩
  rintro _ w6 _ hs;refine bI Kf hs (H':=λ v=>ua λ sv:SV=>fact (v=Flat.val sv) (sep (cC p (dU lv ov s2)) (eY (λ w=>DL w (Flat.val sv) e)))) (Φ:=λ _ _=>True) (λ F2 eN ey=>?_) ?_
  ·exact (C261 p lv ov l (dP l (cR l s).1 (ByteArray.mk #[61])) s2 e F2 _ eN (λ w' hc=>hT w' (ey w' hc).aE) hk (fy (gB h0)) hex).mono λ _ _ r=>r.mono λ _ _ h=>⟨trivial,h⟩
  rintro v_x20 w7 _ AH;obtain ⟨OS,AI⟩:=AH.eQ
  clear AH
  obtain ⟨akF,CT⟩:=AI.oD
  clear AI
  subst akF;have hs:=CT.split;refine aA l7 (aV hs.p2 mY (eE rfl) (rfl) (λ w8 hs=>?_));have hs:=hs.enc (cs':=Flat.enc (⟨kd,(cR l s).2,(ByteArray.mk #[]),OS,⟨none,0,0⟩,0,0,0,a⟩:bV)) rfl;intro oG;refine aD fO hs.At (aI (x:=(⟨kd,(cR l s).2,(ByteArray.mk #[]),OS,⟨none,0,0⟩,0,0,0,a⟩:bV)) hs.p3 fO rfl rfl (λ Yr hs=>aD fO hs.At ?_));have hs:=hs.p3.dQ (Ψ:=(λ w=>cD.dr w (⟨kd,(cR l s).2,(ByteArray.mk #[]),OS,⟨none,0,0⟩,0,0,0,a⟩:bV) (⟨kd,(cR l s).2,(ByteArray.mk #[]),e,[],0,0,0,a⟩:cE))) (λ w h=>⟨_,_,rfl,id (h),DL.nil _⟩);have hs:=((hs.p1.drop.p1).drop).p1
  exact (wP hs).mut
 ·refine aH (aC (λ iU=>?_) (λ iU=>?_))
  ·obtain ⟨rfl,rfl⟩:=Rf hp iU;refine bI Dl hs.p2 (H':=λ _=>cC p (dU lv ov (cR l s).1)) (Φ:=λ v _=>v = .string (cR l s).2) (λ F2 eN ey=>?_) ?_
   ·exact C260 p lv ov l s F2 _ eN (λ w' hc=>hT w' (ey w' hc).aE) hk h0
   rintro _ w9 rfl hs;refine aA l6 (aV hs.p1 kf (eE rfl) (rfl) (λ qd hs=>have hs:=hs.enc (cs':=Flat.enc (⟨kd,(cR l s).2,(ByteArray.mk #[]),⟨none,0,0⟩,⟨none,0,0⟩,0,0,0,a⟩:bV)) rfl;bI ya hs.p1 (H':=λ _=>cC p (dU lv ov (dP l (cR l s).1 (ByteArray.mk #[61])))) (Φ:=λ _ _=>True) (λ F2 eN ey=>?_) ?_))
   ·exact (C234 p lv ov l (cR l s).1 (ByteArray.mk #[61]) F2 _ eN (λ w' hc=>hT w' (ey w' hc).aE) hk (gB h0)).mono λ _ _ r=>r.mono λ _ _ h=>⟨trivial,h.2⟩
   rintro _ tG _ hs;refine bI Dl hs (H':=λ _=>cC p (dU lv ov (cR l (dP l (cR l s).1 (ByteArray.mk #[61]))).1)) (Φ:=λ v _=>v = .string (cR l (dP l (cR l s).1 (ByteArray.mk #[61]))).2) (λ F2 eN ey=>?_) ?_
   ·exact C260 p lv ov l (dP l (cR l s).1 (ByteArray.mk #[61])) F2 _ eN (λ w' hc=>hT w' (ey w' hc).aE) hk (fy (gB h0))
   rintro _ vt rfl hs;refine aA jq (aV hs.p1 kf (eE rfl) (rfl) (λ uU hs=>?_));have hs:=hs.enc (cs':=Flat.enc (⟨kd,(cR l s).2,(cR l (dP l (cR l s).1 (ByteArray.mk #[61]))).2,⟨none,0,0⟩,⟨none,0,0⟩,0,0,0,a⟩:bV)) rfl;intro oG;refine aD fO hs.At (aI (x:=(⟨kd,(cR l s).2,(cR l (dP l (cR l s).1 (ByteArray.mk #[61]))).2,⟨none,0,0⟩,⟨none,0,0⟩,0,0,0,a⟩:bV)) hs.p2 fO rfl rfl (λ Yr hs=>aD fO hs.At ?_));have hs:=hs.gI (Φ:=(λ w=>cD.dr w (⟨kd,(cR l s).2,(cR l (dP l (cR l s).1 (ByteArray.mk #[61]))).2,⟨none,0,0⟩,⟨none,0,0⟩,0,0,0,a⟩:bV) (⟨kd,(cR l s).2,(cR l (dP l (cR l s).1 (ByteArray.mk #[61]))).2,[],[],0,0,0,a⟩:cE))) (λ w=>⟨_,_,rfl,DL.nil _,DL.nil _⟩)
   have hs:=((hs.p1.drop.p1).drop).p1;exact (wP hs).mut
  ·refine aH (aC (λ nB=>?_) (λ nB=>?_))
   ·obtain ⟨q,e,hex,rfl,rfl⟩:=Rg hp nB;refine bI Dl hs.p2 (H':=λ _=>cC p (dU lv ov (cR l s).1)) (Φ:=λ v _=>v = .string (cR l s).2) (λ F2 eN ey=>?_) ?_
    ·exact C260 p lv ov l s F2 _ eN (λ w' hc=>hT w' (ey w' hc).aE) hk h0
    rintro _ sw rfl hs;refine aA jq (aV hs.p1 kf (eE rfl) (rfl) (λ wc hs=>have hs:=hs.enc (cs':=Flat.enc (⟨kd,(ByteArray.mk #[]),(cR l s).2,⟨none,0,0⟩,⟨none,0,0⟩,0,0,0,a⟩:bV)) rfl;bI ya hs.p1 (H':=λ _=>cC p (dU lv ov (dP l (cR l s).1 (ByteArray.mk #[61])))) (Φ:=λ _ _=>True) (λ F2 eN ey=>?_) ?_))
    ·exact (C234 p lv ov l (cR l s).1 (ByteArray.mk #[61]) F2 _ eN (λ w' hc=>hT w' (ey w' hc).aE) hk (gB h0)).mono λ _ _ r=>r.mono λ _ _ h=>⟨trivial,h.2⟩
    rintro _ ze _ hs;refine bI Kf hs (H':=λ v=>ua λ sv:SV=>fact (v=Flat.val sv) (sep (cC p (dU lv ov s2)) (eY (λ w=>DL w (Flat.val sv) e)))) (Φ:=λ _ _=>True) (λ F2 eN ey=>?_) ?_
    ·exact (C261 p lv ov l (dP l (cR l s).1 (ByteArray.mk #[61])) s2 e F2 _ eN (λ w' hc=>hT w' (ey w' hc).aE) hk (fy (gB h0)) hex).mono λ _ _ r=>r.mono λ _ _ h=>⟨trivial,h⟩
    rintro v_x40 Cn _ AH;obtain ⟨OT,AI⟩:=AH.eQ
    clear AH
    obtain ⟨akG,CT⟩:=AI.oD
    clear AI
    subst akG;have hs:=CT.split;refine aA l7 (aV hs.p2 mY (eE rfl) (rfl) (λ Iy hs=>?_));have hs:=hs.enc (cs':=Flat.enc (⟨kd,(ByteArray.mk #[]),(cR l s).2,OT,⟨none,0,0⟩,0,0,0,a⟩:bV)) rfl;intro oG;refine aD fO hs.At (aI (x:=(⟨kd,(ByteArray.mk #[]),(cR l s).2,OT,⟨none,0,0⟩,0,0,0,a⟩:bV)) hs.p3 fO rfl rfl (λ Yr hs=>aD fO hs.At ?_));have hs:=hs.p3.dQ (Ψ:=(λ w=>cD.dr w (⟨kd,(ByteArray.mk #[]),(cR l s).2,OT,⟨none,0,0⟩,0,0,0,a⟩:bV) (⟨kd,(ByteArray.mk #[]),(cR l s).2,e,[],0,0,0,a⟩:cE))) (λ w h=>⟨_,_,rfl,id (h),DL.nil _⟩);have hs:=((hs.p1.drop.p1).drop).p1
    exact (wP hs).mut
   ·refine aH (aC (λ ue=>?_) (λ ue=>?_))
    ·obtain ⟨q,e,q2,f,hex,hfx,rfl,rfl⟩:=Rh hp ue;refine bI Dl hs.p2 (H':=λ _=>cC p (dU lv ov (cR l s).1)) (Φ:=λ v _=>v = .string (cR l s).2) (λ F2 eN ey=>?_) ?_
     ·exact C260 p lv ov l s F2 _ eN (λ w' hc=>hT w' (ey w' hc).aE) hk h0
     rintro _ JG rfl hs;refine aA l6 (aV hs.p1 kf (eE rfl) (rfl) (λ KR hs=>have hs:=hs.enc (cs':=Flat.enc (⟨kd,(cR l s).2,(ByteArray.mk #[]),⟨none,0,0⟩,⟨none,0,0⟩,0,0,0,a⟩:bV)) rfl;bI ya hs.p1 (H':=λ _=>cC p (dU lv ov (dP l (cR l s).1 (ByteArray.mk #[61])))) (Φ:=λ _ _=>True) (λ F2 eN ey=>?_) ?_))
     ·exact (C234 p lv ov l (cR l s).1 (ByteArray.mk #[61]) F2 _ eN (λ w' hc=>hT w' (ey w' hc).aE) hk (gB h0)).mono λ _ _ r=>r.mono λ _ _ h=>⟨trivial,h.2⟩
     rintro _ MN _ hs;refine bI Dl hs (H':=λ _=>cC p (dU lv ov (cR l (dP l (cR l s).1 (ByteArray.mk #[61]))).1)) (Φ:=λ v _=>v = .string (cR l (dP l (cR l s).1 (ByteArray.mk #[61]))).2) (λ F2 eN ey=>?_) ?_
     ·exact C260 p lv ov l (dP l (cR l s).1 (ByteArray.mk #[61])) F2 _ eN (λ w' hc=>hT w' (ey w' hc).aE) hk (fy (gB h0))
     rintro _ Qw rfl hs;refine aA jq (aV hs.p1 kf (eE rfl) (rfl) (λ Tl hs=>have hs:=hs.enc (cs':=Flat.enc (⟨kd,(cR l s).2,(cR l (dP l (cR l s).1 (ByteArray.mk #[61]))).2,⟨none,0,0⟩,⟨none,0,0⟩,0,0,0,a⟩:bV)) rfl;bI ya hs.p1 (H':=λ _=>cC p (dU lv ov (dP l (cR l (dP l (cR l s).1 (ByteArray.mk #[61]))).1 (ByteArray.mk #[44])))) (Φ:=λ _ _=>True) (λ F2 eN ey=>?_) ?_))
     ·exact (C234 p lv ov l (cR l (dP l (cR l s).1 (ByteArray.mk #[61]))).1 (ByteArray.mk #[44]) F2 _ eN (λ w' hc=>hT w' (ey w' hc).aE) hk (gB (fy (gB h0)))).mono λ _ _ r=>r.mono λ _ _ h=>⟨trivial,h.2⟩
     rintro _ VK _ hs;refine bI Kf hs (H':=λ v=>ua λ sv:SV=>fact (v=Flat.val sv) (sep (cC p (dU lv ov q)) (eY (λ w=>DL w (Flat.val sv) e)))) (Φ:=λ _ _=>True) (λ F2 eN ey=>?_) ?_
     ·exact (C261 p lv ov l (dP l (cR l (dP l (cR l s).1 (ByteArray.mk #[61]))).1 (ByteArray.mk #[44])) q e F2 _ eN (λ w' hc=>hT w' (ey w' hc).aE) hk (fy (gB (fy (gB h0)))) hex).mono λ _ _ r=>r.mono λ _ _ h=>⟨trivial,h⟩
     rintro v_x55 Se _ AH;obtain ⟨EY,AI⟩:=AH.eQ
     clear AH
     obtain ⟨akH,CT⟩:=AI.oD
     clear AI
     subst akH;have hs:=CT.split;refine aA l7 (aV hs.p2 mY (eE rfl) (rfl) (λ w26 hs=>have hs:=hs.enc (cs':=Flat.enc (⟨kd,(cR l s).2,(cR l (dP l (cR l s).1 (ByteArray.mk #[61]))).2,EY,⟨none,0,0⟩,0,0,0,a⟩:bV)) rfl;bI ya hs.p1 (H':=λ _=>cC p (dU lv ov (dP l q (ByteArray.mk #[44])))) (Φ:=λ _ _=>True) (λ F2 eN ey=>?_) ?_))
     ·exact (C234 p lv ov l q (ByteArray.mk #[44]) F2 _ eN (λ w' hc=>hT w' (ey w' hc).aE) hk (rV (fy (gB (fy (gB h0)))) hex)).mono λ _ _ r=>r.mono λ _ _ h=>⟨trivial,h.2⟩
     rintro _ w27 _ hs;refine bI Kf hs (H':=λ v=>ua λ sv:SV=>fact (v=Flat.val sv) (sep (cC p (dU lv ov s2)) (eY (λ w=>DL w (Flat.val sv) f)))) (Φ:=λ _ _=>True) (λ F2 eN ey=>?_) ?_
     ·exact (C261 p lv ov l (dP l q (ByteArray.mk #[44])) s2 f F2 _ eN (λ w' hc=>hT w' (ey w' hc).aE) hk (fy (rV (fy (gB (fy (gB h0)))) hex)) hfx).mono λ _ _ r=>r.mono λ _ _ h=>⟨trivial,h⟩
     rintro v_x60 w28 _ AH;obtain ⟨By,AI⟩:=AH.eQ
     clear AH
     obtain ⟨akI,CT⟩:=AI.oD
     clear AI
     subst akI;have hs:=CT.split;refine aA nT (aV hs.p2 mY (eE rfl) (rfl) (λ w29 hs=>?_));have hs:=hs.enc (cs':=Flat.enc (⟨kd,(cR l s).2,(cR l (dP l (cR l s).1 (ByteArray.mk #[61]))).2,EY,By,0,0,0,a⟩:bV)) rfl;intro oG;refine aD fO hs.At (aI (x:=(⟨kd,(cR l s).2,(cR l (dP l (cR l s).1 (ByteArray.mk #[61]))).2,EY,By,0,0,0,a⟩:bV)) hs.p4 fO rfl rfl (λ Yr hs=>aD fO hs.At ?_));have hs:=hs.p4.p4.p1.fK.dQ (Ψ:=(λ w=>cD.dr w (⟨kd,(cR l s).2,(cR l (dP l (cR l s).1 (ByteArray.mk #[61]))).2,EY,By,0,0,0,a⟩:bV) (⟨kd,(cR l s).2,(cR l (dP l (cR l s).1 (ByteArray.mk #[61]))).2,e,f,0,0,0,a⟩:cE))) (λ w h=>⟨_,_,rfl,id (h.1),id (h.2)⟩)
     have hs:=((hs.p1.drop.p1).drop).p1;exact (wP hs).mut
    ·refine ⟨λ jv w'=>jv = .bool (decide (kd=5∨kd=6∨kd=9∨kd=10))∧w3=w',?_,?_⟩
     ·refine aH (aC (λ VE=>?_) (λ VE=>?_))
      ·exact ⟨vb (by grind),rfl⟩
      ·refine aH (aC (λ qC=>?_) (λ qC=>?_))
       ·exact ⟨vb (by grind),rfl⟩
       ·refine aH (aC (λ nh=>?_) (λ nh=>?_))
        ·exact ⟨vb (by grind),rfl⟩
        ·refine aH ?_;exact ⟨vb (by grind),rfl⟩
     ·rintro _ w30 ⟨rfl,hw⟩ fu;subst hw;refine aC (λ qB=>?_) (λ qB=>?_)
      ·obtain ⟨rfl,rfl⟩:=Ri hp qB;refine bI Dl hs.p2 (H':=λ _=>cC p (dU lv ov (cR l s).1)) (Φ:=λ v _=>v = .string (cR l s).2) (λ F2 eN ey=>?_) ?_
       ·exact C260 p lv ov l s F2 _ eN (λ w' hc=>hT w' (ey w' hc).aE) hk h0
       rintro _ w31 rfl hs;refine aA jq (aV hs.p1 kf (eE rfl) (rfl) (λ w32 hs=>?_));have hs:=hs.enc (cs':=Flat.enc (⟨kd,(ByteArray.mk #[]),(cR l s).2,⟨none,0,0⟩,⟨none,0,0⟩,0,0,0,a⟩:bV)) rfl;intro oG;refine aD fO hs.At (aI (x:=(⟨kd,(ByteArray.mk #[]),(cR l s).2,⟨none,0,0⟩,⟨none,0,0⟩,0,0,0,a⟩:bV)) hs.p2 fO rfl rfl (λ Yr hs=>aD fO hs.At ?_));have hs:=hs.gI (Φ:=(λ w=>cD.dr w (⟨kd,(ByteArray.mk #[]),(cR l s).2,⟨none,0,0⟩,⟨none,0,0⟩,0,0,0,a⟩:bV) (⟨kd,(ByteArray.mk #[]),(cR l s).2,[],[],0,0,0,a⟩:cE))) (λ w=>⟨_,_,rfl,DL.nil _,DL.nil _⟩);have hs:=((hs.p1.drop.p1).drop).p1
       exact (wP hs).mut
      ·refine ⟨λ jv w'=>jv = .bool (decide (kd=11∨kd=14))∧w3=w',?_,?_⟩
       ·refine aH (aC (λ vu=>?_) (λ vu=>?_))
        ·exact ⟨vb (by grind),rfl⟩
        ·refine aH ?_;exact ⟨vb (by grind),rfl⟩
       ·rintro _ w33 ⟨rfl,hw⟩ jz;subst hw;refine aC (λ Eg=>?_) (λ Eg=>?_)
        ·obtain ⟨q,e,hex,rfl,rfl⟩:=Mj hp Eg;refine bI Kf hs.p2 (H':=λ v=>ua λ sv:SV=>fact (v=Flat.val sv) (sep (cC p (dU lv ov s2)) (eY (λ w=>DL w (Flat.val sv) e)))) (Φ:=λ _ _=>True) (λ F2 eN ey=>?_) ?_
         ·exact (C261 p lv ov l s s2 e F2 _ eN (λ w' hc=>hT w' (ey w' hc).aE) hk h0 hex).mono λ _ _ r=>r.mono λ _ _ h=>⟨trivial,h⟩
         rintro v_x74 w34 _ AH;obtain ⟨OU,AI⟩:=AH.eQ
         clear AH
         obtain ⟨akJ,CT⟩:=AI.oD
         clear AI
         subst akJ;have hs:=CT.split;refine aA l7 (aV hs.p2 mY (eE rfl) (rfl) (λ w35 hs=>?_));have hs:=hs.enc (cs':=Flat.enc (⟨kd,(ByteArray.mk #[]),(ByteArray.mk #[]),OU,⟨none,0,0⟩,0,0,0,a⟩:bV)) rfl;intro oG;refine aD fO hs.At (aI (x:=(⟨kd,(ByteArray.mk #[]),(ByteArray.mk #[]),OU,⟨none,0,0⟩,0,0,0,a⟩:bV)) hs.p3 fO rfl rfl (λ Yr hs=>aD fO hs.At ?_));have hs:=hs.p3.dQ (Ψ:=(λ w=>cD.dr w (⟨kd,(ByteArray.mk #[]),(ByteArray.mk #[]),OU,⟨none,0,0⟩,0,0,0,a⟩:bV) (⟨kd,(ByteArray.mk #[]),(ByteArray.mk #[]),e,[],0,0,0,a⟩:cE))) (λ w h=>⟨_,_,rfl,id (h),DL.nil _⟩)
         have hs:=((hs.p1.drop.p1).drop).p1;exact (wP hs).mut
        ·refine aH (aC (λ Lf=>?_) (λ Lf=>?_))
         ·obtain ⟨rfl,rfl⟩:=Mk hp Lf;refine bI anP hs.p2 (H':=λ _=>cC p (dU lv ov (kG l s).1)) (Φ:=λ v _=>v = .int .i64 (kG l s).2) (λ F2 eN ey=>?_) ?_
          ·exact C262 p lv ov l s F2 _ eN (λ w' hc=>hT w' (ey w' hc).aE) hk h0
          rintro _ w36 rfl hs;refine aA qY (aV hs.p1 bN (eE rfl) (rfl) (λ w37 hs=>?_));have hs:=hs.enc (cs':=Flat.enc (⟨kd,(ByteArray.mk #[]),(ByteArray.mk #[]),⟨none,0,0⟩,⟨none,0,0⟩,(kG l s).2,0,0,a⟩:bV)) rfl;intro oG;refine aD fO hs.At (aI (x:=(⟨kd,(ByteArray.mk #[]),(ByteArray.mk #[]),⟨none,0,0⟩,⟨none,0,0⟩,(kG l s).2,0,0,a⟩:bV)) hs.p2 fO rfl rfl (λ Yr hs=>aD fO hs.At ?_));have hs:=hs.gI (Φ:=(λ w=>cD.dr w (⟨kd,(ByteArray.mk #[]),(ByteArray.mk #[]),⟨none,0,0⟩,⟨none,0,0⟩,(kG l s).2,0,0,a⟩:bV) (⟨kd,(ByteArray.mk #[]),(ByteArray.mk #[]),[],[],(kG l s).2,0,0,a⟩:cE))) (λ w=>⟨_,_,rfl,DL.nil _,DL.nil _⟩)
          have hs:=((hs.p1.drop.p1).drop).p1;exact (wP hs).mut
         ·obtain ⟨rfl,rfl⟩:=Ml hp j7 iU nB ue qB Eg Lf;intro oG;refine aD fO hs.At (aI (x:=(⟨kd,(ByteArray.mk #[]),(ByteArray.mk #[]),⟨none,0,0⟩,⟨none,0,0⟩,0,0,0,a⟩:bV)) hs.p1 fO rfl rfl (λ Yr hs=>aD fO hs.At ?_));have hs:=hs.gI (Φ:=(λ w=>cD.dr w (⟨kd,(ByteArray.mk #[]),(ByteArray.mk #[]),⟨none,0,0⟩,⟨none,0,0⟩,0,0,0,a⟩:bV) (⟨kd,(ByteArray.mk #[]),(ByteArray.mk #[]),[],[],0,0,0,a⟩:cE))) (λ w=>⟨_,_,rfl,DL.nil _,DL.nil _⟩);have hs:=((hs.p1.drop.p1).drop).p1;exact (wP hs).mut
def g9 (l:List bH) (a:Int):Nat→Int
 | 0=>1
 | n+1=>if sQ l a (Hp ((n:Int)+2))=true then (n:Int)+2 else g9 l a n
theorem Rj {l:List bH} {a:Int}:∀ n:Nat,1≤g9 l a n∧g9 l a n≤(n:Int)+1
 | 0=>by unfold g9; omega
 | n+1=>by
  have:=Rj (l:=l) (a:=a) n
  unfold g9
  split <;> omega
theorem Mm {l:List bH} {a:Int}:∀ n:Nat,g9 l a n=1∨∃ t,sQ l a t=true
 | 0=>.inl rfl
 | n+1=>by
  unfold g9
  split
  ·rename_i h; exact .inr ⟨_,h⟩
  ·exact Mm n
theorem Hq {l:List bH} {a:Int} {n:Nat} (h:sQ l a (Hp ((n:Int)+2))=true):g9 l a (n+1)=(n:Int)+2:=if_pos h
theorem Hr {l:List bH} {a:Int} {n:Nat} (h:¬ sQ l a (Hp ((n:Int)+2))=true):g9 l a (n+1)=g9 l a n:=if_neg h
def Yw (l:List bH) (s:fL):fL:=if g9 l s.at_ 13≠1 then {s with at_:=s.at_+1} else s
theorem Jr {l:List bH} {s:fL} (h:lX l s):lX l (Yw l s):=by
 unfold Yw
 split
 ·rename_i h1
  rcases Mm (l:=l) (a:=s.at_) 13 with h2 | ⟨t,h2⟩
  ·exact absurd h2 h1
  ·have:=rU h2
   exact ⟨by show 0≤s.at_+1; omega,by show s.at_+1≤_; omega⟩
 ·exact h
abbrev af7:ByteArray:=⟨#[101,108,115,101]⟩
def ki (l:List bH) (kd:Int) (s:fL):Bool:=decide (kd=11) && decide (s.e=0) && sQ l s.at_ af7
def Xy (s:fL):fL:={s with at_:=s.at_+1}
abbrev adp:=fL→Int→Int→Option (fL × List cE)
def Cv (l:List bH) (cC:adp) (s:fL) (d lp:Int):Option (fL × List cE):=
 if g9 l s.at_ 13=13∧lp=0 then some (jb l s 5,[])
 else (kH l (Yw l s) (g9 l s.at_ 13) (mR l s.at_)).bind λ r=>
  if g9 l s.at_ 13≠11∧g9 l s.at_ 13≠12 then some (dP l r.1 ⟨#[59]⟩,[r.2])
  else (cC r.1 (d+1) (if g9 l s.at_ 13=12 then lp+1 else lp)).bind λ q=>
   if ki l (g9 l s.at_ 13) q.1=true then (cC (Xy q.1) (d+1) lp).bind λ t=>some (t.1,{r.2 with body:=(q.2.length:Int),fw:=(t.2.length:Int)}::(q.2++t.2))
   else some (q.1,{r.2 with body:=(q.2.length:Int)}::q.2)
section
variable {l:List bH} {cC:adp} {s s':fL} {d lp:Int} {add:List cE}
theorem Rk (h:Cv l cC s d lp=some (s',add)) (hb:g9 l s.at_ 13=13∧lp=0):s'=jb l s 5∧add=[]:=by
 unfold Cv at h; rw [if_pos hb] at h; cases h; exact ⟨rfl,rfl⟩
theorem Xz (h:Cv l cC s d lp=some (s',add)) (hb:¬ (g9 l s.at_ 13=13∧lp=0)):∃ s2 x,kH l (Yw l s) (g9 l s.at_ 13) (mR l s.at_)=some (s2,x)∧
  (if g9 l s.at_ 13≠11∧g9 l s.at_ 13≠12 then some (dP l s2 ⟨#[59]⟩,[x])
  else (cC s2 (d+1) (if g9 l s.at_ 13=12 then lp+1 else lp)).bind λ q=>
   if ki l (g9 l s.at_ 13) q.1=true then (cC (Xy q.1) (d+1) lp).bind λ t=>some (t.1,{x with body:=(q.2.length:Int),fw:=(t.2.length:Int)}::(q.2++t.2))
   else some (q.1,{x with body:=(q.2.length:Int)}::q.2))=some (s',add):=by
 unfold Cv at h; rw [if_neg hb] at h
 obtain ⟨p,q,h1,h2⟩:=eC h
 exact ⟨p,q,h1,h2⟩
theorem Rl {kd:Int} {s2:fL} {x:cE} (h:(if kd≠11∧kd≠12 then some (dP l s2 ⟨#[59]⟩,[x])
  else (cC s2 (d+1) (if kd=12 then lp+1 else lp)).bind λ q=>
   if ki l kd q.1=true then (cC (Xy q.1) (d+1) lp).bind λ t=>some (t.1,{x with body:=(q.2.length:Int),fw:=(t.2.length:Int)}::(q.2++t.2))
   else some (q.1,{x with body:=(q.2.length:Int)}::q.2))=some (s',add)) (hk:¬ (kd≠11∧kd≠12)) :
  ∃ s3 m1,cC s2 (d+1) (if kd=12 then lp+1 else lp)=some (s3,m1)∧
   ((ki l kd s3=true∧∃ s5 m2,cC (Xy s3) (d+1) lp=some (s5,m2)∧s'=s5∧add={x with body:=(m1.length:Int),fw:=(m2.length:Int)}::(m1++m2))∨
    (ki l kd s3=false∧s'=s3∧add={x with body:=(m1.length:Int)}::m1)):=by
 rw [if_neg hk] at h
 obtain ⟨s3,m1,h1,h2⟩:=eC h
 refine ⟨s3,m1,h1,?_⟩
 dsimp only at h2
 cases he:ki l kd s3 with
 | true=>
  rw [he,if_pos rfl] at h2
  obtain ⟨s5,m2,h3,h4⟩:=eC h2
  cases h4
  exact .inl ⟨rfl,_,_,h3,rfl,rfl⟩
 | false=>
  rw [he,if_neg (by simp)] at h2
  cases h2
  exact .inr ⟨rfl,rfl,rfl⟩
theorem Hs {kd:Int} {s2:fL} {x:cE} (h:(if kd≠11∧kd≠12 then some (dP l s2 ⟨#[59]⟩,[x])
  else (cC s2 (d+1) (if kd=12 then lp+1 else lp)).bind λ q=>
   if ki l kd q.1=true then (cC (Xy q.1) (d+1) lp).bind λ t=>some (t.1,{x with body:=(q.2.length:Int),fw:=(t.2.length:Int)}::(q.2++t.2))
   else some (q.1,{x with body:=(q.2.length:Int)}::q.2))=some (s',add)) (hk:kd≠11∧kd≠12):s'=dP l s2 ⟨#[59]⟩∧add=[x]:=by
 rw [if_pos hk] at h; cases h; exact ⟨rfl,rfl⟩
end
abbrev Cg:ByteArray:=⟨#[123]⟩
abbrev nH:ByteArray:=⟨#[125]⟩
def sT (l:List bH) (one:fL→Option (fL × List cE)):Nat→fL→Option (fL × List cE)
 | 0,_=>none
 | m+1,s=>if (decide (s.e=0) && !sQ l s.at_ nH)=true then (one s).bind λ r=>(sT l one m r.1).bind λ q=>some (q.1,r.2++q.2) else some (s,[])
def Tn (l:List bH) (s:fL) (d:Int):fL:=if (decide (12<d) && sQ l s.at_ Cg)=true then jb l s 7 else s
theorem OV {l:List bH} {s:fL} {d:Int} (h:lX l s):lX l (Tn l s d):=by unfold Tn; split; exact sS h; exact h
def To (l:List bH):Nat→adp
 | 0=>λ _ _ _=>none
 | k+1=>λ s d lp=>(sT l (λ s=>Cv l (To l k) s d lp) 10000 (dP l (Tn l s d) Cg)).bind λ r=>some (dP l r.1 nH,r.2)
section
variable {l:List bH} {one:fL→Option (fL × List cE)} {s s':fL} {d lp:Int} {add:List cE} {m:Nat}
theorem Ht (h:sT l one m s=some (s',add)):∃ k,m=k+1:=by
 cases m with
 | zero=>cases h
 | succ k=>exact ⟨k,rfl⟩
theorem Fe (h:sT l one (m+1) s=some (s',add)) (hb:(decide (s.e=0) && !sQ l s.at_ nH)=false):s'=s∧add=[]:=by
 unfold sT at h; rw [hb,if_neg (by simp)] at h; cases h; exact ⟨rfl,rfl⟩
theorem Js (h:sT l one (m+1) s=some (s',add)) (hb:(decide (s.e=0) && !sQ l s.at_ nH)=true):∃ s1 a1 a2,one s=some (s1,a1)∧sT l one m s1=some (s',a2)∧add=a1++a2:=by
 unfold sT at h; rw [hb,if_pos rfl] at h
 obtain ⟨s1,a1,h1,h2⟩:=eC h
 obtain ⟨s2,a2,h3,h4⟩:=eC h2
 cases h4
 exact ⟨_,_,_,h1,h3,rfl⟩
theorem XA {k:Nat} (h:To l (k+1) s d lp=some (s',add)):∃ s1,sT l (λ s=>Cv l (To l k) s d lp) 10000 (dP l (Tn l s d) Cg)=some (s1,add)∧s'=dP l s1 nH:=by
 unfold To at h
 obtain ⟨s1,a1,h1,h2⟩:=eC h
 cases h2
 exact ⟨_,h1,rfl⟩
end
theorem OW {l:List bH} {cC:adp} {s s':fL} {d lp:Int} {add:List cE} (hb:∀ s d lp s' a,lX l s→cC s d lp=some (s',a)→lX l s') (h0:lX l s) (h:Cv l cC s d lp=some (s',add)):lX l s':=by
 by_cases h1:g9 l s.at_ 13=13∧lp=0
 ·rw [(Rk h h1).1]; exact sS h0
 ·obtain ⟨s2,x,h2,h3⟩:=Xz h h1
  have h2i:=BM (Jr h0) h2
  by_cases h4:g9 l s.at_ 13≠11∧g9 l s.at_ 13≠12
  ·rw [(Hs h3 h4).1]; exact fy h2i
  ·obtain ⟨s3,m1,h5,h6⟩:=Rl h3 h4
   have h3i:=hb _ _ _ _ _ h2i h5
   rcases h6 with ⟨h7,s5,m2,h8,h9,_⟩ | ⟨_,h9,_⟩
   ·rw [h9]
    refine hb _ _ _ _ _ ?_ h8
    unfold ki at h7
    rw [Bool.and_eq_true] at h7
    have:=rU h7.2
    exact ⟨by show 0≤s3.at_+1; omega,by show s3.at_+1≤_; omega⟩
   ·rw [h9]; exact h3i
theorem Rm {l:List bH} {one:fL→Option (fL × List cE)} (ho:∀ s s' a,lX l s→one s=some (s',a)→lX l s'):∀ {m:Nat} {s s':fL} {add:List cE},lX l s→sT l one m s=some (s',add)→lX l s'
 | 0,_,_,_,_,h=>by cases h
 | m+1,s,s',add,h0,h=>by
  cases hb:(decide (s.e=0) && !sQ l s.at_ nH) with
  | false=>rw [(Fe h hb).1]; exact h0
  | true=>
   obtain ⟨s1,a1,a2,h1,h2,_⟩:=Js h hb
   exact Rm ho (ho _ _ _ h0 h1) h2
theorem OX {l:List bH}:∀ {k:Nat} {s s':fL} {d lp:Int} {add:List cE},lX l s→To l k s d lp=some (s',add)→lX l s'
 | 0,_,_,_,_,_,_,h=>by cases h
 | k+1,s,s',d,lp,add,h0,h=>by
  obtain ⟨s1,h1,h2⟩:=XA h
  rw [h2]
  exact fy (Rm (λ _ _ _ a b=>OW (λ _ _ _ _ _ c e=>OX c e) a b) (fy (OV h0)) h1)
def pT (p:Nat) (lv:Value) (s:fL) (out:List cE) (Q:World→Prop):HP:=ua λ ov:Value=>ua λ ts:List bV=>sep (cC p (dU lv ov s)) (sep (bL ov ts) (eY (λ w=>lg ts out w∧Q w)))
section
variable {w0 w:World} {A:Nat→Prop} {L:List HP} {p:Nat} {lv:Value} {s:fL} {out:List cE} {Q:World→Prop}
theorem pT.open (hs:St w0 A (pT p lv s out Q::L) w):∃ (ov:Value) (ts:List bV),St w0 A (cC p (dU lv ov s)::bL ov ts::eY (λ w=>lg ts out w∧Q w)::L) w:=by
 obtain ⟨ov,h1⟩:=hs.eQ
 obtain ⟨ts,h2⟩:=h1.eQ
 exact ⟨ov,ts,h2.split.p1.split.p2⟩
theorem pT.shut {ov:Value} {ts:List bV} (hs:St w0 A (cC p (dU lv ov s)::bL ov ts::eY (λ w=>lg ts out w∧Q w)::L) w):St w0 A (pT p lv s out Q::L) w:=
 St.eJ (H:=λ ov:Value=>ua λ ts:List bV=>sep (cC p (dU lv ov s)) (sep (bL ov ts) (eY (λ w=>lg ts out w∧Q w)))) ov (St.eJ (H:=λ ts:List bV=>sep (cC p (dU lv ov s)) (sep (bL ov ts) (eY (λ w=>lg ts out w∧Q w)))) ts (St.join (hs.p2.p2.join).p1))
end
def akK (l:List bH) (k:Nat):Prop:=∀ (p:Nat) (lv:Value) (s:fL) (d lp:Int) (out:List cE) (s2:fL) (add:List cE) (Q:World→Prop) (F:Nat→Prop) (w:World),
 (pT p lv s out Q).p w F→(∀ w',iH F w w'→eL (λ _=>True) w' lv l)→lX l s→0≤d∧d+k≤1001→0≤lp∧lp+k≤1001→out.length+add.length≤1000000→To l k s d lp=some (s2,add)→
 Calls PG 256 [.pointer (some ⟨p,0,none⟩),.int .i64 d,.int .i64 lp].toArray w (qp λ v w'=>v = .int .i64 (add.length:Int)∧qx F (pT p lv s2 (out++add) Q) w w')
theorem adq {w:World} {sh:bV} {x:cE} (h:cD.dr w sh x):DL w (Flat.val sh.e) x.e:=by obtain ⟨_,_,rfl,h,_⟩:=h; exact h
theorem adr {w:World} {sh:bV} {x:cE} (h:cD.dr w sh x):DL w (Flat.val sh.f) x.f:=by obtain ⟨_,_,rfl,_,h⟩:=h; exact h
theorem OY {l:List bH} {kd:Int} {s:fL} (h:ki l kd s=true):lX l (Xy s):=by
 unfold ki at h
 rw [Bool.and_eq_true] at h
 have:=rU h.2
 exact ⟨by show 0≤s.at_+1; omega,by show s.at_+1≤_; omega⟩
theorem ads {α σ:Type} [Flat σ] [cD α σ] {w:World} {ts:List σ} {xs:List α} {i:Nat} {t:σ} {x:α} (h:lg ts xs w) (ht:cD.dr w t x):lg (ts.set i t) (xs.set i x) w:=by
 refine ⟨by rw [List.length_set,List.length_set,h.1],λ j t' x' h1 h2=>?_⟩
 rw [List.getElem?_set] at h1 h2
 by_cases hj:i=j
 ·rw [if_pos hj] at h1 h2
  split at h1
  ·split at h2
   ·cases h1; cases h2; exact ht
   ·cases h2
  ·cases h1
 ·rw [if_neg hj] at h1 h2; exact h.2 _ _ _ h1 h2
theorem XB {α:Type} {a b:List α} {x y:α}:(a++x::b).set a.length y=a++y::b:=by
 rw [List.set_append_right _ _ (Nat.le_refl _),Nat.sub_self,List.set_cons_zero]
set_option maxHeartbeats 4000000 in
theorem C233 (p:Nat) (lv:Value) (l:List bH) (s:fL) (k:Nat) (d lp:Int) (out:List cE) (s2:fL) (add:List cE) (Q:World→Prop) (F:Nat→Prop) (w:World) (hF:(pT p lv s out Q).p w F) (hT:∀ w',iH F w w'→eL (λ _=>True) w' lv l) (hk:iD l) (h0:lX l s) (HB:akK l k) (hd:0≤d∧d+k≤1000) (Mi:0≤lp∧lp+k≤1000) (Sb:out.length+add.length≤1000000) (hr:Cv l (To l k) s d lp=some (s2,add)):CR 233 [(.pointer (some ⟨p,0,none⟩)),.int .i64 d,.int .i64 lp] w (λ v w'=>v = .tuple #[]∧qx F (pT p lv s2 (out++add) Q) w w'):=by
 have hs:=St.begin hF;obtain ⟨ov,ts,hs⟩:=pT.open hs;have Nd:ts.length=out.length:=(hs.p2.eY).1.1;have Fx:=hk.n;have hn:l.length≤1000000:=by omega
 have td:=hk.at_;obtain ⟨Rc,Rd⟩:=id h0;refine aaD _ _ _ _ _ ?_;unfold S233;refine aF (aA gU (have hs:=hs.drew;aB iR hs.hb rfl (aF (aA eP (aB bN hs.hb rfl (aZ Gt hs (C215 _ l s.at_ _ (hT _ hs.aE) hn td) (λ w1 he hs=>?_)))))));have hs:=hs.p2.p2.p2;refine ⟨λ mm a b w'=>∃ j:Nat,a = .int .i64 (g9 l s.at_ j)∧b = .int .i64 ((j:Int)+2)∧mm=13 - j∧j≤13∧St w F [cC p (dU lv ov s),bL ov ts,eY (λ w=>lg ts out w∧Q w)] w',⟨_,0,rfl,rfl,rfl,Nat.zero_le _,hs⟩,?_⟩;rintro mm _ _ w2 ⟨j,rfl,rfl,rfl,hj,hs⟩ fu;refine jL (aC (λ iS=>?_) (λ iS=>?_))
 ·refine ⟨_,?_,λ _ _ h=>h⟩;refine aF (aA gU (have hs:=hs.drew;aB iR hs.hb rfl (aF (aA eP (aB bN hs.hb rfl (aZ anM hs (C253 ((j:Int)+2) _ (by omega)) (λ w3 he hs=>?_)))))));refine ⟨aG iR (hs.hb.cell rfl),?_⟩;refine ⟨aG bN (hs.hb.cell rfl),?_⟩;refine aZ vp hs (C211 _ l s.at_ (Hp ((j:Int)+2)) _ (hT _ hs.aE) hn) (λ w4 he hs=>aY (λ j4=>?_) (λ j4=>?_))
  ·intro jz;refine aN (by omega) ?_;exact ⟨_,by omega,j+1,congrArg (Value.int .i64) (by first | exact (Hq j4).symm | exact (Hr (by rw [j4]; simp)).symm),congrArg (Value.int .i64) (by omega),rfl,by omega,hs⟩
  ·intro jz;refine aN (by omega) ?_;exact ⟨_,by omega,j+1,congrArg (Value.int .i64) (by first | exact (Hq j4).symm | exact (Hr (by rw [j4]; simp)).symm),congrArg (Value.int .i64) (by omega),rfl,by omega,hs⟩
 ·obtain rfl:j=13:=by omega
  have hkb:=Rj (l:=l) (a:=s.at_) 13;refine ⟨λ jv w'=>jv = .bool (decide ((g9 l s.at_ 13)=13∧lp=0))∧w2=w',?_,?_⟩
  ·refine aH (aC (λ ml=>?_) (λ ml=>?_))
   ·refine aH ?_;exact ⟨tD (by omega),rfl⟩
   ·exact ⟨jvF (by omega),rfl⟩
  ·rintro _ w6 ⟨rfl,hw⟩ oG;subst hw;refine aC (λ mJ=>?_) (λ mJ=>?_)
   ·refine bI Gw hs (H':=λ _=>cC p (dU lv ov (jb l s 5))) (Φ:=λ _ _=>True) (λ F2 eN ey=>?_) ?_
    ·exact (C254 p lv ov l s 5 F2 _ eN (λ w' hc=>hT w' (ey w' hc).aE) hk h0).mono λ _ _ r=>r.mono λ _ _ h=>⟨trivial,h.2⟩
    rintro _ w7 _ hs;obtain ⟨e1,e2⟩:=Rk hr mJ;rw [e1,e2,List.append_nil];exact ⟨rfl,(pT.shut hs).mut⟩
   ·refine ⟨λ w'=>St w F [cC p (dU lv ov (Yw l s)),bL ov ts,eY (λ w=>lg ts out w∧Q w)] w',?_,?_⟩
    ·refine cT (aC (λ wh=>?_) (λ wh=>?_))
     ·refine aF (aA eP (aB bN hs.hb rfl (aN (by omega) (aF (aA eP (aV hs bN (eE rfl) (rfl) (λ w8 hs=>?_)))))));have hs:=hs.p2.p2.p2;have NV:(Yw l s)={s with at_:=s.at_+1}:=by unfold Yw; rw [if_pos (by omega)]
      rw [NV];exact hs
     ·have hs:=hs.p2.p2.p2;have NV:(Yw l s)=s:=by unfold Yw; rw [if_neg (by omega)]
      rw [NV];exact hs
    ·intro w9 hs GR;obtain ⟨q,x,uH,Gq⟩:=Xz hr mJ;refine bI anN hs (H':=λ v=>ua λ sh:bV=>fact (v=Flat.val sh) (sep (cC p (dU lv ov q)) (eY (λ w=>cD.dr w sh x)))) (Φ:=λ _ _=>True) (λ F2 eN ey=>?_) ?_
     ·exact (C255 p lv ov l (Yw l s) (g9 l s.at_ 13) (mR l s.at_) q x F2 _ eN (λ w' hc=>hT w' (ey w' hc).aE) hk (Jr h0) uH).mono λ _ _ r=>r.mono λ _ _ h=>⟨trivial,h⟩
     rintro v_x58 qd _ AH;obtain ⟨ayP,AI⟩:=AH.eQ
     clear AH
     obtain ⟨akL,CT⟩:=AI.oD
     clear AI
     subst akL;have hs:=CT.split
     clear CT
     obtain ⟨gE,gF,akM,hde,hdf⟩:=hs.p1.eY;subst akM;refine aO hs pn (λ DU tG hs=>have hs:=hs.enc (cs':=Flat.enc (⟨0,(ByteArray.mk #[]),(ByteArray.mk #[]),⟨none,0,0⟩,⟨none,0,0⟩,0,0,0,0⟩:bV)) rfl;aI (x:=(⟨(x).kind,(x).gM,(x).name,gE,gF,(x).n,(x).body,(x).fw,(x).at_⟩:bV)) hs fO rfl rfl (λ vt hs=>aF (aA pK (aB qW hs.p1.hb rfl (aJ jj (hs.p3).fM (aF (aA pK (have hs:=hs.drew;aB qW hs.p1.hb rfl (aD fO hs.At (bX ([(⟨(x).kind,(x).gM,(x).name,gE,gF,(x).n,(x).body,(x).fw,(x).at_⟩:bV)]) hs jj rfl rfl (eE rfl) (λ afM uU hs=>?_)))))))))))
     refine ⟨aG qW (hs.p2.hb.cell rfl),?_⟩;have akN:=(hs).fM;refine cP hs.p4 jj akN (by simp; omega) (by decide) (λ Rn sw hs=>have hs:=hs.p1.drop;aF (aA pK (aV hs.p2 qW (eE rfl) ((hs).fM.one) (λ wc hs=>?_))));refine ⟨λ jv w'=>jv = .bool (decide ((g9 l s.at_ 13)≠11∧(g9 l s.at_ 13)≠12))∧St w F [cC p (dU lv Rn q),bL Rn (ts++[(⟨(x).kind,(x).gM,(x).name,gE,gF,(x).n,(x).body,(x).fw,(x).at_⟩:bV)]),eY (λ w=>lg (ts++[(⟨(x).kind,(x).gM,(x).name,gE,gF,(x).n,(x).body,(x).fw,(x).at_⟩:bV)]) (out++[x]) w∧(λ w=>Q w∧cD.dr w (⟨(x).kind,(x).gM,(x).name,gE,gF,(x).n,(x).body,(x).fw,(x).at_⟩:bV) x) w),cC DU (Flat.enc (⟨(x).kind,(x).gM,(x).name,gE,gF,(x).n,(x).body,(x).fw,(x).at_⟩:bV))] w',?_,?_⟩
     ·refine cT (aC (λ arw=>?_) (λ arw=>?_))
      ·refine cT ?_;have hs:=hs.p3.p4.fK.dQ (Ψ:=λ w=>lg (ts++[(⟨(x).kind,(x).gM,(x).name,gE,gF,(x).n,(x).body,(x).fw,(x).at_⟩:bV)]) (out++[x]) w∧(λ w=>Q w∧cD.dr w (⟨(x).kind,(x).gM,(x).name,gE,gF,(x).n,(x).body,(x).fw,(x).at_⟩:bV) x) w) (λ w h=>⟨h.1.1.snoc h.2,h.1.2,h.2⟩);have hs:=hs.p3.p1.p3.p3;exact ⟨vb (by grind),hs⟩
      ·have hs:=hs.p3.p4.fK.dQ (Ψ:=λ w=>lg (ts++[(⟨(x).kind,(x).gM,(x).name,gE,gF,(x).n,(x).body,(x).fw,(x).at_⟩:bV)]) (out++[x]) w∧(λ w=>Q w∧cD.dr w (⟨(x).kind,(x).gM,(x).name,gE,gF,(x).n,(x).body,(x).fw,(x).at_⟩:bV) x) w) (λ w h=>⟨h.1.1.snoc h.2,h.1.2,h.2⟩);have hs:=hs.p3.p1.p3.p3;exact ⟨vb (by grind),hs⟩
     ·rintro _ ze ⟨rfl,hs⟩ R7;refine aC (λ Le=>?_) (λ Le=>?_)
      ·refine bI ya hs (H':=λ _=>cC p (dU lv Rn (dP l q (ByteArray.mk #[59])))) (Φ:=λ _ _=>True) (λ F2 eN ey=>?_) ?_
       ·exact (C234 p lv Rn l q (ByteArray.mk #[59]) F2 _ eN (λ w' hc=>hT w' (ey w' hc).aE) hk (BM (Jr h0) uH)).mono λ _ _ r=>r.mono λ _ _ h=>⟨trivial,h.2⟩
       rintro _ Cn _ hs;have hs:=(hs.p3.drop.p1.p1.p2).dQ (Ψ:=λ w=>lg (ts++[(⟨(x).kind,(x).gM,(x).name,gE,gF,(x).n,(x).body,(x).fw,(x).at_⟩:bV)]) (out++[x]) w∧Q w) (λ w h=>⟨h.1,h.2.1⟩);have hs:=hs.p2.p2;obtain ⟨e1,e2⟩:=Hs Gq Le;rw [e1,e2];exact ⟨rfl,(pT.shut hs).mut⟩
      ·refine ⟨λ jv w'=>jv = .int .i64 (if (g9 l s.at_ 13)=12 then lp+1 else lp)∧ze=w',?_,?_⟩
       ·refine aH (aC (λ arx=>?_) (λ arx=>?_))
        ·refine aN (by omega) ?_;exact ⟨by rw [if_pos (by omega)],rfl⟩
        ·exact ⟨by rw [if_neg (by omega)],rfl⟩
       ·rintro _ Iy ⟨rfl,hw⟩ dd6;subst hw;refine aN (by omega) ?_;have hs:=pT.shut hs.p2.p2.p2;obtain ⟨s3,m1,It,Yl⟩:=Rl Gq Le;have hm1:m1.length<add.length:=by rcases Yl with ⟨_,s5,m2,_,_,e⟩ | ⟨_,_,e⟩ <;> rw [e] <;> simp <;> omega
        refine bI aeC hs (H':=λ _=>pT p lv s3 ((out++[x])++m1) (λ w=>Q w∧cD.dr w (⟨(x).kind,(x).gM,(x).name,gE,gF,(x).n,(x).body,(x).fw,(x).at_⟩:bV) x)) (Φ:=λ v _=>v = .int .i64 (m1.length:Int)) (λ F2 eN ey=>?_) ?_
        ·exact HB p lv q (d+1) (if (g9 l s.at_ 13)=12 then lp+1 else lp) (out++[x]) s3 m1 (λ w=>Q w∧cD.dr w (⟨(x).kind,(x).gM,(x).name,gE,gF,(x).n,(x).body,(x).fw,(x).at_⟩:bV) x) F2 _ eN (λ w' hc=>hT w' (ey w' hc).aE) (BM (Jr h0) uH) (by omega) (by split <;> omega) (by rw [List.length_append,List.length_singleton]; omega) It
        rintro _ JG rfl hs;obtain ⟨ov3,ts3,hs⟩:=pT.open hs;refine aA l8 (aV hs.p3 bN (eE rfl) (rfl) (λ KR hs=>?_));have hs:=hs.enc (cs':=Flat.enc (⟨(x).kind,(x).gM,(x).name,gE,gF,(x).n,(m1.length:Int),(x).fw,(x).at_⟩:bV)) rfl;refine ⟨λ w'=>∃ (bd el:Int) (rest:List cE),add={x with body:=bd,fw:=el}::rest∧St w F [pT p lv s2 ((out++[x])++rest) (λ w=>Q w∧cD.dr w (⟨(x).kind,(x).gM,(x).name,gE,gF,(x).n,(x).body,(x).fw,(x).at_⟩:bV) x),cC DU (Flat.enc (⟨(x).kind,(x).gM,(x).name,gE,gF,(x).n,bd,el,(x).at_⟩:bV))] w',?_,?_⟩
        ·refine ⟨λ jv w'=>jv = .bool (ki l (g9 l s.at_ 13) s3)∧St w F [cC p (dU lv ov3 s3),bL ov3 ts3,eY (λ w=>lg ts3 ((out++[x])++m1) w∧(λ w=>Q w∧cD.dr w (⟨(x).kind,(x).gM,(x).name,gE,gF,(x).n,(x).body,(x).fw,(x).at_⟩:bV) x) w),cC DU (Flat.enc (⟨(x).kind,(x).gM,(x).name,gE,gF,(x).n,(m1.length:Int),(x).fw,(x).at_⟩:bV))] w',?_,?_⟩
         ·refine aH (aC (λ Hu=>?_) (λ Hu=>?_))
          ·refine aF (aA kr (have hs:=hs.drew;aB nn hs.p1.hb rfl (aH (aC (λ Bm=>?_) (λ Bm=>?_)))))
           ·refine aF (aA gU (aB iR hs.p1.hb rfl (aF (aA eP (aB bN hs.p1.hb rfl (aZ vp hs (C211 _ l s3.at_ (ByteArray.mk #[101,108,115,101]) _ (hT _ hs.aE) hn) (λ MN he hs=>?_)))))));have hs:=hs.p3.p3.p3;exact ⟨vb (by unfold ki; rw [decide_eq_true Hu,decide_eq_true Bm]; rfl),hs⟩
           ·have hs:=hs.p3.p3.p3;exact ⟨vb (by unfold ki; first | (rw [decide_eq_false Hu]; rfl) | (rw [decide_eq_true Hu,decide_eq_false Bm]; rfl)),hs⟩
          ·have hs:=hs.drew.p3.p3.p3;exact ⟨vb (by unfold ki; first | (rw [decide_eq_false Hu]; rfl) | (rw [decide_eq_true Hu,decide_eq_false Bm]; rfl)),hs⟩
         ·rintro _ Qw ⟨rfl,hs⟩ dd7;refine aY (λ qn=>?_) (λ qn=>?_)
          ·obtain ⟨hhe,s5,m2,hb2,e5,sX⟩ | ⟨hhe,_⟩:=Yl
           rotate_left
           ·rw [hhe] at qn; cases qn
           subst e5;have hin3:=rU (show sQ l s3.at_ af7=true by unfold ki at qn; rw [Bool.and_eq_true] at qn; exact qn.2);refine aF (aA eP (aB bN hs.hb rfl (aN (by omega) (aF (aA eP (aV hs bN (eE rfl) (rfl) (λ Tl hs=>aN (by omega) ?_)))))));have hs:=pT.shut (s:=Xy s3) hs.p2.p2.p2;have hkd11:(g9 l s.at_ 13)=11:=by unfold ki at qn; simp at qn; exact qn.1.1
           rw [if_neg (show ¬ (g9 l s.at_ 13)=12 by omega)];refine bI aeC hs (H':=λ _=>pT p lv s2 (((out++[x])++m1)++m2) (λ w=>Q w∧cD.dr w (⟨(x).kind,(x).gM,(x).name,gE,gF,(x).n,(x).body,(x).fw,(x).at_⟩:bV) x)) (Φ:=λ v _=>v = .int .i64 (m2.length:Int)) (λ F2 eN ey=>?_) ?_
           ·exact HB p lv (Xy s3) (d+1) lp ((out++[x])++m1) s2 m2 (λ w=>Q w∧cD.dr w (⟨(x).kind,(x).gM,(x).name,gE,gF,(x).n,(x).body,(x).fw,(x).at_⟩:bV) x) F2 _ eN (λ w' hc=>hT w' (ey w' hc).aE) (OY qn) (by omega) (by omega) (by have:=congrArg List.length sX; simp at this ⊢; omega) hb2
           rintro _ VK rfl hs;rw [List.append_assoc (out++[x])] at hs;refine aA iy (aV hs.p1 bN (eE rfl) (rfl) (λ Se hs=>?_));have hs:=hs.enc (cs':=Flat.enc (⟨(x).kind,(x).gM,(x).name,gE,gF,(x).n,(m1.length:Int),(m2.length:Int),(x).at_⟩:bV)) rfl;have hs:=hs.p1;exact ⟨_,_,_,sX,hs⟩
          ·obtain ⟨hhe,_⟩ | ⟨hhe,e5,sX⟩:=Yl
           ·rw [hhe] at qn; cases qn
           subst e5;have hs:=((pT.shut hs.p2.p2.p2).p1).p1;exact ⟨(m1.length:Int),x.fw,m1,sX,hs⟩
        ·rintro w26 ⟨bd,el,rest,sX,hs⟩ dd8;obtain ⟨ov5,ts5,hs⟩:=pT.open hs;refine aF (aA pK (have hs:=hs.drew;aB qW hs.hb rfl (aD fO hs.p3.At ?_)));have h5l:ts5.length=(out++[x]++rest).length:=(hs.p2.eY).1.1;have h6l:=congrArg List.length sX;simp only [List.length_append,List.length_cons,List.length_nil] at h5l h6l;obtain ⟨ayR,att⟩:=gx (ts5) (i:=(((ts).length:Int)).toNat) (by omega);refine dT hs.p1 jj (by omega) (by omega) (λ _ akO=>lP _ hs.p1 fO akO (by omega) (λ w27 hs=>?_));have hs:=(hs.p3.drop.p1.p2).dQ (Ψ:=λ w=>lg (ts5.set (ts.length:Int).toNat (⟨(x).kind,(x).gM,(x).name,gE,gF,(x).n,bd,el,(x).at_⟩:bV)) (out++add) w∧Q w) (λ w h=>⟨by
  have hh:=ads (i:=(ts.length:Int).toNat) (t:=(⟨(x).kind,(x).gM,(x).name,gE,gF,(x).n,bd,el,(x).at_⟩:bV)) (x:={x with body:=bd,fw:=el}) h.1 ⟨gE,gF,rfl,adq (x:=x) h.2.2,adr (x:=x) h.2.2⟩;rw [show (ts.length:Int).toNat=out.length from by omega,List.append_assoc,List.singleton_append,XB] at hh
  rw [sX,show (ts.length:Int).toNat=out.length from by omega]; exact hh,h.2.1⟩)
         have hs:=hs.p2.p2;exact ⟨rfl,(pT.shut hs).mut⟩
set_option maxHeartbeats 2000000 in
theorem C256 (p:Nat) (lv:Value) (l:List bH) (s:fL) (k:Nat) (d lp:Int) (out:List cE) (s2:fL) (add:List cE) (Q:World→Prop) (F:Nat→Prop) (w:World) (hF:(pT p lv s out Q).p w F) (hT:∀ w',iH F w w'→eL (λ _=>True) w' lv l) (hk:iD l) (h0:lX l s) (HB:akK l k) (hd:0≤d∧d+k≤1000) (Mi:0≤lp∧lp+k≤1000) (Sb:out.length+add.length≤1000000) (hr:To l (k+1) s d lp=some (s2,add)):CR 256 [(.pointer (some ⟨p,0,none⟩)),.int .i64 d,.int .i64 lp] w (λ v w'=>v = .int .i64 (add.length:Int)∧qx F (pT p lv s2 (out++add) Q) w w'):=by
 have hs:=St.begin hF;obtain ⟨ov,ts,hs⟩:=pT.open hs;have Nd:ts.length=out.length:=(hs.p2.eY).1.1;obtain ⟨s9,I3,e2⟩:=XA hr;have Fx:=hk.n;have hn:l.length≤1000000:=by omega
 have td:=hk.at_;obtain ⟨Rc,Rd⟩:=id h0;refine aa0 _ _ _ _ _ ?_;unfold S256;refine aF (aA pK (aB qW hs.hb rfl (aJ jj (hs.p1).fM ?_)));refine ⟨λ w'=>St w F [cC p (dU lv ov (Tn l s d)),bL ov ts,eY (λ w=>lg ts out w∧Q w)] w',?_,?_⟩
 ·refine ⟨λ jv w'=>jv = .bool (decide (12<d) && sQ l s.at_ Cg)∧St w F [cC p (dU lv ov s),bL ov ts,eY (λ w=>lg ts out w∧Q w)] w',?_,?_⟩
  ·refine cZ (aC (λ gV=>?_) (λ gV=>?_))
   ·refine aF (aA gU (have hs:=hs.drew;aB iR hs.hb rfl (aF (aA eP (aB bN hs.hb rfl (aZ vp hs (C211 _ l s.at_ (ByteArray.mk #[123]) _ (hT _ hs.aE) hn) (λ w1 he hs=>?_)))))));exact ⟨vb (by first | (rw [decide_eq_true (show 12<d by omega)]; rfl) | (rw [decide_eq_false (show ¬ 12<d by omega)]; rfl)),hs⟩
   ·have hs:=hs.drew;exact ⟨vb (by first | (rw [decide_eq_true (show 12<d by omega)]; rfl) | (rw [decide_eq_false (show ¬ 12<d by omega)]; rfl)),hs⟩
  ·rintro _ w2 ⟨rfl,hs⟩ fu;refine aY (λ fH=>?_) (λ fH=>?_)
   ·refine bI Gw hs (H':=λ _=>cC p (dU lv ov (jb l s 7))) (Φ:=λ _ _=>True) (λ F2 eN ey=>?_) ?_
    ·exact (C254 p lv ov l s 7 F2 _ eN (λ w' hc=>hT w' (ey w' hc).aE) hk h0).mono λ _ _ r=>r.mono λ _ _ h=>⟨trivial,h.2⟩
    rintro _ w3 _ hs;have hs:=hs.p2.p2.p2;have h7:Tn l s d=jb l s 7:=by unfold Tn; rw [if_pos fH]
    rw [h7]; exact hs
   ·have hs:=hs.p2.p2.p2;have h7:Tn l s d=s:=by unfold Tn; rw [if_neg (by rw [fH]; simp)]
    rw [h7]; exact hs
 ·intro w4 hs jz;refine bI ya hs (H':=λ _=>cC p (dU lv ov (dP l (Tn l s d) (ByteArray.mk #[123])))) (Φ:=λ _ _=>True) (λ F2 eN ey=>?_) ?_
  ·exact (C234 p lv ov l (Tn l s d) (ByteArray.mk #[123]) F2 _ eN (λ w' hc=>hT w' (ey w' hc).aE) hk (OV h0)).mono λ _ _ r=>r.mono λ _ _ h=>⟨trivial,h.2⟩
  rintro _ w5 _ hs;have hs:=pT.shut (s:=dP l (Tn l s d) Cg) hs.p2.p2.p2;refine ⟨λ mm w'=>∃ (s1:fL) (o1 a2:List cE),lX l s1∧sT l (λ s=>Cv l (To l k) s d lp) mm s1=some (s9,a2)∧add=o1++a2∧St w F [pT p lv s1 (out++o1) Q] w',⟨10000,_,[],add,fy (OV h0),I3,rfl,by rw [List.append_nil]; exact hs⟩,?_⟩;rintro mm w6 ⟨s1,o1,a2,Mn,It,sX,hs⟩ oG;obtain ⟨m,rfl⟩:=Ht It;obtain ⟨ov1,Yn,hs⟩:=pT.open hs;have adu:Yn.length=(out++o1).length:=(hs.p2.eY).1.1;rw [List.length_append] at adu;refine ⟨λ jv w'=>jv = .bool (decide (s1.e=0) && !sQ l s1.at_ nH)∧St w F [cC p (dU lv ov1 s1),bL ov1 Yn,eY (λ w=>lg Yn (out++o1) w∧Q w)] w',?_,?_⟩
  ·refine aF (aA kr (have hs:=hs.drew;aB nn hs.hb rfl (aH (aC (λ gX=>?_) (λ gX=>?_)))))
   ·refine aF (aA gU (aB iR hs.hb rfl (aF (aA eP (aB bN hs.hb rfl (aZ vp hs (C211 _ l s1.at_ (ByteArray.mk #[125]) _ (hT _ hs.aE) hn) (λ w7 he hs=>bZ ?_)))))));have hs:=hs.p2.p2.p2;exact ⟨vb (by first | (rw [decide_eq_true gX]; rfl) | (rw [decide_eq_false gX]; rfl)),hs⟩
   ·have hs:=hs.p2.p2.p2;exact ⟨vb (by first | (rw [decide_eq_true gX]; rfl) | (rw [decide_eq_false gX]; rfl)),hs⟩
  ·rintro _ w8 ⟨rfl,hs⟩ GR;refine aY (λ wh=>?_) (λ wh=>?_)
   ·obtain ⟨s3,a1,a3,ho,hb3,rfl⟩:=Js It wh;have hs:=pT.shut hs.p2.p2.p2;refine bI aeB hs (H':=λ _=>pT p lv s3 ((out++o1)++a1) Q) (Φ:=λ _ _=>True) (λ F2 eN ey=>?_) ?_
    ·exact (C233 p lv l s1 k d lp (out++o1) s3 a1 Q F2 _ eN (λ w' hc=>hT w' (ey w' hc).aE) hk Mn HB (by omega) (by omega) (by have:=congrArg List.length sX; simp at this ⊢; omega) ho).mono λ _ _ r=>r.mono λ _ _ h=>⟨trivial,h.2⟩
    rintro _ w9 _ hs;exact ⟨_,by omega,s3,o1++a1,a3,OW (λ _ _ _ _ _ c e=>OX c e) Mn ho,hb3,by rw [sX,List.append_assoc],by rw [← List.append_assoc]; exact hs⟩
   ·obtain ⟨e9,rfl⟩:=Fe It wh;replace e9:=e9.symm;subst e9;rw [List.append_nil] at sX;subst sX;refine bI ya hs (H':=λ _=>cC p (dU lv ov1 (dP l s1 (ByteArray.mk #[125])))) (Φ:=λ _ _=>True) (λ F2 eN ey=>?_) ?_
    ·exact (C234 p lv ov1 l s1 (ByteArray.mk #[125]) F2 _ eN (λ w' hc=>hT w' (ey w' hc).aE) hk Mn).mono λ _ _ r=>r.mono λ _ _ h=>⟨trivial,h.2⟩
    rintro _ qd _ hs;refine aF (aA pK (aB qW hs.hb rfl (aJ jj (hs.p1).fM (gD (by omega) ?_))));rw [e2];exact ⟨congrArg (Value.int .i64) (by omega),(pT.shut hs).mut⟩
theorem arz {l:List bH} (hk:iD l):∀ k,akK l k
 | 0=>λ p lv s d lp out s2 add Q F w _ _ _ _ _ _ h=>by cases h
 | k+1=>λ p lv s d lp out s2 add Q F w hF hT h0 hd Mi Sb h=>C256 p lv l s k d lp out s2 add Q F w hF hT hk h0 (arz hk k) (by omega) (by omega) Sb h
def tC (i:Int):fL:=⟨i,0,0⟩
def Ff (l:List bH) (i op:Int):Option (List cE × Int × Int × Int):=
 (sT l (λ s=>Cv l (To l 20) s 0 0) 10000 (tC i)).bind λ r=>
  if 1000000<r.2.length then none else if (dP l r.1 nH).e≠0 then some ([],0,(dP l r.1 nH).e,(dP l r.1 nH).pos)
  else if 40<r.2.length then some ([],0,2,(oL l op).at_)
  else some (r.2,(dP l r.1 nH).at_,0,0)
def Jt (l:List bH) (s:fL):Bool:=match kF l s.at_ with | some t=>decide (t.kind=2) | none=>false
def fe (l:List bH) (nb:Bool) (s:fL):fL × dH:=
 if (nb && (gT l (eS l s).1 JL).2)=true then
  (if Jt l (gT l (eS l s).1 JL).1=true then (Xy (gT l (eS l s).1 JL).1,{ (eS l s).2 with n:=(oL l (gT l (eS l s).1 JL).1.at_).n})
  else (jb l (gT l (eS l s).1 JL).1 5,(eS l s).2))
 else eS l s
abbrev BN:ByteArray:=⟨#[44]⟩
abbrev Ro:ByteArray:=⟨#[59]⟩
def pd (l:List bH) (nb:Bool):Nat→Bool→fL→Option (fL × List dH)
 | 0,_,_=>none
 | m+1,more,s=>if (more && decide (s.e=0))=true then (pd l nb m (gT l (fe l nb s).1 BN).2 (gT l (fe l nb s).1 BN).1).bind λ r=>some (r.1,(fe l nb s).2::r.2) else some (s,[])
def mS (l:List bH) (nb:Bool) (s:fL):Option (fL × List dH):=(pd l nb 10000 true s).bind λ r=>if 1000000<r.2.length then none else some (dP l r.1 Ro,r.2)
abbrev SP:ByteArray:=⟨#[114,101,103]⟩
def AO (l:List bH) (s:fL):Option (fL × List ByteArray):=
 if (gT l s SP).2=true then (mS l false (gT l s SP).1).bind λ r=>some (r.1,r.2.map dH.name) else some (s,[])
def sU (l:List bH) (s:fL) (nm:ByteArray) (a:Int):Option (fL × dF):=
 (AO l (dP l s Cg)).bind λ r=>
  if r.1.e≠0 then some (r.1,⟨nm,r.2,[],a⟩)
  else (Ff l r.1.at_ s.at_).bind λ R=>if 0≤R.2.1∧R.2.1≤l.length then some (⟨R.2.1,R.2.2.1,R.2.2.2⟩,⟨nm,r.2,R.1,a⟩) else none
def wQ (l:List bH) (s:fL) (a:Int):Option (fL × jE):=
 (vC l s.at_).bind λ R=>if R.2.2.1≠0 then some ({s with e:=R.2.2.1,pos:=R.2.2.2},⟨[],0⟩)
  else if 0≤R.2.1∧R.2.1≤l.length then some (dP l {s with at_:=R.2.1} Ro,⟨R.1,a⟩) else none
def mM {α:Type} (l:List bH) (t:ByteArray) (rd:fL→Option (fL × α)):Nat→fL→Option (fL × List α)
 | 0,_=>none
 | m+1,s=>if (gT l s t).2=true then (rd (gT l s t).1).bind λ r=>(mM l t rd m r.1).bind λ q=>some (q.1,r.2::q.2) else some (s,[])
def za (l:List bH) (s:fL):Int:=(oL l (s.at_ - 1)).at_
def OZ (l:List bH) (s:fL):Option (fL × List dF):=
 if (gT l s ⟨#[114,101,99,111,118,101,114]⟩).2=true then (sU l (gT l s ⟨#[114,101,99,111,118,101,114]⟩).1 ⟨#[]⟩ (za l (gT l s ⟨#[114,101,99,111,118,101,114]⟩).1)).bind λ r=>some (r.1,[r.2]) else some (s,[])
abbrev XC:ByteArray:=⟨#[108,105,110,101]⟩
abbrev akP:ByteArray:=⟨#[118,111,108]⟩
abbrev XD:ByteArray:=⟨#[108,111,99,107]⟩
abbrev Ju:ByteArray:=⟨#[116,104,114,101,97,100]⟩
abbrev Jv:ByteArray:=⟨#[97,108,119,97,121,115]⟩
def akQ (l:List bH) (s:fL):Option (fL × dF):=sU l (eS l s).1 (eS l s).2.name (eS l s).2.at_
def F8 (l:List bH) (s:fL):fL:=if s.at_<l.length then jb l s 5 else s
def Mo:cO:=⟨[],[],[],[],[],[]⟩
def rW (t:ByteArray):Option (cO × Int × Int):=
 (uC t).bind λ L=>if L.2.1≠0 then some (Mo,L.2.1,L.2.2) else
 (mM L.1 XC (mS L.1 true) 10000 (tC 0)).bind λ r1=>
 (mM L.1 akP (mS L.1 true) 10000 r1.1).bind λ r2=>
 (mM L.1 XD (mS L.1 false) 10000 r2.1).bind λ r3=>
 (mM L.1 Ju (akQ L.1) 10000 r3.1).bind λ r4=>
 (OZ L.1 r4.1).bind λ r5=>
 (mM L.1 Jv (λ s=>wQ L.1 s (za L.1 s)) 10000 r5.1).bind λ r6=>
  if 1000000<r1.2.length∨1000000<r2.2.flatten.length∨1000000<r3.2.flatten.length∨1000000<r4.2.length∨1000000<r6.2.length then none else if (F8 L.1 r6.1).e≠0 then some (Mo,(F8 L.1 r6.1).e,(F8 L.1 r6.1).pos) else some (⟨r1.2,r2.2.flatten,r3.2.flatten,r4.2,r5.2,r6.2⟩,0,0)
section
variable {l:List bH} {s s':fL}
theorem XE {t:ByteArray} (h:(gT l s t).2=true):gT l s t=({s with at_:=s.at_+1},true)∧s.e=0∧0≤s.at_∧s.at_<l.length:=by
 unfold gT at h ⊢
 split at h
 ·rename_i h2
  rw [if_pos h2]
  rw [Bool.and_eq_true,decide_eq_true_eq] at h2
  exact ⟨rfl,h2.1,rU h2.2⟩
 ·cases h
theorem wR {t:ByteArray} (h:(gT l s t).2=false):gT l s t=(s,false):=by
 unfold gT at h ⊢
 split at h
 ·cases h
 ·rename_i h2; rw [if_neg h2]
theorem Fg {nb:Bool} (h:lX l s):lX l (fe l nb s).1:=by
 have h1:=uD h
 have h2:=j3 (t:=JL) h1
 unfold fe
 split
 ·split
  ·rename_i h3
   unfold Jt at h3
   cases ht:kF l (gT l (eS l s).1 JL).1.at_ with
   | none=>rw [ht] at h3; cases h3
   | some t=>
    have:=mv ht
    exact ⟨by show 0≤(gT l (eS l s).1 JL).1.at_+1; omega,by show (gT l (eS l s).1 JL).1.at_+1≤_; omega⟩
  ·exact sS h2
 ·exact h1
theorem Hv {nb:Bool}:∀ {m:Nat} {more:Bool} {s s':fL} {x:List dH},lX l s→pd l nb m more s=some (s',x)→lX l s'
 | 0,_,_,_,_,_,h=>by cases h
 | m+1,more,s,s',x,h0,h=>by
  unfold pd at h
  split at h
  ·obtain ⟨q,y,h1,h2⟩:=eC h
   cases h2
   exact Hv (j3 (Fg h0)) h1
  ·cases h; exact h0
theorem xD {nb:Bool} {x:List dH} (h:mS l nb s=some (s',x)):∃ s1,pd l nb 10000 true s=some (s1,x)∧s'=dP l s1 Ro∧x.length≤1000000:=by
 unfold mS at h
 obtain ⟨q,y,h1,h2⟩:=eC h
 dsimp only at h2
 split at h2
 ·cases h2
 ·cases h2; exact ⟨_,h1,rfl,by omega⟩
theorem xE {nb:Bool} {x:List dH} (h0:lX l s) (h:mS l nb s=some (s',x)):lX l s':=by
 obtain ⟨s1,h1,h2,_⟩:=xD h
 rw [h2]; exact fy (Hv h0 h1)
theorem Mp {nb more:Bool} {m:Nat} {x:List dH} (h:pd l nb m more s=some (s',x)):∃ k,m=k+1:=by
 cases m with
 | zero=>cases h
 | succ k=>exact ⟨k,rfl⟩
theorem Fh {nb more:Bool} {m:Nat} {x:List dH} (h:pd l nb (m+1) more s=some (s',x)) (hb:(more && decide (s.e=0))=false):s'=s∧x=[]:=by
 unfold pd at h; rw [hb,if_neg (by simp)] at h; cases h; exact ⟨rfl,rfl⟩
theorem SQ {nb more:Bool} {m:Nat} {x:List dH} (h:pd l nb (m+1) more s=some (s',x)) (hb:(more && decide (s.e=0))=true):∃ y,pd l nb m (gT l (fe l nb s).1 BN).2 (gT l (fe l nb s).1 BN).1=some (s',y)∧x=(fe l nb s).2::y:=by
 unfold pd at h; rw [hb,if_pos rfl] at h
 obtain ⟨q,y,h1,h2⟩:=eC h
 cases h2
 exact ⟨_,h1,rfl⟩
theorem Mq {x:List ByteArray} (h0:lX l s) (h:AO l s=some (s',x)):lX l s':=by
 unfold AO at h
 split at h
 ·obtain ⟨q,y,h1,h2⟩:=eC h
  cases h2
  exact xE (j3 h0) h1
 ·cases h; exact h0
theorem Fi {nm:ByteArray} {a:Int} {x:dF} (h0:lX l s) (h:sU l s nm a=some (s',x)):lX l s':=by
 unfold sU at h
 obtain ⟨q,y,h1,h2⟩:=eC h
 have h3:=Mq (fy h0) h1
 dsimp only at h2
 split at h2
 ·cases h2; exact h3
 ·cases hr:Ff l q.at_ s.at_ with
  | none=>rw [hr] at h2; cases h2
  | some R=>
   rw [hr] at h2
   simp only [Option.bind_some] at h2
   split at h2
   ·rename_i h4; cases h2; exact h4
   ·cases h2
theorem SR {a:Int} {x:jE} (h0:lX l s) (h:wQ l s a=some (s',x)):lX l s':=by
 unfold wQ at h
 cases hr:vC l s.at_ with
 | none=>rw [hr] at h; cases h
 | some R=>
  rw [hr] at h
  simp only [Option.bind_some] at h
  split at h
  ·cases h; exact h0
  ·split at h
   ·rename_i h4; cases h; exact fy h4
   ·cases h
theorem rX {α:Type} {t:ByteArray} {rd:fL→Option (fL × α)} {m:Nat} {x:List α} (h:mM l t rd m s=some (s',x)):∃ k,m=k+1:=by
 cases m with
 | zero=>cases h
 | succ k=>exact ⟨k,rfl⟩
theorem uE {α:Type} {t:ByteArray} {rd:fL→Option (fL × α)} {m:Nat} {x:List α} (h:mM l t rd (m+1) s=some (s',x)) (hb:(gT l s t).2=false):s'=s∧x=[]:=by
 unfold mM at h; rw [hb,if_neg (by simp)] at h; cases h; exact ⟨rfl,rfl⟩
theorem wS {α:Type} {t:ByteArray} {rd:fL→Option (fL × α)} {m:Nat} {x:List α} (h:mM l t rd (m+1) s=some (s',x)) (hb:(gT l s t).2=true):∃ s1 y z,rd (gT l s t).1=some (s1,y)∧mM l t rd m s1=some (s',z)∧x=y::z:=by
 unfold mM at h; rw [hb,if_pos rfl] at h
 obtain ⟨q,y,h1,h2⟩:=eC h
 obtain ⟨q2,y2,h3,h4⟩:=eC h2
 cases h4
 exact ⟨_,_,_,h1,h3,rfl⟩
end
def noQ:World→Prop:=λ _=>True
theorem AP {l:List bH} {i:Int} {t:bH} (h0:0≤i) (h:l[i.toNat]? = some t):oL l i=t:=by
 unfold oL kF; rw [if_pos h0,h]; rfl
theorem adv {l:List bH} {i op:Int} {R:List cE × Int × Int × Int} (h:Ff l i op=some R):∃ s9 add,sT l (λ s=>Cv l (To l 20) s 0 0) 10000 (tC i)=some (s9,add)∧add.length≤1000000∧
  ((dP l s9 nH).e≠0→R=([],0,(dP l s9 nH).e,(dP l s9 nH).pos))∧(¬ (dP l s9 nH).e≠0→40<(add.length:Int)→R=([],0,2,(oL l op).at_))∧
  (¬ (dP l s9 nH).e≠0→¬ 40<(add.length:Int)→R=(add,(dP l s9 nH).at_,0,0)):=by
 unfold Ff at h
 obtain ⟨q,y,h1,h2⟩:=eC h
 dsimp only at h2
 split at h2
 ·cases h2
 ·rename_i hl
  refine ⟨q,y,h1,by omega,λ he=>?_,λ he hb=>?_,λ he hb=>?_⟩
  ·rw [if_pos he] at h2; exact (Option.some.inj h2).symm
  ·rw [if_neg he,if_pos (by omega)] at h2; exact (Option.some.inj h2).symm
  ·rw [if_neg he,if_neg (by omega)] at h2; exact (Option.some.inj h2).symm
section
variable {l:List bH} {s s':fL} {nb:Bool}
theorem SS (hn:nb=true) (h2:(gT l (eS l s).1 JL).2=true) (h3:Jt l (gT l (eS l s).1 JL).1=true) :
  fe l nb s=(Xy (gT l (eS l s).1 JL).1,{ (eS l s).2 with n:=(oL l (gT l (eS l s).1 JL).1.at_).n}):=by
 unfold fe; rw [hn,h2,if_pos (show (true && true)=true from rfl),if_pos h3]
theorem SU (hn:nb=true) (h2:(gT l (eS l s).1 JL).2=true) (h3:Jt l (gT l (eS l s).1 JL).1=false) :
  fe l nb s=(jb l (gT l (eS l s).1 JL).1 5,(eS l s).2):=by
 unfold fe; rw [hn,h2,if_pos (show (true && true)=true from rfl),if_neg (by rw [h3]; simp)]
theorem XF (h2:(gT l (eS l s).1 JL).2=false):fe l nb s=((gT l (eS l s).1 JL).1,(eS l s).2):=by
 unfold fe; rw [if_neg (by rw [h2]; simp),wR h2]
theorem XG (hn:nb=false):fe l nb s=((eS l s).1,(eS l s).2):=by
 unfold fe; rw [if_neg (by rw [hn]; simp)]
theorem adw {q:fL} (h:Jt l q=true):∃ tk,kF l q.at_=some tk∧l[q.at_.toNat]? = some tk∧0≤q.at_∧q.at_<l.length:=by
 unfold Jt at h
 cases ht:kF l q.at_ with
 | none=>rw [ht] at h; cases h
 | some tk=>have:=mv ht; exact ⟨tk,rfl,this.2.2,this.1,this.2.1⟩
theorem Hw {x:List ByteArray} (h:AO l s=some (s',x)) (h1:(gT l s SP).2=true):∃ ys,mS l false (gT l s SP).1=some (s',ys)∧x=ys.map dH.name:=by
 unfold AO at h; rw [if_pos h1] at h
 obtain ⟨q,y,h2,h3⟩:=eC h
 cases h3
 exact ⟨y,h2,rfl⟩
theorem Mr {x:List ByteArray} (h:AO l s=some (s',x)) (h1:(gT l s SP).2=false):s'=s∧x=[]:=by
 unfold AO at h; rw [if_neg (by rw [h1]; simp)] at h
 cases h; exact ⟨rfl,rfl⟩
theorem O0 {nm:ByteArray} {a:Int} {x:dF} (h:sU l s nm a=some (s',x)):∃ q rs,AO l (dP l s Cg)=some (q,rs)∧
  (q.e≠0→s'=q∧x=⟨nm,rs,[],a⟩)∧(¬ q.e≠0→∃ R,Ff l q.at_ s.at_=some R∧0≤R.2.1∧R.2.1≤l.length∧s'=⟨R.2.1,R.2.2.1,R.2.2.2⟩∧x=⟨nm,rs,R.1,a⟩):=by
 unfold sU at h
 obtain ⟨q,rs,h1,h2⟩:=eC h
 refine ⟨q,rs,h1,λ he=>?_,λ he=>?_⟩
 ·dsimp only at h2; rw [if_pos he] at h2; cases h2; exact ⟨rfl,rfl⟩
 ·dsimp only at h2; rw [if_neg he] at h2
  cases hr:Ff l q.at_ s.at_ with
  | none=>rw [hr] at h2; cases h2
  | some R=>
   rw [hr] at h2
   simp only [Option.bind_some] at h2
   split at h2
   ·rename_i h4; cases h2; exact ⟨R,rfl,h4.1,h4.2,rfl,rfl⟩
   ·cases h2
theorem SW {a:Int} {x:jE} (h:wQ l s a=some (s',x)):∃ R,vC l s.at_=some R∧
  (R.2.2.1≠0→s'={s with e:=R.2.2.1,pos:=R.2.2.2}∧x=⟨[],0⟩)∧(¬ R.2.2.1≠0→(0≤R.2.1∧R.2.1≤l.length)∧s'=dP l {s with at_:=R.2.1} Ro∧x=⟨R.1,a⟩):=by
 unfold wQ at h
 cases hr:vC l s.at_ with
 | none=>rw [hr] at h; cases h
 | some R=>
  rw [hr] at h
  simp only [Option.bind_some] at h
  refine ⟨R,rfl,λ he=>?_,λ he=>?_⟩
  ·rw [if_pos he] at h; cases h; exact ⟨rfl,rfl⟩
  ·rw [if_neg he] at h
   split at h
   ·rename_i h4; cases h; exact ⟨h4,rfl,rfl⟩
   ·cases h
theorem akR {e:Int} (he:e≠0) (h:(jb l s e).e=0):False:=by
 unfold jb at h
 split at h
 ·dsimp only at h; split at h <;> omega
 ·rename_i h1; exact h1 h
theorem adx {t:ByteArray} (h:(dP l s t).e=0):sQ l s.at_ t=true:=by
 unfold dP at h
 split at h
 ·rename_i h1; rw [Bool.and_eq_true] at h1; exact h1.2
 ·exact (akR (by decide) h).elim
theorem arB {t:ByteArray}:(gT l s t).1.e=s.e:=by unfold gT; split <;> rfl
theorem SX {e:Int} (h:s.e≠0):(jb l s e).e≠0:=by unfold jb; rw [if_neg h]; exact h
theorem O1 {t:ByteArray} (h:s.e≠0):(dP l s t).e≠0:=by
 unfold dP; rw [if_neg (by rw [Bool.and_eq_true,decide_eq_true_eq]; exact λ hh=>h hh.1)]; exact SX h
theorem Ms:∀ {m:Nat} {more:Bool} {s s':fL} {x:List dH},s.e≠0→pd l nb m more s=some (s',x)→s'.e≠0
 | 0,_,_,_,_,_,h=>by cases h
 | m+1,more,s,s',x,h0,h=>by
  have:=Fh h (by rw [decide_eq_false h0,Bool.and_false])
  rw [this.1]; exact h0
theorem Mt {x:List dH} (h0:s.e≠0) (h:mS l nb s=some (s',x)):s'.e≠0:=by
 obtain ⟨s1,h1,h2,_⟩:=xD h
 rw [h2]; exact O1 (Ms h0 h1)
theorem O2 {x:List ByteArray} (h0:s.e≠0) (h:AO l s=some (s',x)):s'.e≠0:=by
 cases h1:(gT l s SP).2 with
 | true=>obtain ⟨ys,h2,_⟩:=Hw h h1; exact Mt (by rw [arB]; exact h0) h2
 | false=>rw [(Mr h h1).1]; exact h0
end
theorem F9 {α β:Type} {f:α→β} {l:List α} {k:Nat} {e:α} (h:l[k]? = some e):(l.take k).map f++[f e]=(l.take (k+1)).map f:=by
 rw [← gN h,List.map_append]; rfl
theorem Mu {l:List bH} {s s':fL} {x:List dF} (h:OZ l s=some (s',x)) (h1:(gT l s ⟨#[114,101,99,111,118,101,114]⟩).2=true):∃ y,sU l (gT l s ⟨#[114,101,99,111,118,101,114]⟩).1 ⟨#[]⟩ (za l (gT l s ⟨#[114,101,99,111,118,101,114]⟩).1)=some (s',y)∧x=[y]:=by
 unfold OZ at h; rw [if_pos h1] at h
 obtain ⟨q,y,h2,h3⟩:=eC h
 cases h3
 exact ⟨y,h2,rfl⟩
theorem Rp {l:List bH} {s s':fL} {x:List dF} (h:OZ l s=some (s',x)) (h1:(gT l s ⟨#[114,101,99,111,118,101,114]⟩).2=false):s'=s∧x=[]:=by
 unfold OZ at h; rw [if_neg (by rw [h1]; simp)] at h
 cases h; exact ⟨rfl,rfl⟩
theorem SY {t:ByteArray} {l:List bH} {e a:Int} {R:cO × Int × Int} (h:rW t=some R) (hs:uC t=some (l,e,a)) (he:e≠0):R=(Mo,e,a):=by
 unfold rW at h; rw [hs] at h
 simp only [Option.bind_some] at h
 rw [if_pos he] at h; exact (Option.some.inj h).symm
theorem O3 {t:ByteArray} {R:cO × Int × Int} (h:rW t=some R):∃ l e a,uC t=some (l,e,a):=by
 unfold rW at h
 cases hs:uC t with
 | none=>rw [hs] at h; cases h
 | some L=>exact ⟨L.1,L.2.1,L.2.2,rfl⟩
structure akS (l:List bH) (R:cO × Int × Int) (t1 t2 t3 t4 t5 t6:fL) (y1:List (List dH)) (y2 y3:List (List dH)) (y4 y5:List dF) (y6:List jE):Prop where
 h1:mM l XC (mS l true) 10000 (tC 0)=some (t1,y1)
 h2:mM l akP (mS l true) 10000 t1=some (t2,y2)
 h3:mM l XD (mS l false) 10000 t2=some (t3,y3)
 h4:mM l Ju (akQ l) 10000 t3=some (t4,y4)
 h5:OZ l t4=some (t5,y5)
 h6:mM l Jv (λ s=>wQ l s (za l s)) 10000 t5=some (t6,y6)
 b1:y1.length≤1000000
 b2:y2.flatten.length≤1000000
 b3:y3.flatten.length≤1000000
 b4:y4.length≤1000000
 b6:y6.length≤1000000
 bad:(F8 l t6).e≠0→R=(Mo,(F8 l t6).e,(F8 l t6).pos)
 ayS:¬ (F8 l t6).e≠0→R=(⟨y1,y2.flatten,y3.flatten,y4,y5,y6⟩,0,0)
theorem XH {t:ByteArray} {l:List bH} {e a:Int} {R:cO × Int × Int} (h:rW t=some R) (hs:uC t=some (l,e,a)) (he:¬ e≠0):∃ t1 t2 t3 t4 t5 t6 y1 y2 y3 y4 y5 y6,akS l R t1 t2 t3 t4 t5 t6 y1 y2 y3 y4 y5 y6:=by
 unfold rW at h; rw [hs] at h
 simp only [Option.bind_some] at h
 rw [if_neg he] at h
 obtain ⟨t1,y1,h1,h⟩:=eC h
 obtain ⟨t2,y2,h2,h⟩:=eC h
 obtain ⟨t3,y3,h3,h⟩:=eC h
 obtain ⟨t4,y4,h4,h⟩:=eC h
 obtain ⟨t5,y5,h5,h⟩:=eC h
 obtain ⟨t6,y6,h6,h⟩:=eC h
 dsimp only at h
 split at h
 ·cases h
 ·rename_i hb
  simp only [not_or,Nat.not_lt] at hb
  refine ⟨t1,t2,t3,t4,t5,t6,y1,y2,y3,y4,y5,y6,h1,h2,h3,h4,h5,h6,hb.1,hb.2.1,hb.2.2.1,hb.2.2.2.1,hb.2.2.2.2,λ hh=>?_,λ hh=>?_⟩
  ·rw [if_pos hh] at h; exact (Option.some.inj h).symm
  ·rw [if_neg hh] at h; exact (Option.some.inj h).symm
theorem ady {l:List bH} {s s':fL} {x:List dF} (h0:lX l s) (h:OZ l s=some (s',x)):lX l s':=by
 cases h1:(gT l s ⟨#[114,101,99,111,118,101,114]⟩).2 with
 | true=>obtain ⟨y,h2,_⟩:=Mu h h1; exact Fi (j3 h0) h2
 | false=>rw [(Rp h h1).1]; exact h0
theorem AQ {α:Type} {a:List (List α)} {b:List α}:(a++[b]).flatten=a.flatten++b:=by simp
theorem Rq {α:Type} {y a c:List (List α)} {b:List α} (h:y=a++b::c):a.flatten.length+b.length≤y.flatten.length:=by rw [h]; simp
theorem C213 (l:List bH) (lv:Value) (i op:Int) (R:List cE × Int × Int × Int) (w:World) (hL:eL (λ _=>True) w lv l) (hk:iD l) (h0:0≤i∧i≤l.length) (jV:0≤op∧op<l.length) (hr:Ff l i op=some R):CR 213 [lv,.int .i64 i,.int .i64 op] w (λ v w'=>∃ sv:SV,v = .tuple #[Flat.val sv,.int .i64 R.2.1,.int .i64 R.2.2.1,.int .i64 R.2.2.2]∧mc (eY (λ w=>DL w (Flat.val sv) R.1)) w w'):=by
 have Fx:=hk.n;have hn:l.length≤1000000:=by omega
 have td:=hk.at_;obtain ⟨s9,add,I3,Sb,hR⟩:=adv hr;obtain ⟨lsv,hlv⟩:=hL.fT;have hs:=St.start w;refine aak _ _ _ _ _ ?_;unfold S213;rw [hlv];refine pop (Np _ _ _ _) (l5 hs (λ arD w1 hs=>?_));obtain ⟨p,rfl⟩:∃ p,p=arD:=⟨_,rfl⟩;have hs:=hs.enc (cs':=dU (Flat.val lsv) (.slice none 0 0) (tC i)) rfl;rw [← hlv] at hs ⊢;have hT:∀ w',iH bD w w'→eL (λ _=>True) w' lv l:=λ w' hc=>hL.ext hc;have hs:=((hs.gI (Φ:=λ w=>lg ([]:List bV) ([]:List cE) w∧noQ w) λ w=>⟨lg.nil,trivial⟩).fY (α:=bV)).p2;have hs:=pT.shut hs;refine ⟨λ mm w'=>∃ (s1:fL) (o1 a2:List cE),lX l s1∧sT l (λ s=>Cv l (To l 20) s 0 0) mm s1=some (s9,a2)∧add=o1++a2∧St w bD [pT p lv s1 (([]:List cE)++o1) noQ] w',⟨10000,tC i,[],add,(show lX l (tC i) from h0),I3,rfl,by rw [List.append_nil]; exact hs⟩,?_⟩
 rintro mm w2 ⟨s1,o1,a2,Mn,It,sX,hs⟩ fu;obtain ⟨m,rfl⟩:=Ht It;obtain ⟨ov1,Yn,hs⟩:=pT.open hs;have adu:Yn.length=(([]:List cE)++o1).length:=(hs.p2.eY).1.1;rw [List.length_append] at adu;refine ⟨λ jv w'=>jv = .bool (decide (s1.e=0) && !sQ l s1.at_ nH)∧St w bD [cC p (dU lv ov1 s1),bL ov1 Yn,eY (λ w=>lg Yn (([]:List cE)++o1) w∧noQ w)] w',?_,?_⟩
 ·refine aF (aA kr (have hs:=hs.drew;aB nn hs.hb rfl (aH (aC (λ fi=>?_) (λ fi=>?_)))))
  ·refine aF (aA gU (aB iR hs.hb rfl (aF (aA eP (aB bN hs.hb rfl (aZ vp hs (C211 _ l s1.at_ (ByteArray.mk #[125]) _ (hT _ hs.aE) hn) (λ w3 he hs=>bZ ?_)))))));have hs:=hs.p2.p2.p2;exact ⟨vb (by first | (rw [decide_eq_true fi]; rfl) | (rw [decide_eq_false fi]; rfl)),hs⟩
  ·have hs:=hs.p2.p2.p2;exact ⟨vb (by first | (rw [decide_eq_true fi]; rfl) | (rw [decide_eq_false fi]; rfl)),hs⟩
 ·rintro _ w4 ⟨rfl,hs⟩ jz;refine aY (λ lV=>?_) (λ lV=>?_)
  ·obtain ⟨s3,a1,a3,ho,hb3,rfl⟩:=Js It lV;have hs:=pT.shut hs.p2.p2.p2;refine bI aeB hs (H':=λ _=>pT p lv s3 ((([]:List cE)++o1)++a1) noQ) (Φ:=λ _ _=>True) (λ F2 eN ey=>?_) ?_
   ·exact (C233 p lv l s1 20 0 0 (([]:List cE)++o1) s3 a1 noQ F2 _ eN (λ w' hc=>hT w' (ey w' hc).aE) hk Mn (arz hk 20) (by omega) (by omega) (by have:=congrArg List.length sX; simp at this ⊢; omega) ho).mono λ _ _ r=>r.mono λ _ _ h=>⟨trivial,h.2⟩
   rintro _ w5 _ hs;exact ⟨_,by omega,s3,o1++a1,a3,OW (λ _ _ _ _ _ c e=>OX c e) Mn ho,hb3,by rw [sX,List.append_assoc],by rw [← List.append_assoc]; exact hs⟩
  ·obtain ⟨e9,rfl⟩:=Fe It lV;replace e9:=e9.symm;subst e9;rw [List.append_nil] at sX;subst sX;obtain ⟨ayU,ayV⟩:=id Mn;simp only [List.length_nil,Nat.zero_add] at adu;refine bI ya hs (H':=λ _=>cC p (dU lv ov1 (dP l s1 (ByteArray.mk #[125])))) (Φ:=λ _ _=>True) (λ F2 eN ey=>?_) ?_
   ·exact (C234 p lv ov1 l s1 (ByteArray.mk #[125]) F2 _ eN (λ w' hc=>hT w' (ey w' hc).aE) hk Mn).mono λ _ _ r=>r.mono λ _ _ h=>⟨trivial,h.2⟩
   rintro _ w6 _ hs;refine aF (aA kr (aB nn hs.hb rfl (cT (aC (λ qz=>?_) (λ qz=>?_)))))
   ·refine aF (aA kr (have hs:=hs.drew;aB nn hs.hb rfl (aF (aA zI (aB bN hs.hb rfl ?_)))));have hRR:R=([],0,(dP l s1 nH).e,(dP l s1 nH).pos):=hR.1 qz;rw [hRR];exact ⟨⟨none,0,0⟩,rfl,(hs.gI (Φ:=λ w=>DL w (Flat.val (⟨none,0,0⟩:SV)) ([]:List cE)) λ w=>DL.nil w).fresh⟩
   ·refine aF (aA pK (aB qW hs.hb rfl (aJ jj (hs.p1).fM (cZ (aC (λ wy=>?_) (λ wy=>?_))))))
    ·obtain ⟨QB,vd⟩:=gx (l) (i:=(op).toNat) (by omega);refine aQ fz hL (by omega) vd (λ _ Ab=>bT (QB).at_ lu Ab rfl rfl (λ _ Ac=>have hs:=hs.drew;aD bN (Ac.ext hs.aE) ?_));have hRR:R=([],0,2,QB.at_):=(hR.2.1 qz (by omega)).trans (by rw [AP jV.1 vd]);rw [hRR];exact ⟨⟨none,0,0⟩,rfl,(hs.gI (Φ:=λ w=>DL w (Flat.val (⟨none,0,0⟩:SV)) ([]:List cE)) λ w=>DL.nil w).fresh⟩
    ·refine aF (aA pK (have hs:=hs.drew;aB qW hs.hb rfl (aF (aA eP (aB bN hs.hb rfl ?_)))));have hs:=((hs.drop.p1).dQ (Ψ:=lg Yn ([]++add)) (λ w h=>h.1)).p1;have hs:=St.DJ hs;obtain ⟨sv,hsv⟩:=hs.lT;subst hsv;rw [hR.2.2 qz (by omega)];exact ⟨sv,rfl,hs.jP.fresh⟩
theorem C166 (p:Nat) (lv:Value) (l:List bH) (s:fL) (nb:Bool) (s2:fL) (x:List dH) (F:Nat→Prop) (w:World) (hF:(cC p (dZ lv s)).p w F) (hT:∀ w',iH F w w'→eL (λ _=>True) w' lv l) (hk:iD l) (h0:lX l s) (hr:mS l nb s=some (s2,x)):CR 166 [(.pointer (some ⟨p,0,none⟩)),.bool nb] w (λ v w'=>qx F (sep (cC p (dZ lv s2)) (bL v x)) w w'):=by
 have hs:=St.begin hF;obtain ⟨s9,hn0,e2,Sb⟩:=xD hr;have Fx:=hk.n;have hn:l.length≤1000000:=by omega
 have td:=hk.at_;obtain ⟨Rc,Rd⟩:=id h0;refine ZG _ _ _ _ ?_;unfold S166;refine bX (([]:List dH)) hs j9 rfl rfl (eE rfl) (λ xS w1 hs=>?_);have hs:=hs.p1.p1;refine ⟨λ mm o mo w'=>∃ (s1:fL) (b:Bool) (o1 a2:List dH),mo = .bool b∧lX l s1∧pd l nb mm b s1=some (s9,a2)∧x=o1++a2∧St w F [bL o o1,cC p (dZ lv s1)] w',⟨10000,s,true,[],x,rfl,h0,hn0,rfl,hs⟩,?_⟩;rintro mm yw _ w2 ⟨s1,b,o1,a2,rfl,Mn,Th,hx,hs⟩ fu;obtain ⟨m,rfl⟩:=Mp Th;obtain ⟨ayU,ayV⟩:=id Mn;refine ⟨λ jv w'=>jv = .bool (b && decide (s1.e=0))∧w2=w',?_,?_⟩
 ·refine aY (λ AR=>?_) (λ AR=>?_)
  ·refine aF (aA l9 (aB nn hs.p1.hb rfl (aH ?_)));exact ⟨vb (by first | (rw [AR]; rfl) | (rw [AR]; rfl)),rfl⟩
  ·exact ⟨vb (by first | (rw [AR]; rfl) | (rw [AR]; rfl)),rfl⟩
 ·rintro _ w3 ⟨rfl,hw⟩ jz;subst hw;refine aY (λ eM=>?_) (λ eM=>?_)
  ·obtain ⟨a3,hn3,rfl⟩:=SQ Th eM;refine bI aeq hs.p1 (H':=λ _=>cC p (dZ lv (eS l s1).1)) (Φ:=λ v _=>v=Flat.val (eS l s1).2) (λ F2 eN ey=>?_) ?_
   ·exact C167 p lv l s1 F2 _ eN (λ w' hc=>hT w' (ey w' hc).aE) hk Mn
   rintro _ w4 rfl hs;refine aO hs CJ (λ arE w5 hs=>aI (x:=(eS l s1).2) hs yd rfl rfl (λ w6 hs=>?_));refine ⟨λ w'=>St w F [cC p (dZ lv (fe l nb s1).1),cC arE (Flat.enc (fe l nb s1).2),bL yw o1] w',?_,?_⟩
   ·refine ⟨_,?_,λ _ _ h=>h⟩;refine aY (λ vm=>?_) (λ vm=>?_)
    ·refine bI xZ hs.p1 (H':=λ _=>cC p (dZ lv (gT l (eS l s1).1 (ByteArray.mk #[61])).1)) (Φ:=λ v _=>v = .bool (gT l (eS l s1).1 (ByteArray.mk #[61])).2) (λ F2 eN ey=>?_) ?_
     ·exact C165 p lv l (eS l s1).1 (ByteArray.mk #[61]) F2 _ eN (λ w' hc=>hT w' (ey w' hc).aE) hk (uD Mn)
     rintro _ w7 rfl hs;intro oG;refine aY (λ fH=>?_) (λ fH=>?_)
     ·have hq:=j3 (t:=ByteArray.mk #[61]) (uD Mn);obtain ⟨hq0,hq1⟩:=id hq;refine ⟨λ jv w'=>jv = .bool (Jt l (gT l (eS l s1).1 (ByteArray.mk #[61])).1)∧St w F [cC p (dZ lv (gT l (eS l s1).1 (ByteArray.mk #[61])).1),cC arE (Flat.enc (eS l s1).2),bL yw o1] w',?_,?_⟩
      ·refine aF (aA fk (have hs:=hs.drew;aB bN hs.hb rfl (aF (aA jO (aB iR hs.hb rfl (aJ fz (hT _ hs.aE) (aR (aC (λ j4=>?_) (λ j4=>?_)))))))))
       ·refine aF (aA jO (aB iR hs.hb rfl (aF (aA fk (aB bN hs.hb rfl ?_)))));obtain ⟨arF,XI⟩:=gx (l) (i:=(((gT l (eS l s1).1 (ByteArray.mk #[61])).1).at_).toNat) (by omega);refine aQ fz (hT _ hs.aE) (by omega) XI (λ _ Li=>bT (arF).kind lr Li rfl rfl (λ _ Lj=>aD bN (Lj) (aH ?_)));have hs:=hs.p2.p2.p2;exact ⟨vb (by unfold Jt kF; rw [if_pos hq0,XI]),hs⟩
       ·have hs:=hs.p2.p2.p2;exact ⟨vb (by unfold Jt kF; rw [if_pos hq0,List.getElem?_eq_none (by omega)]),hs⟩
      ·rintro _ w9 ⟨rfl,hs⟩ GR;refine aY (λ vx=>?_) (λ vx=>?_)
       ·obtain ⟨tk,Xo,SN,_,hqlt⟩:=adw vx;have AX:oL l (gT l (eS l s1).1 (ByteArray.mk #[61])).1.at_=tk:=AP hq0 SN;refine aF (aA jO (have hs:=hs.drew;aB iR hs.hb rfl (aF (aA fk (aB bN hs.hb rfl (aQ fz (hT _ hs.aE) (by omega) SN (λ _ Ac=>bT (tk).n q9 Ac rfl rfl (λ _ arG=>aD bN (arG) (aA zF (aV hs.p1 bN (eE rfl) (rfl) (λ qd hs=>have hs:=hs.enc (cs':=Flat.enc ({ (eS l s1).2 with n:=(tk).n}:dH)) rfl;aF (aA fk ?_))))))))))));refine aB bN hs.p1.hb rfl (aN (by omega) (aF (aA fk (aV hs.p1 bN (eE rfl) (rfl) (λ tG hs=>?_)))))
        have hs:=hs.p2.p2.p2;have CQ:(fe l nb s1)=(Xy (gT l (eS l s1).1 (ByteArray.mk #[61])).1,{ (eS l s1).2 with n:=tk.n}):=(SS vm fH vx).trans (by rw [AX]);rw [CQ];exact hs
       ·refine bI PC hs (H':=λ _=>cC p (dZ lv (jb l (gT l (eS l s1).1 (ByteArray.mk #[61])).1 5))) (Φ:=λ _ _=>True) (λ F2 eN ey=>?_) ?_
        ·exact (C170 p lv l (gT l (eS l s1).1 (ByteArray.mk #[61])).1 F2 _ eN (λ w' hc=>hT w' (ey w' hc).aE) hk (j3 (uD Mn))).mono λ _ _ r=>r.mono λ _ _ h=>⟨trivial,h.2⟩
        rintro _ vt _ hs;have hs:=hs.p2.p2.p2;have CQ:=SU vm fH vx;rw [CQ];exact hs
     ·have hs:=hs.p2.p2.p2;have CQ:=XF (nb:=nb) fH;rw [CQ];exact hs
    ·intro oG;refine fN ?_;have hs:=hs.p2.p1.p2;have CQ:=XG (l:=l) (s:=s1) vm;rw [CQ];exact hs
   ·intro uU hs R7;refine aD yd hs.p1.At (bX ([(fe l nb s1).2]) hs j9 rfl rfl (eE rfl) (λ afe sw hs=>?_));have Fj:=(hs).fM;refine cP hs.p3 j9 Fj (by have:=congrArg List.length hx; simp at this ⊢; omega) (by decide) (λ apw wc hs=>have hs:=hs.p1.drop;bI xZ hs.p1 (H':=λ _=>cC p (dZ lv (gT l (fe l nb s1).1 (ByteArray.mk #[44])).1)) (Φ:=λ v _=>v = .bool (gT l (fe l nb s1).1 (ByteArray.mk #[44])).2) (λ F2 eN ey=>?_) ?_)
    ·exact C165 p lv l (fe l nb s1).1 (ByteArray.mk #[44]) F2 _ eN (λ w' hc=>hT w' (ey w' hc).aE) hk (Fg Mn)
    rintro _ ze rfl hs;have hs:=(hs.p2.drop).p1;exact ⟨_,by omega,(gT l (fe l nb s1).1 BN).1,(gT l (fe l nb s1).1 BN).2,o1++[(fe l nb s1).2],a3,rfl,j3 (Fg Mn),hn3,by rw [hx,List.append_assoc]; rfl,hs⟩
  ·obtain ⟨e9,rfl⟩:=Fh Th eM;replace e9:=e9.symm;subst e9;rw [List.append_nil] at hx;subst hx;refine bI T5 hs.p1 (H':=λ _=>cC p (dZ lv (dP l s1 (ByteArray.mk #[59])))) (Φ:=λ _ _=>True) (λ F2 eN ey=>?_) ?_
   ·exact (C212 p lv l s1 (ByteArray.mk #[59]) F2 _ eN (λ w' hc=>hT w' (ey w' hc).aE) hk Mn).mono λ _ _ r=>r.mono λ _ _ h=>⟨trivial,h.2⟩
   rintro _ Cn _ hs;have hs:=hs.p1.p1;rw [e2];exact (St.join hs).mut
set_option maxHeartbeats 1000000 in
theorem C168 (p:Nat) (lv:Value) (l:List bH) (s:fL) (nm:ByteArray) (a:Int) (s2:fL) (x:dF) (F:Nat→Prop) (w:World) (hF:(cC p (dZ lv s)).p w F) (hT:∀ w',iH F w w'→eL (λ _=>True) w' lv l) (hk:iD l) (h0:lX l s) (hr:sU l s nm a=some (s2,x)):CR 168 [(.pointer (some ⟨p,0,none⟩)),Flat.val (⟨nm,⟨none,0,0⟩,⟨none,0,0⟩,a⟩:ed)] w (λ v w'=>qx F (ua λ sh:ed=>fact (v=Flat.val sh) (sep (cC p (dZ lv s2)) (eY (λ w=>cD.dr w sh x)))) w w'):=by
 have hs:=St.begin hF;obtain ⟨q,rs,B4,Em,hg2⟩:=O0 hr;have hqi:=Mq (fy h0) B4;obtain ⟨hqi0,hqi1⟩:=id hqi;have Fx:=hk.n;have hn:l.length≤1000000:=by omega
 have td:=hk.at_;obtain ⟨Rc,Rd⟩:=id h0;refine ZI _ _ _ _ ?_;unfold S168;refine dE (x:=(⟨nm,⟨none,0,0⟩,⟨none,0,0⟩,a⟩:ed)) hs (λ acB w1 hs=>aO hs Ng (λ Cq w2 hs=>have hs:=hs.enc (cs':=Flat.enc (⟨(ByteArray.mk #[]),⟨none,0,0⟩,⟨none,0,0⟩,0⟩:ed)) rfl;aF (aA fk (aB bN hs.p2.hb rfl (bI T5 hs.p2 (H':=λ _=>cC p (dZ lv (dP l s (ByteArray.mk #[123])))) (Φ:=λ _ _=>True) (λ F2 eN ey=>?_) ?_)))))
 ·exact (C212 p lv l s (ByteArray.mk #[123]) F2 _ eN (λ w' hc=>hT w' (ey w' hc).aE) hk h0).mono λ _ _ r=>r.mono λ _ _ h=>⟨trivial,h.2⟩
 rintro _ w3 _ hs;refine ⟨λ w'=>∃ rv:SV,St w F [bL (Flat.val rv) rs,cC acB (Flat.enc (⟨nm,rv,⟨none,0,0⟩,a⟩:ed)),cC Cq (Flat.enc (⟨(ByteArray.mk #[]),⟨none,0,0⟩,⟨none,0,0⟩,0⟩:ed)),cC p (dZ lv q)] w',?_,?_⟩
 ·refine bI xZ hs (H':=λ _=>cC p (dZ lv (gT l (dP l s (ByteArray.mk #[123])) (ByteArray.mk #[114,101,103])).1)) (Φ:=λ v _=>v = .bool (gT l (dP l s (ByteArray.mk #[123])) (ByteArray.mk #[114,101,103])).2) (λ F2 eN ey=>?_) ?_
  ·exact C165 p lv l (dP l s (ByteArray.mk #[123])) (ByteArray.mk #[114,101,103]) F2 _ eN (λ w' hc=>hT w' (ey w' hc).aE) hk (fy h0)
  rintro _ w4 rfl hs;refine aY (λ fi=>?_) (λ fi=>?_)
  ·obtain ⟨ys,hys,hrs⟩:=Hw B4 fi;have hyl:ys.length≤1000000:=by obtain ⟨_,_,_,h⟩:=xD hys; exact h
   refine bI PB hs (H':=λ v=>sep (cC p (dZ lv q)) (bL v ys)) (Φ:=λ _ _=>True) (λ F2 eN ey=>?_) ?_
   ·exact (C166 p lv l (gT l (dP l s (ByteArray.mk #[123])) (ByteArray.mk #[114,101,103])).1 false q ys F2 _ eN (λ w' hc=>hT w' (ey w' hc).aE) hk (j3 (fy h0)) hys).mono λ _ _ r=>r.mono λ _ _ h=>⟨trivial,h⟩
   rintro Vk w5 _ hs;have hs:=(((((hs.split.fY (α:=ByteArray)).p1).p3).p3).p4).p4;refine ⟨λ mm i w'=>∃ (j:Nat) (rv:SV),i = .int .i64 (j:Int)∧mm=ys.length - j∧j≤ys.length∧St w F [bL (Flat.val rv) ((ys.take j).map dH.name),cC acB (Flat.enc (⟨nm,rv,⟨none,0,0⟩,a⟩:ed)),bL Vk ys,cC Cq (Flat.enc (⟨(ByteArray.mk #[]),⟨none,0,0⟩,⟨none,0,0⟩,0⟩:ed)),cC p (dZ lv q)] w',⟨_,0,⟨none,0,0⟩,rfl,rfl,Nat.zero_le _,hs⟩,?_⟩;rintro mm _ w6 ⟨j,rv,rfl,rfl,hj,hs⟩ fu;refine aJ j9 (hs.p2).fM (aR (aC (λ fH=>?_) (λ fH=>?_)))
   ·refine aA jy (have hs:=hs.drew;aB (v:=Flat.val (rv:SV)) pF hs.p1.hb rfl ?_);obtain ⟨af8,XJ⟩:=gx (ys) (i:=((j:Int)).toNat) (by omega);refine dT hs.p2 j9 (by omega) (by omega) (λ _ z9=>nc pI z9 (λ _ Aa=>nW (af8).name hs.p2 kf Aa XJ rfl (bX ([(af8).name]) hs mZ rfl rfl (eE rfl) (λ aoS w7 hs=>?_))));refine ⟨aG pF (hs.p2.hb.cell rfl),?_⟩;have EC:=(hs).fM;refine cP hs.p1 mZ EC (by simp; omega) (by decide) (λ ae9 w8 hs=>have hs:=hs.p1.drop;aA jy ?_);obtain ⟨XK,rfl⟩:=(hs).fT;refine aV hs.p1 pF (eE rfl) (rfl) (λ w9 hs=>have hs:=hs.enc (cs':=Flat.enc (⟨nm,XK,⟨none,0,0⟩,a⟩:ed)) rfl;aN (by omega) ?_)
    have hs:=hs.p4.p4.p4.p3.p4;exact ⟨_,by omega,j+1,XK,rfl,rfl,by omega,by rw [← F9 (k:=j) XJ]; exact hs⟩
   ·have hs:=(hs.p2.drop.p3.p3.p3).p3;rw [List.take_of_length_le (by omega)] at hs;rw [hrs];exact ⟨rv,hs⟩
  ·have hs:=((((hs.fY (α:=ByteArray)).p1).p2).p3).p3;obtain ⟨e1,e3⟩:=Mr B4 fi;rw [wR fi] at hs;rw [e1,e3];exact ⟨⟨none,0,0⟩,hs⟩
 ·rintro qd ⟨rv,hs⟩ jz;refine ⟨λ w'=>∃ (rv bv:SV) (body:List cE),x=⟨nm,rs,body,a⟩∧St w F [bL (Flat.val rv) rs,eY (λ w=>DL w (Flat.val bv) body),cC acB (Flat.enc (⟨nm,rv,bv,a⟩:ed)),cC Cq (Flat.enc (⟨(ByteArray.mk #[]),⟨none,0,0⟩,⟨none,0,0⟩,0⟩:ed)),cC p (dZ lv s2)] w',?_,?_⟩
  ·refine aF (aA l9 (aB nn hs.p3.hb rfl (aH (aC (λ mJ=>?_) (λ mJ=>?_)))))
   ·obtain ⟨R,hR,hR0,hR1,e2,hx⟩:=hg2 (by omega);have EX:(dP l s Cg).e=0:=Decidable.not_not.1 λ hh=>O2 hh B4 (by omega);have jV:=rU (adx EX);refine aF (aA jO (have hs:=hs.drew;aB iR hs.p3.hb rfl (aF (aA fk (aB bN hs.p3.hb rfl (eu anl (C213 l _ q.at_ s.at_ R _ (hT _ hs.aE) hk hqi jV hR) ?_))))));rintro _ tG ⟨OE,rfl,cA⟩;have hs:=hs.made cA;refine bG rfl (bG rfl (bG rfl (bG rfl (aA nO (aV hs.p2 qW (eE rfl) (rfl) (λ vt hs=>have hs:=hs.enc (cs':=Flat.enc (⟨nm,rv,OE,a⟩:ed)) rfl;aF (aA fk (aV hs.p4 bN (eE rfl) (rfl) (λ uU hs=>aF (aA l9 (aV hs nn (eE rfl) (rfl) (λ sw hs=>aF ?_))))))))))))
    refine aA vW (aV hs bN (eE rfl) (rfl) (λ wc hs=>?_));have hs:=hs.p4.p2.p3.p4;rw [e2];exact ⟨rv,OE,R.1,hx,hs⟩
   ·have hs:=hs.gI (Φ:=λ w=>DL w (Flat.val (⟨none,0,0⟩:SV)) ([]:List cE)) λ w=>DL.nil w;have hs:=hs.p4.p4.p4.p3.p4;obtain ⟨e2,hx⟩:=Em mJ;rw [e2];exact ⟨rv,⟨none,0,0⟩,[],hx,hs⟩
  ·rintro ze ⟨rv,bv,body,rfl,hs⟩ oG;refine aD Ij hs.p2.At (aI (x:=(⟨nm,rv,bv,a⟩:ed)) hs.p3 Ij rfl rfl (λ Cn hs=>aD Ij hs.At ?_));have hs:=hs.p1.freeze.p2.p1.fK.dQ (Ψ:=(λ w=>cD.dr w (⟨nm,rv,bv,a⟩:ed) (⟨nm,rs,body,a⟩:dF))) (λ w h=>⟨_,_,rfl,DL.fp h.1,id (h.2)⟩);have hs:=((hs.p1.drop.p1).drop).p1;exact (wP hs).mut
set_option maxHeartbeats 1000000 in
theorem C169 (p:Nat) (lv:Value) (l:List bH) (s:fL) (a:Int) (s2:fL) (x:jE) (F:Nat→Prop) (w:World) (hF:(cC p (dZ lv s)).p w F) (hT:∀ w',iH F w w'→eL (λ _=>True) w' lv l) (hk:iD l) (h0:lX l s) (hr:wQ l s a=some (s2,x)):CR 169 [(.pointer (some ⟨p,0,none⟩)),.int .i64 a] w (λ v w'=>qx F (ua λ sh:lU=>fact (v=Flat.val sh) (sep (cC p (dZ lv s2)) (eY (λ w=>cD.dr w sh x)))) w w'):=by
 have hs:=St.begin hF;obtain ⟨R,hxr,Em,hg2⟩:=SW hr;have Fx:=hk.n;have hn:l.length≤1000000:=by omega
 have td:=hk.at_;obtain ⟨Rc,Rd⟩:=id h0;refine ZJ _ _ _ _ ?_;unfold S169;refine aO hs ahK (λ Cq w1 hs=>have hs:=hs.enc (cs':=Flat.enc (⟨⟨none,0,0⟩,0⟩:lU)) rfl;aF (aA jO (have hs:=hs.drew;aB iR hs.p1.hb rfl (aF (aA fk (aB bN hs.p1.hb rfl (eu aey (C214 l _ s.at_ R _ (hT _ hs.aE) hk (by omega) hxr) ?_)))))));rintro _ w2 ⟨XL,rfl,cA⟩;have hs:=hs.made cA;refine bG rfl (bG rfl (bG rfl (bG rfl (cT (aC (λ gQ=>?_) (λ gQ=>?_))))))
 ·obtain ⟨rfl,rfl⟩:=Em gQ;refine aF (aA l9 (aV hs.p2 nn (eE rfl) (rfl) (λ w3 hs=>aF (aA vW (aV hs bN (eE rfl) (rfl) (λ w4 hs=>pop (v:=Flat.val (⟨⟨none,0,0⟩,0⟩:lU)) (by kernel_rfl) (aI (x:=(⟨⟨none,0,0⟩,0⟩:lU)) hs.p2 abd rfl rfl (λ w5 hs=>aD abd hs.At ?_))))))));have hs:=hs.gI (Φ:=(λ w=>cD.dr w (⟨⟨none,0,0⟩,0⟩:lU) (⟨[],0⟩:jE))) (λ w=>⟨_,rfl,DL.nil _⟩);have hs:=((hs.p1.drop.p2).drop).p1;exact (wP hs).mut
 ·obtain ⟨B4,rfl,rfl⟩:=hg2 gQ;refine aF (aA fk (aV hs.p2 bN (eE rfl) (rfl) (λ w6 hs=>have hs:=hs.enc (cs':=dZ lv ({s with at_:=R.2.1}:fL)) rfl;bI T5 hs (H':=λ _=>cC p (dZ lv (dP l ({s with at_:=R.2.1}:fL) (ByteArray.mk #[59])))) (Φ:=λ _ _=>True) (λ F2 eN ey=>?_) ?_)))
  ·exact (C212 p lv l ({s with at_:=R.2.1}:fL) (ByteArray.mk #[59]) F2 _ eN (λ w' hc=>hT w' (ey w' hc).aE) hk (show lX l ({s with at_:=R.2.1}:fL) from B4)).mono λ _ _ r=>r.mono λ _ _ h=>⟨trivial,h.2⟩
  rintro _ w7 _ hs;refine pop (GC _ _ _ _) (aI (x:=(⟨XL,a⟩:lU)) hs.p2 abd rfl rfl (λ w8 hs=>aD abd hs.At ?_));have hs:=hs.p2.dQ (Ψ:=(λ w=>cD.dr w (⟨XL,a⟩:lU) (⟨R.1,a⟩:jE))) (λ w h=>⟨_,rfl,id (h)⟩);have hs:=(hs.p1.drop).p1;exact (wP hs).mut
set_option maxHeartbeats 8000000 in
theorem C109 (s:ByteArray) (R:cO × Int × Int) (w:World) (Ym:s.size≤1000000) (hr:rW s=some R) (hTk:∀ l e a,uC s=some (l,e,a)→iD l):CR 109 [.string s] w (λ v w'=>∃ pv:bK,v = .tuple #[Flat.val pv,.int .i64 R.2.1,.int .i64 R.2.2]∧mc (eY (λ w=>cD.dr w pv R.1)) w w'):=by
 obtain ⟨l,e,a,hsc⟩:=O3 hr;have hk:=hTk l e a hsc;have Fx:=hk.n;have hn:l.length≤1000000:=by omega
 have td:=hk.at_;have hs:=St.start w;refine YX _ _ _ ?_;unfold S109;refine aO hs uP (λ me w1 hs=>have hs:=hs.enc (cs':=Flat.enc (⟨⟨none,0,0⟩,⟨none,0,0⟩,⟨none,0,0⟩,⟨none,0,0⟩,⟨none,0,0⟩,⟨none,0,0⟩⟩:bK)) rfl;eu amX (C164 s (l,e,a) _ Ym hsc) ?_);rintro _ w2 ⟨lv,rfl,cA⟩;have hs:=hs.made cA;refine bG rfl (bG rfl (bG rfl (cT (aC (λ gj=>?_) (λ gj=>?_)))))
 ·refine pop (v:=Flat.val (⟨⟨none,0,0⟩,⟨none,0,0⟩,⟨none,0,0⟩,⟨none,0,0⟩,⟨none,0,0⟩,⟨none,0,0⟩⟩:bK)) (by kernel_rfl) (aI (x:=(⟨⟨none,0,0⟩,⟨none,0,0⟩,⟨none,0,0⟩,⟨none,0,0⟩,⟨none,0,0⟩,⟨none,0,0⟩⟩:bK)) hs.p1 gy rfl rfl (λ w3 hs=>aD gy hs.At ?_));have hs:=hs.gI (Φ:=(λ w=>cD.dr w (⟨⟨none,0,0⟩,⟨none,0,0⟩,⟨none,0,0⟩,⟨none,0,0⟩,⟨none,0,0⟩,⟨none,0,0⟩⟩:bK) (⟨[],[],[],[],[],[]⟩:cO))) (λ w=>⟨_,_,_,_,_,_,rfl,DL.nil _,DL.nil _,DL.nil _,DL.nil _,DL.nil _,DL.nil _⟩);have hs:=((hs.p1.drop).p1).drop;rw [SY hr hsc gj];exact ⟨_,rfl,hs.fresh⟩
 ·obtain ⟨t1,t2,t3,t4,t5,t6,y1,y2,y3,y4,y5,y6,hp⟩:=XH hr hsc gj;obtain ⟨lsv,hlv⟩:=(hs).fT;rw [hlv];refine pop (Us _ _ _) (l5 hs (λ BY w4 hs=>pop (v:=Flat.val (⟨⟨none,0,0⟩,⟨none,0,0⟩,⟨none,0,0⟩,⟨none,0,0⟩,⟨none,0,0⟩,⟨none,0,0⟩⟩:bK)) (by kernel_rfl) (aO hs uP (λ O4 w5 hs=>have hs:=hs.enc (cs':=Flat.enc (⟨⟨none,0,0⟩,⟨none,0,0⟩,⟨none,0,0⟩,⟨none,0,0⟩,⟨none,0,0⟩,⟨none,0,0⟩⟩:bK)) rfl;aI (x:=(⟨⟨none,0,0⟩,⟨none,0,0⟩,⟨none,0,0⟩,⟨none,0,0⟩,⟨none,0,0⟩,⟨none,0,0⟩⟩:bK)) hs gy rfl rfl (λ w6 hs=>?_)))));obtain ⟨p,rfl⟩:∃ p,p=BY:=⟨_,rfl⟩;have hs:=hs.p1.enc (cs':=dZ (Flat.val lsv) (tC 0)) rfl
  rw [← hlv] at hs ⊢;have ayY:lX l (tC 0):=⟨Int.le_refl _,by show (0:Int)≤_; omega⟩;have hs:=(((((hs.xO (α:=(List dH))).p4).p4).p3).p4).p4;refine ⟨λ mm w'=>∃ (s0:fL) (v0:SV) (xs0 a0:List (List dH)),lX l s0∧mM l XC (mS l true) mm s0=some (t1,a0)∧y1=xs0++a0∧St w bD [fj (Flat.val v0) xs0,cC O4 (Flat.enc (⟨v0,⟨none,0,0⟩,⟨none,0,0⟩,⟨none,0,0⟩,⟨none,0,0⟩,⟨none,0,0⟩⟩:bK)),cC p (dZ lv s0),bL lv l,cC me (Flat.enc (⟨⟨none,0,0⟩,⟨none,0,0⟩,⟨none,0,0⟩,⟨none,0,0⟩,⟨none,0,0⟩,⟨none,0,0⟩⟩:bK))] w',⟨10000,tC 0,⟨none,0,0⟩,[],y1,ayY,hp.h1,rfl,hs⟩,?_⟩;rintro mm w7 ⟨s0,v0,xs0,a0,hi0,EX,hy0,hs⟩ fu
  obtain ⟨m0,rfl⟩:=rX EX;refine bI xZ hs.p2 (H':=λ _=>cC p (dZ lv (gT l s0 (ByteArray.mk #[108,105,110,101])).1)) (Φ:=λ v _=>v = .bool (gT l s0 (ByteArray.mk #[108,105,110,101])).2) (λ F2 eN ey=>?_) ?_
  ·exact C165 p lv l s0 (ByteArray.mk #[108,105,110,101]) F2 _ eN (λ w' hc=>(ey w' hc).p2.fM) hk hi0
  rintro _ w8 rfl hs;refine aY (λ gn=>?_) (λ gn=>?_)
  ·obtain ⟨q0,z0,b0,hd0,hn0,rfl⟩:=wS EX gn;refine aA jx (have hs:=hs.drew;aB (v:=Flat.val (v0:SV)) r8 hs.p2.hb rfl (bI PB hs (H':=λ v=>sep (cC p (dZ lv q0)) (bL v z0)) (Φ:=λ _ _=>True) (λ F2 eN ey=>?_) ?_))
   ·exact (C166 p lv l (gT l s0 (ByteArray.mk #[108,105,110,101])).1 true q0 z0 F2 _ eN (λ w' hc=>(ey w' hc).p2.fM) hk (j3 hi0) hd0).mono λ _ _ r=>r.mono λ _ _ h=>⟨trivial,h⟩
   rintro x31 w9 _ hs;have hs:=hs.split;refine ⟨aG r8 (hs.p3.hb.cell rfl),?_⟩;obtain ⟨XM,rfl⟩:=(hs.p1).fT;have hs:=hs.p1.freeze.dQ (Ψ:=λ w=>cD.dr w XM (z0)) (λ w h=>DL.fp h);refine eF (s:=XM) (x:=z0) hs vE (by decide) (λ VX qd hs=>?_);refine ⟨aG r8 (hs.p3.hb.cell rfl),?_⟩;have hs:=hs.p2;refine dY hs vE (by have h1:=congrArg List.length hy0; have h2:=hp.b1; simp at h1 ⊢; omega) (by decide) (λ apr tG hs=>aA jx ?_);obtain ⟨wH,rfl⟩:=(hs).lT;refine aV hs.p2 r8 (eE rfl) (rfl) (λ vt hs=>?_);have hs:=hs.enc (cs':=Flat.enc (⟨wH,⟨none,0,0⟩,⟨none,0,0⟩,⟨none,0,0⟩,⟨none,0,0⟩,⟨none,0,0⟩⟩:bK)) rfl
   have hs:=hs.p4.p4.p4.p3.p4;exact ⟨_,by omega,q0,wH,xs0++[z0],b0,xE (j3 hi0) hd0,hn0,by rw [hy0,List.append_assoc]; rfl,hs⟩
  ·obtain ⟨e9,rfl⟩:=uE EX gn;replace e9:=e9.symm;subst e9;rw [List.append_nil] at hy0;subst hy0;rw [wR gn] at hs;have hs:=((((((hs.fY (α:=dH)).p5).p5).p3).p5).p5).p5;refine ⟨λ mm w'=>∃ (s1:fL) (v1:SV) (xs1 a1:List (List dH)),lX l s1∧mM l akP (mS l true) mm s1=some (t2,a1)∧y2=xs1++a1∧St w bD [bL (Flat.val v1) (xs1.flatten),fj (Flat.val v0) y1,cC O4 (Flat.enc (⟨v0,v1,⟨none,0,0⟩,⟨none,0,0⟩,⟨none,0,0⟩,⟨none,0,0⟩⟩:bK)),cC p (dZ lv s1),bL lv l,cC me (Flat.enc (⟨⟨none,0,0⟩,⟨none,0,0⟩,⟨none,0,0⟩,⟨none,0,0⟩,⟨none,0,0⟩,⟨none,0,0⟩⟩:bK))] w',⟨10000,s0,⟨none,0,0⟩,[],y2,hi0,hp.h2,rfl,hs⟩,?_⟩
   rintro mm uU ⟨s1,v1,xs1,a1,hi1,hm1,hy1,hs⟩ jz;obtain ⟨m1,rfl⟩:=rX hm1;refine bI xZ hs.p3 (H':=λ _=>cC p (dZ lv (gT l s1 (ByteArray.mk #[118,111,108])).1)) (Φ:=λ v _=>v = .bool (gT l s1 (ByteArray.mk #[118,111,108])).2) (λ F2 eN ey=>?_) ?_
   ·exact C165 p lv l s1 (ByteArray.mk #[118,111,108]) F2 _ eN (λ w' hc=>(ey w' hc).p3.fM) hk hi1
   rintro _ sw rfl hs;refine aY (λ lz=>?_) (λ lz=>?_)
   ·obtain ⟨q1,z1,b1,hd1,Th,rfl⟩:=wS hm1 lz;refine aA uO (have hs:=hs.drew;aB (v:=Flat.val (v1:SV)) jD hs.p3.hb rfl (bI PB hs (H':=λ v=>sep (cC p (dZ lv q1)) (bL v z1)) (Φ:=λ _ _=>True) (λ F2 eN ey=>?_) ?_))
    ·exact (C166 p lv l (gT l s1 (ByteArray.mk #[118,111,108])).1 true q1 z1 F2 _ eN (λ w' hc=>(ey w' hc).p3.fM) hk (j3 hi1) hd1).mono λ _ _ r=>r.mono λ _ _ h=>⟨trivial,h⟩
    rintro x40 wc _ hs;have hs:=hs.split;refine ⟨aG jD (hs.p4.hb.cell rfl),?_⟩;have vi:=(hs.p1).fM;refine cP hs.p2 j9 vi (by have:=Rq hy1; have:=hp.b2; omega) (by decide) (λ VI ze hs=>have hs:=hs.p2.drop;aA uO ?_);obtain ⟨IX,rfl⟩:=(hs).fT;refine aV hs.p3 jD (eE rfl) (rfl) (λ Cn hs=>?_);have hs:=hs.enc (cs':=Flat.enc (⟨v0,IX,⟨none,0,0⟩,⟨none,0,0⟩,⟨none,0,0⟩,⟨none,0,0⟩⟩:bK)) rfl;have hs:=hs.p5.p5.p4.p3.p5.p5;rw [← AQ] at hs;exact ⟨_,by omega,q1,IX,xs1++[z1],b1,xE (j3 hi1) hd1,Th,by rw [hy1,List.append_assoc]; rfl,hs⟩
   ·obtain ⟨e9,rfl⟩:=uE hm1 lz;replace e9:=e9.symm;subst e9;rw [List.append_nil] at hy1;subst hy1;rw [wR lz] at hs;have hs:=(((((((hs.fY (α:=dH)).p6).p6).p3).p6).p5).p6).p6;refine ⟨λ mm w'=>∃ (s2:fL) (v2:SV) (xs2 a2:List (List dH)),lX l s2∧mM l XD (mS l false) mm s2=some (t3,a2)∧y3=xs2++a2∧St w bD [bL (Flat.val v2) (xs2.flatten),fj (Flat.val v0) y1,bL (Flat.val v1) (y2.flatten),cC O4 (Flat.enc (⟨v0,v1,v2,⟨none,0,0⟩,⟨none,0,0⟩,⟨none,0,0⟩⟩:bK)),cC p (dZ lv s2),bL lv l,cC me (Flat.enc (⟨⟨none,0,0⟩,⟨none,0,0⟩,⟨none,0,0⟩,⟨none,0,0⟩,⟨none,0,0⟩,⟨none,0,0⟩⟩:bK))] w',⟨10000,s1,⟨none,0,0⟩,[],y3,hi1,hp.h3,rfl,hs⟩,?_⟩
    rintro mm Iy ⟨s2,v2,xs2,a2,hi2,hm2,hy2,hs⟩ oG;obtain ⟨m2,rfl⟩:=rX hm2;refine bI xZ hs.p4 (H':=λ _=>cC p (dZ lv (gT l s2 (ByteArray.mk #[108,111,99,107])).1)) (Φ:=λ v _=>v = .bool (gT l s2 (ByteArray.mk #[108,111,99,107])).2) (λ F2 eN ey=>?_) ?_
    ·exact C165 p lv l s2 (ByteArray.mk #[108,111,99,107]) F2 _ eN (λ w' hc=>(ey w' hc).p4.fM) hk hi2
    rintro _ JG rfl hs;refine aY (λ qA=>?_) (λ qA=>?_)
    ·obtain ⟨q2,z2,b2,QX,Vz,rfl⟩:=wS hm2 qA;refine aA sg (have hs:=hs.drew;aB (v:=Flat.val (v2:SV)) jD hs.p4.hb rfl (bI PB hs (H':=λ v=>sep (cC p (dZ lv q2)) (bL v z2)) (Φ:=λ _ _=>True) (λ F2 eN ey=>?_) ?_))
     ·exact (C166 p lv l (gT l s2 (ByteArray.mk #[108,111,99,107])).1 false q2 z2 F2 _ eN (λ w' hc=>(ey w' hc).p4.fM) hk (j3 hi2) QX).mono λ _ _ r=>r.mono λ _ _ h=>⟨trivial,h⟩
     rintro x48 KR _ hs;have hs:=hs.split;refine ⟨aG jD (hs.p5.hb.cell rfl),?_⟩;have akV:=(hs.p1).fM;refine cP hs.p2 j9 akV (by have:=Rq hy2; have:=hp.b3; omega) (by decide) (λ afd MN hs=>have hs:=hs.p2.drop;aA sg ?_);obtain ⟨XN,rfl⟩:=(hs).fT;refine aV hs.p4 jD (eE rfl) (rfl) (λ Qw hs=>?_);have hs:=hs.enc (cs':=Flat.enc (⟨v0,v1,XN,⟨none,0,0⟩,⟨none,0,0⟩,⟨none,0,0⟩⟩:bK)) rfl;have hs:=hs.p6.p6.p4.p3.p6.p6.p6;rw [← AQ] at hs;exact ⟨_,by omega,q2,XN,xs2++[z2],b2,xE (j3 hi2) QX,Vz,by rw [hy2,List.append_assoc]; rfl,hs⟩
    ·obtain ⟨e9,rfl⟩:=uE hm2 qA;replace e9:=e9.symm;subst e9;rw [List.append_nil] at hy2;subst hy2;rw [wR qA] at hs;have hs:=((((((((hs.xO (α:=dF)).p7).p7).p3).p7).p5).p7).p7).p7;refine ⟨λ mm w'=>∃ (s3:fL) (v3:SV) (xs3 a3:List dF),lX l s3∧mM l Ju (akQ l) mm s3=some (t4,a3)∧y4=xs3++a3∧St w bD [fj (Flat.val v3) xs3,fj (Flat.val v0) y1,bL (Flat.val v1) (y2.flatten),bL (Flat.val v2) (y3.flatten),cC O4 (Flat.enc (⟨v0,v1,v2,v3,⟨none,0,0⟩,⟨none,0,0⟩⟩:bK)),cC p (dZ lv s3),bL lv l,cC me (Flat.enc (⟨⟨none,0,0⟩,⟨none,0,0⟩,⟨none,0,0⟩,⟨none,0,0⟩,⟨none,0,0⟩,⟨none,0,0⟩⟩:bK))] w',⟨10000,s2,⟨none,0,0⟩,[],y4,hi2,hp.h4,rfl,hs⟩,?_⟩
     rintro mm Tl ⟨s3,v3,xs3,a3,hi3,hm3,hy3,hs⟩ GR;obtain ⟨m3,rfl⟩:=rX hm3;refine bI xZ hs.p5 (H':=λ _=>cC p (dZ lv (gT l s3 (ByteArray.mk #[116,104,114,101,97,100])).1)) (Φ:=λ v _=>v = .bool (gT l s3 (ByteArray.mk #[116,104,114,101,97,100])).2) (λ F2 eN ey=>?_) ?_
     ·exact C165 p lv l s3 (ByteArray.mk #[116,104,114,101,97,100]) F2 _ eN (λ w' hc=>(ey w' hc).p5.fM) hk hi3
     rintro _ VK rfl hs;refine aY (λ sE=>?_) (λ sE=>?_)
     ·obtain ⟨q3,z3,b3,hd3,hn3,rfl⟩:=wS hm3 sE;refine bI aeq hs (H':=λ _=>cC p (dZ lv (eS l (gT l s3 (ByteArray.mk #[116,104,114,101,97,100])).1).1)) (Φ:=λ v _=>v=Flat.val (eS l (gT l s3 (ByteArray.mk #[116,104,114,101,97,100])).1).2) (λ F2 eN ey=>?_) ?_
      ·exact C167 p lv l (gT l s3 (ByteArray.mk #[116,104,114,101,97,100])).1 F2 _ eN (λ w' hc=>(ey w' hc).p5.fM) hk (j3 hi3)
      rintro _ Se rfl hs;refine aO hs CJ (λ b_c10 w26 hs=>aI (x:=(eS l (gT l s3 (ByteArray.mk #[116,104,114,101,97,100])).1).2) hs yd rfl rfl (λ w27 hs=>aA lQ (have hs:=hs.drew;aB (v:=Flat.val (v3:SV)) iF hs.p6.hb rfl (aA pI (aB (v:=.string (((eS l (gT l s3 (ByteArray.mk #[116,104,114,101,97,100])).1).2).name)) kf hs.hb rfl (aA Dw (aB (v:=.int .i64 (((eS l (gT l s3 (ByteArray.mk #[116,104,114,101,97,100])).1).2).at_)) bN hs.hb rfl (pop (RW _ _) (bI aer hs.p1 (H':=λ v=>ua λ sh:ed=>fact (v=Flat.val sh) (sep (cC p (dZ lv q3)) (eY (λ w=>cD.dr w sh z3)))) (Φ:=λ _ _=>True) (λ F2 eN ey=>?_) ?_)))))))))
      ·exact (C168 p lv l (eS l (gT l s3 (ByteArray.mk #[116,104,114,101,97,100])).1).1 ((eS l (gT l s3 (ByteArray.mk #[116,104,114,101,97,100])).1).2).name ((eS l (gT l s3 (ByteArray.mk #[116,104,114,101,97,100])).1).2).at_ q3 z3 F2 _ eN (λ w' hc=>(ey w' hc).p6.fM) hk (uD (j3 hi3)) hd3).mono λ _ _ r=>r.mono λ _ _ h=>⟨trivial,h⟩
      rintro v_x63 w28 _ AH;obtain ⟨akX,AI⟩:=AH.eQ
      clear AH
      obtain ⟨akY,CT⟩:=AI.oD
      clear AI
      subst akY;have hs:=CT.split
      clear CT
      refine ⟨aG iF (hs.p7.hb.cell rfl),?_⟩;have hs:=hs.p1;refine eF (s:=akX) (x:=z3) hs im (by decide) (λ aq7 w29 hs=>?_);refine ⟨aG iF (hs.p7.hb.cell rfl),?_⟩;have hs:=hs.p3;refine dY hs im (by have h1:=congrArg List.length hy3; have h2:=hp.b4; simp at h1 ⊢; omega) (by decide) (λ afY w30 hs=>aA lQ ?_);obtain ⟨XO,rfl⟩:=(hs).lT;refine aV hs.p6 iF (eE rfl) (rfl) (λ w31 hs=>?_);have hs:=((hs.enc (cs':=Flat.enc (⟨v0,v1,v2,XO,⟨none,0,0⟩,⟨none,0,0⟩⟩:bK)) rfl).p3).drop;have hs:=hs.p7.p7.p4.p3.p7.p7.p7.p7;exact ⟨_,by omega,q3,XO,xs3++[z3],b3,Fi (uD (j3 hi3)) hd3,hn3,by rw [hy3,List.append_assoc]; rfl,hs⟩
     ·obtain ⟨e9,rfl⟩:=uE hm3 sE;replace e9:=e9.symm;subst e9;rw [List.append_nil] at hy3;subst hy3;rw [wR sE] at hs;refine ⟨λ w'=>∃ v4:SV,St w bD [fj (Flat.val v4) y5,fj (Flat.val v0) y1,bL (Flat.val v1) (y2.flatten),bL (Flat.val v2) (y3.flatten),fj (Flat.val v3) y4,cC O4 (Flat.enc (⟨v0,v1,v2,v3,v4,⟨none,0,0⟩⟩:bK)),cC p (dZ lv t5),bL lv l,cC me (Flat.enc (⟨⟨none,0,0⟩,⟨none,0,0⟩,⟨none,0,0⟩,⟨none,0,0⟩,⟨none,0,0⟩,⟨none,0,0⟩⟩:bK))] w',?_,?_⟩
      ·refine bI xZ hs (H':=λ _=>cC p (dZ lv (gT l s3 (ByteArray.mk #[114,101,99,111,118,101,114])).1)) (Φ:=λ v _=>v = .bool (gT l s3 (ByteArray.mk #[114,101,99,111,118,101,114])).2) (λ F2 eN ey=>?_) ?_
       ·exact C165 p lv l s3 (ByteArray.mk #[114,101,99,111,118,101,114]) F2 _ eN (λ w' hc=>(ey w' hc).p5.fM) hk hi3
       rintro _ w32 rfl hs;refine aY (λ Mv=>?_) (λ Mv=>?_)
       ·obtain ⟨z4,hd4,hy5⟩:=Mu hp.h5 Mv;obtain ⟨ay2,_,hlo68,hhi68⟩:=XE Mv;have hat68:(gT l s3 (ByteArray.mk #[114,101,99,111,118,101,114])).1.at_=s3.at_+1:=by rw [ay2]
        refine aA ph (have hs:=hs.drew;aB (v:=Flat.val (⟨none,0,0⟩:SV)) iF hs.p5.hb rfl (aF (aA fk (aB bN hs.hb rfl (gD (by omega) ?_)))));obtain ⟨XP,XQ⟩:=gx (l) (i:=((((gT l s3 (ByteArray.mk #[114,101,99,111,118,101,114])).1).at_ - 1)).toNat) (by omega);refine dT hs.p6 fz (by omega) (by omega) (λ _ Xx=>nc lu Xx (λ _ arI=>nW (XP).at_ hs.p6 bN arI XQ rfl (pop (abo _) ?_)));have FZ:za l (gT l s3 (ByteArray.mk #[114,101,99,111,118,101,114])).1=(XP).at_:=congrArg bH.at_ (AP (by omega) XQ);rw [FZ] at hd4;refine bI aer hs (H':=λ v=>ua λ sh:ed=>fact (v=Flat.val sh) (sep (cC p (dZ lv t5)) (eY (λ w=>cD.dr w sh z4)))) (Φ:=λ _ _=>True) (λ F2 eN ey=>?_) ?_
        ·exact (C168 p lv l (gT l s3 (ByteArray.mk #[114,101,99,111,118,101,114])).1 (ByteArray.mk #[]) (XP).at_ t5 z4 F2 _ eN (λ w' hc=>(ey w' hc).p5.fM) hk (j3 hi3) hd4).mono λ _ _ r=>r.mono λ _ _ h=>⟨trivial,h⟩
        rintro v_x82 w33 _ AH;obtain ⟨akZ,AI⟩:=AH.eQ
        clear AH
        obtain ⟨ak0,CT⟩:=AI.oD
        clear AI
        subst ak0;have hs:=CT.split
        clear CT
        refine ⟨aG iF (hs.p6.hb.cell rfl),?_⟩;have hs:=hs.p1;refine eF (s:=akZ) (x:=z4) hs im (by decide) (λ apU w34 hs=>?_);refine ⟨aG iF (hs.p6.hb.cell rfl),?_⟩;have hs:=((hs.xO (α:=dF)).p1).p1;refine dY hs im (by simp) (by decide) (λ aff w35 hs=>aA ph ?_);obtain ⟨XR,rfl⟩:=(hs).lT;refine aV hs.p6 iF (eE rfl) (rfl) (λ w36 hs=>?_);have hs:=(((hs.enc (cs':=Flat.enc (⟨v0,v1,v2,v3,XR,⟨none,0,0⟩⟩:bK)) rfl).p8).p8).p4;have hs:=hs.p3.p5.p8.p8.p8.p8;rw [hy5];exact ⟨XR,hs⟩
       ·rw [wR Mv] at hs;have hs:=(((((((((hs.xO (α:=dF)).p8).p8).p3).p8).p5).p8).p8).p8).p8;obtain ⟨e5,e6⟩:=Rp hp.h5 Mv;rw [e5,e6];exact ⟨⟨none,0,0⟩,hs⟩
      ·rintro w37 ⟨v4,hs⟩ R7;have hs:=((((((((((hs.xO (α:=jE)).p9).p9).p9).p9).p5).p9).p9).p9).p9).p9;refine ⟨λ mm w'=>∃ (s5:fL) (v5:SV) (xs5 a5:List jE),lX l s5∧mM l Jv (λ s=>wQ l s (za l s)) mm s5=some (t6,a5)∧y6=xs5++a5∧St w bD [fj (Flat.val v5) xs5,fj (Flat.val v0) y1,bL (Flat.val v1) (y2.flatten),bL (Flat.val v2) (y3.flatten),fj (Flat.val v3) y4,fj (Flat.val v4) y5,cC O4 (Flat.enc (⟨v0,v1,v2,v3,v4,v5⟩:bK)),cC p (dZ lv s5),bL lv l,cC me (Flat.enc (⟨⟨none,0,0⟩,⟨none,0,0⟩,⟨none,0,0⟩,⟨none,0,0⟩,⟨none,0,0⟩,⟨none,0,0⟩⟩:bK))] w',⟨10000,t5,⟨none,0,0⟩,[],y6,(ady hi3 hp.h5),hp.h6,rfl,hs⟩,?_⟩
       rintro mm w38 ⟨s5,v5,xs5,a5,hi5,hm5,hy5,hs⟩ dd6;obtain ⟨m5,rfl⟩:=rX hm5;refine bI xZ hs.p7 (H':=λ _=>cC p (dZ lv (gT l s5 (ByteArray.mk #[97,108,119,97,121,115])).1)) (Φ:=λ v _=>v = .bool (gT l s5 (ByteArray.mk #[97,108,119,97,121,115])).2) (λ F2 eN ey=>?_) ?_
       ·exact C165 p lv l s5 (ByteArray.mk #[97,108,119,97,121,115]) F2 _ eN (λ w' hc=>(ey w' hc).p7.fM) hk hi5
       rintro _ Yr rfl hs;refine aY (λ ug=>?_) (λ ug=>?_)
       ·obtain ⟨q5,z5,b5,hd5,Fx,rfl⟩:=wS hm5 ug;obtain ⟨ay5,_,hlo87,hhi87⟩:=XE ug;have hat87:(gT l s5 (ByteArray.mk #[97,108,119,97,121,115])).1.at_=s5.at_+1:=by rw [ay5]
        refine aA kR (have hs:=hs.drew;aB (v:=Flat.val (v5:SV)) sY hs.p7.hb rfl (aF (aA fk (aB bN hs.hb rfl (gD (by omega) ?_)))));obtain ⟨XS,XT⟩:=gx (l) (i:=((((gT l s5 (ByteArray.mk #[97,108,119,97,121,115])).1).at_ - 1)).toNat) (by omega);refine dT hs.p8 fz (by omega) (by omega) (λ _ arK=>nc lu arK (λ _ arL=>nW (XS).at_ hs.p8 bN arL XT rfl ?_));have FZ:za l (gT l s5 (ByteArray.mk #[97,108,119,97,121,115])).1=(XS).at_:=congrArg bH.at_ (AP (by omega) XT);rw [FZ] at hd5;refine bI amY hs (H':=λ v=>ua λ sh:lU=>fact (v=Flat.val sh) (sep (cC p (dZ lv q5)) (eY (λ w=>cD.dr w sh z5)))) (Φ:=λ _ _=>True) (λ F2 eN ey=>?_) ?_
        ·exact (C169 p lv l (gT l s5 (ByteArray.mk #[97,108,119,97,121,115])).1 (XS).at_ q5 z5 F2 _ eN (λ w' hc=>(ey w' hc).p7.fM) hk (j3 hi5) hd5).mono λ _ _ r=>r.mono λ _ _ h=>⟨trivial,h⟩
        rintro ay6 w40 _ AH;obtain ⟨adz,AI⟩:=AH.eQ
        clear AH
        obtain ⟨adA,CT⟩:=AI.oD
        clear AI
        subst adA;have hs:=CT.split
        clear CT
        refine ⟨aG sY (hs.p8.hb.cell rfl),?_⟩;have hs:=hs.p1;refine eF (s:=adz) (x:=z5) hs yB (by decide) (λ ake w41 hs=>?_);refine ⟨aG sY (hs.p8.hb.cell rfl),?_⟩;have hs:=hs.p2;refine dY hs yB (by have h1:=congrArg List.length hy5; have h2:=hp.b6; simp at h1 ⊢; omega) (by decide) (λ akf w42 hs=>aA kR ?_);obtain ⟨Rr,rfl⟩:=(hs).lT;refine aV hs.p7 sY (eE rfl) (rfl) (λ w43 hs=>?_);have hs:=(((((hs.enc (cs':=Flat.enc (⟨v0,v1,v2,v3,v4,Rr⟩:bK)) rfl).p9).p9).p4).p3).p9;have hs:=hs.p9.p9.p9.p9.p9;exact ⟨_,by omega,q5,Rr,xs5++[z5],b5,SR (j3 hi5) hd5,Fx,by rw [hy5,List.append_assoc]; rfl,hs⟩
       ·obtain ⟨e9,rfl⟩:=uE hm5 ug;replace e9:=e9.symm;subst e9;rw [List.append_nil] at hy5;subst hy5;rw [wR ug] at hs;obtain ⟨hi50,hi51⟩:=id hi5;refine ⟨λ w'=>St w bD [fj (Flat.val v5) y6,fj (Flat.val v0) y1,bL (Flat.val v1) (y2.flatten),bL (Flat.val v2) (y3.flatten),fj (Flat.val v3) y4,fj (Flat.val v4) y5,cC O4 (Flat.enc (⟨v0,v1,v2,v3,v4,v5⟩:bK)),cC p (dZ lv (F8 l s5)),bL lv l,cC me (Flat.enc (⟨⟨none,0,0⟩,⟨none,0,0⟩,⟨none,0,0⟩,⟨none,0,0⟩,⟨none,0,0⟩,⟨none,0,0⟩⟩:bK))] w',?_,?_⟩
        ·refine aF (aA fk (aB bN hs.hb rfl (aJ fz (hs.p8).fM (aR (aC (λ yW=>?_) (λ yW=>?_))))))
         ·refine bI PC hs (H':=λ _=>cC p (dZ lv (jb l s5 5))) (Φ:=λ _ _=>True) (λ F2 eN ey=>?_) ?_
          ·exact (C170 p lv l s5 F2 _ eN (λ w' hc=>(ey w' hc).p7.fM) hk hi5).mono λ _ _ r=>r.mono λ _ _ h=>⟨trivial,h.2⟩
          rintro _ w44 _ hs;have hs:=hs.p9.p9.p2.p9.p9.p9.p9.p9.p9.p9;have he6:F8 l s5=jb l s5 5:=if_pos yW;rw [he6]; exact hs
         ·have hs:=hs.p9.p9.p2.p9.p9.p9.p9.p9.p9.p9;have he6:F8 l s5=s5:=if_neg yW;rw [he6]; exact hs
        ·intro w45 hs dd7;refine aF (aA l9 (aB nn hs.p7.hb rfl (cT (aC (λ O5=>?_) (λ O5=>?_)))))
         ·refine pop (v:=Flat.val (⟨⟨none,0,0⟩,⟨none,0,0⟩,⟨none,0,0⟩,⟨none,0,0⟩,⟨none,0,0⟩,⟨none,0,0⟩⟩:bK)) (by kernel_rfl) (aF (aA l9 (have hs:=hs.drew;aB nn hs.p7.hb rfl (aF (aA vW (aB bN hs.p7.hb rfl (aI (x:=(⟨⟨none,0,0⟩,⟨none,0,0⟩,⟨none,0,0⟩,⟨none,0,0⟩,⟨none,0,0⟩,⟨none,0,0⟩⟩:bK)) hs.p9 gy rfl rfl (λ w46 hs=>?_))))))));refine ⟨aG nn (hs.p8.hb.cell rfl),?_⟩;refine ⟨aG bN (hs.p8.hb.cell rfl),?_⟩;refine aD gy hs.At ?_;have hs:=hs.gI (Φ:=(λ w=>cD.dr w (⟨⟨none,0,0⟩,⟨none,0,0⟩,⟨none,0,0⟩,⟨none,0,0⟩,⟨none,0,0⟩,⟨none,0,0⟩⟩:bK) (⟨[],[],[],[],[],[]⟩:cO))) (λ w=>⟨_,_,_,_,_,_,rfl,DL.nil _,DL.nil _,DL.nil _,DL.nil _,DL.nil _,DL.nil _⟩)
          have hs:=(((((((((hs.p1.drop.p1.drop.p1.drop.p1.drop.p1).drop).p1).drop).p1).drop).p1).drop).p1).drop;have hs:=(hs.p1).drop;rw [hp.bad O5];exact ⟨_,rfl,hs.fresh⟩
         ·refine aD gy hs.p6.At (aI (x:=(⟨v0,v1,v2,v3,v4,v5⟩:bK)) hs.p9 gy rfl rfl (λ w47 hs=>aD gy hs.At ?_));have hs:=hs.p2.jP.p3.freeze.p1.fK.p3.freeze.p1.fK.p3.jP.p1.fK.p3.jP.p1.fK;have hs:=hs.p2.jP.p1.fK.dQ (Ψ:=(λ w=>cD.dr w (⟨v0,v1,v2,v3,v4,v5⟩:bK) (⟨y1,y2.flatten,y3.flatten,y4,y5,y6⟩:cO))) (λ w h=>⟨_,_,_,_,_,_,rfl,h.1.1.1.1.1,DL.fp h.1.1.1.1.2,DL.fp h.1.1.1.2,h.1.1.2,h.1.2,h.2⟩);have hs:=((((hs.p1.drop.p1.drop).p1).drop).p1).drop;rw [hp.ayS O5];exact ⟨_,rfl,hs.fresh⟩
theorem C48 (s:ByteArray) (R:cO × Int × Int) (w:World) (Ym:s.size≤1000000) (hr:rW s=some R) (hTk:∀ l e a,uC s=some (l,e,a)→iD l) (hz:PZ R.1):CR 48 [.string s] w (λ v w'=>∃ uv:dO,v=Flat.val uv∧mc (eY (λ w=>cD.dr w uv (if fV R.1=0 then en R.1 else Ez))) w w'):=by
 have hs:=St.start w;refine agY _ _ _ ?_;unfold S48;refine aO hs vS (λ me w1 hs=>have hs:=hs.enc (cs':=Flat.enc (⟨⟨none,0,0⟩,0,⟨none,0,0⟩,0,⟨none,0,0⟩,(⟨0,0,⟨none,0,0⟩⟩:cL),⟨none,0,0⟩⟩:dO)) rfl;eu amD (C109 s R _ Ym hr hTk) ?_);rintro _ w2 ⟨XU,rfl,cA⟩;have hs:=hs.made cA;refine bG rfl (bG rfl (bG rfl (aO hs uP (λ wz w3 hs=>have hs:=hs.enc (cs':=Flat.enc (⟨⟨none,0,0⟩,⟨none,0,0⟩,⟨none,0,0⟩,⟨none,0,0⟩,⟨none,0,0⟩,⟨none,0,0⟩⟩:bK)) rfl;aI (x:=XU) hs gy rfl rfl (λ w4 hs=>aD gy hs.At (eu amm (C12 R.1 XU _ (hs.p1).eY hz) ?_))))));rintro _ w5 ⟨XV,rfl,cA⟩
 have hs:=hs.made cA;refine bG rfl (bG rfl (aO hs vS (λ axk w6 hs=>have hs:=hs.enc (cs':=Flat.enc (⟨⟨none,0,0⟩,0,⟨none,0,0⟩,0,⟨none,0,0⟩,(⟨0,0,⟨none,0,0⟩⟩:cL),⟨none,0,0⟩⟩:dO)) rfl;aI (x:=XV) hs tP rfl rfl (λ w7 hs=>aD tP hs.At (aI (x:=XV) hs.p4 tP rfl rfl (λ w8 hs=>aD tP hs.At ?_))))));have hs:=((((((hs.drop)).drop).p1).drop).p1).drop;exact ⟨_,rfl,hs.fresh⟩
structure lY (c:fm) (cells lines locks:Int):Prop where
 rb:0≤c.aK∧c.aK≤4
 cb:0≤c.counts∧c.counts≤12
 fld:∀ (i:Nat) (x:aW),c.l[i]? = some x→ve x c cells lines locks=true
 to:∀ (i:Nat) (x:aW),c.l[i]? = some x→IY c.l i x=true
theorem Mw {c:fm} {cells lines locks:Int} (h:lC c cells lines locks=true):lY c cells lines locks:=by
 unfold lC at h
 simp only [Bool.and_eq_true,Bool.not_eq_true'] at h
 obtain ⟨⟨h1,h2⟩,h3⟩:=h
 unfold vh at h1
 simp only [Bool.or_eq_false_iff,decide_eq_false_iff_not] at h1
 have hi:∀ (i:Nat) (x:aW),c.l[i]? = some x→ve x c cells lines locks=true∧IY c.l i x=true:=by
  intro i x hx
  have h4:=GZ h2 i (List.getElem?_eq_some_iff.1 hx).1
  rw [uo hx] at h4
  simpa using h4
 exact ⟨by omega,by omega,λ i x hx=>(hi i x hx).1,λ i x hx=>(hi i x hx).2⟩
structure Fk (u:iz):Prop where
 ll:u.lines.length≤20
 st:0≤u.stays∧u.stays≤u.lines.length
 fl:u.dC.length=u.lines.length
 lk:0≤u.locks∧u.locks≤2
 tl:1≤u.threads.length∧u.threads.length≤3
 ln:∀ i,i<u.lines.length→kh u i=false
 fr:∀ n∈u.dC,0≤n∧n≤4294967296
 th:∀ c∈u.threads,lY c u.lines.length (gu u) u.locks
 cl:∀ l∈u.cB,eG l u.stays=true
 rc:lY u.recover u.lines.length (gu u) u.locks
theorem pY {u:iz} (h:nx u=true):Fk u:=by
 unfold nx at h
 simp only [Bool.and_eq_true,Bool.not_eq_true'] at h
 obtain ⟨h1,⟨⟨⟨⟨h2,h3⟩,h4⟩,h5⟩,h6⟩⟩:=h
 unfold kW at h1
 simp only [Bool.or_eq_false_iff,decide_eq_false_iff_not] at h1
 rw [List.any_eq_false] at h2 h4 h5
 refine ⟨by omega,by omega,by omega,by omega,by omega,λ i hi=>GZ h3 i hi,λ n hn=>?_,λ c hc=>?_,λ l hl=>?_,Mw h6⟩
 ·have:=h2 n hn
  unfold lE at this
  simp at this; omega
 ·have:=h4 c hc
  exact Mw (by simpa using this)
 ·have:=h5 l hl
  simpa using this
theorem Rs {n k:Int} (h:LH n k=true):0≤n∧n<k:=by unfold LH at h; simpa using h
section
variable {c:fm} {cells lines locks:Int} {i:Nat} {x:aW}
theorem lY.kd (h:lY c cells lines locks) (hx:c.l[i]? = some x):1≤x.kind∧x.kind≤15:=by
 have:=h.fld i x hx; unfold ve at this; simp only [Bool.and_eq_true,decide_eq_true_eq] at this; exact ⟨this.2.1.1.1,this.2.1.1.2⟩
theorem lY.a (h:lY c cells lines locks) (hx:c.l[i]? = some x):aM x c.aK c.counts=true:=by
 have:=h.fld i x hx; unfold ve at this; simp only [Bool.and_eq_true,decide_eq_true_eq] at this; exact this.2.1.2
theorem lY.b (h:lY c cells lines locks) (hx:c.l[i]? = some x):bM x cells lines locks=true:=by
 have:=h.fld i x hx; unfold ve at this; simp only [Bool.and_eq_true,decide_eq_true_eq] at this; exact this.2.2
theorem lY.a13 (h:lY c cells lines locks) (hx:c.l[i]? = some x) (hk:x.kind=13∨x.kind=14):0≤x.a∧x.a<c.counts:=by
 have:=h.a hx; unfold aM at this; rw [if_pos hk] at this; exact Rs this
theorem lY.a1 (h:lY c cells lines locks) (hx:c.l[i]? = some x) (hk:x.kind=1∨x.kind=2∨x.kind=4):0≤x.a∧x.a<c.aK:=by
 have:=h.a hx; unfold aM at this; rw [if_neg (by omega),if_pos hk] at this; exact Rs this
theorem lY.b2 (h:lY c cells lines locks) (hx:c.l[i]? = some x) (hk:x.kind=2∨x.kind=3∨x.kind=4):0≤x.b∧x.b<cells:=by
 have:=h.b hx; unfold bM at this; rw [if_pos hk] at this; exact Rs this
theorem lY.b9 (h:lY c cells lines locks) (hx:c.l[i]? = some x) (hk:x.kind=9∨x.kind=10):0≤x.b∧x.b<locks:=by
 have:=h.b hx; unfold bM at this; rw [if_neg (by omega),if_neg (by omega),if_pos hk] at this; exact Rs this
theorem lY.tob (h:lY c cells lines locks) (hx:c.l[i]? = some x):0≤x.to∧x.to≤c.l.length:=by
 have h1:=h.to i x hx
 have hi:=(List.getElem?_eq_some_iff.1 hx).1
 by_cases hk:x.kind=14
 ·have:=We hk h1; omega
 ·unfold IY at h1
  split at h1
  ·simp at h1; omega
  ·simp at h1; omega
theorem pe {α:Type} {l:List α} {x:α} (h:x∈l):∃ i:Nat,l[i]? = some x:=List.mem_iff_getElem?.1 h
theorem lY.ok (h:lY c cells lines locks) (hz:CZ c):BE c:=by
 have h1:=h.rb; have h2:=h.cb; have h3:=hz.l
 refine ⟨by omega,by omega,by omega,λ x hx=>?_,λ x hx hk=>?_,λ x hx hk=>?_⟩
 ·obtain ⟨i,hi⟩:=pe hx
  have:=h.tob hi
  have h4:=hz.ef x hx
  exact ⟨h4.1,h4.2,by omega,by omega⟩
 ·obtain ⟨i,hi⟩:=pe hx; exact h.a1 hi (.inl hk)
 ·obtain ⟨i,hi⟩:=pe hx; exact h.a13 hi hk
end
def Vis (t:fx):Prop:=∀ x,gZ t=some x→t.fault=0→2≤x.kind∧x.kind≤10
theorem XW {t:fx} {x:aW} {e:Int}:(wK t x e).1.code=t.code∧(wK t x e).1.buf=t.buf:=by
 unfold wK; repeat' split
 all_goals exact ⟨rfl,rfl⟩
theorem pZ (t:fx):(fF t).1.code=t.code∧(fF t).1.buf=t.buf:=by
 unfold fF
 cases hn:gZ t with
 | none=>exact ⟨rfl,rfl⟩
 | some x=>
  dsimp only
  split
  ·split
   ·exact XW
   ·exact ⟨rfl,rfl⟩
  ·exact ⟨rfl,rfl⟩
theorem uF:∀ {n:Nat} {t t':fx},sb n t=some t'→t'.code=t.code∧t'.buf=t.buf
 | 0,_,_,h=>by cases h
 | n+1,t,t',h=>by
  have hc:=pZ t
  unfold sb at h
  split at h
  ·have:=uF h; exact ⟨this.1.trans hc.1,this.2.trans hc.2⟩
  ·cases h; exact hc
theorem Jw:∀ {n:Nat} {t t':fx},He t→sb n t=some t'→He t'
 | 0,_,_,_,h=>by cases h
 | n+1,t,t',h0,h=>by
  unfold sb at h
  split at h
  ·exact Jw (lH h0) h
  ·cases h; exact lH h0
theorem Fl:∀ {n k:Nat} {t t':fx},sb n t=some t'→sb (n+k) t=some t'
 | 0,_,_,_,h=>by cases h
 | n+1,k,t,t',h=>by
  rw [show n+1+k=(n+k)+1 from by omega]
  unfold sb at h ⊢
  split at h
  ·rename_i hs; rw [if_pos hs]; exact Fl h
  ·rename_i hs; rw [if_neg hs]; exact h
theorem O6 {t:fx} (hk:∀ x∈t.code.l,1≤x.kind∧x.kind≤15) (h:(fF t).2=false):Vis (fF t).1:=by
 intro x hx hf
 cases hn:gZ t with
 | none=>rw [Av hn] at hx; rw [hx] at hn; cases hn
 | some y=>
  have hy:=hk y (qO hn).1
  cases he:(ep y.e t.aK).2 with
  | false=>rw [Aw hn he] at hf; simp [tE,he] at hf
  | true=>
   cases J2:(ep y.f t.aK).2 with
   | false=>rw [Ax hn he J2] at hf; simp [tF,tE,J2] at hf
   | true=>
    rw [kC hn he J2] at h hx hf
    unfold wK at h hx hf
    have e:∀ z,gZ (tF (tE t y) y)=some z→z=y:=by
     intro z hz
     have:gZ (tF (tE t y) y)=gZ t:=rfl
     rw [this,hn] at hz; exact (Option.some.inj hz).symm
    split at h
    ·cases h
    ·split at h
     ·cases h
     ·split at h
      ·split at h <;> cases h
      ·split at h
       ·cases h
       ·split at h
        ·split at h <;> cases h
        ·split at h
         ·rename_i h1 h2 h3 h4 h5 h6
          rw [if_neg h1,if_neg h2,if_neg h3,if_neg h4,if_neg h5,if_pos h6] at hf
          split at hf
          ·cases hf
          ·rename_i h7; rw [if_neg h7] at h; cases h
         ·rename_i h1 h2 h3 h4 h5 h6
          rw [if_neg h1,if_neg h2,if_neg h3,if_neg h4,if_neg h5,if_neg h6] at hx
          have:=e x hx; subst this
          omega
theorem C0:∀ {n:Nat} {t t':fx},(∀ x∈t.code.l,1≤x.kind∧x.kind≤15)→sb n t=some t'→Vis t'
 | 0,_,_,_,h=>by cases h
 | n+1,t,t',hk,h=>by
  unfold sb at h
  split at h
  ·exact C0 (by rw [(pZ t).1]; exact hk) h
  ·rename_i hs; cases h; exact O6 hk (by simpa using hs)
theorem Ch {l:List Int} {k:Nat} (hk:0<k) (h:k≤l.length):kY (l.take k)=l.getD (k - 1) 0+1:=by
 unfold kY
 rw [List.length_take,Nat.min_eq_left h,if_neg (by omega),List.getD_eq_getElem?_getD,List.getD_eq_getElem?_getD,List.getElem?_take,if_pos (by omega)]
theorem C1 {u:iz} (h:Fk u) {k:Nat} {n:Int} (hk:(k:Int)<u.stays) (hn:u.lines[k]? = some n):(n=lD u.lines k∨(0<k∧n=lD u.lines k - 1))∧-1≤n∧n≤k:=by
 have mE:=(List.getElem?_eq_some_iff.1 hn).1
 have hb:=EN (u:=u) (k:=u.lines.length) (λ j hj=>h.ln j hj) k n mE hn
 have h1:=h.ln k mE
 unfold kh at h1
 rw [hn] at h1
 simp only [Bool.and_eq_false_iff,Bool.or_eq_false_iff,decide_eq_false_iff_not,Decidable.not_not] at h1
 refine ⟨?_,hb⟩
 rcases h1 with h1 | h1
 ·exact .inl h1
 ·exact .inr ⟨by omega,h1.2⟩
theorem Jy {u:iz} (h:Fk u):∀ (k:Nat) (n:Int),(k:Int)<u.stays→u.lines[k]? = some n→0≤n∧∀ j m,j≤k→u.lines[j]? = some m→m≤n
 | 0,n,hk,hn=>by
  have h1:=(C1 h hk hn).1
  have e:lD u.lines 0=0:=rfl
  rw [e] at h1
  refine ⟨by omega,λ j m hj hm=>?_⟩
  obtain rfl:j=0:=by omega
  rw [hn] at hm; cases hm; exact Int.le_refl _
 | k+1,n,hk,hn=>by
  have mE:=(List.getElem?_eq_some_iff.1 hn).1
  obtain ⟨q,hq⟩:∃ q,u.lines[k]? = some q:=⟨_,List.getElem?_eq_getElem (by omega)⟩
  have ih:=Jy h k q (by omega) hq
  have h1:=(C1 h hk hn).1
  have e:lD u.lines (k+1)=q+1:=by unfold lD; rw [if_neg (by omega),Nat.add_sub_cancel,List.getD_eq_getElem?_getD,hq]; rfl
  rw [e] at h1
  refine ⟨by omega,λ j m hj hm=>?_⟩
  by_cases hjk:j=k+1
  ·subst hjk; rw [hn] at hm; cases hm; exact Int.le_refl _
  ·have:=ih.2 j m (by omega) hm; omega
theorem adB {u:iz} (h:Fk u):xt (WY u.lines u.stays u.dC):=by
 have h1:=h.st; have h2:=h.fl; have h3:=h.ll
 have hl:(u.lines.take u.stays.toNat).length=u.stays.toNat:=by rw [List.length_take]; omega
 refine ⟨?_,?_,rfl,?_,λ n hn=>?_,?_,λ k x hx=>by cases hx⟩
 ·show (u.lines.take u.stays.toNat).length≤u.dC.length; omega
 ·show u.dC.length≤20; omega
 ·show (u.dC.take u.stays.toNat).length=(u.lines.take u.stays.toNat).length; rw [hl,List.length_take]; omega
 ·obtain ⟨i,hi⟩:=pe (show n∈u.lines.take u.stays.toNat from hn)
  have mE:=(List.getElem?_eq_some_iff.1 hi).1
  rw [hl] at mE
  rw [List.getElem?_take,if_pos mE] at hi
  obtain ⟨q,hq⟩:∃ q,u.lines[u.stays.toNat - 1]? = some q:=⟨_,List.getElem?_eq_getElem (by omega)⟩
  have h4:=Jy h (u.stays.toNat - 1) q (by omega) hq
  have h5:=(Jy h i n (by omega) hi).1
  have h6:=h4.2 i n (by omega) hi
  show 0≤n∧n<kY (u.lines.take u.stays.toNat)
  rw [Ch (by omega) (by omega),List.getD_eq_getElem?_getD,hq]
  exact ⟨h5,by show n<q+1; omega⟩
 ·show kY (u.lines.take u.stays.toNat)≤20
  by_cases h0:u.stays.toNat=0
  ·rw [h0,List.take_zero]; decide
  ·obtain ⟨q,hq⟩:∃ q,u.lines[u.stays.toNat - 1]? = some q:=⟨_,List.getElem?_eq_getElem (by omega)⟩
   have:=(C1 h (by omega) hq).2
   rw [Ch (by omega) (by omega),List.getD_eq_getElem?_getD,hq]
   show q+1≤20
   omega
theorem Rt {f:Int→List jr} {a k:Int} {xs:List jr} {x:jr} (h:x∈tm f a xs k):x∈xs∨x∈f k:=by
 unfold tm at h; split at h; exact .inl h; exact .inr h
theorem Hx {m:Mem} {c n:Int} (h:xt m):xt (iP m c n):=by
 unfold iP
 split
 ·rename_i vq
  unfold Oo at vq; rw [decide_eq_true_eq] at vq
  refine ⟨h.Su,h.fl,by show (m.l.set _ _).length=_; rw [List.length_set]; exact h.ll,h.kl,h.ofr,h.lb,λ k x hx=>?_⟩
  dsimp only at hx
  split at hx
  ·rename_i hc
   rcases Rt hx with h1 | h1
   ·rw [List.mem_append] at h1
    rcases h1 with h1 | h1
    ·exact h.pc _ x h1
    ·simp at h1; subst h1; exact ⟨vq.1,hc⟩
   ·exact h.pc _ x h1
  ·exact h.pc _ x hx
 ·exact h
theorem adC {m:Mem} {c:Int} (h:xt m):xt (vG m c):=by
 unfold vG
 split
 ·refine ⟨h.Su,h.fl,h.ll,by show (xV _ _).length=_; rw [Ap]; exact h.kl,h.ofr,h.lb,λ k x hx=>?_⟩
  rcases Rt hx with h1 | h1
  ·cases h1
  ·exact h.pc _ x h1
 ·exact h
theorem SZ {m:Mem} {cut qh:List Int} (h:jI m cut=some qh):qh.length=m.kept.length:=by
 unfold jI at h; split at h
 ·cases h; exact ux _ _ _
 ·cases h
theorem S0 {m:Mem} {cut qh:List Int} (h:xt m) (hi:jI m cut=some qh):xt (yU m qh):=by
 have h1:=SZ hi
 have h2:=h.kl; have h3:=h.Su
 refine ⟨h.Su,h.fl,?_,?_,h.ofr,h.lb,λ k x hx=>by cases hx⟩
 ·show (qh++m.dC.drop qh.length).length=m.dC.length
  rw [List.length_append,List.length_drop]; omega
 ·show qh.length=m.of.length; omega
structure GM (m:gO):Prop where
 ru:Fk m.u
 uz:UZ m.u
 mem:xt m.mem
 of:m.mem.of=m.u.lines.take m.u.stays.toNat
 dC:m.mem.dC=m.u.dC
 th:∀ t∈m.l,He t∧Vis t∧(t.code∈m.u.threads∨t.code=m.u.recover)
 tl:m.l.length≤3
 lk:(m.locks.length:Int)=m.u.locks
 rm:1≤m.room∧m.room≤16
 cr:0≤m.fG
section
variable {m:gO} {t:fx}
theorem GM.code (h:GM m) (ht:t∈m.l):lY t.code m.u.lines.length (gu m.u) m.u.locks:=by
 rcases (h.th t ht).2.2 with h1 | h1
 ·exact h.ru.th _ h1
 ·rw [h1]; exact h.ru.rc
theorem GM.ok (h:GM m):rQ m:=by
 have Nd:=h.tl
 refine ⟨h.mem,λ t ht=>(h.th t ht).1,by omega,h.lk,λ t ht x hx hk=>?_,λ t ht x hx hk=>?_,λ t ht x hx hk=>?_,h.rm,λ t ht=>(h.th t ht).2.1,λ n hn=>?_⟩
 ·obtain ⟨i,hi⟩:=pe hx; exact (h.code ht).b9 hi hk
 ·obtain ⟨i,hi⟩:=pe hx; exact (h.code ht).b2 hi (.inr (.inl hk))
 ·obtain ⟨i,hi⟩:=pe hx
  exact (h.code ht).a1 hi (by omega)
 ·obtain ⟨i,hi⟩:=pe hn
  have mE:=(List.getElem?_eq_some_iff.1 hi).1
  have:=EN (u:=m.u) (k:=m.u.lines.length) (λ j hj=>h.ru.ln j hj) i n mE hi
  have:=h.ru.ll
  omega
theorem S1 {mm:Mem} {x:bJ} (h:xt mm):xt (ik mm x)∧(ik mm x).of=mm.of∧(ik mm x).dC=mm.dC:=by
 unfold ik
 split
 ·exact ⟨Hx h,BJ _ _ _,tz _ _ _⟩
 ·split
  ·exact ⟨h,rfl,rfl⟩
  ·exact ⟨adC h,QU _ _,Cc _ _⟩
theorem XX {i:Int} {x:aW} (h:xt m.mem):xt (dL m t i x).1.mem∧(dL m t i x).1.mem.of=m.mem.of∧(dL m t i x).1.mem.dC=m.mem.dC:=by
 unfold dL AE wN sN
 repeat' split
 all_goals first
  | exact ⟨h,rfl,rfl⟩
  | exact ⟨Hx h,BJ _ _ _,tz _ _ _⟩
theorem Ru {i:Int} {x:aW}:(dL m t i x).1.locks.length=m.locks.length∧(dL m t i x).1.fG=m.fG:=by
 unfold dL AE wN sN
 repeat' split
 all_goals first
  | exact ⟨rfl,rfl⟩
  | exact ⟨List.length_set ..,rfl⟩
theorem S2 {l:List bJ} {i:Int}:(kN l i).length≤l.length:=by
 unfold kN; split
 ·exact List.length_eraseIdx_le ..
 ·exact Nat.le_refl _
theorem GM.out {q:fa} (h:GM m) (ht:m.l[q.t.toNat]? = some t):GM (mD m t q):=by
 have hm:=S1 (x:=ee t.buf q.i) h.mem
 have BG:=List.mem_of_getElem? ht
 refine ⟨h.ru,h.uz,hm.1,hm.2.1.trans h.of,hm.2.2.trans h.dC,λ t' XY=>?_,by show (m.l.set _ _).length≤3; rw [List.length_set]; exact h.tl,h.lk,h.rm,h.cr⟩
 rcases List.mem_or_eq_of_mem_set (show t'∈m.l.set _ _ from XY) with h1 | h1
 ·exact h.th t' h1
 ·subst h1
  obtain ⟨h2,h3,h4⟩:=h.th t BG
  have:=S2 (l:=t.buf) (i:=q.i)
  have hb:=h2.bl
  exact ⟨⟨h2.code,h2.rg,h2.cn,h2.Tj,by show (kN t.buf q.i).length≤1000; omega⟩,h3,h4⟩
theorem lY.kds {c:fm} {a b d:Int} (h:lY c a b d):∀ x∈c.l,1≤x.kind∧x.kind≤15:=λ x hx=>by
 obtain ⟨i,hi⟩:=pe hx; exact h.kd hi
theorem GM.step {N:Nat} {i:Int} {m':gO} {ev:dA} (h:GM m) (hs:mL N m i=some (m',ev)):GM m':=by
 cases ht:m.l[i.toNat]? with
 | none=>unfold mL at hs; rw [ht] at hs; cases hs
 | some t=>
  have BG:=List.mem_of_getElem? ht
  have htt:=h.th t BG
  by_cases hf:t.fault≠0
  ·rw [(xw hs ht hf).1]
   exact ⟨h.ru,h.uz,h.mem,h.of,h.dC,h.th,h.tl,h.lk,h.rm,h.cr⟩
  ·obtain ⟨x,hn⟩:=xy hs ht hf
   have hm:=XX (m:=m) (t:=t) (i:=i) (x:=x) h.mem
   have ML:=Ru (m:=m) (t:=t) (i:=i) (x:=x)
   have oF:=QV (m:=m) (i:=i) (x:=x) htt.1 h.rm.2
   have key:∀ t2:fx,He t2→Vis t2→t2.code=t.code→GM { (dL m t i x).1 with l:=(dL m t i x).1.l.set i.toNat t2}:=by
    intro t2 h1 h2 h3
    have hu:=OA (m:=m) (t:=t) (i:=i) (x:=x)
    refine ⟨by rw [hu]; exact h.ru,by rw [hu]; exact h.uz,hm.1,by rw [hu]; exact hm.2.1.trans h.of,by rw [hu]; exact hm.2.2.trans h.dC,λ t' XY=>?_,?_,?_,?_,?_⟩
    ·rw [E6] at XY
     rw [hu]
     rcases List.mem_or_eq_of_mem_set (show t'∈m.l.set _ _ from XY) with h4 | h4
     ·exact h.th t' h4
     ·subst h4; exact ⟨h1,h2,by rw [h3]; exact htt.2.2⟩
    ·show ((dL m t i x).1.l.set _ _).length≤3
     rw [List.length_set,E6]; exact h.tl
    ·show ((dL m t i x).1.locks.length:Int)=(dL m t i x).1.u.locks
     rw [ML.1,hu]; exact h.lk
    ·show 1≤(dL m t i x).1.room∧(dL m t i x).1.room≤16
     rw [xu]; exact h.rm
    ·show 0≤(dL m t i x).1.fG
     rw [ML.2]; exact h.cr
   by_cases h0:(dL m t i x).1.fault=0
   ·obtain ⟨t2,hg,HK,_⟩:=xz hs ht hf hn h0
    rw [HK]
    have hc:=uF hg
    have hcc:t2.code=t.code:=hc.1.trans (pa (m:=m) (t:=t) (i:=i) (x:=x))
    refine key t2 (Jw ?_ hg) (C0 (t:={ (dL m t i x).2.1 with at_:=(dL m t i x).2.1.at_+1}) ?_ hg) hcc
    ·exact ⟨oF.code,oF.rg,oF.cn,by show 0≤(dL m t i x).2.1.at_+1; have:=oF.Tj; omega,oF.bl⟩
    ·show ∀ x'∈(dL m t i x).2.1.code.l,_
     rw [pa]; exact (h.code BG).kds
   ·obtain ⟨HK,_⟩:=xA hs ht hf hn h0
    rw [HK]
    refine key _ oF ?_ (pa (m:=m) (t:=t) (i:=i) (x:=x))
    intro y hy hfy
    have e:gZ (dL m t i x).2.1=gZ t:=by unfold gZ; rw [pa,AF]
    rw [e] at hy
    exact htt.2.1 y hy (by omega)
theorem GM.arN {q:fa} {qh:List Int} {N:Nat} (h:GM m) (hi:gR m q=some qh) (hg:sb N (pU m.u.recover)=some t):GM (lM (yY m qh) [t]):=by
 have hi2:jI m.mem q.cut=some qh:=by unfold gR at hi; split at hi; exact hi; cases hi
 have hr:=h.ru.rc
 have ML:=h.ru.lk
 refine ⟨h.ru,h.uz,S0 h.mem hi2,h.of,h.dC,λ t' XY=>?_,by show [t].length≤3; simp,?_,h.rm,by show 0≤m.fG+1; have:=h.cr; omega⟩
 ·obtain rfl:t'=t:=by simpa using (show t'∈[t] from XY)
  exact ⟨Jw (Jh (hr.ok h.uz.rc)) hg,C0 (t:=pU m.u.recover) hr.kds hg,.inr (uF hg).1⟩
 ·show ((List.replicate m.u.locks.toNat (-1:Int)).length:Int)=m.u.locks
  rw [List.length_replicate]; omega
theorem GM.do {N:Nat} {q:fa} {m2:gO} {ev:dA} {e:Int} (h:GM m) (hd:Cd N m q=some (m2,ev,e)):GM m2:=by
 cases hc:gR m q with
 | some qh=>obtain ⟨t,hg,hm,_⟩:=uB hd hc; rw [hm]; exact h.arN hc hg
 | none=>
  by_cases ha:(eV m).any (iW q)=true
  ·by_cases hk:q.kind=2
   ·obtain ⟨_,t,ht⟩:=tA ha
    rw [(pA hd hc ha hk ht).1]; exact h.out ht
   ·exact h.step (ng hd hc ha hk).1
  ·rw [(qJ hd hc ha).1]; exact h
end
theorem GM.new {N:Nat} {u:iz} {room:Int} {lB:List fx} (hu:Fk u) (hz:UZ u) (hb:qk N u.threads lB) (hr:1≤room∧room≤16):GM (lM (ld u room) lB):=by
 have h1:=hu.tl; have h2:=hu.lk
 refine ⟨hu,hz,adB hu,rfl,rfl,λ t ht=>?_,by show lB.length≤3; rw [hb.1]; exact h1.2,?_,hr,Int.le_refl _⟩
 ·obtain ⟨i,hi⟩:=pe (show t∈lB from ht)
  have mE:=(List.getElem?_eq_some_iff.1 hi).1
  obtain ⟨c,hc⟩:∃ c,u.threads[i]? = some c:=⟨_,List.getElem?_eq_getElem (by rw [← hb.1]; exact mE)⟩
  have hg:=hb.2 i c t hc hi
  have Ja:=List.mem_of_getElem? hc
  have hcu:=hu.th c Ja
  exact ⟨Jw (Jh (hcu.ok (hz.th c Ja))) hg,C0 (t:=pU c) hcu.kds hg,.inl (by rw [(uF hg).1]; exact Ja)⟩
 ·show ((List.replicate u.locks.toNat (-1:Int)).length:Int)=u.locks
  rw [List.length_replicate]; omega
theorem Mx {N:Nat} {u:iz} {lB:List fx} (hu:Fk u) (hz:UZ u) (hb:qk N u.threads lB):QW N u lB:=by
 have h1:=hu.lk; have h2:=hu.st; have h3:=hu.ll
 refine ⟨hb,λ c hc=>(hu.th c hc).ok (hz.th c hc),hu.fl.symm,hu.ll,hu.st,λ k n hk hn=>?_,by omega⟩
 have h4:=C1 hu hk hn
 have mE:=(List.getElem?_eq_some_iff.1 hn).1
 exact ⟨h4.1,by omega,by omega⟩
theorem MB.mono {mm:Mem} {a b:Nat} (h:MB mm a) (hab:a≤b):MB mm b:=λ k=>Nat.le_trans (h k) hab
theorem MB.write {mm:Mem} {c x:Int} {n:Nat} (h:MB mm n):MB (iP mm c x) (n+1):=by
 intro k
 unfold iP
 split
 ·dsimp only
  split
  ·unfold tm
   split
   ·rw [List.length_append,List.length_singleton]; have:=h (mm.of.getD c.toNat 0); omega
   ·have:=h k; omega
  ·have:=h k; omega
 ·have:=h k; omega
theorem MB.out {mm:Mem} {c:Int} {n:Nat} (h:MB mm n):MB (vG mm c) n:=by
 intro k
 unfold vG
 split
 ·dsimp only
  unfold tm
  split
  ·simp
  ·exact h k
 ·exact h k
theorem MB.ik {mm:Mem} {x:bJ} {n:Nat} (h:MB mm n):MB (ik mm x) (n+1):=by
 unfold Go.Proofs.YtnjcingfdhjfkaaGreat.ik
 split
 ·exact h.write
 ·split
  ·exact h.mono (Nat.le_succ n)
  ·exact h.out.mono (Nat.le_succ n)
theorem MB.act {m:gO} {t:fx} {i:Int} {x:aW} {n:Nat} (h:MB m.mem n):MB (dL m t i x).1.mem (n+1):=by
 unfold dL AE wN sN
 repeat' split
 all_goals first
  | exact h.mono (Nat.le_succ n)
  | exact h.write
theorem MB.step {N n:Nat} {m m':gO} {i:Int} {ev:dA} (h:MB m.mem n) (hs:mL N m i=some (m',ev)):MB m'.mem (n+1):=by
 cases ht:m.l[i.toNat]? with
 | none=>unfold mL at hs; rw [ht] at hs; cases hs
 | some t=>
  by_cases hf:t.fault≠0
  ·rw [(xw hs ht hf).1]; exact h.mono (Nat.le_succ n)
  ·obtain ⟨x,hn⟩:=xy hs ht hf
   by_cases h0:(dL m t i x).1.fault=0
   ·obtain ⟨t2,_,HK,_⟩:=xz hs ht hf hn h0
    rw [HK]; exact h.act
   ·rw [(xA hs ht hf hn h0).1]; exact h.act
theorem MB.do {N n:Nat} {m m2:gO} {q:fa} {ev:dA} {e:Int} (h:MB m.mem n) (hd:Cd N m q=some (m2,ev,e)):MB m2.mem (n+1):=by
 cases hc:gR m q with
 | some qh=>obtain ⟨t,_,hm,_⟩:=uB hd hc; rw [hm]; intro k; exact Nat.zero_le _
 | none=>
  by_cases ha:(eV m).any (iW q)=true
  ·by_cases hk:q.kind=2
   ·obtain ⟨_,t,ht⟩:=tA ha
    rw [(pA hd hc ha hk ht).1]; exact h.ik
   ·exact h.step (ng hd hc ha hk).1
  ·rw [(qJ hd hc ha).1]; exact h.mono (Nat.le_succ n)
theorem MB.new {u:iz} {room:Int} {lB:List fx}:MB (lM (ld u room) lB).mem 0:=λ _=>Nat.le_refl _
theorem Fm {N:Nat} {m m2:gO} {q:fa} {ev:dA} {e:Int} (hd:Cd N m q=some (m2,ev,e)):m2.fG≤m.fG+1∧m2.u=m.u∧m2.room=m.room:=by
 cases hc:gR m q with
 | some qh=>obtain ⟨t,_,hm,_⟩:=uB hd hc; rw [hm]; exact ⟨Int.le_refl _,rfl,rfl⟩
 | none=>
  by_cases ha:(eV m).any (iW q)=true
  ·by_cases hk:q.kind=2
   ·obtain ⟨_,t,ht⟩:=tA ha
    rw [(pA hd hc ha hk ht).1]; exact ⟨by show m.fG≤_; omega,rfl,rfl⟩
   ·have hs:=(ng hd hc ha hk).1
    cases ht:m.l[q.t.toNat]? with
    | none=>unfold mL at hs; rw [ht] at hs; cases hs
    | some t=>
     by_cases hf:t.fault≠0
     ·rw [(xw hs ht hf).1]; exact ⟨by show m.fG≤_; omega,rfl,rfl⟩
     ·obtain ⟨x,hn⟩:=xy hs ht hf
      have JF:=(Ru (m:=m) (t:=t) (i:=q.t) (x:=x)).2
      by_cases h0:(dL m t q.t x).1.fault=0
      ·obtain ⟨t2,_,HK,_⟩:=xz hs ht hf hn h0
       rw [HK]; exact ⟨by show (dL m t q.t x).1.fG≤_; omega,OA,xu⟩
      ·rw [(xA hs ht hf hn h0).1]; exact ⟨by show (dL m t q.t x).1.fG≤_; omega,OA,xu⟩
  ·rw [(qJ hd hc ha).1]; exact ⟨by omega,rfl,rfl⟩
theorem ak1 {α:Type} {g:α→Bool} {l:List α} (h:0≤uV g l):uV g l<l.length:=by
 unfold uV at h ⊢
 cases hf:l.findIdx? g with
 | none=>rw [hf] at h; simp at h
 | some k=>
  have:=(List.findIdx?_eq_some_iff_getElem.1 hf).1
  simp; exact this
theorem AS {ns:List ByteArray} {s:ByteArray} (h:0≤dR ns s):dR ns s<ns.length:=ak1 h
theorem My {s:ByteArray} (h:j6 s=true):s≠⟨#[]⟩:=by
 rintro rfl
 exact absurd h (by decide)
theorem Ex.arO (ns:List ByteArray) (t:Ex):t.wf→∀ n h:Int,0≤n→∃ h',(t.steps ns).foldl KS (some (n,h))=some (n+1,h'):=by
 induction t with
 | leaf x=>
  intro hw n h hn
  have Nw:kids x.op=0:=hw
  have hw1:fD x.op=0:=by
   unfold kids at Nw
   unfold fD
   split at Nw <;> (try split at Nw) <;> (try split at Nw) <;> repeat' split
   all_goals omega
  refine ⟨max h (n+1),(show KS (some (n,h)) ⟨x.op,Ex.numOf ns x⟩=some (n+1,max h (n+1)) from ?_)⟩
  unfold KS; dsimp only; rw [hw1,if_neg (by omega),Int.sub_zero]
 | un x a ih=>
  intro hw n h hn
  have Nw:kids x.op=1:=hw.1
  have hw1:fD x.op=1:=by
   unfold kids at Nw
   unfold fD
   split at Nw <;> (try split at Nw) <;> (try split at Nw) <;> repeat' split
   all_goals omega
  obtain ⟨h1,e1⟩:=ih hw.2 n h hn
  refine ⟨max h1 (n+1),?_⟩
  show List.foldl KS (some (n,h)) (a.steps ns++[(⟨x.op,numOf ns x⟩:nt)])=_
  rw [List.foldl_append,e1]
  show KS (some (n+1,h1)) ⟨x.op,numOf ns x⟩=_
  unfold KS; dsimp only; rw [hw1,if_neg (by omega),Int.add_sub_cancel]
 | bin x a b uX wk=>
  intro hw n h hn
  have Nw:kids x.op=2:=hw.1
  have hw1:fD x.op=2:=by
   unfold kids at Nw
   unfold fD
   split at Nw <;> (try split at Nw) <;> (try split at Nw) <;> repeat' split
   all_goals omega
  obtain ⟨h1,e1⟩:=uX hw.2.1 n h hn
  obtain ⟨h2,e2⟩:=wk hw.2.2 (n+1) h1 (by omega)
  refine ⟨max h2 (n+1),?_⟩
  show List.foldl KS (some (n,h)) (a.steps ns++b.steps ns++[(⟨x.op,numOf ns x⟩:nt)])=_
  rw [List.foldl_append,List.foldl_append,e1,e2]
  show KS (some (n+1+1,h2)) ⟨x.op,numOf ns x⟩=_
  unfold KS; dsimp only; rw [hw1,if_neg (by omega),show n+1+1 - 2+1=n+1 from by omega]
theorem Jz {k:Int} (h:kids k=0∨kids k=1∨kids k=2):1≤k∧k≤15:=by
 unfold kids at h
 repeat' split at h
 all_goals omega
theorem Ex.S4 (ns:List ByteArray) (t:Ex):t.wf→∀ o∈t.steps ns,∃ x∈t.flat,o=⟨x.op,numOf ns x⟩∧1≤x.op∧x.op≤15:=by
 induction t with
 | leaf x=>intro hw o ho; exact ⟨x,by simp [Ex.flat],by simpa [Ex.steps] using ho,Jz (.inl hw)⟩
 | un x a ih=>
  intro hw o ho
  have ho:o∈a.steps ns++[⟨x.op,numOf ns x⟩]:=ho
  rw [List.mem_append] at ho
  rcases ho with ho | ho
  ·obtain ⟨y,h1,h2⟩:=ih hw.2 o ho; exact ⟨y,by simp [Ex.flat,h1],h2⟩
  ·exact ⟨x,by simp [Ex.flat],by simpa using ho,Jz (.inr (.inl hw.1))⟩
 | bin x a b uX wk=>
  intro hw o ho
  have ho:o∈a.steps ns++b.steps ns++[⟨x.op,numOf ns x⟩]:=ho
  rw [List.mem_append,List.mem_append] at ho
  rcases ho with (ho | ho) | ho
  ·obtain ⟨y,h1,h2⟩:=uX hw.2.1 o ho; exact ⟨y,by simp [Ex.flat,h1],h2⟩
  ·obtain ⟨y,h1,h2⟩:=wk hw.2.2 o ho; exact ⟨y,by simp [Ex.flat,h1],h2⟩
  ·exact ⟨x,by simp [Ex.flat],by simpa using ho,Jz (.inr (.inr hw.1))⟩
theorem wT {ns:List ByteArray} {l:List cY} {many:Int} (hr:jG l=true) (hv:vv l ns=false) (hm:many=ns.length):eG (gk ns l) many=true∧(gk ns l).length≤40:=by
 have hr0:=hr
 unfold jG at hr
 simp only [Bool.and_eq_true,Bool.not_eq_true',decide_eq_true_eq,List.any_eq_false] at hr
 obtain ⟨⟨⟨h1,h2⟩,h3⟩,h4⟩:=hr
 obtain ⟨t,ht0⟩:=Option.isSome_iff_exists.1 h2
 obtain ⟨hw,Bd⟩:=yG ht0
 have hv0:=hv
 unfold vv at hv
 have he:yi ns l=0:=by unfold yi; rw [if_neg (by rw [hr0]; decide),if_neg (by rw [hv]; decide)]
 have hl:gk ns l=t.steps ns:=by unfold gk; rw [if_pos he]; unfold Nz; rw [ht0]
 rw [hl]
 have hlen:(t.steps ns).length≤40:=by rw [Ex.xl,← Ex.cJ,← Bd]; exact h1
 obtain ⟨h',e'⟩:=t.arO ns hw 0 0 (Int.le_refl _)
 have e2:ht (t.steps ns)=some (1,h'):=by unfold ht; rw [e']; rfl
 refine ⟨?_,hlen⟩
 unfold eG htN
 rw [e2]
 simp only [Option.isSome_some,decide_true,Bool.and_true,Bool.and_eq_true,decide_eq_true_eq,Bool.not_eq_true',List.any_eq_false]
 refine ⟨hlen,λ o ho=>?_⟩
 obtain ⟨x,hx,rfl,Tf,JF⟩:=t.S4 ns hw o ho
 rw [← Bd] at hx
 have XZ:=h3 x hx
 unfold oV at XZ
 simp only [Bool.or_eq_true,decide_eq_true_eq,not_or,Bool.and_eq_true,Bool.not_eq_true',not_and,Bool.not_eq_false] at XZ
 obtain ⟨⟨⟨⟨g1,g2⟩,g3⟩,g4⟩,g5⟩:=XZ
 have hn:Ex.numOf ns x=if x.op=2 then dR ns x.name else x.n:=rfl
 unfold sy
 simp only [decide_eq_true_eq]
 rintro (⟨q1,q2⟩ | ⟨q1,q2⟩ | ⟨q1,q2,q3⟩)
 ·have q1:x.op=1:=q1
  rw [hn,if_neg (by omega)] at q2; omega
 ·have q1:x.op=2:=q1
  rw [hn,if_pos q1] at q2
  rw [List.any_eq_false] at hv
  have:=hv x hx
  simp only [Bool.and_eq_true,decide_eq_true_eq,not_and] at this
  have h5:=this q1
  have h6:=AS (ns:=ns) (s:=x.name) (by omega)
  omega
 ·have q1:¬ x.op=1:=q1
  have q2:¬ x.op=2:=q2
  rw [hn,if_neg q2] at q3
  have:=g2
  omega
theorem arQ {k:Int} (h:1≤k∧k≤14):ej (ke k) 101=decide (k=1∨k=3∨k=4∨k=11∨k=14)∧ej (ke k) 102=decide (k=4)∧ej (ke k) 114=decide (k=1∨k=2∨k=4)∧ej (ke k) 110=decide (k=2∨k=3∨k=4∨k=5∨k=6∨k=9∨k=10):=by
 obtain rfl | rfl | rfl | rfl | rfl | rfl | rfl | rfl | rfl | rfl | rfl | rfl | rfl | rfl:k=1∨k=2∨k=3∨k=4∨k=5∨k=6∨k=7∨k=8∨k=9∨k=10∨k=11∨k=12∨k=13∨k=14:=by omega
 all_goals decide
structure arR (x:cE):Prop where
 kind:1≤x.kind∧x.kind≤14
 e1:x.kind=1∨x.kind=3∨x.kind=4∨x.kind=11∨x.kind=14→jG x.e=true
 e0:¬ (x.kind=1∨x.kind=3∨x.kind=4∨x.kind=11∨x.kind=14)→x.e=[]
 f1:x.kind=4→jG x.f=true
 f0:¬ x.kind=4→x.f=[]
 r1:x.kind=1∨x.kind=2∨x.kind=4→j6 x.gM=true
 r0:¬ (x.kind=1∨x.kind=2∨x.kind=4)→x.gM=⟨#[]⟩
theorem aza {x:cE} (h:rA x=true):arR x:=by
 have h:=Bp h
 obtain ⟨g1,g2,g3,g4⟩:=arQ h.kind
 refine ⟨h.kind,λ hk=>?_,λ hk=>?_,λ hk=>?_,λ hk=>?_,λ hk=>?_,λ hk=>?_⟩
 ·rcases h.e with q | q
  ·exact q.2
  ·rw [g1,decide_eq_true hk] at q; exact absurd q.1 (by decide)
 ·rcases h.e with q | q
  ·rw [g1,decide_eq_false hk] at q; exact absurd q.1 (by decide)
  ·exact q.2
 ·rcases h.f with q | q
  ·exact q.2
  ·rw [g2,decide_eq_true hk] at q; exact absurd q.1 (by decide)
 ·rcases h.f with q | q
  ·rw [g2,decide_eq_false hk] at q; exact absurd q.1 (by decide)
  ·exact q.2
 ·rcases h.gM with q | q
  ·exact q.2
  ·rw [g3,decide_eq_true hk] at q; exact absurd q.1 (by decide)
 ·rcases h.gM with q | q
  ·rw [g3,decide_eq_false hk] at q; exact absurd q.1 (by decide)
  ·exact q.2
theorem Hy (ns:List ByteArray):gk ns []=[]:=by
 unfold gk; split
 ·rfl
 ·rfl
theorem C2:∀ (ls:List (List dH)) (i a:Int),0≤a→(∀ l∈ls,l≠[])→i≤iC ls i a∧(∀ b,a≤b→iC ls i a≤iC ls i b)∧(iC ls i (a+1)=iC ls i a∨iC ls i (a+1)=iC ls i a+1)
 | [],i,a,ha,_=>⟨by unfold iC; omega,λ b hb=>by unfold iC; omega,by unfold iC; omega⟩
 | l::r,i,a,ha,hl=>by
  have A1:0<l.length:=List.length_pos_iff.2 (hl l (List.mem_cons_self ..))
  have hr:=λ l Df=>hl l (List.mem_cons_of_mem _ Df)
  unfold iC
  by_cases h1:a<l.length
  ·rw [if_pos h1]
   refine ⟨Int.le_refl _,λ b hb=>?_,?_⟩
   ·split
    ·exact Int.le_refl _
    ·have:=(C2 r (i+1) (b - l.length) (by omega) hr).1; omega
   ·split
    ·exact .inl rfl
    ·have e:a+1 - (l.length:Int)=0:=by omega
     rw [e]
     cases r with
     | nil=>unfold iC; omega
     | cons l2 r2=>
      have hne2:0<l2.length:=List.length_pos_iff.2 (hr l2 (List.mem_cons_self ..))
      unfold iC; rw [if_pos (by omega)]; exact .inr rfl
  ·rw [if_neg h1]
   obtain ⟨g1,g2,g3⟩:=C2 r (i+1) (a - l.length) (by omega) hr
   refine ⟨by omega,λ b hb=>?_,?_⟩
   ·rw [if_neg (by omega)]; exact g2 _ (by omega)
   ·rw [if_neg (by omega),show a+1 - (l.length:Int)=a - l.length+1 from by omega]; exact g3
theorem C4:∀ (ls:List (List dH)) (i a:Int),(ls.flatten.length:Int)≤a→iC ls i a=i+ls.length+(a - ls.flatten.length)
 | [],i,a,_=>by unfold iC; simp
 | l::r,i,a,ha=>by
  have e:(((l::r).flatten).length:Int)=l.length+r.flatten.length:=by simp
  unfold iC
  rw [if_neg (by omega),C4 r (i+1) (a - l.length) (by omega),e]
  simp only [List.length_cons]
  omega
theorem Rv:∀ (ls:List (List dH)) (i a:Int),0≤a→a<ls.flatten.length→iC ls i a<i+ls.length
 | [],i,a,h0,ha=>by simp at ha; omega
 | l::r,i,a,h0,ha=>by
  have e:(((l::r).flatten).length:Int)=l.length+r.flatten.length:=by simp
  unfold iC
  split
  ·simp only [List.length_cons]; omega
  ·have:=Rv r (i+1) (a - l.length) (by omega) (by omega)
   simp only [List.length_cons]; omega
section
variable {p:cO}
theorem Hz (p:cO):(en p).lines.length=(gK p).length:=by show ((List.range _).map _).length=_; rw [List.length_map,List.length_range]
theorem Fo {i:Nat} (h:i<(gK p).length):(en p).lines[i]? = some (mh p i):=by
 show ((List.range _).map _)[i]? = _
 rw [List.getElem?_map,List.getElem?_range h]; rfl
theorem yM.pf (h:yM p):PF p:=wx h.right
theorem yM.sz (h:yM p):p.lines.length≤4∧(∀ l∈p.lines,l.length≤4)∧p.jX.length≤4∧p.locks.length≤2∧1≤p.threads.length∧p.threads.length≤3∧p.cB.length≤4∧∀ t∈iG p,t.aK.length≤4:=by
 have hb:=h.big
 unfold zZ at hb
 simp only [Bool.or_eq_false_iff,decide_eq_false_iff_not,List.any_eq_false,decide_eq_true_eq] at hb
 obtain ⟨⟨h1,h2⟩,⟨⟨⟨⟨⟨h3,h4⟩,h5⟩,h6⟩,h7⟩,h8⟩⟩:=hb
 exact ⟨by omega,λ l hl=>by have:=h1 l hl; omega,by omega,by omega,by omega,by omega,by omega,λ t ht=>by have:=h2 t ht; omega⟩
theorem Mz:∀ {ls:List (List dH)},(∀ l∈ls,l.length≤4)→ls.flatten.length≤4 * ls.length
 | [],_=>by simp
 | l::r,h=>by
  have h1:=h l (List.mem_cons_self ..)
  have h2:=Mz (ls:=r) λ l hl=>h l (List.mem_cons_of_mem _ hl)
  rw [List.flatten_cons,List.length_append,List.length_cons]; omega
theorem yM.gK (h:yM p):(gK p).length≤20:=by
 obtain ⟨h1,h2,h3,_⟩:=h.sz
 have:=Mz h2
 unfold Go.Proofs.YtnjcingfdhjfkaaGreat.gK
 rw [List.length_append]; omega
theorem Fp (p:cO):0≤eo p∧eo p≤(gK p).length:=by unfold eo gK; rw [List.length_append]; omega
theorem wU {c:Int} (h:0≤c∧c<(gK p).length):mh p c=iC p.lines 0 c:=by unfold mh; rw [if_neg (by omega)]
theorem S5 (h:yM p) {c:Int} (hc:0≤c∧c<eo p):0≤mh p c∧mh p c<gu (en p):=by
 have hs:=Fp p
 have A1:=λ l hl=>(h.pf.lines l hl).1
 obtain ⟨g1,g2,_⟩:=C2 p.lines 0 c hc.1 A1
 rw [wU (by omega)]
 refine ⟨g1,?_⟩
 have g3:=g2 (eo p - 1) (by omega)
 have e:gu (en p)=iC p.lines 0 (eo p - 1)+1:=by
  unfold gu
  rw [Hz]
  show (if 1≤eo p∧eo p≤((Go.Proofs.YtnjcingfdhjfkaaGreat.gK p).length:Int) then (en p).lines.getD (eo p - 1).toNat 0+1 else 0)=_
  rw [if_pos (by omega),List.getD_eq_getElem?_getD,Fo (by omega)]
  show mh p ((eo p - 1).toNat:Nat)+1=_
  rw [show (((eo p - 1).toNat:Nat):Int)=eo p - 1 from by omega,wU (by omega)]
 omega
theorem O7 (h:yM p) {i:Nat} (hi:i<(gK p).length):kh (en p) i=false:=by
 have A1:=λ l hl=>(h.pf.lines l hl).1
 have hs:=Fp p
 unfold kh
 rw [Fo hi]
 dsimp only
 by_cases h0:i=0
 ·subst h0
  have e:mh p (0:Nat)=0:=by
   rw [wU (by omega)]
   cases hl:p.lines with
   | nil=>unfold iC; rfl
   | cons l r=>
    have:=List.length_pos_iff.2 (A1 l (by rw [hl]; exact List.mem_cons_self ..))
    unfold iC; rw [if_pos (by omega)]
  rw [e]
  have e2:lD (en p).lines 0=0:=rfl
  rw [e2]; rfl
 ·have e2:lD (en p).lines i=mh p ((i - 1:Nat):Int)+1:=by
   unfold lD; rw [if_neg h0,List.getD_eq_getElem?_getD,Fo (by omega)]; rfl
  rw [e2,wU (by omega),wU (by omega)]
  obtain ⟨_,_,g3⟩:=C2 p.lines 0 ((i - 1:Nat):Int) (by omega) A1
  rw [show ((i - 1:Nat):Int)+1=(i:Int) from by omega] at g3
  by_cases gb:(i:Int)<eo p
  ·rcases g3 with g3 | g3
   ·rw [g3]
    have e3:decide ((en p).stays≤(i:Int))=false:=decide_eq_false (by show ¬ eo p≤_; omega)
    rw [e3,decide_eq_false h0]
    simp
   ·rw [g3]; simp
  ·have hlen:(p.lines.flatten.length:Int)=eo p:=rfl
   by_cases FU:((i - 1:Nat):Int)<eo p
   ·have hi2:(i:Int)=eo p:=by omega
    have q1:=C4 p.lines 0 i (by omega)
    have q2:=Rv p.lines 0 ((i - 1:Nat):Int) (by omega) (by omega)
    have:iC p.lines 0 i=iC p.lines 0 ((i - 1:Nat):Int)+1:=by omega
    rw [this]; simp
   ·have q1:=C4 p.lines 0 i (by omega)
    have q2:=C4 p.lines 0 ((i - 1:Nat):Int) (by omega)
    have:iC p.lines 0 i=iC p.lines 0 ((i - 1:Nat):Int)+1:=by omega
    rw [this]; simp
end
theorem O8 {ns:List ByteArray} (h:∀ s∈ns,j6 s=true):dR ns ⟨#[]⟩ = -1:=ku λ y hy=>decide_eq_false (My (h y hy))
structure StK (p:cO) (rs:List ByteArray) (x:cE):Prop where
 fit:arR x
 rg:∀ s∈rs,j6 s=true
 nb:om p rs x=false
section
variable {p:cO} {rs:List ByteArray} {x:cE} {c:fm}
theorem arS (h:StK p rs x) (hc:c.aK=rs.length) (hk:x.kind=1∨x.kind=3∨x.kind=4∨x.kind=11∨x.kind=14):eG (gk rs x.e) c.aK=true:=by
 have hb:=h.nb; unfold om at hb; simp only [Bool.or_eq_false_iff] at hb
 exact (wT (h.fit.e1 hk) hb.1.2 hc).1
theorem azb (h:StK p rs x) (hc:c.aK=rs.length) (hk:x.kind=4):eG (gk rs x.f) c.aK=true:=by
 have hb:=h.nb; unfold om at hb; simp only [Bool.or_eq_false_iff] at hb
 exact (wT (h.fit.f1 hk) hb.2 hc).1
theorem adD (hp:yM p) (h:StK p rs x) (hc:c.aK=rs.length) (hk:¬ x.kind=11) (JF:¬ x.kind=12) (hk3:¬ x.kind=13) :
  ve (lK p rs x) c (gK p).length (gu (en p)) p.locks.length=true∧(lK p rs x).to=0∧¬ (lK p rs x).kind=11∧¬ (lK p rs x).kind=12∧¬ (lK p rs x).kind=13∧¬ (lK p rs x).kind=14:=by
 have hkd:=h.fit.kind
 have mU:(lK p rs x).kind=if x.kind=14 then 15 else x.kind:=rfl
 have hka:¬ (lK p rs x).kind=11∧¬ (lK p rs x).kind=12∧¬ (lK p rs x).kind=13∧¬ (lK p rs x).kind=14∧1≤(lK p rs x).kind∧(lK p rs x).kind≤15:=by rw [mU]; split <;> omega
 refine ⟨?_,rfl,hka.1,hka.2.1,hka.2.2.1,hka.2.2.2.1⟩
 have hb:=h.nb; unfold om at hb
 simp only [Bool.or_eq_false_iff,Bool.and_eq_false_iff,decide_eq_false_iff_not,not_or,Decidable.not_not] at hb
 obtain ⟨⟨⟨⟨⟨b1,b2⟩,b3⟩,b4⟩,b5⟩,b6⟩:=hb
 have hE:(if sG (lK p rs x).kind=true then eG (lK p rs x).e c.aK else !decide (0<((lK p rs x).e.length:Int)))=true:=by
  by_cases hq:x.kind=1∨x.kind=3∨x.kind=4∨x.kind=11∨x.kind=14
  ·have A1:sG (lK p rs x).kind=true:=by
    unfold sG; rw [mU]
    split
    ·rfl
    ·simp only [Bool.or_eq_true,decide_eq_true_eq]; omega
   rw [if_pos A1]; exact arS h hc hq
  ·have A1:¬ sG (lK p rs x).kind=true:=by
    unfold sG; rw [mU,if_neg (by omega)]
    simp only [Bool.or_eq_true,decide_eq_true_eq]; omega
   rw [if_neg A1]
   have:(lK p rs x).e=[]:=by show gk rs x.e=[]; rw [h.fit.e0 hq,Hy]
   rw [this]; rfl
 have hF:(if (lK p rs x).kind=4 then eG (lK p rs x).f c.aK else !decide (0<((lK p rs x).f.length:Int)))=true:=by
  by_cases hq:x.kind=4
  ·rw [if_pos (by rw [mU]; split <;> omega)]; exact azb h hc hq
  ·rw [if_neg (by rw [mU]; split <;> omega)]
   have:(lK p rs x).f=[]:=by show gk rs x.f=[]; rw [h.fit.f0 hq,Hy]
   rw [this]; rfl
 have hA:aM (lK p rs x) c.aK c.counts=true:=by
  unfold aM
  rw [if_neg (by omega)]
  have ea:(lK p rs x).a=max 0 (dR rs x.gM):=rfl
  by_cases hq:x.kind=1∨x.kind=2∨x.kind=4
  ·rw [if_pos (by rw [mU]; split <;> omega),ea]
   have A1:=My (h.fit.r1 hq)
   have:¬ dR rs x.gM<0:=by
    rcases b1 with b1 | b1
    ·exact absurd b1 A1
    ·exact b1
   have h2:=AS (ns:=rs) (s:=x.gM) (by omega)
   unfold LH; simp only [Bool.and_eq_true,decide_eq_true_eq]; omega
  ·rw [if_neg (by rw [mU]; split <;> omega),ea,h.fit.r0 hq,O8 h.rg]; rfl
 have hB:bM (lK p rs x) (gK p).length (gu (en p)) p.locks.length=true:=by
  unfold bM
  have eb:(lK p rs x).b=if x.kind=2∨x.kind=3∨x.kind=4 then dR (fb p) x.name else if x.kind=5∨x.kind=6 then mh p (dR (fb p) x.name) else if x.kind=9∨x.kind=10 then dR (ie p) x.name else 0:=rfl
  have Qs:(fb p).length=(gK p).length:=by unfold fb; rw [List.length_map]
  have Ny:(ie p).length=p.locks.length:=by unfold ie; rw [List.length_map]
  by_cases q1:x.kind=2∨x.kind=3∨x.kind=4
  ·rw [if_pos (by rw [mU]; split <;> omega),eb,if_pos q1]
   have h1:¬ dR (fb p) x.name<0:=by
    rcases b2 with b2 | b2
    ·omega
    ·exact b2
   have h2:=AS (ns:=fb p) (s:=x.name) (by omega)
   unfold LH; simp only [Bool.and_eq_true,decide_eq_true_eq]; omega
  ·rw [if_neg (by rw [mU]; split <;> omega)]
   by_cases q2:x.kind=5∨x.kind=6
   ·rw [if_pos (by rw [mU]; split <;> omega),eb,if_neg q1,if_pos q2]
    have h1:¬ dR (fb p) x.name<0∧¬ eo p≤dR (fb p) x.name:=by
     rcases b3 with b3 | b3
     ·omega
     ·exact b3
    have:=S5 hp (c:=dR (fb p) x.name) (by omega)
    unfold LH; simp only [Bool.and_eq_true,decide_eq_true_eq]; omega
   ·rw [if_neg (by rw [mU]; split <;> omega)]
    by_cases q3:x.kind=9∨x.kind=10
    ·rw [if_pos (by rw [mU]; split <;> omega),eb,if_neg q1,if_neg q2,if_pos q3]
     have h1:¬ dR (ie p) x.name<0:=by
      rcases b4 with b4 | b4
      ·omega
      ·exact b4
     have h2:=AS (ns:=ie p) (s:=x.name) (by omega)
     unfold LH; simp only [Bool.and_eq_true,decide_eq_true_eq]; omega
    ·rw [if_neg (by rw [mU]; split <;> omega),if_neg hka.2.2.1,eb,if_neg q1,if_neg q2,if_neg q3]; rfl
 unfold ve efM
 rw [hE,hF,hA,hB,decide_eq_true hka.2.2.2.2.1,decide_eq_true hka.2.2.2.2.2]; rfl
end
end Go.Proofs.YtnjcingfdhjfkaaGreat
