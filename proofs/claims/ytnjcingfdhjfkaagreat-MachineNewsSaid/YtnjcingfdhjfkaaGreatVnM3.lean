/-
  Part 3.
-/
import Derived.Test.YtnjcingfdhjfkaaGreatVnM2
set_option linter.all false
set_option maxHeartbeats 8000000
set_option maxRecDepth 100000
namespace Go.Proofs.YtnjcingfdhjfkaaGreat
open Go.Fw
def Ce (n many:Int):Bool:=decide (0<=n) && decide (n<many)
def mS (k:Int):Bool:=decide (k=1) || decide (k=3) || decide (k=4) || decide (k=12) || decide (k=15)
def aM (x:aV) (aG counts:Int):Bool:=if x.kind=13\/x.kind=14 then Ce x.a counts else if x.kind=1\/x.kind=2\/x.kind=4 then Ce x.a aG else decide (x.a=0)
def bM (x:aV) (cells lines locks:Int):Bool:=if x.kind=2\/x.kind=3\/x.kind=4 then Ce x.b cells else if x.kind=5\/x.kind=6 then Ce x.b lines else if x.kind=9\/x.kind=10 then Ce x.b locks else if x.kind=13 then decide (1<=x.b) && decide (x.b<=8) else decide (x.b=0)
def tD (x:aV) (aG:Int):Bool:=(if mS x.kind=true then cW x.e aG else !decide (0<(x.e.length:Int))) && (if x.kind=4 then cW x.f aG else !decide (0<(x.f.length:Int)))
def pG (x:aV) (c:dK) (cells lines locks:Int):Bool:=tD x c.aG && (decide (1<=x.kind) && decide (x.kind<=15) && aM x c.aG c.counts && bM x cells lines locks)
def il (y:aV) (a:Int):Bool:=decide (y.kind=13) && decide (y.a=a)
def Ic (l:List aV) (i:Nat) (x:aV):Bool:=decide (1<=x.to) && decide (x.to<=i) && (match l[(x.to - 1).toNat]? with | some y=>il y x.a | none=>false)
theorem AW {l:List aV} {i:Nat} {x y:aV} (h1:1<=x.to) (h2:x.to<=i) (h:l[(x.to - 1).toNat]? = some y):Ic l i x=il y x.a:=by unfold Ic; rw [h,decide_eq_true h1,decide_eq_true h2]; rfl
theorem rM {l:List aV} {i:Nat} {x:aV} (h:x.to<1\/(i:Int)<x.to):Ic l i x=false:=by
 unfold Ic
 rcases h with h | h
 ·rw [decide_eq_false (show ¬ 1<=x.to by omega)]; rfl
 rw [decide_eq_false (show ¬ x.to<=(i:Int) by omega)]; simp
theorem Ro {l:List aV} {i:Nat} {x:aV} (h:Ic l i x=true):1<=x.to/\x.to<=i:=by
 by_cases h1:x.to<1\/(i:Int)<x.to
 ·rw [rM h1] at h; cases h
 omega
def pW (l:List aV) (i:Nat) (x:aV):Bool:=Ic l i x && !((l.take i).drop x.to.toNat).any (λ y=>il y x.a)
def wO (l:List aV) (i:Nat) (x:aV):Bool:=if x.kind=11\/x.kind=12 then decide ((i:Int)<x.to) && decide (x.to<=l.length) else if x.kind=14 then pW l i x else decide (x.to=0)
def mr (c:dK) (cells lines locks:Int) (i:Nat):Bool:=match c.l[i]? with | some x=>!pG x c cells lines locks || !wO c.l i x | none=>false
def kG (l:List aV) (x:aV) (k:Nat):Bool:=match l[k]? with | some y=>decide (y.kind=14) && !(decide (x.to<=y.to) || decide ((k:Int)+1<x.to)) | none=>false
def jI (l:List aV) (i:Nat):Bool:=match l[i]? with | some x=>decide (x.kind=14) && (List.range i).any (kG l x) | none=>false
def kH (c:dK):Bool:=decide (c.aG<0) || decide (4<c.aG) || decide (c.counts<0) || decide (12<c.counts)
def gm (c:dK) (cells lines locks:Int):Bool:=!kH c && !(List.range c.l.length).any (mr c cells lines locks) && !(List.range c.l.length).any (jI c.l)
def fP (u:eh):Int:=if 1<=u.stays/\u.stays<=u.lines.length then u.lines.getD (u.stays - 1).toNat 0+1 else 0
def fN (l:List Int) (i:Nat):Int:=if i=0 then 0 else l.getD (i - 1) 0+1
def fZ (u:eh) (i:Nat):Bool:=match u.lines[i]? with | some n=>decide (¬ n=fN u.lines i) && (decide (i=0) || decide (u.stays<=i) || decide (¬ n=fN u.lines i - 1)) | none=>false
def fI (n:Int):Bool:=decide (n<0) || decide (4294967296<n)
def eR (u:eh):Bool:=decide (20<(u.lines.length:Int)) || decide (u.stays<0) || decide ((u.lines.length:Int)<u.stays) || decide (¬ (u.bP.length:Int)=u.lines.length) || decide (u.locks<0) || decide (2<u.locks) || decide ((u.threads.length:Int)<1) || decide (3<(u.threads.length:Int))
def dU (u:eh):Bool:=!eR u && (!u.bP.any fI && !(List.range u.lines.length).any (fZ u) && !u.threads.any (λ c=>!gm c u.lines.length (fP u) u.locks) && !u.bU.any (λ l=>!cW l u.stays) && gm u.recover u.lines.length (fP u) u.locks)
structure CZ (c:dK):Prop where
 l:c.l.length<=1000
 ef:∀ x∈c.l,x.e.length<=1000/\x.f.length<=1000
structure UZ (u:eh):Prop where
 lines:u.lines.length<=1000
 bP:u.bP.length<=1000
 threads:u.threads.length<=1000
 bU:u.bU.length<=1000
 th:∀ c∈u.threads,CZ c
 rc:CZ u.recover
 cl:∀ l∈u.bU,l.length<=1000
theorem jJ {c:dK} {cells lines locks:Int} {i:Nat} {x:aV} (h:c.l[i]? = some x):mr c cells lines locks i=(!pG x c cells lines locks || !wO c.l i x):=by unfold mr; rw [h]
theorem lK {l:List aV} {x y:aV} {k:Nat} (h:l[k]? = some y):kG l x k=(decide (y.kind=14) && !(decide (x.to<=y.to) || decide ((k:Int)+1<x.to))):=by unfold kG; rw [h]
theorem lh {l:List aV} {i:Nat} {x:aV} (h:l[i]? = some x):jI l i=(decide (x.kind=14) && (List.range i).any (kG l x)):=by unfold jI; rw [h]
theorem Mh {l:List aV} {i:Nat} {x:aV} (h:pW l i x=true):1<=x.to/\x.to<=i:=by unfold pW at h; rw [Bool.and_eq_true] at h; exact Ro h.1
theorem sS {l:List aV} {i:Nat} {x:aV} (hk:x.kind=14) (h:wO l i x=true):1<=x.to/\x.to<=i:=by
 unfold wO at h; rw [if_neg (by omega),if_pos hk] at h; exact Mh h
theorem AX {l:List aV} {i:Nat} {x:aV} (h:Ic l i x=false):pW l i x=false:=by unfold pW; rw [h]; rfl
theorem Fu {α:Type} {l:List α} {k t:Nat} {e:α} (h:l[k]? = some e) (ht:t<=k):(l.take (k+1)).drop t=(l.take k).drop t++[e]:=by
 have hk:=(List.getElem?_eq_some_iff.1 h).1
 rw [<- gz h,List.drop_append_of_le_length (by rw [List.length_take]; omega)]
theorem lj {f:Nat->Bool} {n:Nat} (h:(List.range n).any f=false):∀ j,j<n->f j=false:=λ j hj=>by
 rw [List.any_eq_false] at h
 have:=h j (List.mem_range.2 hj)
 simpa using this
theorem sT {u:eh} {k:Nat} (h:∀ j,j<k->fZ u j=false):∀ j n,j<k->u.lines[j]? = some n->-1<=n/\n<=j
 | 0,n,hj,hn=>by
  have:=h 0 hj
  unfold fZ fN at this
  rw [hn] at this
  simp at this
  omega
 | j+1,n,hj,hn=>by
  have fS:=(List.getElem?_eq_some_iff.1 hn).1
  obtain ⟨m,hm⟩:∃ m,u.lines[j]? = some m:=⟨_,List.getElem?_eq_getElem (by omega)⟩
  have ih:=sT h j m (by omega) hm
  have:=h (j+1) hj
  unfold fZ fN at this
  rw [hn] at this
  simp only [Nat.add_one_ne_zero,if_false,Nat.add_sub_cancel,List.getD_eq_getElem?_getD,hm,Option.getD_some,decide_false,Bool.false_or,Bool.and_eq_false_iff,decide_eq_false_iff_not,Bool.or_eq_false_iff,Decidable.not_not] at this
  omega
def iG (a i b k:Int):Bool:=(decide (b<=a) && decide (i<=k)) || (decide (a<=b) && decide (k<=i)) || decide (i<b) || decide (k<a)
theorem Mi {l:List aV} {i k:Nat} {t a:Int} {y:aV} (h:l[k]? = some y) (h1:t.toNat<=k) (h2:k<i) (hc:il y a=true):((l.take i).drop t.toNat).any (λ y=>il y a)=true:=by
 refine List.any_eq_true.2 ⟨y,List.mem_iff_getElem?.2 ⟨k - t.toNat,?_⟩,hc⟩
 rw [List.getElem?_drop,List.getElem?_take,if_pos (by omega),show t.toNat+(k - t.toNat)=k from by omega,h]
theorem Ie {α:Type} {l:List α} {e:α} {f:α->Bool} (h:l.any f=false) (h2:f e=false):(l++[e]).any f=false:=by rw [List.any_append,h]; simp [h2]
theorem C227 (n many:Int) (w:World):CR 227 [.int .i64 n,.int .i64 many] w (λ v w'=>v = .bool (Ce n many)/\Ext w w'):=by
 have hs:=St.start w;refine jT Tryz.func227 ?_;refine ⟨λ jv w'=>jv = .bool (Ce n many)/\St w aZ [] w',cY (aC (λ _=>aN ⟨vb (by unfold Ce; grind),hs⟩) (λ _=>⟨vb (by unfold Ce; grind),hs⟩)),?_⟩;rintro _ _ ⟨rfl,hs⟩ _;exact ⟨rfl,hs.aD⟩
theorem C199 (a i b k:Int) (w:World):CR 199 [.int .i64 a,.int .i64 i,.int .i64 b,.int .i64 k] w (λ v w'=>v = .bool (iG a i b k)/\Ext w w'):=by
 have hs:=St.start w;refine jT Tryz.func199 ?_;refine ⟨λ jv w'=>jv = .bool (iG a i b k)/\St w aZ [] w',?_,?_⟩
 ·refine cY (aC (λ _=>fW (aC (λ _=>⟨vb (by unfold iG; grind),hs⟩) (λ _=>cY (aC (λ _=>fW (aC (λ _=>⟨vb (by unfold iG; grind),hs⟩) (λ _=>aN (aC (λ _=>⟨vb (by unfold iG; grind),hs⟩) (λ _=>aN ⟨vb (by unfold iG; grind),hs⟩))))) (λ _=>aN (aC (λ _=>⟨vb (by unfold iG; grind),hs⟩) (λ _=>aN ⟨vb (by unfold iG; grind),hs⟩))))))) (λ ik=>?_));exact cY (aC (λ _=>fW (aC (λ _=>⟨vb (by unfold iG; grind),hs⟩) (λ _=>aN (aC (λ _=>⟨vb (by unfold iG; grind),hs⟩) (λ _=>aN ⟨vb (by unfold iG; grind),hs⟩))))) (λ _=>aN (aC (λ _=>⟨vb (by unfold iG; grind),hs⟩) (λ _=>aN ⟨vb (by unfold iG; grind),hs⟩))))
 rintro _ _ ⟨rfl,hs⟩ _;exact ⟨rfl,hs.aD⟩
theorem C197 (x:aV) (xv:aX) (c:dK) (cv:aT) (cells lines locks:Int) (w:World) (hx:Deep.dr w xv x) (hc:Deep.dr w cv c) (hef:x.e.length<=1000/\x.f.length<=1000):CR 197 [Flat.val xv,Flat.val cv,.int .i64 cells,.int .i64 lines,.int .i64 locks] w (λ v w'=>v = .bool (pG x c cells lines locks)/\Ext w w'):=by
 obtain ⟨xM,xN,rfl,OB,tG⟩:=hx;obtain ⟨fp,rfl,lL⟩:=hc;have hs:=St.start w;refine Cs Tryz.func197 (pl:=acd) ?_;refine dY hs (λ kJ _ hs=>dY hs (λ Fv _ hs=>aA cR (aB (v:=.int .i64 ((x).kind)) bK hs.p1.hb rfl (aA eo (have hs:=hs.drew;aB (v:=.int .i64 ((x).a)) bK hs.p1.hb rfl (aF (aA fo (aB (v:=.int .i64 ((x).b)) bK hs.p1.hb rfl (aF ⟨λ jv w'=>jv = .bool (mS x.kind)/\St w aZ [cZ Fv (Flat.enc (⟨(c).aG,(c).counts,fp⟩:aT)),cZ kJ (Flat.enc (⟨(x).kind,(x).a,(x).b,xM,xN,(x).to⟩:aX))] w',aF (aC (λ _=>⟨vb (by unfold mS; grind),hs⟩) (λ _=>aF (aC (λ _=>⟨vb (by unfold mS; grind),hs⟩) (λ _=>aF (aC (λ _=>⟨vb (by unfold mS; grind),hs⟩) (λ _=>aF (aC (λ _=>⟨vb (by unfold mS; grind),hs⟩) (λ _=>aF ⟨vb (by unfold mS; grind),hs⟩)))))))),?_⟩)))))))))
 rintro _ w3 ⟨rfl,hs⟩ _;refine ⟨λ jv w'=>jv = .bool (if x.kind=1\/x.kind=2\/x.kind=4 then Ce x.a c.aG else decide (x.a=0))/\St w aZ [cZ Fv (Flat.enc (⟨(c).aG,(c).counts,fp⟩:aT)),cZ kJ (Flat.enc (⟨(x).kind,(x).a,(x).b,xM,xN,(x).to⟩:aX))] w',⟨λ jv w'=>jv = .bool (decide (x.kind=1\/x.kind=2\/x.kind=4))/\w3=w',aF (aC (λ _=>⟨Gn (by omega),rfl⟩) (λ _=>aF (aC (λ _=>⟨Gn (by omega),rfl⟩) (λ _=>aF ⟨Ab (by omega),rfl⟩)))),?_⟩,?_⟩
 ·rintro _ _ ⟨rfl,hw⟩ _;subst hw;exact aC (λ _=>aA eo (aB (v:=.int .i64 ((x).a)) bK hs.p1.hb rfl (aA gu (aB (v:=.int .i64 ((c).aG)) bK hs.hb rfl (bF Ae hs (C227 _ _ _) (λ _ _ hs=>⟨vb (by grind),hs⟩)))))) (λ _=>⟨vb (by grind),hs⟩)
 rintro _ w6 ⟨rfl,hs⟩ _;refine ⟨λ jv w'=>jv = .bool (aM x c.aG c.counts)/\St w aZ [cZ Fv (Flat.enc (⟨(c).aG,(c).counts,fp⟩:aT)),cZ kJ (Flat.enc (⟨(x).kind,(x).a,(x).b,xM,xN,(x).to⟩:aX))] w',⟨λ jv w'=>jv = .bool (decide (x.kind=13\/x.kind=14))/\w6=w',aF (aC (λ _=>⟨Gn (by omega),rfl⟩) (λ _=>aF ⟨Ab (by omega),rfl⟩)),?_⟩,?_⟩
 ·rintro _ _ ⟨rfl,hw⟩ _;subst hw;exact aC (λ _=>aA eo (aB (v:=.int .i64 ((x).a)) bK hs.p1.hb rfl (aA kT (aB (v:=.int .i64 ((c).counts)) bK hs.hb rfl (bF Ae hs (C227 _ _ _) (λ _ _ hs=>⟨vb (by unfold aM; grind),hs⟩)))))) (λ _=>⟨vb (by unfold aM; grind),hs⟩)
 rintro _ w9 ⟨rfl,hs⟩ _;refine ⟨λ jv w'=>jv = .bool (bM x cells lines locks)/\St w aZ [cZ Fv (Flat.enc (⟨(c).aG,(c).counts,fp⟩:aT)),cZ kJ (Flat.enc (⟨(x).kind,(x).a,(x).b,xM,xN,(x).to⟩:aX))] w',⟨λ jv w'=>jv = .bool (decide (x.kind=2\/x.kind=3\/x.kind=4))/\w9=w',aF (aC (λ _=>⟨Ab (by omega),rfl⟩) (λ _=>aF (aC (λ _=>⟨Ab (by omega),rfl⟩) (λ _=>aF ⟨Ab (by omega),rfl⟩)))),?_⟩,?_⟩
 ·rintro _ _ ⟨rfl,hw⟩ _;subst hw;refine aC (λ _=>aA fo (aB (v:=.int .i64 ((x).b)) bK hs.p1.hb rfl (bF Ae hs (C227 _ _ _) (λ _ _ hs=>⟨vb (by unfold bM; grind),hs⟩)))) (λ c_x68=>⟨λ jv w'=>jv = .bool (decide (x.kind=5\/x.kind=6))/\w9=w',aF (aC (λ _=>⟨Ab (by omega),rfl⟩) (λ _=>aF ⟨Ab (by omega),rfl⟩)),?_⟩);rintro _ _ ⟨rfl,hw⟩ _;subst hw;refine aC (λ _=>aA fo (aB (v:=.int .i64 ((x).b)) bK hs.p1.hb rfl (bF Ae hs (C227 _ _ _) (λ _ _ hs=>⟨vb (by unfold bM; grind),hs⟩)))) (λ Ol=>⟨λ jv w'=>jv = .bool (decide (x.kind=9\/x.kind=10))/\w9=w',aF (aC (λ _=>⟨Ab (by omega),rfl⟩) (λ _=>aF ⟨Ab (by omega),rfl⟩)),?_⟩)
  rintro _ _ ⟨rfl,hw⟩ _;subst hw;exact aC (λ _=>aA fo (aB (v:=.int .i64 ((x).b)) bK hs.p1.hb rfl (bF Ae hs (C227 _ _ _) (λ _ _ hs=>⟨vb (by unfold bM; grind),hs⟩)))) (λ _=>aF (aC (λ _=>aA fo (aB (v:=.int .i64 ((x).b)) bK hs.p1.hb rfl (cY (aC (λ _=>aA fo (aB (v:=.int .i64 ((x).b)) bK hs.p1.hb rfl (fW ⟨vb (by unfold bM; grind),hs⟩))) (λ _=>⟨vb (by unfold bM; grind),hs⟩))))) (λ _=>⟨vb (by unfold bM; grind),hs⟩)))
 rintro _ _ ⟨rfl,hs⟩ _;refine ⟨λ jv w'=>jv = .bool (!tD x c.aG)/\St w aZ [cZ Fv (Flat.enc (⟨(c).aG,(c).counts,fp⟩:aT)),cZ kJ (Flat.enc (⟨(x).kind,(x).a,(x).b,xM,xN,(x).to⟩:aX))] w',bD (λ Ww=>?_) (λ Ww=>bO (bD (λ Ig=>?_) (λ Ig=>aF (aC (λ Ih=>?_) (λ Ih=>bJ (aC (λ Wx=>?_) (λ _=>⟨vb (by unfold tD; grind),hs⟩))))))),?_⟩
 ·refine aA gy (aB gh hs.p1.hb rfl ?_);have Wy:=DL.flat (OB);refine aA gu (aB (v:=.int .i64 ((c).aG)) bK hs.hb rfl (bF uR hs (C140 _ _ _ _ (Wy.ext hs.aD) (by omega)) (λ _ he hs=>bO (bD (λ _=>⟨vb (by unfold tD; grind),hs⟩) (λ acB=>bO (bD (λ vC=>aA gy (aB gh hs.p1.hb rfl (aI e8 (Wy.ext hs.aD) (cC (aC (λ _=>⟨vb (by unfold tD; grind),hs⟩) (λ Ii=>aF (aC (λ Rp=>?_) (λ Rp=>bJ (aC (λ AY=>?_) (λ _=>⟨vb (by unfold tD; grind),hs⟩)))))))))) (λ vC=>aF (aC (λ Ij=>?_) (λ Ij=>bJ (aC (λ Wz=>?_) (λ _=>⟨vb (by unfold tD; grind),hs⟩)))))))))))
  ·refine aA ep (aB gh hs.p1.hb rfl ?_);have WA:=DL.flat (tG);exact aA gu (aB (v:=.int .i64 ((c).aG)) bK hs.hb rfl (bF uR hs (C140 _ _ _ _ (WA.ext hs.aD) (by omega)) (λ _ _ hs=>bO (bD (λ _=>⟨vb (by unfold tD; grind),hs⟩) (λ _=>bJ (aC (λ _=>aA ep (aB gh hs.p1.hb rfl (aI e8 (WA.ext hs.aD) (cC ⟨vb (by unfold tD; grind),hs⟩)))) (λ _=>⟨vb (by unfold tD; grind),hs⟩)))))))
  ·refine aA ep (aB gh hs.p1.hb rfl ?_);have acC:=DL.flat (tG);exact aI e8 (acC.ext hs.aD) (cC ⟨vb (by unfold tD; grind),hs⟩)
  ·refine aA ep (aB gh hs.p1.hb rfl ?_);have WB:=DL.flat (tG);exact aA gu (aB (v:=.int .i64 ((c).aG)) bK hs.hb rfl (bF uR hs (C140 _ _ _ _ (WB.ext hs.aD) (by omega)) (λ _ _ hs=>bO (bD (λ _=>⟨vb (by unfold tD; grind),hs⟩) (λ _=>bJ (aC (λ _=>aA ep (aB gh hs.p1.hb rfl (aI e8 (WB.ext hs.aD) (cC ⟨vb (by unfold tD; grind),hs⟩)))) (λ _=>⟨vb (by unfold tD; grind),hs⟩)))))))
  refine aA ep (aB gh hs.p1.hb rfl ?_);have acD:=DL.flat (tG);exact aI e8 (acD.ext hs.aD) (cC ⟨vb (by unfold tD; grind),hs⟩)
 ·refine aA gy (aB gh hs.p1.hb rfl ?_);have acE:=DL.flat (OB);refine aI e8 (acE.ext hs.aD) (cC (aC (λ _=>⟨vb (by unfold tD; grind),hs⟩) (λ WC=>aF (aC (λ Ik=>?_) (λ Ik=>bJ (aC (λ WD=>?_) (λ _=>⟨vb (by unfold tD; grind),hs⟩)))))))
  ·refine aA ep (aB gh hs.p1.hb rfl ?_);have WE:=DL.flat (tG);exact aA gu (aB (v:=.int .i64 ((c).aG)) bK hs.hb rfl (bF uR hs (C140 _ _ _ _ (WE.ext hs.aD) (by omega)) (λ _ _ hs=>bO (bD (λ _=>⟨vb (by unfold tD; grind),hs⟩) (λ _=>bJ (aC (λ _=>aA ep (aB gh hs.p1.hb rfl (aI e8 (WE.ext hs.aD) (cC ⟨vb (by unfold tD; grind),hs⟩)))) (λ _=>⟨vb (by unfold tD; grind),hs⟩)))))))
  refine aA ep (aB gh hs.p1.hb rfl ?_);have acF:=DL.flat (tG);exact aI e8 (acF.ext hs.aD) (cC ⟨vb (by unfold tD; grind),hs⟩)
 ·refine aA ep (aB gh hs.p1.hb rfl ?_);have WG:=DL.flat (tG);exact aA gu (aB (v:=.int .i64 ((c).aG)) bK hs.hb rfl (bF uR hs (C140 _ _ _ _ (WG.ext hs.aD) (by omega)) (λ _ _ hs=>bO (bD (λ _=>⟨vb (by unfold tD; grind),hs⟩) (λ _=>bJ (aC (λ _=>aA ep (aB gh hs.p1.hb rfl (aI e8 (WG.ext hs.aD) (cC ⟨vb (by unfold tD; grind),hs⟩)))) (λ _=>⟨vb (by unfold tD; grind),hs⟩)))))))
 ·refine aA ep (aB gh hs.p1.hb rfl ?_);have acG:=DL.flat (tG);exact aI e8 (acG.ext hs.aD) (cC ⟨vb (by unfold tD; grind),hs⟩)
 rintro _ _ ⟨rfl,hs⟩ _;refine bD (λ Rq=>?_) (λ Rq=>⟨λ jv w'=>jv = .bool (decide (1<=x.kind) && decide (x.kind<=15) && aM x c.aG c.counts && bM x cells lines locks)/\St w aZ [cZ Fv (Flat.enc (⟨(c).aG,(c).counts,fp⟩:aT)),cZ kJ (Flat.enc (⟨(x).kind,(x).a,(x).b,xM,xN,(x).to⟩:aX))] w',cY (aC (λ _=>fW (aC (λ _=>bD (λ _=>⟨vb (by grind),hs⟩) (λ _=>⟨vb (by grind),hs⟩)) (λ _=>⟨vb (by grind),hs⟩))) (λ _=>⟨vb (by grind),hs⟩)),?_⟩)
 ·refine ⟨vb ?_,hs.drop.drop.aD⟩;unfold pG
  grind
 rintro _ _ ⟨rfl,hs⟩ _;refine ⟨vb ?_,hs.drop.drop.aD⟩;unfold pG
 grind
set_option maxRecDepth 512 in
theorem C198 (lv:Value) (xs:List aV) (i:Nat) (x:aV) (w:World) (hL:DL w lv xs) (hn:xs.length<=1048576) (hx:xs[i]? = some x):CR 198 [lv,.int .i64 (i:Int)] w (λ v w'=>v = .bool (wO xs i x)/\Ext w w'):=by
 have hi:=(List.getElem?_eq_some_iff.1 hx).1;have hs:=St.start w;refine LH _ _ _ _ ?_;unfold S198;obtain ⟨Rr,Fx,Mj⟩:=(hL).open;have hn86:=Mj.1;obtain ⟨e_x9,OC⟩:=gx Rr (i:=((i:Int)).toNat) (by omega);obtain ⟨fw,OD⟩:=gx (xs) (i:=((i:Int)).toNat) (by omega);obtain ⟨vD,vE,rfl,acH,acI⟩:=Mj.2 _ _ _ OC OD;refine aR gp Fx (by omega) OC (λ _ acJ=>?_);obtain rfl:fw=x:=Option.some.inj (OD.symm.trans hx);refine aO eg (acJ.ext hs.aD) (bT hs fK (λ kJ w1 hs=>have hs:=hs.enc (cs':=Flat.enc (⟨0,0,0,⟨none,0,0⟩,⟨none,0,0⟩,0⟩:aX)) rfl;cO (x:=(⟨(fw).kind,(fw).a,(fw).b,vD,vE,(fw).to⟩:aX)) hs eg rfl rfl (λ w2 hs=>⟨λ jv w'=>jv = .bool (decide (fw.kind=11\/fw.kind=12))/\w2=w',aA cR (aB (v:=.int .i64 ((fw).kind)) bK hs.hb rfl (aF (aC (λ _=>⟨Gn (by omega),rfl⟩) (λ _=>aA cR (aB (v:=.int .i64 ((fw).kind)) bK hs.hb rfl (aF ⟨Ab (by omega),rfl⟩)))))),?_⟩)))
 rintro _ _ ⟨rfl,hw⟩ _;subst hw;refine aC (λ mP=>⟨λ jv w'=>jv = .bool (decide ((i:Int)<fw.to) && decide (fw.to<=xs.length))/\St w aZ [cZ kJ (Flat.enc (⟨(fw).kind,(fw).a,(fw).b,vD,vE,(fw).to⟩:aX))] w',aA dQ (aB (v:=.int .i64 ((fw).to)) bK hs.hb rfl (cC (aC (λ _=>aA dQ (aB (v:=.int .i64 ((fw).to)) bK hs.hb rfl (aI gp (Fx.ext hs.aD) (fW ⟨vb (by grind),hs⟩)))) (λ _=>⟨vb (by grind),hs⟩)))),?_⟩) (λ mP=>?_)
 ·rintro _ _ ⟨rfl,hs⟩ _;exact ⟨vb (by unfold wO; rw [if_pos (by omega)]),hs.drop.aD⟩
 refine aA cR (aB (v:=.int .i64 ((fw).kind)) bK hs.hb rfl (bJ (aC (λ _=>aA dQ (aB (v:=.int .i64 ((fw).to)) bK hs.hb rfl (aF ⟨vb (by unfold wO; rw [if_neg (by omega),if_neg (by omega)]),hs.drop.aD⟩))) (λ nL=>⟨λ jv w'=>jv = .bool (!Ic xs i fw)/\St w aZ [cZ kJ (Flat.enc (⟨(fw).kind,(fw).a,(fw).b,vD,vE,(fw).to⟩:aX))] w',aA dQ (have hs:=hs.drew;aB (v:=.int .i64 ((fw).to)) bK hs.hb rfl (aN (aC (λ _=>⟨vb (by first | (rw [rM (by omega)]; rfl) | (rw [AW (by omega) (by omega) vF]; unfold il; first | grind | simp_all)),hs⟩) (λ xJ=>aA dQ (aB (v:=.int .i64 ((fw).to)) bK hs.hb rfl (cC (aC (λ _=>⟨vb (by first | (rw [rM (by omega)]; rfl) | (rw [AW (by omega) (by omega) vF]; unfold il; first | grind | simp_all)),hs⟩) (λ xH=>?_)))))))),?_⟩))))
 ·refine aA dQ (aB (v:=.int .i64 ((fw).to)) bK hs.hb rfl (eC (by omega) ?_));obtain ⟨e_x50,CI⟩:=gx Rr (i:=(((fw).to - 1)).toNat) (by omega);obtain ⟨OE,vF⟩:=gx (xs) (i:=(((fw).to - 1)).toNat) (by omega);obtain ⟨aak,aal,rfl,aam,aan⟩:=Mj.2 _ _ _ CI vF;refine aR gp Fx (by omega) CI (λ _ AT=>?_);exact dO (OE).kind cR AT rfl rfl (λ _ AU=>aO bK (AU.ext hs.aD) (bJ (aC (λ _=>⟨vb (by first | (rw [rM (by omega)]; rfl) | (rw [AW (by omega) (by omega) vF]; unfold il; first | grind | simp_all)),hs⟩) (λ _=>aA dQ (aB (v:=.int .i64 ((fw).to)) bK hs.hb rfl (eC (by omega) (aR gp Fx (by omega) CI (λ _ Il=>dO (OE).a eo Il rfl rfl (λ _ vG=>aO bK (vG.ext hs.aD) (aA eo (aB (v:=.int .i64 ((fw).a)) bK hs.hb rfl (bJ ⟨vb (by first | (rw [rM (by omega)]; rfl) | (rw [AW (by omega) (by omega) vF]; unfold il; first | grind | simp_all)),hs⟩))))))))))))
 rintro _ _ ⟨rfl,hs⟩ _;refine bD (λ Em=>?_) (λ Em=>?_)
 ·refine ⟨vb ?_,hs.drop.aD⟩;unfold wO;rw [if_neg (by omega),if_pos (by omega)];rw [AX (by simpa using Em)]
 have WH:Ic xs i fw=true:=by simpa using Em
 have hto:=Ro WH;refine aA dQ (aB (v:=.int .i64 ((fw).to)) bK hs.hb rfl ?_);refine ⟨λ m y w1=>∃ k:Nat,y = .int .i64 (k:Int)/\m=i - k/\k<=i/\(fw.to).toNat<=k/\((xs.take k).drop (fw.to).toNat).any (λ y=>il y fw.a)=false/\St w aZ [cZ kJ (Flat.enc (⟨(fw).kind,(fw).a,(fw).b,vD,vE,(fw).to⟩:aX))] w1,⟨_,(fw.to).toNat,congrArg (Value.int .i64) (by omega),rfl,by omega,Nat.le_refl _,by rw [List.drop_eq_nil_of_le (by rw [List.length_take]; omega)]; rfl,hs⟩,?_⟩;rintro m _ _ ⟨k,rfl,rfl,hk,sB,gT,hs⟩ _;refine aN (aC (λ nO=>?_) (λ nO=>?_))
 ·obtain ⟨e_x76,CJ⟩:∃ xx,Rr[((k:Int)).toNat]? = some xx:=⟨_,List.getElem?_eq_getElem (by omega)⟩;obtain ⟨Im,vH⟩:∃ xx,(xs)[((k:Int)).toNat]? = some xx:=⟨_,List.getElem?_eq_getElem (by omega)⟩;obtain ⟨aao,aap,rfl,aaq,aar⟩:=Mj.2 _ _ _ CJ vH;refine ⟨λ jv w'=>jv = .bool (il Im fw.a)/\St w aZ [cZ kJ (Flat.enc (⟨(fw).kind,(fw).a,(fw).b,vD,vE,(fw).to⟩:aX))] w',aR gp Fx (by omega) CJ (λ _ WI=>dO (Im).kind cR WI rfl rfl (λ _ rN=>have hs:=hs.drew;aO bK (rN.ext hs.aD) (aF (aC (λ _=>aR gp Fx (by omega) CJ (λ _ WJ=>dO (Im).a eo WJ rfl rfl (λ _ WK=>aO bK (WK.ext hs.aD) (aA eo (aB (v:=.int .i64 ((fw).a)) bK hs.hb rfl (aF ⟨vb (by unfold il; grind),hs⟩)))))) (λ _=>⟨vb (by unfold il; grind),hs⟩))))),?_⟩
  rintro _ _ ⟨rfl,hs⟩ _;refine bD (λ Io=>?_) (λ Io=>aW (by omega) ⟨_,by omega,k+1,rfl,rfl,by omega,by omega,by rw [Fu (k:=k) vH sB]; exact Ie gT Io,hs⟩);refine ⟨vb ?_,hs.drop.aD⟩;unfold wO;rw [if_neg (by omega),if_pos (by omega)];unfold pW;rw [Mi vH (by omega) (by omega) Io]; simp
 refine ⟨vb ?_,hs.drop.aD⟩;unfold wO;rw [if_neg (by omega),if_pos (by omega)];unfold pW;rw [show (xs.take i).drop (fw.to).toNat=(xs.take k).drop (fw.to).toNat from by rw [show i=k from by omega],gT,WH]; rfl
theorem C138 (c:dK) (cv:aT) (cells lines locks:Int) (w:World) (hc:Deep.dr w cv c) (hz:CZ c):CR 138 [Flat.val cv,.int .i64 cells,.int .i64 lines,.int .i64 locks] w (λ v w'=>v = .bool (gm c cells lines locks)/\Ext w w'):=by
 obtain ⟨fp,rfl,lL⟩:=hc;have zR:=hz.l;have hs:=St.start w;refine Cs Tryz.func138 (pl:=ab1) ?_;refine dY hs (λ nn w1 hs=>⟨λ jv w'=>jv = .bool (kH c)/\St w aZ [cZ nn (Flat.enc (⟨(c).aG,(c).counts,fp⟩:aT))] w',?_,?_⟩)
 ·refine aA gu (aB (v:=.int .i64 ((c).aG)) bK hs.hb rfl ?_);exact aN (aC (λ _=>⟨vb (by unfold kH; grind),hs⟩) (λ _=>aA gu (aB (v:=.int .i64 ((c).aG)) bK hs.hb rfl (cC (aC (λ _=>⟨vb (by unfold kH; grind),hs⟩) (λ _=>aA kT (aB (v:=.int .i64 ((c).counts)) bK hs.hb rfl (aN (aC (λ _=>⟨vb (by unfold kH; grind),hs⟩) (λ _=>aA kT (aB (v:=.int .i64 ((c).counts)) bK hs.hb rfl (cC ⟨vb (by unfold kH; grind),hs⟩))))))))))))
 rintro _ _ ⟨rfl,hs⟩ _;refine bD (λ rD=>?_) (λ rD=>?_)
 ·have hs:=(hs).drop;refine ⟨vb ?_,hs.aD⟩;unfold gm;rw [rD]; rfl
 refine ⟨λ m x w1=>∃ k2:Nat,x = .int .i64 (k2:Int)/\m=c.l.length - k2/\k2<=c.l.length/\(∀ j,j<k2->mr c cells lines locks j=false)/\St w aZ [cZ nn (Flat.enc (⟨(c).aG,(c).counts,fp⟩:aT))] w1,⟨_,0,rfl,rfl,Nat.zero_le _,by simp,hs⟩,?_⟩;rintro m _ _ ⟨k2,rfl,rfl,sB,WL,hs⟩ _;refine aA dZ (aB fG hs.hb rfl ?_);obtain ⟨Rs,Ip,Mk⟩:=(lL).open;have hn87:=Mk.1;refine aI gp (Ip.ext hs.aD) (aN (aC (λ im=>?_) (λ im=>?_)))
 ·obtain ⟨e_x42,Iq⟩:∃ xx,Rs[((k2:Int)).toNat]? = some xx:=⟨_,List.getElem?_eq_getElem (by omega)⟩;obtain ⟨Ir,vI⟩:∃ xx,((c).l)[((k2:Int)).toNat]? = some xx:=⟨_,List.getElem?_eq_getElem (by omega)⟩;obtain ⟨Ml,Mm,rfl,Mn,Mo⟩:=Mk.2 _ _ _ Iq vI;refine ⟨λ jv w'=>jv = .bool (!pG Ir c cells lines locks || !wO c.l k2 Ir)/\St w aZ [cZ nn (Flat.enc (⟨(c).aG,(c).counts,fp⟩:aT))] w',aA dZ (have hs:=hs.drew;aB fG hs.hb rfl (aR gp Ip (by omega) Iq (λ _ WM=>aO eg (WM.ext hs.aD) (aO gJ hs.At (bF Vp hs (C197 Ir _ c _ _ _ _ _ ⟨Ml,Mm,rfl,(Mn.ext hs.aD),(Mo.ext hs.aD)⟩ ⟨fp,rfl,(lL.ext hs.aD)⟩ (hz.ef _ (List.mem_of_getElem? vI))) (λ _ _ hs=>bO (bD (λ _=>⟨vb (by grind),hs⟩) (λ _=>aA dZ (aB fG hs.hb rfl (bF Vq hs (C198 _ _ _ _ _ (lL.ext hs.aD) (by omega) vI) (λ _ _ hs=>bO ⟨vb (by grind),hs⟩))))))))))),?_⟩
  rintro _ _ ⟨rfl,hs⟩ _;refine bD (λ Is=>?_) (λ Is=>aW (by omega) ⟨_,by omega,k2+1,rfl,rfl,by omega,nk WL (by rw [jJ (i:=k2) vI]; exact Is),hs⟩);have hs:=(hs).drop;refine ⟨vb ?_,hs.aD⟩;unfold gm;rw [jH (j:=k2) (by omega) (by rw [jJ (i:=k2) vI]; exact Is)]; simp
 have Rt:(List.range c.l.length).any (mr c cells lines locks)=false:=ky (λ j _=>WL j (by omega));refine ⟨λ m x w1=>∃ k4:Nat,x = .int .i64 (k4:Int)/\m=c.l.length - k4/\k4<=c.l.length/\(∀ j,j<k4->jI c.l j=false)/\St w aZ [cZ nn (Flat.enc (⟨(c).aG,(c).counts,fp⟩:aT))] w1,⟨_,0,rfl,rfl,Nat.zero_le _,by simp,hs⟩,?_⟩;rintro m _ _ ⟨k4,rfl,rfl,hk4,WN,hs⟩ _;refine aA dZ (aB fG hs.hb rfl (aI gp (Ip.ext hs.aD) (aN (aC (λ HM=>?_) (λ HM=>?_)))))
 ·obtain ⟨e_x72,It⟩:∃ xx,Rs[((k4:Int)).toNat]? = some xx:=⟨_,List.getElem?_eq_getElem (by omega)⟩;obtain ⟨gn,yO⟩:∃ xx,((c).l)[((k4:Int)).toNat]? = some xx:=⟨_,List.getElem?_eq_getElem (by omega)⟩;obtain ⟨uo,uq,rfl,aas,aat⟩:=Mk.2 _ _ _ It yO;refine ⟨λ m x w1=>∃ k5:Nat,x = .int .i64 (k5:Int)/\m=k4 - k5/\k5<=k4/\(∀ j,j<k5->(decide (gn.kind=14) && kG c.l gn j)=false)/\St w aZ [cZ nn (Flat.enc (⟨(c).aG,(c).counts,fp⟩:aT))] w1,⟨_,0,rfl,rfl,Nat.zero_le _,by simp,hs⟩,?_⟩;rintro m _ _ ⟨k5,rfl,rfl,hk5,WO,hs⟩ _;refine aN (aC (λ Em=>?_) (λ _=>aW (by omega) ⟨_,by omega,k4+1,rfl,rfl,by omega,nk WN (by rw [lh (i:=k4) yO]; cases h:decide (gn.kind=14); rfl; exact ky (λ j _=>by have:=WO j (by omega); rw [h] at this; simpa using this)),hs⟩))
  obtain ⟨e_x77,Iu⟩:∃ xx,Rs[((k5:Int)).toNat]? = some xx:=⟨_,List.getElem?_eq_getElem (by omega)⟩;obtain ⟨iN,qn⟩:∃ xx,((c).l)[((k5:Int)).toNat]? = some xx:=⟨_,List.getElem?_eq_getElem (by omega)⟩;obtain ⟨ur,uu,rfl,aau,aav⟩:=Mk.2 _ _ _ Iu qn;have hi1:=lj Rt k4 (by omega);have hi2:=lj Rt k5 (by omega);rw [jJ (i:=k4) yO] at hi1;rw [jJ (i:=k5) qn] at hi2;have Iv:gn.kind=14->1<=gn.to/\gn.to<=k4:=λ h=>sS h (by simp at hi1; exact hi1.2);have Ru:iN.kind=14->1<=iN.to/\iN.to<=k5:=λ h=>sS h (by simp at hi2; exact hi2.2);refine ⟨λ w'=>(decide (gn.kind=14) && kG c.l gn k5)=false/\St w aZ [cZ nn (Flat.enc (⟨(c).aG,(c).counts,fp⟩:aT))] w',⟨λ a b w'=>∃ uw ux:Nat,a = .pointer (some ⟨uw,0,none⟩)/\b = .pointer (some ⟨ux,0,none⟩)/\St w aZ [cZ uw (Flat.enc (⟨(gn).kind,(gn).a,(gn).b,uo,uq,(gn).to⟩:aX)),cZ ux (Flat.enc (⟨(iN).kind,(iN).a,(iN).b,ur,uu,(iN).to⟩:aX)),cZ nn (Flat.enc (⟨(c).aG,(c).counts,fp⟩:aT))] w',aA dZ (have hs:=hs.drew;aB fG hs.hb rfl (aR gp Ip (by omega) It (λ _ vJ=>aO eg (vJ.ext hs.aD) (aA dZ (aB fG hs.hb rfl (aR gp Ip (by omega) Iu (λ _ rN=>aO eg (rN.ext hs.aD) ⟨?_,⟨?_,?_⟩⟩))))))),?_⟩,?_⟩
  ·refine bT hs fK (λ HQ _ hs=>?_);have hs:=hs.enc (cs':=Flat.enc (⟨0,0,0,⟨none,0,0⟩,⟨none,0,0⟩,0⟩:aX)) rfl;refine ⟨aH fG (hs.p1.hb.cell rfl),?_⟩;refine ⟨eE eg (vJ.ext hs.aD),?_⟩;refine ⟨aH fG (hs.p1.hb.cell rfl),?_⟩;refine ⟨eE eg (rN.ext hs.aD),?_⟩;refine bT hs fK (λ b_y13 _ hs=>?_);have hs:=hs.enc (cs':=Flat.enc (⟨0,0,0,⟨none,0,0⟩,⟨none,0,0⟩,0⟩:aX)) rfl;refine ⟨aH fG (hs.p2.hb.cell rfl),?_⟩;refine ⟨eE eg (vJ.ext hs.aD),?_⟩;refine ⟨aH fG (hs.p2.hb.cell rfl),?_⟩;refine ⟨eE eg (rN.ext hs.aD),?_⟩;refine cO (x:=(⟨(gn).kind,(gn).a,(gn).b,uo,uq,(gn).to⟩:aX)) hs.p1 eg rfl rfl (λ _ hs=>?_)
   refine ⟨aH fG (hs.p2.hb.cell rfl),?_⟩;refine ⟨eE eg (rN.ext hs.aD),?_⟩;exact cO (x:=(⟨(iN).kind,(iN).a,(iN).b,ur,uu,(iN).to⟩:aX)) hs.p1 eg rfl rfl (λ _ hs=>have hs:=hs.p2.p1.p2;⟨_,_,rfl,rfl,hs⟩)
  ·refine bT hs fK (λ aaw _ hs=>?_);have hs:=hs.enc (cs':=Flat.enc (⟨0,0,0,⟨none,0,0⟩,⟨none,0,0⟩,0⟩:aX)) rfl;refine ⟨aH fG (hs.p1.hb.cell rfl),?_⟩;refine ⟨eE eg (vJ.ext hs.aD),?_⟩;refine ⟨aH fG (hs.p1.hb.cell rfl),?_⟩;refine ⟨eE eg (rN.ext hs.aD),?_⟩;refine bT hs fK (λ aax _ hs=>?_);have hs:=hs.enc (cs':=Flat.enc (⟨0,0,0,⟨none,0,0⟩,⟨none,0,0⟩,0⟩:aX)) rfl;refine ⟨aH fG (hs.p2.hb.cell rfl),?_⟩;refine ⟨eE eg (vJ.ext hs.aD),?_⟩;refine ⟨aH fG (hs.p2.hb.cell rfl),?_⟩;refine ⟨eE eg (rN.ext hs.aD),?_⟩;refine cO (x:=(⟨(gn).kind,(gn).a,(gn).b,uo,uq,(gn).to⟩:aX)) hs eg rfl rfl (λ _ hs=>?_)
   refine ⟨aH fG (hs.p2.hb.cell rfl),?_⟩;refine ⟨eE eg (rN.ext hs.aD),?_⟩;exact cO (x:=(⟨(iN).kind,(iN).a,(iN).b,ur,uu,(iN).to⟩:aX)) hs.p1 eg rfl rfl (λ _ hs=>have hs:=hs.p2.p1.p2;⟨_,_,rfl,rfl,hs⟩)
  ·trivial
  ·rintro _ _ _ ⟨uw,ux,rfl,rfl,hs⟩ _;refine ⟨λ jv w'=>jv = .bool (decide (gn.kind=14) && kG c.l gn k5)/\St w aZ [cZ uw (Flat.enc (⟨(gn).kind,(gn).a,(gn).b,uo,uq,(gn).to⟩:aX)),cZ ux (Flat.enc (⟨(iN).kind,(iN).a,(iN).b,ur,uu,(iN).to⟩:aX)),cZ nn (Flat.enc (⟨(c).aG,(c).counts,fp⟩:aT))] w',aA cR (aB (v:=.int .i64 ((gn).kind)) bK hs.hb rfl (aF (aC (λ xO=>aA cR (aB (v:=.int .i64 ((iN).kind)) bK hs.p1.hb rfl (aF (aC (λ vK=>?_) (λ _=>⟨vb (by rw [lK (k:=k5) qn]; (try unfold iG); grind),hs⟩))))) (λ _=>⟨vb (by rw [lK (k:=k5) qn]; (try unfold iG); grind),hs⟩)))),?_⟩
   ·refine aA dQ (aB (v:=.int .i64 ((gn).to)) bK hs.hb rfl ?_);have Iv:=Iv (by omega);have Ru:=Ru (by omega);exact eC (by omega) (aA dQ (aB (v:=.int .i64 ((iN).to)) bK hs.p1.hb rfl (eC (by omega) (bF Vr hs (C199 _ _ _ _ _) (λ _ _ hs=>bO ⟨vb (by rw [lK (k:=k5) qn]; (try unfold iG); grind),hs⟩)))))
   rintro _ _ ⟨rfl,hs⟩ _;refine bD (λ AZ=>?_) (λ AZ=>have hs:=((hs.drop)).drop;⟨AZ,hs⟩);have hs:=((((hs.drop)).drop)).drop;refine ⟨vb ?_,hs.aD⟩;unfold gm;rw [jH (f:=jI c.l) (j:=k4) (by omega) (by rw [lh (i:=k4) yO]; rw [Bool.and_eq_true] at AZ; rw [AZ.1]; exact jH (j:=k5) (by omega) AZ.2)]; simp
  rintro _ ⟨h98,hs⟩ _;exact aW (by omega) ⟨_,by omega,k5+1,rfl,rfl,by omega,nk WO (h98),hs⟩
 have hs:=(hs).drop;refine ⟨vb ?_,hs.aD⟩;unfold gm;rw [rD,Rt,ky (f:=jI c.l) (λ j _=>WN j (by omega))]; rfl
theorem lr {u:eh} {k:Nat} {n:Int} (h:u.lines[k]? = some n):fZ u k=(decide (¬ n=fN u.lines k) && (decide ((k:Int)=0) || decide (u.stays<=k) || decide (¬ n=fN u.lines k - 1))):=by
 unfold fZ; rw [h]; simp only []
 congr 2
 congr 1
 exact decide_eq_decide.2 (by omega)
theorem tH {u:eh} (h:∀ j,j<u.lines.length->fZ u j=false):∀ n∈u.lines,-1<=n/\n<=(u.lines.length:Int):=by
 intro n hn
 obtain ⟨j,hj,he⟩:=List.mem_iff_getElem.1 hn
 have:=sT h j n hj (by rw [List.getElem?_eq_getElem hj,he])
 omega
theorem vL {u:eh} (h:eR u=false):u.lines.length<=20/\0<=u.stays/\u.stays<=u.lines.length/\u.bP.length=u.lines.length/\0<=u.locks/\u.locks<=2/\1<=u.threads.length/\u.threads.length<=3:=by
 unfold eR at h
 simp only [Bool.or_eq_false_iff,decide_eq_false_iff_not] at h
 omega
theorem C139 (u:eh) (uv:bV) (w:World) (hu:Deep.dr w uv u) (hz:UZ u) (hb:∀ n∈u.lines,-1<=n/\n<=(u.lines.length:Int)):CR 139 [Flat.val uv] w (λ v w'=>v = .int .i64 (fP u)/\Ext w w'):=by
 obtain ⟨cD,bW,bG,ga,bN,rfl,cS,cX,cQ,dD,dL⟩:=hu;obtain ⟨aJ,rfl,cJ⟩:=dD;have hs:=St.start w;refine jT Tryz.func139 ?_;refine dY hs (λ iO _ hs=>⟨λ jv w'=>jv = .bool (decide (1<=u.stays/\u.stays<=u.lines.length))/\St w aZ [cZ iO (Flat.enc (⟨cD,(u).stays,bW,(u).locks,bG,(⟨((u).recover).aG,((u).recover).counts,aJ⟩:aT),bN⟩:bV))] w',aA fu (aB (v:=.int .i64 ((u).stays)) bK hs.hb rfl (cY (aC (λ Iw=>?_) (λ _=>⟨vb (by grind),hs⟩)))),?_⟩)
 ·refine aA fu (aB (v:=.int .i64 ((u).stays)) bK hs.hb rfl (aA eH (aB cT hs.hb rfl ?_)));have acM:=DL.flat (cS);exact aI cB (acM.ext hs.aD) (fW ⟨vb (by grind),hs⟩)
 rintro _ _ ⟨rfl,hs⟩ _;refine bD (λ kL=>?_) (λ kL=>?_)
 ·have CK:1<=u.stays/\u.stays<=u.lines.length:=by simpa using kL
  have zR:=hz.lines;refine aA eH (aB cT hs.hb rfl ?_);have acN:=DL.flat (cS);refine aA fu (aB (v:=.int .i64 ((u).stays)) bK hs.hb rfl (eC (by omega) ?_));obtain ⟨xP,fm⟩:=gx ((u).lines) (i:=(((u).stays - 1)).toNat) (by omega);refine aR cB acN (by omega) fm (λ _ oJ=>aO bK (oJ.ext hs.aD) ?_);have hbe:=hb _ (List.mem_of_getElem? fm);exact aW (by omega) ⟨congrArg (Value.int .i64) (by unfold fP; rw [if_pos CK,List.getD_eq_getElem?_getD,fm]; rfl),hs.drop.aD⟩
 have CK:¬ (1<=u.stays/\u.stays<=u.lines.length):=of_decide_eq_false kL;exact ⟨congrArg (Value.int .i64) (by unfold fP; rw [if_neg CK]),hs.drop.aD⟩
theorem C74 (u:eh) (uv:bV) (w:World) (hu:Deep.dr w uv u) (hz:UZ u):CR 74 [Flat.val uv] w (λ v w'=>v = .bool (dU u)/\Ext w w'):=by
 obtain ⟨cD,bW,bG,ga,bN,rfl,cS,cX,cQ,dD,dL⟩:=hu;obtain ⟨aJ,rfl,cJ⟩:=dD;have hs:=St.start w;refine Cs Tryz.func74 (pl:=P74) ?_;refine dY hs (λ iO w1 hs=>⟨λ jv w'=>jv = .bool (eR u)/\St w aZ [cZ iO (Flat.enc (⟨cD,(u).stays,bW,(u).locks,bG,(⟨((u).recover).aG,((u).recover).counts,aJ⟩:aT),bN⟩:bV))] w',?_,?_⟩)
 ·refine aA eH (aB cT hs.hb rfl ?_);have Rv:=DL.flat (cS);refine aI cB (Rv.ext hs.aD) (cC (aC (λ _=>⟨vb (by unfold eR; grind),hs⟩) (λ fM=>aA fu (aB (v:=.int .i64 ((u).stays)) bK hs.hb rfl (aN (aC (λ _=>⟨vb (by unfold eR; grind),hs⟩) (λ rA=>aA fu (aB (v:=.int .i64 ((u).stays)) bK hs.hb rfl (aA eH (aB cT hs.hb rfl (aI cB (Rv.ext hs.aD) (cC (aC (λ _=>⟨vb (by unfold eR; grind),hs⟩) (λ tC=>aA jw (aB cT hs.hb rfl ?_)))))))))))))));have acO:=DL.flat (cX);refine aI cB (acO.ext hs.aD) (aA eH (aB cT hs.hb rfl (aI cB (Rv.ext hs.aD) (bJ (aC (λ _=>⟨vb (by unfold eR; grind),hs⟩) (λ rD=>aA kc (aB (v:=.int .i64 ((u).locks)) bK hs.hb rfl (aN (aC (λ _=>⟨vb (by unfold eR; grind),hs⟩) (λ im=>aA kc (aB (v:=.int .i64 ((u).locks)) bK hs.hb rfl (cC (aC (λ _=>⟨vb (by unfold eR; grind),hs⟩) (λ jE=>aA fX (aB mI hs.hb rfl ?_)))))))))))))))
  obtain ⟨ts92,WQ,acP⟩:=(cQ).open;have hn92:=acP.1;exact aI kR (WQ.ext hs.aD) (aN (aC (λ _=>⟨vb (by unfold eR; grind),hs⟩) (λ _=>aA fX (aB mI hs.hb rfl (aI kR (WQ.ext hs.aD) (cC ⟨vb (by unfold eR; grind),hs⟩))))))
 rintro _ _ ⟨rfl,hs⟩ _;refine bD (λ xQ=>?_) (λ xQ=>?_)
 ·have hs:=(hs).drop;refine ⟨vb ?_,hs.aD⟩;unfold dU;rw [xQ]; rfl
 obtain ⟨L5,Wb,hb3,hb4,hb5,hb6,hb7,hb8⟩:=vL xQ;have hzc:=hz.bU;refine ⟨λ m x w1=>∃ k:Nat,x = .int .i64 (k:Int)/\m=u.lines.length - k/\k<=u.lines.length/\(∀ y∈u.bP.take k,fI y=false)/\(∀ j,j<k->fZ u j=false)/\St w aZ [cZ iO (Flat.enc (⟨cD,(u).stays,bW,(u).locks,bG,(⟨((u).recover).aG,((u).recover).counts,aJ⟩:aT),bN⟩:bV))] w1,⟨_,0,rfl,rfl,Nat.zero_le _,by simp,by simp,hs⟩,?_⟩;rintro m _ _ ⟨k,rfl,rfl,hk,Rw,yP,hs⟩ _;refine aA eH (aB cT hs.hb rfl ?_);have Fy:=DL.flat (cS);refine aI cB (Fy.ext hs.aD) (aN (aC (λ Ix=>?_) (λ Ix=>?_)))
 ·obtain ⟨WR,yQ⟩:∃ xx,(u.bP)[((k:Int)).toNat]? = some xx:=⟨_,List.getElem?_eq_getElem (by omega)⟩;obtain ⟨e_x88,sU⟩:∃ xx,(u.lines)[((k:Int)).toNat]? = some xx:=⟨_,List.getElem?_eq_getElem (by omega)⟩;refine ⟨λ jv w'=>jv = .bool (fI WR)/\St w aZ [cZ iO (Flat.enc (⟨cD,(u).stays,bW,(u).locks,bG,(⟨((u).recover).aG,((u).recover).counts,aJ⟩:aT),bN⟩:bV))] w',?_,?_⟩
  ·refine aA jw (aB cT hs.hb rfl ?_);have WT:=DL.flat (cX);exact aR cB WT (by omega) yQ (λ _ WU=>aO bK (WU.ext hs.aD) (aN (aC (λ _=>⟨vb (by unfold fI; grind),hs⟩) (λ _=>aA jw (aB cT hs.hb rfl (aR cB WT (by omega) yQ (λ _ vJ=>aO bK (vJ.ext hs.aD) (cC ⟨vb (by unfold fI; grind),hs⟩))))))))
  rintro _ _ ⟨rfl,hs⟩ _;refine bD (λ Iy=>?_) (λ Iy=>⟨λ jv w'=>∃ wn:Int,jv = .int .i64 wn/\wn=fN u.lines k/\0<=wn/\wn<=1000/\St w aZ [cZ iO (Flat.enc (⟨cD,(u).stays,bW,(u).locks,bG,(⟨((u).recover).aG,((u).recover).counts,aJ⟩:aT),bN⟩:bV))] w',cC (aC (λ xR=>?_) (λ _=>⟨_,rfl,by unfold fN; rw [if_pos (by omega)],by omega,by omega,hs⟩)),?_⟩)
  ·have hs:=(hs).drop;refine ⟨vb ?_,hs.aD⟩;unfold dU;rw [yM yQ Iy]; simp
  ·refine aA eH (aB cT hs.hb rfl (eC (by omega) ?_));obtain ⟨WV,CL⟩:=gx ((u).lines) (i:=(((k:Int) - 1)).toNat) (by omega);refine aR cB Fy (by omega) CL (λ _ WW=>aO bK (WW.ext hs.aD) ?_);have hlb:=sT yP (k - 1) WV (by omega) (by rw [show k - 1=((k:Int) - 1).toNat from by omega]; exact CL);exact aW (by omega) ⟨_,rfl,by unfold fN; rw [if_neg (by omega),List.getD_eq_getElem?_getD,show k - 1=((k:Int) - 1).toNat from by omega,CL]; rfl,by omega,by omega,hs⟩
  rintro _ _ ⟨wn,rfl,hwn,Wk,WX,hs⟩ _;refine ⟨λ jv w'=>jv = .bool (fZ u k)/\St w aZ [cZ iO (Flat.enc (⟨cD,(u).stays,bW,(u).locks,bG,(⟨((u).recover).aG,((u).recover).counts,aJ⟩:aT),bN⟩:bV))] w',?_,?_⟩
  ·refine aA eH (aB cT hs.hb rfl (aR cB Fy (by omega) sU (λ _ WY=>aO bK (WY.ext hs.aD) (bJ ?_))));exact aC (λ _=>aF (aC (λ _=>⟨vb (by rw [lr (k:=k) sU,<- hwn]; grind),hs⟩) (λ _=>aA fu (aB (v:=.int .i64 ((u).stays)) bK hs.hb rfl (cY (aC (λ _=>⟨vb (by rw [lr (k:=k) sU,<- hwn]; grind),hs⟩) (λ _=>aA eH (aB cT hs.hb rfl (aR cB Fy (by omega) sU (λ _ Rx=>aO bK (Rx.ext hs.aD) (eC (by omega) (bJ ⟨vb (by rw [lr (k:=k) sU,<- hwn]; grind),hs⟩)))))))))))) (λ _=>⟨vb (by rw [lr (k:=k) sU,<- hwn]; grind),hs⟩)
  rintro _ _ ⟨rfl,hs⟩ _;refine bD (λ vC=>?_) (λ vC=>aW (by omega) ⟨_,by omega,k+1,rfl,rfl,by omega,fY Rw yQ Iy,nk yP vC,hs⟩);have hs:=(hs).drop;refine ⟨vb ?_,hs.aD⟩;unfold dU;rw [jH (f:=fZ u) (j:=k) (by omega) vC]; simp
 have hL:(List.range u.lines.length).any (fZ u)=false:=ky (λ j _=>yP j (by omega));have A0:=tH (u:=u) (λ j _=>yP j (by omega));have hF:u.bP.any fI=false:=sQ (by rw [List.take_of_length_le (by omega)] at Rw; exact Rw);refine ⟨λ m x w1=>∃ k6:Nat,x = .int .i64 (k6:Int)/\m=u.threads.length - k6/\k6<=u.threads.length/\(∀ y∈u.threads.take k6,(!gm y u.lines.length (fP u) u.locks)=false)/\St w aZ [cZ iO (Flat.enc (⟨cD,(u).stays,bW,(u).locks,bG,(⟨((u).recover).aG,((u).recover).counts,aJ⟩:aT),bN⟩:bV))] w1,⟨_,0,rfl,rfl,Nat.zero_le _,by simp,hs⟩,?_⟩
 rintro m _ _ ⟨k6,rfl,rfl,hk6,Ry,hs⟩ _;refine aA fX (aB mI hs.hb rfl ?_);obtain ⟨acQ,WZ,W0⟩:=(cQ).open;have hn95:=W0.1;refine aI kR (WZ.ext hs.aD) (aN (aC (λ Ii=>?_) (λ Ii=>?_)))
 ·refine aA fX (have hs:=hs.drew;aB mI hs.hb rfl ?_);obtain ⟨acR,Eo⟩:=gx acQ (i:=((k6:Int)).toNat) (by omega);obtain ⟨Rz,uy⟩:=gx ((u).threads) (i:=((k6:Int)).toNat) (by omega);obtain ⟨Iz,rfl,IA⟩:=W0.2 _ _ _ Eo uy;refine aR kR WZ (by omega) Eo (λ _ IB=>aO gJ (IB.ext hs.aD) (aA eH (aB cT hs.hb rfl (aI cB (Fy.ext hs.aD) (aO mj hs.At (aA kc (aB (v:=.int .i64 ((u).locks)) bK hs.hb rfl (bF N5 hs (C139 u _ _ ⟨cD,bW,bG,(⟨((u).recover).aG,((u).recover).counts,aJ⟩:aT),bN,rfl,(cS.ext hs.aD),(cX.ext hs.aD),(cQ.ext hs.aD),⟨aJ,rfl,(cJ.ext hs.aD)⟩,(dL.ext hs.aD)⟩ hz A0) (λ _ he hs=>?_)))))))))
  refine ⟨aH mI (hs.hb.cell rfl),?_⟩;refine ⟨eE gJ (IB.ext hs.aD),?_⟩;refine ⟨aH cT (hs.hb.cell rfl),?_⟩;refine ⟨aH bK (hs.hb.cell rfl),?_⟩;refine bF N4 hs (C138 Rz _ _ _ _ _ ⟨Iz,rfl,(IA.ext hs.aD)⟩ (hz.th _ (List.mem_of_getElem? uy))) (λ _ he hs=>bO (bD (λ CM=>?_) (λ CM=>aW (by omega) ⟨_,by omega,k6+1,rfl,rfl,by omega,fY Ry uy CM,hs⟩)));have hs:=(hs).drop;refine ⟨vb ?_,hs.aD⟩;unfold dU;rw [yM (g:=λ c=>!gm c u.lines.length (fP u) u.locks) uy CM]; simp
 have hT:u.threads.any (λ c=>!gm c u.lines.length (fP u) u.locks)=false:=sQ (by rw [List.take_of_length_le (by omega)] at Ry; exact Ry);refine ⟨λ m x w1=>∃ k7:Nat,x = .int .i64 (k7:Int)/\m=u.bU.length - k7/\k7<=u.bU.length/\(∀ y∈u.bU.take k7,(!cW y u.stays)=false)/\St w aZ [cZ iO (Flat.enc (⟨cD,(u).stays,bW,(u).locks,bG,(⟨((u).recover).aG,((u).recover).counts,aJ⟩:aT),bN⟩:bV))] w1,⟨_,0,rfl,rfl,Nat.zero_le _,by simp,hs⟩,?_⟩;rintro m _ _ ⟨k7,rfl,rfl,hk7,RA,hs⟩ _;refine aA ir (aB qW hs.hb rfl ?_);obtain ⟨acS,W1,W3⟩:=(dL).open
 have hn96:=W3.1;refine aI oB (W1.ext hs.aD) (aN (aC (λ vM=>?_) (λ vM=>?_)))
 ·refine aA ir (have hs:=hs.drew;aB qW hs.hb rfl ?_);obtain ⟨RB,Ep⟩:=gx acS (i:=((k7:Int)).toNat) (by omega);obtain ⟨RC,uA⟩:=gx ((u).bU) (i:=((k7:Int)).toNat) (by omega);have RD:DL w (Flat.val RB) RC:=W3.2 _ _ _ Ep uA;refine aR oB W1 (by omega) Ep (λ _ RF=>aO gh (RF.ext hs.aD) ?_);have acT:=DL.flat (RD);refine aA fu (aB (v:=.int .i64 ((u).stays)) bK hs.hb rfl (bF uR hs (C140 _ _ _ _ (acT.ext hs.aD) (by have:=hz.cl _ (List.mem_of_getElem? uA); omega)) (λ _ he hs=>bO (bD (λ CN=>?_) (λ CN=>aW (by omega) ⟨_,by omega,k7+1,rfl,rfl,by omega,fY RA uA CN,hs⟩)))))
  have hs:=(hs).drop;refine ⟨vb ?_,hs.aD⟩;unfold dU;rw [yM (g:=λ l=>!cW l u.stays) uA CN]; simp
 refine aA qX (have hs:=hs.drew;uj (⟨((u).recover).aG,((u).recover).counts,aJ⟩:aT) gJ hs.hb rfl (aA eH (aB cT hs.hb rfl (aI cB (Fy.ext hs.aD) (aO mj hs.At (aA kc (aB (v:=.int .i64 ((u).locks)) bK hs.hb rfl (bF N5 hs (C139 u _ _ ⟨cD,bW,bG,(⟨((u).recover).aG,((u).recover).counts,aJ⟩:aT),bN,rfl,(cS.ext hs.aD),(cX.ext hs.aD),(cQ.ext hs.aD),⟨aJ,rfl,(cJ.ext hs.aD)⟩,(dL.ext hs.aD)⟩ hz A0) (λ _ he hs=>?_)))))))));refine ⟨ry (⟨((u).recover).aG,((u).recover).counts,aJ⟩:aT) gJ hs.hb rfl,?_⟩
 refine ⟨aH cT (hs.hb.cell rfl),?_⟩;refine ⟨aH bK (hs.hb.cell rfl),?_⟩;refine bF N4 hs (C138 (u).recover _ _ _ _ _ ⟨aJ,rfl,(cJ.ext hs.aD)⟩ hz.rc) (λ _ he hs=>?_);have hs:=(hs).drop;refine ⟨vb ?_,hs.aD⟩;unfold dU;rw [xQ,hF,hL,hT,sQ (g:=λ l=>!cW l u.stays) (by rw [List.take_of_length_le (by omega)] at RA; exact RA)]; rfl
def RG:List ByteArray:=[⟨#[]⟩,⟨#[114,101]⟩,⟨#[114,99]⟩,⟨#[99,101]⟩,⟨#[114,99,101,102]⟩,⟨#[108]⟩,⟨#[108]⟩,⟨#[]⟩,⟨#[]⟩,⟨#[109]⟩,⟨#[109]⟩,⟨#[116]⟩,⟨#[101,116]⟩,⟨#[107,110]⟩,⟨#[107,116]⟩,⟨#[101]⟩]
def RI:Array Value:=#[.string ⟨#[]⟩,.string ⟨#[114,101]⟩,.string ⟨#[114,99]⟩,.string ⟨#[99,101]⟩,.string ⟨#[114,99,101,102]⟩,.string ⟨#[108]⟩,.string ⟨#[108]⟩,.string ⟨#[]⟩,.string ⟨#[]⟩,.string ⟨#[109]⟩,.string ⟨#[109]⟩,.string ⟨#[116]⟩,.string ⟨#[101,116]⟩,.string ⟨#[107,110]⟩,.string ⟨#[107,116]⟩,.string ⟨#[101]⟩]
def hasB (k c:Int):Bool:=iF (RG.getD k.toNat ⟨#[]⟩) c
theorem jK {k:Int} (h:1<=k/\k<=15):hasB k 114=decide (k=1\/k=2\/k=4)/\hasB k 107=decide (k=13\/k=14)/\hasB k 99=decide (k=2\/k=3\/k=4)/\hasB k 108=decide (k=5\/k=6)/\hasB k 109=decide (k=9\/k=10)/\hasB k 110=decide (k=13)/\hasB k 101=mS k/\hasB k 102=decide (k=4)/\hasB k 116=decide (k=11\/k=12\/k=14):=by
 obtain rfl | rfl | rfl | rfl | rfl | rfl | rfl | rfl | rfl | rfl | rfl | rfl | rfl | rfl | rfl:k=1\/k=2\/k=3\/k=4\/k=5\/k=6\/k=7\/k=8\/k=9\/k=10\/k=11\/k=12\/k=13\/k=14\/k=15:=by omega
 all_goals decide
def OF (l:List aV) (i:Nat):Bool:=match l[i]? with | some x=>decide (x.kind=14) | none=>false
def jL (l:List aV) (k:Nat):List Int:=((List.range k).filter (OF l)).map (fun (n:Nat)=>(n:Int))
theorem xS (l:List aV) (k:Nat):(jL l k).length<=k:=by
 unfold jL
 rw [List.length_map]
 have:=List.length_filter_le (OF l) (List.range k)
 rw [List.length_range] at this; exact this
theorem IC {l:List aV} {k:Nat} {x:aV} (h:l[k]? = some x) (hk:¬ x.kind=14):jL l k=jL l (k+1):=by
 have:OF l k=false:=by unfold OF; rw [h]; exact decide_eq_false hk
 unfold jL; rw [List.range_succ,List.filter_append,List.filter_cons_of_neg (by rw [this]; decide),List.filter_nil,List.append_nil]
theorem Fz {l:List aV} {k:Nat} {x:aV} (h:l[k]? = some x) (hk:x.kind=14):jL l k++[(k:Int)]=jL l (k+1):=by
 have:OF l k=true:=by unfold OF; rw [h]; exact decide_eq_true hk
 unfold jL; rw [List.range_succ,List.filter_append,List.filter_cons_of_pos this,List.filter_nil,List.map_append]; rfl
theorem FA {l:List aV} {k:Nat} {e:Int} (h:e∈jL l k):∃ j:Nat,e=j/\j<k/\∃ y,l[j]? = some y/\y.kind=14:=by
 unfold jL at h
 obtain ⟨j,hj,rfl⟩:=List.mem_map.1 h
 obtain ⟨h1,h2⟩:=List.mem_filter.1 hj
 refine ⟨j,rfl,List.mem_range.1 h1,?_⟩
 unfold OF at h2
 cases hy:l[j]? with
 | none=>rw [hy] at h2; cases h2
 | some y=>rw [hy] at h2; exact ⟨y,rfl,of_decide_eq_true h2⟩
theorem ID {l:List aV} {k:Nat} {x:aV} (h:∀ e∈jL l k,kG l x e.toNat=false):(List.range k).any (kG l x)=false:=by
 refine ky λ j hj=>?_
 cases hy:l[j]? with
 | none=>unfold kG; rw [hy]
 | some y=>
  by_cases hk:y.kind=14
  ·exact h (j:Int) (List.mem_map.2 ⟨j,List.mem_filter.2 ⟨List.mem_range.2 hj,by unfold OF; rw [hy]; exact decide_eq_true hk⟩,rfl⟩)
  ·rw [lK hy,decide_eq_false hk]; rfl
def OG (l:List aV):Prop:=∀ (i:Nat) (x:aV),l[i]? = some x->x.kind=14->1<=x.to/\x.to<=i
theorem List.dP {α:Type} {l l':List α} {f g:α->Bool} (h:l=l') (h2:∀ x,f x=g x):l.any f=l'.any g:=by subst h; rw [funext h2]
theorem C178 (w:World):CR 178 [] w (λ v w'=>v = .agg RI/\Ext w w'):=by
 have hs:=St.start w;refine jT Tryz.func178 ?_;exact bT hs LX (λ _ _ hs=>pop (ij _ _ _ _ _ _ _ _ _ _ _ _ _) (qR hs Oh rfl (by decide) (by simp [eK,eS]) (λ _ hs=>uS Oh hs.hb rfl ⟨rfl,hs.drop.aD⟩)))
theorem C179 (p:Bool) (n many:Int) (w:World):CR 179 [.bool p,.int .i64 n,.int .i64 many] w (λ v w'=>v = .bool (if p=true then Ce n many else decide (n=0))/\Ext w w'):=by
 have hs:=St.start w;refine jT Tryz.func179 ?_;refine bO (bD (λ oG=>?_) (λ oG=>⟨λ jv w'=>jv = .bool (Ce n many)/\St w aZ [] w',cY (aC (λ _=>aN ⟨vb (by unfold Ce; grind),hs⟩) (λ _=>⟨vb (by unfold Ce; grind),hs⟩)),?_⟩))
 ·refine aF ?_;refine ⟨vb ?_,hs.aD⟩
  grind
 rintro _ _ ⟨rfl,hs⟩ _;refine ⟨vb ?_,hs.aD⟩
 grind
theorem C220 (sv:Value) (xs:List UInt8) (c:Int) (w:World) (hL:ee (λ _=>True) w sv xs) (hn:xs.length<=1048576):CR 220 [sv,.int .u8 c] w (λ v w'=>v = .int .i64 (rB (λ y=>decide (c=(y.toNat:Int))) xs)/\Ext w w'):=by
 have hs:=St.start w;refine jT Tryz.func220 ?_;refine aI Og (hL.ext hs.aD) ?_;refine ⟨λ m x w1=>∃ k:Nat,x = .int .i64 (k:Int)/\m=xs.length - k/\k<=xs.length/\(∀ y∈xs.take k,decide (c=(y.toNat:Int))=false)/\St w aZ [] w1,⟨_,0,rfl,rfl,Nat.zero_le _,by simp,hs⟩,?_⟩;rintro m _ w1 ⟨k,rfl,rfl,hk,gT,hs⟩ _;refine aN (aC (λ yN=>?_) (λ _=>⟨congrArg (Value.int .i64) (jl (by rw [List.take_of_length_le (by omega)] at gT; exact gT)).symm,hs.aD⟩));obtain ⟨iz,cI⟩:=gx (xs) (i:=((k:Int)).toNat) (by omega);exact aR Og hL (by omega) cI (λ _ jD=>aO ty5 (jD.ext hs.aD) (HF (aC (λ eU=>⟨congrArg (Value.int .i64) (mb gT cI (decide_eq_true eU)).symm,hs.aD⟩) (λ eU=>aW (by omega) ⟨_,by omega,k+1,rfl,rfl,by omega,fY gT cI (decide_eq_false eU),hs⟩))))
theorem C177 (sv:Value) (xs:List UInt8) (c:Int) (w:World) (hL:ee (λ _=>True) w sv xs) (hn:xs.length<=1048576):CR 177 [sv,.int .u8 c] w (λ v w'=>v = .bool (xs.any (λ y=>decide (c=(y.toNat:Int))))/\Ext w w'):=by
 have hs:=St.start w;refine jT Tryz.func177 ?_;exact bF Vx hs (C220 _ _ _ _ (hL.ext hs.aD) (by omega)) (λ _ _ hs=>cY ⟨vb (kx _ _),hs.aD⟩)
theorem C176 (k c:Int) (b1:Nat) (Q:Bool) (w:World) (hc:Cell w b1 0 (.int .i64 k)) (hk:1<=k/\k<=15) (hQ:hasB k c=Q):CR 176 [.int .u8 c,.pointer (some ⟨b1,0,none⟩)] w (λ v w'=>v = .bool Q/\Ext w w'):=by
 have hs:=St.start w;refine Cs Tryz.func176 (pl:=ab9) ?_;refine aA cR (have hs:=hs.drew;aK bK (hc.ext hs.aD) (bF Vc hs (C178 _) (λ _ he hs=>?_)));refine ⟨aH bK (hc.ext hs.aD),?_⟩;obtain rfl | rfl | rfl | rfl | rfl | rfl | rfl | rfl | rfl | rfl | rfl | rfl | rfl | rfl | rfl:k=1\/k=2\/k=3\/k=4\/k=5\/k=6\/k=7\/k=8\/k=9\/k=10\/k=11\/k=12\/k=13\/k=14\/k=15:=by omega
 ·refine pop (v:=.string ⟨#[114,101]⟩) (by kernel_rfl) (eT hs qj Tryz.underlying252 qi (λ rO w2 hs=>bF lC hs (C177 _ _ _ _ (hs).fU (by rw [eI]; decide)) (λ w3 he hs=>?_)));have hs:=(hs).drop;refine ⟨vb ?_,hs.aD⟩;rw [<- hQ];unfold hasB iF;exact List.dP rfl (λ _=>decide_eq_decide.2 eq_comm)
 ·refine pop (v:=.string ⟨#[114,99]⟩) (by kernel_rfl) (eT hs qj Tryz.underlying252 qi (λ rO w2 hs=>bF lC hs (C177 _ _ _ _ (hs).fU (by rw [eI]; decide)) (λ w3 he hs=>?_)));have hs:=(hs).drop;refine ⟨vb ?_,hs.aD⟩;rw [<- hQ];unfold hasB iF;exact List.dP rfl (λ _=>decide_eq_decide.2 eq_comm)
 ·refine pop (v:=.string ⟨#[99,101]⟩) (by kernel_rfl) (eT hs qj Tryz.underlying252 qi (λ rO w2 hs=>bF lC hs (C177 _ _ _ _ (hs).fU (by rw [eI]; decide)) (λ w3 he hs=>?_)));have hs:=(hs).drop;refine ⟨vb ?_,hs.aD⟩;rw [<- hQ];unfold hasB iF;exact List.dP rfl (λ _=>decide_eq_decide.2 eq_comm)
 ·refine pop (v:=.string ⟨#[114,99,101,102]⟩) (by kernel_rfl) (eT hs qj Tryz.underlying252 qi (λ rO w2 hs=>bF lC hs (C177 _ _ _ _ (hs).fU (by rw [eI]; decide)) (λ w3 he hs=>?_)));have hs:=(hs).drop;refine ⟨vb ?_,hs.aD⟩;rw [<- hQ];unfold hasB iF;exact List.dP rfl (λ _=>decide_eq_decide.2 eq_comm)
 ·refine pop (v:=.string ⟨#[108]⟩) (by kernel_rfl) (eT hs qj Tryz.underlying252 qi (λ rO w2 hs=>bF lC hs (C177 _ _ _ _ (hs).fU (by rw [eI]; decide)) (λ w3 he hs=>?_)));have hs:=(hs).drop;refine ⟨vb ?_,hs.aD⟩;rw [<- hQ];unfold hasB iF;exact List.dP rfl (λ _=>decide_eq_decide.2 eq_comm)
 ·refine pop (v:=.string ⟨#[108]⟩) (by kernel_rfl) (eT hs qj Tryz.underlying252 qi (λ rO w2 hs=>bF lC hs (C177 _ _ _ _ (hs).fU (by rw [eI]; decide)) (λ w3 he hs=>?_)));have hs:=(hs).drop;refine ⟨vb ?_,hs.aD⟩;rw [<- hQ];unfold hasB iF;exact List.dP rfl (λ _=>decide_eq_decide.2 eq_comm)
 ·refine pop (v:=.string ⟨#[]⟩) (by kernel_rfl) (eT hs qj Tryz.underlying252 qi (λ rO w2 hs=>bF lC hs (C177 _ _ _ _ (hs).fU (by rw [eI]; decide)) (λ w3 he hs=>?_)));have hs:=(hs).drop;refine ⟨vb ?_,hs.aD⟩;rw [<- hQ];unfold hasB iF;exact List.dP rfl (λ _=>decide_eq_decide.2 eq_comm)
 ·refine pop (v:=.string ⟨#[]⟩) (by kernel_rfl) (eT hs qj Tryz.underlying252 qi (λ rO w2 hs=>bF lC hs (C177 _ _ _ _ (hs).fU (by rw [eI]; decide)) (λ w3 he hs=>?_)));have hs:=(hs).drop;refine ⟨vb ?_,hs.aD⟩;rw [<- hQ];unfold hasB iF;exact List.dP rfl (λ _=>decide_eq_decide.2 eq_comm)
 ·refine pop (v:=.string ⟨#[109]⟩) (by kernel_rfl) (eT hs qj Tryz.underlying252 qi (λ rO w2 hs=>bF lC hs (C177 _ _ _ _ (hs).fU (by rw [eI]; decide)) (λ w3 he hs=>?_)));have hs:=(hs).drop;refine ⟨vb ?_,hs.aD⟩;rw [<- hQ];unfold hasB iF;exact List.dP rfl (λ _=>decide_eq_decide.2 eq_comm)
 ·refine pop (v:=.string ⟨#[109]⟩) (by kernel_rfl) (eT hs qj Tryz.underlying252 qi (λ rO w2 hs=>bF lC hs (C177 _ _ _ _ (hs).fU (by rw [eI]; decide)) (λ w3 he hs=>?_)));have hs:=(hs).drop;refine ⟨vb ?_,hs.aD⟩;rw [<- hQ];unfold hasB iF;exact List.dP rfl (λ _=>decide_eq_decide.2 eq_comm)
 ·refine pop (v:=.string ⟨#[116]⟩) (by kernel_rfl) (eT hs qj Tryz.underlying252 qi (λ rO w2 hs=>bF lC hs (C177 _ _ _ _ (hs).fU (by rw [eI]; decide)) (λ w3 he hs=>?_)));have hs:=(hs).drop;refine ⟨vb ?_,hs.aD⟩;rw [<- hQ];unfold hasB iF;exact List.dP rfl (λ _=>decide_eq_decide.2 eq_comm)
 ·refine pop (v:=.string ⟨#[101,116]⟩) (by kernel_rfl) (eT hs qj Tryz.underlying252 qi (λ rO w2 hs=>bF lC hs (C177 _ _ _ _ (hs).fU (by rw [eI]; decide)) (λ w3 he hs=>?_)));have hs:=(hs).drop;refine ⟨vb ?_,hs.aD⟩;rw [<- hQ];unfold hasB iF;exact List.dP rfl (λ _=>decide_eq_decide.2 eq_comm)
 ·refine pop (v:=.string ⟨#[107,110]⟩) (by kernel_rfl) (eT hs qj Tryz.underlying252 qi (λ rO w2 hs=>bF lC hs (C177 _ _ _ _ (hs).fU (by rw [eI]; decide)) (λ w3 he hs=>?_)));have hs:=(hs).drop;refine ⟨vb ?_,hs.aD⟩;rw [<- hQ];unfold hasB iF;exact List.dP rfl (λ _=>decide_eq_decide.2 eq_comm)
 ·refine pop (v:=.string ⟨#[107,116]⟩) (by kernel_rfl) (eT hs qj Tryz.underlying252 qi (λ rO w2 hs=>bF lC hs (C177 _ _ _ _ (hs).fU (by rw [eI]; decide)) (λ w3 he hs=>?_)));have hs:=(hs).drop;refine ⟨vb ?_,hs.aD⟩;rw [<- hQ];unfold hasB iF;exact List.dP rfl (λ _=>decide_eq_decide.2 eq_comm)
 refine pop (v:=.string ⟨#[101]⟩) (by kernel_rfl) (eT hs qj Tryz.underlying252 qi (λ rO w2 hs=>bF lC hs (C177 _ _ _ _ (hs).fU (by rw [eI]; decide)) (λ w3 he hs=>?_)));have hs:=(hs).drop;refine ⟨vb ?_,hs.aD⟩;rw [<- hQ];unfold hasB iF;exact List.dP rfl (λ _=>decide_eq_decide.2 eq_comm)
theorem C185 (sv fv:Value) (xs:List Int) (g:Int->Bool) (w:World) (hL:ee (λ _=>True) w sv xs) (hf:tX w fv g) (hn:xs.length<=1073741824):CR 185 [sv,fv] w (λ v w'=>v = .int .i64 (rB g xs)/\Ext w w'):=by
 obtain ⟨g0,first,cap,rfl,pz,iJ⟩:=hf;have hs:=St.start w;refine jT Tryz.func185 ?_;refine aI cB (hL.ext hs.aD) ?_;refine ⟨λ m x w1=>∃ k:Nat,x = .int .i64 (k:Int)/\m=xs.length - k/\k<=xs.length/\(∀ y∈xs.take k,g y=false)/\St w aZ [] w1,⟨_,0,rfl,rfl,Nat.zero_le _,by simp,hs⟩,?_⟩;rintro m _ w1 ⟨k,rfl,rfl,hk,gT,hs⟩ _;refine aN (aC (λ yN=>?_) (λ _=>⟨congrArg (Value.int .i64) (jl (by rw [List.take_of_length_le (by omega)] at gT; exact gT)).symm,hs.aD⟩));obtain ⟨iz,cI⟩:=gx (xs) (i:=((k:Int)).toNat) (by omega);refine aR cB hL (by omega) cI (λ _ jD=>aO bK (jD.ext hs.aD) (eF pz (iJ iz w1 hs.aD) ?_))
 rintro _ _ ⟨rfl,he⟩;have hs:=hs.ext he;exact bD (λ eU=>⟨congrArg (Value.int .i64) (mb gT cI eU).symm,hs.aD⟩) (λ eU=>aW (by omega) ⟨_,by omega,k+1,rfl,rfl,by omega,fY gT cI eU,hs⟩)
theorem C186 (sv fv:Value) (xs:List dK) (φ:dK->Prop) (g:dK->Bool) (w:World) (hL:DL w sv xs) (hf:nJ PG w fv φ g) (hφ:∀ x∈xs,φ x) (hn:xs.length<=1073741824):CR 186 [sv,fv] w (λ v w'=>v = .int .i64 (rB g xs)/\Ext w w'):=by
 obtain ⟨g0,first,cap,rfl,pz,iJ⟩:=hf;have hs:=St.start w;refine jT Tryz.func186 ?_;obtain ⟨acU,W4,W5⟩:=(hL).open;have hn98:=W5.1;refine aI kR (W4.ext hs.aD) ?_;refine ⟨λ m x w1=>∃ k:Nat,x = .int .i64 (k:Int)/\m=xs.length - k/\k<=xs.length/\(∀ y∈xs.take k,g y=false)/\St w aZ [] w1,⟨_,0,rfl,rfl,Nat.zero_le _,by simp,hs⟩,?_⟩;rintro m _ w1 ⟨k,rfl,rfl,hk,gT,hs⟩ _;refine aN (aC (λ yN=>?_) (λ _=>⟨congrArg (Value.int .i64) (jl (by rw [List.take_of_length_le (by omega)] at gT; exact gT)).symm,hs.aD⟩));obtain ⟨iz,cI⟩:=gx acU (i:=((k:Int)).toNat) (by omega);obtain ⟨xU,jM⟩:=gx (xs) (i:=((k:Int)).toNat) (by omega)
 obtain ⟨Mp,rfl,Mq⟩:=W5.2 _ _ _ cI jM;refine aR kR W4 (by omega) cI (λ _ jD=>aO gJ (jD.ext hs.aD) (eF pz (iJ _ xU w1 hs.aD ⟨Mp,rfl,(Mq.ext hs.aD)⟩ (hφ _ (List.mem_of_getElem? jM))) ?_));rintro _ _ ⟨rfl,he⟩;have hs:=hs.ext he;exact bD (λ eU=>⟨congrArg (Value.int .i64) (mb gT jM eU).symm,hs.aD⟩) (λ eU=>aW (by omega) ⟨_,by omega,k+1,rfl,rfl,by omega,fY gT jM eU,hs⟩)
theorem C187 (sv fv:Value) (xs:List (List gC)) (φ:(List gC)->Prop) (g:(List gC)->Bool) (w:World) (hL:DL w sv xs) (hf:nJ PG w fv φ g) (hφ:∀ x∈xs,φ x) (hn:xs.length<=1073741824):CR 187 [sv,fv] w (λ v w'=>v = .int .i64 (rB g xs)/\Ext w w'):=by
 obtain ⟨g0,first,cap,rfl,pz,iJ⟩:=hf;have hs:=St.start w;refine jT Tryz.func187 ?_;obtain ⟨acV,W6,W7⟩:=(hL).open;have hn99:=W7.1;refine aI oB (W6.ext hs.aD) ?_;refine ⟨λ m x w1=>∃ k:Nat,x = .int .i64 (k:Int)/\m=xs.length - k/\k<=xs.length/\(∀ y∈xs.take k,g y=false)/\St w aZ [] w1,⟨_,0,rfl,rfl,Nat.zero_le _,by simp,hs⟩,?_⟩;rintro m _ w1 ⟨k,rfl,rfl,hk,gT,hs⟩ _;refine aN (aC (λ yN=>?_) (λ _=>⟨congrArg (Value.int .i64) (jl (by rw [List.take_of_length_le (by omega)] at gT; exact gT)).symm,hs.aD⟩));obtain ⟨iz,cI⟩:=gx acV (i:=((k:Int)).toNat) (by omega);obtain ⟨xU,jM⟩:=gx (xs) (i:=((k:Int)).toNat) (by omega)
 have OH:DL w (Flat.val iz) xU:=W7.2 _ _ _ cI jM;refine aR oB W6 (by omega) cI (λ _ jD=>aO gh (jD.ext hs.aD) ?_);have hf100:=DL.flat (OH);refine eF pz (iJ _ xU w1 hs.aD (OH.ext hs.aD) (hφ _ (List.mem_of_getElem? jM))) ?_;rintro _ _ ⟨rfl,he⟩;have hs:=hs.ext he;exact bD (λ eU=>⟨congrArg (Value.int .i64) (mb gT jM eU).symm,hs.aD⟩) (λ eU=>aW (by omega) ⟨_,by omega,k+1,rfl,rfl,by omega,fY gT jM eU,hs⟩)
theorem C249 (sv fv:Value) (xs:List aV) (φ:aV->Prop) (g:aV->Bool) (w:World) (hL:DL w sv xs) (hf:nJ PG w fv φ g) (hφ:∀ x∈xs,φ x) (hn:xs.length<=1073741824):CR 249 [sv,fv] w (λ v w'=>v = .int .i64 (rB g xs)/\Ext w w'):=by
 obtain ⟨g0,first,cap,rfl,pz,iJ⟩:=hf;have hs:=St.start w;refine jT Tryz.func249 ?_;obtain ⟨W8,OI,OJ⟩:=(hL).open;have hn101:=OJ.1;refine aI gp (OI.ext hs.aD) ?_;refine ⟨λ m x w1=>∃ k:Nat,x = .int .i64 (k:Int)/\m=xs.length - k/\k<=xs.length/\(∀ y∈xs.take k,g y=false)/\St w aZ [] w1,⟨_,0,rfl,rfl,Nat.zero_le _,by simp,hs⟩,?_⟩;rintro m _ w1 ⟨k,rfl,rfl,hk,gT,hs⟩ _;refine aN (aC (λ yN=>?_) (λ _=>⟨congrArg (Value.int .i64) (jl (by rw [List.take_of_length_le (by omega)] at gT; exact gT)).symm,hs.aD⟩));obtain ⟨iz,cI⟩:=gx W8 (i:=((k:Int)).toNat) (by omega);obtain ⟨xU,jM⟩:=gx (xs) (i:=((k:Int)).toNat) (by omega)
 obtain ⟨Mr,Ms,rfl,Mt,Mu⟩:=OJ.2 _ _ _ cI jM;refine aR gp OI (by omega) cI (λ _ jD=>aO eg (jD.ext hs.aD) (eF pz (iJ _ xU w1 hs.aD ⟨Mr,Ms,rfl,(Mt.ext hs.aD),(Mu.ext hs.aD)⟩ (hφ _ (List.mem_of_getElem? jM))) ?_));rintro _ _ ⟨rfl,he⟩;have hs:=hs.ext he;exact bD (λ eU=>⟨congrArg (Value.int .i64) (mb gT jM eU).symm,hs.aD⟩) (λ eU=>aW (by omega) ⟨_,by omega,k+1,rfl,rfl,by omega,fY gT jM eU,hs⟩)
theorem C117 (sv fv:Value) (xs:List Int) (g:Int->Bool) (w:World) (hL:ee (λ _=>True) w sv xs) (hf:tX w fv g) (hn:xs.length<=1073741824):CR 117 [sv,fv] w (λ v w'=>v = .bool (xs.any g)/\Ext w w'):=by
 have hs:=St.start w;refine jT Tryz.func117 ?_;exact bF Vi hs (C185 _ _ _ _ _ (hL.ext hs.aD) (hf.ext hs.aD) (by omega)) (λ _ _ hs=>cY ⟨vb (kx _ _),hs.aD⟩)
theorem C118 (sv fv:Value) (xs:List dK) (φ:dK->Prop) (g:dK->Bool) (w:World) (hL:DL w sv xs) (hf:nJ PG w fv φ g) (hφ:∀ x∈xs,φ x) (hn:xs.length<=1073741824):CR 118 [sv,fv] w (λ v w'=>v = .bool (xs.any g)/\Ext w w'):=by
 have hs:=St.start w;refine jT Tryz.func118 ?_;exact bF Vj hs (C186 _ _ _ _ _ _ (hL.ext hs.aD) (hf.ext hs.aD) hφ (by omega)) (λ _ _ hs=>cY ⟨vb (kx _ _),hs.aD⟩)
theorem C119 (sv fv:Value) (xs:List (List gC)) (φ:(List gC)->Prop) (g:(List gC)->Bool) (w:World) (hL:DL w sv xs) (hf:nJ PG w fv φ g) (hφ:∀ x∈xs,φ x) (hn:xs.length<=1073741824):CR 119 [sv,fv] w (λ v w'=>v = .bool (xs.any g)/\Ext w w'):=by
 have hs:=St.start w;refine jT Tryz.func119 ?_;exact bF Vk hs (C187 _ _ _ _ _ _ (hL.ext hs.aD) (hf.ext hs.aD) hφ (by omega)) (λ _ _ hs=>cY ⟨vb (kx _ _),hs.aD⟩)
theorem C221 (sv fv:Value) (xs:List aV) (φ:aV->Prop) (g:aV->Bool) (w:World) (hL:DL w sv xs) (hf:nJ PG w fv φ g) (hφ:∀ x∈xs,φ x) (hn:xs.length<=1073741824):CR 221 [sv,fv] w (λ v w'=>v = .bool (xs.any g)/\Ext w w'):=by
 have hs:=St.start w;refine jT Tryz.func221 ?_;exact bF VN hs (C249 _ _ _ _ _ _ (hL.ext hs.aD) (hf.ext hs.aD) hφ (by omega)) (λ _ _ hs=>cY ⟨vb (kx _ _),hs.aD⟩)
theorem mT {x:aV} {c:dK} {cells lines locks:Int} (h:1<=x.kind/\x.kind<=15):pG x c cells lines locks=(aM x c.aG c.counts && bM x cells lines locks && (if mS x.kind=true then cW x.e c.aG else !decide (0<(x.e.length:Int))) && (if x.kind=4 then cW x.f c.aG else !decide (0<(x.f.length:Int)))):=by
 unfold pG tD
 rw [decide_eq_true h.1,decide_eq_true h.2]
 cases aM x c.aG c.counts <;> cases bM x cells lines locks <;> simp
theorem IE {x:aV} {c:dK} {cells lines locks:Int} (h:¬ (1<=x.kind/\x.kind<=15)):pG x c cells lines locks=false:=by
 unfold pG
 by_cases h1:1<=x.kind
 ·rw [decide_eq_false (show ¬ x.kind<=15 by omega)]; simp
 rw [decide_eq_false h1]; simp
theorem C222 (y:aV) (yv:aX) (b1:Nat) (a:Int) (w:World) (hy:Deep.dr w yv y) (hc:Cell w b1 1 (.int .i64 a)):CR 222 [Flat.val yv,.pointer (some ⟨b1,0,none⟩)] w (λ v w'=>v = .bool (il y a)/\Ext w w'):=by
 obtain ⟨W9,Xa,rfl,d_e_y,d_f_y⟩:=hy;have hs:=St.start w;refine LN _ _ _ _ ?_;unfold S222;refine dY hs (λ acW _ hs=>⟨λ jv w'=>jv = .bool (il y a)/\St w aZ [cZ acW (Flat.enc (⟨(y).kind,(y).a,(y).b,W9,Xa,(y).to⟩:aX))] w',aA cR (aB (v:=.int .i64 ((y).kind)) bK hs.hb rfl (aF (aC (λ _=>aA eo (aB (v:=.int .i64 ((y).a)) bK hs.hb rfl (aA eo (aK bK (hc.ext hs.aD) (aF ⟨vb (by unfold il; grind),hs⟩))))) (λ _=>⟨vb (by unfold il; grind),hs⟩)))),?_⟩);rintro _ _ ⟨rfl,hs⟩ _;exact ⟨rfl,hs.drop.aD⟩
set_option maxRecDepth 512 in
theorem C180 (lv:Value) (xs:List aV) (i:Nat) (x:aV) (w:World) (hL:DL w lv xs) (hn:xs.length<=1048576) (hx:xs[i]? = some x):CR 180 [lv,.int .i64 (i:Int)] w (λ v w'=>v = .bool (pW xs i x)/\Ext w w'):=by
 have hi:=(List.getElem?_eq_some_iff.1 hx).1;have hs:=St.start w;refine LA _ _ _ _ ?_;unfold S180;obtain ⟨OM,A1,Er⟩:=(hL).open;have hn102:=Er.1;obtain ⟨e_x8,ON⟩:=gx OM (i:=((i:Int)).toNat) (by omega);obtain ⟨mu,OO⟩:=gx (xs) (i:=((i:Int)).toNat) (by omega);obtain ⟨IF,IG,rfl,acX,acY⟩:=Er.2 _ _ _ ON OO;refine aR gp A1 (by omega) ON (λ _ acZ=>?_);obtain rfl:mu=x:=Option.some.inj (OO.symm.trans hx);refine aO eg (acZ.ext hs.aD) (bT hs fK (λ kJ w1 hs=>have hs:=hs.enc (cs':=Flat.enc (⟨0,0,0,⟨none,0,0⟩,⟨none,0,0⟩,0⟩:aX)) rfl;cO (x:=(⟨(mu).kind,(mu).a,(mu).b,IF,IG,(mu).to⟩:aX)) hs eg rfl rfl (λ _ hs=>⟨λ jv w'=>jv = .bool (!Ic xs i mu)/\St w aZ [cZ kJ (Flat.enc (⟨(mu).kind,(mu).a,(mu).b,IF,IG,(mu).to⟩:aX))] w',aA dQ (have hs:=hs.drew;aB (v:=.int .i64 ((mu).to)) bK hs.hb rfl (aN (aC (λ _=>⟨vb (by first | (rw [rM (by omega)]; rfl) | (rw [AW (by omega) (by omega) oK]; unfold il; first | grind | simp_all)),hs⟩) (λ iL=>aA dQ (aB (v:=.int .i64 ((mu).to)) bK hs.hb rfl (cC (aC (λ _=>⟨vb (by first | (rw [rM (by omega)]; rfl) | (rw [AW (by omega) (by omega) oK]; unfold il; first | grind | simp_all)),hs⟩) (λ vu=>?_)))))))),?_⟩)))
 ·refine aA dQ (aB (v:=.int .i64 ((mu).to)) bK hs.hb rfl (eC (by omega) ?_));obtain ⟨gR,gV⟩:=gx OM (i:=(((mu).to - 1)).toNat) (by omega);obtain ⟨tI,oK⟩:=gx (xs) (i:=(((mu).to - 1)).toNat) (by omega);obtain ⟨aaA,aaB,rfl,aaC,aaD⟩:=Er.2 _ _ _ gV oK;refine aR gp A1 (by omega) gV (λ _ vy=>?_);exact dO (tI).kind cR vy rfl rfl (λ _ rP=>aO bK (rP.ext hs.aD) (bJ (aC (λ _=>⟨vb (by first | (rw [rM (by omega)]; rfl) | (rw [AW (by omega) (by omega) oK]; unfold il; first | grind | simp_all)),hs⟩) (λ _=>aA dQ (aB (v:=.int .i64 ((mu).to)) bK hs.hb rfl (eC (by omega) (aR gp A1 (by omega) gV (λ _ A2=>dO (tI).a eo A2 rfl rfl (λ _ IH=>aO bK (IH.ext hs.aD) (aA eo (aB (v:=.int .i64 ((mu).a)) bK hs.hb rfl (bJ ⟨vb (by first | (rw [rM (by omega)]; rfl) | (rw [AW (by omega) (by omega) oK]; unfold il; first | grind | simp_all)),hs⟩))))))))))))
 rintro _ _ ⟨rfl,hs⟩ _;refine bD (λ A3=>⟨vb ((AX (by simpa using A3)).symm),hs.drop.aD⟩) (λ A3=>?_);have WH:Ic xs i mu=true:=by simpa using A3
 have hto:=Ro WH;refine aA dQ (aB (v:=.int .i64 ((mu).to)) bK hs.hb rfl (Fo gp (A1.ext hs.aD) (by omega) (by omega) (by omega) (λ OP RJ=>?_)));have RN:=DL.cut RJ A1 Er
 have Q5:nJ PG _ (.func (.func 222) [].toArray [.pointer (some ⟨kJ,0,none⟩)].toArray) (λ _:aV=>True) (λ y=>il y mu.a):=
  ⟨222,[],_,rfl,Vz,λ s y w1 e1 hd _=>C222 y s kJ mu.a w1 hd ((hs.hb.cell rfl).ext e1)⟩
 refine bF Vy hs (C221 _ _ _ (λ _=>True) _ _ (RN.ext hs.aD) Q5 (λ _ _=>trivial) (by simp; omega)) (λ _ he hs=>bO ?_);refine ⟨vb ?_,hs.drop.aD⟩;unfold pW;rw [WH];simp only [Bool.true_and]
 congr 2
theorem C181 (lv:Value) (xs:List aV) (w:World) (hL:DL w lv xs) (hn:xs.length<=1048576) (hb:OG xs):CR 181 [lv] w (λ v w'=>v = .bool (!(List.range xs.length).any (jI xs))/\Ext w w'):=by
 have hs:=St.start w;refine LB _ _ _ ?_;unfold S181;obtain ⟨OQ,II,IJ⟩:=(hL).open;have hn103:=IJ.1;refine aI gp (II.ext hs.aD) ?_;have hs:=hs.fF (α:=Int);refine ⟨λ m qN x w1=>∃ k:Nat,x = .int .i64 (k:Int)/\m=xs.length - k/\k<=xs.length/\(∀ j,j<k->jI xs j=false)/\St w aZ [bR qN (jL xs k)] w1,⟨_,0,rfl,rfl,Nat.zero_le _,by simp,hs⟩,?_⟩;rintro m qN _ w1 ⟨k,rfl,rfl,hk,gT,hs⟩ _;have hel:=xS xs k;refine aN (aC (λ kL=>?_) (λ kL=>?_))
 ·obtain ⟨e_x15,IK⟩:∃ xx,OQ[((k:Int)).toNat]? = some xx:=⟨_,List.getElem?_eq_getElem (by omega)⟩;obtain ⟨jN,qo⟩:∃ xx,(xs)[((k:Int)).toNat]? = some xx:=⟨_,List.getElem?_eq_getElem (by omega)⟩;obtain ⟨yR,yS,rfl,aaE,aaF⟩:=IJ.2 _ _ _ IK qo;refine ⟨λ ud w'=>jI xs k=false/\St w aZ [bR ud (jL xs (k+1))] w',aR gp II (by omega) IK (λ _ HR=>aO eg (HR.ext hs.aD) (bT hs fK (λ kJ _ hs=>have hs:=hs.enc (cs':=Flat.enc (⟨0,0,0,⟨none,0,0⟩,⟨none,0,0⟩,0⟩:aX)) rfl;cO (x:=(⟨(jN).kind,(jN).a,(jN).b,yR,yS,(jN).to⟩:aX)) hs eg rfl rfl (λ _ hs=>aA cR (aB (v:=.int .i64 ((jN).kind)) bK hs.hb rfl (bJ (aC (λ iM=>?_) (λ iM=>?_)))))))),?_⟩
  ·have hs:=(hs).drop;rw [IC (k:=k) qo (by omega)] at hs;exact ⟨by rw [lh (i:=k) qo,decide_eq_false (show ¬ jN.kind=14 by omega)]; rfl,hs⟩
  ·have hto:=hb k jN qo (by omega);refine aA dQ (aB (v:=.int .i64 ((jN).to)) bK hs.hb rfl (eC (by omega) (aI cB (hs.p1).jo ?_)));have hs:=hs.p1.p1;refine ⟨λ m x w1=>∃ q:Nat,x = .int .i64 (q:Int)/\m=(jL xs k).length - q/\q<=(jL xs k).length/\(∀ e∈(jL xs k).take q,kG xs jN e.toNat=false)/\St w aZ [cZ kJ (Flat.enc (⟨(jN).kind,(jN).a,(jN).b,yR,yS,(jN).to⟩:aX)),bR qN (jL xs k)] w1,⟨_,0,rfl,rfl,Nat.zero_le _,by simp,hs⟩,?_⟩;rintro m _ _ ⟨q,rfl,rfl,hq,RO,hs⟩ _;refine aN (aC (λ OS=>?_) (λ OS=>?_))
   ·obtain ⟨Es,qp⟩:=gx ((jL xs k)) (i:=((q:Int)).toNat) (by omega);refine eu hs.p1 cB (by omega) (by omega) (λ _ IL=>?_);obtain ⟨j,hej,hjk,y,hy,RQ⟩:=FA (List.mem_of_getElem? qp);have hjl:=(List.getElem?_eq_some_iff.1 hy).1;have hyto:=hb j y hy RQ;refine iq hs.p1 bK IL qp ?_;obtain ⟨e_x31,IM⟩:=gx OQ (i:=(Es).toNat) (by omega);obtain ⟨OT,IN⟩:=gx (xs) (i:=(Es).toNat) (by omega);obtain ⟨aaG,aaH,rfl,aaI,aaJ⟩:=IJ.2 _ _ _ IM IN;refine aR gp II (by omega) IM (λ _ nM=>dO (OT).to dQ nM rfl rfl (λ _ IP=>aO bK (IP.ext hs.aD) ?_))
    obtain rfl:OT=y:=Option.some.inj (IN.symm.trans (by rw [hej]; exact hy));refine eC (by omega) ⟨λ jv w'=>jv = .bool (kG xs jN j)/\St w aZ [cZ kJ (Flat.enc (⟨(jN).kind,(jN).a,(jN).b,yR,yS,(jN).to⟩:aX)),bR qN (jL xs k)] w',aN (aC (λ _=>cY ⟨vb (by rw [lK hy,decide_eq_true RQ]; grind),hs⟩) (λ _=>⟨vb (by rw [lK hy,decide_eq_true RQ]; grind),hs⟩)),?_⟩;rintro _ _ ⟨rfl,hs⟩ _;refine bD (λ IQ=>?_) (λ IQ=>aW (by omega) ⟨_,by omega,q+1,rfl,rfl,by omega,fY RO qp (by rw [hej]; exact IQ),hs⟩);have hs:=((hs.drop)).drop;refine ⟨vb ?_,hs.aD⟩
    rw [jH (f:=jI xs) (j:=k) (by omega) (by rw [lh (i:=k) qo,decide_eq_true (show jN.kind=14 by omega)]; exact jH (j:=j) hjk IQ)]; rfl
   refine cM (([(k:Int)]:List Int)) hs cB rfl rfl (ft rfl) (λ Xb _ hs=>?_);have RU:=(hs).jo;refine cN hs.p2 cB RU (by have:=xS xs k; simp; omega) (by decide) (λ Xc _ hs=>?_);have hs:=hs.p1.drop.p1.drop;rw [Fz (k:=k) qo (by omega)] at hs;exact ⟨by rw [lh (i:=k) qo,ID (by rw [List.take_of_length_le (by omega)] at RO; exact RO)]; simp,hs⟩
  rintro ud _ ⟨hpk,hs⟩ _;exact aW (by omega) ⟨_,by omega,k+1,rfl,rfl,by omega,nk gT hpk,hs⟩
 have hs:=(hs).drop;refine ⟨vb ?_,hs.aD⟩;rw [ky (f:=jI xs) (λ j _=>gT j (by omega))]; rfl
theorem C114 (u:eh) (uv:bV) (w:World) (hu:Deep.dr w uv u) (hz:UZ u) (hb:∀ n∈u.lines,-1<=n/\n<=(u.lines.length:Int)):CR 114 [Flat.val uv] w (λ v w'=>v = .int .i64 (fP u)/\Ext w w'):=by
 obtain ⟨cD,bW,bG,ga,bN,rfl,cS,cX,cQ,dD,dL⟩:=hu;obtain ⟨aJ,rfl,cJ⟩:=dD;have hs:=St.start w;refine Ln _ _ _ ?_;unfold S114;refine dY hs (λ iO _ hs=>⟨λ jv w'=>jv = .bool (decide (¬ (1<=u.stays/\u.stays<=u.lines.length)))/\St w aZ [cZ iO (Flat.enc (⟨cD,(u).stays,bW,(u).locks,bG,(⟨((u).recover).aG,((u).recover).counts,aJ⟩:aT),bN⟩:bV))] w',aA fu (aB (v:=.int .i64 ((u).stays)) bK hs.hb rfl (aN (aC (λ _=>⟨vb (by grind),hs⟩) (λ Iw=>?_)))),?_⟩)
 ·refine aA fu (aB (v:=.int .i64 ((u).stays)) bK hs.hb rfl (aA eH (aB cT hs.hb rfl ?_)));have Xd:=DL.flat (cS);exact aI cB (Xd.ext hs.aD) (cC ⟨vb (by grind),hs⟩)
 rintro _ _ ⟨rfl,hs⟩ _;refine bD (λ kL=>?_) (λ kL=>?_)
 ·have CK:¬ (1<=u.stays/\u.stays<=u.lines.length):=of_decide_eq_true kL;exact ⟨congrArg (Value.int .i64) (by unfold fP; rw [if_neg CK]),hs.drop.aD⟩
 have CK:1<=u.stays/\u.stays<=u.lines.length:=by simpa using kL
 have zR:=hz.lines;refine aA eH (aB cT hs.hb rfl ?_);have Xe:=DL.flat (cS);refine aA fu (aB (v:=.int .i64 ((u).stays)) bK hs.hb rfl (eC (by omega) ?_));obtain ⟨xP,fm⟩:=gx ((u).lines) (i:=(((u).stays - 1)).toNat) (by omega);refine aR cB Xe (by omega) fm (λ _ oJ=>aO bK (oJ.ext hs.aD) ?_);have hbe:=hb _ (List.mem_of_getElem? fm);exact aW (by omega) ⟨congrArg (Value.int .i64) (by unfold fP; rw [if_pos CK,List.getD_eq_getElem?_getD,fm]; rfl),hs.drop.aD⟩
theorem C111 (n:Int) (w:World):CR 111 [.int .i64 n] w (λ v w'=>v = .bool (fI n)/\Ext w w'):=by
 have hs:=St.start w;refine Lk _ _ _ ?_;unfold S111;refine ⟨λ jv w'=>jv = .bool (fI n)/\St w aZ [] w',aN (aC (λ _=>⟨vb (by unfold fI; grind),hs⟩) (λ _=>cC ⟨vb (by unfold fI; grind),hs⟩)),?_⟩;rintro _ _ ⟨rfl,hs⟩ _;exact ⟨rfl,hs.aD⟩
theorem C115 (lv:Value) (xs:List gC) (b1:Nat) (many:Int) (w:World) (hL:ee (λ _=>True) w lv xs) (hc:Cell w b1 1 (.int .i64 many)) (hn:xs.length<=1000):CR 115 [lv,.pointer (some ⟨b1,0,none⟩)] w (λ v w'=>v = .bool (!cW xs many)/\Ext w w'):=by
 have hs:=St.start w;refine Lo _ _ _ _ ?_;unfold S115;exact aA fu (aK bK (hc.ext hs.aD) (bF DW hs (C116 _ _ _ _ (hL.ext hs.aD) (by omega)) (λ _ _ hs=>bO ⟨rfl,hs.aD⟩)))
theorem IS {c:dK} {cells lines locks:Int} (h:∀ j,j<c.l.length->mr c cells lines locks j=false):OG c.l:=by
 intro i x hx hk
 have:=h i (List.getElem?_eq_some_iff.1 hx).1
 rw [jJ hx] at this
 simp only [Bool.or_eq_false_iff,Bool.not_eq_false'] at this
 exact sS hk this.2
theorem vN {l:List Int} {k:Nat} {e:Int} (h:l[k]? = some e):fN l (k+1)=e+1:=by
 unfold fN; rw [if_neg (by omega),Nat.add_sub_cancel,List.getD_eq_getElem?_getD,h]; rfl
theorem C113 (c:dK) (cv:aT) (cells lines locks:Int) (w:World) (hc:Deep.dr w cv c) (hz:CZ c):CR 113 [Flat.val cv,.int .i64 cells,.int .i64 lines,.int .i64 locks] w (λ v w'=>v = .bool (gm c cells lines locks)/\Ext w w'):=by
 obtain ⟨fp,rfl,lL⟩:=hc;have zR:=hz.l;have hs:=St.start w;refine Lm _ _ _ _ _ _ ?_;unfold S113;refine dY hs (λ nn w1 hs=>?_);refine ⟨λ jv w'=>jv = .bool (kH c)/\St w aZ [cZ nn (Flat.enc (⟨(c).aG,(c).counts,fp⟩:aT))] w',?_,?_⟩
 ·refine aA gu (aB (v:=.int .i64 ((c).aG)) bK hs.hb rfl (aN (aC (λ iM=>?_) (λ iM=>?_))))
  ·exact ⟨vb (by unfold kH; grind),hs⟩
  ·refine aA gu (aB (v:=.int .i64 ((c).aG)) bK hs.hb rfl (cC (aC (λ mR=>?_) (λ mR=>?_))))
   ·exact ⟨vb (by unfold kH; grind),hs⟩
   ·refine aA kT (aB (v:=.int .i64 ((c).counts)) bK hs.hb rfl (aN (aC (λ HT=>?_) (λ HT=>?_))))
    ·exact ⟨vb (by unfold kH; grind),hs⟩
    ·refine aA kT (aB (v:=.int .i64 ((c).counts)) bK hs.hb rfl (cC ?_));exact ⟨vb (by unfold kH; grind),hs⟩
 ·rintro _ _ ⟨rfl,hs⟩ _;refine bD (λ mO=>?_) (λ mO=>?_)
  ·have hs:=(hs).drop;refine ⟨vb ?_,hs.aD⟩;unfold gm;rw [mO]; rfl
  ·refine aA dZ (aB fG hs.hb rfl ?_);obtain ⟨Xf,IT,OU⟩:=(lL).open;have hn106:=OU.1;refine aI gp (IT.ext hs.aD) ?_;refine ⟨λ m x w1=>∃ k:Nat,x = .int .i64 (k:Int)/\m=c.l.length - k/\k<=c.l.length/\(∀ j,j<k->mr c cells lines locks j=false)/\St w aZ [cZ nn (Flat.enc (⟨(c).aG,(c).counts,fp⟩:aT))] w1,⟨_,0,rfl,rfl,Nat.zero_le _,by simp,hs⟩,?_⟩;rintro m _ _ ⟨k,rfl,rfl,hk,gT,hs⟩ _;refine aN (aC (λ IU=>?_) (λ IU=>?_))
   ·obtain ⟨e_x41,IV⟩:=gx Xf (i:=((k:Int)).toNat) (by omega);obtain ⟨bQ,qs⟩:=gx ((c).l) (i:=((k:Int)).toNat) (by omega);obtain ⟨kZ,k8,rfl,Et,Eu⟩:=OU.2 _ _ _ IV qs;refine aR gp IT (by omega) IV (λ _ Xg=>aO eg (Xg.ext hs.aD) (bT hs fK (λ eV _ hs=>have hs:=hs.enc (cs':=Flat.enc (⟨0,0,0,⟨none,0,0⟩,⟨none,0,0⟩,0⟩:aX)) rfl;cO (x:=(⟨(bQ).kind,(bQ).a,(bQ).b,kZ,k8,(bQ).to⟩:aX)) hs eg rfl rfl (λ _ hs=>?_))));refine ⟨λ jv w'=>jv = .bool (decide (bQ.kind<1) || decide (16<=bQ.kind))/\St w aZ [cZ eV (Flat.enc (⟨(bQ).kind,(bQ).a,(bQ).b,kZ,k8,(bQ).to⟩:aX)),cZ nn (Flat.enc (⟨(c).aG,(c).counts,fp⟩:aT))] w',?_,?_⟩
    ·refine aA cR (aB (v:=.int .i64 ((bQ).kind)) bK hs.hb rfl (aN (aC (λ fh=>?_) (λ fh=>?_))))
     ·exact ⟨vb (by grind),hs⟩
     ·refine aA cR (aB (v:=.int .i64 ((bQ).kind)) bK hs.hb rfl (cY ?_));exact ⟨vb (by grind),hs⟩
    ·rintro _ _ ⟨rfl,hs⟩ _;refine bD (λ Xh=>?_) (λ Xh=>?_)
     ·have hs:=((hs.drop)).drop;refine ⟨vb ?_,hs.aD⟩;unfold gm;rw [jH (f:=mr c cells lines locks) (j:=k) (by omega) (by rw [jJ (i:=k) qs,IE (by grind)]; rfl)]; simp
     ·have iH:1<=bQ.kind/\bQ.kind<=15:=by grind
      refine aA eo (have hs:=hs.drew;aB (v:=.int .i64 ((bQ).a)) bK hs.hb rfl (aA gu (aB (v:=.int .i64 ((c).aG)) bK hs.p1.hb rfl (eF (first:=[]) (cap:=[.pointer (some ⟨eV,0,none⟩)]) l9 (C176 bQ.kind 114 eV (decide (bQ.kind=1\/bQ.kind=2\/bQ.kind=4)) _ ((hs).hb.cell rfl) iH ((jK iH).1)) ?_))));rintro _ _ ⟨rfl,he⟩;have hs:=hs.ext he;refine ⟨aH bK (hs.hb.cell rfl),?_⟩;refine ⟨aH bK (hs.p1.hb.cell rfl),?_⟩;refine bF Ac hs (C179 _ _ _ _) (λ _ he hs=>?_);refine ⟨λ jv w'=>jv = .bool (aM bQ c.aG c.counts)/\St w aZ [cZ eV (Flat.enc (⟨(bQ).kind,(bQ).a,(bQ).b,kZ,k8,(bQ).to⟩:aX)),cZ nn (Flat.enc (⟨(c).aG,(c).counts,fp⟩:aT))] w',?_,?_⟩
      ·refine eF (first:=[]) (cap:=[.pointer (some ⟨eV,0,none⟩)]) l9 (C176 bQ.kind 107 eV (decide (bQ.kind=13\/bQ.kind=14)) _ ((hs).hb.cell rfl) iH ((jK iH).2.1)) ?_;rintro _ _ ⟨rfl,he⟩;have hs:=hs.ext he;refine bD (λ rJ=>?_) (λ rJ=>?_)
       ·refine aA eo (aB (v:=.int .i64 ((bQ).a)) bK hs.hb rfl (aA kT (aB (v:=.int .i64 ((c).counts)) bK hs.p1.hb rfl (bF Ac hs (C179 true _ _ _) (λ _ he hs=>?_)))));exact ⟨vb (by unfold aM; grind),hs⟩
       ·exact ⟨vb (by unfold aM; grind),hs⟩
      ·rintro _ _ ⟨rfl,hs⟩ _;refine aA fo (aB (v:=.int .i64 ((bQ).b)) bK hs.hb rfl (aF ?_));refine ⟨λ jv w'=>jv = .bool (bM bQ cells lines locks)/\St w aZ [cZ eV (Flat.enc (⟨(bQ).kind,(bQ).a,(bQ).b,kZ,k8,(bQ).to⟩:aX)),cZ nn (Flat.enc (⟨(c).aG,(c).counts,fp⟩:aT))] w',?_,?_⟩
       ·refine eF (first:=[]) (cap:=[.pointer (some ⟨eV,0,none⟩)]) l9 (C176 bQ.kind 99 eV (decide (bQ.kind=2\/bQ.kind=3\/bQ.kind=4)) _ ((hs).hb.cell rfl) iH ((jK iH).2.2.1)) ?_;rintro _ _ ⟨rfl,he⟩;have hs:=hs.ext he;refine bD (λ nO=>?_) (λ nO=>?_)
        ·refine aA fo (aB (v:=.int .i64 ((bQ).b)) bK hs.hb rfl (bF Ac hs (C179 true _ _ _) (λ _ he hs=>?_)));exact ⟨vb (by unfold bM; grind),hs⟩
        ·refine eF (first:=[]) (cap:=[.pointer (some ⟨eV,0,none⟩)]) l9 (C176 bQ.kind 108 eV (decide (bQ.kind=5\/bQ.kind=6)) _ ((hs).hb.cell rfl) iH ((jK iH).2.2.2.1)) ?_;rintro _ _ ⟨rfl,he⟩;have hs:=hs.ext he;refine bD (λ HO=>?_) (λ HO=>?_)
         ·refine aA fo (aB (v:=.int .i64 ((bQ).b)) bK hs.hb rfl (bF Ac hs (C179 true _ _ _) (λ _ he hs=>?_)));exact ⟨vb (by unfold bM; grind),hs⟩
         ·refine eF (first:=[]) (cap:=[.pointer (some ⟨eV,0,none⟩)]) l9 (C176 bQ.kind 109 eV (decide (bQ.kind=9\/bQ.kind=10)) _ ((hs).hb.cell rfl) iH ((jK iH).2.2.2.2.1)) ?_;rintro _ _ ⟨rfl,he⟩;have hs:=hs.ext he;refine bD (λ vK=>?_) (λ vK=>?_)
          ·refine aA fo (aB (v:=.int .i64 ((bQ).b)) bK hs.hb rfl (bF Ac hs (C179 true _ _ _) (λ _ he hs=>?_)));exact ⟨vb (by unfold bM; grind),hs⟩
          ·refine eF (first:=[]) (cap:=[.pointer (some ⟨eV,0,none⟩)]) l9 (C176 bQ.kind 110 eV (decide (bQ.kind=13)) _ ((hs).hb.cell rfl) iH ((jK iH).2.2.2.2.2.1)) ?_;rintro _ _ ⟨rfl,he⟩;have hs:=hs.ext he;refine bD (λ Xi=>?_) (λ Xi=>?_)
           ·refine aA fo (aB (v:=.int .i64 ((bQ).b)) bK hs.hb rfl (cY (aC (λ OV=>?_) (λ OV=>?_))))
            ·refine aA fo (aB (v:=.int .i64 ((bQ).b)) bK hs.hb rfl (fW ?_));exact ⟨vb (by unfold bM; grind),hs⟩
            ·exact ⟨vb (by unfold bM; grind),hs⟩
           ·exact ⟨vb (by unfold bM; grind),hs⟩
       ·rintro _ _ ⟨rfl,hs⟩ _;refine ⟨λ jv w'=>jv = .bool (if mS bQ.kind=true then cW bQ.e c.aG else !decide (0<(bQ.e.length:Int)))/\St w aZ [cZ eV (Flat.enc (⟨(bQ).kind,(bQ).a,(bQ).b,kZ,k8,(bQ).to⟩:aX)),cZ nn (Flat.enc (⟨(c).aG,(c).counts,fp⟩:aT))] w',?_,?_⟩
        ·refine eF (first:=[]) (cap:=[.pointer (some ⟨eV,0,none⟩)]) l9 (C176 bQ.kind 101 eV (mS bQ.kind) _ ((hs).hb.cell rfl) iH ((jK iH).2.2.2.2.2.2.1)) ?_;rintro _ _ ⟨rfl,he⟩;have hs:=hs.ext he;refine bD (λ RW=>?_) (λ RW=>?_)
         ·refine aA gy (aB gh hs.hb rfl ?_);have OW:=DL.flat (Et);refine aA gu (aB (v:=.int .i64 ((c).aG)) bK hs.p1.hb rfl (bF DW hs (C116 _ _ _ _ (OW.ext hs.aD) (by have:=hz.ef _ (List.mem_of_getElem? qs); omega)) (λ _ he hs=>bD (λ IW=>?_) (λ IW=>?_))))
          ·exact ⟨vb (by grind),hs⟩
          ·refine eF (first:=[]) (cap:=[.pointer (some ⟨eV,0,none⟩)]) l9 (C176 bQ.kind 101 eV (mS bQ.kind) _ ((hs).hb.cell rfl) iH ((jK iH).2.2.2.2.2.2.1)) ?_;rintro _ _ ⟨rfl,he⟩;have hs:=hs.ext he;refine bO (bD (λ RX=>?_) (λ RX=>?_))
           ·refine aA gy (aB gh hs.hb rfl (aI e8 (OW.ext hs.aD) (aF ?_)));exact ⟨vb (by grind),hs⟩
           ·exact ⟨vb (by grind),hs⟩
         ·refine eF (first:=[]) (cap:=[.pointer (some ⟨eV,0,none⟩)]) l9 (C176 bQ.kind 101 eV (mS bQ.kind) _ ((hs).hb.cell rfl) iH ((jK iH).2.2.2.2.2.2.1)) ?_;rintro _ _ ⟨rfl,he⟩;have hs:=hs.ext he;refine bO (bD (λ IX=>?_) (λ IX=>?_))
          ·refine aA gy (aB gh hs.hb rfl ?_);have Xj:=DL.flat (Et);refine aI e8 (Xj.ext hs.aD) (aF ?_);exact ⟨vb (by grind),hs⟩
          ·exact ⟨vb (by grind),hs⟩
        ·rintro _ _ ⟨rfl,hs⟩ _;refine ⟨λ jv w'=>jv = .bool (if bQ.kind=4 then cW bQ.f c.aG else !decide (0<(bQ.f.length:Int)))/\St w aZ [cZ eV (Flat.enc (⟨(bQ).kind,(bQ).a,(bQ).b,kZ,k8,(bQ).to⟩:aX)),cZ nn (Flat.enc (⟨(c).aG,(c).counts,fp⟩:aT))] w',?_,?_⟩
         ·refine eF (first:=[]) (cap:=[.pointer (some ⟨eV,0,none⟩)]) l9 (C176 bQ.kind 102 eV (decide (bQ.kind=4)) _ ((hs).hb.cell rfl) iH ((jK iH).2.2.2.2.2.2.2.1)) ?_;rintro _ _ ⟨rfl,he⟩;have hs:=hs.ext he;refine bD (λ CO=>?_) (λ CO=>?_)
          ·refine aA ep (aB gh hs.hb rfl ?_);have OX:=DL.flat (Eu);refine aA gu (aB (v:=.int .i64 ((c).aG)) bK hs.p1.hb rfl (bF DW hs (C116 _ _ _ _ (OX.ext hs.aD) (by have:=hz.ef _ (List.mem_of_getElem? qs); omega)) (λ _ he hs=>bD (λ RY=>?_) (λ RY=>?_))))
           ·exact ⟨vb (by grind),hs⟩
           ·refine eF (first:=[]) (cap:=[.pointer (some ⟨eV,0,none⟩)]) l9 (C176 bQ.kind 102 eV (decide (bQ.kind=4)) _ ((hs).hb.cell rfl) iH ((jK iH).2.2.2.2.2.2.2.1)) ?_;rintro _ _ ⟨rfl,he⟩;have hs:=hs.ext he;refine bO (bD (λ RZ=>?_) (λ RZ=>?_))
            ·refine aA ep (aB gh hs.hb rfl (aI e8 (OX.ext hs.aD) (aF ?_)));exact ⟨vb (by grind),hs⟩
            ·exact ⟨vb (by grind),hs⟩
          ·refine eF (first:=[]) (cap:=[.pointer (some ⟨eV,0,none⟩)]) l9 (C176 bQ.kind 102 eV (decide (bQ.kind=4)) _ ((hs).hb.cell rfl) iH ((jK iH).2.2.2.2.2.2.2.1)) ?_;rintro _ _ ⟨rfl,he⟩;have hs:=hs.ext he;refine bO (bD (λ AY=>?_) (λ AY=>?_))
           ·refine aA ep (aB gh hs.hb rfl ?_);have Xk:=DL.flat (Eu);refine aI e8 (Xk.ext hs.aD) (aF ?_);exact ⟨vb (by grind),hs⟩
           ·exact ⟨vb (by grind),hs⟩
         ·rintro _ _ ⟨rfl,hs⟩ _;refine aA dQ (aB (v:=.int .i64 ((bQ).to)) bK hs.hb rfl (aF ?_));refine ⟨λ jv w'=>jv = .bool (wO c.l k bQ)/\St w aZ [cZ eV (Flat.enc (⟨(bQ).kind,(bQ).a,(bQ).b,kZ,k8,(bQ).to⟩:aX)),cZ nn (Flat.enc (⟨(c).aG,(c).counts,fp⟩:aT))] w',?_,?_⟩
          ·refine ⟨λ jv w'=>jv = .bool (decide (bQ.kind=14))/\St w aZ [cZ eV (Flat.enc (⟨(bQ).kind,(bQ).a,(bQ).b,kZ,k8,(bQ).to⟩:aX)),cZ nn (Flat.enc (⟨(c).aG,(c).counts,fp⟩:aT))] w',?_,?_⟩
           ·refine eF (first:=[]) (cap:=[.pointer (some ⟨eV,0,none⟩)]) l9 (C176 bQ.kind 116 eV (decide (bQ.kind=11\/bQ.kind=12\/bQ.kind=14)) _ ((hs).hb.cell rfl) iH ((jK iH).2.2.2.2.2.2.2.2)) ?_;rintro _ _ ⟨rfl,he⟩;have hs:=hs.ext he;refine bD (λ R0=>?_) (λ R0=>?_)
            ·refine aA cR (aB (v:=.int .i64 ((bQ).kind)) bK hs.hb rfl (aF ?_));exact ⟨vb (by grind),hs⟩
            ·exact ⟨vb (by grind),hs⟩
           ·rintro _ _ ⟨rfl,hs⟩ _;refine bD (λ R1=>?_) (λ R1=>?_)
            ·refine aA dZ (aB fG hs.p1.hb rfl (bF Vd hs (C180 _ _ _ _ _ (lL.ext hs.aD) (by omega) qs) (λ _ he hs=>?_)));exact ⟨vb (by unfold wO; grind),hs⟩
            ·refine eF (first:=[]) (cap:=[.pointer (some ⟨eV,0,none⟩)]) l9 (C176 bQ.kind 116 eV (decide (bQ.kind=11\/bQ.kind=12\/bQ.kind=14)) _ ((hs).hb.cell rfl) iH ((jK iH).2.2.2.2.2.2.2.2)) ?_;rintro _ _ ⟨rfl,he⟩;have hs:=hs.ext he;refine bD (λ R2=>?_) (λ R2=>?_)
             ·refine aA dQ (aB (v:=.int .i64 ((bQ).to)) bK hs.hb rfl (cC (aC (λ R3=>?_) (λ R3=>?_))))
              ·refine aA dQ (aB (v:=.int .i64 ((bQ).to)) bK hs.hb rfl (aA dZ (aB fG hs.p1.hb rfl (aI gp (IT.ext hs.aD) (fW ?_)))));exact ⟨vb (by unfold wO; grind),hs⟩
              ·exact ⟨vb (by unfold wO; grind),hs⟩
             ·exact ⟨vb (by unfold wO; grind),hs⟩
          ·rintro _ _ ⟨rfl,hs⟩ _;refine ⟨λ jv w'=>jv = .bool (!pG bQ c cells lines locks || !wO c.l k bQ)/\St w aZ [cZ eV (Flat.enc (⟨(bQ).kind,(bQ).a,(bQ).b,kZ,k8,(bQ).to⟩:aX)),cZ nn (Flat.enc (⟨(c).aG,(c).counts,fp⟩:aT))] w',?_,?_⟩
           ·refine bO (bD (λ R4=>?_) (λ R4=>?_))
            ·exact ⟨vb (by rw [mT iH]; grind),hs⟩
            ·refine bO (bD (λ R5=>?_) (λ R5=>?_))
             ·exact ⟨vb (by rw [mT iH]; grind),hs⟩
             ·refine bO (bD (λ R6=>?_) (λ R6=>?_))
              ·exact ⟨vb (by rw [mT iH]; grind),hs⟩
              ·refine bO (bD (λ R7=>?_) (λ R7=>?_))
               ·exact ⟨vb (by rw [mT iH]; grind),hs⟩
               ·refine bO ?_;exact ⟨vb (by rw [mT iH]; grind),hs⟩
           ·rintro _ _ ⟨rfl,hs⟩ _;refine bD (λ CP=>?_) (λ CP=>?_)
            ·have hs:=((hs.drop)).drop;refine ⟨vb ?_,hs.aD⟩;unfold gm;rw [jH (f:=mr c cells lines locks) (j:=k) (by omega) (by rw [jJ (i:=k) qs]; exact CP)]; simp
            ·refine aW (by omega) ?_;have hs:=(hs).drop;exact ⟨_,by omega,k+1,rfl,rfl,by omega,nk gT (by rw [jJ (i:=k) qs]; exact CP),hs⟩
   ·refine aA dZ (aB fG hs.hb rfl (bF Ve hs (C181 _ _ _ (lL.ext hs.aD) (by omega) (IS (cells:=cells) (lines:=lines) (locks:=locks) (λ j _=>gT j (by omega)))) (λ _ he hs=>?_)));have hs:=(hs).drop;refine ⟨vb ?_,hs.aD⟩;unfold gm;rw [mO,ky (f:=mr c cells lines locks) (λ j _=>gT j (by omega))]; simp
theorem C112 (c:dK) (cv:aT) (u:eh) (uv:bV) (b1:Nat) (w:World) (hc:Deep.dr w cv c) (hA:At (λ _=>True) w (.pointer (some ⟨b1,0,none⟩)) uv) (hu:Deep.dr w uv u) (hz:CZ c) (hzu:UZ u) (hb:∀ n∈u.lines,-1<=n/\n<=(u.lines.length:Int)):CR 112 [Flat.val cv,.pointer (some ⟨b1,0,none⟩)] w (λ v w'=>v = .bool (!gm c u.lines.length (fP u) u.locks)/\Ext w w'):=by
 obtain ⟨fp,rfl,lL⟩:=hc;obtain ⟨cD,bW,bG,ga,bN,rfl,cS,cX,cQ,dD,dL⟩:=hu;obtain ⟨aJ,rfl,cJ⟩:=dD;have hs:=St.start w;refine Ll _ _ _ _ ?_;unfold S112;refine dY hs (λ b_c2 _ hs=>have hs:=hs.drew;aO gJ hs.At (dO cD eH hA rfl rfl (λ _ Xl=>aO cT (Xl.ext hs.aD) ?_)));have Xm:=DL.flat (cS);refine aI cB (Xm.ext hs.aD) (aO mj (hA.ext hs.aD) (dO (u).locks kc hA rfl rfl (λ _ Ev=>aO bK (Ev.ext hs.aD) (bF UT hs (C114 u _ _ ⟨cD,bW,bG,(⟨((u).recover).aG,((u).recover).counts,aJ⟩:aT),bN,rfl,(cS.ext hs.aD),(cX.ext hs.aD),(cQ.ext hs.aD),⟨aJ,rfl,(cJ.ext hs.aD)⟩,(dL.ext hs.aD)⟩ hzu hb) (λ _ he hs=>?_)))))
 refine ⟨eE gJ hs.At,?_⟩;refine ⟨eE cT (Xl.ext hs.aD),?_⟩;refine ⟨eE bK (Ev.ext hs.aD),?_⟩;exact bF US hs (C113 c _ _ _ _ _ ⟨fp,rfl,(lL.ext hs.aD)⟩ hz) (λ _ _ hs=>bO ⟨rfl,hs.drop.aD⟩)
theorem C51 (u:eh) (uv:bV) (w:World) (hu:Deep.dr w uv u) (hz:UZ u):CR 51 [Flat.val uv] w (λ v w'=>v = .bool (dU u)/\Ext w w'):=by
 have hu0:=hu;obtain ⟨cD,bW,bG,ga,bN,rfl,cS,cX,cQ,dD,dL⟩:=hu;obtain ⟨aJ,rfl,cJ⟩:=dD;have hs:=St.start w;refine QK _ _ _ ?_;unfold S51;refine dY hs (λ iO w1 hs=>⟨λ jv w'=>jv = .bool (eR u)/\St w aZ [cZ iO (Flat.enc (⟨cD,(u).stays,bW,(u).locks,bG,(⟨((u).recover).aG,((u).recover).counts,aJ⟩:aT),bN⟩:bV))] w',?_,?_⟩)
 ·refine aA eH (aB cT hs.hb rfl ?_);have IY:=DL.flat (cS);refine aI cB (IY.ext hs.aD) (cC (aC (λ _=>⟨vb (by unfold eR; grind),hs⟩) (λ kL=>aA fu (aB (v:=.int .i64 ((u).stays)) bK hs.hb rfl (aN (aC (λ _=>⟨vb (by unfold eR; grind),hs⟩) (λ vu=>aA fu (aB (v:=.int .i64 ((u).stays)) bK hs.hb rfl (aA eH (aB cT hs.hb rfl (aI cB (IY.ext hs.aD) (cC (aC (λ _=>⟨vb (by unfold eR; grind),hs⟩) (λ gY=>aA jw (aB cT hs.hb rfl ?_)))))))))))))));have Xn:=DL.flat (cX);refine aI cB (Xn.ext hs.aD) (aA eH (aB cT hs.hb rfl (aI cB (IY.ext hs.aD) (bJ (aC (λ _=>⟨vb (by unfold eR; grind),hs⟩) (λ mO=>aA kc (aB (v:=.int .i64 ((u).locks)) bK hs.hb rfl (aN (aC (λ _=>⟨vb (by unfold eR; grind),hs⟩) (λ IU=>aA kc (aB (v:=.int .i64 ((u).locks)) bK hs.hb rfl (cC (aC (λ _=>⟨vb (by unfold eR; grind),hs⟩) (λ Ei=>aA fX (aB mI hs.hb rfl ?_)))))))))))))))
  obtain ⟨ts114,OY,Xo⟩:=(cQ).open;have hn114:=Xo.1;exact aI kR (OY.ext hs.aD) (aN (aC (λ _=>⟨vb (by unfold eR; grind),hs⟩) (λ _=>aA fX (aB mI hs.hb rfl (aI kR (OY.ext hs.aD) (cC ⟨vb (by unfold eR; grind),hs⟩))))))
 rintro _ _ ⟨rfl,hs⟩ _;refine bD (λ xK=>?_) (λ xK=>?_)
 ·have hs:=(hs).drop;refine ⟨vb ?_,hs.aD⟩;unfold dU;rw [xK]; rfl
 obtain ⟨L5,Wb,hb3,hb4,hb5,hb6,hb7,hb8⟩:=vL xK;have hzc:=hz.bU;have hzt:=hz.threads;have nP:=hz.bP;refine aA eH (aB cT hs.hb rfl ?_);have OZ:=DL.flat (cS);refine aI cB (OZ.ext hs.aD) ?_;refine ⟨λ m y x w1=>∃ (k:Nat) (last:Int),y = .int .i64 last/\x = .int .i64 (k:Int)/\m=u.lines.length - k/\k<=u.lines.length/\last=fN u.lines k - 1/\(∀ j,j<k->fZ u j=false)/\St w aZ [cZ iO (Flat.enc (⟨cD,(u).stays,bW,(u).locks,bG,(⟨((u).recover).aG,((u).recover).counts,aJ⟩:aT),bN⟩:bV))] w1,⟨_,0,-1,rfl,rfl,rfl,Nat.zero_le _,rfl,by simp,hs⟩,?_⟩
 rintro m _ _ w3 ⟨k,last,rfl,rfl,rfl,hk,O0,yP,hs⟩ _;refine aN (aC (λ nN=>?_) (λ nN=>?_))
 ·obtain ⟨O1,yT⟩:=gx ((u).lines) (i:=((k:Int)).toNat) (by omega);refine aR cB OZ (by omega) yT (λ _ Xp=>?_)
  have hwb : -1<=last/\last<=(k:Int):=by
   by_cases h0:k=0
   ·subst h0; rw [O0]; unfold fN; simp
   ·obtain ⟨m,hm⟩:∃ m,u.lines[k - 1]? = some m:=⟨_,List.getElem?_eq_getElem (by omega)⟩;have h1:=sT yP (k - 1) m (by omega) hm;have h2:=vN hm;rw [show k - 1+1=k from by omega] at h2;omega
  refine aO bK (Xp.ext hs.aD) ⟨λ jv w'=>jv = .bool (decide (0<(k:Int)) && decide ((k:Int)<u.stays) && decide (O1=last))/\St w aZ [cZ iO (Flat.enc (⟨cD,(u).stays,bW,(u).locks,bG,(⟨((u).recover).aG,((u).recover).counts,aJ⟩:aT),bN⟩:bV))] w',cC (aC (λ _=>aA fu (aB (v:=.int .i64 ((u).stays)) bK hs.hb rfl (aN (aC (λ _=>aF ⟨vb (by grind),hs⟩) (λ _=>⟨vb (by grind),hs⟩))))) (λ _=>⟨vb (by grind),hs⟩)),?_⟩;rintro _ _ ⟨rfl,hs⟩ _;refine ⟨λ jv w'=>jv = .bool (fZ u k)/\St w aZ [cZ iO (Flat.enc (⟨cD,(u).stays,bW,(u).locks,bG,(⟨((u).recover).aG,((u).recover).counts,aJ⟩:aT),bN⟩:bV))] w',bO (bD (λ _=>aW (by omega) (bJ ⟨vb (by rw [lr (k:=k) yT]; grind),hs⟩)) (λ _=>⟨vb (by rw [lr (k:=k) yT]; grind),hs⟩)),?_⟩
  rintro _ _ ⟨rfl,hs⟩ _;refine bD (λ IZ=>?_) (λ IZ=>aW (by omega) ⟨_,by omega,k+1,O1,rfl,rfl,rfl,by omega,by rw [vN (k:=k) yT]; omega,nk yP IZ,hs⟩);have hs:=(hs).drop;refine ⟨vb ?_,hs.aD⟩;unfold dU;rw [jH (f:=fZ u) (j:=k) (by omega) IZ]; simp
 have hL:(List.range u.lines.length).any (fZ u)=false:=ky (λ j _=>yP j (by omega));have A0:=tH (u:=u) (λ j _=>yP j (by omega));refine ⟨λ jv w'=>jv = .bool ((!u.bP.any fI) && (!u.threads.any (λ c=>!gm c u.lines.length (fP u) u.locks)) && gm u.recover u.lines.length (fP u) u.locks && (!u.bU.any (λ l=>!cW l u.stays)))/\St w aZ [cZ iO (Flat.enc (⟨cD,(u).stays,bW,(u).locks,bG,(⟨((u).recover).aG,((u).recover).counts,aJ⟩:aT),bN⟩:bV))] w',?_,?_⟩
 ·refine aA jw (aB cT hs.hb rfl ?_);have Xq:=DL.flat (cX);have hf1:tX w3 (.func (.func 111) #[] #[]) fI:=⟨111,[],[],rfl,UR,λ x w1 _=>C111 x w1⟩;refine bF UW hs (C117 _ _ _ fI _ (Xq.ext hs.aD) hf1 (by omega)) (λ _ he hs=>bO (bD (λ OV=>?_) (λ _=>⟨vb (by grind),hs⟩)));refine aA fX (aB mI hs.hb rfl ?_);have Lf:nJ PG _ (.func (.func 112) [].toArray [.pointer (some ⟨iO,0,none⟩)].toArray) CZ (λ c=>!gm c u.lines.length (fP u) u.locks):=⟨112,[],_,rfl,N2,λ s c w1 e1 hd hzc=>C112 c s u _ iO w1 hd (hs.At.ext e1) (Deep.ext hu0 (Ext.trans hs.aD e1)) hzc hz A0⟩
  refine bF UX hs (C118 _ _ _ CZ (λ c=>!gm c u.lines.length (fP u) u.locks) _ (cQ.ext hs.aD) Lf hz.th (by omega)) (λ _ he hs=>bO (bD (λ I0=>?_) (λ _=>⟨vb (by grind),hs⟩)));refine aA qX (uj (⟨((u).recover).aG,((u).recover).counts,aJ⟩:aT) gJ hs.hb rfl (eF (first:=[]) (cap:=[.pointer (some ⟨iO,0,none⟩)]) N2 (C112 u.recover _ u _ iO _ ⟨aJ,rfl,(cJ.ext hs.aD)⟩ hs.At (Deep.ext hu0 hs.aD) hz.rc hz A0) ?_));rintro _ _ ⟨rfl,he⟩;have hs:=hs.ext he;refine bO (bD (λ IW=>?_) (λ _=>⟨vb (by grind),hs⟩));refine aA ir (aB qW hs.hb rfl ?_)
  have hf3:nJ PG _ (.func (.func 115) [].toArray [.pointer (some ⟨iO,0,none⟩)].toArray) (λ l:List gC=>l.length<=1000) (λ l=>!cW l u.stays):=⟨115,[],_,rfl,UU,λ _ l w1 e1 hd hl=>C115 _ l iO u.stays w1 (DL.flat hd) ((hs.hb.cell rfl).ext e1) hl⟩;exact bF UY hs (C119 _ _ _ (λ l:List gC=>l.length<=1000) (λ l=>!cW l u.stays) _ (dL.ext hs.aD) hf3 hz.cl (by omega)) (λ _ _ hs=>bO ⟨vb (by grind),hs⟩)
 rintro _ _ ⟨rfl,hs⟩ _;have hs:=(hs).drop;refine ⟨vb ?_,hs.aD⟩;unfold dU;rw [xK,hL];simp only [Bool.not_false,Bool.true_and,Bool.and_true];cases u.bP.any fI <;> cases u.threads.any (λ c=>!gm c u.lines.length (fP u) u.locks) <;> cases u.bU.any (λ l=>!cW l u.stays) <;> cases gm u.recover u.lines.length (fP u) u.locks <;> rfl
theorem I1 {α:Type} {t1 d:List α} {e y y2:α} {k:Nat} (hk:t1.length=k):((t1++e::d).set k y).set k y2=t1++[y2]++d:=by
 subst hk
 rw [List.set_append_right _ _ (Nat.le_refl _),Nat.sub_self,List.set_cons_zero,List.set_append_right _ _ (Nat.le_refl _),Nat.sub_self,List.set_cons_zero]; simp
theorem set_self? {α:Type} {l:List α} {k:Nat} {y e:α} (h:(l.set k y)[k]? = some e):e=y:=by
 have hk:=(List.getElem?_eq_some_iff.1 h).1
 rw [List.length_set] at hk
 rw [List.getElem?_set_self hk] at h
 exact (Option.some.inj h).symm
def A4 (x:aV):aV:=⟨x.kind,x.a,x.b,x.e.take 50,x.f.take 50,x.to⟩
def gb (c:dK):dK:=⟨c.aG,c.counts,(c.l.take 60).map A4⟩
def mU (u:eh):eh:=⟨u.lines.take 10,u.stays,u.bP.take 10,u.locks,(u.threads.take 4).map gb,gb u.recover,(u.bU.take 5).map (λ l=>l.take 50)⟩
theorem jZ {α:Type} (l:List α) (n:Nat):l.take (min (l.length:Int) n).toNat=l.take n:=by
 rcases Nat.lt_or_ge l.length n with h | h
 ·rw [List.take_of_length_le (by omega),List.take_of_length_le (by omega)]
 rw [show (min (l.length:Int) n).toNat=n from by omega]
theorem vO (c:dK):CZ (gb c):=by
 refine ⟨?_,λ x hx=>?_⟩
 ·show ((c.l.take 60).map A4).length<=1000
  rw [List.length_map,List.length_take]; omega
 obtain ⟨y,_,rfl⟩:=List.mem_map.1 (show x∈(c.l.take 60).map A4 from hx)
 refine ⟨?_,?_⟩
 ·show (y.e.take 50).length<=1000; rw [List.length_take]; omega
 show (y.f.take 50).length<=1000; rw [List.length_take]; omega
theorem Mv (u:eh):UZ (mU u):=by
 refine {lines:=by show (u.lines.take 10).length<=1000; rw [List.length_take]; omega,bP:=by show (u.bP.take 10).length<=1000; rw [List.length_take]; omega,threads:=by show ((u.threads.take 4).map gb).length<=1000; rw [List.length_map,List.length_take]; omega,bU:=by show ((u.bU.take 5).map _).length<=1000; rw [List.length_map,List.length_take]; omega,th:=λ c hc=>?_,rc:=vO _,cl:=λ l hl=>?_}
 ·obtain ⟨y,_,rfl⟩:=List.mem_map.1 (show c∈(u.threads.take 4).map gb from hc)
  exact vO y
 obtain ⟨y,_,rfl⟩:=List.mem_map.1 (show l∈(u.bU.take 5).map (λ l=>l.take 50) from hl)
 show (y.take 50).length<=1000
 rw [List.length_take]; omega
theorem C121 (sv:Value) (xs:List gC) (w:World) (hL:ee (λ _=>True) w sv xs) (hn:xs.length<=1000000):CR 121 [sv] w (λ v w'=>pD (bR v xs) w w'):=by
 have hs:=St.start w;refine jT Tryz.func121 ?_;refine sN Tryz.underlying99 (hL.ext hs.aD) (λ p hp=>bD (λ xb=>?_) (λ xb=>?_))
 ·have hx:=hp xb;subst hx;exact (hs.fF (α:=gC)).fresh
 refine cM (([]:List gC)) hs e8 rfl rfl (ft rfl) (λ R8 _ hs=>?_);have A5:=(hL.ext hs.aD);exact cN hs e8 A5 (by simp; omega) (by decide) (λ _ _ hs=>hs.fresh)
theorem C70 (sv:Value) (xs:List Int) (w:World) (hL:ee (λ _=>True) w sv xs) (hn:xs.length<=1000000):CR 70 [sv] w (λ v w'=>pD (bR v xs) w w'):=by
 have hs:=St.start w;refine jT Tryz.func70 ?_;refine sN Tryz.underlying28 (hL.ext hs.aD) (λ p hp=>bD (λ xb=>?_) (λ xb=>?_))
 ·have hx:=hp xb;subst hx;exact (hs.fF (α:=Int)).fresh
 refine cM (([]:List Int)) hs cB rfl rfl (ft rfl) (λ R8 _ hs=>?_);have A5:=(hL.ext hs.aD);exact cN hs cB A5 (by simp; omega) (by decide) (λ _ _ hs=>hs.fresh)
theorem C188 (sv:Value) (xs:List aX) (w:World) (hL:ee (λ _=>True) w sv xs) (hn:xs.length<=1000000):CR 188 [sv] w (λ v w'=>pD (bR v xs) w w'):=by
 have hs:=St.start w;refine jT Tryz.func188 ?_;refine sN Tryz.underlying31 (hL.ext hs.aD) (λ p hp=>bD (λ xb=>?_) (λ _=>cM (([]:List aX)) hs gp rfl rfl (ft rfl) (λ _ _ hs=>cN hs gp (hL.ext hs.aD) (by simp; omega) (by decide) (λ _ _ hs=>hs.fresh))));have hx:=hp xb;subst hx;exact (hs.fF (α:=aX)).fresh
theorem C120 (c:dK) (cv:aT) (w:World) (hc:Deep.dr w cv c) (hz:CZ c):CR 120 [Flat.val cv] w (λ v w'=>∃ Xr:aT,v=Flat.val Xr/\pD (fU (λ w=>Deep.dr w Xr c)) w w'):=by
 obtain ⟨fp,rfl,lL⟩:=hc;obtain ⟨FB,hRA,hDA⟩:=(lL).open;have hnA:=hDA.1;have zR:=hz.l;have hs:=St.start w;refine Cs Tryz.func120 (pl:=abX) ?_;refine dY hs (λ Mw w1 hs=>bT hs u4 (λ jY _ hs=>have hs:=hs.enc (cs':=Flat.enc (⟨0,0,⟨none,0,0⟩⟩:aT)) rfl;aA dZ (aB fG hs.p1.hb rfl (fy Vl hs (C188 _ FB _ (hRA.ext hs.aD) (by omega)) (λ x6 _ er hs=>aA dZ ?_)))));obtain ⟨pX,rfl⟩:=(hs).iu;refine bH hs.p2 fG (ft rfl) (rfl) (λ _ hs=>have hs:=hs.enc (cs':=Flat.enc (⟨(c).aG,(c).counts,pX⟩:aT)) rfl;aA dZ (aB (v:=Flat.val (pX:SV)) fG hs.hb rfl (aI gp (hs.p1).jo ?_)))
 have hs:=hs.qk (Φ:=kV ([]:List aX) ([]:List aV)) (λ _=>kV.nil);have hs:=hs.p3.p1.p3.p3;refine ⟨λ m x w1=>∃ (k:Nat) (t1:List aX),x = .int .i64 (k:Int)/\m=FB.length - k/\k<=FB.length/\t1.length=k/\St w aZ [cZ Mw (Flat.enc (⟨(c).aG,(c).counts,pX⟩:aT)),bR (Flat.val pX) (t1++FB.drop k),fU (kV t1 (c.l.take k)),cZ jY (Flat.enc (⟨0,0,⟨none,0,0⟩⟩:aT))] w1,⟨_,0,[],rfl,rfl,Nat.zero_le _,rfl,hs⟩,?_⟩;rintro m _ _ ⟨k,t1,rfl,rfl,hk,Iv,hs⟩ _;refine aN (aC (λ iL=>?_) (λ iL=>?_))
 ·obtain ⟨e0,he0⟩:∃ e,FB[k]? = some e:=⟨_,List.getElem?_eq_getElem (by omega)⟩;obtain ⟨r0,NV⟩:∃ r,c.l[k]? = some r:=⟨_,List.getElem?_eq_getElem (by omega)⟩;obtain ⟨ge,gf,rfl,hE,hF⟩:=hDA.2 k _ _ he0 NV;have hdc:=drop_cons he0;obtain ⟨A6,R9,Ew⟩:∃ e,e=(⟨r0.kind,r0.a,r0.b,ge,gf,r0.to⟩:aX)/\(t1++FB.drop k)[((k:Int)).toNat]? = some e:=⟨_,rfl,by show (t1++FB.drop k)[k]? = _; rw [List.getElem?_append_right (by omega),Iv,Nat.sub_self,List.getElem?_drop,Nat.add_zero]; exact he0⟩;have hfE:ee (λ _=>True) w (Flat.val A6.e) r0.e:=by rw [R9]; exact DL.flat hE
  have hfF:ee (λ _=>True) w (Flat.val A6.f) r0.f:=by rw [R9]; exact DL.flat hF
  have yB:=hz.ef _ (List.mem_of_getElem? NV);have hlL:(t1++FB.drop k).length=FB.length:=by rw [List.length_append,List.length_drop]; omega
  refine aA dZ (have hs:=hs.drew;aB (v:=Flat.val (pX:SV)) fG hs.hb rfl (aA dZ (aB (v:=Flat.val (pX:SV)) fG hs.hb rfl (aA dZ (aB (v:=Flat.val (pX:SV)) fG hs.hb rfl (eu hs.p1 gp (by omega) (by omega) (λ _ oL=>rv gy oL (λ _ vy=>vh (A6).e hs.p1 gh vy Ew rfl (aA dZ (aB (v:=Flat.val (pX:SV)) fG hs.hb rfl (eu hs.p1 gp (by omega) (by omega) (λ _ rF=>rv ep rF (λ _ nM=>?_)))))))))))));refine vh (A6).f hs.p1 gh nM Ew rfl (fy GW hs (C121 _ _ _ (hfE.ext hs.aD) (by omega)) (λ x26 _ er hs=>?_))
  refine ⟨aH fG (hs.p1.hb.cell rfl),?_⟩;refine ⟨aH fG (hs.p1.hb.cell rfl),?_⟩;refine ⟨aH fG (hs.p1.hb.cell rfl),?_⟩;refine ⟨HH (A6).f hs.p2 gh nM Ew rfl,?_⟩;refine fy GW hs (C121 _ _ _ (hfF.ext hs.aD) (by omega)) (λ x33 _ er hs=>?_);refine ⟨aH fG (hs.p2.hb.cell rfl),?_⟩;refine ⟨aH fG (hs.p2.hb.cell rfl),?_⟩;refine eu hs.p3 gp (by omega) (by omega) (λ _ A2=>rv gy A2 (λ _ IH=>?_));obtain ⟨qt,rfl⟩:=(hs.p1).iu;refine AB {A6 with e:=qt} (qt:SV) hs.p3 gh IH Ew (by decide) rfl (λ _ hs=>?_);refine ⟨aH fG (hs.p3.hb.cell rfl),?_⟩
  have hlS:((((t1++FB.drop k)).set ((k:Int)).toNat {A6 with e:=qt})).length=FB.length:=by rw [List.length_set]; exact hlL
  obtain ⟨O2,vP⟩:=gx ((((t1++FB.drop k)).set ((k:Int)).toNat {A6 with e:=qt})) (i:=((k:Int)).toNat) (by omega);refine eu hs gp (by omega) (by omega) (λ _ A7=>rv ep A7 (λ _ oH=>?_));obtain ⟨vQ,rfl⟩:=(hs.p1).iu;refine AB {O2 with f:=vQ} (vQ:SV) hs gh oH vP (by decide) rfl (λ _ hs=>aW (by omega) ?_);have ac2:=set_self? (k:=k) vP;have hs:=hs.p2.freeze.p2.freeze.p1.gU.p3.gU.jz (Ψ:=kV (t1++[(⟨r0.kind,r0.a,r0.b,qt,vQ,r0.to⟩:aX)]) (c.l.take (k+1))) (λ _ h=>by rw [<- gz (k:=k) NV]; exact h.1.snoc ⟨_,_,rfl,DL.ml h.2.1,DL.ml h.2.2⟩)
  have hs:=hs.p3.p1.p3.p3.V8 (ys:=t1++[(⟨r0.kind,r0.a,r0.b,qt,vQ,r0.to⟩:aX)]++FB.drop (k+1)) (by rw [hdc]; exact (I1 Iv).trans (by rw [ac2,R9]));have hs:=hs.p1;exact ⟨_,by omega,k+1,t1++[(⟨r0.kind,r0.a,r0.b,qt,vQ,r0.to⟩:aX)],rfl,rfl,by omega,by rw [List.length_append,List.length_singleton]; omega,hs⟩
 rw [List.drop_eq_nil_of_le (by omega),List.append_nil,List.take_of_length_le (by omega)] at hs;have hs:=hs.p2.p2.AE;exact aO gJ hs.p1.At (cO (x:=(⟨(c).aG,(c).counts,pX⟩:aT)) hs.p2 gJ rfl rfl (λ _ hs=>aO gJ hs.At (have hs:=hs.p1.pj.jz (Ψ:=(λ w=>Deep.dr w (⟨(c).aG,(c).counts,pX⟩:aT) (⟨(c).aG,(c).counts,c.l⟩:dK))) (λ _ h=>⟨_,rfl,h⟩);have hs:=((hs.p1.drop).p1).drop;⟨_,rfl,hs.fresh⟩)))
theorem C53 (u:eh) (uv:bV) (w:World) (hu:Deep.dr w uv u) (hz:UZ u):CR 53 [Flat.val uv] w (λ v w'=>∃ Sa:bV,v=Flat.val Sa/\pD (fU (λ w=>Deep.dr w Sa u)) w w'):=by
 obtain ⟨cD,bW,bG,ga,bN,rfl,cS,cX,cQ,dD,dL⟩:=hu;obtain ⟨aJ,rfl,cJ⟩:=dD;have hs:=St.start w;refine Cs Tryz.func53 (pl:=P53) ?_;refine dY hs (λ iO w1 hs=>bT hs yE (λ jY _ hs=>have hs:=hs.enc (cs':=Flat.enc (⟨⟨none,0,0⟩,0,⟨none,0,0⟩,0,⟨none,0,0⟩,(⟨0,0,⟨none,0,0⟩⟩:aT),⟨none,0,0⟩⟩:bV)) rfl;aA eH ?_));have hs:=hs.drew;have zR:=hz.lines;have nP:=hz.bP;have hzt:=hz.threads;have hzc:=hz.bU;refine aB cT hs.p1.hb rfl ?_;have Xs:=DL.flat (cS);refine aA jw (aB cT hs.p1.hb rfl ?_)
 have Xt:=DL.flat (cX);refine aA qX (uj (⟨((u).recover).aG,((u).recover).counts,aJ⟩:aT) gJ hs.p1.hb rfl (fy yr hs (C70 _ _ _ (Xs.ext hs.aD) (by omega)) (λ x11 _ er hs=>?_)));refine ⟨aH cT (hs.p2.hb.cell rfl),?_⟩;refine ⟨ry (⟨((u).recover).aG,((u).recover).counts,aJ⟩:aT) gJ hs.p2.hb rfl,?_⟩;refine aA eH (fy yr hs (C70 _ _ _ (Xt.ext hs.aD) (by omega)) (λ x14 _ er hs=>?_));refine ⟨ry (⟨((u).recover).aG,((u).recover).counts,aJ⟩:aT) gJ hs.p3.hb rfl,?_⟩;refine gW N3 (C120 (u).recover _ _ ⟨aJ,rfl,(cJ.ext hs.aD)⟩ hz.rc) ?_
 rintro _ _ ⟨mw,rfl,er⟩;have hs:=hs.made er;obtain ⟨lM,rfl⟩:=(hs.p2).iu;refine bH hs.p4 cT (ft rfl) (rfl) (λ _ hs=>have hs:=hs.enc (cs':=Flat.enc (⟨lM,(u).stays,bW,(u).locks,bG,(⟨((u).recover).aG,((u).recover).counts,aJ⟩:aT),bN⟩:bV)) rfl;aA jw ?_);obtain ⟨my,rfl⟩:=(hs.p2).iu;refine bH hs cT (ft rfl) (rfl) (λ _ hs=>have hs:=hs.enc (cs':=Flat.enc (⟨lM,(u).stays,my,(u).locks,bG,(⟨((u).recover).aG,((u).recover).counts,aJ⟩:aT),bN⟩:bV)) rfl;aA qX (qR (vs:=Flat.enc mw) hs gJ rfl (ft rfl) (Flat.one _) (λ _ hs=>have hs:=hs.enc (cs':=Flat.enc (⟨lM,(u).stays,my,(u).locks,bG,mw,bN⟩:bV)) rfl;aA fX (aB (v:=Flat.val (bG:SV)) mI hs.hb rfl ?_))))
 obtain ⟨Xu,O3,O4⟩:=(cQ).open;have hn119:=O4.1;refine aI kR (O3.ext hs.aD) ?_;have hs:=((((((hs.Fp (α:=dK)).p5).p3).p4).p5).p5).p5;refine ⟨λ m vR x w1=>∃ k:Nat,x = .int .i64 (k:Int)/\m=u.threads.length - k/\k<=u.threads.length/\St w aZ [iZ vR (u.threads.take k),cZ iO (Flat.enc (⟨lM,(u).stays,my,(u).locks,bG,mw,bN⟩:bV)),bR (Flat.val lM) ((u).lines),bR (Flat.val my) ((u).bP),fU (λ w=>Deep.dr w mw ((u).recover)),cZ jY (Flat.enc (⟨⟨none,0,0⟩,0,⟨none,0,0⟩,0,⟨none,0,0⟩,(⟨0,0,⟨none,0,0⟩⟩:aT),⟨none,0,0⟩⟩:bV))] w1,⟨_,0,rfl,rfl,Nat.zero_le _,hs⟩,?_⟩
 rintro m vR _ _ ⟨k,rfl,rfl,hk,hs⟩ _;refine aN (aC (λ gY=>?_) (λ gY=>?_))
 ·obtain ⟨Xv,vS⟩:=gx Xu (i:=((k:Int)).toNat) (by omega);obtain ⟨jO,sV⟩:=gx ((u).threads) (i:=((k:Int)).toNat) (by omega);obtain ⟨Ey,rfl,Mx⟩:=O4.2 _ _ _ vS sV;refine aR kR O3 (by omega) vS (λ _ Ez=>aO gJ (Ez.ext hs.aD) (bT hs u4 (λ Xw _ hs=>have hs:=hs.enc (cs':=Flat.enc (⟨0,0,⟨none,0,0⟩⟩:aT)) rfl;cO (x:=(⟨(jO).aG,(jO).counts,Ey⟩:aT)) hs gJ rfl rfl (λ _ hs=>aO gJ hs.At (gW N3 (C120 jO _ _ ⟨Ey,rfl,(Mx.ext hs.aD)⟩ (hz.th _ (List.mem_of_getElem? sV))) ?_)))));rintro _ _ ⟨Sb,rfl,er⟩;have hs:=hs.made er
  exact gF (s:=Sb) (x:=(jO)) hs kR (by decide) (λ _ _ hs=>have hs:=hs.p2;gG hs kR (by rw [List.length_take,List.length_singleton]; omega) (by decide) (λ _ _ hs=>aW (by omega) (have hs:=(hs.p1.drop.p5.p5.p5.p5.p5).p5;⟨_,by omega,k+1,rfl,rfl,by omega,by rw [<- gz (k:=k) sV]; exact hs⟩)))
 rw [List.take_of_length_le (by omega)] at hs;refine aA ir (aB (v:=Flat.val (bN:SV)) qW hs.p1.hb rfl ?_);obtain ⟨Xx,O5,O6⟩:=(dL).open;have hn120:=O6.1;refine aI oB (O5.ext hs.aD) ?_;have hs:=(((((((hs.Fp (α:=(List gC))).p6).p6).p6).p6).p6).p6).p6;refine ⟨λ m EA x w1=>∃ q:Nat,x = .int .i64 (q:Int)/\m=u.bU.length - q/\q<=u.bU.length/\St w aZ [iZ EA (u.bU.take q),iZ vR u.threads,cZ iO (Flat.enc (⟨lM,(u).stays,my,(u).locks,bG,mw,bN⟩:bV)),bR (Flat.val lM) ((u).lines),bR (Flat.val my) ((u).bP),fU (λ w=>Deep.dr w mw ((u).recover)),cZ jY (Flat.enc (⟨⟨none,0,0⟩,0,⟨none,0,0⟩,0,⟨none,0,0⟩,(⟨0,0,⟨none,0,0⟩⟩:aT),⟨none,0,0⟩⟩:bV))] w1,⟨_,0,rfl,rfl,Nat.zero_le _,hs⟩,?_⟩
 rintro m EA _ _ ⟨q,rfl,rfl,hq,hs⟩ _;refine aN (aC (λ xJ=>?_) (λ xJ=>?_))
 ·obtain ⟨lO,lP⟩:=gx Xx (i:=((q:Int)).toNat) (by omega);obtain ⟨I2,vT⟩:=gx ((u).bU) (i:=((q:Int)).toNat) (by omega);have Xy:DL w (Flat.val lO) I2:=O6.2 _ _ _ lP vT;refine aR oB O5 (by omega) lP (λ _ rL=>aO gh (rL.ext hs.aD) ?_);have Xz:=DL.flat (Xy);have hzk:=hz.cl _ (List.mem_of_getElem? vT);refine fy GW hs (C121 _ _ _ (Xz.ext hs.aD) (by omega)) (λ x43 _ er hs=>?_);obtain ⟨I3,rfl⟩:=(hs).iu;have hs:=hs.freeze.jz (Ψ:=λ w=>Deep.dr w I3 ((I2))) (λ _ h=>DL.ml h);exact gF (s:=I3) (x:=(I2)) hs oB (by decide) (λ _ _ hs=>have hs:=hs.p1;gG hs oB (by rw [List.length_take,List.length_singleton]; omega) (by decide) (λ _ _ hs=>aW (by omega) (have hs:=hs.p6.p6.p6.p6.p6.p6.p6;⟨_,by omega,q+1,rfl,rfl,by omega,by rw [<- gz (k:=q) vT]; exact hs⟩)))
 rw [List.take_of_length_le (by omega)] at hs;refine aA fX ?_;obtain ⟨mc,rfl⟩:=(hs.p1).Eb;refine bH hs.p2 mI (ft rfl) (rfl) (λ _ hs=>have hs:=hs.enc (cs':=Flat.enc (⟨lM,(u).stays,my,(u).locks,mc,mw,bN⟩:bV)) rfl;aA ir ?_);obtain ⟨qu,rfl⟩:=(hs.p1).Eb;exact bH hs qW (ft rfl) (rfl) (λ _ hs=>have hs:=hs.enc (cs':=Flat.enc (⟨lM,(u).stays,my,(u).locks,mc,mw,qu⟩:bV)) rfl;aO mj hs.At (cO (x:=(⟨lM,(u).stays,my,(u).locks,mc,mw,qu⟩:bV)) hs.p6 mj rfl rfl (λ _ hs=>aO mj hs.At (have hs:=hs.p4.freeze.p5.freeze.p1.gU.p4.pj.p1.gU.p4.p1.gU.p3.pj.p1.gU.jz (Ψ:=(λ w=>Deep.dr w (⟨lM,(u).stays,my,(u).locks,mc,mw,qu⟩:bV) (⟨((u).lines),(u).stays,((u).bP),(u).locks,(u).threads,((u).recover),(u).bU⟩:eh))) (λ _ h=>⟨_,_,_,_,_,rfl,DL.ml h.1.1.1.1,DL.ml h.1.1.1.2,h.1.1.2,h.1.2,h.2⟩);have hs:=((hs.p1.drop).p1).drop;⟨_,rfl,hs.fresh⟩))))
theorem C90 (c:dK) (cv:aT) (w:World) (hc:Deep.dr w cv c):CR 90 [Flat.val cv] w (λ v w'=>∃ Xr:aT,v=Flat.val Xr/\pD (fU (λ w=>Deep.dr w Xr (gb c))) w w'):=by
 obtain ⟨fp,rfl,lL⟩:=hc;have hs:=St.start w;refine jT Tryz.func90 ?_;refine dY hs (λ Mw w1 hs=>bT hs u4 (λ jY _ hs=>have hs:=hs.enc (cs':=Flat.enc (⟨0,0,⟨none,0,0⟩⟩:aT)) rfl;aA gu (aB (v:=.int .i64 ((c).aG)) bK hs.p1.hb rfl (aA kT (aB (v:=.int .i64 ((c).counts)) bK hs.p1.hb rfl (pop (Fm _ _) (bT hs u4 (λ XA _ hs=>have hs:=hs.enc (cs':=Flat.enc (⟨0,0,⟨none,0,0⟩⟩:aT)) rfl;cO (x:=(⟨(c).aG,(c).counts,⟨none,0,0⟩⟩:aT)) hs gJ rfl rfl (λ _ hs=>?_)))))))));have hs:=((((hs.Fp (α:=aV)).p2).p3).p2).p3;refine ⟨λ m x w1=>∃ (k:Nat) (sl:SV),x = .int .i64 (k:Int)/\m=60 - k/\k<=60/\k<=c.l.length/\St w aZ [cZ XA (Flat.enc (⟨(c).aG,(c).counts,sl⟩:aT)),iZ (Flat.val sl) ((c.l.take k).map A4),cZ Mw (Flat.enc (⟨(c).aG,(c).counts,fp⟩:aT)),cZ jY (Flat.enc (⟨0,0,⟨none,0,0⟩⟩:aT))] w1,⟨_,0,⟨none,0,0⟩,rfl,rfl,by omega,by omega,hs⟩,?_⟩
 rintro m _ _ ⟨k,sl,rfl,rfl,hk,sB,hs⟩ _;have Sc:((c.l.take k).map A4).length=k:=by rw [List.length_map,List.length_take]; omega
 refine ⟨λ jv w'=>jv = .bool (decide (k<c.l.length/\k<60))/\St w aZ [cZ XA (Flat.enc (⟨(c).aG,(c).counts,sl⟩:aT)),iZ (Flat.val sl) ((c.l.take k).map A4),cZ Mw (Flat.enc (⟨(c).aG,(c).counts,fp⟩:aT)),cZ jY (Flat.enc (⟨0,0,⟨none,0,0⟩⟩:aT))] w',?_,?_⟩
 ·refine aA dZ (aB fG hs.p2.hb rfl ?_);obtain ⟨ts122,XB,XC⟩:=(lL).open;have hn122:=XC.1;exact aI gp (XB.ext hs.aD) (aN (aC (λ _=>aN ⟨vb (by grind),hs⟩) (λ _=>⟨vb (by grind),hs⟩)))
 rintro _ _ ⟨rfl,hs⟩ _;refine bD (λ iM=>?_) (λ iM=>?_)
 ·have hc19:k<c.l.length/\k<60:=by simpa using iM
  refine aA dZ (aB fG hs.p2.hb rfl ?_);obtain ⟨XD,XE,O7⟩:=(lL).open;have hn123:=O7.1;obtain ⟨I4,nq⟩:=gx XD (i:=((k:Int)).toNat) (by omega);obtain ⟨dT,lQ⟩:=gx ((c).l) (i:=((k:Int)).toNat) (by omega);obtain ⟨yU,pk,rfl,EB,EC⟩:=O7.2 _ _ _ nq lQ;refine aR gp XE (by omega) nq (λ _ rP=>aO eg (rP.ext hs.aD) (bT hs fK (λ kJ _ hs=>have hs:=hs.enc (cs':=Flat.enc (⟨0,0,0,⟨none,0,0⟩,⟨none,0,0⟩,0⟩:aX)) rfl;cO (x:=(⟨(dT).kind,(dT).a,(dT).b,yU,pk,(dT).to⟩:aX)) hs eg rfl rfl (λ _ hs=>cM (([]:List gC)) hs e8 rfl rfl (ft rfl) (λ HU _ hs=>aA gy (aB gh hs.p1.hb rfl ?_))))))
  have I5:=DL.flat (EB);refine aA gy (aB gh hs.p1.hb rfl (aI e8 (I5.ext hs.aD) (rq (fk e8 (I5.ext hs.aD) (by omega) (by omega) (λ XF CQ=>?_)))));have yV:=CQ _ I5;have Sd:=(yV.ext hs.aD);refine cN hs e8 Sd (by simp; omega) (by decide) (λ s_x35 _ hs=>aA gy ?_);have I6:=DL.flat (EC);obtain ⟨yW,rfl⟩:=(hs).iu;refine bH hs.p1 gh (ft rfl) (rfl) (λ _ hs=>have hs:=hs.enc (cs':=Flat.enc (⟨(dT).kind,(dT).a,(dT).b,yW,pk,(dT).to⟩:aX)) rfl;cM (([]:List gC)) hs e8 rfl rfl (ft rfl) (λ XG _ hs=>aA ep (aB (v:=Flat.val (pk:SV)) gh hs.p1.hb rfl (aA ep (aB (v:=Flat.val (pk:SV)) gh hs.p1.hb rfl (aI e8 (I6.ext hs.aD) (rq (fk e8 (I6.ext hs.aD) (by omega) (by omega) (λ s_x44 Se=>?_)))))))))
  have Sf:=Se _ I6;have Sg:=(Sf.ext hs.aD);refine cN hs e8 Sg (by simp; omega) (by decide) (λ OP _ hs=>aA ep ?_);obtain ⟨CT,rfl⟩:=(hs).iu;refine bH hs.p1 gh (ft rfl) (rfl) (λ _ hs=>have hs:=hs.enc (cs':=Flat.enc (⟨(dT).kind,(dT).a,(dT).b,yW,CT,(dT).to⟩:aX)) rfl;aA dZ (aB (v:=Flat.val (sl:SV)) fG hs.p3.hb rfl (aO eg hs.At (have hs:=hs.p2.freeze.p2.freeze.p1.gU.jz (Ψ:=(λ w=>Deep.dr w (⟨(dT).kind,(dT).a,(dT).b,yW,CT,(dT).to⟩:aX) (⟨(dT).kind,(dT).a,(dT).b,(([]:List gC)++(((dT).e).take ((min (((dT).e).length:Int) 50)).toNat)),(([]:List gC)++(((dT).f).take ((min (((dT).f).length:Int) 50)).toNat)),(dT).to⟩:aV))) (λ _ h=>⟨_,_,rfl,DL.ml h.1,DL.ml h.2⟩);gF (s:=(⟨(dT).kind,(dT).a,(dT).b,yW,CT,(dT).to⟩:aX)) (x:=(⟨(dT).kind,(dT).a,(dT).b,(([]:List gC)++(((dT).e).take ((min (((dT).e).length:Int) 50)).toNat)),(([]:List gC)++(((dT).f).take ((min (((dT).f).length:Int) 50)).toNat)),(dT).to⟩:aV)) hs gp (by decide) (λ O8 _ hs=>have hs:=hs.p3;gG hs gp (by rw [Sc,List.length_singleton]; omega) (by decide) (λ XH _ hs=>aA dZ ?_))))))
  obtain ⟨Sh,rfl⟩:=(hs).Eb;exact bH hs.p2 fG (ft rfl) (rfl) (λ _ hs=>have hs:=hs.enc (cs':=Flat.enc (⟨(c).aG,(c).counts,Sh⟩:aT)) rfl;aW (by omega) (have hs:=(hs.p2.drop.p3.p3.p3).p3;⟨_,by omega,k+1,_,rfl,rfl,by omega,by omega,by rw [<- jG (k:=k) lQ]; unfold A4; rw [<- jZ dT.e 50,<- jZ dT.f 50]; exact hs⟩))
 refine aO gJ hs.At (cO (x:=(⟨(c).aG,(c).counts,sl⟩:aT)) hs.p3 gJ rfl rfl (λ _ hs=>aO gJ hs.At ?_));rw [AV (xs:=c.l) (k:=k) (m:=60) (by omega) (by omega) (of_decide_eq_false iM)] at hs;have hs:=hs.p2.pj.jz (Ψ:=(λ w=>Deep.dr w (⟨(c).aG,(c).counts,sl⟩:aT) (⟨(c).aG,(c).counts,((c.l.take 60).map A4)⟩:dK))) (λ _ h=>⟨_,rfl,h⟩);have hs:=(((hs.p1.drop.p1).drop).p1).drop;exact ⟨_,rfl,hs.fresh⟩
def fQ (x y:cG):Bool:=decide (x.kind≠7/\y.kind≠7/\(x.kind=6\/y.kind=6)/\x.line≠y.line)
def right (x:cG):Bool:=decide ((x.kind=3/\0<=x.line/\0<=x.cell)\/((x.kind=5\/x.kind=6)/\0<=x.line/\x.cell=0/\x.n=0)\/(x.kind=7/\x.line=0/\x.cell=0/\x.n=0))
theorem C191 (x y:cG) (w:World):CR 191 [Flat.val x,Flat.val y] w (λ v w'=>v = .bool (fQ x y)/\Ext w w'):=by
 have hs:=St.start w;refine LF _ _ _ _ ?_;unfold S191;refine dY hs (λ jY _ hs=>dY hs (λ XI _ hs=>?_));refine ⟨_,?_,λ _ _ h=>h⟩;refine aA kp (aB bK hs.p1.hb rfl (aF (aC (λ oG=>?_) (λ oG=>?_))))
 ·intro pU;refine ⟨_,?_,λ _ _ h=>h⟩;refine bO (dN ?_);intro kD;refine ⟨vb ?_,hs.aD⟩;unfold fQ
  first | exact (decide_eq_true (by omega)).symm | exact (decide_eq_false (by omega)).symm | exact decide_eq_decide.2 (by omega) | exact decide_eq_decide.2 (cG.ext_iff.trans (by dsimp only; omega))
 refine aA kp (aB bK hs.hb rfl (aF ?_));intro pU;refine ⟨_,?_,λ _ _ h=>h⟩
 first | refine Af ?_ | refine bO ?_
 refine aC (λ ku=>aA kp (aB bK hs.p1.hb rfl (aF (aC (λ iM=>?_) (λ iM=>aA kp (aB bK hs.hb rfl (aF (aC (λ mR=>?_) (λ mR=>?_))))))))) (λ ku=>?_)
 ·refine aA mJ (aB bK hs.p1.hb rfl (aA mJ (aB bK hs.hb rfl (bJ ?_))));intro kD;refine ⟨vb ?_,hs.aD⟩;unfold fQ
  first | exact (decide_eq_true (by omega)).symm | exact (decide_eq_false (by omega)).symm | exact decide_eq_decide.2 (by omega) | exact decide_eq_decide.2 (cG.ext_iff.trans (by dsimp only; omega))
 ·refine aA mJ (aB bK hs.p1.hb rfl (aA mJ (aB bK hs.hb rfl (bJ ?_))));intro kD;refine ⟨vb ?_,hs.aD⟩;unfold fQ
  first | exact (decide_eq_true (by omega)).symm | exact (decide_eq_false (by omega)).symm | exact decide_eq_decide.2 (by omega) | exact decide_eq_decide.2 (cG.ext_iff.trans (by dsimp only; omega))
 ·intro kD;refine ⟨vb ?_,hs.aD⟩;unfold fQ
  first | exact (decide_eq_true (by omega)).symm | exact (decide_eq_false (by omega)).symm | exact decide_eq_decide.2 (by omega) | exact decide_eq_decide.2 (cG.ext_iff.trans (by dsimp only; omega))
 intro kD;refine ⟨vb ?_,hs.aD⟩;unfold fQ
 first | exact (decide_eq_true (by omega)).symm | exact (decide_eq_false (by omega)).symm | exact decide_eq_decide.2 (by omega) | exact decide_eq_decide.2 (cG.ext_iff.trans (by dsimp only; omega))
theorem C203 (x y:cG) (w:World):CR 203 [Flat.val x,Flat.val y] w (λ v w'=>v = .bool (fQ x y)/\Ext w w'):=by
 have hs:=St.start w;refine LL _ _ _ _ ?_;unfold S203;refine dY hs (λ jY _ hs=>dY hs (λ b_y3 _ hs=>?_));refine ⟨_,?_,λ _ _ h=>h⟩;refine aA kp (aB bK hs.p1.hb rfl (aF (aC (λ mn=>?_) (λ mn=>aA kp (aB bK hs.hb rfl (aF (aC (λ ik=>?_) (λ ik=>?_))))))))
 ·intro pU;refine eZ ?_;refine ⟨vb ?_,hs.aD⟩;unfold fQ
  first | exact (decide_eq_true (by omega)).symm | exact (decide_eq_false (by omega)).symm | exact decide_eq_decide.2 (by omega) | exact decide_eq_decide.2 (cG.ext_iff.trans (by dsimp only; omega))
 ·intro pU;refine eZ ?_;refine ⟨vb ?_,hs.aD⟩;unfold fQ
  first | exact (decide_eq_true (by omega)).symm | exact (decide_eq_false (by omega)).symm | exact decide_eq_decide.2 (by omega) | exact decide_eq_decide.2 (cG.ext_iff.trans (by dsimp only; omega))
 refine aA mJ (aB bK hs.p1.hb rfl (aA mJ (aB bK hs.hb rfl (aF ?_))));intro pU;refine aC (λ iM=>?_) (λ iM=>⟨_,aA kp (aB bK hs.p1.hb rfl (aF (aC (λ tC=>?_) (λ tC=>?_)))),λ _ _ h=>h⟩)
 ·refine ⟨vb ?_,hs.aD⟩;unfold fQ
  first | exact (decide_eq_true (by omega)).symm | exact (decide_eq_false (by omega)).symm | exact decide_eq_decide.2 (by omega) | exact decide_eq_decide.2 (cG.ext_iff.trans (by dsimp only; omega))
 ·intro kD;refine ⟨vb ?_,hs.aD⟩;unfold fQ
  first | exact (decide_eq_true (by omega)).symm | exact (decide_eq_false (by omega)).symm | exact decide_eq_decide.2 (by omega) | exact decide_eq_decide.2 (cG.ext_iff.trans (by dsimp only; omega))
 refine aA kp (aB bK hs.hb rfl (aF ?_));intro kD;refine ⟨vb ?_,hs.aD⟩;unfold fQ
 first | exact (decide_eq_true (by omega)).symm | exact (decide_eq_false (by omega)).symm | exact decide_eq_decide.2 (by omega) | exact decide_eq_decide.2 (cG.ext_iff.trans (by dsimp only; omega))
theorem eqE (x y:cG):lE (Flat.enc x) (Flat.enc y)=decide (x=y):=by
 obtain ⟨a,b,c,d⟩:=x
 obtain ⟨a2,b2,c2,d2⟩:=y
 simp [Flat.enc,lE,Q2,Bool.eq_iff_iff]
def sW (l:List cG) (i:Int):Bool:=decide (0<=i/\i<l.length) && (match l[i.toNat]? with | some x=>(l.take i.toNat).all (fQ x) | none=>false)
def lR (l:List cG):List Int:=((List.range l.length).map fun (k:Nat)=>(k:Int)).filter (sW l)
theorem rQ {l:List cG} {i:Int} (h:i<0\/(l.length:Int)<=i):sW l i=false:=by
 unfold sW
 have:decide (0<=i/\i<l.length)=false:=by rw [decide_eq_false_iff_not]; omega
 rw [this]; rfl
theorem yX {l:List cG} {i:Int} {x:cG} (h0:0<=i) (h1:i<l.length) (hx:l[i.toNat]? = some x):sW l i = !(l.take i.toNat).any λ y=>!fQ x y:=by
 unfold sW
 rw [hx,decide_eq_true (show 0<=i/\i<l.length from ⟨h0,h1⟩)]
 simp [List.all_eq_not_any_not]
def lS (l:List cG) (k:Nat):List Int:=((List.range k).map fun (k:Nat)=>(k:Int)).filter (sW l)
theorem sX (l:List cG) (k:Nat):(lS l k).length<=k:=by
 unfold lS
 have:=List.length_filter_le (sW l) ((List.range k).map fun (k:Nat)=>(k:Int)); simpa using this
theorem vU {l:List cG} {k:Nat} (h:sW l k=true):lS l (k+1)=lS l k++[(k:Int)]:=by
 unfold lS; rw [List.range_succ,List.map_append,List.filter_append]; simp [h]
theorem xV {l:List cG} {k:Nat} (h:sW l k=false):lS l (k+1)=lS l k:=by
 unfold lS; rw [List.range_succ,List.map_append,List.filter_append]; simp [h]
theorem qv (l:List cG) {k:Nat} (h:k=l.length):lS l k=lR l:=by subst h; rfl
def rR (w:World) (p:Nat) (room:Int) (l:List cG):Prop:=∃ sv,Cell w p 0 (.int .i64 room)/\Cell w p 1 sv/\ee (λ _=>True) w sv l
def nr (p:Nat) (room:Int) (l:List cG):HP:=ui λ sv=>sep (cZ p [.int .i64 room,sv]) (bR sv l)
theorem rR.ext {w w':World} {p:Nat} {room:Int} {l:List cG} (h:rR w p room l) (e:Ext w w'):rR w' p room l:=by
 obtain ⟨sv,h1,h2,h3⟩:=h; exact ⟨sv,h1.ext e,h2.ext e,h3.ext e⟩
theorem nr.rd {w:World} {F:Nat->Prop} {p:Nat} {room:Int} {l:List cG} (h:(nr p room l).p w F):rR w p room l:=by
 obtain ⟨sv,F1,F2,h1,h2,_⟩:=h
 exact ⟨sv,h1.1.cell rfl,h1.1.cell rfl,(bR.rd h2).mono λ _ _=>trivial⟩
theorem C224 (sv fv:Value) (xs:List cG) (g:cG->Bool) (w:World) (hL:ee (λ _=>True) w sv xs) (hf:tX w fv g) (hn:xs.length<=1073741824):CR 224 [sv,fv] w (λ v w'=>v = .int .i64 (rB g xs)/\Ext w w'):=by
 obtain ⟨g0,first,cap,rfl,pz,iJ⟩:=hf;have hs:=St.start w;refine LO _ _ _ _ ?_;unfold S224;refine aI jX (hL.ext hs.aD) ?_;refine ⟨λ m x w1=>∃ k:Nat,x = .int .i64 (k:Int)/\m=xs.length - k/\k<=xs.length/\(∀ y∈xs.take k,g y=false)/\St w aZ [] w1,⟨_,0,rfl,rfl,Nat.zero_le _,by simp,hs⟩,?_⟩;rintro m _ w1 ⟨k,rfl,rfl,hk,gT,hs⟩ _;refine aN (aC (λ yN=>?_) (λ _=>⟨congrArg (Value.int .i64) (jl (by rw [List.take_of_length_le (by omega)] at gT; exact gT)).symm,hs.aD⟩));obtain ⟨iz,cI⟩:=gx (xs) (i:=((k:Int)).toNat) (by omega);refine aR jX (hL.ext hs.aD) (by omega) cI (λ _ jD=>aO vf (jD) (eF pz (iJ iz w1 hs.aD) ?_))
 rintro _ _ ⟨rfl,he⟩;have hs:=hs.ext he;exact bD (λ eU=>⟨congrArg (Value.int .i64) (mb gT cI eU).symm,hs.aD⟩) (λ eU=>aW (by omega) ⟨xs.length - (k+1),by omega,k+1,rfl,rfl,by omega,fY gT cI eU,hs⟩)
theorem C192 (sv fv:Value) (xs:List cG) (g:cG->Bool) (w:World) (hL:ee (λ _=>True) w sv xs) (hf:tX w fv g) (hn:xs.length<=1073741824):CR 192 [sv,fv] w (λ v w'=>v = .bool (xs.any g)/\Ext w w'):=by
 have hs:=St.start w;refine LG _ _ _ _ ?_;unfold S192;exact bF VB hs (C224 _ _ _ _ _ (hL.ext hs.aD) (hf.ext hs.aD) (by omega)) (λ _ _ hs=>cY ⟨vb (kx _ _),hs.aD⟩)
theorem C190 (x y:cG) (p b2 b3:Nat) (i:Int) (room:Int) (l:List cG) (w:World) (h2:Cell w b2 0 (.pointer (some ⟨p,0,none⟩))) (h3:Cell w b3 0 (.int .i64 i)) (hb:rR w p room l) (h0:0<=i) (hx:l[i.toNat]? = some x):CR 190 [Flat.val y,.pointer (some ⟨b2,0,none⟩),.pointer (some ⟨b3,0,none⟩)] w (λ v w'=>v = .bool (!fQ x y)/\Ext w w'):=by
 obtain ⟨sv,qT,pH,hL⟩:=hb;have fS:=(List.getElem?_eq_some_iff.1 hx).1;have hs:=St.start w;refine LD _ _ _ _ _ ?_;unfold S190;exact dY hs (λ _ _ hs=>have hs:=hs.drew;aK u6 (h2.ext hs.aD) (aE (aA mK (aK nW (pH.ext hs.aD) (aK bK (h3.ext hs.aD) (aR jX (hL.ext hs.aD) h0 hx (λ _ Ev=>aO vf (Ev) (aO vf hs.At (bF Vn hs (C191 x y _) (λ _ _ hs=>bO ⟨rfl,hs.aD⟩))))))))))
theorem C124 (p:Nat) (i:Int) (room:Int) (l:List cG) (w:World) (hb:rR w p room l) (hn:l.length<=1073741824):CR 124 [.pointer (some ⟨p,0,none⟩),.int .i64 i] w (λ v w'=>v = .bool (sW l i)/\Ext w w'):=by
 have XJ:=hb;obtain ⟨sv,qT,pH,hL⟩:=hb;have hs:=St.start w;refine Lr _ _ _ _ ?_;unfold S124;refine qQ hs rfl (λ XK w1 hs=>qQ hs rfl (λ XL _ hs=>?_));refine ⟨_,?_,λ _ _ h=>h⟩;have hs:=hs.drew;refine aB bK hs.hb rfl (aN (aC (λ mn=>?_) (λ mn=>?_)))
 ·intro pU;exact eZ ⟨vb (rQ (by omega)).symm,hs.aD⟩
 refine aB bK hs.hb rfl (aB u6 hs.p1.hb rfl (aE (aA mK (aK nW (pH.ext hs.aD) (aI jX (hL.ext hs.aD) (cY ?_))))));intro pU;refine aC (λ _=>⟨vb (rQ (by omega)).symm,hs.aD⟩) (λ eU=>have hs:=hs.drew;aB u6 hs.p1.hb rfl (aE (aA mK (aK nW (pH.ext hs.aD) (aB bK hs.hb rfl (Fi jX (hL.ext hs.aD) (by omega) (by omega) (λ s_x23 oL=>?_)))))));obtain ⟨x,hx⟩:∃ x,l[i.toNat]? = some x:=⟨_,List.getElem?_eq_getElem (by omega)⟩
 have Q5:tX _ (.func (.func 190) [].toArray [.pointer (some ⟨XK,0,none⟩),.pointer (some ⟨XL,0,none⟩)].toArray) (λ y=>!fQ x y):=
  ⟨190,[],_,rfl,Vm,λ y w1 e1=>C190 x y p XK XL i room l w1 ((hs.p1.hb.cell rfl).ext e1) ((hs.hb.cell rfl).ext e1) ((XJ.ext hs.aD).ext e1) (by omega) hx⟩
 exact bF Vo hs (C192 _ _ _ _ _ oL Q5 (by rw [List.length_take]; omega)) (λ _ _ hs=>bO ⟨vb (yX (by omega) (by omega) hx).symm,hs.aD⟩)
theorem C123 (p:Nat) (room:Int) (l:List cG) (w:World) (hb:rR w p room l):CR 123 [.pointer (some ⟨p,0,none⟩)] w (λ v w'=>v = .bool (decide (room<=l.length))/\Ext w w'):=by
 obtain ⟨sv,qT,pH,hL⟩:=hb;have hs:=St.start w;refine Lq _ _ _ ?_;unfold S123;exact aE (aA mK (have hs:=hs.drew;aK nW (pH.ext hs.aD) (aI jX (hL.ext hs.aD) (aE (aA Hd (aK bK (qT.ext hs.aD) (cY ⟨rfl,hs.aD⟩)))))))
theorem C57 (p:Nat) (room:Int) (l:List cG) (w:World) (hb:rR w p room l) (hn:l.length<=1048576):CR 57 [.pointer (some ⟨p,0,none⟩)] w (λ v w'=>pD (bR v (lR l)) w w'):=by
 have XJ:=hb;obtain ⟨sv,qT,pH,hL⟩:=hb;have hs:=St.start w;refine QM _ _ _ ?_;unfold S57;refine aE (aA mK (aK nW (pH.ext hs.aD) (aI jX (hL.ext hs.aD) ?_)));refine ⟨λ m o x w1=>∃ k:Nat,x = .int .i64 (k:Int)/\m=l.length - k/\k<=l.length/\St w aZ [bR o (lS l k)] w1,⟨_,0,rfl,rfl,Nat.zero_le _,hs.fF⟩,?_⟩;rintro m o _ w1 ⟨k,rfl,rfl,hk,hs⟩ _;have zS:=sX l k;refine aN (aC (λ ik=>⟨_,bF U4 hs (C124 _ _ _ _ _ (XJ.ext hs.aD) (by omega)) (λ _ he hs=>bD (λ ku=>?_) (λ ku=>?_)),λ _ _ h=>h⟩) (λ ik=>?_))
 ·refine cM (([(k:Int)]:List Int)) hs cB rfl rfl (ft rfl) (λ s_x18 _ hs=>?_);have vV:=(hs).jo;refine cN hs.p1 cB vV (by simp <;> omega) (by decide) (λ Wl _ hs=>?_);have hs:=hs.p1.drop;intro kD;exact aW (by omega) ⟨l.length - (k+1),by omega,k+1,rfl,rfl,by omega,by rw [vU ku]; exact hs⟩
 ·intro kD;exact aW (by omega) ⟨l.length - (k+1),by omega,k+1,rfl,rfl,by omega,by rw [xV ku]; exact hs⟩
 rw [qv l (by omega)] at hs;exact hs.fresh
theorem nr.shut {w0 w:World} {A:Nat->Prop} {R:List HP} {p:Nat} {room:Int} {sv:Value} {l:List cG} (hs:St w0 A (cZ p [.int .i64 room,sv]::bR sv l::R) w):St w0 A (nr p room l::R) w:=
 St.fO (H:=λ sv=>sep (cZ p [.int .i64 room,sv]) (bR sv l)) sv (St.join hs)
theorem ED {w0 w:World} {A:Nat->Prop} {R:List HP} {p:Nat} {room:Int} {l:List cG} (hs:St w0 A (nr p room l::R) w):rR w p room l:=by
 obtain ⟨F,h,_⟩:=hs.head; exact nr.rd h
theorem C154 (sv:Value) (xs:List cG) (w:World) (hL:ee (λ _=>True) w sv xs) (hn:xs.length<=1073741824):CR 154 [sv] w (λ v w'=>pD (bR v xs) w w'):=by
 have hL0:=hL;obtain ⟨a,cap,rfl,wV,h3⟩:=hL;have hs:=St.start w;refine Lx _ _ _ ?_;unfold S154;refine G5 (dS jX).1 (λ h0=>?_) ?_
 ·rcases h3 with ⟨h,hc⟩ | ⟨b,o,h,_⟩
  ·exact ⟨by rw [h]; rfl,hc⟩
  rw [h0] at h; cases h
 refine bD (λ xb=>?_) (λ xb=>?_)
 ·have ha:a=none:=by cases a with | none=>rfl | some _=>cases xb
  have hx:xs=[]:=by
   rcases h3 with ⟨h,_⟩ | ⟨b,o,h,_⟩
   ·exact h
   ·rw [ha] at h; cases h
  subst hx;exact hs.fF.fresh
 refine cM (([]:List cG)) hs jX rfl rfl (ft rfl) (λ R8 _ hs=>?_);have A5:=(hL0.ext hs.aD);exact cN hs jX A5 (by simp <;> omega) (by decide) (λ _ _ hs=>hs.fresh)
theorem C91 (p:Nat) (room:Int) (l:List cG) (w:World) (hb:rR w p room l) (hn:l.length<=1073741824):CR 91 [.pointer (some ⟨p,0,none⟩)] w (λ v w'=>pD (bR v l) w w'):=by
 obtain ⟨sv,qT,pH,hL⟩:=hb;have hs:=St.start w;refine QX _ _ _ ?_;unfold S91;refine aE (aA mK (aK nW (pH.ext hs.aD) (gW U9 (C154 _ _ _ (hL.ext hs.aD) (by omega)) ?_)));rintro _ _ er;have hs:=hs.made er;exact hs.fresh
theorem rS {α:Type} {xs ys:List α} {k:Nat} {e f:α} (h:xs.take k=ys.take k) (h1:xs[k]? = some e) (h2:ys[k]? = some f) (he:e=f):xs.take (k+1)=ys.take (k+1):=by
 rw [List.take_add_one,List.take_add_one,h,h1,h2,he]
theorem xW {α:Type} {xs ys:List α} {k:Nat} {e f:α} (h1:xs[k]? = some e) (h2:ys[k]? = some f) (he:¬ e=f):¬ xs=ys:=by
 rintro rfl; rw [h1] at h2; exact he (Option.some.inj h2)
theorem My {l:List cG} {i:Int} {k:Nat} {x y:cG} (h0:0<=i) (h1:i<l.length) (hx:l[i.toNat]? = some x) (hk:k<i.toNat) (hy:l[k]? = some y) (hp:fQ x y=false):sW l i=false:=by
 rw [yX h0 h1 hx]
 have:(l.take i.toNat).any (λ y=>!fQ x y)=true:=by
  rw [List.any_eq_true]
  exact ⟨y,List.mem_iff_getElem?.2 ⟨k,by rw [List.getElem?_take,if_pos hk]; exact hy⟩,by rw [hp]; rfl⟩
 rw [this]; rfl
theorem I7 {l:List cG} {i:Int} {x:cG} (h0:0<=i) (h1:i<l.length) (hx:l[i.toNat]? = some x) (hp:∀ y∈l.take i.toNat,fQ x y=true):sW l i=true:=by
 rw [yX h0 h1 hx]
 have:(l.take i.toNat).any (λ y=>!fQ x y)=false:=by
  rw [List.any_eq_false]; intro y hy; rw [hp y hy]; simp
 rw [this]; rfl
theorem C52 (room:Int) (w:World):CR 52 [.int .i64 room] w (λ v w'=>((room<1\/16<room)/\v = .tuple #[.pointer none,.int .i64 1]/\Ext w w')\/(1<=room/\room<=16/\∃ b,v = .tuple #[.pointer (some ⟨b,0,none⟩),.int .i64 0]/\pD (nr b room []) w w')):=by
 have hs:=St.start w;refine QL _ _ _ ?_;unfold S52;refine ⟨_,?_,λ _ _ h=>h⟩;refine aN (aC (λ Iw=>?_) (λ Iw=>?_))
 ·intro pU;exact eZ (.inl ⟨by omega,rfl,hs.aD⟩)
 refine cC ?_;intro pU;exact aC (λ _=>.inl ⟨by omega,rfl,hs.aD⟩) (λ _=>pop (Hw _) (js hs (λ b _ hs=>have hs:=(hs.fF (α:=cG)).p1;.inr ⟨by omega,by omega,b,rfl,(nr.shut hs).fresh⟩)))
theorem C75 (room:Int) (w:World):CR 75 [.int .i64 room] w (λ v w'=>((room<1\/16<room)/\v = .tuple #[.pointer none,.int .i64 1]/\Ext w w')\/(1<=room/\room<=16/\∃ b,v = .tuple #[.pointer (some ⟨b,0,none⟩),.int .i64 0]/\pD (nr b room []) w w')):=by
 have hs:=St.start w;refine QP _ _ _ ?_;unfold S75;refine ⟨_,?_,λ _ _ h=>h⟩;refine aN (aC (λ Iw=>?_) (λ Iw=>?_))
 ·intro pU;exact eZ (.inl ⟨by omega,rfl,hs.aD⟩)
 refine cC ?_;intro pU;exact aC (λ _=>.inl ⟨by omega,rfl,hs.aD⟩) (λ _=>pop (Hv _) (js hs (λ b _ hs=>have hs:=(hs.fF (α:=cG)).p1;.inr ⟨by omega,by omega,b,rfl,(nr.shut hs).fresh⟩)))
theorem C36 (av bv:Value) (xs ys:List cG) (w:World) (hA:ee (λ _=>True) w av xs) (hB:ee (λ _=>True) w bv ys) (hn:xs.length<=1073741824):CR 36 [av,bv] w (λ v w'=>v = .bool (decide (xs=ys))/\Ext w w'):=by
 have hs:=St.start w;refine QI _ _ _ _ ?_;unfold S36;refine aI jX (hA.ext hs.aD) (aI jX (hB.ext hs.aD) (bJ (aC (λ _=>⟨vb (decide_eq_false (by rintro rfl; omega)).symm,hs.aD⟩) (λ fM=>?_))));refine ⟨λ m x w1=>∃ k:Nat,x = .int .i64 (k:Int)/\m=xs.length - k/\k<=xs.length/\xs.take k=ys.take k/\St w aZ [] w1,⟨_,0,rfl,rfl,Nat.zero_le _,rfl,hs⟩,?_⟩;rintro m _ w1 ⟨k,rfl,rfl,hk,vW,hs⟩ _;refine aI jX (hA.ext hs.aD) (aN (aC (λ rA=>?_) (λ _=>⟨vb (decide_eq_true (by rw [List.take_of_length_le (by omega),List.take_of_length_le (by omega)] at vW; exact vW)).symm,hs.aD⟩)));obtain ⟨xP,fm⟩:=gx (xs) (i:=((k:Int)).toNat) (by omega)
 refine aR jX (hA.ext hs.aD) (by omega) fm (λ _ oJ=>have hs:=hs.drew;aO vf (oJ) ?_);obtain ⟨I8,lT⟩:=gx (ys) (i:=((k:Int)).toNat) (by omega);exact aR jX (hB.ext hs.aD) (by omega) lT (λ _ oL=>aO vf (oL) (xz Q3 rfl rfl (eqE xP I8) (aC (λ gY=>⟨vb (decide_eq_false (xW fm lT gY)).symm,hs.aD⟩) (λ gY=>aW (by omega) ⟨xs.length - (k+1),by omega,k+1,rfl,rfl,by omega,rS vW fm lT (Decidable.not_not.1 gY),hs⟩))))
theorem C21 (av bv:Value) (xs ys:List Int) (w:World) (hA:ee (λ _=>True) w av xs) (hB:ee (λ _=>True) w bv ys) (hn:xs.length<=1073741824):CR 21 [av,bv] w (λ v w'=>v = .bool (decide (xs=ys))/\Ext w w'):=by
 have hs:=St.start w;refine QC _ _ _ _ ?_;unfold S21;refine aI cB (hA.ext hs.aD) (aI cB (hB.ext hs.aD) (bJ (aC (λ _=>⟨vb (decide_eq_false (by rintro rfl; omega)).symm,hs.aD⟩) (λ fM=>?_))));refine ⟨λ m x w1=>∃ k:Nat,x = .int .i64 (k:Int)/\m=xs.length - k/\k<=xs.length/\xs.take k=ys.take k/\St w aZ [] w1,⟨_,0,rfl,rfl,Nat.zero_le _,rfl,hs⟩,?_⟩;rintro m _ w1 ⟨k,rfl,rfl,hk,vW,hs⟩ _;refine aI cB (hA.ext hs.aD) (aN (aC (λ rA=>?_) (λ _=>⟨vb (decide_eq_true (by rw [List.take_of_length_le (by omega),List.take_of_length_le (by omega)] at vW; exact vW)).symm,hs.aD⟩)));obtain ⟨xP,fm⟩:=gx (xs) (i:=((k:Int)).toNat) (by omega)
 refine aR cB (hA.ext hs.aD) (by omega) fm (λ _ oJ=>have hs:=hs.drew;aO bK (oJ) ?_);obtain ⟨I8,lT⟩:=gx (ys) (i:=((k:Int)).toNat) (by omega);exact aR cB (hB.ext hs.aD) (by omega) lT (λ _ oL=>aO bK (oL) (bJ (aC (λ gY=>⟨vb (decide_eq_false (xW fm lT gY)).symm,hs.aD⟩) (λ gY=>aW (by omega) ⟨xs.length - (k+1),by omega,k+1,rfl,rfl,by omega,rS vW fm lT (Decidable.not_not.1 gY),hs⟩))))
theorem C146 (p:Nat) (i room:Int) (l:List cG) (w:World) (hb:rR w p room l) (hn:l.length<=1073741824):CR 146 [.pointer (some ⟨p,0,none⟩),.int .i64 i] w (λ v w'=>v = .bool (sW l i)/\Ext w w'):=by
 obtain ⟨sv,qT,pH,hL⟩:=hb;have hs:=St.start w;refine Lv _ _ _ _ ?_;unfold S146;refine ⟨_,?_,λ _ _ h=>h⟩;refine aN (aC (λ mn=>?_) (λ mn=>?_))
 ·intro pU;exact eZ ⟨vb (rQ (by omega)).symm,hs.aD⟩
 refine aE (aA ig (aK nW (pH.ext hs.aD) (aI jX (hL.ext hs.aD) (cY ?_))));intro pU;refine aC (λ _=>⟨vb (rQ (by omega)).symm,hs.aD⟩) (λ eU=>?_);refine ⟨λ m x w1=>∃ k:Nat,x = .int .i64 (k:Int)/\m=i.toNat - k/\(k:Int)<=i/\(∀ x y,l[i.toNat]? = some x->y∈l.take k->fQ x y=true)/\St w aZ [] w1,⟨_,0,rfl,rfl,by omega,by simp,hs⟩,?_⟩;rintro m _ w1 ⟨k,rfl,rfl,hk,hZ,hs⟩ _;refine aN (aC (λ iM=>?_) (λ iM=>⟨vb (I7 (x:=l[i.toNat]'(by omega)) (by omega) (by omega) (List.getElem?_eq_getElem _) λ y hy=>hZ _ y (List.getElem?_eq_getElem _) (by rw [show k=i.toNat from by omega]; exact hy)).symm,hs.aD⟩))
 refine aE (aA ig (have hs:=hs.drew;aK nW (pH.ext hs.aD) ?_));obtain ⟨Es,qp⟩:=gx (l) (i:=(i).toNat) (by omega);refine aR jX (hL.ext hs.aD) (by omega) qp (λ _ IL=>aO vf (IL) (aE (aA ig (aK nW (pH.ext hs.aD) ?_))));obtain ⟨e_x34,CU⟩:=gx (l) (i:=((k:Int)).toNat) (by omega);refine aR jX (hL.ext hs.aD) (by omega) CU (λ _ A2=>aO vf (A2) (bF Vu hs (C203 _ _ _) (λ _ he hs=>bO (bD (λ oM=>⟨vb (My (by omega) (by omega) qp (by omega) CU (by simpa using oM)).symm,hs.aD⟩) (λ oM=>aW (by omega) ?_)))));refine ⟨i.toNat - (k+1),by omega,k+1,rfl,rfl,by omega,λ x y hx hy=>?_,hs⟩
 rw [Option.some.inj (hx.symm.trans qp)] at *;exact fY (φ:=λ y=>fQ Es y=true) (λ y hy=>hZ _ y hx hy) CU (by simpa using oM) y hy
theorem C84 (p:Nat) (room:Int) (l:List cG) (w:World) (hb:rR w p room l) (hn:l.length<=1048576):CR 84 [.pointer (some ⟨p,0,none⟩)] w (λ v w'=>pD (bR v (lR l)) w w'):=by
 have XJ:=hb;obtain ⟨sv,qT,pH,hL⟩:=hb;have hs:=St.start w;refine QW _ _ _ ?_;unfold S84;refine cM (([]:List Int)) hs cB rfl rfl (ft rfl) (λ R8 w1 hs=>?_);refine ⟨λ m o x w1=>∃ k:Nat,x = .int .i64 (k:Int)/\m=l.length - k/\k<=l.length/\St w aZ [bR o (lS l k)] w1,⟨_,0,rfl,rfl,Nat.zero_le _,hs⟩,?_⟩;rintro m o _ w1 ⟨k,rfl,rfl,hk,hs⟩ _;have zS:=sX l k;refine aE (aA ig (aK nW (pH.ext hs.aD) (aI jX (hL.ext hs.aD) (aN (aC (λ iL=>⟨_,bF U7 hs (C146 _ _ _ _ _ (XJ.ext hs.aD) (by omega)) (λ _ he hs=>bD (λ vu=>?_) (λ vu=>?_)),λ _ _ h=>h⟩) (λ iL=>?_))))))
 ·refine cM (([(k:Int)]:List Int)) hs cB rfl rfl (ft rfl) (λ s_x20 _ hs=>?_);have Si:=(hs).jo;refine cN hs.p1 cB Si (by simp <;> omega) (by decide) (λ XM _ hs=>?_);have hs:=hs.p1.drop;intro kD;exact aW (by omega) ⟨l.length - (k+1),by omega,k+1,rfl,rfl,by omega,by rw [vU vu]; exact hs⟩
 ·intro kD;exact aW (by omega) ⟨l.length - (k+1),by omega,k+1,rfl,rfl,by omega,by rw [xV vu]; exact hs⟩
 rw [qv l (by omega)] at hs;exact hs.fresh
end Go.Proofs.YtnjcingfdhjfkaaGreat
namespace Go.Fw
open Go.MapKept (Stamped IsKey)
open Go.ChangeMaps (setBlock)
def nQ (w:World) (b:Nat) (ks:List Int) (vs:List Value):Prop:=
 ∃ es clock,w.heap[b]? = some (.map es clock)/\Stamped es clock/\es.toList.map (·.key)=ks.map (Value.int .i64)/\es.toList.map (·.val)=vs
def tJ:List Int->Int->Option Nat
 | [],_=>none
 | x::xs,k=>if x=k then some 0 else (tJ xs k).map (· + 1)
theorem vX:∀ {ks:List Int} {k:Int},tJ ks k=none↔k ∉ ks
 | [],_=>by simp [tJ]
 | x::xs,k=>by
  unfold tJ
  by_cases e:x=k
  ·simp [e]
  ·rw [if_neg e,Option.map_eq_none_iff,vX,List.mem_cons]
   exact ⟨λ h hh=>hh.elim (λ h2=>e h2.symm) h,λ h hh=>h (.inr hh)⟩
theorem A8:∀ {ks:List Int} {k:Int} {j:Nat},ks.Nodup->ks[j]? = some k->tJ ks k=some j
 | x::xs,k,0,_,h=>by simp at h; simp [tJ,h]
 | x::xs,k,j+1,hn,h=>by
  rw [List.getElem?_cons_succ] at h
  have hm:=List.mem_of_getElem? h
  have:x≠k:=λ e=>(List.nodup_cons.1 hn).1 (e▸hm)
  simp [tJ,this,A8 (List.nodup_cons.1 hn).2 h]
def look {β:Type} (ks:List Int) (vs:List β) (k:Int):Option β:=(tJ ks k).bind (vs[·]?)
section
variable {P:Program} {w w0 w':World} {A:Nat->Prop} {L:List HP} {b:Nat} {ks:List Int} {vs:List Value}
theorem nQ.of_eq (h:nQ w b ks vs) (hh:w'.heap[b]? = w.heap[b]?):nQ w' b ks vs:=by
 obtain ⟨es,c,h1,h2⟩:=h; exact ⟨es,c,hh.trans h1,h2⟩
theorem nQ.lt (h:nQ w b ks vs):b<w.heap.size:=by obtain ⟨es,c,h1,_⟩:=h; exact qh h1
theorem nQ.ext (h:nQ w b ks vs) (e:Ext w w'):nQ w' b ks vs:=h.of_eq (e.cZ b h.lt λ h=>h)
theorem nQ.nodup (h:nQ w b ks vs):ks.Nodup:=by
 obtain ⟨es,c,_,h2,h3,h4⟩:=h
 have:=h2.2.2
 rw [h3] at this
 exact (List.pairwise_map.1 this).imp λ h e=>h (by rw [e])
def XN (b:Nat) (ks:List Int) (vs:List Value):HP where
 p w F:=nQ w b ks vs/\∀ k,F k↔k=b
 loc w w' F h hh:=⟨h.1.of_eq (hh b ((h.2 b).2 rfl)),h.2⟩
 lt w F b' h hb:=by rw [(h.2 b').1 hb]; exact h.1.lt
theorem A9 (o:Obj) (hb:b<w.heap.size):(setBlock w b o).heap[b]? = some o:=by simp [setBlock,hb]
theorem Ba {T:TypeId} {K:Value->World->Prop} (hs:St w0 A L w) (k:∀ b w',St w0 A (XN b [] []::L) w'->K (.map (some b)) w'):ji P (Instr.makeMap T none) w K:=
 ⟨_,_,rfl,k _ _ (hs.new (Ext.push w (.map #[] 0)) (F:=λ k=>k=w.heap.size) ⟨⟨#[],0,ox _ _,MapKept.stamped_empty 0,rfl,rfl⟩,λ _=>Iff.rfl⟩ λ b hb=>by rw [hb]; exact Nat.le_refl _)⟩
end
section
variable {α:Type} [Flat α] {P:Program} {w w0 w':World} {A:Nat->Prop} {L:List HP} {b:Nat} {f:Int->List α}
abbrev Sj (s:SV) (x:List α):HP:=bR (Flat.val s) x
def pY (b:Nat) (f:Int->List α):HP:=ui λ ks=>ui λ ss:List SV=>ui λ O9:List (List α)=>fact (f=λ k=>(look ks O9 k).getD []) (sep (XN b ks (ss.map Flat.val)) (gk Sj ss O9))
def vY (w:World) (b:Nat) (f:Int->List α):Prop:=∃ ks,∃ ss:List SV,nQ w b ks (ss.map Flat.val)/\(∀ (i:Nat) (k:Int) (s:SV),ks[i]? = some k->ss[i]? = some s->ee (λ _=>True) w (Flat.val s) (f k))/\∀ k,k ∉ ks->f k=[]
theorem vY.ext (h:vY w b f) (e:Ext w w'):vY w' b f:=by
 obtain ⟨ks,ss,h1,h2,h3⟩:=h; exact ⟨ks,ss,h1.ext e,λ i k s a c=>(h2 i k s a c).ext e,h3⟩
theorem Mz {β:Type} {ks:List Int} {xs:List β} {k:Int} {i:Nat} {x:β} (hn:ks.Nodup) (h1:ks[i]? = some k) (h2:xs[i]? = some x):look ks xs k=some x:=by
 unfold look; rw [A8 hn h1]; exact h2
theorem FC {β:Type} {ks:List Int} {xs:List β} {k:Int} (h:k ∉ ks):look ks xs k=none:=by unfold look; rw [vX.2 h]; rfl
theorem pY.rd {F:Nat->Prop} (h:(pY b f).p w F):vY w b f:=by
 obtain ⟨ks,ss,O9,hf,F1,F2,h1,h2,_,_⟩:=h
 refine ⟨ks,ss,h1.1,λ i k s hk hs=>?_,λ k hk=>by rw [hf]; dsimp only; rw [FC hk]; rfl⟩
 have hl:=sO h2
 have hi:i<O9.length:=by have:=(List.getElem?_eq_some_iff.1 hs).1; omega
 have hx:O9[i]? = some O9[i]:=List.getElem?_eq_getElem hi
 have hst:St w F2 [gk Sj ss O9] w:=St.begin h2
 have:=hst.Q7 hs hx (Φ:=λ w=>ee (λ _=>True) w (Flat.val s) O9[i]) λ h=>(bR.rd h).mono λ _ _=>trivial
 rw [hf]; dsimp only
 rw [Mz h1.1.nodup hk hx]; exact this
theorem St.XO (hs:St w0 A (pY b f::L) w):vY w b f:=by obtain ⟨F,h,_⟩:=hs.head; exact pY.rd h
theorem yY {T:TypeId} {K:Value->World->Prop} (hs:St w0 A L w) (k:∀ b w',St w0 A (pY b (λ _=>([]:List α))::L) w'->K (.map (some b)) w'):ji P (Instr.makeMap T none) w K:=
 Ba hs λ b w' h=>k b w' (St.fO [] (St.fO [] (St.fO ([]:List (List α)) (St.xC rfl (St.join ((h.new (Ext.refl w') (H:=gk Sj [] []) (F:=aZ) (λ _ h=>h) λ _ h=>h.elim).p1))))))
end
end Go.Fw
namespace Go.Proofs.YtnjcingfdhjfkaaGreat
open Go.Fw
structure Mem where
 of:List Int
 bP:List Int
 l:List Int
 kept:List Int
 yZ:Int->List vp
def sY (of:List Int):Int:=if of.length=0 then 0 else of.getD (of.length - 1) 0+1
structure XP (m:Mem):Prop where
 ofl:m.of.length<=m.bP.length
 fl:m.bP.length<=20
 ll:m.l.length=m.bP.length
 kl:m.kept.length=m.of.length
 ofr:∀ n∈m.of,0<=n/\n<sY m.of
 lb:sY m.of<=20
 pc:∀ k,∀ x∈m.yZ k,0<=x.cell/\x.cell<m.of.length
def iW (p:Nat) (ov fv:Value) (m:Mem):HP:=ui λ lv=>ui λ kv=>ui λ pm=>sep (cZ p [ov,fv,lv,kv,.map (some pm)]) (sep (bR lv m.l) (sep (bR kv m.kept) (pY pm m.yZ)))
def Sk (ov fv:Value) (m:Mem) (w:World):Prop:=ee (λ _=>True) w ov m.of/\ee (λ _=>True) w fv m.bP
def xc (w:World) (p:Nat) (m:Mem):Prop:=∃ ov fv lv kv pm,Cell w p 0 ov/\Cell w p 1 fv/\Cell w p 2 lv/\Cell w p 3 kv/\Cell w p 4 (.map (some pm))/\ee (λ _=>True) w ov m.of/\ee (λ _=>True) w fv m.bP/\ee (λ _=>True) w lv m.l/\ee (λ _=>True) w kv m.kept/\vY w pm m.yZ
section
variable {w w' w0:World} {A F:Nat->Prop} {R:List HP} {p:Nat} {ov fv lv kv:Value} {m:Mem} {pm:Nat}
theorem xc.ext (h:xc w p m) (e:Ext w w'):xc w' p m:=by
 obtain ⟨ov,fv,lv,kv,pm,c0,c1,c2,c3,c4,h0,h1,h2,h3,h4⟩:=h
 exact ⟨ov,fv,lv,kv,pm,c0.ext e,c1.ext e,c2.ext e,c3.ext e,c4.ext e,h0.ext e,h1.ext e,h2.ext e,h3.ext e,h4.ext e⟩
theorem xc.mk' (h:ow w p [ov,fv,lv,kv,.map (some pm)]) (hK:Sk ov fv m w) (h2:ee (λ _=>True) w lv m.l) (h3:ee (λ _=>True) w kv m.kept) (h4:vY w pm m.yZ):xc w p m:=
 ⟨ov,fv,lv,kv,pm,h.cell rfl,h.cell rfl,h.cell rfl,h.cell rfl,h.cell rfl,hK.1,hK.2,h2,h3,h4⟩
theorem iW.open (hs:St w0 A (iW p ov fv m::R) w):∃ lv kv pm,St w0 A (cZ p [ov,fv,lv,kv,.map (some pm)]::bR lv m.l::bR kv m.kept::pY pm m.yZ::R) w:=by
 obtain ⟨lv,hs⟩:=hs.gK; obtain ⟨kv,hs⟩:=hs.gK; obtain ⟨pm,hs⟩:=hs.gK
 have h1:=hs.split
 have h2:=h1.p1.split
 have h3:=(h2.p1.split)
 exact ⟨lv,kv,pm,h3.p2.p3⟩
theorem iW.shut (hs:St w0 A (cZ p [ov,fv,lv,kv,.map (some pm)]::bR lv m.l::bR kv m.kept::pY pm m.yZ::R) w):St w0 A (iW p ov fv m::R) w:=by
 have h1:St w0 A (sep (bR kv m.kept) (pY pm m.yZ)::cZ p [ov,fv,lv,kv,.map (some pm)]::bR lv m.l::R) w:=St.join (hs.p3.p3)
 have h2:St w0 A (sep (bR lv m.l) (sep (bR kv m.kept) (pY pm m.yZ))::cZ p [ov,fv,lv,kv,.map (some pm)]::R) w:=St.join h1.p2
 exact St.fO lv (St.fO kv (St.fO pm (St.join h2.p1)))
theorem MB (hs:St w0 A (iW p ov fv m::R) w) (hK:Sk ov fv m w):xc w p m:=by
 obtain ⟨lv,kv,pm,hs⟩:=iW.open hs
 exact xc.mk' hs.hb hK hs.p1.jo hs.p2.jo hs.p3.XO
end
theorem C72 (p:Nat) (m:Mem) (w:World) (hm:xc w p m) (hk:XP m):CR 72 [(.pointer (some ⟨p,0,none⟩))] w (λ v w'=>pD (bR v m.l) w w'):=by
 have hm0:=hm;obtain ⟨ov,fv,lv,kv,pm,c0,c1,c2,c3,c4,hO,FD,hL,hKp,hP⟩:=hm;have h20:=hk.fl;have Pa:=hk.ofl;have hll:=hk.ll;have XQ:=hk.kl;have hlb:=hk.lb;have hs:=St.start w;refine jT Tryz.func72 ?_;exact aE (aA He (aK cT (c2.ext hs.aD) (fy yr hs (C70 _ _ _ (hL.ext hs.aD) (by omega)) (λ _ _ _ hs=>hs.fresh))))
theorem C73 (p:Nat) (m:Mem) (w:World) (hm:xc w p m) (hk:XP m):CR 73 [(.pointer (some ⟨p,0,none⟩))] w (λ v w'=>pD (bR v m.kept) w w'):=by
 have hm0:=hm;obtain ⟨ov,fv,lv,kv,pm,c0,c1,c2,c3,c4,hO,FD,hL,hKp,hP⟩:=hm;have h20:=hk.fl;have Pa:=hk.ofl;have hll:=hk.ll;have XQ:=hk.kl;have hlb:=hk.lb;have hs:=St.start w;refine jT Tryz.func73 ?_;exact aE (aA Aq (aK cT (c3.ext hs.aD) (fy yr hs (C70 _ _ _ (hKp.ext hs.aD) (by omega)) (λ _ _ _ hs=>hs.fresh))))
def nxt:List Nat->List Int->Option (List Int)
 | p::ps,c::cs=>match nxt ps cs with
  | some cs'=>some (c::cs')
  | none=>if c<p then some ((c+1)::List.replicate cs.length 0) else none
 | _,_=>none
end Go.Proofs.YtnjcingfdhjfkaaGreat
namespace Go.Fw
open Go.MapKept (Stamped IsKey)
open Go.ChangeMaps (setBlock)
section
variable {P:Program} {w w0 w':World} {A:Nat->Prop} {L:List HP} {b r:Nat}
theorem mV {f:FuncId} {args:List Value} {H:HP} {H':Value->HP} {Φ:Value->World->Prop} {K:Value->World->Prop} (pl:Plain P f) (hs:St w0 A (H::L) w)
  (hc:∀ F,H.p w F->(∀ w',kj F w w'->St w0 A L w')->Calls P f args.toArray w (mE λ v w'=>Φ v w'/\D8 F (H' v) w w')) (k:∀ v w',Φ v w'->St w0 A (H' v::L) w'->K v w'):tj P f args w K:=by
 obtain ⟨U,F,U',h1,h2,h3,h4,h5⟩:=hs.ng
 refine gW pl (hc F h1 λ w' hw=>⟨hs.aD.trans hw (λ _ h=>h) λ b hb hf=>(h2 b hf).elim id λ hh=>by omega,U',h5.loc λ b hb=>hw.cZ b (h5.lt b hb) λ hf=>h3 b hf hb⟩) λ v w' ⟨hΦ,hM⟩=>k v w' hΦ (hs.Oi h2 h3 h5 hM)
end
def Has (H:HP) (w:World):Prop:=∃ F,H.p w F
theorem St.has {w w0:World} {A:Nat->Prop} {L:List HP} {H:HP} (hs:St w0 A (H::L) w):Has H w:=by obtain ⟨F,h,_⟩:=hs.head; exact ⟨F,h⟩
theorem Has.ext {H:HP} {w w':World} (h:Has H w) (e:Ext w w'):Has H w':=by
 obtain ⟨F,h⟩:=h; exact ⟨F,H.loc _ _ _ h λ b hb=>e.cZ b (H.lt _ _ _ h hb) λ x=>x⟩
theorem Has.st {H:HP} {w:World} (h:Has H w):∃ F,St w F [H] w:=by obtain ⟨F,h⟩:=h; exact ⟨F,St.begin h⟩
end Go.Fw
namespace Go.Proofs.YtnjcingfdhjfkaaGreat
open Go.Fw
def y8 (of:List Int) (stays:Int) (bP:List Int):Mem:=⟨of.take stays.toNat,bP,bP,bP.take stays.toNat,λ _=>[]⟩
theorem C54 (of bP:List Int) (stays:Int) (av bv:Value) (w:World) (hO:ee (λ _=>True) w av of) (FD:ee (λ _=>True) w bv bP) (hlen:of.length=bP.length) (h20:of.length<=20) (hst:0<=stays/\stays<=of.length) (XR:∀ (k:Nat) (n:Int),(k:Int)<stays->of[k]? = some n->(n=fN of k\/(0<k/\n=fN of k - 1))/\-10<=n/\n<=100):CR 54 [av,.int .i64 stays,bv] w (λ v w'=>∃ (p:Nat) (ov fv:SV),v = .tuple #[.pointer (some ⟨p,0,none⟩),.int .i64 0]/\pD (sep (bR (Flat.val ov) (of.take stays.toNat)) (sep (bR (Flat.val fv) bP) (iW p (Flat.val ov) (Flat.val fv) (y8 of stays bP)))) w w'):=by
 have hs:=St.start w;refine jT Tryz.func54 ?_;refine ⟨λ jv w'=>jv = .bool (decide (of.length≠bP.length\/20<of.length\/stays<0\/of.length<stays))/\w=w',aI cB (hO.ext hs.aD) (aI cB (FD.ext hs.aD) (bJ (aC (λ _=>⟨Gn (by omega),rfl⟩) (λ _=>aI cB (hO.ext hs.aD) (cC (aC (λ _=>⟨Gn (by omega),rfl⟩) (λ _=>aN (aC (λ _=>⟨Gn (by omega),rfl⟩) (λ _=>aI cB (hO.ext hs.aD) (cC ⟨Ab (by omega),rfl⟩)))))))))),?_⟩;rintro _ w1 ⟨rfl,hw⟩ _;subst hw;refine aC (λ rD=>absurd rD (by omega)) (λ rD=>fk cB (hO.ext hs.aD) (by omega) (by omega) (λ XF CQ=>?_));have yV:=CQ _ hO
 refine aI cB (yV.ext hs.aD) ?_;refine ⟨λ mm l x w1=>∃ (k:Nat) (last:Int),l = .int .i64 last/\x = .int .i64 (k:Int)/\mm=(of.take stays.toNat).length - k/\k<=(of.take stays.toNat).length/\last=fN of k - 1/\-200<=last/\last<=200/\St w aZ [] w1,⟨_,0,-1,rfl,rfl,rfl,Nat.zero_le _,rfl,by omega,by omega,hs⟩,?_⟩;rintro mm _ _ w2 ⟨k,last,rfl,rfl,rfl,sB,O0,hl7,hl8,hs⟩ _;have Oe:(of.take stays.toNat).length=stays.toNat:=by rw [List.length_take]; omega
 refine aN (aC (λ oM=>?_) (λ oM=>?_))
 ·obtain ⟨lO,lP⟩:=gx (((of).take (stays).toNat)) (i:=((k:Int)).toNat) (by omega);refine aR cB yV (by omega) lP (λ _ rL=>?_)
  have Sn:of[k]? = some lO:=by
   have h0:=lP;rw [List.getElem?_take] at h0
   split at h0
   ·exact h0
   ·cases h0
  obtain ⟨hl1,NS,hl3⟩:=XR k _ (by omega) Sn;refine aO bK (rL.ext hs.aD) ⟨λ jv w'=>jv = .bool (decide (lO≠last+1/\(k=0\/lO≠last)))/\w2=w',aW (by omega) (bJ (aC (λ _=>aF (aC (λ _=>⟨Gn (by omega),rfl⟩) (λ _=>bJ ⟨Ab (by omega),rfl⟩))) (λ _=>⟨jvF (by omega),rfl⟩))),?_⟩;rintro _ _ ⟨rfl,hw⟩ _;subst hw;refine aC (λ Pb=>absurd Pb (by have:=XR k lO (by omega) Sn; simp; omega)) (λ Pb=>?_);have T6:fN of (k+1)=lO+1:=by unfold fN; rw [if_neg (by omega),Nat.add_sub_cancel,List.getD_eq_getElem?_getD,Sn]; rfl
  exact aW (by omega) ⟨_,by omega,k+1,lO,rfl,rfl,rfl,by omega,by omega,by omega,by omega,hs⟩
 refine fk cB (hO.ext hs.aD) (by omega) (by omega) (λ s_x58 So=>?_);have Sp:=So _ hO;refine fy yr hs (C70 _ _ _ (Sp.ext hs.aD) (by first | omega | (rw [List.length_take]; omega))) (λ x59 _ er hs=>fy yr hs (C70 _ _ _ (FD.ext hs.aD) (by first | omega | (rw [List.length_take]; omega))) (λ x61 _ er hs=>fy yr hs (C70 _ _ _ (FD.ext hs.aD) (by first | omega | (rw [List.length_take]; omega))) (λ x63 _ er hs=>yY (α:=vp) hs (λ b_x64 _ hs=>?_))));obtain ⟨Sq,rfl⟩:=(hs.p3).iu;obtain ⟨Sr,rfl⟩:=(hs.p2).iu;obtain ⟨Ss,rfl⟩:=(hs.p1).iu;refine pop (vg _ _ _ _ _ _ _ _ _ _) (js hs (λ XS _ hs=>fk cB (FD.ext hs.aD) (by omega) (by omega) (λ s_x70 Su=>?_)))
 have Sv:=Su _ FD;exact fy yr hs (C70 _ _ _ (Sv.ext hs.aD) (by first | omega | (rw [List.length_take]; omega))) (λ _ _ _ hs=>aE (aA Aq (bH hs.p1 cT (ft rfl) ((hs).jo.one) (λ _ hs=>have hs:=iW.shut (m:=y8 of stays bP) hs.p4.p5.p4.p4.p5.p5;⟨XS,Sq,Sr,rfl,(St.join (St.join hs.p2).p1).fresh⟩))))
structure eB where
 code:dK
 at_:Int
 aG:List Int
 counts:List Int
 fault:Int
 e:Int
 f:Int
 buf:List cG
def me (K:World->Prop) (gl:Value) (l:List aV):Prop:=∃ ts:List aX,∀ w,K w->ee (λ _=>True) w gl ts/\kV ts l w
def fe (K:World->Prop) (p:Nat) (room:Int) (t:eB):HP:=ui λ bp:Nat=>ui λ gl=>ui λ rg=>ui λ cn=>fact (me K gl t.code.l)
 (sep (cZ p [.pointer (some ⟨bp,0,none⟩),.int .i64 t.code.aG,.int .i64 t.code.counts,gl,.int .i64 t.at_,rg,cn,.int .i64 t.fault,.int .i64 t.e,.int .i64 t.f]) (sep (nr bp room t.buf) (sep (bR rg t.aG) (bR cn t.counts))))
section
variable {w w0:World} {A:Nat->Prop} {R:List HP} {p:Nat} {K:World->Prop} {room:Int} {t:eB}
theorem fe.open (hs:St w0 A (fe K p room t::R) w):∃ bp gl rg cn,me K gl t.code.l/\St w0 A (cZ p [.pointer (some ⟨bp,0,none⟩),.int .i64 t.code.aG,.int .i64 t.code.counts,gl,.int .i64 t.at_,rg,cn,.int .i64 t.fault,.int .i64 t.e,.int .i64 t.f]::nr bp room t.buf::bR rg t.aG::bR cn t.counts::R) w:=by
 obtain ⟨bp,hs⟩:=hs.gK; obtain ⟨gl,hs⟩:=hs.gK; obtain ⟨rg,hs⟩:=hs.gK; obtain ⟨cn,hs⟩:=hs.gK; obtain ⟨hk,hs⟩:=hs.AA
 have h1:=hs.split
 have h2:=h1.p1.split
 have h3:=h2.p1.split
 exact ⟨bp,gl,rg,cn,hk,h3.p2.p3⟩
theorem fe.shut {bp:Nat} {gl rg cn:Value} (hk:me K gl t.code.l) (hs:St w0 A (cZ p [.pointer (some ⟨bp,0,none⟩),.int .i64 t.code.aG,.int .i64 t.code.counts,gl,.int .i64 t.at_,rg,cn,.int .i64 t.fault,.int .i64 t.e,.int .i64 t.f]::nr bp room t.buf::bR rg t.aG::bR cn t.counts::R) w):St w0 A (fe K p room t::R) w:=by
 have h1:=St.join (hs.p3.p3)
 have h2:=St.join h1.p2
 exact St.fO bp (St.fO gl (St.fO rg (St.fO cn (St.xC hk (St.join h2.p1)))))
theorem fe.rd (h:Has (fe K p room t) w):∃ bp gl rg cn,me K gl t.code.l/\ow w p [.pointer (some ⟨bp,0,none⟩),.int .i64 t.code.aG,.int .i64 t.code.counts,gl,.int .i64 t.at_,rg,cn,.int .i64 t.fault,.int .i64 t.e,.int .i64 t.f]/\rR w bp room t.buf/\ee (λ _=>True) w rg t.aG/\ee (λ _=>True) w cn t.counts:=by
 obtain ⟨F,hs⟩:=h.st
 obtain ⟨bp,gl,rg,cn,hk,hs⟩:=fe.open hs
 exact ⟨bp,gl,rg,cn,hk,hs.hb,ED hs.p1,hs.p2.jo,hs.p3.jo⟩
end
def fB (t:eB):Option aV:=if (t.code.l.length:Int)<=t.at_ then none else t.code.l[t.at_.toNat]?
def bL (l:List gC) (aG:List Int):Int × Bool:=if l.length=0 then (0,true) else ((runM l aG).1,decide ((runM l aG).2=0))
def tE (t:eB) (x:aV):eB:={t with fault:=if (bL x.e t.aG).2=true then t.fault else 2,e:=(bL x.e t.aG).1}
def tF (t:eB) (x:aV):eB:={t with fault:=if (bL x.f t.aG).2=true then t.fault else 2,f:=(bL x.f t.aG).1}
def pn (t:eB) (x:aV) (e:Int):eB × Bool:=
 if x.kind=1 then ({t with aG:=t.aG.set x.a.toNat e,at_:=t.at_+1},true)
 else if x.kind=11 then ({t with at_:=x.to},true)
 else if x.kind=12 then (if e=0 then ({t with at_:=x.to},true) else ({t with at_:=t.at_+1},true))
 else if x.kind=13 then ({t with counts:=t.counts.set x.a.toNat x.b,at_:=t.at_+1},true)
 else if x.kind=14 then (if 0<kW (t.counts.getD x.a.toNat 0 - 1) then ({t with counts:=t.counts.set x.a.toNat (kW (t.counts.getD x.a.toNat 0 - 1)),at_:=x.to},true) else ({t with counts:=t.counts.set x.a.toNat (kW (t.counts.getD x.a.toNat 0 - 1)),at_:=t.at_+1},true))
 else if x.kind=15 then (if e=0 then ({t with fault:=1},false) else ({t with at_:=t.at_+1},true))
 else (t,false)
def cU (t:eB):eB × Bool:=match fB t with
 | none=>(t,false)
 | some x=>if (bL x.e t.aG).2=true then (if (bL x.f t.aG).2=true then pn (tF (tE t x) x) x (bL x.e t.aG).1 else (tF (tE t x) x,false)) else (tE t x,false)
def pM:Nat->eB->Option eB
 | 0,_=>none
 | n+1,t=>if (cU t).2=true then pM n (cU t).1 else some (cU t).1
structure sZ (c:dK):Prop where
 len:c.l.length<=1000000
 rb:0<=c.aG/\c.aG<=1000
 cb:0<=c.counts/\c.counts<=1000
 ops:∀ x∈c.l,x.e.length<=1000/\x.f.length<=1000/\0<=x.to/\x.to<=1000000
 set:∀ x∈c.l,x.kind=1->0<=x.a/\x.a<c.aG
 fq:∀ x∈c.l,x.kind=13\/x.kind=14->0<=x.a/\x.a<c.counts
structure zT (t:eB):Prop where
 code:sZ t.code
 rg:(t.aG.length:Int)=t.code.aG
 cn:(t.counts.length:Int)=t.code.counts
 Pc:0<=t.at_
 bl:t.buf.length<=1000
theorem lu {t:eB} {x:aV} (h:fB t=some x):x∈t.code.l/\t.at_<t.code.l.length:=by
 unfold fB at h
 split at h
 ·cases h
 exact ⟨List.mem_of_getElem? h,by omega⟩
theorem Sw {t:eB} {x:aV} {e:Int} (h:zT t) (hx:x∈t.code.l):zT (pn t x e).1:=by
 have h1:=h.Pc; have h2:=(h.code.ops x hx).2.2.1; have h3:=h.rg; have h4:=h.cn
 unfold pn
 repeat' split
 all_goals first
  | exact ⟨h.code,h3,h4,h2,h.bl⟩
  | exact ⟨h.code,h3,h4,h1,h.bl⟩
  | exact ⟨h.code,h3,h4,(by show 0<=t.at_+1; omega),h.bl⟩
  | exact ⟨h.code,(by simpa using h3),h4,(by show 0<=t.at_+1; omega),h.bl⟩
  | exact ⟨h.code,h3,(by simpa using h4),(by show 0<=t.at_+1; omega),h.bl⟩
  | exact ⟨h.code,h3,(by simpa using h4),h2,h.bl⟩
theorem eG {t:eB} (h:zT t):zT (cU t).1:=by
 unfold cU
 cases hn:fB t with
 | none=>exact h
 | some x=>
  have hx:=(lu hn).1
  have he:zT (tE t x):=⟨h.code,h.rg,h.cn,h.Pc,h.bl⟩
  have hf:zT (tF (tE t x) x):=⟨h.code,h.rg,h.cn,h.Pc,h.bl⟩
  dsimp only
  split
  ·split
   ·exact Sw hf hx
   ·exact hf
  ·exact he
theorem Bb {n:Nat} {t tR:eB} (h:pM n t=some tR):∃ k,n=k+1:=by
 cases n with
 | zero=>cases h
 | succ k=>exact ⟨k,rfl⟩
theorem ja {k:Nat} {t tR t':eB} (h:pM (k+1) t=some tR) (hs:cU t=(t',true)):pM k t'=some tR:=by
 unfold pM at h; rw [hs] at h; exact h
theorem kf {k:Nat} {t tR t':eB} (h:pM (k+1) t=some tR) (hs:cU t=(t',false)):tR=t':=by
 unfold pM at h; rw [hs] at h; exact (Option.some.inj h).symm
section
variable {t:eB} {x:aV} {e:Int}
theorem I9 (h:x.kind=1):pn t x e=({t with aG:=t.aG.set x.a.toNat e,at_:=t.at_+1},true):=by unfold pn; rw [if_pos h]
theorem CV (h:x.kind=11):pn t x e=({t with at_:=x.to},true):=by unfold pn; simp [h]
theorem y9 (h:x.kind=12) (he:e=0):pn t x e=({t with at_:=x.to},true):=by unfold pn; simp [h,he]
theorem za (h:x.kind=12) (he:¬ e=0):pn t x e=({t with at_:=t.at_+1},true):=by unfold pn; simp [h,he]
theorem CW (h:x.kind=13):pn t x e=({t with counts:=t.counts.set x.a.toNat x.b,at_:=t.at_+1},true):=by unfold pn; simp [h]
theorem zb (h:x.kind=14) (he:0<kW (t.counts.getD x.a.toNat 0 - 1)):pn t x e=({t with counts:=t.counts.set x.a.toNat (kW (t.counts.getD x.a.toNat 0 - 1)),at_:=x.to},true):=by unfold pn; simp only [h,if_neg (show ¬ (14:Int)=1 by decide),if_neg (show ¬ (14:Int)=11 by decide),if_neg (show ¬ (14:Int)=12 by decide),if_neg (show ¬ (14:Int)=13 by decide),if_pos he,if_true]
theorem zd (h:x.kind=14) (he:¬ 0<kW (t.counts.getD x.a.toNat 0 - 1)):pn t x e=({t with counts:=t.counts.set x.a.toNat (kW (t.counts.getD x.a.toNat 0 - 1)),at_:=t.at_+1},true):=by unfold pn; simp only [h,if_neg (show ¬ (14:Int)=1 by decide),if_neg (show ¬ (14:Int)=11 by decide),if_neg (show ¬ (14:Int)=12 by decide),if_neg (show ¬ (14:Int)=13 by decide),if_neg he,if_true]
theorem ze (h:x.kind=15) (he:e=0):pn t x e=({t with fault:=1},false):=by unfold pn; simp [h,he]
theorem zf (h:x.kind=15) (he:¬ e=0):pn t x e=({t with at_:=t.at_+1},true):=by unfold pn; simp [h,he]
theorem CX (h1:¬ x.kind=1) (h2:¬ x.kind=11) (h3:¬ x.kind=12) (h4:¬ x.kind=13) (h5:¬ x.kind=14) (h6:¬ x.kind=15):pn t x e=(t,false):=by unfold pn; rw [if_neg h1,if_neg h2,if_neg h3,if_neg h4,if_neg h5,if_neg h6]
theorem rT (h:fB t=none):cU t=(t,false):=by unfold cU; rw [h]
theorem rU (h:fB t=some x) (h2:(bL x.e t.aG).2=false):cU t=(tE t x,false):=by unfold cU; rw [h]; dsimp only; rw [h2]; rfl
theorem rV (h:fB t=some x) (h2:(bL x.e t.aG).2=true) (h3:(bL x.f t.aG).2=false):cU t=(tF (tE t x) x,false):=by unfold cU; rw [h]; dsimp only; rw [h2,h3]; rfl
theorem gA (h:fB t=some x) (h2:(bL x.e t.aG).2=true) (h3:(bL x.f t.aG).2=true):cU t=pn (tF (tE t x) x) x (bL x.e t.aG).1:=by unfold cU; rw [h]; dsimp only; rw [h2,h3]; rfl
end
theorem C65 (K:World->Prop) (p:Nat) (room:Int) (t:eB) (w:World) (hh:Has (fe K p room t) w) (hw:K w) (hZ:zT t):CR 65 [(.pointer (some ⟨p,0,none⟩))] w (λ v w'=>(fB t=none/\v = .tuple #[Flat.val (⟨0,0,0,⟨none,0,0⟩,⟨none,0,0⟩,0⟩:aX),.bool false]/\Ext w w')\/∃ x xv,fB t=some x/\(∀ w,K w->Deep.dr w xv x)/\v = .tuple #[Flat.val (xv:aX),.bool true]/\Ext w w'):=by
 obtain ⟨bp,gl,rg,cn,⟨Pd,wP⟩,fR,hB,CY,Ja⟩:=fe.rd hh;have c0:=fR.cell (o:=0) rfl;have c3:=fR.cell (o:=3) rfl;have c4:=fR.cell (o:=4) rfl;have c7:=fR.cell (o:=7) rfl;have Sx:True:=trivial;have KK:=(wP w hw).1;have MC:=(wP w hw).2;have T8:=MC.1;have zS:=hZ.code.len;have hat0:=hZ.Pc;have hs:=St.start w;refine Cs Tryz.func65 (pl:=P65) ?_;refine bT hs fK (λ jY _ hs=>have hs:=hs.enc (cs':=Flat.enc (⟨0,0,0,⟨none,0,0⟩,⟨none,0,0⟩,0⟩:aX)) rfl;aE (aA ie (have hs:=hs.drew;aK bK (c4.ext hs.aD) (aE (aA An (aA dZ (aK fG (c3.ext hs.aD) (aI gp (KK.ext hs.aD) (cY (aC (λ _=>pop (v:=Flat.val (⟨0,0,0,⟨none,0,0⟩,⟨none,0,0⟩,0⟩:aX)) (by kernel_rfl) (cO (x:=(⟨0,0,0,⟨none,0,0⟩,⟨none,0,0⟩,0⟩:aX)) hs eg rfl rfl (λ _ hs=>aO eg hs.At (.inl ⟨by unfold fB; rw [if_pos (by omega)],rfl,hs.drop.aD⟩)))) (λ rA=>aE (aA An (aA dZ (have hs:=hs.drew;aK fG (c3.ext hs.aD) (aE (aA ie (aK bK (c4.ext hs.aD) ?_)))))))))))))))))
 obtain ⟨I4,nq⟩:=gx Pd (i:=(t.at_).toNat) (by omega);obtain ⟨dT,lQ⟩:=gx (t.code.l) (i:=(t.at_).toNat) (by omega);obtain ⟨yU,pk,rfl,EB,EC⟩:=MC.2 _ _ _ nq lQ;exact aR gp KK (by omega) nq (λ _ rP=>aO eg (rP.ext hs.aD) (cO (x:=(⟨(dT).kind,(dT).a,(dT).b,yU,pk,(dT).to⟩:aX)) hs eg rfl rfl (λ _ hs=>aO eg hs.At (.inr ⟨_,_,by unfold fB; rw [if_neg (by omega)]; exact lQ,λ w hw=>(wP w hw).2.2 _ _ _ nq lQ,rfl,hs.drop.aD⟩))))
theorem C189 (K:World->Prop) (p:Nat) (room:Int) (t:eB) (F:Nat->Prop) (lv:Value) (xs:List gC) (w:World) (hF:(fe K p room t).p w F) (hL:∀ w',kj F w w'->ee (λ _=>True) w' lv xs) (hn:xs.length<=1000):CR 189 [(.pointer (some ⟨p,0,none⟩)),lv] w (λ v w'=>v = .tuple #[.int .i64 (bL xs t.aG).1,.bool (bL xs t.aG).2]/\D8 F (fe K p room {t with fault:=if (bL xs t.aG).2=true then t.fault else 2}) w w'):=by
 have hs:=St.begin hF;refine LC _ _ _ _ ?_;unfold S189;refine aI e8 (hL _ hs.aD) (aF (aC (λ fM=>?_) (λ fM=>?_)))
 ·have hv:bL xs t.aG=(0,true):=by unfold bL; rw [if_pos (by omega)]
  rw [hv];exact ⟨rfl,hs.mut⟩
 have hv:bL xs t.aG=((runM xs t.aG).1,decide ((runM xs t.aG).2=0)):=by unfold bL; rw [if_neg (by omega)]
 obtain ⟨bp,gl,rg,cn,pZ,hs⟩:=fe.open hs;refine aE (aA u9 (aB cT hs.hb rfl (bF N1 hs (C110 _ _ xs _ _ (hL _ hs.aD) (hs.p2).jo (by omega)) (λ _ he hs=>bI rfl (bI rfl ⟨λ w'=>St w F [fe K p room {t with fault:=if (bL xs t.aG).2=true then t.fault else 2}] w',bJ (aC (λ jA=>?_) (λ jA=>?_)),?_⟩)))))
 ·refine aE (aA vc (bH hs bK (ft rfl) (rfl) (λ _ hs=>?_)));have hs:=fe.shut (t:=(⟨t.code,t.at_,t.aG,t.counts,2,t.e,t.f,t.buf⟩:eB)) pZ hs.p3.p3.p3.p3;have ht:(⟨t.code,t.at_,t.aG,t.counts,2,t.e,t.f,t.buf⟩:eB)={t with fault:=if (bL xs t.aG).2=true then t.fault else 2}:=by rw [hv]; dsimp only; rw [decide_eq_false (by omega)]; rfl
  rw [ht] at hs;exact hs
 ·have hs:=fe.shut (t:=(⟨t.code,t.at_,t.aG,t.counts,t.fault,t.e,t.f,t.buf⟩:eB)) pZ hs.p3.p3.p3.p3;have ht:(⟨t.code,t.at_,t.aG,t.counts,t.fault,t.e,t.f,t.buf⟩:eB)={t with fault:=if (bL xs t.aG).2=true then t.fault else 2}:=by rw [hv]; dsimp only; rw [decide_eq_true (by omega)]; rfl
  rw [ht] at hs;exact hs
 intro _ hs _;refine aF ?_;refine ⟨?_,hs.mut⟩;rw [hv]
theorem C122 (K:World->Prop) (p:Nat) (room:Int) (t:eB) (tR:eB) (n:Nat) (F:Nat->Prop) (w:World) (hF:(fe K p room t).p w F) (hK:∀ w',kj F w w'->K w') (hZ:zT t) (hg:pM n t=some tR):CR 122 [(.pointer (some ⟨p,0,none⟩))] w (λ v w'=>v = .tuple #[]/\D8 F (fe K p room tR) w w'):=by
 have hs:=St.begin hF;refine Lp _ _ _ ?_;unfold S122;refine ⟨λ mm w'=>∃ t1:eB,pM mm t1=some tR/\zT t1/\St w F [fe K p room t1] w',⟨n,t,hg,hZ,hs⟩,?_⟩;rintro mm _ ⟨t1,sD,jc,hs⟩ _;obtain ⟨k,rfl⟩:=Bb sD;refine gW QN (C65 K p room t1 _ hs.has (hK _ hs.aD) jc) ?_;rintro v_x8 _ XT
 rcases XT with ⟨kz,rfl,he⟩ | ⟨x,xv,kz,Sy,rfl,he⟩
 ·have hs:=hs.ext he;refine bI rfl (bI rfl (bT hs fK (λ jY w3 hs=>have hs:=hs.enc (cs':=Flat.enc (⟨0,0,0,⟨none,0,0⟩,⟨none,0,0⟩,0⟩:aX)) rfl;cO (x:=(⟨0,0,0,⟨none,0,0⟩,⟨none,0,0⟩,0⟩:aX)) hs eg rfl rfl (λ w4 hs=>bO (eZ ?_)))));have hs:=(hs).drop;rw [kf sD (rT kz)];exact ⟨rfl,hs.mut⟩
 have hs:=hs.ext he;have Jb:=lu kz;obtain ⟨hxe,hxf,ac9,ada⟩:=jc.code.ops x Jb.1;have Jc:=jc.code.set x Jb.1;have Bc:=jc.code.fq x Jb.1;have adb:=jc.rg;have ade:=jc.cn;have adf:=jc.code.len;have adg:=jc.Pc;obtain ⟨ge,gf,rfl,_,_⟩:=Sy _ (hK _ hs.aD)
 have hxE:∀ w,K w->ee (λ _=>True) w (Flat.val ge) x.e:=λ w hw=>by
  obtain ⟨ge',gf',hh,h1,_⟩:=Sy w hw;cases hh; exact DL.flat h1
 have hxF:∀ w,K w->ee (λ _=>True) w (Flat.val gf) x.f:=λ w hw=>by
  obtain ⟨ge',gf',hh,_,h2⟩:=Sy w hw;cases hh; exact DL.flat h2
 refine bI rfl (bI rfl (bT hs fK (λ jY w3 hs=>have hs:=hs.enc (cs':=Flat.enc (⟨0,0,0,⟨none,0,0⟩,⟨none,0,0⟩,0⟩:aX)) rfl;cO (x:=(⟨x.kind,x.a,x.b,ge,gf,x.to⟩:aX)) hs eg rfl rfl (λ w4 hs=>bO (dN (aA gy (aB (v:=Flat.val (ge:SV)) gh hs.hb rfl (mV Oa hs.p1 (H':=λ _=>fe K p room {t1 with fault:=if (bL x.e t1.aG).2=true then t1.fault else 2}) (Φ:=λ v _=>v = .tuple #[.int .i64 (bL x.e t1.aG).1,.bool (bL x.e t1.aG).2]) (λ F2 Jd sw=>?_) ?_))))))))
 ·exact C189 K p room t1 F2 _ x.e _ Jd (λ w' hc=>hxE w' (hK w' (sw w' hc).aD)) hxe
 rintro _ _ rfl hs;refine bI rfl (bI rfl ?_);obtain ⟨bp,gl,rg,cn,pZ,hs⟩:=fe.open hs
 change St _ _ (cZ p [.pointer (some ⟨bp,0,none⟩),.int .i64 t1.code.aG,.int .i64 t1.code.counts,gl,.int .i64 t1.at_,rg,cn,.int .i64 (if (bL x.e t1.aG).2=true then t1.fault else 2),.int .i64 t1.e,.int .i64 t1.f]::nr bp room t1.buf::bR rg t1.aG::bR cn t1.counts::_) _ at hs
 refine aE (aA rh (bH hs bK (ft rfl) (rfl) (λ _ hs=>bO (bD (λ lI=>?_) (λ lI=>?_)))))
 ·have hs:=fe.shut (t:=(⟨t1.code,t1.at_,t1.aG,t1.counts,(if (bL x.e t1.aG).2=true then t1.fault else 2),(bL x.e t1.aG).1,t1.f,t1.buf⟩:eB)) pZ hs.p3.p3.p3.p3;have hs:=(hs.p1).drop;rw [kf sD (rU kz (by simpa using lI))];exact ⟨rfl,hs.mut⟩
 have hs:=fe.shut (t:=(⟨t1.code,t1.at_,t1.aG,t1.counts,(if (bL x.e t1.aG).2=true then t1.fault else 2),(bL x.e t1.aG).1,t1.f,t1.buf⟩:eB)) pZ hs.p3.p3.p3.p3
 change St w F (fe K p room (tE t1 x)::_) _ at hs
 refine aA ep (aB (v:=Flat.val (gf:SV)) gh hs.p1.hb rfl (mV Oa hs (H':=λ _=>fe K p room { (tE t1 x) with fault:=if (bL x.f (tE t1 x).aG).2=true then (tE t1 x).fault else 2}) (Φ:=λ v _=>v = .tuple #[.int .i64 (bL x.f t1.aG).1,.bool (bL x.f t1.aG).2]) (λ F2 Jd sw=>?_) ?_))
 ·exact C189 K p room (tE t1 x) F2 _ x.f _ Jd (λ w' hc=>hxF w' (hK w' (sw w' hc).aD)) hxf
 rintro _ _ rfl hs;refine bI rfl (bI rfl ?_);obtain ⟨bp,gl,rg,cn,pZ,hs⟩:=fe.open hs
 change St _ _ (cZ p [.pointer (some ⟨bp,0,none⟩),.int .i64 t1.code.aG,.int .i64 t1.code.counts,gl,.int .i64 t1.at_,rg,cn,.int .i64 (if (bL x.f t1.aG).2=true then (tE t1 x).fault else 2),.int .i64 (bL x.e t1.aG).1,.int .i64 t1.f]::nr bp room t1.buf::bR rg t1.aG::bR cn t1.counts::_) _ at hs
 refine aE (aA Hc (bH hs bK (ft rfl) (rfl) (λ _ hs=>bO (bD (λ im=>?_) (λ im=>?_)))))
 ·have hs:=fe.shut (t:=(⟨t1.code,t1.at_,t1.aG,t1.counts,(if (bL x.f t1.aG).2=true then (tE t1 x).fault else 2),(bL x.e t1.aG).1,(bL x.f t1.aG).1,t1.buf⟩:eB)) pZ hs.p3.p3.p3.p3;have hs:=(hs.p1).drop;rw [kf sD (rV kz (by simpa using lI) (by simpa using im))];exact ⟨rfl,hs.mut⟩
 refine aE (aA ie (aB bK hs.hb rfl (aW (by omega) ?_)));refine ⟨_,?_,λ _ _ h=>h⟩;refine aA cR (aB (v:=.int .i64 x.kind) bK hs.p4.hb rfl (aF (aC (λ fh=>?_) (λ fh=>aF (aC (λ rK=>?_) (λ rK=>aF (aC (λ nN=>aE (aA rh (aB bK hs.hb rfl (aF (aC (λ rz=>?_) (λ rz=>?_)))))) (λ nN=>?_))))))))
 ·have FE:=Jc fh;refine aE (aA u9 (have hs:=hs.drew;aB cT hs.hb rfl (aA eo (aB (v:=.int .i64 x.a) bK hs.p4.hb rfl (aE (aA rh (aB bK hs.hb rfl ?_)))))));obtain ⟨e_x56,adl⟩:=gx (t1.aG) (i:=(x.a).toNat) (by omega);refine eu hs.p2 cB (by omega) (by omega) (λ _ XU=>kQ _ hs.p2 bK XU (by omega) (λ _ hs=>?_));intro kD;refine aE (aA ie (bH hs.p1 bK (ft rfl) (rfl) (λ Sz hs=>?_)));have hs:=fe.shut (t:=(⟨t1.code,(t1.at_+1),((t1.aG).set (x.a).toNat (bL x.e t1.aG).1),t1.counts,(if (bL x.f t1.aG).2=true then (tE t1 x).fault else 2),(bL x.e t1.aG).1,(bL x.f t1.aG).1,t1.buf⟩:eB)) pZ hs.p3.p2.p3.p3
  have hs:=(hs.p1).drop
  have hst:cU t1=((⟨t1.code,(t1.at_+1),((t1.aG).set (x.a).toNat (bL x.e t1.aG).1),t1.counts,(if (bL x.f t1.aG).2=true then (tE t1 x).fault else 2),(bL x.e t1.aG).1,(bL x.f t1.aG).1,t1.buf⟩:eB),true):=by
   rw [gA kz (by simpa using lI) (by simpa using im),I9 fh]
   try rw [show (tF (tE t1 x) x).counts.getD x.a.toNat 0=iP from sC]
   try rfl
  exact ⟨k,by omega,_,ja sD hst,by have:=eG jc; rw [hst] at this; exact this,hs⟩
 ·refine aA dQ (aB (v:=.int .i64 x.to) bK hs.p4.hb rfl ?_);intro kD;refine aE (aA ie (bH hs bK (ft rfl) (rfl) (λ Sz hs=>?_)));have hs:=fe.shut (t:=(⟨t1.code,x.to,t1.aG,t1.counts,(if (bL x.f t1.aG).2=true then (tE t1 x).fault else 2),(bL x.e t1.aG).1,(bL x.f t1.aG).1,t1.buf⟩:eB)) pZ hs.p3.p3.p3.p3;have hs:=(hs.p1).drop
  have hst:cU t1=((⟨t1.code,x.to,t1.aG,t1.counts,(if (bL x.f t1.aG).2=true then (tE t1 x).fault else 2),(bL x.e t1.aG).1,(bL x.f t1.aG).1,t1.buf⟩:eB),true):=by
   rw [gA kz (by simpa using lI) (by simpa using im),CV rK]
   try rw [show (tF (tE t1 x) x).counts.getD x.a.toNat 0=iP from sC]
   try rfl
  exact ⟨k,by omega,_,ja sD hst,by have:=eG jc; rw [hst] at this; exact this,hs⟩
 ·refine aA dQ (aB (v:=.int .i64 x.to) bK hs.p4.hb rfl ?_);intro kD;refine aE (aA ie (bH hs bK (ft rfl) (rfl) (λ Sz hs=>?_)));have hs:=fe.shut (t:=(⟨t1.code,x.to,t1.aG,t1.counts,(if (bL x.f t1.aG).2=true then (tE t1 x).fault else 2),(bL x.e t1.aG).1,(bL x.f t1.aG).1,t1.buf⟩:eB)) pZ hs.p3.p3.p3.p3;have hs:=(hs.p1).drop
  have hst:cU t1=((⟨t1.code,x.to,t1.aG,t1.counts,(if (bL x.f t1.aG).2=true then (tE t1 x).fault else 2),(bL x.e t1.aG).1,(bL x.f t1.aG).1,t1.buf⟩:eB),true):=by
   rw [gA kz (by simpa using lI) (by simpa using im),y9 nN rz]
   try rw [show (tF (tE t1 x) x).counts.getD x.a.toNat 0=iP from sC]
   try rfl
  exact ⟨k,by omega,_,ja sD hst,by have:=eG jc; rw [hst] at this; exact this,hs⟩
 ·intro kD;refine aE (aA ie (bH hs bK (ft rfl) (rfl) (λ Sz hs=>?_)));have hs:=fe.shut (t:=(⟨t1.code,(t1.at_+1),t1.aG,t1.counts,(if (bL x.f t1.aG).2=true then (tE t1 x).fault else 2),(bL x.e t1.aG).1,(bL x.f t1.aG).1,t1.buf⟩:eB)) pZ hs.p3.p3.p3.p3;have hs:=(hs.p1).drop
  have hst:cU t1=((⟨t1.code,(t1.at_+1),t1.aG,t1.counts,(if (bL x.f t1.aG).2=true then (tE t1 x).fault else 2),(bL x.e t1.aG).1,(bL x.f t1.aG).1,t1.buf⟩:eB),true):=by
   rw [gA kz (by simpa using lI) (by simpa using im),za nN rz]
   try rw [show (tF (tE t1 x) x).counts.getD x.a.toNat 0=iP from sC]
   try rfl
  exact ⟨k,by omega,_,ja sD hst,by have:=eG jc; rw [hst] at this; exact this,hs⟩
 refine aF (aC (λ nO=>?_) (λ nO=>aF (aC (λ Bd=>?_) (λ Bd=>aF (aC (λ zg=>aE (aA rh (aB bK hs.hb rfl (aF (aC (λ C0=>?_) (λ C0=>?_)))))) (λ zg=>?_))))))
 ·have FE:=Bc (.inl nO);refine aE (aA va (have hs:=hs.drew;aB cT hs.hb rfl (aA eo (aB (v:=.int .i64 x.a) bK hs.p4.hb rfl (aA fo (aB (v:=.int .i64 x.b) bK hs.p4.hb rfl ?_))))));obtain ⟨e_x80,adm⟩:=gx (t1.counts) (i:=(x.a).toNat) (by omega);refine eu hs.p3 cB (by omega) (by omega) (λ _ XV=>kQ _ hs.p3 bK XV (by omega) (λ _ hs=>?_));intro kD;refine aE (aA ie (bH hs.p1 bK (ft rfl) (rfl) (λ Sz hs=>?_)));have hs:=fe.shut (t:=(⟨t1.code,(t1.at_+1),t1.aG,((t1.counts).set (x.a).toNat x.b),(if (bL x.f t1.aG).2=true then (tE t1 x).fault else 2),(bL x.e t1.aG).1,(bL x.f t1.aG).1,t1.buf⟩:eB)) pZ hs.p1.p3.p3.p3
  have hs:=(hs.p1).drop
  have hst:cU t1=((⟨t1.code,(t1.at_+1),t1.aG,((t1.counts).set (x.a).toNat x.b),(if (bL x.f t1.aG).2=true then (tE t1 x).fault else 2),(bL x.e t1.aG).1,(bL x.f t1.aG).1,t1.buf⟩:eB),true):=by
   rw [gA kz (by simpa using lI) (by simpa using im),CW nO]
   try rw [show (tF (tE t1 x) x).counts.getD x.a.toNat 0=iP from sC]
   try rfl
  exact ⟨k,by omega,_,ja sD hst,by have:=eG jc; rw [hst] at this; exact this,hs⟩
 ·have FE:=Bc (.inr Bd);refine aE (aA va (have hs:=hs.drew;aB cT hs.hb rfl (aA eo (aB (v:=.int .i64 x.a) bK hs.p4.hb rfl ?_))));obtain ⟨iP,vZ⟩:=gx (t1.counts) (i:=(x.a).toNat) (by omega);refine eu hs.p3 cB (by omega) (by omega) (λ _ Je=>?_);have sC:t1.counts.getD x.a.toNat 0=iP:=by rw [List.getD_eq_getElem?_getD,vZ]; rfl
  refine iq hs.p3 bK Je vZ (mM (eu hs.p3 cB (by omega) (by omega) (λ _ XW=>kQ _ hs.p3 bK XW (by omega) (λ _ hs=>aE (aA va (have hs:=hs.drew;aB cT hs.p1.hb rfl ?_))))));have Ia:(t1.counts.set x.a.toNat (kW (iP - 1))).length=t1.counts.length:=List.length_set;refine aA eo (aB (v:=.int .i64 x.a) bK hs.p4.hb rfl ?_);obtain ⟨XX,C1⟩:=gx (((t1.counts).set (x.a).toNat (kW (iP - 1)))) (i:=(x.a).toNat) (by omega);refine eu hs cB (by omega) (by omega) (λ _ XY=>?_);have h99:XX=kW (iP - 1):=by rw [List.getElem?_set_self (by omega)] at C1; exact (Option.some.inj C1).symm
  refine iq hs bK XY C1 (cC (aC (λ I0=>?_) (λ I0=>?_)))
  ·refine aA dQ (aB (v:=.int .i64 x.to) bK hs.p4.hb rfl ?_);intro kD;refine aE (aA ie (bH hs.p1 bK (ft rfl) (rfl) (λ Sz hs=>?_)));have hs:=fe.shut (t:=(⟨t1.code,x.to,t1.aG,((t1.counts).set (x.a).toNat (kW (iP - 1))),(if (bL x.f t1.aG).2=true then (tE t1 x).fault else 2),(bL x.e t1.aG).1,(bL x.f t1.aG).1,t1.buf⟩:eB)) pZ hs.p1.p3.p3.p3;have hs:=(hs.p1).drop
   have hst:cU t1=((⟨t1.code,x.to,t1.aG,((t1.counts).set (x.a).toNat (kW (iP - 1))),(if (bL x.f t1.aG).2=true then (tE t1 x).fault else 2),(bL x.e t1.aG).1,(bL x.f t1.aG).1,t1.buf⟩:eB),true):=by
    rw [gA kz (by simpa using lI) (by simpa using im),zb Bd (by rw [show (tF (tE t1 x) x).counts.getD x.a.toNat 0=iP from sC]; omega)]
    try rw [show (tF (tE t1 x) x).counts.getD x.a.toNat 0=iP from sC]
    try rfl
   exact ⟨k,by omega,_,ja sD hst,by have:=eG jc; rw [hst] at this; exact this,hs⟩
  intro kD;refine aE (aA ie (bH hs.p1 bK (ft rfl) (rfl) (λ Sz hs=>?_)));have hs:=fe.shut (t:=(⟨t1.code,(t1.at_+1),t1.aG,((t1.counts).set (x.a).toNat (kW (iP - 1))),(if (bL x.f t1.aG).2=true then (tE t1 x).fault else 2),(bL x.e t1.aG).1,(bL x.f t1.aG).1,t1.buf⟩:eB)) pZ hs.p1.p3.p3.p3;have hs:=(hs.p1).drop
  have hst:cU t1=((⟨t1.code,(t1.at_+1),t1.aG,((t1.counts).set (x.a).toNat (kW (iP - 1))),(if (bL x.f t1.aG).2=true then (tE t1 x).fault else 2),(bL x.e t1.aG).1,(bL x.f t1.aG).1,t1.buf⟩:eB),true):=by
   rw [gA kz (by simpa using lI) (by simpa using im),zd Bd (by rw [show (tF (tE t1 x) x).counts.getD x.a.toNat 0=iP from sC]; omega)]
   try rw [show (tF (tE t1 x) x).counts.getD x.a.toNat 0=iP from sC]
   try rfl
  exact ⟨k,by omega,_,ja sD hst,by have:=eG jc; rw [hst] at this; exact this,hs⟩
 ·refine aE (aA vc (bH hs bK (ft rfl) (rfl) (λ _ hs=>?_)));have hs:=fe.shut (t:=(⟨t1.code,t1.at_,t1.aG,t1.counts,1,(bL x.e t1.aG).1,(bL x.f t1.aG).1,t1.buf⟩:eB)) pZ hs.p3.p3.p3.p3;have hs:=(hs.p1).drop
  have hst:cU t1=((⟨t1.code,t1.at_,t1.aG,t1.counts,1,(bL x.e t1.aG).1,(bL x.f t1.aG).1,t1.buf⟩:eB),false):=by
   rw [gA kz (by simpa using lI) (by simpa using im),ze zg C0]
   try rw [show (tF (tE t1 x) x).counts.getD x.a.toNat 0=iP from sC]
   try rfl
  rw [kf sD hst];exact ⟨rfl,hs.mut⟩
 ·intro kD;refine aE (aA ie (bH hs bK (ft rfl) (rfl) (λ Sz hs=>?_)));have hs:=fe.shut (t:=(⟨t1.code,(t1.at_+1),t1.aG,t1.counts,(if (bL x.f t1.aG).2=true then (tE t1 x).fault else 2),(bL x.e t1.aG).1,(bL x.f t1.aG).1,t1.buf⟩:eB)) pZ hs.p3.p3.p3.p3;have hs:=(hs.p1).drop
  have hst:cU t1=((⟨t1.code,(t1.at_+1),t1.aG,t1.counts,(if (bL x.f t1.aG).2=true then (tE t1 x).fault else 2),(bL x.e t1.aG).1,(bL x.f t1.aG).1,t1.buf⟩:eB),true):=by
   rw [gA kz (by simpa using lI) (by simpa using im),zf zg C0]
   try rw [show (tF (tE t1 x) x).counts.getD x.a.toNat 0=iP from sC]
   try rfl
  exact ⟨k,by omega,_,ja sD hst,by have:=eG jc; rw [hst] at this; exact this,hs⟩
 have hs:=fe.shut (t:=(⟨t1.code,t1.at_,t1.aG,t1.counts,(if (bL x.f t1.aG).2=true then (tE t1 x).fault else 2),(bL x.e t1.aG).1,(bL x.f t1.aG).1,t1.buf⟩:eB)) pZ hs.p3.p3.p3.p3;have hs:=(hs.p1).drop
 have hst:cU t1=((⟨t1.code,t1.at_,t1.aG,t1.counts,(if (bL x.f t1.aG).2=true then (tE t1 x).fault else 2),(bL x.e t1.aG).1,(bL x.f t1.aG).1,t1.buf⟩:eB),false):=by
  rw [gA kz (by simpa using lI) (by simpa using im),CX fh rK nN nO Bd zg]
  try rw [show (tF (tE t1 x) x).counts.getD x.a.toNat 0=iP from sC]
  try rfl
 rw [kf sD hst];exact ⟨rfl,hs.mut⟩
structure j0 where
 u:eh
 room:Int
 mem:Mem
 locks:List Int
 l:List eB
 eP:Int
 fault:Int
 gL:Int
structure MA where
 lnv:SV
 fsv:SV
 thv:SV
 rcl:SV
 clv:SV
 q:Nat
 ov:Value
 fv:Value
 lk:Value
 ll:Value
 ps:List Ptr
@[reducible] def oN (a:MA) (m:j0):List Value:=[Flat.val a.lnv,.int .i64 m.u.stays,Flat.val a.fsv,.int .i64 m.u.locks,Flat.val a.thv,.int .i64 m.u.recover.aG,.int .i64 m.u.recover.counts,Flat.val a.rcl,Flat.val a.clv,.int .i64 m.room,.pointer (some ⟨a.q,0,none⟩),a.lk,a.ll,.int .i64 m.eP,.int .i64 m.fault,.int .i64 m.gL]
structure UK (K:World->Prop) (a:MA) (m:j0):Prop where
 ln:∀ w,K w->ee (λ _=>True) w (Flat.val a.lnv) m.u.lines
 cl:∀ w,K w->DL w (Flat.val a.clv) m.u.bU
 rc:me K (Flat.val a.rcl) m.u.recover.l
 mem:∀ w,K w->Sk a.ov a.fv m.mem w
abbrev Be (K:World->Prop) (room:Int) (s:Ptr) (t:eB):HP:=fe K s.b room t
def iI (K:World->Prop) (p:Nat) (m:j0):HP:=ui λ a:MA=>fact (UK K a m) (sep (cZ p (oN a m)) (sep (iW a.q a.ov a.fv m.mem) (sep (bR a.lk m.locks) (sep (bR a.ll a.ps) (gk (Be K m.room) a.ps m.l)))))
section
variable {w w' w0:World} {A:Nat->Prop} {R:List HP} {p:Nat} {K:World->Prop} {m:j0} {a:MA} {i:Nat} {tp:Ptr} {t:eB}
theorem xX {H1 H2 H3 H4 H5:HP} (hs:St w0 A (sep H1 (sep H2 (sep H3 (sep H4 H5)))::R) w):St w0 A (H1::H2::H3::H4::H5::R) w:=by
 have h1:=hs.split
 have h2:=h1.p1.split
 have h3:=h2.p1.split
 have h4:=h3.p1.split
 exact h4.p2.p3.p4
theorem xY {H1 H2 H3 H4 H5:HP} (hs:St w0 A (H1::H2::H3::H4::H5::R) w):St w0 A (sep H1 (sep H2 (sep H3 (sep H4 H5)))::R) w:=by
 have h4:=St.join (hs.p4.p4)
 have h3:=St.join h4.p3
 have h2:=St.join h3.p2
 exact St.join h2.p1
theorem iI.open (hs:St w0 A (iI K p m::R) w):∃ a,UK K a m/\St w0 A (cZ p (oN a m)::iW a.q a.ov a.fv m.mem::bR a.lk m.locks::bR a.ll a.ps::gk (Be K m.room) a.ps m.l::R) w:=by
 obtain ⟨a,hs⟩:=hs.gK; obtain ⟨hu,hs⟩:=hs.AA; exact ⟨a,hu,xX hs⟩
theorem iI.shut (hu:UK K a m) (hs:St w0 A (cZ p (oN a m)::iW a.q a.ov a.fv m.mem::bR a.lk m.locks::bR a.ll a.ps::gk (Be K m.room) a.ps m.l::R) w):St w0 A (iI K p m::R) w:=
 St.fO a (St.xC hu (xY hs))
structure XZ (K:World->Prop) (w:World) (p:Nat) (m:j0) (a:MA):Prop where
 uk:UK K a m
 b:ow w p (oN a m)
 mem:xc w a.q m.mem
 c0:Cell w a.q 0 a.ov
 c1:Cell w a.q 1 a.fv
 lk:ee (λ _=>True) w a.lk m.locks
 ll:ee (λ _=>True) w a.ll a.ps
 th:∀ (i:Nat) (s:Ptr) (t:eB),a.ps[i]? = some s->m.l[i]? = some t->Has (fe K s.b m.room t) w
 len:a.ps.length=m.l.length
theorem iI.rd (h:Has (iI K p m) w) (hK:K w):∃ a,XZ K w p m a:=by
 obtain ⟨F,hs⟩:=h.st
 obtain ⟨a,hu,hs⟩:=iI.open hs
 have hc:Cell w a.q 0 a.ov/\Cell w a.q 1 a.fv:=by
  obtain ⟨lv,kv,pm,h⟩:=iW.open hs.p1; exact ⟨h.hb.cell rfl,h.hb.cell rfl⟩
 exact ⟨a,hu,hs.hb,MB hs.p1 (hu.mem _ hK),hc.1,hc.2,hs.p2.jo,hs.p3.jo,λ i s t h1 h2=>hs.p4.Q7 h1 h2 (Φ:=λ w=>Has (fe K s.b m.room t) w) λ h=>⟨_,h⟩,hs.p4.mN⟩
end
def oO (m:j0) (t:eB):Bool:=match fB t with
 | none=>false
 | some x=>if t.fault≠0 then true else if x.kind=3\/x.kind=5\/x.kind=6\/x.kind=7 then !decide (m.room<=t.buf.length) else if x.kind=4\/x.kind=8\/x.kind=10 then decide (t.buf.length=0) else if x.kind=9 then decide (t.buf.length=0) && decide (m.locks.getD x.b.toNat 0 = -1) else true
def qw (m:j0) (i:Nat) (t:eB):List iy:=(if oO m t=true then [⟨1,i,0,[]⟩] else [])++(lR t.buf).map λ k=>⟨2,i,k,[]⟩
def fx (m:j0) (k:Nat):List iy:=(List.range k).flatMap λ i=>match m.l[i]? with | some t=>qw m i t | none=>[]
def fJ (m:j0):List iy:=if m.fault≠0 then [] else fx m m.l.length
theorem nu {m:j0} {k:Nat} {t:eB} (h:m.l[k]? = some t):fx m (k+1)=fx m k++qw m k t:=by
 unfold fx; rw [List.range_succ,List.flatMap_append]; simp [h]
structure lU (m:j0):Prop where
 mem:XP m.mem
 th:∀ t∈m.l,zT t
 tl:m.l.length<=1000
 lk:(m.locks.length:Int)=m.u.locks
 lkb:∀ t∈m.l,∀ x∈t.code.l,x.kind=9\/x.kind=10->0<=x.b/\x.b<m.u.locks
 lnb:∀ t∈m.l,∀ x∈t.code.l,x.kind=3->0<=x.b/\x.b<m.u.lines.length
 cellb:∀ t∈m.l,∀ x∈t.code.l,x.kind=2\/x.kind=4->0<=x.a/\x.a<t.code.aG
 rm:1<=m.room/\m.room<=16
 st:∀ t∈m.l,∀ x,fB t=some x->t.fault=0->2<=x.kind/\x.kind<=10
 nl:∀ n∈m.u.lines,-1<=n/\n<=1000
theorem s7 (l:List cG):(lR l).length<=l.length:=by have:=sX l l.length; rw [qv l rfl] at this; exact this
theorem C66 (K:World->Prop) (p:Nat) (room:Int) (t:eB) (w:World) (hh:Has (fe K p room t) w) (Jf:t.buf.length<=1000):CR 66 [(.pointer (some ⟨p,0,none⟩))] w (λ v w'=>v = .bool (decide (t.buf.length=0))/\Ext w w'):=by
 obtain ⟨bp,gl,rg,cn,⟨Pd,wP⟩,fR,hB,CY,Ja⟩:=fe.rd hh;have MD:=fR.cell (o:=0) rfl;have T9:=fR.cell (o:=7) rfl;have hs:=St.start w;refine jT Tryz.func66 ?_;exact aE (aA re (aK u6 (MD.ext hs.aD) (fy UQ hs (C91 bp _ _ _ (hB.ext hs.aD) (by omega)) (λ _ _ _ hs=>aI jX (hs).jo (aF ⟨vb (decide_eq_decide.2 (by omega)),hs.drop.aD⟩)))))
theorem C56 (K:World->Prop) (p:Nat) (m:j0) (q:Nat) (t:eB) (w:World) (hm:Has (iI K p m) w) (hw:K w) (lV:∀ w',Ext w w'->K w') (jR:lU m) (hh:Has (fe K q m.room t) w) (Bf:t∈m.l):CR 56 [(.pointer (some ⟨p,0,none⟩)),(.pointer (some ⟨q,0,none⟩))] w (λ v w'=>v = .bool (oO m t)/\Ext w w'):=by
 obtain ⟨a,hr⟩:=iI.rd hm hw;have EE:=hr.b.cell (o:=8) rfl;have SA:=hr.b.cell (o:=0) rfl;have EF:=hr.b.cell (o:=1) rfl;have Jg:=hr.b.cell (o:=3) rfl;have C2:=hr.b.cell (o:=9) rfl;have qx:=hr.b.cell (o:=10) rfl;have s8:=hr.b.cell (o:=11) rfl;have nX:=hr.b.cell (o:=12) rfl;have mW:=hr.b.cell (o:=13) rfl;have l6:=hr.b.cell (o:=14) rfl;have qy:=hr.b.cell (o:=15) rfl;have hZ:=jR.th t Bf;have Jf:=hZ.bl;obtain ⟨bp,gl,rg,cn,⟨Pd,wP⟩,fR,hB,CY,Ja⟩:=fe.rd hh;have MD:=fR.cell (o:=0) rfl;have T9:=fR.cell (o:=7) rfl;have hK:∀ w',Ext w w'->K w':=lV;have hs:=St.start w;refine Cs Tryz.func56 (pl:=P56) ?_
 refine gW QN (C65 K q m.room t _ (hh.ext hs.aD) (hK _ hs.aD) hZ) ?_;rintro v_x9 _ X0
 rcases X0 with ⟨kz,rfl,he⟩ | ⟨x,xv,kz,Sy,rfl,he⟩
 ·have hs:=hs.ext he;refine bI rfl (bI rfl (bT hs fK (λ kJ w2 hs=>have hs:=hs.enc (cs':=Flat.enc (⟨0,0,0,⟨none,0,0⟩,⟨none,0,0⟩,0⟩:aX)) rfl;cO (x:=(⟨0,0,0,⟨none,0,0⟩,⟨none,0,0⟩,0⟩:aX)) hs eg rfl rfl (λ w3 hs=>bO (eZ ?_)))));refine ⟨vb ?_,(by first | exact hs.aD | exact hs.drop.aD)⟩;unfold oO;rw [kz]
 have hs:=hs.ext he;have Jb:=lu kz;obtain ⟨ge,gf,rfl,_,_⟩:=Sy _ (hK _ hs.aD);refine bI rfl (bI rfl (bT hs fK (λ kJ w2 hs=>have hs:=hs.enc (cs':=Flat.enc (⟨0,0,0,⟨none,0,0⟩,⟨none,0,0⟩,0⟩:aX)) rfl;cO (x:=(⟨x.kind,x.a,x.b,ge,gf,x.to⟩:aX)) hs eg rfl rfl (λ w3 hs=>bO (dN (aE (aA vc (aK bK (T9.ext hs.aD) (bJ (aC (λ tB=>?_) (λ tB=>aA cR (aB (v:=.int .i64 x.kind) bK hs.hb rfl ⟨λ jv w'=>jv = .bool (decide (x.kind=3\/x.kind=5\/x.kind=6\/x.kind=7))/\St w aZ [cZ kJ (Flat.enc (⟨x.kind,x.a,x.b,ge,gf,x.to⟩:aX))] w',aF (aC (λ _=>⟨vb (by grind),hs⟩) (λ _=>aF (aC (λ _=>⟨vb (by grind),hs⟩) (λ _=>aF (aC (λ _=>⟨vb (by grind),hs⟩) (λ _=>aF ⟨vb (by grind),hs⟩)))))),?_⟩))))))))))))
 ·refine ⟨vb ?_,(by first | exact hs.aD | exact hs.drop.aD)⟩;unfold oO;rw [kz];dsimp only;rw [if_pos tB]
 rintro _ _ ⟨rfl,hs⟩ _;refine bD (λ mR=>?_) (λ mR=>⟨λ jv w'=>jv = .bool (decide (x.kind=4\/x.kind=8\/x.kind=10))/\St w aZ [cZ kJ (Flat.enc (⟨x.kind,x.a,x.b,ge,gf,x.to⟩:aX))] w',aF (aC (λ _=>⟨vb (by grind),hs⟩) (λ _=>aF (aC (λ _=>⟨vb (by grind),hs⟩) (λ _=>aF ⟨vb (by grind),hs⟩)))),?_⟩)
 ·refine aE (aA re (aK u6 (MD.ext hs.aD) (bF U3 hs (C123 bp _ _ _ (hB.ext hs.aD)) (λ _ he hs=>bO ?_))));refine ⟨vb ?_,(by first | exact hs.aD | exact hs.drop.aD)⟩;unfold oO;rw [kz];dsimp only;rw [if_neg (by simpa using tB),if_pos (by simpa using mR)]
 rintro _ _ ⟨rfl,hs⟩ _;refine bD (λ mO=>?_) (λ mO=>aF (aC (λ jE=>?_) (λ jE=>?_)))
 ·refine bF QO hs (C66 K q m.room t _ (hh.ext hs.aD) Jf) (λ _ he hs=>?_);refine ⟨vb ?_,(by first | exact hs.aD | exact hs.drop.aD)⟩;unfold oO;rw [kz];dsimp only;rw [if_neg (by simpa using tB),if_neg (by simpa using mR),if_pos (by simpa using mO)]
 ·have adn:=jR.lkb t Bf x Jb.1 (.inl jE);have T4:=jR.lk;refine ⟨λ jv w'=>jv = .bool (decide (t.buf.length=0) && decide (m.locks.getD x.b.toNat 0 = -1))/\St w aZ [cZ kJ (Flat.enc (⟨x.kind,x.a,x.b,ge,gf,x.to⟩:aX))] w',have hs:=hs.drew;bF QO hs (C66 K q m.room t _ (hh.ext hs.aD) Jf) (λ _ he hs=>bD (λ xH=>?_) (λ xH=>⟨vb (by rw [xH]; rfl),hs⟩)),?_⟩
  ·refine aE (aA q8 (aK cT (s8.ext hs.aD) (aA fo (aB (v:=.int .i64 x.b) bK hs.hb rfl ?_))));obtain ⟨e_x51,Jh⟩:=gx (m.locks) (i:=(x.b).toNat) (by omega);exact aR cB hr.lk (by omega) Jh (λ _ AU=>aO bK (AU.ext hs.aD) (aF ⟨vb (by rw [xH,List.getD_eq_getElem?_getD,Jh]; rfl),hs⟩))
  rintro _ _ ⟨rfl,hs⟩ _;refine ⟨vb ?_,(by first | exact hs.aD | exact hs.drop.aD)⟩;unfold oO;rw [kz];dsimp only;rw [if_neg (by simpa using tB),if_neg (by simpa using mR),if_neg (by simpa using mO),if_pos jE]
 refine ⟨vb ?_,(by first | exact hs.aD | exact hs.drop.aD)⟩;unfold oO;rw [kz];dsimp only;rw [if_neg (by simpa using tB),if_neg (by simpa using mR),if_neg (by simpa using mO),if_neg jE]
theorem C3 (m:j0) (i:Nat) (t:eB):(qw m i t).length<=1+t.buf.length:=by
 have:=s7 t.buf
 unfold qw; split <;> simp <;> omega
theorem mf {m:j0} (h:lU m):∀ k,(fx m k).length<=k * 1001
 | 0=>by simp [fx]
 | k+1=>by
  have ih:=mf h k
  cases ht:m.l[k]? with
  | none=>
   have e:fx m (k+1)=fx m k:=by unfold fx; rw [List.range_succ,List.flatMap_append]; simp [ht]
   rw [e]; exact Nat.le_trans ih (Nat.mul_le_mul_right 1001 (Nat.le_succ k))
  | some t=>
   rw [nu ht,List.length_append]
   have:=C3 m k t
   have:=(h.th t (List.mem_of_getElem? ht)).bl
   omega
def tK (m:j0) (i:Int):List Int:=if 0<=i then (match m.l[i.toNat]? with | some t=>t.aG | none=>[]) else []
def Bg (m:j0) (i:Int):List cG:=if 0<=i then (match m.l[i.toNat]? with | some t=>t.buf | none=>[]) else []
theorem Bh {m:j0} {i:Int} {t:eB} (h0:0<=i) (h:m.l[i.toNat]? = some t):tK m i=t.aG:=by unfold tK; rw [if_pos h0,h]
theorem EG {m:j0} {i:Int} {t:eB} (h0:0<=i) (h:m.l[i.toNat]? = some t):Bg m i=t.buf:=by unfold Bg; rw [if_pos h0,h]
theorem xZ {m:j0} {i:Int} (h:i<0\/m.l.length<=i):tK m i=[]:=by
 unfold tK; split
 ·rw [List.getElem?_eq_none (by omega)]
 rfl
theorem Bi {m:j0} {i:Int} (h:i<0\/m.l.length<=i):Bg m i=[]:=by
 unfold Bg; split
 ·rw [List.getElem?_eq_none (by omega)]
 rfl
theorem C16 (K:World->Prop) (p:Nat) (m:j0) (w:World) (hm:Has (iI K p m) w) (hw:K w) (lV:∀ w',Ext w w'->K w') (jR:lU m):CR 16 [(.pointer (some ⟨p,0,none⟩))] w (λ v w'=>pD (iZ v (fJ m)) w w'):=by
 obtain ⟨a,hr⟩:=iI.rd hm hw;have EE:=hr.b.cell (o:=8) rfl;have SA:=hr.b.cell (o:=0) rfl;have EF:=hr.b.cell (o:=1) rfl;have Jg:=hr.b.cell (o:=3) rfl;have C2:=hr.b.cell (o:=9) rfl;have qx:=hr.b.cell (o:=10) rfl;have s8:=hr.b.cell (o:=11) rfl;have nX:=hr.b.cell (o:=12) rfl;have mW:=hr.b.cell (o:=13) rfl;have l6:=hr.b.cell (o:=14) rfl;have qy:=hr.b.cell (o:=15) rfl;have hs:=St.start w;refine QB _ _ _ ?_;unfold S16;refine aE (aA q9 (aK bK (l6.ext hs.aD) (bJ (aC (λ iL=>?_) (λ iL=>?_)))))
 ·have SB:fJ m=[]:=by unfold fJ; rw [if_pos iL]
  rw [SB];exact hs.Fp.fresh
 refine aE (aA jx (aK qZ (nX.ext hs.aD) (aI pR (hr.ll.ext hs.aD) ?_)));have hs:=hs.Fp (α:=iy);refine ⟨λ mm o x w1=>∃ k:Nat,x = .int .i64 (k:Int)/\mm=a.ps.length - k/\k<=a.ps.length/\St w aZ [iZ o (fx m k)] w1,⟨_,0,rfl,rfl,Nat.zero_le _,hs⟩,?_⟩;rintro mm jW _ w1 ⟨k,rfl,rfl,hk,hs⟩ _;refine aN (aC (λ iM=>?_) (λ iM=>?_))
 ·obtain ⟨Ji,nw⟩:=gx (a.ps) (i:=((k:Int)).toNat) (by omega);refine aR pR hr.ll (by omega) nw (λ _ rH=>?_);obtain ⟨t,ht⟩:∃ t,m.l[k]? = some t:=⟨_,List.getElem?_eq_getElem (by have:=hr.len; omega)⟩;have Bf:=List.mem_of_getElem? ht;have Jf:=(jR.th t Bf).bl;have pz:=mf jR k;have zS:=s7 t.buf;have XQ:=hr.len;have Oe:=jR.tl;refine aO D5 (rH.ext hs.aD) ⟨λ o w'=>St w aZ [iZ o (fx m k++(if oO m t=true then [(⟨1,(k:Int),0,[]⟩:iy)] else []))] w',bF abF hs (C56 K p m Ji.b t _ (hm.ext hs.aD) (lV _ hs.aD) (λ _ e=>lV _ (Ext.trans hs.aD e)) jR ((hr.th k _ _ nw ht).ext hs.aD) Bf) (λ w2 he hs=>bD (λ gY=>?_) (λ gY=>?_)),?_⟩
  ·refine pop (xB _ _) (have hs:=hs.qk (Φ:=(λ w=>Deep.dr w (⟨1,(k:Int),0,⟨none,0,0⟩⟩:lF) (⟨1,(k:Int),0,[]⟩:iy))) (λ _=>⟨_,rfl,DL.nil _⟩);gF (s:=(⟨1,(k:Int),0,⟨none,0,0⟩⟩:lF)) (x:=(⟨1,(k:Int),0,[]⟩:iy)) hs l5 (by decide) (λ X1 _ hs=>have hs:=hs.p1;gG hs l5 (by simp; omega) (by decide) (λ Pe _ hs=>?_)));rw [gY,if_pos rfl];exact hs
  ·rw [gY,if_neg (by decide),List.append_nil];exact hs
  intro iX _ hs _;obtain ⟨bp,gl,rg,cn,_,fR,hB,CY,Ja⟩:=fe.rd (hr.th k _ _ nw ht);have MD:=fR.cell (o:=0) rfl;have ct5:=fR.cell (o:=5) rfl;have Cf:=fR.cell (o:=6) rfl;refine aE (aA re (aK u6 (MD.ext hs.aD) (fy abG hs (C57 bp _ _ _ (hB.ext hs.aD) (by omega)) (λ x35 _ er hs=>?_))));have hxx:=trivial;refine aI cB (hs).jo ?_;have hs:=hs.p1.p1;refine ⟨λ mm o x w1=>∃ j:Nat,x = .int .i64 (j:Int)/\mm=(lR t.buf).length - j/\j<=(lR t.buf).length/\St w aZ [bR x35 (lR t.buf),iZ o ((fx m k++(if oO m t=true then [(⟨1,(k:Int),0,[]⟩:iy)] else []))++((lR t.buf).take j).map λ i=>(⟨2,(k:Int),i,[]⟩:iy))] w1,⟨_,0,rfl,rfl,Nat.zero_le _,by simpa using hs⟩,?_⟩
  rintro mm qg _ _ ⟨j,rfl,rfl,hj,hs⟩ _;refine aN (aC (λ xJ=>?_) (λ xJ=>?_))
  ·obtain ⟨lO,lP⟩:=gx ((lR t.buf)) (i:=((j:Int)).toNat) (by omega);refine eu hs cB (by omega) (by omega) (λ _ rL=>iq hs bK rL lP (pop (tz _ _ _) (have hs:=hs.qk (Φ:=(λ w=>Deep.dr w (⟨2,(k:Int),lO,⟨none,0,0⟩⟩:lF) (⟨2,(k:Int),lO,[]⟩:iy))) (λ _=>⟨_,rfl,DL.nil _⟩);gF (s:=(⟨2,(k:Int),lO,⟨none,0,0⟩⟩:lF)) (x:=(⟨2,(k:Int),lO,[]⟩:iy)) hs l5 (by decide) (λ OP _ hs=>have hs:=hs.p2;gG hs l5 (by simp only [List.length_append,List.length_map,List.length_take,List.length_singleton]; split <;> simp <;> omega) (by decide) (λ Xb _ hs=>aW (by omega) ?_)))))
   have hs:=hs.p1;refine ⟨_,by omega,j+1,rfl,rfl,by omega,?_⟩;rw [List.append_assoc,jG (k:=j) lP] at hs;exact hs
  refine aW (by omega) ?_;have hs:=(hs).drop;refine ⟨_,by omega,k+1,rfl,rfl,by omega,?_⟩;rw [nu ht];unfold qw;rw [List.take_of_length_le (by omega),List.append_assoc] at hs;exact hs
 have SB:fJ m=fx m a.ps.length:=by unfold fJ; rw [if_neg iL,hr.len]
 rw [SB,show a.ps.length=k from by omega];exact hs.fresh
theorem C22 (K:World->Prop) (p:Nat) (m:j0) (w:World) (hm:Has (iI K p m) w) (hw:K w) (lV:∀ w',Ext w w'->K w') (jR:lU m):CR 22 [(.pointer (some ⟨p,0,none⟩))] w (λ v w'=>pD (bR v m.mem.l) w w'):=by
 obtain ⟨a,hr⟩:=iI.rd hm hw;have EE:=hr.b.cell (o:=8) rfl;have SA:=hr.b.cell (o:=0) rfl;have EF:=hr.b.cell (o:=1) rfl;have Jg:=hr.b.cell (o:=3) rfl;have C2:=hr.b.cell (o:=9) rfl;have qx:=hr.b.cell (o:=10) rfl;have s8:=hr.b.cell (o:=11) rfl;have nX:=hr.b.cell (o:=12) rfl;have mW:=hr.b.cell (o:=13) rfl;have l6:=hr.b.cell (o:=14) rfl;have qy:=hr.b.cell (o:=15) rfl;have hs:=St.start w;refine jT Tryz.func22 ?_;exact aE (aA u7 (aK G8 (qx.ext hs.aD) (fy abK hs (C72 a.q m.mem _ (hr.mem.ext hs.aD) jR.mem) (λ _ _ _ hs=>hs.fresh))))
theorem C23 (K:World->Prop) (p:Nat) (m:j0) (w:World) (hm:Has (iI K p m) w) (hw:K w) (lV:∀ w',Ext w w'->K w') (jR:lU m):CR 23 [(.pointer (some ⟨p,0,none⟩))] w (λ v w'=>pD (bR v m.mem.kept) w w'):=by
 obtain ⟨a,hr⟩:=iI.rd hm hw;have EE:=hr.b.cell (o:=8) rfl;have SA:=hr.b.cell (o:=0) rfl;have EF:=hr.b.cell (o:=1) rfl;have Jg:=hr.b.cell (o:=3) rfl;have C2:=hr.b.cell (o:=9) rfl;have qx:=hr.b.cell (o:=10) rfl;have s8:=hr.b.cell (o:=11) rfl;have nX:=hr.b.cell (o:=12) rfl;have mW:=hr.b.cell (o:=13) rfl;have l6:=hr.b.cell (o:=14) rfl;have qy:=hr.b.cell (o:=15) rfl;have hs:=St.start w;refine jT Tryz.func23 ?_;exact aE (aA u7 (aK G8 (qx.ext hs.aD) (fy abL hs (C73 a.q m.mem _ (hr.mem.ext hs.aD) jR.mem) (λ _ _ _ hs=>hs.fresh))))
theorem C25 (K:World->Prop) (p:Nat) (m:j0) (i:Int) (w:World) (hm:Has (iI K p m) w) (hw:K w) (lV:∀ w',Ext w w'->K w') (jR:lU m) (zU:∀ t∈m.l,t.aG.length<=1000000):CR 25 [(.pointer (some ⟨p,0,none⟩)),.int .i64 i] w (λ v w'=>pD (bR v (tK m i)) w w'):=by
 obtain ⟨a,hr⟩:=iI.rd hm hw;have EE:=hr.b.cell (o:=8) rfl;have SA:=hr.b.cell (o:=0) rfl;have EF:=hr.b.cell (o:=1) rfl;have Jg:=hr.b.cell (o:=3) rfl;have C2:=hr.b.cell (o:=9) rfl;have qx:=hr.b.cell (o:=10) rfl;have s8:=hr.b.cell (o:=11) rfl;have nX:=hr.b.cell (o:=12) rfl;have mW:=hr.b.cell (o:=13) rfl;have l6:=hr.b.cell (o:=14) rfl;have qy:=hr.b.cell (o:=15) rfl;have hs:=St.start w;refine jT Tryz.func25 ?_;refine ⟨λ jv w'=>jv = .bool (decide (i<0\/a.ps.length<=i))/\w=w',aN (aC (λ _=>⟨Gn (by omega),rfl⟩) (λ _=>aE (aA jx (aK qZ (nX.ext hs.aD) (aI pR (hr.ll.ext hs.aD) (cY ⟨Ab (by omega),rfl⟩)))))),?_⟩
 rintro _ _ ⟨rfl,hw⟩ _;subst hw;refine aC (λ ku=>?_) (λ ku=>?_)
 ·rw [xZ (by have:=hr.len; omega)];exact (hs.fF (α:=Int)).fresh
 refine aE (aA jx (aK qZ (nX.ext hs.aD) ?_));obtain ⟨Ji,nw⟩:=gx (a.ps) (i:=(i).toNat) (by omega);refine aR pR hr.ll (by omega) nw (λ _ rH=>aO D5 (rH.ext hs.aD) ?_);obtain ⟨t,ht⟩:∃ t,m.l[i.toNat]? = some t:=⟨_,List.getElem?_eq_getElem (by have:=hr.len; omega)⟩;have Jf:=(jR.th t (List.mem_of_getElem? ht)).bl;have adp:=(jR.th t (List.mem_of_getElem? ht)).rg;obtain ⟨bp,gl,rg,cn,_,fR,hB,CY,Ja⟩:=fe.rd (hr.th i.toNat _ _ nw ht);have MD:=fR.cell (o:=0) rfl;have ct5:=fR.cell (o:=5) rfl;have Cf:=fR.cell (o:=6) rfl;refine aE (aA u9 (aK cT (ct5.ext hs.aD) (fy yr hs (C70 _ _ _ (CY.ext hs.aD) (zU t (List.mem_of_getElem? ht))) (λ x26 _ er hs=>?_))))
 rw [Bh (by omega) ht];exact hs.fresh
theorem C35 (K:World->Prop) (p:Nat) (m:j0) (i:Int) (w:World) (hm:Has (iI K p m) w) (hw:K w) (lV:∀ w',Ext w w'->K w') (jR:lU m):CR 35 [(.pointer (some ⟨p,0,none⟩)),.int .i64 i] w (λ v w'=>pD (bR v (Bg m i)) w w'):=by
 obtain ⟨a,hr⟩:=iI.rd hm hw;have EE:=hr.b.cell (o:=8) rfl;have SA:=hr.b.cell (o:=0) rfl;have EF:=hr.b.cell (o:=1) rfl;have Jg:=hr.b.cell (o:=3) rfl;have C2:=hr.b.cell (o:=9) rfl;have qx:=hr.b.cell (o:=10) rfl;have s8:=hr.b.cell (o:=11) rfl;have nX:=hr.b.cell (o:=12) rfl;have mW:=hr.b.cell (o:=13) rfl;have l6:=hr.b.cell (o:=14) rfl;have qy:=hr.b.cell (o:=15) rfl;have hs:=St.start w;refine jT Tryz.func35 ?_;refine ⟨λ jv w'=>jv = .bool (decide (i<0\/a.ps.length<=i))/\w=w',aN (aC (λ _=>⟨Gn (by omega),rfl⟩) (λ _=>aE (aA jx (aK qZ (nX.ext hs.aD) (aI pR (hr.ll.ext hs.aD) (cY ⟨Ab (by omega),rfl⟩)))))),?_⟩
 rintro _ _ ⟨rfl,hw⟩ _;subst hw;refine aC (λ ku=>?_) (λ ku=>?_)
 ·rw [Bi (by have:=hr.len; omega)];exact (hs.fF (α:=cG)).fresh
 refine aE (aA jx (aK qZ (nX.ext hs.aD) ?_));obtain ⟨Ji,nw⟩:=gx (a.ps) (i:=(i).toNat) (by omega);refine aR pR hr.ll (by omega) nw (λ _ rH=>aO D5 (rH.ext hs.aD) ?_);obtain ⟨t,ht⟩:∃ t,m.l[i.toNat]? = some t:=⟨_,List.getElem?_eq_getElem (by have:=hr.len; omega)⟩;have Jf:=(jR.th t (List.mem_of_getElem? ht)).bl;have adp:=(jR.th t (List.mem_of_getElem? ht)).rg;obtain ⟨bp,gl,rg,cn,_,fR,hB,CY,Ja⟩:=fe.rd (hr.th i.toNat _ _ nw ht);have MD:=fR.cell (o:=0) rfl;have ct5:=fR.cell (o:=5) rfl;have Cf:=fR.cell (o:=6) rfl;refine aE (aA re (aK u6 (MD.ext hs.aD) (fy UQ hs (C91 bp _ _ _ (hB.ext hs.aD) (by omega)) (λ x26 _ er hs=>?_))))
 rw [EG (by omega) ht];exact hs.fresh
def fnV (g:Nat):Value:=.func (.func g) #[] #[]
end Go.Proofs.YtnjcingfdhjfkaaGreat
namespace Go.Fw
def nY (F:Nat->Prop) (w0 w':World):Prop:=∀ b,F b->w'.heap[b]? = w0.heap[b]?
section
variable {α σ:Type} [Flat σ] [D:Deep α σ] {w w0:World} {A F:Nat->Prop} {L:List HP} {v:Value} {xs:List α} {ts us:List σ}
theorem St.Pf {Φ:World->Prop} (hs:St w0 A (Fw.fU Φ::L) w):∃ F,St w0 A (Fw.fU (nY F w)::L) w/\∀ w',nY F w w'->Φ w':=by
 obtain ⟨U,F,U',g1,g2,g3,g4,g5⟩:=hs.ng
 exact ⟨F,⟨hs.aD,U,F,U',⟨λ w' h=>h,g1.2⟩,g2,g3,g4,g5⟩,λ w' h=>g1.1 w' h⟩
theorem nY.refl (F:Nat->Prop) (w:World):nY F w w:=λ _ _=>rfl
theorem Bj (inj:∀ x y:σ,Flat.enc x=Flat.enc y->x=y):∀ {ts us:List σ},ts.length=us.length->flat ts=flat us->ts=us
 | [],[],_,_=>rfl
 | t::ts,u::us,hl,h=>by
  rw [fT,fT] at h
  have:=List.append_inj h (by rw [Flat.len,Flat.len])
  rw [inj _ _ this.1,Bj inj (by simpa using hl) this.2]
 | [],_::_,hl,_=>by simp at hl
 | _::_,[],hl,_=>by simp at hl
theorem ee.func {S S':Nat->Prop} (inj:∀ x y:σ,Flat.enc x=Flat.enc y->x=y) (h:ee S w v ts) (h':ee S' w v us):ts=us:=by
 obtain ⟨a,cap,rfl,hc,h3⟩:=h
 obtain ⟨a',Ah,hv,hc',h3'⟩:=h'
 simp only [Value.slice.injEq] at hv
 obtain ⟨rfl,hl,rfl⟩:=hv
 refine Bj inj hl (List.ext_getElem? λ j=>?_)
 have VR:(flat ts).length=(flat us).length:=by rw [cH,cH,hl]
 by_cases hj:j<(flat ts).length
 ·have X2:j<(flat us).length:=by omega
  rcases h3 with ⟨rfl,_⟩ | ⟨b,o,rfl,_,h5⟩
  ·simp [gP] at hj
  rcases h3' with ⟨rfl,_⟩ | ⟨b',o',ha,_,h5'⟩
  ·simp [gP] at X2
  simp only [Option.some.injEq,Addr.mk.injEq,and_true] at ha
  obtain ⟨rfl,rfl⟩:=ha
  have c1:=h5 j _ (List.getElem?_eq_getElem hj)
  have c2:=h5' j _ (List.getElem?_eq_getElem X2)
  unfold Cell at c1 c2
  rw [List.getElem?_eq_getElem hj,List.getElem?_eq_getElem X2]
  exact c1.symm.trans c2
 rw [List.getElem?_eq_none (by omega),List.getElem?_eq_none (by omega)]
theorem nY.rd (h:∀ w',nY F w w'->DL w' v xs) (hr:ee (λ _=>True) w v ts) (hn:ts.length=xs.length):∀ w',nY F w w'->ee (λ _=>True) w' v ts:=by
 intro w' hw
 have NV:=hr
 obtain ⟨a,cap,rfl,hc,h3⟩:=hr
 rcases h3 with ⟨h3,h4⟩ | ⟨b,o,rfl,h4,h5⟩
 ·exact ⟨a,cap,rfl,hc,.inl ⟨h3,h4⟩⟩
 cases ts with
 | nil=>exact ⟨_,cap,rfl,hc,.inr ⟨b,o,rfl,λ h=>absurd rfl h,λ j c hj=>by simp [gP] at hj⟩⟩
 | cons t ts=>
  by_cases hF:F b
  ·exact ⟨_,cap,rfl,hc,.inr ⟨b,o,rfl,λ _=>trivial,λ j c hj=>(h5 j c hj).of_eq (hw b hF)⟩⟩
  ·exfalso
   have h6:DL (ChangeMaps.setBlock w b (.map #[] 0)) (.slice (some ⟨b,o,none⟩) (t::ts).length cap) xs:=h _ λ b' nR=>by
    simp only [ChangeMaps.setBlock]; exact Array.getElem?_setIfInBounds_ne (λ e=>hF (by rw [e]; exact nR))
   obtain ⟨us,⟨a',Ah,hv,_,h7⟩,hul,_⟩:=h6
   simp only [Value.slice.injEq] at hv
   obtain ⟨rfl,hl,rfl⟩:=hv
   have sL:0<(flat us).length:=by rw [cH,<- hl]; exact Nat.mul_pos (by simp) (Flat.pos (α:=σ))
   rcases h7 with ⟨rfl,_⟩ | ⟨b',o',ha,_,h8⟩
   ·simp at hl
   ·simp only [Option.some.injEq,Addr.mk.injEq,and_true] at ha
    obtain ⟨rfl,rfl⟩:=ha
    have qT:=h8 0 _ (List.getElem?_eq_getElem sL)
    have hb:=(h5 0 _ (List.getElem?_eq_getElem (by rw [cH]; exact Nat.mul_pos (by simp) (Flat.pos (α:=σ))))).lt
    unfold Cell World.cell? at qT
    dsimp only at qT
    rw [A9 _ hb] at qT
    simp at qT
theorem nY.fix (inj:∀ x y:σ,Flat.enc x=Flat.enc y->x=y) (h:∀ w',nY F w w'->DL w' v xs):∃ ts:List σ,ts.length=xs.length/\∀ w',nY F w w'->ee (λ _=>True) w' v ts/\kV ts xs w':=by
 obtain ⟨ts,hr,hd⟩:=(h w (nY.refl F w)).open
 refine ⟨ts,hd.1,λ w' hw=>?_⟩
 have h1:=nY.rd h hr hd.1 w' hw
 obtain ⟨us,E5,hd'⟩:=(h w' hw).open
 rw [ee.func inj h1 E5] at *
 exact ⟨E5,hd'⟩
end
end Go.Fw
