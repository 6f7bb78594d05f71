/-
  What the proof needs, part 6.
-/
import Derived.Test.YtnjcingfdhjfkaaGreatVeM5
set_option linter.all false
namespace Go.Proofs.YtnjcingfdhjfkaaGreat
open Go.Fw
def WY (of:List Int) (stays:Int) (dC:List Int):Mem:=⟨of.take stays.toNat,dC,dC,dC.take stays.toNat,λ _=>[]⟩
def fJ:List Nat→List (List Int)
 | []=>[[]]
 | p::ps=>(List.range (p+1)).flatMap fun (i:Nat)=>(fJ ps).map λ t=>(i:Int)::t
theorem vl:∀ ps,(fJ ps).head? = some (List.replicate ps.length 0)
 | []=>rfl
 | p::ps=>by
  have ih:=vl ps
  rw [fJ,List.range_succ_eq_map,List.flatMap_cons]
  cases h:fJ ps with
  | nil=>rw [h] at ih; cases ih
  | cons t ts=>
   rw [h] at ih; simp at ih
   simp [ih,List.replicate_succ]
theorem sL:∀ {ps:List Nat} {c:List Int},c∈fJ ps→c.length=ps.length
 | [],c,h=>by simp [fJ] at h; subst h; rfl
 | p::ps,c,h=>by
  simp only [fJ,List.mem_flatMap,List.mem_map] at h
  obtain ⟨i,_,t,ht,rfl⟩:=h
  simp [sL ht]
theorem Ha:∀ {ps:List Nat} {c:List Int} {i p:Nat} {n:Int},c∈fJ ps→ps[i]? = some p→c[i]? = some n→0≤n∧n≤p
 | [],c,i,p,n,h,hp,_=>by simp at hp
 | q::ps,c,i,p,n,h,hp,hc=>by
  simp only [fJ,List.mem_flatMap,List.mem_map,List.mem_range] at h
  obtain ⟨j,hj,t,ht,rfl⟩:=h
  cases i with
  | zero=>simp at hp hc; subst hp hc; omega
  | succ i=>
   rw [List.getElem?_cons_succ] at hp hc
   exact Ha ht hp hc
theorem tu {α β:Type} {f:α→List β}:∀ {l:List α} {d:List β} {c:β} {r:List β},l.flatMap f=d++c::r→∃ l1 x l2 d' r',l=l1++x::l2∧f x=d'++c::r'∧r=r'++l2.flatMap f
 | [],d,c,r,h=>by simp at h
 | x::l,d,c,r,h=>by
  rw [List.flatMap_cons] at h
  rcases List.append_eq_append_iff.1 h with ⟨a',h1,h2⟩ | ⟨c',h1,h2⟩
  ·obtain ⟨l1,y,l2,d',r',e1,e2,e3⟩:=tu h2
   exact ⟨x::l1,y,l2,d',r',by rw [e1]; rfl,e2,e3⟩
  ·cases c' with
   | nil=>
    obtain ⟨l1,y,l2,d',r',e1,e2,e3⟩:=tu (f:=f) (l:=l) (d:=[]) (c:=c) (r:=r) (by simpa using h2.symm)
    exact ⟨x::l1,y,l2,d',r',by rw [e1]; rfl,e2,e3⟩
   | cons y ys=>
    simp at h2
    exact ⟨[],x,l,d,ys,rfl,by rw [h1,h2.1],h2.2⟩
theorem LX {n:Nat} {l1 l2:List Nat} {x:Nat} (h:List.range n=l1++x::l2):x<n∧l2.head? = if x+1<n then some (x+1) else none:=by
 have hx:(List.range n)[l1.length]? = some x:=by rw [h,List.getElem?_append_right (Nat.le_refl _)]; simp
 have mE:l1.length<n:=by have:=(List.getElem?_eq_some_iff.1 hx).1; simpa using this
 have MM:x=l1.length:=by rw [List.getElem?_range mE] at hx; exact (Option.some.inj hx).symm
 refine ⟨by omega,?_⟩
 have h2:(List.range n)[l1.length+1]? = l2.head?:=by
  rw [h,List.getElem?_append_right (by omega),show l1.length+1 - l1.length=1 from by omega,List.getElem?_cons_succ]
  cases l2 <;> rfl
 rw [← h2]
 by_cases hh:x+1<n
 ·rw [if_pos hh,List.getElem?_range (by omega)]; congr 1; omega
 ·rw [if_neg hh,List.getElem?_eq_none (by simp; omega)]
theorem QR:∀ {ps:List Nat} {d:List (List Int)} {c:List Int} {r:List (List Int)},fJ ps=d++c::r→QP ps c=r.head?
 | [],d,c,r,h=>by
  simp [fJ] at h
  cases d with
  | nil=>simp at h; obtain ⟨rfl,rfl⟩:=h; rfl
  | cons x d=>simp at h
 | p::ps,d,c,r,h=>by
  rw [fJ] at h
  obtain ⟨l1,x,l2,d',r',e1,e2,e3⟩:=tu h
  obtain ⟨hx,Df⟩:=LX e1
  obtain ⟨a,b,ha,hb,hc⟩:=List.map_eq_append_iff.1 e2
  obtain ⟨t,ts,rfl,hct,hts⟩:=List.map_eq_cons_iff.1 hc
  subst hct
  have ih:=QR ha
  rw [e3,← hts]
  show (match QP ps t with | some cs'=>some ((x:Int)::cs') | none=>if (x:Int)<p then some (((x:Int)+1)::List.replicate t.length 0) else none)=_
  rw [ih]
  cases ts with
  | cons t' ts=>rfl
  | nil=>
   simp only [List.head?_nil,List.map_nil,List.nil_append]
   cases l2 with
   | nil=>
    simp at Df
    rw [if_neg (by omega)]; rfl
   | cons y l2=>
    simp only [List.head?_cons] at Df
    split at Df
    ·obtain rfl:=Option.some.inj Df
     rw [if_pos (by omega),List.flatMap_cons]
     have Nd:t.length=ps.length:=sL (ps:=ps) (by rw [ha]; simp)
     have hh:=vl ps
     cases hq:fJ ps with
     | nil=>rw [hq] at hh; cases hh
     | cons u us=>
      rw [hq] at hh; simp at hh
      simp [hh,Nd]
    ·cases Df
def MO (f:List Int→List Int) (l:List (List Int)):List (List Int) × List (List Int):=l.foldl (λ s c=>if f c∈s.2 then s else (s.1++[c],s.2++[f c])) ([],[])
theorem LY (f:List Int→List Int) (l:List (List Int)) (c:List Int):MO f (l++[c])=if f c∈(MO f l).2 then MO f l else ((MO f l).1++[c],(MO f l).2++[f c]):=by
 unfold MO; rw [List.foldl_append]; rfl
theorem LZ (f:List Int→List Int):∀ (l:List (List Int)) (s:List (List Int) × List (List Int)),(l.foldl (λ s c=>if f c∈s.2 then s else (s.1++[c],s.2++[f c])) s).1.length≤s.1.length+l.length
 | [],s=>Nat.le_refl _
 | c::l,s=>by
  rw [List.foldl_cons]
  refine Nat.le_trans (LZ f l _) ?_
  split
  ·simp
  ·simp; omega
theorem QS (f:List Int→List Int) (l:List (List Int)):(MO f l).1.length≤l.length:=by
 have h:(MO f l).1.length≤([]:List (List Int)).length+l.length:=LZ f l ([],[])
 simpa using h
def aqC (xs:List Int):List Int:=xs++List.replicate (20 - xs.length) 0
def uy (m:Mem) (c:List Int):List Int:=aqC (Aq m c c.length)
def I8 (m:Mem):List Nat:=EZ m (kY m.of).toNat
def Hb (m:Mem):List (List Int):=(MO (uy m) (fJ (I8 m))).1
theorem I9 (m:Mem):(I8 m).length=(kY m.of).toNat:=by unfold I8 EZ; simp
theorem Hc {m:Mem} (hk:xt m):0≤kY m.of:=by
 unfold kY; split
 ·omega
 ·rename_i h
  have hx:m.of.getD (m.of.length - 1) 0∈m.of:=by rw [List.getD_eq_getElem?_getD,List.getElem?_eq_getElem (by omega)]; exact List.getElem_mem _
  have:=(hk.ofr _ hx).1
  omega
theorem ajT {m:Mem} (hk:xt m) {c:List Int} (h:c∈fJ (I8 m)):(c.length:Int)=kY m.of∧jI m c=some (Aq m c c.length)∧(∀ n∈c,0≤n):=by
 have hl:=sL h
 rw [I9] at hl
 have hn:=Hc hk
 have hb:∀ (k:Nat) (n:Int),k<c.length→c[k]? = some n→0≤n∧n≤(m.gH k).length:=λ k n KW hc=>by
  have:=Ha h (i:=k) (p:=(m.gH k).length) (by unfold I8; exact E0 (by omega)) hc
  exact this
 refine ⟨by omega,G8 (by omega) hb,λ n hn=>?_⟩
 obtain ⟨i,hi,rfl⟩:=List.getElem_of_mem hn
 exact (hb i _ hi (List.getElem?_eq_getElem hi)).1
theorem L3 {m:Mem} {d:List (List Int)} {c:List Int} {r:List (List Int)} (h:fJ (I8 m)=d++c::r):WT m c=r.head?:=by
 have hl:c.length=(I8 m).length:=sL (by rw [h]; simp)
 rw [I9] at hl
 unfold WT
 rw [hl]; exact QR h
def ac6 (v:Value):List (List Int)→HP
 | []=>emp
 | c::_=>bL v c
theorem ac6.nil {w w0:World} {A:Nat→Prop} {L:List HP} {v:Value} (hs:St w0 A L w):St w0 A (ac6 v []::L) w:=hs.new (Ext.refl w) (H:=emp) (F:=bD) (λ _ h=>h) λ _ h=>h.elim
theorem Hd (ps:List Nat):fJ ps=List.replicate ps.length 0::(fJ ps).tail:=by
 have:=vl ps
 cases h:fJ ps with
 | nil=>rw [h] at this; cases this
 | cons x xs=>rw [h] at this; simp at this; rw [this]; rfl
theorem Ot:LR PG 20 221 3:=⟨Tryz.underlying221,oP,(jK bN).2⟩
theorem C54 (of dC:List Int) (stays:Int) (av bv:Value) (w:World) (hO:eL (λ _=>True) w av of) (Sv:eL (λ _=>True) w bv dC) (hlen:of.length=dC.length) (h20:of.length≤20) (gb:0≤stays∧stays≤of.length) (Sb:∀ (k:Nat) (n:Int),(k:Int)<stays→of[k]? = some n→(n=lD of k∨(0<k∧n=lD of k - 1))∧-10≤n∧n≤100):CR 54 [av,.int .i64 stays,bv] w (λ v w'=>∃ (p:Nat) (ov fv:SV),v = .tuple #[.pointer (some ⟨p,0,none⟩),.int .i64 0]∧mc (sep (bL (Flat.val ov) (of.take stays.toNat)) (sep (bL (Flat.val fv) dC) (fW p (Flat.val ov) (Flat.val fv) (WY of stays dC)))) w w'):=by
 have hs:=St.start w;refine ag4 _ _ _ _ _ ?_;unfold S54;refine ⟨λ jv w'=>jv = .bool (decide (of.length≠dC.length∨20<of.length∨stays<0∨of.length<stays))∧w=w',?_,?_⟩
 ·refine aJ eg (hO.ext hs.aE) (aJ eg (Sv.ext hs.aE) (cT (aC (λ eM=>?_) (λ eM=>?_))))
  ·exact ⟨Pq (by omega),rfl⟩
  ·refine aJ eg (hO.ext hs.aE) (cZ (aC (λ jC=>?_) (λ jC=>?_)))
   ·exact ⟨Pq (by omega),rfl⟩
   ·refine aR (aC (λ gQ=>?_) (λ gQ=>?_))
    ·exact ⟨Pq (by omega),rfl⟩
    ·refine aJ eg (hO.ext hs.aE) (cZ ?_);exact ⟨tD (by omega),rfl⟩
 ·rintro _ w1 ⟨rfl,hw⟩ fu;subst hw;refine aC (λ lV=>?_) (λ lV=>?_)
  ·exact absurd lV (by omega)
  ·refine nq eg (hO.ext hs.aE) (by omega) (by omega) (λ aqz ajU=>?_);have WZ:=ajU _ hO;refine aJ eg (WZ.ext hs.aE) ?_;refine ⟨λ mm l x w1=>∃ (k:Nat) (last:Int),l = .int .i64 last∧x = .int .i64 (k:Int)∧mm=(of.take stays.toNat).length - k∧k≤(of.take stays.toNat).length∧last=lD of k - 1∧-200≤last∧last≤200∧St w bD [] w1,⟨_,0,-1,rfl,rfl,rfl,Nat.zero_le _,rfl,by omega,by omega,hs⟩,?_⟩;rintro mm _ _ w2 ⟨k,last,rfl,rfl,rfl,JF,afD,hl7,hl8,hs⟩ jz;have Nd:(of.take stays.toNat).length=stays.toNat:=by rw [List.length_take]; omega
   refine aR (aC (λ ud=>?_) (λ ud=>?_))
   ·obtain ⟨qE,qg⟩:=gx (((of).take (stays).toNat)) (i:=((k:Int)).toNat) (by omega);refine aQ eg WZ (by omega) qg (λ _ uh=>?_)
    have ajV:of[k]? = some qE:=by
     have h0:=qg;rw [List.getElem?_take] at h0
     split at h0
     ·exact h0
     ·cases h0
    obtain ⟨hl1,Df,hl3⟩:=Sb k _ (by omega) ajV;refine aD bN (uh.ext hs.aE) ?_;refine ⟨λ jv w'=>jv = .bool (decide (qE≠last+1∧(k=0∨qE≠last)))∧w2=w',?_,?_⟩
    ·refine aN (by omega) (cT (aC (λ qA=>?_) (λ qA=>?_)))
     ·refine aH (aC (λ rG=>?_) (λ rG=>?_))
      ·exact ⟨Pq (by omega),rfl⟩
      ·refine cT ?_;exact ⟨tD (by omega),rfl⟩
     ·exact ⟨jvF (by omega),rfl⟩
    ·rintro _ w3 ⟨rfl,hw⟩ oG;subst hw;refine aC (λ B0=>?_) (λ B0=>?_)
     ·exact absurd B0 (by have:=Sb k qE (by omega) ajV; simp; omega)
     ·have hws:lD of (k+1)=qE+1:=by unfold lD; rw [if_neg (by omega),Nat.add_sub_cancel,List.getD_eq_getElem?_getD,ajV]; rfl
      refine aN (by omega) ?_;exact ⟨_,by omega,k+1,qE,rfl,rfl,rfl,by omega,by omega,by omega,by omega,hs⟩
   ·refine nq eg (hO.ext hs.aE) (by omega) (by omega) (λ s_x58 ajW=>?_);have ajX:=ajW _ hO;refine dG zu hs (C70 _ _ _ (ajX.ext hs.aE) (by first | omega | (rw [List.length_take]; omega))) (λ x59 w4 cA hs=>dG zu hs (C70 _ _ _ (Sv.ext hs.aE) (by first | omega | (rw [List.length_take]; omega))) (λ x61 w5 cA hs=>dG zu hs (C70 _ _ _ (Sv.ext hs.aE) (by first | omega | (rw [List.length_take]; omega))) (λ x63 w6 cA hs=>ow (α:=jr) hs (λ b_x64 w7 hs=>?_))));obtain ⟨ajY,rfl⟩:=(hs.p3).fT;obtain ⟨IS,rfl⟩:=(hs.p2).fT;obtain ⟨ax3,rfl⟩:=(hs.p1).fT;refine pop (DE _ _ _ _ _ _ _ _ _ _) (l5 hs (λ aqD w8 hs=>nq eg (Sv.ext hs.aE) (by omega) (by omega) (λ afM ajZ=>?_)))
    have aj0:=ajZ _ Sv;refine dG zu hs (C70 _ _ _ (aj0.ext hs.aE) (by first | omega | (rw [List.length_take]; omega))) (λ x71 w9 cA hs=>aF (aA zH (aV hs.p1 er (eE rfl) ((hs).fM.one) (λ qd hs=>?_))));have hs:=fW.shut (m:=WY of stays dC) hs.p4.p5.p4.p4.p5.p5;exact ⟨aqD,ajY,IS,rfl,(St.join (St.join hs.p2).p1).fresh⟩
theorem C69 (p:Nat) (m:Mem) (ov fv:SV) (w:World) (c0:Cell w p 0 (Flat.val ov)) (c1:Cell w p 1 (Flat.val fv)) (hm:vk w p m) (hk:xt m) (hb:MB m 1000000):CR 69 [(.pointer (some ⟨p,0,none⟩))] w (λ v w'=>∃ b,v = .pointer (some ⟨b,0,none⟩)∧mc (fW b (Flat.val ov) (Flat.val fv) m) w w'):=by
 have EX:=hm;obtain ⟨ov2,fv2,lv,kv,pm,_,_,c2,c3,c4,hO,Sv,hL,hKp,hP⟩:=hm;obtain ⟨es,clock,Yo,gb,hkv,AX⟩:=hP.es;have h20:=hk.fl;have Ys:=hk.Su;have Ny:=hk.ll;have KW:=hk.kl;have NB:=hk.lb;have hs:=St.start w;refine ahj _ _ _ ?_;unfold S69;refine ⟨λ c3 w'=>∃ b lv1 kv1 pm1,c3 = .pointer (some ⟨b,0,none⟩)∧St w bD [cC b [Flat.val ov,Flat.val fv,lv1,kv1,.map (some pm1)],bL lv1 m.l,bL kv1 m.kept,oK pm1 (λ _=>([]:List jr))] w',?_,?_⟩
 ·refine aF (aA tW (have hs:=hs.drew;cG er (c0.ext hs.aE) (aF (aA Kv (cG er (c1.ext hs.aE) ?_)))));refine ⟨?_,?_⟩
  ·refine dG ahr hs (C72 _ m _ (EX.ext hs.aE) hk) (λ x15 w1 cA hs=>?_);refine ⟨aG er (c0.ext hs.aE),?_⟩;refine ⟨aG er (c1.ext hs.aE),?_⟩;refine ⟨?_,?_⟩
   ·refine dG TU hs (C73 _ m _ (EX.ext hs.aE) hk) (λ x17 w2 cA hs=>?_);refine ⟨aG er (c0.ext hs.aE),?_⟩;refine ⟨aG er (c1.ext hs.aE),?_⟩;refine ow (α:=jr) hs (λ UM w3 hs=>?_);refine ⟨aG er (c0.ext hs.aE),?_⟩;refine ⟨aG er (c1.ext hs.aE),?_⟩;obtain ⟨aj1,rfl⟩:=(hs.p2).fT;obtain ⟨V1,rfl⟩:=(hs.p1).fT;refine pop (oR _ _ _ _ _ _ _ _ _ _ _ _ _) (l5 hs (λ b_x20 w4 hs=>?_));have hs:=hs.p1.p2.p3.p3;exact ⟨_,_,_,_,rfl,hs⟩
   ·refine ⟨?_,?_⟩
    ·refine ow (α:=jr) hs (λ atc w5 hs=>?_);refine ⟨aG er (c0.ext hs.aE),?_⟩;refine ⟨aG er (c1.ext hs.aE),?_⟩;refine dG TU hs (C73 _ m _ (EX.ext hs.aE) hk) (λ apW w6 cA hs=>?_);refine ⟨aG er (c0.ext hs.aE),?_⟩;refine ⟨aG er (c1.ext hs.aE),?_⟩;obtain ⟨aj1,rfl⟩:=(hs.p2).fT;obtain ⟨LF,rfl⟩:=(hs).fT;refine pop (oR _ _ _ _ _ _ _ _ _ _ _ _ _) (l5 hs (λ atd w7 hs=>?_));have hs:=hs.p2.p2.p3.p3;exact ⟨_,_,_,_,rfl,hs⟩
    ·trivial
  ·refine ⟨?_,?_⟩
   ·refine ow (α:=jr) hs (λ ate w8 hs=>?_);refine ⟨aG er (c0.ext hs.aE),?_⟩;refine ⟨aG er (c1.ext hs.aE),?_⟩;refine dG ahr hs (C72 _ m _ (EX.ext hs.aE) hk) (λ x15_1 w9 cA hs=>?_);refine ⟨aG er (c0.ext hs.aE),?_⟩;refine ⟨aG er (c1.ext hs.aE),?_⟩;refine dG TU hs (C73 _ m _ (EX.ext hs.aE) hk) (λ apX qd cA hs=>?_);refine ⟨aG er (c0.ext hs.aE),?_⟩;refine ⟨aG er (c1.ext hs.aE),?_⟩;obtain ⟨aqH,rfl⟩:=(hs.p1).fT;obtain ⟨LG,rfl⟩:=(hs).fT;refine pop (oR _ _ _ _ _ _ _ _ _ _ _ _ _) (l5 hs (λ atf tG hs=>?_));have hs:=hs.p3.p2.p3.p3
    exact ⟨_,_,_,_,rfl,hs⟩
   ·trivial
 ·rintro _ vt ⟨b,lv1,kv1,pm1,rfl,hs⟩ fu;refine aF (aA m7 (cG so (c4.ext hs.aE) (Sw hs Tryz.underlying201 (E1 Yo hs.aE) (λ r25 uU hs=>?_))));have hs:=hs.p4.p4.p4.p4.p4;refine ⟨λ mm w1=>∃ (seen:Array Nat) (done:List Int),mm=(leftOf es seen).size∧(∀ e∈es.toList,seen.contains e.born=true→∃ k∈done,e.key = .int .i64 k)∧St w bD [G9 r25 pm clock seen,cC b [Flat.val ov,Flat.val fv,lv1,kv1,.map (some pm1)],bL lv1 m.l,bL kv1 m.kept,oK pm1 (λ k=>if k∈done then m.gH k else [])] w1,⟨_,#[],[],rfl,λ e he hc=>by simp at hc,by simpa using hs⟩,?_⟩;rintro mm sw ⟨seen,done,rfl,afN,hs⟩ jz
  refine WV hs (E1 Yo hs.aE) gb.1 (λ h0=>?_) (λ e wc he hs=>?_)
  ·refine bG rfl (fN ?_);have hs:=(hs.drop.p3.p3.p3).p3
   have hg:(λ k=>if k∈done then m.gH k else [])=m.gH:=by
    funext k
    by_cases hd:k∈done
    ·rw [if_pos hd]
    ·rw [if_neg hd];refine (AX k λ e he hek=>hd ?_).symm;obtain ⟨k2,JF,hk3⟩:=afN e he (all_seen es seen h0 e he);rw [hek] at hk3; cases hk3; exact JF
   rw [hg] at hs;exact ⟨b,rfl,(fW.shut hs).fresh⟩
  ·obtain ⟨k,sk,hek,hev,hrk⟩:=hkv e (mem_left he).1;refine bG rfl (nN (Sx hs (E1 Yo hs.aE) (mem_left he).1 gb.2.1 ?_));rw [hek,hev];refine bG rfl (bG rfl (aF (aA m7 (have hs:=hs.drew;aB so hs.p1.hb rfl (dG amS hs (C137 _ _ _ (hrk.ext hs.aE) (hb k)) (λ x37 ze cA hs=>?_))))));refine ⟨aG so (hs.p2.hb.cell rfl),?_⟩;obtain ⟨s_w17,hs⟩:=(hs.p5).EV (k:=k);have hs:=hs.drop;obtain ⟨oZ,rfl⟩:=(hs.p1).fT;have hs:=hs.p1;refine B9 hs Tryz.underlying201 oP (λ Cn hs=>?_);have hs:=hs.p4.p4.p4.p4;refine ⟨_,left_shrinks es seen e he,seen.push e.born,k::done,rfl,λ e2 he2 hc=>?_,?_⟩
   ·rcases E2 hc with h | h
    ·obtain ⟨k2,h1,h2⟩:=afN e2 he2 h; exact ⟨k2,List.mem_cons_of_mem _ h1,h2⟩
    ·obtain rfl:=born_inj gb.2.1 he2 (mem_left he).1 h; exact ⟨k,List.mem_cons_self,hek⟩
   ·have hg:tm (λ k=>if k∈done then m.gH k else []) k (m.gH k)=(λ k'=>if k'∈k::done then m.gH k' else []):=by
     funext k'; unfold tm
     by_cases e:k'=k
     ·subst e; simp
     ·simp [e]
    rw [hg] at hs; exact hs
theorem C82 (p:Nat) (m:Mem) (w:World) (hm:vk w p m) (hk:xt m) (hb:MB m 1000000) (hC:(fJ (I8 m)).length≤1000000000):CR 82 [(.pointer (some ⟨p,0,none⟩))] w (λ v w'=>mc (fj v (Hb m)) w w'):=by
 have EX:=hm;obtain ⟨ov,fv,lv,kv,pm,c0,c1,c2,c3,c4,hO,Sv,hL,hKp,hP⟩:=hm;have h20:=hk.fl;have Ys:=hk.Su;have Ny:=hk.ll;have KW:=hk.kl;have NB:=hk.lb;have hs:=St.start w;refine aht _ _ _ ?_;unfold S82;refine LU (n:=20) hs (λ b10 w1 hs=>aZ T0 hs (C144 _ m _ (EX.ext hs.aE) hk) (λ w2 he hs=>?_));have hnn:=Hc hk;refine vR (0:Int) hs eg BT (by omega) (by omega) (by decide) (λ s_x13 w3 hs=>?_);have hs:=(((hs.xO (α:=List Int)).p1).p2).p2;refine ⟨λ mm fX mW is6 w1=>∃ (done rest:List (List Int)),fJ (I8 m)=done++rest∧is6 = .bool (!rest.isEmpty)∧mm=rest.length∧St w bD [fj fX (MO (uy m) done).1,Oq b10 20 (MO (uy m) done).2,ac6 mW rest] w1,⟨_,[],fJ (I8 m),rfl,by rw [Hd (I8 m)]; rfl,rfl,by rw [Hd (I8 m),I9]; exact hs⟩,?_⟩
 rintro mm fX mW _ w4 ⟨done,rest,mw,rfl,rfl,hs⟩ fu;refine aY (λ W0=>?_) (λ W0=>?_)
 ·obtain ⟨c,rest,rfl⟩:∃ c r,rest=c::r:=by cases rest with | nil=>cases W0 | cons c r=>exact ⟨c,r,rfl⟩
  change St w bD [fj fX (MO (uy m) done).1,Oq b10 20 (MO (uy m) done).2,bL mW c] _ at hs
  have Ja:c∈fJ (I8 m):=by rw [mw]; simp
  have hco:=ajT hk Ja;have Qs:=hco.1;have hdl:=QS (uy m) done;have hdn:done.length≤(fJ (I8 m)).length:=by rw [mw]; simp
  have hil:(Aq m c c.length).length≤20:=by rw [ux]; omega
  have uH:(uy m c).length=20:=by unfold uy aqC; rw [List.length_append,List.length_replicate]; omega
  refine ⟨λ o w'=>St w bD [fj o (MO (uy m) (done++[c])).1,Oq b10 20 (MO (uy m) (done++[c])).2,bL mW c] w',?_,?_⟩
  ·refine eu aej (C125 _ m c _ _ (EX.ext hs.aE) hk hb (hs.p2).fM (by omega)) ?_;rintro v24 w5 hh;obtain ⟨qh,o24,hi,rfl,cA⟩:=hh.resolve_left (λ h=>by rw [hco.2.1] at h; cases h.1);obtain rfl:qh=(Aq m c c.length):=Option.some.inj (hi.symm.trans hco.2.1);have hs:=hs.made cA;refine bG rfl (bG rfl (aO hs abj (λ ax6 w6 hs=>Sy Ot (LW hs eg (hs.p1).fM hil (by simp; omega) (λ w7 hs=>have hs:=hs.enc (cs':=(uy m c).map (Value.int .i64)) (by exact ajS (n:=20) hil);qV aeL hs.hb (by rw [List.length_map]; exact uH) (ac3 hs.p3 Tryz.underlying218 Ot aeH uH ?_))))))
   first | refine Dn ?_ | refine bZ ?_
   refine aC (λ nB=>?_) (λ nB=>?_)
   ·refine qV aeL hs.hb (by rw [List.length_map]; exact uH) (ac4 hs.p3 Tryz.underlying218 Ot uH nB (λ w8 hs=>dG zu hs (C70 _ _ _ (hs.p4).fM (by omega)) (λ x38 w9 cA hs=>?_)));obtain ⟨W1,rfl⟩:=(hs).fT;have hs:=hs.freeze.dQ (Ψ:=λ w=>cD.dr w W1 ((c))) (λ w h=>DL.fp h);refine eF (s:=W1) (x:=(c)) hs yc (by decide) (λ afj qd hs=>have hs:=hs.p4;dY hs yc (by simp; omega) (by decide) (λ apu tG hs=>?_));have hs:=((hs.p2.drop.p2.drop.p2).p2).p2;rw [LY,if_neg (by simpa using nB)];exact hs
   ·have hs:=(((((hs.drop)).drop).p2).p2).p2;rw [LY,if_pos (by simpa using nB)];exact hs
  ·rintro nj vt hs jz;refine eu amT (C145 _ m c _ _ (EX.ext hs.aE) hk hb (hs.p2).fM (by omega) hco.2.2) ?_;rintro v_x18 uU aj2
   rcases aj2 with ⟨hn,rfl,he⟩ | ⟨c2,o18,hn,rfl,cA⟩
   ·have hs:=hs.ext he;refine bG rfl (bG rfl ?_);rw [L3 mw] at hn;have hs:=(hs.p2.drop.p1).p1;obtain rfl:rest=[]:=by simpa using hn
    exact ⟨_,by simp,done++[c],[],by rw [mw]; simp,rfl,rfl,(ac6.nil hs).p2.p2⟩
   ·have hs:=hs.made cA;refine bG rfl (bG rfl ?_);rw [L3 mw] at hn;have hs:=(hs.p3.drop.p2).p2;obtain ⟨r2,rfl⟩:∃ r,rest=c2::r:=by cases rest with | nil=>cases hn | cons y r=>exact ⟨r,by simp at hn; rw [hn]⟩
    exact ⟨_,by simp,done++[c],c2::r2,by rw [mw]; simp,rfl,rfl,hs⟩
 ·have hs:=((hs.p1.drop).p1).drop;obtain rfl:rest=[]:=by cases rest with | nil=>rfl | cons c r=>cases W0
  rw [List.append_nil] at mw;unfold Hb;rw [mw];exact hs.fresh
structure fx where
 code:fm
 at_:Int
 aK:List Int
 counts:List Int
 fault:Int
 e:Int
 f:Int
 buf:List bJ
def E4 (K:World→Prop) (gl:Value) (l:List aW):Prop:=∃ ts:List bU,∀ w,K w→eL (λ _=>True) w gl ts∧lg ts l w
def eD (K:World→Prop) (p:Nat) (room:Int) (t:fx):HP:=ua λ bp:Nat=>ua λ gl=>ua λ rg=>ua λ cn=>fact (E4 K gl t.code.l)
 (sep (cC p [.pointer (some ⟨bp,0,none⟩),.int .i64 t.code.aK,.int .i64 t.code.counts,gl,.int .i64 t.at_,rg,cn,.int .i64 t.fault,.int .i64 t.e,.int .i64 t.f]) (sep (nI bp room t.buf) (sep (bL rg t.aK) (bL cn t.counts))))
section
variable {w w0:World} {A:Nat→Prop} {R:List HP} {p:Nat} {K:World→Prop} {room:Int} {t:fx}
theorem eD.open (hs:St w0 A (eD K p room t::R) w):∃ bp gl rg cn,E4 K gl t.code.l∧St w0 A (cC p [.pointer (some ⟨bp,0,none⟩),.int .i64 t.code.aK,.int .i64 t.code.counts,gl,.int .i64 t.at_,rg,cn,.int .i64 t.fault,.int .i64 t.e,.int .i64 t.f]::nI bp room t.buf::bL rg t.aK::bL cn t.counts::R) w:=by
 obtain ⟨bp,hs⟩:=hs.eQ; obtain ⟨gl,hs⟩:=hs.eQ; obtain ⟨rg,hs⟩:=hs.eQ; obtain ⟨cn,hs⟩:=hs.eQ; obtain ⟨hk,hs⟩:=hs.oD
 have h1:=hs.split
 have h2:=h1.p1.split
 have h3:=h2.p1.split
 exact ⟨bp,gl,rg,cn,hk,h3.p2.p3⟩
theorem eD.shut {bp:Nat} {gl rg cn:Value} (hk:E4 K gl t.code.l) (hs:St w0 A (cC p [.pointer (some ⟨bp,0,none⟩),.int .i64 t.code.aK,.int .i64 t.code.counts,gl,.int .i64 t.at_,rg,cn,.int .i64 t.fault,.int .i64 t.e,.int .i64 t.f]::nI bp room t.buf::bL rg t.aK::bL cn t.counts::R) w):St w0 A (eD K p room t::R) w:=by
 have h1:=St.join (hs.p3.p3)
 have h2:=St.join h1.p2
 exact St.eJ bp (St.eJ gl (St.eJ rg (St.eJ cn (St.qw hk (St.join h2.p1)))))
theorem eD.rd (h:Has (eD K p room t) w):∃ bp gl rg cn,E4 K gl t.code.l∧tM w p [.pointer (some ⟨bp,0,none⟩),.int .i64 t.code.aK,.int .i64 t.code.counts,gl,.int .i64 t.at_,rg,cn,.int .i64 t.fault,.int .i64 t.e,.int .i64 t.f]∧wI w bp room t.buf∧eL (λ _=>True) w rg t.aK∧eL (λ _=>True) w cn t.counts:=by
 obtain ⟨F,hs⟩:=h.st
 obtain ⟨bp,gl,rg,cn,hk,hs⟩:=eD.open hs
 exact ⟨bp,gl,rg,cn,hk,hs.hb,QL hs.p1,hs.p2.fM,hs.p3.fM⟩
end
def gZ (t:fx):Option aW:=if (t.code.l.length:Int)≤t.at_ then none else t.code.l[t.at_.toNat]?
def ep (l:List nt) (aK:List Int):Int × Bool:=if l.length=0 then (0,true) else ((runM l aK).1,decide ((runM l aK).2=0))
def tE (t:fx) (x:aW):fx:={t with fault:=if (ep x.e t.aK).2=true then t.fault else 2,e:=(ep x.e t.aK).1}
def tF (t:fx) (x:aW):fx:={t with fault:=if (ep x.f t.aK).2=true then t.fault else 2,f:=(ep x.f t.aK).1}
def wK (t:fx) (x:aW) (e:Int):fx × Bool:=
 if x.kind=1 then ({t with aK:=t.aK.set x.a.toNat e,at_:=t.at_+1},true)
 else if x.kind=11 then ({t with at_:=x.to},true)
 else if x.kind=12 then (if e=0 then ({t with at_:=x.to},true) else ({t with at_:=t.at_+1},true))
 else if x.kind=13 then ({t with counts:=t.counts.set x.a.toNat x.b,at_:=t.at_+1},true)
 else if x.kind=14 then (if 0<rf (t.counts.getD x.a.toNat 0 - 1) then ({t with counts:=t.counts.set x.a.toNat (rf (t.counts.getD x.a.toNat 0 - 1)),at_:=x.to},true) else ({t with counts:=t.counts.set x.a.toNat (rf (t.counts.getD x.a.toNat 0 - 1)),at_:=t.at_+1},true))
 else if x.kind=15 then (if e=0 then ({t with fault:=1},false) else ({t with at_:=t.at_+1},true))
 else (t,false)
def fF (t:fx):fx × Bool:=match gZ t with
 | none=>(t,false)
 | some x=>if (ep x.e t.aK).2=true then (if (ep x.f t.aK).2=true then wK (tF (tE t x) x) x (ep x.e t.aK).1 else (tF (tE t x) x,false)) else (tE t x,false)
def sb:Nat→fx→Option fx
 | 0,_=>none
 | n+1,t=>if (fF t).2=true then sb n (fF t).1 else some (fF t).1
structure BE (c:fm):Prop where
 len:c.l.length≤1000000
 rb:0≤c.aK∧c.aK≤1000
 cb:0≤c.counts∧c.counts≤1000
 ops:∀ x∈c.l,x.e.length≤1000∧x.f.length≤1000∧0≤x.to∧x.to≤1000000
 set:∀ x∈c.l,x.kind=1→0≤x.a∧x.a<c.aK
 cnt:∀ x∈c.l,x.kind=13∨x.kind=14→0≤x.a∧x.a<c.counts
structure He (t:fx):Prop where
 code:BE t.code
 rg:(t.aK.length:Int)=t.code.aK
 cn:(t.counts.length:Int)=t.code.counts
 Tj:0≤t.at_
 bl:t.buf.length≤1000
theorem qO {t:fx} {x:aW} (h:gZ t=some x):x∈t.code.l∧t.at_<t.code.l.length:=by
 unfold gZ at h
 split at h
 ·cases h
 ·exact ⟨List.mem_of_getElem? h,by omega⟩
theorem aj3 {t:fx} {x:aW} {e:Int} (h:He t) (hx:x∈t.code.l):He (wK t x e).1:=by
 have h1:=h.Tj; have h2:=(h.code.ops x hx).2.2.1; have h3:=h.rg; have h4:=h.cn
 unfold wK
 repeat' split
 all_goals first
  | exact ⟨h.code,h3,h4,h2,h.bl⟩
  | exact ⟨h.code,h3,h4,h1,h.bl⟩
  | exact ⟨h.code,h3,h4,(by show 0≤t.at_+1; omega),h.bl⟩
  | exact ⟨h.code,(by simpa using h3),h4,(by show 0≤t.at_+1; omega),h.bl⟩
  | exact ⟨h.code,h3,(by simpa using h4),(by show 0≤t.at_+1; omega),h.bl⟩
  | exact ⟨h.code,h3,(by simpa using h4),h2,h.bl⟩
theorem lH {t:fx} (h:He t):He (fF t).1:=by
 unfold fF
 cases hn:gZ t with
 | none=>exact h
 | some x=>
  have hx:=(qO hn).1
  have he:He (tE t x):=⟨h.code,h.rg,h.cn,h.Tj,h.bl⟩
  have hf:He (tF (tE t x) x):=⟨h.code,h.rg,h.cn,h.Tj,h.bl⟩
  dsimp only
  split
  ·split
   ·exact aj3 hf hx
   ·exact hf
  ·exact he
theorem W3 {n:Nat} {t tR:fx} (h:sb n t=some tR):∃ k,n=k+1:=by
 cases n with
 | zero=>cases h
 | succ k=>exact ⟨k,rfl⟩
theorem wL {k:Nat} {t tR t':fx} (h:sb (k+1) t=some tR) (hs:fF t=(t',true)):sb k t'=some tR:=by
 unfold sb at h; rw [hs] at h; exact h
theorem Au {k:Nat} {t tR t':fx} (h:sb (k+1) t=some tR) (hs:fF t=(t',false)):tR=t':=by
 unfold sb at h; rw [hs] at h; exact (Option.some.inj h).symm
section
variable {t:fx} {x:aW} {e:Int}
theorem W4 (h:x.kind=1):wK t x e=({t with aK:=t.aK.set x.a.toNat e,at_:=t.at_+1},true):=by unfold wK; rw [if_pos h]
theorem Ou (h:x.kind=11):wK t x e=({t with at_:=x.to},true):=by unfold wK; simp [h]
theorem Jb (h:x.kind=12) (he:e=0):wK t x e=({t with at_:=x.to},true):=by unfold wK; simp [h,he]
theorem Jc (h:x.kind=12) (he:¬ e=0):wK t x e=({t with at_:=t.at_+1},true):=by unfold wK; simp [h,he]
theorem Ov (h:x.kind=13):wK t x e=({t with counts:=t.counts.set x.a.toNat x.b,at_:=t.at_+1},true):=by unfold wK; simp [h]
theorem Jd (h:x.kind=14) (he:0<rf (t.counts.getD x.a.toNat 0 - 1)):wK t x e=({t with counts:=t.counts.set x.a.toNat (rf (t.counts.getD x.a.toNat 0 - 1)),at_:=x.to},true):=by unfold wK; simp only [h,if_neg (show ¬ (14:Int)=1 by decide),if_neg (show ¬ (14:Int)=11 by decide),if_neg (show ¬ (14:Int)=12 by decide),if_neg (show ¬ (14:Int)=13 by decide),if_pos he,if_true]
theorem Je (h:x.kind=14) (he:¬ 0<rf (t.counts.getD x.a.toNat 0 - 1)):wK t x e=({t with counts:=t.counts.set x.a.toNat (rf (t.counts.getD x.a.toNat 0 - 1)),at_:=t.at_+1},true):=by unfold wK; simp only [h,if_neg (show ¬ (14:Int)=1 by decide),if_neg (show ¬ (14:Int)=11 by decide),if_neg (show ¬ (14:Int)=12 by decide),if_neg (show ¬ (14:Int)=13 by decide),if_neg he,if_true]
theorem Jf (h:x.kind=15) (he:e=0):wK t x e=({t with fault:=1},false):=by unfold wK; simp [h,he]
theorem Jg (h:x.kind=15) (he:¬ e=0):wK t x e=({t with at_:=t.at_+1},true):=by unfold wK; simp [h,he]
theorem Ow (h1:¬ x.kind=1) (h2:¬ x.kind=11) (h3:¬ x.kind=12) (h4:¬ x.kind=13) (h5:¬ x.kind=14) (h6:¬ x.kind=15):wK t x e=(t,false):=by unfold wK; rw [if_neg h1,if_neg h2,if_neg h3,if_neg h4,if_neg h5,if_neg h6]
theorem Av (h:gZ t=none):fF t=(t,false):=by unfold fF; rw [h]
theorem Aw (h:gZ t=some x) (h2:(ep x.e t.aK).2=false):fF t=(tE t x,false):=by unfold fF; rw [h]; dsimp only; rw [h2]; rfl
theorem Ax (h:gZ t=some x) (h2:(ep x.e t.aK).2=true) (h3:(ep x.f t.aK).2=false):fF t=(tF (tE t x) x,false):=by unfold fF; rw [h]; dsimp only; rw [h2,h3]; rfl
theorem kC (h:gZ t=some x) (h2:(ep x.e t.aK).2=true) (h3:(ep x.f t.aK).2=true):fF t=wK (tF (tE t x) x) x (ep x.e t.aK).1:=by unfold fF; rw [h]; dsimp only; rw [h2,h3]; rfl
end
theorem C65 (K:World→Prop) (p:Nat) (room:Int) (t:fx) (w:World) (hh:Has (eD K p room t) w) (hw:K w) (oF:He t):CR 65 [(.pointer (some ⟨p,0,none⟩))] w (λ v w'=>(gZ t=none∧v = .tuple #[Flat.val (⟨0,0,0,⟨none,0,0⟩,⟨none,0,0⟩,0⟩:bU),.bool false]∧Ext w w')∨∃ x xv,gZ t=some x∧(∀ w,K w→cD.dr w xv x)∧v = .tuple #[Flat.val (xv:bU),.bool true]∧Ext w w'):=by
 obtain ⟨bp,gl,rg,cn,⟨ts0,hts⟩,qi,hB,B4,hcn⟩:=eD.rd hh;have c0:=qi.cell (o:=0) rfl;have c3:=qi.cell (o:=3) rfl;have c4:=qi.cell (o:=4) rfl;have c7:=qi.cell (o:=7) rfl;have hDL0:True:=trivial;have hR0:=(hts w hw).1;have hD0:=(hts w hw).2;have hn0:=hD0.1;have Qs:=oF.code.len;have ax8:=oF.Tj;have hs:=St.start w;refine ahf _ _ _ ?_;unfold S65;refine aO hs mB (λ me w1 hs=>have hs:=hs.enc (cs':=Flat.enc (⟨0,0,0,⟨none,0,0⟩,⟨none,0,0⟩,0⟩:bU)) rfl;aF (aA kn (have hs:=hs.drew;cG bN (c4.ext hs.aE) (aF (aA Kp (aA mz (cG uQ (c3.ext hs.aE) (aJ kS (hR0.ext hs.aE) (dI (aC (λ gV=>?_) (λ gV=>?_)))))))))))
 ·refine pop (v:=Flat.val (⟨0,0,0,⟨none,0,0⟩,⟨none,0,0⟩,0⟩:bU)) (by kernel_rfl) (aI (x:=(⟨0,0,0,⟨none,0,0⟩,⟨none,0,0⟩,0⟩:bU)) hs lR rfl rfl (λ w2 hs=>aD lR hs.At ?_));exact .inl ⟨by unfold gZ; rw [if_pos (by omega)],rfl,hs.drop.aE⟩
 ·refine aF (aA Kp (aA mz (have hs:=hs.drew;cG uQ (c3.ext hs.aE) (aF (aA kn (cG bN (c4.ext hs.aE) ?_))))));obtain ⟨GX,qf⟩:=gx ts0 (i:=(t.at_).toNat) (by omega);obtain ⟨ei,wE⟩:=gx (t.code.l) (i:=(t.at_).toNat) (by omega);obtain ⟨xp,xq,rfl,IM,QA⟩:=hD0.2 _ _ _ qf wE;refine aQ kS hR0 (by omega) qf (λ _ um=>aD lR (um.ext hs.aE) (aI (x:=(⟨(ei).kind,(ei).a,(ei).b,xp,xq,(ei).to⟩:bU)) hs lR rfl rfl (λ w3 hs=>aD lR hs.At ?_)));exact .inr ⟨_,_,by unfold gZ; rw [if_neg (by omega)]; exact wE,λ w hw=>(hts w hw).2.2 _ _ _ qf wE,rfl,hs.drop.aE⟩
theorem C189 (K:World→Prop) (p:Nat) (room:Int) (t:fx) (F:Nat→Prop) (lv:Value) (xs:List nt) (w:World) (hF:(eD K p room t).p w F) (hL:∀ w',iH F w w'→eL (λ _=>True) w' lv xs) (hn:xs.length≤1000):CR 189 [(.pointer (some ⟨p,0,none⟩)),lv] w (λ v w'=>v = .tuple #[.int .i64 (ep xs t.aK).1,.bool (ep xs t.aK).2]∧qx F (eD K p room {t with fault:=if (ep xs t.aK).2=true then t.fault else 2}) w w'):=by
 have hs:=St.begin hF;refine Z3 _ _ _ _ ?_;unfold S189;refine aJ vF (hL _ hs.aE) (aH (aC (λ fB=>?_) (λ fB=>?_)))
 ·have hv:ep xs t.aK=(0,true):=by unfold ep; rw [if_pos (by omega)]
  rw [hv];exact ⟨rfl,hs.mut⟩
 ·have hv:ep xs t.aK=((runM xs t.aK).1,decide ((runM xs t.aK).2=0)):=by unfold ep; rw [if_neg (by omega)]
  obtain ⟨bp,gl,rg,cn,qP,hs⟩:=eD.open hs;refine aF (aA pG (aB er hs.hb rfl (aZ aed hs (C110 _ _ xs _ _ (hL _ hs.aE) (hs.p2).fM (by omega)) (λ w1 he hs=>bG rfl (bG rfl ?_)))));refine ⟨λ w'=>St w F [eD K p room {t with fault:=if (ep xs t.aK).2=true then t.fault else 2}] w',?_,?_⟩
  ·refine cT (aC (λ gz=>?_) (λ gz=>?_))
   ·refine aF (aA tS (aV hs bN (eE rfl) (rfl) (λ w2 hs=>?_)));have hs:=eD.shut (t:=(⟨t.code,t.at_,t.aK,t.counts,2,t.e,t.f,t.buf⟩:fx)) qP hs.p3.p3.p3.p3;have ht:(⟨t.code,t.at_,t.aK,t.counts,2,t.e,t.f,t.buf⟩:fx)={t with fault:=if (ep xs t.aK).2=true then t.fault else 2}:=by rw [hv]; dsimp only; rw [decide_eq_false (by omega)]; rfl
    rw [ht] at hs;exact hs
   ·have hs:=eD.shut (t:=(⟨t.code,t.at_,t.aK,t.counts,t.fault,t.e,t.f,t.buf⟩:fx)) qP hs.p3.p3.p3.p3;have ht:(⟨t.code,t.at_,t.aK,t.counts,t.fault,t.e,t.f,t.buf⟩:fx)={t with fault:=if (ep xs t.aK).2=true then t.fault else 2}:=by rw [hv]; dsimp only; rw [decide_eq_true (by omega)]; rfl
    rw [ht] at hs;exact hs
  ·intro w3 hs fu;refine aH ?_;refine ⟨?_,hs.mut⟩;rw [hv]
theorem C122 (K:World→Prop) (p:Nat) (room:Int) (t:fx) (tR:fx) (n:Nat) (F:Nat→Prop) (w:World) (hF:(eD K p room t).p w F) (hK:∀ w',iH F w w'→K w') (oF:He t) (hg:sb n t=some tR):CR 122 [(.pointer (some ⟨p,0,none⟩))] w (λ v w'=>v = .tuple #[]∧qx F (eD K p room tR) w w'):=by
 have hs:=St.begin hF;refine Zc _ _ _ ?_;unfold S122;refine ⟨λ mm w'=>∃ t1:fx,sb mm t1=some tR∧He t1∧St w F [eD K p room t1] w',⟨n,t,hg,oF,hs⟩,?_⟩;rintro mm w1 ⟨t1,Em,tx,hs⟩ fu;obtain ⟨k,rfl⟩:=W3 Em;refine eu YN (C65 K p room t1 _ hs.has (hK _ hs.aE) tx) ?_;rintro v_x8 w2 aqI
 rcases aqI with ⟨vA,rfl,he⟩ | ⟨x,xv,vA,hxv,rfl,he⟩
 ·have hs:=hs.ext he;refine bG rfl (bG rfl (aO hs mB (λ me w3 hs=>have hs:=hs.enc (cs':=Flat.enc (⟨0,0,0,⟨none,0,0⟩,⟨none,0,0⟩,0⟩:bU)) rfl;aI (x:=(⟨0,0,0,⟨none,0,0⟩,⟨none,0,0⟩,0⟩:bU)) hs lR rfl rfl (λ w4 hs=>bZ (nN ?_)))));have hs:=(hs).drop;rw [Au Em (Av vA)];exact ⟨rfl,hs.mut⟩
 ·have hs:=hs.ext he;have hxm:=qO vA;obtain ⟨hxe,hxf,hxt0,hxt1⟩:=tx.code.ops x hxm.1;have aqJ:=tx.code.set x hxm.1;have afP:=tx.code.cnt x hxm.1;have hrl1:=tx.rg;have hcl1:=tx.cn;have hcll:=tx.code.len;have hat1:=tx.Tj;obtain ⟨ge,gf,rfl,_,_⟩:=hxv _ (hK _ hs.aE)
  have hxE:∀ w,K w→eL (λ _=>True) w (Flat.val ge) x.e:=λ w hw=>by
   obtain ⟨ge',gf',hh,h1,_⟩:=hxv w hw;cases hh; exact DL.flat h1
  have hxF:∀ w,K w→eL (λ _=>True) w (Flat.val gf) x.f:=λ w hw=>by
   obtain ⟨ge',gf',hh,_,h2⟩:=hxv w hw;cases hh; exact DL.flat h2
  refine bG rfl (bG rfl (aO hs mB (λ me w3 hs=>have hs:=hs.enc (cs':=Flat.enc (⟨0,0,0,⟨none,0,0⟩,⟨none,0,0⟩,0⟩:bU)) rfl;aI (x:=(⟨x.kind,x.a,x.b,ge,gf,x.to⟩:bU)) hs lR rfl rfl (λ w4 hs=>bZ (fN (aA tU (aB (v:=Flat.val (ge:SV)) xM hs.hb rfl (bI aet hs.p1 (H':=λ _=>eD K p room {t1 with fault:=if (ep x.e t1.aK).2=true then t1.fault else 2}) (Φ:=λ v _=>v = .tuple #[.int .i64 (ep x.e t1.aK).1,.bool (ep x.e t1.aK).2]) (λ F2 eN ey=>?_) ?_))))))))
  ·exact C189 K p room t1 F2 _ x.e _ eN (λ w' hc=>hxE w' (hK w' (ey w' hc).aE)) hxe
  rintro _ w5 rfl hs;refine bG rfl (bG rfl ?_);obtain ⟨bp,gl,rg,cn,qP,hs⟩:=eD.open hs
  change St _ _ (cC p [.pointer (some ⟨bp,0,none⟩),.int .i64 t1.code.aK,.int .i64 t1.code.counts,gl,.int .i64 t1.at_,rg,cn,.int .i64 (if (ep x.e t1.aK).2=true then t1.fault else 2),.int .i64 t1.e,.int .i64 t1.f]::nI bp room t1.buf::bL rg t1.aK::bL cn t1.counts::_) _ at hs
  refine aF (aA tT (aV hs bN (eE rfl) (rfl) (λ w6 hs=>bZ (aY (λ gQ=>?_) (λ gQ=>?_)))))
  ·have hs:=eD.shut (t:=(⟨t1.code,t1.at_,t1.aK,t1.counts,(if (ep x.e t1.aK).2=true then t1.fault else 2),(ep x.e t1.aK).1,t1.f,t1.buf⟩:fx)) qP hs.p3.p3.p3.p3;have hs:=(hs.p1).drop;rw [Au Em (Aw vA (by simpa using gQ))];exact ⟨rfl,hs.mut⟩
  ·have hs:=eD.shut (t:=(⟨t1.code,t1.at_,t1.aK,t1.counts,(if (ep x.e t1.aK).2=true then t1.fault else 2),(ep x.e t1.aK).1,t1.f,t1.buf⟩:fx)) qP hs.p3.p3.p3.p3
   change St w F (eD K p room (tE t1 x)::_) _ at hs
   refine aA tV (aB (v:=Flat.val (gf:SV)) xM hs.p1.hb rfl (bI aet hs (H':=λ _=>eD K p room { (tE t1 x) with fault:=if (ep x.f (tE t1 x).aK).2=true then (tE t1 x).fault else 2}) (Φ:=λ v _=>v = .tuple #[.int .i64 (ep x.f t1.aK).1,.bool (ep x.f t1.aK).2]) (λ F2 eN ey=>?_) ?_))
   ·exact C189 K p room (tE t1 x) F2 _ x.f _ eN (λ w' hc=>hxF w' (hK w' (ey w' hc).aE)) hxf
   rintro _ w7 rfl hs;refine bG rfl (bG rfl ?_);obtain ⟨bp,gl,rg,cn,qP,hs⟩:=eD.open hs
   change St _ _ (cC p [.pointer (some ⟨bp,0,none⟩),.int .i64 t1.code.aK,.int .i64 t1.code.counts,gl,.int .i64 t1.at_,rg,cn,.int .i64 (if (ep x.f t1.aK).2=true then (tE t1 x).fault else 2),.int .i64 (ep x.e t1.aK).1,.int .i64 t1.f]::nI bp room t1.buf::bL rg t1.aK::bL cn t1.counts::_) _ at hs
   refine aF (aA Dv (aV hs bN (eE rfl) (rfl) (λ w8 hs=>bZ (aY (λ lz=>?_) (λ lz=>?_)))))
   ·have hs:=eD.shut (t:=(⟨t1.code,t1.at_,t1.aK,t1.counts,(if (ep x.f t1.aK).2=true then (tE t1 x).fault else 2),(ep x.e t1.aK).1,(ep x.f t1.aK).1,t1.buf⟩:fx)) qP hs.p3.p3.p3.p3;have hs:=(hs.p1).drop;rw [Au Em (Ax vA (by simpa using gQ) (by simpa using lz))];exact ⟨rfl,hs.mut⟩
   ·refine aF (aA kn (aB bN hs.hb rfl (aN (by omega) ?_)));refine ⟨_,?_,λ _ _ h=>h⟩;refine aA jn (aB (v:=.int .i64 x.kind) bN hs.p4.hb rfl (aH (aC (λ kL=>?_) (λ kL=>?_))))
    ·have hx1:=aqJ kL;refine aF (aA pG (have hs:=hs.drew;aB er hs.hb rfl (aA ko (aB (v:=.int .i64 x.a) bN hs.p4.hb rfl (aF (aA tT (aB bN hs.hb rfl ?_)))))));obtain ⟨aqA,ajQ⟩:=gx (t1.aK) (i:=(x.a).toNat) (by omega);refine dT hs.p2 eg (by omega) (by omega) (λ _ LQ=>lP _ hs.p2 bN LQ (by omega) (λ w9 hs=>?_));intro jz;refine aF (aA kn (aV hs.p1 bN (eE rfl) (rfl) (λ sw hs=>?_)));have hs:=eD.shut (t:=(⟨t1.code,(t1.at_+1),((t1.aK).set (x.a).toNat (ep x.e t1.aK).1),t1.counts,(if (ep x.f t1.aK).2=true then (tE t1 x).fault else 2),(ep x.e t1.aK).1,(ep x.f t1.aK).1,t1.buf⟩:fx)) qP hs.p3.p2.p3.p3
     have hs:=(hs.p1).drop
     have gb:fF t1=((⟨t1.code,(t1.at_+1),((t1.aK).set (x.a).toNat (ep x.e t1.aK).1),t1.counts,(if (ep x.f t1.aK).2=true then (tE t1 x).fault else 2),(ep x.e t1.aK).1,(ep x.f t1.aK).1,t1.buf⟩:fx),true):=by
      rw [kC vA (by simpa using gQ) (by simpa using lz),W4 kL]
      try rw [show (tF (tE t1 x) x).counts.getD x.a.toNat 0=nF from Ia]
      try rfl
     exact ⟨k,by omega,_,wL Em gb,by have:=lH tx; rw [gb] at this; exact this,hs⟩
    ·refine aH (aC (λ rC=>?_) (λ rC=>?_))
     ·refine aA kp (aB (v:=.int .i64 x.to) bN hs.p4.hb rfl ?_);intro jz;refine aF (aA kn (aV hs bN (eE rfl) (rfl) (λ sw hs=>?_)));have hs:=eD.shut (t:=(⟨t1.code,x.to,t1.aK,t1.counts,(if (ep x.f t1.aK).2=true then (tE t1 x).fault else 2),(ep x.e t1.aK).1,(ep x.f t1.aK).1,t1.buf⟩:fx)) qP hs.p3.p3.p3.p3;have hs:=(hs.p1).drop
      have gb:fF t1=((⟨t1.code,x.to,t1.aK,t1.counts,(if (ep x.f t1.aK).2=true then (tE t1 x).fault else 2),(ep x.e t1.aK).1,(ep x.f t1.aK).1,t1.buf⟩:fx),true):=by
       rw [kC vA (by simpa using gQ) (by simpa using lz),Ou rC]
       try rw [show (tF (tE t1 x) x).counts.getD x.a.toNat 0=nF from Ia]
       try rfl
      exact ⟨k,by omega,_,wL Em gb,by have:=lH tx; rw [gb] at this; exact this,hs⟩
     ·refine aH (aC (λ qB=>?_) (λ qB=>?_))
      ·refine aF (aA tT (aB bN hs.hb rfl (aH (aC (λ oh=>?_) (λ oh=>?_)))))
       ·refine aA kp (aB (v:=.int .i64 x.to) bN hs.p4.hb rfl ?_);intro jz;refine aF (aA kn (aV hs bN (eE rfl) (rfl) (λ sw hs=>?_)));have hs:=eD.shut (t:=(⟨t1.code,x.to,t1.aK,t1.counts,(if (ep x.f t1.aK).2=true then (tE t1 x).fault else 2),(ep x.e t1.aK).1,(ep x.f t1.aK).1,t1.buf⟩:fx)) qP hs.p3.p3.p3.p3;have hs:=(hs.p1).drop
        have gb:fF t1=((⟨t1.code,x.to,t1.aK,t1.counts,(if (ep x.f t1.aK).2=true then (tE t1 x).fault else 2),(ep x.e t1.aK).1,(ep x.f t1.aK).1,t1.buf⟩:fx),true):=by
         rw [kC vA (by simpa using gQ) (by simpa using lz),Jb qB oh]
         try rw [show (tF (tE t1 x) x).counts.getD x.a.toNat 0=nF from Ia]
         try rfl
        exact ⟨k,by omega,_,wL Em gb,by have:=lH tx; rw [gb] at this; exact this,hs⟩
       ·intro jz;refine aF (aA kn (aV hs bN (eE rfl) (rfl) (λ sw hs=>?_)));have hs:=eD.shut (t:=(⟨t1.code,(t1.at_+1),t1.aK,t1.counts,(if (ep x.f t1.aK).2=true then (tE t1 x).fault else 2),(ep x.e t1.aK).1,(ep x.f t1.aK).1,t1.buf⟩:fx)) qP hs.p3.p3.p3.p3;have hs:=(hs.p1).drop
        have gb:fF t1=((⟨t1.code,(t1.at_+1),t1.aK,t1.counts,(if (ep x.f t1.aK).2=true then (tE t1 x).fault else 2),(ep x.e t1.aK).1,(ep x.f t1.aK).1,t1.buf⟩:fx),true):=by
         rw [kC vA (by simpa using gQ) (by simpa using lz),Jc qB oh]
         try rw [show (tF (tE t1 x) x).counts.getD x.a.toNat 0=nF from Ia]
         try rfl
        exact ⟨k,by omega,_,wL Em gb,by have:=lH tx; rw [gb] at this; exact this,hs⟩
      ·refine aH (aC (λ vu=>?_) (λ vu=>?_))
       ·have hx1:=afP (.inl vu);refine aF (aA vU (have hs:=hs.drew;aB er hs.hb rfl (aA ko (aB (v:=.int .i64 x.a) bN hs.p4.hb rfl (aA eT (aB (v:=.int .i64 x.b) bN hs.p4.hb rfl ?_))))));obtain ⟨e_x80,ax9⟩:=gx (t1.counts) (i:=(x.a).toNat) (by omega);refine dT hs.p3 eg (by omega) (by omega) (λ _ aqK=>lP _ hs.p3 bN aqK (by omega) (λ qd hs=>?_));intro jz;refine aF (aA kn (aV hs.p1 bN (eE rfl) (rfl) (λ sw hs=>?_)));have hs:=eD.shut (t:=(⟨t1.code,(t1.at_+1),t1.aK,((t1.counts).set (x.a).toNat x.b),(if (ep x.f t1.aK).2=true then (tE t1 x).fault else 2),(ep x.e t1.aK).1,(ep x.f t1.aK).1,t1.buf⟩:fx)) qP hs.p1.p3.p3.p3
        have hs:=(hs.p1).drop
        have gb:fF t1=((⟨t1.code,(t1.at_+1),t1.aK,((t1.counts).set (x.a).toNat x.b),(if (ep x.f t1.aK).2=true then (tE t1 x).fault else 2),(ep x.e t1.aK).1,(ep x.f t1.aK).1,t1.buf⟩:fx),true):=by
         rw [kC vA (by simpa using gQ) (by simpa using lz),Ov vu]
         try rw [show (tF (tE t1 x) x).counts.getD x.a.toNat 0=nF from Ia]
         try rfl
        exact ⟨k,by omega,_,wL Em gb,by have:=lH tx; rw [gb] at this; exact this,hs⟩
       ·refine aH (aC (λ zX=>?_) (λ zX=>?_))
        ·have hx1:=afP (.inr zX);refine aF (aA vU (have hs:=hs.drew;aB er hs.hb rfl (aA ko (aB (v:=.int .i64 x.a) bN hs.p4.hb rfl ?_))));obtain ⟨nF,W5⟩:=gx (t1.counts) (i:=(x.a).toNat) (by omega);refine dT hs.p3 eg (by omega) (by omega) (λ _ aqL=>?_);have Ia:t1.counts.getD x.a.toNat 0=nF:=by rw [List.getD_eq_getElem?_getD,W5]; rfl
         refine ga hs.p3 bN aqL W5 (DH (dT hs.p3 eg (by omega) (by omega) (λ _ Vq=>lP _ hs.p3 bN Vq (by omega) (λ tG hs=>aF (aA vU (have hs:=hs.drew;aB er hs.p1.hb rfl ?_))))));have U5:(t1.counts.set x.a.toNat (rf (nF - 1))).length=t1.counts.length:=List.length_set;refine aA ko (aB (v:=.int .i64 x.a) bN hs.p4.hb rfl ?_);obtain ⟨aqM,Ox⟩:=gx (((t1.counts).set (x.a).toNat (rf (nF - 1)))) (i:=(x.a).toNat) (by omega);refine dT hs eg (by omega) (by omega) (λ _ aqN=>?_);have h99:aqM=rf (nF - 1):=by rw [List.getElem?_set_self (by omega)] at Ox; exact (Option.some.inj Ox).symm
         refine ga hs bN aqN Ox (cZ (aC (λ Ea=>?_) (λ Ea=>?_)))
         ·refine aA kp (aB (v:=.int .i64 x.to) bN hs.p4.hb rfl ?_);intro jz;refine aF (aA kn (aV hs.p1 bN (eE rfl) (rfl) (λ sw hs=>?_)));have hs:=eD.shut (t:=(⟨t1.code,x.to,t1.aK,((t1.counts).set (x.a).toNat (rf (nF - 1))),(if (ep x.f t1.aK).2=true then (tE t1 x).fault else 2),(ep x.e t1.aK).1,(ep x.f t1.aK).1,t1.buf⟩:fx)) qP hs.p1.p3.p3.p3;have hs:=(hs.p1).drop
          have gb:fF t1=((⟨t1.code,x.to,t1.aK,((t1.counts).set (x.a).toNat (rf (nF - 1))),(if (ep x.f t1.aK).2=true then (tE t1 x).fault else 2),(ep x.e t1.aK).1,(ep x.f t1.aK).1,t1.buf⟩:fx),true):=by
           rw [kC vA (by simpa using gQ) (by simpa using lz),Jd zX (by rw [show (tF (tE t1 x) x).counts.getD x.a.toNat 0=nF from Ia]; omega)]
           try rw [show (tF (tE t1 x) x).counts.getD x.a.toNat 0=nF from Ia]
           try rfl
          exact ⟨k,by omega,_,wL Em gb,by have:=lH tx; rw [gb] at this; exact this,hs⟩
         ·intro jz;refine aF (aA kn (aV hs.p1 bN (eE rfl) (rfl) (λ sw hs=>?_)));have hs:=eD.shut (t:=(⟨t1.code,(t1.at_+1),t1.aK,((t1.counts).set (x.a).toNat (rf (nF - 1))),(if (ep x.f t1.aK).2=true then (tE t1 x).fault else 2),(ep x.e t1.aK).1,(ep x.f t1.aK).1,t1.buf⟩:fx)) qP hs.p1.p3.p3.p3;have hs:=(hs.p1).drop
          have gb:fF t1=((⟨t1.code,(t1.at_+1),t1.aK,((t1.counts).set (x.a).toNat (rf (nF - 1))),(if (ep x.f t1.aK).2=true then (tE t1 x).fault else 2),(ep x.e t1.aK).1,(ep x.f t1.aK).1,t1.buf⟩:fx),true):=by
           rw [kC vA (by simpa using gQ) (by simpa using lz),Je zX (by rw [show (tF (tE t1 x) x).counts.getD x.a.toNat 0=nF from Ia]; omega)]
           try rw [show (tF (tE t1 x) x).counts.getD x.a.toNat 0=nF from Ia]
           try rfl
          exact ⟨k,by omega,_,wL Em gb,by have:=lH tx; rw [gb] at this; exact this,hs⟩
        ·refine aH (aC (λ Bu=>?_) (λ Bu=>?_))
         ·refine aF (aA tT (aB bN hs.hb rfl (aH (aC (λ yW=>?_) (λ yW=>?_)))))
          ·refine aF (aA tS (aV hs bN (eE rfl) (rfl) (λ vt hs=>?_)));have hs:=eD.shut (t:=(⟨t1.code,t1.at_,t1.aK,t1.counts,1,(ep x.e t1.aK).1,(ep x.f t1.aK).1,t1.buf⟩:fx)) qP hs.p3.p3.p3.p3;have hs:=(hs.p1).drop
           have gb:fF t1=((⟨t1.code,t1.at_,t1.aK,t1.counts,1,(ep x.e t1.aK).1,(ep x.f t1.aK).1,t1.buf⟩:fx),false):=by
            rw [kC vA (by simpa using gQ) (by simpa using lz),Jf Bu yW]
            try rw [show (tF (tE t1 x) x).counts.getD x.a.toNat 0=nF from Ia]
            try rfl
           rw [Au Em gb];exact ⟨rfl,hs.mut⟩
          ·intro jz;refine aF (aA kn (aV hs bN (eE rfl) (rfl) (λ sw hs=>?_)));have hs:=eD.shut (t:=(⟨t1.code,(t1.at_+1),t1.aK,t1.counts,(if (ep x.f t1.aK).2=true then (tE t1 x).fault else 2),(ep x.e t1.aK).1,(ep x.f t1.aK).1,t1.buf⟩:fx)) qP hs.p3.p3.p3.p3;have hs:=(hs.p1).drop
           have gb:fF t1=((⟨t1.code,(t1.at_+1),t1.aK,t1.counts,(if (ep x.f t1.aK).2=true then (tE t1 x).fault else 2),(ep x.e t1.aK).1,(ep x.f t1.aK).1,t1.buf⟩:fx),true):=by
            rw [kC vA (by simpa using gQ) (by simpa using lz),Jg Bu yW]
            try rw [show (tF (tE t1 x) x).counts.getD x.a.toNat 0=nF from Ia]
            try rfl
           exact ⟨k,by omega,_,wL Em gb,by have:=lH tx; rw [gb] at this; exact this,hs⟩
         ·have hs:=eD.shut (t:=(⟨t1.code,t1.at_,t1.aK,t1.counts,(if (ep x.f t1.aK).2=true then (tE t1 x).fault else 2),(ep x.e t1.aK).1,(ep x.f t1.aK).1,t1.buf⟩:fx)) qP hs.p3.p3.p3.p3;have hs:=(hs.p1).drop
          have gb:fF t1=((⟨t1.code,t1.at_,t1.aK,t1.counts,(if (ep x.f t1.aK).2=true then (tE t1 x).fault else 2),(ep x.e t1.aK).1,(ep x.f t1.aK).1,t1.buf⟩:fx),false):=by
           rw [kC vA (by simpa using gQ) (by simpa using lz),Ow kL rC qB vu zX Bu]
           try rw [show (tF (tE t1 x) x).counts.getD x.a.toNat 0=nF from Ia]
           try rfl
          rw [Au Em gb];exact ⟨rfl,hs.mut⟩
structure gO where
 u:iz
 room:Int
 mem:Mem
 locks:List Int
 l:List fx
 fG:Int
 fault:Int
 mQ:Int
structure MA where
 lnv:SV
 fsv:SV
 thv:SV
 rcl:SV
 clv:SV
 q:Nat
 ov:Value
 fv:Value
 lk:Value
 ll:Value
 ps:List Ptr
@[reducible] def j1 (a:MA) (m:gO):List Value:=[Flat.val a.lnv,.int .i64 m.u.stays,Flat.val a.fsv,.int .i64 m.u.locks,Flat.val a.thv,.int .i64 m.u.recover.aK,.int .i64 m.u.recover.counts,Flat.val a.rcl,Flat.val a.clv,.int .i64 m.room,.pointer (some ⟨a.q,0,none⟩),a.lk,a.ll,.int .i64 m.fG,.int .i64 m.fault,.int .i64 m.mQ]
structure UK (K:World→Prop) (a:MA) (m:gO):Prop where
 ln:∀ w,K w→eL (λ _=>True) w (Flat.val a.lnv) m.u.lines
 cl:∀ w,K w→DL w (Flat.val a.clv) m.u.cB
 rc:E4 K (Flat.val a.rcl) m.u.recover.l
 mem:∀ w,K w→uw a.ov a.fv m.mem w
abbrev qj (K:World→Prop) (room:Int) (s:Ptr) (t:fx):HP:=eD K s.b room t
def eK (K:World→Prop) (p:Nat) (m:gO):HP:=ua λ a:MA=>fact (UK K a m) (sep (cC p (j1 a m)) (sep (fW a.q a.ov a.fv m.mem) (sep (bL a.lk m.locks) (sep (bL a.ll a.ps) (iK (qj K m.room) a.ps m.l)))))
def kD (K:World→Prop) (p:Nat) (m:gO) (i:Nat) (tp:Ptr):HP:=ua λ a:MA=>fact (UK K a m∧a.ps[i]? = some tp∧a.ps.length=m.l.length∧i<m.l.length) (sep (cC p (j1 a m)) (sep (fW a.q a.ov a.fv m.mem) (sep (bL a.lk m.locks) (sep (bL a.ll a.ps) (qy (qj K m.room) a.ps m.l i)))))
section
variable {w w' w0:World} {A:Nat→Prop} {R:List HP} {p:Nat} {K:World→Prop} {m:gO} {a:MA} {i:Nat} {tp:Ptr} {t:fx}
theorem Hf {H1 H2 H3 H4 H5:HP} (hs:St w0 A (sep H1 (sep H2 (sep H3 (sep H4 H5)))::R) w):St w0 A (H1::H2::H3::H4::H5::R) w:=by
 have h1:=hs.split
 have h2:=h1.p1.split
 have h3:=h2.p1.split
 have h4:=h3.p1.split
 exact h4.p2.p3.p4
theorem Hg {H1 H2 H3 H4 H5:HP} (hs:St w0 A (H1::H2::H3::H4::H5::R) w):St w0 A (sep H1 (sep H2 (sep H3 (sep H4 H5)))::R) w:=by
 have h4:=St.join (hs.p4.p4)
 have h3:=St.join h4.p3
 have h2:=St.join h3.p2
 exact St.join h2.p1
theorem eK.open (hs:St w0 A (eK K p m::R) w):∃ a,UK K a m∧St w0 A (cC p (j1 a m)::fW a.q a.ov a.fv m.mem::bL a.lk m.locks::bL a.ll a.ps::iK (qj K m.room) a.ps m.l::R) w:=by
 obtain ⟨a,hs⟩:=hs.eQ; obtain ⟨hu,hs⟩:=hs.oD; exact ⟨a,hu,Hf hs⟩
theorem eK.shut (hu:UK K a m) (hs:St w0 A (cC p (j1 a m)::fW a.q a.ov a.fv m.mem::bL a.lk m.locks::bL a.ll a.ps::iK (qj K m.room) a.ps m.l::R) w):St w0 A (eK K p m::R) w:=
 St.eJ a (St.qw hu (Hg hs))
theorem kD.open (hs:St w0 A (kD K p m i tp::R) w):∃ a,(UK K a m∧a.ps[i]? = some tp∧a.ps.length=m.l.length∧i<m.l.length)∧St w0 A (cC p (j1 a m)::fW a.q a.ov a.fv m.mem::bL a.lk m.locks::bL a.ll a.ps::qy (qj K m.room) a.ps m.l i::R) w:=by
 obtain ⟨a,hs⟩:=hs.eQ; obtain ⟨hu,hs⟩:=hs.oD; exact ⟨a,hu,Hf hs⟩
theorem kD.shut (hu:UK K a m∧a.ps[i]? = some tp∧a.ps.length=m.l.length∧i<m.l.length) (hs:St w0 A (cC p (j1 a m)::fW a.q a.ov a.fv m.mem::bL a.lk m.locks::bL a.ll a.ps::qy (qj K m.room) a.ps m.l i::R) w):St w0 A (kD K p m i tp::R) w:=
 St.eJ a (St.qw hu (Hg hs))
structure aqO (K:World→Prop) (w:World) (p:Nat) (m:gO) (a:MA):Prop where
 uk:UK K a m
 b:tM w p (j1 a m)
 mem:vk w a.q m.mem
 c0:Cell w a.q 0 a.ov
 c1:Cell w a.q 1 a.fv
 lk:eL (λ _=>True) w a.lk m.locks
 ll:eL (λ _=>True) w a.ll a.ps
 th:∀ (i:Nat) (s:Ptr) (t:fx),a.ps[i]? = some s→m.l[i]? = some t→Has (eD K s.b m.room t) w
 len:a.ps.length=m.l.length
theorem eK.rd (h:Has (eK K p m) w) (hK:K w):∃ a,aqO K w p m a:=by
 obtain ⟨F,hs⟩:=h.st
 obtain ⟨a,hu,hs⟩:=eK.open hs
 have hc:Cell w a.q 0 a.ov∧Cell w a.q 1 a.fv:=by
  obtain ⟨lv,kv,pm,h⟩:=fW.open hs.p1; exact ⟨h.hb.cell rfl,h.hb.cell rfl⟩
 exact ⟨a,hu,hs.hb,I5 hs.p1 (hu.mem _ hK),hc.1,hc.2,hs.p2.fM,hs.p3.fM,λ i s t h1 h2=>hs.p4.aok h1 h2 (Φ:=λ w=>Has (eD K s.b m.room t) w) λ h=>⟨_,h⟩,hs.p4.ly⟩
theorem W6 {ps:List Ptr} (hs:St w0 A (iK (qj K m.room) ps m.l::R) w) (hp:ps[i]? = some tp) (ht:m.l[i]? = some t):St w0 A (eD K tp.b m.room t::qy (qj K m.room) ps m.l i::R) w:=hs.focus hp ht
theorem L4 (hs:St w0 A (eD K tp.b m.room t::kD K p m i tp::R) w):St w0 A (eK K p {m with l:=m.l.set i t}::R) w:=by
 obtain ⟨a,⟨hu,hp,hl,hi⟩,hs⟩:=kD.open hs.p1
 have h1:St w0 A (qj K m.room tp t::qy (qj K m.room) a.ps m.l i::_) w:=(hs.p4).p5
 have h2:=h1.su hi hl hp
 have h3:=h2.p4.p4.p4.p4
 exact eK.shut (m:={m with l:=m.l.set i t}) ⟨hu.ln,hu.cl,hu.rc,hu.mem⟩ h3
end
def BF (m:gO) (t:fx):Bool:=match gZ t with
 | none=>false
 | some x=>if t.fault≠0 then true else if x.kind=3∨x.kind=5∨x.kind=6∨x.kind=7 then !decide (m.room≤t.buf.length) else if x.kind=4∨x.kind=8∨x.kind=10 then decide (t.buf.length=0) else if x.kind=9 then decide (t.buf.length=0) && decide (m.locks.getD x.b.toNat 0 = -1) else true
def rO (m:gO) (i:Nat) (t:fx):List fa:=(if BF m t=true then [⟨1,i,0,[]⟩] else [])++(yn t.buf).map λ k=>⟨2,i,k,[]⟩
def kZ (m:gO) (k:Nat):List fa:=(List.range k).flatMap λ i=>match m.l[i]? with | some t=>rO m i t | none=>[]
def eV (m:gO):List fa:=if m.fault≠0 then [] else kZ m m.l.length
def rP (m:gO):List fa:=if m.fault≠0 then [] else (Hb m.mem).map λ c=>⟨3,0,0,c⟩
theorem Ay {m:gO} {k:Nat} {t:fx} (h:m.l[k]? = some t):kZ m (k+1)=kZ m k++rO m k t:=by
 unfold kZ; rw [List.range_succ,List.flatMap_append]; simp [h]
structure rQ (m:gO):Prop where
 mem:xt m.mem
 th:∀ t∈m.l,He t
 tl:m.l.length≤1000
 lk:(m.locks.length:Int)=m.u.locks
 lkb:∀ t∈m.l,∀ x∈t.code.l,x.kind=9∨x.kind=10→0≤x.b∧x.b<m.u.locks
 lnb:∀ t∈m.l,∀ x∈t.code.l,x.kind=3→0≤x.b∧x.b<m.u.lines.length
 aqP:∀ t∈m.l,∀ x∈t.code.l,x.kind=2∨x.kind=4→0≤x.a∧x.a<t.code.aK
 rm:1≤m.room∧m.room≤16
 st:∀ t∈m.l,∀ x,gZ t=some x→t.fault=0→2≤x.kind∧x.kind≤10
 nl:∀ n∈m.u.lines,-1≤n∧n≤1000
theorem Hh (l:List bJ):(yn l).length≤l.length:=by have:=G4 l l.length; rw [ET l rfl] at this; exact this
theorem C66 (K:World→Prop) (p:Nat) (room:Int) (t:fx) (w:World) (hh:Has (eD K p room t) w) (yh:t.buf.length≤1000):CR 66 [(.pointer (some ⟨p,0,none⟩))] w (λ v w'=>v = .bool (decide (t.buf.length=0))∧Ext w w'):=by
 obtain ⟨bp,gl,rg,cn,⟨ts0,hts⟩,qi,hB,B4,hcn⟩:=eD.rd hh;have ct0:=qi.cell (o:=0) rfl;have ct7:=qi.cell (o:=7) rfl;have hs:=St.start w;refine ahg _ _ _ ?_;unfold S66;refine aF (aA nR (cG sj (ct0.ext hs.aE) (dG amx hs (C91 bp _ _ _ (hB.ext hs.aE) (by omega)) (λ x7 w1 cA hs=>aJ pE (hs).fM (aH ?_)))));exact ⟨vb (decide_eq_decide.2 (by omega)),hs.drop.aE⟩
theorem C56 (K:World→Prop) (p:Nat) (m:gO) (q:Nat) (t:fx) (w:World) (hm:Has (eK K p m) w) (hw:K w) (vH:∀ w',Ext w w'→K w') (mC:rQ m) (hh:Has (eD K q m.room t) w) (BG:t∈m.l):CR 56 [(.pointer (some ⟨p,0,none⟩)),(.pointer (some ⟨q,0,none⟩))] w (λ v w'=>v = .bool (BF m t)∧Ext w w'):=by
 obtain ⟨a,hr⟩:=eK.rd hm hw;have cm8:=hr.b.cell (o:=8) rfl;have cm0:=hr.b.cell (o:=0) rfl;have Yt:=hr.b.cell (o:=1) rfl;have cm3:=hr.b.cell (o:=3) rfl;have cm9:=hr.b.cell (o:=9) rfl;have Cs:=hr.b.cell (o:=10) rfl;have E5:=hr.b.cell (o:=11) rfl;have BH:=hr.b.cell (o:=12) rfl;have F5:=hr.b.cell (o:=13) rfl;have Az:=hr.b.cell (o:=14) rfl;have F6:=hr.b.cell (o:=15) rfl;have oF:=mC.th t BG;have yh:=oF.bl;obtain ⟨bp,gl,rg,cn,⟨ts0,hts⟩,qi,hB,B4,hcn⟩:=eD.rd hh;have ct0:=qi.cell (o:=0) rfl;have ct7:=qi.cell (o:=7) rfl;have hK:∀ w',Ext w w'→K w':=vH;have hs:=St.start w;refine ag6 _ _ _ _ ?_;unfold S56
 refine eu YN (C65 K q m.room t _ (hh.ext hs.aE) (hK _ hs.aE) oF) ?_;rintro v_x9 w1 aqQ
 rcases aqQ with ⟨vA,rfl,he⟩ | ⟨x,xv,vA,hxv,rfl,he⟩
 ·have hs:=hs.ext he;refine bG rfl (bG rfl (aO hs mB (λ ui w2 hs=>have hs:=hs.enc (cs':=Flat.enc (⟨0,0,0,⟨none,0,0⟩,⟨none,0,0⟩,0⟩:bU)) rfl;aI (x:=(⟨0,0,0,⟨none,0,0⟩,⟨none,0,0⟩,0⟩:bU)) hs lR rfl rfl (λ w3 hs=>bZ (nN ?_)))));refine ⟨vb ?_,(by first | exact hs.aE | exact hs.drop.aE)⟩;unfold BF;rw [vA]
 ·have hs:=hs.ext he;have hxm:=qO vA;obtain ⟨ge,gf,rfl,_,_⟩:=hxv _ (hK _ hs.aE);refine bG rfl (bG rfl (aO hs mB (λ ui w2 hs=>have hs:=hs.enc (cs':=Flat.enc (⟨0,0,0,⟨none,0,0⟩,⟨none,0,0⟩,0⟩:bU)) rfl;aI (x:=(⟨x.kind,x.a,x.b,ge,gf,x.to⟩:bU)) hs lR rfl rfl (λ w3 hs=>bZ (fN (aF (aA tS (cG bN (ct7.ext hs.aE) (cT (aC (λ jC=>?_) (λ jC=>?_)))))))))))
  ·refine ⟨vb ?_,(by first | exact hs.aE | exact hs.drop.aE)⟩;unfold BF;rw [vA];dsimp only;rw [if_pos jC]
  ·refine aA jn (aB (v:=.int .i64 x.kind) bN hs.hb rfl ?_);refine ⟨λ jv w'=>jv = .bool (decide (x.kind=3∨x.kind=5∨x.kind=6∨x.kind=7))∧St w bD [cC ui (Flat.enc (⟨x.kind,x.a,x.b,ge,gf,x.to⟩:bU))] w',?_,?_⟩
   ·refine aH (aC (λ gQ=>?_) (λ gQ=>?_))
    ·exact ⟨vb (by grind),hs⟩
    ·refine aH (aC (λ fH=>?_) (λ fH=>?_))
     ·exact ⟨vb (by grind),hs⟩
     ·refine aH (aC (λ sC=>?_) (λ sC=>?_))
      ·exact ⟨vb (by grind),hs⟩
      ·refine aH ?_;exact ⟨vb (by grind),hs⟩
   ·rintro _ w4 ⟨rfl,hs⟩ fu;refine aY (λ iU=>?_) (λ iU=>?_)
    ·refine aF (aA nR (cG sj (ct0.ext hs.aE) (aZ aeh hs (C123 bp _ _ _ (hB.ext hs.aE)) (λ w5 he hs=>bZ ?_))));refine ⟨vb ?_,(by first | exact hs.aE | exact hs.drop.aE)⟩;unfold BF;rw [vA];dsimp only;rw [if_neg (by simpa using jC),if_pos (by simpa using iU)]
    ·refine ⟨λ jv w'=>jv = .bool (decide (x.kind=4∨x.kind=8∨x.kind=10))∧St w bD [cC ui (Flat.enc (⟨x.kind,x.a,x.b,ge,gf,x.to⟩:bU))] w',?_,?_⟩
     ·refine aH (aC (λ j4=>?_) (λ j4=>?_))
      ·exact ⟨vb (by grind),hs⟩
      ·refine aH (aC (λ lz=>?_) (λ lz=>?_))
       ·exact ⟨vb (by grind),hs⟩
       ·refine aH ?_;exact ⟨vb (by grind),hs⟩
     ·rintro _ w6 ⟨rfl,hs⟩ jz;refine aY (λ gX=>?_) (λ gX=>?_)
      ·refine aZ ahq hs (C66 K q m.room t _ (hh.ext hs.aE) yh) (λ w7 he hs=>?_);refine ⟨vb ?_,(by first | exact hs.aE | exact hs.drop.aE)⟩;unfold BF;rw [vA];dsimp only;rw [if_neg (by simpa using jC),if_neg (by simpa using iU),if_pos (by simpa using gX)]
      ·refine aH (aC (λ kK=>?_) (λ kK=>?_))
       ·have aj4:=mC.lkb t BG x hxm.1 (.inl kK);have ML:=mC.lk;refine ⟨λ jv w'=>jv = .bool (decide (t.buf.length=0) && decide (m.locks.getD x.b.toNat 0 = -1))∧St w bD [cC ui (Flat.enc (⟨x.kind,x.a,x.b,ge,gf,x.to⟩:bU))] w',?_,?_⟩
        ·have hs:=hs.drew;refine aZ ahq hs (C66 K q m.room t _ (hh.ext hs.aE) yh) (λ w8 he hs=>aY (λ ue=>?_) (λ ue=>?_))
         ·refine aF (aA nP (cG er (E5.ext hs.aE) (aA eT (aB (v:=.int .i64 x.b) bN hs.hb rfl ?_))));obtain ⟨ao8,wB⟩:=gx (m.locks) (i:=(x.b).toNat) (by omega);refine aQ eg hr.lk (by omega) wB (λ _ Vm=>aD bN (Vm.ext hs.aE) (aH ?_));exact ⟨vb (by rw [ue,List.getD_eq_getElem?_getD,wB]; rfl),hs⟩
         ·exact ⟨vb (by rw [ue]; rfl),hs⟩
        ·rintro _ w9 ⟨rfl,hs⟩ oG;refine ⟨vb ?_,(by first | exact hs.aE | exact hs.drop.aE)⟩;unfold BF;rw [vA];dsimp only;rw [if_neg (by simpa using jC),if_neg (by simpa using iU),if_neg (by simpa using gX),if_pos kK]
       ·refine ⟨vb ?_,(by first | exact hs.aE | exact hs.drop.aE)⟩;unfold BF;rw [vA];dsimp only;rw [if_neg (by simpa using jC),if_neg (by simpa using iU),if_neg (by simpa using gX),if_neg kK]
theorem Oy (m:gO) (i:Nat) (t:fx):(rO m i t).length≤1+t.buf.length:=by
 have:=Hh t.buf
 unfold rO; split <;> simp <;> omega
theorem wM {m:gO} (h:rQ m):∀ k,(kZ m k).length≤k * 1001
 | 0=>by simp [kZ]
 | k+1=>by
  have ih:=wM h k
  cases ht:m.l[k]? with
  | none=>
   have e:kZ m (k+1)=kZ m k:=by unfold kZ; rw [List.range_succ,List.flatMap_append]; simp [ht]
   rw [e]; exact Nat.le_trans ih (Nat.mul_le_mul_right 1001 (Nat.le_succ k))
  | some t=>
   rw [Ay ht,List.length_append]
   have:=Oy m k t
   have:=(h.th t (List.mem_of_getElem? ht)).bl
   omega
def AA (m:gO) (i:Int):List Int:=if 0≤i then (match m.l[i.toNat]? with | some t=>t.aK | none=>[]) else []
theorem W7 {m:gO} {i:Int} {t:fx} (h0:0≤i) (h:m.l[i.toNat]? = some t):AA m i=t.aK:=by unfold AA; rw [if_pos h0,h]
theorem Sz {m:gO} {i:Int} (h:i<0∨m.l.length≤i):AA m i=[]:=by
 unfold AA; split
 ·rw [List.getElem?_eq_none (by omega)]
 ·rfl
def ade:List Int→Int→Int
 | [],n=>n
 | c::cs,n=>ade cs (rf (rf (n * 10000)+c))
def AB (l:List Int) (k:Nat):Int:=ade (l.take k) 0
theorem Hi:∀ (l:List Int) (c n:Int),ade (l++[c]) n=rf (rf (ade l n * 10000)+c)
 | [],_,_=>rfl
 | x::l,c,n=>Hi l c _
theorem Oz {l:List Int} {k:Nat} {c:Int} (h:l[k]? = some c):AB l (k+1)=rf (rf (AB l k * 10000)+c):=by
 unfold AB; rw [List.take_add_one,h]; exact Hi _ _ _
def iW (p q:fa):Bool:=decide (q.kind=p.kind) && decide (q.t=p.t) && decide (q.i=p.i) && decide (p.cut.length=0)
def pk3 (s:SV):fU:=⟨3,0,0,s⟩
theorem adf {w:World} {ss:List SV} {cs:List (List Int)} (h:lg ss cs w):lg (ss.map pk3) (cs.map λ c=>(⟨3,0,0,c⟩:fa)) w:=by
 refine ⟨by simp [h.1],λ i t x a b=>?_⟩
 rw [List.getElem?_map] at a b
 cases hs:ss[i]? with
 | none=>rw [hs] at a; cases a
 | some s=>
  cases hc:cs[i]? with
  | none=>rw [hc] at b; cases b
  | some c=>
   rw [hs] at a; rw [hc] at b
   simp at a b; subst a b
   exact ⟨s,rfl,h.2 i s c hs hc⟩
theorem C16 (K:World→Prop) (p:Nat) (m:gO) (w:World) (hm:Has (eK K p m) w) (hw:K w) (vH:∀ w',Ext w w'→K w') (mC:rQ m):CR 16 [(.pointer (some ⟨p,0,none⟩))] w (λ v w'=>mc (fj v (eV m)) w w'):=by
 obtain ⟨a,hr⟩:=eK.rd hm hw;have cm8:=hr.b.cell (o:=8) rfl;have cm0:=hr.b.cell (o:=0) rfl;have Yt:=hr.b.cell (o:=1) rfl;have cm3:=hr.b.cell (o:=3) rfl;have cm9:=hr.b.cell (o:=9) rfl;have Cs:=hr.b.cell (o:=10) rfl;have E5:=hr.b.cell (o:=11) rfl;have BH:=hr.b.cell (o:=12) rfl;have F5:=hr.b.cell (o:=13) rfl;have Az:=hr.b.cell (o:=14) rfl;have F6:=hr.b.cell (o:=15) rfl;have hs:=St.start w;refine agy _ _ _ ?_;unfold S16;refine aF (aA nQ (cG bN (Az.ext hs.aE) (cT (aC (λ jB=>?_) (λ jB=>?_)))))
 ·have hpm:eV m=[]:=by unfold eV; rw [if_pos jB]
  rw [hpm];exact hs.xO.fresh
 ·refine aF (aA km (cG qX (BH.ext hs.aE) (aJ sn (hr.ll.ext hs.aE) ?_)));have hs:=hs.xO (α:=fa);refine ⟨λ mm o x w1=>∃ k:Nat,x = .int .i64 (k:Int)∧mm=a.ps.length - k∧k≤a.ps.length∧St w bD [fj o (kZ m k)] w1,⟨_,0,rfl,rfl,Nat.zero_le _,hs⟩,?_⟩;rintro mm fX _ w1 ⟨k,rfl,rfl,hk,hs⟩ fu;refine aR (aC (λ fi=>?_) (λ fi=>?_))
  ·obtain ⟨afU,BI⟩:=gx (a.ps) (i:=((k:Int)).toNat) (by omega);refine aQ sn hr.ll (by omega) BI (λ _ Al=>?_);obtain ⟨t,ht⟩:∃ t,m.l[k]? = some t:=⟨_,List.getElem?_eq_getElem (by have:=hr.len; omega)⟩;have BG:=List.mem_of_getElem? ht;have yh:=(mC.th t BG).bl;have uH:=wM mC k;have Qs:=Hh t.buf;have KW:=hr.len;have Nd:=mC.tl;refine aD BU (Al.ext hs.aE) ?_;refine ⟨λ o w'=>St w bD [fj o (kZ m k++(if BF m t=true then [(⟨1,(k:Int),0,[]⟩:fa)] else []))] w',?_,?_⟩
   ·refine aZ auv hs (C56 K p m afU.b t _ (hm.ext hs.aE) (vH _ hs.aE) (λ w2 e=>vH _ (Ext.trans hs.aE e)) mC ((hr.th k _ _ BI ht).ext hs.aE) BG) (λ w2 he hs=>aY (λ fH=>?_) (λ fH=>?_))
    ·refine pop (GA _ _) (have hs:=hs.gI (Φ:=(λ w=>cD.dr w (⟨1,(k:Int),0,⟨none,0,0⟩⟩:fU) (⟨1,(k:Int),0,[]⟩:fa))) (λ w=>⟨_,rfl,DL.nil _⟩);eF (s:=(⟨1,(k:Int),0,⟨none,0,0⟩⟩:fU)) (x:=(⟨1,(k:Int),0,[]⟩:fa)) hs oQ (by decide) (λ ae4 w3 hs=>have hs:=hs.p1;dY hs oQ (by simp; omega) (by decide) (λ s_x30 w4 hs=>?_)));rw [fH,if_pos rfl];exact hs
    ·rw [fH,if_neg (by decide),List.append_nil];exact hs
   ·intro nj w5 hs jz;obtain ⟨bp,gl,rg,cn,_,qi,hB,B4,hcn⟩:=eD.rd (hr.th k _ _ BI ht);have ct0:=qi.cell (o:=0) rfl;have ct5:=qi.cell (o:=5) rfl;have ct6:=qi.cell (o:=6) rfl;refine aF (aA nR (cG sj (ct0.ext hs.aE) (dG auw hs (C57 bp _ _ _ (hB.ext hs.aE) (by omega)) (λ x35 w6 cA hs=>?_))));have hxx:=trivial;refine aJ eg (hs).fM ?_;have hs:=hs.p1.p1;refine ⟨λ mm o x w1=>∃ j:Nat,x = .int .i64 (j:Int)∧mm=(yn t.buf).length - j∧j≤(yn t.buf).length∧St w bD [bL x35 (yn t.buf),fj o ((kZ m k++(if BF m t=true then [(⟨1,(k:Int),0,[]⟩:fa)] else []))++((yn t.buf).take j).map λ i=>(⟨2,(k:Int),i,[]⟩:fa))] w1,⟨_,0,rfl,rfl,Nat.zero_le _,by simpa using hs⟩,?_⟩
    rintro mm M5 _ w7 ⟨j,rfl,rfl,hj,hs⟩ oG;refine aR (aC (λ ml=>?_) (λ ml=>?_))
    ·obtain ⟨qE,qg⟩:=gx ((yn t.buf)) (i:=((j:Int)).toNat) (by omega);refine dT hs eg (by omega) (by omega) (λ _ uh=>ga hs bN uh qg (pop (KA _ _ _) (have hs:=hs.gI (Φ:=(λ w=>cD.dr w (⟨2,(k:Int),qE,⟨none,0,0⟩⟩:fU) (⟨2,(k:Int),qE,[]⟩:fa))) (λ w=>⟨_,rfl,DL.nil _⟩);eF (s:=(⟨2,(k:Int),qE,⟨none,0,0⟩⟩:fU)) (x:=(⟨2,(k:Int),qE,[]⟩:fa)) hs oQ (by decide) (λ Wl w8 hs=>have hs:=hs.p2;dY hs oQ (by simp only [List.length_append,List.length_map,List.length_take,List.length_singleton]; split <;> simp <;> omega) (by decide) (λ aqb w9 hs=>aN (by omega) ?_)))))
     have hs:=hs.p1;refine ⟨_,by omega,j+1,rfl,rfl,by omega,?_⟩;rw [List.append_assoc,iV (k:=j) qg] at hs;exact hs
    ·refine aN (by omega) ?_;have hs:=(hs).drop;refine ⟨_,by omega,k+1,rfl,rfl,by omega,?_⟩;rw [Ay ht];unfold rO;rw [List.take_of_length_le (by omega),List.append_assoc] at hs;exact hs
  ·have hpm:eV m=kZ m a.ps.length:=by unfold eV; rw [if_neg jB,hr.len]
   rw [hpm,show a.ps.length=k from by omega];exact hs.fresh
theorem C31 (K:World→Prop) (p:Nat) (m:gO) (w:World) (hm:Has (eK K p m) w) (hw:K w) (vH:∀ w',Ext w w'→K w') (mC:rQ m) (hb:MB m.mem 1000000) (hC:(fJ (I8 m.mem)).length≤1000000000):CR 31 [(.pointer (some ⟨p,0,none⟩))] w (λ v w'=>mc (fj v (rP m)) w w'):=by
 obtain ⟨a,hr⟩:=eK.rd hm hw;have cm8:=hr.b.cell (o:=8) rfl;have cm0:=hr.b.cell (o:=0) rfl;have Yt:=hr.b.cell (o:=1) rfl;have cm3:=hr.b.cell (o:=3) rfl;have cm9:=hr.b.cell (o:=9) rfl;have Cs:=hr.b.cell (o:=10) rfl;have E5:=hr.b.cell (o:=11) rfl;have BH:=hr.b.cell (o:=12) rfl;have F5:=hr.b.cell (o:=13) rfl;have Az:=hr.b.cell (o:=14) rfl;have F6:=hr.b.cell (o:=15) rfl;have hs:=St.start w;refine agK _ _ _ ?_;unfold S31;refine aF (aA nQ (cG bN (Az.ext hs.aE) (cT (aC (λ fB=>?_) (λ fB=>?_)))))
 ·have hpm:rP m=[]:=by unfold rP; rw [if_pos fB]
  rw [hpm];exact hs.xO.fresh
 ·refine aF (aA jN (cG sm (Cs.ext hs.aE) (eu auJ (C82 a.q m.mem _ (hr.mem.ext hs.aE) mC.mem hb hC) ?_)));rintro x15 w1 cA;have hs:=hs.made cA;obtain ⟨ss,hs⟩:=hs.KN;have U5:=hs.ahP;have hdl:=QS (uy m.mem) (fJ (I8 m.mem));have Ja:(Hb m.mem).length=(MO (uy m.mem) (fJ (I8 m.mem))).1.length:=rfl;refine aJ yc (hs).fM ?_;have hs:=(((hs.fY (α:=fU)).p2).p2).p2;refine ⟨λ mm o x w1=>∃ k:Nat,x = .int .i64 (k:Int)∧mm=ss.length - k∧k≤ss.length∧St w bD [bL o ((ss.take k).map pk3),bL x15 ss,eY (lg ss (Hb m.mem))] w1,⟨_,0,rfl,rfl,Nat.zero_le _,hs⟩,?_⟩;rintro mm fX _ w2 ⟨k,rfl,rfl,hk,hs⟩ fu
  refine aR (aC (λ gj=>?_) (λ gj=>?_))
  ·obtain ⟨jg,fE⟩:=gx (ss) (i:=((k:Int)).toNat) (by omega);refine dT hs.p1 yc (by omega) (by omega) (λ _ jR=>ga hs.p1 er jR fE (pop (v:=Flat.val (pk3 jg)) (GB _ _ _ _) (bX ([pk3 jg]) hs oQ rfl rfl (eE rfl) (λ s_x24 w3 hs=>?_))));have wE:=(hs).fM;refine cP hs.p1 oQ wE (by simp; omega) (by decide) (λ apm w4 hs=>have hs:=hs.p1.drop;aN (by omega) ?_);have hs:=hs.p2.p2.p2;exact ⟨_,by omega,k+1,rfl,rfl,by omega,by rw [← iV (k:=k) fE]; exact hs⟩
  ·have hs:=(hs.p1.drop).p1;have hpm:rP m=(Hb m.mem).map λ c=>(⟨3,0,0,c⟩:fa):=by unfold rP; rw [if_neg fB]
   rw [List.take_of_length_le (by omega)] at hs;rw [hpm];exact (St.DJ (hs.dQ (λ w h=>adf h)).p1).fresh
theorem C59 (cv:Value) (cut:List Int) (w:World) (hC:eL (λ _=>True) w cv cut) (ajP:cut.length≤1000000):CR 59 [cv] w (λ v w'=>v = .int .i64 (AB cut cut.length)∧Ext w w'):=by
 have hs:=St.start w;refine ag9 _ _ _ ?_;unfold S59;refine aJ eg (hC.ext hs.aE) ?_;refine ⟨λ mm n x w1=>∃ k:Nat,n = .int .i64 (AB cut k)∧x = .int .i64 (k:Int)∧mm=cut.length - k∧k≤cut.length∧St w bD [] w1,⟨_,0,rfl,rfl,rfl,Nat.zero_le _,hs⟩,?_⟩;rintro mm _ _ w1 ⟨k,rfl,rfl,rfl,hk,hs⟩ fu;refine aR (aC (λ gr=>?_) (λ gr=>?_))
 ·obtain ⟨e_x10,W8⟩:=gx (cut) (i:=((k:Int)).toNat) (by omega);refine aQ eg hC (by omega) W8 (λ _ qD=>aD bN (qD.ext hs.aE) (KH (KG (aN (by omega) ?_))));exact ⟨_,by omega,k+1,by rw [Oz (k:=k) W8],rfl,rfl,by omega,hs⟩
 ·exact ⟨by rw [show cut.length=k from by omega],hs.aE⟩
theorem C60 (q x:fa) (qv:fU) (b:Nat) (xv:fU) (w:World) (hq:cD.dr w qv q) (hx:At (λ _=>True) w (.pointer (some ⟨b,0,none⟩)) xv) (hxd:cD.dr w xv x):CR 60 [Flat.val qv,(.pointer (some ⟨b,0,none⟩))] w (λ v w'=>v = .bool (iW x q)∧Ext w w'):=by
 obtain ⟨QT,rfl,adg⟩:=hq;obtain ⟨adh,rfl,adi⟩:=hxd;have hs:=St.start w;refine aha _ _ _ _ ?_;unfold S60;refine dE hs (λ aya w1 hs=>?_);refine ⟨λ jv w'=>jv = .bool (iW x q)∧St w bD [cC aya (Flat.enc (⟨(q).kind,(q).t,(q).i,QT⟩:fU))] w',?_,?_⟩
 ·refine aA pk (aB (v:=.int .i64 ((q).kind)) bN hs.hb rfl (bT (x).kind pk hx rfl rfl (λ _ ayb=>aD bN (ayb.ext hs.aE) (aH (aC (λ gi=>?_) (λ gi=>?_))))))
  ·refine aA jM (aB (v:=.int .i64 ((q).t)) bN hs.hb rfl (bT (x).t jM hx rfl rfl (λ _ aqT=>aD bN (aqT.ext hs.aE) (aH (aC (λ gV=>?_) (λ gV=>?_))))))
   ·refine aA xe (aB (v:=.int .i64 ((q).i)) bN hs.hb rfl (bT (x).i xe hx rfl rfl (λ _ jR=>aD bN (jR.ext hs.aE) (aH (aC (λ gz=>?_) (λ gz=>?_))))))
    ·refine bT adh zC hx rfl rfl (λ _ wg=>aD er (wg.ext hs.aE) ?_);have aqU:=DL.flat (adi);refine aJ eg (aqU.ext hs.aE) (aH ?_);exact ⟨vb (by unfold iW; first | (simp_all; done) | grind),hs⟩
    ·exact ⟨vb (by unfold iW; first | (simp_all; done) | grind),hs⟩
   ·exact ⟨vb (by unfold iW; first | (simp_all; done) | grind),hs⟩
  ·exact ⟨vb (by unfold iW; first | (simp_all; done) | grind),hs⟩
 ·rintro _ w2 ⟨rfl,hs⟩ fu;exact ⟨rfl,hs.drop.aE⟩
theorem C126 (sv fv:Value) (xs:List fa) (φ:fa→Prop) (g:fa→Bool) (w:World) (hL:DL w sv xs) (hf:nZ PG w fv φ g) (hφ:∀ x∈xs,φ x) (hn:xs.length≤1073741824):CR 126 [sv,fv] w (λ v w'=>v = .int .i64 (uV g xs)∧Ext w w'):=by
 obtain ⟨g0,first,cap,rfl,uH,l4⟩:=hf;have hs:=St.start w;refine Zg _ _ _ _ ?_;unfold S126;obtain ⟨aqV,afV,afW⟩:=(hL).open;have hn127:=afW.1;refine aJ oQ (afV.ext hs.aE) ?_;refine ⟨λ m x w1=>∃ k:Nat,x = .int .i64 (k:Int)∧m=xs.length - k∧k≤xs.length∧(∀ y∈xs.take k,g y=false)∧St w bD [] w1,⟨_,0,rfl,rfl,Nat.zero_le _,by simp,hs⟩,?_⟩;rintro m _ w1 ⟨k,rfl,rfl,hk,fQ,hs⟩ fu;refine aR (aC (λ gr=>?_) (λ gr=>?_))
 ·obtain ⟨js,dD⟩:=gx aqV (i:=((k:Int)).toNat) (by omega);obtain ⟨B6,jZ⟩:=gx (xs) (i:=((k:Int)).toNat) (by omega);obtain ⟨SA,rfl,SB⟩:=afW.2 _ _ _ dD jZ;refine aQ oQ afV (by omega) dD (λ _ iT=>aD vT (iT.ext hs.aE) (gg uH (l4 _ B6 w1 hs.aE ⟨SA,rfl,(SB.ext hs.aE)⟩ (hφ _ (List.mem_of_getElem? jZ))) ?_));rintro _ w2 ⟨rfl,he⟩;have hs:=hs.ext he;refine aY (λ eM=>?_) (λ eM=>?_)
  ·exact ⟨congrArg (Value.int .i64) (pq fQ jZ eM).symm,hs.aE⟩
  ·refine aN (by omega) ?_;exact ⟨_,by omega,k+1,rfl,rfl,by omega,ew fQ jZ eM,hs⟩
 ·exact ⟨congrArg (Value.int .i64) (ku (by rw [List.take_of_length_le (by omega)] at fQ; exact fQ)).symm,hs.aE⟩
theorem C61 (sv fv:Value) (xs:List fa) (φ:fa→Prop) (g:fa→Bool) (w:World) (hL:DL w sv xs) (hf:nZ PG w fv φ g) (hφ:∀ x∈xs,φ x) (hn:xs.length≤1073741824):CR 61 [sv,fv] w (λ v w'=>v = .bool (xs.any g)∧Ext w w'):=by
 have hs:=St.start w;refine ahb _ _ _ _ ?_;unfold S61;refine aZ amL hs (C126 _ _ _ _ _ _ (hL.ext hs.aE) (hf.ext hs.aE) hφ (by omega)) (λ w1 he hs=>dI ?_);exact ⟨vb (n8 _ _),hs.aE⟩
theorem C22 (K:World→Prop) (p:Nat) (m:gO) (w:World) (hm:Has (eK K p m) w) (hw:K w) (vH:∀ w',Ext w w'→K w') (mC:rQ m):CR 22 [(.pointer (some ⟨p,0,none⟩))] w (λ v w'=>mc (bL v m.mem.l) w w'):=by
 obtain ⟨a,hr⟩:=eK.rd hm hw;have cm8:=hr.b.cell (o:=8) rfl;have cm0:=hr.b.cell (o:=0) rfl;have Yt:=hr.b.cell (o:=1) rfl;have cm3:=hr.b.cell (o:=3) rfl;have cm9:=hr.b.cell (o:=9) rfl;have Cs:=hr.b.cell (o:=10) rfl;have E5:=hr.b.cell (o:=11) rfl;have BH:=hr.b.cell (o:=12) rfl;have F5:=hr.b.cell (o:=13) rfl;have Az:=hr.b.cell (o:=14) rfl;have F6:=hr.b.cell (o:=15) rfl;have hs:=St.start w;refine agF _ _ _ ?_;unfold S22;refine aF (aA jN (cG sm (Cs.ext hs.aE) (dG ahr hs (C72 a.q m.mem _ (hr.mem.ext hs.aE) mC.mem) (λ x7 w1 cA hs=>?_))));exact hs.fresh
theorem C23 (K:World→Prop) (p:Nat) (m:gO) (w:World) (hm:Has (eK K p m) w) (hw:K w) (vH:∀ w',Ext w w'→K w') (mC:rQ m):CR 23 [(.pointer (some ⟨p,0,none⟩))] w (λ v w'=>mc (bL v m.mem.kept) w w'):=by
 obtain ⟨a,hr⟩:=eK.rd hm hw;have cm8:=hr.b.cell (o:=8) rfl;have cm0:=hr.b.cell (o:=0) rfl;have Yt:=hr.b.cell (o:=1) rfl;have cm3:=hr.b.cell (o:=3) rfl;have cm9:=hr.b.cell (o:=9) rfl;have Cs:=hr.b.cell (o:=10) rfl;have E5:=hr.b.cell (o:=11) rfl;have BH:=hr.b.cell (o:=12) rfl;have F5:=hr.b.cell (o:=13) rfl;have Az:=hr.b.cell (o:=14) rfl;have F6:=hr.b.cell (o:=15) rfl;have hs:=St.start w;refine agG _ _ _ ?_;unfold S23;refine aF (aA jN (cG sm (Cs.ext hs.aE) (dG TU hs (C73 a.q m.mem _ (hr.mem.ext hs.aE) mC.mem) (λ x7 w1 cA hs=>?_))));exact hs.fresh
theorem C25 (K:World→Prop) (p:Nat) (m:gO) (i:Int) (w:World) (hm:Has (eK K p m) w) (hw:K w) (vH:∀ w',Ext w w'→K w') (mC:rQ m) (Yu:∀ t∈m.l,t.aK.length≤1000000):CR 25 [(.pointer (some ⟨p,0,none⟩)),.int .i64 i] w (λ v w'=>mc (bL v (AA m i)) w w'):=by
 obtain ⟨a,hr⟩:=eK.rd hm hw;have cm8:=hr.b.cell (o:=8) rfl;have cm0:=hr.b.cell (o:=0) rfl;have Yt:=hr.b.cell (o:=1) rfl;have cm3:=hr.b.cell (o:=3) rfl;have cm9:=hr.b.cell (o:=9) rfl;have Cs:=hr.b.cell (o:=10) rfl;have E5:=hr.b.cell (o:=11) rfl;have BH:=hr.b.cell (o:=12) rfl;have F5:=hr.b.cell (o:=13) rfl;have Az:=hr.b.cell (o:=14) rfl;have F6:=hr.b.cell (o:=15) rfl;have hs:=St.start w;refine agH _ _ _ _ ?_;unfold S25;refine ⟨λ jv w'=>jv = .bool (decide (i<0∨a.ps.length≤i))∧w=w',?_,?_⟩
 ·refine aR (aC (λ oA=>?_) (λ oA=>?_))
  ·exact ⟨Pq (by omega),rfl⟩
  ·refine aF (aA km (cG qX (BH.ext hs.aE) (aJ sn (hr.ll.ext hs.aE) (dI ?_))));exact ⟨tD (by omega),rfl⟩
 ·rintro _ w1 ⟨rfl,hw⟩ fu;subst hw;refine aC (λ jQ=>?_) (λ jQ=>?_)
  ·rw [Sz (by have:=hr.len; omega)];exact (hs.fY (α:=Int)).fresh
  ·refine aF (aA km (cG qX (BH.ext hs.aE) ?_));obtain ⟨afU,BI⟩:=gx (a.ps) (i:=(i).toNat) (by omega);refine aQ sn hr.ll (by omega) BI (λ _ Al=>aD BU (Al.ext hs.aE) ?_);obtain ⟨t,ht⟩:∃ t,m.l[i.toNat]? = some t:=⟨_,List.getElem?_eq_getElem (by have:=hr.len; omega)⟩;have yh:=(mC.th t (List.mem_of_getElem? ht)).bl;have ayc:=(mC.th t (List.mem_of_getElem? ht)).rg;obtain ⟨bp,gl,rg,cn,_,qi,hB,B4,hcn⟩:=eD.rd (hr.th i.toNat _ _ BI ht);have ct0:=qi.cell (o:=0) rfl;have ct5:=qi.cell (o:=5) rfl;have ct6:=qi.cell (o:=6) rfl;refine aF (aA pG (cG er (ct5.ext hs.aE) (dG zu hs (C70 _ _ _ (B4.ext hs.aE) (Yu t (List.mem_of_getElem? ht))) (λ x26 w2 cA hs=>?_))))
   rw [W7 (by omega) ht];exact hs.fresh
def pR (m:Mem) (c:Int):Int:=if Oo m c=true then m.l.getD c.toNat 0 else 0
def Hj (m:gO) (t:fx) (x:aW):Int:=if (rK t.buf x.b).isSome=true then (rK t.buf x.b).getD 0 else pR m.mem x.b
def loadT (m:gO) (t:fx) (x:aW):fx:={t with aK:=t.aK.set x.a.toNat (Hj m t x)}
def Hk (m:gO) (t:fx) (x:aW):dA:=⟨if (rK t.buf x.b).isSome=true then 2 else 1,0,x.b,Hj m t x,0⟩
def sM (m:gO) (t:fx) (x:aW):bJ:=if x.kind=3 then ⟨3,m.u.lines.getD x.b.toNat 0,x.b,t.e⟩ else ⟨x.kind,x.b,0,0⟩
def uA (m:gO) (t:fx) (x:aW):fx:={t with buf:=vj m.room t.buf (sM m t x)}
def yX (k:Int):Int:=if k=3 then 3 else if k=5 then 4 else if k=6 then 5 else if k=7 then 6 else 0
def AD (m:gO) (t:fx) (x:aW):dA:=⟨yX x.kind,0,x.b,(sM m t x).n,0⟩
def casT (m:gO) (t:fx) (x:aW):fx:={t with aK:=t.aK.set x.a.toNat (pR m.mem x.b)}
def AE (m:gO) (t:fx) (x:aW):gO:=if pR m.mem x.b=t.e then {m with mem:=iP m.mem x.b t.f} else m
def L5 (m:gO) (t:fx) (x:aW):dA:=if pR m.mem x.b=t.e then ⟨8,0,x.b,pR m.mem x.b,t.f⟩ else ⟨9,0,x.b,pR m.mem x.b,0⟩
def wN (m:gO) (i:Int) (x:aW):gO:={m with locks:=m.locks.set x.b.toNat i}
def sN (m:gO) (i:Int) (x:aW):gO:=if m.locks.getD x.b.toNat 0=i then {m with locks:=m.locks.set x.b.toNat (-1)} else {m with fault:=3,mQ:=i}
def Cb (m:gO) (i:Int) (x:aW):dA:=if m.locks.getD x.b.toNat 0=i then ⟨11,0,x.b,0,0⟩ else ⟨16,0,3,0,0⟩
def dL (m:gO) (t:fx) (i:Int) (x:aW):gO × fx × dA:=
 if x.kind=2 then (m,loadT m t x,Hk m t x)
 else if x.kind=4 then (AE m t x,casT m t x,L5 m t x)
 else if x.kind=8 then (m,t,⟨7,0,0,0,0⟩)
 else if x.kind=9 then (wN m i x,t,⟨10,0,x.b,0,0⟩)
 else if x.kind=10 then (sN m i x,t,Cb m i x)
 else (m,uA m t x,AD m t x)
theorem afX (p:Nat) (m:Mem) (c:Int) (w:World) (hm:vk w p m) (hk:xt m):CR 195 [.pointer (some ⟨p,0,none⟩),.int .i64 c] w (λ v w'=>v = .tuple #[.int .i64 (pR m c),.int .i64 (if Oo m c=true then 0 else 1)]∧Ext w w'):=C195 p m c w hm hk
theorem BJ (m:Mem) (c n:Int):(iP m c n).of=m.of:=by unfold iP; split <;> rfl
theorem tz (m:Mem) (c n:Int):(iP m c n).dC=m.dC:=by unfold iP; split <;> rfl
theorem QU (m:Mem) (c:Int):(vG m c).of=m.of:=by unfold vG; split <;> rfl
theorem Cc (m:Mem) (c:Int):(vG m c).dC=m.dC:=by unfold vG; split <;> rfl
theorem uw.write {ov fv:Value} {m:Mem} {w:World} {c n:Int} (h:uw ov fv m w):uw ov fv (iP m c n) w:=by unfold uw; rw [BJ,tz]; exact h
theorem uw.out {ov fv:Value} {m:Mem} {w:World} {c:Int} (h:uw ov fv m w):uw ov fv (vG m c) w:=by unfold uw; rw [QU,Cc]; exact h
theorem C130 (K:World→Prop) (p:Nat) (m:gO) (n:Nat) (tp:Ptr) (t:fx) (i:Int) (x:aW) (ge gf:SV) (F:Nat→Prop) (w:World) (hF:(sep (eD K tp.b m.room t) (kD K p m n tp)).p w F) (hK:∀ w',iH F w w'→K w') (yh:t.buf.length≤1000) (JK:xt m.mem) (tH:MB m.mem 1000000) (hxa:0≤x.a∧x.a<t.aK.length):CR 130 [(.pointer (some ⟨p,0,none⟩)),(.pointer (some ⟨tp.b,0,none⟩)),.int .i64 i,Flat.val (⟨x.kind,x.a,x.b,ge,gf,x.to⟩:bU)] w (λ v w'=>v=Flat.val (Hk m t x)∧qx F (sep (eD K tp.b m.room (loadT m t x)) (kD K p (m) n tp)) w w'):=by
 have hs:=(St.begin hF).split;obtain ⟨bp,gl,rg,cn,qP,hs⟩:=eD.open hs;obtain ⟨a,hx,hs⟩:=kD.open hs.p4;refine Zk _ _ _ _ _ _ ?_;unfold S130;refine dE (x:=(⟨x.kind,x.a,x.b,ge,gf,x.to⟩:bU)) hs (λ Bn w1 hs=>aO hs lI (λ Cp w2 hs=>aF (aA nR (have hs:=hs.drew;aB sj hs.p7.hb rfl (aA eT (aB (v:=.int .i64 x.b) bN hs.p1.hb rfl (aZ ang hs (C194 bp x.b m.room t.buf _ (QL hs.p8) (by omega)) (λ w3 he hs=>bG rfl (bG rfl ?_)))))))));refine ⟨_,?_,λ _ _ _ h=>h⟩;refine bZ (aY (λ iU=>?_) (λ iU=>?_))
 ·refine aF (aA jN (have hs:=hs.drew;aB sm hs.p2.hb rfl (aA eT (aB (v:=.int .i64 x.b) bN hs.p1.hb rfl (aZ aeu hs (afX a.q m.mem x.b _ (I5 hs.p3 (hx.1.mem _ (hK _ hs.aE))) JK) (λ w4 he hs=>bG rfl (bG rfl ?_)))))));intro fu;refine aF (aA pG (have hs:=hs.drew;aB er hs.p7.hb rfl (aA ko (aB (v:=.int .i64 x.a) bN hs.p1.hb rfl ?_))));obtain ⟨afx,I2⟩:=gx (t.aK) (i:=(x.a).toNat) (by omega);refine dT hs.p9 eg (by omega) (by omega) (λ aqW D2=>lP _ hs.p9 bN D2 (by omega) (λ w6 hs=>aA eT (aB (v:=.int .i64 x.b) bN hs.p2.hb rfl (pop (pL _ _ _) (aI (x:=(⟨1,0,x.b,(pR m.mem x.b),0⟩:dA)) hs.p1 eW rfl rfl (λ w7 hs=>aD eW hs.At ?_))))))
  have hn:Hj m t x=(pR m.mem x.b):=by unfold Hj; rw [if_neg (by simpa using iU)]
  have hk:(if (rK t.buf x.b).isSome=true then (2:Int) else 1)=1:=by rw [if_neg (by simpa using iU)]
  have hs:=eD.shut (room:=m.room) (t:=(⟨t.code,t.at_,((t.aK).set (x.a).toNat (pR m.mem x.b)),t.counts,t.fault,t.e,t.f,t.buf⟩:fx)) qP hs.uI.p2.uI.uI;have hs:=((kD.shut (m:=m) (⟨⟨hx.1.ln,hx.1.cl,hx.1.rc,hx.1.mem⟩,hx.2⟩) hs.p7.p7.p7.p7.p7).p2).drop;have hs:=(hs.p2.drop).p1;refine ⟨?_,?_⟩
  ·unfold Hk; rw [hn,hk]
  ·rw [show loadT m t x=(⟨t.code,t.at_,((t.aK).set (x.a).toNat (pR m.mem x.b)),t.counts,t.fault,t.e,t.f,t.buf⟩:fx) from by unfold loadT; rw [hn]]; exact (St.join hs).mut
 ·intro fu;refine aF (aA pG (have hs:=hs.drew;aB er hs.p7.hb rfl (aA ko (aB (v:=.int .i64 x.a) bN hs.p1.hb rfl ?_))));obtain ⟨afx,I2⟩:=gx (t.aK) (i:=(x.a).toNat) (by omega);refine dT hs.p9 eg (by omega) (by omega) (λ aqW D2=>lP _ hs.p9 bN D2 (by omega) (λ w6 hs=>aA eT (aB (v:=.int .i64 x.b) bN hs.p2.hb rfl (pop (pL _ _ _) (aI (x:=(⟨2,0,x.b,((rK t.buf x.b).getD 0),0⟩:dA)) hs.p1 eW rfl rfl (λ w7 hs=>aD eW hs.At ?_))))));have hn:Hj m t x=((rK t.buf x.b).getD 0):=by unfold Hj; rw [if_pos (by simpa using iU)]
  have hk:(if (rK t.buf x.b).isSome=true then (2:Int) else 1)=2:=by rw [if_pos (by simpa using iU)]
  have hs:=eD.shut (room:=m.room) (t:=(⟨t.code,t.at_,((t.aK).set (x.a).toNat ((rK t.buf x.b).getD 0)),t.counts,t.fault,t.e,t.f,t.buf⟩:fx)) qP hs.uI.p2.uI.uI;have hs:=((kD.shut (m:=m) (⟨⟨hx.1.ln,hx.1.cl,hx.1.rc,hx.1.mem⟩,hx.2⟩) hs.p7.p7.p7.p7.p7).p2).drop;have hs:=(hs.p2.drop).p1;refine ⟨?_,?_⟩
  ·unfold Hk; rw [hn,hk]
  ·rw [show loadT m t x=(⟨t.code,t.at_,((t.aK).set (x.a).toNat ((rK t.buf x.b).getD 0)),t.counts,t.fault,t.e,t.f,t.buf⟩:fx) from by unfold loadT; rw [hn]]; exact (St.join hs).mut
theorem C132 (K:World→Prop) (p:Nat) (m:gO) (n:Nat) (tp:Ptr) (t:fx) (i:Int) (x:aW) (ge gf:SV) (F:Nat→Prop) (w:World) (hF:(sep (eD K tp.b m.room t) (kD K p m n tp)).p w F) (hK:∀ w',iH F w w'→K w') (yh:t.buf.length≤1000) (JK:xt m.mem) (tH:MB m.mem 1000000) (hxa:0≤x.a∧x.a<t.aK.length):CR 132 [(.pointer (some ⟨p,0,none⟩)),(.pointer (some ⟨tp.b,0,none⟩)),.int .i64 i,Flat.val (⟨x.kind,x.a,x.b,ge,gf,x.to⟩:bU)] w (λ v w'=>v=Flat.val (L5 m t x)∧qx F (sep (eD K tp.b m.room (casT m t x)) (kD K p (AE m t x) n tp)) w w'):=by
 have hs:=(St.begin hF).split;obtain ⟨bp,gl,rg,cn,qP,hs⟩:=eD.open hs;obtain ⟨a,hx,hs⟩:=kD.open hs.p4;refine Zm _ _ _ _ _ _ ?_;unfold S132;refine dE (x:=(⟨x.kind,x.a,x.b,ge,gf,x.to⟩:bU)) hs (λ Bn w1 hs=>aO hs lI (λ Cp w2 hs=>aF (aA jN (have hs:=hs.drew;aB sm hs.p2.hb rfl (aA eT (aB (v:=.int .i64 x.b) bN hs.p1.hb rfl (aZ aeu hs (afX a.q m.mem x.b _ (I5 hs.p3 (hx.1.mem _ (hK _ hs.aE))) JK) (λ w3 he hs=>bG rfl (bG rfl (aF (aA pG (have hs:=hs.drew;aB er hs.p7.hb rfl ?_))))))))))));refine aA ko (aB (v:=.int .i64 x.a) bN hs.p1.hb rfl ?_)
 obtain ⟨yj,yJ⟩:=gx (t.aK) (i:=(x.a).toNat) (by omega);refine dT hs.p9 eg (by omega) (by omega) (λ _ wu=>lP _ hs.p9 bN wu (by omega) (λ w4 hs=>aF (aA tT (aB bN hs.p8.hb rfl (cT (aC (λ gX=>?_) (λ gX=>?_)))))))
 ·refine aA eT (aB (v:=.int .i64 x.b) bN hs.p2.hb rfl (pop (pL _ _ _) (aI (x:=(⟨9,0,x.b,(pR m.mem x.b),0⟩:dA)) hs.p1 eW rfl rfl (λ w5 hs=>aD eW hs.At ?_))));have Ja:AE m t x=m:=by unfold AE; rw [if_neg gX]
  have hce:L5 m t x=⟨9,0,x.b,pR m.mem x.b,0⟩:=by unfold L5; rw [if_neg gX]
  have hs:=eD.shut (room:=m.room) (t:=(⟨t.code,t.at_,((t.aK).set (x.a).toNat (pR m.mem x.b)),t.counts,t.fault,t.e,t.f,t.buf⟩:fx)) qP hs.uI.p2.uI.uI;have hs:=kD.shut (m:=m) (⟨⟨hx.1.ln,hx.1.cl,hx.1.rc,λ w hw=>by first | exact hx.1.mem w hw | exact (hx.1.mem w hw).write⟩,hx.2⟩) hs.p7.p7.p7.p7.p7;have hs:=((hs.p2.drop.p2).drop).p1;refine ⟨?_,?_⟩
  ·rw [hce]; try rfl
  ·rw [Ja]; exact (St.join hs).mut
 ·refine aF (aA jN (have hs:=hs.drew;aB sm hs.p3.hb rfl (aA eT (aB (v:=.int .i64 x.b) bN hs.p2.hb rfl (aF (aA Dv (aB bN hs.p8.hb rfl (bI TZ hs.p4 (H':=λ _=>fW a.q a.ov a.fv (iP m.mem x.b t.f)) (Φ:=λ _ _=>True) (λ F2 eN ey=>?_) ?_))))))))
  ·exact (C128 a.q a.ov a.fv m.mem F2 x.b _ _ eN (λ w' hc=>hx.1.mem _ (hK w' (ey w' hc).aE)) JK tH).mono λ _ _ r=>r.mono λ _ _ h=>⟨trivial,h.2⟩
  rintro _ w6 _ hs;refine aA eT (have hs:=hs.drew;aB (v:=.int .i64 x.b) bN hs.p3.hb rfl (aF (aA Dv (aB bN hs.p8.hb rfl (pop (FL _ _ _ _) (aI (x:=(⟨8,0,x.b,(pR m.mem x.b),t.f⟩:dA)) hs.p2 eW rfl rfl (λ w7 hs=>aD eW hs.At ?_)))))));have Ja:AE m t x={m with mem:=iP m.mem x.b t.f}:=by unfold AE; rw [if_pos (by simpa using gX)]
  have hce:L5 m t x=⟨8,0,x.b,pR m.mem x.b,t.f⟩:=by unfold L5; rw [if_pos (by simpa using gX)]
  have hs:=eD.shut (room:=m.room) (t:=(⟨t.code,t.at_,((t.aK).set (x.a).toNat (pR m.mem x.b)),t.counts,t.fault,t.e,t.f,t.buf⟩:fx)) qP hs.uI.p3.uI.uI;have hs:=kD.shut (m:={m with mem:=iP m.mem x.b t.f}) (⟨⟨hx.1.ln,hx.1.cl,hx.1.rc,λ w hw=>by first | exact hx.1.mem w hw | exact (hx.1.mem w hw).write⟩,hx.2⟩) hs.p7.p7.p7.p5.p7;have hs:=((hs.p2.drop.p2).drop).p1;refine ⟨?_,?_⟩
  ·rw [hce]; try rfl
  ·rw [Ja]; exact (St.join hs).mut
theorem C133 (K:World→Prop) (p:Nat) (m:gO) (n:Nat) (tp:Ptr) (t:fx) (i:Int) (x:aW) (ge gf:SV) (F:Nat→Prop) (w:World) (hF:(sep (eD K tp.b m.room t) (kD K p m n tp)).p w F) (hK:∀ w',iH F w w'→K w') (yh:t.buf.length≤1000) (JK:xt m.mem) (tH:MB m.mem 1000000):CR 133 [(.pointer (some ⟨p,0,none⟩)),(.pointer (some ⟨tp.b,0,none⟩)),.int .i64 i,Flat.val (⟨x.kind,x.a,x.b,ge,gf,x.to⟩:bU)] w (λ v w'=>v=Flat.val ((⟨7,0,0,0,0⟩:dA))∧qx F (sep (eD K tp.b m.room (t)) (kD K p (m) n tp)) w w'):=by
 have hs:=(St.begin hF).split;obtain ⟨bp,gl,rg,cn,qP,hs⟩:=eD.open hs;obtain ⟨a,hx,hs⟩:=kD.open hs.p4;refine Zn _ _ _ _ _ _ ?_;unfold S133;refine dE (x:=(⟨x.kind,x.a,x.b,ge,gf,x.to⟩:bU)) hs (λ Bn w1 hs=>aO hs lI (λ Cp w2 hs=>pop (abn _) (aI (x:=(⟨7,0,0,0,0⟩:dA)) hs eW rfl rfl (λ w3 hs=>aD eW hs.At ?_))));have hs:=eD.shut (room:=m.room) (t:=(⟨t.code,t.at_,t.aK,t.counts,t.fault,t.e,t.f,t.buf⟩:fx)) qP hs.uI.uI.uI.uI;have hs:=((kD.shut (m:=m) (⟨⟨hx.1.ln,hx.1.cl,hx.1.rc,hx.1.mem⟩,hx.2⟩) hs.p7.p7.p7.p7.p7).p2).drop;have hs:=(hs.p2.drop).p1;refine ⟨?_,?_⟩
 ·rfl
 ·skip; exact (St.join hs).mut
theorem C134 (K:World→Prop) (p:Nat) (m:gO) (n:Nat) (tp:Ptr) (t:fx) (i:Int) (x:aW) (ge gf:SV) (F:Nat→Prop) (w:World) (hF:(sep (eD K tp.b m.room t) (kD K p m n tp)).p w F) (hK:∀ w',iH F w w'→K w') (yh:t.buf.length≤1000) (JK:xt m.mem) (tH:MB m.mem 1000000) (hxb:0≤x.b∧x.b<m.locks.length):CR 134 [(.pointer (some ⟨p,0,none⟩)),(.pointer (some ⟨tp.b,0,none⟩)),.int .i64 i,Flat.val (⟨x.kind,x.a,x.b,ge,gf,x.to⟩:bU)] w (λ v w'=>v=Flat.val ((⟨10,0,x.b,0,0⟩:dA))∧qx F (sep (eD K tp.b m.room (t)) (kD K p (wN m i x) n tp)) w w'):=by
 have hs:=(St.begin hF).split;obtain ⟨bp,gl,rg,cn,qP,hs⟩:=eD.open hs;obtain ⟨a,hx,hs⟩:=kD.open hs.p4;refine Zo _ _ _ _ _ _ ?_;unfold S134;refine dE (x:=(⟨x.kind,x.a,x.b,ge,gf,x.to⟩:bU)) hs (λ Bn w1 hs=>aO hs lI (λ Cp w2 hs=>aF (aA nP (have hs:=hs.drew;aB er hs.p2.hb rfl (aA eT (aB (v:=.int .i64 x.b) bN hs.p1.hb rfl ?_))))));obtain ⟨GU,kT⟩:=gx (m.locks) (i:=(x.b).toNat) (by omega);refine dT hs.p4 eg (by omega) (by omega) (λ _ uc=>lP _ hs.p4 bN uc (by omega) (λ w3 hs=>aA eT (aB (v:=.int .i64 x.b) bN hs.p2.hb rfl (pop (Bg _ _) (aI (x:=(⟨10,0,x.b,0,0⟩:dA)) hs.p1 eW rfl rfl (λ w4 hs=>aD eW hs.At ?_))))))
 have hs:=eD.shut (room:=m.room) (t:=(⟨t.code,t.at_,t.aK,t.counts,t.fault,t.e,t.f,t.buf⟩:fx)) qP hs.uI.uI.uI.uI;have hs:=kD.shut (m:=(wN m i x)) (⟨⟨hx.1.ln,hx.1.cl,hx.1.rc,hx.1.mem⟩,hx.2⟩) hs.p7.p7.p4.p7.p7;have hs:=((hs.p2.drop.p2).drop).p1;refine ⟨?_,?_⟩
 ·rfl
 ·skip; exact (St.join hs).mut
theorem C135 (K:World→Prop) (p:Nat) (m:gO) (n:Nat) (tp:Ptr) (t:fx) (i:Int) (x:aW) (ge gf:SV) (F:Nat→Prop) (w:World) (hF:(sep (eD K tp.b m.room t) (kD K p m n tp)).p w F) (hK:∀ w',iH F w w'→K w') (yh:t.buf.length≤1000) (JK:xt m.mem) (tH:MB m.mem 1000000) (hxb:0≤x.b∧x.b<m.locks.length):CR 135 [(.pointer (some ⟨p,0,none⟩)),(.pointer (some ⟨tp.b,0,none⟩)),.int .i64 i,Flat.val (⟨x.kind,x.a,x.b,ge,gf,x.to⟩:bU)] w (λ v w'=>v=Flat.val (Cb m i x)∧qx F (sep (eD K tp.b m.room (t)) (kD K p (sN m i x) n tp)) w w'):=by
 have hs:=(St.begin hF).split;obtain ⟨bp,gl,rg,cn,qP,hs⟩:=eD.open hs;obtain ⟨a,hx,hs⟩:=kD.open hs.p4;refine Zp _ _ _ _ _ _ ?_;unfold S135;refine dE (x:=(⟨x.kind,x.a,x.b,ge,gf,x.to⟩:bU)) hs (λ Bn w1 hs=>aO hs lI (λ Cp w2 hs=>aF (aA nP (have hs:=hs.drew;aB er hs.p2.hb rfl (aA eT (aB (v:=.int .i64 x.b) bN hs.p1.hb rfl ?_))))));obtain ⟨pN,jY⟩:=gx (m.locks) (i:=(x.b).toNat) (by omega);refine dT hs.p4 eg (by omega) (by omega) (λ _ rk=>ga hs.p4 bN rk jY (cT (aC (λ gj=>?_) (λ gj=>?_))))
 ·refine aF (aA nQ (aV hs.p2 bN (eE rfl) (rfl) (λ w3 hs=>aF (aA Du (aV hs bN (eE rfl) (rfl) (λ w4 hs=>pop (Bg _ _) (aI (x:=(⟨16,0,3,0,0⟩:dA)) hs.p1 eW rfl rfl (λ w5 hs=>aD eW hs.At ?_))))))));have hgd:m.locks.getD x.b.toNat 0=pN:=by rw [List.getD_eq_getElem?_getD,jY]; rfl
  have hgm:sN m i x={m with fault:=3,mQ:=i}:=by unfold sN; rw [hgd,if_neg gj]
  have Ia:Cb m i x=⟨16,0,3,0,0⟩:=by unfold Cb; rw [hgd,if_neg gj]
  have hs:=eD.shut (room:=m.room) (t:=(⟨t.code,t.at_,t.aK,t.counts,t.fault,t.e,t.f,t.buf⟩:fx)) qP hs.uI.uI.uI.uI;have hs:=kD.shut (m:={m with fault:=3,mQ:=i}) (⟨⟨hx.1.ln,hx.1.cl,hx.1.rc,hx.1.mem⟩,hx.2⟩) hs.p7.p7.p7.p7.p6;have hs:=((hs.p2.drop.p2).drop).p1;refine ⟨?_,?_⟩
  ·rw [Ia]; try rfl
  ·rw [hgm]; exact (St.join hs).mut
 ·refine aF (aA nP (have hs:=hs.drew;aB er hs.p2.hb rfl (aA eT (aB (v:=.int .i64 x.b) bN hs.p1.hb rfl (dT hs.p4 eg (by omega) (by omega) (λ _ Aa=>lP _ hs.p4 bN Aa (by omega) (λ w6 hs=>aA eT (aB (v:=.int .i64 x.b) bN hs.p2.hb rfl (pop (Bg _ _) (aI (x:=(⟨11,0,x.b,0,0⟩:dA)) hs.p1 eW rfl rfl (λ w7 hs=>aD eW hs.At ?_)))))))))));have hgd:m.locks.getD x.b.toNat 0=pN:=by rw [List.getD_eq_getElem?_getD,jY]; rfl
  have hgm:sN m i x={m with locks:=m.locks.set x.b.toNat (-1)}:=by unfold sN; rw [hgd,if_pos (by simpa using gj)]
  have Ia:Cb m i x=⟨11,0,x.b,0,0⟩:=by unfold Cb; rw [hgd,if_pos (by simpa using gj)]
  have hs:=eD.shut (room:=m.room) (t:=(⟨t.code,t.at_,t.aK,t.counts,t.fault,t.e,t.f,t.buf⟩:fx)) qP hs.uI.uI.uI.uI;have hs:=kD.shut (m:={m with locks:=m.locks.set x.b.toNat (-1)}) (⟨⟨hx.1.ln,hx.1.cl,hx.1.rc,hx.1.mem⟩,hx.2⟩) hs.p7.p7.p4.p7.p7;have hs:=((hs.p2.drop.p2).drop).p1;refine ⟨?_,?_⟩
  ·rw [Ia]; try rfl
  ·rw [hgm]; exact (St.join hs).mut
theorem C131 (K:World→Prop) (p:Nat) (m:gO) (n:Nat) (tp:Ptr) (t:fx) (i:Int) (x:aW) (ge gf:SV) (F:Nat→Prop) (w:World) (hF:(sep (eD K tp.b m.room t) (kD K p m n tp)).p w F) (hK:∀ w',iH F w w'→K w') (yh:t.buf.length≤1000) (JK:xt m.mem) (tH:MB m.mem 1000000) (hkd:x.kind=3∨x.kind=5∨x.kind=6∨x.kind=7) (MM:x.kind=3→0≤x.b∧x.b<m.u.lines.length):CR 131 [(.pointer (some ⟨p,0,none⟩)),(.pointer (some ⟨tp.b,0,none⟩)),.int .i64 i,Flat.val (⟨x.kind,x.a,x.b,ge,gf,x.to⟩:bU)] w (λ v w'=>v=Flat.val (AD m t x)∧qx F (sep (eD K tp.b m.room (uA m t x)) (kD K p (m) n tp)) w w'):=by
 have hs:=(St.begin hF).split;obtain ⟨bp,gl,rg,cn,qP,hs⟩:=eD.open hs;obtain ⟨a,hx,hs⟩:=kD.open hs.p4;refine Zl _ _ _ _ _ _ ?_;unfold S131;refine dE (x:=(⟨x.kind,x.a,x.b,ge,gf,x.to⟩:bU)) hs (λ Bn w1 hs=>aO hs lI (λ Cp w2 hs=>wJ hs (λ VG w3 hs=>ij hs Tryz.underlying272 oP (by decide) (λ w4 hs=>ij hs Tryz.underlying272 oP (by decide) (λ w5 hs=>ij hs Tryz.underlying272 oP (by decide) (λ w6 hs=>ij hs Tryz.underlying272 oP (by decide) (λ w7 hs=>aA jn (aB (v:=.int .i64 x.kind) bN hs.p2.hb rfl (aA eT (aB (v:=.int .i64 x.b) bN hs.p2.hb rfl (pop (Ni _ _) (aO hs uR (λ b_y10 w8 hs=>?_)))))))))))))
 refine aI (x:=(⟨x.kind,x.b,0,0⟩:bJ)) hs lh rfl rfl (λ w9 hs=>?_);refine ⟨_,?_,λ _ h=>h⟩;refine aA jn (aB (v:=.int .i64 x.kind) bN hs.p3.hb rfl (aH (aC (λ jC=>?_) (λ jC=>?_))))
 ·have hxb:=MM jC;refine aF (aA tQ (aA mA (have hs:=hs.drew;aB er hs.p4.hb rfl (aA eT (aB (v:=.int .i64 x.b) bN hs.p3.hb rfl ?_)))));obtain ⟨yj,yJ⟩:=gx (m.u.lines) (i:=(x.b).toNat) (by omega);refine aQ eg (hx.1.ln _ (hK _ hs.aE)) (by omega) yJ (λ _ wu=>aD bN (wu) (aA eT (aB (v:=.int .i64 x.b) bN hs.p3.hb rfl (aF (aA tT (aB bN hs.p9.hb rfl (aA lj (aV hs bN (eE rfl) (rfl) (λ qd hs=>?_)))))))));have hs:=hs.enc (cs':=Flat.enc ({ (⟨x.kind,x.b,0,0⟩:bJ) with line:=yj}:bJ)) rfl;refine ⟨aG bN (hs.p3.hb.cell rfl),?_⟩
  refine ⟨aG bN (hs.p9.hb.cell rfl),?_⟩;refine aA nS (aV hs bN (eE rfl) (rfl) (λ tG hs=>?_));have hs:=hs.enc (cs':=Flat.enc ({ ({ (⟨x.kind,x.b,0,0⟩:bJ) with line:=yj}:bJ) with cell:=x.b}:bJ)) rfl;refine ⟨aG bN (hs.p9.hb.cell rfl),?_⟩;refine aA m4 (aV hs bN (eE rfl) (rfl) (λ vt hs=>?_));have hs:=hs.enc (cs':=Flat.enc ({ ({ ({ (⟨x.kind,x.b,0,0⟩:bJ) with line:=yj}:bJ) with cell:=x.b}:bJ) with n:=t.e}:bJ)) rfl;intro fu;refine aF (aA nR (have hs:=hs.drew;aB sj hs.p9.hb rfl ?_));have hpy:sM m t x=({ ({ ({ (⟨x.kind,x.b,0,0⟩:bJ) with line:=yj}:bJ) with cell:=x.b}:bJ) with n:=t.e}:bJ):=by unfold sM; rw [if_pos jC,List.getD_eq_getElem?_getD,yJ,← jC]; rfl
  refine aD lh hs.At (bI aev hs.uI (H':=λ _=>nI bp m.room (vj m.room t.buf (sM m t x))) (Φ:=λ _ _=>True) (λ F2 eN ey=>?_) ?_)
  ·rw [hpy]; exact (C196 bp m.room t.buf ({ ({ ({ (⟨x.kind,x.b,0,0⟩:bJ) with line:=yj}:bJ) with cell:=x.b}:bJ) with n:=t.e}:bJ) F2 _ eN (by omega)).mono λ _ _ r=>r.mono λ _ _ h=>⟨trivial,h.2⟩
  rintro _ sw _ hs;refine aA jn (aB (v:=.int .i64 x.kind) bN hs.p4.hb rfl ?_)
  have ML:(Go.Fw.look [3,5,6,7] [Value.int .i64 3,.int .i64 4,.int .i64 5,.int .i64 6] x.kind).getD (.int .i64 0) = .int .i64 (yX x.kind):=by
   have hk4:=hkd
   rcases hk4 with h | h | h | h <;> rw [h] <;> rfl
  refine ⟨_,o8 hs.p2.Ao Tryz.underlying272 oP BT,?_⟩;rw [show (Go.Fw.look ([]++[3]++[5]++[6]++[7]) ([]++[Value.int .i64 3]++[Value.int .i64 4]++[Value.int .i64 5]++[Value.int .i64 6]) x.kind).getD (.int .i64 0) = .int .i64 (yX x.kind) from ML];refine aA eT (aB (v:=.int .i64 x.b) bN hs.p4.hb rfl (aA m4 (aB (v:=.int .i64 ((({ ({ ({ (⟨x.kind,x.b,0,0⟩:bJ) with line:=yj}:bJ) with cell:=x.b}:bJ) with n:=t.e}:bJ)).n)) bN hs.p1.hb rfl (pop (pL _ _ _) (aI (x:=(⟨(yX x.kind),0,x.b,(({ ({ ({ (⟨x.kind,x.b,0,0⟩:bJ) with line:=yj}:bJ) with cell:=x.b}:bJ) with n:=t.e}:bJ)).n,0⟩:dA)) hs.p3 eW rfl rfl (λ wc hs=>aD eW hs.At ?_))))))
  have hs:=eD.shut (room:=m.room) (t:=(⟨t.code,t.at_,t.aK,t.counts,t.fault,t.e,t.f,(vj m.room t.buf (sM m t x))⟩:fx)) qP hs.p12.p12.p3.p12;have hs:=((kD.shut (m:=m) (⟨⟨hx.1.ln,hx.1.cl,hx.1.rc,hx.1.mem⟩,hx.2⟩) hs.p9.p9.p9.p9.p9).p2).drop;have hs:=(((hs.p2.drop.p2.drop).p2).drop).p1;refine ⟨?_,?_⟩
  ·unfold AD; rw [hpy]
  ·rw [show uA m t x=(⟨t.code,t.at_,t.aK,t.counts,t.fault,t.e,t.f,(vj m.room t.buf (sM m t x))⟩:fx) from rfl]; exact (St.join hs).mut
 ·intro fu;refine aF (aA nR (have hs:=hs.drew;aB sj hs.p9.hb rfl ?_));have hpy:sM m t x=(⟨x.kind,x.b,0,0⟩:bJ):=by unfold sM; rw [if_neg jC]
  refine aD lh hs.At (bI aev hs.uI (H':=λ _=>nI bp m.room (vj m.room t.buf (sM m t x))) (Φ:=λ _ _=>True) (λ F2 eN ey=>?_) ?_)
  ·rw [hpy]; exact (C196 bp m.room t.buf (⟨x.kind,x.b,0,0⟩:bJ) F2 _ eN (by omega)).mono λ _ _ r=>r.mono λ _ _ h=>⟨trivial,h.2⟩
  rintro _ sw _ hs;refine aA jn (aB (v:=.int .i64 x.kind) bN hs.p4.hb rfl ?_)
  have ML:(Go.Fw.look [3,5,6,7] [Value.int .i64 3,.int .i64 4,.int .i64 5,.int .i64 6] x.kind).getD (.int .i64 0) = .int .i64 (yX x.kind):=by
   have hk4:=hkd
   rcases hk4 with h | h | h | h <;> rw [h] <;> rfl
  refine ⟨_,o8 hs.p2.Ao Tryz.underlying272 oP BT,?_⟩;rw [show (Go.Fw.look ([]++[3]++[5]++[6]++[7]) ([]++[Value.int .i64 3]++[Value.int .i64 4]++[Value.int .i64 5]++[Value.int .i64 6]) x.kind).getD (.int .i64 0) = .int .i64 (yX x.kind) from ML];refine aA eT (aB (v:=.int .i64 x.b) bN hs.p4.hb rfl (aA m4 (aB (v:=.int .i64 (((⟨x.kind,x.b,0,0⟩:bJ)).n)) bN hs.p1.hb rfl (pop (pL _ _ _) (aI (x:=(⟨(yX x.kind),0,x.b,((⟨x.kind,x.b,0,0⟩:bJ)).n,0⟩:dA)) hs.p3 eW rfl rfl (λ wc hs=>aD eW hs.At ?_))))));have hs:=eD.shut (room:=m.room) (t:=(⟨t.code,t.at_,t.aK,t.counts,t.fault,t.e,t.f,(vj m.room t.buf (sM m t x))⟩:fx)) qP hs.p12.p12.p3.p12
  have hs:=((kD.shut (m:=m) (⟨⟨hx.1.ln,hx.1.cl,hx.1.rc,hx.1.mem⟩,hx.2⟩) hs.p9.p9.p9.p9.p9).p2).drop;have hs:=(((hs.p2.drop.p2.drop).p2).drop).p1;refine ⟨?_,?_⟩
  ·unfold AD; rw [hpy]
  ·rw [show uA m t x=(⟨t.code,t.at_,t.aK,t.counts,t.fault,t.e,t.f,(vj m.room t.buf (sM m t x))⟩:fx) from rfl]; exact (St.join hs).mut
def ik (m:Mem) (x:bJ):Mem:=if x.kind=3 then iP m x.cell x.n else if x.kind=7 then m else vG m x.line
def pS (t:Int) (x:bJ):dA:=if x.kind=3 then ⟨12,t,x.cell,x.n,0⟩ else if x.kind=7 then ⟨14,t,0,0,0⟩ else ⟨13,t,x.line,0,0⟩
def mD (m:gO) (t:fx) (p:fa):gO:={m with mem:=ik m.mem (ee t.buf p.i),l:=m.l.set p.t.toNat {t with buf:=kN t.buf p.i}}
section
variable {m:gO} {t:fx} {i:Int} {x:aW}
theorem xu:(dL m t i x).1.room=m.room:=by
 unfold dL AE wN sN; repeat' split
 all_goals rfl
theorem E6:(dL m t i x).1.l=m.l:=by
 unfold dL AE wN sN; repeat' split
 all_goals rfl
theorem OA:(dL m t i x).1.u=m.u:=by
 unfold dL AE wN sN; repeat' split
 all_goals rfl
theorem AF:(dL m t i x).2.1.at_=t.at_:=by
 unfold dL loadT casT uA; repeat' split
 all_goals rfl
theorem pa:(dL m t i x).2.1.code=t.code:=by
 unfold dL loadT casT uA; repeat' split
 all_goals rfl
theorem W9 {room:Int} {l:List bJ} {y:bJ}:(vj room l y).length≤l.length∨((vj room l y).length:Int)≤room:=by
 unfold vj; split
 ·rename_i h; right; simp; omega
 ·left; exact Nat.le_refl _
theorem QV (h:He t) (hr:m.room≤16):He (dL m t i x).2.1:=by
 have h1:=h.rg; have h2:=h.cn; have h3:=h.Tj; have h4:=h.bl
 have h5:=W9 (room:=m.room) (l:=t.buf) (y:=sM m t x)
 unfold dL loadT casT uA
 repeat' split
 all_goals first
  | exact h
  | exact ⟨h.code,by simpa using h1,h2,h3,h4⟩
  | exact ⟨h.code,h1,h2,h3,by dsimp only; omega⟩
end
def mL (N:Nat) (m:gO) (i:Int):Option (gO × dA):=match m.l[i.toNat]? with
 | none=>none
 | some t=>if t.fault≠0 then some ({m with fault:=t.fault,mQ:=i},⟨16,i,t.fault,0,0⟩) else match gZ t with
  | none=>none
  | some x=>if (dL m t i x).1.fault=0 then
    (sb N { (dL m t i x).2.1 with at_:=(dL m t i x).2.1.at_+1}).map λ t2=>({ (dL m t i x).1 with l:=(dL m t i x).1.l.set i.toNat t2},{ (dL m t i x).2.2 with t:=i})
   else some ({ (dL m t i x).1 with l:=(dL m t i x).1.l.set i.toNat (dL m t i x).2.1},{ (dL m t i x).2.2 with t:=i})
theorem xw {N:Nat} {m m':gO} {i:Int} {t:fx} {ev:dA} (h:mL N m i=some (m',ev)) (ht:m.l[i.toNat]? = some t) (hf:t.fault≠0):m'={m with fault:=t.fault,mQ:=i}∧ev=⟨16,i,t.fault,0,0⟩:=by
 unfold mL at h; rw [ht] at h; dsimp only at h; rw [if_pos hf] at h
 have:=Option.some.inj h
 exact ⟨(congrArg Prod.fst this).symm,(congrArg Prod.snd this).symm⟩
theorem xy {N:Nat} {m m':gO} {i:Int} {t:fx} {ev:dA} (h:mL N m i=some (m',ev)) (ht:m.l[i.toNat]? = some t) (hf:¬ t.fault≠0):∃ x,gZ t=some x:=by
 unfold mL at h; rw [ht] at h; dsimp only at h; rw [if_neg hf] at h
 cases hn:gZ t with
 | none=>rw [hn] at h; cases h
 | some x=>exact ⟨x,rfl⟩
theorem xz {N:Nat} {m m':gO} {i:Int} {t:fx} {x:aW} {ev:dA} (h:mL N m i=some (m',ev)) (ht:m.l[i.toNat]? = some t) (hf:¬ t.fault≠0) (hn:gZ t=some x) (h0:(dL m t i x).1.fault=0) :
  ∃ t2,sb N { (dL m t i x).2.1 with at_:=(dL m t i x).2.1.at_+1}=some t2∧m'={ (dL m t i x).1 with l:=(dL m t i x).1.l.set i.toNat t2}∧ev={ (dL m t i x).2.2 with t:=i}:=by
 unfold mL at h; rw [ht] at h; dsimp only at h; rw [if_neg hf,hn] at h; dsimp only at h; rw [if_pos h0] at h
 cases hg:sb N { (dL m t i x).2.1 with at_:=(dL m t i x).2.1.at_+1} with
 | none=>rw [hg] at h; cases h
 | some t2=>
  rw [hg] at h
  have:=Option.some.inj h
  exact ⟨t2,rfl,(congrArg Prod.fst this).symm,(congrArg Prod.snd this).symm⟩
theorem xA {N:Nat} {m m':gO} {i:Int} {t:fx} {x:aW} {ev:dA} (h:mL N m i=some (m',ev)) (ht:m.l[i.toNat]? = some t) (hf:¬ t.fault≠0) (hn:gZ t=some x) (h0:¬ (dL m t i x).1.fault=0) :
  m'={ (dL m t i x).1 with l:=(dL m t i x).1.l.set i.toNat (dL m t i x).2.1}∧ev={ (dL m t i x).2.2 with t:=i}:=by
 unfold mL at h; rw [ht] at h; dsimp only at h; rw [if_neg hf,hn] at h; dsimp only at h; rw [if_neg h0] at h
 have:=Option.some.inj h
 exact ⟨(congrArg Prod.fst this).symm,(congrArg Prod.snd this).symm⟩
def Xa:List Int:=[]++[2]++[3]++[5]++[6]++[7]++[4]++[8]++[9]++[10]
def OB (g:Nat):Value:=.func (.func g) #[] #[]
def Xb:List Value:=[]++[OB 130]++[OB 131]++[OB 131]++[OB 131]++[OB 131]++[OB 132]++[OB 133]++[OB 134]++[OB 135]
theorem Xc (K:World→Prop) (p:Nat) (m:gO) (n:Nat) (tp:Ptr) (t:fx) (i:Int) (x:aW) (ge gf:SV) (hk:2≤x.kind∧x.kind≤10) (yh:t.buf.length≤1000) (JK:xt m.mem) (tH:MB m.mem 1000000)
  (hxa:x.kind=2∨x.kind=4→0≤x.a∧x.a<t.aK.length) (hxb:x.kind=9∨x.kind=10→0≤x.b∧x.b<m.locks.length) (MM:x.kind=3→0≤x.b∧x.b<m.u.lines.length) :
  ∃ g,Go.Fw.look Xa Xb x.kind=some (OB g)∧Plain PG g∧∀ (F:Nat→Prop) (w:World),(sep (eD K tp.b m.room t) (kD K p m n tp)).p w F→(∀ w',iH F w w'→K w')→
   Calls PG g [.pointer (some ⟨p,0,none⟩),.pointer (some ⟨tp.b,0,none⟩),.int .i64 i,Flat.val (⟨x.kind,x.a,x.b,ge,gf,x.to⟩:bU)].toArray w
    (qp λ v w'=>v=Flat.val (dL m t i x).2.2∧qx F (sep (eD K tp.b (dL m t i x).1.room (dL m t i x).2.1) (kD K p (dL m t i x).1 n tp)) w w'):=by
 have hr:=xu (m:=m) (t:=t) (i:=i) (x:=x)
 rw [hr]
 obtain h | h | h | h | h | h | h | h | h:x.kind=2∨x.kind=3∨x.kind=4∨x.kind=5∨x.kind=6∨x.kind=7∨x.kind=8∨x.kind=9∨x.kind=10:=by omega
 ·exact ⟨130,by rw [h]; rfl,amM,λ F w hF hK=>by
   have e:dL m t i x=(m,loadT m t x,Hk m t x):=by unfold dL; rw [if_pos h]
   rw [e]; exact C130 K p m n tp t i x ge gf F w hF hK yh JK tH (hxa (.inl h))⟩
 ·exact ⟨131,by rw [h]; rfl,Pu,λ F w hF hK=>by
   have e:dL m t i x=(m,uA m t x,AD m t x):=by unfold dL; simp [h]
   rw [e]; exact C131 K p m n tp t i x ge gf F w hF hK yh JK tH (.inl h) MM⟩
 ·exact ⟨132,by rw [h]; rfl,amN,λ F w hF hK=>by
   have e:dL m t i x=(AE m t x,casT m t x,L5 m t x):=by unfold dL; simp [h]
   rw [e]; exact C132 K p m n tp t i x ge gf F w hF hK yh JK tH (hxa (.inr h))⟩
 ·exact ⟨131,by rw [h]; rfl,Pu,λ F w hF hK=>by
   have e:dL m t i x=(m,uA m t x,AD m t x):=by unfold dL; simp [h]
   rw [e]; exact C131 K p m n tp t i x ge gf F w hF hK yh JK tH (.inr (.inl h)) MM⟩
 ·exact ⟨131,by rw [h]; rfl,Pu,λ F w hF hK=>by
   have e:dL m t i x=(m,uA m t x,AD m t x):=by unfold dL; simp [h]
   rw [e]; exact C131 K p m n tp t i x ge gf F w hF hK yh JK tH (.inr (.inr (.inl h))) MM⟩
 ·exact ⟨131,by rw [h]; rfl,Pu,λ F w hF hK=>by
   have e:dL m t i x=(m,uA m t x,AD m t x):=by unfold dL; simp [h]
   rw [e]; exact C131 K p m n tp t i x ge gf F w hF hK yh JK tH (.inr (.inr (.inr h))) MM⟩
 ·exact ⟨133,by rw [h]; rfl,amO,λ F w hF hK=>by
   have e:dL m t i x=(m,t,⟨7,0,0,0,0⟩):=by unfold dL; simp [h]
   rw [e]; exact C133 K p m n tp t i x ge gf F w hF hK yh JK tH⟩
 ·exact ⟨134,by rw [h]; rfl,amP,λ F w hF hK=>by
   have e:dL m t i x=(wN m i x,t,⟨10,0,x.b,0,0⟩):=by unfold dL; simp [h]
   rw [e]; exact C134 K p m n tp t i x ge gf F w hF hK yh JK tH (hxb (.inl h))⟩
 ·exact ⟨135,by rw [h]; rfl,amQ,λ F w hF hK=>by
   have e:dL m t i x=(sN m i x,t,Cb m i x):=by unfold dL; simp [h]
   rw [e]; exact C135 K p m n tp t i x ge gf F w hF hK yh JK tH (hxb (.inr h))⟩
theorem Xd {k:Int} {g:Nat} {z:Value} (h:Go.Fw.look Xa Xb k=some (OB g)):(Go.Fw.look ([]++[2]++[3]++[5]++[6]++[7]++[4]++[8]++[9]++[10]) ([]++[Value.func (.func 130) #[] #[]]++[Value.func (.func 131) #[] #[]]++[Value.func (.func 131) #[] #[]]++[Value.func (.func 131) #[] #[]]++[Value.func (.func 131) #[] #[]]++[Value.func (.func 132) #[] #[]]++[Value.func (.func 133) #[] #[]]++[Value.func (.func 134) #[] #[]]++[Value.func (.func 135) #[] #[]]) k).getD z=OB g:=by
 have h2:Go.Fw.look ([]++[2]++[3]++[5]++[6]++[7]++[4]++[8]++[9]++[10]) ([]++[Value.func (.func 130) #[] #[]]++[Value.func (.func 131) #[] #[]]++[Value.func (.func 131) #[] #[]]++[Value.func (.func 131) #[] #[]]++[Value.func (.func 131) #[] #[]]++[Value.func (.func 132) #[] #[]]++[Value.func (.func 133) #[] #[]]++[Value.func (.func 134) #[] #[]]++[Value.func (.func 135) #[] #[]]) k=some (OB g):=h
 rw [h2]; rfl
theorem C62 (K:World→Prop) (p:Nat) (m:gO) (q:fa) (qv:fU) (t:fx) (F:Nat→Prop) (w:World) (hF:(eK K p m).p w F) (hK:∀ w',iH F w w'→K w') (mC:rQ m) (tH:MB m.mem 1000000) (hq:cD.dr w qv q) (h0:0≤q.t) (ht:m.l[q.t.toNat]? = some t):CR 62 [(.pointer (some ⟨p,0,none⟩)),Flat.val qv] w (λ v w'=>v=Flat.val (pS q.t (ee t.buf q.i))∧qx F (eK K p (mD m t q)) w w'):=by
 have hs:=St.begin hF;obtain ⟨a,hu,hs⟩:=eK.open hs;have wO:=hs.p4.ly;obtain ⟨QT,rfl,adg⟩:=hq;have yh:=(mC.th t (List.mem_of_getElem? ht)).bl;have mE:=(List.getElem?_eq_some_iff.1 ht).1;refine ahc _ _ _ _ ?_;unfold S62;refine dE hs (λ wz w1 hs=>aO hs lI (λ Cq w2 hs=>?_));refine ⟨_,?_,λ _ _ h=>h⟩;refine aF (aA km (have hs:=hs.drew;aB qX hs.p2.hb rfl (aA jM (aB (v:=.int .i64 ((q).t)) bN hs.p1.hb rfl ?_))));obtain ⟨js,dD⟩:=gx (a.ps) (i:=((q).t).toNat) (by omega);refine dT hs.p5 sn (by omega) (by omega) (λ _ iT=>ga hs.p5 BU iT dD ?_)
 have hs:=W6 hs.p6 dD ht;obtain ⟨bp,gl,rg,cn,qP,hs⟩:=eD.open hs;refine aF (aA nR (aB sj hs.hb rfl (aA xe (aB (v:=.int .i64 ((q).i)) bN hs.p6.hb rfl ?_))));refine ⟨?_,?_⟩
 ·refine bI aek hs.p1 (H':=λ _=>nI bp m.room (kN t.buf q.i)) (Φ:=λ v _=>v = .tuple #[Flat.val (ee t.buf q.i),.int .i64 (An t.buf q.i)]) (λ F2 eN ey=>?_) ?_
  ·exact C127 bp m.room t.buf q.i F2 _ eN (by omega)
  rintro _ w3 rfl hs;refine bG rfl (bG rfl (aO hs uR (λ ui w4 hs=>?_)));refine ⟨aG qX (hs.p8.hb.cell rfl),?_⟩;refine ⟨aG bN (hs.p7.hb.cell rfl),?_⟩;refine ⟨Qe hs.p11 BU iT dD,?_⟩;refine ⟨aG sj (hs.p2.hb.cell rfl),?_⟩;refine ⟨aG bN (hs.p7.hb.cell rfl),?_⟩;refine aI (x:=(ee t.buf q.i)) hs lh rfl rfl (λ w5 hs=>?_);intro fu;refine aA pH (aB (v:=.int .i64 (((ee t.buf q.i)).kind)) bN hs.hb rfl (aH (aC (λ gn=>?_) (λ gn=>?_))))
  ·refine aF (aA jN (have hs:=hs.drew;aB sm hs.p8.hb rfl (aA nS (aB (v:=.int .i64 (((ee t.buf q.i)).cell)) bN hs.hb rfl (aA m4 (aB (v:=.int .i64 (((ee t.buf q.i)).n)) bN hs.hb rfl (bI TZ hs.p9 (H':=λ _=>fW a.q a.ov a.fv (iP m.mem ((ee t.buf q.i)).cell ((ee t.buf q.i)).n)) (Φ:=λ _ _=>True) (λ F2 eN ey=>?_) ?_)))))))
   ·exact (C128 a.q a.ov a.fv m.mem F2 _ _ _ eN (λ w' hc=>hu.mem _ (hK w' (ey w' hc).aE)) mC.mem tH).mono λ _ _ r=>r.mono λ _ _ h=>⟨trivial,h.2⟩
   rintro _ qd _ hs;refine aA jM (aB (v:=.int .i64 ((q).t)) bN hs.p8.hb rfl (aA nS (aB (v:=.int .i64 (((ee t.buf q.i)).cell)) bN hs.p1.hb rfl (aA m4 (aB (v:=.int .i64 (((ee t.buf q.i)).n)) bN hs.p1.hb rfl (pop (ye _ _ _ _) (aI (x:=(⟨12,(q).t,((ee t.buf q.i)).cell,((ee t.buf q.i)).n,0⟩:dA)) hs.p7 eW rfl rfl (λ tG hs=>aD eW hs.At ?_))))))));have hs:=(eD.shut (room:=m.room) (t:={t with buf:=kN t.buf q.i}) qP hs.p6.p6.p5.p6).p4;have hs:=St.su (H:=qj K m.room) (x:={t with buf:=kN t.buf q.i}) hs.p1 (by have:=(List.getElem?_eq_some_iff.1 ht).1; omega) wO dD
   have I6:ik m.mem (ee t.buf q.i)=iP m.mem (ee t.buf q.i).cell (ee t.buf q.i).n:=by unfold ik; rw [if_pos gn]
   have Xe:pS q.t (ee t.buf q.i)=⟨12,q.t,(ee t.buf q.i).cell,(ee t.buf q.i).n,0⟩:=by unfold pS; rw [if_pos gn]
   have hs:=(show St w F (cC p (j1 a (mD m t q))::fW a.q a.ov a.fv (mD m t q).mem::_) _ from by unfold mD; rw [I6]; exact hs.p7.p7.p4.p7);have hs:=eK.shut (m:=mD m t q) ⟨hu.ln,hu.cl,hu.rc,λ w hw=>by show uw _ _ (ik m.mem _) w; rw [I6]; first | exact hu.mem w hw | exact (hu.mem w hw).write | exact (hu.mem w hw).out⟩ hs;have hs:=(((hs.p1.drop.p1).drop).p1).drop;refine ⟨?_,hs.mut⟩;rw [Xe]
  ·refine aH (aC (λ kL=>?_) (λ kL=>?_))
   ·refine aA jM (aB (v:=.int .i64 ((q).t)) bN hs.p7.hb rfl (pop (Bf _ _) (aI (x:=(⟨14,(q).t,0,0,0⟩:dA)) hs.p6 eW rfl rfl (λ vt hs=>aD eW hs.At ?_))));have hs:=(eD.shut (room:=m.room) (t:={t with buf:=kN t.buf q.i}) qP hs.p5.p5.p4.p5).p3;have hs:=St.su (H:=qj K m.room) (x:={t with buf:=kN t.buf q.i}) hs.p1 (by have:=(List.getElem?_eq_some_iff.1 ht).1; omega) wO dD;have I6:ik m.mem (ee t.buf q.i)=m.mem:=by unfold ik; rw [if_neg gn,if_pos kL]
    have Xe:pS q.t (ee t.buf q.i)=⟨14,q.t,0,0,0⟩:=by unfold pS; rw [if_neg gn,if_pos kL]
    have hs:=(show St w F (cC p (j1 a (mD m t q))::fW a.q a.ov a.fv (mD m t q).mem::_) _ from by unfold mD; rw [I6]; exact hs.p7.p7.p7.p7);have hs:=eK.shut (m:=mD m t q) ⟨hu.ln,hu.cl,hu.rc,λ w hw=>by show uw _ _ (ik m.mem _) w; rw [I6]; first | exact hu.mem w hw | exact (hu.mem w hw).write | exact (hu.mem w hw).out⟩ hs;have hs:=(((hs.p1.drop.p1).drop).p1).drop;refine ⟨?_,hs.mut⟩;rw [Xe]
   ·refine aF (aA jN (have hs:=hs.drew;aB sm hs.p8.hb rfl (aA lj (aB (v:=.int .i64 (((ee t.buf q.i)).line)) bN hs.hb rfl (bI ael hs.p9 (H':=λ _=>fW a.q a.ov a.fv (vG m.mem ((ee t.buf q.i)).line)) (Φ:=λ _ _=>True) (λ F2 eN ey=>?_) ?_)))))
    ·exact (C129 a.q a.ov a.fv m.mem F2 _ _ eN (λ w' hc=>hu.mem _ (hK w' (ey w' hc).aE)) mC.mem tH).mono λ _ _ r=>r.mono λ _ _ h=>⟨trivial,h.2⟩
    rintro _ uU _ hs;refine aA jM (aB (v:=.int .i64 ((q).t)) bN hs.p8.hb rfl (aA lj (aB (v:=.int .i64 (((ee t.buf q.i)).line)) bN hs.p1.hb rfl (pop (sr _ _ _) (aI (x:=(⟨13,(q).t,((ee t.buf q.i)).line,0,0⟩:dA)) hs.p7 eW rfl rfl (λ sw hs=>aD eW hs.At ?_))))));have hs:=(eD.shut (room:=m.room) (t:={t with buf:=kN t.buf q.i}) qP hs.p6.p6.p5.p6).p4;have hs:=St.su (H:=qj K m.room) (x:={t with buf:=kN t.buf q.i}) hs.p1 (by have:=(List.getElem?_eq_some_iff.1 ht).1; omega) wO dD;have I6:ik m.mem (ee t.buf q.i)=vG m.mem (ee t.buf q.i).line:=by unfold ik; rw [if_neg gn,if_neg kL]
    have Xe:pS q.t (ee t.buf q.i)=⟨13,q.t,(ee t.buf q.i).line,0,0⟩:=by unfold pS; rw [if_neg gn,if_neg kL]
    have hs:=(show St w F (cC p (j1 a (mD m t q))::fW a.q a.ov a.fv (mD m t q).mem::_) _ from by unfold mD; rw [I6]; exact hs.p7.p7.p4.p7);have hs:=eK.shut (m:=mD m t q) ⟨hu.ln,hu.cl,hu.rc,λ w hw=>by show uw _ _ (ik m.mem _) w; rw [I6]; first | exact hu.mem w hw | exact (hu.mem w hw).write | exact (hu.mem w hw).out⟩ hs;have hs:=(((hs.p1.drop.p1).drop).p1).drop;refine ⟨?_,hs.mut⟩;rw [Xe]
 ·refine ⟨?_,?_⟩
  ·refine aO hs uR (λ ayf w6 hs=>?_);refine ⟨aG qX (hs.p8.hb.cell rfl),?_⟩;refine ⟨aG bN (hs.p7.hb.cell rfl),?_⟩;refine ⟨Qe hs.p11 BU iT dD,?_⟩;refine ⟨aG sj (hs.p1.hb.cell rfl),?_⟩;refine ⟨aG bN (hs.p7.hb.cell rfl),?_⟩;refine bI aek hs.p2 (H':=λ _=>nI bp m.room (kN t.buf q.i)) (Φ:=λ v _=>v = .tuple #[Flat.val (ee t.buf q.i),.int .i64 (An t.buf q.i)]) (λ F2 eN ey=>?_) ?_
   ·exact C127 bp m.room t.buf q.i F2 _ eN (by omega)
   rintro _ w7 rfl hs;refine bG rfl (bG rfl (aI (x:=(ee t.buf q.i)) hs.p1 lh rfl rfl (λ w8 hs=>?_)));intro fu;refine aA pH (aB (v:=.int .i64 (((ee t.buf q.i)).kind)) bN hs.hb rfl (aH (aC (λ gn=>?_) (λ gn=>?_))))
   ·refine aF (aA jN (have hs:=hs.drew;aB sm hs.p8.hb rfl (aA nS (aB (v:=.int .i64 (((ee t.buf q.i)).cell)) bN hs.hb rfl (aA m4 (aB (v:=.int .i64 (((ee t.buf q.i)).n)) bN hs.hb rfl (bI TZ hs.p9 (H':=λ _=>fW a.q a.ov a.fv (iP m.mem ((ee t.buf q.i)).cell ((ee t.buf q.i)).n)) (Φ:=λ _ _=>True) (λ F2 eN ey=>?_) ?_)))))))
    ·exact (C128 a.q a.ov a.fv m.mem F2 _ _ _ eN (λ w' hc=>hu.mem _ (hK w' (ey w' hc).aE)) mC.mem tH).mono λ _ _ r=>r.mono λ _ _ h=>⟨trivial,h.2⟩
    rintro _ qd _ hs;refine aA jM (aB (v:=.int .i64 ((q).t)) bN hs.p8.hb rfl (aA nS (aB (v:=.int .i64 (((ee t.buf q.i)).cell)) bN hs.p1.hb rfl (aA m4 (aB (v:=.int .i64 (((ee t.buf q.i)).n)) bN hs.p1.hb rfl (pop (ye _ _ _ _) (aI (x:=(⟨12,(q).t,((ee t.buf q.i)).cell,((ee t.buf q.i)).n,0⟩:dA)) hs.p7 eW rfl rfl (λ tG hs=>aD eW hs.At ?_))))))));have hs:=(eD.shut (room:=m.room) (t:={t with buf:=kN t.buf q.i}) qP hs.p6.p6.p5.p6).p4;have hs:=St.su (H:=qj K m.room) (x:={t with buf:=kN t.buf q.i}) hs.p1 (by have:=(List.getElem?_eq_some_iff.1 ht).1; omega) wO dD
    have I6:ik m.mem (ee t.buf q.i)=iP m.mem (ee t.buf q.i).cell (ee t.buf q.i).n:=by unfold ik; rw [if_pos gn]
    have Xe:pS q.t (ee t.buf q.i)=⟨12,q.t,(ee t.buf q.i).cell,(ee t.buf q.i).n,0⟩:=by unfold pS; rw [if_pos gn]
    have hs:=(show St w F (cC p (j1 a (mD m t q))::fW a.q a.ov a.fv (mD m t q).mem::_) _ from by unfold mD; rw [I6]; exact hs.p7.p7.p4.p7);have hs:=eK.shut (m:=mD m t q) ⟨hu.ln,hu.cl,hu.rc,λ w hw=>by show uw _ _ (ik m.mem _) w; rw [I6]; first | exact hu.mem w hw | exact (hu.mem w hw).write | exact (hu.mem w hw).out⟩ hs;have hs:=(((hs.p1.drop.p1).drop).p1).drop;refine ⟨?_,hs.mut⟩;rw [Xe]
   ·refine aH (aC (λ kL=>?_) (λ kL=>?_))
    ·refine aA jM (aB (v:=.int .i64 ((q).t)) bN hs.p7.hb rfl (pop (Bf _ _) (aI (x:=(⟨14,(q).t,0,0,0⟩:dA)) hs.p6 eW rfl rfl (λ vt hs=>aD eW hs.At ?_))));have hs:=(eD.shut (room:=m.room) (t:={t with buf:=kN t.buf q.i}) qP hs.p5.p5.p4.p5).p3;have hs:=St.su (H:=qj K m.room) (x:={t with buf:=kN t.buf q.i}) hs.p1 (by have:=(List.getElem?_eq_some_iff.1 ht).1; omega) wO dD;have I6:ik m.mem (ee t.buf q.i)=m.mem:=by unfold ik; rw [if_neg gn,if_pos kL]
     have Xe:pS q.t (ee t.buf q.i)=⟨14,q.t,0,0,0⟩:=by unfold pS; rw [if_neg gn,if_pos kL]
     have hs:=(show St w F (cC p (j1 a (mD m t q))::fW a.q a.ov a.fv (mD m t q).mem::_) _ from by unfold mD; rw [I6]; exact hs.p7.p7.p7.p7);have hs:=eK.shut (m:=mD m t q) ⟨hu.ln,hu.cl,hu.rc,λ w hw=>by show uw _ _ (ik m.mem _) w; rw [I6]; first | exact hu.mem w hw | exact (hu.mem w hw).write | exact (hu.mem w hw).out⟩ hs;have hs:=(((hs.p1.drop.p1).drop).p1).drop;refine ⟨?_,hs.mut⟩;rw [Xe]
    ·refine aF (aA jN (have hs:=hs.drew;aB sm hs.p8.hb rfl (aA lj (aB (v:=.int .i64 (((ee t.buf q.i)).line)) bN hs.hb rfl (bI ael hs.p9 (H':=λ _=>fW a.q a.ov a.fv (vG m.mem ((ee t.buf q.i)).line)) (Φ:=λ _ _=>True) (λ F2 eN ey=>?_) ?_)))))
     ·exact (C129 a.q a.ov a.fv m.mem F2 _ _ eN (λ w' hc=>hu.mem _ (hK w' (ey w' hc).aE)) mC.mem tH).mono λ _ _ r=>r.mono λ _ _ h=>⟨trivial,h.2⟩
     rintro _ uU _ hs;refine aA jM (aB (v:=.int .i64 ((q).t)) bN hs.p8.hb rfl (aA lj (aB (v:=.int .i64 (((ee t.buf q.i)).line)) bN hs.p1.hb rfl (pop (sr _ _ _) (aI (x:=(⟨13,(q).t,((ee t.buf q.i)).line,0,0⟩:dA)) hs.p7 eW rfl rfl (λ sw hs=>aD eW hs.At ?_))))));have hs:=(eD.shut (room:=m.room) (t:={t with buf:=kN t.buf q.i}) qP hs.p6.p6.p5.p6).p4;have hs:=St.su (H:=qj K m.room) (x:={t with buf:=kN t.buf q.i}) hs.p1 (by have:=(List.getElem?_eq_some_iff.1 ht).1; omega) wO dD;have I6:ik m.mem (ee t.buf q.i)=vG m.mem (ee t.buf q.i).line:=by unfold ik; rw [if_neg gn,if_neg kL]
     have Xe:pS q.t (ee t.buf q.i)=⟨13,q.t,(ee t.buf q.i).line,0,0⟩:=by unfold pS; rw [if_neg gn,if_neg kL]
     have hs:=(show St w F (cC p (j1 a (mD m t q))::fW a.q a.ov a.fv (mD m t q).mem::_) _ from by unfold mD; rw [I6]; exact hs.p7.p7.p4.p7);have hs:=eK.shut (m:=mD m t q) ⟨hu.ln,hu.cl,hu.rc,λ w hw=>by show uw _ _ (ik m.mem _) w; rw [I6]; first | exact hu.mem w hw | exact (hu.mem w hw).write | exact (hu.mem w hw).out⟩ hs;have hs:=(((hs.p1.drop.p1).drop).p1).drop;refine ⟨?_,hs.mut⟩;rw [Xe]
  ·trivial
set_option maxHeartbeats 1000000 in
theorem C63 (K:World→Prop) (p:Nat) (m:gO) (N:Nat) (i:Int) (t:fx) (m2:gO) (ev:dA) (F:Nat→Prop) (w:World) (hF:(eK K p m).p w F) (hK:∀ w',iH F w w'→K w') (mC:rQ m) (tH:MB m.mem 1000000) (h0:0≤i) (ht:m.l[i.toNat]? = some t) (sO:mL N m i=some (m2,ev)):CR 63 [(.pointer (some ⟨p,0,none⟩)),.int .i64 i] w (λ v w'=>v=Flat.val ev∧qx F (eK K p m2) w w'):=by
 have hs:=St.begin hF;obtain ⟨a,hu,hs⟩:=eK.open hs;have wO:=hs.p4.ly;have BG:=List.mem_of_getElem? ht;have oF:=mC.th t BG;have mE:=(List.getElem?_eq_some_iff.1 ht).1;refine ahd _ _ _ _ ?_;unfold S63;refine aO hs lI (λ Cq w1 hs=>aF (aA km (aB qX hs.p1.hb rfl ?_)));obtain ⟨pN,jY⟩:=gx (a.ps) (i:=(i).toNat) (by omega);refine dT hs.p4 sn (by omega) (by omega) (λ _ rk=>ga hs.p4 BU rk jY ?_);have hs:=W6 hs.p5 jY ht;obtain ⟨bp,gl,rg,cn,qP,hs⟩:=eD.open hs;refine aF (aA tS (aB bN hs.hb rfl (cT (aC (λ gz=>?_) (λ gz=>?_)))))
 ·refine aF (aA tS (aB bN hs.hb rfl (aF (aA nQ (aV hs.p6 bN (eE rfl) (rfl) (λ w2 hs=>aF (aA Du (aV hs bN (eE rfl) (rfl) (λ w3 hs=>aF (aA tS (aB bN hs.p1.hb rfl (pop (sr _ _ _) ?_))))))))))));refine aI (x:=(⟨16,i,t.fault,0,0⟩:dA)) hs.p6 eW rfl rfl (λ w4 hs=>aD eW hs.At ?_);have hs:=St.su (H:=qj K m.room) (x:=t) (((eD.shut (room:=m.room) (t:=t) qP hs.p5.p5.p5.p5).p3).p1) (by have:=(List.getElem?_eq_some_iff.1 ht).1; omega) wO jY;rw [uT ht] at hs;have hs:=eK.shut (m:={m with fault:=t.fault,mQ:=i}) ⟨hu.ln,hu.cl,hu.rc,hu.mem⟩ hs.p5.p5.p5.p5
  have hs:=(hs.p1).drop;obtain ⟨rfl,rfl⟩:=xw sO ht gz;exact ⟨rfl,hs.mut⟩
 ·have hs:=eD.shut (room:=m.room) (t:=t) qP hs.p3.p3.p3.p3;obtain ⟨x,vA⟩:=xy sO ht gz;refine eu YN (C65 K pN.b m.room t _ (hs).has (hK _ hs.aE) oF) ?_;rintro v41 w5 hh;obtain ⟨x2,xv,ayg,hxv,rfl,he⟩:=hh.resolve_left (λ h=>by rw [vA] at h; cases h.1);obtain rfl:x=x2:=Option.some.inj (vA.symm.trans ayg);have hs:=hs.ext he;have hxm:=qO vA;obtain ⟨ge,gf,rfl,_,_⟩:=hxv _ (hK _ hs.aE);have hkd:=mC.st t BG x vA (by omega);refine bG rfl (bG rfl (aO hs mB (λ On w6 hs=>have hs:=hs.enc (cs':=Flat.enc (⟨0,0,0,⟨none,0,0⟩,⟨none,0,0⟩,0⟩:bU)) rfl;aI (x:=(⟨x.kind,x.a,x.b,ge,gf,x.to⟩:bU)) hs lR rfl rfl (λ w7 hs=>wJ hs (λ b_x44 w8 hs=>ij hs Tryz.underlying211 oP (by decide) (λ w9 hs=>ij hs Tryz.underlying211 oP (by decide) (λ qd hs=>ij hs Tryz.underlying211 oP (by decide) (λ tG hs=>ij hs Tryz.underlying211 oP (by decide) (λ vt hs=>ij hs Tryz.underlying211 oP (by decide) (λ uU hs=>ij hs Tryz.underlying211 oP (by decide) (λ sw hs=>ij hs Tryz.underlying211 oP (by decide) (λ wc hs=>ij hs Tryz.underlying211 oP (by decide) (λ ze hs=>?_)))))))))))))
  refine ij hs Tryz.underlying211 oP (by decide) (λ Cn hs=>aA jn (aB (v:=.int .i64 x.kind) bN hs.p1.hb rfl ?_));have hrl:=oF.rg;have ML:=mC.lk;obtain ⟨g,aq1,uH,l4⟩:=Xc K p m i.toNat pN t i x ge gf hkd oF.bl mC.mem tH (λ h=>by have:=mC.aqP t BG x hxm.1 h; omega) (λ h=>by have:=mC.lkb t BG x hxm.1 h; omega) (mC.lnb t BG x hxm.1);refine ⟨_,o8 hs.Ao Tryz.underlying211 oP abi,?_⟩;rw [Xd aq1];refine aD lR hs.p1.At (have hs:=kD.shut (m:=m) (⟨hu,jY,wO,by omega⟩) hs.p3.p8.p8.p8.p8;have hs:=St.join hs.p3;WX (first:=[]) (cap:=[]) uH hs (H':=λ _=>sep (eD K pN.b (dL m t i x).1.room (dL m t i x).2.1) (kD K p (dL m t i x).1 i.toNat pN)) (Φ:=λ v _=>v=Flat.val (dL m t i x).2.2) (λ F2 eN ey=>?_) ?_)
  ·exact l4 F2 _ eN (λ w' hc=>hK w' (ey w' hc).aE)
  rintro _ Iy rfl hs;refine aO hs lI (λ b_e9 JG hs=>aI (x:=(dL m t i x).2.2) hs eW rfl rfl (λ KR hs=>aA abb (aV hs bN (eE rfl) (rfl) (λ MN hs=>?_))));have hs:=hs.enc (cs':=Flat.enc ({ (dL m t i x).2.2 with t:=i}:dA)) rfl;refine ⟨_,?_,λ _ h=>h⟩;refine aF ?_;have hs:=hs.p1.split.p1;obtain ⟨a2,hx,hs⟩:=kD.open hs;refine aA nQ (aB bN hs.hb rfl (aH (aC (λ kz=>?_) (λ kz=>?_))))
  ·have hs:=kD.shut (m:=(dL m t i x).1) (hx) hs.p4.p4.p4.p4.p4;obtain ⟨t2,hg,rfl,rfl⟩:=xz sO ht gz vA kz;have td:(dL m t i x).2.1.at_=t.at_:=AF;have Qs:=oF.code.len;have ax8:=oF.Tj;have hs:=hs.p1;obtain ⟨bp,gl,rg,cn,qP,hs⟩:=eD.open hs;refine aF (aA kn (aB bN hs.hb rfl (aN (by omega) (aF (aA kn (aV hs bN (eE rfl) (rfl) (λ Qw hs=>?_)))))));have hs:=eD.shut (room:=(dL m t i x).1.room) (t:=(⟨(dL m t i x).2.1.code,((dL m t i x).2.1.at_+1),(dL m t i x).2.1.aK,(dL m t i x).2.1.counts,(dL m t i x).2.1.fault,(dL m t i x).2.1.e,(dL m t i x).2.1.f,(dL m t i x).2.1.buf⟩:fx)) qP hs.p3.p3.p3.p3
   have tx:=QV (m:=m) (t:=t) (i:=i) (x:=x) oF mC.rm.2;have Xf:He { (dL m t i x).2.1 with at_:=(dL m t i x).2.1.at_+1}:=⟨tx.code,tx.rg,tx.cn,by dsimp only; omega,tx.bl⟩;refine bI aeg hs (H':=λ _=>eD K pN.b (dL m t i x).1.room t2) (Φ:=λ _ _=>True) (λ F2 eN ey=>?_) ?_
   ·exact (C122 K pN.b (dL m t i x).1.room { (dL m t i x).2.1 with at_:=(dL m t i x).2.1.at_+1} t2 N F2 _ eN (λ w' hc=>hK w' (ey w' hc).aE) Xf hg).mono λ _ _ r=>r.mono λ _ _ h=>⟨trivial,h.2⟩
   rintro _ Tl _ hs;intro fu;refine aD eW hs.p2.At (aI (x:=({ (dL m t i x).2.2 with t:=i}:dA)) hs.p5 eW rfl rfl (λ Se hs=>aD eW hs.At ?_));have hs:=((((((((L4 hs.p2.p2).p1).drop).p1).drop).p1).drop).p1).drop;exact ⟨rfl,hs.mut⟩
  ·intro fu;refine aD eW hs.p6.At (aI (x:=({ (dL m t i x).2.2 with t:=i}:dA)) hs.p9 eW rfl rfl (λ Se hs=>aD eW hs.At ?_));have hs:=((((L4 ((kD.shut (m:=(dL m t i x).1) (hx) hs.p5.p5.p5.p5.p5).p2)).p1).drop).p1).drop;have hs:=((hs.p1.drop).p1).drop;obtain ⟨rfl,rfl⟩:=xA sO ht gz vA kz;exact ⟨rfl,hs.mut⟩
end Go.Proofs.YtnjcingfdhjfkaaGreat
namespace Go.Fw
def CS (F:Nat→Prop) (w0 w':World):Prop:=∀ b,F b→w'.heap[b]? = w0.heap[b]?
section
variable {α σ:Type} [Flat σ] [D:cD α σ] {w w0:World} {A F:Nat→Prop} {L:List HP} {v:Value} {xs:List α} {ts us:List σ}
theorem St.aq2 {Φ:World→Prop} (hs:St w0 A (Fw.eY Φ::L) w):∃ F,St w0 A (Fw.eY (CS F w)::L) w∧∀ w',CS F w w'→Φ w':=by
 obtain ⟨U,F,U',g1,g2,g3,g4,g5⟩:=hs.sW
 exact ⟨F,⟨hs.aE,U,F,U',⟨λ w' h=>h,g1.2⟩,g2,g3,g4,g5⟩,λ w' h=>g1.1 w' h⟩
theorem CS.refl (F:Nat→Prop) (w:World):CS F w w:=λ _ _=>rfl
theorem L6 (inj:∀ x y:σ,Flat.enc x=Flat.enc y→x=y):∀ {ts us:List σ},ts.length=us.length→flat ts=flat us→ts=us
 | [],[],_,_=>rfl
 | t::ts,u::us,hl,h=>by
  rw [iI,iI] at h
  have:=List.append_inj h (by rw [Flat.len,Flat.len])
  rw [inj _ _ this.1,L6 inj (by simpa using hl) this.2]
 | [],_::_,hl,_=>by simp at hl
 | _::_,[],hl,_=>by simp at hl
theorem eL.func {S S':Nat→Prop} (inj:∀ x y:σ,Flat.enc x=Flat.enc y→x=y) (h:eL S w v ts) (h':eL S' w v us):ts=us:=by
 obtain ⟨a,cap,rfl,hc,h3⟩:=h
 obtain ⟨a',Ki,hv,hc',h3'⟩:=h'
 simp only [Value.slice.injEq] at hv
 obtain ⟨rfl,hl,rfl⟩:=hv
 refine L6 inj hl (List.ext_getElem? λ j=>?_)
 have Bd:(flat ts).length=(flat us).length:=by rw [cQ,cQ,hl]
 by_cases hj:j<(flat ts).length
 ·have hj':j<(flat us).length:=by omega
  rcases h3 with ⟨rfl,_⟩ | ⟨b,o,rfl,_,h5⟩
  ·simp [kj] at hj
  ·rcases h3' with ⟨rfl,_⟩ | ⟨b',o',ha,_,h5'⟩
   ·simp [kj] at hj'
   ·simp only [Option.some.injEq,Addr.mk.injEq,and_true] at ha
    obtain ⟨rfl,rfl⟩:=ha
    have c1:=h5 j _ (List.getElem?_eq_getElem hj)
    have c2:=h5' j _ (List.getElem?_eq_getElem hj')
    unfold Cell at c1 c2
    rw [List.getElem?_eq_getElem hj,List.getElem?_eq_getElem hj']
    exact c1.symm.trans c2
 ·rw [List.getElem?_eq_none (by omega),List.getElem?_eq_none (by omega)]
theorem CS.rd (h:∀ w',CS F w w'→DL w' v xs) (hr:eL (λ _=>True) w v ts) (hn:ts.length=xs.length):∀ w',CS F w w'→eL (λ _=>True) w' v ts:=by
 intro w' hw
 have hr0:=hr
 obtain ⟨a,cap,rfl,hc,h3⟩:=hr
 rcases h3 with ⟨h3,h4⟩ | ⟨b,o,rfl,h4,h5⟩
 ·exact ⟨a,cap,rfl,hc,.inl ⟨h3,h4⟩⟩
 ·cases ts with
  | nil=>exact ⟨_,cap,rfl,hc,.inr ⟨b,o,rfl,λ h=>absurd rfl h,λ j c hj=>by simp [kj] at hj⟩⟩
  | cons t ts=>
   by_cases hF:F b
   ·exact ⟨_,cap,rfl,hc,.inr ⟨b,o,rfl,λ _=>trivial,λ j c hj=>(h5 j c hj).of_eq (hw b hF)⟩⟩
   ·exfalso
    have h6:DL (ChangeMaps.setBlock w b (.map #[] 0)) (.slice (some ⟨b,o,none⟩) (t::ts).length cap) xs:=h _ λ b' hb'=>by
     simp only [ChangeMaps.setBlock]; exact Array.getElem?_setIfInBounds_ne (λ e=>hF (by rw [e]; exact hb'))
    obtain ⟨us,⟨a',Ki,hv,_,h7⟩,hul,_⟩:=h6
    simp only [Value.slice.injEq] at hv
    obtain ⟨rfl,hl,rfl⟩:=hv
    have uN:0<(flat us).length:=by rw [cQ,← hl]; exact Nat.mul_pos (by simp) (Flat.pos (α:=σ))
    rcases h7 with ⟨rfl,_⟩ | ⟨b',o',ha,_,h8⟩
    ·simp at hl
    ·simp only [Option.some.injEq,Addr.mk.injEq,and_true] at ha
     obtain ⟨rfl,rfl⟩:=ha
     have vr:=h8 0 _ (List.getElem?_eq_getElem uN)
     have hb:=(h5 0 _ (List.getElem?_eq_getElem (by rw [cQ]; exact Nat.mul_pos (by simp) (Flat.pos (α:=σ))))).lt
     unfold Cell World.cell? at vr
     dsimp only at vr
     rw [mr _ hb] at vr
     simp at vr
theorem CS.fix (inj:∀ x y:σ,Flat.enc x=Flat.enc y→x=y) (h:∀ w',CS F w w'→DL w' v xs):∃ ts:List σ,ts.length=xs.length∧∀ w',CS F w w'→eL (λ _=>True) w' v ts∧lg ts xs w':=by
 obtain ⟨ts,hr,hd⟩:=(h w (CS.refl F w)).open
 refine ⟨ts,hd.1,λ w' hw=>?_⟩
 have h1:=CS.rd h hr hd.1 w' hw
 obtain ⟨us,Yh,hd'⟩:=(h w' hw).open
 rw [eL.func inj h1 Yh] at *
 exact ⟨Yh,hd'⟩
end
section
variable {P:Program} {T:Nat} {cx cy:Bool} {a b:Int} {K:Value→Prop}
theorem Xg (h:0≤a - b∧a - b≤255) (k:K (.int .u8 (a - b))):cX P (iQ .sub T cx cy (.int .u8 a) (.int .u8 b)) K:=
 ⟨_,(show pr P (iQ .sub T cx cy (.int .u8 a) (.int .u8 b))=some (.int .u8 (a - b)) from by
  show some (Value.int .u8 (IntKind.u8.wrap (a - b)))=_
  have:IntKind.u8.wrap (a - b)=a - b:=by
   unfold IntKind.wrap; simp [IntKind.bits,IntKind.signed]; omega
  rw [this]),k⟩
theorem SC {src dst:TypeId} (h1:P.underlying src=some (.int .u8)) (h2:P.underlying dst=some (.int .i64)) (h:0≤a∧a≤255) (k:K (.int .i64 a)):cX P (convert src dst (.int .u8 a)) K:=by
 refine ⟨_,?_,k⟩
 unfold convert
 simp only [cN,cM h1,cM h2,Option.bind_some]
 show some (Value.int .i64 (IntKind.i64.wrap a))=_
 rw [IntWalk.i64_in _ (by omega)]
end
end Go.Fw
namespace Go.Proofs.YtnjcingfdhjfkaaGreat
open Go.Fw
def pU (c:fm):fx:=⟨c,0,List.replicate c.aK.toNat 0,List.replicate c.counts.toNat 0,0,0,0,[]⟩
def qk (N:Nat) (cs:List fm) (ts:List fx):Prop:=ts.length=cs.length∧∀ (j:Nat) (c:fm) (t:fx),cs[j]? = some c→ts[j]? = some t→sb N (pU c)=some t
theorem Jh {c:fm} (h:BE c):He (pU c):=⟨h,by have:=h.rb; simp [pU]; omega,by have:=h.cb; simp [pU]; omega,by simp [pU],by simp [pU]⟩
def aq3 (K:World→Prop) (OC:List cL) (cs:List fm):Prop:=OC.length=cs.length∧∀ (j:Nat) (cv:cL) (c:fm),OC[j]? = some cv→cs[j]? = some c→∃ gl:SV,cv=⟨c.aK,c.counts,gl⟩∧E4 K (Flat.val gl) c.l
theorem OD (x y:cL) (h:Flat.enc x=Flat.enc y):x=y:=by
 obtain ⟨a,b,⟨c,d,e⟩⟩:=x; obtain ⟨a',b',⟨c',d',e'⟩⟩:=y; simp [Flat.enc] at h; simp [h]
theorem L7 (x y:bU) (h:Flat.enc x=Flat.enc y):x=y:=by
 obtain ⟨a,b,c,⟨d,e,f⟩,⟨g,i,j⟩,k⟩:=x; obtain ⟨a',b',c',⟨d',e',f'⟩,⟨g',i',j'⟩,k'⟩:=y; simp [Flat.enc] at h; simp [h]
theorem L8 {F:Nat→Prop} {w1:World} {gl:Value} {l:List aW} (h:∀ w',CS F w1 w'→DL w' gl l):E4 (CS F w1) gl l:=by
 obtain ⟨ts,_,h2⟩:=CS.fix L7 h; exact ⟨ts,h2⟩
def ld (u:iz) (room:Int):gO:=⟨u,room,WY u.lines u.stays u.dC,[],[],0,0,0⟩
def lM (m:gO) (ts:List fx):gO:={m with locks:=List.replicate m.u.locks.toNat (-1),l:=ts}
theorem Xh {w w0:World} {A:Nat→Prop} {L:List HP} {p q:Nat} {u:iz} {room:Int} {sh:dO} {ov fv:SV}
  (hs:St w0 A (cC p (j1 ⟨sh.lines,sh.dC,sh.threads,sh.recover.l,sh.cB,q,Flat.val ov,Flat.val fv,.slice none 0 0,.slice none 0 0,[]⟩ (ld u room)) ::
   fW q (Flat.val ov) (Flat.val fv) (WY u.lines u.stays u.dC)::bL (Flat.val ov) (u.lines.take u.stays.toNat)::bL (Flat.val fv) u.dC::eY (λ w=>cD.dr w sh u)::L) w) :
  ∃ (K:World→Prop) (OC:List cL),St w0 A (eK K p (ld u room)::eY K::L) w∧(∀ w,K w→eL (λ _=>True) w (Flat.val sh.threads) OC)∧aq3 K OC u.threads:=by
 have h1:=hs.p2.freeze
 have h2:=(h1.p3.freeze).p1.fK
 have h3:=(h2.p3.p1.fK)
 obtain ⟨F,h4,h5⟩:=h3.aq2
 have hd:∀ w',CS F w w'→cD.dr w' sh u:=λ w' h=>by have:=h5 w' h; first | exact this.1 | exact this.2 | exact this.1.1 | exact this.2.2
 have hov:∀ w',CS F w w'→eL (λ _=>True) w' (Flat.val ov) (u.lines.take u.stays.toNat):=λ w' h=>by have:=h5 w' h; first | exact this.1.1 | exact this.1.2 | exact this.2.1 | exact this.2.2
 have hfv:∀ w',CS F w w'→eL (λ _=>True) w' (Flat.val fv) u.dC:=λ w' h=>by have:=h5 w' h; first | exact this.1.1 | exact this.1.2 | exact this.2.1 | exact this.2.2
 have hth:∀ w',CS F w w'→DL w' (Flat.val sh.threads) u.threads:=λ w' h=>by obtain ⟨_,_,_,_,_,e,q1,q2,q3,q4,q5⟩:=hd w' h; rw [e]; exact q3
 obtain ⟨OC,Qs,Sm⟩:=CS.fix OD hth
 refine ⟨CS F w,OC,?_,λ w' h=>(Sm w' h).1,Qs,λ j cv c h1 h2=>?_⟩
 ·have h6:St w0 A (iK (qj (CS F w) room) [] []::_) w:=h4.new (Ext.refl w) (F:=bD) (λ _ h=>h) λ _ h=>h.elim
  have h7:=((h6.fY (α:=Ptr)).fY (α:=Int))
  refine eK.shut (a:=⟨sh.lines,sh.dC,sh.threads,sh.recover.l,sh.cB,q,Flat.val ov,Flat.val fv,.slice none 0 0,.slice none 0 0,[]⟩) (m:=ld u room) ⟨λ w' h=>?_,λ w' h=>?_,L8 λ w' h=>?_,λ w' h=>⟨hov w' h,hfv w' h⟩⟩ h7.p5.p5
  ·obtain ⟨_,_,_,_,_,e,q1,q2,q3,q4,q5⟩:=hd w' h; rw [e]; exact DL.flat q1
  ·obtain ⟨_,_,_,_,_,e,q1,q2,q3,q4,q5⟩:=hd w' h; rw [e]; exact q5
  ·obtain ⟨_,_,_,_,_,e,q1,q2,q3,q4,q5⟩:=hd w' h; rw [e]
   obtain ⟨g,e2,q6⟩:=q4; rw [e2]; exact q6
 ·have hh:∀ w',CS F w w'→cD.dr w' cv c:=λ w' h=>(Sm w' h).2.2 j cv c h1 h2
  obtain ⟨gl,e,_⟩:=hh w (CS.refl F w)
  subst e
  exact ⟨gl,rfl,L8 λ w' h=>by obtain ⟨gl',e,h6⟩:=hh w' h; cases e; exact h6⟩
structure QW (N:Nat) (u:iz) (lB:List fx):Prop where
 b:qk N u.threads lB
 co:∀ c∈u.threads,BE c
 len:u.lines.length=u.dC.length
 l20:u.lines.length≤20
 st:0≤u.stays∧u.stays≤u.lines.length
 ln:∀ (k:Nat) (n:Int),(k:Int)<u.stays→u.lines[k]? = some n→(n=lD u.lines k∨(0<k∧n=lD u.lines k - 1))∧-10≤n∧n≤100
 lk:0≤u.locks∧u.locks≤1000
set_option maxHeartbeats 1000000 in
theorem C55 (K:World→Prop) (p:Nat) (m:gO) (N:Nat) (L9:List fm) (lB:List fx) (lv:Value) (OC:List cL) (F:Nat→Prop) (w:World) (hF:(eK K p m).p w F) (hK:∀ w',iH F w w'→K w') (hrm:1≤m.room∧m.room≤16) (ML:0≤m.u.locks∧m.u.locks≤1000) (hl:∀ w',iH F w w'→eL (λ _=>True) w' lv OC) (Sm:aq3 K OC L9) (ayi:∀ c∈L9,BE c) (hb:qk N L9 lB) (hn:L9.length≤1000):CR 55 [(.pointer (some ⟨p,0,none⟩)),lv] w (λ v w'=>v = .tuple #[]∧qx F (eK K p (lM m lB)) w w'):=by
 have hs:=St.begin hF;obtain ⟨a,hu,hs⟩:=eK.open hs;have wO:=hs.p4.ly;have hcvl:=Sm.1;refine ag5 _ _ _ _ ?_;unfold S55;refine aF (aA km (aV hs qX (eE rfl) (rfl) (λ w1 hs=>aF (aA nP (aV hs er (eE rfl) (rfl) (λ w2 hs=>aF (aA tQ (aA CF (aB bN hs.hb rfl ?_)))))))));have hs:=(((hs.p3.drop.p3.drop.p2.drop.fY (α:=Int)).p2).p1).p2;refine ⟨λ mm x w'=>∃ (k:Nat) (HN:Value),x = .int .i64 (k:Int)∧mm=m.u.locks.toNat - k∧k≤m.u.locks.toNat∧St w F [cC p (j1 {a with lk:=HN,ll:=.slice none 0 0} m),bL HN (List.replicate k (-1:Int)),fW a.q a.ov a.fv m.mem] w',⟨_,0,_,rfl,rfl,Nat.zero_le _,hs⟩,?_⟩
 rintro mm _ w3 ⟨k,HN,rfl,rfl,Tf,hs⟩ fu;refine aR (aC (λ gz=>?_) (λ gz=>?_))
 ·refine aF (aA nP (aB er hs.hb rfl (bX (([-1]:List Int)) hs eg rfl rfl (eE rfl) (λ UP w4 hs=>?_))));have El:=(hs).fM;refine cP hs.p2 eg El (by rw [List.length_replicate,List.length_singleton]; omega) (by decide) (λ afc w5 hs=>have hs:=hs.p1.drop;aF (aA nP (aV hs.p1 er (eE rfl) ((hs).fM.one) (λ w6 hs=>aN (by omega) ?_))));have hs:=hs.p2.p2.p2;exact ⟨_,by omega,k+1,afc,rfl,rfl,by omega,by rw [List.replicate_succ']; exact hs⟩
 ·refine aJ Be (hl _ hs.aE) ?_;have hs:=hs.p1;rw [show k=m.u.locks.toNat from by omega] at hs;have hs:=((((((hs.KO (H:=qj K m.room)).fY (α:=Ptr)).p4).p3).p3).p3).p4;refine ⟨λ mm x w'=>∃ (j:Nat) (Xi:Value) (ps:List Ptr),x = .int .i64 (j:Int)∧mm=OC.length - j∧j≤OC.length∧St w F [cC p (j1 {a with lk:=HN,ll:=Xi} m),bL Xi ps,iK (qj K m.room) ps (lB.take j),bL HN (List.replicate m.u.locks.toNat (-1:Int)),fW a.q a.ov a.fv m.mem] w',⟨_,0,_,_,rfl,rfl,Nat.zero_le _,hs⟩,?_⟩;rintro mm _ w7 ⟨j,Xi,ps,rfl,rfl,hj1,hs⟩ jz;refine aR (aC (λ j4=>?_) (λ j4=>?_))
  ·refine ⟨_,?_,λ _ h=>h⟩;obtain ⟨VM,wF⟩:=gx (OC) (i:=((j:Int)).toNat) (by omega);refine aQ Be (hl _ hs.aE) (by omega) wF (λ _ rq=>?_);obtain ⟨c,hc⟩:∃ c,L9[j]? = some c:=⟨_,List.getElem?_eq_getElem (by have:=Sm.1; omega)⟩;obtain ⟨t1,ht1⟩:∃ t,lB[j]? = some t:=⟨_,List.getElem?_eq_getElem (by have:=Sm.1; have:=hb.1; omega)⟩;have hg:=hb.2 j c t1 hc ht1;obtain ⟨gl,Ia,aq4⟩:=Sm.2 j _ _ wF hc;subst Ia;have hco:=ayi c (List.mem_of_getElem? hc);have Yu:=hco.rb;have hcb:=hco.cb;refine aD qa (rq) (aO hs Ih (λ ajo w8 hs=>have hs:=hs.enc (cs':=Flat.enc (⟨0,0,⟨none,0,0⟩⟩:cL)) rfl;aI (x:=(⟨c.aK,c.counts,gl⟩:cL)) hs qa rfl rfl (λ w9 hs=>aF (aA Uc (aB bN hs.p1.hb rfl (eu amv (C52 m.room _) ?_))))))
   rintro v43 qd hh;obtain ⟨_,_,b52,rfl,cA⟩:=hh.resolve_left (λ h=>by omega);have hs:=hs.made cA;refine bG rfl (bG rfl ?_);refine ⟨λ t8 w'=>∃ tb,t8 = .pointer (some ⟨tb,0,none⟩)∧St w F [eD K tb m.room (pU c),cC ajo (Flat.enc (⟨c.aK,c.counts,gl⟩:cL)),cC p (j1 {a with lk:=HN,ll:=Xi} m),bL Xi ps,iK (qj K m.room) ps (lB.take j),bL HN (List.replicate m.u.locks.toNat (-1:Int)),fW a.q a.ov a.fv m.mem] w',?_,?_⟩
   ·have hs:=hs.drew;refine aD qa hs.p1.At (aA xb (aB (v:=.int .i64 c.aK) bN hs.p1.hb rfl (aA CE (aB (v:=.int .i64 c.counts) bN hs.p1.hb rfl ?_))));refine ⟨?_,?_⟩
    ·refine vR (0:Int) hs eg BT (by omega) (by omega) (by decide) (λ VA tG hs=>?_);refine ⟨fP qa hs.p2.At,?_⟩;refine ⟨aG bN (hs.p2.hb.cell rfl),?_⟩;refine vR (0:Int) hs eg BT (by omega) (by omega) (by decide) (λ s_x53 vt hs=>?_);refine ⟨fP qa hs.p3.At,?_⟩;refine ⟨aG bN (hs.p3.hb.cell rfl),?_⟩;obtain ⟨ayj,rfl⟩:=(hs.p1).fT;obtain ⟨OE,rfl⟩:=(hs).fT;refine pop (vZ _ _ _ _ _ _ _ _ _ _ _ _) (l5 hs (λ b_x55 uU hs=>?_));have hs:=hs.p9.p9.p9.p9.p9.p9.p7.p8.p9.p9;exact ⟨_,rfl,eD.shut (t:=pU c) aq4 hs⟩
    ·refine ⟨?_,?_⟩
     ·refine vR (0:Int) hs eg BT (by omega) (by omega) (by decide) (λ atl sw hs=>?_);refine ⟨fP qa hs.p2.At,?_⟩;refine ⟨aG bN (hs.p2.hb.cell rfl),?_⟩;refine vR (0:Int) hs eg BT (by omega) (by omega) (by decide) (λ atm wc hs=>?_);refine ⟨fP qa hs.p3.At,?_⟩;refine ⟨aG bN (hs.p3.hb.cell rfl),?_⟩;obtain ⟨aq5,rfl⟩:=(hs).fT;obtain ⟨aq6,rfl⟩:=(hs.p1).fT;refine pop (vZ _ _ _ _ _ _ _ _ _ _ _ _) (l5 hs (λ atn ze hs=>?_));have hs:=hs.p9.p9.p9.p9.p9.p9.p8.p8.p9.p9;exact ⟨_,rfl,eD.shut (t:=pU c) aq4 hs⟩
     ·trivial
   ·rintro _ Cn ⟨tb,rfl,hs⟩ oG;refine bI aeg hs (H':=λ _=>eD K tb m.room t1) (Φ:=λ _ _=>True) (λ F2 eN ey=>?_) ?_
    ·exact (C122 K tb m.room (pU c) t1 N F2 _ eN (λ w' hc=>hK w' (ey w' hc).aE) (Jh hco) hg).mono λ _ _ r=>r.mono λ _ _ h=>⟨trivial,h.2⟩
    rintro _ Iy _ hs;refine aF (aA km ?_);have uH:=(hs.p4).ly;refine aB qX hs.p2.hb rfl (bX ([(⟨tb⟩:Ptr)]) hs sn rfl rfl (eE rfl) (λ aq7 JG hs=>?_));have aj6:=(hs).fM;refine cP hs.p4 sn aj6 (by rw [List.length_take] at uH; simp; omega) (by decide) (λ afY KR hs=>have hs:=hs.p1.drop;aF (aA km (aV hs.p3 qX (eE rfl) ((hs).fM.one) (λ MN hs=>?_))));intro GR;refine aN (by omega) ?_;have hs:=(((((St.DM (H:=qj K m.room) (p:=⟨tb⟩) (x:=t1) hs.p2.p4).p3).drop).p4).p4).p2;have hs:=hs.p4.p4;exact ⟨_,by omega,j+1,afY,ps++[⟨tb⟩],rfl,rfl,by omega,by rw [← gN (k:=j) ht1]; exact hs⟩
  ·have hs:=hs.p2.p2.p3.p4.p4;rw [List.take_of_length_le (by have:=hb.1; omega)] at hs;exact ⟨rfl,(eK.shut (m:=lM m lB) (a:={a with lk:=HN,ll:=Xi,ps:=ps}) ⟨hu.ln,hu.cl,hu.rc,hu.mem⟩ hs).mut⟩
def gR (m:gO) (q:fa):Option (List Int):=if q.kind=3∧q.t=0∧q.i=0∧m.fault=0 then jI m.mem q.cut else none
def yY (m:gO) (qh:List Int):gO:={m with mem:=yU m.mem qh,fG:=m.fG+1}
def Cd (N:Nat) (m:gO) (q:fa):Option (gO × dA × Int):=match gR m q with
 | some qh=>(sb N (pU m.u.recover)).map λ t=>(lM (yY m qh) [t],⟨15,0,0,AB q.cut q.cut.length,0⟩,0)
 | none=>if (eV m).any (iW q)=true then
   (if q.kind=2 then (m.l[q.t.toNat]?).map λ t=>(mD m t q,pS q.t (ee t.buf q.i),0) else (mL N m q.t).map λ r=>(r.1,r.2,0))
  else some (m,⟨0,0,0,0,0⟩,13)
section
variable {N:Nat} {m m2:gO} {q:fa} {ev:dA} {e:Int} {qh:List Int}
theorem uB (h:Cd N m q=some (m2,ev,e)) (hc:gR m q=some qh):∃ t,sb N (pU m.u.recover)=some t∧m2=lM (yY m qh) [t]∧ev=⟨15,0,0,AB q.cut q.cut.length,0⟩∧e=0:=by
 unfold Cd at h; rw [hc] at h; dsimp only at h
 cases hg:sb N (pU m.u.recover) with
 | none=>rw [hg] at h; cases h
 | some t=>rw [hg] at h; cases h; exact ⟨t,rfl,rfl,rfl,rfl⟩
theorem qJ (h:Cd N m q=some (m2,ev,e)) (hc:gR m q=none) (ha:¬ (eV m).any (iW q)=true):m2=m∧ev=⟨0,0,0,0,0⟩∧e=13:=by
 unfold Cd at h; rw [hc] at h; dsimp only at h; rw [if_neg ha] at h
 cases h; exact ⟨rfl,rfl,rfl⟩
theorem pA {t:fx} (h:Cd N m q=some (m2,ev,e)) (hc:gR m q=none) (ha:(eV m).any (iW q)=true) (hk:q.kind=2) (ht:m.l[q.t.toNat]? = some t):m2=mD m t q∧ev=pS q.t (ee t.buf q.i)∧e=0:=by
 unfold Cd at h; rw [hc] at h; dsimp only at h; rw [if_pos ha,if_pos hk,ht] at h
 cases h; exact ⟨rfl,rfl,rfl⟩
theorem ng (h:Cd N m q=some (m2,ev,e)) (hc:gR m q=none) (ha:(eV m).any (iW q)=true) (hk:¬ q.kind=2):mL N m q.t=some (m2,ev)∧e=0:=by
 unfold Cd at h; rw [hc] at h; dsimp only at h; rw [if_pos ha,if_neg hk] at h
 cases hs:mL N m q.t with
 | none=>rw [hs] at h; cases h
 | some r=>rw [hs] at h; cases h; exact ⟨rfl,rfl⟩
theorem sP {k:Nat} {x:fa} (h:x∈kZ m k):∃ i t,i<k∧m.l[i]? = some t∧x∈rO m i t:=by
 unfold kZ at h
 rw [List.mem_flatMap] at h
 obtain ⟨i,hi,hx⟩:=h
 cases ht:m.l[i]? with
 | none=>rw [ht] at hx; cases hx
 | some t=>rw [ht] at hx; exact ⟨i,t,List.mem_range.1 hi,ht,hx⟩
theorem Ma {i:Nat} {t:fx} {x:fa} (h:x∈rO m i t):x.t=i:=by
 unfold rO at h
 rw [List.mem_append] at h
 rcases h with h | h
 ·split at h
  ·simp at h; rw [h]
  ·cases h
 ·rw [List.mem_map] at h; obtain ⟨_,_,rfl⟩:=h; rfl
theorem tA (h:(eV m).any (iW q)=true):0≤q.t∧∃ t,m.l[q.t.toNat]? = some t:=by
 rw [List.any_eq_true] at h
 obtain ⟨x,hx,hs⟩:=h
 unfold eV at hx
 split at hx
 ·cases hx
 ·obtain ⟨i,t,_,ht,AY⟩:=sP hx
  have h1:=Ma AY
  unfold iW at hs
  simp only [Bool.and_eq_true,decide_eq_true_eq] at hs
  have:q.t=(i:Int):=by omega
  rw [this]; exact ⟨by omega,t,ht⟩
theorem rR (h:rQ m):(eV m).length≤1001000:=by
 unfold eV; split
 ·simp
 ·exact Nat.le_trans (wM h _) (Nat.mul_le_mul_right 1001 h.tl)
end
def Xj (m:Mem) (cut:List Int) (v:Value) (m2:Mem):Prop:=(jI m cut=none∧m2=m∧v = .int .i64 1)∨∃ qh,jI m cut=some qh∧m2=yU m qh∧v = .int .i64 0
theorem SD {m:Mem} {cut:List Int} {v:Value} {p:Nat} {ov fv:Value} {F:Nat→Prop} {w w':World}
  (h:(jI m cut=none∧v = .int .i64 1∧qx F (fW p ov fv m) w w')∨∃ qh,jI m cut=some qh∧v = .int .i64 0∧qx F (fW p ov fv (yU m qh)) w w') :
  True∧qx F (ua λ m2=>fact (Xj m cut v m2) (fW p ov fv m2)) w w':=by
 refine ⟨trivial,?_⟩
 rcases h with ⟨h1,h2,F',h3,h4,h5⟩ | ⟨qh,h1,h2,F',h3,h4,h5⟩
 ·exact ⟨F',⟨m,.inl ⟨h1,rfl,h2⟩,h3⟩,h4,h5⟩
 ·exact ⟨F',⟨yU m qh,.inr ⟨qh,h1,rfl,h2⟩,h3⟩,h4,h5⟩
set_option maxHeartbeats 1000000 in
theorem C15 (u:iz) (uv:dO) (room:Int) (N:Nat) (lB:List fx) (w:World) (hu:cD.dr w uv u) (hz:UZ u) (hn:nx u=true→QW N u lB):CR 15 [Flat.val uv,.int .i64 room] w (λ v w'=>(nx u=false∧v = .tuple #[.pointer none,.int .i64 8]∧Ext w w')∨(nx u=true∧(room<1∨16<room)∧v = .tuple #[.pointer none,.int .i64 1]∧Ext w w')∨(nx u=true∧1≤room∧room≤16∧∃ K p,v = .tuple #[.pointer (some ⟨p,0,none⟩),.int .i64 0]∧mc (sep (eK K p (lM (ld u room) lB)) (eY K)) w w')):=by
 obtain ⟨iL,gL,eU,sI,fh,rfl,iM,jw,jh,jU,kX⟩:=hu;obtain ⟨dN,rfl,iu⟩:=jU;have hs:=St.start w;refine agx _ _ _ _ ?_;unfold S15;refine dE hs (λ b_u2 w1 hs=>aD tP hs.At (aZ aus hs (C51 u _ _ ⟨iL,gL,eU,(⟨((u).recover).aK,((u).recover).counts,dN⟩:cL),fh,rfl,(iM.ext hs.aE),(jw.ext hs.aE),(jh.ext hs.aE),⟨dN,rfl,(iu.ext hs.aE)⟩,(kX.ext hs.aE)⟩ hz) (λ w2 he hs=>bZ (aY (λ gJ=>?_) (λ gJ=>?_)))))
 ·exact .inl ⟨by simpa using gJ,rfl,hs.drop.aE⟩
 ·have AX:=hn (by simpa using gJ);refine eu amv (C52 room _) ?_;rintro v_x14 w3 aj7
  rcases aj7 with ⟨Yu,rfl,he⟩ | ⟨hr1,Gq,b52,rfl,cA⟩
  ·have hs:=hs.ext he;refine bG rfl (bG rfl (cT (fS (by decide) ?_)));exact .inr (.inl ⟨by simpa using gJ,Yu,rfl,hs.drop.aE⟩)
  ·have hs:=hs.made cA;refine bG rfl (bG rfl (cT (gq (by decide) (aD tP hs.p1.At (eu aut (C53 u _ _ ⟨iL,gL,eU,(⟨((u).recover).aK,((u).recover).counts,dN⟩:cL),fh,rfl,(iM.ext hs.aE),(jw.ext hs.aE),(jh.ext hs.aE),⟨dN,rfl,(iu.ext hs.aE)⟩,(kX.ext hs.aE)⟩ hz) ?_)))));rintro _ w4 ⟨Ji,rfl,cA⟩;have hs:=hs.made cA;refine pop (Nh _ _ _ _ _ _ _ _ _ _ _ _ _ _ _ _ _ _ _ _) (l5 hs (λ BY w5 hs=>aA mA (aB er hs.p3.hb rfl ?_)));have aq8:=DL.flat (iM);refine aA pj (aB (v:=.int .i64 ((u).stays)) bN hs.p3.hb rfl (aA xc (aB er hs.p3.hb rfl ?_)))
   have aq9:=DL.flat (jw);refine eu auu (C54 u.lines u.dC u.stays _ _ _ (aq8.ext hs.aE) (aq9.ext hs.aE) AX.len AX.l20 AX.st AX.ln) ?_;rintro v33 w6 ⟨q,ov,fv,rfl,cA⟩;have hs:=((hs.made cA).split).p1.split;refine bG rfl (bG rfl (aF (aA jN (aV hs.p3 sm (eE rfl) (rfl) (λ w7 hs=>aF (aA tQ (aA si (aB FJ hs.hb rfl ?_))))))));obtain ⟨s1,s2,s3,s4,s5,hsh,q1,q2,q3,q4,q5⟩:=(hs.p4).eY;obtain ⟨g4,hs4,_⟩:=q4;subst hs4;subst hsh;have hs:=hs.p4.p2.p4.p4.p4;obtain ⟨K,OC,hs,ayk,ayl⟩:=Xh (room:=room) (sh:=(⟨s1,u.stays,s2,u.locks,s3,⟨u.recover.aK,u.recover.counts,g4⟩,s5⟩:dO)) hs
   refine bI amw hs (H':=λ _=>eK K BY (lM (ld u room) lB)) (Φ:=λ _ _=>True) (λ F2 eN ey=>?_) ?_
   ·exact (C55 K BY (ld u room) N u.threads lB _ OC F2 _ eN (λ w' hc=>(ey w' hc).eY) ⟨hr1,Gq⟩ AX.lk (λ w' hc=>ayk w' (ey w' hc).eY) ayl AX.co AX.b hz.threads).mono λ _ _ r=>r.mono λ _ _ h=>⟨trivial,h.2⟩
   rintro _ w8 _ hs;have hs:=((hs.p2.drop.p2.drop).p1).p1;exact .inr (.inr ⟨by simpa using gJ,hr1,Gq,K,BY,rfl,(St.join hs).fresh⟩)
set_option maxHeartbeats 2000000 in
theorem C17 (K:World→Prop) (p:Nat) (m:gO) (N:Nat) (q:fa) (gc:SV) (m2:gO) (ev:dA) (e:Int) (F:Nat→Prop) (w:World) (hF:(eK K p m).p w F) (hK:∀ w',iH F w w'→K w') (mC:rQ m) (tH:MB m.mem 1000000) (hcb:0≤m.fG∧m.fG≤1000000) (aym:BE m.u.recover) (ML:0≤m.u.locks∧m.u.locks≤1000) (AG:∀ w',iH F w w'→eL (λ _=>True) w' (Flat.val gc) q.cut) (hql:q.cut.length≤1000) (hd:Cd N m q=some (m2,ev,e)):CR 17 [(.pointer (some ⟨p,0,none⟩)),Flat.val (⟨q.kind,q.t,q.i,gc⟩:fU)] w (λ v w'=>v = .tuple #[Flat.val ev,.int .i64 e]∧qx F (eK K p m2) w w'):=by
 have hs:=St.begin hF;obtain ⟨a,hu,hs⟩:=eK.open hs;have wO:=hs.p4.ly;refine agA _ _ _ _ ?_;unfold S17;refine dE (x:=(⟨q.kind,q.t,q.i,gc⟩:fU)) hs (λ wz w1 hs=>aO hs lI (λ Cq w2 hs=>?_));refine ⟨_,?_,λ _ _ h=>h⟩;refine aA pk (have hs:=hs.drew;aB (v:=.int .i64 q.kind) bN hs.p1.hb rfl (aH (aC (λ gr=>?_) (λ gr=>?_))))
 ·refine aA jM (aB (v:=.int .i64 q.t) bN hs.p1.hb rfl (aH (aC (λ j7=>?_) (λ j7=>?_))))
  ·refine aA xe (aB (v:=.int .i64 q.i) bN hs.p1.hb rfl (aH (aC (λ gj=>?_) (λ gj=>?_))))
   ·refine aF (aA nQ (aB bN hs.p2.hb rfl (aH (aC (λ fH=>?_) (λ fH=>?_)))))
    ·refine aF (aA jN (aB sm hs.p2.hb rfl (aA zC (aB (v:=Flat.val (gc:SV)) er hs.p1.hb rfl (bI auy hs.p3 (H':=λ v=>ua λ m2=>fact (Xj m.mem q.cut v m2) (fW a.q a.ov a.fv m2)) (Φ:=λ _ _=>True) (λ F2 eN ey=>?_) ?_)))))
     ·exact (C58 a.q a.ov a.fv m.mem F2 q.cut _ _ eN (λ w' hc=>hu.mem _ (hK w' (ey w' hc).aE)) mC.mem tH (λ w' hc=>AG w' (ey w' hc).aE) hql).mono λ _ _ r=>r.mono λ _ _ h=>SD h
     rintro v34 w3 _ AH;obtain ⟨m2c,AI⟩:=AH.eQ
     clear AH
     obtain ⟨hcf,CT⟩:=AI.oD
     clear AI
     rcases hcf with ⟨him,rfl,rfl⟩ | ⟨qh,him,rfl,rfl⟩
     ·have hs:=CT;have yD:gR m q=none:=by unfold gR; rw [if_pos ⟨gr,j7,gj,fH⟩]; exact him
      refine aH ?_;intro fu;refine gq (by decide) (have hs:=eK.shut (m:=m) hu hs.p6.p6.p6.p3.p6;dG FG hs (C16 K p m _ hs.has (hK _ hs.aE) (λ w2 e=>hK _ (hs.aE.then e)) mC) (λ x58 qd cA hs=>?_));have Wp:=hs.p3.At;have KF:nZ PG _ (.func (.func 60) [].toArray [.pointer (some ⟨wz,0,none⟩)].toArray) (λ _:fa=>True) (iW q):=
 ⟨60,[],_,rfl,TQ,λ sx y w1 e1 QX _=>C60 y q sx wz (⟨q.kind,q.t,q.i,gc⟩:fU) w1 QX (Wp.ext e1) ⟨gc,rfl,DL.fp (AG _ (hs.aE.then e1))⟩⟩
      refine aZ TR hs (C61 _ _ _ (λ _=>True) _ _ (hs).dl KF (λ _ _=>trivial) (by have:=rR mC; omega)) (λ tG he hs=>bZ (aY (λ kz=>?_) (λ kz=>?_)))
      ·refine pop (Dz) (aI (x:=(⟨0,0,0,0,0⟩:dA)) hs.p2 eW rfl rfl (λ vt hs=>aD eW hs.At ?_));have hs:=((((hs.drop)).drop).p1).drop;obtain ⟨rfl,rfl,rfl⟩:=qJ hd yD (by simpa using kz);exact ⟨rfl,hs.mut⟩
      ·have qQ:(eV m).any (iW q)=true:=by simpa using kz
       obtain ⟨h0,t,ht⟩:=tA qQ;refine aA pk (aB (v:=.int .i64 q.kind) bN hs.p3.hb rfl (aH (aC (λ nh=>?_) (λ nh=>?_))))
       ·refine aD vT hs.p3.At ?_;obtain ⟨rfl,rfl,rfl⟩:=pA hd yD qQ nh ht;have hs:=hs.p1;refine bI TS hs (H':=λ _=>eK K p (mD m t q)) (Φ:=λ v _=>v=Flat.val (pS q.t (ee t.buf q.i))) (λ F2 eN ey=>?_) ?_
        ·exact C62 K p m q (⟨q.kind,q.t,q.i,gc⟩:fU) t F2 _ eN (λ w' hc=>hK w' (ey w' hc).aE) mC tH ⟨gc,rfl,DL.fp (AG _ hs.aE)⟩ h0 ht
        rintro _ uU rfl hs;refine aI (x:=(pS q.t (ee t.buf q.i))) hs.p2 eW rfl rfl (λ sw hs=>aD eW hs.At ?_);have hs:=(((hs.drop.p1).drop).p1).drop;exact ⟨rfl,hs.mut⟩
       ·refine aA jM (aB (v:=.int .i64 q.t) bN hs.p3.hb rfl ?_);obtain ⟨sO,rfl⟩:=ng hd yD qQ nh;have hs:=hs.p1;refine bI TT hs (H':=λ _=>eK K p m2) (Φ:=λ v _=>v=Flat.val ev) (λ F2 eN ey=>?_) ?_
        ·exact C63 K p m N q.t t m2 ev F2 _ eN (λ w' hc=>hK w' (ey w' hc).aE) mC tH h0 ht sO
        rintro _ wc rfl hs;refine aI (x:=ev) hs.p2 eW rfl rfl (λ ze hs=>aD eW hs.At ?_);have hs:=(((hs.drop.p1).drop).p1).drop;exact ⟨rfl,hs.mut⟩
     ·have hs:=CT;have yD:gR m q=some qh:=by unfold gR; rw [if_pos ⟨gr,j7,gj,fH⟩]; exact him
      refine aH ?_;intro fu;refine fS (by decide) (aF (aA Dt (aB bN hs.p3.hb rfl (aN (by omega) (aF (aA Dt (aV hs.p3 bN (eE rfl) (rfl) (λ w5 hs=>aF (aA tQ (aA zB (xh (⟨m.u.recover.aK,m.u.recover.counts,a.rcl⟩:cL) qa hs.hb rfl (bX ([(⟨m.u.recover.aK,m.u.recover.counts,a.rcl⟩:cL)]) hs Be rfl rfl (eE rfl) (λ VA w6 hs=>?_)))))))))))));have hs:=eK.shut (m:=(yY m qh)) ⟨hu.ln,hu.cl,hu.rc,hu.mem⟩ hs.p7.p7.p7.p5.p5;obtain ⟨t2,hg,rfl,rfl,rfl⟩:=uB hd yD;have hs:=hs.p1.p1;refine bI amw hs (H':=λ _=>eK K p (lM (yY m qh) [t2])) (Φ:=λ _ _=>True) (λ F2 eN ey=>?_) ?_
      ·exact (C55 K p (yY m qh) N [m.u.recover] [t2] _ [(⟨m.u.recover.aK,m.u.recover.counts,a.rcl⟩:cL)] F2 _ eN (λ w' hc=>hK w' (ey w' hc).aE) mC.rm ML (λ w' hc=>(ey w' hc).fM) ⟨rfl,λ j cv c h1 h2=>by cases j with | zero=>(simp at h1 h2; subst h1 h2; exact ⟨a.rcl,rfl,hu.rc⟩) | succ j=>simp at h1⟩ (by simpa using aym) ⟨rfl,λ j c t h1 h2=>by cases j with | zero=>(simp at h1 h2; subst h1 h2; exact hg) | succ j=>simp at h1⟩ (by simp)).mono λ _ _ r=>r.mono λ _ _ h=>⟨trivial,h.2⟩
      rintro _ w7 _ hs;refine aA zC (aB (v:=Flat.val (gc:SV)) er hs.p3.hb rfl (aZ auz hs (C59 _ q.cut _ (AG _ hs.aE) (by omega)) (λ w8 he hs=>pop (tZ _ _) (aI (x:=(⟨15,0,0,(AB q.cut q.cut.length),0⟩:dA)) hs.p2 eW rfl rfl (λ w9 hs=>aD eW hs.At ?_)))));have hs:=(((hs.drop.p1).drop).p1).drop;exact ⟨rfl,hs.mut⟩
    ·have yD:gR m q=none:=by unfold gR; rw [if_neg (by exact λ h=>fH h.2.2.2)]
     intro fu;refine fN (have hs:=eK.shut (m:=m) hu hs.p6.p6.p6.p6.p6;dG FG hs (C16 K p m _ hs.has (hK _ hs.aE) (λ w2 e=>hK _ (hs.aE.then e)) mC) (λ x58 qd cA hs=>?_));have Wp:=hs.p3.At;have KF:nZ PG _ (.func (.func 60) [].toArray [.pointer (some ⟨wz,0,none⟩)].toArray) (λ _:fa=>True) (iW q):=
 ⟨60,[],_,rfl,TQ,λ sx y w1 e1 QX _=>C60 y q sx wz (⟨q.kind,q.t,q.i,gc⟩:fU) w1 QX (Wp.ext e1) ⟨gc,rfl,DL.fp (AG _ (hs.aE.then e1))⟩⟩
     refine aZ TR hs (C61 _ _ _ (λ _=>True) _ _ (hs).dl KF (λ _ _=>trivial) (by have:=rR mC; omega)) (λ tG he hs=>bZ (aY (λ kz=>?_) (λ kz=>?_)))
     ·refine pop (Dz) (aI (x:=(⟨0,0,0,0,0⟩:dA)) hs.p2 eW rfl rfl (λ vt hs=>aD eW hs.At ?_));have hs:=((((hs.drop)).drop).p1).drop;obtain ⟨rfl,rfl,rfl⟩:=qJ hd yD (by simpa using kz);exact ⟨rfl,hs.mut⟩
     ·have qQ:(eV m).any (iW q)=true:=by simpa using kz
      obtain ⟨h0,t,ht⟩:=tA qQ;refine aA pk (aB (v:=.int .i64 q.kind) bN hs.p3.hb rfl (aH (aC (λ nh=>?_) (λ nh=>?_))))
      ·refine aD vT hs.p3.At ?_;obtain ⟨rfl,rfl,rfl⟩:=pA hd yD qQ nh ht;have hs:=hs.p1;refine bI TS hs (H':=λ _=>eK K p (mD m t q)) (Φ:=λ v _=>v=Flat.val (pS q.t (ee t.buf q.i))) (λ F2 eN ey=>?_) ?_
       ·exact C62 K p m q (⟨q.kind,q.t,q.i,gc⟩:fU) t F2 _ eN (λ w' hc=>hK w' (ey w' hc).aE) mC tH ⟨gc,rfl,DL.fp (AG _ hs.aE)⟩ h0 ht
       rintro _ uU rfl hs;refine aI (x:=(pS q.t (ee t.buf q.i))) hs.p2 eW rfl rfl (λ sw hs=>aD eW hs.At ?_);have hs:=(((hs.drop.p1).drop).p1).drop;exact ⟨rfl,hs.mut⟩
      ·refine aA jM (aB (v:=.int .i64 q.t) bN hs.p3.hb rfl ?_);obtain ⟨sO,rfl⟩:=ng hd yD qQ nh;have hs:=hs.p1;refine bI TT hs (H':=λ _=>eK K p m2) (Φ:=λ v _=>v=Flat.val ev) (λ F2 eN ey=>?_) ?_
       ·exact C63 K p m N q.t t m2 ev F2 _ eN (λ w' hc=>hK w' (ey w' hc).aE) mC tH h0 ht sO
       rintro _ wc rfl hs;refine aI (x:=ev) hs.p2 eW rfl rfl (λ ze hs=>aD eW hs.At ?_);have hs:=(((hs.drop.p1).drop).p1).drop;exact ⟨rfl,hs.mut⟩
   ·have yD:gR m q=none:=by unfold gR; rw [if_neg (by exact λ h=>gj h.2.2.1)]
    intro fu;refine fN (have hs:=eK.shut (m:=m) hu hs.p6.p6.p6.p6.p6;dG FG hs (C16 K p m _ hs.has (hK _ hs.aE) (λ w2 e=>hK _ (hs.aE.then e)) mC) (λ x58 qd cA hs=>?_));have Wp:=hs.p3.At;have KF:nZ PG _ (.func (.func 60) [].toArray [.pointer (some ⟨wz,0,none⟩)].toArray) (λ _:fa=>True) (iW q):=
 ⟨60,[],_,rfl,TQ,λ sx y w1 e1 QX _=>C60 y q sx wz (⟨q.kind,q.t,q.i,gc⟩:fU) w1 QX (Wp.ext e1) ⟨gc,rfl,DL.fp (AG _ (hs.aE.then e1))⟩⟩
    refine aZ TR hs (C61 _ _ _ (λ _=>True) _ _ (hs).dl KF (λ _ _=>trivial) (by have:=rR mC; omega)) (λ tG he hs=>bZ (aY (λ kz=>?_) (λ kz=>?_)))
    ·refine pop (Dz) (aI (x:=(⟨0,0,0,0,0⟩:dA)) hs.p2 eW rfl rfl (λ vt hs=>aD eW hs.At ?_));have hs:=((((hs.drop)).drop).p1).drop;obtain ⟨rfl,rfl,rfl⟩:=qJ hd yD (by simpa using kz);exact ⟨rfl,hs.mut⟩
    ·have qQ:(eV m).any (iW q)=true:=by simpa using kz
     obtain ⟨h0,t,ht⟩:=tA qQ;refine aA pk (aB (v:=.int .i64 q.kind) bN hs.p3.hb rfl (aH (aC (λ nh=>?_) (λ nh=>?_))))
     ·refine aD vT hs.p3.At ?_;obtain ⟨rfl,rfl,rfl⟩:=pA hd yD qQ nh ht;have hs:=hs.p1;refine bI TS hs (H':=λ _=>eK K p (mD m t q)) (Φ:=λ v _=>v=Flat.val (pS q.t (ee t.buf q.i))) (λ F2 eN ey=>?_) ?_
      ·exact C62 K p m q (⟨q.kind,q.t,q.i,gc⟩:fU) t F2 _ eN (λ w' hc=>hK w' (ey w' hc).aE) mC tH ⟨gc,rfl,DL.fp (AG _ hs.aE)⟩ h0 ht
      rintro _ uU rfl hs;refine aI (x:=(pS q.t (ee t.buf q.i))) hs.p2 eW rfl rfl (λ sw hs=>aD eW hs.At ?_);have hs:=(((hs.drop.p1).drop).p1).drop;exact ⟨rfl,hs.mut⟩
     ·refine aA jM (aB (v:=.int .i64 q.t) bN hs.p3.hb rfl ?_);obtain ⟨sO,rfl⟩:=ng hd yD qQ nh;have hs:=hs.p1;refine bI TT hs (H':=λ _=>eK K p m2) (Φ:=λ v _=>v=Flat.val ev) (λ F2 eN ey=>?_) ?_
      ·exact C63 K p m N q.t t m2 ev F2 _ eN (λ w' hc=>hK w' (ey w' hc).aE) mC tH h0 ht sO
      rintro _ wc rfl hs;refine aI (x:=ev) hs.p2 eW rfl rfl (λ ze hs=>aD eW hs.At ?_);have hs:=(((hs.drop.p1).drop).p1).drop;exact ⟨rfl,hs.mut⟩
  ·have yD:gR m q=none:=by unfold gR; rw [if_neg (by exact λ h=>j7 h.2.1)]
   intro fu;refine fN (have hs:=eK.shut (m:=m) hu hs.p6.p6.p6.p6.p6;dG FG hs (C16 K p m _ hs.has (hK _ hs.aE) (λ w2 e=>hK _ (hs.aE.then e)) mC) (λ x58 qd cA hs=>?_));have Wp:=hs.p3.At;have KF:nZ PG _ (.func (.func 60) [].toArray [.pointer (some ⟨wz,0,none⟩)].toArray) (λ _:fa=>True) (iW q):=
 ⟨60,[],_,rfl,TQ,λ sx y w1 e1 QX _=>C60 y q sx wz (⟨q.kind,q.t,q.i,gc⟩:fU) w1 QX (Wp.ext e1) ⟨gc,rfl,DL.fp (AG _ (hs.aE.then e1))⟩⟩
   refine aZ TR hs (C61 _ _ _ (λ _=>True) _ _ (hs).dl KF (λ _ _=>trivial) (by have:=rR mC; omega)) (λ tG he hs=>bZ (aY (λ kz=>?_) (λ kz=>?_)))
   ·refine pop (Dz) (aI (x:=(⟨0,0,0,0,0⟩:dA)) hs.p2 eW rfl rfl (λ vt hs=>aD eW hs.At ?_));have hs:=((((hs.drop)).drop).p1).drop;obtain ⟨rfl,rfl,rfl⟩:=qJ hd yD (by simpa using kz);exact ⟨rfl,hs.mut⟩
   ·have qQ:(eV m).any (iW q)=true:=by simpa using kz
    obtain ⟨h0,t,ht⟩:=tA qQ;refine aA pk (aB (v:=.int .i64 q.kind) bN hs.p3.hb rfl (aH (aC (λ nh=>?_) (λ nh=>?_))))
    ·refine aD vT hs.p3.At ?_;obtain ⟨rfl,rfl,rfl⟩:=pA hd yD qQ nh ht;have hs:=hs.p1;refine bI TS hs (H':=λ _=>eK K p (mD m t q)) (Φ:=λ v _=>v=Flat.val (pS q.t (ee t.buf q.i))) (λ F2 eN ey=>?_) ?_
     ·exact C62 K p m q (⟨q.kind,q.t,q.i,gc⟩:fU) t F2 _ eN (λ w' hc=>hK w' (ey w' hc).aE) mC tH ⟨gc,rfl,DL.fp (AG _ hs.aE)⟩ h0 ht
     rintro _ uU rfl hs;refine aI (x:=(pS q.t (ee t.buf q.i))) hs.p2 eW rfl rfl (λ sw hs=>aD eW hs.At ?_);have hs:=(((hs.drop.p1).drop).p1).drop;exact ⟨rfl,hs.mut⟩
    ·refine aA jM (aB (v:=.int .i64 q.t) bN hs.p3.hb rfl ?_);obtain ⟨sO,rfl⟩:=ng hd yD qQ nh;have hs:=hs.p1;refine bI TT hs (H':=λ _=>eK K p m2) (Φ:=λ v _=>v=Flat.val ev) (λ F2 eN ey=>?_) ?_
     ·exact C63 K p m N q.t t m2 ev F2 _ eN (λ w' hc=>hK w' (ey w' hc).aE) mC tH h0 ht sO
     rintro _ wc rfl hs;refine aI (x:=ev) hs.p2 eW rfl rfl (λ ze hs=>aD eW hs.At ?_);have hs:=(((hs.drop.p1).drop).p1).drop;exact ⟨rfl,hs.mut⟩
 ·have yD:gR m q=none:=by unfold gR; rw [if_neg (by exact λ h=>gr h.1)]
  intro fu;refine fN (have hs:=eK.shut (m:=m) hu hs.p6.p6.p6.p6.p6;dG FG hs (C16 K p m _ hs.has (hK _ hs.aE) (λ w2 e=>hK _ (hs.aE.then e)) mC) (λ x58 qd cA hs=>?_));have Wp:=hs.p3.At;have KF:nZ PG _ (.func (.func 60) [].toArray [.pointer (some ⟨wz,0,none⟩)].toArray) (λ _:fa=>True) (iW q):=
 ⟨60,[],_,rfl,TQ,λ sx y w1 e1 QX _=>C60 y q sx wz (⟨q.kind,q.t,q.i,gc⟩:fU) w1 QX (Wp.ext e1) ⟨gc,rfl,DL.fp (AG _ (hs.aE.then e1))⟩⟩
  refine aZ TR hs (C61 _ _ _ (λ _=>True) _ _ (hs).dl KF (λ _ _=>trivial) (by have:=rR mC; omega)) (λ tG he hs=>bZ (aY (λ kz=>?_) (λ kz=>?_)))
  ·refine pop (Dz) (aI (x:=(⟨0,0,0,0,0⟩:dA)) hs.p2 eW rfl rfl (λ vt hs=>aD eW hs.At ?_));have hs:=((((hs.drop)).drop).p1).drop;obtain ⟨rfl,rfl,rfl⟩:=qJ hd yD (by simpa using kz);exact ⟨rfl,hs.mut⟩
  ·have qQ:(eV m).any (iW q)=true:=by simpa using kz
   obtain ⟨h0,t,ht⟩:=tA qQ;refine aA pk (aB (v:=.int .i64 q.kind) bN hs.p3.hb rfl (aH (aC (λ nh=>?_) (λ nh=>?_))))
   ·refine aD vT hs.p3.At ?_;obtain ⟨rfl,rfl,rfl⟩:=pA hd yD qQ nh ht;have hs:=hs.p1;refine bI TS hs (H':=λ _=>eK K p (mD m t q)) (Φ:=λ v _=>v=Flat.val (pS q.t (ee t.buf q.i))) (λ F2 eN ey=>?_) ?_
    ·exact C62 K p m q (⟨q.kind,q.t,q.i,gc⟩:fU) t F2 _ eN (λ w' hc=>hK w' (ey w' hc).aE) mC tH ⟨gc,rfl,DL.fp (AG _ hs.aE)⟩ h0 ht
    rintro _ uU rfl hs;refine aI (x:=(pS q.t (ee t.buf q.i))) hs.p2 eW rfl rfl (λ sw hs=>aD eW hs.At ?_);have hs:=(((hs.drop.p1).drop).p1).drop;exact ⟨rfl,hs.mut⟩
   ·refine aA jM (aB (v:=.int .i64 q.t) bN hs.p3.hb rfl ?_);obtain ⟨sO,rfl⟩:=ng hd yD qQ nh;have hs:=hs.p1;refine bI TT hs (H':=λ _=>eK K p m2) (Φ:=λ v _=>v=Flat.val ev) (λ F2 eN ey=>?_) ?_
    ·exact C63 K p m N q.t t m2 ev F2 _ eN (λ w' hc=>hK w' (ey w' hc).aE) mC tH h0 ht sO
    rintro _ wc rfl hs;refine aI (x:=ev) hs.p2 eW rfl rfl (λ ze hs=>aD eW hs.At ?_);have hs:=(((hs.drop.p1).drop).p1).drop;exact ⟨rfl,hs.mut⟩
def Ce (t:fx):Bool:=(gZ t).isNone && decide (t.buf.length=0)
def pW (m:gO):Bool:=decide (m.fault=0) && !(List.range m.l.length).any λ i=>match m.l[i]? with | some t=>!Ce t | none=>false
def rS (m:gO):Bool:=decide (m.fault=0) && (!pW m && decide (((eV m).length:Int)=0))
def gS (m:gO):iX:=⟨m.fG,m.fault,m.mQ,pW m,rS m⟩
def yZ (m:gO) (l:List nt):Bool:=decide ((runM l (m.mem.l.take m.u.stays.toNat)).2=0) && decide ((runM l (m.mem.l.take m.u.stays.toNat)).1≠0)
def CU (m:gO):List Bool:=m.u.cB.map (yZ m)
theorem tM.ext {w w':World} {b:Nat} {cs:List Value} (h:tM w b cs) (e:Ext w w'):tM w' b cs:=h.of_eq (e.cC b h.lt λ h=>h)
theorem OF {a:MA} {m:gO} (h1:r7 a.lk=true) (h2:r7 a.ll=true):∀ v∈j1 a m,r7 v=true:=by
 intro v hv
 simp only [List.mem_cons,List.not_mem_nil,or_false] at hv
 rcases hv with rfl | rfl | rfl | rfl | rfl | rfl | rfl | rfl | rfl | rfl | rfl | rfl | rfl | rfl | rfl | rfl <;> first | rfl | exact h1 | exact h2
theorem OG {bp:Nat} {c:fm} {gl rg cn:Value} {x f e g:Int} (h1:r7 gl=true) (h2:r7 rg=true) (h3:r7 cn=true) :
  ∀ v∈[Value.pointer (some ⟨bp,0,none⟩),.int .i64 c.aK,.int .i64 c.counts,gl,.int .i64 x,rg,cn,.int .i64 f,.int .i64 e,.int .i64 g],r7 v=true:=by
 intro v hv
 simp only [List.mem_cons,List.not_mem_nil,or_false] at hv
 rcases hv with rfl | rfl | rfl | rfl | rfl | rfl | rfl | rfl | rfl | rfl <;> first | rfl | exact h1 | exact h2 | exact h3
theorem Hl {n k:Nat} (h:k<n):(List.range n)[k]? = some k:=List.getElem?_range h
theorem C64 (K:World→Prop) (p:Nat) (room:Int) (t:fx) (w:World) (hh:Has (eD K p room t) w) (vH:∀ w',Ext w w'→K w') (oF:He t):CR 64 [(.pointer (some ⟨p,0,none⟩))] w (λ v w'=>v = .bool (Ce t)∧Ext w w'):=by
 obtain ⟨bp,gl,rg,cn,_,qi,hB,B4,hcn⟩:=eD.rd hh;have ct0:=qi.cell (o:=0) rfl;have hs:=St.start w;refine ahe _ _ _ ?_;unfold S64;refine eu YN (C65 K p room t _ (hh.ext hs.aE) (vH _ hs.aE) oF) ?_;rintro v_x7 w1 ara
 rcases ara with ⟨vA,rfl,he⟩ | ⟨x,xv,vA,hxv,rfl,he⟩
 ·have hs:=hs.ext he;refine bG rfl (bG rfl (aO hs mB (λ Ey w2 hs=>have hs:=hs.enc (cs':=Flat.enc (⟨0,0,0,⟨none,0,0⟩,⟨none,0,0⟩,0⟩:bU)) rfl;aI (x:=(⟨0,0,0,⟨none,0,0⟩,⟨none,0,0⟩,0⟩:bU)) hs lR rfl rfl (λ w3 hs=>?_))));refine ⟨_,?_,λ _ _ h=>h⟩;refine bZ (nN (aZ ahq hs (C66 K p room t _ (hh.ext hs.aE) oF.bl) (λ w4 he hs=>?_)));intro fu;refine ⟨vb ?_,by first | exact hs.aE | exact hs.drop.aE⟩;unfold Ce;rw [vA]
  rfl
 ·have hs:=hs.ext he;obtain ⟨ge,gf,rfl,_,_⟩:=hxv _ (vH _ hs.aE);refine bG rfl (bG rfl (aO hs mB (λ Ey w2 hs=>have hs:=hs.enc (cs':=Flat.enc (⟨0,0,0,⟨none,0,0⟩,⟨none,0,0⟩,0⟩:bU)) rfl;aI (x:=(⟨x.kind,x.a,x.b,ge,gf,x.to⟩:bU)) hs lR rfl rfl (λ w3 hs=>?_))));refine ⟨_,?_,λ _ _ h=>h⟩;refine bZ (fN ?_);intro fu;refine ⟨vb ?_,by first | exact hs.aE | exact hs.drop.aE⟩;unfold Ce;rw [vA]
  rfl
theorem C68 (K:World→Prop) (p:Nat) (room:Int) (t:fx) (b:Nat) (w:World) (hh:Has (eD K p room t) w) (vH:∀ w',Ext w w'→K w') (oF:He t) (hc:Cell w b 0 (OB 64)):CR 68 [(.pointer (some ⟨p,0,none⟩)),(.pointer (some ⟨b,0,none⟩))] w (λ v w'=>v = .bool (!Ce t)∧Ext w w'):=by
 have hs:=St.start w;refine ahi _ _ _ _ ?_;unfold S68;refine cG aeJ (hc.ext hs.aE) (gg (first:=[]) (cap:=[]) auA (C64 K p room t _ (hh.ext hs.aE) (λ w2 e=>vH _ (Ext.trans hs.aE e)) oF) ?_);rintro _ w1 ⟨rfl,he⟩;have hs:=hs.ext he;refine bZ ?_;exact ⟨rfl,hs.aE⟩
theorem C136 (sv:Value) (ps:List Ptr) (g0:Nat) (first cap:List Value) (g:Nat→Bool) (w:World) (hL:eL (λ _=>True) w sv ps) (uH:Plain PG g0) (l4:∀ (i:Nat) (s:Ptr) (w1:World),ps[i]? = some s→Ext w w1→Calls PG g0 (first++[Flat.val s]++cap).toArray w1 (qp λ v w2=>v = .bool (g i)∧Ext w1 w2)) (hn:ps.length≤1073741824):CR 136 [sv,(.func (.func g0) first.toArray cap.toArray)] w (λ v w'=>v = .int .i64 (uV g (List.range ps.length))∧Ext w w'):=by
 have hs:=St.start w;refine Zq _ _ _ _ ?_;unfold S136;refine aJ sn (hL.ext hs.aE) ?_;refine ⟨λ m x w1=>∃ k:Nat,x = .int .i64 (k:Int)∧m=ps.length - k∧k≤ps.length∧(∀ y∈(List.range ps.length).take k,g y=false)∧St w bD [] w1,⟨_,0,rfl,rfl,Nat.zero_le _,by simp,hs⟩,?_⟩;rintro m _ w1 ⟨k,rfl,rfl,hk,fQ,hs⟩ fu;refine aR (aC (λ gr=>?_) (λ gr=>?_))
 ·obtain ⟨js,dD⟩:=gx (ps) (i:=((k:Int)).toNat) (by omega);refine aQ sn hL (by omega) dD (λ _ iT=>aD BU (iT.ext hs.aE) (gg uH (l4 k js w1 dD hs.aE) ?_));rintro _ w2 ⟨rfl,he⟩;have hs:=hs.ext he;refine aY (λ eM=>?_) (λ eM=>?_)
  ·exact ⟨congrArg (Value.int .i64) (pq fQ (Hl (by omega)) eM).symm,hs.aE⟩
  ·refine aN (by omega) ?_;exact ⟨_,by omega,k+1,rfl,rfl,by omega,ew fQ (Hl (by omega)) eM,hs⟩
 ·exact ⟨congrArg (Value.int .i64) (ku (by rw [List.take_of_length_le (by rw [List.length_range]; omega)] at fQ; exact fQ)).symm,hs.aE⟩
theorem C67 (sv:Value) (ps:List Ptr) (g0:Nat) (first cap:List Value) (g:Nat→Bool) (w:World) (hL:eL (λ _=>True) w sv ps) (uH:Plain PG g0) (l4:∀ (i:Nat) (s:Ptr) (w1:World),ps[i]? = some s→Ext w w1→Calls PG g0 (first++[Flat.val s]++cap).toArray w1 (qp λ v w2=>v = .bool (g i)∧Ext w1 w2)) (hn:ps.length≤1073741824):CR 67 [sv,(.func (.func g0) first.toArray cap.toArray)] w (λ v w'=>v = .bool ((List.range ps.length).any g)∧Ext w w'):=by
 have hs:=St.start w;refine ahh _ _ _ _ ?_;unfold S67;refine aZ amR hs (C136 _ ps g0 first cap g _ (hL.ext hs.aE) uH (λ i s2 w2 h e=>l4 i s2 w2 h (Ext.trans hs.aE e)) (by omega)) (λ w1 he hs=>dI ?_);exact ⟨vb (n8 _ _),hs.aE⟩
theorem C18 (K:World→Prop) (p:Nat) (m:gO) (w:World) (hm:Has (eK K p m) w) (hw:K w) (vH:∀ w',Ext w w'→K w') (mC:rQ m):CR 18 [(.pointer (some ⟨p,0,none⟩))] w (λ v w'=>v=Flat.val (gS m)∧Ext w w'):=by
 obtain ⟨a,hr⟩:=eK.rd hm hw;have cm8:=hr.b.cell (o:=8) rfl;have cm0:=hr.b.cell (o:=0) rfl;have Yt:=hr.b.cell (o:=1) rfl;have cm3:=hr.b.cell (o:=3) rfl;have cm9:=hr.b.cell (o:=9) rfl;have Cs:=hr.b.cell (o:=10) rfl;have E5:=hr.b.cell (o:=11) rfl;have BH:=hr.b.cell (o:=12) rfl;have F5:=hr.b.cell (o:=13) rfl;have Az:=hr.b.cell (o:=14) rfl;have F6:=hr.b.cell (o:=15) rfl;have hs:=St.start w;refine agB _ _ _ ?_;unfold S18;refine aO hs Ds (λ me w1 hs=>yx hs abf rfl (λ Jj w2 hs=>aV hs aeJ (eE rfl) (rfl) (λ w3 hs=>aF (aA Dt (have hs:=hs.drew;cG bN (F5.ext hs.aE) (aF (aA nQ (cG bN (Az.ext hs.aE) (aF (aA Du (cG bN (F6.ext hs.aE) (pop (KB _ _ _) ?_))))))))))))
 refine aO hs Ds (λ arb w4 hs=>?_);refine ⟨aG bN (F5.ext hs.aE),?_⟩;refine ⟨aG bN (Az.ext hs.aE),?_⟩;refine ⟨aG bN (F6.ext hs.aE),?_⟩;refine aI (x:=(⟨m.fG,m.fault,m.mQ,false,false⟩:iX)) hs Ii rfl rfl (λ w5 hs=>?_);refine ⟨λ w'=>St w bD [cC arb (Flat.enc (⟨m.fG,m.fault,m.mQ,pW m,false⟩:iX)),cC Jj [OB 64],cC me (Flat.enc (⟨0,0,0,false,false⟩:iX))] w',?_,?_⟩
 ·refine aF (aA nQ (cG bN (Az.ext hs.aE) (aH (aC (λ iS=>?_) (λ iS=>?_)))))
  ·refine aF (aA km (cG qX (BH.ext hs.aE) ?_));refine aZ auB hs (C67 _ a.ps 68 [] [.pointer (some ⟨Jj,0,none⟩)] (λ i=>match m.l[i]? with | some t=>!Ce t | none=>false) _ (hr.ll.ext hs.aE) auC (λ i s2 w2 h e=>by
  obtain ⟨t,ht⟩:∃ t,m.l[i]? = some t:=⟨_,List.getElem?_eq_getElem (by have:=(List.getElem?_eq_some_iff.1 h).1; have:=hr.len; omega)⟩;rw [ht]
  exact C68 K s2.b m.room t Jj w2 ((hr.th i s2 t h ht).ext (Ext.trans hs.aE e)) (λ w3 e3=>vH _ (Ext.trans (Ext.trans hs.aE e) e3)) (mC.th t (List.mem_of_getElem? ht)) ((hs.p1.hb.cell rfl).ext e)) (by have:=hr.len; have:=mC.tl; omega)) (λ w6 he hs=>?_)
   refine bZ (aA CG (aV hs PV (eE rfl) (rfl) (λ w7 hs=>?_)));have hs:=hs.enc (cs':=Flat.enc ({ (⟨m.fG,m.fault,m.mQ,false,false⟩:iX) with done:=(!((List.range a.ps.length).any (λ i=>match m.l[i]? with | some t=>!Ce t | none=>false)))}:iX)) rfl;have hs:=hs.p2.p2.p2;have hdm:pW m = !((List.range a.ps.length).any (λ i=>match m.l[i]? with | some t=>!Ce t | none=>false)):=by unfold pW; rw [decide_eq_true iS,hr.len]; rfl
   rw [hdm];exact hs
  ·refine aA CG (aV hs PV (eE rfl) (rfl) (λ w8 hs=>?_));have hs:=hs.enc (cs':=Flat.enc ({ (⟨m.fG,m.fault,m.mQ,false,false⟩:iX) with done:=false}:iX)) rfl;have hs:=hs.p2.p2.p2;have hdm:pW m=false:=by unfold pW; rw [decide_eq_false iS]; rfl
   rw [hdm];exact hs
 ·intro w9 hs fu;refine ⟨λ w'=>St w bD [cC arb (Flat.enc (gS m)),cC me (Flat.enc (⟨0,0,0,false,false⟩:iX))] w',?_,?_⟩
  ·refine aF (aA nQ (cG bN (Az.ext hs.aE) (aH (aC (λ ud=>?_) (λ ud=>?_)))))
   ·refine aA CG (aB (v:=.bool (((⟨m.fG,m.fault,m.mQ,pW m,false⟩:iX)).done)) PV hs.hb rfl (bZ (aY (λ kK=>?_) (λ kK=>?_))))
    ·refine dG FG hs (C16 K p m _ (hm.ext hs.aE) (vH _ hs.aE) (λ w2 e=>vH _ (Ext.trans hs.aE e)) mC) (λ x45 qd cA hs=>?_);obtain ⟨ayq,aj8,aj9,_⟩:=(hs).dl;refine aJ oQ aj8 ?_;rw [aj9];refine aH (aA CH (aV hs.p1 PV (eE rfl) (rfl) (λ tG hs=>?_)));have hs:=hs.enc (cs':=Flat.enc ({ (⟨m.fG,m.fault,m.mQ,pW m,false⟩:iX) with stuck:=(decide (((eV m).length:Int)=0))}:iX)) rfl;have hs:=((hs.p1.drop.p1.drop).p1).p1;have Yq:rS m=(decide (((eV m).length:Int)=0)):=by unfold rS; rw [decide_eq_true ud,show pW m=false from by simpa using kK]; rfl
     unfold gS;rw [Yq];exact hs
    ·refine aA CH (aV hs PV (eE rfl) (rfl) (λ vt hs=>?_));have hs:=hs.enc (cs':=Flat.enc ({ (⟨m.fG,m.fault,m.mQ,pW m,false⟩:iX) with stuck:=false}:iX)) rfl;have hs:=(hs.p1.drop.p1).p1;have Yq:rS m=false:=by unfold rS; rw [show pW m=true from by simpa using kK]; simp
     unfold gS;rw [Yq];exact hs
   ·refine aA CH (aV hs PV (eE rfl) (rfl) (λ uU hs=>?_));have hs:=hs.enc (cs':=Flat.enc ({ (⟨m.fG,m.fault,m.mQ,pW m,false⟩:iX) with stuck:=false}:iX)) rfl;have hs:=(hs.p1.drop.p1).p1;have Yq:rS m=false:=by unfold rS; rw [decide_eq_false ud]; rfl
    unfold gS;rw [Yq];exact hs
  ·intro sw hs jz;refine aD Ii hs.At (aI (x:=(gS m)) hs.p1 Ii rfl rfl (λ wc hs=>aD Ii hs.At ?_));have hs:=((hs.drop)).drop;exact ⟨rfl,hs.aE⟩
theorem C49 (K:World→Prop) (p:Nat) (m:gO) (w:World) (hm:Has (eK K p m) w) (hw:K w) (vH:∀ w',Ext w w'→K w') (mC:rQ m) (Qs:m.u.cB.length≤1000) (hcz:∀ l∈m.u.cB,l.length≤1000) (gb:0≤m.u.stays∧m.u.stays≤m.mem.l.length):CR 49 [(.pointer (some ⟨p,0,none⟩))] w (λ v w'=>mc (bL v (CU m)) w w'):=by
 obtain ⟨a,hr⟩:=eK.rd hm hw;have cm8:=hr.b.cell (o:=8) rfl;have cm0:=hr.b.cell (o:=0) rfl;have Yt:=hr.b.cell (o:=1) rfl;have cm3:=hr.b.cell (o:=3) rfl;have cm9:=hr.b.cell (o:=9) rfl;have Cs:=hr.b.cell (o:=10) rfl;have E5:=hr.b.cell (o:=11) rfl;have BH:=hr.b.cell (o:=12) rfl;have F5:=hr.b.cell (o:=13) rfl;have Az:=hr.b.cell (o:=14) rfl;have F6:=hr.b.cell (o:=15) rfl;have ayr:=hr.uk.cl _ hw;have hs:=St.start w;refine agZ _ _ _ ?_;unfold S49;refine aF (aA tQ (aA xd (cG RT (cm8.ext hs.aE) ?_)));obtain ⟨arc,afZ,af0⟩:=(ayr).open;have hn130:=af0.1;refine aJ FK (afZ.ext hs.aE) ?_
 have hs:=hs.fY (α:=Bool);refine ⟨λ mm o x w1=>∃ k:Nat,x = .int .i64 (k:Int)∧mm=m.u.cB.length - k∧k≤m.u.cB.length∧St w bD [bL o ((m.u.cB.take k).map (yZ m))] w1,⟨_,0,rfl,rfl,Nat.zero_le _,hs⟩,?_⟩;rintro mm fX _ w1 ⟨k,rfl,rfl,hk,hs⟩ fu;refine aR (aC (λ jQ=>?_) (λ jQ=>?_))
 ·refine ⟨λ o w'=>St w bD [bL o ((m.u.cB.take (k+1)).map (yZ m))] w',?_,?_⟩
  ·obtain ⟨GU,kT⟩:=gx arc (i:=((k:Int)).toNat) (by omega);obtain ⟨mG,kU⟩:=gx (m.u.cB) (i:=((k:Int)).toNat) (by omega);have Vj:DL w (Flat.val GU) mG:=af0.2 _ _ _ kT kU;refine aQ FK afZ (by omega) kT (λ _ uc=>aD xM (uc.ext hs.aE) ?_);have ard:=DL.flat (Vj);refine aF (aA tQ (aA pj (have hs:=hs.drew;cG bN (Yt.ext hs.aE) (dG amo hs (C22 K p m _ (hm.ext hs.aE) (vH _ hs.aE) (λ w2 e=>vH _ (Ext.trans hs.aE e)) mC) (λ Vk w2 cA hs=>?_)))));refine ⟨aG bN (Yt.ext hs.aE),?_⟩;refine nq eg (hs).fM (by omega) (by omega) (λ UP NQ=>aZ aed hs (C110 _ _ mG (m.mem.l.take (m.u.stays).toNat) _ (ard.ext hs.aE) (NQ _ (hs).fM) (by have:=hcz _ (List.mem_of_getElem? kU); omega)) (λ w3 he hs=>bG rfl (bG rfl (aH (aC (λ nB=>?_) (λ nB=>?_))))))
   ·refine cT (bX ([decide ((runM mG (m.mem.l.take m.u.stays.toNat)).1≠0)]) hs yb rfl rfl (eE rfl) (λ afb w4 hs=>?_));have ES:=(hs).fM;refine cP hs.p2 yb ES (by simp; omega) (by decide) (λ afj w5 hs=>?_);have hs:=hs.p1.drop.p1.drop;rw [← iV (k:=k) kU];have Sm:yZ m mG=decide ((runM mG (m.mem.l.take m.u.stays.toNat)).1≠0):=by unfold yZ; rw [decide_eq_true nB]; rfl
    rw [Sm];exact hs
   ·refine bX ([false]) hs yb rfl rfl (eE rfl) (λ atp w6 hs=>?_);have Xk:=(hs).fM;refine cP hs.p2 yb Xk (by simp; omega) (by decide) (λ atq w7 hs=>?_);have hs:=hs.p1.drop.p1.drop;rw [← iV (k:=k) kU];have Sm:yZ m mG=false:=by unfold yZ; rw [decide_eq_false nB]; rfl
    rw [Sm];exact hs
  ·intro nj w8 hs jz;refine aN (by omega) ?_;exact ⟨_,by omega,k+1,rfl,rfl,by omega,hs⟩
 ·rw [List.take_of_length_le (by omega)] at hs;exact hs.fresh
set_option maxHeartbeats 1000000 in
theorem C19 (K:World→Prop) (p:Nat) (m:gO) (w:World) (hm:Has (eK K p m) w) (hw:K w) (vH:∀ w',Ext w w'→K w') (mC:rQ m) (tH:MB m.mem 1000000) (aka:m.u.locks≤1000):CR 19 [(.pointer (some ⟨p,0,none⟩))] w (λ v w'=>∃ b,v = .pointer (some ⟨b,0,none⟩)∧mc (eK K b m) w w'):=by
 obtain ⟨a,hr⟩:=eK.rd hm hw;have cm8:=hr.b.cell (o:=8) rfl;have cm0:=hr.b.cell (o:=0) rfl;have Yt:=hr.b.cell (o:=1) rfl;have cm3:=hr.b.cell (o:=3) rfl;have cm9:=hr.b.cell (o:=9) rfl;have Cs:=hr.b.cell (o:=10) rfl;have E5:=hr.b.cell (o:=11) rfl;have BH:=hr.b.cell (o:=12) rfl;have F5:=hr.b.cell (o:=13) rfl;have Az:=hr.b.cell (o:=14) rfl;have F6:=hr.b.cell (o:=15) rfl;have hrl0:=hr.len;have htl0:=mC.tl;obtain ⟨ovs,hov⟩:=((hr.uk.mem _ hw).1).fT;obtain ⟨fvs,hfv⟩:=((hr.uk.mem _ hw).2).fT;have vr:=hr.c0;have CQ:=hr.c1;rw [hov] at vr;rw [hfv] at CQ;have hs:=St.start w;refine agC _ _ _ ?_;unfold S19;refine aF (qV aeI hr.b rfl (aO hs abe (λ are w1 hs=>pC (vs:=j1 a m) hs aeI rfl (by simp) (OF hr.lk.one hr.ll.one) (λ w2 hs=>have hs:=hs.enc (cs':=j1 a m) rfl;aF (aA jN (have hs:=hs.drew;cG sm (Cs.ext hs.aE) (aF (aA nP (cG er (E5.ext hs.aE) (eu auD (C69 a.q m.mem ovs fvs _ (vr.ext hs.aE) (CQ.ext hs.aE) (hr.mem.ext hs.aE) mC.mem tH) ?_))))))))))
 rintro _ w3 ⟨b2,rfl,cA⟩;have hs:=hs.made cA;refine ⟨aG er (E5.ext hs.aE),?_⟩;refine dG zu hs (C70 _ _ _ (hr.lk.ext hs.aE) (by have aj4:=mC.lk; have:=aka; omega)) (λ x19 w4 cA hs=>aA jN (aV hs.p2 sm (eE rfl) (rfl) (λ w5 hs=>aA nP (aV hs er (eE rfl) ((hs.p1).fM.one) (λ w6 hs=>aA km (aV hs qX (eE rfl) (rfl) (λ w7 hs=>aF (aA km (cG qX (BH.ext hs.aE) (aJ sn (hr.ll.ext hs.aE) ?_))))))))));obtain ⟨IP,rfl⟩:=(hs.p1).fT;obtain ⟨lk2,ayt⟩:∃ l,l=IP:=⟨_,rfl⟩;subst ayt;have hs:=((((((hs.KO (H:=qj K m.room)).fY (α:=Ptr)).p4).p4).p3).p3).p4
 refine ⟨λ mm x w'=>∃ (j:Nat) (Xi:Value) (ps2:List Ptr),x = .int .i64 (j:Int)∧mm=a.ps.length - j∧j≤a.ps.length∧St w bD [cC are (j1 {a with q:=b2,lk:=Flat.val lk2,ll:=Xi} m),bL Xi ps2,iK (qj K m.room) ps2 (m.l.take j),bL (Flat.val lk2) m.locks,fW b2 (Flat.val ovs) (Flat.val fvs) m.mem] w',⟨_,0,.slice none 0 0,[],rfl,rfl,Nat.zero_le _,hs⟩,?_⟩;rintro mm _ w8 ⟨j,Xi,ps2,rfl,rfl,hj1,hs⟩ fu;refine aR (aC (λ Lo=>?_) (λ Lo=>?_))
 ·obtain ⟨DY,lJ⟩:=gx (a.ps) (i:=((j:Int)).toNat) (by omega);refine aQ sn hr.ll (by omega) lJ (λ _ od=>aD BU (od.ext hs.aE) ?_);obtain ⟨t,ht⟩:∃ t,m.l[j]? = some t:=⟨_,List.getElem?_eq_getElem (by have:=hr.len; omega)⟩;have BG:=List.mem_of_getElem? ht;have oF:=mC.th t BG;have yh:=oF.bl;have ayc:=oF.rg;have hcn1:=oF.cn;have Yu:=oF.code.rb;have hcb:=oF.code.cb;obtain ⟨bp,gl,rg,cn,qP,qi,hB,B4,hcn⟩:=eD.rd (hr.th j _ _ lJ ht);obtain ⟨ts0,hts⟩:=id qP;have ct0:=qi.cell (o:=0) rfl;have ct5:=qi.cell (o:=5) rfl;have ct6:=qi.cell (o:=6) rfl;refine aF (qV aeK (tM.ext qi hs.aE) rfl (aO hs abg (λ akb w9 hs=>pC (vs:=[.pointer (some ⟨bp,0,none⟩),.int .i64 t.code.aK,.int .i64 t.code.counts,gl,.int .i64 t.at_,rg,cn,.int .i64 t.fault,.int .i64 t.e,.int .i64 t.f]) hs aeK rfl (by simp) (OG ((hts _ hw).1).one B4.one hcn.one) (λ qd hs=>have hs:=hs.enc (cs':=[.pointer (some ⟨bp,0,none⟩),.int .i64 t.code.aK,.int .i64 t.code.counts,gl,.int .i64 t.at_,rg,cn,.int .i64 t.fault,.int .i64 t.e,.int .i64 t.f]) rfl;aF (aA nR (have hs:=hs.drew;cG sj (ct0.ext hs.aE) (aF (aA pG (cG er (ct5.ext hs.aE) (aF (aA vU (cG er (ct6.ext hs.aE) ?_))))))))))))
  refine eu auE (C71 bp m.room t.buf _ (hB.ext hs.aE) (by omega)) ?_;rintro _ tG ⟨bq,rfl,cA⟩;have hs:=hs.made cA;refine ⟨aG er (ct5.ext hs.aE),?_⟩;refine ⟨aG er (ct6.ext hs.aE),?_⟩;refine dG zu hs (C70 _ _ _ (B4.ext hs.aE) (by have aj4:=mC.lk; have:=aka; omega)) (λ x44 vt cA hs=>?_);refine ⟨aG er (ct6.ext hs.aE),?_⟩;refine dG zu hs (C70 _ _ _ (hcn.ext hs.aE) (by have aj4:=mC.lk; have:=aka; omega)) (λ x49 uU cA hs=>aA nR (aV hs.p3 sj (eE rfl) (rfl) (λ sw hs=>aA pG (aV hs er (eE rfl) ((hs.p2).fM.one) (λ wc hs=>aA vU (aV hs er (eE rfl) ((hs.p1).fM.one) (λ ze hs=>aA km ?_)))))))
  have uH:=(hs.p6).ly;refine aB qX hs.p4.hb rfl (bX ([(⟨akb⟩:Ptr)]) hs sn rfl rfl (eE rfl) (λ aqy Cn hs=>?_));have akc:=(hs).fM;refine cP hs.p6 sn akc (by rw [List.length_take] at uH; have:=mC.tl; simp; omega) (by decide) (λ arh Iy hs=>have hs:=hs.p1.drop;aA km (aV hs.p5 qX (eE rfl) ((hs).fM.one) (λ JG hs=>aN (by omega) ?_)));have hs:=eD.shut (room:=m.room) (t:=t) qP hs.p3.p4.p5.p5;have uH:=(hs.p3).ly;have hs:=(((((St.DM (H:=qj K m.room) (p:=⟨akb⟩) (x:=t) hs.p3).p4).p4).p2).p4).p4;exact ⟨_,by omega,j+1,arh,ps2++[⟨akb⟩],rfl,rfl,by omega,by rw [← gN (k:=j) ht]; exact hs⟩
 ·have hs:=hs.p2.p2.p3.p4.p4;rw [List.take_of_length_le (by have:=hr.len; omega)] at hs;rw [← hov,← hfv] at hs;exact ⟨are,rfl,(eK.shut (m:=m) (a:={a with q:=b2,lk:=Flat.val lk2,ll:=Xi,ps:=ps2}) ⟨hr.uk.ln,hr.uk.cl,hr.uk.rc,hr.uk.mem⟩ hs).fresh⟩
def BK (s:ByteArray) (a:Int) (t:ByteArray):Bool:=decide (a+t.size≤s.size) && decide (s.extract a.toNat (a+t.size).toNat=t)
def whF (p:UInt8→Bool) (s:ByteArray):Nat→Nat→Nat
 | 0,a=>a
 | n+1,a=>match (lx s)[a]? with
  | some c=>if p c=true then whF p s n (a+1) else a
  | none=>a
def vK (p:UInt8→Bool) (s:ByteArray) (a:Nat):Nat:=whF p s (s.size - a) a
section
variable {p:UInt8→Bool} {s:ByteArray} {k:Nat} {c:UInt8}
theorem Jk (h:s.size≤k):vK p s k=k:=by unfold vK; rw [show s.size - k=0 from by omega]; rfl
theorem ql (h:(lx s)[k]? = some c):k<s.size:=by have:=(List.getElem?_eq_some_iff.1 h).1; rw [dX] at this; exact this
theorem E7 (h:(lx s)[k]? = some c) (hp:p c=true):vK p s k=vK p s (k+1):=by
 have hk:=ql h
 unfold vK
 rw [show s.size - k=(s.size - (k+1))+1 from by omega,whF,h]
 dsimp only
 rw [if_pos hp]
theorem E8 (h:(lx s)[k]? = some c) (hp:p c=false):vK p s k=k:=by
 have hk:=ql h
 unfold vK
 rw [show s.size - k=(s.size - (k+1))+1 from by omega,whF,h]
 dsimp only
 rw [hp]; rfl
end
def tB (c:UInt8):Bool:=decide (c.toNat=32∨c.toNat=9∨c.toNat=10∨c.toNat=13)
def yp (c:UInt8):Bool:=decide (c.toNat≠10)
def rT (c:UInt8):Bool:=jA c.toNat || nu c.toNat
def vI (c:UInt8):Bool:=nu c.toNat
def kP (s:ByteArray):Nat→Nat→Option Nat
 | 0,_=>none
 | n+1,a=>match (lx s)[a]? with
  | none=>some a
  | some c=>if tB c=true then kP s n (a+1) else if BK s a ⟨#[47,47]⟩=true then kP s n (vK yp s a) else some a
theorem OH {s:ByteArray} {n a r:Nat} (h:kP s n a=some r):∃ k,n=k+1:=by
 cases n with
 | zero=>cases h
 | succ k=>exact ⟨k,rfl⟩
section
variable {s:ByteArray} {n a r:Nat} {c:UInt8}
theorem SE (h:kP s (n+1) a=some r) (ha:s.size≤a):r=a:=by
 unfold kP at h; rw [List.getElem?_eq_none (by rw [dX]; exact ha)] at h; exact (Option.some.inj h).symm
theorem Cf (h:kP s (n+1) a=some r) (hc:(lx s)[a]? = some c) (hb:tB c=true):kP s n (a+1)=some r:=by
 unfold kP at h; rw [hc] at h; dsimp only at h; rw [if_pos hb] at h; exact h
theorem Hm (h:kP s (n+1) a=some r) (hc:(lx s)[a]? = some c) (hb:tB c=false) (hr:BK s a ⟨#[47,47]⟩=true):kP s n (vK yp s a)=some r:=by
 unfold kP at h; rw [hc] at h; dsimp only at h; rw [if_neg (by rw [hb]; simp),if_pos hr] at h; exact h
theorem Mb (h:kP s (n+1) a=some r) (hc:(lx s)[a]? = some c) (hb:tB c=false) (hr:BK s a ⟨#[47,47]⟩=false):r=a:=by
 unfold kP at h; rw [hc] at h; dsimp only at h; rw [if_neg (by rw [hb]; simp),if_neg (by rw [hr]; simp)] at h; exact (Option.some.inj h).symm
theorem Xl:∀ (n a:Nat) (p:UInt8→Bool),a≤whF p s n a∧whF p s n a≤max a s.size
 | 0,a,p=>⟨Nat.le_refl _,by unfold whF; omega⟩
 | n+1,a,p=>by
  unfold whF
  cases h:(lx s)[a]? with
  | none=>exact ⟨Nat.le_refl _,by dsimp only; omega⟩
  | some c=>
   dsimp only
   split
   ·have:=Xl n (a+1) p; have:=ql h; omega
   ·exact ⟨Nat.le_refl _,by omega⟩
theorem OI (p:UInt8→Bool):a≤vK p s a∧vK p s a≤max a s.size:=Xl _ _ _
theorem AJ:∀ {n a r:Nat},kP s n a=some r→a≤s.size→a≤r∧r≤s.size
 | 0,_,_,h,_=>by cases h
 | n+1,a,r,h,ha=>by
  cases hc:(lx s)[a]? with
  | none=>unfold kP at h; rw [hc] at h; obtain rfl:=Option.some.inj h; omega
  | some c=>
   have hk:=ql hc
   cases hb:tB c with
   | true=>have:=AJ (Cf h hc hb) (by omega); omega
   | false=>
    cases hr:BK s a ⟨#[47,47]⟩ with
    | true=>have h1:=OI (s:=s) (a:=a) yp; have:=AJ (Hm h hc hb hr) (by omega); omega
    | false=>have:=Mb h hc hb hr; omega
end
def Ct:List ByteArray:=[⟨#[61,61]⟩,⟨#[33,61]⟩,⟨#[60,61]⟩,⟨#[38,38]⟩,⟨#[124,124]⟩]
def pX (s:ByteArray) (a:Nat) (c:UInt8):Int:=if Ct.any (BK s a)=true then 2 else if (lx (ByteArray.mk #[40,41,123,125,59,44,61,60,33,43,45,42,47,37])).any (λ x=>decide ((x.toNat:Int)=c.toNat))=true then 1 else 0
def sQ (l:List bH) (i:Int) (t:ByteArray):Bool:=decide (0≤i) && (match l[i.toNat]? with | some x=>decide (x.text=t) && decide (x.kind≠2) && decide (1≤x.kind) && decide (x.kind≤3) | none=>false)
def mR (l:List bH) (i:Int):Int:=match (if 0≤i then l[i.toNat]? else none) with
 | some x=>x.at_
 | none=>match l.getLast? with
  | some x=>x.at_+x.text.size
  | none=>0
theorem adj:∀ t∈Ct,t.size≤1000000:=by decide
theorem rU {l:List bH} {i:Int} {t:ByteArray} (h:sQ l i t=true):0≤i∧i<l.length:=by
 unfold sQ at h
 rw [Bool.and_eq_true,decide_eq_true_eq] at h
 refine ⟨h.1,?_⟩
 cases hx:l[i.toNat]? with
 | none=>rw [hx] at h; cases h.2
 | some x=>have:=(List.getElem?_eq_some_iff.1 hx).1; omega
theorem C232 (s t:ByteArray) (i:Int) (w:World) (hz:s.size≤1000000) (hz2:t.size≤1000000) (h0:0≤i∧i≤2000000):CR 232 [.string s,.int .i64 i,.string t] w (λ v w'=>v = .bool (BK s i t)∧Ext w w'):=by
 have hs:=St.start w;refine aaB _ _ _ _ _ ?_;unfold S232;refine ⟨λ jv w'=>jv = .bool (BK s i t)∧w=w',?_,?_⟩
 ·refine gh gP (aN (by omega) (gh gP (jL (aC (λ j7=>?_) (λ j7=>?_)))))
  ·refine gh gP (aN (by omega) (KK gP (by omega) (by omega) (by omega) (ub ?_)));exact ⟨vb (by unfold BK; grind),rfl⟩
  ·exact ⟨vb (by unfold BK; grind),rfl⟩
 ·rintro _ w1 ⟨rfl,hw⟩ fu;subst hw;exact ⟨rfl,hs.aE⟩
theorem C209 (s:ByteArray) (i N r:Nat) (w:World) (hz:s.size≤4000) (h0:i≤s.size) (hr:kP s N i=some r):CR 209 [.string s,.int .i64 (i:Int)] w (λ v w'=>v = .int .i64 (r:Int)∧Ext w w'):=by
 have hz0:=hz;replace hz:s.size≤1000000:=by omega
 have hs:=St.start w;refine aag _ _ _ _ ?_;unfold S209;refine ⟨λ mm x w1=>∃ a:Nat,x = .int .i64 (a:Int)∧a≤s.size∧kP s mm a=some r∧St w bD [] w1,⟨N,i,rfl,h0,hr,hs⟩,?_⟩;rintro mm _ w1 ⟨a,rfl,ha,hp,hs⟩ fu;obtain ⟨k,rfl⟩:=OH hp;refine gh gP (aR (aC (λ gr=>?_) (λ gr=>?_)))
 ·obtain ⟨ari,E9⟩:∃ xx,(lx (s))[((a:Int)).toNat]? = some xx:=⟨_,List.getElem?_eq_getElem (by rw [dX]; omega)⟩;refine lS gP (by omega) E9 ?_;refine ⟨λ jv w'=>jv = .bool (tB ari)∧w1=w',?_,?_⟩
  ·refine nY (aC (λ gV=>?_) (λ gV=>?_))
   ·exact ⟨vb (by unfold tB; first | exact (decide_eq_true (by omega)).symm | exact decide_eq_decide.2 (by omega)),rfl⟩
   ·refine nY (aC (λ mf=>?_) (λ mf=>?_))
    ·exact ⟨vb (by unfold tB; first | exact (decide_eq_true (by omega)).symm | exact decide_eq_decide.2 (by omega)),rfl⟩
    ·refine nY (aC (λ gz=>?_) (λ gz=>?_))
     ·exact ⟨vb (by unfold tB; first | exact (decide_eq_true (by omega)).symm | exact decide_eq_decide.2 (by omega)),rfl⟩
     ·refine nY ?_;exact ⟨vb (by unfold tB; first | exact (decide_eq_true (by omega)).symm | exact decide_eq_decide.2 (by omega)),rfl⟩
  ·rintro _ w2 ⟨rfl,hw⟩ jz;subst hw;refine aY (λ sC=>?_) (λ sC=>?_)
   ·refine aN (by omega) ?_;have hal:=ql E9;exact ⟨k,by omega,a+1,rfl,by omega,Cf hp E9 sC,hs⟩
   ·refine aZ aeA hs (C232 s (ByteArray.mk #[47,47]) (a:Int) _ hz (by decide) (by omega)) (λ w3 he hs=>aY (λ lV=>?_) (λ lV=>?_))
    ·refine ⟨λ mm x w1=>∃ j:Nat,x = .int .i64 (j:Int)∧mm=s.size - j∧a≤j∧j≤s.size∧vK yp s a=vK yp s j∧St w bD [] w1,⟨_,a,rfl,rfl,Nat.le_refl _,ha,rfl,hs⟩,?_⟩;rintro mm _ w4 ⟨j,rfl,rfl,haj,hj,gb,hs⟩ oG;refine ⟨λ jv w'=>jv = .bool ((match (lx s)[j]? with | some c=>yp c | none=>false))∧w4=w',?_,?_⟩
     ·refine gh gP (aR (aC (λ j4=>?_) (λ j4=>?_)))
      ·obtain ⟨qE,qg⟩:∃ xx,(lx (s))[((j:Int)).toNat]? = some xx:=⟨_,List.getElem?_eq_getElem (by rw [dX]; omega)⟩;refine lS gP (by omega) qg (UF ?_);exact ⟨vb (by first | (rw [show (lx s)[j]? = some qE from qg]; unfold yp; exact decide_eq_decide.2 (by omega)) | (rw [List.getElem?_eq_none (by rw [dX]; omega)])),rfl⟩
      ·exact ⟨vb (by first | (rw [show (lx s)[j]? = some qE from qg]; unfold yp; exact decide_eq_decide.2 (by omega)) | (rw [List.getElem?_eq_none (by rw [dX]; omega)])),rfl⟩
     ·rintro _ w5 ⟨rfl,hw⟩ GR;subst hw;refine aY (λ kK=>?_) (λ kK=>?_)
      ·refine aN (by omega) ?_
       have QY:∃ c,(lx s)[j]? = some c∧yp c=true:=by
        cases hc:(lx s)[j]? with
        | none=>rw [hc] at kK; cases kK
        | some c=>rw [hc] at kK; exact ⟨c,rfl,kK⟩
       obtain ⟨cj,Cu,SF⟩:=QY;have hjl:=ql Cu;exact ⟨_,by omega,j+1,rfl,rfl,by omega,by omega,gb.trans (E7 Cu SF),hs⟩
      ·have ayu:vK yp s j=j:=by
        by_cases hjs:j<s.size
        ·obtain ⟨cj,QY⟩:∃ c,(lx s)[j]? = some c:=⟨_,List.getElem?_eq_getElem (by rw [dX]; exact hjs)⟩;rw [QY] at kK; exact E8 QY kK
        ·exact Jk (by omega)
       have YD:=Hm hp E9 sC lV;rw [gb,ayu] at YD;exact ⟨k,by omega,j,rfl,hj,YD,hs⟩
    ·have hx:=Mb hp E9 sC (by exact_mod_cast lV);subst hx;exact ⟨rfl,hs.aE⟩
 ·have hx:=SE hp (by omega);subst hx;exact ⟨rfl,hs.aE⟩
theorem C210 (s:ByteArray) (i:Nat) (c:UInt8) (w:World) (hz:s.size≤1000000) (hc:(lx s)[i]? = some c):CR 210 [.string s,.int .i64 (i:Int)] w (λ v w'=>v = .int .i64 (pX s i c)∧Ext w w'):=by
 have hi:=ql hc;have hs:=St.start w;refine aah _ _ _ _ ?_;unfold S210;refine bX (Ct) hs mZ rfl rfl (eE rfl) (λ aoy w1 hs=>?_);refine ⟨λ mm x w1=>∃ k:Nat,x = .int .i64 (k:Int)∧mm=Ct.length - k∧k≤Ct.length∧(∀ y∈Ct.take k,BK s i y=false)∧St w bD [bL aoy Ct] w1,⟨_,0,rfl,rfl,Nat.zero_le _,by simp,hs⟩,?_⟩;rintro mm _ w2 ⟨k,rfl,rfl,hk,fQ,hs⟩ fu;refine aJ mZ (hs).fM ?_;have Nd:Ct.length=5:=rfl;refine aR (aC (λ j7=>?_) (λ j7=>?_))
 ·obtain ⟨afi,o7⟩:=gx (Ct) (i:=((k:Int)).toNat) (by omega);refine dT hs mZ (by omega) (by omega) (λ _ LB=>ga hs kf LB o7 (aZ aeA hs (C232 s afi (i:Int) _ hz (adj _ (List.mem_of_getElem? o7)) (by omega)) (λ w3 he hs=>aY (λ iS=>?_) (λ iS=>?_))))
  ·exact ⟨congrArg (Value.int .i64) (by unfold pX; rw [if_pos (jF o7 iS)]),hs.drop.aE⟩
  ·refine aN (by omega) ?_;exact ⟨_,by omega,k+1,rfl,rfl,by omega,ew fQ o7 iS,hs⟩
 ·have hs:=(hs).drop;refine ⟨λ mm x w1=>∃ j:Nat,x = .int .i64 (j:Int)∧mm=(ByteArray.mk #[40,41,123,125,59,44,61,60,33,43,45,42,47,37]).size - j∧j≤(ByteArray.mk #[40,41,123,125,59,44,61,60,33,43,45,42,47,37]).size∧(∀ y∈(lx (ByteArray.mk #[40,41,123,125,59,44,61,60,33,43,45,42,47,37])).take j,decide ((y.toNat:Int)=c.toNat)=false)∧St w bD [] w1,⟨_,0,rfl,rfl,Nat.zero_le _,by simp,hs⟩,?_⟩;rintro mm _ w4 ⟨j,rfl,rfl,hj,Ee,hs⟩ jz;refine gh gP ?_;have Ys:(ByteArray.mk #[40,41,123,125,59,44,61,60,33,43,45,42,47,37]).size=14:=rfl;refine aR (aC (λ sC=>?_) (λ sC=>?_))
  ·obtain ⟨aqa,Bz⟩:∃ xx,(lx ((ByteArray.mk #[40,41,123,125,59,44,61,60,33,43,45,42,47,37])))[((j:Int)).toNat]? = some xx:=⟨_,List.getElem?_eq_getElem (by rw [dX]; omega)⟩;refine lS gP (by omega) Bz ?_;obtain ⟨vz,tq⟩:∃ xx,(lx (s))[((i:Int)).toNat]? = some xx:=⟨_,List.getElem?_eq_getElem (by rw [dX]; omega)⟩;refine lS gP (by omega) tq ?_;obtain rfl:=Option.some.inj (tq.symm.trans hc);refine nY (aC (λ j4=>?_) (λ j4=>?_))
   ·have hs:=hs.drew;have Vz:Ct.any (BK s i)=false:=iO (by rw [List.take_of_length_le (by omega)] at fQ; exact fQ);exact ⟨congrArg (Value.int .i64) (by unfold pX; rw [if_neg (by rw [Vz]; simp),if_pos (jF Bz (decide_eq_true j4))]),hs.aE⟩
   ·refine aN (by omega) ?_;have hs:=hs.drew;exact ⟨_,by omega,j+1,rfl,rfl,by omega,ew Ee Bz (decide_eq_false j4),hs⟩
  ·have Vz:Ct.any (BK s i)=false:=iO (by rw [List.take_of_length_le (by omega)] at fQ; exact fQ);have hn3:=iO (g:=λ x:UInt8=>decide ((x.toNat:Int)=c.toNat)) (by rw [List.take_of_length_le (by rw [dX]; omega)] at Ee; exact Ee);exact ⟨congrArg (Value.int .i64) (by unfold pX; rw [if_neg (by rw [Vz]; simp),if_neg (by rw [hn3]; simp)]),hs.aE⟩
theorem C211 (lv:Value) (l:List bH) (i:Int) (t:ByteArray) (w:World) (hL:eL (λ _=>True) w lv l) (hn:l.length≤1000000):CR 211 [lv,.int .i64 i,.string t] w (λ v w'=>v = .bool (sQ l i t)∧Ext w w'):=by
 have hs:=St.start w;refine aai _ _ _ _ _ ?_;unfold S211;refine ⟨λ jv w'=>jv = .bool (sQ l i t)∧w=w',?_,?_⟩
 ·refine dI (aC (λ gi=>?_) (λ gi=>?_))
  ·refine aJ fz (hL.ext hs.aE) (aR (aC (λ j7=>?_) (λ j7=>?_)))
   ·obtain ⟨rn,jt⟩:=gx (l) (i:=(i).toNat) (by omega);refine aQ fz hL (by omega) jt (λ _ wj=>bT (rn).text m8 wj rfl rfl (λ _ jR=>aD kf (jR.ext hs.aE) (ub (aC (λ iS=>?_) (λ iS=>?_)))))
    ·refine aQ fz hL (by omega) jt (λ _ wm=>bT (rn).kind lr wm rfl rfl (λ _ wu=>aD bN (wu.ext hs.aE) (cT (aC (λ mH=>?_) (λ mH=>?_)))))
     ·refine aQ fz hL (by omega) jt (λ _ zS=>bT (rn).kind lr zS rfl rfl (λ _ rq=>aD bN (rq.ext hs.aE) (dI (aC (λ ml=>?_) (λ ml=>?_)))))
      ·refine aQ fz hL (by omega) jt (λ _ yo=>bT (rn).kind lr yo rfl rfl (λ _ AK=>aD bN (AK.ext hs.aE) (jL ?_)));exact ⟨vb (by unfold sQ; first | (rw [jt]; grind) | (rw [decide_eq_false (by omega)]; rfl) | (rw [List.getElem?_eq_none (by omega)]; simp)),rfl⟩
      ·exact ⟨vb (by unfold sQ; first | (rw [jt]; grind) | (rw [decide_eq_false (by omega)]; rfl) | (rw [List.getElem?_eq_none (by omega)]; simp)),rfl⟩
     ·exact ⟨vb (by unfold sQ; first | (rw [jt]; grind) | (rw [decide_eq_false (by omega)]; rfl) | (rw [List.getElem?_eq_none (by omega)]; simp)),rfl⟩
    ·exact ⟨vb (by unfold sQ; first | (rw [jt]; grind) | (rw [decide_eq_false (by omega)]; rfl) | (rw [List.getElem?_eq_none (by omega)]; simp)),rfl⟩
   ·exact ⟨vb (by unfold sQ; first | (rw [jt]; grind) | (rw [decide_eq_false (by omega)]; rfl) | (rw [List.getElem?_eq_none (by omega)]; simp)),rfl⟩
  ·exact ⟨vb (by unfold sQ; first | (rw [jt]; grind) | (rw [decide_eq_false (by omega)]; rfl) | (rw [List.getElem?_eq_none (by omega)]; simp)),rfl⟩
 ·rintro _ w1 ⟨rfl,hw⟩ fu;subst hw;exact ⟨rfl,hs.aE⟩
theorem C215 (lv:Value) (l:List bH) (i:Int) (w:World) (hL:eL (λ _=>True) w lv l) (hn:l.length≤1000000) (td:∀ x∈l,0≤x.at_∧x.at_≤1000000∧x.text.size≤1000000):CR 215 [lv,.int .i64 i] w (λ v w'=>v = .int .i64 (mR l i)∧Ext w w'):=by
 have hs:=St.start w;refine aam _ _ _ _ ?_;unfold S215;refine ⟨λ jv w'=>jv = .bool (decide (0≤i∧i<l.length))∧w=w',?_,?_⟩
 ·refine dI (aC (λ oA=>?_) (λ oA=>?_))
  ·refine aJ fz (hL.ext hs.aE) (aR ?_);exact ⟨tD (by omega),rfl⟩
  ·exact ⟨jvF (by omega),rfl⟩
 ·rintro _ w1 ⟨rfl,hw⟩ fu;subst hw;refine aC (λ jB=>?_) (λ jB=>?_)
  ·obtain ⟨pN,jY⟩:=gx (l) (i:=(i).toNat) (by omega);refine aQ fz hL (by omega) jY (λ _ rk=>bT (pN).at_ lu rk rfl rfl (λ _ uc=>aD bN (uc.ext hs.aE) ?_));exact ⟨congrArg (Value.int .i64) (by unfold mR; rw [if_pos (by omega),jY]),hs.aE⟩
  ·refine aJ fz (hL.ext hs.aE) (aH (aC (λ jC=>?_) (λ jC=>?_)))
   ·have hl0:l=[]:=List.length_eq_zero_iff.1 (by omega);subst hl0;exact ⟨congrArg (Value.int .i64) (by unfold mR; split <;> simp_all),hs.aE⟩
   ·refine aJ fz (hL.ext hs.aE) (gD (by omega) ?_);obtain ⟨GX,qf⟩:=gx (l) (i:=((((l).length:Int) - 1)).toNat) (by omega);refine aQ fz hL (by omega) qf (λ _ um=>bT (GX).at_ lu um rfl rfl (λ _ ry=>have hs:=hs.drew;aD bN (ry.ext hs.aE) (aJ fz (hL.ext hs.aE) (gD (by omega) (aQ fz hL (by omega) qf (λ _ z9=>bT (GX).text m8 z9 rfl rfl (λ _ Aa=>aD kf (Aa.ext hs.aE) (gh gP ?_))))))));have hax:=td _ (List.mem_of_getElem? qf);refine aN (by omega) ?_;have hgl:l.getLast? = some GX:=by rw [List.getLast?_eq_getElem?,← qf]; congr 1; omega
    have fQ:(if 0≤i then l[i.toNat]? else none)=none:=by split; exact List.getElem?_eq_none (by omega); rfl
    exact ⟨congrArg (Value.int .i64) (by unfold mR; rw [fQ,hgl]),hs.aE⟩
def numOf (s:ByteArray) (a k:Nat):Int:=(((lx s).drop a).take (k - a)).foldl (λ n c=>if n≤4294967296 then 10 * n+((c.toNat:Int) - 48) else n) 0
theorem Jl (s:ByteArray) (a:Nat):numOf s a a=0:=by unfold numOf; rw [Nat.sub_self]; rfl
theorem y9 {s:ByteArray} {a k:Nat} {c:UInt8} (ha:a≤k) (h:(lx s)[k]? = some c):numOf s a (k+1)=if numOf s a k≤4294967296 then 10 * numOf s a k+((c.toNat:Int) - 48) else numOf s a k:=by
 unfold numOf
 rw [show k+1 - a=(k - a)+1 from by omega,List.take_add_one,List.getElem?_drop,show a+(k - a)=k from by omega,h,Option.toList_some,List.foldl_append]
 rfl
theorem adk {s:ByteArray} {a:Nat}:∀ {k:Nat},a≤k→k≤s.size→(∀ j c,a≤j→j<k→(lx s)[j]? = some c→48≤(c.toNat:Int)∧(c.toNat:Int)≤57)→0≤numOf s a k∧numOf s a k≤42949672969:=by
 intro k
 induction k with
 | zero=>
  intro h _ _
  have e:a=0:=by omega
  rw [e,Jl]; omega
 | succ k ih=>
  intro ha hk hd
  by_cases e:a=k+1
  ·subst e; rw [Jl]; omega
  ·have:=ih (by omega) (by omega) λ j c h1 h2=>hd j c h1 (by omega)
   obtain ⟨c,hc⟩:∃ c,(lx s)[k]? = some c:=⟨_,List.getElem?_eq_getElem (by rw [dX]; omega)⟩
   have h2:=hd k c (by omega) (by omega) hc
   rw [y9 (by omega) hc]
   split <;> omega
def mu (s:ByteArray):Nat→Nat→List bH→Option (List bH × Int × Int)
 | 0,_,_=>none
 | n+1,a,out=>match (lx s)[a]? with
  | none=>some (out,0,0)
  | some c=>
   if jA c.toNat=true then (if 16<vK rT s a - a then some ([],2,(a:Int)) else (kP s (s.size+1) (vK rT s a)).bind λ a'=>mu s n a' (out++[⟨1,s.extract a (vK rT s a),0,a⟩]))
   else if nu c.toNat=true then (if 4294967296<numOf s a (vK vI s a) then some ([],4,(a:Int)) else (kP s (s.size+1) (vK vI s a)).bind λ a'=>mu s n a' (out++[⟨2,s.extract a (vK vI s a),numOf s a (vK vI s a),a⟩]))
   else if pX s a c=0 then some ([],3,(a:Int)) else (kP s (s.size+1) (a+(pX s a c).toNat)).bind λ a'=>mu s n a' (out++[⟨3,s.extract a (a+(pX s a c).toNat),0,a⟩])
def uC (s:ByteArray):Option (List bH × Int × Int):=if 4000<s.size then some ([],2,4000) else (kP s (s.size+1) 0).bind λ a=>mu s (s.size+2) a []
theorem OJ {s:ByteArray} {n a:Nat} {out:List bH} {r:List bH × Int × Int} (h:mu s n a out=some r):∃ k,n=k+1:=by
 cases n with
 | zero=>cases h
 | succ k=>exact ⟨k,rfl⟩
def AL (s:ByteArray) (k a:Nat) (out:List bH) (R:List bH × Int × Int) (kd:Int) (e:Nat) (n:Int):Prop:=a<e∧e≤s.size∧∃ a',kP s (s.size+1) e=some a'∧mu s k a' (out++[⟨kd,s.extract a e,n,a⟩])=some R
section
variable {s:ByteArray} {k a:Nat} {c:UInt8} {out:List bH} {R:List bH × Int × Int}
theorem SG (h:mu s (k+1) a out=some R) (ha:s.size≤a):R=(out,0,0):=by
 unfold mu at h; rw [List.getElem?_eq_none (by rw [dX]; exact ha)] at h; exact (Option.some.inj h).symm
theorem F7 (h:mu s (k+1) a out=some R) (hc:(lx s)[a]? = some c) (hl:jA c.toNat=true) (hb:16<vK rT s a - a):R=([],2,(a:Int)):=by
 unfold mu at h; rw [hc] at h; dsimp only at h; rw [if_pos hl,if_pos hb] at h; exact (Option.some.inj h).symm
theorem BL {e:Nat} {kd n:Int} (h:((kP s (s.size+1) e).bind λ a'=>mu s k a' (out++[⟨kd,s.extract a e,n,a⟩]))=some R) (h1:a<e) (h2:e≤s.size):AL s k a out R kd e n:=by
 cases hp:kP s (s.size+1) e with
 | none=>rw [hp] at h; cases h
 | some a'=>rw [hp] at h; exact ⟨h1,h2,a',hp,h⟩
theorem SH (h:mu s (k+1) a out=some R) (hc:(lx s)[a]? = some c) (hl:jA c.toNat=true) (hb:¬ 16<vK rT s a - a) (hgt:a<vK rT s a):AL s k a out R 1 (vK rT s a) 0:=by
 unfold mu at h; rw [hc] at h; dsimp only at h; rw [if_pos hl,if_neg hb] at h
 have:=ql hc; have h2:=OI (s:=s) (a:=a) rT
 exact BL h hgt (by omega)
theorem Jm (h:mu s (k+1) a out=some R) (hc:(lx s)[a]? = some c) (hl:jA c.toNat=false) (hd:nu c.toNat=true) (hb:4294967296<numOf s a (vK vI s a)):R=([],4,(a:Int)):=by
 unfold mu at h; rw [hc] at h; dsimp only at h; rw [if_neg (by rw [hl]; simp),if_pos hd,if_pos hb] at h; exact (Option.some.inj h).symm
theorem Xm (h:mu s (k+1) a out=some R) (hc:(lx s)[a]? = some c) (hl:jA c.toNat=false) (hd:nu c.toNat=true) (hb:¬ 4294967296<numOf s a (vK vI s a)) (hgt:a<vK vI s a):AL s k a out R 2 (vK vI s a) (numOf s a (vK vI s a)):=by
 unfold mu at h; rw [hc] at h; dsimp only at h; rw [if_neg (by rw [hl]; simp),if_pos hd,if_neg hb] at h
 have:=ql hc; have h2:=OI (s:=s) (a:=a) vI
 exact BL h hgt (by omega)
theorem SI (h:mu s (k+1) a out=some R) (hc:(lx s)[a]? = some c) (hl:jA c.toNat=false) (hd:nu c.toNat=false) (hb:pX s a c=0):R=([],3,(a:Int)):=by
 unfold mu at h; rw [hc] at h; dsimp only at h; rw [if_neg (by rw [hl]; simp),if_neg (by rw [hd]; simp),if_pos hb] at h; exact (Option.some.inj h).symm
theorem Xn (s:ByteArray) (a:Nat) (c:UInt8):pX s a c=0∨pX s a c=1∨pX s a c=2:=by
 unfold pX
 repeat' split
 all_goals simp
theorem QZ {s:ByteArray} {a:Nat} {c:UInt8} (h:(lx s)[a]? = some c):(a:Int)+pX s a c≤s.size:=by
 have hk:=ql h
 unfold pX
 split
 ·rename_i h2
  rw [List.any_eq_true] at h2
  obtain ⟨t,ht,hb⟩:=h2
  have:t.size=2:=by
   have mw:∀ t∈Ct,t.size=2:=by decide
   exact mw t ht
  unfold BK at hb
  rw [Bool.and_eq_true,decide_eq_true_eq] at hb
  omega
 ·split <;> omega
theorem SJ (h:mu s (k+1) a out=some R) (hc:(lx s)[a]? = some c) (hl:jA c.toNat=false) (hd:nu c.toNat=false) (hb:¬ pX s a c=0):AL s k a out R 3 (a+(pX s a c).toNat) 0:=by
 unfold mu at h; rw [hc] at h; dsimp only at h; rw [if_neg (by rw [hl]; simp),if_neg (by rw [hd]; simp),if_neg hb] at h
 have h1:=Xn s a c; have h2:=QZ hc
 exact BL h (by omega) (by omega)
end
set_option maxHeartbeats 1000000 in
theorem C164 (s:ByteArray) (R:List bH × Int × Int) (w:World) (Ym:s.size≤1000000) (hr:uC s=some R):CR 164 [.string s] w (λ v w'=>∃ o,v = .tuple #[o,.int .i64 R.2.1,.int .i64 R.2.2]∧mc (bL o R.1) w w'):=by
 have hs:=St.start w;refine ZE _ _ _ ?_;unfold S164;refine gh gP (cZ (aC (λ gJ=>?_) (λ gJ=>?_)))
 ·have hR:([],2,4000)=R:=by unfold uC at hr; rw [if_pos (by omega)] at hr; exact Option.some.inj hr
  subst hR;exact ⟨_,rfl,hs.fY.fresh⟩
 ·have h4:s.size≤4000:=by omega
  obtain ⟨a0,ha0,hp0⟩:∃ a0,kP s (s.size+1) 0=some a0∧mu s (s.size+2) a0 []=some R:=by
   unfold uC at hr;rw [if_neg (by omega)] at hr;cases hq:kP s (s.size+1) 0 with
   | none=>rw [hq] at hr; cases hr
   | some a0=>rw [hq] at hr; exact ⟨a0,rfl,hr⟩
  have ayw:=AJ ha0 (by omega);refine bX (([]:List bH)) hs fz rfl rfl (eE rfl) (λ s_x12 w1 hs=>aZ aex hs (C209 s 0 (s.size+1) a0 _ (by omega) (by omega) ha0) (λ w2 he hs=>?_));refine ⟨λ mm o x w'=>∃ (a:Nat) (out:List bH),x = .int .i64 (a:Int)∧a≤s.size∧out.length≤a∧mu s mm a out=some R∧St w bD [bL o out] w',⟨_,a0,[],rfl,ayw.2,Nat.zero_le _,hp0,hs⟩,?_⟩;rintro mm yw _ w3 ⟨a,out,rfl,ha,Ys,hp,hs⟩ fu;obtain ⟨k,rfl⟩:=OJ hp;refine gh gP (aR (aC (λ gj=>?_) (λ gj=>?_)))
  ·refine pop (Ut _) (aO hs abk (λ SK w4 hs=>aI (x:=(⟨0,(ByteArray.mk #[]),0,(a:Int)⟩:bH)) hs aeM rfl rfl (λ w5 hs=>?_)));refine ⟨λ to w'=>∃ (kd:Int) (e:Nat) (n:Int),to = .int .i64 (e:Int)∧AL s k a out R kd e n∧St w bD [cC SK (Flat.enc (⟨kd,ByteArray.mk #[],n,(a:Int)⟩:bH)),bL yw out] w',?_,?_⟩
   ·obtain ⟨gW,iB⟩:∃ xx,(lx (s))[((a:Int)).toNat]? = some xx:=⟨_,List.getElem?_eq_getElem (by rw [dX]; omega)⟩;refine lS gP (by omega) iB ?_;have Yv:(lx s)[a]? = some gW:=iB;refine aZ PK hs (C206 _ _) (λ w6 he hs=>aY (λ fH=>?_) (λ fH=>?_))
    ·have Lm:=fH;refine aA lr (aV hs bN (eE rfl) (rfl) (λ w7 hs=>?_));have hs:=hs.enc (cs':=Flat.enc ({ (⟨0,(ByteArray.mk #[]),0,(a:Int)⟩:bH) with kind:=1}:bH)) rfl;have hs:=hs.p1.p1;refine ⟨λ mm x w'=>∃ j:Nat,x = .int .i64 (j:Int)∧mm=s.size - j∧a≤j∧j≤s.size∧vK rT s a=vK rT s j∧St w bD [cC SK (Flat.enc (⟨1,ByteArray.mk #[],0,(a:Int)⟩:bH)),bL yw out] w',⟨_,a,rfl,rfl,Nat.le_refl _,ha,rfl,hs⟩,?_⟩;rintro mm _ w8 ⟨j,rfl,rfl,haj,hj,gb,hs⟩ jz;refine ⟨λ jv w'=>jv = .bool (match (lx s)[j]? with | some c=>rT c | none=>false)∧St w bD [cC SK (Flat.enc (⟨1,ByteArray.mk #[],0,(a:Int)⟩:bH)),bL yw out] w',?_,?_⟩
     ·refine gh gP (aR (aC (λ mH=>?_) (λ mH=>?_)))
      ·obtain ⟨vz,tq⟩:∃ xx,(lx (s))[((j:Int)).toNat]? = some xx:=⟨_,List.getElem?_eq_getElem (by rw [dX]; omega)⟩;refine lS gP (by omega) tq ?_;have hcj0:(lx s)[j]? = some vz:=tq;refine aZ PK hs (C206 _ _) (λ w9 he hs=>aY (λ j4=>?_) (λ j4=>?_))
       ·exact ⟨vb (by first | (rw [show (lx s)[j]? = some vz from tq]; show _=(jA vz.toNat || nu vz.toNat); rw [j4]; rfl) | (rw [List.getElem?_eq_none (by rw [dX]; omega)])),hs⟩
       ·refine lS gP (by omega) tq (aZ PN hs (C208 _ _) (λ qd he hs=>?_));exact ⟨vb (by first | (rw [show (lx s)[j]? = some vz from tq]; show _=(jA vz.toNat || nu vz.toNat); rw [j4]; rfl) | (rw [List.getElem?_eq_none (by rw [dX]; omega)])),hs⟩
      ·exact ⟨vb (by first | (rw [show (lx s)[j]? = some vz from tq]; show _=(jA vz.toNat || nu vz.toNat); rw [j4]; rfl) | (rw [List.getElem?_eq_none (by rw [dX]; omega)])),hs⟩
     ·rintro _ tG ⟨rfl,hs⟩ oG;refine aY (λ mJ=>?_) (λ mJ=>?_)
      ·refine aN (by omega) ?_
       have QY:∃ c,(lx s)[j]? = some c∧rT c=true:=by
        cases hc:(lx s)[j]? with
        | none=>rw [hc] at mJ; cases mJ
        | some c=>rw [hc] at mJ; exact ⟨c,rfl,mJ⟩
       obtain ⟨cj,Cu,SF⟩:=QY;have hjl:=ql Cu;exact ⟨_,by omega,j+1,rfl,rfl,by omega,by omega,gb.trans (E7 Cu SF),hs⟩
      ·have Jn:vK rT s j=j:=by
        by_cases hjs:j<s.size
        ·obtain ⟨cj,QY⟩:∃ c,(lx s)[j]? = some c:=⟨_,List.getElem?_eq_getElem (by rw [dX]; exact hjs)⟩;rw [QY] at mJ; exact E8 QY mJ
        ·exact Jk (by omega)
       refine gD (by omega) (cZ (aC (λ zW=>?_) (λ zW=>?_)))
       ·have hs:=((hs.drop)).drop;have hR:=F7 hp Yv Lm (by rw [gb,Jn]; omega);subst hR;exact ⟨_,rfl,hs.fY.fresh⟩
       ·have hs:=hs.p1.p1
        have hgt:a<j:=by
         rcases Nat.lt_or_ge a j with h | h
         ·exact h
         ·obtain rfl:j=a:=by omega
          rw [Yv] at mJ; have h9:rT gW=false:=mJ; unfold rT at h9; rw [Lm] at h9; cases h9
        have Xo:=SH hp Yv Lm (by rw [gb,Jn]; omega) (by rw [gb,Jn]; exact hgt);rw [gb,Jn] at Xo;exact ⟨1,j,0,rfl,Xo,hs⟩
    ·have Lm:=fH;refine lS gP (by omega) iB (aZ PN hs (C208 _ _) (λ vt he hs=>aY (λ B0=>?_) (λ B0=>?_)))
     ·have hda:=B0;refine aA lr (aV hs bN (eE rfl) (rfl) (λ uU hs=>?_));have hs:=hs.enc (cs':=Flat.enc ({ (⟨0,(ByteArray.mk #[]),0,(a:Int)⟩:bH) with kind:=2}:bH)) rfl;have hs:=hs.p1.p1;refine ⟨λ mm x w'=>∃ j:Nat,x = .int .i64 (j:Int)∧mm=s.size - j∧a≤j∧j≤s.size∧vK vI s a=vK vI s j∧(∀ (i:Nat) (c:UInt8),a≤i→i<j→(lx s)[i]? = some c→48≤(c.toNat:Int)∧(c.toNat:Int)≤57)∧St w bD [cC SK (Flat.enc (⟨2,ByteArray.mk #[],(numOf s a j),(a:Int)⟩:bH)),bL yw out] w',⟨_,a,rfl,rfl,Nat.le_refl _,ha,rfl,λ i c h1 h2=>absurd h1 (by omega),by rw [Jl]; exact hs⟩,?_⟩
      rintro mm _ sw ⟨j,rfl,rfl,haj,hj,gb,hdg,hs⟩ GR;refine ⟨λ jv w'=>jv = .bool (match (lx s)[j]? with | some c=>vI c | none=>false)∧St w bD [cC SK (Flat.enc (⟨2,ByteArray.mk #[],(numOf s a j),(a:Int)⟩:bH)),bL yw out] w',?_,?_⟩
      ·refine gh gP (aR (aC (λ rC=>?_) (λ rC=>?_)))
       ·obtain ⟨af3,OK⟩:∃ xx,(lx (s))[((j:Int)).toNat]? = some xx:=⟨_,List.getElem?_eq_getElem (by rw [dX]; omega)⟩;refine lS gP (by omega) OK (aZ PN hs (C208 _ _) (λ wc he hs=>?_));exact ⟨vb (by first | (rw [show (lx s)[j]? = some af3 from OK]; rfl) | (rw [List.getElem?_eq_none (by rw [dX]; omega)])),hs⟩
       ·exact ⟨vb (by first | (rw [show (lx s)[j]? = some af3 from OK]; rfl) | (rw [List.getElem?_eq_none (by rw [dX]; omega)])),hs⟩
      ·rintro _ ze ⟨rfl,hs⟩ R7;refine aY (λ qC=>?_) (λ qC=>?_)
       ·have QY:∃ c,(lx s)[j]? = some c∧vI c=true:=by
         cases hc:(lx s)[j]? with
         | none=>rw [hc] at qC; cases qC
         | some c=>rw [hc] at qC; exact ⟨c,rfl,qC⟩
        obtain ⟨cj,Cu,SF⟩:=QY;have hjl:=ql Cu;have hcd:=SF;unfold vI nu at hcd;rw [decide_eq_true_eq] at hcd;have hnb:=adk haj (by omega) hdg;refine ⟨λ w'=>St w bD [cC SK (Flat.enc (⟨2,ByteArray.mk #[],(numOf s a (j+1)),(a:Int)⟩:bH)),bL yw out] w',?_,?_⟩
        ·refine aA q9 (aB (v:=.int .i64 (numOf s a j)) bN hs.hb rfl (jL (aC (λ oh=>?_) (λ oh=>?_))))
         ·refine aA q9 (have hs:=hs.drew;aB (v:=.int .i64 (numOf s a j)) bN hs.hb rfl (CD (by omega) ?_));obtain ⟨arl,Xp⟩:∃ xx,(lx (s))[((j:Int)).toNat]? = some xx:=⟨_,List.getElem?_eq_getElem (by rw [dX]; omega)⟩;refine lS gP (by omega) Xp ?_;obtain rfl:=Option.some.inj (Xp.symm.trans (show (lx s)[((j:Int)).toNat]? = some cj from Cu));refine Xg (by omega) (SC xK oP (by omega) (aN (by omega) (aA q9 (aV hs bN (eE rfl) (rfl) (λ Cn hs=>?_)))));have hs:=hs.enc (cs':=Flat.enc ({ (⟨2,ByteArray.mk #[],(numOf s a j),(a:Int)⟩:bH) with n:=((10 * (numOf s a j))+((arl.toNat:Int) - 48))}:bH)) rfl
          have hs:=hs.p1.p1;rw [y9 haj Cu,if_pos oh];exact hs
         ·have hs:=hs.p1.p1;rw [y9 haj Cu,if_neg oh];exact hs
        ·intro Iy hs dd6;refine aN (by omega) ?_
         exact ⟨_,by omega,j+1,rfl,rfl,by omega,by omega,gb.trans (E7 Cu SF),λ i c h1 h2 h3=>by
          by_cases e:i=j
          ·subst e; obtain rfl:=Option.some.inj (h3.symm.trans Cu); omega
          ·exact hdg i c h1 (by omega) h3,hs⟩
       ·have Jn:vK vI s j=j:=by
         by_cases hjs:j<s.size
         ·obtain ⟨cj,QY⟩:∃ c,(lx s)[j]? = some c:=⟨_,List.getElem?_eq_getElem (by rw [dX]; exact hjs)⟩;rw [QY] at qC; exact E8 QY qC
         ·exact Jk (by omega)
        refine aA q9 (aB (v:=.int .i64 (numOf s a j)) bN hs.hb rfl (cZ (aC (λ zX=>?_) (λ zX=>?_))))
        ·have hs:=((hs.drop)).drop;have hR:=Jm hp Yv Lm hda (by rw [gb,Jn]; omega);subst hR;exact ⟨_,rfl,hs.fY.fresh⟩
        ·have hs:=hs.p1.p1
         have hgt:a<j:=by
          rcases Nat.lt_or_ge a j with h | h
          ·exact h
          ·obtain rfl:j=a:=by omega
           rw [Yv] at qC; have h9:vI gW=false:=qC; unfold vI at h9; rw [hda] at h9; cases h9
         have Xo:=Xm hp Yv Lm hda (by rw [gb,Jn]; omega) (by rw [gb,Jn]; exact hgt);rw [gb,Jn] at Xo;exact ⟨2,j,_,rfl,Xo,hs⟩
     ·have hda:=B0;have hsb:=Xn s a gW;have hsi:=QZ Yv;refine aA lr (aV hs bN (eE rfl) (rfl) (λ JG hs=>have hs:=hs.enc (cs':=Flat.enc ({ (⟨0,(ByteArray.mk #[]),0,(a:Int)⟩:bH) with kind:=3}:bH)) rfl;aZ ank hs (C210 s a gW _ Ym Yv) (λ KR he hs=>aN (by omega) (aH (aC (λ Ws=>?_) (λ Ws=>?_))))))
      ·have hs:=((hs.drop)).drop;have hR:=SI hp Yv Lm hda (by omega);subst hR;exact ⟨_,rfl,hs.fY.fresh⟩
      ·have hs:=hs.p1.p1;have Xo:=SJ hp Yv Lm hda (by omega);exact ⟨3,a+(pX s a gW).toNat,0,by congr 1; omega,Xo,hs⟩
   ·rintro _ MN ⟨kd,e,n,rfl,Xo,hs⟩ dd7;have ayx:=Xo;obtain ⟨h1e0,h2e0,_⟩:=ayx;refine KK gP (by omega) (by omega) (by omega) (aA m8 (aV hs kf (eE rfl) (rfl) (λ Qw hs=>have hs:=hs.enc (cs':=Flat.enc ({ (⟨kd,ByteArray.mk #[],n,(a:Int)⟩:bH) with text:=((s).extract ((a:Int)).toNat ((e:Int)).toNat)}:bH)) rfl;aD aeM hs.At (bX ([(⟨kd,s.extract (a:Int).toNat (e:Int).toNat,n,(a:Int)⟩:bH)]) hs fz rfl rfl (eE rfl) (λ ake Tl hs=>?_)))));have adl:=(hs).fM;refine cP hs.p2 fz adl (by simp; omega) (by decide) (λ akf VK hs=>?_);have hs:=hs.p1.drop;obtain ⟨h1e,h2e,a2,Yk,YD⟩:=Xo
    have ayy:=AJ Yk h2e;refine aZ aex hs (C209 s e (s.size+1) a2 _ (by omega) (by omega) Yk) (λ Se he hs=>?_);have hs:=(hs.p1).drop;exact ⟨k,by omega,a2,_,rfl,ayy.2,by simp; omega,YD,hs⟩
  ·have hR:=SG hp (by omega);subst hR;exact ⟨_,rfl,hs.fresh⟩
end Go.Proofs.YtnjcingfdhjfkaaGreat
