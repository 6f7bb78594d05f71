/-
 Part 5.
-/
import Derived.Test.YtnjcingfdhjfkaaGreatVfM4
set_option linter.all false
namespace Go.Proofs.YtnjcingfdhjfkaaGreat
open Go.Fw
theorem W1 {c:fu} {cells lines locks:Int} (h:∀ j,j<c.l.length→vi c cells lines locks j=false):agr c.l:=by
 intro i x hx hk
 have:=h i (List.getElem?_eq_some_iff.1 hx).1
 rw [ur hx] at this
 simp only [Bool.or_eq_false_iff,Bool.not_eq_false'] at this
 exact WN hk this.2
theorem E8 {l:List Int} {k:Nat} {e:Int} (h:l[k]? = some e):lz l (k+1)=e+1:=by
 unfold lz; rw [if_neg (by omega),Nat.add_sub_cancel,List.getD_eq_getElem?_getD,h]; rfl
set_option maxHeartbeats 4000000 in
theorem C113 (c:fu) (cv:cN) (cells lines locks:Int) (w:World) (hc:bZ.dr w cv c) (hz:CZ c):CR 113 [Flat.val cv,.int .i64 cells,.int .i64 lines,.int .i64 locks] w (λ v w'=>v = .bool (ly c cells lines locks)∧Ext w w'):=by
 obtain ⟨uw,rfl,E9⟩:=hc;have hzl:=hz.l;have hs:=St.start w;refine ZQ _ _ _ _ _ _ ?_;unfold S113;refine dJ hs (λ Gi w1 hs=>?_);refine ⟨λ jv w'=>jv = .bool (vk c)∧St w bD [cH Gi (Flat.enc (⟨(c).aK,(c).counts,uw⟩:cN))] w',?_,?_⟩
 ·refine aA xk (aB (v:=.int .i64 ((c).aK)) bL hs.hb rfl (aR (aC (λ fB=>?_) (λ fB=>?_))))
  ·exact ⟨vb (by unfold vk; grind),hs⟩
  ·refine aA xk (aB (v:=.int .i64 ((c).aK)) bL hs.hb rfl (dB (aC (λ iV=>?_) (λ iV=>?_))))
   ·exact ⟨vb (by unfold vk; grind),hs⟩
   ·refine aA C2 (aB (v:=.int .i64 ((c).counts)) bL hs.hb rfl (aR (aC (λ LY=>?_) (λ LY=>?_))))
    ·exact ⟨vb (by unfold vk; grind),hs⟩
    ·refine aA C2 (aB (v:=.int .i64 ((c).counts)) bL hs.hb rfl (dB ?_));exact ⟨vb (by unfold vk; grind),hs⟩
 ·rintro _ w2 ⟨rfl,hs⟩ fD;refine aX (λ iJ=>?_) (λ iJ=>?_)
  ·have hs:=(hs).drop;refine ⟨vb ?_,hs.aF⟩;unfold ly;rw [iJ]; rfl
  ·refine aA mD (aB uS hs.hb rfl ?_);obtain ⟨aq4,W3,agB⟩:=(E9).open;have hn106:=agB.1;refine aJ kT (W3.ext hs.aF) ?_;refine ⟨λ m x w1=>∃ k:Nat,x = .int .i64 (k:Int)∧m=c.l.length - k∧k≤c.l.length∧(∀ j,j<k→vi c cells lines locks j=false)∧St w bD [cH Gi (Flat.enc (⟨(c).aK,(c).counts,uw⟩:cN))] w1,⟨_,0,rfl,rfl,Nat.zero_le _,by simp,hs⟩,?_⟩;rintro m _ w3 ⟨k,rfl,rfl,hk,fV,hs⟩ jH;refine aR (aC (λ sy=>?_) (λ sy=>?_))
   ·obtain ⟨agC,Jc⟩:=gx aq4 (i:=((k:Int)).toNat) (by omega);obtain ⟨dA,vl⟩:=gx ((c).l) (i:=((k:Int)).toNat) (by omega);obtain ⟨qK,qL,rfl,QZ,Q0⟩:=agB.2 _ _ _ Jc vl;refine aQ kT W3 (by omega) Jc (λ _ Ep=>aD lM (Ep.ext hs.aF) (aN hs mF (λ ir w4 hs=>have hs:=hs.enc (cs':=Flat.enc (⟨0,0,0,⟨none,0,0⟩,⟨none,0,0⟩,0⟩:bU)) rfl;aI (x:=(⟨(dA).kind,(dA).a,(dA).b,qK,qL,(dA).to⟩:bU)) hs lM rfl rfl (λ w5 hs=>?_))));refine ⟨λ jv w'=>jv = .bool (decide (dA.kind<1) || decide (16≤dA.kind))∧St w bD [cH ir (Flat.enc (⟨(dA).kind,(dA).a,(dA).b,qK,qL,(dA).to⟩:bU)),cH Gi (Flat.enc (⟨(c).aK,(c).counts,uw⟩:cN))] w',?_,?_⟩
    ·refine aA jn (aB (v:=.int .i64 ((dA).kind)) bL hs.hb rfl (aR (aC (λ jR=>?_) (λ jR=>?_))))
     ·exact ⟨vb (by grind),hs⟩
     ·refine aA jn (aB (v:=.int .i64 ((dA).kind)) bL hs.hb rfl (dK ?_));exact ⟨vb (by grind),hs⟩
    ·rintro _ w6 ⟨rfl,hs⟩ oY;refine aX (λ pX=>?_) (λ pX=>?_)
     ·have hs:=((hs.drop)).drop;refine ⟨vb ?_,hs.aF⟩;unfold ly;rw [rB (f:=vi c cells lines locks) (j:=k) (by omega) (by rw [ur (i:=k) vl,WT (by grind)]; rfl)]; simp
     ·have mR:1≤dA.kind∧dA.kind≤15:=by grind
      refine aA ku (have hs:=hs.drew;aB (v:=.int .i64 ((dA).a)) bL hs.hb rfl (aA xk (aB (v:=.int .i64 ((c).aK)) bL hs.p1.hb rfl (gh (first:=[]) (cap:=[.pointer (some ⟨ir,0,none⟩)]) r9 (C176 dA.kind 114 ir (decide (dA.kind=1∨dA.kind=2∨dA.kind=4)) _ ((hs).hb.cell rfl) mR ((oz mR).1)) ?_))));rintro _ w7 ⟨rfl,he⟩;have hs:=hs.ext he;refine ⟨aG bL (hs.hb.cell rfl),?_⟩;refine ⟨aG bL (hs.p1.hb.cell rfl),?_⟩;refine aZ Ko hs (C179 _ _ _ _) (λ w8 he hs=>?_);refine ⟨λ jv w'=>jv = .bool (aM dA c.aK c.counts)∧St w bD [cH ir (Flat.enc (⟨(dA).kind,(dA).a,(dA).b,qK,qL,(dA).to⟩:bU)),cH Gi (Flat.enc (⟨(c).aK,(c).counts,uw⟩:cN))] w',?_,?_⟩
      ·refine gh (first:=[]) (cap:=[.pointer (some ⟨ir,0,none⟩)]) r9 (C176 dA.kind 107 ir (decide (dA.kind=13∨dA.kind=14)) _ ((hs).hb.cell rfl) mR ((oz mR).2.1)) ?_;rintro _ w9 ⟨rfl,he⟩;have hs:=hs.ext he;refine aX (λ GY=>?_) (λ GY=>?_)
       ·refine aA ku (aB (v:=.int .i64 ((dA).a)) bL hs.hb rfl (aA C2 (aB (v:=.int .i64 ((c).counts)) bL hs.p1.hb rfl (aZ Ko hs (C179 true _ _ _) (λ pP he hs=>?_)))));exact ⟨vb (by unfold aM; grind),hs⟩
       ·exact ⟨vb (by unfold aM; grind),hs⟩
      ·rintro _ sZ ⟨rfl,hs⟩ G9;refine aA fc (aB (v:=.int .i64 ((dA).b)) bL hs.hb rfl (aH ?_));refine ⟨λ jv w'=>jv = .bool (bM dA cells lines locks)∧St w bD [cH ir (Flat.enc (⟨(dA).kind,(dA).a,(dA).b,qK,qL,(dA).to⟩:bU)),cH Gi (Flat.enc (⟨(c).aK,(c).counts,uw⟩:cN))] w',?_,?_⟩
       ·refine gh (first:=[]) (cap:=[.pointer (some ⟨ir,0,none⟩)]) r9 (C176 dA.kind 99 ir (decide (dA.kind=2∨dA.kind=3∨dA.kind=4)) _ ((hs).hb.cell rfl) mR ((oz mR).2.2.1)) ?_;rintro _ vy ⟨rfl,he⟩;have hs:=hs.ext he;refine aX (λ ry=>?_) (λ ry=>?_)
        ·refine aA fc (aB (v:=.int .i64 ((dA).b)) bL hs.hb rfl (aZ Ko hs (C179 true _ _ _) (λ vz he hs=>?_)));exact ⟨vb (by unfold bM; grind),hs⟩
        ·refine gh (first:=[]) (cap:=[.pointer (some ⟨ir,0,none⟩)]) r9 (C176 dA.kind 108 ir (decide (dA.kind=5∨dA.kind=6)) _ ((hs).hb.cell rfl) mR ((oz mR).2.2.2.1)) ?_;rintro _ su ⟨rfl,he⟩;have hs:=hs.ext he;refine aX (λ LN=>?_) (λ LN=>?_)
         ·refine aA fc (aB (v:=.int .i64 ((dA).b)) bL hs.hb rfl (aZ Ko hs (C179 true _ _ _) (λ wm he hs=>?_)));exact ⟨vb (by unfold bM; grind),hs⟩
         ·refine gh (first:=[]) (cap:=[.pointer (some ⟨ir,0,none⟩)]) r9 (C176 dA.kind 109 ir (decide (dA.kind=9∨dA.kind=10)) _ ((hs).hb.cell rfl) mR ((oz mR).2.2.2.2.1)) ?_;rintro _ zq ⟨rfl,he⟩;have hs:=hs.ext he;refine aX (λ aq5=>?_) (λ aq5=>?_)
          ·refine aA fc (aB (v:=.int .i64 ((dA).b)) bL hs.hb rfl (aZ Ko hs (C179 true _ _ _) (λ CH he hs=>?_)));exact ⟨vb (by unfold bM; grind),hs⟩
          ·refine gh (first:=[]) (cap:=[.pointer (some ⟨ir,0,none⟩)]) r9 (C176 dA.kind 110 ir (decide (dA.kind=13)) _ ((hs).hb.cell rfl) mR ((oz mR).2.2.2.2.2.1)) ?_;rintro _ IN ⟨rfl,he⟩;have hs:=hs.ext he;refine aX (λ W4=>?_) (λ W4=>?_)
           ·refine aA fc (aB (v:=.int .i64 ((dA).b)) bL hs.hb rfl (dK (aC (λ W5=>?_) (λ W5=>?_))))
            ·refine aA fc (aB (v:=.int .i64 ((dA).b)) bL hs.hb rfl (kj ?_));exact ⟨vb (by unfold bM; grind),hs⟩
            ·exact ⟨vb (by unfold bM; grind),hs⟩
           ·exact ⟨vb (by unfold bM; grind),hs⟩
       ·rintro _ JQ ⟨rfl,hs⟩ Sv;refine ⟨λ jv w'=>jv = .bool (if sG dA.kind=true then eR dA.e c.aK else !decide (0<(dA.e.length:Int)))∧St w bD [cH ir (Flat.enc (⟨(dA).kind,(dA).a,(dA).b,qK,qL,(dA).to⟩:bU)),cH Gi (Flat.enc (⟨(c).aK,(c).counts,uw⟩:cN))] w',?_,?_⟩
        ·refine gh (first:=[]) (cap:=[.pointer (some ⟨ir,0,none⟩)]) r9 (C176 dA.kind 101 ir (sG dA.kind) _ ((hs).hb.cell rfl) mR ((oz mR).2.2.2.2.2.2.1)) ?_;rintro _ Lc ⟨rfl,he⟩;have hs:=hs.ext he;refine aX (λ akr=>?_) (λ akr=>?_)
         ·refine aA tT (aB xW hs.hb rfl ?_);have agD:=DL.flat (QZ);refine aA xk (aB (v:=.int .i64 ((c).aK)) bL hs.p1.hb rfl (aZ PN hs (C116 _ _ _ _ (agD.ext hs.aF) (by have:=hz.ef _ (List.mem_of_getElem? vl); omega)) (λ M4 he hs=>aX (λ Ow=>?_) (λ Ow=>?_))))
          ·exact ⟨vb (by grind),hs⟩
          ·refine gh (first:=[]) (cap:=[.pointer (some ⟨ir,0,none⟩)]) r9 (C176 dA.kind 101 ir (sG dA.kind) _ ((hs).hb.cell rfl) mR ((oz mR).2.2.2.2.2.2.1)) ?_;rintro _ QS ⟨rfl,he⟩;have hs:=hs.ext he;refine cC (aX (λ aks=>?_) (λ aks=>?_))
           ·refine aA tT (aB xW hs.hb rfl (aJ vJ (agD.ext hs.aF) (aH ?_)));exact ⟨vb (by grind),hs⟩
           ·exact ⟨vb (by grind),hs⟩
         ·refine gh (first:=[]) (cap:=[.pointer (some ⟨ir,0,none⟩)]) r9 (C176 dA.kind 101 ir (sG dA.kind) _ ((hs).hb.cell rfl) mR ((oz mR).2.2.2.2.2.2.1)) ?_;rintro _ T3 ⟨rfl,he⟩;have hs:=hs.ext he;refine cC (aX (λ W6=>?_) (λ W6=>?_))
          ·refine aA tT (aB xW hs.hb rfl ?_);have aq6:=DL.flat (QZ);refine aJ vJ (aq6.ext hs.aF) (aH ?_);exact ⟨vb (by grind),hs⟩
          ·exact ⟨vb (by grind),hs⟩
        ·rintro _ Wk ⟨rfl,hs⟩ dd6;refine ⟨λ jv w'=>jv = .bool (if dA.kind=4 then eR dA.f c.aK else !decide (0<(dA.f.length:Int)))∧St w bD [cH ir (Flat.enc (⟨(dA).kind,(dA).a,(dA).b,qK,qL,(dA).to⟩:bU)),cH Gi (Flat.enc (⟨(c).aK,(c).counts,uw⟩:cN))] w',?_,?_⟩
         ·refine gh (first:=[]) (cap:=[.pointer (some ⟨ir,0,none⟩)]) r9 (C176 dA.kind 102 ir (decide (dA.kind=4)) _ ((hs).hb.cell rfl) mR ((oz mR).2.2.2.2.2.2.2.1)) ?_;rintro _ SB ⟨rfl,he⟩;have hs:=hs.ext he;refine aX (λ akt=>?_) (λ akt=>?_)
          ·refine aA tU (aB xW hs.hb rfl ?_);have agE:=DL.flat (Q0);refine aA xk (aB (v:=.int .i64 ((c).aK)) bL hs.p1.hb rfl (aZ PN hs (C116 _ _ _ _ (agE.ext hs.aF) (by have:=hz.ef _ (List.mem_of_getElem? vl); omega)) (λ w26 he hs=>aX (λ aku=>?_) (λ aku=>?_))))
           ·exact ⟨vb (by grind),hs⟩
           ·refine gh (first:=[]) (cap:=[.pointer (some ⟨ir,0,none⟩)]) r9 (C176 dA.kind 102 ir (decide (dA.kind=4)) _ ((hs).hb.cell rfl) mR ((oz mR).2.2.2.2.2.2.2.1)) ?_;rintro _ w27 ⟨rfl,he⟩;have hs:=hs.ext he;refine cC (aX (λ Fa=>?_) (λ Fa=>?_))
            ·refine aA tU (aB xW hs.hb rfl (aJ vJ (agE.ext hs.aF) (aH ?_)));exact ⟨vb (by grind),hs⟩
            ·exact ⟨vb (by grind),hs⟩
          ·refine gh (first:=[]) (cap:=[.pointer (some ⟨ir,0,none⟩)]) r9 (C176 dA.kind 102 ir (decide (dA.kind=4)) _ ((hs).hb.cell rfl) mR ((oz mR).2.2.2.2.2.2.2.1)) ?_;rintro _ w28 ⟨rfl,he⟩;have hs:=hs.ext he;refine cC (aX (λ W7=>?_) (λ W7=>?_))
           ·refine aA tU (aB xW hs.hb rfl ?_);have aq7:=DL.flat (Q0);refine aJ vJ (aq7.ext hs.aF) (aH ?_);exact ⟨vb (by grind),hs⟩
           ·exact ⟨vb (by grind),hs⟩
         ·rintro _ w29 ⟨rfl,hs⟩ dd7;refine aA kx (aB (v:=.int .i64 ((dA).to)) bL hs.hb rfl (aH ?_));refine ⟨λ jv w'=>jv = .bool (I8 c.l k dA)∧St w bD [cH ir (Flat.enc (⟨(dA).kind,(dA).a,(dA).b,qK,qL,(dA).to⟩:bU)),cH Gi (Flat.enc (⟨(c).aK,(c).counts,uw⟩:cN))] w',?_,?_⟩
          ·refine ⟨λ jv w'=>jv = .bool (decide (dA.kind=14))∧St w bD [cH ir (Flat.enc (⟨(dA).kind,(dA).a,(dA).b,qK,qL,(dA).to⟩:bU)),cH Gi (Flat.enc (⟨(c).aK,(c).counts,uw⟩:cN))] w',?_,?_⟩
           ·refine gh (first:=[]) (cap:=[.pointer (some ⟨ir,0,none⟩)]) r9 (C176 dA.kind 116 ir (decide (dA.kind=11∨dA.kind=12∨dA.kind=14)) _ ((hs).hb.cell rfl) mR ((oz mR).2.2.2.2.2.2.2.2)) ?_;rintro _ w30 ⟨rfl,he⟩;have hs:=hs.ext he;refine aX (λ akv=>?_) (λ akv=>?_)
            ·refine aA jn (aB (v:=.int .i64 ((dA).kind)) bL hs.hb rfl (aH ?_));exact ⟨vb (by grind),hs⟩
            ·exact ⟨vb (by grind),hs⟩
           ·rintro _ w31 ⟨rfl,hs⟩ dd8;refine aX (λ BQ=>?_) (λ BQ=>?_)
            ·refine aA mD (aB uS hs.p1.hb rfl (aZ anX hs (C180 _ _ _ _ _ (E9.ext hs.aF) (by omega) vl) (λ w32 he hs=>?_)));exact ⟨vb (by unfold I8; grind),hs⟩
            ·refine gh (first:=[]) (cap:=[.pointer (some ⟨ir,0,none⟩)]) r9 (C176 dA.kind 116 ir (decide (dA.kind=11∨dA.kind=12∨dA.kind=14)) _ ((hs).hb.cell rfl) mR ((oz mR).2.2.2.2.2.2.2.2)) ?_;rintro _ w33 ⟨rfl,he⟩;have hs:=hs.ext he;refine aX (λ Fb=>?_) (λ Fb=>?_)
             ·refine aA kx (aB (v:=.int .i64 ((dA).to)) bL hs.hb rfl (dB (aC (λ akw=>?_) (λ akw=>?_))))
              ·refine aA kx (aB (v:=.int .i64 ((dA).to)) bL hs.hb rfl (aA mD (aB uS hs.p1.hb rfl (aJ kT (W3.ext hs.aF) (kj ?_)))));exact ⟨vb (by unfold I8; grind),hs⟩
              ·exact ⟨vb (by unfold I8; grind),hs⟩
             ·exact ⟨vb (by unfold I8; grind),hs⟩
          ·rintro _ w34 ⟨rfl,hs⟩ dd9;refine ⟨λ jv w'=>jv = .bool (!vh dA c cells lines locks || !I8 c.l k dA)∧St w bD [cH ir (Flat.enc (⟨(dA).kind,(dA).a,(dA).b,qK,qL,(dA).to⟩:bU)),cH Gi (Flat.enc (⟨(c).aK,(c).counts,uw⟩:cN))] w',?_,?_⟩
           ·refine cC (aX (λ akx=>?_) (λ akx=>?_))
            ·exact ⟨vb (by rw [uu mR]; grind),hs⟩
            ·refine cC (aX (λ aky=>?_) (λ aky=>?_))
             ·exact ⟨vb (by rw [uu mR]; grind),hs⟩
             ·refine cC (aX (λ akz=>?_) (λ akz=>?_))
              ·exact ⟨vb (by rw [uu mR]; grind),hs⟩
              ·refine cC (aX (λ akA=>?_) (λ akA=>?_))
               ·exact ⟨vb (by rw [uu mR]; grind),hs⟩
               ·refine cC ?_;exact ⟨vb (by rw [uu mR]; grind),hs⟩
           ·rintro _ w35 ⟨rfl,hs⟩ dd10;refine aX (λ Ox=>?_) (λ Ox=>?_)
            ·have hs:=((hs.drop)).drop;refine ⟨vb ?_,hs.aF⟩;unfold ly;rw [rB (f:=vi c cells lines locks) (j:=k) (by omega) (by rw [ur (i:=k) vl]; exact Ox)]; simp
            ·refine aO (by omega) ?_;have hs:=(hs).drop;exact ⟨_,by omega,k+1,rfl,rfl,by omega,Ak fV (by rw [ur (i:=k) vl]; exact Ox),hs⟩
   ·refine aA mD (aB uS hs.hb rfl (aZ anY hs (C181 _ _ _ (E9.ext hs.aF) (by omega) (W1 (cells:=cells) (lines:=lines) (locks:=locks) (λ j hj=>fV j (by omega)))) (λ w36 he hs=>?_)));have hs:=(hs).drop;refine ⟨vb ?_,hs.aF⟩;unfold ly;rw [iJ,ng (f:=vi c cells lines locks) (λ j hj=>fV j (by omega))]; simp
theorem C112 (c:fu) (cv:cN) (u:im) (uv:dQ) (b1:Nat) (w:World) (hc:bZ.dr w cv c) (hA:At (λ _=>True) w (.pointer (some ⟨b1,0,none⟩)) uv) (hu:bZ.dr w uv u) (hz:CZ c) (hzu:UZ u) (hb:∀ n∈u.lines,-1≤n∧n≤(u.lines.length:Int)):CR 112 [Flat.val cv,.pointer (some ⟨b1,0,none⟩)] w (λ v w'=>v = .bool (!ly c u.lines.length (gw u) u.locks)∧Ext w w'):=by
 obtain ⟨uw,rfl,E9⟩:=hc;obtain ⟨iK,gM,fe,sI,fo,rfl,iL,jw,je,jU,kY⟩:=hu;obtain ⟨dO,rfl,ix⟩:=jU;have hs:=St.start w;refine ZP _ _ _ _ ?_;unfold S112;refine dJ hs (λ b_c2 w1 hs=>have hs:=hs.drew;aD qg hs.At (bT iK mE hA rfl rfl (λ _ SG=>aD eB (SG.ext hs.aF) ?_)));have aq8:=DL.flat (iL);refine aJ eh (aq8.ext hs.aF) (aD tO (hA.ext hs.aF) (bT (u).locks C3 hA rfl rfl (λ _ qC=>aD bL (qC.ext hs.aF) (aZ anB hs (C114 u _ _ ⟨iK,gM,fe,(⟨((u).recover).aK,((u).recover).counts,dO⟩:cN),fo,rfl,(iL.ext hs.aF),(jw.ext hs.aF),(je.ext hs.aF),⟨dO,rfl,(ix.ext hs.aF)⟩,(kY.ext hs.aF)⟩ hzu hb) (λ w2 he hs=>?_)))))
 refine ⟨eO qg hs.At,?_⟩;refine ⟨eO eB (SG.ext hs.aF),?_⟩;refine ⟨eO bL (qC.ext hs.aF),?_⟩;refine aZ anA hs (C113 c _ _ _ _ _ ⟨uw,rfl,(E9.ext hs.aF)⟩ hz) (λ w3 he hs=>cC ?_);exact ⟨rfl,hs.drop.aF⟩
set_option maxHeartbeats 4000000 in
theorem C51 (u:im) (uv:dQ) (w:World) (hu:bZ.dr w uv u) (hz:UZ u):CR 51 [Flat.val uv] w (λ v w'=>v = .bool (nz u)∧Ext w w'):=by
 have hu0:=hu;obtain ⟨iK,gM,fe,sI,fo,rfl,iL,jw,je,jU,kY⟩:=hu;obtain ⟨dO,rfl,ix⟩:=jU;have hs:=St.start w;refine ah1 _ _ _ ?_;unfold S51;refine dJ hs (λ yf w1 hs=>?_);refine ⟨λ jv w'=>jv = .bool (kX u)∧St w bD [cH yf (Flat.enc (⟨iK,(u).stays,gM,(u).locks,fe,(⟨((u).recover).aK,((u).recover).counts,dO⟩:cN),fo⟩:dQ))] w',?_,?_⟩
 ·refine aA mE (aB eB hs.hb rfl ?_);have W8:=DL.flat (iL);refine aJ eh (W8.ext hs.aF) (dB (aC (λ kP=>?_) (λ kP=>?_)))
  ·exact ⟨vb (by unfold kX; grind),hs⟩
  ·refine aA py (aB (v:=.int .i64 ((u).stays)) bL hs.hb rfl (aR (aC (λ mg=>?_) (λ mg=>?_))))
   ·exact ⟨vb (by unfold kX; grind),hs⟩
   ·refine aA py (aB (v:=.int .i64 ((u).stays)) bL hs.hb rfl (aA mE (aB eB hs.hb rfl (aJ eh (W8.ext hs.aF) (dB (aC (λ fT=>?_) (λ fT=>?_)))))))
    ·exact ⟨vb (by unfold kX; grind),hs⟩
    ·refine aA xl (aB eB hs.hb rfl ?_);have aq9:=DL.flat (jw);refine aJ eh (aq9.ext hs.aF) (aA mE (aB eB hs.hb rfl (aJ eh (W8.ext hs.aF) (cR (aC (λ iJ=>?_) (λ iJ=>?_))))))
     ·exact ⟨vb (by unfold kX; grind),hs⟩
     ·refine aA C3 (aB (v:=.int .i64 ((u).locks)) bL hs.hb rfl (aR (aC (λ sy=>?_) (λ sy=>?_))))
      ·exact ⟨vb (by unfold kX; grind),hs⟩
      ·refine aA C3 (aB (v:=.int .i64 ((u).locks)) bL hs.hb rfl (dB (aC (λ sB=>?_) (λ sB=>?_))))
       ·exact ⟨vb (by unfold kX; grind),hs⟩
       ·refine aA se (aB F4 hs.hb rfl ?_);obtain ⟨ts114,agF,ara⟩:=(je).open;have hn114:=ara.1;refine aJ Bs (agF.ext hs.aF) (aR (aC (λ pX=>?_) (λ pX=>?_)))
        ·exact ⟨vb (by unfold kX; grind),hs⟩
        ·refine aA se (aB F4 hs.hb rfl (aJ Bs (agF.ext hs.aF) (dB ?_)));exact ⟨vb (by unfold kX; grind),hs⟩
 ·rintro _ w2 ⟨rfl,hs⟩ fD;refine aX (λ Ha=>?_) (λ Ha=>?_)
  ·have hs:=(hs).drop;refine ⟨vb ?_,hs.aF⟩;unfold nz;rw [Ha]; rfl
  ·obtain ⟨IJ,hb2,hb3,hb4,hb5,hb6,hb7,hb8⟩:=Ot Ha;have hzc:=hz.cD;have Lt:=hz.threads;have hzf:=hz.dH;refine aA mE (aB eB hs.hb rfl ?_);have agH:=DL.flat (iL);refine aJ eh (agH.ext hs.aF) ?_;refine ⟨λ m y x w1=>∃ (k:Nat) (last:Int),y = .int .i64 last∧x = .int .i64 (k:Int)∧m=u.lines.length - k∧k≤u.lines.length∧last=lz u.lines k - 1∧(∀ j,j<k→ko u j=false)∧St w bD [cH yf (Flat.enc (⟨iK,(u).stays,gM,(u).locks,fe,(⟨((u).recover).aK,((u).recover).counts,dO⟩:cN),fo⟩:dQ))] w1,⟨_,0,-1,rfl,rfl,rfl,Nat.zero_le _,rfl,by simp,hs⟩,?_⟩
   rintro m _ _ w3 ⟨k,last,rfl,rfl,rfl,hk,agI,adM,hs⟩ jH;refine aR (aC (λ sD=>?_) (λ sD=>?_))
   ·obtain ⟨Hd,wH⟩:=gx ((u).lines) (i:=((k:Int)).toNat) (by omega);refine aQ eh agH (by omega) wH (λ _ ED=>?_)
    have hwb : -1≤last∧last≤(k:Int):=by
     by_cases h0:k=0
     ·subst h0; rw [agI]; unfold lz; simp
     ·obtain ⟨m,hm⟩:∃ m,u.lines[k - 1]? = some m:=⟨_,List.getElem?_eq_getElem (by omega)⟩;have h1:=E6 adM (k - 1) m (by omega) hm;have h2:=E8 hm;rw [show k - 1+1=k from by omega] at h2;omega
    refine aD bL (ED.ext hs.aF) ?_;refine ⟨λ jv w'=>jv = .bool (decide (0<(k:Int)) && decide ((k:Int)<u.stays) && decide (Hd=last))∧St w bD [cH yf (Flat.enc (⟨iK,(u).stays,gM,(u).locks,fe,(⟨((u).recover).aK,((u).recover).counts,dO⟩:cN),fo⟩:dQ))] w',?_,?_⟩
    ·refine dB (aC (λ ot=>?_) (λ ot=>?_))
     ·refine aA py (aB (v:=.int .i64 ((u).stays)) bL hs.hb rfl (aR (aC (λ arb=>?_) (λ arb=>?_))))
      ·refine aH ?_;exact ⟨vb (by grind),hs⟩
      ·exact ⟨vb (by grind),hs⟩
     ·exact ⟨vb (by grind),hs⟩
    ·rintro _ w4 ⟨rfl,hs⟩ oY;refine ⟨λ jv w'=>jv = .bool (ko u k)∧St w bD [cH yf (Flat.enc (⟨iK,(u).stays,gM,(u).locks,fe,(⟨((u).recover).aK,((u).recover).counts,dO⟩:cN),fo⟩:dQ))] w',?_,?_⟩
     ·refine cC (aX (λ V0=>?_) (λ V0=>?_))
      ·refine aO (by omega) (cR ?_);exact ⟨vb (by rw [Hh (k:=k) wH]; grind),hs⟩
      ·exact ⟨vb (by rw [Hh (k:=k) wH]; grind),hs⟩
     ·rintro _ w5 ⟨rfl,hs⟩ G9;refine aX (λ W9=>?_) (λ W9=>?_)
      ·have hs:=(hs).drop;refine ⟨vb ?_,hs.aF⟩;unfold nz;rw [rB (f:=ko u) (j:=k) (by omega) W9]; simp
      ·refine aO (by omega) ?_;exact ⟨_,by omega,k+1,Hd,rfl,rfl,rfl,by omega,by rw [E8 (k:=k) wH]; omega,Ak adM W9,hs⟩
   ·have hL:(List.range u.lines.length).any (ko u)=false:=ng (λ j hj=>adM j (by omega));have hsm:=LW (u:=u) (λ j hj=>adM j (by omega));refine ⟨λ jv w'=>jv = .bool ((!u.dH.any lB) && (!u.threads.any (λ c=>!ly c u.lines.length (gw u) u.locks)) && ly u.recover u.lines.length (gw u) u.locks && (!u.cD.any (λ l=>!eR l u.stays)))∧St w bD [cH yf (Flat.enc (⟨iK,(u).stays,gM,(u).locks,fe,(⟨((u).recover).aK,((u).recover).counts,dO⟩:cN),fo⟩:dQ))] w',?_,?_⟩
    ·refine aA xl (aB eB hs.hb rfl ?_);have arc:=DL.flat (jw);have hf1:CI w3 (.func (.func 111) #[] #[]) lB:=⟨111,[],[],rfl,anz,λ x w1 _=>C111 x w1⟩;refine aZ anD hs (C117 _ _ _ lB _ (arc.ext hs.aF) hf1 (by omega)) (λ w6 he hs=>cC (aX (λ W5=>?_) (λ W5=>?_)))
     ·refine aA se (aB F4 hs.hb rfl ?_);have Uo:oe PG _ (.func (.func 112) [].toArray [.pointer (some ⟨yf,0,none⟩)].toArray) CZ (λ c=>!ly c u.lines.length (gw u) u.locks):=⟨112,[],_,rfl,afd,λ s c w1 e1 hd hzc=>C112 c s u _ yf w1 hd (hs.At.ext e1) (bZ.ext hu0 (Ext.trans hs.aF e1)) hzc hz hsm⟩;refine aZ anE hs (C118 _ _ _ CZ (λ c=>!ly c u.lines.length (gw u) u.locks) _ (je.ext hs.aF) Uo hz.th (by omega)) (λ w7 he hs=>cC (aX (λ Ey=>?_) (λ Ey=>?_)))
      ·refine aA zP (uW (⟨((u).recover).aK,((u).recover).counts,dO⟩:cN) qg hs.hb rfl (gh (first:=[]) (cap:=[.pointer (some ⟨yf,0,none⟩)]) afd (C112 u.recover _ u _ yf _ ⟨dO,rfl,(ix.ext hs.aF)⟩ hs.At (bZ.ext hu0 hs.aF) hz.rc hz hsm) ?_));rintro _ w8 ⟨rfl,he⟩;have hs:=hs.ext he;refine cC (aX (λ Ow=>?_) (λ Ow=>?_))
       ·refine aA xm (aB Sh hs.hb rfl ?_);have hf3:oe PG _ (.func (.func 115) [].toArray [.pointer (some ⟨yf,0,none⟩)].toArray) (λ l:List nw=>l.length≤1000) (λ l=>!eR l u.stays):=⟨115,[],_,rfl,anC,λ s l w1 e1 hd hl=>C115 _ l yf u.stays w1 (DL.flat hd) ((hs.hb.cell rfl).ext e1) hl⟩;refine aZ anF hs (C119 _ _ _ (λ l:List nw=>l.length≤1000) (λ l=>!eR l u.stays) _ (kY.ext hs.aF) hf3 hz.cl (by omega)) (λ w9 he hs=>cC ?_);exact ⟨vb (by grind),hs⟩
       ·exact ⟨vb (by grind),hs⟩
      ·exact ⟨vb (by grind),hs⟩
     ·exact ⟨vb (by grind),hs⟩
    ·rintro _ pP ⟨rfl,hs⟩ Sv;have hs:=(hs).drop;refine ⟨vb ?_,hs.aF⟩;unfold nz;rw [Ha,hL];simp only [Bool.not_false,Bool.true_and,Bool.and_true];cases u.dH.any lB <;> cases u.threads.any (λ c=>!ly c u.lines.length (gw u) u.locks) <;> cases u.cD.any (λ l=>!eR l u.stays) <;> cases ly u.recover u.lines.length (gw u) u.locks <;> rfl
theorem Xa {α:Type} {t1 d:List α} {e y y2:α} {k:Nat} (hk:t1.length=k):((t1++e::d).set k y).set k y2=t1++[y2]++d:=by
 subst hk
 rw [List.set_append_right _ _ (Nat.le_refl _),Nat.sub_self,List.set_cons_zero,List.set_append_right _ _ (Nat.le_refl _),Nat.sub_self,List.set_cons_zero]; simp
theorem set_self? {α:Type} {l:List α} {k:Nat} {y e:α} (h:(l.set k y)[k]? = some e):e=y:=by
 have hk:=(List.getElem?_eq_some_iff.1 h).1
 rw [List.length_set] at hk
 rw [List.getElem?_set_self hk] at h
 exact (Option.some.inj h).symm
theorem SH {α:Type} (l:List α) (n:Nat):l.take (min (l.length:Int) n).toNat=l.take n:=by
 rcases Nat.lt_or_ge l.length n with h | h
 ·rw [List.take_of_length_le (by omega),List.take_of_length_le (by omega)]
 ·rw [show (min (l.length:Int) n).toNat=n from by omega]
theorem C121 (sv:Value) (xs:List nw) (w:World) (hL:eP (λ _=>True) w sv xs) (hn:xs.length≤1000000):CR 121 [sv] w (λ v w'=>lY (bK v xs) w w'):=by
 have hs:=St.start w;refine ZY _ _ _ ?_;unfold S121;refine xr Tryz.underlying99 (hL.ext hs.aF) (λ p hp=>aX (λ pU=>?_) (λ pU=>?_))
 ·have hx:=hp pU;subst hx;exact (hs.fX (α:=nw)).fresh
 ·refine bV (([]:List nw)) hs vJ rfl rfl (eK rfl) (λ IQ w1 hs=>?_);have Am:=(hL.ext hs.aF);refine cS hs vJ Am (by simp; omega) (by decide) (λ Lz w2 hs=>?_);exact hs.fresh
theorem C70 (sv:Value) (xs:List Int) (w:World) (hL:eP (λ _=>True) w sv xs) (hn:xs.length≤1000000):CR 70 [sv] w (λ v w'=>lY (bK v xs) w w'):=by
 have hs:=St.start w;refine ail _ _ _ ?_;unfold S70;refine xr Tryz.underlying28 (hL.ext hs.aF) (λ p hp=>aX (λ pU=>?_) (λ pU=>?_))
 ·have hx:=hp pU;subst hx;exact (hs.fX (α:=Int)).fresh
 ·refine bV (([]:List Int)) hs eh rfl rfl (eK rfl) (λ IQ w1 hs=>?_);have Am:=(hL.ext hs.aF);refine cS hs eh Am (by simp; omega) (by decide) (λ Lz w2 hs=>?_);exact hs.fresh
theorem C188 (sv:Value) (xs:List bU) (w:World) (hL:eP (λ _=>True) w sv xs) (hn:xs.length≤1000000):CR 188 [sv] w (λ v w'=>lY (bK v xs) w w'):=by
 have hs:=St.start w;refine aaP _ _ _ ?_;unfold S188;refine xr Tryz.underlying31 (hL.ext hs.aF) (λ p hp=>aX (λ pU=>?_) (λ pU=>?_))
 ·have hx:=hp pU;subst hx;exact (hs.fX (α:=bU)).fresh
 ·refine bV (([]:List bU)) hs kT rfl rfl (eK rfl) (λ IQ w1 hs=>cS hs kT (hL.ext hs.aF) (by simp; omega) (by decide) (λ Lz w2 hs=>?_));exact hs.fresh
set_option maxHeartbeats 4000000 in
theorem C120 (c:fu) (cv:cN) (w:World) (hc:bZ.dr w cv c) (hz:CZ c):CR 120 [Flat.val cv] w (λ v w'=>∃ cv':cN,v=Flat.val cv'∧lY (eL (λ w=>bZ.dr w cv' c)) w w'):=by
 obtain ⟨uw,rfl,E9⟩:=hc;obtain ⟨SI,hRA,hDA⟩:=(E9).open;have hnA:=hDA.1;have hzl:=hz.l;have hs:=St.start w;refine ZX _ _ _ ?_;unfold S120;refine dJ hs (λ ayT w1 hs=>aN hs Iu (λ mf w2 hs=>have hs:=hs.enc (cs':=Flat.enc (⟨0,0,⟨none,0,0⟩⟩:cN)) rfl;aA mD (aB uS hs.p1.hb rfl (dF an5 hs (C188 _ SI _ (hRA.ext hs.aF) (by omega)) (λ x6 w3 cA hs=>aA mD ?_)))));obtain ⟨yA,rfl⟩:=(hs).fU;refine aV hs.p2 uS (eK rfl) (rfl) (λ w4 hs=>have hs:=hs.enc (cs':=Flat.enc (⟨(c).aK,(c).counts,yA⟩:cN)) rfl;aA mD (aB (v:=Flat.val (yA:SV)) uS hs.hb rfl (aJ kT (hs.p1).fF ?_)))
 have hs:=hs.gK (Φ:=jV ([]:List bU) ([]:List aW)) (λ _=>jV.nil);have hs:=hs.p3.p1.p3.p3;refine ⟨λ m x w1=>∃ (k:Nat) (t1:List bU),x = .int .i64 (k:Int)∧m=SI.length - k∧k≤SI.length∧t1.length=k∧St w bD [cH ayT (Flat.enc (⟨(c).aK,(c).counts,yA⟩:cN)),bK (Flat.val yA) (t1++SI.drop k),eL (jV t1 (c.l.take k)),cH mf (Flat.enc (⟨0,0,⟨none,0,0⟩⟩:cN))] w1,⟨_,0,[],rfl,rfl,Nat.zero_le _,rfl,hs⟩,?_⟩;rintro m _ w5 ⟨k,t1,rfl,rfl,hk,ht1,hs⟩ fD;refine aR (aC (λ j8=>?_) (λ j8=>?_))
 ·obtain ⟨e0,he0⟩:∃ e,SI[k]? = some e:=⟨_,List.getElem?_eq_getElem (by omega)⟩;obtain ⟨r0,hr0⟩:∃ r,c.l[k]? = some r:=⟨_,List.getElem?_eq_getElem (by omega)⟩;obtain ⟨ge,gf,rfl,hE,hF⟩:=hDA.2 k _ _ he0 hr0;have hdc:=drop_cons he0;obtain ⟨LZ,akC,Q1⟩:∃ e,e=(⟨r0.kind,r0.a,r0.b,ge,gf,r0.to⟩:bU)∧(t1++SI.drop k)[((k:Int)).toNat]? = some e:=⟨_,rfl,by show (t1++SI.drop k)[k]? = _; rw [List.getElem?_append_right (by omega),ht1,Nat.sub_self,List.getElem?_drop,Nat.add_zero]; exact he0⟩;have hfE:eP (λ _=>True) w (Flat.val LZ.e) r0.e:=by rw [akC]; exact DL.flat hE
  have hfF:eP (λ _=>True) w (Flat.val LZ.f) r0.f:=by rw [akC]; exact DL.flat hF
  have hzz:=hz.ef _ (List.mem_of_getElem? hr0);have hlL:(t1++SI.drop k).length=SI.length:=by rw [List.length_append,List.length_drop]; omega
  refine aA mD (have hs:=hs.drew;aB (v:=Flat.val (yA:SV)) uS hs.hb rfl (aA mD (aB (v:=Flat.val (yA:SV)) uS hs.hb rfl (aA mD (aB (v:=Flat.val (yA:SV)) uS hs.hb rfl (dS hs.p1 kT (by omega) (by omega) (λ _ pW=>nd tT pW (λ _ wq=>oa (LZ).e hs.p1 xW wq Q1 rfl (aA mD (aB (v:=Flat.val (yA:SV)) uS hs.hb rfl (dS hs.p1 kT (by omega) (by omega) (λ _ oo=>nd tU oo (λ _ oN=>?_)))))))))))));refine oa (LZ).f hs.p1 xW oN Q1 rfl (dF UE hs (C121 _ _ _ (hfE.ext hs.aF) (by omega)) (λ x26 w6 cA hs=>?_))
  refine ⟨aG uS (hs.p1.hb.cell rfl),?_⟩;refine ⟨aG uS (hs.p1.hb.cell rfl),?_⟩;refine ⟨aG uS (hs.p1.hb.cell rfl),?_⟩;refine ⟨Vn (LZ).f hs.p2 xW oN Q1 rfl,?_⟩;refine dF UE hs (C121 _ _ _ (hfF.ext hs.aF) (by omega)) (λ x33 w7 cA hs=>?_);refine ⟨aG uS (hs.p2.hb.cell rfl),?_⟩;refine ⟨aG uS (hs.p2.hb.cell rfl),?_⟩;refine dS hs.p3 kT (by omega) (by omega) (λ _ rG=>nd tT rG (λ _ Ac=>?_));obtain ⟨zd,rfl⟩:=(hs.p1).fU;refine KP {LZ with e:=zd} (zd:SV) hs.p3 xW Ac Q1 (by decide) rfl (λ w8 hs=>?_);refine ⟨aG uS (hs.p3.hb.cell rfl),?_⟩
  have hlS:((((t1++SI.drop k)).set ((k:Int)).toNat {LZ with e:=zd})).length=SI.length:=by rw [List.length_set]; exact hlL
  obtain ⟨agK,Fc⟩:=gx ((((t1++SI.drop k)).set ((k:Int)).toNat {LZ with e:=zd})) (i:=((k:Int)).toNat) (by omega);refine dS hs kT (by omega) (by omega) (λ _ uf=>nd tU uf (λ _ Aj=>?_));obtain ⟨wM,rfl⟩:=(hs.p1).fU;refine KP {agK with f:=wM} (wM:SV) hs xW Aj Fc (by decide) rfl (λ w9 hs=>aO (by omega) ?_);have ayU:=set_self? (k:=k) Fc;have hs:=hs.p2.freeze.p2.freeze.p1.fP.p3.fP.dU (Ψ:=jV (t1++[(⟨r0.kind,r0.a,r0.b,zd,wM,r0.to⟩:bU)]) (c.l.take (k+1))) (λ w h=>by rw [← ie (k:=k) hr0]; exact h.1.snoc ⟨_,_,rfl,DL.fx h.2.1,DL.fx h.2.2⟩)
  have hs:=hs.p3.p1.p3.p3.apc (ys:=t1++[(⟨r0.kind,r0.a,r0.b,zd,wM,r0.to⟩:bU)]++SI.drop (k+1)) (by rw [hdc]; exact (Xa ht1).trans (by rw [ayU,akC]));have hs:=hs.p1;exact ⟨_,by omega,k+1,t1++[(⟨r0.kind,r0.a,r0.b,zd,wM,r0.to⟩:bU)],rfl,rfl,by omega,by rw [List.length_append,List.length_singleton]; omega,hs⟩
 ·rw [List.drop_eq_nil_of_le (by omega),List.append_nil,List.take_of_length_le (by omega)] at hs;have hs:=hs.p2.p2.Ea;refine aD qg hs.p1.At (aI (x:=(⟨(c).aK,(c).counts,yA⟩:cN)) hs.p2 qg rfl rfl (λ pP hs=>aD qg hs.At ?_));have hs:=hs.p1.jO.dU (Ψ:=(λ w=>bZ.dr w (⟨(c).aK,(c).counts,yA⟩:cN) (⟨(c).aK,(c).counts,c.l⟩:fu))) (λ w h=>⟨_,rfl,h⟩);have hs:=((hs.p1.drop).p1).drop;exact ⟨_,rfl,hs.fresh⟩
set_option maxHeartbeats 4000000 in
theorem C53 (u:im) (uv:dQ) (w:World) (hu:bZ.dr w uv u) (hz:UZ u):CR 53 [Flat.val uv] w (λ v w'=>∃ uv':dQ,v=Flat.val uv'∧lY (eL (λ w=>bZ.dr w uv' u)) w w'):=by
 obtain ⟨iK,gM,fe,sI,fo,rfl,iL,jw,je,jU,kY⟩:=hu;obtain ⟨dO,rfl,ix⟩:=jU;have hs:=St.start w;refine ah3 _ _ _ ?_;unfold S53;refine dJ hs (λ yf w1 hs=>aN hs v7 (λ mf w2 hs=>have hs:=hs.enc (cs':=Flat.enc (⟨⟨none,0,0⟩,0,⟨none,0,0⟩,0,⟨none,0,0⟩,(⟨0,0,⟨none,0,0⟩⟩:cN),⟨none,0,0⟩⟩:dQ)) rfl;aA mE ?_));have hs:=hs.drew;have hzl:=hz.lines;have hzf:=hz.dH;have Lt:=hz.threads;have hzc:=hz.cD;refine aB eB hs.p1.hb rfl ?_;have arf:=DL.flat (iL);refine aA xl (aB eB hs.p1.hb rfl ?_)
 have arh:=DL.flat (jw);refine aA zP (uW (⟨((u).recover).aK,((u).recover).counts,dO⟩:cN) qg hs.p1.hb rfl (dF zH hs (C70 _ _ _ (arf.ext hs.aF) (by omega)) (λ x11 w3 cA hs=>?_)));refine ⟨aG eB (hs.p2.hb.cell rfl),?_⟩;refine ⟨IL (⟨((u).recover).aK,((u).recover).counts,dO⟩:cN) qg hs.p2.hb rfl,?_⟩;refine aA mE (dF zH hs (C70 _ _ _ (arh.ext hs.aF) (by omega)) (λ x14 w4 cA hs=>?_));refine ⟨IL (⟨((u).recover).aK,((u).recover).counts,dO⟩:cN) qg hs.p3.hb rfl,?_⟩;refine eA afe (C120 (u).recover _ _ ⟨dO,rfl,(ix.ext hs.aF)⟩ hz.rc) ?_
 rintro _ w5 ⟨ti,rfl,cA⟩;have hs:=hs.made cA;obtain ⟨mn,rfl⟩:=(hs.p2).fU;refine aV hs.p4 eB (eK rfl) (rfl) (λ w6 hs=>have hs:=hs.enc (cs':=Flat.enc (⟨mn,(u).stays,gM,(u).locks,fe,(⟨((u).recover).aK,((u).recover).counts,dO⟩:cN),fo⟩:dQ)) rfl;aA xl ?_);obtain ⟨oy,rfl⟩:=(hs.p2).fU;refine aV hs eB (eK rfl) (rfl) (λ w7 hs=>have hs:=hs.enc (cs':=Flat.enc (⟨mn,(u).stays,oy,(u).locks,fe,(⟨((u).recover).aK,((u).recover).counts,dO⟩:cN),fo⟩:dQ)) rfl;aA zP (pF (vs:=Flat.enc ti) hs qg rfl (eK rfl) (Flat.one _) (λ w8 hs=>have hs:=hs.enc (cs':=Flat.enc (⟨mn,(u).stays,oy,(u).locks,fe,ti,fo⟩:dQ)) rfl;aA se (aB (v:=Flat.val (fe:SV)) F4 hs.hb rfl ?_))))
 obtain ⟨ari,agL,agM⟩:=(je).open;have hn119:=agM.1;refine aJ Bs (agL.ext hs.aF) ?_;have hs:=((((((hs.xY (α:=fu)).p5).p3).p4).p5).p5).p5;refine ⟨λ m tJ x w1=>∃ k:Nat,x = .int .i64 (k:Int)∧m=u.threads.length - k∧k≤u.threads.length∧St w bD [fq tJ (u.threads.take k),cH yf (Flat.enc (⟨mn,(u).stays,oy,(u).locks,fe,ti,fo⟩:dQ)),bK (Flat.val mn) ((u).lines),bK (Flat.val oy) ((u).dH),eL (λ w=>bZ.dr w ti ((u).recover)),cH mf (Flat.enc (⟨⟨none,0,0⟩,0,⟨none,0,0⟩,0,⟨none,0,0⟩,(⟨0,0,⟨none,0,0⟩⟩:cN),⟨none,0,0⟩⟩:dQ))] w1,⟨_,0,rfl,rfl,Nat.zero_le _,hs⟩,?_⟩
 rintro m tJ _ w9 ⟨k,rfl,rfl,hk,hs⟩ fD;refine aR (aC (λ fT=>?_) (λ fT=>?_))
 ·obtain ⟨apS,BE⟩:=gx ari (i:=((k:Int)).toNat) (by omega);obtain ⟨An,BF⟩:=gx ((u).threads) (i:=((k:Int)).toNat) (by omega);obtain ⟨Q2,rfl,adN⟩:=agM.2 _ _ _ BE BF;refine aQ Bs agL (by omega) BE (λ _ rn=>aD qg (rn.ext hs.aF) (aN hs Iu (λ akg pP hs=>have hs:=hs.enc (cs':=Flat.enc (⟨0,0,⟨none,0,0⟩⟩:cN)) rfl;aI (x:=(⟨(An).aK,(An).counts,Q2⟩:cN)) hs qg rfl rfl (λ sZ hs=>aD qg hs.At (eA afe (C120 An _ _ ⟨Q2,rfl,(adN.ext hs.aF)⟩ (hz.th _ (List.mem_of_getElem? BF))) ?_)))));rintro _ vy ⟨akD,rfl,cA⟩;have hs:=hs.made cA
  refine eQ (s:=akD) (x:=(An)) hs Bs (by decide) (λ V9 vz hs=>have hs:=hs.p2;ej hs Bs (by rw [List.length_take,List.length_singleton]; omega) (by decide) (λ Wu su hs=>aO (by omega) ?_));have hs:=(hs.p1.drop.p5.p5.p5.p5.p5).p5;exact ⟨_,by omega,k+1,rfl,rfl,by omega,by rw [← ie (k:=k) BF]; exact hs⟩
 ·rw [List.take_of_length_le (by omega)] at hs;refine aA xm (aB (v:=Flat.val (fo:SV)) Sh hs.p1.hb rfl ?_);obtain ⟨arj,agN,agO⟩:=(kY).open;have hn120:=agO.1;refine aJ F5 (agN.ext hs.aF) ?_;have hs:=(((((((hs.xY (α:=(List nw))).p6).p6).p6).p6).p6).p6).p6;refine ⟨λ m zG x w1=>∃ q:Nat,x = .int .i64 (q:Int)∧m=u.cD.length - q∧q≤u.cD.length∧St w bD [fq zG (u.cD.take q),fq tJ u.threads,cH yf (Flat.enc (⟨mn,(u).stays,oy,(u).locks,fe,ti,fo⟩:dQ)),bK (Flat.val mn) ((u).lines),bK (Flat.val oy) ((u).dH),eL (λ w=>bZ.dr w ti ((u).recover)),cH mf (Flat.enc (⟨⟨none,0,0⟩,0,⟨none,0,0⟩,0,⟨none,0,0⟩,(⟨0,0,⟨none,0,0⟩⟩:cN),⟨none,0,0⟩⟩:dQ))] w1,⟨_,0,rfl,rfl,Nat.zero_le _,hs⟩,?_⟩
  rintro m zG _ wm ⟨q,rfl,rfl,hq,hs⟩ jH;refine aR (aC (λ nh=>?_) (λ nh=>?_))
  ·obtain ⟨qD,qk⟩:=gx arj (i:=((q:Int)).toNat) (by omega);obtain ⟨Xb,Fe⟩:=gx ((u).cD) (i:=((q:Int)).toNat) (by omega);have ark:DL w (Flat.val qD) Xb:=agO.2 _ _ _ qk Fe;refine aQ F5 agN (by omega) qk (λ _ ui=>aD xW (ui.ext hs.aF) ?_);have arl:=DL.flat (ark);have hzk:=hz.cl _ (List.mem_of_getElem? Fe);refine dF UE hs (C121 _ _ _ (arl.ext hs.aF) (by omega)) (λ x43 zq cA hs=>?_);obtain ⟨BN,rfl⟩:=(hs).fU;have hs:=hs.freeze.dU (Ψ:=λ w=>bZ.dr w BN ((Xb))) (λ w h=>DL.fx h);refine eQ (s:=BN) (x:=(Xb)) hs F5 (by decide) (λ aqm CH hs=>have hs:=hs.p1;ej hs F5 (by rw [List.length_take,List.length_singleton]; omega) (by decide) (λ WW IN hs=>aO (by omega) ?_))
   have hs:=hs.p6.p6.p6.p6.p6.p6.p6;exact ⟨_,by omega,q+1,rfl,rfl,by omega,by rw [← ie (k:=q) Fe]; exact hs⟩
  ·rw [List.take_of_length_le (by omega)] at hs;refine aA se ?_;obtain ⟨sJ,rfl⟩:=(hs.p1).lP;refine aV hs.p2 F4 (eK rfl) (rfl) (λ JQ hs=>have hs:=hs.enc (cs':=Flat.enc (⟨mn,(u).stays,oy,(u).locks,sJ,ti,fo⟩:dQ)) rfl;aA xm ?_);obtain ⟨ze,rfl⟩:=(hs.p1).lP;refine aV hs Sh (eK rfl) (rfl) (λ Lc hs=>have hs:=hs.enc (cs':=Flat.enc (⟨mn,(u).stays,oy,(u).locks,sJ,ti,ze⟩:dQ)) rfl;aD tO hs.At (aI (x:=(⟨mn,(u).stays,oy,(u).locks,sJ,ti,ze⟩:dQ)) hs.p6 tO rfl rfl (λ M4 hs=>aD tO hs.At ?_)))
   have hs:=hs.p4.freeze.p5.freeze.p1.fP.p4.jO.p1.fP.p4.p1.fP.p3.jO.p1.fP.dU (Ψ:=(λ w=>bZ.dr w (⟨mn,(u).stays,oy,(u).locks,sJ,ti,ze⟩:dQ) (⟨((u).lines),(u).stays,((u).dH),(u).locks,(u).threads,((u).recover),(u).cD⟩:im))) (λ w h=>⟨_,_,_,_,_,rfl,DL.fx h.1.1.1.1,DL.fx h.1.1.1.2,h.1.1.2,h.1.2,h.2⟩);have hs:=((hs.p1.drop).p1).drop;exact ⟨_,rfl,hs.fresh⟩
def tj (x y:bJ):Bool:=decide (x.kind≠7∧y.kind≠7∧(x.kind=6∨y.kind=6)∧x.line≠y.line)
def right (x:bJ):Bool:=decide ((x.kind=3∧0≤x.line∧0≤x.cell)∨((x.kind=5∨x.kind=6)∧0≤x.line∧x.cell=0∧x.n=0)∨(x.kind=7∧x.line=0∧x.cell=0∧x.n=0))
theorem C191 (x y:bJ) (w:World):CR 191 [Flat.val x,Flat.val y] w (λ v w'=>v = .bool (tj x y)∧Ext w w'):=by
 have hs:=St.start w;refine aaS _ _ _ _ ?_;unfold S191;refine dJ hs (λ mf w1 hs=>dJ hs (λ Xc w2 hs=>?_));refine ⟨_,?_,λ _ _ h=>h⟩;refine aA pK (aB bL hs.p1.hb rfl (aH (aC (λ gu=>?_) (λ gu=>?_))))
 ·intro fD;refine ⟨_,?_,λ _ _ h=>h⟩;refine cC (fJ ?_);intro jH;refine ⟨vb ?_,hs.aF⟩;unfold tj
  first | exact (decide_eq_true (by omega)).symm | exact (decide_eq_false (by omega)).symm | exact decide_eq_decide.2 (by omega) | exact decide_eq_decide.2 (bJ.ext_iff.trans (by dsimp only; omega))
 ·refine aA pK (aB bL hs.hb rfl (aH ?_));intro fD;refine ⟨_,?_,λ _ _ h=>h⟩
  first | refine DK ?_ | refine cC ?_
  refine aC (λ jt=>?_) (λ jt=>?_)
  ·refine aA pK (aB bL hs.p1.hb rfl (aH (aC (λ fB=>?_) (λ fB=>?_))))
   ·refine aA lg (aB bL hs.p1.hb rfl (aA lg (aB bL hs.hb rfl (cR ?_))));intro jH;refine ⟨vb ?_,hs.aF⟩;unfold tj
    first | exact (decide_eq_true (by omega)).symm | exact (decide_eq_false (by omega)).symm | exact decide_eq_decide.2 (by omega) | exact decide_eq_decide.2 (bJ.ext_iff.trans (by dsimp only; omega))
   ·refine aA pK (aB bL hs.hb rfl (aH (aC (λ iV=>?_) (λ iV=>?_))))
    ·refine aA lg (aB bL hs.p1.hb rfl (aA lg (aB bL hs.hb rfl (cR ?_))));intro jH;refine ⟨vb ?_,hs.aF⟩;unfold tj
     first | exact (decide_eq_true (by omega)).symm | exact (decide_eq_false (by omega)).symm | exact decide_eq_decide.2 (by omega) | exact decide_eq_decide.2 (bJ.ext_iff.trans (by dsimp only; omega))
    ·intro jH;refine ⟨vb ?_,hs.aF⟩;unfold tj
     first | exact (decide_eq_true (by omega)).symm | exact (decide_eq_false (by omega)).symm | exact decide_eq_decide.2 (by omega) | exact decide_eq_decide.2 (bJ.ext_iff.trans (by dsimp only; omega))
  ·intro jH;refine ⟨vb ?_,hs.aF⟩;unfold tj
   first | exact (decide_eq_true (by omega)).symm | exact (decide_eq_false (by omega)).symm | exact decide_eq_decide.2 (by omega) | exact decide_eq_decide.2 (bJ.ext_iff.trans (by dsimp only; omega))
theorem eqE (x y:bJ):zN (Flat.enc x) (Flat.enc y)=decide (x=y):=by
 obtain ⟨a,b,c,d⟩:=x
 obtain ⟨a2,b2,c2,d2⟩:=y
 simp [Flat.enc,zN,eqV,Bool.eq_iff_iff]
theorem C226 (x:bJ) (w:World):CR 226 [Flat.val x] w (λ v w'=>v = .bool (right x)∧Ext w w'):=by
 have hs:=St.start w;refine abk _ _ _ ?_;unfold S226;refine dJ hs (λ VM w1 hs=>aA pK (aB bL hs.hb rfl (aH (aC (λ oJ=>?_) (λ oJ=>?_)))))
 ·refine ⟨_,?_,λ _ _ h=>h⟩;refine aA lg (aB bL hs.hb rfl (dK (aC (λ gA=>?_) (λ gA=>?_))))
  ·refine aA nY (aB bL hs.hb rfl (dK ?_));intro fD;refine ⟨vb ?_,hs.aF⟩;unfold right
   first | exact (decide_eq_true (by omega)).symm | exact (decide_eq_false (by omega)).symm | exact decide_eq_decide.2 (by omega) | exact decide_eq_decide.2 (bJ.ext_iff.trans (by dsimp only; omega))
  ·intro fD;refine ⟨vb ?_,hs.aF⟩;unfold right
   first | exact (decide_eq_true (by omega)).symm | exact (decide_eq_false (by omega)).symm | exact decide_eq_decide.2 (by omega) | exact decide_eq_decide.2 (bJ.ext_iff.trans (by dsimp only; omega))
 ·refine ⟨_,?_,λ _ _ h=>h⟩;refine aH (aC (λ eE=>?_) (λ eE=>?_))
  ·intro jH;refine aC (λ jt=>?_) (λ jt=>?_)
   ·refine ⟨_,?_,λ _ _ h=>h⟩;refine aA lg (aB bL hs.hb rfl (dK (aC (λ jE=>?_) (λ jE=>?_))))
    ·refine aA nY (aB bL hs.hb rfl (aH (aC (λ iq=>?_) (λ iq=>?_))))
     ·refine aA m4 (aB bL hs.hb rfl (aH ?_));intro oY;refine ⟨vb ?_,hs.aF⟩;unfold right
      first | exact (decide_eq_true (by omega)).symm | exact (decide_eq_false (by omega)).symm | exact decide_eq_decide.2 (by omega) | exact decide_eq_decide.2 (bJ.ext_iff.trans (by dsimp only; omega))
     ·intro oY;refine ⟨vb ?_,hs.aF⟩;unfold right
      first | exact (decide_eq_true (by omega)).symm | exact (decide_eq_false (by omega)).symm | exact decide_eq_decide.2 (by omega) | exact decide_eq_decide.2 (bJ.ext_iff.trans (by dsimp only; omega))
    ·intro oY;refine ⟨vb ?_,hs.aF⟩;unfold right
     first | exact (decide_eq_true (by omega)).symm | exact (decide_eq_false (by omega)).symm | exact decide_eq_decide.2 (by omega) | exact decide_eq_decide.2 (bJ.ext_iff.trans (by dsimp only; omega))
   ·refine aD lf hs.At (pop (KO _) (lD Vd rfl rfl (eqE x ⟨7,0,0,0⟩) ?_));refine ⟨vb ?_,hs.aF⟩;unfold right
    first | exact (decide_eq_true (by omega)).symm | exact (decide_eq_false (by omega)).symm | exact decide_eq_decide.2 (by omega) | exact decide_eq_decide.2 (bJ.ext_iff.trans (by dsimp only; omega))
  ·refine aH ?_;intro jH;refine aC (λ jt=>?_) (λ jt=>?_)
   ·refine ⟨_,?_,λ _ _ h=>h⟩;refine aA lg (aB bL hs.hb rfl (dK (aC (λ jE=>?_) (λ jE=>?_))))
    ·refine aA nY (aB bL hs.hb rfl (aH (aC (λ iq=>?_) (λ iq=>?_))))
     ·refine aA m4 (aB bL hs.hb rfl (aH ?_));intro oY;refine ⟨vb ?_,hs.aF⟩;unfold right
      first | exact (decide_eq_true (by omega)).symm | exact (decide_eq_false (by omega)).symm | exact decide_eq_decide.2 (by omega) | exact decide_eq_decide.2 (bJ.ext_iff.trans (by dsimp only; omega))
     ·intro oY;refine ⟨vb ?_,hs.aF⟩;unfold right
      first | exact (decide_eq_true (by omega)).symm | exact (decide_eq_false (by omega)).symm | exact decide_eq_decide.2 (by omega) | exact decide_eq_decide.2 (bJ.ext_iff.trans (by dsimp only; omega))
    ·intro oY;refine ⟨vb ?_,hs.aF⟩;unfold right
     first | exact (decide_eq_true (by omega)).symm | exact (decide_eq_false (by omega)).symm | exact decide_eq_decide.2 (by omega) | exact decide_eq_decide.2 (bJ.ext_iff.trans (by dsimp only; omega))
   ·refine aD lf hs.At (pop (KO _) (lD Vd rfl rfl (eqE x ⟨7,0,0,0⟩) ?_));refine ⟨vb ?_,hs.aF⟩;unfold right
    first | exact (decide_eq_true (by omega)).symm | exact (decide_eq_false (by omega)).symm | exact decide_eq_decide.2 (by omega) | exact decide_eq_decide.2 (bJ.ext_iff.trans (by dsimp only; omega))
def tm (l:List bJ) (i:Int):Bool:=decide (0≤i∧i<l.length) && (match l[i.toNat]? with | some x=>(l.take i.toNat).all (tj x) | none=>false)
def AB (l:List bJ):List Int:=((List.range l.length).map fun (k:Nat)=>(k:Int)).filter (tm l)
theorem ux {l:List bJ} {i:Int} (h:i<0∨(l.length:Int)≤i):tm l i=false:=by
 unfold tm
 have:decide (0≤i∧i<l.length)=false:=by rw [decide_eq_false_iff_not]; omega
 rw [this]; rfl
theorem adO {l:List bJ} {i:Int} {x:bJ} (h0:0≤i) (h1:i<l.length) (hx:l[i.toNat]? = some x):tm l i = !(l.take i.toNat).any λ y=>!tj x y:=by
 unfold tm
 rw [hx,decide_eq_true (show 0≤i∧i<l.length from ⟨h0,h1⟩)]
 simp [List.all_eq_not_any_not]
def tn (l:List bJ) (k:Nat):List Int:=((List.range k).map fun (k:Nat)=>(k:Int)).filter (tm l)
theorem Hj (l:List bJ) (k:Nat):(tn l k).length≤k:=by
 unfold tn
 have:=List.length_filter_le (tm l) ((List.range k).map fun (k:Nat)=>(k:Int)); simpa using this
theorem Oy {l:List bJ} {k:Nat} (h:tm l k=true):tn l (k+1)=tn l k++[(k:Int)]:=by
 unfold tn; rw [List.range_succ,List.map_append,List.filter_append]; simp [h]
theorem SJ {l:List bJ} {k:Nat} (h:tm l k=false):tn l (k+1)=tn l k:=by
 unfold tn; rw [List.range_succ,List.map_append,List.filter_append]; simp [h]
theorem Ff (l:List bJ) {k:Nat} (h:k=l.length):tn l k=AB l:=by subst h; rfl
def wN (w:World) (p:Nat) (room:Int) (l:List bJ):Prop:=∃ sv,Cell w p 0 (.int .i64 room)∧Cell w p 1 sv∧eP (λ _=>True) w sv l
def nM (p:Nat) (room:Int) (l:List bJ):HP:=ua λ sv=>sep (cH p [.int .i64 room,sv]) (bK sv l)
theorem wN.ext {w w':World} {p:Nat} {room:Int} {l:List bJ} (h:wN w p room l) (e:Ext w w'):wN w' p room l:=by
 obtain ⟨sv,h1,h2,h3⟩:=h; exact ⟨sv,h1.ext e,h2.ext e,h3.ext e⟩
theorem nM.rd {w:World} {F:Nat→Prop} {p:Nat} {room:Int} {l:List bJ} (h:(nM p room l).p w F):wN w p room l:=by
 obtain ⟨sv,F1,F2,h1,h2,_⟩:=h
 exact ⟨sv,h1.1.cell rfl,h1.1.cell rfl,(bK.rd h2).mono λ _ _=>trivial⟩
theorem C224 (sv fv:Value) (xs:List bJ) (g:bJ→Bool) (w:World) (hL:eP (λ _=>True) w sv xs) (hf:CI w fv g) (hn:xs.length≤1073741824):CR 224 [sv,fv] w (λ v w'=>v = .int .i64 (uZ g xs)∧Ext w w'):=by
 obtain ⟨g0,first,cap,rfl,vv,l4⟩:=hf;have hs:=St.start w;refine abi _ _ _ _ ?_;unfold S224;refine aJ oU (hL.ext hs.aF) ?_;refine ⟨λ m x w1=>∃ k:Nat,x = .int .i64 (k:Int)∧m=xs.length - k∧k≤xs.length∧(∀ y∈xs.take k,g y=false)∧St w bD [] w1,⟨_,0,rfl,rfl,Nat.zero_le _,by simp,hs⟩,?_⟩;rintro m _ w1 ⟨k,rfl,rfl,hk,fV,hs⟩ fD;refine aR (aC (λ gA=>?_) (λ gA=>?_))
 ·obtain ⟨js,dI⟩:=gx (xs) (i:=((k:Int)).toNat) (by omega);refine aQ oU (hL.ext hs.aF) (by omega) dI (λ _ iU=>aD lf (iU) (gh vv (l4 js w1 hs.aF) ?_));rintro _ w2 ⟨rfl,he⟩;have hs:=hs.ext he;refine aX (λ eE=>?_) (λ eE=>?_)
  ·exact ⟨congrArg (Value.int .i64) (pB fV dI eE).symm,hs.aF⟩
  ·refine aO (by omega) ?_;exact ⟨xs.length - (k+1),by omega,k+1,rfl,rfl,by omega,eH fV dI eE,hs⟩
 ·exact ⟨congrArg (Value.int .i64) (kC (by rw [List.take_of_length_le (by omega)] at fV; exact fV)).symm,hs.aF⟩
theorem C192 (sv fv:Value) (xs:List bJ) (g:bJ→Bool) (w:World) (hL:eP (λ _=>True) w sv xs) (hf:CI w fv g) (hn:xs.length≤1073741824):CR 192 [sv,fv] w (λ v w'=>v = .bool (xs.any g)∧Ext w w'):=by
 have hs:=St.start w;refine aaT _ _ _ _ ?_;unfold S192;refine aZ aom hs (C224 _ _ _ _ _ (hL.ext hs.aF) (hf.ext hs.aF) (by omega)) (λ w1 he hs=>dK ?_);exact ⟨vb (og _ _),hs.aF⟩
theorem C190 (x y:bJ) (p b2 b3:Nat) (i:Int) (room:Int) (l:List bJ) (w:World) (h2:Cell w b2 0 (.pointer (some ⟨p,0,none⟩))) (h3:Cell w b3 0 (.int .i64 i)) (hb:wN w p room l) (h0:0≤i) (hx:l[i.toNat]? = some x):CR 190 [Flat.val y,.pointer (some ⟨b2,0,none⟩),.pointer (some ⟨b3,0,none⟩)] w (λ v w'=>v = .bool (!tj x y)∧Ext w w'):=by
 obtain ⟨sv,zL,CK,hL⟩:=hb;have mG:=(List.getElem?_eq_some_iff.1 hx).1;have hs:=St.start w;refine aaR _ _ _ _ _ ?_;unfold S190;refine dJ hs (λ Xc w1 hs=>have hs:=hs.drew;cE qY (h2.ext hs.aF) (aE (aA ky (cE xV (CK.ext hs.aF) (cE bL (h3.ext hs.aF) (aQ oU (hL.ext hs.aF) h0 hx (λ _ qC=>aD lf (qC) (aD lf hs.At (aZ an7 hs (C191 x y _) (λ w2 he hs=>cC ?_))))))))));exact ⟨rfl,hs.aF⟩
theorem C124 (p:Nat) (i:Int) (room:Int) (l:List bJ) (w:World) (hb:wN w p room l) (hn:l.length≤1073741824):CR 124 [.pointer (some ⟨p,0,none⟩),.int .i64 i] w (λ v w'=>v = .bool (tm l i)∧Ext w w'):=by
 have JS:=hb;obtain ⟨sv,zL,CK,hL⟩:=hb;have hs:=St.start w;refine Z1 _ _ _ _ ?_;unfold S124;refine tM hs rfl (λ arn w1 hs=>tM hs rfl (λ aro w2 hs=>?_));refine ⟨_,?_,λ _ _ h=>h⟩;have hs:=hs.drew;refine aB bL hs.hb rfl (aR (aC (λ iX=>?_) (λ iX=>?_)))
 ·intro fD;refine nT ?_;exact ⟨vb (ux (by omega)).symm,hs.aF⟩
 ·refine aB bL hs.hb rfl (aB qY hs.p1.hb rfl (aE (aA ky (cE xV (CK.ext hs.aF) (aJ oU (hL.ext hs.aF) (dK ?_))))));intro fD;refine aC (λ eE=>?_) (λ eE=>?_)
  ·exact ⟨vb (ux (by omega)).symm,hs.aF⟩
  ·have hs:=hs.drew;refine aB qY hs.p1.hb rfl (aE (aA ky (cE xV (CK.ext hs.aF) (aB bL hs.hb rfl (Sc oU (hL.ext hs.aF) (by omega) (by omega) (λ apl pW=>?_))))));obtain ⟨x,hx⟩:∃ x,l[i.toNat]? = some x:=⟨_,List.getElem?_eq_getElem (by omega)⟩
   have KR:CI _ (.func (.func 190) [].toArray [.pointer (some ⟨arn,0,none⟩),.pointer (some ⟨aro,0,none⟩)].toArray) (λ y=>!tj x y):=
    ⟨190,[],_,rfl,an6,λ y w1 e1=>C190 x y p arn aro i room l w1 ((hs.p1.hb.cell rfl).ext e1) ((hs.hb.cell rfl).ext e1) ((JS.ext hs.aF).ext e1) (by omega) hx⟩
   refine aZ an8 hs (C192 _ _ _ _ _ pW KR (by rw [List.length_take]; omega)) (λ w4 he hs=>cC ?_);exact ⟨vb (adO (by omega) (by omega) hx).symm,hs.aF⟩
theorem C123 (p:Nat) (room:Int) (l:List bJ) (w:World) (hb:wN w p room l):CR 123 [.pointer (some ⟨p,0,none⟩)] w (λ v w'=>v = .bool (decide (room≤l.length))∧Ext w w'):=by
 obtain ⟨sv,zL,CK,hL⟩:=hb;have hs:=St.start w;refine Z0 _ _ _ ?_;unfold S123;refine aE (aA ky (have hs:=hs.drew;cE xV (CK.ext hs.aF) (aJ oU (hL.ext hs.aF) (aE (aA KF (cE bL (zL.ext hs.aF) (dK ?_)))))));exact ⟨rfl,hs.aF⟩
theorem C57 (p:Nat) (room:Int) (l:List bJ) (w:World) (hb:wN w p room l) (hn:l.length≤1048576):CR 57 [.pointer (some ⟨p,0,none⟩)] w (λ v w'=>lY (bK v (AB l)) w w'):=by
 have JS:=hb;obtain ⟨sv,zL,CK,hL⟩:=hb;have hs:=St.start w;refine ah7 _ _ _ ?_;unfold S57;refine aE (aA ky (cE xV (CK.ext hs.aF) (aJ oU (hL.ext hs.aF) ?_)));refine ⟨λ m o x w1=>∃ k:Nat,x = .int .i64 (k:Int)∧m=l.length - k∧k≤l.length∧St w bD [bK o (tn l k)] w1,⟨_,0,rfl,rfl,Nat.zero_le _,hs.fX⟩,?_⟩;rintro m o _ w1 ⟨k,rfl,rfl,hk,hs⟩ fD;have QO:=Hj l k;refine aR (aC (λ gW=>?_) (λ gW=>?_))
 ·refine ⟨_,?_,λ _ _ h=>h⟩;refine aZ afh hs (C124 _ _ _ _ _ (JS.ext hs.aF) (by omega)) (λ w2 he hs=>aX (λ jt=>?_) (λ jt=>?_))
  ·refine bV (([(k:Int)]:List Int)) hs eh rfl rfl (eK rfl) (λ af1 w3 hs=>?_);have om:=(hs).fF;refine cS hs.p1 eh om (by simp <;> omega) (by decide) (λ Vy w4 hs=>?_);have hs:=hs.p1.drop;intro jH;refine aO (by omega) ?_;exact ⟨l.length - (k+1),by omega,k+1,rfl,rfl,by omega,by rw [Oy jt]; exact hs⟩
  ·intro jH;refine aO (by omega) ?_;exact ⟨l.length - (k+1),by omega,k+1,rfl,rfl,by omega,by rw [SJ jt]; exact hs⟩
 ·rw [Ff l (by omega)] at hs;exact hs.fresh
def Oz (room:Int) (l:List bJ) (x:bJ):Int:=if right x=true then (if room≤l.length then 2 else 0) else 1
def wO (room:Int) (l:List bJ) (x:bJ):List bJ:=if right x=true∧¬ room≤l.length then l++[x] else l
def ep (l:List bJ) (i:Int):bJ:=if tm l i=true then (l[i.toNat]?).getD ⟨0,0,0,0⟩ else ⟨0,0,0,0⟩
def AD (l:List bJ) (i:Int):Int:=if 0≤i∧i<l.length then (if tm l i=true then 0 else 13) else 1
def mq (l:List bJ) (i:Int):List bJ:=if tm l i=true then l.eraseIdx i.toNat else l
theorem adP {l:List bJ} {i:Int} (h:tm l i=true):0≤i∧i<l.length:=by
 unfold tm at h; rw [Bool.and_eq_true,decide_eq_true_eq] at h; exact h.1
theorem wN.mk' {w:World} {p:Nat} {room:Int} {sv:Value} {l:List bJ} (h1:tL w p [.int .i64 room,sv]) (h2:eP (λ _=>True) w sv l):wN w p room l:=
 ⟨sv,h1.cell rfl,h1.cell rfl,h2⟩
theorem nM.shut {w0 w:World} {A:Nat→Prop} {R:List HP} {p:Nat} {room:Int} {sv:Value} {l:List bJ} (hs:St w0 A (cH p [.int .i64 room,sv]::bK sv l::R) w):St w0 A (nM p room l::R) w:=
 St.eU (H:=λ sv=>sep (cH p [.int .i64 room,sv]) (bK sv l)) sv (St.join hs)
theorem Q3 {w0 w:World} {A:Nat→Prop} {R:List HP} {p:Nat} {room:Int} {l:List bJ} (hs:St w0 A (nM p room l::R) w):wN w p room l:=by
 obtain ⟨F,h,_⟩:=hs.head; exact nM.rd h
theorem C193 (v:Value) (i:Int) (xs:List bJ) (F:Nat→Prop) (w:World) (hv:(bK v xs).p w F) (h0:0≤i) (hi:i<xs.length) (hn:xs.length≤1073741824) :
  CR 193 [v,.int .i64 i,.int .i64 (i+1)] w (λ v' w'=>True∧qy F (bK v' (xs.eraseIdx i.toNat)) w w'):=by
 obtain ⟨i,rfl⟩:=Int.eq_ofNat_of_zero_le h0;replace hi:i<xs.length:=by omega
 rw [Int.toNat_natCast];have HY:=bK.rd hv;obtain ⟨b,cap,rest,rfl,hb,hl,hF⟩:=qO hv hi;have hlen:(flat xs).length=xs.length * 4:=cW xs;have Kv:xs.length≤cap:=by rw [List.length_append,hlen] at hl; change _=cap * 4 at hl; omega
 refine aaU _ _ _ _ _ ?_;unfold S193;refine pop (Io oU) (Vf oU (by omega) (by omega) (by omega) (by omega) (λ _=>aH (aC (λ c=>absurd c (by omega)) (λ _=>pop (Io oU) ?_))))
 have e22:pr PG (Instr.sliceAt 80 (.slice (some ⟨b,0,none⟩) xs.length cap) none (some (.int .i64 (i:Int))) none)=some (.slice (some ⟨b,0,none⟩) i cap):=by
  rw [Bp oU (l:=0) (h:=i) (qN (.inl ⟨rfl,rfl⟩) (.inr ⟨_,rfl,by omega,by omega⟩) (by omega) (by omega))];simp [gU]
 refine pop e22 (Sd oU HY (by omega) (by omega) (λ s25 h25=>?_));rw [show ((i:Int)+1).toNat=i+1 from by omega] at h25;have hdl:(xs.drop (i+1)).length=xs.length - (i+1):=by simp
 obtain ⟨w1,r1,b1,g1⟩:=F7 (P:=PG) (R:=80) (n:=i) (cap:=cap) oU (hb.of_eq (w':=drew w) rfl) (h25.ext (Ext.drew w)) (by omega) (by rw [List.length_append,hlen,hdl]; change i * 4+(xs.length - (i+1)) * 4≤_; omega);rw [hdl,show i+(xs.length - (i+1))=xs.length - 1 from by omega] at r1;refine ⟨_,w1,r1,?_⟩;refine pop (Io oU) ?_
 have e31:pr PG (Instr.sliceAt 80 (.slice (some ⟨b,0,none⟩) (xs.length - 1) cap) (some (.int .i64 ((xs.length - 1:Nat):Int))) (some (.int .i64 (xs.length:Int))) none)=some (.slice (some ⟨b,(xs.length - 1) * 4,none⟩) 1 (cap - (xs.length - 1))):=by
  rw [Bp oU (l:=xs.length - 1) (h:=xs.length) (qN (.inr ⟨_,rfl,by omega,by omega⟩) (.inr ⟨_,rfl,by omega,by omega⟩) (by omega) (by omega)),if_neg (by omega)];simp [gU]; omega
 refine pop e31 ?_;have hx:xs[i]? = some xs[i]:=by simp [hi]
 have Sf:=yK hx;have hT:(flat (xs.take i)).length=i * 4:=by rw [cW,List.length_take,Nat.min_eq_left (by omega)]; rfl
 have hD:(flat (xs.drop (i+1))).length=(xs.length - (i+1)) * 4:=by rw [cW,hdl]; rfl
 have hX:(Flat.enc xs[i]).length=4:=rfl;have hZ:(flat (List.replicate 1 (⟨0,0,0,0⟩:bJ))).length=4:=rfl
 have s1:ib (flat xs++rest) (i * Flat.sz bJ) (flat (xs.drop (i+1))) =
   flat (xs.take i)++flat (xs.drop (i+1))++((Flat.enc xs[i]++flat (xs.drop (i+1))).drop (flat (xs.drop (i+1))).length++rest):=by
  have:=kR (flat (xs.take i)) ((Flat.enc xs[i]++flat (xs.drop (i+1))).take (flat (xs.drop (i+1))).length)
   ((Flat.enc xs[i]++flat (xs.drop (i+1))).drop (flat (xs.drop (i+1))).length++rest) (flat (xs.drop (i+1))) (by rw [List.length_take,List.length_append]; omega)
  rw [hT] at this
  change ib (flat xs++rest) (i * 4) _=_
  rw [← this,Sf]
  have e0:∀ (a b c d:List Value) (n:Nat),a++(b++c)++d=a++(b++c).take n++((b++c).drop n++d):=λ a b c d n=>by
   rw [List.append_assoc a ((b++c).take n),← List.append_assoc ((b++c).take n),List.take_append_drop,List.append_assoc a]
  exact congrArg (λ z=>ib z (i * 4) (flat (xs.drop (i+1)))) (by first | exact e0 _ _ _ _ _ | (rw [← e0]; simp only [List.append_assoc]) | (simp only [List.append_assoc]; rw [← List.append_assoc (List.take _ _),List.take_append_drop,List.append_assoc]))
 rw [s1] at b1
 obtain ⟨w2,r2,b2,g2⟩:=Sl (P:=PG) (R:=0) (o:=(xs.length - 1) * 4) (n:=1) (c:=cap - (xs.length - 1)) (z:=(⟨0,0,0,0⟩:bJ)) oU uU b1
  (by simp only [List.length_append,List.length_drop,hT,hD,hX]; change _+1 * 4≤_; omega)
 refine ⟨_,w2,r2,?_⟩
 have s2:=kR (flat (xs.take i)++flat (xs.drop (i+1))) ((Flat.enc xs[i]++flat (xs.drop (i+1))).drop (flat (xs.drop (i+1))).length) rest (flat (List.replicate 1 (⟨0,0,0,0⟩:bJ)))
  (by rw [List.length_drop,List.length_append,hX,hZ]; omega)
 rw [show (flat (xs.take i)++flat (xs.drop (i+1))).length=(xs.length - 1) * 4 from by rw [List.length_append,hT,hD]; omega,List.append_assoc _ _ rest] at s2;rw [s2] at b2;refine ⟨trivial,F,.inr ⟨b,cap,flat (List.replicate 1 (⟨0,0,0,0⟩:bJ))++rest,?_,?_,?_,hF⟩,λ b hb=>.inl hb,?_⟩
 ·rw [List.length_eraseIdx_of_lt hi]
 ·rw [List.eraseIdx_eq_take_drop_succ,iz,← List.append_assoc]; exact b2
 ·rw [List.eraseIdx_eq_take_drop_succ,iz]
  change _=cap * 4
  change _=cap * 4 at hl
  rw [List.length_append,hlen] at hl;simp only [List.length_append,hT,hD,hZ];omega
 ·exact ((Ext.drew w).aF (A:=F)).trans (g1.trans (C:=F) g2 (λ k hk=>(hF k).2 hk) λ k _ hk=>(hF k).2 hk) (λ _ h=>h) λ _ _ h=>h
theorem C154 (sv:Value) (xs:List bJ) (w:World) (hL:eP (λ _=>True) w sv xs) (hn:xs.length≤1073741824):CR 154 [sv] w (λ v w'=>lY (bK v xs) w w'):=by
 have hL0:=hL;obtain ⟨a,cap,rfl,Kv,h3⟩:=hL;have hs:=St.start w;refine aah _ _ _ ?_;unfold S154;refine UP (gy oU).1 (λ h0=>?_) ?_
 ·rcases h3 with ⟨h,hc⟩ | ⟨b,o,h,_⟩
  ·exact ⟨by rw [h]; rfl,hc⟩
  ·rw [h0] at h; cases h
 refine aX (λ pU=>?_) (λ pU=>?_)
 ·have ha:a=none:=by cases a with | none=>rfl | some _=>cases pU
  have hx:xs=[]:=by
   rcases h3 with ⟨h,_⟩ | ⟨b,o,h,_⟩
   ·exact h
   ·rw [ha] at h; cases h
  subst hx;exact hs.fX.fresh
 ·refine bV (([]:List bJ)) hs oU rfl rfl (eK rfl) (λ IQ w1 hs=>?_);have Am:=(hL0.ext hs.aF);refine cS hs oU Am (by simp <;> omega) (by decide) (λ Lz w2 hs=>?_);exact hs.fresh
theorem C91 (p:Nat) (room:Int) (l:List bJ) (w:World) (hb:wN w p room l) (hn:l.length≤1073741824):CR 91 [.pointer (some ⟨p,0,none⟩)] w (λ v w'=>lY (bK v l) w w'):=by
 obtain ⟨sv,zL,CK,hL⟩:=hb;have hs:=St.start w;refine aiv _ _ _ ?_;unfold S91;refine aE (aA ky (cE xV (CK.ext hs.aF) (eA afn (C154 _ _ _ (hL.ext hs.aF) (by omega)) ?_)));rintro _ w1 cA;have hs:=hs.made cA;exact hs.fresh
theorem Xd {room:Int} {l:List bJ} {x:bJ} (h:right x=false):Oz room l x=1:=by unfold Oz; rw [h]; rfl
theorem Xe {room:Int} {l:List bJ} {x:bJ} (h:right x=false):wO room l x=l:=by unfold wO; rw [h]; rfl
theorem SK {room:Int} {l:List bJ} {x:bJ} (h:right x=true) (hf:room≤l.length):Oz room l x=2:=by unfold Oz; rw [h,if_pos rfl,if_pos hf]
theorem SL {room:Int} {l:List bJ} {x:bJ} (hf:room≤l.length):wO room l x=l:=by unfold wO; rw [if_neg (λ hh=>hh.2 hf)]
theorem adQ {room:Int} {l:List bJ} {x:bJ} (h:right x=true) (hf:¬ room≤l.length):Oz room l x=0:=by unfold Oz; rw [h,if_pos rfl,if_neg hf]
theorem adR {room:Int} {l:List bJ} {x:bJ} (h:right x=true) (hf:¬ room≤l.length):wO room l x=l++[x]:=by unfold wO; rw [if_pos ⟨h,hf⟩]
theorem C196 (p:Nat) (room:Int) (l:List bJ) (x:bJ) (F:Nat→Prop) (w:World) (hF:(nM p room l).p w F) (hn:l.length≤1048576):CR 196 [.pointer (some ⟨p,0,none⟩),Flat.val x] w (λ v w'=>v = .int .i64 (Oz room l x)∧qy F (nM p room (wO room l x)) w w'):=by
 have hs:=St.begin hF;obtain ⟨sv,hs⟩:=hs.eZ;have hs:=hs.split;refine aaX _ _ _ _ ?_;unfold S196;refine dJ hs (λ LD w1 hs=>aD lf hs.At (aZ aoo hs (C226 _ _) (λ w2 he hs=>cC (aX (λ gu=>?_) (λ gu=>?_)))))
 ·have hs:=hs.p2.p2;rw [Xd (by simpa using gu),Xe (by simpa using gu)];exact ⟨rfl,(nM.shut hs).mut⟩
 ·refine aZ afg hs (C123 _ _ _ _ (wN.mk' hs.p1.hb hs.p2.fF)) (λ w3 he hs=>aC (λ gW=>?_) (λ gW=>?_))
  ·have hs:=hs.p2.p2;rw [SK (by simpa using gu) gW,SL gW];exact ⟨rfl,(nM.shut hs).mut⟩
  ·refine aE (aA ky (have hs:=hs.drew;aB xV hs.p1.hb rfl (aD lf hs.At (bV ([x]) hs oU rfl rfl (eK rfl) (λ af1 w4 hs=>?_)))));refine ⟨aG xV (hs.p2.hb.cell rfl),?_⟩;have om:=(hs).fF;refine cS hs.p3 oU om (by simp <;> omega) (by decide) (λ Vy w5 hs=>have hs:=hs.p1.drop;aE (aA ky (aV hs.p2 xV (eK rfl) ((hs).fF.one) (λ w6 hs=>?_))));have hs:=hs.p1.p1;rw [adQ (by simpa using gu) gW,adR (by simpa using gu) gW];exact ⟨rfl,(nM.shut hs).mut⟩
theorem BR {l:List bJ} {i:Int} (h:tm l i=false):ep l i=⟨0,0,0,0⟩:=by unfold ep; rw [h]; rfl
theorem BS {l:List bJ} {i:Int} (h:tm l i=false):mq l i=l:=by unfold mq; rw [h]; rfl
theorem Hk {l:List bJ} {i:Int} (h:i<0∨(l.length:Int)≤i):AD l i=1:=by unfold AD; rw [if_neg (by omega)]
theorem Xf {l:List bJ} {i:Int} (h0:0≤i∧i<l.length) (h:tm l i=false):AD l i=13:=by unfold AD; rw [if_pos h0,h]; rfl
theorem Xg {l:List bJ} {i:Int} (h:tm l i=true):AD l i=0:=by unfold AD; rw [if_pos (adP h),h]; rfl
theorem Xh {l:List bJ} {i:Int} {x:bJ} (h:tm l i=true) (hx:l[i.toNat]? = some x):ep l i=x:=by unfold ep; rw [h,hx]; rfl
theorem Xi {l:List bJ} {i:Int} (h:tm l i=true):mq l i=l.eraseIdx i.toNat:=by unfold mq; rw [h]; rfl
theorem C127 (p:Nat) (room:Int) (l:List bJ) (i:Int) (F:Nat→Prop) (w:World) (hF:(nM p room l).p w F) (hn:l.length≤1048576):CR 127 [.pointer (some ⟨p,0,none⟩),.int .i64 i] w (λ v w'=>v = .tuple #[Flat.val (ep l i),.int .i64 (AD l i)]∧qy F (nM p room (mq l i)) w w'):=by
 have hs:=St.begin hF;obtain ⟨sv,hs⟩:=hs.eZ;have hs:=hs.split;refine Z4 _ _ _ _ ?_;unfold S127;refine aN hs uU (λ CJ w1 hs=>?_);refine ⟨_,?_,λ _ _ h=>h⟩;refine aR (aC (λ gu=>?_) (λ gu=>?_))
 ·intro fD;refine nT (pop (IF) (aI (x:=(⟨0,0,0,0⟩:bJ)) hs lf rfl rfl (λ w3 hs=>aD lf hs.At ?_)));have hs:=hs.p2.p2;rw [BR (ux (by omega)),Hk (by omega),BS (ux (by omega))];exact ⟨rfl,(nM.shut hs).mut⟩
 ·refine aE (aA ky (aB xV hs.p1.hb rfl (aJ oU (hs.p2).fF (dK ?_))));intro fD;refine aC (λ mg=>?_) (λ mg=>?_)
  ·refine pop (IF) (aI (x:=(⟨0,0,0,0⟩:bJ)) hs lf rfl rfl (λ w3 hs=>aD lf hs.At ?_));have hs:=hs.p2.p2;rw [BR (ux (by omega)),Hk (by omega),BS (ux (by omega))];exact ⟨rfl,(nM.shut hs).mut⟩
  ·refine aZ afh hs (C124 _ _ _ _ _ (wN.mk' hs.p1.hb hs.p2.fF) (by omega)) (λ w4 he hs=>cC (aX (λ iT=>?_) (λ iT=>?_)))
   ·refine pop (IF) (aI (x:=(⟨0,0,0,0⟩:bJ)) hs lf rfl rfl (λ w5 hs=>aD lf hs.At ?_));have hs:=hs.p2.p2;rw [BR (by simpa using iT),Xf (by omega) (by simpa using iT),BS (by simpa using iT)];exact ⟨rfl,(nM.shut hs).mut⟩
   ·refine aE (aA ky (aB xV hs.p1.hb rfl ?_));obtain ⟨Cs,lJ⟩:=gx (l) (i:=(i).toNat) (by omega);refine dS hs.p2 oU (by omega) (by omega) (λ _ Em=>fY hs.p2 lf Em lJ (aN hs uU (λ OA w6 hs=>aI (x:=Cs) hs lf rfl rfl (λ w7 hs=>aE (aA ky (aB xV hs.p2.hb rfl (eA afn (C154 _ _ _ (hs.p3).fF (by omega)) ?_)))))));rintro _ w8 cA;have hs:=hs.made cA;refine aO (by omega) (pA an9 hs (H':=λ v=>bK v (l.eraseIdx i.toNat)) (Φ:=λ _ _=>True) (λ F hF=>?_) ?_)
    ·exact C193 _ i _ F _ hF (by omega) (by omega) (by omega)
    rintro x40 w9 _ hs;refine aE (aA ky (aV hs.p3 xV (eK rfl) ((hs).fF.one) (λ pP hs=>aD lf hs.p2.At (aI (x:=Cs) hs.p3 lf rfl rfl (λ sZ hs=>aD lf hs.At ?_)))));have hs:=hs.p2.p2;rw [Xh (by simpa using iT) lJ,Xg (by simpa using iT),Xi (by simpa using iT)];exact ⟨rfl,(nM.shut hs).mut⟩
def rH (l:List bJ) (c:Int):Option Int:=(l.reverse.find? λ x=>decide (x.kind=3∧x.cell=c)).map (·.n)
theorem C250 (y sv:Value) (b:Nat) (xs:List bJ) (J:Nat→World→Prop) (Jx:World→Prop) (w:World) (hn:xs.length≤1073741824)
  (hJ:∀ k W,J k W→Cell W b 0 sv∧eP (λ _=>True) W sv xs) (h0:J 0 w)
  (hy:∀ k x W,xs.reverse[k]? = some x→J k W→gd PG y [.int .i64 ((xs.length:Int) - 1 - k),Flat.val x] W (λ v W'=>(v = .bool true∧J (k+1) W')∨(v = .bool false∧Jx W'))) :
  CR 250 [y,.pointer (some ⟨b,0,none⟩)] w (λ _ W=>J xs.length W∨Jx W):=by
 refine abI _ _ _ _ ?_;unfold S250;refine cE xV (hJ 0 w h0).1 (aJ oU (hJ 0 w h0).2 (gD (by omega) ?_));refine ⟨λ m x w1=>∃ k:Nat,x = .int .i64 ((xs.length:Int) - 1 - k)∧m=xs.length - k∧k≤xs.length∧J k w1,⟨_,0,by simp,rfl,Nat.zero_le _,h0⟩,?_⟩;rintro m _ w1 ⟨k,rfl,rfl,hk,hj⟩ fD;refine dK (aC (λ c=>?_) (λ c=>?_))
 ·obtain ⟨h1,h2⟩:=hJ k w1 hj;have mG:k<xs.length:=by omega
  have hx:xs.reverse[k]? = some (xs[xs.length - 1 - k]'(by omega)):=by rw [List.getElem?_reverse mG,List.getElem?_eq_getElem]
  refine cE xV h1 (aQ oU h2 (by omega) (x:=xs[xs.length - 1 - k]'(by omega)) (by rw [List.getElem?_eq_getElem (by omega)]; congr 2; omega) (λ q hq=>?_));refine aD lf hq ?_;obtain SM:=hy k _ w1 hx hj;refine gd.mono SM ?_;rintro v w2 (⟨rfl,hj2⟩ | ⟨rfl,Be⟩)
  ·refine cC (fJ (gD (by omega) ?_));exact ⟨xs.length - (k+1),by omega,k+1,by congr 1; omega,rfl,by omega,hj2⟩
  ·refine cC (nT ?_);exact .inr Be
 ·have:k=xs.length:=by omega
  subst this;exact .inl hj
theorem C225 (sv:Value) (w:World) (h1:rW sv=true):CR 225 [sv] w (λ v w'=>∃ b,v = .func (.func 250) [].toArray [.pointer (some ⟨b,0,none⟩)].toArray∧lY (cH b [sv]) w w'):=by
 have hs:=St.start w;refine abj _ _ _ ?_;unfold S225;refine tM hs h1 (λ b w1 hs=>?_);exact ⟨b,rfl,hs.fresh⟩
theorem SN {α:Type} {p:α→Bool} {l:List α} {k:Nat} {x:α} (fV:∀ y∈l.take k,p y=false) (hx:l[k]? = some x) (hp:p x=true):l.find? p=some x:=by
 rw [List.find?_eq_some_iff_getElem]
 have hk:=(List.getElem?_eq_some_iff.1 hx)
 obtain ⟨mG,he⟩:=hk
 refine ⟨hp,k,mG,he,λ j hj=>?_⟩
 have:=fV (l[j]'(by omega)) (List.mem_take_iff_getElem.2 ⟨j,by omega,rfl⟩)
 simp [this]
theorem C194 (p:Nat) (c room:Int) (l:List bJ) (w:World) (hb:wN w p room l) (hn:l.length≤1048576) :
  CR 194 [.pointer (some ⟨p,0,none⟩),.int .i64 c] w (λ v w'=>v = .tuple #[.int .i64 ((rH l c).getD 0),.bool (rH l c).isSome]∧Ext w w'):=by
 obtain ⟨sv,zL,CK,hL⟩:=hb;have hs:=St.start w;refine aaV _ _ _ _ ?_;unfold S194;refine tM hs rfl (λ b3 w1 hs=>yJ hs Cg rfl (λ b4 w2 hs=>yJ hs afH rfl (λ b5 w3 hs=>aE (aA ky (cE xV (CK.ext hs.aF) (eA aon (C225 sv _ hL.one) ?_))))));rintro _ w4 ⟨b,rfl,cA⟩;have hs:=hs.made cA
 refine Vg (cap:=[.pointer (some ⟨b,0,none⟩)]) (xs:=(List.range l.length).map fun (k:Nat)=>[Value.int .i64 ((l.length:Int) - 1 - k),Flat.val ((l.reverse[k]?).getD ⟨0,0,0,0⟩)]) aoD hs
  (λ k M=>M=[cH b [sv],cH b5 [.bool false],cH b4 [.int .i64 0],cH b3 [.int .i64 c]]∧∀ y∈l.reverse.take k,decide (y.kind=3∧y.cell=c)=false)
  (λ cd M=>cd = .ret∧∃ x,rH l c=some x∧M=[cH b5 [.bool true],cH b4 [.int .i64 x]])
  ⟨rfl,by simp⟩ (by simp) ?_ ?_ ?_ ?_ ?_ ?_
 ·
  intro y J Jx W hJ hJe hJ0 hy;refine (C250 y sv b l J Jx W (by omega) (λ k W hk=>?_) hJ0 (λ k x W hx hk=>?_)).mono λ _ _ r=>r.mono λ v W' h=>?_
  ·obtain ⟨Y,M,⟨rfl,_⟩,hS⟩:=hJ k W hk;exact ⟨hS.p1.hb.cell rfl,hL.ext hS.aF⟩
  ·have mG:=(List.getElem?_eq_some_iff.1 hx).1;rw [List.length_reverse] at mG;have:=hy k [Value.int .i64 ((l.length:Int) - 1 - k),Flat.val x] W (by rw [List.getElem?_map,List.getElem?_range mG]; simp [hx]) hk;exact this
  ·simpa using h
 ·
  rintro k args Y1 Y2 B Kr M W hk ⟨rfl,fV⟩ hB hN hR hs
  have mG:k<l.length:=by
   have:=(List.getElem?_eq_some_iff.1 hk).1
   simpa using this
  obtain ⟨x,hx⟩:∃ x,l.reverse[k]? = some x:=⟨_,List.getElem?_eq_getElem (by simpa using mG)⟩
  have ha:args=[Value.int .i64 ((l.length:Int) - 1 - k),Flat.val x]:=by
   rw [List.getElem?_map,List.getElem?_range mG] at hk;simp [hx] at hk;exact hk.symm
  subst ha;dsimp only [R5];refine aN hs uU (λ b7 w6 hs=>pF hs lf rfl (by decide) (by simp [rW,ib]) (λ w7 hs=>?_));refine hB _ _ _ hs.p1 (λ w8 hs=>?_);have e7:ib [Value.int IntKind.i64 0,.int .i64 0,.int .i64 0,.int .i64 0] 0 [Value.int .i64 x.kind,.int .i64 x.line,.int .i64 x.cell,.int .i64 x.n]=Flat.enc x:=rfl;refine ⟨_,?_,λ _ _ h=>h⟩;refine aA pK (aB bL hs.p1.hb rfl (aH ?_))
  have no:¬ (x.kind=3∧x.cell=c)→Kr none w8:=λ hh=>by
   refine hN _ _ (hs.p1.drop.p0) ⟨rfl,?_⟩;exact eH fV hx (by simpa using hh)
  refine aC (λ c1=>?_) (λ c1=>?_)
  ·refine aA nY (aB bL hs.p1.hb rfl (aB bL hs.p5.hb rfl (aH ?_)));intro fD;refine aC (λ c2=>?_) (λ c2=>no λ hh=>c2 hh.2);refine aA m4 (aB bL hs.p1.hb rfl (aV hs.p4 bL (Nat.le_of_ble_eq_true rfl) rfl (λ pP hs=>aV hs.p4 TY (Nat.le_of_ble_eq_true rfl) rfl (λ sZ hs=>?_))));refine hR _ [cH b5 [.bool true],cH b4 [.int .i64 x.n]] _ ?_ ⟨rfl,x.n,?_,rfl⟩
   ·exact (hs.p5.drop.p4.drop.p3.drop).p2
   ·unfold rH;rw [SN fV hx (by simpa using ⟨c1,c2⟩)]; rfl
  ·intro fD;exact fJ (no λ hh=>c1 hh.1)
 ·
  rintro D M W ⟨rfl,fV⟩ hs;refine aV hs.p3 bL (Nat.le_of_ble_eq_true rfl) rfl (λ vz hs=>aV hs.p3 TY (Nat.le_of_ble_eq_true rfl) rfl (λ su hs=>?_));refine afQ hs.p2 (λ wm hs=>?_);refine aB bL hs.p1.hb rfl (aB TY hs.hb rfl ?_)
  have:rH l c=none:=by
   unfold rH
   rw [show l.reverse.find? _=none from List.find?_eq_none.2 λ y hy=>by
    have:=fV y (by rw [List.take_of_length_le (by simp)]; exact hy);simp only [this]; exact Bool.false_ne_true]
   rfl
  rw [this];exact ⟨rfl,hs.aF⟩
 ·rintro D M W ⟨_,x,hl,rfl⟩ hs;refine afQ hs (λ wm hs=>?_);refine aB bL hs.p1.hb rfl (aB TY hs.hb rfl ?_);rw [hl];exact ⟨rfl,hs.aF⟩
 ·rintro id D M W ⟨h,_⟩; cases h
 ·rintro c M ⟨h,_⟩; exact .inr h
theorem Jd {α:Type} {xs ys:List α} {k:Nat} {e f:α} (h:xs.take k=ys.take k) (h1:xs[k]? = some e) (h2:ys[k]? = some f) (he:e=f):xs.take (k+1)=ys.take (k+1):=by
 rw [List.take_add_one,List.take_add_one,h,h1,h2,he]
theorem SO {α:Type} {xs ys:List α} {k:Nat} {e f:α} (h1:xs[k]? = some e) (h2:ys[k]? = some f) (he:¬ e=f):¬ xs=ys:=by
 rintro rfl; rw [h1] at h2; exact he (Option.some.inj h2)
theorem C52 (room:Int) (w:World):CR 52 [.int .i64 room] w (λ v w'=>((room<1∨16<room)∧v = .tuple #[.pointer none,.int .i64 1]∧Ext w w')∨(1≤room∧room≤16∧∃ b,v = .tuple #[.pointer (some ⟨b,0,none⟩),.int .i64 0]∧lY (nM b room []) w w')):=by
 have hs:=St.start w;refine ah2 _ _ _ ?_;unfold S52;refine ⟨_,?_,λ _ _ h=>h⟩;refine aR (aC (λ Vs=>?_) (λ Vs=>?_))
 ·intro fD;refine nT ?_;exact .inl ⟨by omega,rfl,hs.aF⟩
 ·refine dB ?_;intro fD;refine aC (λ gA=>?_) (λ gA=>?_)
  ·exact .inl ⟨by omega,rfl,hs.aF⟩
  ·refine pop (Va _) (l5 hs (λ b w2 hs=>?_));have hs:=(hs.fX (α:=bJ)).p1;exact .inr ⟨by omega,by omega,b,rfl,(nM.shut hs).fresh⟩
theorem C71 (p:Nat) (room:Int) (l:List bJ) (w:World) (hb:wN w p room l) (hn:l.length≤1048576):CR 71 [.pointer (some ⟨p,0,none⟩)] w (λ v w'=>∃ b,v = .pointer (some ⟨b,0,none⟩)∧lY (nM b room l) w w'):=by
 have JS:=hb;obtain ⟨sv,zL,CK,hL⟩:=hb;have hs:=St.start w;refine aim _ _ _ ?_;unfold S71;refine aE (aA KF (have hs:=hs.drew;cE bL (zL.ext hs.aF) (eA aiF (C91 _ _ _ _ (JS.ext hs.aF) (by omega)) ?_)));rintro _ w1 cA;have hs:=hs.made cA;refine ⟨aG bL (zL.ext hs.aF),?_⟩;obtain ⟨a8,c8,e8,_⟩:=(hs).fF;subst e8;refine pop (NC _ _ _ _) (l5 hs (λ b w2 hs=>?_));exact ⟨b,rfl,(nM.shut hs).fresh⟩
theorem C21 (av bv:Value) (xs ys:List Int) (w:World) (hA:eP (λ _=>True) w av xs) (hB:eP (λ _=>True) w bv ys) (hn:xs.length≤1073741824):CR 21 [av,bv] w (λ v w'=>v = .bool (decide (xs=ys))∧Ext w w'):=by
 have hs:=St.start w;refine ahE _ _ _ _ ?_;unfold S21;refine aJ eh (hA.ext hs.aF) (aJ eh (hB.ext hs.aF) (cR (aC (λ fR=>?_) (λ fR=>?_))))
 ·exact ⟨vb (decide_eq_false (by rintro rfl; omega)).symm,hs.aF⟩
 ·refine ⟨λ m x w1=>∃ k:Nat,x = .int .i64 (k:Int)∧m=xs.length - k∧k≤xs.length∧xs.take k=ys.take k∧St w bD [] w1,⟨_,0,rfl,rfl,Nat.zero_le _,rfl,hs⟩,?_⟩;rintro m _ w1 ⟨k,rfl,rfl,hk,Xj,hs⟩ fD;refine aJ eh (hA.ext hs.aF) (aR (aC (λ gX=>?_) (λ gX=>?_)))
  ·obtain ⟨jd,fM⟩:=gx (xs) (i:=((k:Int)).toNat) (by omega);refine aQ eh (hA.ext hs.aF) (by omega) fM (λ _ jQ=>have hs:=hs.drew;aD bL (jQ) ?_);obtain ⟨rk,kD⟩:=gx (ys) (i:=((k:Int)).toNat) (by omega);refine aQ eh (hB.ext hs.aF) (by omega) kD (λ _ pW=>aD bL (pW) (cR (aC (λ fT=>?_) (λ fT=>?_))))
   ·exact ⟨vb (decide_eq_false (SO fM kD fT)).symm,hs.aF⟩
   ·refine aO (by omega) ?_;exact ⟨xs.length - (k+1),by omega,k+1,rfl,rfl,by omega,Jd Xj fM kD (Decidable.not_not.1 fT),hs⟩
  ·exact ⟨vb (decide_eq_true (by rw [List.take_of_length_le (by omega),List.take_of_length_le (by omega)] at Xj; exact Xj)).symm,hs.aF⟩
end Go.Proofs.YtnjcingfdhjfkaaGreat
namespace Go.Fw
open Go.MapKept (Stamped IsKey)
open Go.ChangeMaps (setBlock)
def mM (w:World) (b:Nat) (ks:List Int) (vs:List Value):Prop:=
 ∃ es clock,w.heap[b]? = some (.map es clock)∧Stamped es clock∧es.toList.map (·.key)=ks.map (Value.int .i64)∧es.toList.map (·.val)=vs
def ke:List Int→Int→Option Nat
 | [],_=>none
 | x::xs,k=>if x=k then some 0 else (ke xs k).map (· + 1)
theorem j1:∀ {ks:List Int} {k:Int} {j:Nat},ke ks k=some j→ks[j]? = some k
 | x::xs,k,j,h=>by
  unfold ke at h
  split at h
  ·rename_i e; cases h; simp [e]
  ·cases hh:ke xs k with
   | none=>rw [hh] at h; cases h
   | some i=>rw [hh] at h; simp at h; subst h; simpa using j1 hh
theorem mr:∀ {ks:List Int} {k:Int},ke ks k=none↔k ∉ ks
 | [],_=>by simp [ke]
 | x::xs,k=>by
  unfold ke
  by_cases e:x=k
  ·simp [e]
  ·rw [if_neg e,Option.map_eq_none_iff,mr,List.mem_cons]
   exact ⟨λ h hh=>hh.elim (λ h2=>e h2.symm) h,λ h hh=>h (.inr hh)⟩
theorem rI:∀ {ks:List Int} {k:Int} {j:Nat},ks.Nodup→ks[j]? = some k→ke ks k=some j
 | x::xs,k,0,_,h=>by simp at h; simp [ke,h]
 | x::xs,k,j+1,hn,h=>by
  rw [List.getElem?_cons_succ] at h
  have hm:=List.mem_of_getElem? h
  have:x≠k:=λ e=>(List.nodup_cons.1 hn).1 (e▸hm)
  simp [ke,this,rI (List.nodup_cons.1 hn).2 h]
def look {β:Type} (ks:List Int) (vs:List β) (k:Int):Option β:=(ke ks k).bind (vs[·]?)
def tq {β:Type} (f:Int→β) (k:Int) (x:β):Int→β:=λ j=>if j=k then x else f j
section
variable {P:Program} {w w0 w':World} {A:Nat→Prop} {L:List HP} {b:Nat} {ks:List Int} {vs:List Value}
theorem mM.of_eq (h:mM w b ks vs) (hh:w'.heap[b]? = w.heap[b]?):mM w' b ks vs:=by
 obtain ⟨es,c,h1,h2⟩:=h; exact ⟨es,c,hh.trans h1,h2⟩
theorem mM.lt (h:mM w b ks vs):b<w.heap.size:=by obtain ⟨es,c,h1,_⟩:=h; exact jX h1
theorem mM.ext (h:mM w b ks vs) (e:Ext w w'):mM w' b ks vs:=h.of_eq (e.cH b h.lt λ h=>h)
theorem mM.len (h:mM w b ks vs):ks.length=vs.length:=by
 obtain ⟨es,c,_,_,h3,h4⟩:=h
 have:=congrArg List.length h3; have h5:=congrArg List.length h4
 simp at this h5; omega
theorem mM.nodup (h:mM w b ks vs):ks.Nodup:=by
 obtain ⟨es,c,_,h2,h3,h4⟩:=h
 have:=h2.2.2
 rw [h3] at this
 exact (List.pairwise_map.1 this).imp λ h e=>h (by rw [e])
def Gj (b:Nat) (ks:List Int) (vs:List Value):HP where
 p w F:=mM w b ks vs∧∀ k,F k↔k=b
 loc w w' F h hh:=⟨h.1.of_eq (hh b ((h.2 b).2 rfl)),h.2⟩
 lt w F b' h hb:=by rw [(h.2 b').1 hb]; exact h.1.lt
theorem SP {es:Array MapEntry} (h3:es.toList.map (·.key)=ks.map (Value.int .i64)):∀ x∈es.toList,IsKey (.int .i64) x.key:=by
 intro x hx
 have:x.key∈es.toList.map (·.key):=List.mem_map.2 ⟨x,hx,rfl⟩
 rw [h3] at this
 obtain ⟨k,_,e⟩:=List.mem_map.1 this
 rw [← e]; simp [IsKey]
theorem Fg {T:TypeId} {k:Int} {es:Array MapEntry} (hT:P.underlying T=some (.int .i64)) (hn:ks.Nodup) (h3:es.toList.map (·.key)=ks.map (Value.int .i64)) :
  (ke ks k=none∧(Instr.findKey T (.int .i64 k) es.toList).run P w = .ok none w)∨∃ j e,ke ks k=some j∧es.toList[j]? = some e∧e.key = .int .i64 k∧(Instr.findKey T (.int .i64 k) es.toList).run P w = .ok (some (j,e.val)) w:=by
 rcases MapKept.findNow_spec (d:=.int .i64) (k:=.int .i64 k) (by simp [IsKey]) es.toList 0 (SP h3) with ⟨h1,h2⟩ | ⟨j,e,h1,h2,h4⟩
 ·refine .inl ⟨mr.2 λ hm=>?_,MapKept.run_findKey hT h1⟩
  have:Value.int .i64 k∈es.toList.map (·.key):=by rw [h3]; exact List.mem_map.2 ⟨k,hm,rfl⟩
  obtain ⟨x,hx,e⟩:=List.mem_map.1 this
  exact h2 x hx e
 ·refine .inr ⟨j,e,rI hn ?_,h2,h4,by rw [Nat.zero_add] at h1; exact MapKept.run_findKey hT h1⟩
  have:(es.toList.map (·.key))[j]? = some (.int .i64 k):=by rw [List.getElem?_map,h2]; simp [h4]
  rw [h3,List.getElem?_map] at this
  cases hk:ks[j]? with
  | none=>rw [hk] at this; cases this
  | some k'=>rw [hk] at this; simp at this; rw [this]
theorem pg {T Kt E:TypeId} {z:Value} {k:Int} (h:mM w b ks vs) (ht:P.underlying T=some (.map Kt E)) (hk:P.underlying Kt=some (.int .i64)) (hz:qt P E z) :
  (Instr.lookup T (.map (some b)) (.int .i64 k) false).run P w = .ok ((look ks vs k).getD z) w:=by
 have hn:=h.nodup
 obtain ⟨es,c,h1,h2,h3,h4⟩:=h
 have hz':(zeroValue E).run P w = .ok z w:=by
  unfold qt et at hz
  cases hi:P.info? E with
  | none=>rw [hi] at hz; cases hz
  | some i=>
   rw [hi] at hz
   simp only [Option.map_some,Option.some.injEq] at hz
   refine fw ?_ w
   unfold zeroValue; rw [cP,nB hi]; simp only [Option.bind_some,hz]; rfl
 have hc:=MapKept.run_checkKey (P:=P) (w:=w) (kt:=Kt) (k:=.int .i64 k) hk (by simp [IsKey]) es.isEmpty 9999
 rcases Fg (w:=w) (k:=k) hk hn h3 with ⟨h5,h6⟩ | ⟨j,e,h5,h6,h7,h8⟩
 ·simp [Instr.lookup,run_underlying ht,MapKept.run_getObj_map h1,hc,h6,hz',Result.andThen,look,h5]
 ·have:vs[j]? = some e.val:=by rw [← h4,List.getElem?_map,h6]; rfl
  simp [Instr.lookup,run_underlying ht,MapKept.run_getObj_map h1,hc,h8,Result.andThen,look,h5,this]
theorem mu (o:Obj) (hb:b<w.heap.size):(setBlock w b o).heap[b]? = some o:=by simp [setBlock,hb]
theorem iF.setBlock (w:World) (b:Nat) (o:Obj):iF (· = b) w (setBlock w b o):=
 ⟨rfl,rfl,rfl,by simp [ChangeMaps.setBlock],λ k _ hn=>by simp only [ChangeMaps.setBlock]; rw [Array.getElem?_setIfInBounds_ne (λ h=>hn h.symm)]⟩
theorem rJ {es:Array MapEntry} {clock:Nat} {o:Obj} (h1:w.heap[b]? = some (.map es clock)):(setObj b o).run P w = .ok () (setBlock w b o):=by
 simp [setObj,Sem.run,h1,setBlock]
theorem Q4 {T Kt E:TypeId} {v:Value} {k:Int} (h:mM w b ks vs) (ht:P.underlying T=some (.map Kt E)) (hk:P.underlying Kt=some (.int .i64)) :
  ∃ w',(Instr.mapUpdate T (.map (some b)) (.int .i64 k) v).run P w = .ok () w'∧iF (· = b) w w'∧
   (match ke ks k with | some j=>mM w' b ks (vs.set j v) | none=>mM w' b (ks++[k]) (vs++[v])):=by
 have hn:=h.nodup
 have mG:=h.lt
 obtain ⟨es,c,h1,h2,h3,h4⟩:=h
 have hc:=MapKept.run_checkKey (P:=P) (w:=w) (kt:=Kt) (k:=.int .i64 k) hk (by simp [IsKey]) false 9999
 rcases Fg (w:=w) (k:=k) hk hn h3 with ⟨h5,h6⟩ | ⟨j,e,h5,h6,h7,h8⟩
 ·refine ⟨_,?_,iF.setBlock w b (.map (es.push ⟨.int .i64 k,v,c⟩) (c+1)),?_⟩
  ·simp [Instr.mapUpdate,run_underlying ht,MapKept.run_getObj_map h1,hc,h6,rJ h1,Result.andThen]
  ·rw [h5]
   refine ⟨_,_,mu _ mG,MapKept.stamped_push h2 λ x hx e=>?_,by simp [h3],by simp [h4]⟩
   have:x.key∈es.toList.map (·.key):=List.mem_map.2 ⟨x,hx,rfl⟩
   rw [h3,e] at this
   obtain ⟨k',yG,e'⟩:=List.mem_map.1 this
   simp at e'
   exact mr.1 h5 (e'▸yG)
 ·have Za:es[j]? = some e:=by rw [← Array.getElem?_toList]; exact h6
  have gr:(Instr.keyThatStays e.key (.int .i64 k)).run P w = .ok (.int .i64 k) w:=by
   rw [h7]; unfold Instr.keyThatStays; simp [Instr.sameBits]
  refine ⟨_,?_,iF.setBlock w b (.map (es.modify j λ e=>{e with key:=.int .i64 k,val:=v}) c),?_⟩
  ·simp [Instr.mapUpdate,run_underlying ht,MapKept.run_getObj_map h1,hc,h8,rJ h1,Result.andThen,Za,gr]
  ·rw [h5]
   have yG:∀ e',es[j]? = some e'→({e' with key:=.int .i64 k,val:=v}:MapEntry).key=e'.key:=λ e' he'=>by
    rw [Za] at he'; cases he'; exact h7.symm
   refine ⟨_,_,mu _ mG,MapKept.stamped_modify h2 j _ (λ _ _=>rfl) (λ e' _ he'=>yG e' he'),?_,?_⟩
   ·rw [MapKept.modify_keys j _ yG,h3]
   ·rw [← h4]
    apply List.ext_getElem?
    intro i
    simp only [List.getElem?_map,Array.getElem?_toList,Array.getElem?_modify,List.getElem?_set]
    by_cases hij:j=i
    ·subst hij; rw [Za]; have:=(Array.getElem?_eq_some_iff.1 Za).1; simp [this]
    ·simp [hij]
theorem adS {T Kt E R:TypeId} {A2:Array TypeId} {k:Int} (h:mM w b ks vs) (ha:A2[0]? = some T) (ht:P.underlying T=some (.map Kt E)) (hk:P.underlying Kt=some (.int .i64)) :
  ∃ w',(Builtin.delete_ A2 R [.map (some b),.int .i64 k].toArray).run P w = .ok (.tuple #[]) w'∧iF (· = b) w w'∧
   (match ke ks k with | some j=>mM w' b (ks.eraseIdx j) (vs.eraseIdx j) | none=>mM w' b ks vs):=by
 have hn:=h.nodup
 have mG:=h.lt
 obtain ⟨es,c,h1,h2,h3,h4⟩:=h
 have hc:=MapKept.run_checkKey (P:=P) (w:=w) (kt:=Kt) (k:=.int .i64 k) hk (by simp [IsKey]) es.isEmpty 9999
 rcases Fg (w:=w) (k:=k) hk hn h3 with ⟨h5,h6⟩ | ⟨j,e,h5,h6,h7,h8⟩
 ·refine ⟨_,?_,iF.setBlock w b (.map es c),?_⟩
  ·simp [Builtin.delete_,ha,run_underlying ht,MapKept.run_getObj_map h1,hc,h6,rJ h1,Result.andThen]
  ·rw [h5]
   exact ⟨_,_,mu _ mG,h2,h3,h4⟩
 ·have hj:j<es.size:=by have:=(List.getElem?_eq_some_iff.1 h6).1; simpa using this
  refine ⟨_,?_,iF.setBlock w b (.map (es.eraseIdxIfInBounds j) c),?_⟩
  ·simp [Builtin.delete_,ha,run_underlying ht,MapKept.run_getObj_map h1,hc,h8,rJ h1,Result.andThen]
  ·rw [h5]
   have he:(es.eraseIdxIfInBounds j).toList=es.toList.eraseIdx j:=by
    unfold Array.eraseIdxIfInBounds; rw [dif_pos hj]; simp
   refine ⟨_,_,mu _ mG,MapKept.stamped_erase h2 j,?_,?_⟩
   ·rw [he,ChangeMaps.map_eraseIdx,h3,ChangeMaps.map_eraseIdx]
   ·rw [he,ChangeMaps.map_eraseIdx,h4]
theorem wP {T:TypeId} {K:Value→World→Prop} (hs:St w0 A L w) (k:∀ b w',St w0 A (Gj b [] []::L) w'→K (.map (some b)) w'):ia P (Instr.makeMap T none) w K:=
 ⟨_,_,rfl,k _ _ (hs.new (Ext.push w (.map #[] 0)) (F:=λ k=>k=w.heap.size) ⟨⟨#[],0,pE _ _,MapKept.stamped_empty 0,rfl,rfl⟩,λ _=>Iff.rfl⟩ λ b hb=>by rw [hb]; exact Nat.le_refl _)⟩
theorem St.AE (hs:St w0 A (Gj b ks vs::L) w):mM w b ks vs:=by obtain ⟨F,h,_⟩:=hs.head; exact h.1
theorem ik {T Kt E:TypeId} {v:Value} {k:Int} {K:World→Prop} (hs:St w0 A (Gj b ks vs::L) w) (ht:P.underlying T=some (.map Kt E)) (hk:P.underlying Kt=some (.int .i64)) (cA:ke ks k=none)
  (kk:∀ w',St w0 A (Gj b (ks++[k]) (vs++[v])::L) w'→K w'):Bg P (Instr.mapUpdate T (.map (some b)) (.int .i64 k) v) w K:=by
 obtain ⟨w',h1,h2,h3⟩:=Q4 (P:=P) (v:=v) (k:=k) hs.AE ht hk
 rw [cA] at h3
 exact ⟨w',h1,kk w' (hs.rV λ F hF=>⟨F,⟨h3,hF.2⟩,λ b hb=>.inl hb,h2.mono λ k hk=>(hF.2 k).2 hk⟩)⟩
end
section
variable {α:Type} [Flat α] {P:Program} {w w0 w':World} {A:Nat→Prop} {L:List HP} {b:Nat} {f:Int→List α}
abbrev CL (s:SV) (x:List α):HP:=bK (Flat.val s) x
def oP (b:Nat) (f:Int→List α):HP:=ua λ ks=>ua λ ss:List SV=>ua λ tu:List (List α)=>fact (f=λ k=>(look ks tu k).getD []) (sep (Gj b ks (ss.map Flat.val)) (iH CL ss tu))
def sK (w:World) (b:Nat) (f:Int→List α):Prop:=∃ ks,∃ ss:List SV,mM w b ks (ss.map Flat.val)∧(∀ (i:Nat) (k:Int) (s:SV),ks[i]? = some k→ss[i]? = some s→eP (λ _=>True) w (Flat.val s) (f k))∧∀ k,k ∉ ks→f k=[]
theorem sK.ext (h:sK w b f) (e:Ext w w'):sK w' b f:=by
 obtain ⟨ks,ss,h1,h2,h3⟩:=h; exact ⟨ks,ss,h1.ext e,λ i k s a c=>(h2 i k s a c).ext e,h3⟩
theorem pD {β:Type} {ks:List Int} {xs:List β} {k:Int} {i:Nat} {x:β} (hn:ks.Nodup) (h1:ks[i]? = some k) (h2:xs[i]? = some x):look ks xs k=some x:=by
 unfold look; rw [rI hn h1]; exact h2
theorem ph {β:Type} {ks:List Int} {xs:List β} {k:Int} (h:k ∉ ks):look ks xs k=none:=by unfold look; rw [mr.2 h]; rfl
theorem oP.rd {F:Nat→Prop} (h:(oP b f).p w F):sK w b f:=by
 obtain ⟨ks,ss,tu,hf,F1,F2,h1,h2,_,_⟩:=h
 refine ⟨ks,ss,h1.1,λ i k s hk hs=>?_,λ k hk=>by rw [hf]; dsimp only; rw [ph hk]; rfl⟩
 have hl:=Bv h2
 have hi:i<tu.length:=by have:=(List.getElem?_eq_some_iff.1 hs).1; omega
 have hx:tu[i]? = some tu[i]:=List.getElem?_eq_getElem hi
 have gr:St w F2 [iH CL ss tu] w:=St.begin h2
 have:=gr.apd hs hx (Φ:=λ w=>eP (λ _=>True) w (Flat.val s) tu[i]) λ h=>(bK.rd h).mono λ _ _=>trivial
 rw [hf]; dsimp only
 rw [pD h1.1.nodup hk hx]; exact this
theorem St.Xk (hs:St w0 A (oP b f::L) w):sK w b f:=by obtain ⟨F,h,_⟩:=hs.head; exact oP.rd h
theorem sK.look {T Kt E:TypeId} {k:Int} (h:sK w b f) (ht:P.underlying T=some (.map Kt E)) (hk:P.underlying Kt=some (.int .i64)) (hz:qt P E (.slice none 0 0)) :
  ∃ s:SV,(Instr.lookup T (.map (some b)) (.int .i64 k) false).run P w = .ok (Flat.val s) w∧eP (λ _=>True) w (Flat.val s) (f k):=by
 obtain ⟨ks,ss,h1,h2,h3⟩:=h
 have hr:=pg (P:=P) (k:=k) h1 ht hk hz
 cases ni:ke ks k with
 | none=>
  have:Fw.look ks (ss.map Flat.val) k=none:=by unfold Fw.look; rw [ni]; rfl
  rw [this] at hr
  exact ⟨⟨none,0,0⟩,hr,by rw [h3 k (mr.1 ni)]; exact eP.nil _ _⟩
 | some j=>
  have hj:=j1 ni
  have hl:=h1.len
  have hjs:j<ss.length:=by have:=(List.getElem?_eq_some_iff.1 hj).1; simp at hl; omega
  have Q5:ss[j]? = some ss[j]:=List.getElem?_eq_getElem hjs
  have:Fw.look ks (ss.map Flat.val) k=some (Flat.val ss[j]):=by unfold Fw.look; rw [ni]; simp [Q5]
  rw [this] at hr
  exact ⟨_,hr,h2 j k _ hj Q5⟩
theorem sK.arp {T Kt E:TypeId} {k:Int} (h:sK w0 b f) (ht:P.underlying T=some (.map Kt E)) (hk:P.underlying Kt=some (.int .i64)) (hz:qt P E (.slice none 0 0)) :
  ∃ s:SV,(∀ w,Ext w0 w→(Instr.lookup T (.map (some b)) (.int .i64 k) false).run P w = .ok (Flat.val s) w)∧eP (λ _=>True) w0 (Flat.val s) (f k):=by
 obtain ⟨ks,ss,h1,h2,h3⟩:=h
 have hr:∀ w,Ext w0 w→_:=λ w e=>pg (P:=P) (k:=k) (h1.ext e) ht hk hz
 cases ni:ke ks k with
 | none=>
  have:Fw.look ks (ss.map Flat.val) k=none:=by unfold Fw.look; rw [ni]; rfl
  rw [this] at hr
  exact ⟨⟨none,0,0⟩,hr,by rw [h3 k (mr.1 ni)]; exact eP.nil _ _⟩
 | some j=>
  have hj:=j1 ni
  have hl:=h1.len
  have hjs:j<ss.length:=by have:=(List.getElem?_eq_some_iff.1 hj).1; simp at hl; omega
  have Q5:ss[j]? = some ss[j]:=List.getElem?_eq_getElem hjs
  have:Fw.look ks (ss.map Flat.val) k=some (Flat.val ss[j]):=by unfold Fw.look; rw [ni]; simp [Q5]
  rw [this] at hr
  exact ⟨_,hr,h2 j k _ hj Q5⟩
theorem BT {T Kt E:TypeId} {k:Int} {K:Value→Prop} (h:sK w0 b f) (e:Ext w0 w) (ht:P.underlying T=some (.map Kt E)) (hk:P.underlying Kt=some (.int .i64)) (hz:qt P E (.slice none 0 0))
  (kk:∀ s:SV,eP (λ _=>True) w0 (Flat.val s) (f k)→K (Flat.val s)):Dy P (Instr.lookup T (.map (some b)) (.int .i64 k) false) w K:=by
 obtain ⟨s,h1,h2⟩:=h.arp (P:=P) (k:=k) ht hk hz; exact ⟨_,h1 w e,kk s h2⟩
def L3 (b:Nat) (f:Int→List α) (k:Int) (s:SV):HP:=ua λ ks=>ua λ ss:List SV=>ua λ tu:List (List α)=>ua λ vs:List Value=>
 fact ((∀ k',k'≠k→f k'=(look ks tu k').getD [])∧look ks vs k=(ke ks k).map (λ _=>Flat.val s)∧(ke ks k=none→s=⟨none,0,0⟩)∧vs.length=ss.length∧∀ (i:Nat) (k':Int),ks[i]? = some k'→k'≠k→vs[i]? = (ss[i]?).map Flat.val) (sep (Gj b ks vs) (iH CL ss tu))
theorem St.Fh {k:Int} (hs:St w0 A (oP b f::L) w):∃ s:SV,St w0 A (bK (Flat.val s) (f k)::L3 b f k s::L) w:=by
 obtain ⟨ks,hs⟩:=hs.eZ; obtain ⟨ss,hs⟩:=hs.eZ; obtain ⟨tu,hs⟩:=hs.eZ; obtain ⟨hf,hs⟩:=hs.oL
 replace hs:=hs.split
 have hm:=hs.AE
 have hl:=hm.len
 have C0:=hs.p1.lu
 have hn:=hm.nodup
 rw [List.length_map] at hl
 cases ni:ke ks k with
 | none=>
  refine ⟨⟨none,0,0⟩,?_⟩
  have hx:look ks tu k=none:=by unfold look; rw [ni]; rfl
  have e:f k=[]:=by rw [hf]; dsimp only; rw [hx]; rfl
  rw [e]
  refine (St.eU ks (St.eU ss (St.eU tu (St.eU (ss.map Flat.val) (St.qx ⟨λ k' _=>by rw [hf],by unfold look; rw [ni]; rfl,λ _=>rfl,by rw [List.length_map],λ i k' _ _=>by rw [List.getElem?_map]⟩ (St.join hs)))))).fX
 | some j=>
  have hj:=j1 ni
  have hjk:=(List.getElem?_eq_some_iff.1 hj).1
  have Q5:ss[j]? = some (ss[j]'(by omega)):=List.getElem?_eq_getElem _
  have hxj:tu[j]? = some (tu[j]'(by omega)):=List.getElem?_eq_getElem _
  refine ⟨ss[j]'(by omega),?_⟩
  have e:f k=tu[j]'(by omega):=by rw [hf]; dsimp only; rw [pD hn hj hxj]; rfl
  rw [e]
  have h1:=(hs.p1.focus Q5 hxj).p1
  have h2:=(h1.fX (α:=α)).p1
  have h3:St w0 A (CL (⟨none,0,0⟩:SV) ([]:List α)::qz CL ss tu j::_::_::L) w:=h2.p1
  have h4:=h3.Ed (by omega) C0
  have h5:=h4.p2
  refine (St.eU ks (St.eU (ss.set j ⟨none,0,0⟩) (St.eU (tu.set j []) (St.eU (ss.map Flat.val) (St.qx ⟨λ k' yG=>?_,by unfold look; rw [ni]; simp [Q5],λ h=>(by cases ni.symm.trans h),(by simp),λ i k' hi yG=>?_⟩ (St.join h5)))))).p1
  ·rw [hf]; dsimp only
   unfold look
   cases hq:ke ks k' with
   | none=>rfl
   | some i=>
    have:j≠i:=λ e=>yG (by have:=j1 hq; rw [← e,hj] at this; exact (Option.some.inj this).symm)
    simp [this]
  ·rw [List.getElem?_map,List.getElem?_set_ne]
   rintro rfl
   rw [hj] at hi; exact yG (Option.some.inj hi).symm
theorem St.BU {T Kt E:TypeId} {k:Int} {s:SV} (hs:St w0 A (L3 b f k s::L) w) (ht:P.underlying T=some (.map Kt E)) (hk:P.underlying Kt=some (.int .i64)) (hz:qt P E (.slice none 0 0)) :
  (Instr.lookup T (.map (some b)) (.int .i64 k) false).run P w = .ok (Flat.val s) w:=by
 obtain ⟨ks,hs⟩:=hs.eZ; obtain ⟨ss,hs⟩:=hs.eZ; obtain ⟨tu,hs⟩:=hs.eZ; obtain ⟨vs,hs⟩:=hs.eZ; obtain ⟨⟨_,h2,h3,_⟩,hs⟩:=hs.oL
 have:=pg (P:=P) (k:=k) hs.split.AE ht hk hz
 rw [h2] at this
 cases ni:ke ks k with
 | none=>rw [ni] at this; rw [h3 ni]; exact this
 | some j=>rw [ni] at this; exact this
theorem St.Xl {k:Int} {s:SV} {xs:List α} (hs:St w0 A (bK (Flat.val s) xs::L3 b f k s::L) w):St w0 A (oP b (tq f k xs)::L) w:=by
 replace hs:=hs.p1
 obtain ⟨ks,hs⟩:=hs.eZ; obtain ⟨ss,hs⟩:=hs.eZ; obtain ⟨tu,hs⟩:=hs.eZ; obtain ⟨vs,hs⟩:=hs.eZ; obtain ⟨⟨hf,h2,h3,hvs,Xm⟩,hs⟩:=hs.oL
 replace hs:=hs.split
 have hm:=hs.AE
 have hl:=hm.len
 have hn:=hm.nodup
 have C0:=hs.p1.lu
 cases ni:ke ks k with
 | none=>
  have Bd:=mr.1 ni
  have hval:vs=ss.map Flat.val:=List.ext_getElem? λ i=>by
   cases hi:ks[i]? with
   | none=>rw [List.getElem?_eq_none_iff] at hi; rw [List.getElem?_eq_none (by omega),List.getElem?_eq_none (by rw [List.length_map]; omega)]
   | some k'=>rw [Xm i k' hi (λ e=>Bd (e▸List.mem_of_getElem? hi)),List.getElem?_map]
  have hx:xs=[]:=by
   obtain ⟨F,h,_⟩:=hs.p2.head
   rw [h3 ni] at h
   rcases h with ⟨_,h,_⟩ | ⟨b',cap,rest,h,_⟩
   ·exact h
   ·cases h
  subst hx
  refine St.eU ks (St.eU ss (St.eU tu (St.qx ?_ (St.join ?_))))
  ·funext k'
   unfold tq
   by_cases e:k'=k
   ·subst e; rw [if_pos rfl,ph Bd]; rfl
   ·rw [if_neg e,hf k' e]
  ·rw [← hval]; exact hs.p2.drop
 | some j=>
  have hj:=j1 ni
  have hjk:=(List.getElem?_eq_some_iff.1 hj).1
  have Q5:ss[j]? = some (ss[j]'(by omega)):=List.getElem?_eq_getElem _
  have hxj:tu[j]? = some (tu[j]'(by omega)):=List.getElem?_eq_getElem _
  have hvj:vs[j]? = some (Flat.val s):=by unfold look at h2; rw [ni] at h2; exact h2
  have h6:=((hs.p1.focus Q5 hxj).drop).p2
  have h7:St w0 A (CL s xs::qz CL ss tu j::_::L) w:=h6.p0
  have h8:=h7.Ed (by omega) C0
  refine St.eU ks (St.eU (ss.set j s) (St.eU (tu.set j xs) (St.qx ?_ (St.join ?_))))
  ·funext k'
   unfold tq
   by_cases e:k'=k
   ·subst e
    rw [if_pos rfl,pD hn hj (x:=xs) (by rw [List.getElem?_set_self (by omega)])]; rfl
   ·rw [if_neg e,hf k' e]
    unfold look
    cases hq:ke ks k' with
    | none=>rfl
    | some i=>
     have:j≠i:=λ e'=>e (by have:=j1 hq; rw [← e',hj] at this; exact (Option.some.inj this).symm)
     simp [this]
  ·have e:(ss.set j s).map Flat.val=vs:=by
    apply List.ext_getElem?
    intro i
    rw [List.getElem?_map]
    by_cases e:j=i
    ·subst e; rw [List.getElem?_set_self (by omega),hvj]; rfl
    ·rw [List.getElem?_set_ne e]
     cases hi:ks[i]? with
     | none=>rw [List.getElem?_eq_none_iff] at hi; rw [List.getElem?_eq_none (show vs.length≤i by omega),List.getElem?_eq_none (show ss.length≤i by omega)]; rfl
     | some k'=>rw [Xm i k' hi (λ e'=>e (by rw [e'] at hi; have h1:=rI hn hi; rw [ni] at h1; exact Option.some.inj h1))]
   rw [e]; exact h8.p1
omit [Flat α] in
theorem SQ {f:Int→List α} {k:Int}:tq f k (f k)=f:=by
 funext j; unfold tq; split
 ·rename_i h; rw [h]
 ·rfl
theorem Ct {T Kt E:TypeId} {k:Int} {s s':SV} {xs:List α} {K:World→Prop} (hs:St w0 A (bK (Flat.val s') xs::L3 b f k s::L) w) (ht:P.underlying T=some (.map Kt E)) (hk:P.underlying Kt=some (.int .i64))
  (kk:∀ w',St w0 A (oP b (tq f k xs)::L) w'→K w'):Bg P (Instr.mapUpdate T (.map (some b)) (.int .i64 k) (Flat.val s')) w K:=by
 replace hs:=hs.p1
 obtain ⟨ks,hs⟩:=hs.eZ; obtain ⟨ss,hs⟩:=hs.eZ; obtain ⟨tu,hs⟩:=hs.eZ; obtain ⟨vs,hs⟩:=hs.eZ; obtain ⟨⟨hf,h2,h3,hvs,Xm⟩,hs⟩:=hs.oL
 replace hs:=hs.split
 have hm:=hs.AE
 have hl:=hm.len
 have hn:=hm.nodup
 have C0:=hs.p1.lu
 obtain ⟨w',r1,r2,r3⟩:=Q4 (P:=P) (v:=Flat.val s') (k:=k) hm ht hk
 refine ⟨w',r1,kk w' ?_⟩
 cases ni:ke ks k with
 | none=>
  rw [ni] at r3
  have h5:St w0 A (Gj b (ks++[k]) (vs++[Flat.val s'])::_::_::L) w':=hs.rV λ F hF=>⟨F,⟨r3,hF.2⟩,λ b hb=>.inl hb,r2.mono λ k hk=>(hF.2 k).2 hk⟩
  have Bd:=mr.1 ni
  have hval:vs=ss.map Flat.val:=List.ext_getElem? λ i=>by
   cases hi:ks[i]? with
   | none=>rw [List.getElem?_eq_none_iff] at hi; rw [List.getElem?_eq_none (by omega),List.getElem?_eq_none (by rw [List.length_map]; omega)]
   | some k'=>rw [Xm i k' hi (λ e=>Bd (e▸List.mem_of_getElem? hi)),List.getElem?_map]
  have h6:=h5.p1
  have h7:St w0 A (iH CL (ss++[s']) (tu++[xs])::_::L) w':=St.Ec (H:=CL (α:=α)) (p:=s') (x:=xs) h6.p2.p1
  refine St.eU (ks++[k]) (St.eU (ss++[s']) (St.eU (tu++[xs]) (St.qx ?_ (St.join ?_))))
  ·funext k'
   unfold tq
   by_cases e:k'=k
   ·subst e
    rw [if_pos rfl,pD (i:=ks.length) r3.nodup (by simp) (x:=xs) (by rw [List.getElem?_append_right (by omega)]; simp [show ks.length - tu.length=0 from by omega])]; rfl
   ·rw [if_neg e,hf k' e]
    by_cases vx:k'∈ks
    ·obtain ⟨i,hi,hik⟩:=List.getElem_of_mem vx
     have Y4:ks[i]? = some k':=by rw [List.getElem?_eq_getElem hi,hik]
     have hxi:tu[i]? = some (tu[i]'(by omega)):=List.getElem?_eq_getElem _
     rw [pD hn Y4 hxi,pD (i:=i) r3.nodup (by rw [List.getElem?_append_left hi]; exact Y4) (by rw [List.getElem?_append_left (by omega)]; exact hxi)]
    ·rw [ph vx,ph (by simp [vx,e])]
  ·have e:(ss++[s']).map Flat.val=vs++[Flat.val s']:=by rw [hval,List.map_append]; rfl
   rw [e]; exact h7.p1
 | some j=>
  rw [ni] at r3
  have h5:St w0 A (Gj b ks (vs.set j (Flat.val s'))::_::_::L) w':=hs.rV λ F hF=>⟨F,⟨r3,hF.2⟩,λ b hb=>.inl hb,r2.mono λ k hk=>(hF.2 k).2 hk⟩
  have hj:=j1 ni
  have hjk:=(List.getElem?_eq_some_iff.1 hj).1
  have Q5:ss[j]? = some (ss[j]'(by omega)):=List.getElem?_eq_getElem _
  have hxj:tu[j]? = some (tu[j]'(by omega)):=List.getElem?_eq_getElem _
  have h6:=((h5.p1.focus Q5 hxj).drop).p2
  have h7:St w0 A (CL s' xs::qz CL ss tu j::_::L) w':=h6.p0
  have h8:=h7.Ed (by omega) C0
  refine St.eU ks (St.eU (ss.set j s') (St.eU (tu.set j xs) (St.qx ?_ (St.join ?_))))
  ·funext k'
   unfold tq
   by_cases e:k'=k
   ·subst e
    rw [if_pos rfl,pD hn hj (x:=xs) (by rw [List.getElem?_set_self (by omega)])]; rfl
   ·rw [if_neg e,hf k' e]
    unfold look
    cases hq:ke ks k' with
    | none=>rfl
    | some i=>
     have:j≠i:=λ e'=>e (by have:=j1 hq; rw [← e',hj] at this; exact (Option.some.inj this).symm)
     simp [this]
  ·have e:(ss.set j s').map Flat.val=vs.set j (Flat.val s'):=by
    apply List.ext_getElem?
    intro i
    rw [List.getElem?_map]
    by_cases e:j=i
    ·subst e; rw [List.getElem?_set_self (by omega),List.getElem?_set_self (by omega)]; rfl
    ·rw [List.getElem?_set_ne e,List.getElem?_set_ne e]
     cases hi:ks[i]? with
     | none=>rw [List.getElem?_eq_none_iff] at hi; rw [List.getElem?_eq_none (show vs.length≤i by omega),List.getElem?_eq_none (show ss.length≤i by omega)]; rfl
     | some k'=>rw [Xm i k' hi (λ e'=>e (by rw [e'] at hi; have h1:=rI hn hi; rw [ni] at h1; exact Option.some.inj h1))]
   rw [e]; exact h8.p1
theorem oB {T:TypeId} {K:Value→World→Prop} (hs:St w0 A L w) (k:∀ b w',St w0 A (oP b (λ _=>([]:List α))::L) w'→K (.map (some b)) w'):ia P (Instr.makeMap T none) w K:=
 wP hs λ b w' h=>k b w' (St.eU [] (St.eU [] (St.eU ([]:List (List α)) (St.qx rfl (St.join ((h.new (Ext.refl w') (H:=iH CL [] []) (F:=bD) (λ _ h=>h) λ _ h=>h.elim).p1))))))
theorem L4 {T Kt E R:TypeId} {k:Int} {A2:Array TypeId} {K:Value→World→Prop} (hs:St w0 A (oP b f::L) w) (ha:A2[0]? = some T) (ht:P.underlying T=some (.map Kt E)) (hk:P.underlying Kt=some (.int .i64))
  (kk:∀ v w',St w0 A (oP b (tq f k [])::L) w'→K v w'):ia P (Builtin.delete_ A2 R [.map (some b),.int .i64 k].toArray) w K:=by
 obtain ⟨ks,hs⟩:=hs.eZ; obtain ⟨ss,hs⟩:=hs.eZ; obtain ⟨tu,hs⟩:=hs.eZ; obtain ⟨hf,hs⟩:=hs.oL
 replace hs:=hs.split
 have hm:=hs.AE
 have hl:=hm.len
 have C0:=hs.p1.lu
 have hn:=hm.nodup
 rw [List.length_map] at hl
 obtain ⟨w',r1,r2,r3⟩:=adS (P:=P) (R:=R) (k:=k) hm ha ht hk
 refine ⟨_,w',r1,kk _ w' ?_⟩
 cases ni:ke ks k with
 | none=>
  rw [ni] at r3
  have h5:St w0 A (Gj b ks (ss.map Flat.val)::_::L) w':=hs.rV λ F hF=>⟨F,⟨r3,hF.2⟩,λ b hb=>.inl hb,r2.mono λ k hk=>(hF.2 k).2 hk⟩
  refine St.eU ks (St.eU ss (St.eU tu (St.qx ?_ (St.join h5))))
  funext k'
  unfold tq
  by_cases e:k'=k
  ·subst e; rw [if_pos rfl]; unfold look; rw [ni]; rfl
  ·rw [if_neg e,hf]
 | some j=>
  rw [ni] at r3
  have hj:=j1 ni
  have hjk:=(List.getElem?_eq_some_iff.1 hj).1
  have h5:St w0 A (Gj b (ks.eraseIdx j) ((ss.map Flat.val).eraseIdx j)::_::L) w':=hs.rV λ F hF=>⟨F,⟨r3,hF.2⟩,λ b hb=>.inl hb,r2.mono λ k hk=>(hF.2 k).2 hk⟩
  have Q5:ss[j]? = some (ss[j]'(by omega)):=List.getElem?_eq_getElem _
  have hxj:tu[j]? = some (tu[j]'(by omega)):=List.getElem?_eq_getElem _
  have h6:=(h5.p1.focus Q5 hxj).drop.Sm
  dsimp only at r3
  rw [← ChangeMaps.map_eraseIdx] at h6 r3
  refine St.eU (ks.eraseIdx j) (St.eU (ss.eraseIdx j) (St.eU (tu.eraseIdx j) (St.qx ?_ (St.join h6.p1))))
  funext k'
  unfold tq
  by_cases e:k'=k
  ·subst e
   rw [if_pos rfl,ph]; rfl
   intro J8
   obtain ⟨i,hi,hik⟩:=List.getElem_of_mem J8
   rw [List.getElem_eraseIdx] at hik
   split at hik
   ·have:=rI (j:=i) hn (k:=k') (by rw [← hik]; exact List.getElem?_eq_getElem _); rw [ni] at this; have:=Option.some.inj this; omega
   ·have:=rI (j:=i+1) hn (k:=k') (by rw [← hik]; exact List.getElem?_eq_getElem _); rw [ni] at this; have:=Option.some.inj this; omega
  ·rw [if_neg e,hf]; dsimp only
   by_cases vx:k'∈ks
   ·obtain ⟨i,hi,hik⟩:=List.getElem_of_mem vx
    have Y4:ks[i]? = some k':=by rw [List.getElem?_eq_getElem hi,hik]
    have hxi:tu[i]? = some (tu[i]'(by omega)):=List.getElem?_eq_getElem _
    have hij:i≠j:=λ e'=>e (by rw [e',hj] at Y4; exact (Option.some.inj Y4).symm)
    rw [pD hn Y4 hxi]
    by_cases mG:i<j
    ·rw [pD (i:=i) r3.nodup (by rw [List.getElem?_eraseIdx_of_lt mG]; exact Y4) (by rw [List.getElem?_eraseIdx_of_lt mG]; exact hxi)]
    ·rw [pD (i:=i - 1) r3.nodup (by rw [List.getElem?_eraseIdx_of_ge (by omega),show i - 1+1=i from by omega]; exact Y4) (by rw [List.getElem?_eraseIdx_of_ge (by omega),show i - 1+1=i from by omega]; exact hxi)]
   ·rw [ph vx,ph (λ h=>vx ((List.eraseIdx_sublist ks j).subset h))]
end
section
variable {α:Type} [Flat α] {P:Program} {w w0 w':World} {A S:Nat→Prop} {L:List HP} {xs ys:List α}
theorem Fi {T T2 E oG b o dn dc:Nat} {z:Option Nat} {R:TypeId} {src:Value} {cs:List Value} (ht:fi P T=some (E,Flat.sz α,oG,z)) (hb:tL w b cs) (xS:eP S w src ys)
  (hn:ys.length≤dn) (Ns:o+ys.length * Flat.sz α≤cs.length) :
  ∃ w',(Builtin.copy_ #[T,T2] R [.slice (some ⟨b,o,none⟩) dn dc,src].toArray).run P w = .ok (.int .i64 ys.length) w'∧tL w' b (ib cs o (flat ys))∧iF (· = b) w w':=by
 obtain ⟨hu,inf,hi,lF,Br,_⟩:=gy ht
 have hf:=xj (α:=α) (P:=P) (sz:=Flat.sz α) rfl xS
 have rd:=xS
 obtain ⟨sa,UO,rfl,hsc,hs3⟩:=rd
 obtain ⟨w',h1,h2,h3⟩:=mC (P:=P) (o:=o) (flat ys) 0 cs w hb (by rw [cW]; omega) zK
 refine ⟨w',?_,by simpa using h2,h3⟩
 simp [Builtin.copy_,run_underlying hu,sizeOf,typeInfo,hi,Builtin.lenOf,Nat.min_eq_left hn,hf,lF,h1,goInt]
theorem L5 {T T2 E oG:Nat} {z:Option Nat} {R:TypeId} {v src:Value} {K:Value→World→Prop} (hs:St w0 A (bK v xs::L) w) (ht:fi P T=some (E,Flat.sz α,oG,z)) (xS:eP S w src ys) (hn:ys.length≤xs.length)
  (k:∀ w',St w0 A (bK v (ys++xs.drop ys.length)::L) w'→K (.int .i64 ys.length) w'):ia P (Builtin.copy_ #[T,T2] R [v,src].toArray) w K:=by
 obtain ⟨U,F,U',g1,g2,g3,g4,g5⟩:=hs.sU
 rcases g1 with ⟨rfl,rfl,hF⟩ | ⟨b,cap,rest,rfl,hb,hl,hF⟩
 ·obtain rfl:ys=[]:=by simpa using hn
  obtain ⟨hu,inf,hi,lF,Br,_⟩:=gy ht
  have hf:=xj (α:=α) (P:=P) (sz:=Flat.sz α) rfl xS
  obtain ⟨sa,UO,rfl,hsc,hs3⟩:=xS
  refine ⟨_,w,?_,k w hs⟩
  simp at hf
  simp [Builtin.copy_,run_underlying hu,sizeOf,typeInfo,hi,Builtin.lenOf,lF,hf,goInt]
 ·have hle:ys.length * Flat.sz α≤xs.length * Flat.sz α:=Nat.mul_le_mul_right _ hn
  obtain ⟨w',h1,h2,h3⟩:=Fi (P:=P) (o:=0) (dn:=xs.length) (dc:=cap) (T2:=T2) (R:=R) ht hb xS hn (by rw [List.length_append,cW]; omega)
  refine ⟨_,w',h1,k w' (hs.rV λ F' hF'=>?_)⟩
  rcases hF' with ⟨h,_⟩ | ⟨b',Kw,rest',hv,hb',hl',hF'⟩
  ·cases h
  ·simp only [Value.slice.injEq,Option.some.injEq,Addr.mk.injEq,and_true,true_and] at hv
   obtain ⟨rfl,rfl⟩:=hv
   refine ⟨F',.inr ⟨b,cap,rest,?_,?_,?_,hF'⟩,λ b hb=>.inl hb,h3.mono λ k hk=>(hF' k).2 hk⟩
   ·congr 1; rw [List.length_append,List.length_drop]; omega
   ·have e:flat xs=[]++flat (xs.take ys.length)++flat (xs.drop ys.length):=by rw [List.nil_append,← iz,List.take_append_drop]
    have:=kR [] (flat (xs.take ys.length)) (flat (xs.drop ys.length)++rest) (flat ys) (by rw [cW,cW,List.length_take,Nat.min_eq_left hn])
    rw [List.length_nil] at this
    rw [e,List.append_assoc,this] at h2
    rw [iz,List.append_assoc]; exact h2
   ·rw [List.length_append,cW,List.length_append,List.length_drop,show ys.length+(xs.length - ys.length)=xs.length from by omega,← cW (xs:=xs),← List.length_append]; exact hl
end
end Go.Fw
namespace Go.Proofs.YtnjcingfdhjfkaaGreat
open Go.Fw
structure Mem where
 of:List Int
 dH:List Int
 l:List Int
 kept:List Int
 gG:Int→List jr
def j3 (of:List Int):Int:=if of.length=0 then 0 else of.getD (of.length - 1) 0+1
def yg (k:List Int) (ws:List jr):List Int:=ws.foldl (λ k w=>k.set w.cell.toNat w.n) k
theorem AF (ws:List jr):∀ k:List Int,(yg k ws).length=k.length:=by
 induction ws with
 | nil=>intro k; rfl
 | cons x ws ih=>intro k; show (yg (k.set x.cell.toNat x.n) ws).length=_; rw [ih,List.length_set]
theorem SR (ws:List jr) (x:jr) (k:List Int):yg k (ws++[x])=(yg k ws).set x.cell.toNat x.n:=by
 unfold yg; rw [List.foldl_append]; rfl
theorem Hl {ws:List jr} {j:Nat} {x:jr} {k:List Int} (hx:ws[j]? = some x):yg k (ws.take (j+1))=(yg k (ws.take j)).set x.cell.toNat x.n:=by
 rw [List.take_add_one,hx]; exact SR _ _ _
def OB (m:Mem) (cell:Int):Bool:=decide (0≤cell∧cell<m.l.length)
def iO (m:Mem) (cell n:Int):Mem:=if OB m cell=true then {m with l:=m.l.set cell.toNat n,gG:=if cell<m.of.length then tq m.gG (m.of.getD cell.toNat 0) (m.gG (m.of.getD cell.toNat 0)++[⟨cell,n⟩]) else m.gG} else m
def SS (m:Mem) (line:Int):Bool:=decide (0≤line∧line<j3 m.of)
def vM (m:Mem) (line:Int):Mem:=if SS m line=true then {m with kept:=yg m.kept (m.gG line),gG:=tq m.gG line []} else m
structure vN (m:Mem):Prop where
 SU:m.of.length≤m.dH.length
 fl:m.dH.length≤20
 ll:m.l.length=m.dH.length
 kl:m.kept.length=m.of.length
 ofr:∀ n∈m.of,0≤n∧n<j3 m.of
 lb:j3 m.of≤20
 pc:∀ k,∀ x∈m.gG k,0≤x.cell∧x.cell<m.of.length
def MB (m:Mem) (n:Nat):Prop:=∀ k,(m.gG k).length≤n
def fZ (p:Nat) (ov fv:Value) (m:Mem):HP:=ua λ lv=>ua λ kv=>ua λ pm=>sep (cH p [ov,fv,lv,kv,.map (some pm)]) (sep (bK lv m.l) (sep (bK kv m.kept) (oP pm m.gG)))
def uy (ov fv:Value) (m:Mem) (w:World):Prop:=eP (λ _=>True) w ov m.of∧eP (λ _=>True) w fv m.dH
def vm (w:World) (p:Nat) (m:Mem):Prop:=∃ ov fv lv kv pm,Cell w p 0 ov∧Cell w p 1 fv∧Cell w p 2 lv∧Cell w p 3 kv∧Cell w p 4 (.map (some pm))∧eP (λ _=>True) w ov m.of∧eP (λ _=>True) w fv m.dH∧eP (λ _=>True) w lv m.l∧eP (λ _=>True) w kv m.kept∧sK w pm m.gG
section
variable {w w' w0:World} {A F:Nat→Prop} {R:List HP} {p:Nat} {ov fv lv kv:Value} {m:Mem} {pm:Nat}
theorem vm.ext (h:vm w p m) (e:Ext w w'):vm w' p m:=by
 obtain ⟨ov,fv,lv,kv,pm,c0,c1,c2,c3,c4,h0,h1,h2,h3,h4⟩:=h
 exact ⟨ov,fv,lv,kv,pm,c0.ext e,c1.ext e,c2.ext e,c3.ext e,c4.ext e,h0.ext e,h1.ext e,h2.ext e,h3.ext e,h4.ext e⟩
theorem vm.mk' (h:tL w p [ov,fv,lv,kv,.map (some pm)]) (hK:uy ov fv m w) (h2:eP (λ _=>True) w lv m.l) (h3:eP (λ _=>True) w kv m.kept) (h4:sK w pm m.gG):vm w p m:=
 ⟨ov,fv,lv,kv,pm,h.cell rfl,h.cell rfl,h.cell rfl,h.cell rfl,h.cell rfl,hK.1,hK.2,h2,h3,h4⟩
theorem fZ.open (hs:St w0 A (fZ p ov fv m::R) w):∃ lv kv pm,St w0 A (cH p [ov,fv,lv,kv,.map (some pm)]::bK lv m.l::bK kv m.kept::oP pm m.gG::R) w:=by
 obtain ⟨lv,hs⟩:=hs.eZ; obtain ⟨kv,hs⟩:=hs.eZ; obtain ⟨pm,hs⟩:=hs.eZ
 have h1:=hs.split
 have h2:=h1.p1.split
 have h3:=(h2.p1.split)
 exact ⟨lv,kv,pm,h3.p2.p3⟩
theorem fZ.shut (hs:St w0 A (cH p [ov,fv,lv,kv,.map (some pm)]::bK lv m.l::bK kv m.kept::oP pm m.gG::R) w):St w0 A (fZ p ov fv m::R) w:=by
 have h1:St w0 A (sep (bK kv m.kept) (oP pm m.gG)::cH p [ov,fv,lv,kv,.map (some pm)]::bK lv m.l::R) w:=St.join (hs.p3.p3)
 have h2:St w0 A (sep (bK lv m.l) (sep (bK kv m.kept) (oP pm m.gG))::cH p [ov,fv,lv,kv,.map (some pm)]::R) w:=St.join h1.p2
 exact St.eU lv (St.eU kv (St.eU pm (St.join h2.p1)))
theorem Je (hs:St w0 A (fZ p ov fv m::R) w) (hK:uy ov fv m w):vm w p m:=by
 obtain ⟨lv,kv,pm,hs⟩:=fZ.open hs
 exact vm.mk' hs.hb hK hs.p1.fF hs.p2.fF hs.p3.Xk
end
theorem C144 (p:Nat) (m:Mem) (w:World) (hm:vm w p m) (hk:vN m):CR 144 [(.pointer (some ⟨p,0,none⟩))] w (λ v w'=>v = .int .i64 (j3 m.of)∧Ext w w'):=by
 have Fj:=hm;obtain ⟨ov,fv,lv,kv,pm,c0,c1,c2,c3,c4,hO,SW,hL,hKp,hP⟩:=hm;have h20:=hk.fl;have T4:=hk.SU;have NQ:=hk.ll;have Lh:=hk.kl;have QG:=hk.lb;have hs:=St.start w;refine aaf _ _ _ ?_;unfold S144;refine aE (aA tW (cE eB (c0.ext hs.aF) (aJ eh (hO.ext hs.aF) (aH (aC (λ gu=>?_) (λ gu=>?_))))))
 ·exact ⟨congrArg (Value.int .i64) (by unfold j3; rw [if_pos (by omega)]),hs.aF⟩
 ·refine aE (aA tW (have hs:=hs.drew;cE eB (c0.ext hs.aF) (aE (aA tW (cE eB (c0.ext hs.aF) (aJ eh (hO.ext hs.aF) (gD (by omega) ?_)))))));obtain ⟨jd,fM⟩:=gx (m.of) (i:=((((m.of).length:Int) - 1)).toNat) (by omega);refine aQ eh hO (by omega) fM (λ _ jQ=>aD bL (jQ.ext hs.aF) ?_);have hx20:=hk.ofr _ (List.mem_of_getElem? fM);refine aO (by omega) ?_;exact ⟨congrArg (Value.int .i64) (by unfold j3; rw [if_neg (by omega),List.getD_eq_getElem?_getD,show m.of.length - 1=((m.of.length:Int) - 1).toNat from by omega,fM]; rfl),hs.aF⟩
theorem C195 (p:Nat) (m:Mem) (cell:Int) (w:World) (hm:vm w p m) (hk:vN m):CR 195 [(.pointer (some ⟨p,0,none⟩)),.int .i64 cell] w (λ v w'=>v = .tuple #[.int .i64 (if OB m cell=true then m.l.getD cell.toNat 0 else 0),.int .i64 (if OB m cell=true then 0 else 1)]∧Ext w w'):=by
 have Fj:=hm;obtain ⟨ov,fv,lv,kv,pm,c0,c1,c2,c3,c4,hO,SW,hL,hKp,hP⟩:=hm;have hs:=St.start w;refine aaW _ _ _ _ ?_;unfold S195;refine ⟨λ jv w'=>jv = .bool (decide (cell<0∨m.l.length≤cell))∧w=w',?_,?_⟩
 ·refine aR (aC (λ iX=>?_) (λ iX=>?_))
  ·exact ⟨H9 (by omega),rfl⟩
  ·refine aE (aA q8 (cE eB (c2.ext hs.aF) (aJ eh (hL.ext hs.aF) (dK ?_))));exact ⟨vQ (by omega),rfl⟩
 ·rintro _ w1 ⟨rfl,hw⟩ fD;subst hw;refine aC (λ eE=>?_) (λ eE=>?_)
  ·have vx:OB m cell=false:=by unfold OB; rw [decide_eq_false_iff_not]; omega
   rw [vx];exact ⟨rfl,hs.aF⟩
  ·refine aE (aA q8 (cE eB (c2.ext hs.aF) ?_));obtain ⟨e_x22,Xn⟩:=gx (m.l) (i:=(cell).toNat) (by omega);refine aQ eh hL (by omega) Xn (λ _ Ls=>aD bL (Ls.ext hs.aF) ?_);have vx:OB m cell=true:=by unfold OB; rw [decide_eq_true_eq]; omega
   rw [vx,List.getD_eq_getElem?_getD,Xn];exact ⟨rfl,hs.aF⟩
theorem C72 (p:Nat) (m:Mem) (w:World) (hm:vm w p m) (hk:vN m):CR 72 [(.pointer (some ⟨p,0,none⟩))] w (λ v w'=>lY (bK v m.l) w w'):=by
 have Fj:=hm;obtain ⟨ov,fv,lv,kv,pm,c0,c1,c2,c3,c4,hO,SW,hL,hKp,hP⟩:=hm;have h20:=hk.fl;have T4:=hk.SU;have NQ:=hk.ll;have Lh:=hk.kl;have QG:=hk.lb;have hs:=St.start w;refine ain _ _ _ ?_;unfold S72;refine aE (aA q8 (cE eB (c2.ext hs.aF) (dF zH hs (C70 _ _ _ (hL.ext hs.aF) (by omega)) (λ x7 w1 cA hs=>?_))));exact hs.fresh
theorem C73 (p:Nat) (m:Mem) (w:World) (hm:vm w p m) (hk:vN m):CR 73 [(.pointer (some ⟨p,0,none⟩))] w (λ v w'=>lY (bK v m.kept) w w'):=by
 have Fj:=hm;obtain ⟨ov,fv,lv,kv,pm,c0,c1,c2,c3,c4,hO,SW,hL,hKp,hP⟩:=hm;have h20:=hk.fl;have T4:=hk.SU;have NQ:=hk.ll;have Lh:=hk.kl;have QG:=hk.lb;have hs:=St.start w;refine aio _ _ _ ?_;unfold S73;refine aE (aA zW (cE eB (c3.ext hs.aF) (dF zH hs (C70 _ _ _ (hKp.ext hs.aF) (by omega)) (λ x7 w1 cA hs=>?_))));exact hs.fresh
theorem C137 (sv:Value) (xs:List jr) (w:World) (hL:eP (λ _=>True) w sv xs) (hn:xs.length≤1000000):CR 137 [sv] w (λ v w'=>lY (bK v xs) w w'):=by
 have hs:=St.start w;refine aae _ _ _ ?_;unfold S137;refine xr Tryz.underlying213 (hL.ext hs.aF) (λ p hp=>aX (λ pU=>?_) (λ pU=>?_))
 ·have hx:=hp pU;subst hx;exact (hs.fX (α:=jr)).fresh
 ·refine bV (([]:List jr)) hs v9 rfl rfl (eK rfl) (λ IQ w1 hs=>?_);have Am:=(hL.ext hs.aF);refine cS hs v9 Am (by simp; omega) (by decide) (λ Lz w2 hs=>?_);exact hs.fresh
theorem C128 (p:Nat) (ov fv:Value) (m:Mem) (F:Nat→Prop) (cell n:Int) (w:World) (hF:(fZ p ov fv m).p w F) (hK:∀ w',iF F w w'→uy ov fv m w') (hk:vN m) (hb:MB m 1000000):CR 128 [(.pointer (some ⟨p,0,none⟩)),.int .i64 cell,.int .i64 n] w (λ v w'=>v = .int .i64 (if OB m cell=true then 0 else 1)∧qy F (fZ p ov fv (iO m cell n)) w w'):=by
 have hs:=St.begin hF;obtain ⟨lv,kv,pm,hs⟩:=fZ.open hs;have h20:=hk.fl;have T4:=hk.SU;have NQ:=hk.ll;have Lh:=hk.kl;have QG:=hk.lb;refine Z5 _ _ _ _ _ ?_;unfold S128;refine ⟨λ jv w'=>jv = .bool (decide (cell<0∨m.l.length≤cell))∧w=w',?_,?_⟩
 ·refine aR (aC (λ gA=>?_) (λ gA=>?_))
  ·exact ⟨H9 (by omega),rfl⟩
  ·refine aE (aA q8 (aB eB hs.hb rfl (aJ eh (hs.p1).fF (dK ?_))));exact ⟨vQ (by omega),rfl⟩
 ·rintro _ w1 ⟨rfl,hw⟩ fD;subst hw;refine aC (λ gj=>?_) (λ gj=>?_)
  ·have hs:=hs.p3.p3.p3.p3;have vx:OB m cell=false:=by unfold OB; rw [decide_eq_false_iff_not]; omega
   unfold iO;rw [vx];exact ⟨rfl,(fZ.shut hs).mut⟩
  ·have vx:OB m cell=true:=by unfold OB; rw [decide_eq_true_eq]; omega
   refine aE (aA q8 (aB eB hs.hb rfl ?_));obtain ⟨He,qj⟩:=gx (m.l) (i:=(cell).toNat) (by omega);refine dS hs.p1 eh (by omega) (by omega) (λ _ uq=>km _ hs.p1 bL uq (by omega) (λ w2 hs=>?_));refine ⟨λ w'=>St w F [fZ p ov fv (iO m cell n)] w',?_,?_⟩
   ·refine aE (aA tW (aB eB hs.p1.hb rfl (aJ eh (hK _ hs.aF).1 (aR (aC (λ jP=>?_) (λ jP=>?_))))))
    ·refine aE (aA tW (aB eB hs.p1.hb rfl ?_));obtain ⟨Lx,BD⟩:=gx (m.of) (i:=(cell).toNat) (by omega);refine aQ eh (hK _ hs.aF).1 (by omega) BD (λ _ EH=>aD bL (EH) (aE (aA m8 (have hs:=hs.drew;aB sm hs.p1.hb rfl (aE (aA m8 (aB sm hs.p1.hb rfl ?_)))))));have hbx:=hb Lx;obtain ⟨Wa,hs⟩:=(hs.p3).Fh (k:=Lx);refine ⟨_,(hs.p1).BU Tryz.underlying201 oT xp,?_⟩;refine pop (NF _ _) (bV ([(⟨cell,n⟩:jr)]) hs v9 rfl rfl (eK rfl) (λ s_x54 w3 hs=>?_));refine ⟨aG sm (hs.p4.hb.cell rfl),?_⟩;refine ⟨aG sm (hs.p4.hb.cell rfl),?_⟩
     refine ⟨(hs.p2).BU Tryz.underlying201 oT xp,?_⟩;have akE:=(hs).fF;refine cS hs.p1 v9 akE (by simp; omega) (by decide) (λ ars w4 hs=>?_);have hs:=hs.p1.drop;refine ⟨aG sm (hs.p3.hb.cell rfl),?_⟩;obtain ⟨Fk,rfl⟩:=(hs).fU;have hs:=hs.p1.p1;refine Ct hs Tryz.underlying201 oT (λ w5 hs=>?_);have hs:=hs.p3.p2.p3;have hwm:iO m cell n={m with l:=m.l.set cell.toNat n,gG:=tq m.gG Lx (m.gG Lx++[⟨cell,n⟩])}:=by unfold iO; rw [if_pos vx,if_pos (by omega),List.getD_eq_getElem?_getD,BD]; rfl
     rw [hwm];exact fZ.shut (m:={m with l:=_,gG:=_}) hs
    ·have hs:=hs.p3.p3.p2.p3;have hwm:iO m cell n={m with l:=m.l.set cell.toNat n}:=by unfold iO; rw [if_pos vx,if_neg (by omega)]
     rw [hwm];exact fZ.shut (m:={m with l:=_,gG:=_}) hs
   ·intro w6 hs jH;exact ⟨by rw [vx]; rfl,hs.mut⟩
def Q6 (m:Mem) (cut:List Int):Bool:=decide ((cut.length:Int)=j3 m.of) && (List.range cut.length).all λ i=>decide (0≤cut.getD i 0∧cut.getD i 0≤(m.gG i).length)
def yh (m:Mem) (cut:List Int) (k:Nat):List Int:=(List.range k).foldl (λ o (i:Nat)=>yg o ((m.gG i).take (cut.getD i 0).toNat)) m.kept
def jx (m:Mem) (cut:List Int):Option (List Int):=if Q6 m cut=true then some (yh m cut cut.length) else none
theorem Hm (m:Mem) (cut:List Int) (k:Nat):yh m cut (k+1)=yg (yh m cut k) ((m.gG k).take (cut.getD k 0).toNat):=by
 unfold yh; rw [List.range_succ,List.foldl_append]; rfl
theorem uA (m:Mem) (cut:List Int):∀ k,(yh m cut k).length=m.kept.length
 | 0=>rfl
 | k+1=>by rw [Hm,AF,uA]
theorem Xo {m:Mem} {cut:List Int} {k:Nat} {c:Int} (hc:cut[k]? = some c) (h:¬ (0≤c∧c≤(m.gG k).length)):jx m cut=none:=by
 unfold jx; rw [if_neg]
 intro hh
 unfold Q6 at hh
 rw [Bool.and_eq_true,List.all_eq_true] at hh
 have:=hh.2 k (List.mem_range.2 (List.getElem?_eq_some_iff.1 hc).1)
 rw [decide_eq_true_eq,List.getD_eq_getElem?_getD,hc] at this
 exact h this
theorem Xp {m:Mem} {cut:List Int} (h:(cut.length:Int)≠j3 m.of):jx m cut=none:=by
 unfold jx Q6; rw [decide_eq_false h]; rfl
theorem BV {m:Mem} {cut:List Int} (h:(cut.length:Int)=j3 m.of) (hc:∀ (k:Nat) (c:Int),k<cut.length→cut[k]? = some c→0≤c∧c≤(m.gG k).length):jx m cut=some (yh m cut cut.length):=by
 unfold jx; rw [if_pos]
 unfold Q6
 rw [Bool.and_eq_true,List.all_eq_true]
 refine ⟨decide_eq_true h,λ k hk=>?_⟩
 have hk:=List.mem_range.1 hk
 rw [decide_eq_true_eq,List.getD_eq_getElem?_getD,List.getElem?_eq_getElem hk]
 exact hc k _ hk (List.getElem?_eq_getElem hk)
def Q7:List Nat→List Int→Option (List Int)
 | p::ps,c::cs=>match Q7 ps cs with
  | some cs'=>some (c::cs')
  | none=>if c<p then some ((c+1)::List.replicate cs.length 0) else none
 | _,_=>none
theorem Xq:∀ {ps:List Nat} {cs:List Int} {i:Nat} {p:Nat} {c:Int},ps[i]? = some p→cs[i]? = some c→Q7 (ps.drop (i+1)) (cs.drop (i+1))=none→c<p→
  Q7 ps cs=some (cs.take i++(c+1)::List.replicate (cs.length - (i+1)) 0)
 | p'::ps,c'::cs,0,p,c,hp,hc,hn,h=>by
  rw [List.getElem?_cons_zero] at hp hc
  obtain rfl:=Option.some.inj hp
  obtain rfl:=Option.some.inj hc
  have hn':Q7 ps cs=none:=hn
  simp [Q7,hn',h]
 | p'::ps,c'::cs,i+1,p,c,hp,hc,hn,h=>by
  rw [List.getElem?_cons_succ] at hp hc
  have:=Xq hp hc hn h
  simp [Q7,this]
 | [],_,_,_,_,hp,_,_,_=>by simp at hp
 | _::_,[],_,_,_,_,hc,_,_=>by simp at hc
theorem Xr:∀ {ps:List Nat} {cs:List Int} {i:Nat} {p:Nat} {c:Int},ps[i]? = some p→cs[i]? = some c→Q7 (ps.drop (i+1)) (cs.drop (i+1))=none→¬ c<p→Q7 (ps.drop i) (cs.drop i)=none
 | p'::ps,c'::cs,0,p,c,hp,hc,hn,h=>by
  rw [List.getElem?_cons_zero] at hp hc
  obtain rfl:=Option.some.inj hp
  obtain rfl:=Option.some.inj hc
  have hn':Q7 ps cs=none:=hn
  simp [Q7,hn',h]
 | p'::ps,c'::cs,i+1,p,c,hp,hc,hn,h=>by
  rw [List.getElem?_cons_succ] at hp hc
  have:=Xr hp hc hn h
  simpa using this
 | [],_,_,_,_,hp,_,_,_=>by simp at hp
 | _::_,[],_,_,_,_,hc,_,_=>by simp at hc
def Cu (m:Mem) (n:Nat):List Nat:=(List.range n).map fun (i:Nat)=>(m.gG i).length
theorem AG {m:Mem} {n i:Nat} (h:i<n):(Cu m n)[i]? = some (m.gG i).length:=by
 unfold Cu; rw [List.getElem?_map,List.getElem?_range h]; rfl
def Xs (m:Mem) (cut:List Int):Option (List Int):=Q7 (Cu m cut.length) cut
def zf (m:Mem) (oH:List Int):Mem:={m with kept:=oH,l:=oH++m.dH.drop oH.length,gG:=λ _=>[]}
theorem AH {cs:List Int} {t:Nat} {x:Int} (h:t<cs.length):(cs.take (t+1)++List.replicate (cs.length - (t+1)) 0).set t x=cs.take t++x::List.replicate (cs.length - (t+1)) (0:Int):=by
 have e:cs.take (t+1)=cs.take t++[cs[t]]:=by rw [List.take_add_one,List.getElem?_eq_getElem h]; rfl
 rw [e,List.append_assoc,List.set_append_right _ _ (by rw [List.length_take]; omega),List.length_take,Nat.min_eq_left (Nat.le_of_lt h),Nat.sub_self]
 rfl
theorem Xt {cs:List Int} {t:Nat} (h:t<cs.length):cs.take t++0::List.replicate (cs.length - (t+1)) (0:Int)=cs.take t++List.replicate (cs.length - t) 0:=by
 rw [show cs.length - t=(cs.length - (t+1))+1 from by omega,List.replicate_succ]
theorem C129 (p:Nat) (ov fv:Value) (m:Mem) (F:Nat→Prop) (line:Int) (w:World) (hF:(fZ p ov fv m).p w F) (hK:∀ w',iF F w w'→uy ov fv m w') (hk:vN m) (hb:MB m 1000000):CR 129 [(.pointer (some ⟨p,0,none⟩)),.int .i64 line] w (λ v w'=>v = .int .i64 (if SS m line=true then 0 else 1)∧qy F (fZ p ov fv (vM m line)) w w'):=by
 have hs:=St.begin hF;obtain ⟨lv,kv,pm,hs⟩:=fZ.open hs;have h20:=hk.fl;have T4:=hk.SU;have NQ:=hk.ll;have Lh:=hk.kl;have QG:=hk.lb;refine Z6 _ _ _ _ ?_;unfold S129;refine ⟨λ jv w'=>jv = .bool (decide (line<0∨j3 m.of≤line))∧St w F [cH p [ov,fv,lv,kv,.map (some pm)],bK lv m.l,bK kv m.kept,oP pm m.gG] w',?_,?_⟩
 ·refine aR (aC (λ gu=>?_) (λ gu=>?_))
  ·exact ⟨vb (by first | exact (decide_eq_true (by omega)).symm | exact decide_eq_decide.2 (by omega)),hs⟩
  ·refine aZ UG hs (C144 _ m _ (vm.mk' hs.hb (hK _ hs.aF) hs.p1.fF hs.p2.fF hs.p3.Xk) hk) (λ w1 he hs=>dK ?_);exact ⟨vb (by first | exact (decide_eq_true (by omega)).symm | exact decide_eq_decide.2 (by omega)),hs⟩
 ·rintro _ w2 ⟨rfl,hs⟩ fD;refine aC (λ gX=>?_) (λ gX=>?_)
  ·have hs:=hs.p3.p3.p3.p3;have vx:SS m line=false:=by unfold SS; rw [decide_eq_false_iff_not]; omega
   unfold vM;rw [vx];exact ⟨rfl,(fZ.shut hs).mut⟩
  ·refine aE (aA m8 (aB sm hs.hb rfl ?_));obtain ⟨agS,hs⟩:=(hs.p3).Fh (k:=line);refine ⟨_,(hs.p1).BU Tryz.underlying201 oT xp,?_⟩;have yR:=hb line;refine aJ v9 (hs).fF ?_;have hs:=hs.p3.p3.p4.p4.p4;refine ⟨λ mm x w1=>∃ k:Nat,x = .int .i64 (k:Int)∧mm=(m.gG line).length - k∧k≤(m.gG line).length∧St w F [bK (Flat.val agS) (m.gG line),L3 pm m.gG line agS,bK kv (yg m.kept ((m.gG line).take k)),cH p [ov,fv,lv,kv,.map (some pm)],bK lv m.l] w1,⟨_,0,rfl,rfl,Nat.zero_le _,hs⟩,?_⟩;rintro mm _ w3 ⟨k,rfl,rfl,H0,hs⟩ jH;refine aR (aC (λ iV=>?_) (λ iV=>?_))
   ·obtain ⟨gY,iB⟩:=gx ((m.gG line)) (i:=((k:Int)).toNat) (by omega);refine dS hs v9 (by omega) (by omega) (λ _ wq=>?_);have hpc:=hk.pc line _ (List.mem_of_getElem? iB);refine fY hs Qr wq iB (aN hs Qs (λ b_w6 w4 hs=>aI (x:=gY) hs Qr rfl rfl (λ w5 hs=>aE (aA zW (have hs:=hs.drew;aB eB hs.p4.hb rfl (aA KI ?_))))));have hal:=AF ((m.gG line).take k) m.kept;refine aB (v:=.int .i64 ((gY).cell)) bL hs.hb rfl (aA KJ (aB (v:=.int .i64 ((gY).n)) bL hs.hb rfl ?_));obtain ⟨vD,tx⟩:=gx ((yg m.kept ((m.gG line).take k))) (i:=((gY).cell).toNat) (by omega)
    refine dS hs.p3 eh (by omega) (by omega) (λ _ rG=>km _ hs.p3 bL rG (by omega) (λ w6 hs=>aO (by omega) ?_));have hs:=(hs.p1.drop.p4.p4.p2.p4).p4;exact ⟨_,by omega,k+1,rfl,rfl,by omega,by rw [Hl (j:=k) iB]; exact hs⟩
   ·rw [List.take_of_length_le (by omega)] at hs;refine aE (aA m8 (aB sm hs.p3.hb rfl ?_));have hs:=hs.p1.p1.Xl;rw [SQ] at hs;refine L4 hs rfl Tryz.underlying201 oT (λ _ w7 hs=>?_);have hs:=hs.p1.p3.p3;have vx:SS m line=true:=by unfold SS; rw [decide_eq_true_eq]; omega
    have Jf:vM m line={m with kept:=yg m.kept (m.gG line),gG:=tq m.gG line []}:=by unfold vM; rw [if_pos vx]
    rw [Jf,vx];exact ⟨rfl,(fZ.shut (m:={m with kept:=_,gG:=_}) hs).mut⟩
theorem C125 (p:Nat) (m:Mem) (cut:List Int) (cv:Value) (w:World) (hm:vm w p m) (hk:vN m) (hb:MB m 1000000) (hC:eP (λ _=>True) w cv cut) (akF:cut.length≤1000):CR 125 [(.pointer (some ⟨p,0,none⟩)),cv] w (λ v w'=>(jx m cut=none∧v = .tuple #[.slice none 0 0,.int .i64 1]∧Ext w w')∨∃ oH o,jx m cut=some oH∧v = .tuple #[o,.int .i64 0]∧lY (bK o oH) w w'):=by
 have Fj:=hm;obtain ⟨ov,fv,lv,kv,pm,c0,c1,c2,c3,c4,hO,SW,hL,hKp,hP⟩:=hm;have h20:=hk.fl;have T4:=hk.SU;have NQ:=hk.ll;have Lh:=hk.kl;have QG:=hk.lb;have hs:=St.start w;refine Z2 _ _ _ _ ?_;unfold S125;refine aJ eh (hC.ext hs.aF) (aZ UG hs (C144 _ m _ (Fj.ext hs.aF) hk) (λ w1 he hs=>cR (aC (λ jt=>?_) (λ jt=>?_))))
 ·exact .inl ⟨Xp (by omega),rfl,hs.aF⟩
 ·refine dF UB hs (C73 _ m _ (Fj.ext hs.aF) hk) (λ x17 w2 cA hs=>aJ eh (hC.ext hs.aF) ?_);refine ⟨λ mm x w1=>∃ k:Nat,x = .int .i64 (k:Int)∧mm=cut.length - k∧k≤cut.length∧(∀ (i:Nat) (c:Int),i<k→cut[i]? = some c→0≤c∧c≤(m.gG i).length)∧St w bD [bK x17 (yh m cut k)] w1,⟨_,0,rfl,rfl,Nat.zero_le _,λ i c h=>absurd h (by omega),hs⟩,?_⟩;rintro mm _ w3 ⟨k,rfl,rfl,H0,oM,hs⟩ fD;refine aR (aC (λ gz=>?_) (λ gz=>?_))
  ·obtain ⟨rk,kD⟩:=gx (cut) (i:=((k:Int)).toNat) (by omega);refine aQ eh hC (by omega) kD (λ _ pW=>aD bL (pW.ext hs.aF) ?_);refine ⟨λ jv w'=>jv = .bool (decide (rk<0∨(m.gG k).length<rk))∧w3=w',?_,?_⟩
   ·refine aR (aC (λ sC=>?_) (λ sC=>?_))
    ·exact ⟨H9 (by omega),rfl⟩
    ·refine aE (aA m8 (cE sm (c4.ext hs.aF) (BT hP hs.aF Tryz.underlying201 oT xp (λ art rG=>aJ v9 (rG.ext hs.aF) (dB ?_)))));exact ⟨vQ (by omega),rfl⟩
   ·rintro _ w4 ⟨rfl,hw⟩ jH;subst hw;refine aC (λ ue=>?_) (λ ue=>?_)
    ·exact .inl ⟨Xo (k:=k) kD (by omega),rfl,hs.aF⟩
    ·refine aE (aA m8 (cE sm (c4.ext hs.aF) (BT hP hs.aF Tryz.underlying201 oT xp (λ apQ yB=>?_))));have N8:=hb k;have Nv:((m.gG k).take rk.toNat).length≤(m.gG k).length:=by rw [List.length_take]; omega
     refine mc v9 (yB.ext hs.aF) (by omega) (by omega) (λ WW Ou=>?_);have I9:=Ou _ yB;refine aJ v9 (I9.ext hs.aF) ?_;refine ⟨λ mm x w1=>∃ j:Nat,x = .int .i64 (j:Int)∧mm=((m.gG k).take rk.toNat).length - j∧j≤((m.gG k).take rk.toNat).length∧St w bD [bK x17 (yg (yh m cut k) (((m.gG k).take rk.toNat).take j))] w1,⟨_,0,rfl,rfl,Nat.zero_le _,hs⟩,?_⟩;rintro mm _ w5 ⟨j,rfl,rfl,hj,hs⟩ oY;refine aR (aC (λ Ag=>?_) (λ Ag=>?_))
     ·obtain ⟨EK,ve⟩:=gx ((((m.gG (k:Int))).take (rk).toNat)) (i:=((j:Int)).toNat) (by omega);refine aQ v9 I9 (by omega) ve (λ _ EL=>?_);have hpc:=hk.pc k _ (List.mem_of_mem_take (List.mem_of_getElem? ve));refine aD Qr (EL.ext hs.aF) (aN hs Qs (λ b_w10 w6 hs=>aI (x:=EK) hs Qr rfl rfl (λ w7 hs=>aA KI ?_)));have hal:=AF (((m.gG k).take rk.toNat).take j) (yh m cut k);have hil:=uA m cut k;refine aB (v:=.int .i64 ((EK).cell)) bL hs.hb rfl (aA KJ (aB (v:=.int .i64 ((EK).n)) bL hs.hb rfl ?_));obtain ⟨aru,akG⟩:=gx ((yg (yh m cut k) (((m.gG k).take rk.toNat).take j))) (i:=((EK).cell).toNat) (by omega)
      refine dS hs.p1 eh (by omega) (by omega) (λ _ L6=>km _ hs.p1 bL L6 (by omega) (λ w8 hs=>aO (by omega) ?_));have hs:=(hs.p1).drop;exact ⟨_,by omega,j+1,rfl,rfl,by omega,by rw [Hl (j:=j) ve]; exact hs⟩
     ·rw [List.take_of_length_le (i:=j) (by omega)] at hs;refine aO (by omega) ?_;refine ⟨_,by omega,k+1,rfl,rfl,by omega,λ i c hi hc=>?_,?_⟩
      ·by_cases e:i=k
       ·subst e; obtain rfl:=Option.some.inj (hc.symm.trans kD); omega
       ·exact oM i c (by omega) hc
      ·rw [Hm,List.getD_eq_getElem?_getD,show cut[k]? = some rk from kD]; exact hs
  ·exact .inr ⟨_,_,BV (by omega) (λ i c hi hc=>oM i c (by omega) hc),rfl,by rw [show cut.length=k from by omega]; exact hs.fresh⟩
theorem C145 (p:Nat) (m:Mem) (cut:List Int) (cv:Value) (w:World) (hm:vm w p m) (hk:vN m) (hb:MB m 1000000) (hC:eP (λ _=>True) w cv cut) (akF:cut.length≤1000) (zL:∀ c∈cut,0≤c):CR 145 [(.pointer (some ⟨p,0,none⟩)),cv] w (λ v w'=>(Xs m cut=none∧v = .tuple #[.slice none 0 0,.bool false]∧Ext w w')∨∃ c o,Xs m cut=some c∧v = .tuple #[o,.bool true]∧lY (bK o c) w w'):=by
 have Fj:=hm;obtain ⟨ov,fv,lv,kv,pm,c0,c1,c2,c3,c4,hO,SW,hL,hKp,hP⟩:=hm;have hs:=St.start w;refine aag _ _ _ _ ?_;unfold S145;refine dF zH hs (C70 _ _ _ (hC.ext hs.aF) (by omega)) (λ x9 w1 cA hs=>?_);have hlx:cut.length=cut.length:=rfl;refine aJ eh (hs).fF (gD (by omega) ?_);refine ⟨λ mm x w1=>∃ t:Nat,x = .int .i64 ((t:Int) - 1)∧mm=t∧t≤cut.length∧Q7 ((Cu m cut.length).drop t) (cut.drop t)=none∧St w bD [bK x9 (cut.take t++List.replicate (cut.length - t) 0)] w1,⟨_,cut.length,rfl,rfl,Nat.le_refl _,by rw [List.drop_eq_nil_of_le (Nat.le_refl _)]; cases (Cu m cut.length).drop cut.length <;> rfl,by simpa using hs⟩,?_⟩
 rintro t _ w2 ⟨_,rfl,rfl,ht,fV,hs⟩ fD;refine dK (aC (λ gX=>?_) (λ gX=>?_))
 ·have hlx:(cut.take t++List.replicate (cut.length - t) 0).length=cut.length:=by rw [List.length_append,List.length_take,List.length_replicate]; omega
  obtain ⟨jd,fM⟩:=gx ((cut.take t++List.replicate (cut.length - t) 0)) (i:=(((t:Int) - 1)).toNat) (by omega);refine dS hs eh (by omega) (by omega) (λ _ jQ=>?_);have hs:=hs.drew
  have hct:cut[t - 1]? = some jd:=by
   have:=fM;rw [show ((t:Int) - 1).toNat=t - 1 from by omega,List.getElem?_append_left (by rw [List.length_take]; omega),List.getElem?_take,if_pos (by omega)] at this;exact this
  have hx0:=zL _ (List.mem_of_getElem? hct);have he:=rfl (a:=jd);refine fY hs bL jQ fM (aE (aA m8 (cE sm (c4.ext hs.aF) (BT hP hs.aF Tryz.underlying201 oT xp (λ s_x26 rn=>aJ v9 (rn.ext hs.aF) (aR (aC (λ LY=>?_) (λ LY=>?_))))))))
  ·refine dS hs eh (by omega) (by omega) (λ _ oN=>fY hs bL oN fM ?_);have hbx:=hb ((t:Int) - 1);refine aO (by omega) (dS hs eh (by omega) (by omega) (λ _ rG=>km _ hs bL rG (by omega) (λ w3 hs=>?_)));refine .inr ⟨_,_,Xq (i:=t - 1) (AG (by omega)) hct (by rw [show t - 1+1=t from by omega]; exact fV) (by rw [show ((t - 1:Nat):Int)=(t:Int) - 1 from by omega]; omega),rfl,?_⟩;rw [he,show ((t:Int) - 1).toNat=t - 1 from by omega] at hs;have gr:=AH (cs:=cut) (t:=t - 1) (x:=jd+1) (by omega);rw [show t - 1+1=t from by omega] at gr ⊢;rw [gr] at hs;exact hs.fresh
  ·have hbx:=hb ((t:Int) - 1);refine dS hs eh (by omega) (by omega) (λ _ EH=>km _ hs bL EH (by omega) (λ w4 hs=>gD (by omega) ?_));refine ⟨_,by omega,t - 1,by congr 1; omega,rfl,by omega,Xr (i:=t - 1) (AG (by omega)) hct (by rw [show t - 1+1=t from by omega]; exact fV) (by rw [show ((t - 1:Nat):Int)=(t:Int) - 1 from by omega]; omega),?_⟩;rw [show ((t:Int) - 1).toNat=t - 1 from by omega] at hs;have gr:=AH (cs:=cut) (t:=t - 1) (x:=0) (by omega);rw [show t - 1+1=t from by omega] at gr;rw [gr] at hs;have hrs:=Xt (cs:=cut) (t:=t - 1) (by omega);rw [show t - 1+1=t from by omega] at hrs;rw [hrs] at hs
   exact hs
 ·exact .inl ⟨by unfold Xs; rw [show t=0 from by omega] at fV; simpa using fV,rfl,hs.drop.aF⟩
theorem C58 (p:Nat) (ov fv:Value) (m:Mem) (F:Nat→Prop) (cut:List Int) (cv:Value) (w:World) (hF:(fZ p ov fv m).p w F) (hK:∀ w',iF F w w'→uy ov fv m w') (hk:vN m) (hb:MB m 1000000) (hC:∀ w',iF F w w'→eP (λ _=>True) w' cv cut) (akF:cut.length≤1000):CR 58 [(.pointer (some ⟨p,0,none⟩)),cv] w (λ v w'=>(jx m cut=none∧v = .int .i64 1∧qy F (fZ p ov fv m) w w')∨∃ oH,jx m cut=some oH∧v = .int .i64 0∧qy F (fZ p ov fv (zf m oH)) w w'):=by
 have hs:=St.begin hF;obtain ⟨lv,kv,pm,hs⟩:=fZ.open hs;have h20:=hk.fl;have T4:=hk.SU;have NQ:=hk.ll;have Lh:=hk.kl;have QG:=hk.lb;refine ah8 _ _ _ _ ?_;unfold S58;refine eA afi (C125 _ m cut _ _ (vm.mk' hs.hb (hK _ hs.aF) hs.p1.fF hs.p2.fF hs.p3.Xk) hk hb (hC _ hs.aF) (by omega)) ?_;rintro v_x10 w1 akH
 rcases akH with ⟨rK,rfl,he⟩ | ⟨Jg,o_x10,rK,rfl,cA⟩
 ·have hs:=hs.ext he;refine bE rfl (bE rfl (cR (gJ (by decide) ?_)));have hs:=hs.p3.p3.p3.p3;exact .inl ⟨rK,rfl,(fZ.shut hs).mut⟩
 ·have hs:=hs.made cA;refine bE rfl (bE rfl (cR (fS (by decide) (aE (aA zW (aV hs.p1 eB (eK rfl) ((hs).fF.one) (λ w2 hs=>aE (aA q8 (have hs:=hs.drew;aB eB hs.hb rfl (aE (aA KH (aB eB hs.hb rfl ?_))))))))))));refine L5 hs.p2 eh (hK _ hs.aF).2 (by omega) (λ w3 hs=>aE (aA q8 (aB eB hs.p1.hb rfl (L5 hs eh (hs.p2).fF (by rw [List.length_append,List.length_drop]; have hil:Jg.length=m.of.length:=(by unfold jx at rK; split at rK <;> simp at rK; rw [← rK,uA]; exact Lh); omega) (λ w4 hs=>oB (α:=jr) hs (λ b_x36 w5 hs=>aE (aA m8 (aV hs.p2 sm (eK rfl) (rfl) (λ w6 hs=>?_)))))))))
  have hs:=((hs.p4.drop.p4.drop.p1.p3).p3).p3;have hil:Jg.length=m.of.length:=by unfold jx at rK; split at rK <;> simp at rK; rw [← rK,uA]; exact Lh
  rw [show m.l.drop m.dH.length=[] from List.drop_eq_nil_of_le (by omega),List.append_nil] at hs;exact .inr ⟨_,rK,rfl,(fZ.shut (m:=zf m Jg) hs).mut⟩
end Go.Proofs.YtnjcingfdhjfkaaGreat
namespace Go.Fw
open Go.MapKept (Stamped IsKey)
open Go.ChangeMaps (setBlock)
section
variable {P:Program} {w w0 w':World} {A:Nat→Prop} {L:List HP} {b r:Nat}
def Hn (r m since:Nat) (seen:Array Nat):HP where
 p w F:=w.heap[r]? = some (.mapIter (some m) since seen since)∧∀ k,F k↔k=r
 loc w w' F h hh:=⟨(hh r ((h.2 r).2 rfl)).trans h.1,h.2⟩
 lt w F b' h hb:=by rw [(h.2 b').1 hb]; exact jX h.1
theorem SX {T Kt E:TypeId} {es:Array MapEntry} {clock:Nat} {K:Value→World→Prop} (hs:St w0 A L w) (ht:P.underlying T=some (.map Kt E)) (hb:w.heap[b]? = some (.map es clock))
  (k:∀ r w',St w0 A (Hn r b clock #[]::L) w'→K (.pointer (some ⟨r,0,none⟩)) w'):ia P (Instr.range T (.map (some b))) w K:=
 ⟨_,_,run_range_map w T Kt E b es clock ht hb,k _ _ (hs.new (Ext.push w _) (F:=λ k=>k=w.heap.size) ⟨pE _ _,λ _=>Iff.rfl⟩ λ b hb=>by rw [hb]; exact Nat.le_refl _)⟩
theorem Xu {T since:Nat} {seen:Array Nat} {es:Array MapEntry} {K:Value→World→Prop} (hs:St w0 A (Hn r b since seen::L) w) (hb:w.heap[b]? = some (.map es since)) (hold:∀ x∈es.toList,x.born<since)
  (k0:(leftOf es seen).size=0→K (.tuple #[.bool false]) w)
  (k1:∀ e w',e∈(leftOf es seen).toList→St w0 A (Hn r b since (seen.push e.born)::L) w'→K (.tuple #[.bool true,e.key,e.val]) w'):ia P (Instr.next (.pointer (some ⟨r,0,none⟩)) false T) w K:=by
 obtain ⟨F,h,_⟩:=hs.head
 rcases run_next_at (P:=P) w T r b since since seen es since h.1 hb hold (Nat.le_refl _) with ⟨h1,h2⟩ | ⟨e,he,w1,hw,h2⟩
 ·exact ⟨_,w,h2,k0 h1⟩
 ·have e1:St w0 A (Hn r b since seen::L) w1:=by
   rcases hw with rfl | rfl
   ·exact hs
   ·exact hs.ext ⟨rfl,rfl,rfl,Nat.le_refl _,λ _ _ _=>rfl⟩
  refine ⟨_,_,h2,k1 e _ he (e1.rV λ F hF=>⟨F,⟨mu _ (jX hF.1),hF.2⟩,λ b hb=>.inl hb,(iF.setBlock w1 r _).mono λ k hk=>(hF.2 k).2 hk⟩)⟩
theorem SY {since:Nat} {seen:Array Nat} {es:Array MapEntry} {e:MapEntry} {K:Value→Prop} (hs:St w0 A (Hn r b since (seen.push e.born)::L) w) (hb:w.heap[b]? = some (.map es since)) (he:e∈es.toList) (hn:(es.toList.map (·.born)).Nodup)
  (k:K (.tuple #[e.key,e.val])):Dy P (Instr.entry (.pointer (some ⟨r,0,none⟩))) w K:=by
 obtain ⟨F,h,_⟩:=hs.head
 exact ⟨_,run_entry_at w r b since seen es since e h.1 hb he hn,k⟩
theorem sK.es {α:Type} [Flat α] {f:Int→List α} (h:sK w b f):∃ es clock,w.heap[b]? = some (.map es clock)∧Stamped es clock∧(∀ e∈es.toList,∃ k,∃ s:SV,e.key = .int .i64 k∧e.val=Flat.val s∧eP (λ _=>True) w (Flat.val s) (f k))∧∀ k,(∀ e∈es.toList,e.key≠.int .i64 k)→f k=[]:=by
 obtain ⟨ks,ss,⟨es,clock,h1,h2,h3,h4⟩,h5,h6⟩:=h
 have J2:es.toList.length=ks.length:=by have:=congrArg List.length h3; simpa using this
 have hls:es.toList.length=ss.length:=by have:=congrArg List.length h4; simpa using this
 refine ⟨es,clock,h1,h2,λ e he=>?_,λ k hk=>h6 k λ hm=>?_⟩
 ·obtain ⟨i,hi,rfl⟩:=List.getElem_of_mem he
  refine ⟨ks[i]'(by omega),ss[i]'(by omega),?_,?_,h5 i _ _ (List.getElem?_eq_getElem _) (List.getElem?_eq_getElem _)⟩
  ·have:=congrArg (·[i]?) h3
   simp only [List.getElem?_map,List.getElem?_eq_getElem hi,List.getElem?_eq_getElem (show i<ks.length by omega)] at this
   exact Option.some.inj this
  ·have:=congrArg (·[i]?) h4
   simp only [List.getElem?_map,List.getElem?_eq_getElem hi,List.getElem?_eq_getElem (show i<ss.length by omega)] at this
   exact Option.some.inj this
 ·have:Value.int .i64 k∈es.toList.map (·.key):=by rw [h3]; exact List.mem_map.2 ⟨k,hm,rfl⟩
  obtain ⟨e,he,yG⟩:=List.mem_map.1 this
  exact hk e he yG
theorem Fl {o:Obj} (h:w.heap[b]? = some o) (e:Ext w w'):w'.heap[b]? = some o:=(e.cH b (jX h) λ h=>h).trans h
theorem Fm {seen:Array Nat} {x y:Nat} (h:(seen.push x).contains y=true):seen.contains y=true∨y=x:=by
 simp at h ⊢; exact h
theorem born_inj {es:Array MapEntry} (hn:(es.toList.map (·.born)).Nodup) {e e':MapEntry} (h:e∈es.toList) (h':e'∈es.toList) (hb:e.born=e'.born):e=e':=by
 obtain ⟨i,hi,rfl⟩:=List.getElem_of_mem h
 obtain ⟨j,hj,rfl⟩:=List.getElem_of_mem h'
 have:=(List.getElem_inj (i:=i) (j:=j) (h₀:=by simpa using hi) (h₁:=by simpa using hj) hn).1 (by simpa using hb)
 subst this; rfl
end
section
variable {P:Program} {w w0 w':World} {A:Nat→Prop} {L:List HP} {b r:Nat}
def L7 (P:Program) (n T E:Nat):Prop:=P.underlying T=some (.array n E)∧P.underlying E=some (.int .i64)∧pr P (sizeOf E)=some 1
abbrev AI (xs:List Int):Value:=.agg (xs.map (Value.int .i64)).toArray
theorem L8 {β:Type} {f:Nat→β→Sem (ForInStep β)} {g:Nat→Bool} {x0 stop:β}:∀ l:List Nat,(∀ i∈l,pr P (f i x0)=some (if g i=true then .yield x0 else .done stop))→pr P (forIn l x0 f)=some (if l.all g=true then x0 else stop)
 | [],_=>by simp [fk]
 | i::l,h=>by
  rw [List.forIn_cons,cP,h i (by simp)]
  by_cases hg:g i=true
  ·rw [if_pos hg]
   simp only [Option.bind_some]
   rw [L8 l λ j hj=>h j (by simp [hj])]
   simp [hg]
  ·rw [if_neg hg]
   simp [hg,fk]
theorem zg {E:TypeId} {xs:List Int} {i:Nat} (hE:P.underlying E=some (.int .i64)) (hi:i<xs.length):pr P (part E (xs.map (Value.int .i64)).toArray i)=some (.int .i64 xs[i]):=
 Is (n:=0) hE rfl (by simp [hi])
theorem adV {n T E:Nat} {xs ys:List Int} (h:L7 P n T E) (hx:xs.length=n) (hy:ys.length=n):pr P (Op.equal T (AI xs) (AI ys))=some (decide (xs=ys)):=by
 obtain ⟨ht,he,hs⟩:=h
 have e:∀ x y:Int,pr P (Op.equalIn 9999 E (.int .i64 x) (.int .i64 y))=some (decide (x=y)):=λ x y=>by
  rw [Cf (k:=9998) (n:=0) he rfl rfl rfl]; rfl
 show pr P (Op.equalIn (9999+1) T _ _)=_
 unfold Op.equalIn
 rw [cP,cO ht]
 simp only [Option.bind_some,cP,hs]
 simp only [Std.Legacy.Range.forIn_eq_forIn_range',Std.Legacy.Range.size,Nat.sub_zero,Nat.add_sub_cancel,Nat.div_one,Nat.mul_one]
 rw [L8 (g:=λ i=>decide (xs[i]? = ys[i]?)) (stop:=⟨some false,PUnit.unit⟩)]
 ·by_cases hxy:xs=ys
  ·subst hxy
   simp [fk]
  ·have:(List.range' 0 n).all (λ i=>decide (xs[i]? = ys[i]?))=false:=by
    rw [List.all_eq_false]
    apply Classical.byContradiction
    intro hc
    apply hxy
    apply List.ext_getElem?
    intro i
    apply Classical.byContradiction
    intro CB
    by_cases hi:i<n
    ·exact hc ⟨i,by simp [List.mem_range']; omega,by simpa using CB⟩
    ·exact CB (by rw [List.getElem?_eq_none (by omega),List.getElem?_eq_none (by omega)])
   simp [this,hxy,fk]
 ·intro i hi
  have Nj:i<n:=by simp [List.mem_range'] at hi; omega
  simp only [cP,zg he (show i<xs.length by omega),zg he (show i<ys.length by omega),Option.bind_some,e]
  rw [List.getElem?_eq_getElem (show i<xs.length by omega),List.getElem?_eq_getElem (show i<ys.length by omega)]
  by_cases hq:xs[i]'(by omega)=ys[i]'(by omega)
  ·simp [hq,fk]
  ·simp [hq,fk]
def OC (b n:Nat) (ks:List (List Int)):HP where
 p w F:=(∃ es clock,w.heap[b]? = some (.map es clock)∧es.toList.map (·.key)=ks.map AI∧(∀ e∈es.toList,e.val = .bool true)∧∀ k∈ks,k.length=n)∧∀ k,F k↔k=b
 loc w w' F h hh:=by
  obtain ⟨⟨es,c,h1,h2⟩,h3⟩:=h; exact ⟨⟨es,c,(hh b ((h3 b).2 rfl)).trans h1,h2⟩,h3⟩
 lt w F b' h hb:=by obtain ⟨⟨es,c,h1,h2⟩,h3⟩:=h; rw [(h3 b').1 hb]; exact jX h1
theorem L9 {T n:TypeId} {K:Value→World→Prop} (hs:St w0 A L w) (k:∀ b w',St w0 A (OC b n []::L) w'→K (.map (some b)) w'):ia P (Instr.makeMap T none) w K:=
 ⟨_,_,rfl,k _ _ (hs.new (Ext.push w (.map #[] 0)) (F:=λ k=>k=w.heap.size) ⟨⟨#[],0,pE _ _,rfl,by simp,by simp⟩,λ _=>Iff.rfl⟩ λ b hb=>by rw [hb]; exact Nat.le_refl _)⟩
theorem Xv {T E n:Nat} {x:List Int} (h:L7 P n T E) (hx:x.length=n):∀ (es:List MapEntry) (ks:List (List Int)) (i:Nat),es.map (·.key)=ks.map AI→(∀ k∈ks,k.length=n)→(∀ e∈es,e.val = .bool true)→
  (x ∉ ks∧pr P (Instr.findAsking T (AI x) es i)=some none)∨(x∈ks∧∃ j,pr P (Instr.findAsking T (AI x) es i)=some (some (j,.bool true)))
 | [],ks,i,hk,_,_=>by
  have:ks=[]:=by simpa using hk.symm
  subst this
  exact .inl ⟨by simp,rfl⟩
 | e::es,[],i,hk,_,_=>by simp at hk
 | e::es,k::ks,i,hk,hl,hv=>by
  simp only [List.map_cons,List.cons.injEq] at hk
  have he:pr P (Op.equal T (AI x) e.key)=some (decide (x=k)):=by rw [hk.1]; exact adV h hx (hl k (by simp))
  unfold Instr.findAsking
  rw [cP,he]
  simp only [Option.bind_some]
  by_cases hxk:x=k
  ·subst hxk
   refine .inr ⟨by simp,i,?_⟩
   simp [fk,hv e (by simp)]
  ·rcases Xv h hx es ks (i+1) hk.2 (λ k hk=>hl k (by simp [hk])) (λ e he=>hv e (by simp [he])) with ⟨h1,h2⟩ | ⟨h1,j,h2⟩
   ·exact .inl ⟨by simp [hxk,h1],by simp [hxk,h2]⟩
   ·exact .inr ⟨by simp [h1],j,by simp [hxk,h2]⟩
theorem Ma {E:TypeId} {x:Int} {em:Bool} (hE:P.underlying E=some (.int .i64)):pr P (Instr.checkKey em 9999 E (.int .i64 x))=some ():=by
 show pr P (Instr.checkKey em (9998+1) E _)=_
 unfold Instr.checkKey
 rw [cP,cO hE]; rfl
theorem Fo {f:Nat→PUnit→Sem (ForInStep PUnit)}:∀ l:List Nat,(∀ i∈l,pr P (f i ⟨⟩)=some (.yield ⟨⟩))→pr P (forIn l PUnit.unit f)=some ⟨⟩
 | [],_=>by simp [fk]
 | i::l,h=>by
  rw [List.forIn_cons,cP,h i (by simp)]
  simp only [Option.bind_some]
  exact Fo l λ j hj=>h j (by simp [hj])
theorem Cv {T E n:Nat} {x:List Int} {em:Bool} (h:L7 P n T E) (hx:x.length=n):pr P (Instr.checkKey em 10000 T (AI x))=some ():=by
 obtain ⟨ht,he,hs⟩:=h
 show pr P (Instr.checkKey em (9999+1) T _)=_
 unfold Instr.checkKey
 rw [cP,cO ht]
 simp only [Option.bind_some,cP,hs]
 simp only [Std.Legacy.Range.forIn_eq_forIn_range',Std.Legacy.Range.size,Nat.sub_zero,Nat.add_sub_cancel,Nat.div_one,Nat.mul_one]
 rw [Fo]
 ·rfl
 ·intro i hi
  have Nj:i<n:=by simp [List.mem_range'] at hi; omega
  simp only [cP,hs,Option.bind_some,Nat.mul_one,zg he (show i<x.length by omega),Ma he,fk]
theorem Q8 {T E n:Nat} {x:List Int} {es:List MapEntry} {ks:List (List Int)} (h:L7 P n T E) (hx:x.length=n) (hk:es.map (·.key)=ks.map AI) (hl:∀ k∈ks,k.length=n) (hv:∀ e∈es,e.val = .bool true) :
  (x ∉ ks∧pr P (Instr.findKey T (AI x) es)=some none)∨(x∈ks∧∃ j,pr P (Instr.findKey T (AI x) es)=some (some (j,.bool true))):=by
 unfold Instr.findKey
 rw [cP,cO h.1]
 simp only [Option.bind_some]
 cases es with
 | nil=>
  have:ks=[]:=by simpa using hk.symm
  subst this
  exact .inl ⟨by simp,rfl⟩
 | cons e es=>exact Xv h hx (e::es) ks 0 hk hl hv
theorem adW {T Kt E Et n:Nat} {x:List Int} {ks:List (List Int)} {K:Value→Prop} (hs:St w0 A (OC b n ks::L) w) (ht:P.underlying T=some (.map Kt Et)) (h:L7 P n Kt E) (hz:qt P Et (.bool false)) (hx:x.length=n)
  (k:K (.bool (decide (x∈ks)))):Dy P (Instr.lookup T (.map (some b)) (AI x) false) w K:=by
 obtain ⟨F,⟨⟨es,c,h1,h2,h3,h4⟩,h5⟩,_⟩:=hs.head
 refine ⟨_,?_,k⟩
 have hz':(zeroValue Et).run P w = .ok (.bool false) w:=by
  unfold qt et at hz
  cases hi:P.info? Et with
  | none=>rw [hi] at hz; cases hz
  | some i=>
   rw [hi] at hz
   simp only [Option.map_some,Option.some.injEq] at hz
   refine fw ?_ w
   unfold zeroValue; rw [cP,nB hi]; simp only [Option.bind_some,hz]; rfl
 have hc:=fw (Cv (em:=es.isEmpty) h hx) w
 rcases Q8 h hx h2 h4 h3 with ⟨h6,h7⟩ | ⟨h6,j,h7⟩
 ·have h8:=fw h7 w
  simp [Instr.lookup,run_underlying ht,MapKept.run_getObj_map h1,hc,h8,hz',Result.andThen,h6]
 ·have h8:=fw h7 w
  simp [Instr.lookup,run_underlying ht,MapKept.run_getObj_map h1,hc,h8,Result.andThen,h6]
theorem adX {T Kt E Et n:Nat} {x:List Int} {ks:List (List Int)} {K:World→Prop} (hs:St w0 A (OC b n ks::L) w) (ht:P.underlying T=some (.map Kt Et)) (h:L7 P n Kt E) (hx:x.length=n) (cA:x ∉ ks)
  (k:∀ w',St w0 A (OC b n (ks++[x])::L) w'→K w'):Bg P (Instr.mapUpdate T (.map (some b)) (AI x) (.bool true)) w K:=by
 obtain ⟨F,⟨⟨es,c,h1,h2,h3,h4⟩,h5⟩,_⟩:=hs.head
 have hc:=fw (Cv (em:=false) h hx) w
 rcases Q8 h hx h2 h4 h3 with ⟨h6,h7⟩ | ⟨h6,j,h7⟩
 ·have h8:=fw h7 w
  refine ⟨setBlock w b (.map (es.push ⟨AI x,.bool true,c⟩) (c+1)),?_,k _ (hs.rV λ F' hF=>⟨F',⟨⟨_,_,mu _ (jX h1),by simp [h2],?_,?_⟩,hF.2⟩,λ b hb=>.inl hb,(iF.setBlock w b _).mono λ k hk=>(hF.2 k).2 hk⟩)⟩
  ·simp [Instr.mapUpdate,run_underlying ht,MapKept.run_getObj_map h1,hc,h8,rJ h1,Result.andThen]
  ·intro e he; simp at he; rcases he with he | rfl
   ·exact h3 e (by simpa using he)
   ·rfl
  ·intro q hq; simp at hq; rcases hq with hq | rfl
   ·exact h4 q hq
   ·exact hx
 ·exact absurd h6 cA
theorem bI {f:FuncId} {args:List Value} {H:HP} {H':Value→HP} {Φ:Value→World→Prop} {K:Value→World→Prop} (pl:Plain P f) (hs:St w0 A (H::L) w)
  (hc:∀ F,H.p w F→(∀ w',iF F w w'→St w0 A L w')→Calls P f args.toArray w (qf λ v w'=>Φ v w'∧qy F (H' v) w w')) (k:∀ v w',Φ v w'→St w0 A (H' v::L) w'→K v w'):Dz P f args w K:=by
 obtain ⟨U,F,U',h1,h2,h3,h4,h5⟩:=hs.sU
 refine eA pl (hc F h1 λ w' hw=>⟨hs.aF.trans hw (λ _ h=>h) λ b hb hf=>(h2 b hf).elim id λ hh=>by omega,U',h5.loc λ b hb=>hw.cH b (h5.lt b hb) λ hf=>h3 b hf hb⟩) λ v w' ⟨hΦ,hM⟩=>k v w' hΦ (hs.Ve h2 h3 h5 hM)
theorem Xw {g:FuncId} {args first cap:List Value} {H:HP} {H':Value→HP} {Φ:Value→World→Prop} {K:Value→World→Prop} (pl:Plain P g) (hs:St w0 A (H::L) w)
  (hc:∀ F,H.p w F→(∀ w',iF F w w'→St w0 A L w')→Calls P g (first++args++cap).toArray w (qf λ v w'=>Φ v w'∧qy F (H' v) w w')) (k:∀ v w',Φ v w'→St w0 A (H' v::L) w'→K v w'):gd P (.func (.func g) first.toArray cap.toArray) args w K:=by
 obtain ⟨U,F,U',h1,h2,h3,h4,h5⟩:=hs.sU
 refine gh pl (hc F h1 λ w' hw=>⟨hs.aF.trans hw (λ _ h=>h) λ b hb hf=>(h2 b hf).elim id λ hh=>by omega,U',h5.loc λ b hb=>hw.cH b (h5.lt b hb) λ hf=>h3 b hf hb⟩) λ v w' ⟨hΦ,hM⟩=>k v w' hΦ (hs.Ve h2 h3 h5 hM)
theorem SZ {T E n:Nat} {K:Value→Prop} (h:L7 P n T E) (k:K (.slice (some ⟨b,0,none⟩) n n)):cZ P (Instr.sliceAt T (.pointer (some ⟨b,0,none⟩)) none none none) K:=by
 refine ⟨_,?_,k⟩
 unfold Instr.sliceAt
 rw [cP,cO h.1]
 simp only [Option.bind_some,Instr.sureAddr,cP,fk,Instr.sliceBounds,h.2.2]
 simp [gU]
theorem akI {xs:List Int} {n:Nat} (h:xs.length≤n):ib (List.replicate n (Value.int .i64 0)) 0 (flat xs)=(xs++List.replicate (n - xs.length) 0).map (Value.int .i64):=by
 have hf:flat xs=xs.map (Value.int .i64):=by
  induction xs with
  | nil=>rfl
  | cons x xs ih=>rw [jh,ih (by simp at h; omega)]; rfl
 have hl:(flat xs).length=xs.length:=by rw [hf,List.length_map]
 have:=kR [] (List.replicate xs.length (Value.int .i64 0)) (List.replicate (n - xs.length) (Value.int .i64 0)) (flat xs) (by rw [List.length_replicate,hl])
 rw [List.nil_append,List.nil_append,List.replicate_append_replicate,show xs.length+(n - xs.length)=n from by omega,List.length_nil] at this
 rw [this,hf,List.map_append,List.map_replicate]
theorem Mb {T T2 E oG n dc:Nat} {z:Option Nat} {R:TypeId} {src:Value} {cs:List Value} {ys:List Int} {S:Nat→Prop} {K:Value→World→Prop} (hs:St w0 A (cH b cs::L) w) (ht:fi P T=some (E,Flat.sz Int,oG,z)) (xS:eP S w src ys) (hn:ys.length≤n) (Ns:ys.length≤cs.length)
  (k:∀ w',St w0 A (cH b (ib cs 0 (flat ys))::L) w'→K (.int .i64 ys.length) w'):ia P (Builtin.copy_ #[T,T2] R [.slice (some ⟨b,0,none⟩) n dc,src].toArray) w K:=by
 obtain ⟨w',h1,h2,h3⟩:=Fi (P:=P) (o:=0) (dn:=n) (dc:=dc) (T2:=T2) (R:=R) ht hs.hb xS hn (by change 0+ys.length * 1≤_; omega)
 exact ⟨_,w',h1,k w' (hs.rV λ F hF=>⟨F,⟨h2,hF.2⟩,λ b hb=>.inl hb,h3.mono λ k hk=>(hF.2 k).2 hk⟩)⟩
end
def Has (H:HP) (w:World):Prop:=∃ F,H.p w F
theorem St.has {w w0:World} {A:Nat→Prop} {L:List HP} {H:HP} (hs:St w0 A (H::L) w):Has H w:=by obtain ⟨F,h,_⟩:=hs.head; exact ⟨F,h⟩
theorem Has.ext {H:HP} {w w':World} (h:Has H w) (e:Ext w w'):Has H w':=by
 obtain ⟨F,h⟩:=h; exact ⟨F,H.loc _ _ _ h λ b hb=>e.cH b (H.lt _ _ _ h hb) λ x=>x⟩
theorem Has.st {H:HP} {w:World} (h:Has H w):∃ F,St w F [H] w:=by obtain ⟨F,h⟩:=h; exact ⟨F,St.begin h⟩
end Go.Fw
namespace Go.Proofs.YtnjcingfdhjfkaaGreat
open Go.Fw
def Xx (of:List Int) (stays:Int) (dH:List Int):Mem:=⟨of.take stays.toNat,dH,dH,dH.take stays.toNat,λ _=>[]⟩
def eV:List Nat→List (List Int)
 | []=>[[]]
 | p::ps=>(List.range (p+1)).flatMap fun (i:Nat)=>(eV ps).map λ t=>(i:Int)::t
theorem vn:∀ ps,(eV ps).head? = some (List.replicate ps.length 0)
 | []=>rfl
 | p::ps=>by
  have ih:=vn ps
  rw [eV,List.range_succ_eq_map,List.flatMap_cons]
  cases h:eV ps with
  | nil=>rw [h] at ih; cases ih
  | cons t ts=>
   rw [h] at ih; simp at ih
   simp [ih,List.replicate_succ]
theorem qa:∀ {ps:List Nat} {c:List Int},c∈eV ps→c.length=ps.length
 | [],c,h=>by simp [eV] at h; subst h; rfl
 | p::ps,c,h=>by
  simp only [eV,List.mem_flatMap,List.mem_map] at h
  obtain ⟨i,_,t,ht,rfl⟩:=h
  simp [qa ht]
theorem BW:∀ {ps:List Nat} {c:List Int} {i p:Nat} {n:Int},c∈eV ps→ps[i]? = some p→c[i]? = some n→0≤n∧n≤p
 | [],c,i,p,n,h,hp,_=>by simp at hp
 | q::ps,c,i,p,n,h,hp,hc=>by
  simp only [eV,List.mem_flatMap,List.mem_map,List.mem_range] at h
  obtain ⟨j,hj,t,ht,rfl⟩:=h
  cases i with
  | zero=>simp at hp hc; subst hp hc; omega
  | succ i=>
   rw [List.getElem?_cons_succ] at hp hc
   exact BW ht hp hc
theorem tz {α β:Type} {f:α→List β}:∀ {l:List α} {d:List β} {c:β} {r:List β},l.flatMap f=d++c::r→∃ l1 x l2 d' r',l=l1++x::l2∧f x=d'++c::r'∧r=r'++l2.flatMap f
 | [],d,c,r,h=>by simp at h
 | x::l,d,c,r,h=>by
  rw [List.flatMap_cons] at h
  rcases List.append_eq_append_iff.1 h with ⟨a',h1,h2⟩ | ⟨c',h1,h2⟩
  ·obtain ⟨l1,y,l2,d',r',e1,e2,e3⟩:=tz h2
   exact ⟨x::l1,y,l2,d',r',by rw [e1]; rfl,e2,e3⟩
  ·cases c' with
   | nil=>
    obtain ⟨l1,y,l2,d',r',e1,e2,e3⟩:=tz (f:=f) (l:=l) (d:=[]) (c:=c) (r:=r) (by simpa using h2.symm)
    exact ⟨x::l1,y,l2,d',r',by rw [e1]; rfl,e2,e3⟩
   | cons y ys=>
    simp at h2
    exact ⟨[],x,l,d,ys,rfl,by rw [h1,h2.1],h2.2⟩
theorem Mc {n:Nat} {l1 l2:List Nat} {x:Nat} (h:List.range n=l1++x::l2):x<n∧l2.head? = if x+1<n then some (x+1) else none:=by
 have hx:(List.range n)[l1.length]? = some x:=by rw [h,List.getElem?_append_right (Nat.le_refl _)]; simp
 have mG:l1.length<n:=by have:=(List.getElem?_eq_some_iff.1 hx).1; simpa using this
 have PE:x=l1.length:=by rw [List.getElem?_range mG] at hx; exact (Option.some.inj hx).symm
 refine ⟨by omega,?_⟩
 have h2:(List.range n)[l1.length+1]? = l2.head?:=by
  rw [h,List.getElem?_append_right (by omega),show l1.length+1 - l1.length=1 from by omega,List.getElem?_cons_succ]
  cases l2 <;> rfl
 rw [← h2]
 by_cases hh:x+1<n
 ·rw [if_pos hh,List.getElem?_range (by omega)]; congr 1; omega
 ·rw [if_neg hh,List.getElem?_eq_none (by simp; omega)]
theorem Q9:∀ {ps:List Nat} {d:List (List Int)} {c:List Int} {r:List (List Int)},eV ps=d++c::r→Q7 ps c=r.head?
 | [],d,c,r,h=>by
  simp [eV] at h
  cases d with
  | nil=>simp at h; obtain ⟨rfl,rfl⟩:=h; rfl
  | cons x d=>simp at h
 | p::ps,d,c,r,h=>by
  rw [eV] at h
  obtain ⟨l1,x,l2,d',r',e1,e2,e3⟩:=tz h
  obtain ⟨hx,C0⟩:=Mc e1
  obtain ⟨a,b,ha,hb,hc⟩:=List.map_eq_append_iff.1 e2
  obtain ⟨t,ts,rfl,hct,hts⟩:=List.map_eq_cons_iff.1 hc
  subst hct
  have ih:=Q9 ha
  rw [e3,← hts]
  show (match Q7 ps t with | some cs'=>some ((x:Int)::cs') | none=>if (x:Int)<p then some (((x:Int)+1)::List.replicate t.length 0) else none)=_
  rw [ih]
  cases ts with
  | cons t' ts=>rfl
  | nil=>
   simp only [List.head?_nil,List.map_nil,List.nil_append]
   cases l2 with
   | nil=>
    simp at C0
    rw [if_neg (by omega)]; rfl
   | cons y l2=>
    simp only [List.head?_cons] at C0
    split at C0
    ·obtain rfl:=Option.some.inj C0
     rw [if_pos (by omega),List.flatMap_cons]
     have Nv:t.length=ps.length:=qa (ps:=ps) (by rw [ha]; simp)
     have hh:=vn ps
     cases hq:eV ps with
     | nil=>rw [hq] at hh; cases hh
     | cons u us=>
      rw [hq] at hh; simp at hh
      simp [hh,Nv]
    ·cases C0
def M5 (f:List Int→List Int) (l:List (List Int)):List (List Int) × List (List Int):=l.foldl (λ s c=>if f c∈s.2 then s else (s.1++[c],s.2++[f c])) ([],[])
theorem Md (f:List Int→List Int) (l:List (List Int)) (c:List Int):M5 f (l++[c])=if f c∈(M5 f l).2 then M5 f l else ((M5 f l).1++[c],(M5 f l).2++[f c]):=by
 unfold M5; rw [List.foldl_append]; rfl
theorem Me (f:List Int→List Int):∀ (l:List (List Int)) (s:List (List Int) × List (List Int)),(l.foldl (λ s c=>if f c∈s.2 then s else (s.1++[c],s.2++[f c])) s).1.length≤s.1.length+l.length
 | [],s=>Nat.le_refl _
 | c::l,s=>by
  rw [List.foldl_cons]
  refine Nat.le_trans (Me f l _) ?_
  split
  ·simp
  ·simp; omega
theorem Jh (f:List Int→List Int) (l:List (List Int)):(M5 f l).1.length≤l.length:=by
 have h:(M5 f l).1.length≤([]:List (List Int)).length+l.length:=Me f l ([],[])
 simpa using h
def arw (xs:List Int):List Int:=xs++List.replicate (20 - xs.length) 0
def sL (m:Mem) (c:List Int):List Int:=arw (yh m c c.length)
def BX (m:Mem):List Nat:=Cu m (j3 m.of).toNat
def Cw (m:Mem):List (List Int):=(M5 (sL m) (eV (BX m))).1
theorem AJ (m:Mem):(BX m).length=(j3 m.of).toNat:=by unfold BX Cu; simp
theorem BY {m:Mem} (hk:vN m):0≤j3 m.of:=by
 unfold j3; split
 ·omega
 ·rename_i h
  have hx:m.of.getD (m.of.length - 1) 0∈m.of:=by rw [List.getD_eq_getElem?_getD,List.getElem?_eq_getElem (by omega)]; exact List.getElem_mem _
  have:=(hk.ofr _ hx).1
  omega
theorem akJ {m:Mem} (hk:vN m) {c:List Int} (h:c∈eV (BX m)):(c.length:Int)=j3 m.of∧jx m c=some (yh m c c.length)∧(∀ n∈c,0≤n):=by
 have hl:=qa h
 rw [AJ] at hl
 have hn:=BY hk
 have hb:∀ (k:Nat) (n:Int),k<c.length→c[k]? = some n→0≤n∧n≤(m.gG k).length:=λ k n Lh hc=>by
  have:=BW h (i:=k) (p:=(m.gG k).length) (by unfold BX; exact AG (by omega)) hc
  exact this
 refine ⟨by omega,BV (by omega) hb,λ n hn=>?_⟩
 obtain ⟨i,hi,rfl⟩:=List.getElem_of_mem hn
 exact (hb i _ hi (List.getElem?_eq_getElem hi)).1
theorem Mf {m:Mem} {d:List (List Int)} {c:List Int} {r:List (List Int)} (h:eV (BX m)=d++c::r):Xs m c=r.head?:=by
 have hl:c.length=(BX m).length:=qa (by rw [h]; simp)
 rw [AJ] at hl
 unfold Xs
 rw [hl]; exact Q9 h
def adZ (v:Value):List (List Int)→HP
 | []=>emp
 | c::_=>bK v c
theorem adZ.nil {w w0:World} {A:Nat→Prop} {L:List HP} {v:Value} (hs:St w0 A L w):St w0 A (adZ v []::L) w:=hs.new (Ext.refl w) (H:=emp) (F:=bD) (λ _ h=>h) λ _ h=>h.elim
theorem Ho (ps:List Nat):eV ps=List.replicate ps.length 0::(eV ps).tail:=by
 have:=vn ps
 cases h:eV ps with
 | nil=>rw [h] at this; cases this
 | cons x xs=>rw [h] at this; simp at this; rw [this]; rfl
theorem OD:L7 PG 20 221 3:=⟨Tryz.underlying221,oT,(jL bL).2⟩
theorem C54 (of dH:List Int) (stays:Int) (av bv:Value) (w:World) (hO:eP (λ _=>True) w av of) (SW:eP (λ _=>True) w bv dH) (hlen:of.length=dH.length) (h20:of.length≤20) (gr:0≤stays∧stays≤of.length) (T1:∀ (k:Nat) (n:Int),(k:Int)<stays→of[k]? = some n→(n=lz of k∨(0<k∧n=lz of k - 1))∧-10≤n∧n≤100):CR 54 [av,.int .i64 stays,bv] w (λ v w'=>∃ (p:Nat) (ov fv:SV),v = .tuple #[.pointer (some ⟨p,0,none⟩),.int .i64 0]∧lY (sep (bK (Flat.val ov) (of.take stays.toNat)) (sep (bK (Flat.val fv) dH) (fZ p (Flat.val ov) (Flat.val fv) (Xx of stays dH)))) w w'):=by
 have hs:=St.start w;refine ah4 _ _ _ _ _ ?_;unfold S54;refine ⟨λ jv w'=>jv = .bool (decide (of.length≠dH.length∨20<of.length∨stays<0∨of.length<stays))∧w=w',?_,?_⟩
 ·refine aJ eh (hO.ext hs.aF) (aJ eh (SW.ext hs.aF) (cR (aC (λ eE=>?_) (λ eE=>?_))))
  ·exact ⟨H9 (by omega),rfl⟩
  ·refine aJ eh (hO.ext hs.aF) (dB (aC (λ jE=>?_) (λ jE=>?_)))
   ·exact ⟨H9 (by omega),rfl⟩
   ·refine aR (aC (λ iq=>?_) (λ iq=>?_))
    ·exact ⟨H9 (by omega),rfl⟩
    ·refine aJ eh (hO.ext hs.aF) (dB ?_);exact ⟨vQ (by omega),rfl⟩
 ·rintro _ w1 ⟨rfl,hw⟩ fD;subst hw;refine aC (λ lR=>?_) (λ lR=>?_)
  ·exact absurd lR (by omega)
  ·refine mc eh (hO.ext hs.aF) (by omega) (by omega) (λ art akK=>?_);have Xy:=akK _ hO;refine aJ eh (Xy.ext hs.aF) ?_;refine ⟨λ mm l x w1=>∃ (k:Nat) (last:Int),l = .int .i64 last∧x = .int .i64 (k:Int)∧mm=(of.take stays.toNat).length - k∧k≤(of.take stays.toNat).length∧last=lz of k - 1∧-200≤last∧last≤200∧St w bD [] w1,⟨_,0,-1,rfl,rfl,rfl,Nat.zero_le _,rfl,by omega,by omega,hs⟩,?_⟩;rintro mm _ _ w2 ⟨k,last,rfl,rfl,rfl,H0,agI,hl7,hl8,hs⟩ jH;have Nv:(of.take stays.toNat).length=stays.toNat:=by rw [List.length_take]; omega
   refine aR (aC (λ ue=>?_) (λ ue=>?_))
   ·obtain ⟨qD,qk⟩:=gx (((of).take (stays).toNat)) (i:=((k:Int)).toNat) (by omega);refine aQ eh Xy (by omega) qk (λ _ ui=>?_)
    have akL:of[k]? = some qD:=by
     have h0:=qk;rw [List.getElem?_take] at h0
     split at h0
     ·exact h0
     ·cases h0
    obtain ⟨hl1,C0,hl3⟩:=T1 k _ (by omega) akL;refine aD bL (ui.ext hs.aF) ?_;refine ⟨λ jv w'=>jv = .bool (decide (qD≠last+1∧(k=0∨qD≠last)))∧w2=w',?_,?_⟩
    ·refine aO (by omega) (cR (aC (λ sB=>?_) (λ sB=>?_)))
     ·refine aH (aC (λ rC=>?_) (λ rC=>?_))
      ·exact ⟨H9 (by omega),rfl⟩
      ·refine cR ?_;exact ⟨vQ (by omega),rfl⟩
     ·exact ⟨Zv (by omega),rfl⟩
    ·rintro _ w3 ⟨rfl,hw⟩ oY;subst hw;refine aC (λ Cm=>?_) (λ Cm=>?_)
     ·exact absurd Cm (by have:=T1 k qD (by omega) akL; simp; omega)
     ·have hws:lz of (k+1)=qD+1:=by unfold lz; rw [if_neg (by omega),Nat.add_sub_cancel,List.getD_eq_getElem?_getD,akL]; rfl
      refine aO (by omega) ?_;exact ⟨_,by omega,k+1,qD,rfl,rfl,rfl,by omega,by omega,by omega,by omega,hs⟩
   ·refine mc eh (hO.ext hs.aF) (by omega) (by omega) (λ s_x58 akM=>?_);have akN:=akM _ hO;refine dF zH hs (C70 _ _ _ (akN.ext hs.aF) (by first | omega | (rw [List.length_take]; omega))) (λ x59 w4 cA hs=>dF zH hs (C70 _ _ _ (SW.ext hs.aF) (by first | omega | (rw [List.length_take]; omega))) (λ x61 w5 cA hs=>dF zH hs (C70 _ _ _ (SW.ext hs.aF) (by first | omega | (rw [List.length_take]; omega))) (λ x63 w6 cA hs=>oB (α:=jr) hs (λ b_x64 w7 hs=>?_))));obtain ⟨akO,rfl⟩:=(hs.p3).fU;obtain ⟨I3,rfl⟩:=(hs.p2).fU;obtain ⟨ayY,rfl⟩:=(hs.p1).fU;refine pop (D5 _ _ _ _ _ _ _ _ _ _) (l5 hs (λ ary w8 hs=>mc eh (SW.ext hs.aF) (by omega) (by omega) (λ agT akP=>?_)))
    have akQ:=akP _ SW;refine dF zH hs (C70 _ _ _ (akQ.ext hs.aF) (by first | omega | (rw [List.length_take]; omega))) (λ x71 w9 cA hs=>aE (aA zW (aV hs.p1 eB (eK rfl) ((hs).fF.one) (λ pP hs=>?_))));have hs:=fZ.shut (m:=Xx of stays dH) hs.p4.p5.p4.p4.p5.p5;exact ⟨ary,akO,I3,rfl,(St.join (St.join hs.p2).p1).fresh⟩
theorem C69 (p:Nat) (m:Mem) (ov fv:SV) (w:World) (c0:Cell w p 0 (Flat.val ov)) (c1:Cell w p 1 (Flat.val fv)) (hm:vm w p m) (hk:vN m) (hb:MB m 1000000):CR 69 [(.pointer (some ⟨p,0,none⟩))] w (λ v w'=>∃ b,v = .pointer (some ⟨b,0,none⟩)∧lY (fZ b (Flat.val ov) (Flat.val fv) m) w w'):=by
 have Fj:=hm;obtain ⟨ov2,fv2,lv,kv,pm,_,_,c2,c3,c4,hO,SW,hL,hKp,hP⟩:=hm;obtain ⟨es,clock,Za,gr,hkv,Bd⟩:=hP.es;have h20:=hk.fl;have T4:=hk.SU;have NQ:=hk.ll;have Lh:=hk.kl;have QG:=hk.lb;have hs:=St.start w;refine aik _ _ _ ?_;unfold S69;refine ⟨λ c3 w'=>∃ b lv1 kv1 pm1,c3 = .pointer (some ⟨b,0,none⟩)∧St w bD [cH b [Flat.val ov,Flat.val fv,lv1,kv1,.map (some pm1)],bK lv1 m.l,bK kv1 m.kept,oP pm1 (λ _=>([]:List jr))] w',?_,?_⟩
 ·refine aE (aA tW (have hs:=hs.drew;cE eB (c0.ext hs.aF) (aE (aA KH (cE eB (c1.ext hs.aF) ?_)))));refine ⟨?_,?_⟩
  ·refine dF ais hs (C72 _ m _ (Fj.ext hs.aF) hk) (λ x15 w1 cA hs=>?_);refine ⟨aG eB (c0.ext hs.aF),?_⟩;refine ⟨aG eB (c1.ext hs.aF),?_⟩;refine ⟨?_,?_⟩
   ·refine dF UB hs (C73 _ m _ (Fj.ext hs.aF) hk) (λ x17 w2 cA hs=>?_);refine ⟨aG eB (c0.ext hs.aF),?_⟩;refine ⟨aG eB (c1.ext hs.aF),?_⟩;refine oB (α:=jr) hs (λ Vr w3 hs=>?_);refine ⟨aG eB (c0.ext hs.aF),?_⟩;refine ⟨aG eB (c1.ext hs.aF),?_⟩;obtain ⟨akR,rfl⟩:=(hs.p2).fU;obtain ⟨Wy,rfl⟩:=(hs.p1).fU;refine pop (oV _ _ _ _ _ _ _ _ _ _ _ _ _) (l5 hs (λ b_x20 w4 hs=>?_));have hs:=hs.p1.p2.p3.p3;exact ⟨_,_,_,_,rfl,hs⟩
   ·refine ⟨?_,?_⟩
    ·refine oB (α:=jr) hs (λ auc w5 hs=>?_);refine ⟨aG eB (c0.ext hs.aF),?_⟩;refine ⟨aG eB (c1.ext hs.aF),?_⟩;refine dF UB hs (C73 _ m _ (Fj.ext hs.aF) hk) (λ aqM w6 cA hs=>?_);refine ⟨aG eB (c0.ext hs.aF),?_⟩;refine ⟨aG eB (c1.ext hs.aF),?_⟩;obtain ⟨akR,rfl⟩:=(hs.p2).fU;obtain ⟨LR,rfl⟩:=(hs).fU;refine pop (oV _ _ _ _ _ _ _ _ _ _ _ _ _) (l5 hs (λ aud w7 hs=>?_));have hs:=hs.p2.p2.p3.p3;exact ⟨_,_,_,_,rfl,hs⟩
    ·trivial
  ·refine ⟨?_,?_⟩
   ·refine oB (α:=jr) hs (λ aue w8 hs=>?_);refine ⟨aG eB (c0.ext hs.aF),?_⟩;refine ⟨aG eB (c1.ext hs.aF),?_⟩;refine dF ais hs (C72 _ m _ (Fj.ext hs.aF) hk) (λ x15_1 w9 cA hs=>?_);refine ⟨aG eB (c0.ext hs.aF),?_⟩;refine ⟨aG eB (c1.ext hs.aF),?_⟩;refine dF UB hs (C73 _ m _ (Fj.ext hs.aF) hk) (λ aqN pP cA hs=>?_);refine ⟨aG eB (c0.ext hs.aF),?_⟩;refine ⟨aG eB (c1.ext hs.aF),?_⟩;obtain ⟨arC,rfl⟩:=(hs.p1).fU;obtain ⟨LS,rfl⟩:=(hs).fU;refine pop (oV _ _ _ _ _ _ _ _ _ _ _ _ _) (l5 hs (λ auf sZ hs=>?_));have hs:=hs.p3.p2.p3.p3
    exact ⟨_,_,_,_,rfl,hs⟩
   ·trivial
 ·rintro _ vy ⟨b,lv1,kv1,pm1,rfl,hs⟩ fD;refine aE (aA m8 (cE sm (c4.ext hs.aF) (SX hs Tryz.underlying201 (Fl Za hs.aF) (λ r25 vz hs=>?_))));have hs:=hs.p4.p4.p4.p4.p4;refine ⟨λ mm w1=>∃ (seen:Array Nat) (done:List Int),mm=(leftOf es seen).size∧(∀ e∈es.toList,seen.contains e.born=true→∃ k∈done,e.key = .int .i64 k)∧St w bD [Hn r25 pm clock seen,cH b [Flat.val ov,Flat.val fv,lv1,kv1,.map (some pm1)],bK lv1 m.l,bK kv1 m.kept,oP pm1 (λ k=>if k∈done then m.gG k else [])] w1,⟨_,#[],[],rfl,λ e he hc=>by simp at hc,by simpa using hs⟩,?_⟩;rintro mm su ⟨seen,done,rfl,agU,hs⟩ jH
  refine Xu hs (Fl Za hs.aF) gr.1 (λ h0=>?_) (λ e wm he hs=>?_)
  ·refine bE rfl (fJ ?_);have hs:=(hs.drop.p3.p3.p3).p3
   have hg:(λ k=>if k∈done then m.gG k else [])=m.gG:=by
    funext k
    by_cases hd:k∈done
    ·rw [if_pos hd]
    ·rw [if_neg hd];refine (Bd k λ e he Xz=>hd ?_).symm;obtain ⟨k2,H0,hk3⟩:=agU e he (all_seen es seen h0 e he);rw [Xz] at hk3; cases hk3; exact H0
   rw [hg] at hs;exact ⟨b,rfl,(fZ.shut hs).fresh⟩
  ·obtain ⟨k,sk,Xz,hev,hrk⟩:=hkv e (mem_left he).1;refine bE rfl (nT (SY hs (Fl Za hs.aF) (mem_left he).1 gr.2.1 ?_));rw [Xz,hev];refine bE rfl (bE rfl (aE (aA m8 (have hs:=hs.drew;aB sm hs.p1.hb rfl (dF anN hs (C137 _ _ _ (hrk.ext hs.aF) (hb k)) (λ x37 zq cA hs=>?_))))));refine ⟨aG sm (hs.p2.hb.cell rfl),?_⟩;obtain ⟨s_w17,hs⟩:=(hs.p5).Fh (k:=k);have hs:=hs.drop;obtain ⟨pa,rfl⟩:=(hs.p1).fU;have hs:=hs.p1;refine Ct hs Tryz.underlying201 oT (λ CH hs=>?_);have hs:=hs.p4.p4.p4.p4;refine ⟨_,left_shrinks es seen e he,seen.push e.born,k::done,rfl,λ e2 he2 hc=>?_,?_⟩
   ·rcases Fm hc with h | h
    ·obtain ⟨k2,h1,h2⟩:=agU e2 he2 h; exact ⟨k2,List.mem_cons_of_mem _ h1,h2⟩
    ·obtain rfl:=born_inj gr.2.1 he2 (mem_left he).1 h; exact ⟨k,List.mem_cons_self,Xz⟩
   ·have hg:tq (λ k=>if k∈done then m.gG k else []) k (m.gG k)=(λ k'=>if k'∈k::done then m.gG k' else []):=by
     funext k'; unfold tq
     by_cases e:k'=k
     ·subst e; simp
     ·simp [e]
    rw [hg] at hs; exact hs
theorem C82 (p:Nat) (m:Mem) (w:World) (hm:vm w p m) (hk:vN m) (hb:MB m 1000000) (hC:(eV (BX m)).length≤1000000000):CR 82 [(.pointer (some ⟨p,0,none⟩))] w (λ v w'=>lY (fq v (Cw m)) w w'):=by
 have Fj:=hm;obtain ⟨ov,fv,lv,kv,pm,c0,c1,c2,c3,c4,hO,SW,hL,hKp,hP⟩:=hm;have h20:=hk.fl;have T4:=hk.SU;have NQ:=hk.ll;have Lh:=hk.kl;have QG:=hk.lb;have hs:=St.start w;refine aiu _ _ _ ?_;unfold S82;refine L9 (n:=20) hs (λ b10 w1 hs=>aZ UG hs (C144 _ m _ (Fj.ext hs.aF) hk) (λ w2 he hs=>?_));have hnn:=BY hk;refine vZ (0:Int) hs eh Cg (by omega) (by omega) (by decide) (λ s_x13 w3 hs=>?_);have hs:=(((hs.xY (α:=List Int)).p1).p2).p2;refine ⟨λ mm ga qG is6 w1=>∃ (done rest:List (List Int)),eV (BX m)=done++rest∧is6 = .bool (!rest.isEmpty)∧mm=rest.length∧St w bD [fq ga (M5 (sL m) done).1,OC b10 20 (M5 (sL m) done).2,adZ qG rest] w1,⟨_,[],eV (BX m),rfl,by rw [Ho (BX m)]; rfl,rfl,by rw [Ho (BX m),AJ]; exact hs⟩,?_⟩
 rintro mm ga qG _ w4 ⟨done,rest,mB,rfl,rfl,hs⟩ fD;refine aX (λ XA=>?_) (λ XA=>?_)
 ·obtain ⟨c,rest,rfl⟩:∃ c r,rest=c::r:=by cases rest with | nil=>cases XA | cons c r=>exact ⟨c,r,rfl⟩
  change St w bD [fq ga (M5 (sL m) done).1,OC b10 20 (M5 (sL m) done).2,bK qG c] _ at hs
  have M6:c∈eV (BX m):=by rw [mB]; simp
  have hco:=akJ hk M6;have QO:=hco.1;have hdl:=Jh (sL m) done;have hdn:done.length≤(eV (BX m)).length:=by rw [mB]; simp
  have hil:(yh m c c.length).length≤20:=by rw [uA]; omega
  have vv:(sL m c).length=20:=by unfold sL arw; rw [List.length_append,List.length_replicate]; omega
  refine ⟨λ o w'=>St w bD [fq o (M5 (sL m) (done++[c])).1,OC b10 20 (M5 (sL m) (done++[c])).2,bK qG c] w',?_,?_⟩
  ·refine eA afi (C125 _ m c _ _ (Fj.ext hs.aF) hk hb (hs.p2).fF (by omega)) ?_;rintro v24 w5 hh;obtain ⟨oH,o24,hi,rfl,cA⟩:=hh.resolve_left (λ h=>by rw [hco.2.1] at h; cases h.1);obtain rfl:oH=(yh m c c.length):=Option.some.inj (hi.symm.trans hco.2.1);have hs:=hs.made cA;refine bE rfl (bE rfl (aN hs ab6 (λ ay0 w6 hs=>SZ OD (Mb hs eh (hs.p1).fF hil (by simp; omega) (λ w7 hs=>have hs:=hs.enc (cs':=(sL m c).map (Value.int .i64)) (by exact akI (n:=20) hil);qX afL hs.hb (by rw [List.length_map]; exact vv) (adW hs.p3 Tryz.underlying218 OD afH vv ?_))))))
   first | refine DK ?_ | refine cC ?_
   refine aC (λ nE=>?_) (λ nE=>?_)
   ·refine qX afL hs.hb (by rw [List.length_map]; exact vv) (adX hs.p3 Tryz.underlying218 OD vv nE (λ w8 hs=>dF zH hs (C70 _ _ _ (hs.p4).fF (by omega)) (λ x38 w9 cA hs=>?_)));obtain ⟨XB,rfl⟩:=(hs).fU;have hs:=hs.freeze.dU (Ψ:=λ w=>bZ.dr w XB ((c))) (λ w h=>DL.fx h);refine eQ (s:=XB) (x:=(c)) hs yq (by decide) (λ agp pP hs=>have hs:=hs.p4;ej hs yq (by simp; omega) (by decide) (λ aqq sZ hs=>?_));have hs:=((hs.p2.drop.p2.drop.p2).p2).p2;rw [Md,if_neg (by simpa using nE)];exact hs
   ·have hs:=(((((hs.drop)).drop).p2).p2).p2;rw [Md,if_pos (by simpa using nE)];exact hs
  ·rintro nq vy hs jH;refine eA anO (C145 _ m c _ _ (Fj.ext hs.aF) hk hb (hs.p2).fF (by omega) hco.2.2) ?_;rintro v_x18 vz akS
   rcases akS with ⟨hn,rfl,he⟩ | ⟨c2,o18,hn,rfl,cA⟩
   ·have hs:=hs.ext he;refine bE rfl (bE rfl ?_);rw [Mf mB] at hn;have hs:=(hs.p2.drop.p1).p1;obtain rfl:rest=[]:=by simpa using hn
    exact ⟨_,by simp,done++[c],[],by rw [mB]; simp,rfl,rfl,(adZ.nil hs).p2.p2⟩
   ·have hs:=hs.made cA;refine bE rfl (bE rfl ?_);rw [Mf mB] at hn;have hs:=(hs.p3.drop.p2).p2;obtain ⟨r2,rfl⟩:∃ r,rest=c2::r:=by cases rest with | nil=>cases hn | cons y r=>exact ⟨r,by simp at hn; rw [hn]⟩
    exact ⟨_,by simp,done++[c],c2::r2,by rw [mB]; simp,rfl,rfl,hs⟩
 ·have hs:=((hs.p1.drop).p1).drop;obtain rfl:rest=[]:=by cases rest with | nil=>rfl | cons c r=>cases XA
  rw [List.append_nil] at mB;unfold Cw;rw [mB];exact hs.fresh
structure fG where
 code:fu
 at_:Int
 aK:List Int
 counts:List Int
 fault:Int
 e:Int
 f:Int
 buf:List bJ
def Fp (K:World→Prop) (gl:Value) (l:List aW):Prop:=∃ ts:List bU,∀ w,K w→eP (λ _=>True) w gl ts∧jV ts l w
def eI (K:World→Prop) (p:Nat) (room:Int) (t:fG):HP:=ua λ bp:Nat=>ua λ gl=>ua λ rg=>ua λ cn=>fact (Fp K gl t.code.l)
 (sep (cH p [.pointer (some ⟨bp,0,none⟩),.int .i64 t.code.aK,.int .i64 t.code.counts,gl,.int .i64 t.at_,rg,cn,.int .i64 t.fault,.int .i64 t.e,.int .i64 t.f]) (sep (nM bp room t.buf) (sep (bK rg t.aK) (bK cn t.counts))))
section
variable {w w0:World} {A:Nat→Prop} {R:List HP} {p:Nat} {K:World→Prop} {room:Int} {t:fG}
theorem eI.open (hs:St w0 A (eI K p room t::R) w):∃ bp gl rg cn,Fp K gl t.code.l∧St w0 A (cH p [.pointer (some ⟨bp,0,none⟩),.int .i64 t.code.aK,.int .i64 t.code.counts,gl,.int .i64 t.at_,rg,cn,.int .i64 t.fault,.int .i64 t.e,.int .i64 t.f]::nM bp room t.buf::bK rg t.aK::bK cn t.counts::R) w:=by
 obtain ⟨bp,hs⟩:=hs.eZ; obtain ⟨gl,hs⟩:=hs.eZ; obtain ⟨rg,hs⟩:=hs.eZ; obtain ⟨cn,hs⟩:=hs.eZ; obtain ⟨hk,hs⟩:=hs.oL
 have h1:=hs.split
 have h2:=h1.p1.split
 have h3:=h2.p1.split
 exact ⟨bp,gl,rg,cn,hk,h3.p2.p3⟩
theorem eI.shut {bp:Nat} {gl rg cn:Value} (hk:Fp K gl t.code.l) (hs:St w0 A (cH p [.pointer (some ⟨bp,0,none⟩),.int .i64 t.code.aK,.int .i64 t.code.counts,gl,.int .i64 t.at_,rg,cn,.int .i64 t.fault,.int .i64 t.e,.int .i64 t.f]::nM bp room t.buf::bK rg t.aK::bK cn t.counts::R) w):St w0 A (eI K p room t::R) w:=by
 have h1:=St.join (hs.p3.p3)
 have h2:=St.join h1.p2
 exact St.eU bp (St.eU gl (St.eU rg (St.eU cn (St.qx hk (St.join h2.p1)))))
theorem eI.rd (h:Has (eI K p room t) w):∃ bp gl rg cn,Fp K gl t.code.l∧tL w p [.pointer (some ⟨bp,0,none⟩),.int .i64 t.code.aK,.int .i64 t.code.counts,gl,.int .i64 t.at_,rg,cn,.int .i64 t.fault,.int .i64 t.e,.int .i64 t.f]∧wN w bp room t.buf∧eP (λ _=>True) w rg t.aK∧eP (λ _=>True) w cn t.counts:=by
 obtain ⟨F,hs⟩:=h.st
 obtain ⟨bp,gl,rg,cn,hk,hs⟩:=eI.open hs
 exact ⟨bp,gl,rg,cn,hk,hs.hb,Q3 hs.p1,hs.p2.fF,hs.p3.fF⟩
end
def gP (t:fG):Option aW:=if (t.code.l.length:Int)≤t.at_ then none else t.code.l[t.at_.toNat]?
def eC (l:List nw) (aK:List Int):Int × Bool:=if l.length=0 then (0,true) else ((runM l aK).1,decide ((runM l aK).2=0))
def tE (t:fG) (x:aW):fG:={t with fault:=if (eC x.e t.aK).2=true then t.fault else 2,e:=(eC x.e t.aK).1}
def tF (t:fG) (x:aW):fG:={t with fault:=if (eC x.f t.aK).2=true then t.fault else 2,f:=(eC x.f t.aK).1}
def wQ (t:fG) (x:aW) (e:Int):fG × Bool:=
 if x.kind=1 then ({t with aK:=t.aK.set x.a.toNat e,at_:=t.at_+1},true)
 else if x.kind=11 then ({t with at_:=x.to},true)
 else if x.kind=12 then (if e=0 then ({t with at_:=x.to},true) else ({t with at_:=t.at_+1},true))
 else if x.kind=13 then ({t with counts:=t.counts.set x.a.toNat x.b,at_:=t.at_+1},true)
 else if x.kind=14 then (if 0<rf (t.counts.getD x.a.toNat 0 - 1) then ({t with counts:=t.counts.set x.a.toNat (rf (t.counts.getD x.a.toNat 0 - 1)),at_:=x.to},true) else ({t with counts:=t.counts.set x.a.toNat (rf (t.counts.getD x.a.toNat 0 - 1)),at_:=t.at_+1},true))
 else if x.kind=15 then (if e=0 then ({t with fault:=1},false) else ({t with at_:=t.at_+1},true))
 else (t,false)
def fN (t:fG):fG × Bool:=match gP t with
 | none=>(t,false)
 | some x=>if (eC x.e t.aK).2=true then (if (eC x.f t.aK).2=true then wQ (tF (tE t x) x) x (eC x.e t.aK).1 else (tF (tE t x) x,false)) else (tE t x,false)
def rZ:Nat→fG→Option fG
 | 0,_=>none
 | n+1,t=>if (fN t).2=true then rZ n (fN t).1 else some (fN t).1
structure BZ (c:fu):Prop where
 len:c.l.length≤1000000
 rb:0≤c.aK∧c.aK≤1000
 cb:0≤c.counts∧c.counts≤1000
 ops:∀ x∈c.l,x.e.length≤1000∧x.f.length≤1000∧0≤x.to∧x.to≤1000000
 set:∀ x∈c.l,x.kind=1→0≤x.a∧x.a<c.aK
 cnt:∀ x∈c.l,x.kind=13∨x.kind=14→0≤x.a∧x.a<c.counts
structure Hp (t:fG):Prop where
 code:BZ t.code
 rg:(t.aK.length:Int)=t.code.aK
 cn:(t.counts.length:Int)=t.code.counts
 T0:0≤t.at_
 bl:t.buf.length≤1000
theorem pj {t:fG} {x:aW} (h:gP t=some x):x∈t.code.l∧t.at_<t.code.l.length:=by
 unfold gP at h
 split at h
 ·cases h
 ·exact ⟨List.mem_of_getElem? h,by omega⟩
theorem akT {t:fG} {x:aW} {e:Int} (h:Hp t) (hx:x∈t.code.l):Hp (wQ t x e).1:=by
 have h1:=h.T0; have h2:=(h.code.ops x hx).2.2.1; have h3:=h.rg; have h4:=h.cn
 unfold wQ
 repeat' split
 all_goals first
  | exact ⟨h.code,h3,h4,h2,h.bl⟩
  | exact ⟨h.code,h3,h4,h1,h.bl⟩
  | exact ⟨h.code,h3,h4,(by show 0≤t.at_+1; omega),h.bl⟩
  | exact ⟨h.code,(by simpa using h3),h4,(by show 0≤t.at_+1; omega),h.bl⟩
  | exact ⟨h.code,h3,(by simpa using h4),(by show 0≤t.at_+1; omega),h.bl⟩
  | exact ⟨h.code,h3,(by simpa using h4),h2,h.bl⟩
theorem lE {t:fG} (h:Hp t):Hp (fN t).1:=by
 unfold fN
 cases hn:gP t with
 | none=>exact h
 | some x=>
  have hx:=(pj hn).1
  have he:Hp (tE t x):=⟨h.code,h.rg,h.cn,h.T0,h.bl⟩
  have hf:Hp (tF (tE t x) x):=⟨h.code,h.rg,h.cn,h.T0,h.bl⟩
  dsimp only
  split
  ·split
   ·exact akT hf hx
   ·exact hf
  ·exact he
theorem XC {n:Nat} {t tR:fG} (h:rZ n t=some tR):∃ k,n=k+1:=by
 cases n with
 | zero=>cases h
 | succ k=>exact ⟨k,rfl⟩
theorem wR {k:Nat} {t tR t':fG} (h:rZ (k+1) t=some tR) (hs:fN t=(t',true)):rZ k t'=some tR:=by
 unfold rZ at h; rw [hs] at h; exact h
theorem AK {k:Nat} {t tR t':fG} (h:rZ (k+1) t=some tR) (hs:fN t=(t',false)):tR=t':=by
 unfold rZ at h; rw [hs] at h; exact (Option.some.inj h).symm
section
variable {t:fG} {x:aW} {e:Int}
theorem XD (h:x.kind=1):wQ t x e=({t with aK:=t.aK.set x.a.toNat e,at_:=t.at_+1},true):=by unfold wQ; rw [if_pos h]
theorem OE (h:x.kind=11):wQ t x e=({t with at_:=x.to},true):=by unfold wQ; simp [h]
theorem Ji (h:x.kind=12) (he:e=0):wQ t x e=({t with at_:=x.to},true):=by unfold wQ; simp [h,he]
theorem Jj (h:x.kind=12) (he:¬ e=0):wQ t x e=({t with at_:=t.at_+1},true):=by unfold wQ; simp [h,he]
theorem OF (h:x.kind=13):wQ t x e=({t with counts:=t.counts.set x.a.toNat x.b,at_:=t.at_+1},true):=by unfold wQ; simp [h]
theorem Jk (h:x.kind=14) (he:0<rf (t.counts.getD x.a.toNat 0 - 1)):wQ t x e=({t with counts:=t.counts.set x.a.toNat (rf (t.counts.getD x.a.toNat 0 - 1)),at_:=x.to},true):=by unfold wQ; simp only [h,if_neg (show ¬ (14:Int)=1 by decide),if_neg (show ¬ (14:Int)=11 by decide),if_neg (show ¬ (14:Int)=12 by decide),if_neg (show ¬ (14:Int)=13 by decide),if_pos he,if_true]
theorem Jl (h:x.kind=14) (he:¬ 0<rf (t.counts.getD x.a.toNat 0 - 1)):wQ t x e=({t with counts:=t.counts.set x.a.toNat (rf (t.counts.getD x.a.toNat 0 - 1)),at_:=t.at_+1},true):=by unfold wQ; simp only [h,if_neg (show ¬ (14:Int)=1 by decide),if_neg (show ¬ (14:Int)=11 by decide),if_neg (show ¬ (14:Int)=12 by decide),if_neg (show ¬ (14:Int)=13 by decide),if_neg he,if_true]
theorem Jm (h:x.kind=15) (he:e=0):wQ t x e=({t with fault:=1},false):=by unfold wQ; simp [h,he]
theorem Jn (h:x.kind=15) (he:¬ e=0):wQ t x e=({t with at_:=t.at_+1},true):=by unfold wQ; simp [h,he]
theorem OG (h1:¬ x.kind=1) (h2:¬ x.kind=11) (h3:¬ x.kind=12) (h4:¬ x.kind=13) (h5:¬ x.kind=14) (h6:¬ x.kind=15):wQ t x e=(t,false):=by unfold wQ; rw [if_neg h1,if_neg h2,if_neg h3,if_neg h4,if_neg h5,if_neg h6]
theorem AL (h:gP t=none):fN t=(t,false):=by unfold fN; rw [h]
theorem AM (h:gP t=some x) (h2:(eC x.e t.aK).2=false):fN t=(tE t x,false):=by unfold fN; rw [h]; dsimp only; rw [h2]; rfl
theorem AN (h:gP t=some x) (h2:(eC x.e t.aK).2=true) (h3:(eC x.f t.aK).2=false):fN t=(tF (tE t x) x,false):=by unfold fN; rw [h]; dsimp only; rw [h2,h3]; rfl
theorem kI (h:gP t=some x) (h2:(eC x.e t.aK).2=true) (h3:(eC x.f t.aK).2=true):fN t=wQ (tF (tE t x) x) x (eC x.e t.aK).1:=by unfold fN; rw [h]; dsimp only; rw [h2,h3]; rfl
end
theorem C65 (K:World→Prop) (p:Nat) (room:Int) (t:fG) (w:World) (hh:Has (eI K p room t) w) (hw:K w) (oM:Hp t):CR 65 [(.pointer (some ⟨p,0,none⟩))] w (λ v w'=>(gP t=none∧v = .tuple #[Flat.val (⟨0,0,0,⟨none,0,0⟩,⟨none,0,0⟩,0⟩:bU),.bool false]∧Ext w w')∨∃ x xv,gP t=some x∧(∀ w,K w→bZ.dr w xv x)∧v = .tuple #[Flat.val (xv:bU),.bool true]∧Ext w w'):=by
 obtain ⟨bp,gl,rg,cn,⟨ts0,hts⟩,oC,hB,BJ,Ze⟩:=eI.rd hh;have c0:=oC.cell (o:=0) rfl;have c3:=oC.cell (o:=3) rfl;have c4:=oC.cell (o:=4) rfl;have c7:=oC.cell (o:=7) rfl;have hDL0:True:=trivial;have hR0:=(hts w hw).1;have hD0:=(hts w hw).2;have hn0:=hD0.1;have QO:=oM.code.len;have ay2:=oM.T0;have hs:=St.start w;refine aif _ _ _ ?_;unfold S65;refine aN hs mF (λ mf w1 hs=>have hs:=hs.enc (cs':=Flat.enc (⟨0,0,0,⟨none,0,0⟩,⟨none,0,0⟩,0⟩:bU)) rfl;aE (aA kr (have hs:=hs.drew;cE bL (c4.ext hs.aF) (aE (aA KD (aA mD (cE uS (c3.ext hs.aF) (aJ kT (hR0.ext hs.aF) (dK (aC (λ gX=>?_) (λ gX=>?_)))))))))))
 ·refine pop (v:=Flat.val (⟨0,0,0,⟨none,0,0⟩,⟨none,0,0⟩,0⟩:bU)) (by kernel_rfl) (aI (x:=(⟨0,0,0,⟨none,0,0⟩,⟨none,0,0⟩,0⟩:bU)) hs lM rfl rfl (λ w2 hs=>aD lM hs.At ?_));exact .inl ⟨by unfold gP; rw [if_pos (by omega)],rfl,hs.drop.aF⟩
 ·refine aE (aA KD (aA mD (have hs:=hs.drew;cE uS (c3.ext hs.aF) (aE (aA kr (cE bL (c4.ext hs.aF) ?_))))));obtain ⟨He,qj⟩:=gx ts0 (i:=(t.at_).toNat) (by omega);obtain ⟨eu,wJ⟩:=gx (t.code.l) (i:=(t.at_).toNat) (by omega);obtain ⟨xC,xD,rfl,I0,QU⟩:=hD0.2 _ _ _ qj wJ;refine aQ kT hR0 (by omega) qj (λ _ uq=>aD lM (uq.ext hs.aF) (aI (x:=(⟨(eu).kind,(eu).a,(eu).b,xC,xD,(eu).to⟩:bU)) hs lM rfl rfl (λ w3 hs=>aD lM hs.At ?_)));exact .inr ⟨_,_,by unfold gP; rw [if_neg (by omega)]; exact wJ,λ w hw=>(hts w hw).2.2 _ _ _ qj wJ,rfl,hs.drop.aF⟩
theorem C189 (K:World→Prop) (p:Nat) (room:Int) (t:fG) (F:Nat→Prop) (lv:Value) (xs:List nw) (w:World) (hF:(eI K p room t).p w F) (hL:∀ w',iF F w w'→eP (λ _=>True) w' lv xs) (hn:xs.length≤1000):CR 189 [(.pointer (some ⟨p,0,none⟩)),lv] w (λ v w'=>v = .tuple #[.int .i64 (eC xs t.aK).1,.bool (eC xs t.aK).2]∧qy F (eI K p room {t with fault:=if (eC xs t.aK).2=true then t.fault else 2}) w w'):=by
 have hs:=St.begin hF;refine aaQ _ _ _ _ ?_;unfold S189;refine aJ vJ (hL _ hs.aF) (aH (aC (λ fR=>?_) (λ fR=>?_)))
 ·have hv:eC xs t.aK=(0,true):=by unfold eC; rw [if_pos (by omega)]
  rw [hv];exact ⟨rfl,hs.mut⟩
 ·have hv:eC xs t.aK=((runM xs t.aK).1,decide ((runM xs t.aK).2=0)):=by unfold eC; rw [if_neg (by omega)]
  obtain ⟨bp,gl,rg,cn,qQ,hs⟩:=eI.open hs;refine aE (aA pJ (aB eB hs.hb rfl (aZ afc hs (C110 _ _ xs _ _ (hL _ hs.aF) (hs.p2).fF (by omega)) (λ w1 he hs=>bE rfl (bE rfl ?_)))));refine ⟨λ w'=>St w F [eI K p room {t with fault:=if (eC xs t.aK).2=true then t.fault else 2}] w',?_,?_⟩
  ·refine cR (aC (λ gz=>?_) (λ gz=>?_))
   ·refine aE (aA tQ (aV hs bL (eK rfl) (rfl) (λ w2 hs=>?_)));have hs:=eI.shut (t:=(⟨t.code,t.at_,t.aK,t.counts,2,t.e,t.f,t.buf⟩:fG)) qQ hs.p3.p3.p3.p3;have ht:(⟨t.code,t.at_,t.aK,t.counts,2,t.e,t.f,t.buf⟩:fG)={t with fault:=if (eC xs t.aK).2=true then t.fault else 2}:=by rw [hv]; dsimp only; rw [decide_eq_false (by omega)]; rfl
    rw [ht] at hs;exact hs
   ·have hs:=eI.shut (t:=(⟨t.code,t.at_,t.aK,t.counts,t.fault,t.e,t.f,t.buf⟩:fG)) qQ hs.p3.p3.p3.p3;have ht:(⟨t.code,t.at_,t.aK,t.counts,t.fault,t.e,t.f,t.buf⟩:fG)={t with fault:=if (eC xs t.aK).2=true then t.fault else 2}:=by rw [hv]; dsimp only; rw [decide_eq_true (by omega)]; rfl
    rw [ht] at hs;exact hs
  ·intro w3 hs fD;refine aH ?_;refine ⟨?_,hs.mut⟩;rw [hv]
theorem C122 (K:World→Prop) (p:Nat) (room:Int) (t:fG) (tR:fG) (n:Nat) (F:Nat→Prop) (w:World) (hF:(eI K p room t).p w F) (hK:∀ w',iF F w w'→K w') (oM:Hp t) (hg:rZ n t=some tR):CR 122 [(.pointer (some ⟨p,0,none⟩))] w (λ v w'=>v = .tuple #[]∧qy F (eI K p room tR) w w'):=by
 have hs:=St.begin hF;refine ZZ _ _ _ ?_;unfold S122;refine ⟨λ mm w'=>∃ t1:fG,rZ mm t1=some tR∧Hp t1∧St w F [eI K p room t1] w',⟨n,t,hg,oM,hs⟩,?_⟩;rintro mm w1 ⟨t1,FQ,tA,hs⟩ fD;obtain ⟨k,rfl⟩:=XC FQ;refine eA ZD (C65 K p room t1 _ hs.has (hK _ hs.aF) tA) ?_;rintro v_x8 w2 arD
 rcases arD with ⟨vE,rfl,he⟩ | ⟨x,xv,vE,hxv,rfl,he⟩
 ·have hs:=hs.ext he;refine bE rfl (bE rfl (aN hs mF (λ mf w3 hs=>have hs:=hs.enc (cs':=Flat.enc (⟨0,0,0,⟨none,0,0⟩,⟨none,0,0⟩,0⟩:bU)) rfl;aI (x:=(⟨0,0,0,⟨none,0,0⟩,⟨none,0,0⟩,0⟩:bU)) hs lM rfl rfl (λ w4 hs=>cC (nT ?_)))));have hs:=(hs).drop;rw [AK FQ (AL vE)];exact ⟨rfl,hs.mut⟩
 ·have hs:=hs.ext he;have hxm:=pj vE;obtain ⟨hxe,hxf,hxt0,hxt1⟩:=tA.code.ops x hxm.1;have arE:=tA.code.set x hxm.1;have agW:=tA.code.cnt x hxm.1;have hrl1:=tA.rg;have hcl1:=tA.cn;have hcll:=tA.code.len;have hat1:=tA.T0;obtain ⟨ge,gf,rfl,_,_⟩:=hxv _ (hK _ hs.aF)
  have hxE:∀ w,K w→eP (λ _=>True) w (Flat.val ge) x.e:=λ w hw=>by
   obtain ⟨ge',gf',hh,h1,_⟩:=hxv w hw;cases hh; exact DL.flat h1
  have hxF:∀ w,K w→eP (λ _=>True) w (Flat.val gf) x.f:=λ w hw=>by
   obtain ⟨ge',gf',hh,_,h2⟩:=hxv w hw;cases hh; exact DL.flat h2
  refine bE rfl (bE rfl (aN hs mF (λ mf w3 hs=>have hs:=hs.enc (cs':=Flat.enc (⟨0,0,0,⟨none,0,0⟩,⟨none,0,0⟩,0⟩:bU)) rfl;aI (x:=(⟨x.kind,x.a,x.b,ge,gf,x.to⟩:bU)) hs lM rfl rfl (λ w4 hs=>cC (fJ (aA tT (aB (v:=Flat.val (ge:SV)) xW hs.hb rfl (bI afs hs.p1 (H':=λ _=>eI K p room {t1 with fault:=if (eC x.e t1.aK).2=true then t1.fault else 2}) (Φ:=λ v _=>v = .tuple #[.int .i64 (eC x.e t1.aK).1,.bool (eC x.e t1.aK).2]) (λ F2 eW eF=>?_) ?_))))))))
  ·exact C189 K p room t1 F2 _ x.e _ eW (λ w' hc=>hxE w' (hK w' (eF w' hc).aF)) hxe
  rintro _ w5 rfl hs;refine bE rfl (bE rfl ?_);obtain ⟨bp,gl,rg,cn,qQ,hs⟩:=eI.open hs
  change St _ _ (cH p [.pointer (some ⟨bp,0,none⟩),.int .i64 t1.code.aK,.int .i64 t1.code.counts,gl,.int .i64 t1.at_,rg,cn,.int .i64 (if (eC x.e t1.aK).2=true then t1.fault else 2),.int .i64 t1.e,.int .i64 t1.f]::nM bp room t1.buf::bK rg t1.aK::bK cn t1.counts::_) _ at hs
  refine aE (aA tS (aV hs bL (eK rfl) (rfl) (λ w6 hs=>cC (aX (λ iq=>?_) (λ iq=>?_)))))
  ·have hs:=eI.shut (t:=(⟨t1.code,t1.at_,t1.aK,t1.counts,(if (eC x.e t1.aK).2=true then t1.fault else 2),(eC x.e t1.aK).1,t1.f,t1.buf⟩:fG)) qQ hs.p3.p3.p3.p3;have hs:=(hs.p1).drop;rw [AK FQ (AM vE (by simpa using iq))];exact ⟨rfl,hs.mut⟩
  ·have hs:=eI.shut (t:=(⟨t1.code,t1.at_,t1.aK,t1.counts,(if (eC x.e t1.aK).2=true then t1.fault else 2),(eC x.e t1.aK).1,t1.f,t1.buf⟩:fG)) qQ hs.p3.p3.p3.p3
   change St w F (eI K p room (tE t1 x)::_) _ at hs
   refine aA tU (aB (v:=Flat.val (gf:SV)) xW hs.p1.hb rfl (bI afs hs (H':=λ _=>eI K p room { (tE t1 x) with fault:=if (eC x.f (tE t1 x).aK).2=true then (tE t1 x).fault else 2}) (Φ:=λ v _=>v = .tuple #[.int .i64 (eC x.f t1.aK).1,.bool (eC x.f t1.aK).2]) (λ F2 eW eF=>?_) ?_))
   ·exact C189 K p room (tE t1 x) F2 _ x.f _ eW (λ w' hc=>hxF w' (hK w' (eF w' hc).aF)) hxf
   rintro _ w7 rfl hs;refine bE rfl (bE rfl ?_);obtain ⟨bp,gl,rg,cn,qQ,hs⟩:=eI.open hs
   change St _ _ (cH p [.pointer (some ⟨bp,0,none⟩),.int .i64 t1.code.aK,.int .i64 t1.code.counts,gl,.int .i64 t1.at_,rg,cn,.int .i64 (if (eC x.f t1.aK).2=true then (tE t1 x).fault else 2),.int .i64 (eC x.e t1.aK).1,.int .i64 t1.f]::nM bp room t1.buf::bK rg t1.aK::bK cn t1.counts::_) _ at hs
   refine aE (aA DW (aV hs bL (eK rfl) (rfl) (λ w8 hs=>cC (aX (λ lx=>?_) (λ lx=>?_)))))
   ·have hs:=eI.shut (t:=(⟨t1.code,t1.at_,t1.aK,t1.counts,(if (eC x.f t1.aK).2=true then (tE t1 x).fault else 2),(eC x.e t1.aK).1,(eC x.f t1.aK).1,t1.buf⟩:fG)) qQ hs.p3.p3.p3.p3;have hs:=(hs.p1).drop;rw [AK FQ (AN vE (by simpa using iq) (by simpa using lx))];exact ⟨rfl,hs.mut⟩
   ·refine aE (aA kr (aB bL hs.hb rfl (aO (by omega) ?_)));refine ⟨_,?_,λ _ _ h=>h⟩;refine aA jn (aB (v:=.int .i64 x.kind) bL hs.p4.hb rfl (aH (aC (λ jR=>?_) (λ jR=>?_))))
    ·have hx1:=arE jR;refine aE (aA pJ (have hs:=hs.drew;aB eB hs.hb rfl (aA ku (aB (v:=.int .i64 x.a) bL hs.p4.hb rfl (aE (aA tS (aB bL hs.hb rfl ?_)))))));obtain ⟨aru,akG⟩:=gx (t1.aK) (i:=(x.a).toNat) (by omega);refine dS hs.p2 eh (by omega) (by omega) (λ _ L6=>km _ hs.p2 bL L6 (by omega) (λ w9 hs=>?_));intro jH;refine aE (aA kr (aV hs.p1 bL (eK rfl) (rfl) (λ su hs=>?_)));have hs:=eI.shut (t:=(⟨t1.code,(t1.at_+1),((t1.aK).set (x.a).toNat (eC x.e t1.aK).1),t1.counts,(if (eC x.f t1.aK).2=true then (tE t1 x).fault else 2),(eC x.e t1.aK).1,(eC x.f t1.aK).1,t1.buf⟩:fG)) qQ hs.p3.p2.p3.p3
     have hs:=(hs.p1).drop
     have gr:fN t1=((⟨t1.code,(t1.at_+1),((t1.aK).set (x.a).toNat (eC x.e t1.aK).1),t1.counts,(if (eC x.f t1.aK).2=true then (tE t1 x).fault else 2),(eC x.e t1.aK).1,(eC x.f t1.aK).1,t1.buf⟩:fG),true):=by
      rw [kI vE (by simpa using iq) (by simpa using lx),XD jR]
      try rw [show (tF (tE t1 x) x).counts.getD x.a.toNat 0=nI from Ip]
      try rfl
     exact ⟨k,by omega,_,wR FQ gr,by have:=lE tA; rw [gr] at this; exact this,hs⟩
    ·refine aH (aC (λ uj=>?_) (λ uj=>?_))
     ·refine aA kx (aB (v:=.int .i64 x.to) bL hs.p4.hb rfl ?_);intro jH;refine aE (aA kr (aV hs bL (eK rfl) (rfl) (λ su hs=>?_)));have hs:=eI.shut (t:=(⟨t1.code,x.to,t1.aK,t1.counts,(if (eC x.f t1.aK).2=true then (tE t1 x).fault else 2),(eC x.e t1.aK).1,(eC x.f t1.aK).1,t1.buf⟩:fG)) qQ hs.p3.p3.p3.p3;have hs:=(hs.p1).drop
      have gr:fN t1=((⟨t1.code,x.to,t1.aK,t1.counts,(if (eC x.f t1.aK).2=true then (tE t1 x).fault else 2),(eC x.e t1.aK).1,(eC x.f t1.aK).1,t1.buf⟩:fG),true):=by
       rw [kI vE (by simpa using iq) (by simpa using lx),OE uj]
       try rw [show (tF (tE t1 x) x).counts.getD x.a.toNat 0=nI from Ip]
       try rfl
      exact ⟨k,by omega,_,wR FQ gr,by have:=lE tA; rw [gr] at this; exact this,hs⟩
     ·refine aH (aC (λ sD=>?_) (λ sD=>?_))
      ·refine aE (aA tS (aB bL hs.hb rfl (aH (aC (λ ot=>?_) (λ ot=>?_)))))
       ·refine aA kx (aB (v:=.int .i64 x.to) bL hs.p4.hb rfl ?_);intro jH;refine aE (aA kr (aV hs bL (eK rfl) (rfl) (λ su hs=>?_)));have hs:=eI.shut (t:=(⟨t1.code,x.to,t1.aK,t1.counts,(if (eC x.f t1.aK).2=true then (tE t1 x).fault else 2),(eC x.e t1.aK).1,(eC x.f t1.aK).1,t1.buf⟩:fG)) qQ hs.p3.p3.p3.p3;have hs:=(hs.p1).drop
        have gr:fN t1=((⟨t1.code,x.to,t1.aK,t1.counts,(if (eC x.f t1.aK).2=true then (tE t1 x).fault else 2),(eC x.e t1.aK).1,(eC x.f t1.aK).1,t1.buf⟩:fG),true):=by
         rw [kI vE (by simpa using iq) (by simpa using lx),Ji sD ot]
         try rw [show (tF (tE t1 x) x).counts.getD x.a.toNat 0=nI from Ip]
         try rfl
        exact ⟨k,by omega,_,wR FQ gr,by have:=lE tA; rw [gr] at this; exact this,hs⟩
       ·intro jH;refine aE (aA kr (aV hs bL (eK rfl) (rfl) (λ su hs=>?_)));have hs:=eI.shut (t:=(⟨t1.code,(t1.at_+1),t1.aK,t1.counts,(if (eC x.f t1.aK).2=true then (tE t1 x).fault else 2),(eC x.e t1.aK).1,(eC x.f t1.aK).1,t1.buf⟩:fG)) qQ hs.p3.p3.p3.p3;have hs:=(hs.p1).drop
        have gr:fN t1=((⟨t1.code,(t1.at_+1),t1.aK,t1.counts,(if (eC x.f t1.aK).2=true then (tE t1 x).fault else 2),(eC x.e t1.aK).1,(eC x.f t1.aK).1,t1.buf⟩:fG),true):=by
         rw [kI vE (by simpa using iq) (by simpa using lx),Jj sD ot]
         try rw [show (tF (tE t1 x) x).counts.getD x.a.toNat 0=nI from Ip]
         try rfl
        exact ⟨k,by omega,_,wR FQ gr,by have:=lE tA; rw [gr] at this; exact this,hs⟩
      ·refine aH (aC (λ ry=>?_) (λ ry=>?_))
       ·have hx1:=agW (.inl ry);refine aE (aA v8 (have hs:=hs.drew;aB eB hs.hb rfl (aA ku (aB (v:=.int .i64 x.a) bL hs.p4.hb rfl (aA fc (aB (v:=.int .i64 x.b) bL hs.p4.hb rfl ?_))))));obtain ⟨e_x80,ay3⟩:=gx (t1.counts) (i:=(x.a).toNat) (by omega);refine dS hs.p3 eh (by omega) (by omega) (λ _ arF=>km _ hs.p3 bL arF (by omega) (λ pP hs=>?_));intro jH;refine aE (aA kr (aV hs.p1 bL (eK rfl) (rfl) (λ su hs=>?_)));have hs:=eI.shut (t:=(⟨t1.code,(t1.at_+1),t1.aK,((t1.counts).set (x.a).toNat x.b),(if (eC x.f t1.aK).2=true then (tE t1 x).fault else 2),(eC x.e t1.aK).1,(eC x.f t1.aK).1,t1.buf⟩:fG)) qQ hs.p1.p3.p3.p3
        have hs:=(hs.p1).drop
        have gr:fN t1=((⟨t1.code,(t1.at_+1),t1.aK,((t1.counts).set (x.a).toNat x.b),(if (eC x.f t1.aK).2=true then (tE t1 x).fault else 2),(eC x.e t1.aK).1,(eC x.f t1.aK).1,t1.buf⟩:fG),true):=by
         rw [kI vE (by simpa using iq) (by simpa using lx),OF ry]
         try rw [show (tF (tE t1 x) x).counts.getD x.a.toNat 0=nI from Ip]
         try rfl
        exact ⟨k,by omega,_,wR FQ gr,by have:=lE tA; rw [gr] at this; exact this,hs⟩
       ·refine aH (aC (λ Ai=>?_) (λ Ai=>?_))
        ·have hx1:=agW (.inr Ai);refine aE (aA v8 (have hs:=hs.drew;aB eB hs.hb rfl (aA ku (aB (v:=.int .i64 x.a) bL hs.p4.hb rfl ?_))));obtain ⟨nI,XE⟩:=gx (t1.counts) (i:=(x.a).toNat) (by omega);refine dS hs.p3 eh (by omega) (by omega) (λ _ arG=>?_);have Ip:t1.counts.getD x.a.toNat 0=nI:=by rw [List.getD_eq_getElem?_getD,XE]; rfl
         refine fY hs.p3 bL arG XE (D8 (dS hs.p3 eh (by omega) (by omega) (λ _ V1=>km _ hs.p3 bL V1 (by omega) (λ sZ hs=>aE (aA v8 (have hs:=hs.drew;aB eB hs.p1.hb rfl ?_))))));have hsl:(t1.counts.set x.a.toNat (rf (nI - 1))).length=t1.counts.length:=List.length_set;refine aA ku (aB (v:=.int .i64 x.a) bL hs.p4.hb rfl ?_);obtain ⟨arH,OH⟩:=gx (((t1.counts).set (x.a).toNat (rf (nI - 1)))) (i:=(x.a).toNat) (by omega);refine dS hs eh (by omega) (by omega) (λ _ arI=>?_);have h99:arH=rf (nI - 1):=by rw [List.getElem?_set_self (by omega)] at OH; exact (Option.some.inj OH).symm
         refine fY hs bL arI OH (dB (aC (λ Ey=>?_) (λ Ey=>?_)))
         ·refine aA kx (aB (v:=.int .i64 x.to) bL hs.p4.hb rfl ?_);intro jH;refine aE (aA kr (aV hs.p1 bL (eK rfl) (rfl) (λ su hs=>?_)));have hs:=eI.shut (t:=(⟨t1.code,x.to,t1.aK,((t1.counts).set (x.a).toNat (rf (nI - 1))),(if (eC x.f t1.aK).2=true then (tE t1 x).fault else 2),(eC x.e t1.aK).1,(eC x.f t1.aK).1,t1.buf⟩:fG)) qQ hs.p1.p3.p3.p3;have hs:=(hs.p1).drop
          have gr:fN t1=((⟨t1.code,x.to,t1.aK,((t1.counts).set (x.a).toNat (rf (nI - 1))),(if (eC x.f t1.aK).2=true then (tE t1 x).fault else 2),(eC x.e t1.aK).1,(eC x.f t1.aK).1,t1.buf⟩:fG),true):=by
           rw [kI vE (by simpa using iq) (by simpa using lx),Jk Ai (by rw [show (tF (tE t1 x) x).counts.getD x.a.toNat 0=nI from Ip]; omega)]
           try rw [show (tF (tE t1 x) x).counts.getD x.a.toNat 0=nI from Ip]
           try rfl
          exact ⟨k,by omega,_,wR FQ gr,by have:=lE tA; rw [gr] at this; exact this,hs⟩
         ·intro jH;refine aE (aA kr (aV hs.p1 bL (eK rfl) (rfl) (λ su hs=>?_)));have hs:=eI.shut (t:=(⟨t1.code,(t1.at_+1),t1.aK,((t1.counts).set (x.a).toNat (rf (nI - 1))),(if (eC x.f t1.aK).2=true then (tE t1 x).fault else 2),(eC x.e t1.aK).1,(eC x.f t1.aK).1,t1.buf⟩:fG)) qQ hs.p1.p3.p3.p3;have hs:=(hs.p1).drop
          have gr:fN t1=((⟨t1.code,(t1.at_+1),t1.aK,((t1.counts).set (x.a).toNat (rf (nI - 1))),(if (eC x.f t1.aK).2=true then (tE t1 x).fault else 2),(eC x.e t1.aK).1,(eC x.f t1.aK).1,t1.buf⟩:fG),true):=by
           rw [kI vE (by simpa using iq) (by simpa using lx),Jl Ai (by rw [show (tF (tE t1 x) x).counts.getD x.a.toNat 0=nI from Ip]; omega)]
           try rw [show (tF (tE t1 x) x).counts.getD x.a.toNat 0=nI from Ip]
           try rfl
          exact ⟨k,by omega,_,wR FQ gr,by have:=lE tA; rw [gr] at this; exact this,hs⟩
        ·refine aH (aC (λ BK=>?_) (λ BK=>?_))
         ·refine aE (aA tS (aB bL hs.hb rfl (aH (aC (λ vo=>?_) (λ vo=>?_)))))
          ·refine aE (aA tQ (aV hs bL (eK rfl) (rfl) (λ vy hs=>?_)));have hs:=eI.shut (t:=(⟨t1.code,t1.at_,t1.aK,t1.counts,1,(eC x.e t1.aK).1,(eC x.f t1.aK).1,t1.buf⟩:fG)) qQ hs.p3.p3.p3.p3;have hs:=(hs.p1).drop
           have gr:fN t1=((⟨t1.code,t1.at_,t1.aK,t1.counts,1,(eC x.e t1.aK).1,(eC x.f t1.aK).1,t1.buf⟩:fG),false):=by
            rw [kI vE (by simpa using iq) (by simpa using lx),Jm BK vo]
            try rw [show (tF (tE t1 x) x).counts.getD x.a.toNat 0=nI from Ip]
            try rfl
           rw [AK FQ gr];exact ⟨rfl,hs.mut⟩
          ·intro jH;refine aE (aA kr (aV hs bL (eK rfl) (rfl) (λ su hs=>?_)));have hs:=eI.shut (t:=(⟨t1.code,(t1.at_+1),t1.aK,t1.counts,(if (eC x.f t1.aK).2=true then (tE t1 x).fault else 2),(eC x.e t1.aK).1,(eC x.f t1.aK).1,t1.buf⟩:fG)) qQ hs.p3.p3.p3.p3;have hs:=(hs.p1).drop
           have gr:fN t1=((⟨t1.code,(t1.at_+1),t1.aK,t1.counts,(if (eC x.f t1.aK).2=true then (tE t1 x).fault else 2),(eC x.e t1.aK).1,(eC x.f t1.aK).1,t1.buf⟩:fG),true):=by
            rw [kI vE (by simpa using iq) (by simpa using lx),Jn BK vo]
            try rw [show (tF (tE t1 x) x).counts.getD x.a.toNat 0=nI from Ip]
            try rfl
           exact ⟨k,by omega,_,wR FQ gr,by have:=lE tA; rw [gr] at this; exact this,hs⟩
         ·have hs:=eI.shut (t:=(⟨t1.code,t1.at_,t1.aK,t1.counts,(if (eC x.f t1.aK).2=true then (tE t1 x).fault else 2),(eC x.e t1.aK).1,(eC x.f t1.aK).1,t1.buf⟩:fG)) qQ hs.p3.p3.p3.p3;have hs:=(hs.p1).drop
          have gr:fN t1=((⟨t1.code,t1.at_,t1.aK,t1.counts,(if (eC x.f t1.aK).2=true then (tE t1 x).fault else 2),(eC x.e t1.aK).1,(eC x.f t1.aK).1,t1.buf⟩:fG),false):=by
           rw [kI vE (by simpa using iq) (by simpa using lx),OG jR uj sD ry Ai BK]
           try rw [show (tF (tE t1 x) x).counts.getD x.a.toNat 0=nI from Ip]
           try rfl
          rw [AK FQ gr];exact ⟨rfl,hs.mut⟩
structure gp where
 u:im
 room:Int
 mem:Mem
 locks:List Int
 l:List fG
 bW:Int
 fault:Int
 mv:Int
structure MA where
 lnv:SV
 fsv:SV
 thv:SV
 rcl:SV
 clv:SV
 q:Nat
 ov:Value
 fv:Value
 lk:Value
 ll:Value
 ps:List Ptr
@[reducible] def j4 (a:MA) (m:gp):List Value:=[Flat.val a.lnv,.int .i64 m.u.stays,Flat.val a.fsv,.int .i64 m.u.locks,Flat.val a.thv,.int .i64 m.u.recover.aK,.int .i64 m.u.recover.counts,Flat.val a.rcl,Flat.val a.clv,.int .i64 m.room,.pointer (some ⟨a.q,0,none⟩),a.lk,a.ll,.int .i64 m.bW,.int .i64 m.fault,.int .i64 m.mv]
structure UK (K:World→Prop) (a:MA) (m:gp):Prop where
 ln:∀ w,K w→eP (λ _=>True) w (Flat.val a.lnv) m.u.lines
 cl:∀ w,K w→DL w (Flat.val a.clv) m.u.cD
 rc:Fp K (Flat.val a.rcl) m.u.recover.l
 mem:∀ w,K w→uy a.ov a.fv m.mem w
abbrev ql (K:World→Prop) (room:Int) (s:Ptr) (t:fG):HP:=eI K s.b room t
def eJ (K:World→Prop) (p:Nat) (m:gp):HP:=ua λ a:MA=>fact (UK K a m) (sep (cH p (j4 a m)) (sep (fZ a.q a.ov a.fv m.mem) (sep (bK a.lk m.locks) (sep (bK a.ll a.ps) (iH (ql K m.room) a.ps m.l)))))
def kJ (K:World→Prop) (p:Nat) (m:gp) (i:Nat) (tp:Ptr):HP:=ua λ a:MA=>fact (UK K a m∧a.ps[i]? = some tp∧a.ps.length=m.l.length∧i<m.l.length) (sep (cH p (j4 a m)) (sep (fZ a.q a.ov a.fv m.mem) (sep (bK a.lk m.locks) (sep (bK a.ll a.ps) (qz (ql K m.room) a.ps m.l i)))))
section
variable {w w' w0:World} {A:Nat→Prop} {R:List HP} {p:Nat} {K:World→Prop} {m:gp} {a:MA} {i:Nat} {tp:Ptr} {t:fG}
theorem Hq {H1 H2 H3 H4 H5:HP} (hs:St w0 A (sep H1 (sep H2 (sep H3 (sep H4 H5)))::R) w):St w0 A (H1::H2::H3::H4::H5::R) w:=by
 have h1:=hs.split
 have h2:=h1.p1.split
 have h3:=h2.p1.split
 have h4:=h3.p1.split
 exact h4.p2.p3.p4
theorem Hr {H1 H2 H3 H4 H5:HP} (hs:St w0 A (H1::H2::H3::H4::H5::R) w):St w0 A (sep H1 (sep H2 (sep H3 (sep H4 H5)))::R) w:=by
 have h4:=St.join (hs.p4.p4)
 have h3:=St.join h4.p3
 have h2:=St.join h3.p2
 exact St.join h2.p1
theorem eJ.open (hs:St w0 A (eJ K p m::R) w):∃ a,UK K a m∧St w0 A (cH p (j4 a m)::fZ a.q a.ov a.fv m.mem::bK a.lk m.locks::bK a.ll a.ps::iH (ql K m.room) a.ps m.l::R) w:=by
 obtain ⟨a,hs⟩:=hs.eZ; obtain ⟨hu,hs⟩:=hs.oL; exact ⟨a,hu,Hq hs⟩
theorem eJ.shut (hu:UK K a m) (hs:St w0 A (cH p (j4 a m)::fZ a.q a.ov a.fv m.mem::bK a.lk m.locks::bK a.ll a.ps::iH (ql K m.room) a.ps m.l::R) w):St w0 A (eJ K p m::R) w:=
 St.eU a (St.qx hu (Hr hs))
theorem kJ.open (hs:St w0 A (kJ K p m i tp::R) w):∃ a,(UK K a m∧a.ps[i]? = some tp∧a.ps.length=m.l.length∧i<m.l.length)∧St w0 A (cH p (j4 a m)::fZ a.q a.ov a.fv m.mem::bK a.lk m.locks::bK a.ll a.ps::qz (ql K m.room) a.ps m.l i::R) w:=by
 obtain ⟨a,hs⟩:=hs.eZ; obtain ⟨hu,hs⟩:=hs.oL; exact ⟨a,hu,Hq hs⟩
theorem kJ.shut (hu:UK K a m∧a.ps[i]? = some tp∧a.ps.length=m.l.length∧i<m.l.length) (hs:St w0 A (cH p (j4 a m)::fZ a.q a.ov a.fv m.mem::bK a.lk m.locks::bK a.ll a.ps::qz (ql K m.room) a.ps m.l i::R) w):St w0 A (kJ K p m i tp::R) w:=
 St.eU a (St.qx hu (Hr hs))
structure arJ (K:World→Prop) (w:World) (p:Nat) (m:gp) (a:MA):Prop where
 uk:UK K a m
 b:tL w p (j4 a m)
 mem:vm w a.q m.mem
 c0:Cell w a.q 0 a.ov
 c1:Cell w a.q 1 a.fv
 lk:eP (λ _=>True) w a.lk m.locks
 ll:eP (λ _=>True) w a.ll a.ps
 th:∀ (i:Nat) (s:Ptr) (t:fG),a.ps[i]? = some s→m.l[i]? = some t→Has (eI K s.b m.room t) w
 len:a.ps.length=m.l.length
theorem eJ.rd (h:Has (eJ K p m) w) (hK:K w):∃ a,arJ K w p m a:=by
 obtain ⟨F,hs⟩:=h.st
 obtain ⟨a,hu,hs⟩:=eJ.open hs
 have hc:Cell w a.q 0 a.ov∧Cell w a.q 1 a.fv:=by
  obtain ⟨lv,kv,pm,h⟩:=fZ.open hs.p1; exact ⟨h.hb.cell rfl,h.hb.cell rfl⟩
 exact ⟨a,hu,hs.hb,Je hs.p1 (hu.mem _ hK),hc.1,hc.2,hs.p2.fF,hs.p3.fF,λ i s t h1 h2=>hs.p4.apd h1 h2 (Φ:=λ w=>Has (eI K s.b m.room t) w) λ h=>⟨_,h⟩,hs.p4.lu⟩
theorem XF {ps:List Ptr} (hs:St w0 A (iH (ql K m.room) ps m.l::R) w) (hp:ps[i]? = some tp) (ht:m.l[i]? = some t):St w0 A (eI K tp.b m.room t::qz (ql K m.room) ps m.l i::R) w:=hs.focus hp ht
theorem Mg (hs:St w0 A (eI K tp.b m.room t::kJ K p m i tp::R) w):St w0 A (eJ K p {m with l:=m.l.set i t}::R) w:=by
 obtain ⟨a,⟨hu,hp,hl,hi⟩,hs⟩:=kJ.open hs.p1
 have h1:St w0 A (ql K m.room tp t::qz (ql K m.room) a.ps m.l i::_) w:=(hs.p4).p5
 have h2:=h1.sr hi hl hp
 have h3:=h2.p4.p4.p4.p4
 exact eJ.shut (m:={m with l:=m.l.set i t}) ⟨hu.ln,hu.cl,hu.rc,hu.mem⟩ h3
end
def AO (m:gp) (t:fG):Bool:=match gP t with
 | none=>false
 | some x=>if t.fault≠0 then true else if x.kind=3∨x.kind=5∨x.kind=6∨x.kind=7 then !decide (m.room≤t.buf.length) else if x.kind=4∨x.kind=8∨x.kind=10 then decide (t.buf.length=0) else if x.kind=9 then decide (t.buf.length=0) && decide (m.locks.getD x.b.toNat 0 = -1) else true
def tB (m:gp) (i:Nat) (t:fG):List eo:=(if AO m t=true then [⟨1,i,0,[]⟩] else [])++(AB t.buf).map λ k=>⟨2,i,k,[]⟩
def kZ (m:gp) (k:Nat):List eo:=(List.range k).flatMap λ i=>match m.l[i]? with | some t=>tB m i t | none=>[]
def cQ (m:gp):List eo:=if m.fault≠0 then [] else kZ m m.l.length
def cK (m:gp):List eo:=if m.fault≠0 then [] else (Cw m.mem).map λ c=>⟨3,0,0,c⟩
theorem AP {m:gp} {k:Nat} {t:fG} (h:m.l[k]? = some t):kZ m (k+1)=kZ m k++tB m k t:=by
 unfold kZ; rw [List.range_succ,List.flatMap_append]; simp [h]
structure qE (m:gp):Prop where
 mem:vN m.mem
 th:∀ t∈m.l,Hp t
 tl:m.l.length≤1000
 lk:(m.locks.length:Int)=m.u.locks
 lkb:∀ t∈m.l,∀ x∈t.code.l,x.kind=9∨x.kind=10→0≤x.b∧x.b<m.u.locks
 lnb:∀ t∈m.l,∀ x∈t.code.l,x.kind=3→0≤x.b∧x.b<m.u.lines.length
 arK:∀ t∈m.l,∀ x∈t.code.l,x.kind=2∨x.kind=4→0≤x.a∧x.a<t.code.aK
 rm:1≤m.room∧m.room≤16
 st:∀ t∈m.l,∀ x,gP t=some x→t.fault=0→2≤x.kind∧x.kind≤10
 nl:∀ n∈m.u.lines,-1≤n∧n≤1000
theorem Hs (l:List bJ):(AB l).length≤l.length:=by have:=Hj l l.length; rw [Ff l rfl] at this; exact this
theorem C66 (K:World→Prop) (p:Nat) (room:Int) (t:fG) (w:World) (hh:Has (eI K p room t) w) (yR:t.buf.length≤1000):CR 66 [(.pointer (some ⟨p,0,none⟩))] w (λ v w'=>v = .bool (decide (t.buf.length=0))∧Ext w w'):=by
 obtain ⟨bp,gl,rg,cn,⟨ts0,hts⟩,oC,hB,BJ,Ze⟩:=eI.rd hh;have XG:=oC.cell (o:=0) rfl;have ct7:=oC.cell (o:=7) rfl;have hs:=St.start w;refine aih _ _ _ ?_;unfold S66;refine aE (aA mZ (cE qY (XG.ext hs.aF) (dF aiF hs (C91 bp _ _ _ (hB.ext hs.aF) (by omega)) (λ x7 w1 cA hs=>aJ oU (hs).fF (aH ?_)))));exact ⟨vb (decide_eq_decide.2 (by omega)),hs.drop.aF⟩
theorem C56 (K:World→Prop) (p:Nat) (m:gp) (q:Nat) (t:fG) (w:World) (hm:Has (eJ K p m) w) (hw:K w) (uM:∀ w',Ext w w'→K w') (lZ:qE m) (hh:Has (eI K q m.room t) w) (Bf:t∈m.l):CR 56 [(.pointer (some ⟨p,0,none⟩)),(.pointer (some ⟨q,0,none⟩))] w (λ v w'=>v = .bool (AO m t)∧Ext w w'):=by
 obtain ⟨a,hr⟩:=eJ.rd hm hw;have Zf:=hr.b.cell (o:=8) rfl;have cm0:=hr.b.cell (o:=0) rfl;have XH:=hr.b.cell (o:=1) rfl;have cm3:=hr.b.cell (o:=3) rfl;have cm9:=hr.b.cell (o:=9) rfl;have B0:=hr.b.cell (o:=10) rfl;have CM:=hr.b.cell (o:=11) rfl;have yi:=hr.b.cell (o:=12) rfl;have Fq:=hr.b.cell (o:=13) rfl;have zh:=hr.b.cell (o:=14) rfl;have Fs:=hr.b.cell (o:=15) rfl;have oM:=lZ.th t Bf;have yR:=oM.bl;obtain ⟨bp,gl,rg,cn,⟨ts0,hts⟩,oC,hB,BJ,Ze⟩:=eI.rd hh;have XG:=oC.cell (o:=0) rfl;have ct7:=oC.cell (o:=7) rfl;have hK:∀ w',Ext w w'→K w':=uM;have hs:=St.start w;refine ah6 _ _ _ _ ?_;unfold S56
 refine eA ZD (C65 K q m.room t _ (hh.ext hs.aF) (hK _ hs.aF) oM) ?_;rintro v_x9 w1 arL
 rcases arL with ⟨vE,rfl,he⟩ | ⟨x,xv,vE,hxv,rfl,he⟩
 ·have hs:=hs.ext he;refine bE rfl (bE rfl (aN hs mF (λ um w2 hs=>have hs:=hs.enc (cs':=Flat.enc (⟨0,0,0,⟨none,0,0⟩,⟨none,0,0⟩,0⟩:bU)) rfl;aI (x:=(⟨0,0,0,⟨none,0,0⟩,⟨none,0,0⟩,0⟩:bU)) hs lM rfl rfl (λ w3 hs=>cC (nT ?_)))));refine ⟨vb ?_,(by first | exact hs.aF | exact hs.drop.aF)⟩;unfold AO;rw [vE]
 ·have hs:=hs.ext he;have hxm:=pj vE;obtain ⟨ge,gf,rfl,_,_⟩:=hxv _ (hK _ hs.aF);refine bE rfl (bE rfl (aN hs mF (λ um w2 hs=>have hs:=hs.enc (cs':=Flat.enc (⟨0,0,0,⟨none,0,0⟩,⟨none,0,0⟩,0⟩:bU)) rfl;aI (x:=(⟨x.kind,x.a,x.b,ge,gf,x.to⟩:bU)) hs lM rfl rfl (λ w3 hs=>cC (fJ (aE (aA tQ (cE bL (ct7.ext hs.aF) (cR (aC (λ jE=>?_) (λ jE=>?_)))))))))))
  ·refine ⟨vb ?_,(by first | exact hs.aF | exact hs.drop.aF)⟩;unfold AO;rw [vE];dsimp only;rw [if_pos jE]
  ·refine aA jn (aB (v:=.int .i64 x.kind) bL hs.hb rfl ?_);refine ⟨λ jv w'=>jv = .bool (decide (x.kind=3∨x.kind=5∨x.kind=6∨x.kind=7))∧St w bD [cH um (Flat.enc (⟨x.kind,x.a,x.b,ge,gf,x.to⟩:bU))] w',?_,?_⟩
   ·refine aH (aC (λ iq=>?_) (λ iq=>?_))
    ·exact ⟨vb (by grind),hs⟩
    ·refine aH (aC (λ fT=>?_) (λ fT=>?_))
     ·exact ⟨vb (by grind),hs⟩
     ·refine aH (aC (λ sC=>?_) (λ sC=>?_))
      ·exact ⟨vb (by grind),hs⟩
      ·refine aH ?_;exact ⟨vb (by grind),hs⟩
   ·rintro _ w4 ⟨rfl,hs⟩ fD;refine aX (λ iV=>?_) (λ iV=>?_)
    ·refine aE (aA mZ (cE qY (XG.ext hs.aF) (aZ afg hs (C123 bp _ _ _ (hB.ext hs.aF)) (λ w5 he hs=>cC ?_))));refine ⟨vb ?_,(by first | exact hs.aF | exact hs.drop.aF)⟩;unfold AO;rw [vE];dsimp only;rw [if_neg (by simpa using jE),if_pos (by simpa using iV)]
    ·refine ⟨λ jv w'=>jv = .bool (decide (x.kind=4∨x.kind=8∨x.kind=10))∧St w bD [cH um (Flat.enc (⟨x.kind,x.a,x.b,ge,gf,x.to⟩:bU))] w',?_,?_⟩
     ·refine aH (aC (λ jC=>?_) (λ jC=>?_))
      ·exact ⟨vb (by grind),hs⟩
      ·refine aH (aC (λ lx=>?_) (λ lx=>?_))
       ·exact ⟨vb (by grind),hs⟩
       ·refine aH ?_;exact ⟨vb (by grind),hs⟩
     ·rintro _ w6 ⟨rfl,hs⟩ jH;refine aX (λ iJ=>?_) (λ iJ=>?_)
      ·refine aZ air hs (C66 K q m.room t _ (hh.ext hs.aF) yR) (λ w7 he hs=>?_);refine ⟨vb ?_,(by first | exact hs.aF | exact hs.drop.aF)⟩;unfold AO;rw [vE];dsimp only;rw [if_neg (by simpa using jE),if_neg (by simpa using iV),if_pos (by simpa using iJ)]
      ·refine aH (aC (λ jD=>?_) (λ jD=>?_))
       ·have akU:=lZ.lkb t Bf x hxm.1 (.inl jD);have J2:=lZ.lk;refine ⟨λ jv w'=>jv = .bool (decide (t.buf.length=0) && decide (m.locks.getD x.b.toNat 0 = -1))∧St w bD [cH um (Flat.enc (⟨x.kind,x.a,x.b,ge,gf,x.to⟩:bU))] w',?_,?_⟩
        ·have hs:=hs.drew;refine aZ air hs (C66 K q m.room t _ (hh.ext hs.aF) yR) (λ w8 he hs=>aX (λ ug=>?_) (λ ug=>?_))
         ·refine aE (aA nW (cE eB (CM.ext hs.aF) (aA fc (aB (v:=.int .i64 x.b) bL hs.hb rfl ?_))));obtain ⟨ap5,wG⟩:=gx (m.locks) (i:=(x.b).toNat) (by omega);refine aQ eh hr.lk (by omega) wG (λ _ VX=>aD bL (VX.ext hs.aF) (aH ?_));exact ⟨vb (by rw [ug,List.getD_eq_getElem?_getD,wG]; rfl),hs⟩
         ·exact ⟨vb (by rw [ug]; rfl),hs⟩
        ·rintro _ w9 ⟨rfl,hs⟩ oY;refine ⟨vb ?_,(by first | exact hs.aF | exact hs.drop.aF)⟩;unfold AO;rw [vE];dsimp only;rw [if_neg (by simpa using jE),if_neg (by simpa using iV),if_neg (by simpa using iJ),if_pos jD]
       ·refine ⟨vb ?_,(by first | exact hs.aF | exact hs.drop.aF)⟩;unfold AO;rw [vE];dsimp only;rw [if_neg (by simpa using jE),if_neg (by simpa using iV),if_neg (by simpa using iJ),if_neg jD]
end Go.Proofs.YtnjcingfdhjfkaaGreat
