/-
  What the proof needs, part 5.
-/
import Derived.Test.YtnjcingfdhjfkaaGreatVaM4
set_option linter.all false
namespace Go.Proofs.YtnjcingfdhjfkaaGreat
open Go.Fw
theorem WQ {c:fq} {cells lines locks:Int} (h:∀ j,j<c.l.length→vn c cells lines locks j=false):ago c.l:=by
 intro i x hx hk
 have:=h i (List.getElem?_eq_some_iff.1 hx).1
 rw [ux hx] at this
 simp only [Bool.or_eq_false_iff,Bool.not_eq_false'] at this
 exact WC hk this.2
theorem EZ {l:List Int} {k:Nat} {e:Int} (h:l[k]? = some e):lz l (k+1)=e+1:=by
 unfold lz; rw [if_neg (by omega),Nat.add_sub_cancel,List.getD_eq_getElem?_getD,h]; rfl
set_option maxHeartbeats 4000000 in
theorem C113 (c:fq) (cv:cL) (cells lines locks:Int) (w:World) (hc:cA.dr w cv c) (hz:CZ c):CR 113 [Flat.val cv,.int .i64 cells,.int .i64 lines,.int .i64 locks] w (λ v w'=>v = .bool (ly c cells lines locks)∧Ext w w'):=by
 obtain ⟨uA,rfl,E0⟩:=hc;have hzl:=hz.l;have hs:=St.start w;refine ZM _ _ _ _ _ _ ?_;unfold S113;refine dE hs (λ Gd w1 hs=>?_);refine ⟨λ jv w'=>jv = .bool (vp c)∧St w bD [cE Gd (Flat.enc (⟨(c).aN,(c).counts,uA⟩:cL))] w',?_,?_⟩
 ·refine aA xj (aB (v:=.int .i64 ((c).aN)) bN hs.hb rfl (aR (aC (λ fy=>?_) (λ fy=>?_))))
  ·exact ⟨vb (by unfold vp; grind),hs⟩
  ·refine aA xj (aB (v:=.int .i64 ((c).aN)) bN hs.hb rfl (dD (aC (λ iT=>?_) (λ iT=>?_))))
   ·exact ⟨vb (by unfold vp; grind),hs⟩
   ·refine aA CS (aB (v:=.int .i64 ((c).counts)) bN hs.hb rfl (aR (aC (λ LL=>?_) (λ LL=>?_))))
    ·exact ⟨vb (by unfold vp; grind),hs⟩
    ·refine aA CS (aB (v:=.int .i64 ((c).counts)) bN hs.hb rfl (dD ?_));exact ⟨vb (by unfold vp; grind),hs⟩
 ·rintro _ w2 ⟨rfl,hs⟩ fz;refine aY (λ iI=>?_) (λ iI=>?_)
  ·have hs:=(hs).drop;refine ⟨vb ?_,hs.aE⟩;unfold ly;rw [iI]; rfl
  ·refine aA mC (aB uV hs.hb rfl ?_);obtain ⟨aq3,WR,agy⟩:=(E0).open;have hn106:=agy.1;refine aK kS (WR.ext hs.aE) ?_;refine ⟨λ m x w1=>∃ k:Nat,x = .int .i64 (k:Int)∧m=c.l.length - k∧k≤c.l.length∧(∀ j,j<k→vn c cells lines locks j=false)∧St w bD [cE Gd (Flat.enc (⟨(c).aN,(c).counts,uA⟩:cL))] w1,⟨_,0,rfl,rfl,Nat.zero_le _,by simp,hs⟩,?_⟩;rintro m _ w3 ⟨k,rfl,rfl,hk,fS,hs⟩ jB;refine aR (aC (λ sE=>?_) (λ sE=>?_))
   ·obtain ⟨agz,I5⟩:=gx aq3 (i:=((k:Int)).toNat) (by omega);obtain ⟨dB,vq⟩:=gx ((c).l) (i:=((k:Int)).toNat) (by omega);obtain ⟨qL,qM,rfl,QU,QV⟩:=agy.2 _ _ _ I5 vq;refine aQ kS WR (by omega) I5 (λ _ Ej=>aD lL (Ej.ext hs.aE) (aJ hs mE (λ ig w4 hs=>have hs:=hs.enc (cs':=Flat.enc (⟨0,0,0,⟨none,0,0⟩,⟨none,0,0⟩,0⟩:bU)) rfl;aI (x:=(⟨(dB).kind,(dB).a,(dB).b,qL,qM,(dB).to⟩:bU)) hs lL rfl rfl (λ w5 hs=>?_))));refine ⟨λ jv w'=>jv = .bool (decide (dB.kind<1) || decide (16≤dB.kind))∧St w bD [cE ig (Flat.enc (⟨(dB).kind,(dB).a,(dB).b,qL,qM,(dB).to⟩:bU)),cE Gd (Flat.enc (⟨(c).aN,(c).counts,uA⟩:cL))] w',?_,?_⟩
    ·refine aA jm (aB (v:=.int .i64 ((dB).kind)) bN hs.hb rfl (aR (aC (λ kN=>?_) (λ kN=>?_))))
     ·exact ⟨vb (by grind),hs⟩
     ·refine aA jm (aB (v:=.int .i64 ((dB).kind)) bN hs.hb rfl (dH ?_));exact ⟨vb (by grind),hs⟩
    ·rintro _ w6 ⟨rfl,hs⟩ oN;refine aY (λ pX=>?_) (λ pX=>?_)
     ·have hs:=((hs.drop)).drop;refine ⟨vb ?_,hs.aE⟩;unfold ly;rw [rG (f:=vn c cells lines locks) (j:=k) (by omega) (by rw [ux (i:=k) vq,WH (by grind)]; rfl)]; simp
     ·have mn:1≤dB.kind∧dB.kind≤15:=by grind
      refine aA ko (have hs:=hs.drew;aB (v:=.int .i64 ((dB).a)) bN hs.hb rfl (aA xj (aB (v:=.int .i64 ((c).aN)) bN hs.p1.hb rfl (ga (first:=[]) (cap:=[.pointer (some ⟨ig,0,none⟩)]) sg (C176 dB.kind 114 ig (decide (dB.kind=1∨dB.kind=2∨dB.kind=4)) _ ((hs).hb.cell rfl) mn ((oD mn).1)) ?_))));rintro _ w7 ⟨rfl,he⟩;have hs:=hs.ext he;refine ⟨aG bN (hs.hb.cell rfl),?_⟩;refine ⟨aG bN (hs.p1.hb.cell rfl),?_⟩;refine aZ Kf hs (C179 _ _ _ _) (λ w8 he hs=>?_);refine ⟨λ jv w'=>jv = .bool (aM dB c.aN c.counts)∧St w bD [cE ig (Flat.enc (⟨(dB).kind,(dB).a,(dB).b,qL,qM,(dB).to⟩:bU)),cE Gd (Flat.enc (⟨(c).aN,(c).counts,uA⟩:cL))] w',?_,?_⟩
      ·refine ga (first:=[]) (cap:=[.pointer (some ⟨ig,0,none⟩)]) sg (C176 dB.kind 107 ig (decide (dB.kind=13∨dB.kind=14)) _ ((hs).hb.cell rfl) mn ((oD mn).2.1)) ?_;rintro _ w9 ⟨rfl,he⟩;have hs:=hs.ext he;refine aY (λ GR=>?_) (λ GR=>?_)
       ·refine aA ko (aB (v:=.int .i64 ((dB).a)) bN hs.hb rfl (aA CS (aB (v:=.int .i64 ((c).counts)) bN hs.p1.hb rfl (aZ Kf hs (C179 true _ _ _) (λ pP he hs=>?_)))));exact ⟨vb (by unfold aM; grind),hs⟩
       ·exact ⟨vb (by unfold aM; grind),hs⟩
      ·rintro _ sB ⟨rfl,hs⟩ F6;refine aA eZ (aB (v:=.int .i64 ((dB).b)) bN hs.hb rfl (aH ?_));refine ⟨λ jv w'=>jv = .bool (bM dB cells lines locks)∧St w bD [cE ig (Flat.enc (⟨(dB).kind,(dB).a,(dB).b,qL,qM,(dB).to⟩:bU)),cE Gd (Flat.enc (⟨(c).aN,(c).counts,uA⟩:cL))] w',?_,?_⟩
       ·refine ga (first:=[]) (cap:=[.pointer (some ⟨ig,0,none⟩)]) sg (C176 dB.kind 99 ig (decide (dB.kind=2∨dB.kind=3∨dB.kind=4)) _ ((hs).hb.cell rfl) mn ((oD mn).2.2.1)) ?_;rintro _ u7 ⟨rfl,he⟩;have hs:=hs.ext he;refine aY (λ vC=>?_) (λ vC=>?_)
        ·refine aA eZ (aB (v:=.int .i64 ((dB).b)) bN hs.hb rfl (aZ Kf hs (C179 true _ _ _) (λ u9 he hs=>?_)));exact ⟨vb (by unfold bM; grind),hs⟩
        ·refine ga (first:=[]) (cap:=[.pointer (some ⟨ig,0,none⟩)]) sg (C176 dB.kind 108 ig (decide (dB.kind=5∨dB.kind=6)) _ ((hs).hb.cell rfl) mn ((oD mn).2.2.2.1)) ?_;rintro _ r9 ⟨rfl,he⟩;have hs:=hs.ext he;refine aY (λ Wg=>?_) (λ Wg=>?_)
         ·refine aA eZ (aB (v:=.int .i64 ((dB).b)) bN hs.hb rfl (aZ Kf hs (C179 true _ _ _) (λ vT he hs=>?_)));exact ⟨vb (by unfold bM; grind),hs⟩
         ·refine ga (first:=[]) (cap:=[.pointer (some ⟨ig,0,none⟩)]) sg (C176 dB.kind 109 ig (decide (dB.kind=9∨dB.kind=10)) _ ((hs).hb.cell rfl) mn ((oD mn).2.2.2.2.1)) ?_;rintro _ yO ⟨rfl,he⟩;have hs:=hs.ext he;refine aY (λ aq4=>?_) (λ aq4=>?_)
          ·refine aA eZ (aB (v:=.int .i64 ((dB).b)) bN hs.hb rfl (aZ Kf hs (C179 true _ _ _) (λ B6 he hs=>?_)));exact ⟨vb (by unfold bM; grind),hs⟩
          ·refine ga (first:=[]) (cap:=[.pointer (some ⟨ig,0,none⟩)]) sg (C176 dB.kind 110 ig (decide (dB.kind=13)) _ ((hs).hb.cell rfl) mn ((oD mn).2.2.2.2.2.1)) ?_;rintro _ GQ ⟨rfl,he⟩;have hs:=hs.ext he;refine aY (λ WT=>?_) (λ WT=>?_)
           ·refine aA eZ (aB (v:=.int .i64 ((dB).b)) bN hs.hb rfl (dH (aC (λ WU=>?_) (λ WU=>?_))))
            ·refine aA eZ (aB (v:=.int .i64 ((dB).b)) bN hs.hb rfl (j9 ?_));exact ⟨vb (by unfold bM; grind),hs⟩
            ·exact ⟨vb (by unfold bM; grind),hs⟩
           ·exact ⟨vb (by unfold bM; grind),hs⟩
       ·rintro _ IF ⟨rfl,hs⟩ QC;refine ⟨λ jv w'=>jv = .bool (if sK dB.kind=true then eN dB.e c.aN else !decide (0<(dB.e.length:Int)))∧St w bD [cE ig (Flat.enc (⟨(dB).kind,(dB).a,(dB).b,qL,qM,(dB).to⟩:bU)),cE Gd (Flat.enc (⟨(c).aN,(c).counts,uA⟩:cL))] w',?_,?_⟩
        ·refine ga (first:=[]) (cap:=[.pointer (some ⟨ig,0,none⟩)]) sg (C176 dB.kind 101 ig (sK dB.kind) _ ((hs).hb.cell rfl) mn ((oD mn).2.2.2.2.2.2.1)) ?_;rintro _ JH ⟨rfl,he⟩;have hs:=hs.ext he;refine aY (λ akn=>?_) (λ akn=>?_)
         ·refine aA tX (aB xV hs.hb rfl ?_);have agA:=DL.flat (QU);refine aA xj (aB (v:=.int .i64 ((c).aN)) bN hs.p1.hb rfl (aZ PE hs (C116 _ _ _ _ (agA.ext hs.aE) (by have:=hz.ef _ (List.mem_of_getElem? vq); omega)) (λ Lr he hs=>aY (λ Om=>?_) (λ Om=>?_))))
          ·exact ⟨vb (by grind),hs⟩
          ·refine ga (first:=[]) (cap:=[.pointer (some ⟨ig,0,none⟩)]) sg (C176 dB.kind 101 ig (sK dB.kind) _ ((hs).hb.cell rfl) mn ((oD mn).2.2.2.2.2.2.1)) ?_;rintro _ NS ⟨rfl,he⟩;have hs:=hs.ext he;refine bZ (aY (λ ako=>?_) (λ ako=>?_))
           ·refine aA tX (aB xV hs.hb rfl (aK vN (agA.ext hs.aE) (aH ?_)));exact ⟨vb (by grind),hs⟩
           ·exact ⟨vb (by grind),hs⟩
         ·refine ga (first:=[]) (cap:=[.pointer (some ⟨ig,0,none⟩)]) sg (C176 dB.kind 101 ig (sK dB.kind) _ ((hs).hb.cell rfl) mn ((oD mn).2.2.2.2.2.2.1)) ?_;rintro _ Sy ⟨rfl,he⟩;have hs:=hs.ext he;refine bZ (aY (λ WV=>?_) (λ WV=>?_))
          ·refine aA tX (aB xV hs.hb rfl ?_);have aq5:=DL.flat (QU);refine aK vN (aq5.ext hs.aE) (aH ?_);exact ⟨vb (by grind),hs⟩
          ·exact ⟨vb (by grind),hs⟩
        ·rintro _ TU ⟨rfl,hs⟩ dd6;refine ⟨λ jv w'=>jv = .bool (if dB.kind=4 then eN dB.f c.aN else !decide (0<(dB.f.length:Int)))∧St w bD [cE ig (Flat.enc (⟨(dB).kind,(dB).a,(dB).b,qL,qM,(dB).to⟩:bU)),cE Gd (Flat.enc (⟨(c).aN,(c).counts,uA⟩:cL))] w',?_,?_⟩
         ·refine ga (first:=[]) (cap:=[.pointer (some ⟨ig,0,none⟩)]) sg (C176 dB.kind 102 ig (decide (dB.kind=4)) _ ((hs).hb.cell rfl) mn ((oD mn).2.2.2.2.2.2.2.1)) ?_;rintro _ QQ ⟨rfl,he⟩;have hs:=hs.ext he;refine aY (λ akp=>?_) (λ akp=>?_)
          ·refine aA tY (aB xV hs.hb rfl ?_);have agB:=DL.flat (QV);refine aA xj (aB (v:=.int .i64 ((c).aN)) bN hs.p1.hb rfl (aZ PE hs (C116 _ _ _ _ (agB.ext hs.aE) (by have:=hz.ef _ (List.mem_of_getElem? vq); omega)) (λ Y6 he hs=>aY (λ akq=>?_) (λ akq=>?_))))
           ·exact ⟨vb (by grind),hs⟩
           ·refine ga (first:=[]) (cap:=[.pointer (some ⟨ig,0,none⟩)]) sg (C176 dB.kind 102 ig (decide (dB.kind=4)) _ ((hs).hb.cell rfl) mn ((oD mn).2.2.2.2.2.2.2.1)) ?_;rintro _ Y7 ⟨rfl,he⟩;have hs:=hs.ext he;refine bZ (aY (λ E1=>?_) (λ E1=>?_))
            ·refine aA tY (aB xV hs.hb rfl (aK vN (agB.ext hs.aE) (aH ?_)));exact ⟨vb (by grind),hs⟩
            ·exact ⟨vb (by grind),hs⟩
          ·refine ga (first:=[]) (cap:=[.pointer (some ⟨ig,0,none⟩)]) sg (C176 dB.kind 102 ig (decide (dB.kind=4)) _ ((hs).hb.cell rfl) mn ((oD mn).2.2.2.2.2.2.2.1)) ?_;rintro _ w28 ⟨rfl,he⟩;have hs:=hs.ext he;refine bZ (aY (λ WW=>?_) (λ WW=>?_))
           ·refine aA tY (aB xV hs.hb rfl ?_);have aq6:=DL.flat (QV);refine aK vN (aq6.ext hs.aE) (aH ?_);exact ⟨vb (by grind),hs⟩
           ·exact ⟨vb (by grind),hs⟩
         ·rintro _ w29 ⟨rfl,hs⟩ dd7;refine aA kp (aB (v:=.int .i64 ((dB).to)) bN hs.hb rfl (aH ?_));refine ⟨λ jv w'=>jv = .bool (I1 c.l k dB)∧St w bD [cE ig (Flat.enc (⟨(dB).kind,(dB).a,(dB).b,qL,qM,(dB).to⟩:bU)),cE Gd (Flat.enc (⟨(c).aN,(c).counts,uA⟩:cL))] w',?_,?_⟩
          ·refine ⟨λ jv w'=>jv = .bool (decide (dB.kind=14))∧St w bD [cE ig (Flat.enc (⟨(dB).kind,(dB).a,(dB).b,qL,qM,(dB).to⟩:bU)),cE Gd (Flat.enc (⟨(c).aN,(c).counts,uA⟩:cL))] w',?_,?_⟩
           ·refine ga (first:=[]) (cap:=[.pointer (some ⟨ig,0,none⟩)]) sg (C176 dB.kind 116 ig (decide (dB.kind=11∨dB.kind=12∨dB.kind=14)) _ ((hs).hb.cell rfl) mn ((oD mn).2.2.2.2.2.2.2.2)) ?_;rintro _ w30 ⟨rfl,he⟩;have hs:=hs.ext he;refine aY (λ akr=>?_) (λ akr=>?_)
            ·refine aA jm (aB (v:=.int .i64 ((dB).kind)) bN hs.hb rfl (aH ?_));exact ⟨vb (by grind),hs⟩
            ·exact ⟨vb (by grind),hs⟩
           ·rintro _ w31 ⟨rfl,hs⟩ dd8;refine aY (λ aks=>?_) (λ aks=>?_)
            ·refine aA mC (aB uV hs.p1.hb rfl (aZ anV hs (C180 _ _ _ _ _ (E0.ext hs.aE) (by omega) vq) (λ w32 he hs=>?_)));exact ⟨vb (by unfold I1; grind),hs⟩
            ·refine ga (first:=[]) (cap:=[.pointer (some ⟨ig,0,none⟩)]) sg (C176 dB.kind 116 ig (decide (dB.kind=11∨dB.kind=12∨dB.kind=14)) _ ((hs).hb.cell rfl) mn ((oD mn).2.2.2.2.2.2.2.2)) ?_;rintro _ w33 ⟨rfl,he⟩;have hs:=hs.ext he;refine aY (λ akt=>?_) (λ akt=>?_)
             ·refine aA kp (aB (v:=.int .i64 ((dB).to)) bN hs.hb rfl (dD (aC (λ aku=>?_) (λ aku=>?_))))
              ·refine aA kp (aB (v:=.int .i64 ((dB).to)) bN hs.hb rfl (aA mC (aB uV hs.p1.hb rfl (aK kS (WR.ext hs.aE) (j9 ?_)))));exact ⟨vb (by unfold I1; grind),hs⟩
              ·exact ⟨vb (by unfold I1; grind),hs⟩
             ·exact ⟨vb (by unfold I1; grind),hs⟩
          ·rintro _ w34 ⟨rfl,hs⟩ dd9;refine ⟨λ jv w'=>jv = .bool (!vm dB c cells lines locks || !I1 c.l k dB)∧St w bD [cE ig (Flat.enc (⟨(dB).kind,(dB).a,(dB).b,qL,qM,(dB).to⟩:bU)),cE Gd (Flat.enc (⟨(c).aN,(c).counts,uA⟩:cL))] w',?_,?_⟩
           ·refine bZ (aY (λ akv=>?_) (λ akv=>?_))
            ·exact ⟨vb (by rw [uy mn]; grind),hs⟩
            ·refine bZ (aY (λ akw=>?_) (λ akw=>?_))
             ·exact ⟨vb (by rw [uy mn]; grind),hs⟩
             ·refine bZ (aY (λ akx=>?_) (λ akx=>?_))
              ·exact ⟨vb (by rw [uy mn]; grind),hs⟩
              ·refine bZ (aY (λ aky=>?_) (λ aky=>?_))
               ·exact ⟨vb (by rw [uy mn]; grind),hs⟩
               ·refine bZ ?_;exact ⟨vb (by rw [uy mn]; grind),hs⟩
           ·rintro _ w35 ⟨rfl,hs⟩ dd10;refine aY (λ On=>?_) (λ On=>?_)
            ·have hs:=((hs.drop)).drop;refine ⟨vb ?_,hs.aE⟩;unfold ly;rw [rG (f:=vn c cells lines locks) (j:=k) (by omega) (by rw [ux (i:=k) vq]; exact On)]; simp
            ·refine aO (by omega) ?_;have hs:=(hs).drop;exact ⟨_,by omega,k+1,rfl,rfl,by omega,Ai fS (by rw [ux (i:=k) vq]; exact On),hs⟩
   ·refine aA mC (aB uV hs.hb rfl (aZ anW hs (C181 _ _ _ (E0.ext hs.aE) (by omega) (WQ (cells:=cells) (lines:=lines) (locks:=locks) (λ j hj=>fS j (by omega)))) (λ w36 he hs=>?_)));have hs:=(hs).drop;refine ⟨vb ?_,hs.aE⟩;unfold ly;rw [iI,ng (f:=vn c cells lines locks) (λ j hj=>fS j (by omega))]; simp
theorem C112 (c:fq) (cv:cL) (u:ir) (uv:dL) (b1:Nat) (w:World) (hc:cA.dr w cv c) (hA:At (λ _=>True) w (.pointer (some ⟨b1,0,none⟩)) uv) (hu:cA.dr w uv u) (hz:CZ c) (hzu:UZ u) (hb:∀ n∈u.lines,-1≤n∧n≤(u.lines.length:Int)):CR 112 [Flat.val cv,.pointer (some ⟨b1,0,none⟩)] w (λ v w'=>v = .bool (!ly c u.lines.length (gq u) u.locks)∧Ext w w'):=by
 obtain ⟨uA,rfl,E0⟩:=hc;obtain ⟨iK,gL,fa,sM,fk,rfl,iL,jw,jd,jS,kX⟩:=hu;obtain ⟨dM,rfl,il⟩:=jS;have hs:=St.start w;refine ZL _ _ _ _ ?_;unfold S112;refine dE hs (λ b_c2 w1 hs=>have hs:=hs.drew;aD qg hs.At (bT iK mD hA rfl rfl (λ _ SC=>aD eA (SC.ext hs.aE) ?_)));have aq7:=DL.flat (iL);refine aK ek (aq7.ext hs.aE) (aD r8 (hA.ext hs.aE) (bT (u).locks CT hA rfl rfl (λ _ qE=>aD bN (qE.ext hs.aE) (aZ anz hs (C114 u _ _ ⟨iK,gL,fa,(⟨((u).recover).aN,((u).recover).counts,dM⟩:cL),fk,rfl,(iL.ext hs.aE),(jw.ext hs.aE),(jd.ext hs.aE),⟨dM,rfl,(il.ext hs.aE)⟩,(kX.ext hs.aE)⟩ hzu hb) (λ w2 he hs=>?_)))))
 refine ⟨eU qg hs.At,?_⟩;refine ⟨eU eA (SC.ext hs.aE),?_⟩;refine ⟨eU bN (qE.ext hs.aE),?_⟩;refine aZ anx hs (C113 c _ _ _ _ _ ⟨uA,rfl,(E0.ext hs.aE)⟩ hz) (λ w3 he hs=>bZ ?_);exact ⟨rfl,hs.drop.aE⟩
set_option maxHeartbeats 4000000 in
theorem C51 (u:ir) (uv:dL) (w:World) (hu:cA.dr w uv u) (hz:UZ u):CR 51 [Flat.val uv] w (λ v w'=>v = .bool (nA u)∧Ext w w'):=by
 have hu0:=hu;obtain ⟨iK,gL,fa,sM,fk,rfl,iL,jw,jd,jS,kX⟩:=hu;obtain ⟨dM,rfl,il⟩:=jS;have hs:=St.start w;refine ah0 _ _ _ ?_;unfold S51;refine dE hs (λ ye w1 hs=>?_);refine ⟨λ jv w'=>jv = .bool (kW u)∧St w bD [cE ye (Flat.enc (⟨iK,(u).stays,gL,(u).locks,fa,(⟨((u).recover).aN,((u).recover).counts,dM⟩:cL),fk⟩:dL))] w',?_,?_⟩
 ·refine aA mD (aB eA hs.hb rfl ?_);have WX:=DL.flat (iL);refine aK ek (WX.ext hs.aE) (dD (aC (λ kM=>?_) (λ kM=>?_)))
  ·exact ⟨vb (by unfold kW; grind),hs⟩
  ·refine aA pq (aB (v:=.int .i64 ((u).stays)) bN hs.hb rfl (aR (aC (λ mc=>?_) (λ mc=>?_))))
   ·exact ⟨vb (by unfold kW; grind),hs⟩
   ·refine aA pq (aB (v:=.int .i64 ((u).stays)) bN hs.hb rfl (aA mD (aB eA hs.hb rfl (aK ek (WX.ext hs.aE) (dD (aC (λ fD=>?_) (λ fD=>?_)))))))
    ·exact ⟨vb (by unfold kW; grind),hs⟩
    ·refine aA xk (aB eA hs.hb rfl ?_);have aq8:=DL.flat (jw);refine aK ek (aq8.ext hs.aE) (aA mD (aB eA hs.hb rfl (aK ek (WX.ext hs.aE) (cO (aC (λ iI=>?_) (λ iI=>?_))))))
     ·exact ⟨vb (by unfold kW; grind),hs⟩
     ·refine aA CT (aB (v:=.int .i64 ((u).locks)) bN hs.hb rfl (aR (aC (λ sE=>?_) (λ sE=>?_))))
      ·exact ⟨vb (by unfold kW; grind),hs⟩
      ·refine aA CT (aB (v:=.int .i64 ((u).locks)) bN hs.hb rfl (dD (aC (λ sG=>?_) (λ sG=>?_))))
       ·exact ⟨vb (by unfold kW; grind),hs⟩
       ·refine aA sm (aB FW hs.hb rfl ?_);obtain ⟨ts114,agC,aq9⟩:=(jd).open;have hn114:=aq9.1;refine aK Bj (agC.ext hs.aE) (aR (aC (λ pX=>?_) (λ pX=>?_)))
        ·exact ⟨vb (by unfold kW; grind),hs⟩
        ·refine aA sm (aB FW hs.hb rfl (aK Bj (agC.ext hs.aE) (dD ?_)));exact ⟨vb (by unfold kW; grind),hs⟩
 ·rintro _ w2 ⟨rfl,hs⟩ fz;refine aY (λ G3=>?_) (λ G3=>?_)
  ·have hs:=(hs).drop;refine ⟨vb ?_,hs.aE⟩;unfold nA;rw [G3]; rfl
  ·obtain ⟨IB,hb2,hb3,hb4,hb5,hb6,hb7,hb8⟩:=Oj G3;have hzc:=hz.cC;have Lh:=hz.threads;have hzf:=hz.dF;refine aA mD (aB eA hs.hb rfl ?_);have agE:=DL.flat (iL);refine aK ek (agE.ext hs.aE) ?_;refine ⟨λ m y x w1=>∃ (k:Nat) (last:Int),y = .int .i64 last∧x = .int .i64 (k:Int)∧m=u.lines.length - k∧k≤u.lines.length∧last=lz u.lines k - 1∧(∀ j,j<k→kf u j=false)∧St w bD [cE ye (Flat.enc (⟨iK,(u).stays,gL,(u).locks,fa,(⟨((u).recover).aN,((u).recover).counts,dM⟩:cL),fk⟩:dL))] w1,⟨_,0,-1,rfl,rfl,rfl,Nat.zero_le _,rfl,by simp,hs⟩,?_⟩
   rintro m _ _ w3 ⟨k,last,rfl,rfl,rfl,hk,agF,adO,hs⟩ jB;refine aR (aC (λ sH=>?_) (λ sH=>?_))
   ·obtain ⟨G6,wI⟩:=gx ((u).lines) (i:=((k:Int)).toNat) (by omega);refine aQ ek agE (by omega) wI (λ _ Ev=>?_)
    have hwb : -1≤last∧last≤(k:Int):=by
     by_cases h0:k=0
     ·subst h0; rw [agF]; unfold lz; simp
     ·obtain ⟨m,hm⟩:∃ m,u.lines[k - 1]? = some m:=⟨_,List.getElem?_eq_getElem (by omega)⟩;have h1:=EX adO (k - 1) m (by omega) hm;have h2:=EZ hm;rw [show k - 1+1=k from by omega] at h2;omega
    refine aD bN (Ev.ext hs.aE) ?_;refine ⟨λ jv w'=>jv = .bool (decide (0<(k:Int)) && decide ((k:Int)<u.stays) && decide (G6=last))∧St w bD [cE ye (Flat.enc (⟨iK,(u).stays,gL,(u).locks,fa,(⟨((u).recover).aN,((u).recover).counts,dM⟩:cL),fk⟩:dL))] w',?_,?_⟩
    ·refine dD (aC (λ oz=>?_) (λ oz=>?_))
     ·refine aA pq (aB (v:=.int .i64 ((u).stays)) bN hs.hb rfl (aR (aC (λ ara=>?_) (λ ara=>?_))))
      ·refine aH ?_;exact ⟨vb (by grind),hs⟩
      ·exact ⟨vb (by grind),hs⟩
     ·exact ⟨vb (by grind),hs⟩
    ·rintro _ w4 ⟨rfl,hs⟩ oN;refine ⟨λ jv w'=>jv = .bool (kf u k)∧St w bD [cE ye (Flat.enc (⟨iK,(u).stays,gL,(u).locks,fa,(⟨((u).recover).aN,((u).recover).counts,dM⟩:cL),fk⟩:dL))] w',?_,?_⟩
     ·refine bZ (aY (λ VS=>?_) (λ VS=>?_))
      ·refine aO (by omega) (cO ?_);exact ⟨vb (by rw [Hb (k:=k) wI]; grind),hs⟩
      ·exact ⟨vb (by rw [Hb (k:=k) wI]; grind),hs⟩
     ·rintro _ w5 ⟨rfl,hs⟩ F6;refine aY (λ WY=>?_) (λ WY=>?_)
      ·have hs:=(hs).drop;refine ⟨vb ?_,hs.aE⟩;unfold nA;rw [rG (f:=kf u) (j:=k) (by omega) WY]; simp
      ·refine aO (by omega) ?_;exact ⟨_,by omega,k+1,G6,rfl,rfl,rfl,by omega,by rw [EZ (k:=k) wI]; omega,Ai adO WY,hs⟩
   ·have hL:(List.range u.lines.length).any (kf u)=false:=ng (λ j hj=>adO j (by omega));have hsm:=LJ (u:=u) (λ j hj=>adO j (by omega));refine ⟨λ jv w'=>jv = .bool ((!u.dF.any lB) && (!u.threads.any (λ c=>!ly c u.lines.length (gq u) u.locks)) && ly u.recover u.lines.length (gq u) u.locks && (!u.cC.any (λ l=>!eN l u.stays)))∧St w bD [cE ye (Flat.enc (⟨iK,(u).stays,gL,(u).locks,fa,(⟨((u).recover).aN,((u).recover).counts,dM⟩:cL),fk⟩:dL))] w',?_,?_⟩
    ·refine aA xk (aB eA hs.hb rfl ?_);have arb:=DL.flat (jw);have hf1:CA w3 (.func (.func 111) #[] #[]) lB:=⟨111,[],[],rfl,anw,λ x w1 _=>C111 x w1⟩;refine aZ anB hs (C117 _ _ _ lB _ (arb.ext hs.aE) hf1 (by omega)) (λ w6 he hs=>bZ (aY (λ WU=>?_) (λ WU=>?_)))
     ·refine aA sm (aB FW hs.hb rfl ?_);have Ug:oo PG _ (.func (.func 112) [].toArray [.pointer (some ⟨ye,0,none⟩)].toArray) CZ (λ c=>!ly c u.lines.length (gq u) u.locks):=⟨112,[],_,rfl,afe,λ s c w1 e1 hd hzc=>C112 c s u _ ye w1 hd (hs.At.ext e1) (cA.ext hu0 (Ext.trans hs.aE e1)) hzc hz hsm⟩;refine aZ anC hs (C118 _ _ _ CZ (λ c=>!ly c u.lines.length (gq u) u.locks) _ (jd.ext hs.aE) Ug hz.th (by omega)) (λ w7 he hs=>bZ (aY (λ Eo=>?_) (λ Eo=>?_)))
      ·refine aA zN (uZ (⟨((u).recover).aN,((u).recover).counts,dM⟩:cL) qg hs.hb rfl (ga (first:=[]) (cap:=[.pointer (some ⟨ye,0,none⟩)]) afe (C112 u.recover _ u _ ye _ ⟨dM,rfl,(il.ext hs.aE)⟩ hs.At (cA.ext hu0 hs.aE) hz.rc hz hsm) ?_));rintro _ w8 ⟨rfl,he⟩;have hs:=hs.ext he;refine bZ (aY (λ Om=>?_) (λ Om=>?_))
       ·refine aA xl (aB Se hs.hb rfl ?_);have hf3:oo PG _ (.func (.func 115) [].toArray [.pointer (some ⟨ye,0,none⟩)].toArray) (λ l:List nx=>l.length≤1000) (λ l=>!eN l u.stays):=⟨115,[],_,rfl,anA,λ s l w1 e1 hd hl=>C115 _ l ye u.stays w1 (DL.flat hd) ((hs.hb.cell rfl).ext e1) hl⟩;refine aZ anD hs (C119 _ _ _ (λ l:List nx=>l.length≤1000) (λ l=>!eN l u.stays) _ (kX.ext hs.aE) hf3 hz.cl (by omega)) (λ w9 he hs=>bZ ?_);exact ⟨vb (by grind),hs⟩
       ·exact ⟨vb (by grind),hs⟩
      ·exact ⟨vb (by grind),hs⟩
     ·exact ⟨vb (by grind),hs⟩
    ·rintro _ pP ⟨rfl,hs⟩ QC;have hs:=(hs).drop;refine ⟨vb ?_,hs.aE⟩;unfold nA;rw [G3,hL];simp only [Bool.not_false,Bool.true_and,Bool.and_true];cases u.dF.any lB <;> cases u.threads.any (λ c=>!ly c u.lines.length (gq u) u.locks) <;> cases u.cC.any (λ l=>!eN l u.stays) <;> cases ly u.recover u.lines.length (gq u) u.locks <;> rfl
theorem WZ {α:Type} {t1 d:List α} {e y y2:α} {k:Nat} (hk:t1.length=k):((t1++e::d).set k y).set k y2=t1++[y2]++d:=by
 subst hk
 rw [List.set_append_right _ _ (Nat.le_refl _),Nat.sub_self,List.set_cons_zero,List.set_append_right _ _ (Nat.le_refl _),Nat.sub_self,List.set_cons_zero]; simp
theorem set_self? {α:Type} {l:List α} {k:Nat} {y e:α} (h:(l.set k y)[k]? = some e):e=y:=by
 have hk:=(List.getElem?_eq_some_iff.1 h).1
 rw [List.length_set] at hk
 rw [List.getElem?_set_self hk] at h
 exact (Option.some.inj h).symm
theorem SD {α:Type} (l:List α) (n:Nat):l.take (min (l.length:Int) n).toNat=l.take n:=by
 rcases Nat.lt_or_ge l.length n with h | h
 ·rw [List.take_of_length_le (by omega),List.take_of_length_le (by omega)]
 ·rw [show (min (l.length:Int) n).toNat=n from by omega]
theorem C121 (sv:Value) (xs:List nx) (w:World) (hL:eE (λ _=>True) w sv xs) (hn:xs.length≤1000000):CR 121 [sv] w (λ v w'=>lW (bK v xs) w w'):=by
 have hs:=St.start w;refine ZU _ _ _ ?_;unfold S121;refine xp Tryz.underlying99 (hL.ext hs.aE) (λ p hp=>aY (λ pU=>?_) (λ pU=>?_))
 ·have hx:=hp pU;subst hx;exact (hs.fU (α:=nx)).fresh
 ·refine bX (([]:List nx)) hs vN rfl rfl (eL rfl) (λ IH w1 hs=>?_);have Ak:=(hL.ext hs.aE);refine cP hs vN Ak (by simp; omega) (by decide) (λ Ln w2 hs=>?_);exact hs.fresh
theorem C70 (sv:Value) (xs:List Int) (w:World) (hL:eE (λ _=>True) w sv xs) (hn:xs.length≤1000000):CR 70 [sv] w (λ v w'=>lW (bK v xs) w w'):=by
 have hs:=St.start w;refine aik _ _ _ ?_;unfold S70;refine xp Tryz.underlying28 (hL.ext hs.aE) (λ p hp=>aY (λ pU=>?_) (λ pU=>?_))
 ·have hx:=hp pU;subst hx;exact (hs.fU (α:=Int)).fresh
 ·refine bX (([]:List Int)) hs ek rfl rfl (eL rfl) (λ IH w1 hs=>?_);have Ak:=(hL.ext hs.aE);refine cP hs ek Ak (by simp; omega) (by decide) (λ Ln w2 hs=>?_);exact hs.fresh
theorem C188 (sv:Value) (xs:List bU) (w:World) (hL:eE (λ _=>True) w sv xs) (hn:xs.length≤1000000):CR 188 [sv] w (λ v w'=>lW (bK v xs) w w'):=by
 have hs:=St.start w;refine aaL _ _ _ ?_;unfold S188;refine xp Tryz.underlying31 (hL.ext hs.aE) (λ p hp=>aY (λ pU=>?_) (λ pU=>?_))
 ·have hx:=hp pU;subst hx;exact (hs.fU (α:=bU)).fresh
 ·refine bX (([]:List bU)) hs kS rfl rfl (eL rfl) (λ IH w1 hs=>cP hs kS (hL.ext hs.aE) (by simp; omega) (by decide) (λ Ln w2 hs=>?_));exact hs.fresh
set_option maxHeartbeats 4000000 in
theorem C120 (c:fq) (cv:cL) (w:World) (hc:cA.dr w cv c) (hz:CZ c):CR 120 [Flat.val cv] w (λ v w'=>∃ cv':cL,v=Flat.val cv'∧lW (eB (λ w=>cA.dr w cv' c)) w w'):=by
 obtain ⟨uA,rfl,E0⟩:=hc;obtain ⟨SE,hRA,hDA⟩:=(E0).open;have hnA:=hDA.1;have hzl:=hz.l;have hs:=St.start w;refine ZT _ _ _ ?_;unfold S120;refine dE hs (λ ayF w1 hs=>aJ hs Io (λ ma w2 hs=>have hs:=hs.enc (cs':=Flat.enc (⟨0,0,⟨none,0,0⟩⟩:cL)) rfl;aA mC (aB uV hs.p1.hb rfl (cZ an3 hs (C188 _ SE _ (hRA.ext hs.aE) (by omega)) (λ x6 w3 bV hs=>aA mC ?_)))));obtain ⟨yz,rfl⟩:=(hs).fR;refine aV hs.p2 uV (eL rfl) (rfl) (λ w4 hs=>have hs:=hs.enc (cs':=Flat.enc (⟨(c).aN,(c).counts,yz⟩:cL)) rfl;aA mC (aB (v:=Flat.val (yz:SV)) uV hs.hb rfl (aK kS (hs.p1).fB ?_)))
 have hs:=hs.gH (Φ:=iB ([]:List bU) ([]:List aW)) (λ _=>iB.nil);have hs:=hs.p3.p1.p3.p3;refine ⟨λ m x w1=>∃ (k:Nat) (t1:List bU),x = .int .i64 (k:Int)∧m=SE.length - k∧k≤SE.length∧t1.length=k∧St w bD [cE ayF (Flat.enc (⟨(c).aN,(c).counts,yz⟩:cL)),bK (Flat.val yz) (t1++SE.drop k),eB (iB t1 (c.l.take k)),cE ma (Flat.enc (⟨0,0,⟨none,0,0⟩⟩:cL))] w1,⟨_,0,[],rfl,rfl,Nat.zero_le _,rfl,hs⟩,?_⟩;rintro m _ w5 ⟨k,t1,rfl,rfl,hk,ht1,hs⟩ fz;refine aR (aC (λ j1=>?_) (λ j1=>?_))
 ·obtain ⟨e0,he0⟩:∃ e,SE[k]? = some e:=⟨_,List.getElem?_eq_getElem (by omega)⟩;obtain ⟨r0,hr0⟩:∃ r,c.l[k]? = some r:=⟨_,List.getElem?_eq_getElem (by omega)⟩;obtain ⟨ge,gf,rfl,hE,hF⟩:=hDA.2 k _ _ he0 hr0;have hdc:=drop_cons he0;obtain ⟨LM,akA,QW⟩:∃ e,e=(⟨r0.kind,r0.a,r0.b,ge,gf,r0.to⟩:bU)∧(t1++SE.drop k)[((k:Int)).toNat]? = some e:=⟨_,rfl,by show (t1++SE.drop k)[k]? = _; rw [List.getElem?_append_right (by omega),ht1,Nat.sub_self,List.getElem?_drop,Nat.add_zero]; exact he0⟩;have hfE:eE (λ _=>True) w (Flat.val LM.e) r0.e:=by rw [akA]; exact DL.flat hE
  have hfF:eE (λ _=>True) w (Flat.val LM.f) r0.f:=by rw [akA]; exact DL.flat hF
  have hzz:=hz.ef _ (List.mem_of_getElem? hr0);have hlL:(t1++SE.drop k).length=SE.length:=by rw [List.length_append,List.length_drop]; omega
  refine aA mC (have hs:=hs.drew;aB (v:=Flat.val (yz:SV)) uV hs.hb rfl (aA mC (aB (v:=Flat.val (yz:SV)) uV hs.hb rfl (aA mC (aB (v:=Flat.val (yz:SV)) uV hs.hb rfl (dU hs.p1 kS (by omega) (by omega) (λ _ ox=>nd tX ox (λ _ wu=>og (LM).e hs.p1 xV wu QW rfl (aA mC (aB (v:=Flat.val (yz:SV)) uV hs.hb rfl (dU hs.p1 kS (by omega) (by omega) (λ _ ow=>nd tY ow (λ _ oO=>?_)))))))))))));refine og (LM).f hs.p1 xV oO QW rfl (cZ Uv hs (C121 _ _ _ (hfE.ext hs.aE) (by omega)) (λ x26 w6 bV hs=>?_))
  refine ⟨aG uV (hs.p1.hb.cell rfl),?_⟩;refine ⟨aG uV (hs.p1.hb.cell rfl),?_⟩;refine ⟨aG uV (hs.p1.hb.cell rfl),?_⟩;refine ⟨Vd (LM).f hs.p2 xV oO QW rfl,?_⟩;refine cZ Uv hs (C121 _ _ _ (hfF.ext hs.aE) (by omega)) (λ x33 w7 bV hs=>?_);refine ⟨aG uV (hs.p2.hb.cell rfl),?_⟩;refine ⟨aG uV (hs.p2.hb.cell rfl),?_⟩;refine dU hs.p3 kS (by omega) (by omega) (λ _ rL=>nd tX rL (λ _ z9=>?_));obtain ⟨zb,rfl⟩:=(hs.p1).fR;refine KF {LM with e:=zb} (zb:SV) hs.p3 xV z9 QW (by decide) rfl (λ w8 hs=>?_);refine ⟨aG uV (hs.p3.hb.cell rfl),?_⟩
  have hlS:((((t1++SE.drop k)).set ((k:Int)).toNat {LM with e:=zb})).length=SE.length:=by rw [List.length_set]; exact hlL
  obtain ⟨agH,E2⟩:=gx ((((t1++SE.drop k)).set ((k:Int)).toNat {LM with e:=zb})) (i:=((k:Int)).toNat) (by omega);refine dU hs kS (by omega) (by omega) (λ _ ui=>nd tY ui (λ _ Ag=>?_));obtain ⟨wN,rfl⟩:=(hs.p1).fR;refine KF {agH with f:=wN} (wN:SV) hs xV Ag E2 (by decide) rfl (λ w9 hs=>aO (by omega) ?_);have ayG:=set_self? (k:=k) E2;have hs:=hs.p2.freeze.p2.freeze.p1.fP.p3.fP.dO (Ψ:=iB (t1++[(⟨r0.kind,r0.a,r0.b,zb,wN,r0.to⟩:bU)]) (c.l.take (k+1))) (λ w h=>by rw [← gZ (k:=k) hr0]; exact h.1.snoc ⟨_,_,rfl,DL.fu h.2.1,DL.fu h.2.2⟩)
  have hs:=hs.p3.p1.p3.p3.apa (ys:=t1++[(⟨r0.kind,r0.a,r0.b,zb,wN,r0.to⟩:bU)]++SE.drop (k+1)) (by rw [hdc]; exact (WZ ht1).trans (by rw [ayG,akA]));have hs:=hs.p1;exact ⟨_,by omega,k+1,t1++[(⟨r0.kind,r0.a,r0.b,zb,wN,r0.to⟩:bU)],rfl,rfl,by omega,by rw [List.length_append,List.length_singleton]; omega,hs⟩
 ·rw [List.drop_eq_nil_of_le (by omega),List.append_nil,List.take_of_length_le (by omega)] at hs;have hs:=hs.p2.p2.D3;refine aD qg hs.p1.At (aI (x:=(⟨(c).aN,(c).counts,yz⟩:cL)) hs.p2 qg rfl rfl (λ pP hs=>aD qg hs.At ?_));have hs:=hs.p1.jO.dO (Ψ:=(λ w=>cA.dr w (⟨(c).aN,(c).counts,yz⟩:cL) (⟨(c).aN,(c).counts,c.l⟩:fq))) (λ w h=>⟨_,rfl,h⟩);have hs:=((hs.p1.drop).p1).drop;exact ⟨_,rfl,hs.fresh⟩
set_option maxHeartbeats 4000000 in
theorem C53 (u:ir) (uv:dL) (w:World) (hu:cA.dr w uv u) (hz:UZ u):CR 53 [Flat.val uv] w (λ v w'=>∃ uv':dL,v=Flat.val uv'∧lW (eB (λ w=>cA.dr w uv' u)) w w'):=by
 obtain ⟨iK,gL,fa,sM,fk,rfl,iL,jw,jd,jS,kX⟩:=hu;obtain ⟨dM,rfl,il⟩:=jS;have hs:=St.start w;refine ah2 _ _ _ ?_;unfold S53;refine dE hs (λ ye w1 hs=>aJ hs uW (λ ma w2 hs=>have hs:=hs.enc (cs':=Flat.enc (⟨⟨none,0,0⟩,0,⟨none,0,0⟩,0,⟨none,0,0⟩,(⟨0,0,⟨none,0,0⟩⟩:cL),⟨none,0,0⟩⟩:dL)) rfl;aA mD ?_));have hs:=hs.drew;have hzl:=hz.lines;have hzf:=hz.dF;have Lh:=hz.threads;have hzc:=hz.cC;refine aB eA hs.p1.hb rfl ?_;have are:=DL.flat (iL);refine aA xk (aB eA hs.p1.hb rfl ?_)
 have arf:=DL.flat (jw);refine aA zN (uZ (⟨((u).recover).aN,((u).recover).counts,dM⟩:cL) qg hs.p1.hb rfl (cZ zG hs (C70 _ _ _ (are.ext hs.aE) (by omega)) (λ x11 w3 bV hs=>?_)));refine ⟨aG eA (hs.p2.hb.cell rfl),?_⟩;refine ⟨ID (⟨((u).recover).aN,((u).recover).counts,dM⟩:cL) qg hs.p2.hb rfl,?_⟩;refine aA mD (cZ zG hs (C70 _ _ _ (arf.ext hs.aE) (by omega)) (λ x14 w4 bV hs=>?_));refine ⟨ID (⟨((u).recover).aN,((u).recover).counts,dM⟩:cL) qg hs.p3.hb rfl,?_⟩;refine ed aff (C120 (u).recover _ _ ⟨dM,rfl,(il.ext hs.aE)⟩ hz.rc) ?_
 rintro _ w5 ⟨qk,rfl,bV⟩;have hs:=hs.made bV;obtain ⟨ml,rfl⟩:=(hs.p2).fR;refine aV hs.p4 eA (eL rfl) (rfl) (λ w6 hs=>have hs:=hs.enc (cs':=Flat.enc (⟨ml,(u).stays,gL,(u).locks,fa,(⟨((u).recover).aN,((u).recover).counts,dM⟩:cL),fk⟩:dL)) rfl;aA xk ?_);obtain ⟨oC,rfl⟩:=(hs.p2).fR;refine aV hs eA (eL rfl) (rfl) (λ w7 hs=>have hs:=hs.enc (cs':=Flat.enc (⟨ml,(u).stays,oC,(u).locks,fa,(⟨((u).recover).aN,((u).recover).counts,dM⟩:cL),fk⟩:dL)) rfl;aA zN (pF (vs:=Flat.enc qk) hs qg rfl (eL rfl) (Flat.one _) (λ w8 hs=>have hs:=hs.enc (cs':=Flat.enc (⟨ml,(u).stays,oC,(u).locks,fa,qk,fk⟩:dL)) rfl;aA sm (aB (v:=Flat.val (fa:SV)) FW hs.hb rfl ?_))))
 obtain ⟨arh,agI,agJ⟩:=(jd).open;have hn119:=agJ.1;refine aK Bj (agI.ext hs.aE) ?_;have hs:=((((((hs.xX (α:=fq)).p5).p3).p4).p5).p5).p5;refine ⟨λ m tN x w1=>∃ k:Nat,x = .int .i64 (k:Int)∧m=u.threads.length - k∧k≤u.threads.length∧St w bD [fo tN (u.threads.take k),cE ye (Flat.enc (⟨ml,(u).stays,oC,(u).locks,fa,qk,fk⟩:dL)),bK (Flat.val ml) ((u).lines),bK (Flat.val oC) ((u).dF),eB (λ w=>cA.dr w qk ((u).recover)),cE ma (Flat.enc (⟨⟨none,0,0⟩,0,⟨none,0,0⟩,0,⟨none,0,0⟩,(⟨0,0,⟨none,0,0⟩⟩:cL),⟨none,0,0⟩⟩:dL))] w1,⟨_,0,rfl,rfl,Nat.zero_le _,hs⟩,?_⟩
 rintro m tN _ w9 ⟨k,rfl,rfl,hk,hs⟩ fz;refine aR (aC (λ fD=>?_) (λ fD=>?_))
 ·obtain ⟨apR,Bw⟩:=gx arh (i:=((k:Int)).toNat) (by omega);obtain ⟨Al,Bx⟩:=gx ((u).threads) (i:=((k:Int)).toNat) (by omega);obtain ⟨QX,rfl,adP⟩:=agJ.2 _ _ _ Bw Bx;refine aQ Bj agI (by omega) Bw (λ _ rB=>aD qg (rB.ext hs.aE) (aJ hs Io (λ akc pP hs=>have hs:=hs.enc (cs':=Flat.enc (⟨0,0,⟨none,0,0⟩⟩:cL)) rfl;aI (x:=(⟨(Al).aN,(Al).counts,QX⟩:cL)) hs qg rfl rfl (λ sB hs=>aD qg hs.At (ed aff (C120 Al _ _ ⟨QX,rfl,(adP.ext hs.aE)⟩ (hz.th _ (List.mem_of_getElem? Bx))) ?_)))));rintro _ u7 ⟨akB,rfl,bV⟩;have hs:=hs.made bV
  refine eM (s:=akB) (x:=(Al)) hs Bj (by decide) (λ V1 u9 hs=>have hs:=hs.p2;ee hs Bj (by rw [List.length_take,List.length_singleton]; omega) (by decide) (λ Wk r9 hs=>aO (by omega) ?_));have hs:=(hs.p1.drop.p5.p5.p5.p5.p5).p5;exact ⟨_,by omega,k+1,rfl,rfl,by omega,by rw [← gZ (k:=k) Bx]; exact hs⟩
 ·rw [List.take_of_length_le (by omega)] at hs;refine aA xl (aB (v:=Flat.val (fk:SV)) Se hs.p1.hb rfl ?_);obtain ⟨ari,agK,agL⟩:=(kX).open;have hn120:=agL.1;refine aK FX (agK.ext hs.aE) ?_;have hs:=(((((((hs.xX (α:=(List nx))).p6).p6).p6).p6).p6).p6).p6;refine ⟨λ m zF x w1=>∃ q:Nat,x = .int .i64 (q:Int)∧m=u.cC.length - q∧q≤u.cC.length∧St w bD [fo zF (u.cC.take q),fo tN u.threads,cE ye (Flat.enc (⟨ml,(u).stays,oC,(u).locks,fa,qk,fk⟩:dL)),bK (Flat.val ml) ((u).lines),bK (Flat.val oC) ((u).dF),eB (λ w=>cA.dr w qk ((u).recover)),cE ma (Flat.enc (⟨⟨none,0,0⟩,0,⟨none,0,0⟩,0,⟨none,0,0⟩,(⟨0,0,⟨none,0,0⟩⟩:cL),⟨none,0,0⟩⟩:dL))] w1,⟨_,0,rfl,rfl,Nat.zero_le _,hs⟩,?_⟩
  rintro m zF _ vT ⟨q,rfl,rfl,hq,hs⟩ jB;refine aR (aC (λ mi=>?_) (λ mi=>?_))
  ·obtain ⟨qF,ql⟩:=gx ari (i:=((q:Int)).toNat) (by omega);obtain ⟨W0,E3⟩:=gx ((u).cC) (i:=((q:Int)).toNat) (by omega);have arj:DL w (Flat.val qF) W0:=agL.2 _ _ _ ql E3;refine aQ FX agK (by omega) ql (λ _ uo=>aD xV (uo.ext hs.aE) ?_);have ark:=DL.flat (arj);have hzk:=hz.cl _ (List.mem_of_getElem? E3);refine cZ Uv hs (C121 _ _ _ (ark.ext hs.aE) (by omega)) (λ x43 yO bV hs=>?_);obtain ⟨BF,rfl⟩:=(hs).fR;have hs:=hs.freeze.dO (Ψ:=λ w=>cA.dr w BF ((W0))) (λ w h=>DL.fu h);refine eM (s:=BF) (x:=(W0)) hs FX (by decide) (λ aql B6 hs=>have hs:=hs.p1;ee hs FX (by rw [List.length_take,List.length_singleton]; omega) (by decide) (λ WK GQ hs=>aO (by omega) ?_))
   have hs:=hs.p6.p6.p6.p6.p6.p6.p6;exact ⟨_,by omega,q+1,rfl,rfl,by omega,by rw [← gZ (k:=q) E3]; exact hs⟩
  ·rw [List.take_of_length_le (by omega)] at hs;refine aA sm ?_;obtain ⟨sN,rfl⟩:=(hs.p1).lO;refine aV hs.p2 FW (eL rfl) (rfl) (λ IF hs=>have hs:=hs.enc (cs':=Flat.enc (⟨ml,(u).stays,oC,(u).locks,sN,qk,fk⟩:dL)) rfl;aA xl ?_);obtain ⟨zd,rfl⟩:=(hs.p1).lO;refine aV hs Se (eL rfl) (rfl) (λ JH hs=>have hs:=hs.enc (cs':=Flat.enc (⟨ml,(u).stays,oC,(u).locks,sN,qk,zd⟩:dL)) rfl;aD r8 hs.At (aI (x:=(⟨ml,(u).stays,oC,(u).locks,sN,qk,zd⟩:dL)) hs.p6 r8 rfl rfl (λ Lr hs=>aD r8 hs.At ?_)))
   have hs:=hs.p4.freeze.p5.freeze.p1.fP.p4.jO.p1.fP.p4.p1.fP.p3.jO.p1.fP.dO (Ψ:=(λ w=>cA.dr w (⟨ml,(u).stays,oC,(u).locks,sN,qk,zd⟩:dL) (⟨((u).lines),(u).stays,((u).dF),(u).locks,(u).threads,((u).recover),(u).cC⟩:ir))) (λ w h=>⟨_,_,_,_,_,rfl,DL.fu h.1.1.1.1,DL.fu h.1.1.1.2,h.1.1.2,h.1.2,h.2⟩);have hs:=((hs.p1.drop).p1).drop;exact ⟨_,rfl,hs.fresh⟩
def tn (x y:bJ):Bool:=decide (x.kind≠7∧y.kind≠7∧(x.kind=6∨y.kind=6)∧x.line≠y.line)
def right (x:bJ):Bool:=decide ((x.kind=3∧0≤x.line∧0≤x.cell)∨((x.kind=5∨x.kind=6)∧0≤x.line∧x.cell=0∧x.n=0)∨(x.kind=7∧x.line=0∧x.cell=0∧x.n=0))
theorem C191 (x y:bJ) (w:World):CR 191 [Flat.val x,Flat.val y] w (λ v w'=>v = .bool (tn x y)∧Ext w w'):=by
 have hs:=St.start w;refine aaO _ _ _ _ ?_;unfold S191;refine dE hs (λ ma w1 hs=>dE hs (λ W1 w2 hs=>?_));refine ⟨_,?_,λ _ _ h=>h⟩;refine aA pK (aB bN hs.p1.hb rfl (aH (aC (λ gp=>?_) (λ gp=>?_))))
 ·intro fz;refine ⟨_,?_,λ _ _ h=>h⟩;refine bZ (fi ?_);intro jB;refine ⟨vb ?_,hs.aE⟩;unfold tn
  first | exact (decide_eq_true (by omega)).symm | exact (decide_eq_false (by omega)).symm | exact decide_eq_decide.2 (by omega) | exact decide_eq_decide.2 (bJ.ext_iff.trans (by dsimp only; omega))
 ·refine aA pK (aB bN hs.hb rfl (aH ?_));intro fz;refine ⟨_,?_,λ _ _ h=>h⟩
  first | refine DC ?_ | refine bZ ?_
  refine aC (λ js=>?_) (λ js=>?_)
  ·refine aA pK (aB bN hs.p1.hb rfl (aH (aC (λ fy=>?_) (λ fy=>?_))))
   ·refine aA lg (aB bN hs.p1.hb rfl (aA lg (aB bN hs.hb rfl (cO ?_))));intro jB;refine ⟨vb ?_,hs.aE⟩;unfold tn
    first | exact (decide_eq_true (by omega)).symm | exact (decide_eq_false (by omega)).symm | exact decide_eq_decide.2 (by omega) | exact decide_eq_decide.2 (bJ.ext_iff.trans (by dsimp only; omega))
   ·refine aA pK (aB bN hs.hb rfl (aH (aC (λ iT=>?_) (λ iT=>?_))))
    ·refine aA lg (aB bN hs.p1.hb rfl (aA lg (aB bN hs.hb rfl (cO ?_))));intro jB;refine ⟨vb ?_,hs.aE⟩;unfold tn
     first | exact (decide_eq_true (by omega)).symm | exact (decide_eq_false (by omega)).symm | exact decide_eq_decide.2 (by omega) | exact decide_eq_decide.2 (bJ.ext_iff.trans (by dsimp only; omega))
    ·intro jB;refine ⟨vb ?_,hs.aE⟩;unfold tn
     first | exact (decide_eq_true (by omega)).symm | exact (decide_eq_false (by omega)).symm | exact decide_eq_decide.2 (by omega) | exact decide_eq_decide.2 (bJ.ext_iff.trans (by dsimp only; omega))
  ·intro jB;refine ⟨vb ?_,hs.aE⟩;unfold tn
   first | exact (decide_eq_true (by omega)).symm | exact (decide_eq_false (by omega)).symm | exact decide_eq_decide.2 (by omega) | exact decide_eq_decide.2 (bJ.ext_iff.trans (by dsimp only; omega))
theorem eqE (x y:bJ):rf (Flat.enc x) (Flat.enc y)=decide (x=y):=by
 obtain ⟨a,b,c,d⟩:=x
 obtain ⟨a2,b2,c2,d2⟩:=y
 simp [Flat.enc,rf,eqV,Bool.eq_iff_iff]
theorem C226 (x:bJ) (w:World):CR 226 [Flat.val x] w (λ v w'=>v = .bool (right x)∧Ext w w'):=by
 have hs:=St.start w;refine abg _ _ _ ?_;unfold S226;refine dE hs (λ VC w1 hs=>aA pK (aB bN hs.hb rfl (aH (aC (λ oJ=>?_) (λ oJ=>?_)))))
 ·refine ⟨_,?_,λ _ _ h=>h⟩;refine aA lg (aB bN hs.hb rfl (dH (aC (λ gw=>?_) (λ gw=>?_))))
  ·refine aA oa (aB bN hs.hb rfl (dH ?_));intro fz;refine ⟨vb ?_,hs.aE⟩;unfold right
   first | exact (decide_eq_true (by omega)).symm | exact (decide_eq_false (by omega)).symm | exact decide_eq_decide.2 (by omega) | exact decide_eq_decide.2 (bJ.ext_iff.trans (by dsimp only; omega))
  ·intro fz;refine ⟨vb ?_,hs.aE⟩;unfold right
   first | exact (decide_eq_true (by omega)).symm | exact (decide_eq_false (by omega)).symm | exact decide_eq_decide.2 (by omega) | exact decide_eq_decide.2 (bJ.ext_iff.trans (by dsimp only; omega))
 ·refine ⟨_,?_,λ _ _ h=>h⟩;refine aH (aC (λ eF=>?_) (λ eF=>?_))
  ·intro jB;refine aC (λ js=>?_) (λ js=>?_)
   ·refine ⟨_,?_,λ _ _ h=>h⟩;refine aA lg (aB bN hs.hb rfl (dH (aC (λ jD=>?_) (λ jD=>?_))))
    ·refine aA oa (aB bN hs.hb rfl (aH (aC (λ iH=>?_) (λ iH=>?_))))
     ·refine aA mZ (aB bN hs.hb rfl (aH ?_));intro oN;refine ⟨vb ?_,hs.aE⟩;unfold right
      first | exact (decide_eq_true (by omega)).symm | exact (decide_eq_false (by omega)).symm | exact decide_eq_decide.2 (by omega) | exact decide_eq_decide.2 (bJ.ext_iff.trans (by dsimp only; omega))
     ·intro oN;refine ⟨vb ?_,hs.aE⟩;unfold right
      first | exact (decide_eq_true (by omega)).symm | exact (decide_eq_false (by omega)).symm | exact decide_eq_decide.2 (by omega) | exact decide_eq_decide.2 (bJ.ext_iff.trans (by dsimp only; omega))
    ·intro oN;refine ⟨vb ?_,hs.aE⟩;unfold right
     first | exact (decide_eq_true (by omega)).symm | exact (decide_eq_false (by omega)).symm | exact decide_eq_decide.2 (by omega) | exact decide_eq_decide.2 (bJ.ext_iff.trans (by dsimp only; omega))
   ·refine aD kq hs.At (pop (KE _) (lD Nx rfl rfl (eqE x ⟨7,0,0,0⟩) ?_));refine ⟨vb ?_,hs.aE⟩;unfold right
    first | exact (decide_eq_true (by omega)).symm | exact (decide_eq_false (by omega)).symm | exact decide_eq_decide.2 (by omega) | exact decide_eq_decide.2 (bJ.ext_iff.trans (by dsimp only; omega))
  ·refine aH ?_;intro jB;refine aC (λ js=>?_) (λ js=>?_)
   ·refine ⟨_,?_,λ _ _ h=>h⟩;refine aA lg (aB bN hs.hb rfl (dH (aC (λ jD=>?_) (λ jD=>?_))))
    ·refine aA oa (aB bN hs.hb rfl (aH (aC (λ iH=>?_) (λ iH=>?_))))
     ·refine aA mZ (aB bN hs.hb rfl (aH ?_));intro oN;refine ⟨vb ?_,hs.aE⟩;unfold right
      first | exact (decide_eq_true (by omega)).symm | exact (decide_eq_false (by omega)).symm | exact decide_eq_decide.2 (by omega) | exact decide_eq_decide.2 (bJ.ext_iff.trans (by dsimp only; omega))
     ·intro oN;refine ⟨vb ?_,hs.aE⟩;unfold right
      first | exact (decide_eq_true (by omega)).symm | exact (decide_eq_false (by omega)).symm | exact decide_eq_decide.2 (by omega) | exact decide_eq_decide.2 (bJ.ext_iff.trans (by dsimp only; omega))
    ·intro oN;refine ⟨vb ?_,hs.aE⟩;unfold right
     first | exact (decide_eq_true (by omega)).symm | exact (decide_eq_false (by omega)).symm | exact decide_eq_decide.2 (by omega) | exact decide_eq_decide.2 (bJ.ext_iff.trans (by dsimp only; omega))
   ·refine aD kq hs.At (pop (KE _) (lD Nx rfl rfl (eqE x ⟨7,0,0,0⟩) ?_));refine ⟨vb ?_,hs.aE⟩;unfold right
    first | exact (decide_eq_true (by omega)).symm | exact (decide_eq_false (by omega)).symm | exact decide_eq_decide.2 (by omega) | exact decide_eq_decide.2 (bJ.ext_iff.trans (by dsimp only; omega))
def tq (l:List bJ) (i:Int):Bool:=decide (0≤i∧i<l.length) && (match l[i.toNat]? with | some x=>(l.take i.toNat).all (tn x) | none=>false)
def Az (l:List bJ):List Int:=((List.range l.length).map fun (k:Nat)=>(k:Int)).filter (tq l)
theorem uB {l:List bJ} {i:Int} (h:i<0∨(l.length:Int)≤i):tq l i=false:=by
 unfold tq
 have:decide (0≤i∧i<l.length)=false:=by rw [decide_eq_false_iff_not]; omega
 rw [this]; rfl
theorem adQ {l:List bJ} {i:Int} {x:bJ} (h0:0≤i) (h1:i<l.length) (hx:l[i.toNat]? = some x):tq l i = !(l.take i.toNat).any λ y=>!tn x y:=by
 unfold tq
 rw [hx,decide_eq_true (show 0≤i∧i<l.length from ⟨h0,h1⟩)]
 simp [List.all_eq_not_any_not]
def tu (l:List bJ) (k:Nat):List Int:=((List.range k).map fun (k:Nat)=>(k:Int)).filter (tq l)
theorem Hd (l:List bJ) (k:Nat):(tu l k).length≤k:=by
 unfold tu
 have:=List.length_filter_le (tq l) ((List.range k).map fun (k:Nat)=>(k:Int)); simpa using this
theorem Oo {l:List bJ} {k:Nat} (h:tq l k=true):tu l (k+1)=tu l k++[(k:Int)]:=by
 unfold tu; rw [List.range_succ,List.map_append,List.filter_append]; simp [h]
theorem SF {l:List bJ} {k:Nat} (h:tq l k=false):tu l (k+1)=tu l k:=by
 unfold tu; rw [List.range_succ,List.map_append,List.filter_append]; simp [h]
theorem E4 (l:List bJ) {k:Nat} (h:k=l.length):tu l k=Az l:=by subst h; rfl
def wO (w:World) (p:Nat) (room:Int) (l:List bJ):Prop:=∃ sv,Cell w p 0 (.int .i64 room)∧Cell w p 1 sv∧eE (λ _=>True) w sv l
def nQ (p:Nat) (room:Int) (l:List bJ):HP:=ue λ sv=>sep (cE p [.int .i64 room,sv]) (bK sv l)
theorem wO.ext {w w':World} {p:Nat} {room:Int} {l:List bJ} (h:wO w p room l) (e:Ext w w'):wO w' p room l:=by
 obtain ⟨sv,h1,h2,h3⟩:=h; exact ⟨sv,h1.ext e,h2.ext e,h3.ext e⟩
theorem nQ.rd {w:World} {F:Nat→Prop} {p:Nat} {room:Int} {l:List bJ} (h:(nQ p room l).p w F):wO w p room l:=by
 obtain ⟨sv,F1,F2,h1,h2,_⟩:=h
 exact ⟨sv,h1.1.cell rfl,h1.1.cell rfl,(bK.rd h2).mono λ _ _=>trivial⟩
theorem C224 (sv fv:Value) (xs:List bJ) (g:bJ→Bool) (w:World) (hL:eE (λ _=>True) w sv xs) (hf:CA w fv g) (hn:xs.length≤1073741824):CR 224 [sv,fv] w (λ v w'=>v = .int .i64 (va g xs)∧Ext w w'):=by
 obtain ⟨g0,first,cap,rfl,vz,lY⟩:=hf;have hs:=St.start w;refine abe _ _ _ _ ?_;unfold S224;refine aK nw (hL.ext hs.aE) ?_;refine ⟨λ m x w1=>∃ k:Nat,x = .int .i64 (k:Int)∧m=xs.length - k∧k≤xs.length∧(∀ y∈xs.take k,g y=false)∧St w bD [] w1,⟨_,0,rfl,rfl,Nat.zero_le _,by simp,hs⟩,?_⟩;rintro m _ w1 ⟨k,rfl,rfl,hk,fS,hs⟩ fz;refine aR (aC (λ gw=>?_) (λ gw=>?_))
 ·obtain ⟨jr,dG⟩:=gx (xs) (i:=((k:Int)).toNat) (by omega);refine aQ nw (hL.ext hs.aE) (by omega) dG (λ _ iS=>aD kq (iS) (ga vz (lY jr w1 hs.aE) ?_));rintro _ w2 ⟨rfl,he⟩;have hs:=hs.ext he;refine aY (λ eF=>?_) (λ eF=>?_)
  ·exact ⟨congrArg (Value.int .i64) (py fS dG eF).symm,hs.aE⟩
  ·refine aO (by omega) ?_;exact ⟨xs.length - (k+1),by omega,k+1,rfl,rfl,by omega,eH fS dG eF,hs⟩
 ·exact ⟨congrArg (Value.int .i64) (ky (by rw [List.take_of_length_le (by omega)] at fS; exact fS)).symm,hs.aE⟩
theorem C192 (sv fv:Value) (xs:List bJ) (g:bJ→Bool) (w:World) (hL:eE (λ _=>True) w sv xs) (hf:CA w fv g) (hn:xs.length≤1073741824):CR 192 [sv,fv] w (λ v w'=>v = .bool (xs.any g)∧Ext w w'):=by
 have hs:=St.start w;refine aaP _ _ _ _ ?_;unfold S192;refine aZ aok hs (C224 _ _ _ _ _ (hL.ext hs.aE) (hf.ext hs.aE) (by omega)) (λ w1 he hs=>dH ?_);exact ⟨vb (oq _ _),hs.aE⟩
theorem C190 (x y:bJ) (p b2 b3:Nat) (i:Int) (room:Int) (l:List bJ) (w:World) (h2:Cell w b2 0 (.pointer (some ⟨p,0,none⟩))) (h3:Cell w b3 0 (.int .i64 i)) (hb:wO w p room l) (h0:0≤i) (hx:l[i.toNat]? = some x):CR 190 [Flat.val y,.pointer (some ⟨b2,0,none⟩),.pointer (some ⟨b3,0,none⟩)] w (λ v w'=>v = .bool (!tn x y)∧Ext w w'):=by
 obtain ⟨sv,yl,CC,hL⟩:=hb;have mF:=(List.getElem?_eq_some_iff.1 hx).1;have hs:=St.start w;refine aaN _ _ _ _ _ ?_;unfold S190;refine dE hs (λ W1 w1 hs=>have hs:=hs.drew;cD rh (h2.ext hs.aE) (aF (aA kr (cD xU (CC.ext hs.aE) (cD bN (h3.ext hs.aE) (aQ nw (hL.ext hs.aE) h0 hx (λ _ qE=>aD kq (qE) (aD kq hs.At (aZ an5 hs (C191 x y _) (λ w2 he hs=>bZ ?_))))))))));exact ⟨rfl,hs.aE⟩
theorem C124 (p:Nat) (i:Int) (room:Int) (l:List bJ) (w:World) (hb:wO w p room l) (hn:l.length≤1073741824):CR 124 [.pointer (some ⟨p,0,none⟩),.int .i64 i] w (λ v w'=>v = .bool (tq l i)∧Ext w w'):=by
 have Ge:=hb;obtain ⟨sv,yl,CC,hL⟩:=hb;have hs:=St.start w;refine ZX _ _ _ _ ?_;unfold S124;refine tQ hs rfl (λ arl w1 hs=>tQ hs rfl (λ arn w2 hs=>?_));refine ⟨_,?_,λ _ _ h=>h⟩;have hs:=hs.drew;refine aB bN hs.hb rfl (aR (aC (λ iV=>?_) (λ iV=>?_)))
 ·intro fz;refine nX ?_;exact ⟨vb (uB (by omega)).symm,hs.aE⟩
 ·refine aB bN hs.hb rfl (aB rh hs.p1.hb rfl (aF (aA kr (cD xU (CC.ext hs.aE) (aK nw (hL.ext hs.aE) (dH ?_))))));intro fz;refine aC (λ eF=>?_) (λ eF=>?_)
  ·exact ⟨vb (uB (by omega)).symm,hs.aE⟩
  ·have hs:=hs.drew;refine aB rh hs.p1.hb rfl (aF (aA kr (cD xU (CC.ext hs.aE) (aB bN hs.hb rfl (R8 nw (hL.ext hs.aE) (by omega) (by omega) (λ apj ox=>?_))))));obtain ⟨x,hx⟩:∃ x,l[i.toNat]? = some x:=⟨_,List.getElem?_eq_getElem (by omega)⟩
   have KH:CA _ (.func (.func 190) [].toArray [.pointer (some ⟨arl,0,none⟩),.pointer (some ⟨arn,0,none⟩)].toArray) (λ y=>!tn x y):=
    ⟨190,[],_,rfl,an4,λ y w1 e1=>C190 x y p arl arn i room l w1 ((hs.p1.hb.cell rfl).ext e1) ((hs.hb.cell rfl).ext e1) ((Ge.ext hs.aE).ext e1) (by omega) hx⟩
   refine aZ an6 hs (C192 _ _ _ _ _ ox KH (by rw [List.length_take]; omega)) (λ w4 he hs=>bZ ?_);exact ⟨vb (adQ (by omega) (by omega) hx).symm,hs.aE⟩
theorem C123 (p:Nat) (room:Int) (l:List bJ) (w:World) (hb:wO w p room l):CR 123 [.pointer (some ⟨p,0,none⟩)] w (λ v w'=>v = .bool (decide (room≤l.length))∧Ext w w'):=by
 obtain ⟨sv,yl,CC,hL⟩:=hb;have hs:=St.start w;refine ZW _ _ _ ?_;unfold S123;refine aF (aA kr (have hs:=hs.drew;cD xU (CC.ext hs.aE) (aK nw (hL.ext hs.aE) (aF (aA Kv (cD bN (yl.ext hs.aE) (dH ?_)))))));exact ⟨rfl,hs.aE⟩
theorem C57 (p:Nat) (room:Int) (l:List bJ) (w:World) (hb:wO w p room l) (hn:l.length≤1048576):CR 57 [.pointer (some ⟨p,0,none⟩)] w (λ v w'=>lW (bK v (Az l)) w w'):=by
 have Ge:=hb;obtain ⟨sv,yl,CC,hL⟩:=hb;have hs:=St.start w;refine ah6 _ _ _ ?_;unfold S57;refine aF (aA kr (cD xU (CC.ext hs.aE) (aK nw (hL.ext hs.aE) ?_)));refine ⟨λ m o x w1=>∃ k:Nat,x = .int .i64 (k:Int)∧m=l.length - k∧k≤l.length∧St w bD [bK o (tu l k)] w1,⟨_,0,rfl,rfl,Nat.zero_le _,hs.fU⟩,?_⟩;rintro m o _ w1 ⟨k,rfl,rfl,hk,hs⟩ fz;have QK:=Hd l k;refine aR (aC (λ gT=>?_) (λ gT=>?_))
 ·refine ⟨_,?_,λ _ _ h=>h⟩;refine aZ afi hs (C124 _ _ _ _ _ (Ge.ext hs.aE) (by omega)) (λ w2 he hs=>aY (λ js=>?_) (λ js=>?_))
  ·refine bX (([(k:Int)]:List Int)) hs ek rfl rfl (eL rfl) (λ af1 w3 hs=>?_);have ou:=(hs).fB;refine cP hs.p1 ek ou (by simp <;> omega) (by decide) (λ Vo w4 hs=>?_);have hs:=hs.p1.drop;intro jB;refine aO (by omega) ?_;exact ⟨l.length - (k+1),by omega,k+1,rfl,rfl,by omega,by rw [Oo js]; exact hs⟩
  ·intro jB;refine aO (by omega) ?_;exact ⟨l.length - (k+1),by omega,k+1,rfl,rfl,by omega,by rw [SF js]; exact hs⟩
 ·rw [E4 l (by omega)] at hs;exact hs.fresh
def Oq (room:Int) (l:List bJ) (x:bJ):Int:=if right x=true then (if room≤l.length then 2 else 0) else 1
def wP (room:Int) (l:List bJ) (x:bJ):List bJ:=if right x=true∧¬ room≤l.length then l++[x] else l
def eh (l:List bJ) (i:Int):bJ:=if tq l i=true then (l[i.toNat]?).getD ⟨0,0,0,0⟩ else ⟨0,0,0,0⟩
def AA (l:List bJ) (i:Int):Int:=if 0≤i∧i<l.length then (if tq l i=true then 0 else 13) else 1
def mq (l:List bJ) (i:Int):List bJ:=if tq l i=true then l.eraseIdx i.toNat else l
theorem adR {l:List bJ} {i:Int} (h:tq l i=true):0≤i∧i<l.length:=by
 unfold tq at h; rw [Bool.and_eq_true,decide_eq_true_eq] at h; exact h.1
theorem wO.mk' {w:World} {p:Nat} {room:Int} {sv:Value} {l:List bJ} (h1:tP w p [.int .i64 room,sv]) (h2:eE (λ _=>True) w sv l):wO w p room l:=
 ⟨sv,h1.cell rfl,h1.cell rfl,h2⟩
theorem nQ.shut {w0 w:World} {A:Nat→Prop} {R:List HP} {p:Nat} {room:Int} {sv:Value} {l:List bJ} (hs:St w0 A (cE p [.int .i64 room,sv]::bK sv l::R) w):St w0 A (nQ p room l::R) w:=
 St.eR (H:=λ sv=>sep (cE p [.int .i64 room,sv]) (bK sv l)) sv (St.join hs)
theorem QY {w0 w:World} {A:Nat→Prop} {R:List HP} {p:Nat} {room:Int} {l:List bJ} (hs:St w0 A (nQ p room l::R) w):wO w p room l:=by
 obtain ⟨F,h,_⟩:=hs.head; exact nQ.rd h
theorem C193 (v:Value) (i:Int) (xs:List bJ) (F:Nat→Prop) (w:World) (hv:(bK v xs).p w F) (h0:0≤i) (hi:i<xs.length) (hn:xs.length≤1073741824) :
  CR 193 [v,.int .i64 i,.int .i64 (i+1)] w (λ v' w'=>True∧qz F (bK v' (xs.eraseIdx i.toNat)) w w'):=by
 obtain ⟨i,rfl⟩:=Int.eq_ofNat_of_zero_le h0;replace hi:i<xs.length:=by omega
 rw [Int.toNat_natCast];have HW:=bK.rd hv;obtain ⟨b,cap,rest,rfl,hb,hl,hF⟩:=qQ hv hi;have hlen:(flat xs).length=xs.length * 4:=cT xs;have Kk:xs.length≤cap:=by rw [List.length_append,hlen] at hl; change _=cap * 4 at hl; omega
 refine aaQ _ _ _ _ _ ?_;unfold S193;refine pop (Ii nw) (U5 nw (by omega) (by omega) (by omega) (by omega) (λ _=>aH (aC (λ c=>absurd c (by omega)) (λ _=>pop (Ii nw) ?_))))
 have e22:pr PG (Instr.sliceAt 80 (.slice (some ⟨b,0,none⟩) xs.length cap) none (some (.int .i64 (i:Int))) none)=some (.slice (some ⟨b,0,none⟩) i cap):=by
  rw [Bf nw (l:=0) (h:=i) (qP (.inl ⟨rfl,rfl⟩) (.inr ⟨_,rfl,by omega,by omega⟩) (by omega) (by omega))];simp [gR]
 refine pop e22 (R9 nw HW (by omega) (by omega) (λ s25 h25=>?_));rw [show ((i:Int)+1).toNat=i+1 from by omega] at h25;have hdl:(xs.drop (i+1)).length=xs.length - (i+1):=by simp
 obtain ⟨w1,r1,b1,g1⟩:=FZ (P:=PG) (R:=80) (n:=i) (cap:=cap) nw (hb.of_eq (w':=drew w) rfl) (h25.ext (Ext.drew w)) (by omega) (by rw [List.length_append,hlen,hdl]; change i * 4+(xs.length - (i+1)) * 4≤_; omega);rw [hdl,show i+(xs.length - (i+1))=xs.length - 1 from by omega] at r1;refine ⟨_,w1,r1,?_⟩;refine pop (Ii nw) ?_
 have e31:pr PG (Instr.sliceAt 80 (.slice (some ⟨b,0,none⟩) (xs.length - 1) cap) (some (.int .i64 ((xs.length - 1:Nat):Int))) (some (.int .i64 (xs.length:Int))) none)=some (.slice (some ⟨b,(xs.length - 1) * 4,none⟩) 1 (cap - (xs.length - 1))):=by
  rw [Bf nw (l:=xs.length - 1) (h:=xs.length) (qP (.inr ⟨_,rfl,by omega,by omega⟩) (.inr ⟨_,rfl,by omega,by omega⟩) (by omega) (by omega)),if_neg (by omega)];simp [gR]; omega
 refine pop e31 ?_;have hx:xs[i]? = some xs[i]:=by simp [hi]
 have Sb:=yK hx;have hT:(flat (xs.take i)).length=i * 4:=by rw [cT,List.length_take,Nat.min_eq_left (by omega)]; rfl
 have hD:(flat (xs.drop (i+1))).length=(xs.length - (i+1)) * 4:=by rw [cT,hdl]; rfl
 have hX:(Flat.enc xs[i]).length=4:=rfl;have hZ:(flat (List.replicate 1 (⟨0,0,0,0⟩:bJ))).length=4:=rfl
 have s1:gX (flat xs++rest) (i * Flat.sz bJ) (flat (xs.drop (i+1))) =
   flat (xs.take i)++flat (xs.drop (i+1))++((Flat.enc xs[i]++flat (xs.drop (i+1))).drop (flat (xs.drop (i+1))).length++rest):=by
  have:=kQ (flat (xs.take i)) ((Flat.enc xs[i]++flat (xs.drop (i+1))).take (flat (xs.drop (i+1))).length)
   ((Flat.enc xs[i]++flat (xs.drop (i+1))).drop (flat (xs.drop (i+1))).length++rest) (flat (xs.drop (i+1))) (by rw [List.length_take,List.length_append]; omega)
  rw [hT] at this
  change gX (flat xs++rest) (i * 4) _=_
  rw [← this,Sb]
  have e0:∀ (a b c d:List Value) (n:Nat),a++(b++c)++d=a++(b++c).take n++((b++c).drop n++d):=λ a b c d n=>by
   rw [List.append_assoc a ((b++c).take n),← List.append_assoc ((b++c).take n),List.take_append_drop,List.append_assoc a]
  exact congrArg (λ z=>gX z (i * 4) (flat (xs.drop (i+1)))) (by first | exact e0 _ _ _ _ _ | (rw [← e0]; simp only [List.append_assoc]) | (simp only [List.append_assoc]; rw [← List.append_assoc (List.take _ _),List.take_append_drop,List.append_assoc]))
 rw [s1] at b1
 obtain ⟨w2,r2,b2,g2⟩:=Si (P:=PG) (R:=0) (o:=(xs.length - 1) * 4) (n:=1) (c:=cap - (xs.length - 1)) (z:=(⟨0,0,0,0⟩:bJ)) nw uX b1
  (by simp only [List.length_append,List.length_drop,hT,hD,hX]; change _+1 * 4≤_; omega)
 refine ⟨_,w2,r2,?_⟩
 have s2:=kQ (flat (xs.take i)++flat (xs.drop (i+1))) ((Flat.enc xs[i]++flat (xs.drop (i+1))).drop (flat (xs.drop (i+1))).length) rest (flat (List.replicate 1 (⟨0,0,0,0⟩:bJ)))
  (by rw [List.length_drop,List.length_append,hX,hZ]; omega)
 rw [show (flat (xs.take i)++flat (xs.drop (i+1))).length=(xs.length - 1) * 4 from by rw [List.length_append,hT,hD]; omega,List.append_assoc _ _ rest] at s2;rw [s2] at b2;refine ⟨trivial,F,.inr ⟨b,cap,flat (List.replicate 1 (⟨0,0,0,0⟩:bJ))++rest,?_,?_,?_,hF⟩,λ b hb=>.inl hb,?_⟩
 ·rw [List.length_eraseIdx_of_lt hi]
 ·rw [List.eraseIdx_eq_take_drop_succ,iq,← List.append_assoc]; exact b2
 ·rw [List.eraseIdx_eq_take_drop_succ,iq]
  change _=cap * 4
  change _=cap * 4 at hl
  rw [List.length_append,hlen] at hl;simp only [List.length_append,hT,hD,hZ];omega
 ·exact ((Ext.drew w).aE (A:=F)).trans (g1.trans (C:=F) g2 (λ k hk=>(hF k).2 hk) λ k _ hk=>(hF k).2 hk) (λ _ h=>h) λ _ _ h=>h
theorem C154 (sv:Value) (xs:List bJ) (w:World) (hL:eE (λ _=>True) w sv xs) (hn:xs.length≤1073741824):CR 154 [sv] w (λ v w'=>lW (bK v xs) w w'):=by
 have hL0:=hL;obtain ⟨a,cap,rfl,Kk,h3⟩:=hL;have hs:=St.start w;refine aad _ _ _ ?_;unfold S154;refine UF (gu nw).1 (λ h0=>?_) ?_
 ·rcases h3 with ⟨h,hc⟩ | ⟨b,o,h,_⟩
  ·exact ⟨by rw [h]; rfl,hc⟩
  ·rw [h0] at h; cases h
 refine aY (λ pU=>?_) (λ pU=>?_)
 ·have ha:a=none:=by cases a with | none=>rfl | some _=>cases pU
  have hx:xs=[]:=by
   rcases h3 with ⟨h,_⟩ | ⟨b,o,h,_⟩
   ·exact h
   ·rw [ha] at h; cases h
  subst hx;exact hs.fU.fresh
 ·refine bX (([]:List bJ)) hs nw rfl rfl (eL rfl) (λ IH w1 hs=>?_);have Ak:=(hL0.ext hs.aE);refine cP hs nw Ak (by simp <;> omega) (by decide) (λ Ln w2 hs=>?_);exact hs.fresh
theorem C91 (p:Nat) (room:Int) (l:List bJ) (w:World) (hb:wO w p room l) (hn:l.length≤1073741824):CR 91 [.pointer (some ⟨p,0,none⟩)] w (λ v w'=>lW (bK v l) w w'):=by
 obtain ⟨sv,yl,CC,hL⟩:=hb;have hs:=St.start w;refine aiu _ _ _ ?_;unfold S91;refine aF (aA kr (cD xU (CC.ext hs.aE) (ed afo (C154 _ _ _ (hL.ext hs.aE) (by omega)) ?_)));rintro _ w1 bV;have hs:=hs.made bV;exact hs.fresh
theorem W3 {room:Int} {l:List bJ} {x:bJ} (h:right x=false):Oq room l x=1:=by unfold Oq; rw [h]; rfl
theorem W4 {room:Int} {l:List bJ} {x:bJ} (h:right x=false):wP room l x=l:=by unfold wP; rw [h]; rfl
theorem SG {room:Int} {l:List bJ} {x:bJ} (h:right x=true) (hf:room≤l.length):Oq room l x=2:=by unfold Oq; rw [h,if_pos rfl,if_pos hf]
theorem SH {room:Int} {l:List bJ} {x:bJ} (hf:room≤l.length):wP room l x=l:=by unfold wP; rw [if_neg (λ hh=>hh.2 hf)]
theorem adS {room:Int} {l:List bJ} {x:bJ} (h:right x=true) (hf:¬ room≤l.length):Oq room l x=0:=by unfold Oq; rw [h,if_pos rfl,if_neg hf]
theorem adT {room:Int} {l:List bJ} {x:bJ} (h:right x=true) (hf:¬ room≤l.length):wP room l x=l++[x]:=by unfold wP; rw [if_pos ⟨h,hf⟩]
theorem C196 (p:Nat) (room:Int) (l:List bJ) (x:bJ) (F:Nat→Prop) (w:World) (hF:(nQ p room l).p w F) (hn:l.length≤1048576):CR 196 [.pointer (some ⟨p,0,none⟩),Flat.val x] w (λ v w'=>v = .int .i64 (Oq room l x)∧qz F (nQ p room (wP room l x)) w w'):=by
 have hs:=St.begin hF;obtain ⟨sv,hs⟩:=hs.eX;have hs:=hs.split;refine aaT _ _ _ _ ?_;unfold S196;refine dE hs (λ Ls w1 hs=>aD kq hs.At (aZ aom hs (C226 _ _) (λ w2 he hs=>bZ (aY (λ gp=>?_) (λ gp=>?_)))))
 ·have hs:=hs.p2.p2;rw [W3 (by simpa using gp),W4 (by simpa using gp)];exact ⟨rfl,(nQ.shut hs).mut⟩
 ·refine aZ afh hs (C123 _ _ _ _ (wO.mk' hs.p1.hb hs.p2.fB)) (λ w3 he hs=>aC (λ gT=>?_) (λ gT=>?_))
  ·have hs:=hs.p2.p2;rw [SG (by simpa using gp) gT,SH gT];exact ⟨rfl,(nQ.shut hs).mut⟩
  ·refine aF (aA kr (have hs:=hs.drew;aB xU hs.p1.hb rfl (aD kq hs.At (bX ([x]) hs nw rfl rfl (eL rfl) (λ af1 w4 hs=>?_)))));refine ⟨aG xU (hs.p2.hb.cell rfl),?_⟩;have ou:=(hs).fB;refine cP hs.p3 nw ou (by simp <;> omega) (by decide) (λ Vo w5 hs=>have hs:=hs.p1.drop;aF (aA kr (aV hs.p2 xU (eL rfl) ((hs).fB.one) (λ w6 hs=>?_))));have hs:=hs.p1.p1;rw [adS (by simpa using gp) gT,adT (by simpa using gp) gT];exact ⟨rfl,(nQ.shut hs).mut⟩
theorem BI {l:List bJ} {i:Int} (h:tq l i=false):eh l i=⟨0,0,0,0⟩:=by unfold eh; rw [h]; rfl
theorem BJ {l:List bJ} {i:Int} (h:tq l i=false):mq l i=l:=by unfold mq; rw [h]; rfl
theorem He {l:List bJ} {i:Int} (h:i<0∨(l.length:Int)≤i):AA l i=1:=by unfold AA; rw [if_neg (by omega)]
theorem W5 {l:List bJ} {i:Int} (h0:0≤i∧i<l.length) (h:tq l i=false):AA l i=13:=by unfold AA; rw [if_pos h0,h]; rfl
theorem W6 {l:List bJ} {i:Int} (h:tq l i=true):AA l i=0:=by unfold AA; rw [if_pos (adR h),h]; rfl
theorem W7 {l:List bJ} {i:Int} {x:bJ} (h:tq l i=true) (hx:l[i.toNat]? = some x):eh l i=x:=by unfold eh; rw [h,hx]; rfl
theorem W8 {l:List bJ} {i:Int} (h:tq l i=true):mq l i=l.eraseIdx i.toNat:=by unfold mq; rw [h]; rfl
theorem C127 (p:Nat) (room:Int) (l:List bJ) (i:Int) (F:Nat→Prop) (w:World) (hF:(nQ p room l).p w F) (hn:l.length≤1048576):CR 127 [.pointer (some ⟨p,0,none⟩),.int .i64 i] w (λ v w'=>v = .tuple #[Flat.val (eh l i),.int .i64 (AA l i)]∧qz F (nQ p room (mq l i)) w w'):=by
 have hs:=St.begin hF;obtain ⟨sv,hs⟩:=hs.eX;have hs:=hs.split;refine Z0 _ _ _ _ ?_;unfold S127;refine aJ hs uX (λ CB w1 hs=>?_);refine ⟨_,?_,λ _ _ h=>h⟩;refine aR (aC (λ gp=>?_) (λ gp=>?_))
 ·intro fz;refine nX (pop (Iw) (aI (x:=(⟨0,0,0,0⟩:bJ)) hs kq rfl rfl (λ w3 hs=>aD kq hs.At ?_)));have hs:=hs.p2.p2;rw [BI (uB (by omega)),He (by omega),BJ (uB (by omega))];exact ⟨rfl,(nQ.shut hs).mut⟩
 ·refine aF (aA kr (aB xU hs.p1.hb rfl (aK nw (hs.p2).fB (dH ?_))));intro fz;refine aC (λ mc=>?_) (λ mc=>?_)
  ·refine pop (Iw) (aI (x:=(⟨0,0,0,0⟩:bJ)) hs kq rfl rfl (λ w3 hs=>aD kq hs.At ?_));have hs:=hs.p2.p2;rw [BI (uB (by omega)),He (by omega),BJ (uB (by omega))];exact ⟨rfl,(nQ.shut hs).mut⟩
  ·refine aZ afi hs (C124 _ _ _ _ _ (wO.mk' hs.p1.hb hs.p2.fB) (by omega)) (λ w4 he hs=>bZ (aY (λ iu=>?_) (λ iu=>?_)))
   ·refine pop (Iw) (aI (x:=(⟨0,0,0,0⟩:bJ)) hs kq rfl rfl (λ w5 hs=>aD kq hs.At ?_));have hs:=hs.p2.p2;rw [BI (by simpa using iu),W5 (by omega) (by simpa using iu),BJ (by simpa using iu)];exact ⟨rfl,(nQ.shut hs).mut⟩
   ·refine aF (aA kr (aB xU hs.p1.hb rfl ?_));obtain ⟨Cf,lI⟩:=gx (l) (i:=(i).toNat) (by omega);refine dU hs.p2 nw (by omega) (by omega) (λ _ Eg=>gk hs.p2 kq Eg lI (aJ hs uX (λ Ot w6 hs=>aI (x:=Cf) hs kq rfl rfl (λ w7 hs=>aF (aA kr (aB xU hs.p2.hb rfl (ed afo (C154 _ _ _ (hs.p3).fB (by omega)) ?_)))))));rintro _ w8 bV;have hs:=hs.made bV;refine aO (by omega) (px an7 hs (H':=λ v=>bK v (l.eraseIdx i.toNat)) (Φ:=λ _ _=>True) (λ F hF=>?_) ?_)
    ·exact C193 _ i _ F _ hF (by omega) (by omega) (by omega)
    rintro x40 w9 _ hs;refine aF (aA kr (aV hs.p3 xU (eL rfl) ((hs).fB.one) (λ pP hs=>aD kq hs.p2.At (aI (x:=Cf) hs.p3 kq rfl rfl (λ sB hs=>aD kq hs.At ?_)))));have hs:=hs.p2.p2;rw [W7 (by simpa using iu) lI,W6 (by simpa using iu),W8 (by simpa using iu)];exact ⟨rfl,(nQ.shut hs).mut⟩
def rM (l:List bJ) (c:Int):Option Int:=(l.reverse.find? λ x=>decide (x.kind=3∧x.cell=c)).map (·.n)
theorem C250 (y sv:Value) (b:Nat) (xs:List bJ) (J:Nat→World→Prop) (Jx:World→Prop) (w:World) (hn:xs.length≤1073741824)
  (hJ:∀ k W,J k W→Cell W b 0 sv∧eE (λ _=>True) W sv xs) (h0:J 0 w)
  (hy:∀ k x W,xs.reverse[k]? = some x→J k W→fY PG y [.int .i64 ((xs.length:Int) - 1 - k),Flat.val x] W (λ v W'=>(v = .bool true∧J (k+1) W')∨(v = .bool false∧Jx W'))) :
  CR 250 [y,.pointer (some ⟨b,0,none⟩)] w (λ _ W=>J xs.length W∨Jx W):=by
 refine abE _ _ _ _ ?_;unfold S250;refine cD xU (hJ 0 w h0).1 (aK nw (hJ 0 w h0).2 (gA (by omega) ?_));refine ⟨λ m x w1=>∃ k:Nat,x = .int .i64 ((xs.length:Int) - 1 - k)∧m=xs.length - k∧k≤xs.length∧J k w1,⟨_,0,by simp,rfl,Nat.zero_le _,h0⟩,?_⟩;rintro m _ w1 ⟨k,rfl,rfl,hk,hj⟩ fz;refine dH (aC (λ c=>?_) (λ c=>?_))
 ·obtain ⟨h1,h2⟩:=hJ k w1 hj;have mF:k<xs.length:=by omega
  have hx:xs.reverse[k]? = some (xs[xs.length - 1 - k]'(by omega)):=by rw [List.getElem?_reverse mF,List.getElem?_eq_getElem]
  refine cD xU h1 (aQ nw h2 (by omega) (x:=xs[xs.length - 1 - k]'(by omega)) (by rw [List.getElem?_eq_getElem (by omega)]; congr 2; omega) (λ q hq=>?_));refine aD kq hq ?_;obtain SI:=hy k _ w1 hx hj;refine fY.mono SI ?_;rintro v w2 (⟨rfl,hj2⟩ | ⟨rfl,A6⟩)
  ·refine bZ (fi (gA (by omega) ?_));exact ⟨xs.length - (k+1),by omega,k+1,by congr 1; omega,rfl,by omega,hj2⟩
  ·refine bZ (nX ?_);exact .inr A6
 ·have:k=xs.length:=by omega
  subst this;exact .inl hj
theorem C225 (sv:Value) (w:World) (h1:rZ sv=true):CR 225 [sv] w (λ v w'=>∃ b,v = .func (.func 250) [].toArray [.pointer (some ⟨b,0,none⟩)].toArray∧lW (cE b [sv]) w w'):=by
 have hs:=St.start w;refine abf _ _ _ ?_;unfold S225;refine tQ hs h1 (λ b w1 hs=>?_);exact ⟨b,rfl,hs.fresh⟩
theorem SJ {α:Type} {p:α→Bool} {l:List α} {k:Nat} {x:α} (fS:∀ y∈l.take k,p y=false) (hx:l[k]? = some x) (hp:p x=true):l.find? p=some x:=by
 rw [List.find?_eq_some_iff_getElem]
 have hk:=(List.getElem?_eq_some_iff.1 hx)
 obtain ⟨mF,he⟩:=hk
 refine ⟨hp,k,mF,he,λ j hj=>?_⟩
 have:=fS (l[j]'(by omega)) (List.mem_take_iff_getElem.2 ⟨j,by omega,rfl⟩)
 simp [this]
theorem C194 (p:Nat) (c room:Int) (l:List bJ) (w:World) (hb:wO w p room l) (hn:l.length≤1048576) :
  CR 194 [.pointer (some ⟨p,0,none⟩),.int .i64 c] w (λ v w'=>v = .tuple #[.int .i64 ((rM l c).getD 0),.bool (rM l c).isSome]∧Ext w w'):=by
 obtain ⟨sv,yl,CC,hL⟩:=hb;have hs:=St.start w;refine aaR _ _ _ _ ?_;unfold S194;refine tQ hs rfl (λ b3 w1 hs=>yJ hs B2 rfl (λ b4 w2 hs=>yJ hs afI rfl (λ b5 w3 hs=>aF (aA kr (cD xU (CC.ext hs.aE) (ed aol (C225 sv _ hL.one) ?_))))));rintro _ w4 ⟨b,rfl,bV⟩;have hs:=hs.made bV
 refine U6 (cap:=[.pointer (some ⟨b,0,none⟩)]) (xs:=(List.range l.length).map fun (k:Nat)=>[Value.int .i64 ((l.length:Int) - 1 - k),Flat.val ((l.reverse[k]?).getD ⟨0,0,0,0⟩)]) aoB hs
  (λ k M=>M=[cE b [sv],cE b5 [.bool false],cE b4 [.int .i64 0],cE b3 [.int .i64 c]]∧∀ y∈l.reverse.take k,decide (y.kind=3∧y.cell=c)=false)
  (λ cd M=>cd = .ret∧∃ x,rM l c=some x∧M=[cE b5 [.bool true],cE b4 [.int .i64 x]])
  ⟨rfl,by simp⟩ (by simp) ?_ ?_ ?_ ?_ ?_ ?_
 ·
  intro y J Jx W hJ hJe hJ0 hy;refine (C250 y sv b l J Jx W (by omega) (λ k W hk=>?_) hJ0 (λ k x W hx hk=>?_)).mono λ _ _ r=>r.mono λ v W' h=>?_
  ·obtain ⟨Y,M,⟨rfl,_⟩,hS⟩:=hJ k W hk;exact ⟨hS.p1.hb.cell rfl,hL.ext hS.aE⟩
  ·have mF:=(List.getElem?_eq_some_iff.1 hx).1;rw [List.length_reverse] at mF;have:=hy k [Value.int .i64 ((l.length:Int) - 1 - k),Flat.val x] W (by rw [List.getElem?_map,List.getElem?_range mF]; simp [hx]) hk;exact this
  ·simpa using h
 ·
  rintro k args Y1 Y2 B Kr M W hk ⟨rfl,fS⟩ hB hN hR hs
  have mF:k<l.length:=by
   have:=(List.getElem?_eq_some_iff.1 hk).1
   simpa using this
  obtain ⟨x,hx⟩:∃ x,l.reverse[k]? = some x:=⟨_,List.getElem?_eq_getElem (by simpa using mF)⟩
  have ha:args=[Value.int .i64 ((l.length:Int) - 1 - k),Flat.val x]:=by
   rw [List.getElem?_map,List.getElem?_range mF] at hk;simp [hx] at hk;exact hk.symm
  subst ha;dsimp only [RY];refine aJ hs uX (λ b7 w6 hs=>pF hs kq rfl (by decide) (by simp [rZ,gX]) (λ w7 hs=>?_));refine hB _ _ _ hs.p1 (λ w8 hs=>?_);have e7:gX [Value.int IntKind.i64 0,.int .i64 0,.int .i64 0,.int .i64 0] 0 [Value.int .i64 x.kind,.int .i64 x.line,.int .i64 x.cell,.int .i64 x.n]=Flat.enc x:=rfl;refine ⟨_,?_,λ _ _ h=>h⟩;refine aA pK (aB bN hs.p1.hb rfl (aH ?_))
  have no:¬ (x.kind=3∧x.cell=c)→Kr none w8:=λ hh=>by
   refine hN _ _ (hs.p1.drop.p0) ⟨rfl,?_⟩;exact eH fS hx (by simpa using hh)
  refine aC (λ c1=>?_) (λ c1=>?_)
  ·refine aA oa (aB bN hs.p1.hb rfl (aB bN hs.p5.hb rfl (aH ?_)));intro fz;refine aC (λ c2=>?_) (λ c2=>no λ hh=>c2 hh.2);refine aA mZ (aB bN hs.p1.hb rfl (aV hs.p4 bN (Nat.le_of_ble_eq_true rfl) rfl (λ pP hs=>aV hs.p4 TQ (Nat.le_of_ble_eq_true rfl) rfl (λ sB hs=>?_))));refine hR _ [cE b5 [.bool true],cE b4 [.int .i64 x.n]] _ ?_ ⟨rfl,x.n,?_,rfl⟩
   ·exact (hs.p5.drop.p4.drop.p3.drop).p2
   ·unfold rM;rw [SJ fS hx (by simpa using ⟨c1,c2⟩)]; rfl
  ·intro fz;exact fi (no λ hh=>c1 hh.1)
 ·
  rintro D M W ⟨rfl,fS⟩ hs;refine aV hs.p3 bN (Nat.le_of_ble_eq_true rfl) rfl (λ u9 hs=>aV hs.p3 TQ (Nat.le_of_ble_eq_true rfl) rfl (λ r9 hs=>?_));refine afQ hs.p2 (λ vT hs=>?_);refine aB bN hs.p1.hb rfl (aB TQ hs.hb rfl ?_)
  have:rM l c=none:=by
   unfold rM
   rw [show l.reverse.find? _=none from List.find?_eq_none.2 λ y hy=>by
    have:=fS y (by rw [List.take_of_length_le (by simp)]; exact hy);simp only [this]; exact Bool.false_ne_true]
   rfl
  rw [this];exact ⟨rfl,hs.aE⟩
 ·rintro D M W ⟨_,x,hl,rfl⟩ hs;refine afQ hs (λ vT hs=>?_);refine aB bN hs.p1.hb rfl (aB TQ hs.hb rfl ?_);rw [hl];exact ⟨rfl,hs.aE⟩
 ·rintro id D M W ⟨h,_⟩; cases h
 ·rintro c M ⟨h,_⟩; exact .inr h
theorem AB {α:Type} {xs ys:List α} {k:Nat} {e f:α} (h:xs.take k=ys.take k) (h1:xs[k]? = some e) (h2:ys[k]? = some f) (he:e=f):xs.take (k+1)=ys.take (k+1):=by
 rw [List.take_add_one,List.take_add_one,h,h1,h2,he]
theorem Hf {α:Type} {xs ys:List α} {k:Nat} {e f:α} (h1:xs[k]? = some e) (h2:ys[k]? = some f) (he:¬ e=f):¬ xs=ys:=by
 rintro rfl; rw [h1] at h2; exact he (Option.some.inj h2)
theorem C52 (room:Int) (w:World):CR 52 [.int .i64 room] w (λ v w'=>((room<1∨16<room)∧v = .tuple #[.pointer none,.int .i64 1]∧Ext w w')∨(1≤room∧room≤16∧∃ b,v = .tuple #[.pointer (some ⟨b,0,none⟩),.int .i64 0]∧lW (nQ b room []) w w')):=by
 have hs:=St.start w;refine ah1 _ _ _ ?_;unfold S52;refine ⟨_,?_,λ _ _ h=>h⟩;refine aR (aC (λ Vi=>?_) (λ Vi=>?_))
 ·intro fz;refine nX ?_;exact .inl ⟨by omega,rfl,hs.aE⟩
 ·refine dD ?_;intro fz;refine aC (λ gw=>?_) (λ gw=>?_)
  ·exact .inl ⟨by omega,rfl,hs.aE⟩
  ·refine pop (UX _) (lZ hs (λ b w2 hs=>?_));have hs:=(hs.fU (α:=bJ)).p1;exact .inr ⟨by omega,by omega,b,rfl,(nQ.shut hs).fresh⟩
theorem C71 (p:Nat) (room:Int) (l:List bJ) (w:World) (hb:wO w p room l) (hn:l.length≤1048576):CR 71 [.pointer (some ⟨p,0,none⟩)] w (λ v w'=>∃ b,v = .pointer (some ⟨b,0,none⟩)∧lW (nQ b room l) w w'):=by
 have Ge:=hb;obtain ⟨sv,yl,CC,hL⟩:=hb;have hs:=St.start w;refine ail _ _ _ ?_;unfold S71;refine aF (aA Kv (have hs:=hs.drew;cD bN (yl.ext hs.aE) (ed aiE (C91 _ _ _ _ (Ge.ext hs.aE) (by omega)) ?_)));rintro _ w1 bV;have hs:=hs.made bV;refine ⟨aG bN (yl.ext hs.aE),?_⟩;obtain ⟨a8,c8,e8,_⟩:=(hs).fB;subst e8;refine pop (Ns _ _ _ _) (lZ hs (λ b w2 hs=>?_));exact ⟨b,rfl,(nQ.shut hs).fresh⟩
theorem C36 (av bv:Value) (xs ys:List bJ) (w:World) (hA:eE (λ _=>True) w av xs) (hB:eE (λ _=>True) w bv ys) (hn:xs.length≤1073741824):CR 36 [av,bv] w (λ v w'=>v = .bool (decide (xs=ys))∧Ext w w'):=by
 have hs:=St.start w;refine ahK _ _ _ _ ?_;unfold S36;refine aK nw (hA.ext hs.aE) (aK nw (hB.ext hs.aE) (cO (aC (λ fH=>?_) (λ fH=>?_))))
 ·exact ⟨vb (decide_eq_false (by rintro rfl; omega)).symm,hs.aE⟩
 ·refine ⟨λ m x w1=>∃ k:Nat,x = .int .i64 (k:Int)∧m=xs.length - k∧k≤xs.length∧xs.take k=ys.take k∧St w bD [] w1,⟨_,0,rfl,rfl,Nat.zero_le _,rfl,hs⟩,?_⟩;rintro m _ w1 ⟨k,rfl,rfl,hk,E5,hs⟩ fz;refine aK nw (hA.ext hs.aE) (aR (aC (λ gI=>?_) (λ gI=>?_)))
  ·obtain ⟨iJ,fj⟩:=gx (xs) (i:=((k:Int)).toNat) (by omega);refine aQ nw (hA.ext hs.aE) (by omega) fj (λ _ ju=>have hs:=hs.drew;aD kq (ju) ?_);obtain ⟨pW,iW⟩:=gx (ys) (i:=((k:Int)).toNat) (by omega);refine aQ nw (hB.ext hs.aE) (by omega) iW (λ _ ox=>aD kq (ox) (Bi Nx rfl rfl (eqE iJ pW) (aC (λ fD=>?_) (λ fD=>?_))))
   ·exact ⟨vb (decide_eq_false (Hf fj iW fD)).symm,hs.aE⟩
   ·refine aO (by omega) ?_;exact ⟨xs.length - (k+1),by omega,k+1,rfl,rfl,by omega,AB E5 fj iW (Decidable.not_not.1 fD),hs⟩
  ·exact ⟨vb (decide_eq_true (by rw [List.take_of_length_le (by omega),List.take_of_length_le (by omega)] at E5; exact E5)).symm,hs.aE⟩
theorem C21 (av bv:Value) (xs ys:List Int) (w:World) (hA:eE (λ _=>True) w av xs) (hB:eE (λ _=>True) w bv ys) (hn:xs.length≤1073741824):CR 21 [av,bv] w (λ v w'=>v = .bool (decide (xs=ys))∧Ext w w'):=by
 have hs:=St.start w;refine ahB _ _ _ _ ?_;unfold S21;refine aK ek (hA.ext hs.aE) (aK ek (hB.ext hs.aE) (cO (aC (λ fH=>?_) (λ fH=>?_))))
 ·exact ⟨vb (decide_eq_false (by rintro rfl; omega)).symm,hs.aE⟩
 ·refine ⟨λ m x w1=>∃ k:Nat,x = .int .i64 (k:Int)∧m=xs.length - k∧k≤xs.length∧xs.take k=ys.take k∧St w bD [] w1,⟨_,0,rfl,rfl,Nat.zero_le _,rfl,hs⟩,?_⟩;rintro m _ w1 ⟨k,rfl,rfl,hk,E5,hs⟩ fz;refine aK ek (hA.ext hs.aE) (aR (aC (λ gI=>?_) (λ gI=>?_)))
  ·obtain ⟨iJ,fj⟩:=gx (xs) (i:=((k:Int)).toNat) (by omega);refine aQ ek (hA.ext hs.aE) (by omega) fj (λ _ ju=>have hs:=hs.drew;aD bN (ju) ?_);obtain ⟨pW,iW⟩:=gx (ys) (i:=((k:Int)).toNat) (by omega);refine aQ ek (hB.ext hs.aE) (by omega) iW (λ _ ox=>aD bN (ox) (cO (aC (λ fD=>?_) (λ fD=>?_))))
   ·exact ⟨vb (decide_eq_false (Hf fj iW fD)).symm,hs.aE⟩
   ·refine aO (by omega) ?_;exact ⟨xs.length - (k+1),by omega,k+1,rfl,rfl,by omega,AB E5 fj iW (Decidable.not_not.1 fD),hs⟩
  ·exact ⟨vb (decide_eq_true (by rw [List.take_of_length_le (by omega),List.take_of_length_le (by omega)] at E5; exact E5)).symm,hs.aE⟩
end Go.Proofs.YtnjcingfdhjfkaaGreat
namespace Go.Fw
open Go.MapKept (Stamped IsKey)
open Go.ChangeMaps (setBlock)
def mK (w:World) (b:Nat) (ks:List Int) (vs:List Value):Prop:=
 ∃ es clock,w.heap[b]? = some (.map es clock)∧Stamped es clock∧es.toList.map (·.key)=ks.map (Value.int .i64)∧es.toList.map (·.val)=vs
def j5:List Int→Int→Option Nat
 | [],_=>none
 | x::xs,k=>if x=k then some 0 else (j5 xs k).map (· + 1)
theorem jY:∀ {ks:List Int} {k:Int} {j:Nat},j5 ks k=some j→ks[j]? = some k
 | x::xs,k,j,h=>by
  unfold j5 at h
  split at h
  ·rename_i e; cases h; simp [e]
  ·cases hh:j5 xs k with
   | none=>rw [hh] at h; cases h
   | some i=>rw [hh] at h; simp at h; subst h; simpa using jY hh
theorem mr:∀ {ks:List Int} {k:Int},j5 ks k=none↔k ∉ ks
 | [],_=>by simp [j5]
 | x::xs,k=>by
  unfold j5
  by_cases e:x=k
  ·simp [e]
  ·rw [if_neg e,Option.map_eq_none_iff,mr,List.mem_cons]
   exact ⟨λ h hh=>hh.elim (λ h2=>e h2.symm) h,λ h hh=>h (.inr hh)⟩
theorem rN:∀ {ks:List Int} {k:Int} {j:Nat},ks.Nodup→ks[j]? = some k→j5 ks k=some j
 | x::xs,k,0,_,h=>by simp at h; simp [j5,h]
 | x::xs,k,j+1,hn,h=>by
  rw [List.getElem?_cons_succ] at h
  have hm:=List.mem_of_getElem? h
  have:x≠k:=λ e=>(List.nodup_cons.1 hn).1 (e▸hm)
  simp [j5,this,rN (List.nodup_cons.1 hn).2 h]
def look {β:Type} (ks:List Int) (vs:List β) (k:Int):Option β:=(j5 ks k).bind (vs[·]?)
def tx {β:Type} (f:Int→β) (k:Int) (x:β):Int→β:=λ j=>if j=k then x else f j
section
variable {P:Program} {w w0 w':World} {A:Nat→Prop} {L:List HP} {b:Nat} {ks:List Int} {vs:List Value}
theorem mK.of_eq (h:mK w b ks vs) (hh:w'.heap[b]? = w.heap[b]?):mK w' b ks vs:=by
 obtain ⟨es,c,h1,h2⟩:=h; exact ⟨es,c,hh.trans h1,h2⟩
theorem mK.lt (h:mK w b ks vs):b<w.heap.size:=by obtain ⟨es,c,h1,_⟩:=h; exact jU h1
theorem mK.ext (h:mK w b ks vs) (e:Ext w w'):mK w' b ks vs:=h.of_eq (e.cE b h.lt λ h=>h)
theorem mK.len (h:mK w b ks vs):ks.length=vs.length:=by
 obtain ⟨es,c,_,_,h3,h4⟩:=h
 have:=congrArg List.length h3; have h5:=congrArg List.length h4
 simp at this h5; omega
theorem mK.nodup (h:mK w b ks vs):ks.Nodup:=by
 obtain ⟨es,c,_,h2,h3,h4⟩:=h
 have:=h2.2.2
 rw [h3] at this
 exact (List.pairwise_map.1 this).imp λ h e=>h (by rw [e])
def Gf (b:Nat) (ks:List Int) (vs:List Value):HP where
 p w F:=mK w b ks vs∧∀ k,F k↔k=b
 loc w w' F h hh:=⟨h.1.of_eq (hh b ((h.2 b).2 rfl)),h.2⟩
 lt w F b' h hb:=by rw [(h.2 b').1 hb]; exact h.1.lt
theorem SK {es:Array MapEntry} (h3:es.toList.map (·.key)=ks.map (Value.int .i64)):∀ x∈es.toList,IsKey (.int .i64) x.key:=by
 intro x hx
 have:x.key∈es.toList.map (·.key):=List.mem_map.2 ⟨x,hx,rfl⟩
 rw [h3] at this
 obtain ⟨k,_,e⟩:=List.mem_map.1 this
 rw [← e]; simp [IsKey]
theorem E6 {T:TypeId} {k:Int} {es:Array MapEntry} (hT:P.underlying T=some (.int .i64)) (hn:ks.Nodup) (h3:es.toList.map (·.key)=ks.map (Value.int .i64)) :
  (j5 ks k=none∧(Instr.findKey T (.int .i64 k) es.toList).run P w = .ok none w)∨∃ j e,j5 ks k=some j∧es.toList[j]? = some e∧e.key = .int .i64 k∧(Instr.findKey T (.int .i64 k) es.toList).run P w = .ok (some (j,e.val)) w:=by
 rcases MapKept.findNow_spec (d:=.int .i64) (k:=.int .i64 k) (by simp [IsKey]) es.toList 0 (SK h3) with ⟨h1,h2⟩ | ⟨j,e,h1,h2,h4⟩
 ·refine .inl ⟨mr.2 λ hm=>?_,MapKept.run_findKey hT h1⟩
  have:Value.int .i64 k∈es.toList.map (·.key):=by rw [h3]; exact List.mem_map.2 ⟨k,hm,rfl⟩
  obtain ⟨x,hx,e⟩:=List.mem_map.1 this
  exact h2 x hx e
 ·refine .inr ⟨j,e,rN hn ?_,h2,h4,by rw [Nat.zero_add] at h1; exact MapKept.run_findKey hT h1⟩
  have:(es.toList.map (·.key))[j]? = some (.int .i64 k):=by rw [List.getElem?_map,h2]; simp [h4]
  rw [h3,List.getElem?_map] at this
  cases hk:ks[j]? with
  | none=>rw [hk] at this; cases this
  | some k'=>rw [hk] at this; simp at this; rw [this]
theorem pe {T Kt E:TypeId} {z:Value} {k:Int} (h:mK w b ks vs) (ht:P.underlying T=some (.map Kt E)) (hk:P.underlying Kt=some (.int .i64)) (hz:qw P E z) :
  (Instr.lookup T (.map (some b)) (.int .i64 k) false).run P w = .ok ((look ks vs k).getD z) w:=by
 have hn:=h.nodup
 obtain ⟨es,c,h1,h2,h3,h4⟩:=h
 have hz':(zeroValue E).run P w = .ok z w:=by
  unfold qw eo at hz
  cases hi:P.info? E with
  | none=>rw [hi] at hz; cases hz
  | some i=>
   rw [hi] at hz
   simp only [Option.map_some,Option.some.injEq] at hz
   refine ft ?_ w
   unfold zeroValue; rw [cN,nE hi]; simp only [Option.bind_some,hz]; rfl
 have hc:=MapKept.run_checkKey (P:=P) (w:=w) (kt:=Kt) (k:=.int .i64 k) hk (by simp [IsKey]) es.isEmpty 9999
 rcases E6 (w:=w) (k:=k) hk hn h3 with ⟨h5,h6⟩ | ⟨j,e,h5,h6,h7,h8⟩
 ·simp [Instr.lookup,run_underlying ht,MapKept.run_getObj_map h1,hc,h6,hz',Result.andThen,look,h5]
 ·have:vs[j]? = some e.val:=by rw [← h4,List.getElem?_map,h6]; rfl
  simp [Instr.lookup,run_underlying ht,MapKept.run_getObj_map h1,hc,h8,Result.andThen,look,h5,this]
theorem mu (o:Obj) (hb:b<w.heap.size):(setBlock w b o).heap[b]? = some o:=by simp [setBlock,hb]
theorem iE.setBlock (w:World) (b:Nat) (o:Obj):iE (· = b) w (setBlock w b o):=
 ⟨rfl,rfl,rfl,by simp [ChangeMaps.setBlock],λ k _ hn=>by simp only [ChangeMaps.setBlock]; rw [Array.getElem?_setIfInBounds_ne (λ h=>hn h.symm)]⟩
theorem rO {es:Array MapEntry} {clock:Nat} {o:Obj} (h1:w.heap[b]? = some (.map es clock)):(setObj b o).run P w = .ok () (setBlock w b o):=by
 simp [setObj,Sem.run,h1,setBlock]
theorem QZ {T Kt E:TypeId} {v:Value} {k:Int} (h:mK w b ks vs) (ht:P.underlying T=some (.map Kt E)) (hk:P.underlying Kt=some (.int .i64)) :
  ∃ w',(Instr.mapUpdate T (.map (some b)) (.int .i64 k) v).run P w = .ok () w'∧iE (· = b) w w'∧
   (match j5 ks k with | some j=>mK w' b ks (vs.set j v) | none=>mK w' b (ks++[k]) (vs++[v])):=by
 have hn:=h.nodup
 have mF:=h.lt
 obtain ⟨es,c,h1,h2,h3,h4⟩:=h
 have hc:=MapKept.run_checkKey (P:=P) (w:=w) (kt:=Kt) (k:=.int .i64 k) hk (by simp [IsKey]) false 9999
 rcases E6 (w:=w) (k:=k) hk hn h3 with ⟨h5,h6⟩ | ⟨j,e,h5,h6,h7,h8⟩
 ·refine ⟨_,?_,iE.setBlock w b (.map (es.push ⟨.int .i64 k,v,c⟩) (c+1)),?_⟩
  ·simp [Instr.mapUpdate,run_underlying ht,MapKept.run_getObj_map h1,hc,h6,rO h1,Result.andThen]
  ·rw [h5]
   refine ⟨_,_,mu _ mF,MapKept.stamped_push h2 λ x hx e=>?_,by simp [h3],by simp [h4]⟩
   have:x.key∈es.toList.map (·.key):=List.mem_map.2 ⟨x,hx,rfl⟩
   rw [h3,e] at this
   obtain ⟨k',yG,e'⟩:=List.mem_map.1 this
   simp at e'
   exact mr.1 h5 (e'▸yG)
 ·have Y0:es[j]? = some e:=by rw [← Array.getElem?_toList]; exact h6
  have gn:(Instr.keyThatStays e.key (.int .i64 k)).run P w = .ok (.int .i64 k) w:=by
   rw [h7]; unfold Instr.keyThatStays; simp [Instr.sameBits]
  refine ⟨_,?_,iE.setBlock w b (.map (es.modify j λ e=>{e with key:=.int .i64 k,val:=v}) c),?_⟩
  ·simp [Instr.mapUpdate,run_underlying ht,MapKept.run_getObj_map h1,hc,h8,rO h1,Result.andThen,Y0,gn]
  ·rw [h5]
   have yG:∀ e',es[j]? = some e'→({e' with key:=.int .i64 k,val:=v}:MapEntry).key=e'.key:=λ e' he'=>by
    rw [Y0] at he'; cases he'; exact h7.symm
   refine ⟨_,_,mu _ mF,MapKept.stamped_modify h2 j _ (λ _ _=>rfl) (λ e' _ he'=>yG e' he'),?_,?_⟩
   ·rw [MapKept.modify_keys j _ yG,h3]
   ·rw [← h4]
    apply List.ext_getElem?
    intro i
    simp only [List.getElem?_map,Array.getElem?_toList,Array.getElem?_modify,List.getElem?_set]
    by_cases hij:j=i
    ·subst hij; rw [Y0]; have:=(Array.getElem?_eq_some_iff.1 Y0).1; simp [this]
    ·simp [hij]
theorem adU {T Kt E R:TypeId} {A2:Array TypeId} {k:Int} (h:mK w b ks vs) (ha:A2[0]? = some T) (ht:P.underlying T=some (.map Kt E)) (hk:P.underlying Kt=some (.int .i64)) :
  ∃ w',(Builtin.delete_ A2 R [.map (some b),.int .i64 k].toArray).run P w = .ok (.tuple #[]) w'∧iE (· = b) w w'∧
   (match j5 ks k with | some j=>mK w' b (ks.eraseIdx j) (vs.eraseIdx j) | none=>mK w' b ks vs):=by
 have hn:=h.nodup
 have mF:=h.lt
 obtain ⟨es,c,h1,h2,h3,h4⟩:=h
 have hc:=MapKept.run_checkKey (P:=P) (w:=w) (kt:=Kt) (k:=.int .i64 k) hk (by simp [IsKey]) es.isEmpty 9999
 rcases E6 (w:=w) (k:=k) hk hn h3 with ⟨h5,h6⟩ | ⟨j,e,h5,h6,h7,h8⟩
 ·refine ⟨_,?_,iE.setBlock w b (.map es c),?_⟩
  ·simp [Builtin.delete_,ha,run_underlying ht,MapKept.run_getObj_map h1,hc,h6,rO h1,Result.andThen]
  ·rw [h5]
   exact ⟨_,_,mu _ mF,h2,h3,h4⟩
 ·have hj:j<es.size:=by have:=(List.getElem?_eq_some_iff.1 h6).1; simpa using this
  refine ⟨_,?_,iE.setBlock w b (.map (es.eraseIdxIfInBounds j) c),?_⟩
  ·simp [Builtin.delete_,ha,run_underlying ht,MapKept.run_getObj_map h1,hc,h8,rO h1,Result.andThen]
  ·rw [h5]
   have he:(es.eraseIdxIfInBounds j).toList=es.toList.eraseIdx j:=by
    unfold Array.eraseIdxIfInBounds; rw [dif_pos hj]; simp
   refine ⟨_,_,mu _ mF,MapKept.stamped_erase h2 j,?_,?_⟩
   ·rw [he,ChangeMaps.map_eraseIdx,h3,ChangeMaps.map_eraseIdx]
   ·rw [he,ChangeMaps.map_eraseIdx,h4]
theorem wQ {T:TypeId} {K:Value→World→Prop} (hs:St w0 A L w) (k:∀ b w',St w0 A (Gf b [] []::L) w'→K (.map (some b)) w'):gW P (Instr.makeMap T none) w K:=
 ⟨_,_,rfl,k _ _ (hs.new (Ext.push w (.map #[] 0)) (F:=λ k=>k=w.heap.size) ⟨⟨#[],0,pE _ _,MapKept.stamped_empty 0,rfl,rfl⟩,λ _=>Iff.rfl⟩ λ b hb=>by rw [hb]; exact Nat.le_refl _)⟩
theorem St.AD (hs:St w0 A (Gf b ks vs::L) w):mK w b ks vs:=by obtain ⟨F,h,_⟩:=hs.head; exact h.1
theorem ib {T Kt E:TypeId} {v:Value} {k:Int} {K:World→Prop} (hs:St w0 A (Gf b ks vs::L) w) (ht:P.underlying T=some (.map Kt E)) (hk:P.underlying Kt=some (.int .i64)) (bV:j5 ks k=none)
  (kk:∀ w',St w0 A (Gf b (ks++[k]) (vs++[v])::L) w'→K w'):A7 P (Instr.mapUpdate T (.map (some b)) (.int .i64 k) v) w K:=by
 obtain ⟨w',h1,h2,h3⟩:=QZ (P:=P) (v:=v) (k:=k) hs.AD ht hk
 rw [bV] at h3
 exact ⟨w',h1,kk w' (hs.rY λ F hF=>⟨F,⟨h3,hF.2⟩,λ b hb=>.inl hb,h2.mono λ k hk=>(hF.2 k).2 hk⟩)⟩
end
section
variable {α:Type} [Flat α] {P:Program} {w w0 w':World} {A:Nat→Prop} {L:List HP} {b:Nat} {f:Int→List α}
abbrev CD (s:SV) (x:List α):HP:=bK (Flat.val s) x
def oQ (b:Nat) (f:Int→List α):HP:=ue λ ks=>ue λ ss:List SV=>ue λ tz:List (List α)=>fact (f=λ k=>(look ks tz k).getD []) (sep (Gf b ks (ss.map Flat.val)) (iF CD ss tz))
def sO (w:World) (b:Nat) (f:Int→List α):Prop:=∃ ks,∃ ss:List SV,mK w b ks (ss.map Flat.val)∧(∀ (i:Nat) (k:Int) (s:SV),ks[i]? = some k→ss[i]? = some s→eE (λ _=>True) w (Flat.val s) (f k))∧∀ k,k ∉ ks→f k=[]
theorem sO.ext (h:sO w b f) (e:Ext w w'):sO w' b f:=by
 obtain ⟨ks,ss,h1,h2,h3⟩:=h; exact ⟨ks,ss,h1.ext e,λ i k s a c=>(h2 i k s a c).ext e,h3⟩
theorem pA {β:Type} {ks:List Int} {xs:List β} {k:Int} {i:Nat} {x:β} (hn:ks.Nodup) (h1:ks[i]? = some k) (h2:xs[i]? = some x):look ks xs k=some x:=by
 unfold look; rw [rN hn h1]; exact h2
theorem pg {β:Type} {ks:List Int} {xs:List β} {k:Int} (h:k ∉ ks):look ks xs k=none:=by unfold look; rw [mr.2 h]; rfl
theorem oQ.rd {F:Nat→Prop} (h:(oQ b f).p w F):sO w b f:=by
 obtain ⟨ks,ss,tz,hf,F1,F2,h1,h2,_,_⟩:=h
 refine ⟨ks,ss,h1.1,λ i k s hk hs=>?_,λ k hk=>by rw [hf]; dsimp only; rw [pg hk]; rfl⟩
 have hl:=Bn h2
 have hi:i<tz.length:=by have:=(List.getElem?_eq_some_iff.1 hs).1; omega
 have hx:tz[i]? = some tz[i]:=List.getElem?_eq_getElem hi
 have gn:St w F2 [iF CD ss tz] w:=St.begin h2
 have:=gn.apb hs hx (Φ:=λ w=>eE (λ _=>True) w (Flat.val s) tz[i]) λ h=>(bK.rd h).mono λ _ _=>trivial
 rw [hf]; dsimp only
 rw [pA h1.1.nodup hk hx]; exact this
theorem St.W9 (hs:St w0 A (oQ b f::L) w):sO w b f:=by obtain ⟨F,h,_⟩:=hs.head; exact oQ.rd h
theorem sO.look {T Kt E:TypeId} {k:Int} (h:sO w b f) (ht:P.underlying T=some (.map Kt E)) (hk:P.underlying Kt=some (.int .i64)) (hz:qw P E (.slice none 0 0)) :
  ∃ s:SV,(Instr.lookup T (.map (some b)) (.int .i64 k) false).run P w = .ok (Flat.val s) w∧eE (λ _=>True) w (Flat.val s) (f k):=by
 obtain ⟨ks,ss,h1,h2,h3⟩:=h
 have hr:=pe (P:=P) (k:=k) h1 ht hk hz
 cases nn:j5 ks k with
 | none=>
  have:Fw.look ks (ss.map Flat.val) k=none:=by unfold Fw.look; rw [nn]; rfl
  rw [this] at hr
  exact ⟨⟨none,0,0⟩,hr,by rw [h3 k (mr.1 nn)]; exact eE.nil _ _⟩
 | some j=>
  have hj:=jY nn
  have hl:=h1.len
  have hjs:j<ss.length:=by have:=(List.getElem?_eq_some_iff.1 hj).1; simp at hl; omega
  have Q0:ss[j]? = some ss[j]:=List.getElem?_eq_getElem hjs
  have:Fw.look ks (ss.map Flat.val) k=some (Flat.val ss[j]):=by unfold Fw.look; rw [nn]; simp [Q0]
  rw [this] at hr
  exact ⟨_,hr,h2 j k _ hj Q0⟩
theorem sO.aro {T Kt E:TypeId} {k:Int} (h:sO w0 b f) (ht:P.underlying T=some (.map Kt E)) (hk:P.underlying Kt=some (.int .i64)) (hz:qw P E (.slice none 0 0)) :
  ∃ s:SV,(∀ w,Ext w0 w→(Instr.lookup T (.map (some b)) (.int .i64 k) false).run P w = .ok (Flat.val s) w)∧eE (λ _=>True) w0 (Flat.val s) (f k):=by
 obtain ⟨ks,ss,h1,h2,h3⟩:=h
 have hr:∀ w,Ext w0 w→_:=λ w e=>pe (P:=P) (k:=k) (h1.ext e) ht hk hz
 cases nn:j5 ks k with
 | none=>
  have:Fw.look ks (ss.map Flat.val) k=none:=by unfold Fw.look; rw [nn]; rfl
  rw [this] at hr
  exact ⟨⟨none,0,0⟩,hr,by rw [h3 k (mr.1 nn)]; exact eE.nil _ _⟩
 | some j=>
  have hj:=jY nn
  have hl:=h1.len
  have hjs:j<ss.length:=by have:=(List.getElem?_eq_some_iff.1 hj).1; simp at hl; omega
  have Q0:ss[j]? = some ss[j]:=List.getElem?_eq_getElem hjs
  have:Fw.look ks (ss.map Flat.val) k=some (Flat.val ss[j]):=by unfold Fw.look; rw [nn]; simp [Q0]
  rw [this] at hr
  exact ⟨_,hr,h2 j k _ hj Q0⟩
theorem BK {T Kt E:TypeId} {k:Int} {K:Value→Prop} (h:sO w0 b f) (e:Ext w0 w) (ht:P.underlying T=some (.map Kt E)) (hk:P.underlying Kt=some (.int .i64)) (hz:qw P E (.slice none 0 0))
  (kk:∀ s:SV,eE (λ _=>True) w0 (Flat.val s) (f k)→K (Flat.val s)):Dp P (Instr.lookup T (.map (some b)) (.int .i64 k) false) w K:=by
 obtain ⟨s,h1,h2⟩:=h.aro (P:=P) (k:=k) ht hk hz; exact ⟨_,h1 w e,kk s h2⟩
def LN (b:Nat) (f:Int→List α) (k:Int) (s:SV):HP:=ue λ ks=>ue λ ss:List SV=>ue λ tz:List (List α)=>ue λ vs:List Value=>
 fact ((∀ k',k'≠k→f k'=(look ks tz k').getD [])∧look ks vs k=(j5 ks k).map (λ _=>Flat.val s)∧(j5 ks k=none→s=⟨none,0,0⟩)∧vs.length=ss.length∧∀ (i:Nat) (k':Int),ks[i]? = some k'→k'≠k→vs[i]? = (ss[i]?).map Flat.val) (sep (Gf b ks vs) (iF CD ss tz))
theorem St.E7 {k:Int} (hs:St w0 A (oQ b f::L) w):∃ s:SV,St w0 A (bK (Flat.val s) (f k)::LN b f k s::L) w:=by
 obtain ⟨ks,hs⟩:=hs.eX; obtain ⟨ss,hs⟩:=hs.eX; obtain ⟨tz,hs⟩:=hs.eX; obtain ⟨hf,hs⟩:=hs.oM
 replace hs:=hs.split
 have hm:=hs.AD
 have hl:=hm.len
 have Du:=hs.p1.lu
 have hn:=hm.nodup
 rw [List.length_map] at hl
 cases nn:j5 ks k with
 | none=>
  refine ⟨⟨none,0,0⟩,?_⟩
  have hx:look ks tz k=none:=by unfold look; rw [nn]; rfl
  have e:f k=[]:=by rw [hf]; dsimp only; rw [hx]; rfl
  rw [e]
  refine (St.eR ks (St.eR ss (St.eR tz (St.eR (ss.map Flat.val) (St.qy ⟨λ k' _=>by rw [hf],by unfold look; rw [nn]; rfl,λ _=>rfl,by rw [List.length_map],λ i k' _ _=>by rw [List.getElem?_map]⟩ (St.join hs)))))).fU
 | some j=>
  have hj:=jY nn
  have hjk:=(List.getElem?_eq_some_iff.1 hj).1
  have Q0:ss[j]? = some (ss[j]'(by omega)):=List.getElem?_eq_getElem _
  have hxj:tz[j]? = some (tz[j]'(by omega)):=List.getElem?_eq_getElem _
  refine ⟨ss[j]'(by omega),?_⟩
  have e:f k=tz[j]'(by omega):=by rw [hf]; dsimp only; rw [pA hn hj hxj]; rfl
  rw [e]
  have h1:=(hs.p1.focus Q0 hxj).p1
  have h2:=(h1.fU (α:=α)).p1
  have h3:St w0 A (CD (⟨none,0,0⟩:SV) ([]:List α)::qA CD ss tz j::_::_::L) w:=h2.p1
  have h4:=h3.D6 (by omega) Du
  have h5:=h4.p2
  refine (St.eR ks (St.eR (ss.set j ⟨none,0,0⟩) (St.eR (tz.set j []) (St.eR (ss.map Flat.val) (St.qy ⟨λ k' yG=>?_,by unfold look; rw [nn]; simp [Q0],λ h=>(by cases nn.symm.trans h),(by simp),λ i k' hi yG=>?_⟩ (St.join h5)))))).p1
  ·rw [hf]; dsimp only
   unfold look
   cases hq:j5 ks k' with
   | none=>rfl
   | some i=>
    have:j≠i:=λ e=>yG (by have:=jY hq; rw [← e,hj] at this; exact (Option.some.inj this).symm)
    simp [this]
  ·rw [List.getElem?_map,List.getElem?_set_ne]
   rintro rfl
   rw [hj] at hi; exact yG (Option.some.inj hi).symm
theorem St.BL {T Kt E:TypeId} {k:Int} {s:SV} (hs:St w0 A (LN b f k s::L) w) (ht:P.underlying T=some (.map Kt E)) (hk:P.underlying Kt=some (.int .i64)) (hz:qw P E (.slice none 0 0)) :
  (Instr.lookup T (.map (some b)) (.int .i64 k) false).run P w = .ok (Flat.val s) w:=by
 obtain ⟨ks,hs⟩:=hs.eX; obtain ⟨ss,hs⟩:=hs.eX; obtain ⟨tz,hs⟩:=hs.eX; obtain ⟨vs,hs⟩:=hs.eX; obtain ⟨⟨_,h2,h3,_⟩,hs⟩:=hs.oM
 have:=pe (P:=P) (k:=k) hs.split.AD ht hk hz
 rw [h2] at this
 cases nn:j5 ks k with
 | none=>rw [nn] at this; rw [h3 nn]; exact this
 | some j=>rw [nn] at this; exact this
theorem St.Xa {k:Int} {s:SV} {xs:List α} (hs:St w0 A (bK (Flat.val s) xs::LN b f k s::L) w):St w0 A (oQ b (tx f k xs)::L) w:=by
 replace hs:=hs.p1
 obtain ⟨ks,hs⟩:=hs.eX; obtain ⟨ss,hs⟩:=hs.eX; obtain ⟨tz,hs⟩:=hs.eX; obtain ⟨vs,hs⟩:=hs.eX; obtain ⟨⟨hf,h2,h3,hvs,Xb⟩,hs⟩:=hs.oM
 replace hs:=hs.split
 have hm:=hs.AD
 have hl:=hm.len
 have hn:=hm.nodup
 have Du:=hs.p1.lu
 cases nn:j5 ks k with
 | none=>
  have A5:=mr.1 nn
  have hval:vs=ss.map Flat.val:=List.ext_getElem? λ i=>by
   cases hi:ks[i]? with
   | none=>rw [List.getElem?_eq_none_iff] at hi; rw [List.getElem?_eq_none (by omega),List.getElem?_eq_none (by rw [List.length_map]; omega)]
   | some k'=>rw [Xb i k' hi (λ e=>A5 (e▸List.mem_of_getElem? hi)),List.getElem?_map]
  have hx:xs=[]:=by
   obtain ⟨F,h,_⟩:=hs.p2.head
   rw [h3 nn] at h
   rcases h with ⟨_,h,_⟩ | ⟨b',cap,rest,h,_⟩
   ·exact h
   ·cases h
  subst hx
  refine St.eR ks (St.eR ss (St.eR tz (St.qy ?_ (St.join ?_))))
  ·funext k'
   unfold tx
   by_cases e:k'=k
   ·subst e; rw [if_pos rfl,pg A5]; rfl
   ·rw [if_neg e,hf k' e]
  ·rw [← hval]; exact hs.p2.drop
 | some j=>
  have hj:=jY nn
  have hjk:=(List.getElem?_eq_some_iff.1 hj).1
  have Q0:ss[j]? = some (ss[j]'(by omega)):=List.getElem?_eq_getElem _
  have hxj:tz[j]? = some (tz[j]'(by omega)):=List.getElem?_eq_getElem _
  have hvj:vs[j]? = some (Flat.val s):=by unfold look at h2; rw [nn] at h2; exact h2
  have h6:=((hs.p1.focus Q0 hxj).drop).p2
  have h7:St w0 A (CD s xs::qA CD ss tz j::_::L) w:=h6.p0
  have h8:=h7.D6 (by omega) Du
  refine St.eR ks (St.eR (ss.set j s) (St.eR (tz.set j xs) (St.qy ?_ (St.join ?_))))
  ·funext k'
   unfold tx
   by_cases e:k'=k
   ·subst e
    rw [if_pos rfl,pA hn hj (x:=xs) (by rw [List.getElem?_set_self (by omega)])]; rfl
   ·rw [if_neg e,hf k' e]
    unfold look
    cases hq:j5 ks k' with
    | none=>rfl
    | some i=>
     have:j≠i:=λ e'=>e (by have:=jY hq; rw [← e',hj] at this; exact (Option.some.inj this).symm)
     simp [this]
  ·have e:(ss.set j s).map Flat.val=vs:=by
    apply List.ext_getElem?
    intro i
    rw [List.getElem?_map]
    by_cases e:j=i
    ·subst e; rw [List.getElem?_set_self (by omega),hvj]; rfl
    ·rw [List.getElem?_set_ne e]
     cases hi:ks[i]? with
     | none=>rw [List.getElem?_eq_none_iff] at hi; rw [List.getElem?_eq_none (show vs.length≤i by omega),List.getElem?_eq_none (show ss.length≤i by omega)]; rfl
     | some k'=>rw [Xb i k' hi (λ e'=>e (by rw [e'] at hi; have h1:=rN hn hi; rw [nn] at h1; exact Option.some.inj h1))]
   rw [e]; exact h8.p1
omit [Flat α] in
theorem SL {f:Int→List α} {k:Int}:tx f k (f k)=f:=by
 funext j; unfold tx; split
 ·rename_i h; rw [h]
 ·rfl
theorem Cg {T Kt E:TypeId} {k:Int} {s s':SV} {xs:List α} {K:World→Prop} (hs:St w0 A (bK (Flat.val s') xs::LN b f k s::L) w) (ht:P.underlying T=some (.map Kt E)) (hk:P.underlying Kt=some (.int .i64))
  (kk:∀ w',St w0 A (oQ b (tx f k xs)::L) w'→K w'):A7 P (Instr.mapUpdate T (.map (some b)) (.int .i64 k) (Flat.val s')) w K:=by
 replace hs:=hs.p1
 obtain ⟨ks,hs⟩:=hs.eX; obtain ⟨ss,hs⟩:=hs.eX; obtain ⟨tz,hs⟩:=hs.eX; obtain ⟨vs,hs⟩:=hs.eX; obtain ⟨⟨hf,h2,h3,hvs,Xb⟩,hs⟩:=hs.oM
 replace hs:=hs.split
 have hm:=hs.AD
 have hl:=hm.len
 have hn:=hm.nodup
 have Du:=hs.p1.lu
 obtain ⟨w',r1,r2,r3⟩:=QZ (P:=P) (v:=Flat.val s') (k:=k) hm ht hk
 refine ⟨w',r1,kk w' ?_⟩
 cases nn:j5 ks k with
 | none=>
  rw [nn] at r3
  have h5:St w0 A (Gf b (ks++[k]) (vs++[Flat.val s'])::_::_::L) w':=hs.rY λ F hF=>⟨F,⟨r3,hF.2⟩,λ b hb=>.inl hb,r2.mono λ k hk=>(hF.2 k).2 hk⟩
  have A5:=mr.1 nn
  have hval:vs=ss.map Flat.val:=List.ext_getElem? λ i=>by
   cases hi:ks[i]? with
   | none=>rw [List.getElem?_eq_none_iff] at hi; rw [List.getElem?_eq_none (by omega),List.getElem?_eq_none (by rw [List.length_map]; omega)]
   | some k'=>rw [Xb i k' hi (λ e=>A5 (e▸List.mem_of_getElem? hi)),List.getElem?_map]
  have h6:=h5.p1
  have h7:St w0 A (iF CD (ss++[s']) (tz++[xs])::_::L) w':=St.D5 (H:=CD (α:=α)) (p:=s') (x:=xs) h6.p2.p1
  refine St.eR (ks++[k]) (St.eR (ss++[s']) (St.eR (tz++[xs]) (St.qy ?_ (St.join ?_))))
  ·funext k'
   unfold tx
   by_cases e:k'=k
   ·subst e
    rw [if_pos rfl,pA (i:=ks.length) r3.nodup (by simp) (x:=xs) (by rw [List.getElem?_append_right (by omega)]; simp [show ks.length - tz.length=0 from by omega])]; rfl
   ·rw [if_neg e,hf k' e]
    by_cases vB:k'∈ks
    ·obtain ⟨i,hi,hik⟩:=List.getElem_of_mem vB
     have YU:ks[i]? = some k':=by rw [List.getElem?_eq_getElem hi,hik]
     have hxi:tz[i]? = some (tz[i]'(by omega)):=List.getElem?_eq_getElem _
     rw [pA hn YU hxi,pA (i:=i) r3.nodup (by rw [List.getElem?_append_left hi]; exact YU) (by rw [List.getElem?_append_left (by omega)]; exact hxi)]
    ·rw [pg vB,pg (by simp [vB,e])]
  ·have e:(ss++[s']).map Flat.val=vs++[Flat.val s']:=by rw [hval,List.map_append]; rfl
   rw [e]; exact h7.p1
 | some j=>
  rw [nn] at r3
  have h5:St w0 A (Gf b ks (vs.set j (Flat.val s'))::_::_::L) w':=hs.rY λ F hF=>⟨F,⟨r3,hF.2⟩,λ b hb=>.inl hb,r2.mono λ k hk=>(hF.2 k).2 hk⟩
  have hj:=jY nn
  have hjk:=(List.getElem?_eq_some_iff.1 hj).1
  have Q0:ss[j]? = some (ss[j]'(by omega)):=List.getElem?_eq_getElem _
  have hxj:tz[j]? = some (tz[j]'(by omega)):=List.getElem?_eq_getElem _
  have h6:=((h5.p1.focus Q0 hxj).drop).p2
  have h7:St w0 A (CD s' xs::qA CD ss tz j::_::L) w':=h6.p0
  have h8:=h7.D6 (by omega) Du
  refine St.eR ks (St.eR (ss.set j s') (St.eR (tz.set j xs) (St.qy ?_ (St.join ?_))))
  ·funext k'
   unfold tx
   by_cases e:k'=k
   ·subst e
    rw [if_pos rfl,pA hn hj (x:=xs) (by rw [List.getElem?_set_self (by omega)])]; rfl
   ·rw [if_neg e,hf k' e]
    unfold look
    cases hq:j5 ks k' with
    | none=>rfl
    | some i=>
     have:j≠i:=λ e'=>e (by have:=jY hq; rw [← e',hj] at this; exact (Option.some.inj this).symm)
     simp [this]
  ·have e:(ss.set j s').map Flat.val=vs.set j (Flat.val s'):=by
    apply List.ext_getElem?
    intro i
    rw [List.getElem?_map]
    by_cases e:j=i
    ·subst e; rw [List.getElem?_set_self (by omega),List.getElem?_set_self (by omega)]; rfl
    ·rw [List.getElem?_set_ne e,List.getElem?_set_ne e]
     cases hi:ks[i]? with
     | none=>rw [List.getElem?_eq_none_iff] at hi; rw [List.getElem?_eq_none (show vs.length≤i by omega),List.getElem?_eq_none (show ss.length≤i by omega)]; rfl
     | some k'=>rw [Xb i k' hi (λ e'=>e (by rw [e'] at hi; have h1:=rN hn hi; rw [nn] at h1; exact Option.some.inj h1))]
   rw [e]; exact h8.p1
theorem oF {T:TypeId} {K:Value→World→Prop} (hs:St w0 A L w) (k:∀ b w',St w0 A (oQ b (λ _=>([]:List α))::L) w'→K (.map (some b)) w'):gW P (Instr.makeMap T none) w K:=
 wQ hs λ b w' h=>k b w' (St.eR [] (St.eR [] (St.eR ([]:List (List α)) (St.qy rfl (St.join ((h.new (Ext.refl w') (H:=iF CD [] []) (F:=bD) (λ _ h=>h) λ _ h=>h.elim).p1))))))
theorem LO {T Kt E R:TypeId} {k:Int} {A2:Array TypeId} {K:Value→World→Prop} (hs:St w0 A (oQ b f::L) w) (ha:A2[0]? = some T) (ht:P.underlying T=some (.map Kt E)) (hk:P.underlying Kt=some (.int .i64))
  (kk:∀ v w',St w0 A (oQ b (tx f k [])::L) w'→K v w'):gW P (Builtin.delete_ A2 R [.map (some b),.int .i64 k].toArray) w K:=by
 obtain ⟨ks,hs⟩:=hs.eX; obtain ⟨ss,hs⟩:=hs.eX; obtain ⟨tz,hs⟩:=hs.eX; obtain ⟨hf,hs⟩:=hs.oM
 replace hs:=hs.split
 have hm:=hs.AD
 have hl:=hm.len
 have Du:=hs.p1.lu
 have hn:=hm.nodup
 rw [List.length_map] at hl
 obtain ⟨w',r1,r2,r3⟩:=adU (P:=P) (R:=R) (k:=k) hm ha ht hk
 refine ⟨_,w',r1,kk _ w' ?_⟩
 cases nn:j5 ks k with
 | none=>
  rw [nn] at r3
  have h5:St w0 A (Gf b ks (ss.map Flat.val)::_::L) w':=hs.rY λ F hF=>⟨F,⟨r3,hF.2⟩,λ b hb=>.inl hb,r2.mono λ k hk=>(hF.2 k).2 hk⟩
  refine St.eR ks (St.eR ss (St.eR tz (St.qy ?_ (St.join h5))))
  funext k'
  unfold tx
  by_cases e:k'=k
  ·subst e; rw [if_pos rfl]; unfold look; rw [nn]; rfl
  ·rw [if_neg e,hf]
 | some j=>
  rw [nn] at r3
  have hj:=jY nn
  have hjk:=(List.getElem?_eq_some_iff.1 hj).1
  have h5:St w0 A (Gf b (ks.eraseIdx j) ((ss.map Flat.val).eraseIdx j)::_::L) w':=hs.rY λ F hF=>⟨F,⟨r3,hF.2⟩,λ b hb=>.inl hb,r2.mono λ k hk=>(hF.2 k).2 hk⟩
  have Q0:ss[j]? = some (ss[j]'(by omega)):=List.getElem?_eq_getElem _
  have hxj:tz[j]? = some (tz[j]'(by omega)):=List.getElem?_eq_getElem _
  have h6:=(h5.p1.focus Q0 hxj).drop.Sj
  dsimp only at r3
  rw [← ChangeMaps.map_eraseIdx] at h6 r3
  refine St.eR (ks.eraseIdx j) (St.eR (ss.eraseIdx j) (St.eR (tz.eraseIdx j) (St.qy ?_ (St.join h6.p1))))
  funext k'
  unfold tx
  by_cases e:k'=k
  ·subst e
   rw [if_pos rfl,pg]; rfl
   intro JX
   obtain ⟨i,hi,hik⟩:=List.getElem_of_mem JX
   rw [List.getElem_eraseIdx] at hik
   split at hik
   ·have:=rN (j:=i) hn (k:=k') (by rw [← hik]; exact List.getElem?_eq_getElem _); rw [nn] at this; have:=Option.some.inj this; omega
   ·have:=rN (j:=i+1) hn (k:=k') (by rw [← hik]; exact List.getElem?_eq_getElem _); rw [nn] at this; have:=Option.some.inj this; omega
  ·rw [if_neg e,hf]; dsimp only
   by_cases vB:k'∈ks
   ·obtain ⟨i,hi,hik⟩:=List.getElem_of_mem vB
    have YU:ks[i]? = some k':=by rw [List.getElem?_eq_getElem hi,hik]
    have hxi:tz[i]? = some (tz[i]'(by omega)):=List.getElem?_eq_getElem _
    have hij:i≠j:=λ e'=>e (by rw [e',hj] at YU; exact (Option.some.inj YU).symm)
    rw [pA hn YU hxi]
    by_cases mF:i<j
    ·rw [pA (i:=i) r3.nodup (by rw [List.getElem?_eraseIdx_of_lt mF]; exact YU) (by rw [List.getElem?_eraseIdx_of_lt mF]; exact hxi)]
    ·rw [pA (i:=i - 1) r3.nodup (by rw [List.getElem?_eraseIdx_of_ge (by omega),show i - 1+1=i from by omega]; exact YU) (by rw [List.getElem?_eraseIdx_of_ge (by omega),show i - 1+1=i from by omega]; exact hxi)]
   ·rw [pg vB,pg (λ h=>vB ((List.eraseIdx_sublist ks j).subset h))]
end
section
variable {α:Type} [Flat α] {P:Program} {w w0 w':World} {A S:Nat→Prop} {L:List HP} {xs ys:List α}
theorem E8 {T T2 E oH b o dn dc:Nat} {z:Option Nat} {R:TypeId} {src:Value} {cs:List Value} (ht:fc P T=some (E,Flat.sz α,oH,z)) (hb:tP w b cs) (xR:eE S w src ys)
  (hn:ys.length≤dn) (Nh:o+ys.length * Flat.sz α≤cs.length) :
  ∃ w',(Builtin.copy_ #[T,T2] R [.slice (some ⟨b,o,none⟩) dn dc,src].toArray).run P w = .ok (.int .i64 ys.length) w'∧tP w' b (gX cs o (flat ys))∧iE (· = b) w w':=by
 obtain ⟨hu,inf,hi,lF,Bh,_⟩:=gu ht
 have hf:=xi (α:=α) (P:=P) (sz:=Flat.sz α) rfl xR
 have rd:=xR
 obtain ⟨sa,UE,rfl,hsc,hs3⟩:=rd
 obtain ⟨w',h1,h2,h3⟩:=mB (P:=P) (o:=o) (flat ys) 0 cs w hb (by rw [cT]; omega) zJ
 refine ⟨w',?_,by simpa using h2,h3⟩
 simp [Builtin.copy_,run_underlying hu,sizeOf,typeInfo,hi,Builtin.lenOf,Nat.min_eq_left hn,hf,lF,h1,goInt]
theorem LP {T T2 E oH:Nat} {z:Option Nat} {R:TypeId} {v src:Value} {K:Value→World→Prop} (hs:St w0 A (bK v xs::L) w) (ht:fc P T=some (E,Flat.sz α,oH,z)) (xR:eE S w src ys) (hn:ys.length≤xs.length)
  (k:∀ w',St w0 A (bK v (ys++xs.drop ys.length)::L) w'→K (.int .i64 ys.length) w'):gW P (Builtin.copy_ #[T,T2] R [v,src].toArray) w K:=by
 obtain ⟨U,F,U',g1,g2,g3,g4,g5⟩:=hs.sX
 rcases g1 with ⟨rfl,rfl,hF⟩ | ⟨b,cap,rest,rfl,hb,hl,hF⟩
 ·obtain rfl:ys=[]:=by simpa using hn
  obtain ⟨hu,inf,hi,lF,Bh,_⟩:=gu ht
  have hf:=xi (α:=α) (P:=P) (sz:=Flat.sz α) rfl xR
  obtain ⟨sa,UE,rfl,hsc,hs3⟩:=xR
  refine ⟨_,w,?_,k w hs⟩
  simp at hf
  simp [Builtin.copy_,run_underlying hu,sizeOf,typeInfo,hi,Builtin.lenOf,lF,hf,goInt]
 ·have hle:ys.length * Flat.sz α≤xs.length * Flat.sz α:=Nat.mul_le_mul_right _ hn
  obtain ⟨w',h1,h2,h3⟩:=E8 (P:=P) (o:=0) (dn:=xs.length) (dc:=cap) (T2:=T2) (R:=R) ht hb xR hn (by rw [List.length_append,cT]; omega)
  refine ⟨_,w',h1,k w' (hs.rY λ F' hF'=>?_)⟩
  rcases hF' with ⟨h,_⟩ | ⟨b',Kl,rest',hv,hb',hl',hF'⟩
  ·cases h
  ·simp only [Value.slice.injEq,Option.some.injEq,Addr.mk.injEq,and_true,true_and] at hv
   obtain ⟨rfl,rfl⟩:=hv
   refine ⟨F',.inr ⟨b,cap,rest,?_,?_,?_,hF'⟩,λ b hb=>.inl hb,h3.mono λ k hk=>(hF' k).2 hk⟩
   ·congr 1; rw [List.length_append,List.length_drop]; omega
   ·have e:flat xs=[]++flat (xs.take ys.length)++flat (xs.drop ys.length):=by rw [List.nil_append,← iq,List.take_append_drop]
    have:=kQ [] (flat (xs.take ys.length)) (flat (xs.drop ys.length)++rest) (flat ys) (by rw [cT,cT,List.length_take,Nat.min_eq_left hn])
    rw [List.length_nil] at this
    rw [e,List.append_assoc,this] at h2
    rw [iq,List.append_assoc]; exact h2
   ·rw [List.length_append,cT,List.length_append,List.length_drop,show ys.length+(xs.length - ys.length)=xs.length from by omega,← cT (xs:=xs),← List.length_append]; exact hl
end
end Go.Fw
namespace Go.Proofs.YtnjcingfdhjfkaaGreat
open Go.Fw
structure Mem where
 of:List Int
 dF:List Int
 l:List Int
 kept:List Int
 gE:Int→List jq
def kY (of:List Int):Int:=if of.length=0 then 0 else of.getD (of.length - 1) 0+1
def yf (k:List Int) (ws:List jq):List Int:=ws.foldl (λ k w=>k.set w.cell.toNat w.n) k
theorem AE (ws:List jq):∀ k:List Int,(yf k ws).length=k.length:=by
 induction ws with
 | nil=>intro k; rfl
 | cons x ws ih=>intro k; show (yf (k.set x.cell.toNat x.n) ws).length=_; rw [ih,List.length_set]
theorem SM (ws:List jq) (x:jq) (k:List Int):yf k (ws++[x])=(yf k ws).set x.cell.toNat x.n:=by
 unfold yf; rw [List.foldl_append]; rfl
theorem Hg {ws:List jq} {j:Nat} {x:jq} {k:List Int} (hx:ws[j]? = some x):yf k (ws.take (j+1))=(yf k (ws.take j)).set x.cell.toNat x.n:=by
 rw [List.take_add_one,hx]; exact SM _ _ _
def Ou (m:Mem) (cell:Int):Bool:=decide (0≤cell∧cell<m.l.length)
def iO (m:Mem) (cell n:Int):Mem:=if Ou m cell=true then {m with l:=m.l.set cell.toNat n,gE:=if cell<m.of.length then tx m.gE (m.of.getD cell.toNat 0) (m.gE (m.of.getD cell.toNat 0)++[⟨cell,n⟩]) else m.gE} else m
def SN (m:Mem) (line:Int):Bool:=decide (0≤line∧line<kY m.of)
def vQ (m:Mem) (line:Int):Mem:=if SN m line=true then {m with kept:=yf m.kept (m.gE line),gE:=tx m.gE line []} else m
structure xD (m:Mem):Prop where
 Q1:m.of.length≤m.dF.length
 fl:m.dF.length≤20
 ll:m.l.length=m.dF.length
 kl:m.kept.length=m.of.length
 ofr:∀ n∈m.of,0≤n∧n<kY m.of
 lb:kY m.of≤20
 pc:∀ k,∀ x∈m.gE k,0≤x.cell∧x.cell<m.of.length
def MB (m:Mem) (n:Nat):Prop:=∀ k,(m.gE k).length≤n
def fV (p:Nat) (ov fv:Value) (m:Mem):HP:=ue λ lv=>ue λ kv=>ue λ pm=>sep (cE p [ov,fv,lv,kv,.map (some pm)]) (sep (bK lv m.l) (sep (bK kv m.kept) (oQ pm m.gE)))
def uC (ov fv:Value) (m:Mem) (w:World):Prop:=eE (λ _=>True) w ov m.of∧eE (λ _=>True) w fv m.dF
def vr (w:World) (p:Nat) (m:Mem):Prop:=∃ ov fv lv kv pm,Cell w p 0 ov∧Cell w p 1 fv∧Cell w p 2 lv∧Cell w p 3 kv∧Cell w p 4 (.map (some pm))∧eE (λ _=>True) w ov m.of∧eE (λ _=>True) w fv m.dF∧eE (λ _=>True) w lv m.l∧eE (λ _=>True) w kv m.kept∧sO w pm m.gE
section
variable {w w' w0:World} {A F:Nat→Prop} {R:List HP} {p:Nat} {ov fv lv kv:Value} {m:Mem} {pm:Nat}
theorem vr.ext (h:vr w p m) (e:Ext w w'):vr w' p m:=by
 obtain ⟨ov,fv,lv,kv,pm,c0,c1,c2,c3,c4,h0,h1,h2,h3,h4⟩:=h
 exact ⟨ov,fv,lv,kv,pm,c0.ext e,c1.ext e,c2.ext e,c3.ext e,c4.ext e,h0.ext e,h1.ext e,h2.ext e,h3.ext e,h4.ext e⟩
theorem vr.mk' (h:tP w p [ov,fv,lv,kv,.map (some pm)]) (hK:uC ov fv m w) (h2:eE (λ _=>True) w lv m.l) (h3:eE (λ _=>True) w kv m.kept) (h4:sO w pm m.gE):vr w p m:=
 ⟨ov,fv,lv,kv,pm,h.cell rfl,h.cell rfl,h.cell rfl,h.cell rfl,h.cell rfl,hK.1,hK.2,h2,h3,h4⟩
theorem fV.open (hs:St w0 A (fV p ov fv m::R) w):∃ lv kv pm,St w0 A (cE p [ov,fv,lv,kv,.map (some pm)]::bK lv m.l::bK kv m.kept::oQ pm m.gE::R) w:=by
 obtain ⟨lv,hs⟩:=hs.eX; obtain ⟨kv,hs⟩:=hs.eX; obtain ⟨pm,hs⟩:=hs.eX
 have h1:=hs.split
 have h2:=h1.p1.split
 have h3:=(h2.p1.split)
 exact ⟨lv,kv,pm,h3.p2.p3⟩
theorem fV.shut (hs:St w0 A (cE p [ov,fv,lv,kv,.map (some pm)]::bK lv m.l::bK kv m.kept::oQ pm m.gE::R) w):St w0 A (fV p ov fv m::R) w:=by
 have h1:St w0 A (sep (bK kv m.kept) (oQ pm m.gE)::cE p [ov,fv,lv,kv,.map (some pm)]::bK lv m.l::R) w:=St.join (hs.p3.p3)
 have h2:St w0 A (sep (bK lv m.l) (sep (bK kv m.kept) (oQ pm m.gE))::cE p [ov,fv,lv,kv,.map (some pm)]::R) w:=St.join h1.p2
 exact St.eR lv (St.eR kv (St.eR pm (St.join h2.p1)))
theorem I6 (hs:St w0 A (fV p ov fv m::R) w) (hK:uC ov fv m w):vr w p m:=by
 obtain ⟨lv,kv,pm,hs⟩:=fV.open hs
 exact vr.mk' hs.hb hK hs.p1.fB hs.p2.fB hs.p3.W9
end
theorem C144 (p:Nat) (m:Mem) (w:World) (hm:vr w p m) (hk:xD m):CR 144 [(.pointer (some ⟨p,0,none⟩))] w (λ v w'=>v = .int .i64 (kY m.of)∧Ext w w'):=by
 have E9:=hm;obtain ⟨ov,fv,lv,kv,pm,c0,c1,c2,c3,c4,hO,SO,hL,hKp,hP⟩:=hm;have h20:=hk.fl;have Y8:=hk.Q1;have NH:=hk.ll;have KW:=hk.kl;have QB:=hk.lb;have hs:=St.start w;refine aab _ _ _ ?_;unfold S144;refine aF (aA ua (cD eA (c0.ext hs.aE) (aK ek (hO.ext hs.aE) (aH (aC (λ gp=>?_) (λ gp=>?_))))))
 ·exact ⟨congrArg (Value.int .i64) (by unfold kY; rw [if_pos (by omega)]),hs.aE⟩
 ·refine aF (aA ua (have hs:=hs.drew;cD eA (c0.ext hs.aE) (aF (aA ua (cD eA (c0.ext hs.aE) (aK ek (hO.ext hs.aE) (gA (by omega) ?_)))))));obtain ⟨iJ,fj⟩:=gx (m.of) (i:=((((m.of).length:Int) - 1)).toNat) (by omega);refine aQ ek hO (by omega) fj (λ _ ju=>aD bN (ju.ext hs.aE) ?_);have hx20:=hk.ofr _ (List.mem_of_getElem? fj);refine aO (by omega) ?_;exact ⟨congrArg (Value.int .i64) (by unfold kY; rw [if_neg (by omega),List.getD_eq_getElem?_getD,show m.of.length - 1=((m.of.length:Int) - 1).toNat from by omega,fj]; rfl),hs.aE⟩
theorem C195 (p:Nat) (m:Mem) (cell:Int) (w:World) (hm:vr w p m) (hk:xD m):CR 195 [(.pointer (some ⟨p,0,none⟩)),.int .i64 cell] w (λ v w'=>v = .tuple #[.int .i64 (if Ou m cell=true then m.l.getD cell.toNat 0 else 0),.int .i64 (if Ou m cell=true then 0 else 1)]∧Ext w w'):=by
 have E9:=hm;obtain ⟨ov,fv,lv,kv,pm,c0,c1,c2,c3,c4,hO,SO,hL,hKp,hP⟩:=hm;have hs:=St.start w;refine aaS _ _ _ _ ?_;unfold S195;refine ⟨λ jv w'=>jv = .bool (decide (cell<0∨m.l.length≤cell))∧w=w',?_,?_⟩
 ·refine aR (aC (λ iV=>?_) (λ iV=>?_))
  ·exact ⟨M9 (by omega),rfl⟩
  ·refine aF (aA rk (cD eA (c2.ext hs.aE) (aK ek (hL.ext hs.aE) (dH ?_))));exact ⟨vX (by omega),rfl⟩
 ·rintro _ w1 ⟨rfl,hw⟩ fz;subst hw;refine aC (λ eF=>?_) (λ eF=>?_)
  ·have vB:Ou m cell=false:=by unfold Ou; rw [decide_eq_false_iff_not]; omega
   rw [vB];exact ⟨rfl,hs.aE⟩
  ·refine aF (aA rk (cD eA (c2.ext hs.aE) ?_));obtain ⟨e_x22,Xc⟩:=gx (m.l) (i:=(cell).toNat) (by omega);refine aQ ek hL (by omega) Xc (λ _ Lg=>aD bN (Lg.ext hs.aE) ?_);have vB:Ou m cell=true:=by unfold Ou; rw [decide_eq_true_eq]; omega
   rw [vB,List.getD_eq_getElem?_getD,Xc];exact ⟨rfl,hs.aE⟩
theorem C72 (p:Nat) (m:Mem) (w:World) (hm:vr w p m) (hk:xD m):CR 72 [(.pointer (some ⟨p,0,none⟩))] w (λ v w'=>lW (bK v m.l) w w'):=by
 have E9:=hm;obtain ⟨ov,fv,lv,kv,pm,c0,c1,c2,c3,c4,hO,SO,hL,hKp,hP⟩:=hm;have h20:=hk.fl;have Y8:=hk.Q1;have NH:=hk.ll;have KW:=hk.kl;have QB:=hk.lb;have hs:=St.start w;refine aim _ _ _ ?_;unfold S72;refine aF (aA rk (cD eA (c2.ext hs.aE) (cZ zG hs (C70 _ _ _ (hL.ext hs.aE) (by omega)) (λ x7 w1 bV hs=>?_))));exact hs.fresh
theorem C73 (p:Nat) (m:Mem) (w:World) (hm:vr w p m) (hk:xD m):CR 73 [(.pointer (some ⟨p,0,none⟩))] w (λ v w'=>lW (bK v m.kept) w w'):=by
 have E9:=hm;obtain ⟨ov,fv,lv,kv,pm,c0,c1,c2,c3,c4,hO,SO,hL,hKp,hP⟩:=hm;have h20:=hk.fl;have Y8:=hk.Q1;have NH:=hk.ll;have KW:=hk.kl;have QB:=hk.lb;have hs:=St.start w;refine ain _ _ _ ?_;unfold S73;refine aF (aA zT (cD eA (c3.ext hs.aE) (cZ zG hs (C70 _ _ _ (hKp.ext hs.aE) (by omega)) (λ x7 w1 bV hs=>?_))));exact hs.fresh
theorem C137 (sv:Value) (xs:List jq) (w:World) (hL:eE (λ _=>True) w sv xs) (hn:xs.length≤1000000):CR 137 [sv] w (λ v w'=>lW (bK v xs) w w'):=by
 have hs:=St.start w;refine aaa _ _ _ ?_;unfold S137;refine xp Tryz.underlying213 (hL.ext hs.aE) (λ p hp=>aY (λ pU=>?_) (λ pU=>?_))
 ·have hx:=hp pU;subst hx;exact (hs.fU (α:=jq)).fresh
 ·refine bX (([]:List jq)) hs wc rfl rfl (eL rfl) (λ IH w1 hs=>?_);have Ak:=(hL.ext hs.aE);refine cP hs wc Ak (by simp; omega) (by decide) (λ Ln w2 hs=>?_);exact hs.fresh
theorem C128 (p:Nat) (ov fv:Value) (m:Mem) (F:Nat→Prop) (cell n:Int) (w:World) (hF:(fV p ov fv m).p w F) (hK:∀ w',iE F w w'→uC ov fv m w') (hk:xD m) (hb:MB m 1000000):CR 128 [(.pointer (some ⟨p,0,none⟩)),.int .i64 cell,.int .i64 n] w (λ v w'=>v = .int .i64 (if Ou m cell=true then 0 else 1)∧qz F (fV p ov fv (iO m cell n)) w w'):=by
 have hs:=St.begin hF;obtain ⟨lv,kv,pm,hs⟩:=fV.open hs;have h20:=hk.fl;have Y8:=hk.Q1;have NH:=hk.ll;have KW:=hk.kl;have QB:=hk.lb;refine Z1 _ _ _ _ _ ?_;unfold S128;refine ⟨λ jv w'=>jv = .bool (decide (cell<0∨m.l.length≤cell))∧w=w',?_,?_⟩
 ·refine aR (aC (λ gw=>?_) (λ gw=>?_))
  ·exact ⟨M9 (by omega),rfl⟩
  ·refine aF (aA rk (aB eA hs.hb rfl (aK ek (hs.p1).fB (dH ?_))));exact ⟨vX (by omega),rfl⟩
 ·rintro _ w1 ⟨rfl,hw⟩ fz;subst hw;refine aC (λ gd=>?_) (λ gd=>?_)
  ·have hs:=hs.p3.p3.p3.p3;have vB:Ou m cell=false:=by unfold Ou; rw [decide_eq_false_iff_not]; omega
   unfold iO;rw [vB];exact ⟨rfl,(fV.shut hs).mut⟩
  ·have vB:Ou m cell=true:=by unfold Ou; rw [decide_eq_true_eq]; omega
   refine aF (aA rk (aB eA hs.hb rfl ?_));obtain ⟨G8,qj⟩:=gx (m.l) (i:=(cell).toNat) (by omega);refine dU hs.p1 ek (by omega) (by omega) (λ _ uw=>lK _ hs.p1 bN uw (by omega) (λ w2 hs=>?_));refine ⟨λ w'=>St w F [fV p ov fv (iO m cell n)] w',?_,?_⟩
   ·refine aF (aA ua (aB eA hs.p1.hb rfl (aK ek (hK _ hs.aE).1 (aR (aC (λ jP=>?_) (λ jP=>?_))))))
    ·refine aF (aA ua (aB eA hs.p1.hb rfl ?_));obtain ⟨Ll,Bv⟩:=gx (m.of) (i:=(cell).toNat) (by omega);refine aQ ek (hK _ hs.aE).1 (by omega) Bv (λ _ Ez=>aD bN (Ez) (aF (aA m7 (have hs:=hs.drew;aB sq hs.p1.hb rfl (aF (aA m7 (aB sq hs.p1.hb rfl ?_)))))));have hbx:=hb Ll;obtain ⟨V2,hs⟩:=(hs.p3).E7 (k:=Ll);refine ⟨_,(hs.p1).BL Tryz.underlying201 oU xn,?_⟩;refine pop (Nu _ _) (bX ([(⟨cell,n⟩:jq)]) hs wc rfl rfl (eL rfl) (λ s_x54 w3 hs=>?_));refine ⟨aG sq (hs.p4.hb.cell rfl),?_⟩;refine ⟨aG sq (hs.p4.hb.cell rfl),?_⟩
     refine ⟨(hs.p2).BL Tryz.underlying201 oU xn,?_⟩;have akC:=(hs).fB;refine cP hs.p1 wc akC (by simp; omega) (by decide) (λ arq w4 hs=>?_);have hs:=hs.p1.drop;refine ⟨aG sq (hs.p3.hb.cell rfl),?_⟩;obtain ⟨Fa,rfl⟩:=(hs).fR;have hs:=hs.p1.p1;refine Cg hs Tryz.underlying201 oU (λ w5 hs=>?_);have hs:=hs.p3.p2.p3;have hwm:iO m cell n={m with l:=m.l.set cell.toNat n,gE:=tx m.gE Ll (m.gE Ll++[⟨cell,n⟩])}:=by unfold iO; rw [if_pos vB,if_pos (by omega),List.getD_eq_getElem?_getD,Bv]; rfl
     rw [hwm];exact fV.shut (m:={m with l:=_,gE:=_}) hs
    ·have hs:=hs.p3.p3.p2.p3;have hwm:iO m cell n={m with l:=m.l.set cell.toNat n}:=by unfold iO; rw [if_pos vB,if_neg (by omega)]
     rw [hwm];exact fV.shut (m:={m with l:=_,gE:=_}) hs
   ·intro w6 hs jB;exact ⟨by rw [vB]; rfl,hs.mut⟩
def Q2 (m:Mem) (cut:List Int):Bool:=decide ((cut.length:Int)=kY m.of) && (List.range cut.length).all λ i=>decide (0≤cut.getD i 0∧cut.getD i 0≤(m.gE i).length)
def AF (m:Mem) (cut:List Int) (k:Nat):List Int:=(List.range k).foldl (λ o (i:Nat)=>yf o ((m.gE i).take (cut.getD i 0).toNat)) m.kept
def jK (m:Mem) (cut:List Int):Option (List Int):=if Q2 m cut=true then some (AF m cut cut.length) else none
theorem Hh (m:Mem) (cut:List Int) (k:Nat):AF m cut (k+1)=yf (AF m cut k) ((m.gE k).take (cut.getD k 0).toNat):=by
 unfold AF; rw [List.range_succ,List.foldl_append]; rfl
theorem uD (m:Mem) (cut:List Int):∀ k,(AF m cut k).length=m.kept.length
 | 0=>rfl
 | k+1=>by rw [Hh,AE,uD]
theorem Xd {m:Mem} {cut:List Int} {k:Nat} {c:Int} (hc:cut[k]? = some c) (h:¬ (0≤c∧c≤(m.gE k).length)):jK m cut=none:=by
 unfold jK; rw [if_neg]
 intro hh
 unfold Q2 at hh
 rw [Bool.and_eq_true,List.all_eq_true] at hh
 have:=hh.2 k (List.mem_range.2 (List.getElem?_eq_some_iff.1 hc).1)
 rw [decide_eq_true_eq,List.getD_eq_getElem?_getD,hc] at this
 exact h this
theorem Xe {m:Mem} {cut:List Int} (h:(cut.length:Int)≠kY m.of):jK m cut=none:=by
 unfold jK Q2; rw [decide_eq_false h]; rfl
theorem Hi {m:Mem} {cut:List Int} (h:(cut.length:Int)=kY m.of) (hc:∀ (k:Nat) (c:Int),k<cut.length→cut[k]? = some c→0≤c∧c≤(m.gE k).length):jK m cut=some (AF m cut cut.length):=by
 unfold jK; rw [if_pos]
 unfold Q2
 rw [Bool.and_eq_true,List.all_eq_true]
 refine ⟨decide_eq_true h,λ k hk=>?_⟩
 have hk:=List.mem_range.1 hk
 rw [decide_eq_true_eq,List.getD_eq_getElem?_getD,List.getElem?_eq_getElem hk]
 exact hc k _ hk (List.getElem?_eq_getElem hk)
def Q3:List Nat→List Int→Option (List Int)
 | p::ps,c::cs=>match Q3 ps cs with
  | some cs'=>some (c::cs')
  | none=>if c<p then some ((c+1)::List.replicate cs.length 0) else none
 | _,_=>none
theorem Xf:∀ {ps:List Nat} {cs:List Int} {i:Nat} {p:Nat} {c:Int},ps[i]? = some p→cs[i]? = some c→Q3 (ps.drop (i+1)) (cs.drop (i+1))=none→c<p→
  Q3 ps cs=some (cs.take i++(c+1)::List.replicate (cs.length - (i+1)) 0)
 | p'::ps,c'::cs,0,p,c,hp,hc,hn,h=>by
  rw [List.getElem?_cons_zero] at hp hc
  obtain rfl:=Option.some.inj hp
  obtain rfl:=Option.some.inj hc
  have hn':Q3 ps cs=none:=hn
  simp [Q3,hn',h]
 | p'::ps,c'::cs,i+1,p,c,hp,hc,hn,h=>by
  rw [List.getElem?_cons_succ] at hp hc
  have:=Xf hp hc hn h
  simp [Q3,this]
 | [],_,_,_,_,hp,_,_,_=>by simp at hp
 | _::_,[],_,_,_,_,hc,_,_=>by simp at hc
theorem Xg:∀ {ps:List Nat} {cs:List Int} {i:Nat} {p:Nat} {c:Int},ps[i]? = some p→cs[i]? = some c→Q3 (ps.drop (i+1)) (cs.drop (i+1))=none→¬ c<p→Q3 (ps.drop i) (cs.drop i)=none
 | p'::ps,c'::cs,0,p,c,hp,hc,hn,h=>by
  rw [List.getElem?_cons_zero] at hp hc
  obtain rfl:=Option.some.inj hp
  obtain rfl:=Option.some.inj hc
  have hn':Q3 ps cs=none:=hn
  simp [Q3,hn',h]
 | p'::ps,c'::cs,i+1,p,c,hp,hc,hn,h=>by
  rw [List.getElem?_cons_succ] at hp hc
  have:=Xg hp hc hn h
  simpa using this
 | [],_,_,_,_,hp,_,_,_=>by simp at hp
 | _::_,[],_,_,_,_,hc,_,_=>by simp at hc
def Fb (m:Mem) (n:Nat):List Nat:=(List.range n).map fun (i:Nat)=>(m.gE i).length
theorem Fc {m:Mem} {n i:Nat} (h:i<n):(Fb m n)[i]? = some (m.gE i).length:=by
 unfold Fb; rw [List.getElem?_map,List.getElem?_range h]; rfl
def Xh (m:Mem) (cut:List Int):Option (List Int):=Q3 (Fb m cut.length) cut
def ze (m:Mem) (oK:List Int):Mem:={m with kept:=oK,l:=oK++m.dF.drop oK.length,gE:=λ _=>[]}
theorem AG {cs:List Int} {t:Nat} {x:Int} (h:t<cs.length):(cs.take (t+1)++List.replicate (cs.length - (t+1)) 0).set t x=cs.take t++x::List.replicate (cs.length - (t+1)) (0:Int):=by
 have e:cs.take (t+1)=cs.take t++[cs[t]]:=by rw [List.take_add_one,List.getElem?_eq_getElem h]; rfl
 rw [e,List.append_assoc,List.set_append_right _ _ (by rw [List.length_take]; omega),List.length_take,Nat.min_eq_left (Nat.le_of_lt h),Nat.sub_self]
 rfl
theorem Xi {cs:List Int} {t:Nat} (h:t<cs.length):cs.take t++0::List.replicate (cs.length - (t+1)) (0:Int)=cs.take t++List.replicate (cs.length - t) 0:=by
 rw [show cs.length - t=(cs.length - (t+1))+1 from by omega,List.replicate_succ]
theorem C129 (p:Nat) (ov fv:Value) (m:Mem) (F:Nat→Prop) (line:Int) (w:World) (hF:(fV p ov fv m).p w F) (hK:∀ w',iE F w w'→uC ov fv m w') (hk:xD m) (hb:MB m 1000000):CR 129 [(.pointer (some ⟨p,0,none⟩)),.int .i64 line] w (λ v w'=>v = .int .i64 (if SN m line=true then 0 else 1)∧qz F (fV p ov fv (vQ m line)) w w'):=by
 have hs:=St.begin hF;obtain ⟨lv,kv,pm,hs⟩:=fV.open hs;have h20:=hk.fl;have Y8:=hk.Q1;have NH:=hk.ll;have KW:=hk.kl;have QB:=hk.lb;refine Z2 _ _ _ _ ?_;unfold S129;refine ⟨λ jv w'=>jv = .bool (decide (line<0∨kY m.of≤line))∧St w F [cE p [ov,fv,lv,kv,.map (some pm)],bK lv m.l,bK kv m.kept,oQ pm m.gE] w',?_,?_⟩
 ·refine aR (aC (λ gp=>?_) (λ gp=>?_))
  ·exact ⟨vb (by first | exact (decide_eq_true (by omega)).symm | exact decide_eq_decide.2 (by omega)),hs⟩
  ·refine aZ Ux hs (C144 _ m _ (vr.mk' hs.hb (hK _ hs.aE) hs.p1.fB hs.p2.fB hs.p3.W9) hk) (λ w1 he hs=>dH ?_);exact ⟨vb (by first | exact (decide_eq_true (by omega)).symm | exact decide_eq_decide.2 (by omega)),hs⟩
 ·rintro _ w2 ⟨rfl,hs⟩ fz;refine aC (λ gI=>?_) (λ gI=>?_)
  ·have hs:=hs.p3.p3.p3.p3;have vB:SN m line=false:=by unfold SN; rw [decide_eq_false_iff_not]; omega
   unfold vQ;rw [vB];exact ⟨rfl,(fV.shut hs).mut⟩
  ·refine aF (aA m7 (aB sq hs.hb rfl ?_));obtain ⟨agP,hs⟩:=(hs.p3).E7 (k:=line);refine ⟨_,(hs.p1).BL Tryz.underlying201 oU xn,?_⟩;have yQ:=hb line;refine aK wc (hs).fB ?_;have hs:=hs.p3.p3.p4.p4.p4;refine ⟨λ mm x w1=>∃ k:Nat,x = .int .i64 (k:Int)∧mm=(m.gE line).length - k∧k≤(m.gE line).length∧St w F [bK (Flat.val agP) (m.gE line),LN pm m.gE line agP,bK kv (yf m.kept ((m.gE line).take k)),cE p [ov,fv,lv,kv,.map (some pm)],bK lv m.l] w1,⟨_,0,rfl,rfl,Nat.zero_le _,hs⟩,?_⟩;rintro mm _ w3 ⟨k,rfl,rfl,JG,hs⟩ jB;refine aR (aC (λ iT=>?_) (λ iT=>?_))
   ·obtain ⟨gU,iw⟩:=gx ((m.gE line)) (i:=((k:Int)).toNat) (by omega);refine dU hs wc (by omega) (by omega) (λ _ wu=>?_);have hpc:=hk.pc line _ (List.mem_of_getElem? iw);refine gk hs Qm wu iw (aJ hs Qn (λ b_w6 w4 hs=>aI (x:=gU) hs Qm rfl rfl (λ w5 hs=>aF (aA zT (have hs:=hs.drew;aB eA hs.p4.hb rfl (aA Ky ?_))))));have hal:=AE ((m.gE line).take k) m.kept;refine aB (v:=.int .i64 ((gU).cell)) bN hs.hb rfl (aA Kz (aB (v:=.int .i64 ((gU).n)) bN hs.hb rfl ?_));obtain ⟨vG,tA⟩:=gx ((yf m.kept ((m.gE line).take k))) (i:=((gU).cell).toNat) (by omega)
    refine dU hs.p3 ek (by omega) (by omega) (λ _ rL=>lK _ hs.p3 bN rL (by omega) (λ w6 hs=>aO (by omega) ?_));have hs:=(hs.p1.drop.p4.p4.p2.p4).p4;exact ⟨_,by omega,k+1,rfl,rfl,by omega,by rw [Hg (j:=k) iw]; exact hs⟩
   ·rw [List.take_of_length_le (by omega)] at hs;refine aF (aA m7 (aB sq hs.p3.hb rfl ?_));have hs:=hs.p1.p1.Xa;rw [SL] at hs;refine LO hs rfl Tryz.underlying201 oU (λ _ w7 hs=>?_);have hs:=hs.p1.p3.p3;have vB:SN m line=true:=by unfold SN; rw [decide_eq_true_eq]; omega
    have I7:vQ m line={m with kept:=yf m.kept (m.gE line),gE:=tx m.gE line []}:=by unfold vQ; rw [if_pos vB]
    rw [I7,vB];exact ⟨rfl,(fV.shut (m:={m with kept:=_,gE:=_}) hs).mut⟩
theorem C125 (p:Nat) (m:Mem) (cut:List Int) (cv:Value) (w:World) (hm:vr w p m) (hk:xD m) (hb:MB m 1000000) (hC:eE (λ _=>True) w cv cut) (akD:cut.length≤1000):CR 125 [(.pointer (some ⟨p,0,none⟩)),cv] w (λ v w'=>(jK m cut=none∧v = .tuple #[.slice none 0 0,.int .i64 1]∧Ext w w')∨∃ oK o,jK m cut=some oK∧v = .tuple #[o,.int .i64 0]∧lW (bK o oK) w w'):=by
 have E9:=hm;obtain ⟨ov,fv,lv,kv,pm,c0,c1,c2,c3,c4,hO,SO,hL,hKp,hP⟩:=hm;have h20:=hk.fl;have Y8:=hk.Q1;have NH:=hk.ll;have KW:=hk.kl;have QB:=hk.lb;have hs:=St.start w;refine ZY _ _ _ _ ?_;unfold S125;refine aK ek (hC.ext hs.aE) (aZ Ux hs (C144 _ m _ (E9.ext hs.aE) hk) (λ w1 he hs=>cO (aC (λ js=>?_) (λ js=>?_))))
 ·exact .inl ⟨Xe (by omega),rfl,hs.aE⟩
 ·refine cZ Us hs (C73 _ m _ (E9.ext hs.aE) hk) (λ x17 w2 bV hs=>aK ek (hC.ext hs.aE) ?_);refine ⟨λ mm x w1=>∃ k:Nat,x = .int .i64 (k:Int)∧mm=cut.length - k∧k≤cut.length∧(∀ (i:Nat) (c:Int),i<k→cut[i]? = some c→0≤c∧c≤(m.gE i).length)∧St w bD [bK x17 (AF m cut k)] w1,⟨_,0,rfl,rfl,Nat.zero_le _,λ i c h=>absurd h (by omega),hs⟩,?_⟩;rintro mm _ w3 ⟨k,rfl,rfl,JG,nP,hs⟩ fz;refine aR (aC (λ gv=>?_) (λ gv=>?_))
  ·obtain ⟨pW,iW⟩:=gx (cut) (i:=((k:Int)).toNat) (by omega);refine aQ ek hC (by omega) iW (λ _ ox=>aD bN (ox.ext hs.aE) ?_);refine ⟨λ jv w'=>jv = .bool (decide (pW<0∨(m.gE k).length<pW))∧w3=w',?_,?_⟩
   ·refine aR (aC (λ qC=>?_) (λ qC=>?_))
    ·exact ⟨M9 (by omega),rfl⟩
    ·refine aF (aA m7 (cD sq (c4.ext hs.aE) (BK hP hs.aE Tryz.underlying201 oU xn (λ ars rL=>aK wc (rL.ext hs.aE) (dD ?_)))));exact ⟨vX (by omega),rfl⟩
   ·rintro _ w4 ⟨rfl,hw⟩ jB;subst hw;refine aC (λ uh=>?_) (λ uh=>?_)
    ·exact .inl ⟨Xd (k:=k) iW (by omega),rfl,hs.aE⟩
    ·refine aF (aA m7 (cD sq (c4.ext hs.aE) (BK hP hs.aE Tryz.underlying201 oU xn (λ apP yA=>?_))));have NY:=hb k;have Nk:((m.gE k).take pW.toNat).length≤(m.gE k).length:=by rw [List.length_take]; omega
     refine l8 wc (yA.ext hs.aE) (by omega) (by omega) (λ WK Ok=>?_);have I2:=Ok _ yA;refine aK wc (I2.ext hs.aE) ?_;refine ⟨λ mm x w1=>∃ j:Nat,x = .int .i64 (j:Int)∧mm=((m.gE k).take pW.toNat).length - j∧j≤((m.gE k).take pW.toNat).length∧St w bD [bK x17 (yf (AF m cut k) (((m.gE k).take pW.toNat).take j))] w1,⟨_,0,rfl,rfl,Nat.zero_le _,hs⟩,?_⟩;rintro mm _ w5 ⟨j,rfl,rfl,hj,hs⟩ oN;refine aR (aC (λ Ad=>?_) (λ Ad=>?_))
     ·obtain ⟨EC,vj⟩:=gx ((((m.gE (k:Int))).take (pW).toNat)) (i:=((j:Int)).toNat) (by omega);refine aQ wc I2 (by omega) vj (λ _ ED=>?_);have hpc:=hk.pc k _ (List.mem_of_mem_take (List.mem_of_getElem? vj));refine aD Qm (ED.ext hs.aE) (aJ hs Qn (λ b_w10 w6 hs=>aI (x:=EC) hs Qm rfl rfl (λ w7 hs=>aA Ky ?_)));have hal:=AE (((m.gE k).take pW.toNat).take j) (AF m cut k);have hil:=uD m cut k;refine aB (v:=.int .i64 ((EC).cell)) bN hs.hb rfl (aA Kz (aB (v:=.int .i64 ((EC).n)) bN hs.hb rfl ?_));obtain ⟨art,akE⟩:=gx ((yf (AF m cut k) (((m.gE k).take pW.toNat).take j))) (i:=((EC).cell).toNat) (by omega)
      refine dU hs.p1 ek (by omega) (by omega) (λ _ LQ=>lK _ hs.p1 bN LQ (by omega) (λ w8 hs=>aO (by omega) ?_));have hs:=(hs.p1).drop;exact ⟨_,by omega,j+1,rfl,rfl,by omega,by rw [Hg (j:=j) vj]; exact hs⟩
     ·rw [List.take_of_length_le (i:=j) (by omega)] at hs;refine aO (by omega) ?_;refine ⟨_,by omega,k+1,rfl,rfl,by omega,λ i c hi hc=>?_,?_⟩
      ·by_cases e:i=k
       ·subst e; obtain rfl:=Option.some.inj (hc.symm.trans iW); omega
       ·exact nP i c (by omega) hc
      ·rw [Hh,List.getD_eq_getElem?_getD,show cut[k]? = some pW from iW]; exact hs
  ·exact .inr ⟨_,_,Hi (by omega) (λ i c hi hc=>nP i c (by omega) hc),rfl,by rw [show cut.length=k from by omega]; exact hs.fresh⟩
theorem C145 (p:Nat) (m:Mem) (cut:List Int) (cv:Value) (w:World) (hm:vr w p m) (hk:xD m) (hb:MB m 1000000) (hC:eE (λ _=>True) w cv cut) (akD:cut.length≤1000) (yl:∀ c∈cut,0≤c):CR 145 [(.pointer (some ⟨p,0,none⟩)),cv] w (λ v w'=>(Xh m cut=none∧v = .tuple #[.slice none 0 0,.bool false]∧Ext w w')∨∃ c o,Xh m cut=some c∧v = .tuple #[o,.bool true]∧lW (bK o c) w w'):=by
 have E9:=hm;obtain ⟨ov,fv,lv,kv,pm,c0,c1,c2,c3,c4,hO,SO,hL,hKp,hP⟩:=hm;have hs:=St.start w;refine aac _ _ _ _ ?_;unfold S145;refine cZ zG hs (C70 _ _ _ (hC.ext hs.aE) (by omega)) (λ x9 w1 bV hs=>?_);have hlx:cut.length=cut.length:=rfl;refine aK ek (hs).fB (gA (by omega) ?_);refine ⟨λ mm x w1=>∃ t:Nat,x = .int .i64 ((t:Int) - 1)∧mm=t∧t≤cut.length∧Q3 ((Fb m cut.length).drop t) (cut.drop t)=none∧St w bD [bK x9 (cut.take t++List.replicate (cut.length - t) 0)] w1,⟨_,cut.length,rfl,rfl,Nat.le_refl _,by rw [List.drop_eq_nil_of_le (Nat.le_refl _)]; cases (Fb m cut.length).drop cut.length <;> rfl,by simpa using hs⟩,?_⟩
 rintro t _ w2 ⟨_,rfl,rfl,ht,fS,hs⟩ fz;refine dH (aC (λ gI=>?_) (λ gI=>?_))
 ·have hlx:(cut.take t++List.replicate (cut.length - t) 0).length=cut.length:=by rw [List.length_append,List.length_take,List.length_replicate]; omega
  obtain ⟨iJ,fj⟩:=gx ((cut.take t++List.replicate (cut.length - t) 0)) (i:=(((t:Int) - 1)).toNat) (by omega);refine dU hs ek (by omega) (by omega) (λ _ ju=>?_);have hs:=hs.drew
  have hct:cut[t - 1]? = some iJ:=by
   have:=fj;rw [show ((t:Int) - 1).toNat=t - 1 from by omega,List.getElem?_append_left (by rw [List.length_take]; omega),List.getElem?_take,if_pos (by omega)] at this;exact this
  have hx0:=yl _ (List.mem_of_getElem? hct);have he:=rfl (a:=iJ);refine gk hs bN ju fj (aF (aA m7 (cD sq (c4.ext hs.aE) (BK hP hs.aE Tryz.underlying201 oU xn (λ s_x26 rB=>aK wc (rB.ext hs.aE) (aR (aC (λ LL=>?_) (λ LL=>?_))))))))
  ·refine dU hs ek (by omega) (by omega) (λ _ oO=>gk hs bN oO fj ?_);have hbx:=hb ((t:Int) - 1);refine aO (by omega) (dU hs ek (by omega) (by omega) (λ _ rL=>lK _ hs bN rL (by omega) (λ w3 hs=>?_)));refine .inr ⟨_,_,Xf (i:=t - 1) (Fc (by omega)) hct (by rw [show t - 1+1=t from by omega]; exact fS) (by rw [show ((t - 1:Nat):Int)=(t:Int) - 1 from by omega]; omega),rfl,?_⟩;rw [he,show ((t:Int) - 1).toNat=t - 1 from by omega] at hs;have gn:=AG (cs:=cut) (t:=t - 1) (x:=iJ+1) (by omega);rw [show t - 1+1=t from by omega] at gn ⊢;rw [gn] at hs;exact hs.fresh
  ·have hbx:=hb ((t:Int) - 1);refine dU hs ek (by omega) (by omega) (λ _ Ez=>lK _ hs bN Ez (by omega) (λ w4 hs=>gA (by omega) ?_));refine ⟨_,by omega,t - 1,by congr 1; omega,rfl,by omega,Xg (i:=t - 1) (Fc (by omega)) hct (by rw [show t - 1+1=t from by omega]; exact fS) (by rw [show ((t - 1:Nat):Int)=(t:Int) - 1 from by omega]; omega),?_⟩;rw [show ((t:Int) - 1).toNat=t - 1 from by omega] at hs;have gn:=AG (cs:=cut) (t:=t - 1) (x:=0) (by omega);rw [show t - 1+1=t from by omega] at gn;rw [gn] at hs;have hrs:=Xi (cs:=cut) (t:=t - 1) (by omega);rw [show t - 1+1=t from by omega] at hrs;rw [hrs] at hs
   exact hs
 ·exact .inl ⟨by unfold Xh; rw [show t=0 from by omega] at fS; simpa using fS,rfl,hs.drop.aE⟩
theorem C58 (p:Nat) (ov fv:Value) (m:Mem) (F:Nat→Prop) (cut:List Int) (cv:Value) (w:World) (hF:(fV p ov fv m).p w F) (hK:∀ w',iE F w w'→uC ov fv m w') (hk:xD m) (hb:MB m 1000000) (hC:∀ w',iE F w w'→eE (λ _=>True) w' cv cut) (akD:cut.length≤1000):CR 58 [(.pointer (some ⟨p,0,none⟩)),cv] w (λ v w'=>(jK m cut=none∧v = .int .i64 1∧qz F (fV p ov fv m) w w')∨∃ oK,jK m cut=some oK∧v = .int .i64 0∧qz F (fV p ov fv (ze m oK)) w w'):=by
 have hs:=St.begin hF;obtain ⟨lv,kv,pm,hs⟩:=fV.open hs;have h20:=hk.fl;have Y8:=hk.Q1;have NH:=hk.ll;have KW:=hk.kl;have QB:=hk.lb;refine ah7 _ _ _ _ ?_;unfold S58;refine ed afj (C125 _ m cut _ _ (vr.mk' hs.hb (hK _ hs.aE) hs.p1.fB hs.p2.fB hs.p3.W9) hk hb (hC _ hs.aE) (by omega)) ?_;rintro v_x10 w1 akF
 rcases akF with ⟨rP,rfl,he⟩ | ⟨I8,o_x10,rP,rfl,bV⟩
 ·have hs:=hs.ext he;refine bE rfl (bE rfl (cO (gG (by decide) ?_)));have hs:=hs.p3.p3.p3.p3;exact .inl ⟨rP,rfl,(fV.shut hs).mut⟩
 ·have hs:=hs.made bV;refine bE rfl (bE rfl (cO (fM (by decide) (aF (aA zT (aV hs.p1 eA (eL rfl) ((hs).fB.one) (λ w2 hs=>aF (aA rk (have hs:=hs.drew;aB eA hs.hb rfl (aF (aA Kx (aB eA hs.hb rfl ?_))))))))))));refine LP hs.p2 ek (hK _ hs.aE).2 (by omega) (λ w3 hs=>aF (aA rk (aB eA hs.p1.hb rfl (LP hs ek (hs.p2).fB (by rw [List.length_append,List.length_drop]; have hil:I8.length=m.of.length:=(by unfold jK at rP; split at rP <;> simp at rP; rw [← rP,uD]; exact KW); omega) (λ w4 hs=>oF (α:=jq) hs (λ b_x36 w5 hs=>aF (aA m7 (aV hs.p2 sq (eL rfl) (rfl) (λ w6 hs=>?_)))))))))
  have hs:=((hs.p4.drop.p4.drop.p1.p3).p3).p3;have hil:I8.length=m.of.length:=by unfold jK at rP; split at rP <;> simp at rP; rw [← rP,uD]; exact KW
  rw [show m.l.drop m.dF.length=[] from List.drop_eq_nil_of_le (by omega),List.append_nil] at hs;exact .inr ⟨_,rP,rfl,(fV.shut (m:=ze m I8) hs).mut⟩
end Go.Proofs.YtnjcingfdhjfkaaGreat
namespace Go.Fw
open Go.MapKept (Stamped IsKey)
open Go.ChangeMaps (setBlock)
section
variable {P:Program} {w w0 w':World} {A:Nat→Prop} {L:List HP} {b r:Nat}
def Hj (r m since:Nat) (seen:Array Nat):HP where
 p w F:=w.heap[r]? = some (.mapIter (some m) since seen since)∧∀ k,F k↔k=r
 loc w w' F h hh:=⟨(hh r ((h.2 r).2 rfl)).trans h.1,h.2⟩
 lt w F b' h hb:=by rw [(h.2 b').1 hb]; exact jU h.1
theorem SP {T Kt E:TypeId} {es:Array MapEntry} {clock:Nat} {K:Value→World→Prop} (hs:St w0 A L w) (ht:P.underlying T=some (.map Kt E)) (hb:w.heap[b]? = some (.map es clock))
  (k:∀ r w',St w0 A (Hj r b clock #[]::L) w'→K (.pointer (some ⟨r,0,none⟩)) w'):gW P (Instr.range T (.map (some b))) w K:=
 ⟨_,_,run_range_map w T Kt E b es clock ht hb,k _ _ (hs.new (Ext.push w _) (F:=λ k=>k=w.heap.size) ⟨pE _ _,λ _=>Iff.rfl⟩ λ b hb=>by rw [hb]; exact Nat.le_refl _)⟩
theorem Xj {T since:Nat} {seen:Array Nat} {es:Array MapEntry} {K:Value→World→Prop} (hs:St w0 A (Hj r b since seen::L) w) (hb:w.heap[b]? = some (.map es since)) (hold:∀ x∈es.toList,x.born<since)
  (k0:(leftOf es seen).size=0→K (.tuple #[.bool false]) w)
  (k1:∀ e w',e∈(leftOf es seen).toList→St w0 A (Hj r b since (seen.push e.born)::L) w'→K (.tuple #[.bool true,e.key,e.val]) w'):gW P (Instr.next (.pointer (some ⟨r,0,none⟩)) false T) w K:=by
 obtain ⟨F,h,_⟩:=hs.head
 rcases run_next_at (P:=P) w T r b since since seen es since h.1 hb hold (Nat.le_refl _) with ⟨h1,h2⟩ | ⟨e,he,w1,hw,h2⟩
 ·exact ⟨_,w,h2,k0 h1⟩
 ·have e1:St w0 A (Hj r b since seen::L) w1:=by
   rcases hw with rfl | rfl
   ·exact hs
   ·exact hs.ext ⟨rfl,rfl,rfl,Nat.le_refl _,λ _ _ _=>rfl⟩
  refine ⟨_,_,h2,k1 e _ he (e1.rY λ F hF=>⟨F,⟨mu _ (jU hF.1),hF.2⟩,λ b hb=>.inl hb,(iE.setBlock w1 r _).mono λ k hk=>(hF.2 k).2 hk⟩)⟩
theorem SQ {since:Nat} {seen:Array Nat} {es:Array MapEntry} {e:MapEntry} {K:Value→Prop} (hs:St w0 A (Hj r b since (seen.push e.born)::L) w) (hb:w.heap[b]? = some (.map es since)) (he:e∈es.toList) (hn:(es.toList.map (·.born)).Nodup)
  (k:K (.tuple #[e.key,e.val])):Dp P (Instr.entry (.pointer (some ⟨r,0,none⟩))) w K:=by
 obtain ⟨F,h,_⟩:=hs.head
 exact ⟨_,run_entry_at w r b since seen es since e h.1 hb he hn,k⟩
theorem sO.es {α:Type} [Flat α] {f:Int→List α} (h:sO w b f):∃ es clock,w.heap[b]? = some (.map es clock)∧Stamped es clock∧(∀ e∈es.toList,∃ k,∃ s:SV,e.key = .int .i64 k∧e.val=Flat.val s∧eE (λ _=>True) w (Flat.val s) (f k))∧∀ k,(∀ e∈es.toList,e.key≠.int .i64 k)→f k=[]:=by
 obtain ⟨ks,ss,⟨es,clock,h1,h2,h3,h4⟩,h5,h6⟩:=h
 have MM:es.toList.length=ks.length:=by have:=congrArg List.length h3; simpa using this
 have hls:es.toList.length=ss.length:=by have:=congrArg List.length h4; simpa using this
 refine ⟨es,clock,h1,h2,λ e he=>?_,λ k hk=>h6 k λ hm=>?_⟩
 ·obtain ⟨i,hi,rfl⟩:=List.getElem_of_mem he
  refine ⟨ks[i]'(by omega),ss[i]'(by omega),?_,?_,h5 i _ _ (List.getElem?_eq_getElem _) (List.getElem?_eq_getElem _)⟩
  ·have:=congrArg (·[i]?) h3
   simp only [List.getElem?_map,List.getElem?_eq_getElem hi,List.getElem?_eq_getElem (show i<ks.length by omega)] at this
   exact Option.some.inj this
  ·have:=congrArg (·[i]?) h4
   simp only [List.getElem?_map,List.getElem?_eq_getElem hi,List.getElem?_eq_getElem (show i<ss.length by omega)] at this
   exact Option.some.inj this
 ·have:Value.int .i64 k∈es.toList.map (·.key):=by rw [h3]; exact List.mem_map.2 ⟨k,hm,rfl⟩
  obtain ⟨e,he,yG⟩:=List.mem_map.1 this
  exact hk e he yG
theorem Fe {o:Obj} (h:w.heap[b]? = some o) (e:Ext w w'):w'.heap[b]? = some o:=(e.cE b (jU h) λ h=>h).trans h
theorem Ff {seen:Array Nat} {x y:Nat} (h:(seen.push x).contains y=true):seen.contains y=true∨y=x:=by
 simp at h ⊢; exact h
theorem born_inj {es:Array MapEntry} (hn:(es.toList.map (·.born)).Nodup) {e e':MapEntry} (h:e∈es.toList) (h':e'∈es.toList) (hb:e.born=e'.born):e=e':=by
 obtain ⟨i,hi,rfl⟩:=List.getElem_of_mem h
 obtain ⟨j,hj,rfl⟩:=List.getElem_of_mem h'
 have:=(List.getElem_inj (i:=i) (j:=j) (h₀:=by simpa using hi) (h₁:=by simpa using hj) hn).1 (by simpa using hb)
 subst this; rfl
end
section
variable {P:Program} {w w0 w':World} {A:Nat→Prop} {L:List HP} {b r:Nat}
def LR (P:Program) (n T E:Nat):Prop:=P.underlying T=some (.array n E)∧P.underlying E=some (.int .i64)∧pr P (sizeOf E)=some 1
abbrev AH (xs:List Int):Value:=.agg (xs.map (Value.int .i64)).toArray
theorem LS {β:Type} {f:Nat→β→Sem (ForInStep β)} {g:Nat→Bool} {x0 stop:β}:∀ l:List Nat,(∀ i∈l,pr P (f i x0)=some (if g i=true then .yield x0 else .done stop))→pr P (forIn l x0 f)=some (if l.all g=true then x0 else stop)
 | [],_=>by simp [fg]
 | i::l,h=>by
  rw [List.forIn_cons,cN,h i (by simp)]
  by_cases hg:g i=true
  ·rw [if_pos hg]
   simp only [Option.bind_some]
   rw [LS l λ j hj=>h j (by simp [hj])]
   simp [hg]
  ·rw [if_neg hg]
   simp [hg,fg]
theorem zf {E:TypeId} {xs:List Int} {i:Nat} (hE:P.underlying E=some (.int .i64)) (hi:i<xs.length):pr P (part E (xs.map (Value.int .i64)).toArray i)=some (.int .i64 xs[i]):=
 Im (n:=0) hE rfl (by simp [hi])
theorem adX {n T E:Nat} {xs ys:List Int} (h:LR P n T E) (hx:xs.length=n) (hy:ys.length=n):pr P (Op.equal T (AH xs) (AH ys))=some (decide (xs=ys)):=by
 obtain ⟨ht,he,hs⟩:=h
 have e:∀ x y:Int,pr P (Op.equalIn 9999 E (.int .i64 x) (.int .i64 y))=some (decide (x=y)):=λ x y=>by
  rw [B0 (k:=9998) (n:=0) he rfl rfl rfl]; rfl
 show pr P (Op.equalIn (9999+1) T _ _)=_
 unfold Op.equalIn
 rw [cN,cM ht]
 simp only [Option.bind_some,cN,hs]
 simp only [Std.Legacy.Range.forIn_eq_forIn_range',Std.Legacy.Range.size,Nat.sub_zero,Nat.add_sub_cancel,Nat.div_one,Nat.mul_one]
 rw [LS (g:=λ i=>decide (xs[i]? = ys[i]?)) (stop:=⟨some false,PUnit.unit⟩)]
 ·by_cases hxy:xs=ys
  ·subst hxy
   simp [fg]
  ·have:(List.range' 0 n).all (λ i=>decide (xs[i]? = ys[i]?))=false:=by
    rw [List.all_eq_false]
    apply Classical.byContradiction
    intro hc
    apply hxy
    apply List.ext_getElem?
    intro i
    apply Classical.byContradiction
    intro Cr
    by_cases hi:i<n
    ·exact hc ⟨i,by simp [List.mem_range']; omega,by simpa using Cr⟩
    ·exact Cr (by rw [List.getElem?_eq_none (by omega),List.getElem?_eq_none (by omega)])
   simp [this,hxy,fg]
 ·intro i hi
  have M6:i<n:=by simp [List.mem_range'] at hi; omega
  simp only [cN,zf he (show i<xs.length by omega),zf he (show i<ys.length by omega),Option.bind_some,e]
  rw [List.getElem?_eq_getElem (show i<xs.length by omega),List.getElem?_eq_getElem (show i<ys.length by omega)]
  by_cases hq:xs[i]'(by omega)=ys[i]'(by omega)
  ·simp [hq,fg]
  ·simp [hq,fg]
def Ov (b n:Nat) (ks:List (List Int)):HP where
 p w F:=(∃ es clock,w.heap[b]? = some (.map es clock)∧es.toList.map (·.key)=ks.map AH∧(∀ e∈es.toList,e.val = .bool true)∧∀ k∈ks,k.length=n)∧∀ k,F k↔k=b
 loc w w' F h hh:=by
  obtain ⟨⟨es,c,h1,h2⟩,h3⟩:=h; exact ⟨⟨es,c,(hh b ((h3 b).2 rfl)).trans h1,h2⟩,h3⟩
 lt w F b' h hb:=by obtain ⟨⟨es,c,h1,h2⟩,h3⟩:=h; rw [(h3 b').1 hb]; exact jU h1
theorem LU {T n:TypeId} {K:Value→World→Prop} (hs:St w0 A L w) (k:∀ b w',St w0 A (Ov b n []::L) w'→K (.map (some b)) w'):gW P (Instr.makeMap T none) w K:=
 ⟨_,_,rfl,k _ _ (hs.new (Ext.push w (.map #[] 0)) (F:=λ k=>k=w.heap.size) ⟨⟨#[],0,pE _ _,rfl,by simp,by simp⟩,λ _=>Iff.rfl⟩ λ b hb=>by rw [hb]; exact Nat.le_refl _)⟩
theorem Xk {T E n:Nat} {x:List Int} (h:LR P n T E) (hx:x.length=n):∀ (es:List MapEntry) (ks:List (List Int)) (i:Nat),es.map (·.key)=ks.map AH→(∀ k∈ks,k.length=n)→(∀ e∈es,e.val = .bool true)→
  (x ∉ ks∧pr P (Instr.findAsking T (AH x) es i)=some none)∨(x∈ks∧∃ j,pr P (Instr.findAsking T (AH x) es i)=some (some (j,.bool true)))
 | [],ks,i,hk,_,_=>by
  have:ks=[]:=by simpa using hk.symm
  subst this
  exact .inl ⟨by simp,rfl⟩
 | e::es,[],i,hk,_,_=>by simp at hk
 | e::es,k::ks,i,hk,hl,hv=>by
  simp only [List.map_cons,List.cons.injEq] at hk
  have he:pr P (Op.equal T (AH x) e.key)=some (decide (x=k)):=by rw [hk.1]; exact adX h hx (hl k (by simp))
  unfold Instr.findAsking
  rw [cN,he]
  simp only [Option.bind_some]
  by_cases hxk:x=k
  ·subst hxk
   refine .inr ⟨by simp,i,?_⟩
   simp [fg,hv e (by simp)]
  ·rcases Xk h hx es ks (i+1) hk.2 (λ k hk=>hl k (by simp [hk])) (λ e he=>hv e (by simp [he])) with ⟨h1,h2⟩ | ⟨h1,j,h2⟩
   ·exact .inl ⟨by simp [hxk,h1],by simp [hxk,h2]⟩
   ·exact .inr ⟨by simp [h1],j,by simp [hxk,h2]⟩
theorem LV {E:TypeId} {x:Int} {em:Bool} (hE:P.underlying E=some (.int .i64)):pr P (Instr.checkKey em 9999 E (.int .i64 x))=some ():=by
 show pr P (Instr.checkKey em (9998+1) E _)=_
 unfold Instr.checkKey
 rw [cN,cM hE]; rfl
theorem Fg {f:Nat→PUnit→Sem (ForInStep PUnit)}:∀ l:List Nat,(∀ i∈l,pr P (f i ⟨⟩)=some (.yield ⟨⟩))→pr P (forIn l PUnit.unit f)=some ⟨⟩
 | [],_=>by simp [fg]
 | i::l,h=>by
  rw [List.forIn_cons,cN,h i (by simp)]
  simp only [Option.bind_some]
  exact Fg l λ j hj=>h j (by simp [hj])
theorem Ch {T E n:Nat} {x:List Int} {em:Bool} (h:LR P n T E) (hx:x.length=n):pr P (Instr.checkKey em 10000 T (AH x))=some ():=by
 obtain ⟨ht,he,hs⟩:=h
 show pr P (Instr.checkKey em (9999+1) T _)=_
 unfold Instr.checkKey
 rw [cN,cM ht]
 simp only [Option.bind_some,cN,hs]
 simp only [Std.Legacy.Range.forIn_eq_forIn_range',Std.Legacy.Range.size,Nat.sub_zero,Nat.add_sub_cancel,Nat.div_one,Nat.mul_one]
 rw [Fg]
 ·rfl
 ·intro i hi
  have M6:i<n:=by simp [List.mem_range'] at hi; omega
  simp only [cN,hs,Option.bind_some,Nat.mul_one,zf he (show i<x.length by omega),LV he,fg]
theorem Q4 {T E n:Nat} {x:List Int} {es:List MapEntry} {ks:List (List Int)} (h:LR P n T E) (hx:x.length=n) (hk:es.map (·.key)=ks.map AH) (hl:∀ k∈ks,k.length=n) (hv:∀ e∈es,e.val = .bool true) :
  (x ∉ ks∧pr P (Instr.findKey T (AH x) es)=some none)∨(x∈ks∧∃ j,pr P (Instr.findKey T (AH x) es)=some (some (j,.bool true))):=by
 unfold Instr.findKey
 rw [cN,cM h.1]
 simp only [Option.bind_some]
 cases es with
 | nil=>
  have:ks=[]:=by simpa using hk.symm
  subst this
  exact .inl ⟨by simp,rfl⟩
 | cons e es=>exact Xk h hx (e::es) ks 0 hk hl hv
theorem adY {T Kt E Et n:Nat} {x:List Int} {ks:List (List Int)} {K:Value→Prop} (hs:St w0 A (Ov b n ks::L) w) (ht:P.underlying T=some (.map Kt Et)) (h:LR P n Kt E) (hz:qw P Et (.bool false)) (hx:x.length=n)
  (k:K (.bool (decide (x∈ks)))):Dp P (Instr.lookup T (.map (some b)) (AH x) false) w K:=by
 obtain ⟨F,⟨⟨es,c,h1,h2,h3,h4⟩,h5⟩,_⟩:=hs.head
 refine ⟨_,?_,k⟩
 have hz':(zeroValue Et).run P w = .ok (.bool false) w:=by
  unfold qw eo at hz
  cases hi:P.info? Et with
  | none=>rw [hi] at hz; cases hz
  | some i=>
   rw [hi] at hz
   simp only [Option.map_some,Option.some.injEq] at hz
   refine ft ?_ w
   unfold zeroValue; rw [cN,nE hi]; simp only [Option.bind_some,hz]; rfl
 have hc:=ft (Ch (em:=es.isEmpty) h hx) w
 rcases Q4 h hx h2 h4 h3 with ⟨h6,h7⟩ | ⟨h6,j,h7⟩
 ·have h8:=ft h7 w
  simp [Instr.lookup,run_underlying ht,MapKept.run_getObj_map h1,hc,h8,hz',Result.andThen,h6]
 ·have h8:=ft h7 w
  simp [Instr.lookup,run_underlying ht,MapKept.run_getObj_map h1,hc,h8,Result.andThen,h6]
theorem adZ {T Kt E Et n:Nat} {x:List Int} {ks:List (List Int)} {K:World→Prop} (hs:St w0 A (Ov b n ks::L) w) (ht:P.underlying T=some (.map Kt Et)) (h:LR P n Kt E) (hx:x.length=n) (bV:x ∉ ks)
  (k:∀ w',St w0 A (Ov b n (ks++[x])::L) w'→K w'):A7 P (Instr.mapUpdate T (.map (some b)) (AH x) (.bool true)) w K:=by
 obtain ⟨F,⟨⟨es,c,h1,h2,h3,h4⟩,h5⟩,_⟩:=hs.head
 have hc:=ft (Ch (em:=false) h hx) w
 rcases Q4 h hx h2 h4 h3 with ⟨h6,h7⟩ | ⟨h6,j,h7⟩
 ·have h8:=ft h7 w
  refine ⟨setBlock w b (.map (es.push ⟨AH x,.bool true,c⟩) (c+1)),?_,k _ (hs.rY λ F' hF=>⟨F',⟨⟨_,_,mu _ (jU h1),by simp [h2],?_,?_⟩,hF.2⟩,λ b hb=>.inl hb,(iE.setBlock w b _).mono λ k hk=>(hF.2 k).2 hk⟩)⟩
  ·simp [Instr.mapUpdate,run_underlying ht,MapKept.run_getObj_map h1,hc,h8,rO h1,Result.andThen]
  ·intro e he; simp at he; rcases he with he | rfl
   ·exact h3 e (by simpa using he)
   ·rfl
  ·intro q hq; simp at hq; rcases hq with hq | rfl
   ·exact h4 q hq
   ·exact hx
 ·exact absurd h6 bV
theorem bH {f:FuncId} {args:List Value} {H:HP} {H':Value→HP} {Φ:Value→World→Prop} {K:Value→World→Prop} (pl:Plain P f) (hs:St w0 A (H::L) w)
  (hc:∀ F,H.p w F→(∀ w',iE F w w'→St w0 A L w')→Calls P f args.toArray w (qf λ v w'=>Φ v w'∧qz F (H' v) w w')) (k:∀ v w',Φ v w'→St w0 A (H' v::L) w'→K v w'):Dq P f args w K:=by
 obtain ⟨U,F,U',h1,h2,h3,h4,h5⟩:=hs.sX
 refine ed pl (hc F h1 λ w' hw=>⟨hs.aE.trans hw (λ _ h=>h) λ b hb hf=>(h2 b hf).elim id λ hh=>by omega,U',h5.loc λ b hb=>hw.cE b (h5.lt b hb) λ hf=>h3 b hf hb⟩) λ v w' ⟨hΦ,hM⟩=>k v w' hΦ (hs.U4 h2 h3 h5 hM)
theorem Xl {g:FuncId} {args first cap:List Value} {H:HP} {H':Value→HP} {Φ:Value→World→Prop} {K:Value→World→Prop} (pl:Plain P g) (hs:St w0 A (H::L) w)
  (hc:∀ F,H.p w F→(∀ w',iE F w w'→St w0 A L w')→Calls P g (first++args++cap).toArray w (qf λ v w'=>Φ v w'∧qz F (H' v) w w')) (k:∀ v w',Φ v w'→St w0 A (H' v::L) w'→K v w'):fY P (.func (.func g) first.toArray cap.toArray) args w K:=by
 obtain ⟨U,F,U',h1,h2,h3,h4,h5⟩:=hs.sX
 refine ga pl (hc F h1 λ w' hw=>⟨hs.aE.trans hw (λ _ h=>h) λ b hb hf=>(h2 b hf).elim id λ hh=>by omega,U',h5.loc λ b hb=>hw.cE b (h5.lt b hb) λ hf=>h3 b hf hb⟩) λ v w' ⟨hΦ,hM⟩=>k v w' hΦ (hs.U4 h2 h3 h5 hM)
theorem SR {T E n:Nat} {K:Value→Prop} (h:LR P n T E) (k:K (.slice (some ⟨b,0,none⟩) n n)):cY P (Instr.sliceAt T (.pointer (some ⟨b,0,none⟩)) none none none) K:=by
 refine ⟨_,?_,k⟩
 unfold Instr.sliceAt
 rw [cN,cM h.1]
 simp only [Option.bind_some,Instr.sureAddr,cN,fg,Instr.sliceBounds,h.2.2]
 simp [gR]
theorem akG {xs:List Int} {n:Nat} (h:xs.length≤n):gX (List.replicate n (Value.int .i64 0)) 0 (flat xs)=(xs++List.replicate (n - xs.length) 0).map (Value.int .i64):=by
 have hf:flat xs=xs.map (Value.int .i64):=by
  induction xs with
  | nil=>rfl
  | cons x xs ih=>rw [jg,ih (by simp at h; omega)]; rfl
 have hl:(flat xs).length=xs.length:=by rw [hf,List.length_map]
 have:=kQ [] (List.replicate xs.length (Value.int .i64 0)) (List.replicate (n - xs.length) (Value.int .i64 0)) (flat xs) (by rw [List.length_replicate,hl])
 rw [List.nil_append,List.nil_append,List.replicate_append_replicate,show xs.length+(n - xs.length)=n from by omega,List.length_nil] at this
 rw [this,hf,List.map_append,List.map_replicate]
theorem LW {T T2 E oH n dc:Nat} {z:Option Nat} {R:TypeId} {src:Value} {cs:List Value} {ys:List Int} {S:Nat→Prop} {K:Value→World→Prop} (hs:St w0 A (cE b cs::L) w) (ht:fc P T=some (E,Flat.sz Int,oH,z)) (xR:eE S w src ys) (hn:ys.length≤n) (Nh:ys.length≤cs.length)
  (k:∀ w',St w0 A (cE b (gX cs 0 (flat ys))::L) w'→K (.int .i64 ys.length) w'):gW P (Builtin.copy_ #[T,T2] R [.slice (some ⟨b,0,none⟩) n dc,src].toArray) w K:=by
 obtain ⟨w',h1,h2,h3⟩:=E8 (P:=P) (o:=0) (dn:=n) (dc:=dc) (T2:=T2) (R:=R) ht hs.hb xR hn (by change 0+ys.length * 1≤_; omega)
 exact ⟨_,w',h1,k w' (hs.rY λ F hF=>⟨F,⟨h2,hF.2⟩,λ b hb=>.inl hb,h3.mono λ k hk=>(hF.2 k).2 hk⟩)⟩
end
def Has (H:HP) (w:World):Prop:=∃ F,H.p w F
theorem St.has {w w0:World} {A:Nat→Prop} {L:List HP} {H:HP} (hs:St w0 A (H::L) w):Has H w:=by obtain ⟨F,h,_⟩:=hs.head; exact ⟨F,h⟩
theorem Has.ext {H:HP} {w w':World} (h:Has H w) (e:Ext w w'):Has H w':=by
 obtain ⟨F,h⟩:=h; exact ⟨F,H.loc _ _ _ h λ b hb=>e.cE b (H.lt _ _ _ h hb) λ x=>x⟩
theorem Has.st {H:HP} {w:World} (h:Has H w):∃ F,St w F [H] w:=by obtain ⟨F,h⟩:=h; exact ⟨F,St.begin h⟩
end Go.Fw
namespace Go.Proofs.YtnjcingfdhjfkaaGreat
open Go.Fw
def Xm (of:List Int) (stays:Int) (dF:List Int):Mem:=⟨of.take stays.toNat,dF,dF,dF.take stays.toNat,λ _=>[]⟩
def fO:List Nat→List (List Int)
 | []=>[[]]
 | p::ps=>(List.range (p+1)).flatMap fun (i:Nat)=>(fO ps).map λ t=>(i:Int)::t
theorem vt:∀ ps,(fO ps).head? = some (List.replicate ps.length 0)
 | []=>rfl
 | p::ps=>by
  have ih:=vt ps
  rw [fO,List.range_succ_eq_map,List.flatMap_cons]
  cases h:fO ps with
  | nil=>rw [h] at ih; cases ih
  | cons t ts=>
   rw [h] at ih; simp at ih
   simp [ih,List.replicate_succ]
theorem sP:∀ {ps:List Nat} {c:List Int},c∈fO ps→c.length=ps.length
 | [],c,h=>by simp [fO] at h; subst h; rfl
 | p::ps,c,h=>by
  simp only [fO,List.mem_flatMap,List.mem_map] at h
  obtain ⟨i,_,t,ht,rfl⟩:=h
  simp [sP ht]
theorem Hk:∀ {ps:List Nat} {c:List Int} {i p:Nat} {n:Int},c∈fO ps→ps[i]? = some p→c[i]? = some n→0≤n∧n≤p
 | [],c,i,p,n,h,hp,_=>by simp at hp
 | q::ps,c,i,p,n,h,hp,hc=>by
  simp only [fO,List.mem_flatMap,List.mem_map,List.mem_range] at h
  obtain ⟨j,hj,t,ht,rfl⟩:=h
  cases i with
  | zero=>simp at hp hc; subst hp hc; omega
  | succ i=>
   rw [List.getElem?_cons_succ] at hp hc
   exact Hk ht hp hc
theorem tB {α β:Type} {f:α→List β}:∀ {l:List α} {d:List β} {c:β} {r:List β},l.flatMap f=d++c::r→∃ l1 x l2 d' r',l=l1++x::l2∧f x=d'++c::r'∧r=r'++l2.flatMap f
 | [],d,c,r,h=>by simp at h
 | x::l,d,c,r,h=>by
  rw [List.flatMap_cons] at h
  rcases List.append_eq_append_iff.1 h with ⟨a',h1,h2⟩ | ⟨c',h1,h2⟩
  ·obtain ⟨l1,y,l2,d',r',e1,e2,e3⟩:=tB h2
   exact ⟨x::l1,y,l2,d',r',by rw [e1]; rfl,e2,e3⟩
  ·cases c' with
   | nil=>
    obtain ⟨l1,y,l2,d',r',e1,e2,e3⟩:=tB (f:=f) (l:=l) (d:=[]) (c:=c) (r:=r) (by simpa using h2.symm)
    exact ⟨x::l1,y,l2,d',r',by rw [e1]; rfl,e2,e3⟩
   | cons y ys=>
    simp at h2
    exact ⟨[],x,l,d,ys,rfl,by rw [h1,h2.1],h2.2⟩
theorem LX {n:Nat} {l1 l2:List Nat} {x:Nat} (h:List.range n=l1++x::l2):x<n∧l2.head? = if x+1<n then some (x+1) else none:=by
 have hx:(List.range n)[l1.length]? = some x:=by rw [h,List.getElem?_append_right (Nat.le_refl _)]; simp
 have mF:l1.length<n:=by have:=(List.getElem?_eq_some_iff.1 hx).1; simpa using this
 have Pz:x=l1.length:=by rw [List.getElem?_range mF] at hx; exact (Option.some.inj hx).symm
 refine ⟨by omega,?_⟩
 have h2:(List.range n)[l1.length+1]? = l2.head?:=by
  rw [h,List.getElem?_append_right (by omega),show l1.length+1 - l1.length=1 from by omega,List.getElem?_cons_succ]
  cases l2 <;> rfl
 rw [← h2]
 by_cases hh:x+1<n
 ·rw [if_pos hh,List.getElem?_range (by omega)]; congr 1; omega
 ·rw [if_neg hh,List.getElem?_eq_none (by simp; omega)]
theorem Q5:∀ {ps:List Nat} {d:List (List Int)} {c:List Int} {r:List (List Int)},fO ps=d++c::r→Q3 ps c=r.head?
 | [],d,c,r,h=>by
  simp [fO] at h
  cases d with
  | nil=>simp at h; obtain ⟨rfl,rfl⟩:=h; rfl
  | cons x d=>simp at h
 | p::ps,d,c,r,h=>by
  rw [fO] at h
  obtain ⟨l1,x,l2,d',r',e1,e2,e3⟩:=tB h
  obtain ⟨hx,Du⟩:=LX e1
  obtain ⟨a,b,ha,hb,hc⟩:=List.map_eq_append_iff.1 e2
  obtain ⟨t,ts,rfl,hct,hts⟩:=List.map_eq_cons_iff.1 hc
  subst hct
  have ih:=Q5 ha
  rw [e3,← hts]
  show (match Q3 ps t with | some cs'=>some ((x:Int)::cs') | none=>if (x:Int)<p then some (((x:Int)+1)::List.replicate t.length 0) else none)=_
  rw [ih]
  cases ts with
  | cons t' ts=>rfl
  | nil=>
   simp only [List.head?_nil,List.map_nil,List.nil_append]
   cases l2 with
   | nil=>
    simp at Du
    rw [if_neg (by omega)]; rfl
   | cons y l2=>
    simp only [List.head?_cons] at Du
    split at Du
    ·obtain rfl:=Option.some.inj Du
     rw [if_pos (by omega),List.flatMap_cons]
     have Nk:t.length=ps.length:=sP (ps:=ps) (by rw [ha]; simp)
     have hh:=vt ps
     cases hq:fO ps with
     | nil=>rw [hq] at hh; cases hh
     | cons u us=>
      rw [hq] at hh; simp at hh
      simp [hh,Nk]
    ·cases Du
def MQ (f:List Int→List Int) (l:List (List Int)):List (List Int) × List (List Int):=l.foldl (λ s c=>if f c∈s.2 then s else (s.1++[c],s.2++[f c])) ([],[])
theorem LY (f:List Int→List Int) (l:List (List Int)) (c:List Int):MQ f (l++[c])=if f c∈(MQ f l).2 then MQ f l else ((MQ f l).1++[c],(MQ f l).2++[f c]):=by
 unfold MQ; rw [List.foldl_append]; rfl
theorem LZ (f:List Int→List Int):∀ (l:List (List Int)) (s:List (List Int) × List (List Int)),(l.foldl (λ s c=>if f c∈s.2 then s else (s.1++[c],s.2++[f c])) s).1.length≤s.1.length+l.length
 | [],s=>Nat.le_refl _
 | c::l,s=>by
  rw [List.foldl_cons]
  refine Nat.le_trans (LZ f l _) ?_
  split
  ·simp
  ·simp; omega
theorem Q6 (f:List Int→List Int) (l:List (List Int)):(MQ f l).1.length≤l.length:=by
 have h:(MQ f l).1.length≤([]:List (List Int)).length+l.length:=LZ f l ([],[])
 simpa using h
def arv (xs:List Int):List Int:=xs++List.replicate (20 - xs.length) 0
def uE (m:Mem) (c:List Int):List Int:=arv (AF m c c.length)
def I9 (m:Mem):List Nat:=Fb m (kY m.of).toNat
def Hl (m:Mem):List (List Int):=(MQ (uE m) (fO (I9 m))).1
theorem Ja (m:Mem):(I9 m).length=(kY m.of).toNat:=by unfold I9 Fb; simp
theorem Hm {m:Mem} (hk:xD m):0≤kY m.of:=by
 unfold kY; split
 ·omega
 ·rename_i h
  have hx:m.of.getD (m.of.length - 1) 0∈m.of:=by rw [List.getD_eq_getElem?_getD,List.getElem?_eq_getElem (by omega)]; exact List.getElem_mem _
  have:=(hk.ofr _ hx).1
  omega
theorem akH {m:Mem} (hk:xD m) {c:List Int} (h:c∈fO (I9 m)):(c.length:Int)=kY m.of∧jK m c=some (AF m c c.length)∧(∀ n∈c,0≤n):=by
 have hl:=sP h
 rw [Ja] at hl
 have hn:=Hm hk
 have hb:∀ (k:Nat) (n:Int),k<c.length→c[k]? = some n→0≤n∧n≤(m.gE k).length:=λ k n KW hc=>by
  have:=Hk h (i:=k) (p:=(m.gE k).length) (by unfold I9; exact Fc (by omega)) hc
  exact this
 refine ⟨by omega,Hi (by omega) hb,λ n hn=>?_⟩
 obtain ⟨i,hi,rfl⟩:=List.getElem_of_mem hn
 exact (hb i _ hi (List.getElem?_eq_getElem hi)).1
theorem L3 {m:Mem} {d:List (List Int)} {c:List Int} {r:List (List Int)} (h:fO (I9 m)=d++c::r):Xh m c=r.head?:=by
 have hl:c.length=(I9 m).length:=sP (by rw [h]; simp)
 rw [Ja] at hl
 unfold Xh
 rw [hl]; exact Q5 h
def ad1 (v:Value):List (List Int)→HP
 | []=>emp
 | c::_=>bK v c
theorem ad1.nil {w w0:World} {A:Nat→Prop} {L:List HP} {v:Value} (hs:St w0 A L w):St w0 A (ad1 v []::L) w:=hs.new (Ext.refl w) (H:=emp) (F:=bD) (λ _ h=>h) λ _ h=>h.elim
theorem Hn (ps:List Nat):fO ps=List.replicate ps.length 0::(fO ps).tail:=by
 have:=vt ps
 cases h:fO ps with
 | nil=>rw [h] at this; cases this
 | cons x xs=>rw [h] at this; simp at this; rw [this]; rfl
theorem Ow:LR PG 20 221 3:=⟨Tryz.underlying221,oU,(jL bN).2⟩
theorem C54 (of dF:List Int) (stays:Int) (av bv:Value) (w:World) (hO:eE (λ _=>True) w av of) (SO:eE (λ _=>True) w bv dF) (hlen:of.length=dF.length) (h20:of.length≤20) (gn:0≤stays∧stays≤of.length) (TT:∀ (k:Nat) (n:Int),(k:Int)<stays→of[k]? = some n→(n=lz of k∨(0<k∧n=lz of k - 1))∧-10≤n∧n≤100):CR 54 [av,.int .i64 stays,bv] w (λ v w'=>∃ (p:Nat) (ov fv:SV),v = .tuple #[.pointer (some ⟨p,0,none⟩),.int .i64 0]∧lW (sep (bK (Flat.val ov) (of.take stays.toNat)) (sep (bK (Flat.val fv) dF) (fV p (Flat.val ov) (Flat.val fv) (Xm of stays dF)))) w w'):=by
 have hs:=St.start w;refine ah3 _ _ _ _ _ ?_;unfold S54;refine ⟨λ jv w'=>jv = .bool (decide (of.length≠dF.length∨20<of.length∨stays<0∨of.length<stays))∧w=w',?_,?_⟩
 ·refine aK ek (hO.ext hs.aE) (aK ek (SO.ext hs.aE) (cO (aC (λ eF=>?_) (λ eF=>?_))))
  ·exact ⟨M9 (by omega),rfl⟩
  ·refine aK ek (hO.ext hs.aE) (dD (aC (λ jD=>?_) (λ jD=>?_)))
   ·exact ⟨M9 (by omega),rfl⟩
   ·refine aR (aC (λ iH=>?_) (λ iH=>?_))
    ·exact ⟨M9 (by omega),rfl⟩
    ·refine aK ek (hO.ext hs.aE) (dD ?_);exact ⟨vX (by omega),rfl⟩
 ·rintro _ w1 ⟨rfl,hw⟩ fz;subst hw;refine aC (λ lQ=>?_) (λ lQ=>?_)
  ·exact absurd lQ (by omega)
  ·refine l8 ek (hO.ext hs.aE) (by omega) (by omega) (λ ars akI=>?_);have Xn:=akI _ hO;refine aK ek (Xn.ext hs.aE) ?_;refine ⟨λ mm l x w1=>∃ (k:Nat) (last:Int),l = .int .i64 last∧x = .int .i64 (k:Int)∧mm=(of.take stays.toNat).length - k∧k≤(of.take stays.toNat).length∧last=lz of k - 1∧-200≤last∧last≤200∧St w bD [] w1,⟨_,0,-1,rfl,rfl,rfl,Nat.zero_le _,rfl,by omega,by omega,hs⟩,?_⟩;rintro mm _ _ w2 ⟨k,last,rfl,rfl,rfl,JG,agF,hl7,hl8,hs⟩ jB;have Nk:(of.take stays.toNat).length=stays.toNat:=by rw [List.length_take]; omega
   refine aR (aC (λ uh=>?_) (λ uh=>?_))
   ·obtain ⟨qF,ql⟩:=gx (((of).take (stays).toNat)) (i:=((k:Int)).toNat) (by omega);refine aQ ek Xn (by omega) ql (λ _ uo=>?_)
    have akJ:of[k]? = some qF:=by
     have h0:=ql;rw [List.getElem?_take] at h0
     split at h0
     ·exact h0
     ·cases h0
    obtain ⟨hl1,Du,hl3⟩:=TT k _ (by omega) akJ;refine aD bN (uo.ext hs.aE) ?_;refine ⟨λ jv w'=>jv = .bool (decide (qF≠last+1∧(k=0∨qF≠last)))∧w2=w',?_,?_⟩
    ·refine aO (by omega) (cO (aC (λ sG=>?_) (λ sG=>?_)))
     ·refine aH (aC (λ rH=>?_) (λ rH=>?_))
      ·exact ⟨M9 (by omega),rfl⟩
      ·refine cO ?_;exact ⟨vX (by omega),rfl⟩
     ·exact ⟨Zq (by omega),rfl⟩
    ·rintro _ w3 ⟨rfl,hw⟩ oN;subst hw;refine aC (λ B9=>?_) (λ B9=>?_)
     ·exact absurd B9 (by have:=TT k qF (by omega) akJ; simp; omega)
     ·have hws:lz of (k+1)=qF+1:=by unfold lz; rw [if_neg (by omega),Nat.add_sub_cancel,List.getD_eq_getElem?_getD,akJ]; rfl
      refine aO (by omega) ?_;exact ⟨_,by omega,k+1,qF,rfl,rfl,rfl,by omega,by omega,by omega,by omega,hs⟩
   ·refine l8 ek (hO.ext hs.aE) (by omega) (by omega) (λ s_x58 akK=>?_);have akL:=akK _ hO;refine cZ zG hs (C70 _ _ _ (akL.ext hs.aE) (by first | omega | (rw [List.length_take]; omega))) (λ x59 w4 bV hs=>cZ zG hs (C70 _ _ _ (SO.ext hs.aE) (by first | omega | (rw [List.length_take]; omega))) (λ x61 w5 bV hs=>cZ zG hs (C70 _ _ _ (SO.ext hs.aE) (by first | omega | (rw [List.length_take]; omega))) (λ x63 w6 bV hs=>oF (α:=jq) hs (λ b_x64 w7 hs=>?_))));obtain ⟨akM,rfl⟩:=(hs.p3).fR;obtain ⟨IV,rfl⟩:=(hs.p2).fR;obtain ⟨ayL,rfl⟩:=(hs.p1).fR;refine pop (DX _ _ _ _ _ _ _ _ _ _) (lZ hs (λ arw w8 hs=>l8 ek (SO.ext hs.aE) (by omega) (by omega) (λ agQ akN=>?_)))
    have akO:=akN _ SO;refine cZ zG hs (C70 _ _ _ (akO.ext hs.aE) (by first | omega | (rw [List.length_take]; omega))) (λ x71 w9 bV hs=>aF (aA zT (aV hs.p1 eA (eL rfl) ((hs).fB.one) (λ pP hs=>?_))));have hs:=fV.shut (m:=Xm of stays dF) hs.p4.p5.p4.p4.p5.p5;exact ⟨arw,akM,IV,rfl,(St.join (St.join hs.p2).p1).fresh⟩
theorem C69 (p:Nat) (m:Mem) (ov fv:SV) (w:World) (c0:Cell w p 0 (Flat.val ov)) (c1:Cell w p 1 (Flat.val fv)) (hm:vr w p m) (hk:xD m) (hb:MB m 1000000):CR 69 [(.pointer (some ⟨p,0,none⟩))] w (λ v w'=>∃ b,v = .pointer (some ⟨b,0,none⟩)∧lW (fV b (Flat.val ov) (Flat.val fv) m) w w'):=by
 have E9:=hm;obtain ⟨ov2,fv2,lv,kv,pm,_,_,c2,c3,c4,hO,SO,hL,hKp,hP⟩:=hm;obtain ⟨es,clock,Y0,gn,hkv,A5⟩:=hP.es;have h20:=hk.fl;have Y8:=hk.Q1;have NH:=hk.ll;have KW:=hk.kl;have QB:=hk.lb;have hs:=St.start w;refine aij _ _ _ ?_;unfold S69;refine ⟨λ c3 w'=>∃ b lv1 kv1 pm1,c3 = .pointer (some ⟨b,0,none⟩)∧St w bD [cE b [Flat.val ov,Flat.val fv,lv1,kv1,.map (some pm1)],bK lv1 m.l,bK kv1 m.kept,oQ pm1 (λ _=>([]:List jq))] w',?_,?_⟩
 ·refine aF (aA ua (have hs:=hs.drew;cD eA (c0.ext hs.aE) (aF (aA Kx (cD eA (c1.ext hs.aE) ?_)))));refine ⟨?_,?_⟩
  ·refine cZ air hs (C72 _ m _ (E9.ext hs.aE) hk) (λ x15 w1 bV hs=>?_);refine ⟨aG eA (c0.ext hs.aE),?_⟩;refine ⟨aG eA (c1.ext hs.aE),?_⟩;refine ⟨?_,?_⟩
   ·refine cZ Us hs (C73 _ m _ (E9.ext hs.aE) hk) (λ x17 w2 bV hs=>?_);refine ⟨aG eA (c0.ext hs.aE),?_⟩;refine ⟨aG eA (c1.ext hs.aE),?_⟩;refine oF (α:=jq) hs (λ Vh w3 hs=>?_);refine ⟨aG eA (c0.ext hs.aE),?_⟩;refine ⟨aG eA (c1.ext hs.aE),?_⟩;obtain ⟨akP,rfl⟩:=(hs.p2).fR;obtain ⟨Wo,rfl⟩:=(hs.p1).fR;refine pop (oV _ _ _ _ _ _ _ _ _ _ _ _ _) (lZ hs (λ b_x20 w4 hs=>?_));have hs:=hs.p1.p2.p3.p3;exact ⟨_,_,_,_,rfl,hs⟩
   ·refine ⟨?_,?_⟩
    ·refine oF (α:=jq) hs (λ atX w5 hs=>?_);refine ⟨aG eA (c0.ext hs.aE),?_⟩;refine ⟨aG eA (c1.ext hs.aE),?_⟩;refine cZ Us hs (C73 _ m _ (E9.ext hs.aE) hk) (λ aqK w6 bV hs=>?_);refine ⟨aG eA (c0.ext hs.aE),?_⟩;refine ⟨aG eA (c1.ext hs.aE),?_⟩;obtain ⟨akP,rfl⟩:=(hs.p2).fR;obtain ⟨LF,rfl⟩:=(hs).fR;refine pop (oV _ _ _ _ _ _ _ _ _ _ _ _ _) (lZ hs (λ atY w7 hs=>?_));have hs:=hs.p2.p2.p3.p3;exact ⟨_,_,_,_,rfl,hs⟩
    ·trivial
  ·refine ⟨?_,?_⟩
   ·refine oF (α:=jq) hs (λ atZ w8 hs=>?_);refine ⟨aG eA (c0.ext hs.aE),?_⟩;refine ⟨aG eA (c1.ext hs.aE),?_⟩;refine cZ air hs (C72 _ m _ (E9.ext hs.aE) hk) (λ x15_1 w9 bV hs=>?_);refine ⟨aG eA (c0.ext hs.aE),?_⟩;refine ⟨aG eA (c1.ext hs.aE),?_⟩;refine cZ Us hs (C73 _ m _ (E9.ext hs.aE) hk) (λ aqL pP bV hs=>?_);refine ⟨aG eA (c0.ext hs.aE),?_⟩;refine ⟨aG eA (c1.ext hs.aE),?_⟩;obtain ⟨arA,rfl⟩:=(hs.p1).fR;obtain ⟨LG,rfl⟩:=(hs).fR;refine pop (oV _ _ _ _ _ _ _ _ _ _ _ _ _) (lZ hs (λ at3 sB hs=>?_));have hs:=hs.p3.p2.p3.p3
    exact ⟨_,_,_,_,rfl,hs⟩
   ·trivial
 ·rintro _ u7 ⟨b,lv1,kv1,pm1,rfl,hs⟩ fz;refine aF (aA m7 (cD sq (c4.ext hs.aE) (SP hs Tryz.underlying201 (Fe Y0 hs.aE) (λ r25 u9 hs=>?_))));have hs:=hs.p4.p4.p4.p4.p4;refine ⟨λ mm w1=>∃ (seen:Array Nat) (done:List Int),mm=(leftOf es seen).size∧(∀ e∈es.toList,seen.contains e.born=true→∃ k∈done,e.key = .int .i64 k)∧St w bD [Hj r25 pm clock seen,cE b [Flat.val ov,Flat.val fv,lv1,kv1,.map (some pm1)],bK lv1 m.l,bK kv1 m.kept,oQ pm1 (λ k=>if k∈done then m.gE k else [])] w1,⟨_,#[],[],rfl,λ e he hc=>by simp at hc,by simpa using hs⟩,?_⟩;rintro mm r9 ⟨seen,done,rfl,agR,hs⟩ jB
  refine Xj hs (Fe Y0 hs.aE) gn.1 (λ h0=>?_) (λ e vT he hs=>?_)
  ·refine bE rfl (fi ?_);have hs:=(hs.drop.p3.p3.p3).p3
   have hg:(λ k=>if k∈done then m.gE k else [])=m.gE:=by
    funext k
    by_cases hd:k∈done
    ·rw [if_pos hd]
    ·rw [if_neg hd];refine (A5 k λ e he hek=>hd ?_).symm;obtain ⟨k2,JG,hk3⟩:=agR e he (all_seen es seen h0 e he);rw [hek] at hk3; cases hk3; exact JG
   rw [hg] at hs;exact ⟨b,rfl,(fV.shut hs).fresh⟩
  ·obtain ⟨k,sk,hek,hev,hrk⟩:=hkv e (mem_left he).1;refine bE rfl (nX (SQ hs (Fe Y0 hs.aE) (mem_left he).1 gn.2.1 ?_));rw [hek,hev];refine bE rfl (bE rfl (aF (aA m7 (have hs:=hs.drew;aB sq hs.p1.hb rfl (cZ anL hs (C137 _ _ _ (hrk.ext hs.aE) (hb k)) (λ x37 yO bV hs=>?_))))));refine ⟨aG sq (hs.p2.hb.cell rfl),?_⟩;obtain ⟨s_w17,hs⟩:=(hs.p5).E7 (k:=k);have hs:=hs.drop;obtain ⟨o9,rfl⟩:=(hs.p1).fR;have hs:=hs.p1;refine Cg hs Tryz.underlying201 oU (λ B6 hs=>?_);have hs:=hs.p4.p4.p4.p4;refine ⟨_,left_shrinks es seen e he,seen.push e.born,k::done,rfl,λ e2 he2 hc=>?_,?_⟩
   ·rcases Ff hc with h | h
    ·obtain ⟨k2,h1,h2⟩:=agR e2 he2 h; exact ⟨k2,List.mem_cons_of_mem _ h1,h2⟩
    ·obtain rfl:=born_inj gn.2.1 he2 (mem_left he).1 h; exact ⟨k,List.mem_cons_self,hek⟩
   ·have hg:tx (λ k=>if k∈done then m.gE k else []) k (m.gE k)=(λ k'=>if k'∈k::done then m.gE k' else []):=by
     funext k'; unfold tx
     by_cases e:k'=k
     ·subst e; simp
     ·simp [e]
    rw [hg] at hs; exact hs
theorem C82 (p:Nat) (m:Mem) (w:World) (hm:vr w p m) (hk:xD m) (hb:MB m 1000000) (hC:(fO (I9 m)).length≤1000000000):CR 82 [(.pointer (some ⟨p,0,none⟩))] w (λ v w'=>lW (fo v (Hl m)) w w'):=by
 have E9:=hm;obtain ⟨ov,fv,lv,kv,pm,c0,c1,c2,c3,c4,hO,SO,hL,hKp,hP⟩:=hm;have h20:=hk.fl;have Y8:=hk.Q1;have NH:=hk.ll;have KW:=hk.kl;have QB:=hk.lb;have hs:=St.start w;refine ait _ _ _ ?_;unfold S82;refine LU (n:=20) hs (λ b10 w1 hs=>aZ Ux hs (C144 _ m _ (E9.ext hs.aE) hk) (λ w2 he hs=>?_));have hnn:=Hm hk;refine v9 (0:Int) hs ek B2 (by omega) (by omega) (by decide) (λ s_x13 w3 hs=>?_);have hs:=(((hs.xX (α:=List Int)).p1).p2).p2;refine ⟨λ mm fW mU is6 w1=>∃ (done rest:List (List Int)),fO (I9 m)=done++rest∧is6 = .bool (!rest.isEmpty)∧mm=rest.length∧St w bD [fo fW (MQ (uE m) done).1,Ov b10 20 (MQ (uE m) done).2,ad1 mU rest] w1,⟨_,[],fO (I9 m),rfl,by rw [Hn (I9 m)]; rfl,rfl,by rw [Hn (I9 m),Ja]; exact hs⟩,?_⟩
 rintro mm fW mU _ w4 ⟨done,rest,mA,rfl,rfl,hs⟩ fz;refine aY (λ Xo=>?_) (λ Xo=>?_)
 ·obtain ⟨c,rest,rfl⟩:∃ c r,rest=c::r:=by cases rest with | nil=>cases Xo | cons c r=>exact ⟨c,r,rfl⟩
  change St w bD [fo fW (MQ (uE m) done).1,Ov b10 20 (MQ (uE m) done).2,bK mU c] _ at hs
  have MR:c∈fO (I9 m):=by rw [mA]; simp
  have hco:=akH hk MR;have QK:=hco.1;have hdl:=Q6 (uE m) done;have hdn:done.length≤(fO (I9 m)).length:=by rw [mA]; simp
  have hil:(AF m c c.length).length≤20:=by rw [uD]; omega
  have vz:(uE m c).length=20:=by unfold uE arv; rw [List.length_append,List.length_replicate]; omega
  refine ⟨λ o w'=>St w bD [fo o (MQ (uE m) (done++[c])).1,Ov b10 20 (MQ (uE m) (done++[c])).2,bK mU c] w',?_,?_⟩
  ·refine ed afj (C125 _ m c _ _ (E9.ext hs.aE) hk hb (hs.p2).fB (by omega)) ?_;rintro v24 w5 hh;obtain ⟨oK,o24,hi,rfl,bV⟩:=hh.resolve_left (λ h=>by rw [hco.2.1] at h; cases h.1);obtain rfl:oK=(AF m c c.length):=Option.some.inj (hi.symm.trans hco.2.1);have hs:=hs.made bV;refine bE rfl (bE rfl (aJ hs ab5 (λ ayN w6 hs=>SR Ow (LW hs ek (hs.p1).fB hil (by simp; omega) (λ w7 hs=>have hs:=hs.enc (cs':=(uE m c).map (Value.int .i64)) (by exact akG (n:=20) hil);re afM hs.hb (by rw [List.length_map]; exact vz) (adY hs.p3 Tryz.underlying218 Ow afI vz ?_))))))
   first | refine DC ?_ | refine bZ ?_
   refine aC (λ nH=>?_) (λ nH=>?_)
   ·refine re afM hs.hb (by rw [List.length_map]; exact vz) (adZ hs.p3 Tryz.underlying218 Ow vz nH (λ w8 hs=>cZ zG hs (C70 _ _ _ (hs.p4).fB (by omega)) (λ x38 w9 bV hs=>?_)));obtain ⟨Xp,rfl⟩:=(hs).fR;have hs:=hs.freeze.dO (Ψ:=λ w=>cA.dr w Xp ((c))) (λ w h=>DL.fu h);refine eM (s:=Xp) (x:=(c)) hs yn (by decide) (λ agm pP hs=>have hs:=hs.p4;ee hs yn (by simp; omega) (by decide) (λ aqo sB hs=>?_));have hs:=((hs.p2.drop.p2.drop.p2).p2).p2;rw [LY,if_neg (by simpa using nH)];exact hs
   ·have hs:=(((((hs.drop)).drop).p2).p2).p2;rw [LY,if_pos (by simpa using nH)];exact hs
  ·rintro nq u7 hs jB;refine ed anM (C145 _ m c _ _ (E9.ext hs.aE) hk hb (hs.p2).fB (by omega) hco.2.2) ?_;rintro v_x18 u9 akQ
   rcases akQ with ⟨hn,rfl,he⟩ | ⟨c2,o18,hn,rfl,bV⟩
   ·have hs:=hs.ext he;refine bE rfl (bE rfl ?_);rw [L3 mA] at hn;have hs:=(hs.p2.drop.p1).p1;obtain rfl:rest=[]:=by simpa using hn
    exact ⟨_,by simp,done++[c],[],by rw [mA]; simp,rfl,rfl,(ad1.nil hs).p2.p2⟩
   ·have hs:=hs.made bV;refine bE rfl (bE rfl ?_);rw [L3 mA] at hn;have hs:=(hs.p3.drop.p2).p2;obtain ⟨r2,rfl⟩:∃ r,rest=c2::r:=by cases rest with | nil=>cases hn | cons y r=>exact ⟨r,by simp at hn; rw [hn]⟩
    exact ⟨_,by simp,done++[c],c2::r2,by rw [mA]; simp,rfl,rfl,hs⟩
 ·have hs:=((hs.p1.drop).p1).drop;obtain rfl:rest=[]:=by cases rest with | nil=>rfl | cons c r=>cases Xo
  rw [List.append_nil] at mA;unfold Hl;rw [mA];exact hs.fresh
structure fF where
 code:fq
 at_:Int
 aN:List Int
 counts:List Int
 fault:Int
 e:Int
 f:Int
 buf:List bJ
def Fh (K:World→Prop) (gl:Value) (l:List aW):Prop:=∃ ts:List bU,∀ w,K w→eE (λ _=>True) w gl ts∧iB ts l w
def eI (K:World→Prop) (p:Nat) (room:Int) (t:fF):HP:=ue λ bp:Nat=>ue λ gl=>ue λ rg=>ue λ cn=>fact (Fh K gl t.code.l)
 (sep (cE p [.pointer (some ⟨bp,0,none⟩),.int .i64 t.code.aN,.int .i64 t.code.counts,gl,.int .i64 t.at_,rg,cn,.int .i64 t.fault,.int .i64 t.e,.int .i64 t.f]) (sep (nQ bp room t.buf) (sep (bK rg t.aN) (bK cn t.counts))))
section
variable {w w0:World} {A:Nat→Prop} {R:List HP} {p:Nat} {K:World→Prop} {room:Int} {t:fF}
theorem eI.open (hs:St w0 A (eI K p room t::R) w):∃ bp gl rg cn,Fh K gl t.code.l∧St w0 A (cE p [.pointer (some ⟨bp,0,none⟩),.int .i64 t.code.aN,.int .i64 t.code.counts,gl,.int .i64 t.at_,rg,cn,.int .i64 t.fault,.int .i64 t.e,.int .i64 t.f]::nQ bp room t.buf::bK rg t.aN::bK cn t.counts::R) w:=by
 obtain ⟨bp,hs⟩:=hs.eX; obtain ⟨gl,hs⟩:=hs.eX; obtain ⟨rg,hs⟩:=hs.eX; obtain ⟨cn,hs⟩:=hs.eX; obtain ⟨hk,hs⟩:=hs.oM
 have h1:=hs.split
 have h2:=h1.p1.split
 have h3:=h2.p1.split
 exact ⟨bp,gl,rg,cn,hk,h3.p2.p3⟩
theorem eI.shut {bp:Nat} {gl rg cn:Value} (hk:Fh K gl t.code.l) (hs:St w0 A (cE p [.pointer (some ⟨bp,0,none⟩),.int .i64 t.code.aN,.int .i64 t.code.counts,gl,.int .i64 t.at_,rg,cn,.int .i64 t.fault,.int .i64 t.e,.int .i64 t.f]::nQ bp room t.buf::bK rg t.aN::bK cn t.counts::R) w):St w0 A (eI K p room t::R) w:=by
 have h1:=St.join (hs.p3.p3)
 have h2:=St.join h1.p2
 exact St.eR bp (St.eR gl (St.eR rg (St.eR cn (St.qy hk (St.join h2.p1)))))
theorem eI.rd (h:Has (eI K p room t) w):∃ bp gl rg cn,Fh K gl t.code.l∧tP w p [.pointer (some ⟨bp,0,none⟩),.int .i64 t.code.aN,.int .i64 t.code.counts,gl,.int .i64 t.at_,rg,cn,.int .i64 t.fault,.int .i64 t.e,.int .i64 t.f]∧wO w bp room t.buf∧eE (λ _=>True) w rg t.aN∧eE (λ _=>True) w cn t.counts:=by
 obtain ⟨F,hs⟩:=h.st
 obtain ⟨bp,gl,rg,cn,hk,hs⟩:=eI.open hs
 exact ⟨bp,gl,rg,cn,hk,hs.hb,QY hs.p1,hs.p2.fB,hs.p3.fB⟩
end
def gO (t:fF):Option aW:=if (t.code.l.length:Int)≤t.at_ then none else t.code.l[t.at_.toNat]?
def eD (l:List nx) (aN:List Int):Int × Bool:=if l.length=0 then (0,true) else ((runM l aN).1,decide ((runM l aN).2=0))
def tE (t:fF) (x:aW):fF:={t with fault:=if (eD x.e t.aN).2=true then t.fault else 2,e:=(eD x.e t.aN).1}
def tF (t:fF) (x:aW):fF:={t with fault:=if (eD x.f t.aN).2=true then t.fault else 2,f:=(eD x.f t.aN).1}
def wR (t:fF) (x:aW) (e:Int):fF × Bool:=
 if x.kind=1 then ({t with aN:=t.aN.set x.a.toNat e,at_:=t.at_+1},true)
 else if x.kind=11 then ({t with at_:=x.to},true)
 else if x.kind=12 then (if e=0 then ({t with at_:=x.to},true) else ({t with at_:=t.at_+1},true))
 else if x.kind=13 then ({t with counts:=t.counts.set x.a.toNat x.b,at_:=t.at_+1},true)
 else if x.kind=14 then (if 0<rq (t.counts.getD x.a.toNat 0 - 1) then ({t with counts:=t.counts.set x.a.toNat (rq (t.counts.getD x.a.toNat 0 - 1)),at_:=x.to},true) else ({t with counts:=t.counts.set x.a.toNat (rq (t.counts.getD x.a.toNat 0 - 1)),at_:=t.at_+1},true))
 else if x.kind=15 then (if e=0 then ({t with fault:=1},false) else ({t with at_:=t.at_+1},true))
 else (t,false)
def fL (t:fF):fF × Bool:=match gO t with
 | none=>(t,false)
 | some x=>if (eD x.e t.aN).2=true then (if (eD x.f t.aN).2=true then wR (tF (tE t x) x) x (eD x.e t.aN).1 else (tF (tE t x) x,false)) else (tE t x,false)
def sd:Nat→fF→Option fF
 | 0,_=>none
 | n+1,t=>if (fL t).2=true then sd n (fL t).1 else some (fL t).1
structure BM (c:fq):Prop where
 len:c.l.length≤1000000
 rb:0≤c.aN∧c.aN≤1000
 cb:0≤c.counts∧c.counts≤1000
 ops:∀ x∈c.l,x.e.length≤1000∧x.f.length≤1000∧0≤x.to∧x.to≤1000000
 set:∀ x∈c.l,x.kind=1→0≤x.a∧x.a<c.aN
 cnt:∀ x∈c.l,x.kind=13∨x.kind=14→0≤x.a∧x.a<c.counts
structure Ho (t:fF):Prop where
 code:BM t.code
 rg:(t.aN.length:Int)=t.code.aN
 cn:(t.counts.length:Int)=t.code.counts
 TS:0≤t.at_
 bl:t.buf.length≤1000
theorem qS {t:fF} {x:aW} (h:gO t=some x):x∈t.code.l∧t.at_<t.code.l.length:=by
 unfold gO at h
 split at h
 ·cases h
 ·exact ⟨List.mem_of_getElem? h,by omega⟩
theorem akR {t:fF} {x:aW} {e:Int} (h:Ho t) (hx:x∈t.code.l):Ho (wR t x e).1:=by
 have h1:=h.TS; have h2:=(h.code.ops x hx).2.2.1; have h3:=h.rg; have h4:=h.cn
 unfold wR
 repeat' split
 all_goals first
  | exact ⟨h.code,h3,h4,h2,h.bl⟩
  | exact ⟨h.code,h3,h4,h1,h.bl⟩
  | exact ⟨h.code,h3,h4,(by show 0≤t.at_+1; omega),h.bl⟩
  | exact ⟨h.code,(by simpa using h3),h4,(by show 0≤t.at_+1; omega),h.bl⟩
  | exact ⟨h.code,h3,(by simpa using h4),(by show 0≤t.at_+1; omega),h.bl⟩
  | exact ⟨h.code,h3,(by simpa using h4),h2,h.bl⟩
theorem lE {t:fF} (h:Ho t):Ho (fL t).1:=by
 unfold fL
 cases hn:gO t with
 | none=>exact h
 | some x=>
  have hx:=(qS hn).1
  have he:Ho (tE t x):=⟨h.code,h.rg,h.cn,h.TS,h.bl⟩
  have hf:Ho (tF (tE t x) x):=⟨h.code,h.rg,h.cn,h.TS,h.bl⟩
  dsimp only
  split
  ·split
   ·exact akR hf hx
   ·exact hf
  ·exact he
theorem Xq {n:Nat} {t tR:fF} (h:sd n t=some tR):∃ k,n=k+1:=by
 cases n with
 | zero=>cases h
 | succ k=>exact ⟨k,rfl⟩
theorem wS {k:Nat} {t tR t':fF} (h:sd (k+1) t=some tR) (hs:fL t=(t',true)):sd k t'=some tR:=by
 unfold sd at h; rw [hs] at h; exact h
theorem AI {k:Nat} {t tR t':fF} (h:sd (k+1) t=some tR) (hs:fL t=(t',false)):tR=t':=by
 unfold sd at h; rw [hs] at h; exact (Option.some.inj h).symm
section
variable {t:fF} {x:aW} {e:Int}
theorem Xr (h:x.kind=1):wR t x e=({t with aN:=t.aN.set x.a.toNat e,at_:=t.at_+1},true):=by unfold wR; rw [if_pos h]
theorem Ox (h:x.kind=11):wR t x e=({t with at_:=x.to},true):=by unfold wR; simp [h]
theorem Jb (h:x.kind=12) (he:e=0):wR t x e=({t with at_:=x.to},true):=by unfold wR; simp [h,he]
theorem Jc (h:x.kind=12) (he:¬ e=0):wR t x e=({t with at_:=t.at_+1},true):=by unfold wR; simp [h,he]
theorem Oy (h:x.kind=13):wR t x e=({t with counts:=t.counts.set x.a.toNat x.b,at_:=t.at_+1},true):=by unfold wR; simp [h]
theorem Jd (h:x.kind=14) (he:0<rq (t.counts.getD x.a.toNat 0 - 1)):wR t x e=({t with counts:=t.counts.set x.a.toNat (rq (t.counts.getD x.a.toNat 0 - 1)),at_:=x.to},true):=by unfold wR; simp only [h,if_neg (show ¬ (14:Int)=1 by decide),if_neg (show ¬ (14:Int)=11 by decide),if_neg (show ¬ (14:Int)=12 by decide),if_neg (show ¬ (14:Int)=13 by decide),if_pos he,if_true]
theorem Je (h:x.kind=14) (he:¬ 0<rq (t.counts.getD x.a.toNat 0 - 1)):wR t x e=({t with counts:=t.counts.set x.a.toNat (rq (t.counts.getD x.a.toNat 0 - 1)),at_:=t.at_+1},true):=by unfold wR; simp only [h,if_neg (show ¬ (14:Int)=1 by decide),if_neg (show ¬ (14:Int)=11 by decide),if_neg (show ¬ (14:Int)=12 by decide),if_neg (show ¬ (14:Int)=13 by decide),if_neg he,if_true]
theorem Jf (h:x.kind=15) (he:e=0):wR t x e=({t with fault:=1},false):=by unfold wR; simp [h,he]
theorem Jg (h:x.kind=15) (he:¬ e=0):wR t x e=({t with at_:=t.at_+1},true):=by unfold wR; simp [h,he]
theorem Oz (h1:¬ x.kind=1) (h2:¬ x.kind=11) (h3:¬ x.kind=12) (h4:¬ x.kind=13) (h5:¬ x.kind=14) (h6:¬ x.kind=15):wR t x e=(t,false):=by unfold wR; rw [if_neg h1,if_neg h2,if_neg h3,if_neg h4,if_neg h5,if_neg h6]
theorem AJ (h:gO t=none):fL t=(t,false):=by unfold fL; rw [h]
theorem AK (h:gO t=some x) (h2:(eD x.e t.aN).2=false):fL t=(tE t x,false):=by unfold fL; rw [h]; dsimp only; rw [h2]; rfl
theorem AL (h:gO t=some x) (h2:(eD x.e t.aN).2=true) (h3:(eD x.f t.aN).2=false):fL t=(tF (tE t x) x,false):=by unfold fL; rw [h]; dsimp only; rw [h2,h3]; rfl
theorem kF (h:gO t=some x) (h2:(eD x.e t.aN).2=true) (h3:(eD x.f t.aN).2=true):fL t=wR (tF (tE t x) x) x (eD x.e t.aN).1:=by unfold fL; rw [h]; dsimp only; rw [h2,h3]; rfl
end
theorem C65 (K:World→Prop) (p:Nat) (room:Int) (t:fF) (w:World) (hh:Has (eI K p room t) w) (hw:K w) (nP:Ho t):CR 65 [(.pointer (some ⟨p,0,none⟩))] w (λ v w'=>(gO t=none∧v = .tuple #[Flat.val (⟨0,0,0,⟨none,0,0⟩,⟨none,0,0⟩,0⟩:bU),.bool false]∧Ext w w')∨∃ x xv,gO t=some x∧(∀ w,K w→cA.dr w xv x)∧v = .tuple #[Flat.val (xv:bU),.bool true]∧Ext w w'):=by
 obtain ⟨bp,gl,rg,cn,⟨ts0,hts⟩,oG,hB,BB,Y9⟩:=eI.rd hh;have c0:=oG.cell (o:=0) rfl;have c3:=oG.cell (o:=3) rfl;have c4:=oG.cell (o:=4) rfl;have c7:=oG.cell (o:=7) rfl;have hDL0:True:=trivial;have hR0:=(hts w hw).1;have hD0:=(hts w hw).2;have hn0:=hD0.1;have QK:=nP.code.len;have ayP:=nP.TS;have hs:=St.start w;refine aie _ _ _ ?_;unfold S65;refine aJ hs mE (λ ma w1 hs=>have hs:=hs.enc (cs':=Flat.enc (⟨0,0,0,⟨none,0,0⟩,⟨none,0,0⟩,0⟩:bU)) rfl;aF (aA kn (have hs:=hs.drew;cD bN (c4.ext hs.aE) (aF (aA Ks (aA mC (cD uV (c3.ext hs.aE) (aK kS (hR0.ext hs.aE) (dH (aC (λ gI=>?_) (λ gI=>?_)))))))))))
 ·refine pop (v:=Flat.val (⟨0,0,0,⟨none,0,0⟩,⟨none,0,0⟩,0⟩:bU)) (by kernel_rfl) (aI (x:=(⟨0,0,0,⟨none,0,0⟩,⟨none,0,0⟩,0⟩:bU)) hs lL rfl rfl (λ w2 hs=>aD lL hs.At ?_));exact .inl ⟨by unfold gO; rw [if_pos (by omega)],rfl,hs.drop.aE⟩
 ·refine aF (aA Ks (aA mC (have hs:=hs.drew;cD uV (c3.ext hs.aE) (aF (aA kn (cD bN (c4.ext hs.aE) ?_))))));obtain ⟨G8,qj⟩:=gx ts0 (i:=(t.at_).toNat) (by omega);obtain ⟨ep,wK⟩:=gx (t.code.l) (i:=(t.at_).toNat) (by omega);obtain ⟨xA,xB,rfl,IS,QP⟩:=hD0.2 _ _ _ qj wK;refine aQ kS hR0 (by omega) qj (λ _ uw=>aD lL (uw.ext hs.aE) (aI (x:=(⟨(ep).kind,(ep).a,(ep).b,xA,xB,(ep).to⟩:bU)) hs lL rfl rfl (λ w3 hs=>aD lL hs.At ?_)));exact .inr ⟨_,_,by unfold gO; rw [if_neg (by omega)]; exact wK,λ w hw=>(hts w hw).2.2 _ _ _ qj wK,rfl,hs.drop.aE⟩
theorem C189 (K:World→Prop) (p:Nat) (room:Int) (t:fF) (F:Nat→Prop) (lv:Value) (xs:List nx) (w:World) (hF:(eI K p room t).p w F) (hL:∀ w',iE F w w'→eE (λ _=>True) w' lv xs) (hn:xs.length≤1000):CR 189 [(.pointer (some ⟨p,0,none⟩)),lv] w (λ v w'=>v = .tuple #[.int .i64 (eD xs t.aN).1,.bool (eD xs t.aN).2]∧qz F (eI K p room {t with fault:=if (eD xs t.aN).2=true then t.fault else 2}) w w'):=by
 have hs:=St.begin hF;refine aaM _ _ _ _ ?_;unfold S189;refine aK vN (hL _ hs.aE) (aH (aC (λ fH=>?_) (λ fH=>?_)))
 ·have hv:eD xs t.aN=(0,true):=by unfold eD; rw [if_pos (by omega)]
  rw [hv];exact ⟨rfl,hs.mut⟩
 ·have hv:eD xs t.aN=((runM xs t.aN).1,decide ((runM xs t.aN).2=0)):=by unfold eD; rw [if_neg (by omega)]
  obtain ⟨bp,gl,rg,cn,qT,hs⟩:=eI.open hs;refine aF (aA pJ (aB eA hs.hb rfl (aZ afd hs (C110 _ _ xs _ _ (hL _ hs.aE) (hs.p2).fB (by omega)) (λ w1 he hs=>bE rfl (bE rfl ?_)))));refine ⟨λ w'=>St w F [eI K p room {t with fault:=if (eD xs t.aN).2=true then t.fault else 2}] w',?_,?_⟩
  ·refine cO (aC (λ gv=>?_) (λ gv=>?_))
   ·refine aF (aA tV (aV hs bN (eL rfl) (rfl) (λ w2 hs=>?_)));have hs:=eI.shut (t:=(⟨t.code,t.at_,t.aN,t.counts,2,t.e,t.f,t.buf⟩:fF)) qT hs.p3.p3.p3.p3;have ht:(⟨t.code,t.at_,t.aN,t.counts,2,t.e,t.f,t.buf⟩:fF)={t with fault:=if (eD xs t.aN).2=true then t.fault else 2}:=by rw [hv]; dsimp only; rw [decide_eq_false (by omega)]; rfl
    rw [ht] at hs;exact hs
   ·have hs:=eI.shut (t:=(⟨t.code,t.at_,t.aN,t.counts,t.fault,t.e,t.f,t.buf⟩:fF)) qT hs.p3.p3.p3.p3;have ht:(⟨t.code,t.at_,t.aN,t.counts,t.fault,t.e,t.f,t.buf⟩:fF)={t with fault:=if (eD xs t.aN).2=true then t.fault else 2}:=by rw [hv]; dsimp only; rw [decide_eq_true (by omega)]; rfl
    rw [ht] at hs;exact hs
  ·intro w3 hs fz;refine aH ?_;refine ⟨?_,hs.mut⟩;rw [hv]
theorem C122 (K:World→Prop) (p:Nat) (room:Int) (t:fF) (tR:fF) (n:Nat) (F:Nat→Prop) (w:World) (hF:(eI K p room t).p w F) (hK:∀ w',iE F w w'→K w') (nP:Ho t) (hg:sd n t=some tR):CR 122 [(.pointer (some ⟨p,0,none⟩))] w (λ v w'=>v = .tuple #[]∧qz F (eI K p room tR) w w'):=by
 have hs:=St.begin hF;refine ZV _ _ _ ?_;unfold S122;refine ⟨λ mm w'=>∃ t1:fF,sd mm t1=some tR∧Ho t1∧St w F [eI K p room t1] w',⟨n,t,hg,nP,hs⟩,?_⟩;rintro mm w1 ⟨t1,FK,tC,hs⟩ fz;obtain ⟨k,rfl⟩:=Xq FK;refine ed Zz (C65 K p room t1 _ hs.has (hK _ hs.aE) tC) ?_;rintro v_x8 w2 arB
 rcases arB with ⟨vH,rfl,he⟩ | ⟨x,xv,vH,hxv,rfl,he⟩
 ·have hs:=hs.ext he;refine bE rfl (bE rfl (aJ hs mE (λ ma w3 hs=>have hs:=hs.enc (cs':=Flat.enc (⟨0,0,0,⟨none,0,0⟩,⟨none,0,0⟩,0⟩:bU)) rfl;aI (x:=(⟨0,0,0,⟨none,0,0⟩,⟨none,0,0⟩,0⟩:bU)) hs lL rfl rfl (λ w4 hs=>bZ (nX ?_)))));have hs:=(hs).drop;rw [AI FK (AJ vH)];exact ⟨rfl,hs.mut⟩
 ·have hs:=hs.ext he;have hxm:=qS vH;obtain ⟨hxe,hxf,hxt0,hxt1⟩:=tC.code.ops x hxm.1;have arC:=tC.code.set x hxm.1;have agT:=tC.code.cnt x hxm.1;have hrl1:=tC.rg;have hcl1:=tC.cn;have hcll:=tC.code.len;have hat1:=tC.TS;obtain ⟨ge,gf,rfl,_,_⟩:=hxv _ (hK _ hs.aE)
  have hxE:∀ w,K w→eE (λ _=>True) w (Flat.val ge) x.e:=λ w hw=>by
   obtain ⟨ge',gf',hh,h1,_⟩:=hxv w hw;cases hh; exact DL.flat h1
  have hxF:∀ w,K w→eE (λ _=>True) w (Flat.val gf) x.f:=λ w hw=>by
   obtain ⟨ge',gf',hh,_,h2⟩:=hxv w hw;cases hh; exact DL.flat h2
  refine bE rfl (bE rfl (aJ hs mE (λ ma w3 hs=>have hs:=hs.enc (cs':=Flat.enc (⟨0,0,0,⟨none,0,0⟩,⟨none,0,0⟩,0⟩:bU)) rfl;aI (x:=(⟨x.kind,x.a,x.b,ge,gf,x.to⟩:bU)) hs lL rfl rfl (λ w4 hs=>bZ (fi (aA tX (aB (v:=Flat.val (ge:SV)) xV hs.hb rfl (bH afu hs.p1 (H':=λ _=>eI K p room {t1 with fault:=if (eD x.e t1.aN).2=true then t1.fault else 2}) (Φ:=λ v _=>v = .tuple #[.int .i64 (eD x.e t1.aN).1,.bool (eD x.e t1.aN).2]) (λ F2 eQ ey=>?_) ?_))))))))
  ·exact C189 K p room t1 F2 _ x.e _ eQ (λ w' hc=>hxE w' (hK w' (ey w' hc).aE)) hxe
  rintro _ w5 rfl hs;refine bE rfl (bE rfl ?_);obtain ⟨bp,gl,rg,cn,qT,hs⟩:=eI.open hs
  change St _ _ (cE p [.pointer (some ⟨bp,0,none⟩),.int .i64 t1.code.aN,.int .i64 t1.code.counts,gl,.int .i64 t1.at_,rg,cn,.int .i64 (if (eD x.e t1.aN).2=true then t1.fault else 2),.int .i64 t1.e,.int .i64 t1.f]::nQ bp room t1.buf::bK rg t1.aN::bK cn t1.counts::_) _ at hs
  refine aF (aA tW (aV hs bN (eL rfl) (rfl) (λ w6 hs=>bZ (aY (λ iH=>?_) (λ iH=>?_)))))
  ·have hs:=eI.shut (t:=(⟨t1.code,t1.at_,t1.aN,t1.counts,(if (eD x.e t1.aN).2=true then t1.fault else 2),(eD x.e t1.aN).1,t1.f,t1.buf⟩:fF)) qT hs.p3.p3.p3.p3;have hs:=(hs.p1).drop;rw [AI FK (AK vH (by simpa using iH))];exact ⟨rfl,hs.mut⟩
  ·have hs:=eI.shut (t:=(⟨t1.code,t1.at_,t1.aN,t1.counts,(if (eD x.e t1.aN).2=true then t1.fault else 2),(eD x.e t1.aN).1,t1.f,t1.buf⟩:fF)) qT hs.p3.p3.p3.p3
   change St w F (eI K p room (tE t1 x)::_) _ at hs
   refine aA tY (aB (v:=Flat.val (gf:SV)) xV hs.p1.hb rfl (bH afu hs (H':=λ _=>eI K p room { (tE t1 x) with fault:=if (eD x.f (tE t1 x).aN).2=true then (tE t1 x).fault else 2}) (Φ:=λ v _=>v = .tuple #[.int .i64 (eD x.f t1.aN).1,.bool (eD x.f t1.aN).2]) (λ F2 eQ ey=>?_) ?_))
   ·exact C189 K p room (tE t1 x) F2 _ x.f _ eQ (λ w' hc=>hxF w' (hK w' (ey w' hc).aE)) hxf
   rintro _ w7 rfl hs;refine bE rfl (bE rfl ?_);obtain ⟨bp,gl,rg,cn,qT,hs⟩:=eI.open hs
   change St _ _ (cE p [.pointer (some ⟨bp,0,none⟩),.int .i64 t1.code.aN,.int .i64 t1.code.counts,gl,.int .i64 t1.at_,rg,cn,.int .i64 (if (eD x.f t1.aN).2=true then (tE t1 x).fault else 2),.int .i64 (eD x.e t1.aN).1,.int .i64 t1.f]::nQ bp room t1.buf::bK rg t1.aN::bK cn t1.counts::_) _ at hs
   refine aF (aA DK (aV hs bN (eL rfl) (rfl) (λ w8 hs=>bZ (aY (λ lx=>?_) (λ lx=>?_)))))
   ·have hs:=eI.shut (t:=(⟨t1.code,t1.at_,t1.aN,t1.counts,(if (eD x.f t1.aN).2=true then (tE t1 x).fault else 2),(eD x.e t1.aN).1,(eD x.f t1.aN).1,t1.buf⟩:fF)) qT hs.p3.p3.p3.p3;have hs:=(hs.p1).drop;rw [AI FK (AL vH (by simpa using iH) (by simpa using lx))];exact ⟨rfl,hs.mut⟩
   ·refine aF (aA kn (aB bN hs.hb rfl (aO (by omega) ?_)));refine ⟨_,?_,λ _ _ h=>h⟩;refine aA jm (aB (v:=.int .i64 x.kind) bN hs.p4.hb rfl (aH (aC (λ kN=>?_) (λ kN=>?_))))
    ·have hx1:=arC kN;refine aF (aA pJ (have hs:=hs.drew;aB eA hs.hb rfl (aA ko (aB (v:=.int .i64 x.a) bN hs.p4.hb rfl (aF (aA tW (aB bN hs.hb rfl ?_)))))));obtain ⟨art,akE⟩:=gx (t1.aN) (i:=(x.a).toNat) (by omega);refine dU hs.p2 ek (by omega) (by omega) (λ _ LQ=>lK _ hs.p2 bN LQ (by omega) (λ w9 hs=>?_));intro jB;refine aF (aA kn (aV hs.p1 bN (eL rfl) (rfl) (λ r9 hs=>?_)));have hs:=eI.shut (t:=(⟨t1.code,(t1.at_+1),((t1.aN).set (x.a).toNat (eD x.e t1.aN).1),t1.counts,(if (eD x.f t1.aN).2=true then (tE t1 x).fault else 2),(eD x.e t1.aN).1,(eD x.f t1.aN).1,t1.buf⟩:fF)) qT hs.p3.p2.p3.p3
     have hs:=(hs.p1).drop
     have gn:fL t1=((⟨t1.code,(t1.at_+1),((t1.aN).set (x.a).toNat (eD x.e t1.aN).1),t1.counts,(if (eD x.f t1.aN).2=true then (tE t1 x).fault else 2),(eD x.e t1.aN).1,(eD x.f t1.aN).1,t1.buf⟩:fF),true):=by
      rw [kF vH (by simpa using iH) (by simpa using lx),Xr kN]
      try rw [show (tF (tE t1 x) x).counts.getD x.a.toNat 0=nL from Ij]
      try rfl
     exact ⟨k,by omega,_,wS FK gn,by have:=lE tC; rw [gn] at this; exact this,hs⟩
    ·refine aH (aC (λ uq=>?_) (λ uq=>?_))
     ·refine aA kp (aB (v:=.int .i64 x.to) bN hs.p4.hb rfl ?_);intro jB;refine aF (aA kn (aV hs bN (eL rfl) (rfl) (λ r9 hs=>?_)));have hs:=eI.shut (t:=(⟨t1.code,x.to,t1.aN,t1.counts,(if (eD x.f t1.aN).2=true then (tE t1 x).fault else 2),(eD x.e t1.aN).1,(eD x.f t1.aN).1,t1.buf⟩:fF)) qT hs.p3.p3.p3.p3;have hs:=(hs.p1).drop
      have gn:fL t1=((⟨t1.code,x.to,t1.aN,t1.counts,(if (eD x.f t1.aN).2=true then (tE t1 x).fault else 2),(eD x.e t1.aN).1,(eD x.f t1.aN).1,t1.buf⟩:fF),true):=by
       rw [kF vH (by simpa using iH) (by simpa using lx),Ox uq]
       try rw [show (tF (tE t1 x) x).counts.getD x.a.toNat 0=nL from Ij]
       try rfl
      exact ⟨k,by omega,_,wS FK gn,by have:=lE tC; rw [gn] at this; exact this,hs⟩
     ·refine aH (aC (λ sH=>?_) (λ sH=>?_))
      ·refine aF (aA tW (aB bN hs.hb rfl (aH (aC (λ oz=>?_) (λ oz=>?_)))))
       ·refine aA kp (aB (v:=.int .i64 x.to) bN hs.p4.hb rfl ?_);intro jB;refine aF (aA kn (aV hs bN (eL rfl) (rfl) (λ r9 hs=>?_)));have hs:=eI.shut (t:=(⟨t1.code,x.to,t1.aN,t1.counts,(if (eD x.f t1.aN).2=true then (tE t1 x).fault else 2),(eD x.e t1.aN).1,(eD x.f t1.aN).1,t1.buf⟩:fF)) qT hs.p3.p3.p3.p3;have hs:=(hs.p1).drop
        have gn:fL t1=((⟨t1.code,x.to,t1.aN,t1.counts,(if (eD x.f t1.aN).2=true then (tE t1 x).fault else 2),(eD x.e t1.aN).1,(eD x.f t1.aN).1,t1.buf⟩:fF),true):=by
         rw [kF vH (by simpa using iH) (by simpa using lx),Jb sH oz]
         try rw [show (tF (tE t1 x) x).counts.getD x.a.toNat 0=nL from Ij]
         try rfl
        exact ⟨k,by omega,_,wS FK gn,by have:=lE tC; rw [gn] at this; exact this,hs⟩
       ·intro jB;refine aF (aA kn (aV hs bN (eL rfl) (rfl) (λ r9 hs=>?_)));have hs:=eI.shut (t:=(⟨t1.code,(t1.at_+1),t1.aN,t1.counts,(if (eD x.f t1.aN).2=true then (tE t1 x).fault else 2),(eD x.e t1.aN).1,(eD x.f t1.aN).1,t1.buf⟩:fF)) qT hs.p3.p3.p3.p3;have hs:=(hs.p1).drop
        have gn:fL t1=((⟨t1.code,(t1.at_+1),t1.aN,t1.counts,(if (eD x.f t1.aN).2=true then (tE t1 x).fault else 2),(eD x.e t1.aN).1,(eD x.f t1.aN).1,t1.buf⟩:fF),true):=by
         rw [kF vH (by simpa using iH) (by simpa using lx),Jc sH oz]
         try rw [show (tF (tE t1 x) x).counts.getD x.a.toNat 0=nL from Ij]
         try rfl
        exact ⟨k,by omega,_,wS FK gn,by have:=lE tC; rw [gn] at this; exact this,hs⟩
      ·refine aH (aC (λ vC=>?_) (λ vC=>?_))
       ·have hx1:=agT (.inl vC);refine aF (aA wb (have hs:=hs.drew;aB eA hs.hb rfl (aA ko (aB (v:=.int .i64 x.a) bN hs.p4.hb rfl (aA eZ (aB (v:=.int .i64 x.b) bN hs.p4.hb rfl ?_))))));obtain ⟨e_x80,ayQ⟩:=gx (t1.counts) (i:=(x.a).toNat) (by omega);refine dU hs.p3 ek (by omega) (by omega) (λ _ arD=>lK _ hs.p3 bN arD (by omega) (λ pP hs=>?_));intro jB;refine aF (aA kn (aV hs.p1 bN (eL rfl) (rfl) (λ r9 hs=>?_)));have hs:=eI.shut (t:=(⟨t1.code,(t1.at_+1),t1.aN,((t1.counts).set (x.a).toNat x.b),(if (eD x.f t1.aN).2=true then (tE t1 x).fault else 2),(eD x.e t1.aN).1,(eD x.f t1.aN).1,t1.buf⟩:fF)) qT hs.p1.p3.p3.p3
        have hs:=(hs.p1).drop
        have gn:fL t1=((⟨t1.code,(t1.at_+1),t1.aN,((t1.counts).set (x.a).toNat x.b),(if (eD x.f t1.aN).2=true then (tE t1 x).fault else 2),(eD x.e t1.aN).1,(eD x.f t1.aN).1,t1.buf⟩:fF),true):=by
         rw [kF vH (by simpa using iH) (by simpa using lx),Oy vC]
         try rw [show (tF (tE t1 x) x).counts.getD x.a.toNat 0=nL from Ij]
         try rfl
        exact ⟨k,by omega,_,wS FK gn,by have:=lE tC; rw [gn] at this; exact this,hs⟩
       ·refine aH (aC (λ Af=>?_) (λ Af=>?_))
        ·have hx1:=agT (.inr Af);refine aF (aA wb (have hs:=hs.drew;aB eA hs.hb rfl (aA ko (aB (v:=.int .i64 x.a) bN hs.p4.hb rfl ?_))));obtain ⟨nL,Xs⟩:=gx (t1.counts) (i:=(x.a).toNat) (by omega);refine dU hs.p3 ek (by omega) (by omega) (λ _ arE=>?_);have Ij:t1.counts.getD x.a.toNat 0=nL:=by rw [List.getD_eq_getElem?_getD,Xs]; rfl
         refine gk hs.p3 bN arE Xs (D1 (dU hs.p3 ek (by omega) (by omega) (λ _ VT=>lK _ hs.p3 bN VT (by omega) (λ sB hs=>aF (aA wb (have hs:=hs.drew;aB eA hs.p1.hb rfl ?_))))));have hsl:(t1.counts.set x.a.toNat (rq (nL - 1))).length=t1.counts.length:=List.length_set;refine aA ko (aB (v:=.int .i64 x.a) bN hs.p4.hb rfl ?_);obtain ⟨arF,OA⟩:=gx (((t1.counts).set (x.a).toNat (rq (nL - 1)))) (i:=(x.a).toNat) (by omega);refine dU hs ek (by omega) (by omega) (λ _ arG=>?_);have h99:arF=rq (nL - 1):=by rw [List.getElem?_set_self (by omega)] at OA; exact (Option.some.inj OA).symm
         refine gk hs bN arG OA (dD (aC (λ Eo=>?_) (λ Eo=>?_)))
         ·refine aA kp (aB (v:=.int .i64 x.to) bN hs.p4.hb rfl ?_);intro jB;refine aF (aA kn (aV hs.p1 bN (eL rfl) (rfl) (λ r9 hs=>?_)));have hs:=eI.shut (t:=(⟨t1.code,x.to,t1.aN,((t1.counts).set (x.a).toNat (rq (nL - 1))),(if (eD x.f t1.aN).2=true then (tE t1 x).fault else 2),(eD x.e t1.aN).1,(eD x.f t1.aN).1,t1.buf⟩:fF)) qT hs.p1.p3.p3.p3;have hs:=(hs.p1).drop
          have gn:fL t1=((⟨t1.code,x.to,t1.aN,((t1.counts).set (x.a).toNat (rq (nL - 1))),(if (eD x.f t1.aN).2=true then (tE t1 x).fault else 2),(eD x.e t1.aN).1,(eD x.f t1.aN).1,t1.buf⟩:fF),true):=by
           rw [kF vH (by simpa using iH) (by simpa using lx),Jd Af (by rw [show (tF (tE t1 x) x).counts.getD x.a.toNat 0=nL from Ij]; omega)]
           try rw [show (tF (tE t1 x) x).counts.getD x.a.toNat 0=nL from Ij]
           try rfl
          exact ⟨k,by omega,_,wS FK gn,by have:=lE tC; rw [gn] at this; exact this,hs⟩
         ·intro jB;refine aF (aA kn (aV hs.p1 bN (eL rfl) (rfl) (λ r9 hs=>?_)));have hs:=eI.shut (t:=(⟨t1.code,(t1.at_+1),t1.aN,((t1.counts).set (x.a).toNat (rq (nL - 1))),(if (eD x.f t1.aN).2=true then (tE t1 x).fault else 2),(eD x.e t1.aN).1,(eD x.f t1.aN).1,t1.buf⟩:fF)) qT hs.p1.p3.p3.p3;have hs:=(hs.p1).drop
          have gn:fL t1=((⟨t1.code,(t1.at_+1),t1.aN,((t1.counts).set (x.a).toNat (rq (nL - 1))),(if (eD x.f t1.aN).2=true then (tE t1 x).fault else 2),(eD x.e t1.aN).1,(eD x.f t1.aN).1,t1.buf⟩:fF),true):=by
           rw [kF vH (by simpa using iH) (by simpa using lx),Je Af (by rw [show (tF (tE t1 x) x).counts.getD x.a.toNat 0=nL from Ij]; omega)]
           try rw [show (tF (tE t1 x) x).counts.getD x.a.toNat 0=nL from Ij]
           try rfl
          exact ⟨k,by omega,_,wS FK gn,by have:=lE tC; rw [gn] at this; exact this,hs⟩
        ·refine aH (aC (λ BC=>?_) (λ BC=>?_))
         ·refine aF (aA tW (aB bN hs.hb rfl (aH (aC (λ zg=>?_) (λ zg=>?_)))))
          ·refine aF (aA tV (aV hs bN (eL rfl) (rfl) (λ u7 hs=>?_)));have hs:=eI.shut (t:=(⟨t1.code,t1.at_,t1.aN,t1.counts,1,(eD x.e t1.aN).1,(eD x.f t1.aN).1,t1.buf⟩:fF)) qT hs.p3.p3.p3.p3;have hs:=(hs.p1).drop
           have gn:fL t1=((⟨t1.code,t1.at_,t1.aN,t1.counts,1,(eD x.e t1.aN).1,(eD x.f t1.aN).1,t1.buf⟩:fF),false):=by
            rw [kF vH (by simpa using iH) (by simpa using lx),Jf BC zg]
            try rw [show (tF (tE t1 x) x).counts.getD x.a.toNat 0=nL from Ij]
            try rfl
           rw [AI FK gn];exact ⟨rfl,hs.mut⟩
          ·intro jB;refine aF (aA kn (aV hs bN (eL rfl) (rfl) (λ r9 hs=>?_)));have hs:=eI.shut (t:=(⟨t1.code,(t1.at_+1),t1.aN,t1.counts,(if (eD x.f t1.aN).2=true then (tE t1 x).fault else 2),(eD x.e t1.aN).1,(eD x.f t1.aN).1,t1.buf⟩:fF)) qT hs.p3.p3.p3.p3;have hs:=(hs.p1).drop
           have gn:fL t1=((⟨t1.code,(t1.at_+1),t1.aN,t1.counts,(if (eD x.f t1.aN).2=true then (tE t1 x).fault else 2),(eD x.e t1.aN).1,(eD x.f t1.aN).1,t1.buf⟩:fF),true):=by
            rw [kF vH (by simpa using iH) (by simpa using lx),Jg BC zg]
            try rw [show (tF (tE t1 x) x).counts.getD x.a.toNat 0=nL from Ij]
            try rfl
           exact ⟨k,by omega,_,wS FK gn,by have:=lE tC; rw [gn] at this; exact this,hs⟩
         ·have hs:=eI.shut (t:=(⟨t1.code,t1.at_,t1.aN,t1.counts,(if (eD x.f t1.aN).2=true then (tE t1 x).fault else 2),(eD x.e t1.aN).1,(eD x.f t1.aN).1,t1.buf⟩:fF)) qT hs.p3.p3.p3.p3;have hs:=(hs.p1).drop
          have gn:fL t1=((⟨t1.code,t1.at_,t1.aN,t1.counts,(if (eD x.f t1.aN).2=true then (tE t1 x).fault else 2),(eD x.e t1.aN).1,(eD x.f t1.aN).1,t1.buf⟩:fF),false):=by
           rw [kF vH (by simpa using iH) (by simpa using lx),Oz kN uq sH vC Af BC]
           try rw [show (tF (tE t1 x) x).counts.getD x.a.toNat 0=nL from Ij]
           try rfl
          rw [AI FK gn];exact ⟨rfl,hs.mut⟩
structure gr where
 u:ir
 room:Int
 mem:Mem
 locks:List Int
 l:List fF
 ew:Int
 fault:Int
 mv:Int
structure MA where
 lnv:SV
 fsv:SV
 thv:SV
 rcl:SV
 clv:SV
 q:Nat
 ov:Value
 fv:Value
 lk:Value
 ll:Value
 ps:List Ptr
@[reducible] def jZ (a:MA) (m:gr):List Value:=[Flat.val a.lnv,.int .i64 m.u.stays,Flat.val a.fsv,.int .i64 m.u.locks,Flat.val a.thv,.int .i64 m.u.recover.aN,.int .i64 m.u.recover.counts,Flat.val a.rcl,Flat.val a.clv,.int .i64 m.room,.pointer (some ⟨a.q,0,none⟩),a.lk,a.ll,.int .i64 m.ew,.int .i64 m.fault,.int .i64 m.mv]
structure UK (K:World→Prop) (a:MA) (m:gr):Prop where
 ln:∀ w,K w→eE (λ _=>True) w (Flat.val a.lnv) m.u.lines
 cl:∀ w,K w→DL w (Flat.val a.clv) m.u.cC
 rc:Fh K (Flat.val a.rcl) m.u.recover.l
 mem:∀ w,K w→uC a.ov a.fv m.mem w
abbrev qm (K:World→Prop) (room:Int) (s:Ptr) (t:fF):HP:=eI K s.b room t
def en (K:World→Prop) (p:Nat) (m:gr):HP:=ue λ a:MA=>fact (UK K a m) (sep (cE p (jZ a m)) (sep (fV a.q a.ov a.fv m.mem) (sep (bK a.lk m.locks) (sep (bK a.ll a.ps) (iF (qm K m.room) a.ps m.l)))))
def kG (K:World→Prop) (p:Nat) (m:gr) (i:Nat) (tp:Ptr):HP:=ue λ a:MA=>fact (UK K a m∧a.ps[i]? = some tp∧a.ps.length=m.l.length∧i<m.l.length) (sep (cE p (jZ a m)) (sep (fV a.q a.ov a.fv m.mem) (sep (bK a.lk m.locks) (sep (bK a.ll a.ps) (qA (qm K m.room) a.ps m.l i)))))
section
variable {w w' w0:World} {A:Nat→Prop} {R:List HP} {p:Nat} {K:World→Prop} {m:gr} {a:MA} {i:Nat} {tp:Ptr} {t:fF}
theorem Hp {H1 H2 H3 H4 H5:HP} (hs:St w0 A (sep H1 (sep H2 (sep H3 (sep H4 H5)))::R) w):St w0 A (H1::H2::H3::H4::H5::R) w:=by
 have h1:=hs.split
 have h2:=h1.p1.split
 have h3:=h2.p1.split
 have h4:=h3.p1.split
 exact h4.p2.p3.p4
theorem Hq {H1 H2 H3 H4 H5:HP} (hs:St w0 A (H1::H2::H3::H4::H5::R) w):St w0 A (sep H1 (sep H2 (sep H3 (sep H4 H5)))::R) w:=by
 have h4:=St.join (hs.p4.p4)
 have h3:=St.join h4.p3
 have h2:=St.join h3.p2
 exact St.join h2.p1
theorem en.open (hs:St w0 A (en K p m::R) w):∃ a,UK K a m∧St w0 A (cE p (jZ a m)::fV a.q a.ov a.fv m.mem::bK a.lk m.locks::bK a.ll a.ps::iF (qm K m.room) a.ps m.l::R) w:=by
 obtain ⟨a,hs⟩:=hs.eX; obtain ⟨hu,hs⟩:=hs.oM; exact ⟨a,hu,Hp hs⟩
theorem en.shut (hu:UK K a m) (hs:St w0 A (cE p (jZ a m)::fV a.q a.ov a.fv m.mem::bK a.lk m.locks::bK a.ll a.ps::iF (qm K m.room) a.ps m.l::R) w):St w0 A (en K p m::R) w:=
 St.eR a (St.qy hu (Hq hs))
theorem kG.open (hs:St w0 A (kG K p m i tp::R) w):∃ a,(UK K a m∧a.ps[i]? = some tp∧a.ps.length=m.l.length∧i<m.l.length)∧St w0 A (cE p (jZ a m)::fV a.q a.ov a.fv m.mem::bK a.lk m.locks::bK a.ll a.ps::qA (qm K m.room) a.ps m.l i::R) w:=by
 obtain ⟨a,hs⟩:=hs.eX; obtain ⟨hu,hs⟩:=hs.oM; exact ⟨a,hu,Hp hs⟩
theorem kG.shut (hu:UK K a m∧a.ps[i]? = some tp∧a.ps.length=m.l.length∧i<m.l.length) (hs:St w0 A (cE p (jZ a m)::fV a.q a.ov a.fv m.mem::bK a.lk m.locks::bK a.ll a.ps::qA (qm K m.room) a.ps m.l i::R) w):St w0 A (kG K p m i tp::R) w:=
 St.eR a (St.qy hu (Hq hs))
structure arH (K:World→Prop) (w:World) (p:Nat) (m:gr) (a:MA):Prop where
 uk:UK K a m
 b:tP w p (jZ a m)
 mem:vr w a.q m.mem
 c0:Cell w a.q 0 a.ov
 c1:Cell w a.q 1 a.fv
 lk:eE (λ _=>True) w a.lk m.locks
 ll:eE (λ _=>True) w a.ll a.ps
 th:∀ (i:Nat) (s:Ptr) (t:fF),a.ps[i]? = some s→m.l[i]? = some t→Has (eI K s.b m.room t) w
 len:a.ps.length=m.l.length
theorem en.rd (h:Has (en K p m) w) (hK:K w):∃ a,arH K w p m a:=by
 obtain ⟨F,hs⟩:=h.st
 obtain ⟨a,hu,hs⟩:=en.open hs
 have hc:Cell w a.q 0 a.ov∧Cell w a.q 1 a.fv:=by
  obtain ⟨lv,kv,pm,h⟩:=fV.open hs.p1; exact ⟨h.hb.cell rfl,h.hb.cell rfl⟩
 exact ⟨a,hu,hs.hb,I6 hs.p1 (hu.mem _ hK),hc.1,hc.2,hs.p2.fB,hs.p3.fB,λ i s t h1 h2=>hs.p4.apb h1 h2 (Φ:=λ w=>Has (eI K s.b m.room t) w) λ h=>⟨_,h⟩,hs.p4.lu⟩
theorem Xt {ps:List Ptr} (hs:St w0 A (iF (qm K m.room) ps m.l::R) w) (hp:ps[i]? = some tp) (ht:m.l[i]? = some t):St w0 A (eI K tp.b m.room t::qA (qm K m.room) ps m.l i::R) w:=hs.focus hp ht
theorem L4 (hs:St w0 A (eI K tp.b m.room t::kG K p m i tp::R) w):St w0 A (en K p {m with l:=m.l.set i t}::R) w:=by
 obtain ⟨a,⟨hu,hp,hl,hi⟩,hs⟩:=kG.open hs.p1
 have h1:St w0 A (qm K m.room tp t::qA (qm K m.room) a.ps m.l i::_) w:=(hs.p4).p5
 have h2:=h1.sw hi hl hp
 have h3:=h2.p4.p4.p4.p4
 exact en.shut (m:={m with l:=m.l.set i t}) ⟨hu.ln,hu.cl,hu.rc,hu.mem⟩ h3
end
def BN (m:gr) (t:fF):Bool:=match gO t with
 | none=>false
 | some x=>if t.fault≠0 then true else if x.kind=3∨x.kind=5∨x.kind=6∨x.kind=7 then !decide (m.room≤t.buf.length) else if x.kind=4∨x.kind=8∨x.kind=10 then decide (t.buf.length=0) else if x.kind=9 then decide (t.buf.length=0) && decide (m.locks.getD x.b.toNat 0 = -1) else true
def tD (m:gr) (i:Nat) (t:fF):List ej:=(if BN m t=true then [⟨1,i,0,[]⟩] else [])++(Az t.buf).map λ k=>⟨2,i,k,[]⟩
def kZ (m:gr) (k:Nat):List ej:=(List.range k).flatMap λ i=>match m.l[i]? with | some t=>tD m i t | none=>[]
def cJ (m:gr):List ej:=if m.fault≠0 then [] else kZ m m.l.length
def rQ (m:gr):List ej:=if m.fault≠0 then [] else (Hl m.mem).map λ c=>⟨3,0,0,c⟩
theorem AM {m:gr} {k:Nat} {t:fF} (h:m.l[k]? = some t):kZ m (k+1)=kZ m k++tD m k t:=by
 unfold kZ; rw [List.range_succ,List.flatMap_append]; simp [h]
structure qG (m:gr):Prop where
 mem:xD m.mem
 th:∀ t∈m.l,Ho t
 tl:m.l.length≤1000
 lk:(m.locks.length:Int)=m.u.locks
 lkb:∀ t∈m.l,∀ x∈t.code.l,x.kind=9∨x.kind=10→0≤x.b∧x.b<m.u.locks
 lnb:∀ t∈m.l,∀ x∈t.code.l,x.kind=3→0≤x.b∧x.b<m.u.lines.length
 arI:∀ t∈m.l,∀ x∈t.code.l,x.kind=2∨x.kind=4→0≤x.a∧x.a<t.code.aN
 rm:1≤m.room∧m.room≤16
 st:∀ t∈m.l,∀ x,gO t=some x→t.fault=0→2≤x.kind∧x.kind≤10
 nl:∀ n∈m.u.lines,-1≤n∧n≤1000
theorem Hr (l:List bJ):(Az l).length≤l.length:=by have:=Hd l l.length; rw [E4 l rfl] at this; exact this
theorem C66 (K:World→Prop) (p:Nat) (room:Int) (t:fF) (w:World) (hh:Has (eI K p room t) w) (yQ:t.buf.length≤1000):CR 66 [(.pointer (some ⟨p,0,none⟩))] w (λ v w'=>v = .bool (decide (t.buf.length=0))∧Ext w w'):=by
 obtain ⟨bp,gl,rg,cn,⟨ts0,hts⟩,oG,hB,BB,Y9⟩:=eI.rd hh;have Xu:=oG.cell (o:=0) rfl;have ct7:=oG.cell (o:=7) rfl;have hs:=St.start w;refine aif _ _ _ ?_;unfold S66;refine aF (aA mY (cD rh (Xu.ext hs.aE) (cZ aiE hs (C91 bp _ _ _ (hB.ext hs.aE) (by omega)) (λ x7 w1 bV hs=>aK nw (hs).fB (aH ?_)))));exact ⟨vb (decide_eq_decide.2 (by omega)),hs.drop.aE⟩
theorem C56 (K:World→Prop) (p:Nat) (m:gr) (q:Nat) (t:fF) (w:World) (hm:Has (en K p m) w) (hw:K w) (uN:∀ w',Ext w w'→K w') (lX:qG m) (hh:Has (eI K q m.room t) w) (CE:t∈m.l):CR 56 [(.pointer (some ⟨p,0,none⟩)),(.pointer (some ⟨q,0,none⟩))] w (λ v w'=>v = .bool (BN m t)∧Ext w w'):=by
 obtain ⟨a,hr⟩:=en.rd hm hw;have Za:=hr.b.cell (o:=8) rfl;have cm0:=hr.b.cell (o:=0) rfl;have Xv:=hr.b.cell (o:=1) rfl;have cm3:=hr.b.cell (o:=3) rfl;have cm9:=hr.b.cell (o:=9) rfl;have BO:=hr.b.cell (o:=10) rfl;have CF:=hr.b.cell (o:=11) rfl;have yg:=hr.b.cell (o:=12) rfl;have Fi:=hr.b.cell (o:=13) rfl;have zh:=hr.b.cell (o:=14) rfl;have Fj:=hr.b.cell (o:=15) rfl;have nP:=lX.th t CE;have yQ:=nP.bl;obtain ⟨bp,gl,rg,cn,⟨ts0,hts⟩,oG,hB,BB,Y9⟩:=eI.rd hh;have Xu:=oG.cell (o:=0) rfl;have ct7:=oG.cell (o:=7) rfl;have hK:∀ w',Ext w w'→K w':=uN;have hs:=St.start w;refine ah5 _ _ _ _ ?_;unfold S56
 refine ed Zz (C65 K q m.room t _ (hh.ext hs.aE) (hK _ hs.aE) nP) ?_;rintro v_x9 w1 arJ
 rcases arJ with ⟨vH,rfl,he⟩ | ⟨x,xv,vH,hxv,rfl,he⟩
 ·have hs:=hs.ext he;refine bE rfl (bE rfl (aJ hs mE (λ ur w2 hs=>have hs:=hs.enc (cs':=Flat.enc (⟨0,0,0,⟨none,0,0⟩,⟨none,0,0⟩,0⟩:bU)) rfl;aI (x:=(⟨0,0,0,⟨none,0,0⟩,⟨none,0,0⟩,0⟩:bU)) hs lL rfl rfl (λ w3 hs=>bZ (nX ?_)))));refine ⟨vb ?_,(by first | exact hs.aE | exact hs.drop.aE)⟩;unfold BN;rw [vH]
 ·have hs:=hs.ext he;have hxm:=qS vH;obtain ⟨ge,gf,rfl,_,_⟩:=hxv _ (hK _ hs.aE);refine bE rfl (bE rfl (aJ hs mE (λ ur w2 hs=>have hs:=hs.enc (cs':=Flat.enc (⟨0,0,0,⟨none,0,0⟩,⟨none,0,0⟩,0⟩:bU)) rfl;aI (x:=(⟨x.kind,x.a,x.b,ge,gf,x.to⟩:bU)) hs lL rfl rfl (λ w3 hs=>bZ (fi (aF (aA tV (cD bN (ct7.ext hs.aE) (cO (aC (λ jD=>?_) (λ jD=>?_)))))))))))
  ·refine ⟨vb ?_,(by first | exact hs.aE | exact hs.drop.aE)⟩;unfold BN;rw [vH];dsimp only;rw [if_pos jD]
  ·refine aA jm (aB (v:=.int .i64 x.kind) bN hs.hb rfl ?_);refine ⟨λ jv w'=>jv = .bool (decide (x.kind=3∨x.kind=5∨x.kind=6∨x.kind=7))∧St w bD [cE ur (Flat.enc (⟨x.kind,x.a,x.b,ge,gf,x.to⟩:bU))] w',?_,?_⟩
   ·refine aH (aC (λ iH=>?_) (λ iH=>?_))
    ·exact ⟨vb (by grind),hs⟩
    ·refine aH (aC (λ fD=>?_) (λ fD=>?_))
     ·exact ⟨vb (by grind),hs⟩
     ·refine aH (aC (λ qC=>?_) (λ qC=>?_))
      ·exact ⟨vb (by grind),hs⟩
      ·refine aH ?_;exact ⟨vb (by grind),hs⟩
   ·rintro _ w4 ⟨rfl,hs⟩ fz;refine aY (λ iT=>?_) (λ iT=>?_)
    ·refine aF (aA mY (cD rh (Xu.ext hs.aE) (aZ afh hs (C123 bp _ _ _ (hB.ext hs.aE)) (λ w5 he hs=>bZ ?_))));refine ⟨vb ?_,(by first | exact hs.aE | exact hs.drop.aE)⟩;unfold BN;rw [vH];dsimp only;rw [if_neg (by simpa using jD),if_pos (by simpa using iT)]
    ·refine ⟨λ jv w'=>jv = .bool (decide (x.kind=4∨x.kind=8∨x.kind=10))∧St w bD [cE ur (Flat.enc (⟨x.kind,x.a,x.b,ge,gf,x.to⟩:bU))] w',?_,?_⟩
     ·refine aH (aC (λ jC=>?_) (λ jC=>?_))
      ·exact ⟨vb (by grind),hs⟩
      ·refine aH (aC (λ lx=>?_) (λ lx=>?_))
       ·exact ⟨vb (by grind),hs⟩
       ·refine aH ?_;exact ⟨vb (by grind),hs⟩
     ·rintro _ w6 ⟨rfl,hs⟩ jB;refine aY (λ iI=>?_) (λ iI=>?_)
      ·refine aZ aiq hs (C66 K q m.room t _ (hh.ext hs.aE) yQ) (λ w7 he hs=>?_);refine ⟨vb ?_,(by first | exact hs.aE | exact hs.drop.aE)⟩;unfold BN;rw [vH];dsimp only;rw [if_neg (by simpa using jD),if_neg (by simpa using iT),if_pos (by simpa using iI)]
      ·refine aH (aC (λ j3=>?_) (λ j3=>?_))
       ·have akS:=lX.lkb t CE x hxm.1 (.inl j3);have MM:=lX.lk;refine ⟨λ jv w'=>jv = .bool (decide (t.buf.length=0) && decide (m.locks.getD x.b.toNat 0 = -1))∧St w bD [cE ur (Flat.enc (⟨x.kind,x.a,x.b,ge,gf,x.to⟩:bU))] w',?_,?_⟩
        ·have hs:=hs.drew;refine aZ aiq hs (C66 K q m.room t _ (hh.ext hs.aE) yQ) (λ w8 he hs=>aY (λ uj=>?_) (λ uj=>?_))
         ·refine aF (aA n7 (cD eA (CF.ext hs.aE) (aA eZ (aB (v:=.int .i64 x.b) bN hs.hb rfl ?_))));obtain ⟨ap5,wH⟩:=gx (m.locks) (i:=(x.b).toNat) (by omega);refine aQ ek hr.lk (by omega) wH (λ _ yx=>aD bN (yx.ext hs.aE) (aH ?_));exact ⟨vb (by rw [uj,List.getD_eq_getElem?_getD,wH]; rfl),hs⟩
         ·exact ⟨vb (by rw [uj]; rfl),hs⟩
        ·rintro _ w9 ⟨rfl,hs⟩ oN;refine ⟨vb ?_,(by first | exact hs.aE | exact hs.drop.aE)⟩;unfold BN;rw [vH];dsimp only;rw [if_neg (by simpa using jD),if_neg (by simpa using iT),if_neg (by simpa using iI),if_pos j3]
       ·refine ⟨vb ?_,(by first | exact hs.aE | exact hs.drop.aE)⟩;unfold BN;rw [vH];dsimp only;rw [if_neg (by simpa using jD),if_neg (by simpa using iT),if_neg (by simpa using iI),if_neg j3]
end Go.Proofs.YtnjcingfdhjfkaaGreat
