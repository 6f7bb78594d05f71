/-
  What the proof needs, part 5.
-/
import Derived.Test.YtnjcingfdhjfkaaGreatVrM4
set_option linter.all false
namespace Go.Proofs.YtnjcingfdhjfkaaGreat
open Go.Fw
theorem Wp {c:fm} {cells lines locks:Int} (h:∀ j,j<c.l.length→u5 c cells lines locks j=false):afL c.l:=by
 intro i x hx hk
 have:=h i (List.getElem?_eq_some_iff.1 hx).1
 rw [ui hx] at this
 simp only [Bool.or_eq_false_iff,Bool.not_eq_false'] at this
 exact Wd hk this.2
theorem EO {l:List Int} {k:Nat} {e:Int} (h:l[k]? = some e):lu l (k+1)=e+1:=by
 unfold lu; rw [if_neg (by omega),Nat.add_sub_cancel,List.getD_eq_getElem?_getD,h]; rfl
set_option maxHeartbeats 4000000 in
theorem C113 (c:fm) (cv:cK) (cells lines locks:Int) (w:World) (hc:bZ.dr w cv c) (hz:CZ c):CR 113 [Flat.val cv,.int .i64 cells,.int .i64 lines,.int .i64 locks] w (λ v w'=>v = .bool (lr c cells lines locks)∧Ext w w'):=by
 obtain ⟨um,rfl,EP⟩:=hc;have hzl:=hz.l;have hs:=St.start w;refine Zf _ _ _ _ _ _ ?_;unfold S113;refine dE hs (λ FY w1 hs=>?_);refine ⟨λ jv w'=>jv = .bool (va c)∧St w bD [cE FY (Flat.enc (⟨(c).aK,(c).counts,um⟩:cK))] w',?_,?_⟩
 ·refine aA xa (aB (v:=.int .i64 ((c).aK)) bL hs.hb rfl (aR (aC (λ fw=>?_) (λ fw=>?_))))
  ·exact ⟨vb (by unfold va; grind),hs⟩
  ·refine aA xa (aB (v:=.int .i64 ((c).aK)) bL hs.hb rfl (dB (aC (λ iO=>?_) (λ iO=>?_))))
   ·exact ⟨vb (by unfold va; grind),hs⟩
   ·refine aA CI (aB (v:=.int .i64 ((c).counts)) bL hs.hb rfl (aR (aC (λ Ly=>?_) (λ Ly=>?_))))
    ·exact ⟨vb (by unfold va; grind),hs⟩
    ·refine aA CI (aB (v:=.int .i64 ((c).counts)) bL hs.hb rfl (dB ?_));exact ⟨vb (by unfold va; grind),hs⟩
 ·rintro _ w2 ⟨rfl,hs⟩ fy;refine aX (λ iC=>?_) (λ iC=>?_)
  ·have hs:=(hs).drop;refine ⟨vb ?_,hs.aF⟩;unfold lr;rw [iC]; rfl
  ·refine aA my (aB uL hs.hb rfl ?_);obtain ⟨aqw,Wq,afV⟩:=(EP).open;have hn106:=afV.1;refine aJ kP (Wq.ext hs.aF) ?_;refine ⟨λ m x w1=>∃ k:Nat,x = .int .i64 (k:Int)∧m=c.l.length - k∧k≤c.l.length∧(∀ j,j<k→u5 c cells lines locks j=false)∧St w bD [cE FY (Flat.enc (⟨(c).aK,(c).counts,um⟩:cK))] w1,⟨_,0,rfl,rfl,Nat.zero_le _,by simp,hs⟩,?_⟩;rintro m _ w3 ⟨k,rfl,rfl,hk,fS,hs⟩ jB;refine aR (aC (λ sq=>?_) (λ sq=>?_))
   ·obtain ⟨afW,IV⟩:=gx aqw (i:=((k:Int)).toNat) (by omega);obtain ⟨cX,vc⟩:=gx ((c).l) (i:=((k:Int)).toNat) (by omega);obtain ⟨qC,qD,rfl,QC,QD⟩:=afV.2 _ _ _ IV vc;refine aQ kP Wq (by omega) IV (λ _ D6=>aD lL (D6.ext hs.aF) (aN hs mA (λ ic w4 hs=>have hs:=hs.enc (cs':=Flat.enc (⟨0,0,0,⟨none,0,0⟩,⟨none,0,0⟩,0⟩:bU)) rfl;aI (x:=(⟨(cX).kind,(cX).a,(cX).b,qC,qD,(cX).to⟩:bU)) hs lL rfl rfl (λ w5 hs=>?_))));refine ⟨λ jv w'=>jv = .bool (decide (cX.kind<1) || decide (16≤cX.kind))∧St w bD [cE ic (Flat.enc (⟨(cX).kind,(cX).a,(cX).b,qC,qD,(cX).to⟩:bU)),cE FY (Flat.enc (⟨(c).aK,(c).counts,um⟩:cK))] w',?_,?_⟩
    ·refine aA jh (aB (v:=.int .i64 ((cX).kind)) bL hs.hb rfl (aR (aC (λ kK=>?_) (λ kK=>?_))))
     ·exact ⟨vb (by grind),hs⟩
     ·refine aA jh (aB (v:=.int .i64 ((cX).kind)) bL hs.hb rfl (dF ?_));exact ⟨vb (by grind),hs⟩
    ·rintro _ w6 ⟨rfl,hs⟩ oS;refine aX (λ pK=>?_) (λ pK=>?_)
     ·have hs:=((hs.drop)).drop;refine ⟨vb ?_,hs.aF⟩;unfold lr;rw [rz (f:=u5 c cells lines locks) (j:=k) (by omega) (by rw [ui (i:=k) vc,Wh (by grind)]; rfl)]; simp
     ·have mN:1≤cX.kind∧cX.kind≤15:=by grind
      refine aA km (have hs:=hs.drew;aB (v:=.int .i64 ((cX).a)) bL hs.hb rfl (aA xa (aB (v:=.int .i64 ((c).aK)) bL hs.p1.hb rfl (gd (first:=[]) (cap:=[.pointer (some ⟨ic,0,none⟩)]) rY (C176 cX.kind 114 ic (decide (cX.kind=1∨cX.kind=2∨cX.kind=4)) _ ((hs).hb.cell rfl) mN ((ot mN).1)) ?_))));rintro _ w7 ⟨rfl,he⟩;have hs:=hs.ext he;refine ⟨aG bL (hs.hb.cell rfl),?_⟩;refine ⟨aG bL (hs.p1.hb.cell rfl),?_⟩;refine aZ J3 hs (C179 _ _ _ _) (λ w8 he hs=>?_);refine ⟨λ jv w'=>jv = .bool (aM cX c.aK c.counts)∧St w bD [cE ic (Flat.enc (⟨(cX).kind,(cX).a,(cX).b,qC,qD,(cX).to⟩:bU)),cE FY (Flat.enc (⟨(c).aK,(c).counts,um⟩:cK))] w',?_,?_⟩
      ·refine gd (first:=[]) (cap:=[.pointer (some ⟨ic,0,none⟩)]) rY (C176 cX.kind 107 ic (decide (cX.kind=13∨cX.kind=14)) _ ((hs).hb.cell rfl) mN ((ot mN).2.1)) ?_;rintro _ w9 ⟨rfl,he⟩;have hs:=hs.ext he;refine aX (λ GG=>?_) (λ GG=>?_)
       ·refine aA km (aB (v:=.int .i64 ((cX).a)) bL hs.hb rfl (aA CI (aB (v:=.int .i64 ((c).counts)) bL hs.p1.hb rfl (aZ J3 hs (C179 true _ _ _) (λ pS he hs=>?_)))));exact ⟨vb (by unfold aM; grind),hs⟩
       ·exact ⟨vb (by unfold aM; grind),hs⟩
      ·rintro _ sU ⟨rfl,hs⟩ GQ;refine aA eX (aB (v:=.int .i64 ((cX).b)) bL hs.hb rfl (aH ?_));refine ⟨λ jv w'=>jv = .bool (bM cX cells lines locks)∧St w bD [cE ic (Flat.enc (⟨(cX).kind,(cX).a,(cX).b,qC,qD,(cX).to⟩:bU)),cE FY (Flat.enc (⟨(c).aK,(c).counts,um⟩:cK))] w',?_,?_⟩
       ·refine gd (first:=[]) (cap:=[.pointer (some ⟨ic,0,none⟩)]) rY (C176 cX.kind 99 ic (decide (cX.kind=2∨cX.kind=3∨cX.kind=4)) _ ((hs).hb.cell rfl) mN ((ot mN).2.2.1)) ?_;rintro _ vm ⟨rfl,he⟩;have hs:=hs.ext he;refine aX (λ vo=>?_) (λ vo=>?_)
        ·refine aA eX (aB (v:=.int .i64 ((cX).b)) bL hs.hb rfl (aZ J3 hs (C179 true _ _ _) (λ vn he hs=>?_)));exact ⟨vb (by unfold bM; grind),hs⟩
        ·refine gd (first:=[]) (cap:=[.pointer (some ⟨ic,0,none⟩)]) rY (C176 cX.kind 108 ic (decide (cX.kind=5∨cX.kind=6)) _ ((hs).hb.cell rfl) mN ((ot mN).2.2.2.1)) ?_;rintro _ sm ⟨rfl,he⟩;have hs:=hs.ext he;refine aX (λ VS=>?_) (λ VS=>?_)
         ·refine aA eX (aB (v:=.int .i64 ((cX).b)) bL hs.hb rfl (aZ J3 hs (C179 true _ _ _) (λ v7 he hs=>?_)));exact ⟨vb (by unfold bM; grind),hs⟩
         ·refine gd (first:=[]) (cap:=[.pointer (some ⟨ic,0,none⟩)]) rY (C176 cX.kind 109 ic (decide (cX.kind=9∨cX.kind=10)) _ ((hs).hb.cell rfl) mN ((ot mN).2.2.2.2.1)) ?_;rintro _ yZ ⟨rfl,he⟩;have hs:=hs.ext he;refine aX (λ aqx=>?_) (λ aqx=>?_)
          ·refine aA eX (aB (v:=.int .i64 ((cX).b)) bL hs.hb rfl (aZ J3 hs (C179 true _ _ _) (λ Cp he hs=>?_)));exact ⟨vb (by unfold bM; grind),hs⟩
          ·refine gd (first:=[]) (cap:=[.pointer (some ⟨ic,0,none⟩)]) rY (C176 cX.kind 110 ic (decide (cX.kind=13)) _ ((hs).hb.cell rfl) mN ((ot mN).2.2.2.2.2.1)) ?_;rintro _ Iv ⟨rfl,he⟩;have hs:=hs.ext he;refine aX (λ Wr=>?_) (λ Wr=>?_)
           ·refine aA eX (aB (v:=.int .i64 ((cX).b)) bL hs.hb rfl (dF (aC (λ Ws=>?_) (λ Ws=>?_))))
            ·refine aA eX (aB (v:=.int .i64 ((cX).b)) bL hs.hb rfl (j7 ?_));exact ⟨vb (by unfold bM; grind),hs⟩
            ·exact ⟨vb (by unfold bM; grind),hs⟩
           ·exact ⟨vb (by unfold bM; grind),hs⟩
       ·rintro _ Jy ⟨rfl,hs⟩ R4;refine ⟨λ jv w'=>jv = .bool (if sB cX.kind=true then eL cX.e c.aK else !decide (0<(cX.e.length:Int)))∧St w bD [cE ic (Flat.enc (⟨(cX).kind,(cX).a,(cX).b,qC,qD,(cX).to⟩:bU)),cE FY (Flat.enc (⟨(c).aK,(c).counts,um⟩:cK))] w',?_,?_⟩
        ·refine gd (first:=[]) (cap:=[.pointer (some ⟨ic,0,none⟩)]) rY (C176 cX.kind 101 ic (sB cX.kind) _ ((hs).hb.cell rfl) mN ((ot mN).2.2.2.2.2.2.1)) ?_;rintro _ KG ⟨rfl,he⟩;have hs:=hs.ext he;refine aX (λ ajM=>?_) (λ ajM=>?_)
         ·refine aA tO (aB xG hs.hb rfl ?_);have afX:=DL.flat (QC);refine aA xa (aB (v:=.int .i64 ((c).aK)) bL hs.p1.hb rfl (aZ Pl hs (C116 _ _ _ _ (afX.ext hs.aF) (by have:=hz.ef _ (List.mem_of_getElem? vc); omega)) (λ MH he hs=>aX (λ N9=>?_) (λ N9=>?_))))
          ·exact ⟨vb (by grind),hs⟩
          ·refine gd (first:=[]) (cap:=[.pointer (some ⟨ic,0,none⟩)]) rY (C176 cX.kind 101 ic (sB cX.kind) _ ((hs).hb.cell rfl) mN ((ot mN).2.2.2.2.2.2.1)) ?_;rintro _ Qv ⟨rfl,he⟩;have hs:=hs.ext he;refine cB (aX (λ ajN=>?_) (λ ajN=>?_))
           ·refine aA tO (aB xG hs.hb rfl (aJ vA (afX.ext hs.aF) (aH ?_)));exact ⟨vb (by grind),hs⟩
           ·exact ⟨vb (by grind),hs⟩
         ·refine gd (first:=[]) (cap:=[.pointer (some ⟨ic,0,none⟩)]) rY (C176 cX.kind 101 ic (sB cX.kind) _ ((hs).hb.cell rfl) mN ((ot mN).2.2.2.2.2.2.1)) ?_;rintro _ To ⟨rfl,he⟩;have hs:=hs.ext he;refine cB (aX (λ Wt=>?_) (λ Wt=>?_))
          ·refine aA tO (aB xG hs.hb rfl ?_);have aqy:=DL.flat (QC);refine aJ vA (aqy.ext hs.aF) (aH ?_);exact ⟨vb (by grind),hs⟩
          ·exact ⟨vb (by grind),hs⟩
        ·rintro _ VM ⟨rfl,hs⟩ dd6;refine ⟨λ jv w'=>jv = .bool (if cX.kind=4 then eL cX.f c.aK else !decide (0<(cX.f.length:Int)))∧St w bD [cE ic (Flat.enc (⟨(cX).kind,(cX).a,(cX).b,qC,qD,(cX).to⟩:bU)),cE FY (Flat.enc (⟨(c).aK,(c).counts,um⟩:cK))] w',?_,?_⟩
         ·refine gd (first:=[]) (cap:=[.pointer (some ⟨ic,0,none⟩)]) rY (C176 cX.kind 102 ic (decide (cX.kind=4)) _ ((hs).hb.cell rfl) mN ((ot mN).2.2.2.2.2.2.2.1)) ?_;rintro _ Tp ⟨rfl,he⟩;have hs:=hs.ext he;refine aX (λ ajO=>?_) (λ ajO=>?_)
          ·refine aA tP (aB xG hs.hb rfl ?_);have afY:=DL.flat (QD);refine aA xa (aB (v:=.int .i64 ((c).aK)) bL hs.p1.hb rfl (aZ Pl hs (C116 _ _ _ _ (afY.ext hs.aF) (by have:=hz.ef _ (List.mem_of_getElem? vc); omega)) (λ w26 he hs=>aX (λ ajP=>?_) (λ ajP=>?_))))
           ·exact ⟨vb (by grind),hs⟩
           ·refine gd (first:=[]) (cap:=[.pointer (some ⟨ic,0,none⟩)]) rY (C176 cX.kind 102 ic (decide (cX.kind=4)) _ ((hs).hb.cell rfl) mN ((ot mN).2.2.2.2.2.2.2.1)) ?_;rintro _ w27 ⟨rfl,he⟩;have hs:=hs.ext he;refine cB (aX (λ ER=>?_) (λ ER=>?_))
            ·refine aA tP (aB xG hs.hb rfl (aJ vA (afY.ext hs.aF) (aH ?_)));exact ⟨vb (by grind),hs⟩
            ·exact ⟨vb (by grind),hs⟩
          ·refine gd (first:=[]) (cap:=[.pointer (some ⟨ic,0,none⟩)]) rY (C176 cX.kind 102 ic (decide (cX.kind=4)) _ ((hs).hb.cell rfl) mN ((ot mN).2.2.2.2.2.2.2.1)) ?_;rintro _ w28 ⟨rfl,he⟩;have hs:=hs.ext he;refine cB (aX (λ Wu=>?_) (λ Wu=>?_))
           ·refine aA tP (aB xG hs.hb rfl ?_);have aqz:=DL.flat (QD);refine aJ vA (aqz.ext hs.aF) (aH ?_);exact ⟨vb (by grind),hs⟩
           ·exact ⟨vb (by grind),hs⟩
         ·rintro _ w29 ⟨rfl,hs⟩ dd7;refine aA kn (aB (v:=.int .i64 ((cX).to)) bL hs.hb rfl (aH ?_));refine ⟨λ jv w'=>jv = .bool (IQ c.l k cX)∧St w bD [cE ic (Flat.enc (⟨(cX).kind,(cX).a,(cX).b,qC,qD,(cX).to⟩:bU)),cE FY (Flat.enc (⟨(c).aK,(c).counts,um⟩:cK))] w',?_,?_⟩
          ·refine ⟨λ jv w'=>jv = .bool (decide (cX.kind=14))∧St w bD [cE ic (Flat.enc (⟨(cX).kind,(cX).a,(cX).b,qC,qD,(cX).to⟩:bU)),cE FY (Flat.enc (⟨(c).aK,(c).counts,um⟩:cK))] w',?_,?_⟩
           ·refine gd (first:=[]) (cap:=[.pointer (some ⟨ic,0,none⟩)]) rY (C176 cX.kind 116 ic (decide (cX.kind=11∨cX.kind=12∨cX.kind=14)) _ ((hs).hb.cell rfl) mN ((ot mN).2.2.2.2.2.2.2.2)) ?_;rintro _ w30 ⟨rfl,he⟩;have hs:=hs.ext he;refine aX (λ ajQ=>?_) (λ ajQ=>?_)
            ·refine aA jh (aB (v:=.int .i64 ((cX).kind)) bL hs.hb rfl (aH ?_));exact ⟨vb (by grind),hs⟩
            ·exact ⟨vb (by grind),hs⟩
           ·rintro _ w31 ⟨rfl,hs⟩ dd8;refine aX (λ ajR=>?_) (λ ajR=>?_)
            ·refine aA my (aB uL hs.p1.hb rfl (aZ ann hs (C180 _ _ _ _ _ (EP.ext hs.aF) (by omega) vc) (λ w32 he hs=>?_)));exact ⟨vb (by unfold IQ; grind),hs⟩
            ·refine gd (first:=[]) (cap:=[.pointer (some ⟨ic,0,none⟩)]) rY (C176 cX.kind 116 ic (decide (cX.kind=11∨cX.kind=12∨cX.kind=14)) _ ((hs).hb.cell rfl) mN ((ot mN).2.2.2.2.2.2.2.2)) ?_;rintro _ w33 ⟨rfl,he⟩;have hs:=hs.ext he;refine aX (λ ajS=>?_) (λ ajS=>?_)
             ·refine aA kn (aB (v:=.int .i64 ((cX).to)) bL hs.hb rfl (dB (aC (λ ajT=>?_) (λ ajT=>?_))))
              ·refine aA kn (aB (v:=.int .i64 ((cX).to)) bL hs.hb rfl (aA my (aB uL hs.p1.hb rfl (aJ kP (Wq.ext hs.aF) (j7 ?_)))));exact ⟨vb (by unfold IQ; grind),hs⟩
              ·exact ⟨vb (by unfold IQ; grind),hs⟩
             ·exact ⟨vb (by unfold IQ; grind),hs⟩
          ·rintro _ w34 ⟨rfl,hs⟩ dd9;refine ⟨λ jv w'=>jv = .bool (!u4 cX c cells lines locks || !IQ c.l k cX)∧St w bD [cE ic (Flat.enc (⟨(cX).kind,(cX).a,(cX).b,qC,qD,(cX).to⟩:bU)),cE FY (Flat.enc (⟨(c).aK,(c).counts,um⟩:cK))] w',?_,?_⟩
           ·refine cB (aX (λ ajU=>?_) (λ ajU=>?_))
            ·exact ⟨vb (by rw [uj mN]; grind),hs⟩
            ·refine cB (aX (λ ajV=>?_) (λ ajV=>?_))
             ·exact ⟨vb (by rw [uj mN]; grind),hs⟩
             ·refine cB (aX (λ ajW=>?_) (λ ajW=>?_))
              ·exact ⟨vb (by rw [uj mN]; grind),hs⟩
              ·refine cB (aX (λ ajX=>?_) (λ ajX=>?_))
               ·exact ⟨vb (by rw [uj mN]; grind),hs⟩
               ·refine cB ?_;exact ⟨vb (by rw [uj mN]; grind),hs⟩
           ·rintro _ w35 ⟨rfl,hs⟩ dd10;refine aX (λ Oa=>?_) (λ Oa=>?_)
            ·have hs:=((hs.drop)).drop;refine ⟨vb ?_,hs.aF⟩;unfold lr;rw [rz (f:=u5 c cells lines locks) (j:=k) (by omega) (by rw [ui (i:=k) vc]; exact Oa)]; simp
            ·refine aO (by omega) ?_;have hs:=(hs).drop;exact ⟨_,by omega,k+1,rfl,rfl,by omega,zZ fS (by rw [ui (i:=k) vc]; exact Oa),hs⟩
   ·refine aA my (aB uL hs.hb rfl (aZ ano hs (C181 _ _ _ (EP.ext hs.aF) (by omega) (Wp (cells:=cells) (lines:=lines) (locks:=locks) (λ j hj=>fS j (by omega)))) (λ w36 he hs=>?_)));have hs:=(hs).drop;refine ⟨vb ?_,hs.aF⟩;unfold lr;rw [iC,nc (f:=u5 c cells lines locks) (λ j hj=>fS j (by omega))]; simp
theorem C112 (c:fm) (cv:cK) (u:ib) (uv:dJ) (b1:Nat) (w:World) (hc:bZ.dr w cv c) (hA:At (λ _=>True) w (.pointer (some ⟨b1,0,none⟩)) uv) (hu:bZ.dr w uv u) (hz:CZ c) (hzu:UZ u) (hb:∀ n∈u.lines,-1≤n∧n≤(u.lines.length:Int)):CR 112 [Flat.val cv,.pointer (some ⟨b1,0,none⟩)] w (λ v w'=>v = .bool (!lr c u.lines.length (gq u) u.locks)∧Ext w w'):=by
 obtain ⟨um,rfl,EP⟩:=hc;obtain ⟨iD,gH,eY,sD,fh,rfl,iE,jo,iY,jO,kV⟩:=hu;obtain ⟨dK,rfl,ij⟩:=jO;have hs:=St.start w;refine Ze _ _ _ _ ?_;unfold S112;refine dE hs (λ b_c2 w1 hs=>have hs:=hs.drew;aD pW hs.At (bT iD mz hA rfl rfl (λ _ Se=>aD eu (Se.ext hs.aF) ?_)));have aqA:=DL.flat (iE);refine aJ dY (aqA.ext hs.aF) (aD tK (hA.ext hs.aF) (bT (u).locks CJ hA rfl rfl (λ _ qt=>aD bL (qt.ext hs.aF) (aZ am0 hs (C114 u _ _ ⟨iD,gH,eY,(⟨((u).recover).aK,((u).recover).counts,dK⟩:cK),fh,rfl,(iE.ext hs.aF),(jo.ext hs.aF),(iY.ext hs.aF),⟨dK,rfl,(ij.ext hs.aF)⟩,(kV.ext hs.aF)⟩ hzu hb) (λ w2 he hs=>?_)))))
 refine ⟨fL pW hs.At,?_⟩;refine ⟨fL eu (Se.ext hs.aF),?_⟩;refine ⟨fL bL (qt.ext hs.aF),?_⟩;refine aZ amZ hs (C113 c _ _ _ _ _ ⟨um,rfl,(EP.ext hs.aF)⟩ hz) (λ w3 he hs=>cB ?_);exact ⟨rfl,hs.drop.aF⟩
set_option maxHeartbeats 4000000 in
theorem C51 (u:ib) (uv:dJ) (w:World) (hu:bZ.dr w uv u) (hz:UZ u):CR 51 [Flat.val uv] w (λ v w'=>v = .bool (nx u)∧Ext w w'):=by
 have hu0:=hu;obtain ⟨iD,gH,eY,sD,fh,rfl,iE,jo,iY,jO,kV⟩:=hu;obtain ⟨dK,rfl,ij⟩:=jO;have hs:=St.start w;refine aho _ _ _ ?_;unfold S51;refine dE hs (λ xO w1 hs=>?_);refine ⟨λ jv w'=>jv = .bool (kU u)∧St w bD [cE xO (Flat.enc (⟨iD,(u).stays,gH,(u).locks,eY,(⟨((u).recover).aK,((u).recover).counts,dK⟩:cK),fh⟩:dJ))] w',?_,?_⟩
 ·refine aA mz (aB eu hs.hb rfl ?_);have Wv:=DL.flat (iE);refine aJ dY (Wv.ext hs.aF) (dB (aC (λ kJ=>?_) (λ kJ=>?_)))
  ·exact ⟨vb (by unfold kU; grind),hs⟩
  ·refine aA lK (aB (v:=.int .i64 ((u).stays)) bL hs.hb rfl (aR (aC (λ me=>?_) (λ me=>?_))))
   ·exact ⟨vb (by unfold kU; grind),hs⟩
   ·refine aA lK (aB (v:=.int .i64 ((u).stays)) bL hs.hb rfl (aA mz (aB eu hs.hb rfl (aJ dY (Wv.ext hs.aF) (dB (aC (λ fQ=>?_) (λ fQ=>?_)))))))
    ·exact ⟨vb (by unfold kU; grind),hs⟩
    ·refine aA r8 (aB eu hs.hb rfl ?_);have aqB:=DL.flat (jo);refine aJ dY (aqB.ext hs.aF) (aA mz (aB eu hs.hb rfl (aJ dY (Wv.ext hs.aF) (cQ (aC (λ iC=>?_) (λ iC=>?_))))))
     ·exact ⟨vb (by unfold kU; grind),hs⟩
     ·refine aA CJ (aB (v:=.int .i64 ((u).locks)) bL hs.hb rfl (aR (aC (λ sq=>?_) (λ sq=>?_))))
      ·exact ⟨vb (by unfold kU; grind),hs⟩
      ·refine aA CJ (aB (v:=.int .i64 ((u).locks)) bL hs.hb rfl (dB (aC (λ sr=>?_) (λ sr=>?_))))
       ·exact ⟨vb (by unfold kU; grind),hs⟩
       ·refine aA r9 (aB FI hs.hb rfl ?_);obtain ⟨ts114,afZ,aqC⟩:=(iY).open;have hn114:=aqC.1;refine aJ Be (afZ.ext hs.aF) (aR (aC (λ pK=>?_) (λ pK=>?_)))
        ·exact ⟨vb (by unfold kU; grind),hs⟩
        ·refine aA r9 (aB FI hs.hb rfl (aJ Be (afZ.ext hs.aF) (dB ?_)));exact ⟨vb (by unfold kU; grind),hs⟩
 ·rintro _ w2 ⟨rfl,hs⟩ fy;refine aX (λ GR=>?_) (λ GR=>?_)
  ·have hs:=(hs).drop;refine ⟨vb ?_,hs.aF⟩;unfold nx;rw [GR]; rfl
  ·obtain ⟨Ir,hb2,hb3,hb4,hb5,hb6,hb7,hb8⟩:=N6 GR;have hzc:=hz.cC;have KW:=hz.threads;have hzf:=hz.cT;refine aA mz (aB eu hs.hb rfl ?_);have af1:=DL.flat (iE);refine aJ dY (af1.ext hs.aF) ?_;refine ⟨λ m y x w1=>∃ (k:Nat) (last:Int),y = .int .i64 last∧x = .int .i64 (k:Int)∧m=u.lines.length - k∧k≤u.lines.length∧last=lu u.lines k - 1∧(∀ j,j<k→j9 u j=false)∧St w bD [cE xO (Flat.enc (⟨iD,(u).stays,gH,(u).locks,eY,(⟨((u).recover).aK,((u).recover).counts,dK⟩:cK),fh⟩:dJ))] w1,⟨_,0,-1,rfl,rfl,rfl,Nat.zero_le _,rfl,by simp,hs⟩,?_⟩
   rintro m _ _ w3 ⟨k,last,rfl,rfl,rfl,hk,af2,ada,hs⟩ jB;refine aR (aC (λ su=>?_) (λ su=>?_))
   ·obtain ⟨GV,wx⟩:=gx ((u).lines) (i:=((k:Int)).toNat) (by omega);refine aQ dY af1 (by omega) wx (λ _ Eh=>?_)
    have hwb : -1≤last∧last≤(k:Int):=by
     by_cases h0:k=0
     ·subst h0; rw [af2]; unfold lu; simp
     ·obtain ⟨m,hm⟩:∃ m,u.lines[k - 1]? = some m:=⟨_,List.getElem?_eq_getElem (by omega)⟩;have h1:=EM ada (k - 1) m (by omega) hm;have h2:=EO hm;rw [show k - 1+1=k from by omega] at h2;omega
    refine aD bL (Eh.ext hs.aF) ?_;refine ⟨λ jv w'=>jv = .bool (decide (0<(k:Int)) && decide ((k:Int)<u.stays) && decide (GV=last))∧St w bD [cE xO (Flat.enc (⟨iD,(u).stays,gH,(u).locks,eY,(⟨((u).recover).aK,((u).recover).counts,dK⟩:cK),fh⟩:dJ))] w',?_,?_⟩
    ·refine dB (aC (λ oh=>?_) (λ oh=>?_))
     ·refine aA lK (aB (v:=.int .i64 ((u).stays)) bL hs.hb rfl (aR (aC (λ aqD=>?_) (λ aqD=>?_))))
      ·refine aH ?_;exact ⟨vb (by grind),hs⟩
      ·exact ⟨vb (by grind),hs⟩
     ·exact ⟨vb (by grind),hs⟩
    ·rintro _ w4 ⟨rfl,hs⟩ oS;refine ⟨λ jv w'=>jv = .bool (j9 u k)∧St w bD [cE xO (Flat.enc (⟨iD,(u).stays,gH,(u).locks,eY,(⟨((u).recover).aK,((u).recover).counts,dK⟩:cK),fh⟩:dJ))] w',?_,?_⟩
     ·refine cB (aX (λ Vr=>?_) (λ Vr=>?_))
      ·refine aO (by omega) (cQ ?_);exact ⟨vb (by rw [GZ (k:=k) wx]; grind),hs⟩
      ·exact ⟨vb (by rw [GZ (k:=k) wx]; grind),hs⟩
     ·rintro _ w5 ⟨rfl,hs⟩ GQ;refine aX (λ Ww=>?_) (λ Ww=>?_)
      ·have hs:=(hs).drop;refine ⟨vb ?_,hs.aF⟩;unfold nx;rw [rz (f:=j9 u) (j:=k) (by omega) Ww]; simp
      ·refine aO (by omega) ?_;exact ⟨_,by omega,k+1,GV,rfl,rfl,rfl,by omega,by rw [EO (k:=k) wx]; omega,zZ ada Ww,hs⟩
   ·have hL:(List.range u.lines.length).any (j9 u)=false:=nc (λ j hj=>ada j (by omega));have hsm:=Lw (u:=u) (λ j hj=>ada j (by omega));refine ⟨λ jv w'=>jv = .bool ((!u.cT.any lx) && (!u.threads.any (λ c=>!lr c u.lines.length (gq u) u.locks)) && lr u.recover u.lines.length (gq u) u.locks && (!u.cC.any (λ l=>!eL l u.stays)))∧St w bD [cE xO (Flat.enc (⟨iD,(u).stays,gH,(u).locks,eY,(⟨((u).recover).aK,((u).recover).counts,dK⟩:cK),fh⟩:dJ))] w',?_,?_⟩
    ·refine aA r8 (aB eu hs.hb rfl ?_);have aqE:=DL.flat (jo);have hf1:Cq w3 (.func (.func 111) #[] #[]) lx:=⟨111,[],[],rfl,amY,λ x w1 _=>C111 x w1⟩;refine aZ am2 hs (C117 _ _ _ lx _ (aqE.ext hs.aF) hf1 (by omega)) (λ w6 he hs=>cB (aX (λ Ws=>?_) (λ Ws=>?_)))
     ·refine aA r9 (aB FI hs.hb rfl ?_);have RF:n8 PG _ (.func (.func 112) [].toArray [.pointer (some ⟨xO,0,none⟩)].toArray) CZ (λ c=>!lr c u.lines.length (gq u) u.locks):=⟨112,[],_,rfl,aeA,λ s c w1 e1 hd hzc=>C112 c s u _ xO w1 hd (hs.At.ext e1) (bZ.ext hu0 (Ext.trans hs.aF e1)) hzc hz hsm⟩;refine aZ am3 hs (C118 _ _ _ CZ (λ c=>!lr c u.lines.length (gq u) u.locks) _ (iY.ext hs.aF) RF hz.th (by omega)) (λ w7 he hs=>cB (aX (λ Ec=>?_) (λ Ec=>?_)))
      ·refine aA zA (uO (⟨((u).recover).aK,((u).recover).counts,dK⟩:cK) pW hs.hb rfl (gd (first:=[]) (cap:=[.pointer (some ⟨xO,0,none⟩)]) aeA (C112 u.recover _ u _ xO _ ⟨dK,rfl,(ij.ext hs.aF)⟩ hs.At (bZ.ext hu0 hs.aF) hz.rc hz hsm) ?_));rintro _ w8 ⟨rfl,he⟩;have hs:=hs.ext he;refine cB (aX (λ N9=>?_) (λ N9=>?_))
       ·refine aA xb (aB RQ hs.hb rfl ?_);have hf3:n8 PG _ (.func (.func 115) [].toArray [.pointer (some ⟨xO,0,none⟩)].toArray) (λ l:List nt=>l.length≤1000) (λ l=>!eL l u.stays):=⟨115,[],_,rfl,am1,λ s l w1 e1 hd hl=>C115 _ l xO u.stays w1 (DL.flat hd) ((hs.hb.cell rfl).ext e1) hl⟩;refine aZ am4 hs (C119 _ _ _ (λ l:List nt=>l.length≤1000) (λ l=>!eL l u.stays) _ (kV.ext hs.aF) hf3 hz.cl (by omega)) (λ w9 he hs=>cB ?_);exact ⟨vb (by grind),hs⟩
       ·exact ⟨vb (by grind),hs⟩
      ·exact ⟨vb (by grind),hs⟩
     ·exact ⟨vb (by grind),hs⟩
    ·rintro _ pS ⟨rfl,hs⟩ R4;have hs:=(hs).drop;refine ⟨vb ?_,hs.aF⟩;unfold nx;rw [GR,hL];simp only [Bool.not_false,Bool.true_and,Bool.and_true];cases u.cT.any lx <;> cases u.threads.any (λ c=>!lr c u.lines.length (gq u) u.locks) <;> cases u.cC.any (λ l=>!eL l u.stays) <;> cases lr u.recover u.lines.length (gq u) u.locks <;> rfl
theorem Wx {α:Type} {t1 d:List α} {e y y2:α} {k:Nat} (hk:t1.length=k):((t1++e::d).set k y).set k y2=t1++[y2]++d:=by
 subst hk
 rw [List.set_append_right _ _ (Nat.le_refl _),Nat.sub_self,List.set_cons_zero,List.set_append_right _ _ (Nat.le_refl _),Nat.sub_self,List.set_cons_zero]; simp
theorem set_self? {α:Type} {l:List α} {k:Nat} {y e:α} (h:(l.set k y)[k]? = some e):e=y:=by
 have hk:=(List.getElem?_eq_some_iff.1 h).1
 rw [List.length_set] at hk
 rw [List.getElem?_set_self hk] at h
 exact (Option.some.inj h).symm
theorem Sf {α:Type} (l:List α) (n:Nat):l.take (min (l.length:Int) n).toNat=l.take n:=by
 rcases Nat.lt_or_ge l.length n with h | h
 ·rw [List.take_of_length_le (by omega),List.take_of_length_le (by omega)]
 ·rw [show (min (l.length:Int) n).toNat=n from by omega]
theorem C121 (sv:Value) (xs:List nt) (w:World) (hL:eJ (λ _=>True) w sv xs) (hn:xs.length≤1000000):CR 121 [sv] w (λ v w'=>lY (bK v xs) w w'):=by
 have hs:=St.start w;refine Zn _ _ _ ?_;unfold S121;refine xf Tryz.underlying99 (hL.ext hs.aF) (λ p hp=>aX (λ pI=>?_) (λ pI=>?_))
 ·have hx:=hp pI;subst hx;exact (hs.fU (α:=nt)).fresh
 ·refine bW (([]:List nt)) hs vA rfl rfl (eI rfl) (λ Iy w1 hs=>?_);have z7:=(hL.ext hs.aF);refine cN hs vA z7 (by simp; omega) (by decide) (λ Lc w2 hs=>?_);exact hs.fresh
theorem C70 (sv:Value) (xs:List Int) (w:World) (hL:eJ (λ _=>True) w sv xs) (hn:xs.length≤1000000):CR 70 [sv] w (λ v w'=>lY (bK v xs) w w'):=by
 have hs:=St.start w;refine ahH _ _ _ ?_;unfold S70;refine xf Tryz.underlying28 (hL.ext hs.aF) (λ p hp=>aX (λ pI=>?_) (λ pI=>?_))
 ·have hx:=hp pI;subst hx;exact (hs.fU (α:=Int)).fresh
 ·refine bW (([]:List Int)) hs dY rfl rfl (eI rfl) (λ Iy w1 hs=>?_);have z7:=(hL.ext hs.aF);refine cN hs dY z7 (by simp; omega) (by decide) (λ Lc w2 hs=>?_);exact hs.fresh
theorem C188 (sv:Value) (xs:List bU) (w:World) (hL:eJ (λ _=>True) w sv xs) (hn:xs.length≤1000000):CR 188 [sv] w (λ v w'=>lY (bK v xs) w w'):=by
 have hs:=St.start w;refine aae _ _ _ ?_;unfold S188;refine xf Tryz.underlying31 (hL.ext hs.aF) (λ p hp=>aX (λ pI=>?_) (λ pI=>?_))
 ·have hx:=hp pI;subst hx;exact (hs.fU (α:=bU)).fresh
 ·refine bW (([]:List bU)) hs kP rfl rfl (eI rfl) (λ Iy w1 hs=>cN hs kP (hL.ext hs.aF) (by simp; omega) (by decide) (λ Lc w2 hs=>?_));exact hs.fresh
set_option maxHeartbeats 4000000 in
theorem C120 (c:fm) (cv:cK) (w:World) (hc:bZ.dr w cv c) (hz:CZ c):CR 120 [Flat.val cv] w (λ v w'=>∃ cv':cK,v=Flat.val cv'∧lY (eU (λ w=>bZ.dr w cv' c)) w w'):=by
 obtain ⟨um,rfl,EP⟩:=hc;obtain ⟨Sg,hRA,hDA⟩:=(EP).open;have hnA:=hDA.1;have hzl:=hz.l;have hs:=St.start w;refine Zm _ _ _ ?_;unfold S120;refine dE hs (λ aye w1 hs=>aN hs H9 (λ mc w2 hs=>have hs:=hs.enc (cs':=Flat.enc (⟨0,0,⟨none,0,0⟩⟩:cK)) rfl;aA my (aB uL hs.p1.hb rfl (cZ anv hs (C188 _ Sg _ (hRA.ext hs.aF) (by omega)) (λ x6 w3 bY hs=>aA my ?_)))));obtain ⟨yf,rfl⟩:=(hs).fR;refine aV hs.p2 uL (eI rfl) (rfl) (λ w4 hs=>have hs:=hs.enc (cs':=Flat.enc (⟨(c).aK,(c).counts,yf⟩:cK)) rfl;aA my (aB (v:=Flat.val (yf:SV)) uL hs.hb rfl (aJ kP (hs.p1).fB ?_)))
 have hs:=hs.gF (Φ:=jS ([]:List bU) ([]:List aW)) (λ _=>jS.nil);have hs:=hs.p3.p1.p3.p3;refine ⟨λ m x w1=>∃ (k:Nat) (t1:List bU),x = .int .i64 (k:Int)∧m=Sg.length - k∧k≤Sg.length∧t1.length=k∧St w bD [cE aye (Flat.enc (⟨(c).aK,(c).counts,yf⟩:cK)),bK (Flat.val yf) (t1++Sg.drop k),eU (jS t1 (c.l.take k)),cE mc (Flat.enc (⟨0,0,⟨none,0,0⟩⟩:cK))] w1,⟨_,0,[],rfl,rfl,Nat.zero_le _,rfl,hs⟩,?_⟩;rintro m _ w5 ⟨k,t1,rfl,rfl,hk,ht1,hs⟩ fy;refine aR (aC (λ jZ=>?_) (λ jZ=>?_))
 ·obtain ⟨e0,he0⟩:∃ e,Sg[k]? = some e:=⟨_,List.getElem?_eq_getElem (by omega)⟩;obtain ⟨r0,hr0⟩:∃ r,c.l[k]? = some r:=⟨_,List.getElem?_eq_getElem (by omega)⟩;obtain ⟨ge,gf,rfl,hE,hF⟩:=hDA.2 k _ _ he0 hr0;have hdc:=drop_cons he0;obtain ⟨Lz,ajZ,QE⟩:∃ e,e=(⟨r0.kind,r0.a,r0.b,ge,gf,r0.to⟩:bU)∧(t1++Sg.drop k)[((k:Int)).toNat]? = some e:=⟨_,rfl,by show (t1++Sg.drop k)[k]? = _; rw [List.getElem?_append_right (by omega),ht1,Nat.sub_self,List.getElem?_drop,Nat.add_zero]; exact he0⟩;have hfE:eJ (λ _=>True) w (Flat.val Lz.e) r0.e:=by rw [ajZ]; exact DL.flat hE
  have hfF:eJ (λ _=>True) w (Flat.val Lz.f) r0.f:=by rw [ajZ]; exact DL.flat hF
  have hzz:=hz.ef _ (List.mem_of_getElem? hr0);have hlL:(t1++Sg.drop k).length=Sg.length:=by rw [List.length_append,List.length_drop]; omega
  refine aA my (have hs:=hs.drew;aB (v:=Flat.val (yf:SV)) uL hs.hb rfl (aA my (aB (v:=Flat.val (yf:SV)) uL hs.hb rfl (aA my (aB (v:=Flat.val (yf:SV)) uL hs.hb rfl (dR hs.p1 kP (by omega) (by omega) (λ _ pJ=>m8 tO pJ (λ _ v9=>nY (Lz).e hs.p1 xG v9 QE rfl (aA my (aB (v:=Flat.val (yf:SV)) uL hs.hb rfl (dR hs.p1 kP (by omega) (by omega) (λ _ oe=>m8 tP oe (λ _ oG=>?_)))))))))))));refine nY (Lz).f hs.p1 xG oG QE rfl (cZ T1 hs (C121 _ _ _ (hfE.ext hs.aF) (by omega)) (λ x26 w6 bY hs=>?_))
  refine ⟨aG uL (hs.p1.hb.cell rfl),?_⟩;refine ⟨aG uL (hs.p1.hb.cell rfl),?_⟩;refine ⟨aG uL (hs.p1.hb.cell rfl),?_⟩;refine ⟨UG (Lz).f hs.p2 xG oG QE rfl,?_⟩;refine cZ T1 hs (C121 _ _ _ (hfF.ext hs.aF) (by omega)) (λ x33 w7 bY hs=>?_);refine ⟨aG uL (hs.p2.hb.cell rfl),?_⟩;refine ⟨aG uL (hs.p2.hb.cell rfl),?_⟩;refine dR hs.p3 kP (by omega) (by omega) (λ _ rE=>m8 tO rE (λ _ zR=>?_));obtain ⟨yM,rfl⟩:=(hs.p1).fR;refine Ks {Lz with e:=yM} (yM:SV) hs.p3 xG zR QE (by decide) rfl (λ w8 hs=>?_);refine ⟨aG uL (hs.p3.hb.cell rfl),?_⟩
  have hlS:((((t1++Sg.drop k)).set ((k:Int)).toNat {Lz with e:=yM})).length=Sg.length:=by rw [List.length_set]; exact hlL
  obtain ⟨af4,ES⟩:=gx ((((t1++Sg.drop k)).set ((k:Int)).toNat {Lz with e:=yM})) (i:=((k:Int)).toNat) (by omega);refine dR hs kP (by omega) (by omega) (λ _ ua=>m8 tP ua (λ _ zY=>?_));obtain ⟨wC,rfl⟩:=(hs.p1).fR;refine Ks {af4 with f:=wC} (wC:SV) hs xG zY ES (by decide) rfl (λ w9 hs=>aO (by omega) ?_);have ayg:=set_self? (k:=k) ES;have hs:=hs.p2.freeze.p2.freeze.p1.fM.p3.fM.dN (Ψ:=jS (t1++[(⟨r0.kind,r0.a,r0.b,yM,wC,r0.to⟩:bU)]) (c.l.take (k+1))) (λ w h=>by rw [← gX (k:=k) hr0]; exact h.1.snoc ⟨_,_,rfl,DL.fp h.2.1,DL.fp h.2.2⟩)
  have hs:=hs.p3.p1.p3.p3.aoE (ys:=t1++[(⟨r0.kind,r0.a,r0.b,yM,wC,r0.to⟩:bU)]++Sg.drop (k+1)) (by rw [hdc]; exact (Wx ht1).trans (by rw [ayg,ajZ]));have hs:=hs.p1;exact ⟨_,by omega,k+1,t1++[(⟨r0.kind,r0.a,r0.b,yM,wC,r0.to⟩:bU)],rfl,rfl,by omega,by rw [List.length_append,List.length_singleton]; omega,hs⟩
 ·rw [List.drop_eq_nil_of_le (by omega),List.append_nil,List.take_of_length_le (by omega)] at hs;have hs:=hs.p2.p2.DO;refine aD pW hs.p1.At (aI (x:=(⟨(c).aK,(c).counts,yf⟩:cK)) hs.p2 pW rfl rfl (λ pS hs=>aD pW hs.At ?_));have hs:=hs.p1.jJ.dN (Ψ:=(λ w=>bZ.dr w (⟨(c).aK,(c).counts,yf⟩:cK) (⟨(c).aK,(c).counts,c.l⟩:fm))) (λ w h=>⟨_,rfl,h⟩);have hs:=((hs.p1.drop).p1).drop;exact ⟨_,rfl,hs.fresh⟩
set_option maxHeartbeats 4000000 in
theorem C53 (u:ib) (uv:dJ) (w:World) (hu:bZ.dr w uv u) (hz:UZ u):CR 53 [Flat.val uv] w (λ v w'=>∃ uv':dJ,v=Flat.val uv'∧lY (eU (λ w=>bZ.dr w uv' u)) w w'):=by
 obtain ⟨iD,gH,eY,sD,fh,rfl,iE,jo,iY,jO,kV⟩:=hu;obtain ⟨dK,rfl,ij⟩:=jO;have hs:=St.start w;refine ahq _ _ _ ?_;unfold S53;refine dE hs (λ xO w1 hs=>aN hs vP (λ mc w2 hs=>have hs:=hs.enc (cs':=Flat.enc (⟨⟨none,0,0⟩,0,⟨none,0,0⟩,0,⟨none,0,0⟩,(⟨0,0,⟨none,0,0⟩⟩:cK),⟨none,0,0⟩⟩:dJ)) rfl;aA mz ?_));have hs:=hs.drew;have hzl:=hz.lines;have hzf:=hz.cT;have KW:=hz.threads;have hzc:=hz.cC;refine aB eu hs.p1.hb rfl ?_;have aqG:=DL.flat (iE);refine aA r8 (aB eu hs.p1.hb rfl ?_)
 have aqH:=DL.flat (jo);refine aA zA (uO (⟨((u).recover).aK,((u).recover).counts,dK⟩:cK) pW hs.p1.hb rfl (cZ zp hs (C70 _ _ _ (aqG.ext hs.aF) (by omega)) (λ x11 w3 bY hs=>?_)));refine ⟨aG eu (hs.p2.hb.cell rfl),?_⟩;refine ⟨It (⟨((u).recover).aK,((u).recover).counts,dK⟩:cK) pW hs.p2.hb rfl,?_⟩;refine aA mz (cZ zp hs (C70 _ _ _ (aqH.ext hs.aF) (by omega)) (λ x14 w4 bY hs=>?_));refine ⟨It (⟨((u).recover).aK,((u).recover).counts,dK⟩:cK) pW hs.p3.hb rfl,?_⟩;refine eD aeB (C120 (u).recover _ _ ⟨dK,rfl,(ij.ext hs.aF)⟩ hz.rc) ?_
 rintro _ w5 ⟨sZ,rfl,bY⟩;have hs:=hs.made bY;obtain ⟨mj,rfl⟩:=(hs.p2).fR;refine aV hs.p4 eu (eI rfl) (rfl) (λ w6 hs=>have hs:=hs.enc (cs':=Flat.enc (⟨mj,(u).stays,gH,(u).locks,eY,(⟨((u).recover).aK,((u).recover).counts,dK⟩:cK),fh⟩:dJ)) rfl;aA r8 ?_);obtain ⟨oq,rfl⟩:=(hs.p2).fR;refine aV hs eu (eI rfl) (rfl) (λ w7 hs=>have hs:=hs.enc (cs':=Flat.enc (⟨mj,(u).stays,oq,(u).locks,eY,(⟨((u).recover).aK,((u).recover).counts,dK⟩:cK),fh⟩:dJ)) rfl;aA zA (pq (vs:=Flat.enc sZ) hs pW rfl (eI rfl) (Flat.one _) (λ w8 hs=>have hs:=hs.enc (cs':=Flat.enc (⟨mj,(u).stays,oq,(u).locks,eY,sZ,fh⟩:dJ)) rfl;aA r9 (aB (v:=Flat.val (eY:SV)) FI hs.hb rfl ?_))))
 obtain ⟨aqI,af5,af6⟩:=(iY).open;have hn119:=af6.1;refine aJ Be (af5.ext hs.aF) ?_;have hs:=((((((hs.xI (α:=fm)).p5).p3).p4).p5).p5).p5;refine ⟨λ m tD x w1=>∃ k:Nat,x = .int .i64 (k:Int)∧m=u.threads.length - k∧k≤u.threads.length∧St w bD [fj tD (u.threads.take k),cE xO (Flat.enc (⟨mj,(u).stays,oq,(u).locks,eY,sZ,fh⟩:dJ)),bK (Flat.val mj) ((u).lines),bK (Flat.val oq) ((u).cT),eU (λ w=>bZ.dr w sZ ((u).recover)),cE mc (Flat.enc (⟨⟨none,0,0⟩,0,⟨none,0,0⟩,0,⟨none,0,0⟩,(⟨0,0,⟨none,0,0⟩⟩:cK),⟨none,0,0⟩⟩:dJ))] w1,⟨_,0,rfl,rfl,Nat.zero_le _,hs⟩,?_⟩
 rintro m tD _ w9 ⟨k,rfl,rfl,hk,hs⟩ fy;refine aR (aC (λ fQ=>?_) (λ fQ=>?_))
 ·obtain ⟨apk,Br⟩:=gx aqI (i:=((k:Int)).toNat) (by omega);obtain ⟨z8,Bs⟩:=gx ((u).threads) (i:=((k:Int)).toNat) (by omega);obtain ⟨QF,rfl,adb⟩:=af6.2 _ _ _ Br Bs;refine aQ Be af5 (by omega) Br (λ _ rk=>aD pW (rk.ext hs.aF) (aN hs H9 (λ ajB pS hs=>have hs:=hs.enc (cs':=Flat.enc (⟨0,0,⟨none,0,0⟩⟩:cK)) rfl;aI (x:=(⟨(z8).aK,(z8).counts,QF⟩:cK)) hs pW rfl rfl (λ sU hs=>aD pW hs.At (eD aeB (C120 z8 _ _ ⟨QF,rfl,(adb.ext hs.aF)⟩ (hz.th _ (List.mem_of_getElem? Bs))) ?_)))));rintro _ vm ⟨aj0,rfl,bY⟩;have hs:=hs.made bY
  refine eK (s:=aj0) (x:=(z8)) hs Be (by decide) (λ VA vn hs=>have hs:=hs.p2;ee hs Be (by rw [List.length_take,List.length_singleton]; omega) (by decide) (λ VW sm hs=>aO (by omega) ?_));have hs:=(hs.p1.drop.p5.p5.p5.p5.p5).p5;exact ⟨_,by omega,k+1,rfl,rfl,by omega,by rw [← gX (k:=k) Bs]; exact hs⟩
 ·rw [List.take_of_length_le (by omega)] at hs;refine aA xb (aB (v:=Flat.val (fh:SV)) RQ hs.p1.hb rfl ?_);obtain ⟨aqJ,af7,af8⟩:=(kV).open;have hn120:=af8.1;refine aJ FJ (af7.ext hs.aF) ?_;have hs:=(((((((hs.xI (α:=(List nt))).p6).p6).p6).p6).p6).p6).p6;refine ⟨λ m zo x w1=>∃ q:Nat,x = .int .i64 (q:Int)∧m=u.cC.length - q∧q≤u.cC.length∧St w bD [fj zo (u.cC.take q),fj tD u.threads,cE xO (Flat.enc (⟨mj,(u).stays,oq,(u).locks,eY,sZ,fh⟩:dJ)),bK (Flat.val mj) ((u).lines),bK (Flat.val oq) ((u).cT),eU (λ w=>bZ.dr w sZ ((u).recover)),cE mc (Flat.enc (⟨⟨none,0,0⟩,0,⟨none,0,0⟩,0,⟨none,0,0⟩,(⟨0,0,⟨none,0,0⟩⟩:cK),⟨none,0,0⟩⟩:dJ))] w1,⟨_,0,rfl,rfl,Nat.zero_le _,hs⟩,?_⟩
  rintro m zo _ v7 ⟨q,rfl,rfl,hq,hs⟩ jB;refine aR (aC (λ nd=>?_) (λ nd=>?_))
  ·obtain ⟨qu,qa⟩:=gx aqJ (i:=((q:Int)).toNat) (by omega);obtain ⟨Wy,ET⟩:=gx ((u).cC) (i:=((q:Int)).toNat) (by omega);have aqK:DL w (Flat.val qu) Wy:=af8.2 _ _ _ qa ET;refine aQ FJ af7 (by omega) qa (λ _ ud=>aD xG (ud.ext hs.aF) ?_);have aqL:=DL.flat (aqK);have hzk:=hz.cl _ (List.mem_of_getElem? ET);refine cZ T1 hs (C121 _ _ _ (aqL.ext hs.aF) (by omega)) (λ x43 yZ bY hs=>?_);obtain ⟨BA,rfl⟩:=(hs).fR;have hs:=hs.freeze.dN (Ψ:=λ w=>bZ.dr w BA ((Wy))) (λ w h=>DL.fp h);refine eK (s:=BA) (x:=(Wy)) hs FJ (by decide) (λ apP Cp hs=>have hs:=hs.p1;ee hs FJ (by rw [List.length_take,List.length_singleton]; omega) (by decide) (λ Wk Iv hs=>aO (by omega) ?_))
   have hs:=hs.p6.p6.p6.p6.p6.p6.p6;exact ⟨_,by omega,q+1,rfl,rfl,by omega,by rw [← gX (k:=q) ET]; exact hs⟩
  ·rw [List.take_of_length_le (by omega)] at hs;refine aA r9 ?_;obtain ⟨sE,rfl⟩:=(hs.p1).lP;refine aV hs.p2 FI (eI rfl) (rfl) (λ Jy hs=>have hs:=hs.enc (cs':=Flat.enc (⟨mj,(u).stays,oq,(u).locks,sE,sZ,fh⟩:dJ)) rfl;aA xb ?_);obtain ⟨yN,rfl⟩:=(hs.p1).lP;refine aV hs RQ (eI rfl) (rfl) (λ KG hs=>have hs:=hs.enc (cs':=Flat.enc (⟨mj,(u).stays,oq,(u).locks,sE,sZ,yN⟩:dJ)) rfl;aD tK hs.At (aI (x:=(⟨mj,(u).stays,oq,(u).locks,sE,sZ,yN⟩:dJ)) hs.p6 tK rfl rfl (λ MH hs=>aD tK hs.At ?_)))
   have hs:=hs.p4.freeze.p5.freeze.p1.fM.p4.jJ.p1.fM.p4.p1.fM.p3.jJ.p1.fM.dN (Ψ:=(λ w=>bZ.dr w (⟨mj,(u).stays,oq,(u).locks,sE,sZ,yN⟩:dJ) (⟨((u).lines),(u).stays,((u).cT),(u).locks,(u).threads,((u).recover),(u).cC⟩:ib))) (λ w h=>⟨_,_,_,_,_,rfl,DL.fp h.1.1.1.1,DL.fp h.1.1.1.2,h.1.1.2,h.1.2,h.2⟩);have hs:=((hs.p1.drop).p1).drop;exact ⟨_,rfl,hs.fresh⟩
def td (x y:bJ):Bool:=decide (x.kind≠7∧y.kind≠7∧(x.kind=6∨y.kind=6)∧x.line≠y.line)
def right (x:bJ):Bool:=decide ((x.kind=3∧0≤x.line∧0≤x.cell)∨((x.kind=5∨x.kind=6)∧0≤x.line∧x.cell=0∧x.n=0)∨(x.kind=7∧x.line=0∧x.cell=0∧x.n=0))
theorem C191 (x y:bJ) (w:World):CR 191 [Flat.val x,Flat.val y] w (λ v w'=>v = .bool (td x y)∧Ext w w'):=by
 have hs:=St.start w;refine aah _ _ _ _ ?_;unfold S191;refine dE hs (λ mc w1 hs=>dE hs (λ Wz w2 hs=>?_));refine ⟨_,?_,λ _ _ h=>h⟩;refine aA pA (aB bL hs.p1.hb rfl (aH (aC (λ gp=>?_) (λ gp=>?_))))
 ·intro fy;refine ⟨_,?_,λ _ _ h=>h⟩;refine cB (fP ?_);intro jB;refine ⟨vb ?_,hs.aF⟩;unfold td
  first | exact (decide_eq_true (by omega)).symm | exact (decide_eq_false (by omega)).symm | exact decide_eq_decide.2 (by omega) | exact decide_eq_decide.2 (bJ.ext_iff.trans (by dsimp only; omega))
 ·refine aA pA (aB bL hs.hb rfl (aH ?_));intro fy;refine ⟨_,?_,λ _ _ h=>h⟩
  first | refine Ds ?_ | refine cB ?_
  refine aC (λ jm=>?_) (λ jm=>?_)
  ·refine aA pA (aB bL hs.p1.hb rfl (aH (aC (λ fw=>?_) (λ fw=>?_))))
   ·refine aA kZ (aB bL hs.p1.hb rfl (aA kZ (aB bL hs.hb rfl (cQ ?_))));intro jB;refine ⟨vb ?_,hs.aF⟩;unfold td
    first | exact (decide_eq_true (by omega)).symm | exact (decide_eq_false (by omega)).symm | exact decide_eq_decide.2 (by omega) | exact decide_eq_decide.2 (bJ.ext_iff.trans (by dsimp only; omega))
   ·refine aA pA (aB bL hs.hb rfl (aH (aC (λ iO=>?_) (λ iO=>?_))))
    ·refine aA kZ (aB bL hs.p1.hb rfl (aA kZ (aB bL hs.hb rfl (cQ ?_))));intro jB;refine ⟨vb ?_,hs.aF⟩;unfold td
     first | exact (decide_eq_true (by omega)).symm | exact (decide_eq_false (by omega)).symm | exact decide_eq_decide.2 (by omega) | exact decide_eq_decide.2 (bJ.ext_iff.trans (by dsimp only; omega))
    ·intro jB;refine ⟨vb ?_,hs.aF⟩;unfold td
     first | exact (decide_eq_true (by omega)).symm | exact (decide_eq_false (by omega)).symm | exact decide_eq_decide.2 (by omega) | exact decide_eq_decide.2 (bJ.ext_iff.trans (by dsimp only; omega))
  ·intro jB;refine ⟨vb ?_,hs.aF⟩;unfold td
   first | exact (decide_eq_true (by omega)).symm | exact (decide_eq_false (by omega)).symm | exact decide_eq_decide.2 (by omega) | exact decide_eq_decide.2 (bJ.ext_iff.trans (by dsimp only; omega))
theorem eqE (x y:bJ):zy (Flat.enc x) (Flat.enc y)=decide (x=y):=by
 obtain ⟨a,b,c,d⟩:=x
 obtain ⟨a2,b2,c2,d2⟩:=y
 simp [Flat.enc,zy,eqV,Bool.eq_iff_iff]
theorem C226 (x:bJ) (w:World):CR 226 [Flat.val x] w (λ v w'=>v = .bool (right x)∧Ext w w'):=by
 have hs:=St.start w;refine aaJ _ _ _ ?_;unfold S226;refine dE hs (λ Vb w1 hs=>aA pA (aB bL hs.hb rfl (aH (aC (λ oC=>?_) (λ oC=>?_)))))
 ·refine ⟨_,?_,λ _ _ h=>h⟩;refine aA kZ (aB bL hs.hb rfl (dF (aC (λ gv=>?_) (λ gv=>?_))))
  ·refine aA nU (aB bL hs.hb rfl (dF ?_));intro fy;refine ⟨vb ?_,hs.aF⟩;unfold right
   first | exact (decide_eq_true (by omega)).symm | exact (decide_eq_false (by omega)).symm | exact decide_eq_decide.2 (by omega) | exact decide_eq_decide.2 (bJ.ext_iff.trans (by dsimp only; omega))
  ·intro fy;refine ⟨vb ?_,hs.aF⟩;unfold right
   first | exact (decide_eq_true (by omega)).symm | exact (decide_eq_false (by omega)).symm | exact decide_eq_decide.2 (by omega) | exact decide_eq_decide.2 (bJ.ext_iff.trans (by dsimp only; omega))
 ·refine ⟨_,?_,λ _ _ h=>h⟩;refine aH (aC (λ eB=>?_) (λ eB=>?_))
  ·intro jB;refine aC (λ jm=>?_) (λ jm=>?_)
   ·refine ⟨_,?_,λ _ _ h=>h⟩;refine aA kZ (aB bL hs.hb rfl (dF (aC (λ jy=>?_) (λ jy=>?_))))
    ·refine aA nU (aB bL hs.hb rfl (aH (aC (λ iB=>?_) (λ iB=>?_))))
     ·refine aA mX (aB bL hs.hb rfl (aH ?_));intro oS;refine ⟨vb ?_,hs.aF⟩;unfold right
      first | exact (decide_eq_true (by omega)).symm | exact (decide_eq_false (by omega)).symm | exact decide_eq_decide.2 (by omega) | exact decide_eq_decide.2 (bJ.ext_iff.trans (by dsimp only; omega))
     ·intro oS;refine ⟨vb ?_,hs.aF⟩;unfold right
      first | exact (decide_eq_true (by omega)).symm | exact (decide_eq_false (by omega)).symm | exact decide_eq_decide.2 (by omega) | exact decide_eq_decide.2 (bJ.ext_iff.trans (by dsimp only; omega))
    ·intro oS;refine ⟨vb ?_,hs.aF⟩;unfold right
     first | exact (decide_eq_true (by omega)).symm | exact (decide_eq_false (by omega)).symm | exact decide_eq_decide.2 (by omega) | exact decide_eq_decide.2 (bJ.ext_iff.trans (by dsimp only; omega))
   ·refine aD kY hs.At (pop (Kq _) (lz Uw rfl rfl (eqE x ⟨7,0,0,0⟩) ?_));refine ⟨vb ?_,hs.aF⟩;unfold right
    first | exact (decide_eq_true (by omega)).symm | exact (decide_eq_false (by omega)).symm | exact decide_eq_decide.2 (by omega) | exact decide_eq_decide.2 (bJ.ext_iff.trans (by dsimp only; omega))
  ·refine aH ?_;intro jB;refine aC (λ jm=>?_) (λ jm=>?_)
   ·refine ⟨_,?_,λ _ _ h=>h⟩;refine aA kZ (aB bL hs.hb rfl (dF (aC (λ jy=>?_) (λ jy=>?_))))
    ·refine aA nU (aB bL hs.hb rfl (aH (aC (λ iB=>?_) (λ iB=>?_))))
     ·refine aA mX (aB bL hs.hb rfl (aH ?_));intro oS;refine ⟨vb ?_,hs.aF⟩;unfold right
      first | exact (decide_eq_true (by omega)).symm | exact (decide_eq_false (by omega)).symm | exact decide_eq_decide.2 (by omega) | exact decide_eq_decide.2 (bJ.ext_iff.trans (by dsimp only; omega))
     ·intro oS;refine ⟨vb ?_,hs.aF⟩;unfold right
      first | exact (decide_eq_true (by omega)).symm | exact (decide_eq_false (by omega)).symm | exact decide_eq_decide.2 (by omega) | exact decide_eq_decide.2 (bJ.ext_iff.trans (by dsimp only; omega))
    ·intro oS;refine ⟨vb ?_,hs.aF⟩;unfold right
     first | exact (decide_eq_true (by omega)).symm | exact (decide_eq_false (by omega)).symm | exact decide_eq_decide.2 (by omega) | exact decide_eq_decide.2 (bJ.ext_iff.trans (by dsimp only; omega))
   ·refine aD kY hs.At (pop (Kq _) (lz Uw rfl rfl (eqE x ⟨7,0,0,0⟩) ?_));refine ⟨vb ?_,hs.aF⟩;unfold right
    first | exact (decide_eq_true (by omega)).symm | exact (decide_eq_false (by omega)).symm | exact decide_eq_decide.2 (by omega) | exact decide_eq_decide.2 (bJ.ext_iff.trans (by dsimp only; omega))
def te (l:List bJ) (i:Int):Bool:=decide (0≤i∧i<l.length) && (match l[i.toNat]? with | some x=>(l.take i.toNat).all (td x) | none=>false)
def Ak (l:List bJ):List Int:=((List.range l.length).map fun (k:Nat)=>(k:Int)).filter (te l)
theorem uo {l:List bJ} {i:Int} (h:i<0∨(l.length:Int)≤i):te l i=false:=by
 unfold te
 have:decide (0≤i∧i<l.length)=false:=by rw [decide_eq_false_iff_not]; omega
 rw [this]; rfl
theorem ade {l:List bJ} {i:Int} {x:bJ} (h0:0≤i) (h1:i<l.length) (hx:l[i.toNat]? = some x):te l i = !(l.take i.toNat).any λ y=>!td x y:=by
 unfold te
 rw [hx,decide_eq_true (show 0≤i∧i<l.length from ⟨h0,h1⟩)]
 simp [List.all_eq_not_any_not]
def tf (l:List bJ) (k:Nat):List Int:=((List.range k).map fun (k:Nat)=>(k:Int)).filter (te l)
theorem G3 (l:List bJ) (k:Nat):(tf l k).length≤k:=by
 unfold tf
 have:=List.length_filter_le (te l) ((List.range k).map fun (k:Nat)=>(k:Int)); simpa using this
theorem Ob {l:List bJ} {k:Nat} (h:te l k=true):tf l (k+1)=tf l k++[(k:Int)]:=by
 unfold tf; rw [List.range_succ,List.map_append,List.filter_append]; simp [h]
theorem Sh {l:List bJ} {k:Nat} (h:te l k=false):tf l (k+1)=tf l k:=by
 unfold tf; rw [List.range_succ,List.map_append,List.filter_append]; simp [h]
theorem EU (l:List bJ) {k:Nat} (h:k=l.length):tf l k=Ak l:=by subst h; rfl
def wD (w:World) (p:Nat) (room:Int) (l:List bJ):Prop:=∃ sv,Cell w p 0 (.int .i64 room)∧Cell w p 1 sv∧eJ (λ _=>True) w sv l
def nK (p:Nat) (room:Int) (l:List bJ):HP:=tW λ sv=>sep (cE p [.int .i64 room,sv]) (bK sv l)
theorem wD.ext {w w':World} {p:Nat} {room:Int} {l:List bJ} (h:wD w p room l) (e:Ext w w'):wD w' p room l:=by
 obtain ⟨sv,h1,h2,h3⟩:=h; exact ⟨sv,h1.ext e,h2.ext e,h3.ext e⟩
theorem nK.rd {w:World} {F:Nat→Prop} {p:Nat} {room:Int} {l:List bJ} (h:(nK p room l).p w F):wD w p room l:=by
 obtain ⟨sv,F1,F2,h1,h2,_⟩:=h
 exact ⟨sv,h1.1.cell rfl,h1.1.cell rfl,(bK.rd h2).mono λ _ _=>trivial⟩
theorem C224 (sv fv:Value) (xs:List bJ) (g:bJ→Bool) (w:World) (hL:eJ (λ _=>True) w sv xs) (hf:Cq w fv g) (hn:xs.length≤1073741824):CR 224 [sv,fv] w (λ v w'=>v = .int .i64 (uQ g xs)∧Ext w w'):=by
 obtain ⟨g0,first,cap,rfl,vj,l4⟩:=hf;have hs:=St.start w;refine aaH _ _ _ _ ?_;unfold S224;refine aJ oO (hL.ext hs.aF) ?_;refine ⟨λ m x w1=>∃ k:Nat,x = .int .i64 (k:Int)∧m=xs.length - k∧k≤xs.length∧(∀ y∈xs.take k,g y=false)∧St w bD [] w1,⟨_,0,rfl,rfl,Nat.zero_le _,by simp,hs⟩,?_⟩;rintro m _ w1 ⟨k,rfl,rfl,hk,fS,hs⟩ fy;refine aR (aC (λ gv=>?_) (λ gv=>?_))
 ·obtain ⟨jl,dD⟩:=gx (xs) (i:=((k:Int)).toNat) (by omega);refine aQ oO (hL.ext hs.aF) (by omega) dD (λ _ iN=>aD kY (iN) (gd vj (l4 jl w1 hs.aF) ?_));rintro _ w2 ⟨rfl,he⟩;have hs:=hs.ext he;refine aX (λ eB=>?_) (λ eB=>?_)
  ·exact ⟨congrArg (Value.int .i64) (pj fS dD eB).symm,hs.aF⟩
  ·refine aO (by omega) ?_;exact ⟨xs.length - (k+1),by omega,k+1,rfl,rfl,by omega,eE fS dD eB,hs⟩
 ·exact ⟨congrArg (Value.int .i64) (kr (by rw [List.take_of_length_le (by omega)] at fS; exact fS)).symm,hs.aF⟩
theorem C192 (sv fv:Value) (xs:List bJ) (g:bJ→Bool) (w:World) (hL:eJ (λ _=>True) w sv xs) (hf:Cq w fv g) (hn:xs.length≤1073741824):CR 192 [sv,fv] w (λ v w'=>v = .bool (xs.any g)∧Ext w w'):=by
 have hs:=St.start w;refine aai _ _ _ _ ?_;unfold S192;refine aZ anN hs (C224 _ _ _ _ _ (hL.ext hs.aF) (hf.ext hs.aF) (by omega)) (λ w1 he hs=>dF ?_);exact ⟨vb (oa _ _),hs.aF⟩
theorem C190 (x y:bJ) (p b2 b3:Nat) (i:Int) (room:Int) (l:List bJ) (w:World) (h2:Cell w b2 0 (.pointer (some ⟨p,0,none⟩))) (h3:Cell w b3 0 (.int .i64 i)) (hb:wD w p room l) (h0:0≤i) (hx:l[i.toNat]? = some x):CR 190 [Flat.val y,.pointer (some ⟨b2,0,none⟩),.pointer (some ⟨b3,0,none⟩)] w (λ v w'=>v = .bool (!td x y)∧Ext w w'):=by
 obtain ⟨sv,zw,Cs,hL⟩:=hb;have mD:=(List.getElem?_eq_some_iff.1 hx).1;have hs:=St.start w;refine aag _ _ _ _ _ ?_;unfold S190;refine dE hs (λ Wz w1 hs=>have hs:=hs.drew;cD qW (h2.ext hs.aF) (aE (aA ko (cD xF (Cs.ext hs.aF) (cD bL (h3.ext hs.aF) (aQ oO (hL.ext hs.aF) h0 hx (λ _ qt=>aD kY (qt) (aD kY hs.At (aZ anx hs (C191 x y _) (λ w2 he hs=>cB ?_))))))))));exact ⟨rfl,hs.aF⟩
theorem C124 (p:Nat) (i:Int) (room:Int) (l:List bJ) (w:World) (hb:wD w p room l) (hn:l.length≤1073741824):CR 124 [.pointer (some ⟨p,0,none⟩),.int .i64 i] w (λ v w'=>v = .bool (te l i)∧Ext w w'):=by
 have JA:=hb;obtain ⟨sv,zw,Cs,hL⟩:=hb;have hs:=St.start w;refine Zq _ _ _ _ ?_;unfold S124;refine tI hs rfl (λ aqM w1 hs=>tI hs rfl (λ aqN w2 hs=>?_));refine ⟨_,?_,λ _ _ h=>h⟩;have hs:=hs.drew;refine aB bL hs.hb rfl (aR (aC (λ iQ=>?_) (λ iQ=>?_)))
 ·intro fy;refine nQ ?_;exact ⟨vb (uo (by omega)).symm,hs.aF⟩
 ·refine aB bL hs.hb rfl (aB qW hs.p1.hb rfl (aE (aA ko (cD xF (Cs.ext hs.aF) (aJ oO (hL.ext hs.aF) (dF ?_))))));intro fy;refine aC (λ eB=>?_) (λ eB=>?_)
  ·exact ⟨vb (uo (by omega)).symm,hs.aF⟩
  ·have hs:=hs.drew;refine aB qW hs.p1.hb rfl (aE (aA ko (cD xF (Cs.ext hs.aF) (aB bL hs.hb rfl (RM oO (hL.ext hs.aF) (by omega) (by omega) (λ aoN pJ=>?_))))));obtain ⟨x,hx⟩:∃ x,l[i.toNat]? = some x:=⟨_,List.getElem?_eq_getElem (by omega)⟩
   have Kv:Cq _ (.func (.func 190) [].toArray [.pointer (some ⟨aqM,0,none⟩),.pointer (some ⟨aqN,0,none⟩)].toArray) (λ y=>!td x y):=
    ⟨190,[],_,rfl,anw,λ y w1 e1=>C190 x y p aqM aqN i room l w1 ((hs.p1.hb.cell rfl).ext e1) ((hs.hb.cell rfl).ext e1) ((JA.ext hs.aF).ext e1) (by omega) hx⟩
   refine aZ anz hs (C192 _ _ _ _ _ pJ Kv (by rw [List.length_take]; omega)) (λ w4 he hs=>cB ?_);exact ⟨vb (ade (by omega) (by omega) hx).symm,hs.aF⟩
theorem C123 (p:Nat) (room:Int) (l:List bJ) (w:World) (hb:wD w p room l):CR 123 [.pointer (some ⟨p,0,none⟩)] w (λ v w'=>v = .bool (decide (room≤l.length))∧Ext w w'):=by
 obtain ⟨sv,zw,Cs,hL⟩:=hb;have hs:=St.start w;refine Zp _ _ _ ?_;unfold S123;refine aE (aA ko (have hs:=hs.drew;cD xF (Cs.ext hs.aF) (aJ oO (hL.ext hs.aF) (aE (aA Kh (cD bL (zw.ext hs.aF) (dF ?_)))))));exact ⟨rfl,hs.aF⟩
theorem C57 (p:Nat) (room:Int) (l:List bJ) (w:World) (hb:wD w p room l) (hn:l.length≤1048576):CR 57 [.pointer (some ⟨p,0,none⟩)] w (λ v w'=>lY (bK v (Ak l)) w w'):=by
 have JA:=hb;obtain ⟨sv,zw,Cs,hL⟩:=hb;have hs:=St.start w;refine ahu _ _ _ ?_;unfold S57;refine aE (aA ko (cD xF (Cs.ext hs.aF) (aJ oO (hL.ext hs.aF) ?_)));refine ⟨λ m o x w1=>∃ k:Nat,x = .int .i64 (k:Int)∧m=l.length - k∧k≤l.length∧St w bD [bK o (tf l k)] w1,⟨_,0,rfl,rfl,Nat.zero_le _,hs.fU⟩,?_⟩;rintro m o _ w1 ⟨k,rfl,rfl,hk,hs⟩ fy;have Qq:=G3 l k;refine aR (aC (λ gP=>?_) (λ gP=>?_))
 ·refine ⟨_,?_,λ _ _ h=>h⟩;refine aZ aeE hs (C124 _ _ _ _ _ (JA.ext hs.aF) (by omega)) (λ w2 he hs=>aX (λ jm=>?_) (λ jm=>?_))
  ·refine bW (([(k:Int)]:List Int)) hs dY rfl rfl (eI rfl) (λ afm w3 hs=>?_);have od:=(hs).fB;refine cN hs.p1 dY od (by simp <;> omega) (by decide) (λ UT w4 hs=>?_);have hs:=hs.p1.drop;intro jB;refine aO (by omega) ?_;exact ⟨l.length - (k+1),by omega,k+1,rfl,rfl,by omega,by rw [Ob jm]; exact hs⟩
  ·intro jB;refine aO (by omega) ?_;exact ⟨l.length - (k+1),by omega,k+1,rfl,rfl,by omega,by rw [Sh jm]; exact hs⟩
 ·rw [EU l (by omega)] at hs;exact hs.fresh
def Oc (room:Int) (l:List bJ) (x:bJ):Int:=if right x=true then (if room≤l.length then 2 else 0) else 1
def wE (room:Int) (l:List bJ) (x:bJ):List bJ:=if right x=true∧¬ room≤l.length then l++[x] else l
def ej (l:List bJ) (i:Int):bJ:=if te l i=true then (l[i.toNat]?).getD ⟨0,0,0,0⟩ else ⟨0,0,0,0⟩
def Al (l:List bJ) (i:Int):Int:=if 0≤i∧i<l.length then (if te l i=true then 0 else 13) else 1
def ml (l:List bJ) (i:Int):List bJ:=if te l i=true then l.eraseIdx i.toNat else l
theorem adf {l:List bJ} {i:Int} (h:te l i=true):0≤i∧i<l.length:=by
 unfold te at h; rw [Bool.and_eq_true,decide_eq_true_eq] at h; exact h.1
theorem wD.mk' {w:World} {p:Nat} {room:Int} {sv:Value} {l:List bJ} (h1:tH w p [.int .i64 room,sv]) (h2:eJ (λ _=>True) w sv l):wD w p room l:=
 ⟨sv,h1.cell rfl,h1.cell rfl,h2⟩
theorem nK.shut {w0 w:World} {A:Nat→Prop} {R:List HP} {p:Nat} {room:Int} {sv:Value} {l:List bJ} (hs:St w0 A (cE p [.int .i64 room,sv]::bK sv l::R) w):St w0 A (nK p room l::R) w:=
 St.eP (H:=λ sv=>sep (cE p [.int .i64 room,sv]) (bK sv l)) sv (St.join hs)
theorem QG {w0 w:World} {A:Nat→Prop} {R:List HP} {p:Nat} {room:Int} {l:List bJ} (hs:St w0 A (nK p room l::R) w):wD w p room l:=by
 obtain ⟨F,h,_⟩:=hs.head; exact nK.rd h
theorem C193 (v:Value) (i:Int) (xs:List bJ) (F:Nat→Prop) (w:World) (hv:(bK v xs).p w F) (h0:0≤i) (hi:i<xs.length) (hn:xs.length≤1073741824) :
  CR 193 [v,.int .i64 i,.int .i64 (i+1)] w (λ v' w'=>True∧qn F (bK v' (xs.eraseIdx i.toNat)) w w'):=by
 obtain ⟨i,rfl⟩:=Int.eq_ofNat_of_zero_le h0;replace hi:i<xs.length:=by omega
 rw [Int.toNat_natCast];have HF:=bK.rd hv;obtain ⟨b,cap,rest,rfl,hb,hl,hF⟩:=qK hv hi;have hlen:(flat xs).length=xs.length * 4:=cR xs;have J8:xs.length≤cap:=by rw [List.length_append,hlen] at hl; change _=cap * 4 at hl; omega
 refine aaj _ _ _ _ _ ?_;unfold S193;refine pop (HX oO) (Uy oO (by omega) (by omega) (by omega) (by omega) (λ _=>aH (aC (λ c=>absurd c (by omega)) (λ _=>pop (HX oO) ?_))))
 have e22:pr PG (Instr.sliceAt 80 (.slice (some ⟨b,0,none⟩) xs.length cap) none (some (.int .i64 (i:Int))) none)=some (.slice (some ⟨b,0,none⟩) i cap):=by
  rw [Ba oO (l:=0) (h:=i) (qJ (.inl ⟨rfl,rfl⟩) (.inr ⟨_,rfl,by omega,by omega⟩) (by omega) (by omega))];simp [gN]
 refine pop e22 (Gu oO HF (by omega) (by omega) (λ s25 h25=>?_));rw [show ((i:Int)+1).toNat=i+1 from by omega] at h25;have hdl:(xs.drop (i+1)).length=xs.length - (i+1):=by simp
 obtain ⟨w1,r1,b1,g1⟩:=FL (P:=PG) (R:=80) (n:=i) (cap:=cap) oO (hb.of_eq (w':=drew w) rfl) (h25.ext (Ext.drew w)) (by omega) (by rw [List.length_append,hlen,hdl]; change i * 4+(xs.length - (i+1)) * 4≤_; omega);rw [hdl,show i+(xs.length - (i+1))=xs.length - 1 from by omega] at r1;refine ⟨_,w1,r1,?_⟩;refine pop (HX oO) ?_
 have e31:pr PG (Instr.sliceAt 80 (.slice (some ⟨b,0,none⟩) (xs.length - 1) cap) (some (.int .i64 ((xs.length - 1:Nat):Int))) (some (.int .i64 (xs.length:Int))) none)=some (.slice (some ⟨b,(xs.length - 1) * 4,none⟩) 1 (cap - (xs.length - 1))):=by
  rw [Ba oO (l:=xs.length - 1) (h:=xs.length) (qJ (.inr ⟨_,rfl,by omega,by omega⟩) (.inr ⟨_,rfl,by omega,by omega⟩) (by omega) (by omega)),if_neg (by omega)];simp [gN]; omega
 refine pop e31 ?_;have hx:xs[i]? = some xs[i]:=by simp [hi]
 have RO:=yt hx;have hT:(flat (xs.take i)).length=i * 4:=by rw [cR,List.length_take,Nat.min_eq_left (by omega)]; rfl
 have hD:(flat (xs.drop (i+1))).length=(xs.length - (i+1)) * 4:=by rw [cR,hdl]; rfl
 have hX:(Flat.enc xs[i]).length=4:=rfl;have hZ:(flat (List.replicate 1 (⟨0,0,0,0⟩:bJ))).length=4:=rfl
 have s1:gV (flat xs++rest) (i * Flat.sz bJ) (flat (xs.drop (i+1))) =
   flat (xs.take i)++flat (xs.drop (i+1))++((Flat.enc xs[i]++flat (xs.drop (i+1))).drop (flat (xs.drop (i+1))).length++rest):=by
  have:=kM (flat (xs.take i)) ((Flat.enc xs[i]++flat (xs.drop (i+1))).take (flat (xs.drop (i+1))).length)
   ((Flat.enc xs[i]++flat (xs.drop (i+1))).drop (flat (xs.drop (i+1))).length++rest) (flat (xs.drop (i+1))) (by rw [List.length_take,List.length_append]; omega)
  rw [hT] at this
  change gV (flat xs++rest) (i * 4) _=_
  rw [← this,RO]
  have e0:∀ (a b c d:List Value) (n:Nat),a++(b++c)++d=a++(b++c).take n++((b++c).drop n++d):=λ a b c d n=>by
   rw [List.append_assoc a ((b++c).take n),← List.append_assoc ((b++c).take n),List.take_append_drop,List.append_assoc a]
  exact congrArg (λ z=>gV z (i * 4) (flat (xs.drop (i+1)))) (by first | exact e0 _ _ _ _ _ | (rw [← e0]; simp only [List.append_assoc]) | (simp only [List.append_assoc]; rw [← List.append_assoc (List.take _ _),List.take_append_drop,List.append_assoc]))
 rw [s1] at b1
 obtain ⟨w2,r2,b2,g2⟩:=RU (P:=PG) (R:=0) (o:=(xs.length - 1) * 4) (n:=1) (c:=cap - (xs.length - 1)) (z:=(⟨0,0,0,0⟩:bJ)) oO uM b1
  (by simp only [List.length_append,List.length_drop,hT,hD,hX]; change _+1 * 4≤_; omega)
 refine ⟨_,w2,r2,?_⟩
 have s2:=kM (flat (xs.take i)++flat (xs.drop (i+1))) ((Flat.enc xs[i]++flat (xs.drop (i+1))).drop (flat (xs.drop (i+1))).length) rest (flat (List.replicate 1 (⟨0,0,0,0⟩:bJ)))
  (by rw [List.length_drop,List.length_append,hX,hZ]; omega)
 rw [show (flat (xs.take i)++flat (xs.drop (i+1))).length=(xs.length - 1) * 4 from by rw [List.length_append,hT,hD]; omega,List.append_assoc _ _ rest] at s2;rw [s2] at b2;refine ⟨trivial,F,.inr ⟨b,cap,flat (List.replicate 1 (⟨0,0,0,0⟩:bJ))++rest,?_,?_,?_,hF⟩,λ b hb=>.inl hb,?_⟩
 ·rw [List.length_eraseIdx_of_lt hi]
 ·rw [List.eraseIdx_eq_take_drop_succ,il,← List.append_assoc]; exact b2
 ·rw [List.eraseIdx_eq_take_drop_succ,il]
  change _=cap * 4
  change _=cap * 4 at hl
  rw [List.length_append,hlen] at hl;simp only [List.length_append,hT,hD,hZ];omega
 ·exact ((Ext.drew w).aF (A:=F)).trans (g1.trans (C:=F) g2 (λ k hk=>(hF k).2 hk) λ k _ hk=>(hF k).2 hk) (λ _ h=>h) λ _ _ h=>h
theorem C154 (sv:Value) (xs:List bJ) (w:World) (hL:eJ (λ _=>True) w sv xs) (hn:xs.length≤1073741824):CR 154 [sv] w (λ v w'=>lY (bK v xs) w w'):=by
 have hL0:=hL;obtain ⟨a,cap,rfl,J8,h3⟩:=hL;have hs:=St.start w;refine ZG _ _ _ ?_;unfold S154;refine Uc (gr oO).1 (λ h0=>?_) ?_
 ·rcases h3 with ⟨h,hc⟩ | ⟨b,o,h,_⟩
  ·exact ⟨by rw [h]; rfl,hc⟩
  ·rw [h0] at h; cases h
 refine aX (λ pI=>?_) (λ pI=>?_)
 ·have ha:a=none:=by cases a with | none=>rfl | some _=>cases pI
  have hx:xs=[]:=by
   rcases h3 with ⟨h,_⟩ | ⟨b,o,h,_⟩
   ·exact h
   ·rw [ha] at h; cases h
  subst hx;exact hs.fU.fresh
 ·refine bW (([]:List bJ)) hs oO rfl rfl (eI rfl) (λ Iy w1 hs=>?_);have z7:=(hL0.ext hs.aF);refine cN hs oO z7 (by simp <;> omega) (by decide) (λ Lc w2 hs=>?_);exact hs.fresh
theorem C91 (p:Nat) (room:Int) (l:List bJ) (w:World) (hb:wD w p room l) (hn:l.length≤1073741824):CR 91 [.pointer (some ⟨p,0,none⟩)] w (λ v w'=>lY (bK v l) w w'):=by
 obtain ⟨sv,zw,Cs,hL⟩:=hb;have hs:=St.start w;refine ahS _ _ _ ?_;unfold S91;refine aE (aA ko (cD xF (Cs.ext hs.aF) (eD aeK (C154 _ _ _ (hL.ext hs.aF) (by omega)) ?_)));rintro _ w1 bY;have hs:=hs.made bY;exact hs.fresh
theorem WA {room:Int} {l:List bJ} {x:bJ} (h:right x=false):Oc room l x=1:=by unfold Oc; rw [h]; rfl
theorem WB {room:Int} {l:List bJ} {x:bJ} (h:right x=false):wE room l x=l:=by unfold wE; rw [h]; rfl
theorem Si {room:Int} {l:List bJ} {x:bJ} (h:right x=true) (hf:room≤l.length):Oc room l x=2:=by unfold Oc; rw [h,if_pos rfl,if_pos hf]
theorem Sj {room:Int} {l:List bJ} {x:bJ} (hf:room≤l.length):wE room l x=l:=by unfold wE; rw [if_neg (λ hh=>hh.2 hf)]
theorem adg {room:Int} {l:List bJ} {x:bJ} (h:right x=true) (hf:¬ room≤l.length):Oc room l x=0:=by unfold Oc; rw [h,if_pos rfl,if_neg hf]
theorem adh {room:Int} {l:List bJ} {x:bJ} (h:right x=true) (hf:¬ room≤l.length):wE room l x=l++[x]:=by unfold wE; rw [if_pos ⟨h,hf⟩]
theorem C196 (p:Nat) (room:Int) (l:List bJ) (x:bJ) (F:Nat→Prop) (w:World) (hF:(nK p room l).p w F) (hn:l.length≤1048576):CR 196 [.pointer (some ⟨p,0,none⟩),Flat.val x] w (λ v w'=>v = .int .i64 (Oc room l x)∧qn F (nK p room (wE room l x)) w w'):=by
 have hs:=St.begin hF;obtain ⟨sv,hs⟩:=hs.eV;have hs:=hs.split;refine aam _ _ _ _ ?_;unfold S196;refine dE hs (λ Lg w1 hs=>aD kY hs.At (aZ anP hs (C226 _ _) (λ w2 he hs=>cB (aX (λ gp=>?_) (λ gp=>?_)))))
 ·have hs:=hs.p2.p2;rw [WA (by simpa using gp),WB (by simpa using gp)];exact ⟨rfl,(nK.shut hs).mut⟩
 ·refine aZ aeD hs (C123 _ _ _ _ (wD.mk' hs.p1.hb hs.p2.fB)) (λ w3 he hs=>aC (λ gP=>?_) (λ gP=>?_))
  ·have hs:=hs.p2.p2;rw [Si (by simpa using gp) gP,Sj gP];exact ⟨rfl,(nK.shut hs).mut⟩
  ·refine aE (aA ko (have hs:=hs.drew;aB xF hs.p1.hb rfl (aD kY hs.At (bW ([x]) hs oO rfl rfl (eI rfl) (λ afm w4 hs=>?_)))));refine ⟨aG xF (hs.p2.hb.cell rfl),?_⟩;have od:=(hs).fB;refine cN hs.p3 oO od (by simp <;> omega) (by decide) (λ UT w5 hs=>have hs:=hs.p1.drop;aE (aA ko (aV hs.p2 xF (eI rfl) ((hs).fB.one) (λ w6 hs=>?_))));have hs:=hs.p1.p1;rw [adg (by simpa using gp) gP,adh (by simpa using gp) gP];exact ⟨rfl,(nK.shut hs).mut⟩
theorem BD {l:List bJ} {i:Int} (h:te l i=false):ej l i=⟨0,0,0,0⟩:=by unfold ej; rw [h]; rfl
theorem BE {l:List bJ} {i:Int} (h:te l i=false):ml l i=l:=by unfold ml; rw [h]; rfl
theorem G4 {l:List bJ} {i:Int} (h:i<0∨(l.length:Int)≤i):Al l i=1:=by unfold Al; rw [if_neg (by omega)]
theorem WC {l:List bJ} {i:Int} (h0:0≤i∧i<l.length) (h:te l i=false):Al l i=13:=by unfold Al; rw [if_pos h0,h]; rfl
theorem WD {l:List bJ} {i:Int} (h:te l i=true):Al l i=0:=by unfold Al; rw [if_pos (adf h),h]; rfl
theorem WE {l:List bJ} {i:Int} {x:bJ} (h:te l i=true) (hx:l[i.toNat]? = some x):ej l i=x:=by unfold ej; rw [h,hx]; rfl
theorem WG {l:List bJ} {i:Int} (h:te l i=true):ml l i=l.eraseIdx i.toNat:=by unfold ml; rw [h]; rfl
theorem C127 (p:Nat) (room:Int) (l:List bJ) (i:Int) (F:Nat→Prop) (w:World) (hF:(nK p room l).p w F) (hn:l.length≤1048576):CR 127 [.pointer (some ⟨p,0,none⟩),.int .i64 i] w (λ v w'=>v = .tuple #[Flat.val (ej l i),.int .i64 (Al l i)]∧qn F (nK p room (ml l i)) w w'):=by
 have hs:=St.begin hF;obtain ⟨sv,hs⟩:=hs.eV;have hs:=hs.split;refine Zt _ _ _ _ ?_;unfold S127;refine aN hs uM (λ Cr w1 hs=>?_);refine ⟨_,?_,λ _ _ h=>h⟩;refine aR (aC (λ gp=>?_) (λ gp=>?_))
 ·intro fy;refine nQ (pop (Im) (aI (x:=(⟨0,0,0,0⟩:bJ)) hs kY rfl rfl (λ w3 hs=>aD kY hs.At ?_)));have hs:=hs.p2.p2;rw [BD (uo (by omega)),G4 (by omega),BE (uo (by omega))];exact ⟨rfl,(nK.shut hs).mut⟩
 ·refine aE (aA ko (aB xF hs.p1.hb rfl (aJ oO (hs.p2).fB (dF ?_))));intro fy;refine aC (λ me=>?_) (λ me=>?_)
  ·refine pop (Im) (aI (x:=(⟨0,0,0,0⟩:bJ)) hs kY rfl rfl (λ w3 hs=>aD kY hs.At ?_));have hs:=hs.p2.p2;rw [BD (uo (by omega)),G4 (by omega),BE (uo (by omega))];exact ⟨rfl,(nK.shut hs).mut⟩
  ·refine aZ aeE hs (C124 _ _ _ _ _ (wD.mk' hs.p1.hb hs.p2.fB) (by omega)) (λ w4 he hs=>cB (aX (λ iM=>?_) (λ iM=>?_)))
   ·refine pop (Im) (aI (x:=(⟨0,0,0,0⟩:bJ)) hs kY rfl rfl (λ w5 hs=>aD kY hs.At ?_));have hs:=hs.p2.p2;rw [BD (by simpa using iM),WC (by omega) (by simpa using iM),BE (by simpa using iM)];exact ⟨rfl,(nK.shut hs).mut⟩
   ·refine aE (aA ko (aB xF hs.p1.hb rfl ?_));obtain ⟨Cb,lG⟩:=gx (l) (i:=(i).toNat) (by omega);refine dR hs.p2 oO (by omega) (by omega) (λ _ D3=>ga hs.p2 kY D3 lG (aN hs uM (λ Od w6 hs=>aI (x:=Cb) hs kY rfl rfl (λ w7 hs=>aE (aA ko (aB xF hs.p2.hb rfl (eD aeK (C154 _ _ _ (hs.p3).fB (by omega)) ?_)))))));rintro _ w8 bY;have hs:=hs.made bY;refine aO (by omega) (ph anA hs (H':=λ v=>bK v (l.eraseIdx i.toNat)) (Φ:=λ _ _=>True) (λ F hF=>?_) ?_)
    ·exact C193 _ i _ F _ hF (by omega) (by omega) (by omega)
    rintro x40 w9 _ hs;refine aE (aA ko (aV hs.p3 xF (eI rfl) ((hs).fB.one) (λ pS hs=>aD kY hs.p2.At (aI (x:=Cb) hs.p3 kY rfl rfl (λ sU hs=>aD kY hs.At ?_)))));have hs:=hs.p2.p2;rw [WE (by simpa using iM) lG,WD (by simpa using iM),WG (by simpa using iM)];exact ⟨rfl,(nK.shut hs).mut⟩
def rF (l:List bJ) (c:Int):Option Int:=(l.reverse.find? λ x=>decide (x.kind=3∧x.cell=c)).map (·.n)
theorem C250 (y sv:Value) (b:Nat) (xs:List bJ) (J:Nat→World→Prop) (Jx:World→Prop) (w:World) (hn:xs.length≤1073741824)
  (hJ:∀ k W,J k W→Cell W b 0 sv∧eJ (λ _=>True) W sv xs) (h0:J 0 w)
  (hy:∀ k x W,xs.reverse[k]? = some x→J k W→fZ PG y [.int .i64 ((xs.length:Int) - 1 - k),Flat.val x] W (λ v W'=>(v = .bool true∧J (k+1) W')∨(v = .bool false∧Jx W'))) :
  CR 250 [y,.pointer (some ⟨b,0,none⟩)] w (λ _ W=>J xs.length W∨Jx W):=by
 refine aa6 _ _ _ _ ?_;unfold S250;refine cD xF (hJ 0 w h0).1 (aJ oO (hJ 0 w h0).2 (gA (by omega) ?_));refine ⟨λ m x w1=>∃ k:Nat,x = .int .i64 ((xs.length:Int) - 1 - k)∧m=xs.length - k∧k≤xs.length∧J k w1,⟨_,0,by simp,rfl,Nat.zero_le _,h0⟩,?_⟩;rintro m _ w1 ⟨k,rfl,rfl,hk,hj⟩ fy;refine dF (aC (λ c=>?_) (λ c=>?_))
 ·obtain ⟨h1,h2⟩:=hJ k w1 hj;have mD:k<xs.length:=by omega
  have hx:xs.reverse[k]? = some (xs[xs.length - 1 - k]'(by omega)):=by rw [List.getElem?_reverse mD,List.getElem?_eq_getElem]
  refine cD xF h1 (aQ oO h2 (by omega) (x:=xs[xs.length - 1 - k]'(by omega)) (by rw [List.getElem?_eq_getElem (by omega)]; congr 2; omega) (λ q hq=>?_));refine aD kY hq ?_;obtain Sk:=hy k _ w1 hx hj;refine fZ.mono Sk ?_;rintro v w2 (⟨rfl,hj2⟩ | ⟨rfl,AZ⟩)
  ·refine cB (fP (gA (by omega) ?_));exact ⟨xs.length - (k+1),by omega,k+1,by congr 1; omega,rfl,by omega,hj2⟩
  ·refine cB (nQ ?_);exact .inr AZ
 ·have:k=xs.length:=by omega
  subst this;exact .inl hj
theorem C225 (sv:Value) (w:World) (h1:rT sv=true):CR 225 [sv] w (λ v w'=>∃ b,v = .func (.func 250) [].toArray [.pointer (some ⟨b,0,none⟩)].toArray∧lY (cE b [sv]) w w'):=by
 have hs:=St.start w;refine aaI _ _ _ ?_;unfold S225;refine tI hs h1 (λ b w1 hs=>?_);exact ⟨b,rfl,hs.fresh⟩
theorem Sl {α:Type} {p:α→Bool} {l:List α} {k:Nat} {x:α} (fS:∀ y∈l.take k,p y=false) (hx:l[k]? = some x) (hp:p x=true):l.find? p=some x:=by
 rw [List.find?_eq_some_iff_getElem]
 have hk:=(List.getElem?_eq_some_iff.1 hx)
 obtain ⟨mD,he⟩:=hk
 refine ⟨hp,k,mD,he,λ j hj=>?_⟩
 have:=fS (l[j]'(by omega)) (List.mem_take_iff_getElem.2 ⟨j,by omega,rfl⟩)
 simp [this]
theorem C194 (p:Nat) (c room:Int) (l:List bJ) (w:World) (hb:wD w p room l) (hn:l.length≤1048576) :
  CR 194 [.pointer (some ⟨p,0,none⟩),.int .i64 c] w (λ v w'=>v = .tuple #[.int .i64 ((rF l c).getD 0),.bool (rF l c).isSome]∧Ext w w'):=by
 obtain ⟨sv,zw,Cs,hL⟩:=hb;have hs:=St.start w;refine aak _ _ _ _ ?_;unfold S194;refine tI hs rfl (λ b3 w1 hs=>yr hs BY rfl (λ b4 w2 hs=>yr hs ae3 rfl (λ b5 w3 hs=>aE (aA ko (cD xF (Cs.ext hs.aF) (eD anO (C225 sv _ hL.one) ?_))))));rintro _ w4 ⟨b,rfl,bY⟩;have hs:=hs.made bY
 refine Uz (cap:=[.pointer (some ⟨b,0,none⟩)]) (xs:=(List.range l.length).map fun (k:Nat)=>[Value.int .i64 ((l.length:Int) - 1 - k),Flat.val ((l.reverse[k]?).getD ⟨0,0,0,0⟩)]) an4 hs
  (λ k M=>M=[cE b [sv],cE b5 [.bool false],cE b4 [.int .i64 0],cE b3 [.int .i64 c]]∧∀ y∈l.reverse.take k,decide (y.kind=3∧y.cell=c)=false)
  (λ cd M=>cd = .ret∧∃ x,rF l c=some x∧M=[cE b5 [.bool true],cE b4 [.int .i64 x]])
  ⟨rfl,by simp⟩ (by simp) ?_ ?_ ?_ ?_ ?_ ?_
 ·
  intro y J Jx W hJ hJe hJ0 hy;refine (C250 y sv b l J Jx W (by omega) (λ k W hk=>?_) hJ0 (λ k x W hx hk=>?_)).mono λ _ _ r=>r.mono λ v W' h=>?_
  ·obtain ⟨Y,M,⟨rfl,_⟩,hS⟩:=hJ k W hk;exact ⟨hS.p1.hb.cell rfl,hL.ext hS.aF⟩
  ·have mD:=(List.getElem?_eq_some_iff.1 hx).1;rw [List.length_reverse] at mD;have:=hy k [Value.int .i64 ((l.length:Int) - 1 - k),Flat.val x] W (by rw [List.getElem?_map,List.getElem?_range mD]; simp [hx]) hk;exact this
  ·simpa using h
 ·
  rintro k args Y1 Y2 B Kr M W hk ⟨rfl,fS⟩ hB hN hR hs
  have mD:k<l.length:=by
   have:=(List.getElem?_eq_some_iff.1 hk).1
   simpa using this
  obtain ⟨x,hx⟩:∃ x,l.reverse[k]? = some x:=⟨_,List.getElem?_eq_getElem (by simpa using mD)⟩
  have ha:args=[Value.int .i64 ((l.length:Int) - 1 - k),Flat.val x]:=by
   rw [List.getElem?_map,List.getElem?_range mD] at hk;simp [hx] at hk;exact hk.symm
  subst ha;dsimp only [RE];refine aN hs uM (λ b7 w6 hs=>pq hs kY rfl (by decide) (by simp [rT,gV]) (λ w7 hs=>?_));refine hB _ _ _ hs.p1 (λ w8 hs=>?_);have e7:gV [Value.int IntKind.i64 0,.int .i64 0,.int .i64 0,.int .i64 0] 0 [Value.int .i64 x.kind,.int .i64 x.line,.int .i64 x.cell,.int .i64 x.n]=Flat.enc x:=rfl;refine ⟨_,?_,λ _ _ h=>h⟩;refine aA pA (aB bL hs.p1.hb rfl (aH ?_))
  have no:¬ (x.kind=3∧x.cell=c)→Kr none w8:=λ hh=>by
   refine hN _ _ (hs.p1.drop.p0) ⟨rfl,?_⟩;exact eE fS hx (by simpa using hh)
  refine aC (λ c1=>?_) (λ c1=>?_)
  ·refine aA nU (aB bL hs.p1.hb rfl (aB bL hs.p5.hb rfl (aH ?_)));intro fy;refine aC (λ c2=>?_) (λ c2=>no λ hh=>c2 hh.2);refine aA mX (aB bL hs.p1.hb rfl (aV hs.p4 bL (Nat.le_of_ble_eq_true rfl) rfl (λ pS hs=>aV hs.p4 Tj (Nat.le_of_ble_eq_true rfl) rfl (λ sU hs=>?_))));refine hR _ [cE b5 [.bool true],cE b4 [.int .i64 x.n]] _ ?_ ⟨rfl,x.n,?_,rfl⟩
   ·exact (hs.p5.drop.p4.drop.p3.drop).p2
   ·unfold rF;rw [Sl fS hx (by simpa using ⟨c1,c2⟩)]; rfl
  ·intro fy;exact fP (no λ hh=>c1 hh.1)
 ·
  rintro D M W ⟨rfl,fS⟩ hs;refine aV hs.p3 bL (Nat.le_of_ble_eq_true rfl) rfl (λ vn hs=>aV hs.p3 Tj (Nat.le_of_ble_eq_true rfl) rfl (λ sm hs=>?_));refine afc hs.p2 (λ v7 hs=>?_);refine aB bL hs.p1.hb rfl (aB Tj hs.hb rfl ?_)
  have:rF l c=none:=by
   unfold rF
   rw [show l.reverse.find? _=none from List.find?_eq_none.2 λ y hy=>by
    have:=fS y (by rw [List.take_of_length_le (by simp)]; exact hy);simp only [this]; exact Bool.false_ne_true]
   rfl
  rw [this];exact ⟨rfl,hs.aF⟩
 ·rintro D M W ⟨_,x,hl,rfl⟩ hs;refine afc hs (λ v7 hs=>?_);refine aB bL hs.p1.hb rfl (aB Tj hs.hb rfl ?_);rw [hl];exact ⟨rfl,hs.aF⟩
 ·rintro id D M W ⟨h,_⟩; cases h
 ·rintro c M ⟨h,_⟩; exact .inr h
theorem IW {α:Type} {xs ys:List α} {k:Nat} {e f:α} (h:xs.take k=ys.take k) (h1:xs[k]? = some e) (h2:ys[k]? = some f) (he:e=f):xs.take (k+1)=ys.take (k+1):=by
 rw [List.take_add_one,List.take_add_one,h,h1,h2,he]
theorem Sm {α:Type} {xs ys:List α} {k:Nat} {e f:α} (h1:xs[k]? = some e) (h2:ys[k]? = some f) (he:¬ e=f):¬ xs=ys:=by
 rintro rfl; rw [h1] at h2; exact he (Option.some.inj h2)
theorem C52 (room:Int) (w:World):CR 52 [.int .i64 room] w (λ v w'=>((room<1∨16<room)∧v = .tuple #[.pointer none,.int .i64 1]∧Ext w w')∨(1≤room∧room≤16∧∃ b,v = .tuple #[.pointer (some ⟨b,0,none⟩),.int .i64 0]∧lY (nK b room []) w w')):=by
 have hs:=St.start w;refine ahp _ _ _ ?_;unfold S52;refine ⟨_,?_,λ _ _ h=>h⟩;refine aR (aC (λ UN=>?_) (λ UN=>?_))
 ·intro fy;refine nQ ?_;exact .inl ⟨by omega,rfl,hs.aF⟩
 ·refine dB ?_;intro fy;refine aC (λ gv=>?_) (λ gv=>?_)
  ·exact .inl ⟨by omega,rfl,hs.aF⟩
  ·refine pop (Ut _) (l5 hs (λ b w2 hs=>?_));have hs:=(hs.fU (α:=bJ)).p1;exact .inr ⟨by omega,by omega,b,rfl,(nK.shut hs).fresh⟩
theorem C71 (p:Nat) (room:Int) (l:List bJ) (w:World) (hb:wD w p room l) (hn:l.length≤1048576):CR 71 [.pointer (some ⟨p,0,none⟩)] w (λ v w'=>∃ b,v = .pointer (some ⟨b,0,none⟩)∧lY (nK b room l) w w'):=by
 have JA:=hb;obtain ⟨sv,zw,Cs,hL⟩:=hb;have hs:=St.start w;refine ahI _ _ _ ?_;unfold S71;refine aE (aA Kh (have hs:=hs.drew;cD bL (zw.ext hs.aF) (eD ah2 (C91 _ _ _ _ (JA.ext hs.aF) (by omega)) ?_)));rintro _ w1 bY;have hs:=hs.made bY;refine ⟨aG bL (zw.ext hs.aF),?_⟩;obtain ⟨a8,c8,e8,_⟩:=(hs).fB;subst e8;refine pop (Nf _ _ _ _) (l5 hs (λ b w2 hs=>?_));exact ⟨b,rfl,(nK.shut hs).fresh⟩
theorem C21 (av bv:Value) (xs ys:List Int) (w:World) (hA:eJ (λ _=>True) w av xs) (hB:eJ (λ _=>True) w bv ys) (hn:xs.length≤1073741824):CR 21 [av,bv] w (λ v w'=>v = .bool (decide (xs=ys))∧Ext w w'):=by
 have hs:=St.start w;refine agY _ _ _ _ ?_;unfold S21;refine aJ dY (hA.ext hs.aF) (aJ dY (hB.ext hs.aF) (cQ (aC (λ fO=>?_) (λ fO=>?_))))
 ·exact ⟨vb (decide_eq_false (by rintro rfl; omega)).symm,hs.aF⟩
 ·refine ⟨λ m x w1=>∃ k:Nat,x = .int .i64 (k:Int)∧m=xs.length - k∧k≤xs.length∧xs.take k=ys.take k∧St w bD [] w1,⟨_,0,rfl,rfl,Nat.zero_le _,rfl,hs⟩,?_⟩;rintro m _ w1 ⟨k,rfl,rfl,hk,WH,hs⟩ fy;refine aJ dY (hA.ext hs.aF) (aR (aC (λ gQ=>?_) (λ gQ=>?_)))
  ·obtain ⟨iX,fH⟩:=gx (xs) (i:=((k:Int)).toNat) (by omega);refine aQ dY (hA.ext hs.aF) (by omega) fH (λ _ jL=>have hs:=hs.drew;aD bL (jL) ?_);obtain ⟨rj,ku⟩:=gx (ys) (i:=((k:Int)).toNat) (by omega);refine aQ dY (hB.ext hs.aF) (by omega) ku (λ _ pJ=>aD bL (pJ) (cQ (aC (λ fQ=>?_) (λ fQ=>?_))))
   ·exact ⟨vb (decide_eq_false (Sm fH ku fQ)).symm,hs.aF⟩
   ·refine aO (by omega) ?_;exact ⟨xs.length - (k+1),by omega,k+1,rfl,rfl,by omega,IW WH fH ku (Decidable.not_not.1 fQ),hs⟩
  ·exact ⟨vb (decide_eq_true (by rw [List.take_of_length_le (by omega),List.take_of_length_le (by omega)] at WH; exact WH)).symm,hs.aF⟩
end Go.Proofs.YtnjcingfdhjfkaaGreat
namespace Go.Fw
open Go.MapKept (Stamped IsKey)
open Go.ChangeMaps (setBlock)
def mH (w:World) (b:Nat) (ks:List Int) (vs:List Value):Prop:=
 ∃ es clock,w.heap[b]? = some (.map es clock)∧Stamped es clock∧es.toList.map (·.key)=ks.map (Value.int .i64)∧es.toList.map (·.val)=vs
def j3:List Int→Int→Option Nat
 | [],_=>none
 | x::xs,k=>if x=k then some 0 else (j3 xs k).map (· + 1)
theorem jW:∀ {ks:List Int} {k:Int} {j:Nat},j3 ks k=some j→ks[j]? = some k
 | x::xs,k,j,h=>by
  unfold j3 at h
  split at h
  ·rename_i e; cases h; simp [e]
  ·cases hh:j3 xs k with
   | none=>rw [hh] at h; cases h
   | some i=>rw [hh] at h; simp at h; subst h; simpa using jW hh
theorem mn:∀ {ks:List Int} {k:Int},j3 ks k=none↔k ∉ ks
 | [],_=>by simp [j3]
 | x::xs,k=>by
  unfold j3
  by_cases e:x=k
  ·simp [e]
  ·rw [if_neg e,Option.map_eq_none_iff,mn,List.mem_cons]
   exact ⟨λ h hh=>hh.elim (λ h2=>e h2.symm) h,λ h hh=>h (.inr hh)⟩
theorem rG:∀ {ks:List Int} {k:Int} {j:Nat},ks.Nodup→ks[j]? = some k→j3 ks k=some j
 | x::xs,k,0,_,h=>by simp at h; simp [j3,h]
 | x::xs,k,j+1,hn,h=>by
  rw [List.getElem?_cons_succ] at h
  have hm:=List.mem_of_getElem? h
  have:x≠k:=λ e=>(List.nodup_cons.1 hn).1 (e▸hm)
  simp [j3,this,rG (List.nodup_cons.1 hn).2 h]
def look {β:Type} (ks:List Int) (vs:List β) (k:Int):Option β:=(j3 ks k).bind (vs[·]?)
def tg {β:Type} (f:Int→β) (k:Int) (x:β):Int→β:=λ j=>if j=k then x else f j
section
variable {P:Program} {w w0 w':World} {A:Nat→Prop} {L:List HP} {b:Nat} {ks:List Int} {vs:List Value}
theorem mH.of_eq (h:mH w b ks vs) (hh:w'.heap[b]? = w.heap[b]?):mH w' b ks vs:=by
 obtain ⟨es,c,h1,h2⟩:=h; exact ⟨es,c,hh.trans h1,h2⟩
theorem mH.lt (h:mH w b ks vs):b<w.heap.size:=by obtain ⟨es,c,h1,_⟩:=h; exact jR h1
theorem mH.ext (h:mH w b ks vs) (e:Ext w w'):mH w' b ks vs:=h.of_eq (e.cE b h.lt λ h=>h)
theorem mH.len (h:mH w b ks vs):ks.length=vs.length:=by
 obtain ⟨es,c,_,_,h3,h4⟩:=h
 have:=congrArg List.length h3; have h5:=congrArg List.length h4
 simp at this h5; omega
theorem mH.nodup (h:mH w b ks vs):ks.Nodup:=by
 obtain ⟨es,c,_,h2,h3,h4⟩:=h
 have:=h2.2.2
 rw [h3] at this
 exact (List.pairwise_map.1 this).imp λ h e=>h (by rw [e])
def FZ (b:Nat) (ks:List Int) (vs:List Value):HP where
 p w F:=mH w b ks vs∧∀ k,F k↔k=b
 loc w w' F h hh:=⟨h.1.of_eq (hh b ((h.2 b).2 rfl)),h.2⟩
 lt w F b' h hb:=by rw [(h.2 b').1 hb]; exact h.1.lt
theorem Sn {es:Array MapEntry} (h3:es.toList.map (·.key)=ks.map (Value.int .i64)):∀ x∈es.toList,IsKey (.int .i64) x.key:=by
 intro x hx
 have:x.key∈es.toList.map (·.key):=List.mem_map.2 ⟨x,hx,rfl⟩
 rw [h3] at this
 obtain ⟨k,_,e⟩:=List.mem_map.1 this
 rw [← e]; simp [IsKey]
theorem EV {T:TypeId} {k:Int} {es:Array MapEntry} (hT:P.underlying T=some (.int .i64)) (hn:ks.Nodup) (h3:es.toList.map (·.key)=ks.map (Value.int .i64)) :
  (j3 ks k=none∧(Instr.findKey T (.int .i64 k) es.toList).run P w = .ok none w)∨∃ j e,j3 ks k=some j∧es.toList[j]? = some e∧e.key = .int .i64 k∧(Instr.findKey T (.int .i64 k) es.toList).run P w = .ok (some (j,e.val)) w:=by
 rcases MapKept.findNow_spec (d:=.int .i64) (k:=.int .i64 k) (by simp [IsKey]) es.toList 0 (Sn h3) with ⟨h1,h2⟩ | ⟨j,e,h1,h2,h4⟩
 ·refine .inl ⟨mn.2 λ hm=>?_,MapKept.run_findKey hT h1⟩
  have:Value.int .i64 k∈es.toList.map (·.key):=by rw [h3]; exact List.mem_map.2 ⟨k,hm,rfl⟩
  obtain ⟨x,hx,e⟩:=List.mem_map.1 this
  exact h2 x hx e
 ·refine .inr ⟨j,e,rG hn ?_,h2,h4,by rw [Nat.zero_add] at h1; exact MapKept.run_findKey hT h1⟩
  have:(es.toList.map (·.key))[j]? = some (.int .i64 k):=by rw [List.getElem?_map,h2]; simp [h4]
  rw [h3,List.getElem?_map] at this
  cases hk:ks[j]? with
  | none=>rw [hk] at this; cases this
  | some k'=>rw [hk] at this; simp at this; rw [this]
theorem o8 {T Kt E:TypeId} {z:Value} {k:Int} (h:mH w b ks vs) (ht:P.underlying T=some (.map Kt E)) (hk:P.underlying Kt=some (.int .i64)) (hz:qj P E z) :
  (Instr.lookup T (.map (some b)) (.int .i64 k) false).run P w = .ok ((look ks vs k).getD z) w:=by
 have hn:=h.nodup
 obtain ⟨es,c,h1,h2,h3,h4⟩:=h
 have hz':(zeroValue E).run P w = .ok z w:=by
  unfold qj en at hz
  cases hi:P.info? E with
  | none=>rw [hi] at hz; cases hz
  | some i=>
   rw [hi] at hz
   simp only [Option.map_some,Option.some.injEq] at hz
   refine fo ?_ w
   unfold zeroValue; rw [cM,nz hi]; simp only [Option.bind_some,hz]; rfl
 have hc:=MapKept.run_checkKey (P:=P) (w:=w) (kt:=Kt) (k:=.int .i64 k) hk (by simp [IsKey]) es.isEmpty 9999
 rcases EV (w:=w) (k:=k) hk hn h3 with ⟨h5,h6⟩ | ⟨j,e,h5,h6,h7,h8⟩
 ·simp [Instr.lookup,run_underlying ht,MapKept.run_getObj_map h1,hc,h6,hz',Result.andThen,look,h5]
 ·have:vs[j]? = some e.val:=by rw [← h4,List.getElem?_map,h6]; rfl
  simp [Instr.lookup,run_underlying ht,MapKept.run_getObj_map h1,hc,h8,Result.andThen,look,h5,this]
theorem mq (o:Obj) (hb:b<w.heap.size):(setBlock w b o).heap[b]? = some o:=by simp [setBlock,hb]
theorem ix.setBlock (w:World) (b:Nat) (o:Obj):ix (· = b) w (setBlock w b o):=
 ⟨rfl,rfl,rfl,by simp [ChangeMaps.setBlock],λ k _ hn=>by simp only [ChangeMaps.setBlock]; rw [Array.getElem?_setIfInBounds_ne (λ h=>hn h.symm)]⟩
theorem rH {es:Array MapEntry} {clock:Nat} {o:Obj} (h1:w.heap[b]? = some (.map es clock)):(setObj b o).run P w = .ok () (setBlock w b o):=by
 simp [setObj,Sem.run,h1,setBlock]
theorem QH {T Kt E:TypeId} {v:Value} {k:Int} (h:mH w b ks vs) (ht:P.underlying T=some (.map Kt E)) (hk:P.underlying Kt=some (.int .i64)) :
  ∃ w',(Instr.mapUpdate T (.map (some b)) (.int .i64 k) v).run P w = .ok () w'∧ix (· = b) w w'∧
   (match j3 ks k with | some j=>mH w' b ks (vs.set j v) | none=>mH w' b (ks++[k]) (vs++[v])):=by
 have hn:=h.nodup
 have mD:=h.lt
 obtain ⟨es,c,h1,h2,h3,h4⟩:=h
 have hc:=MapKept.run_checkKey (P:=P) (w:=w) (kt:=Kt) (k:=.int .i64 k) hk (by simp [IsKey]) false 9999
 rcases EV (w:=w) (k:=k) hk hn h3 with ⟨h5,h6⟩ | ⟨j,e,h5,h6,h7,h8⟩
 ·refine ⟨_,?_,ix.setBlock w b (.map (es.push ⟨.int .i64 k,v,c⟩) (c+1)),?_⟩
  ·simp [Instr.mapUpdate,run_underlying ht,MapKept.run_getObj_map h1,hc,h6,rH h1,Result.andThen]
  ·rw [h5]
   refine ⟨_,_,mq _ mD,MapKept.stamped_push h2 λ x hx e=>?_,by simp [h3],by simp [h4]⟩
   have:x.key∈es.toList.map (·.key):=List.mem_map.2 ⟨x,hx,rfl⟩
   rw [h3,e] at this
   obtain ⟨k',yo,e'⟩:=List.mem_map.1 this
   simp at e'
   exact mn.1 h5 (e'▸yo)
 ·have Yx:es[j]? = some e:=by rw [← Array.getElem?_toList]; exact h6
  have gn:(Instr.keyThatStays e.key (.int .i64 k)).run P w = .ok (.int .i64 k) w:=by
   rw [h7]; unfold Instr.keyThatStays; simp [Instr.sameBits]
  refine ⟨_,?_,ix.setBlock w b (.map (es.modify j λ e=>{e with key:=.int .i64 k,val:=v}) c),?_⟩
  ·simp [Instr.mapUpdate,run_underlying ht,MapKept.run_getObj_map h1,hc,h8,rH h1,Result.andThen,Yx,gn]
  ·rw [h5]
   have yo:∀ e',es[j]? = some e'→({e' with key:=.int .i64 k,val:=v}:MapEntry).key=e'.key:=λ e' he'=>by
    rw [Yx] at he'; cases he'; exact h7.symm
   refine ⟨_,_,mq _ mD,MapKept.stamped_modify h2 j _ (λ _ _=>rfl) (λ e' _ he'=>yo e' he'),?_,?_⟩
   ·rw [MapKept.modify_keys j _ yo,h3]
   ·rw [← h4]
    apply List.ext_getElem?
    intro i
    simp only [List.getElem?_map,Array.getElem?_toList,Array.getElem?_modify,List.getElem?_set]
    by_cases hij:j=i
    ·subst hij; rw [Yx]; have:=(Array.getElem?_eq_some_iff.1 Yx).1; simp [this]
    ·simp [hij]
theorem adi {T Kt E R:TypeId} {A2:Array TypeId} {k:Int} (h:mH w b ks vs) (ha:A2[0]? = some T) (ht:P.underlying T=some (.map Kt E)) (hk:P.underlying Kt=some (.int .i64)) :
  ∃ w',(Builtin.delete_ A2 R [.map (some b),.int .i64 k].toArray).run P w = .ok (.tuple #[]) w'∧ix (· = b) w w'∧
   (match j3 ks k with | some j=>mH w' b (ks.eraseIdx j) (vs.eraseIdx j) | none=>mH w' b ks vs):=by
 have hn:=h.nodup
 have mD:=h.lt
 obtain ⟨es,c,h1,h2,h3,h4⟩:=h
 have hc:=MapKept.run_checkKey (P:=P) (w:=w) (kt:=Kt) (k:=.int .i64 k) hk (by simp [IsKey]) es.isEmpty 9999
 rcases EV (w:=w) (k:=k) hk hn h3 with ⟨h5,h6⟩ | ⟨j,e,h5,h6,h7,h8⟩
 ·refine ⟨_,?_,ix.setBlock w b (.map es c),?_⟩
  ·simp [Builtin.delete_,ha,run_underlying ht,MapKept.run_getObj_map h1,hc,h6,rH h1,Result.andThen]
  ·rw [h5]
   exact ⟨_,_,mq _ mD,h2,h3,h4⟩
 ·have hj:j<es.size:=by have:=(List.getElem?_eq_some_iff.1 h6).1; simpa using this
  refine ⟨_,?_,ix.setBlock w b (.map (es.eraseIdxIfInBounds j) c),?_⟩
  ·simp [Builtin.delete_,ha,run_underlying ht,MapKept.run_getObj_map h1,hc,h8,rH h1,Result.andThen]
  ·rw [h5]
   have he:(es.eraseIdxIfInBounds j).toList=es.toList.eraseIdx j:=by
    unfold Array.eraseIdxIfInBounds; rw [dif_pos hj]; simp
   refine ⟨_,_,mq _ mD,MapKept.stamped_erase h2 j,?_,?_⟩
   ·rw [he,ChangeMaps.map_eraseIdx,h3,ChangeMaps.map_eraseIdx]
   ·rw [he,ChangeMaps.map_eraseIdx,h4]
theorem wF {T:TypeId} {K:Value→World→Prop} (hs:St w0 A L w) (k:∀ b w',St w0 A (FZ b [] []::L) w'→K (.map (some b)) w'):gU P (Instr.makeMap T none) w K:=
 ⟨_,_,rfl,k _ _ (hs.new (Ext.push w (.map #[] 0)) (F:=λ k=>k=w.heap.size) ⟨⟨#[],0,po _ _,MapKept.stamped_empty 0,rfl,rfl⟩,λ _=>Iff.rfl⟩ λ b hb=>by rw [hb]; exact Nat.le_refl _)⟩
theorem St.Am (hs:St w0 A (FZ b ks vs::L) w):mH w b ks vs:=by obtain ⟨F,h,_⟩:=hs.head; exact h.1
theorem g9 {T Kt E:TypeId} {v:Value} {k:Int} {K:World→Prop} (hs:St w0 A (FZ b ks vs::L) w) (ht:P.underlying T=some (.map Kt E)) (hk:P.underlying Kt=some (.int .i64)) (bY:j3 ks k=none)
  (kk:∀ w',St w0 A (FZ b (ks++[k]) (vs++[v])::L) w'→K w'):A0 P (Instr.mapUpdate T (.map (some b)) (.int .i64 k) v) w K:=by
 obtain ⟨w',h1,h2,h3⟩:=QH (P:=P) (v:=v) (k:=k) hs.Am ht hk
 rw [bY] at h3
 exact ⟨w',h1,kk w' (hs.rS λ F hF=>⟨F,⟨h3,hF.2⟩,λ b hb=>.inl hb,h2.mono λ k hk=>(hF.2 k).2 hk⟩)⟩
end
section
variable {α:Type} [Flat α] {P:Program} {w w0 w':World} {A:Nat→Prop} {L:List HP} {b:Nat} {f:Int→List α}
abbrev Ct (s:SV) (x:List α):HP:=bK (Flat.val s) x
def oJ (b:Nat) (f:Int→List α):HP:=tW λ ks=>tW λ ss:List SV=>tW λ ti:List (List α)=>fact (f=λ k=>(look ks ti k).getD []) (sep (FZ b ks (ss.map Flat.val)) (iy Ct ss ti))
def sF (w:World) (b:Nat) (f:Int→List α):Prop:=∃ ks,∃ ss:List SV,mH w b ks (ss.map Flat.val)∧(∀ (i:Nat) (k:Int) (s:SV),ks[i]? = some k→ss[i]? = some s→eJ (λ _=>True) w (Flat.val s) (f k))∧∀ k,k ∉ ks→f k=[]
theorem sF.ext (h:sF w b f) (e:Ext w w'):sF w' b f:=by
 obtain ⟨ks,ss,h1,h2,h3⟩:=h; exact ⟨ks,ss,h1.ext e,λ i k s a c=>(h2 i k s a c).ext e,h3⟩
theorem pn {β:Type} {ks:List Int} {xs:List β} {k:Int} {i:Nat} {x:β} (hn:ks.Nodup) (h1:ks[i]? = some k) (h2:xs[i]? = some x):look ks xs k=some x:=by
 unfold look; rw [rG hn h1]; exact h2
theorem o9 {β:Type} {ks:List Int} {xs:List β} {k:Int} (h:k ∉ ks):look ks xs k=none:=by unfold look; rw [mn.2 h]; rfl
theorem oJ.rd {F:Nat→Prop} (h:(oJ b f).p w F):sF w b f:=by
 obtain ⟨ks,ss,ti,hf,F1,F2,h1,h2,_,_⟩:=h
 refine ⟨ks,ss,h1.1,λ i k s hk hs=>?_,λ k hk=>by rw [hf]; dsimp only; rw [o9 hk]; rfl⟩
 have hl:=Bh h2
 have hi:i<ti.length:=by have:=(List.getElem?_eq_some_iff.1 hs).1; omega
 have hx:ti[i]? = some ti[i]:=List.getElem?_eq_getElem hi
 have gn:St w F2 [iy Ct ss ti] w:=St.begin h2
 have:=gn.aoF hs hx (Φ:=λ w=>eJ (λ _=>True) w (Flat.val s) ti[i]) λ h=>(bK.rd h).mono λ _ _=>trivial
 rw [hf]; dsimp only
 rw [pn h1.1.nodup hk hx]; exact this
theorem St.WI (hs:St w0 A (oJ b f::L) w):sF w b f:=by obtain ⟨F,h,_⟩:=hs.head; exact oJ.rd h
theorem sF.look {T Kt E:TypeId} {k:Int} (h:sF w b f) (ht:P.underlying T=some (.map Kt E)) (hk:P.underlying Kt=some (.int .i64)) (hz:qj P E (.slice none 0 0)) :
  ∃ s:SV,(Instr.lookup T (.map (some b)) (.int .i64 k) false).run P w = .ok (Flat.val s) w∧eJ (λ _=>True) w (Flat.val s) (f k):=by
 obtain ⟨ks,ss,h1,h2,h3⟩:=h
 have hr:=o8 (P:=P) (k:=k) h1 ht hk hz
 cases nj:j3 ks k with
 | none=>
  have:Fw.look ks (ss.map Flat.val) k=none:=by unfold Fw.look; rw [nj]; rfl
  rw [this] at hr
  exact ⟨⟨none,0,0⟩,hr,by rw [h3 k (mn.1 nj)]; exact eJ.nil _ _⟩
 | some j=>
  have hj:=jW nj
  have hl:=h1.len
  have hjs:j<ss.length:=by have:=(List.getElem?_eq_some_iff.1 hj).1; simp at hl; omega
  have QI:ss[j]? = some ss[j]:=List.getElem?_eq_getElem hjs
  have:Fw.look ks (ss.map Flat.val) k=some (Flat.val ss[j]):=by unfold Fw.look; rw [nj]; simp [QI]
  rw [this] at hr
  exact ⟨_,hr,h2 j k _ hj QI⟩
theorem sF.aqO {T Kt E:TypeId} {k:Int} (h:sF w0 b f) (ht:P.underlying T=some (.map Kt E)) (hk:P.underlying Kt=some (.int .i64)) (hz:qj P E (.slice none 0 0)) :
  ∃ s:SV,(∀ w,Ext w0 w→(Instr.lookup T (.map (some b)) (.int .i64 k) false).run P w = .ok (Flat.val s) w)∧eJ (λ _=>True) w0 (Flat.val s) (f k):=by
 obtain ⟨ks,ss,h1,h2,h3⟩:=h
 have hr:∀ w,Ext w0 w→_:=λ w e=>o8 (P:=P) (k:=k) (h1.ext e) ht hk hz
 cases nj:j3 ks k with
 | none=>
  have:Fw.look ks (ss.map Flat.val) k=none:=by unfold Fw.look; rw [nj]; rfl
  rw [this] at hr
  exact ⟨⟨none,0,0⟩,hr,by rw [h3 k (mn.1 nj)]; exact eJ.nil _ _⟩
 | some j=>
  have hj:=jW nj
  have hl:=h1.len
  have hjs:j<ss.length:=by have:=(List.getElem?_eq_some_iff.1 hj).1; simp at hl; omega
  have QI:ss[j]? = some ss[j]:=List.getElem?_eq_getElem hjs
  have:Fw.look ks (ss.map Flat.val) k=some (Flat.val ss[j]):=by unfold Fw.look; rw [nj]; simp [QI]
  rw [this] at hr
  exact ⟨_,hr,h2 j k _ hj QI⟩
theorem BF {T Kt E:TypeId} {k:Int} {K:Value→Prop} (h:sF w0 b f) (e:Ext w0 w) (ht:P.underlying T=some (.map Kt E)) (hk:P.underlying Kt=some (.int .i64)) (hz:qj P E (.slice none 0 0))
  (kk:∀ s:SV,eJ (λ _=>True) w0 (Flat.val s) (f k)→K (Flat.val s)):Df P (Instr.lookup T (.map (some b)) (.int .i64 k) false) w K:=by
 obtain ⟨s,h1,h2⟩:=h.aqO (P:=P) (k:=k) ht hk hz; exact ⟨_,h1 w e,kk s h2⟩
def LA (b:Nat) (f:Int→List α) (k:Int) (s:SV):HP:=tW λ ks=>tW λ ss:List SV=>tW λ ti:List (List α)=>tW λ vs:List Value=>
 fact ((∀ k',k'≠k→f k'=(look ks ti k').getD [])∧look ks vs k=(j3 ks k).map (λ _=>Flat.val s)∧(j3 ks k=none→s=⟨none,0,0⟩)∧vs.length=ss.length∧∀ (i:Nat) (k':Int),ks[i]? = some k'→k'≠k→vs[i]? = (ss[i]?).map Flat.val) (sep (FZ b ks vs) (iy Ct ss ti))
theorem St.EW {k:Int} (hs:St w0 A (oJ b f::L) w):∃ s:SV,St w0 A (bK (Flat.val s) (f k)::LA b f k s::L) w:=by
 obtain ⟨ks,hs⟩:=hs.eV; obtain ⟨ss,hs⟩:=hs.eV; obtain ⟨ti,hs⟩:=hs.eV; obtain ⟨hf,hs⟩:=hs.oE
 replace hs:=hs.split
 have hm:=hs.Am
 have hl:=hm.len
 have A6:=hs.p1.lj
 have hn:=hm.nodup
 rw [List.length_map] at hl
 cases nj:j3 ks k with
 | none=>
  refine ⟨⟨none,0,0⟩,?_⟩
  have hx:look ks ti k=none:=by unfold look; rw [nj]; rfl
  have e:f k=[]:=by rw [hf]; dsimp only; rw [hx]; rfl
  rw [e]
  refine (St.eP ks (St.eP ss (St.eP ti (St.eP (ss.map Flat.val) (St.qm ⟨λ k' _=>by rw [hf],by unfold look; rw [nj]; rfl,λ _=>rfl,by rw [List.length_map],λ i k' _ _=>by rw [List.getElem?_map]⟩ (St.join hs)))))).fU
 | some j=>
  have hj:=jW nj
  have hjk:=(List.getElem?_eq_some_iff.1 hj).1
  have QI:ss[j]? = some (ss[j]'(by omega)):=List.getElem?_eq_getElem _
  have hxj:ti[j]? = some (ti[j]'(by omega)):=List.getElem?_eq_getElem _
  refine ⟨ss[j]'(by omega),?_⟩
  have e:f k=ti[j]'(by omega):=by rw [hf]; dsimp only; rw [pn hn hj hxj]; rfl
  rw [e]
  have h1:=(hs.p1.focus QI hxj).p1
  have h2:=(h1.fU (α:=α)).p1
  have h3:St w0 A (Ct (⟨none,0,0⟩:SV) ([]:List α)::qo Ct ss ti j::_::_::L) w:=h2.p1
  have h4:=h3.DU (by omega) A6
  have h5:=h4.p2
  refine (St.eP ks (St.eP (ss.set j ⟨none,0,0⟩) (St.eP (ti.set j []) (St.eP (ss.map Flat.val) (St.qm ⟨λ k' yo=>?_,by unfold look; rw [nj]; simp [QI],λ h=>(by cases nj.symm.trans h),(by simp),λ i k' hi yo=>?_⟩ (St.join h5)))))).p1
  ·rw [hf]; dsimp only
   unfold look
   cases hq:j3 ks k' with
   | none=>rfl
   | some i=>
    have:j≠i:=λ e=>yo (by have:=jW hq; rw [← e,hj] at this; exact (Option.some.inj this).symm)
    simp [this]
  ·rw [List.getElem?_map,List.getElem?_set_ne]
   rintro rfl
   rw [hj] at hi; exact yo (Option.some.inj hi).symm
theorem St.BG {T Kt E:TypeId} {k:Int} {s:SV} (hs:St w0 A (LA b f k s::L) w) (ht:P.underlying T=some (.map Kt E)) (hk:P.underlying Kt=some (.int .i64)) (hz:qj P E (.slice none 0 0)) :
  (Instr.lookup T (.map (some b)) (.int .i64 k) false).run P w = .ok (Flat.val s) w:=by
 obtain ⟨ks,hs⟩:=hs.eV; obtain ⟨ss,hs⟩:=hs.eV; obtain ⟨ti,hs⟩:=hs.eV; obtain ⟨vs,hs⟩:=hs.eV; obtain ⟨⟨_,h2,h3,_⟩,hs⟩:=hs.oE
 have:=o8 (P:=P) (k:=k) hs.split.Am ht hk hz
 rw [h2] at this
 cases nj:j3 ks k with
 | none=>rw [nj] at this; rw [h3 nj]; exact this
 | some j=>rw [nj] at this; exact this
theorem St.WJ {k:Int} {s:SV} {xs:List α} (hs:St w0 A (bK (Flat.val s) xs::LA b f k s::L) w):St w0 A (oJ b (tg f k xs)::L) w:=by
 replace hs:=hs.p1
 obtain ⟨ks,hs⟩:=hs.eV; obtain ⟨ss,hs⟩:=hs.eV; obtain ⟨ti,hs⟩:=hs.eV; obtain ⟨vs,hs⟩:=hs.eV; obtain ⟨⟨hf,h2,h3,hvs,WK⟩,hs⟩:=hs.oE
 replace hs:=hs.split
 have hm:=hs.Am
 have hl:=hm.len
 have hn:=hm.nodup
 have A6:=hs.p1.lj
 cases nj:j3 ks k with
 | none=>
  have AY:=mn.1 nj
  have hval:vs=ss.map Flat.val:=List.ext_getElem? λ i=>by
   cases hi:ks[i]? with
   | none=>rw [List.getElem?_eq_none_iff] at hi; rw [List.getElem?_eq_none (by omega),List.getElem?_eq_none (by rw [List.length_map]; omega)]
   | some k'=>rw [WK i k' hi (λ e=>AY (e▸List.mem_of_getElem? hi)),List.getElem?_map]
  have hx:xs=[]:=by
   obtain ⟨F,h,_⟩:=hs.p2.head
   rw [h3 nj] at h
   rcases h with ⟨_,h,_⟩ | ⟨b',cap,rest,h,_⟩
   ·exact h
   ·cases h
  subst hx
  refine St.eP ks (St.eP ss (St.eP ti (St.qm ?_ (St.join ?_))))
  ·funext k'
   unfold tg
   by_cases e:k'=k
   ·subst e; rw [if_pos rfl,o9 AY]; rfl
   ·rw [if_neg e,hf k' e]
  ·rw [← hval]; exact hs.p2.drop
 | some j=>
  have hj:=jW nj
  have hjk:=(List.getElem?_eq_some_iff.1 hj).1
  have QI:ss[j]? = some (ss[j]'(by omega)):=List.getElem?_eq_getElem _
  have hxj:ti[j]? = some (ti[j]'(by omega)):=List.getElem?_eq_getElem _
  have hvj:vs[j]? = some (Flat.val s):=by unfold look at h2; rw [nj] at h2; exact h2
  have h6:=((hs.p1.focus QI hxj).drop).p2
  have h7:St w0 A (Ct s xs::qo Ct ss ti j::_::L) w:=h6.p0
  have h8:=h7.DU (by omega) A6
  refine St.eP ks (St.eP (ss.set j s) (St.eP (ti.set j xs) (St.qm ?_ (St.join ?_))))
  ·funext k'
   unfold tg
   by_cases e:k'=k
   ·subst e
    rw [if_pos rfl,pn hn hj (x:=xs) (by rw [List.getElem?_set_self (by omega)])]; rfl
   ·rw [if_neg e,hf k' e]
    unfold look
    cases hq:j3 ks k' with
    | none=>rfl
    | some i=>
     have:j≠i:=λ e'=>e (by have:=jW hq; rw [← e',hj] at this; exact (Option.some.inj this).symm)
     simp [this]
  ·have e:(ss.set j s).map Flat.val=vs:=by
    apply List.ext_getElem?
    intro i
    rw [List.getElem?_map]
    by_cases e:j=i
    ·subst e; rw [List.getElem?_set_self (by omega),hvj]; rfl
    ·rw [List.getElem?_set_ne e]
     cases hi:ks[i]? with
     | none=>rw [List.getElem?_eq_none_iff] at hi; rw [List.getElem?_eq_none (show vs.length≤i by omega),List.getElem?_eq_none (show ss.length≤i by omega)]; rfl
     | some k'=>rw [WK i k' hi (λ e'=>e (by rw [e'] at hi; have h1:=rG hn hi; rw [nj] at h1; exact Option.some.inj h1))]
   rw [e]; exact h8.p1
omit [Flat α] in
theorem So {f:Int→List α} {k:Int}:tg f k (f k)=f:=by
 funext j; unfold tg; split
 ·rename_i h; rw [h]
 ·rfl
theorem Cc {T Kt E:TypeId} {k:Int} {s s':SV} {xs:List α} {K:World→Prop} (hs:St w0 A (bK (Flat.val s') xs::LA b f k s::L) w) (ht:P.underlying T=some (.map Kt E)) (hk:P.underlying Kt=some (.int .i64))
  (kk:∀ w',St w0 A (oJ b (tg f k xs)::L) w'→K w'):A0 P (Instr.mapUpdate T (.map (some b)) (.int .i64 k) (Flat.val s')) w K:=by
 replace hs:=hs.p1
 obtain ⟨ks,hs⟩:=hs.eV; obtain ⟨ss,hs⟩:=hs.eV; obtain ⟨ti,hs⟩:=hs.eV; obtain ⟨vs,hs⟩:=hs.eV; obtain ⟨⟨hf,h2,h3,hvs,WK⟩,hs⟩:=hs.oE
 replace hs:=hs.split
 have hm:=hs.Am
 have hl:=hm.len
 have hn:=hm.nodup
 have A6:=hs.p1.lj
 obtain ⟨w',r1,r2,r3⟩:=QH (P:=P) (v:=Flat.val s') (k:=k) hm ht hk
 refine ⟨w',r1,kk w' ?_⟩
 cases nj:j3 ks k with
 | none=>
  rw [nj] at r3
  have h5:St w0 A (FZ b (ks++[k]) (vs++[Flat.val s'])::_::_::L) w':=hs.rS λ F hF=>⟨F,⟨r3,hF.2⟩,λ b hb=>.inl hb,r2.mono λ k hk=>(hF.2 k).2 hk⟩
  have AY:=mn.1 nj
  have hval:vs=ss.map Flat.val:=List.ext_getElem? λ i=>by
   cases hi:ks[i]? with
   | none=>rw [List.getElem?_eq_none_iff] at hi; rw [List.getElem?_eq_none (by omega),List.getElem?_eq_none (by rw [List.length_map]; omega)]
   | some k'=>rw [WK i k' hi (λ e=>AY (e▸List.mem_of_getElem? hi)),List.getElem?_map]
  have h6:=h5.p1
  have h7:St w0 A (iy Ct (ss++[s']) (ti++[xs])::_::L) w':=St.DQ (H:=Ct (α:=α)) (p:=s') (x:=xs) h6.p2.p1
  refine St.eP (ks++[k]) (St.eP (ss++[s']) (St.eP (ti++[xs]) (St.qm ?_ (St.join ?_))))
  ·funext k'
   unfold tg
   by_cases e:k'=k
   ·subst e
    rw [if_pos rfl,pn (i:=ks.length) r3.nodup (by simp) (x:=xs) (by rw [List.getElem?_append_right (by omega)]; simp [show ks.length - ti.length=0 from by omega])]; rfl
   ·rw [if_neg e,hf k' e]
    by_cases vl:k'∈ks
    ·obtain ⟨i,hi,hik⟩:=List.getElem_of_mem vl
     have Yr:ks[i]? = some k':=by rw [List.getElem?_eq_getElem hi,hik]
     have hxi:ti[i]? = some (ti[i]'(by omega)):=List.getElem?_eq_getElem _
     rw [pn hn Yr hxi,pn (i:=i) r3.nodup (by rw [List.getElem?_append_left hi]; exact Yr) (by rw [List.getElem?_append_left (by omega)]; exact hxi)]
    ·rw [o9 vl,o9 (by simp [vl,e])]
  ·have e:(ss++[s']).map Flat.val=vs++[Flat.val s']:=by rw [hval,List.map_append]; rfl
   rw [e]; exact h7.p1
 | some j=>
  rw [nj] at r3
  have h5:St w0 A (FZ b ks (vs.set j (Flat.val s'))::_::_::L) w':=hs.rS λ F hF=>⟨F,⟨r3,hF.2⟩,λ b hb=>.inl hb,r2.mono λ k hk=>(hF.2 k).2 hk⟩
  have hj:=jW nj
  have hjk:=(List.getElem?_eq_some_iff.1 hj).1
  have QI:ss[j]? = some (ss[j]'(by omega)):=List.getElem?_eq_getElem _
  have hxj:ti[j]? = some (ti[j]'(by omega)):=List.getElem?_eq_getElem _
  have h6:=((h5.p1.focus QI hxj).drop).p2
  have h7:St w0 A (Ct s' xs::qo Ct ss ti j::_::L) w':=h6.p0
  have h8:=h7.DU (by omega) A6
  refine St.eP ks (St.eP (ss.set j s') (St.eP (ti.set j xs) (St.qm ?_ (St.join ?_))))
  ·funext k'
   unfold tg
   by_cases e:k'=k
   ·subst e
    rw [if_pos rfl,pn hn hj (x:=xs) (by rw [List.getElem?_set_self (by omega)])]; rfl
   ·rw [if_neg e,hf k' e]
    unfold look
    cases hq:j3 ks k' with
    | none=>rfl
    | some i=>
     have:j≠i:=λ e'=>e (by have:=jW hq; rw [← e',hj] at this; exact (Option.some.inj this).symm)
     simp [this]
  ·have e:(ss.set j s').map Flat.val=vs.set j (Flat.val s'):=by
    apply List.ext_getElem?
    intro i
    rw [List.getElem?_map]
    by_cases e:j=i
    ·subst e; rw [List.getElem?_set_self (by omega),List.getElem?_set_self (by omega)]; rfl
    ·rw [List.getElem?_set_ne e,List.getElem?_set_ne e]
     cases hi:ks[i]? with
     | none=>rw [List.getElem?_eq_none_iff] at hi; rw [List.getElem?_eq_none (show vs.length≤i by omega),List.getElem?_eq_none (show ss.length≤i by omega)]; rfl
     | some k'=>rw [WK i k' hi (λ e'=>e (by rw [e'] at hi; have h1:=rG hn hi; rw [nj] at h1; exact Option.some.inj h1))]
   rw [e]; exact h8.p1
theorem ow {T:TypeId} {K:Value→World→Prop} (hs:St w0 A L w) (k:∀ b w',St w0 A (oJ b (λ _=>([]:List α))::L) w'→K (.map (some b)) w'):gU P (Instr.makeMap T none) w K:=
 wF hs λ b w' h=>k b w' (St.eP [] (St.eP [] (St.eP ([]:List (List α)) (St.qm rfl (St.join ((h.new (Ext.refl w') (H:=iy Ct [] []) (F:=bD) (λ _ h=>h) λ _ h=>h.elim).p1))))))
theorem LB {T Kt E R:TypeId} {k:Int} {A2:Array TypeId} {K:Value→World→Prop} (hs:St w0 A (oJ b f::L) w) (ha:A2[0]? = some T) (ht:P.underlying T=some (.map Kt E)) (hk:P.underlying Kt=some (.int .i64))
  (kk:∀ v w',St w0 A (oJ b (tg f k [])::L) w'→K v w'):gU P (Builtin.delete_ A2 R [.map (some b),.int .i64 k].toArray) w K:=by
 obtain ⟨ks,hs⟩:=hs.eV; obtain ⟨ss,hs⟩:=hs.eV; obtain ⟨ti,hs⟩:=hs.eV; obtain ⟨hf,hs⟩:=hs.oE
 replace hs:=hs.split
 have hm:=hs.Am
 have hl:=hm.len
 have A6:=hs.p1.lj
 have hn:=hm.nodup
 rw [List.length_map] at hl
 obtain ⟨w',r1,r2,r3⟩:=adi (P:=P) (R:=R) (k:=k) hm ha ht hk
 refine ⟨_,w',r1,kk _ w' ?_⟩
 cases nj:j3 ks k with
 | none=>
  rw [nj] at r3
  have h5:St w0 A (FZ b ks (ss.map Flat.val)::_::L) w':=hs.rS λ F hF=>⟨F,⟨r3,hF.2⟩,λ b hb=>.inl hb,r2.mono λ k hk=>(hF.2 k).2 hk⟩
  refine St.eP ks (St.eP ss (St.eP ti (St.qm ?_ (St.join h5))))
  funext k'
  unfold tg
  by_cases e:k'=k
  ·subst e; rw [if_pos rfl]; unfold look; rw [nj]; rfl
  ·rw [if_neg e,hf]
 | some j=>
  rw [nj] at r3
  have hj:=jW nj
  have hjk:=(List.getElem?_eq_some_iff.1 hj).1
  have h5:St w0 A (FZ b (ks.eraseIdx j) ((ss.map Flat.val).eraseIdx j)::_::L) w':=hs.rS λ F hF=>⟨F,⟨r3,hF.2⟩,λ b hb=>.inl hb,r2.mono λ k hk=>(hF.2 k).2 hk⟩
  have QI:ss[j]? = some (ss[j]'(by omega)):=List.getElem?_eq_getElem _
  have hxj:ti[j]? = some (ti[j]'(by omega)):=List.getElem?_eq_getElem _
  have h6:=(h5.p1.focus QI hxj).drop.RV
  dsimp only at r3
  rw [← ChangeMaps.map_eraseIdx] at h6 r3
  refine St.eP (ks.eraseIdx j) (St.eP (ss.eraseIdx j) (St.eP (ti.eraseIdx j) (St.qm ?_ (St.join h6.p1))))
  funext k'
  unfold tg
  by_cases e:k'=k
  ·subst e
   rw [if_pos rfl,o9]; rfl
   intro JO
   obtain ⟨i,hi,hik⟩:=List.getElem_of_mem JO
   rw [List.getElem_eraseIdx] at hik
   split at hik
   ·have:=rG (j:=i) hn (k:=k') (by rw [← hik]; exact List.getElem?_eq_getElem _); rw [nj] at this; have:=Option.some.inj this; omega
   ·have:=rG (j:=i+1) hn (k:=k') (by rw [← hik]; exact List.getElem?_eq_getElem _); rw [nj] at this; have:=Option.some.inj this; omega
  ·rw [if_neg e,hf]; dsimp only
   by_cases vl:k'∈ks
   ·obtain ⟨i,hi,hik⟩:=List.getElem_of_mem vl
    have Yr:ks[i]? = some k':=by rw [List.getElem?_eq_getElem hi,hik]
    have hxi:ti[i]? = some (ti[i]'(by omega)):=List.getElem?_eq_getElem _
    have hij:i≠j:=λ e'=>e (by rw [e',hj] at Yr; exact (Option.some.inj Yr).symm)
    rw [pn hn Yr hxi]
    by_cases mD:i<j
    ·rw [pn (i:=i) r3.nodup (by rw [List.getElem?_eraseIdx_of_lt mD]; exact Yr) (by rw [List.getElem?_eraseIdx_of_lt mD]; exact hxi)]
    ·rw [pn (i:=i - 1) r3.nodup (by rw [List.getElem?_eraseIdx_of_ge (by omega),show i - 1+1=i from by omega]; exact Yr) (by rw [List.getElem?_eraseIdx_of_ge (by omega),show i - 1+1=i from by omega]; exact hxi)]
   ·rw [o9 vl,o9 (λ h=>vl ((List.eraseIdx_sublist ks j).subset h))]
end
section
variable {α:Type} [Flat α] {P:Program} {w w0 w':World} {A S:Nat→Prop} {L:List HP} {xs ys:List α}
theorem EX {T T2 E oz b o dn dc:Nat} {z:Option Nat} {R:TypeId} {src:Value} {cs:List Value} (ht:fb P T=some (E,Flat.sz α,oz,z)) (hb:tH w b cs) (xD:eJ S w src ys)
  (hn:ys.length≤dn) (M4:o+ys.length * Flat.sz α≤cs.length) :
  ∃ w',(Builtin.copy_ #[T,T2] R [.slice (some ⟨b,o,none⟩) dn dc,src].toArray).run P w = .ok (.int .i64 ys.length) w'∧tH w' b (gV cs o (flat ys))∧ix (· = b) w w':=by
 obtain ⟨hu,inf,hi,lC,Bc,_⟩:=gr ht
 have hf:=wZ (α:=α) (P:=P) (sz:=Flat.sz α) rfl xD
 have rd:=xD
 obtain ⟨sa,Ub,rfl,hsc,hs3⟩:=rd
 obtain ⟨w',h1,h2,h3⟩:=mw (P:=P) (o:=o) (flat ys) 0 cs w hb (by rw [cR]; omega) zu
 refine ⟨w',?_,by simpa using h2,h3⟩
 simp [Builtin.copy_,run_underlying hu,sizeOf,typeInfo,hi,Builtin.lenOf,Nat.min_eq_left hn,hf,lC,h1,goInt]
theorem LC {T T2 E oz:Nat} {z:Option Nat} {R:TypeId} {v src:Value} {K:Value→World→Prop} (hs:St w0 A (bK v xs::L) w) (ht:fb P T=some (E,Flat.sz α,oz,z)) (xD:eJ S w src ys) (hn:ys.length≤xs.length)
  (k:∀ w',St w0 A (bK v (ys++xs.drop ys.length)::L) w'→K (.int .i64 ys.length) w'):gU P (Builtin.copy_ #[T,T2] R [v,src].toArray) w K:=by
 obtain ⟨U,F,U',g1,g2,g3,g4,g5⟩:=hs.sP
 rcases g1 with ⟨rfl,rfl,hF⟩ | ⟨b,cap,rest,rfl,hb,hl,hF⟩
 ·obtain rfl:ys=[]:=by simpa using hn
  obtain ⟨hu,inf,hi,lC,Bc,_⟩:=gr ht
  have hf:=wZ (α:=α) (P:=P) (sz:=Flat.sz α) rfl xD
  obtain ⟨sa,Ub,rfl,hsc,hs3⟩:=xD
  refine ⟨_,w,?_,k w hs⟩
  simp at hf
  simp [Builtin.copy_,run_underlying hu,sizeOf,typeInfo,hi,Builtin.lenOf,lC,hf,goInt]
 ·have hle:ys.length * Flat.sz α≤xs.length * Flat.sz α:=Nat.mul_le_mul_right _ hn
  obtain ⟨w',h1,h2,h3⟩:=EX (P:=P) (o:=0) (dn:=xs.length) (dc:=cap) (T2:=T2) (R:=R) ht hb xD hn (by rw [List.length_append,cR]; omega)
  refine ⟨_,w',h1,k w' (hs.rS λ F' hF'=>?_)⟩
  rcases hF' with ⟨h,_⟩ | ⟨b',J9,rest',hv,hb',hl',hF'⟩
  ·cases h
  ·simp only [Value.slice.injEq,Option.some.injEq,Addr.mk.injEq,and_true,true_and] at hv
   obtain ⟨rfl,rfl⟩:=hv
   refine ⟨F',.inr ⟨b,cap,rest,?_,?_,?_,hF'⟩,λ b hb=>.inl hb,h3.mono λ k hk=>(hF' k).2 hk⟩
   ·congr 1; rw [List.length_append,List.length_drop]; omega
   ·have e:flat xs=[]++flat (xs.take ys.length)++flat (xs.drop ys.length):=by rw [List.nil_append,← il,List.take_append_drop]
    have:=kM [] (flat (xs.take ys.length)) (flat (xs.drop ys.length)++rest) (flat ys) (by rw [cR,cR,List.length_take,Nat.min_eq_left hn])
    rw [List.length_nil] at this
    rw [e,List.append_assoc,this] at h2
    rw [il,List.append_assoc]; exact h2
   ·rw [List.length_append,cR,List.length_append,List.length_drop,show ys.length+(xs.length - ys.length)=xs.length from by omega,← cR (xs:=xs),← List.length_append]; exact hl
end
end Go.Fw
namespace Go.Proofs.YtnjcingfdhjfkaaGreat
open Go.Fw
structure Mem where
 of:List Int
 cT:List Int
 l:List Int
 kept:List Int
 gy:Int→List jk
def jq (of:List Int):Int:=if of.length=0 then 0 else of.getD (of.length - 1) 0+1
def xP (k:List Int) (ws:List jk):List Int:=ws.foldl (λ k w=>k.set w.cell.toNat w.n) k
theorem An (ws:List jk):∀ k:List Int,(xP k ws).length=k.length:=by
 induction ws with
 | nil=>intro k; rfl
 | cons x ws ih=>intro k; show (xP (k.set x.cell.toNat x.n) ws).length=_; rw [ih,List.length_set]
theorem Sp (ws:List jk) (x:jk) (k:List Int):xP k (ws++[x])=(xP k ws).set x.cell.toNat x.n:=by
 unfold xP; rw [List.foldl_append]; rfl
theorem G5 {ws:List jk} {j:Nat} {x:jk} {k:List Int} (hx:ws[j]? = some x):xP k (ws.take (j+1))=(xP k (ws.take j)).set x.cell.toNat x.n:=by
 rw [List.take_add_one,hx]; exact Sp _ _ _
def Oe (m:Mem) (cell:Int):Bool:=decide (0≤cell∧cell<m.l.length)
def iH (m:Mem) (cell n:Int):Mem:=if Oe m cell=true then {m with l:=m.l.set cell.toNat n,gy:=if cell<m.of.length then tg m.gy (m.of.getD cell.toNat 0) (m.gy (m.of.getD cell.toNat 0)++[⟨cell,n⟩]) else m.gy} else m
def Sq (m:Mem) (line:Int):Bool:=decide (0≤line∧line<jq m.of)
def vD (m:Mem) (line:Int):Mem:=if Sq m line=true then {m with kept:=xP m.kept (m.gy line),gy:=tg m.gy line []} else m
structure vG (m:Mem):Prop where
 QJ:m.of.length≤m.cT.length
 fl:m.cT.length≤20
 ll:m.l.length=m.cT.length
 kl:m.kept.length=m.of.length
 ofr:∀ n∈m.of,0≤n∧n<jq m.of
 lb:jq m.of≤20
 pc:∀ k,∀ x∈m.gy k,0≤x.cell∧x.cell<m.of.length
def MB (m:Mem) (n:Nat):Prop:=∀ k,(m.gy k).length≤n
def fW (p:Nat) (ov fv:Value) (m:Mem):HP:=tW λ lv=>tW λ kv=>tW λ pm=>sep (cE p [ov,fv,lv,kv,.map (some pm)]) (sep (bK lv m.l) (sep (bK kv m.kept) (oJ pm m.gy)))
def uq (ov fv:Value) (m:Mem) (w:World):Prop:=eJ (λ _=>True) w ov m.of∧eJ (λ _=>True) w fv m.cT
def vd (w:World) (p:Nat) (m:Mem):Prop:=∃ ov fv lv kv pm,Cell w p 0 ov∧Cell w p 1 fv∧Cell w p 2 lv∧Cell w p 3 kv∧Cell w p 4 (.map (some pm))∧eJ (λ _=>True) w ov m.of∧eJ (λ _=>True) w fv m.cT∧eJ (λ _=>True) w lv m.l∧eJ (λ _=>True) w kv m.kept∧sF w pm m.gy
section
variable {w w' w0:World} {A F:Nat→Prop} {R:List HP} {p:Nat} {ov fv lv kv:Value} {m:Mem} {pm:Nat}
theorem vd.ext (h:vd w p m) (e:Ext w w'):vd w' p m:=by
 obtain ⟨ov,fv,lv,kv,pm,c0,c1,c2,c3,c4,h0,h1,h2,h3,h4⟩:=h
 exact ⟨ov,fv,lv,kv,pm,c0.ext e,c1.ext e,c2.ext e,c3.ext e,c4.ext e,h0.ext e,h1.ext e,h2.ext e,h3.ext e,h4.ext e⟩
theorem vd.mk' (h:tH w p [ov,fv,lv,kv,.map (some pm)]) (hK:uq ov fv m w) (h2:eJ (λ _=>True) w lv m.l) (h3:eJ (λ _=>True) w kv m.kept) (h4:sF w pm m.gy):vd w p m:=
 ⟨ov,fv,lv,kv,pm,h.cell rfl,h.cell rfl,h.cell rfl,h.cell rfl,h.cell rfl,hK.1,hK.2,h2,h3,h4⟩
theorem fW.open (hs:St w0 A (fW p ov fv m::R) w):∃ lv kv pm,St w0 A (cE p [ov,fv,lv,kv,.map (some pm)]::bK lv m.l::bK kv m.kept::oJ pm m.gy::R) w:=by
 obtain ⟨lv,hs⟩:=hs.eV; obtain ⟨kv,hs⟩:=hs.eV; obtain ⟨pm,hs⟩:=hs.eV
 have h1:=hs.split
 have h2:=h1.p1.split
 have h3:=(h2.p1.split)
 exact ⟨lv,kv,pm,h3.p2.p3⟩
theorem fW.shut (hs:St w0 A (cE p [ov,fv,lv,kv,.map (some pm)]::bK lv m.l::bK kv m.kept::oJ pm m.gy::R) w):St w0 A (fW p ov fv m::R) w:=by
 have h1:St w0 A (sep (bK kv m.kept) (oJ pm m.gy)::cE p [ov,fv,lv,kv,.map (some pm)]::bK lv m.l::R) w:=St.join (hs.p3.p3)
 have h2:St w0 A (sep (bK lv m.l) (sep (bK kv m.kept) (oJ pm m.gy))::cE p [ov,fv,lv,kv,.map (some pm)]::R) w:=St.join h1.p2
 exact St.eP lv (St.eP kv (St.eP pm (St.join h2.p1)))
theorem IX (hs:St w0 A (fW p ov fv m::R) w) (hK:uq ov fv m w):vd w p m:=by
 obtain ⟨lv,kv,pm,hs⟩:=fW.open hs
 exact vd.mk' hs.hb hK hs.p1.fB hs.p2.fB hs.p3.WI
end
theorem C144 (p:Nat) (m:Mem) (w:World) (hm:vd w p m) (hk:vG m):CR 144 [(.pointer (some ⟨p,0,none⟩))] w (λ v w'=>v = .int .i64 (jq m.of)∧Ext w w'):=by
 have EY:=hm;obtain ⟨ov,fv,lv,kv,pm,c0,c1,c2,c3,c4,hO,Sr,hL,hKp,hP⟩:=hm;have h20:=hk.fl;have YC:=hk.QJ;have Nt:=hk.ll;have KL:=hk.kl;have Qi:=hk.lb;have hs:=St.start w;refine ZE _ _ _ ?_;unfold S144;refine aE (aA tS (cD eu (c0.ext hs.aF) (aJ dY (hO.ext hs.aF) (aH (aC (λ gp=>?_) (λ gp=>?_))))))
 ·exact ⟨congrArg (Value.int .i64) (by unfold jq; rw [if_pos (by omega)]),hs.aF⟩
 ·refine aE (aA tS (have hs:=hs.drew;cD eu (c0.ext hs.aF) (aE (aA tS (cD eu (c0.ext hs.aF) (aJ dY (hO.ext hs.aF) (gA (by omega) ?_)))))));obtain ⟨iX,fH⟩:=gx (m.of) (i:=((((m.of).length:Int) - 1)).toNat) (by omega);refine aQ dY hO (by omega) fH (λ _ jL=>aD bL (jL.ext hs.aF) ?_);have hx20:=hk.ofr _ (List.mem_of_getElem? fH);refine aO (by omega) ?_;exact ⟨congrArg (Value.int .i64) (by unfold jq; rw [if_neg (by omega),List.getD_eq_getElem?_getD,show m.of.length - 1=((m.of.length:Int) - 1).toNat from by omega,fH]; rfl),hs.aF⟩
theorem C195 (p:Nat) (m:Mem) (cell:Int) (w:World) (hm:vd w p m) (hk:vG m):CR 195 [(.pointer (some ⟨p,0,none⟩)),.int .i64 cell] w (λ v w'=>v = .tuple #[.int .i64 (if Oe m cell=true then m.l.getD cell.toNat 0 else 0),.int .i64 (if Oe m cell=true then 0 else 1)]∧Ext w w'):=by
 have EY:=hm;obtain ⟨ov,fv,lv,kv,pm,c0,c1,c2,c3,c4,hO,Sr,hL,hKp,hP⟩:=hm;have hs:=St.start w;refine aal _ _ _ _ ?_;unfold S195;refine ⟨λ jv w'=>jv = .bool (decide (cell<0∨m.l.length≤cell))∧w=w',?_,?_⟩
 ·refine aR (aC (λ iQ=>?_) (λ iQ=>?_))
  ·exact ⟨Ph (by omega),rfl⟩
  ·refine aE (aA qZ (cD eu (c2.ext hs.aF) (aJ dY (hL.ext hs.aF) (dF ?_))));exact ⟨wW (by omega),rfl⟩
 ·rintro _ w1 ⟨rfl,hw⟩ fy;subst hw;refine aC (λ eB=>?_) (λ eB=>?_)
  ·have vl:Oe m cell=false:=by unfold Oe; rw [decide_eq_false_iff_not]; omega
   rw [vl];exact ⟨rfl,hs.aF⟩
  ·refine aE (aA qZ (cD eu (c2.ext hs.aF) ?_));obtain ⟨e_x22,WL⟩:=gx (m.l) (i:=(cell).toNat) (by omega);refine aQ dY hL (by omega) WL (λ _ KV=>aD bL (KV.ext hs.aF) ?_);have vl:Oe m cell=true:=by unfold Oe; rw [decide_eq_true_eq]; omega
   rw [vl,List.getD_eq_getElem?_getD,WL];exact ⟨rfl,hs.aF⟩
theorem C72 (p:Nat) (m:Mem) (w:World) (hm:vd w p m) (hk:vG m):CR 72 [(.pointer (some ⟨p,0,none⟩))] w (λ v w'=>lY (bK v m.l) w w'):=by
 have EY:=hm;obtain ⟨ov,fv,lv,kv,pm,c0,c1,c2,c3,c4,hO,Sr,hL,hKp,hP⟩:=hm;have h20:=hk.fl;have YC:=hk.QJ;have Nt:=hk.ll;have KL:=hk.kl;have Qi:=hk.lb;have hs:=St.start w;refine ahJ _ _ _ ?_;unfold S72;refine aE (aA qZ (cD eu (c2.ext hs.aF) (cZ zp hs (C70 _ _ _ (hL.ext hs.aF) (by omega)) (λ x7 w1 bY hs=>?_))));exact hs.fresh
theorem C73 (p:Nat) (m:Mem) (w:World) (hm:vd w p m) (hk:vG m):CR 73 [(.pointer (some ⟨p,0,none⟩))] w (λ v w'=>lY (bK v m.kept) w w'):=by
 have EY:=hm;obtain ⟨ov,fv,lv,kv,pm,c0,c1,c2,c3,c4,hO,Sr,hL,hKp,hP⟩:=hm;have h20:=hk.fl;have YC:=hk.QJ;have Nt:=hk.ll;have KL:=hk.kl;have Qi:=hk.lb;have hs:=St.start w;refine ahK _ _ _ ?_;unfold S73;refine aE (aA zG (cD eu (c3.ext hs.aF) (cZ zp hs (C70 _ _ _ (hKp.ext hs.aF) (by omega)) (λ x7 w1 bY hs=>?_))));exact hs.fresh
theorem C137 (sv:Value) (xs:List jk) (w:World) (hL:eJ (λ _=>True) w sv xs) (hn:xs.length≤1000000):CR 137 [sv] w (λ v w'=>lY (bK v xs) w w'):=by
 have hs:=St.start w;refine ZD _ _ _ ?_;unfold S137;refine xf Tryz.underlying213 (hL.ext hs.aF) (λ p hp=>aX (λ pI=>?_) (λ pI=>?_))
 ·have hx:=hp pI;subst hx;exact (hs.fU (α:=jk)).fresh
 ·refine bW (([]:List jk)) hs vR rfl rfl (eI rfl) (λ Iy w1 hs=>?_);have z7:=(hL.ext hs.aF);refine cN hs vR z7 (by simp; omega) (by decide) (λ Lc w2 hs=>?_);exact hs.fresh
theorem C128 (p:Nat) (ov fv:Value) (m:Mem) (F:Nat→Prop) (cell n:Int) (w:World) (hF:(fW p ov fv m).p w F) (hK:∀ w',ix F w w'→uq ov fv m w') (hk:vG m) (hb:MB m 1000000):CR 128 [(.pointer (some ⟨p,0,none⟩)),.int .i64 cell,.int .i64 n] w (λ v w'=>v = .int .i64 (if Oe m cell=true then 0 else 1)∧qn F (fW p ov fv (iH m cell n)) w w'):=by
 have hs:=St.begin hF;obtain ⟨lv,kv,pm,hs⟩:=fW.open hs;have h20:=hk.fl;have YC:=hk.QJ;have Nt:=hk.ll;have KL:=hk.kl;have Qi:=hk.lb;refine Zu _ _ _ _ _ ?_;unfold S128;refine ⟨λ jv w'=>jv = .bool (decide (cell<0∨m.l.length≤cell))∧w=w',?_,?_⟩
 ·refine aR (aC (λ gv=>?_) (λ gv=>?_))
  ·exact ⟨Ph (by omega),rfl⟩
  ·refine aE (aA qZ (aB eu hs.hb rfl (aJ dY (hs.p1).fB (dF ?_))));exact ⟨wW (by omega),rfl⟩
 ·rintro _ w1 ⟨rfl,hw⟩ fy;subst hw;refine aC (λ gh=>?_) (λ gh=>?_)
  ·have hs:=hs.p3.p3.p3.p3;have vl:Oe m cell=false:=by unfold Oe; rw [decide_eq_false_iff_not]; omega
   unfold iH;rw [vl];exact ⟨rfl,(fW.shut hs).mut⟩
  ·have vl:Oe m cell=true:=by unfold Oe; rw [decide_eq_true_eq]; omega
   refine aE (aA qZ (aB eu hs.hb rfl ?_));obtain ⟨GW,pZ⟩:=gx (m.l) (i:=(cell).toNat) (by omega);refine dR hs.p1 dY (by omega) (by omega) (λ _ uh=>lJ _ hs.p1 bL uh (by omega) (λ w2 hs=>?_));refine ⟨λ w'=>St w F [fW p ov fv (iH m cell n)] w',?_,?_⟩
   ·refine aE (aA tS (aB eu hs.p1.hb rfl (aJ dY (hK _ hs.aF).1 (aR (aC (λ jK=>?_) (λ jK=>?_))))))
    ·refine aE (aA tS (aB eu hs.p1.hb rfl ?_));obtain ⟨La,Bq⟩:=gx (m.of) (i:=(cell).toNat) (by omega);refine aQ dY (hK _ hs.aF).1 (by omega) Bq (λ _ El=>aD bL (El) (aE (aA m4 (have hs:=hs.drew;aB se hs.p1.hb rfl (aE (aA m4 (aB se hs.p1.hb rfl ?_)))))));have hbx:=hb La;obtain ⟨VB,hs⟩:=(hs.p3).EW (k:=La);refine ⟨_,(hs.p1).BG Tryz.underlying201 oN xd,?_⟩;refine pop (Nh _ _) (bW ([(⟨cell,n⟩:jk)]) hs vR rfl rfl (eI rfl) (λ s_x54 w3 hs=>?_));refine ⟨aG se (hs.p4.hb.cell rfl),?_⟩;refine ⟨aG se (hs.p4.hb.cell rfl),?_⟩
     refine ⟨(hs.p2).BG Tryz.underlying201 oN xd,?_⟩;have aj1:=(hs).fB;refine cN hs.p1 vR aj1 (by simp; omega) (by decide) (λ aqQ w4 hs=>?_);have hs:=hs.p1.drop;refine ⟨aG se (hs.p3.hb.cell rfl),?_⟩;obtain ⟨EZ,rfl⟩:=(hs).fR;have hs:=hs.p1.p1;refine Cc hs Tryz.underlying201 oN (λ w5 hs=>?_);have hs:=hs.p3.p2.p3;have hwm:iH m cell n={m with l:=m.l.set cell.toNat n,gy:=tg m.gy La (m.gy La++[⟨cell,n⟩])}:=by unfold iH; rw [if_pos vl,if_pos (by omega),List.getD_eq_getElem?_getD,Bq]; rfl
     rw [hwm];exact fW.shut (m:={m with l:=_,gy:=_}) hs
    ·have hs:=hs.p3.p3.p2.p3;have hwm:iH m cell n={m with l:=m.l.set cell.toNat n}:=by unfold iH; rw [if_pos vl,if_neg (by omega)]
     rw [hwm];exact fW.shut (m:={m with l:=_,gy:=_}) hs
   ·intro w6 hs jB;exact ⟨by rw [vl]; rfl,hs.mut⟩
def QK (m:Mem) (cut:List Int):Bool:=decide ((cut.length:Int)=jq m.of) && (List.range cut.length).all λ i=>decide (0≤cut.getD i 0∧cut.getD i 0≤(m.gy i).length)
def rW (m:Mem) (cut:List Int) (k:Nat):List Int:=(List.range k).foldl (λ o (i:Nat)=>xP o ((m.gy i).take (cut.getD i 0).toNat)) m.kept
def jr (m:Mem) (cut:List Int):Option (List Int):=if QK m cut=true then some (rW m cut cut.length) else none
theorem G6 (m:Mem) (cut:List Int) (k:Nat):rW m cut (k+1)=xP (rW m cut k) ((m.gy k).take (cut.getD k 0).toNat):=by
 unfold rW; rw [List.range_succ,List.foldl_append]; rfl
theorem rI (m:Mem) (cut:List Int):∀ k,(rW m cut k).length=m.kept.length
 | 0=>rfl
 | k+1=>by rw [G6,An,rI]
theorem WM {m:Mem} {cut:List Int} {k:Nat} {c:Int} (hc:cut[k]? = some c) (h:¬ (0≤c∧c≤(m.gy k).length)):jr m cut=none:=by
 unfold jr; rw [if_neg]
 intro hh
 unfold QK at hh
 rw [Bool.and_eq_true,List.all_eq_true] at hh
 have:=hh.2 k (List.mem_range.2 (List.getElem?_eq_some_iff.1 hc).1)
 rw [decide_eq_true_eq,List.getD_eq_getElem?_getD,hc] at this
 exact h this
theorem WN {m:Mem} {cut:List Int} (h:(cut.length:Int)≠jq m.of):jr m cut=none:=by
 unfold jr QK; rw [decide_eq_false h]; rfl
theorem BH {m:Mem} {cut:List Int} (h:(cut.length:Int)=jq m.of) (hc:∀ (k:Nat) (c:Int),k<cut.length→cut[k]? = some c→0≤c∧c≤(m.gy k).length):jr m cut=some (rW m cut cut.length):=by
 unfold jr; rw [if_pos]
 unfold QK
 rw [Bool.and_eq_true,List.all_eq_true]
 refine ⟨decide_eq_true h,λ k hk=>?_⟩
 have hk:=List.mem_range.1 hk
 rw [decide_eq_true_eq,List.getD_eq_getElem?_getD,List.getElem?_eq_getElem hk]
 exact hc k _ hk (List.getElem?_eq_getElem hk)
def QL:List Nat→List Int→Option (List Int)
 | p::ps,c::cs=>match QL ps cs with
  | some cs'=>some (c::cs')
  | none=>if c<p then some ((c+1)::List.replicate cs.length 0) else none
 | _,_=>none
theorem WO:∀ {ps:List Nat} {cs:List Int} {i:Nat} {p:Nat} {c:Int},ps[i]? = some p→cs[i]? = some c→QL (ps.drop (i+1)) (cs.drop (i+1))=none→c<p→
  QL ps cs=some (cs.take i++(c+1)::List.replicate (cs.length - (i+1)) 0)
 | p'::ps,c'::cs,0,p,c,hp,hc,hn,h=>by
  rw [List.getElem?_cons_zero] at hp hc
  obtain rfl:=Option.some.inj hp
  obtain rfl:=Option.some.inj hc
  have hn':QL ps cs=none:=hn
  simp [QL,hn',h]
 | p'::ps,c'::cs,i+1,p,c,hp,hc,hn,h=>by
  rw [List.getElem?_cons_succ] at hp hc
  have:=WO hp hc hn h
  simp [QL,this]
 | [],_,_,_,_,hp,_,_,_=>by simp at hp
 | _::_,[],_,_,_,_,hc,_,_=>by simp at hc
theorem WQ:∀ {ps:List Nat} {cs:List Int} {i:Nat} {p:Nat} {c:Int},ps[i]? = some p→cs[i]? = some c→QL (ps.drop (i+1)) (cs.drop (i+1))=none→¬ c<p→QL (ps.drop i) (cs.drop i)=none
 | p'::ps,c'::cs,0,p,c,hp,hc,hn,h=>by
  rw [List.getElem?_cons_zero] at hp hc
  obtain rfl:=Option.some.inj hp
  obtain rfl:=Option.some.inj hc
  have hn':QL ps cs=none:=hn
  simp [QL,hn',h]
 | p'::ps,c'::cs,i+1,p,c,hp,hc,hn,h=>by
  rw [List.getElem?_cons_succ] at hp hc
  have:=WQ hp hc hn h
  simpa using this
 | [],_,_,_,_,hp,_,_,_=>by simp at hp
 | _::_,[],_,_,_,_,hc,_,_=>by simp at hc
def Ao (m:Mem) (n:Nat):List Nat:=(List.range n).map fun (i:Nat)=>(m.gy i).length
theorem Ap {m:Mem} {n i:Nat} (h:i<n):(Ao m n)[i]? = some (m.gy i).length:=by
 unfold Ao; rw [List.getElem?_map,List.getElem?_range h]; rfl
def WR (m:Mem) (cut:List Int):Option (List Int):=QL (Ao m cut.length) cut
def yO (m:Mem) (qb:List Int):Mem:={m with kept:=qb,l:=qb++m.cT.drop qb.length,gy:=λ _=>[]}
theorem Aq {cs:List Int} {t:Nat} {x:Int} (h:t<cs.length):(cs.take (t+1)++List.replicate (cs.length - (t+1)) 0).set t x=cs.take t++x::List.replicate (cs.length - (t+1)) (0:Int):=by
 have e:cs.take (t+1)=cs.take t++[cs[t]]:=by rw [List.take_add_one,List.getElem?_eq_getElem h]; rfl
 rw [e,List.append_assoc,List.set_append_right _ _ (by rw [List.length_take]; omega),List.length_take,Nat.min_eq_left (Nat.le_of_lt h),Nat.sub_self]
 rfl
theorem WT {cs:List Int} {t:Nat} (h:t<cs.length):cs.take t++0::List.replicate (cs.length - (t+1)) (0:Int)=cs.take t++List.replicate (cs.length - t) 0:=by
 rw [show cs.length - t=(cs.length - (t+1))+1 from by omega,List.replicate_succ]
theorem C129 (p:Nat) (ov fv:Value) (m:Mem) (F:Nat→Prop) (line:Int) (w:World) (hF:(fW p ov fv m).p w F) (hK:∀ w',ix F w w'→uq ov fv m w') (hk:vG m) (hb:MB m 1000000):CR 129 [(.pointer (some ⟨p,0,none⟩)),.int .i64 line] w (λ v w'=>v = .int .i64 (if Sq m line=true then 0 else 1)∧qn F (fW p ov fv (vD m line)) w w'):=by
 have hs:=St.begin hF;obtain ⟨lv,kv,pm,hs⟩:=fW.open hs;have h20:=hk.fl;have YC:=hk.QJ;have Nt:=hk.ll;have KL:=hk.kl;have Qi:=hk.lb;refine Zv _ _ _ _ ?_;unfold S129;refine ⟨λ jv w'=>jv = .bool (decide (line<0∨jq m.of≤line))∧St w F [cE p [ov,fv,lv,kv,.map (some pm)],bK lv m.l,bK kv m.kept,oJ pm m.gy] w',?_,?_⟩
 ·refine aR (aC (λ gp=>?_) (λ gp=>?_))
  ·exact ⟨vb (by first | exact (decide_eq_true (by omega)).symm | exact decide_eq_decide.2 (by omega)),hs⟩
  ·refine aZ T4 hs (C144 _ m _ (vd.mk' hs.hb (hK _ hs.aF) hs.p1.fB hs.p2.fB hs.p3.WI) hk) (λ w1 he hs=>dF ?_);exact ⟨vb (by first | exact (decide_eq_true (by omega)).symm | exact decide_eq_decide.2 (by omega)),hs⟩
 ·rintro _ w2 ⟨rfl,hs⟩ fy;refine aC (λ gQ=>?_) (λ gQ=>?_)
  ·have hs:=hs.p3.p3.p3.p3;have vl:Sq m line=false:=by unfold Sq; rw [decide_eq_false_iff_not]; omega
   unfold vD;rw [vl];exact ⟨rfl,(fW.shut hs).mut⟩
  ·refine aE (aA m4 (aB se hs.hb rfl ?_));obtain ⟨agc,hs⟩:=(hs.p3).EW (k:=line);refine ⟨_,(hs.p1).BG Tryz.underlying201 oN xd,?_⟩;have yA:=hb line;refine aJ vR (hs).fB ?_;have hs:=hs.p3.p3.p4.p4.p4;refine ⟨λ mm x w1=>∃ k:Nat,x = .int .i64 (k:Int)∧mm=(m.gy line).length - k∧k≤(m.gy line).length∧St w F [bK (Flat.val agc) (m.gy line),LA pm m.gy line agc,bK kv (xP m.kept ((m.gy line).take k)),cE p [ov,fv,lv,kv,.map (some pm)],bK lv m.l] w1,⟨_,0,rfl,rfl,Nat.zero_le _,hs⟩,?_⟩;rintro mm _ w3 ⟨k,rfl,rfl,Fu,hs⟩ jB;refine aR (aC (λ iO=>?_) (λ iO=>?_))
   ·obtain ⟨gR,im⟩:=gx ((m.gy line)) (i:=((k:Int)).toNat) (by omega);refine dR hs vR (by omega) (by omega) (λ _ v9=>?_);have hpc:=hk.pc line _ (List.mem_of_getElem? im);refine ga hs PQ v9 im (aN hs PR (λ b_w6 w4 hs=>aI (x:=gR) hs PQ rfl rfl (λ w5 hs=>aE (aA zG (have hs:=hs.drew;aB eu hs.p4.hb rfl (aA Kk ?_))))));have hal:=An ((m.gy line).take k) m.kept;refine aB (v:=.int .i64 ((gR).cell)) bL hs.hb rfl (aA Kl (aB (v:=.int .i64 ((gR).n)) bL hs.hb rfl ?_));obtain ⟨vt,tj⟩:=gx ((xP m.kept ((m.gy line).take k))) (i:=((gR).cell).toNat) (by omega)
    refine dR hs.p3 dY (by omega) (by omega) (λ _ rE=>lJ _ hs.p3 bL rE (by omega) (λ w6 hs=>aO (by omega) ?_));have hs:=(hs.p1.drop.p4.p4.p2.p4).p4;exact ⟨_,by omega,k+1,rfl,rfl,by omega,by rw [G5 (j:=k) im]; exact hs⟩
   ·rw [List.take_of_length_le (by omega)] at hs;refine aE (aA m4 (aB se hs.p3.hb rfl ?_));have hs:=hs.p1.p1.WJ;rw [So] at hs;refine LB hs rfl Tryz.underlying201 oN (λ _ w7 hs=>?_);have hs:=hs.p1.p3.p3;have vl:Sq m line=true:=by unfold Sq; rw [decide_eq_true_eq]; omega
    have IY:vD m line={m with kept:=xP m.kept (m.gy line),gy:=tg m.gy line []}:=by unfold vD; rw [if_pos vl]
    rw [IY,vl];exact ⟨rfl,(fW.shut (m:={m with kept:=_,gy:=_}) hs).mut⟩
theorem C125 (p:Nat) (m:Mem) (cut:List Int) (cv:Value) (w:World) (hm:vd w p m) (hk:vG m) (hb:MB m 1000000) (hC:eJ (λ _=>True) w cv cut) (aj2:cut.length≤1000):CR 125 [(.pointer (some ⟨p,0,none⟩)),cv] w (λ v w'=>(jr m cut=none∧v = .tuple #[.slice none 0 0,.int .i64 1]∧Ext w w')∨∃ qb o,jr m cut=some qb∧v = .tuple #[o,.int .i64 0]∧lY (bK o qb) w w'):=by
 have EY:=hm;obtain ⟨ov,fv,lv,kv,pm,c0,c1,c2,c3,c4,hO,Sr,hL,hKp,hP⟩:=hm;have h20:=hk.fl;have YC:=hk.QJ;have Nt:=hk.ll;have KL:=hk.kl;have Qi:=hk.lb;have hs:=St.start w;refine Zr _ _ _ _ ?_;unfold S125;refine aJ dY (hC.ext hs.aF) (aZ T4 hs (C144 _ m _ (EY.ext hs.aF) hk) (λ w1 he hs=>cQ (aC (λ jm=>?_) (λ jm=>?_))))
 ·exact .inl ⟨WN (by omega),rfl,hs.aF⟩
 ·refine cZ TY hs (C73 _ m _ (EY.ext hs.aF) hk) (λ x17 w2 bY hs=>aJ dY (hC.ext hs.aF) ?_);refine ⟨λ mm x w1=>∃ k:Nat,x = .int .i64 (k:Int)∧mm=cut.length - k∧k≤cut.length∧(∀ (i:Nat) (c:Int),i<k→cut[i]? = some c→0≤c∧c≤(m.gy i).length)∧St w bD [bK x17 (rW m cut k)] w1,⟨_,0,rfl,rfl,Nat.zero_le _,λ i c h=>absurd h (by omega),hs⟩,?_⟩;rintro mm _ w3 ⟨k,rfl,rfl,Fu,oF,hs⟩ fy;refine aR (aC (λ gu=>?_) (λ gu=>?_))
  ·obtain ⟨rj,ku⟩:=gx (cut) (i:=((k:Int)).toNat) (by omega);refine aQ dY hC (by omega) ku (λ _ pJ=>aD bL (pJ.ext hs.aF) ?_);refine ⟨λ jv w'=>jv = .bool (decide (rj<0∨(m.gy k).length<rj))∧w3=w',?_,?_⟩
   ·refine aR (aC (λ qq=>?_) (λ qq=>?_))
    ·exact ⟨Ph (by omega),rfl⟩
    ·refine aE (aA m4 (cD se (c4.ext hs.aF) (BF hP hs.aF Tryz.underlying201 oN xd (λ aqR rE=>aJ vR (rE.ext hs.aF) (dB ?_)))));exact ⟨wW (by omega),rfl⟩
   ·rintro _ w4 ⟨rfl,hw⟩ jB;subst hw;refine aC (λ tZ=>?_) (λ tZ=>?_)
    ·exact .inl ⟨WM (k:=k) ku (by omega),rfl,hs.aF⟩
    ·refine aE (aA m4 (cD se (c4.ext hs.aF) (BF hP hs.aF Tryz.underlying201 oN xd (λ api yg=>?_))));have NL:=hb k;have M7:((m.gy k).take rj.toNat).length≤(m.gy k).length:=by rw [List.length_take]; omega
     refine kQ vR (yg.ext hs.aF) (by omega) (by omega) (λ Wk N7=>?_);have IS:=N7 _ yg;refine aJ vR (IS.ext hs.aF) ?_;refine ⟨λ mm x w1=>∃ j:Nat,x = .int .i64 (j:Int)∧mm=((m.gy k).take rj.toNat).length - j∧j≤((m.gy k).take rj.toNat).length∧St w bD [bK x17 (xP (rW m cut k) (((m.gy k).take rj.toNat).take j))] w1,⟨_,0,rfl,rfl,Nat.zero_le _,hs⟩,?_⟩;rintro mm _ w5 ⟨j,rfl,rfl,hj,hs⟩ oS;refine aR (aC (λ zV=>?_) (λ zV=>?_))
     ·obtain ⟨Eo,uY⟩:=gx ((((m.gy (k:Int))).take (rj).toNat)) (i:=((j:Int)).toNat) (by omega);refine aQ vR IS (by omega) uY (λ _ Ep=>?_);have hpc:=hk.pc k _ (List.mem_of_mem_take (List.mem_of_getElem? uY));refine aD PQ (Ep.ext hs.aF) (aN hs PR (λ b_w10 w6 hs=>aI (x:=Eo) hs PQ rfl rfl (λ w7 hs=>aA Kk ?_)));have hal:=An (((m.gy k).take rj.toNat).take j) (rW m cut k);have Tq:=rI m cut k;refine aB (v:=.int .i64 ((Eo).cell)) bL hs.hb rfl (aA Kl (aB (v:=.int .i64 ((Eo).n)) bL hs.hb rfl ?_));obtain ⟨aqS,aj3⟩:=gx ((xP (rW m cut k) (((m.gy k).take rj.toNat).take j))) (i:=((Eo).cell).toNat) (by omega)
      refine dR hs.p1 dY (by omega) (by omega) (λ _ LD=>lJ _ hs.p1 bL LD (by omega) (λ w8 hs=>aO (by omega) ?_));have hs:=(hs.p1).drop;exact ⟨_,by omega,j+1,rfl,rfl,by omega,by rw [G5 (j:=j) uY]; exact hs⟩
     ·rw [List.take_of_length_le (i:=j) (by omega)] at hs;refine aO (by omega) ?_;refine ⟨_,by omega,k+1,rfl,rfl,by omega,λ i c hi hc=>?_,?_⟩
      ·by_cases e:i=k
       ·subst e; obtain rfl:=Option.some.inj (hc.symm.trans ku); omega
       ·exact oF i c (by omega) hc
      ·rw [G6,List.getD_eq_getElem?_getD,show cut[k]? = some rj from ku]; exact hs
  ·exact .inr ⟨_,_,BH (by omega) (λ i c hi hc=>oF i c (by omega) hc),rfl,by rw [show cut.length=k from by omega]; exact hs.fresh⟩
theorem C145 (p:Nat) (m:Mem) (cut:List Int) (cv:Value) (w:World) (hm:vd w p m) (hk:vG m) (hb:MB m 1000000) (hC:eJ (λ _=>True) w cv cut) (aj2:cut.length≤1000) (zw:∀ c∈cut,0≤c):CR 145 [(.pointer (some ⟨p,0,none⟩)),cv] w (λ v w'=>(WR m cut=none∧v = .tuple #[.slice none 0 0,.bool false]∧Ext w w')∨∃ c o,WR m cut=some c∧v = .tuple #[o,.bool true]∧lY (bK o c) w w'):=by
 have EY:=hm;obtain ⟨ov,fv,lv,kv,pm,c0,c1,c2,c3,c4,hO,Sr,hL,hKp,hP⟩:=hm;have hs:=St.start w;refine ZF _ _ _ _ ?_;unfold S145;refine cZ zp hs (C70 _ _ _ (hC.ext hs.aF) (by omega)) (λ x9 w1 bY hs=>?_);have hlx:cut.length=cut.length:=rfl;refine aJ dY (hs).fB (gA (by omega) ?_);refine ⟨λ mm x w1=>∃ t:Nat,x = .int .i64 ((t:Int) - 1)∧mm=t∧t≤cut.length∧QL ((Ao m cut.length).drop t) (cut.drop t)=none∧St w bD [bK x9 (cut.take t++List.replicate (cut.length - t) 0)] w1,⟨_,cut.length,rfl,rfl,Nat.le_refl _,by rw [List.drop_eq_nil_of_le (Nat.le_refl _)]; cases (Ao m cut.length).drop cut.length <;> rfl,by simpa using hs⟩,?_⟩
 rintro t _ w2 ⟨_,rfl,rfl,ht,fS,hs⟩ fy;refine dF (aC (λ gQ=>?_) (λ gQ=>?_))
 ·have hlx:(cut.take t++List.replicate (cut.length - t) 0).length=cut.length:=by rw [List.length_append,List.length_take,List.length_replicate]; omega
  obtain ⟨iX,fH⟩:=gx ((cut.take t++List.replicate (cut.length - t) 0)) (i:=(((t:Int) - 1)).toNat) (by omega);refine dR hs dY (by omega) (by omega) (λ _ jL=>?_);have hs:=hs.drew
  have hct:cut[t - 1]? = some iX:=by
   have:=fH;rw [show ((t:Int) - 1).toNat=t - 1 from by omega,List.getElem?_append_left (by rw [List.length_take]; omega),List.getElem?_take,if_pos (by omega)] at this;exact this
  have hx0:=zw _ (List.mem_of_getElem? hct);have he:=rfl (a:=iX);refine ga hs bL jL fH (aE (aA m4 (cD se (c4.ext hs.aF) (BF hP hs.aF Tryz.underlying201 oN xd (λ s_x26 rk=>aJ vR (rk.ext hs.aF) (aR (aC (λ Ly=>?_) (λ Ly=>?_))))))))
  ·refine dR hs dY (by omega) (by omega) (λ _ oG=>ga hs bL oG fH ?_);have hbx:=hb ((t:Int) - 1);refine aO (by omega) (dR hs dY (by omega) (by omega) (λ _ rE=>lJ _ hs bL rE (by omega) (λ w3 hs=>?_)));refine .inr ⟨_,_,WO (i:=t - 1) (Ap (by omega)) hct (by rw [show t - 1+1=t from by omega]; exact fS) (by rw [show ((t - 1:Nat):Int)=(t:Int) - 1 from by omega]; omega),rfl,?_⟩;rw [he,show ((t:Int) - 1).toNat=t - 1 from by omega] at hs;have gn:=Aq (cs:=cut) (t:=t - 1) (x:=iX+1) (by omega);rw [show t - 1+1=t from by omega] at gn ⊢;rw [gn] at hs;exact hs.fresh
  ·have hbx:=hb ((t:Int) - 1);refine dR hs dY (by omega) (by omega) (λ _ El=>lJ _ hs bL El (by omega) (λ w4 hs=>gA (by omega) ?_));refine ⟨_,by omega,t - 1,by congr 1; omega,rfl,by omega,WQ (i:=t - 1) (Ap (by omega)) hct (by rw [show t - 1+1=t from by omega]; exact fS) (by rw [show ((t - 1:Nat):Int)=(t:Int) - 1 from by omega]; omega),?_⟩;rw [show ((t:Int) - 1).toNat=t - 1 from by omega] at hs;have gn:=Aq (cs:=cut) (t:=t - 1) (x:=0) (by omega);rw [show t - 1+1=t from by omega] at gn;rw [gn] at hs;have hrs:=WT (cs:=cut) (t:=t - 1) (by omega);rw [show t - 1+1=t from by omega] at hrs;rw [hrs] at hs
   exact hs
 ·exact .inl ⟨by unfold WR; rw [show t=0 from by omega] at fS; simpa using fS,rfl,hs.drop.aF⟩
theorem C58 (p:Nat) (ov fv:Value) (m:Mem) (F:Nat→Prop) (cut:List Int) (cv:Value) (w:World) (hF:(fW p ov fv m).p w F) (hK:∀ w',ix F w w'→uq ov fv m w') (hk:vG m) (hb:MB m 1000000) (hC:∀ w',ix F w w'→eJ (λ _=>True) w' cv cut) (aj2:cut.length≤1000):CR 58 [(.pointer (some ⟨p,0,none⟩)),cv] w (λ v w'=>(jr m cut=none∧v = .int .i64 1∧qn F (fW p ov fv m) w w')∨∃ qb,jr m cut=some qb∧v = .int .i64 0∧qn F (fW p ov fv (yO m qb)) w w'):=by
 have hs:=St.begin hF;obtain ⟨lv,kv,pm,hs⟩:=fW.open hs;have h20:=hk.fl;have YC:=hk.QJ;have Nt:=hk.ll;have KL:=hk.kl;have Qi:=hk.lb;refine ahv _ _ _ _ ?_;unfold S58;refine eD aeF (C125 _ m cut _ _ (vd.mk' hs.hb (hK _ hs.aF) hs.p1.fB hs.p2.fB hs.p3.WI) hk hb (hC _ hs.aF) (by omega)) ?_;rintro v_x10 w1 aj4
 rcases aj4 with ⟨rJ,rfl,he⟩ | ⟨IZ,o_x10,rJ,rfl,bY⟩
 ·have hs:=hs.ext he;refine bE rfl (bE rfl (cQ (fC (by decide) ?_)));have hs:=hs.p3.p3.p3.p3;exact .inl ⟨rJ,rfl,(fW.shut hs).mut⟩
 ·have hs:=hs.made bY;refine bE rfl (bE rfl (cQ (fV (by decide) (aE (aA zG (aV hs.p1 eu (eI rfl) ((hs).fB.one) (λ w2 hs=>aE (aA qZ (have hs:=hs.drew;aB eu hs.hb rfl (aE (aA Kj (aB eu hs.hb rfl ?_))))))))))));refine LC hs.p2 dY (hK _ hs.aF).2 (by omega) (λ w3 hs=>aE (aA qZ (aB eu hs.p1.hb rfl (LC hs dY (hs.p2).fB (by rw [List.length_append,List.length_drop]; have Tq:IZ.length=m.of.length:=(by unfold jr at rJ; split at rJ <;> simp at rJ; rw [← rJ,rI]; exact KL); omega) (λ w4 hs=>ow (α:=jk) hs (λ b_x36 w5 hs=>aE (aA m4 (aV hs.p2 se (eI rfl) (rfl) (λ w6 hs=>?_)))))))))
  have hs:=((hs.p4.drop.p4.drop.p1.p3).p3).p3;have Tq:IZ.length=m.of.length:=by unfold jr at rJ; split at rJ <;> simp at rJ; rw [← rJ,rI]; exact KL
  rw [show m.l.drop m.cT.length=[] from List.drop_eq_nil_of_le (by omega),List.append_nil] at hs;exact .inr ⟨_,rJ,rfl,(fW.shut (m:=yO m IZ) hs).mut⟩
end Go.Proofs.YtnjcingfdhjfkaaGreat
namespace Go.Fw
open Go.MapKept (Stamped IsKey)
open Go.ChangeMaps (setBlock)
section
variable {P:Program} {w w0 w':World} {A:Nat→Prop} {L:List HP} {b r:Nat}
def G7 (r m since:Nat) (seen:Array Nat):HP where
 p w F:=w.heap[r]? = some (.mapIter (some m) since seen since)∧∀ k,F k↔k=r
 loc w w' F h hh:=⟨(hh r ((h.2 r).2 rfl)).trans h.1,h.2⟩
 lt w F b' h hb:=by rw [(h.2 b').1 hb]; exact jR h.1
theorem Ss {T Kt E:TypeId} {es:Array MapEntry} {clock:Nat} {K:Value→World→Prop} (hs:St w0 A L w) (ht:P.underlying T=some (.map Kt E)) (hb:w.heap[b]? = some (.map es clock))
  (k:∀ r w',St w0 A (G7 r b clock #[]::L) w'→K (.pointer (some ⟨r,0,none⟩)) w'):gU P (Instr.range T (.map (some b))) w K:=
 ⟨_,_,run_range_map w T Kt E b es clock ht hb,k _ _ (hs.new (Ext.push w _) (F:=λ k=>k=w.heap.size) ⟨po _ _,λ _=>Iff.rfl⟩ λ b hb=>by rw [hb]; exact Nat.le_refl _)⟩
theorem WU {T since:Nat} {seen:Array Nat} {es:Array MapEntry} {K:Value→World→Prop} (hs:St w0 A (G7 r b since seen::L) w) (hb:w.heap[b]? = some (.map es since)) (hold:∀ x∈es.toList,x.born<since)
  (k0:(leftOf es seen).size=0→K (.tuple #[.bool false]) w)
  (k1:∀ e w',e∈(leftOf es seen).toList→St w0 A (G7 r b since (seen.push e.born)::L) w'→K (.tuple #[.bool true,e.key,e.val]) w'):gU P (Instr.next (.pointer (some ⟨r,0,none⟩)) false T) w K:=by
 obtain ⟨F,h,_⟩:=hs.head
 rcases run_next_at (P:=P) w T r b since since seen es since h.1 hb hold (Nat.le_refl _) with ⟨h1,h2⟩ | ⟨e,he,w1,hw,h2⟩
 ·exact ⟨_,w,h2,k0 h1⟩
 ·have e1:St w0 A (G7 r b since seen::L) w1:=by
   rcases hw with rfl | rfl
   ·exact hs
   ·exact hs.ext ⟨rfl,rfl,rfl,Nat.le_refl _,λ _ _ _=>rfl⟩
  refine ⟨_,_,h2,k1 e _ he (e1.rS λ F hF=>⟨F,⟨mq _ (jR hF.1),hF.2⟩,λ b hb=>.inl hb,(ix.setBlock w1 r _).mono λ k hk=>(hF.2 k).2 hk⟩)⟩
theorem Su {since:Nat} {seen:Array Nat} {es:Array MapEntry} {e:MapEntry} {K:Value→Prop} (hs:St w0 A (G7 r b since (seen.push e.born)::L) w) (hb:w.heap[b]? = some (.map es since)) (he:e∈es.toList) (hn:(es.toList.map (·.born)).Nodup)
  (k:K (.tuple #[e.key,e.val])):Df P (Instr.entry (.pointer (some ⟨r,0,none⟩))) w K:=by
 obtain ⟨F,h,_⟩:=hs.head
 exact ⟨_,run_entry_at w r b since seen es since e h.1 hb he hn,k⟩
theorem sF.es {α:Type} [Flat α] {f:Int→List α} (h:sF w b f):∃ es clock,w.heap[b]? = some (.map es clock)∧Stamped es clock∧(∀ e∈es.toList,∃ k,∃ s:SV,e.key = .int .i64 k∧e.val=Flat.val s∧eJ (λ _=>True) w (Flat.val s) (f k))∧∀ k,(∀ e∈es.toList,e.key≠.int .i64 k)→f k=[]:=by
 obtain ⟨ks,ss,⟨es,clock,h1,h2,h3,h4⟩,h5,h6⟩:=h
 have ME:es.toList.length=ks.length:=by have:=congrArg List.length h3; simpa using this
 have hls:es.toList.length=ss.length:=by have:=congrArg List.length h4; simpa using this
 refine ⟨es,clock,h1,h2,λ e he=>?_,λ k hk=>h6 k λ hm=>?_⟩
 ·obtain ⟨i,hi,rfl⟩:=List.getElem_of_mem he
  refine ⟨ks[i]'(by omega),ss[i]'(by omega),?_,?_,h5 i _ _ (List.getElem?_eq_getElem _) (List.getElem?_eq_getElem _)⟩
  ·have:=congrArg (·[i]?) h3
   simp only [List.getElem?_map,List.getElem?_eq_getElem hi,List.getElem?_eq_getElem (show i<ks.length by omega)] at this
   exact Option.some.inj this
  ·have:=congrArg (·[i]?) h4
   simp only [List.getElem?_map,List.getElem?_eq_getElem hi,List.getElem?_eq_getElem (show i<ss.length by omega)] at this
   exact Option.some.inj this
 ·have:Value.int .i64 k∈es.toList.map (·.key):=by rw [h3]; exact List.mem_map.2 ⟨k,hm,rfl⟩
  obtain ⟨e,he,yo⟩:=List.mem_map.1 this
  exact hk e he yo
theorem E0 {o:Obj} (h:w.heap[b]? = some o) (e:Ext w w'):w'.heap[b]? = some o:=(e.cE b (jR h) λ h=>h).trans h
theorem E1 {seen:Array Nat} {x y:Nat} (h:(seen.push x).contains y=true):seen.contains y=true∨y=x:=by
 simp at h ⊢; exact h
theorem born_inj {es:Array MapEntry} (hn:(es.toList.map (·.born)).Nodup) {e e':MapEntry} (h:e∈es.toList) (h':e'∈es.toList) (hb:e.born=e'.born):e=e':=by
 obtain ⟨i,hi,rfl⟩:=List.getElem_of_mem h
 obtain ⟨j,hj,rfl⟩:=List.getElem_of_mem h'
 have:=(List.getElem_inj (i:=i) (j:=j) (h₀:=by simpa using hi) (h₁:=by simpa using hj) hn).1 (by simpa using hb)
 subst this; rfl
end
section
variable {P:Program} {w w0 w':World} {A:Nat→Prop} {L:List HP} {b r:Nat}
def LF (P:Program) (n T E:Nat):Prop:=P.underlying T=some (.array n E)∧P.underlying E=some (.int .i64)∧pr P (sizeOf E)=some 1
abbrev Ar (xs:List Int):Value:=.agg (xs.map (Value.int .i64)).toArray
theorem LG {β:Type} {f:Nat→β→Sem (ForInStep β)} {g:Nat→Bool} {x0 stop:β}:∀ l:List Nat,(∀ i∈l,pr P (f i x0)=some (if g i=true then .yield x0 else .done stop))→pr P (forIn l x0 f)=some (if l.all g=true then x0 else stop)
 | [],_=>by simp [fe]
 | i::l,h=>by
  rw [List.forIn_cons,cM,h i (by simp)]
  by_cases hg:g i=true
  ·rw [if_pos hg]
   simp only [Option.bind_some]
   rw [LG l λ j hj=>h j (by simp [hj])]
   simp [hg]
  ·rw [if_neg hg]
   simp [hg,fe]
theorem yP {E:TypeId} {xs:List Int} {i:Nat} (hE:P.underlying E=some (.int .i64)) (hi:i<xs.length):pr P (part E (xs.map (Value.int .i64)).toArray i)=some (.int .i64 xs[i]):=
 H7 (n:=0) hE rfl (by simp [hi])
theorem adl {n T E:Nat} {xs ys:List Int} (h:LF P n T E) (hx:xs.length=n) (hy:ys.length=n):pr P (Op.equal T (Ar xs) (Ar ys))=some (decide (xs=ys)):=by
 obtain ⟨ht,he,hs⟩:=h
 have e:∀ x y:Int,pr P (Op.equalIn 9999 E (.int .i64 x) (.int .i64 y))=some (decide (x=y)):=λ x y=>by
  rw [BX (k:=9998) (n:=0) he rfl rfl rfl]; rfl
 show pr P (Op.equalIn (9999+1) T _ _)=_
 unfold Op.equalIn
 rw [cM,cL ht]
 simp only [Option.bind_some,cM,hs]
 simp only [Std.Legacy.Range.forIn_eq_forIn_range',Std.Legacy.Range.size,Nat.sub_zero,Nat.add_sub_cancel,Nat.div_one,Nat.mul_one]
 rw [LG (g:=λ i=>decide (xs[i]? = ys[i]?)) (stop:=⟨some false,PUnit.unit⟩)]
 ·by_cases hxy:xs=ys
  ·subst hxy
   simp [fe]
  ·have:(List.range' 0 n).all (λ i=>decide (xs[i]? = ys[i]?))=false:=by
    rw [List.all_eq_false]
    apply Classical.byContradiction
    intro hc
    apply hxy
    apply List.ext_getElem?
    intro i
    apply Classical.byContradiction
    intro Ck
    by_cases hi:i<n
    ·exact hc ⟨i,by simp [List.mem_range']; omega,by simpa using Ck⟩
    ·exact Ck (by rw [List.getElem?_eq_none (by omega),List.getElem?_eq_none (by omega)])
   simp [this,hxy,fe]
 ·intro i hi
  have MU:i<n:=by simp [List.mem_range'] at hi; omega
  simp only [cM,yP he (show i<xs.length by omega),yP he (show i<ys.length by omega),Option.bind_some,e]
  rw [List.getElem?_eq_getElem (show i<xs.length by omega),List.getElem?_eq_getElem (show i<ys.length by omega)]
  by_cases hq:xs[i]'(by omega)=ys[i]'(by omega)
  ·simp [hq,fe]
  ·simp [hq,fe]
def Of (b n:Nat) (ks:List (List Int)):HP where
 p w F:=(∃ es clock,w.heap[b]? = some (.map es clock)∧es.toList.map (·.key)=ks.map Ar∧(∀ e∈es.toList,e.val = .bool true)∧∀ k∈ks,k.length=n)∧∀ k,F k↔k=b
 loc w w' F h hh:=by
  obtain ⟨⟨es,c,h1,h2⟩,h3⟩:=h; exact ⟨⟨es,c,(hh b ((h3 b).2 rfl)).trans h1,h2⟩,h3⟩
 lt w F b' h hb:=by obtain ⟨⟨es,c,h1,h2⟩,h3⟩:=h; rw [(h3 b').1 hb]; exact jR h1
theorem LH {T n:TypeId} {K:Value→World→Prop} (hs:St w0 A L w) (k:∀ b w',St w0 A (Of b n []::L) w'→K (.map (some b)) w'):gU P (Instr.makeMap T none) w K:=
 ⟨_,_,rfl,k _ _ (hs.new (Ext.push w (.map #[] 0)) (F:=λ k=>k=w.heap.size) ⟨⟨#[],0,po _ _,rfl,by simp,by simp⟩,λ _=>Iff.rfl⟩ λ b hb=>by rw [hb]; exact Nat.le_refl _)⟩
theorem WV {T E n:Nat} {x:List Int} (h:LF P n T E) (hx:x.length=n):∀ (es:List MapEntry) (ks:List (List Int)) (i:Nat),es.map (·.key)=ks.map Ar→(∀ k∈ks,k.length=n)→(∀ e∈es,e.val = .bool true)→
  (x ∉ ks∧pr P (Instr.findAsking T (Ar x) es i)=some none)∨(x∈ks∧∃ j,pr P (Instr.findAsking T (Ar x) es i)=some (some (j,.bool true)))
 | [],ks,i,hk,_,_=>by
  have:ks=[]:=by simpa using hk.symm
  subst this
  exact .inl ⟨by simp,rfl⟩
 | e::es,[],i,hk,_,_=>by simp at hk
 | e::es,k::ks,i,hk,hl,hv=>by
  simp only [List.map_cons,List.cons.injEq] at hk
  have he:pr P (Op.equal T (Ar x) e.key)=some (decide (x=k)):=by rw [hk.1]; exact adl h hx (hl k (by simp))
  unfold Instr.findAsking
  rw [cM,he]
  simp only [Option.bind_some]
  by_cases hxk:x=k
  ·subst hxk
   refine .inr ⟨by simp,i,?_⟩
   simp [fe,hv e (by simp)]
  ·rcases WV h hx es ks (i+1) hk.2 (λ k hk=>hl k (by simp [hk])) (λ e he=>hv e (by simp [he])) with ⟨h1,h2⟩ | ⟨h1,j,h2⟩
   ·exact .inl ⟨by simp [hxk,h1],by simp [hxk,h2]⟩
   ·exact .inr ⟨by simp [h1],j,by simp [hxk,h2]⟩
theorem LI {E:TypeId} {x:Int} {em:Bool} (hE:P.underlying E=some (.int .i64)):pr P (Instr.checkKey em 9999 E (.int .i64 x))=some ():=by
 show pr P (Instr.checkKey em (9998+1) E _)=_
 unfold Instr.checkKey
 rw [cM,cL hE]; rfl
theorem E2 {f:Nat→PUnit→Sem (ForInStep PUnit)}:∀ l:List Nat,(∀ i∈l,pr P (f i ⟨⟩)=some (.yield ⟨⟩))→pr P (forIn l PUnit.unit f)=some ⟨⟩
 | [],_=>by simp [fe]
 | i::l,h=>by
  rw [List.forIn_cons,cM,h i (by simp)]
  simp only [Option.bind_some]
  exact E2 l λ j hj=>h j (by simp [hj])
theorem Cd {T E n:Nat} {x:List Int} {em:Bool} (h:LF P n T E) (hx:x.length=n):pr P (Instr.checkKey em 10000 T (Ar x))=some ():=by
 obtain ⟨ht,he,hs⟩:=h
 show pr P (Instr.checkKey em (9999+1) T _)=_
 unfold Instr.checkKey
 rw [cM,cL ht]
 simp only [Option.bind_some,cM,hs]
 simp only [Std.Legacy.Range.forIn_eq_forIn_range',Std.Legacy.Range.size,Nat.sub_zero,Nat.add_sub_cancel,Nat.div_one,Nat.mul_one]
 rw [E2]
 ·rfl
 ·intro i hi
  have MU:i<n:=by simp [List.mem_range'] at hi; omega
  simp only [cM,hs,Option.bind_some,Nat.mul_one,yP he (show i<x.length by omega),LI he,fe]
theorem QM {T E n:Nat} {x:List Int} {es:List MapEntry} {ks:List (List Int)} (h:LF P n T E) (hx:x.length=n) (hk:es.map (·.key)=ks.map Ar) (hl:∀ k∈ks,k.length=n) (hv:∀ e∈es,e.val = .bool true) :
  (x ∉ ks∧pr P (Instr.findKey T (Ar x) es)=some none)∨(x∈ks∧∃ j,pr P (Instr.findKey T (Ar x) es)=some (some (j,.bool true))):=by
 unfold Instr.findKey
 rw [cM,cL h.1]
 simp only [Option.bind_some]
 cases es with
 | nil=>
  have:ks=[]:=by simpa using hk.symm
  subst this
  exact .inl ⟨by simp,rfl⟩
 | cons e es=>exact WV h hx (e::es) ks 0 hk hl hv
theorem adm {T Kt E Et n:Nat} {x:List Int} {ks:List (List Int)} {K:Value→Prop} (hs:St w0 A (Of b n ks::L) w) (ht:P.underlying T=some (.map Kt Et)) (h:LF P n Kt E) (hz:qj P Et (.bool false)) (hx:x.length=n)
  (k:K (.bool (decide (x∈ks)))):Df P (Instr.lookup T (.map (some b)) (Ar x) false) w K:=by
 obtain ⟨F,⟨⟨es,c,h1,h2,h3,h4⟩,h5⟩,_⟩:=hs.head
 refine ⟨_,?_,k⟩
 have hz':(zeroValue Et).run P w = .ok (.bool false) w:=by
  unfold qj en at hz
  cases hi:P.info? Et with
  | none=>rw [hi] at hz; cases hz
  | some i=>
   rw [hi] at hz
   simp only [Option.map_some,Option.some.injEq] at hz
   refine fo ?_ w
   unfold zeroValue; rw [cM,nz hi]; simp only [Option.bind_some,hz]; rfl
 have hc:=fo (Cd (em:=es.isEmpty) h hx) w
 rcases QM h hx h2 h4 h3 with ⟨h6,h7⟩ | ⟨h6,j,h7⟩
 ·have h8:=fo h7 w
  simp [Instr.lookup,run_underlying ht,MapKept.run_getObj_map h1,hc,h8,hz',Result.andThen,h6]
 ·have h8:=fo h7 w
  simp [Instr.lookup,run_underlying ht,MapKept.run_getObj_map h1,hc,h8,Result.andThen,h6]
theorem adn {T Kt E Et n:Nat} {x:List Int} {ks:List (List Int)} {K:World→Prop} (hs:St w0 A (Of b n ks::L) w) (ht:P.underlying T=some (.map Kt Et)) (h:LF P n Kt E) (hx:x.length=n) (bY:x ∉ ks)
  (k:∀ w',St w0 A (Of b n (ks++[x])::L) w'→K w'):A0 P (Instr.mapUpdate T (.map (some b)) (Ar x) (.bool true)) w K:=by
 obtain ⟨F,⟨⟨es,c,h1,h2,h3,h4⟩,h5⟩,_⟩:=hs.head
 have hc:=fo (Cd (em:=false) h hx) w
 rcases QM h hx h2 h4 h3 with ⟨h6,h7⟩ | ⟨h6,j,h7⟩
 ·have h8:=fo h7 w
  refine ⟨setBlock w b (.map (es.push ⟨Ar x,.bool true,c⟩) (c+1)),?_,k _ (hs.rS λ F' hF=>⟨F',⟨⟨_,_,mq _ (jR h1),by simp [h2],?_,?_⟩,hF.2⟩,λ b hb=>.inl hb,(ix.setBlock w b _).mono λ k hk=>(hF.2 k).2 hk⟩)⟩
  ·simp [Instr.mapUpdate,run_underlying ht,MapKept.run_getObj_map h1,hc,h8,rH h1,Result.andThen]
  ·intro e he; simp at he; rcases he with he | rfl
   ·exact h3 e (by simpa using he)
   ·rfl
  ·intro q hq; simp at hq; rcases hq with hq | rfl
   ·exact h4 q hq
   ·exact hx
 ·exact absurd h6 bY
theorem bG {f:FuncId} {args:List Value} {H:HP} {H':Value→HP} {Φ:Value→World→Prop} {K:Value→World→Prop} (pl:Plain P f) (hs:St w0 A (H::L) w)
  (hc:∀ F,H.p w F→(∀ w',ix F w w'→St w0 A L w')→Calls P f args.toArray w (pU λ v w'=>Φ v w'∧qn F (H' v) w w')) (k:∀ v w',Φ v w'→St w0 A (H' v::L) w'→K v w'):Dg P f args w K:=by
 obtain ⟨U,F,U',h1,h2,h3,h4,h5⟩:=hs.sP
 refine eD pl (hc F h1 λ w' hw=>⟨hs.aF.trans hw (λ _ h=>h) λ b hb hf=>(h2 b hf).elim id λ hh=>by omega,U',h5.loc λ b hb=>hw.cE b (h5.lt b hb) λ hf=>h3 b hf hb⟩) λ v w' ⟨hΦ,hM⟩=>k v w' hΦ (hs.Ux h2 h3 h5 hM)
theorem WW {g:FuncId} {args first cap:List Value} {H:HP} {H':Value→HP} {Φ:Value→World→Prop} {K:Value→World→Prop} (pl:Plain P g) (hs:St w0 A (H::L) w)
  (hc:∀ F,H.p w F→(∀ w',ix F w w'→St w0 A L w')→Calls P g (first++args++cap).toArray w (pU λ v w'=>Φ v w'∧qn F (H' v) w w')) (k:∀ v w',Φ v w'→St w0 A (H' v::L) w'→K v w'):fZ P (.func (.func g) first.toArray cap.toArray) args w K:=by
 obtain ⟨U,F,U',h1,h2,h3,h4,h5⟩:=hs.sP
 refine gd pl (hc F h1 λ w' hw=>⟨hs.aF.trans hw (λ _ h=>h) λ b hb hf=>(h2 b hf).elim id λ hh=>by omega,U',h5.loc λ b hb=>hw.cE b (h5.lt b hb) λ hf=>h3 b hf hb⟩) λ v w' ⟨hΦ,hM⟩=>k v w' hΦ (hs.Ux h2 h3 h5 hM)
theorem Sv {T E n:Nat} {K:Value→Prop} (h:LF P n T E) (k:K (.slice (some ⟨b,0,none⟩) n n)):cW P (Instr.sliceAt T (.pointer (some ⟨b,0,none⟩)) none none none) K:=by
 refine ⟨_,?_,k⟩
 unfold Instr.sliceAt
 rw [cM,cL h.1]
 simp only [Option.bind_some,Instr.sureAddr,cM,fe,Instr.sliceBounds,h.2.2]
 simp [gN]
theorem aj5 {xs:List Int} {n:Nat} (h:xs.length≤n):gV (List.replicate n (Value.int .i64 0)) 0 (flat xs)=(xs++List.replicate (n - xs.length) 0).map (Value.int .i64):=by
 have hf:flat xs=xs.map (Value.int .i64):=by
  induction xs with
  | nil=>rfl
  | cons x xs ih=>rw [ja,ih (by simp at h; omega)]; rfl
 have hl:(flat xs).length=xs.length:=by rw [hf,List.length_map]
 have:=kM [] (List.replicate xs.length (Value.int .i64 0)) (List.replicate (n - xs.length) (Value.int .i64 0)) (flat xs) (by rw [List.length_replicate,hl])
 rw [List.nil_append,List.nil_append,List.replicate_append_replicate,show xs.length+(n - xs.length)=n from by omega,List.length_nil] at this
 rw [this,hf,List.map_append,List.map_replicate]
theorem LJ {T T2 E oz n dc:Nat} {z:Option Nat} {R:TypeId} {src:Value} {cs:List Value} {ys:List Int} {S:Nat→Prop} {K:Value→World→Prop} (hs:St w0 A (cE b cs::L) w) (ht:fb P T=some (E,Flat.sz Int,oz,z)) (xD:eJ S w src ys) (hn:ys.length≤n) (M4:ys.length≤cs.length)
  (k:∀ w',St w0 A (cE b (gV cs 0 (flat ys))::L) w'→K (.int .i64 ys.length) w'):gU P (Builtin.copy_ #[T,T2] R [.slice (some ⟨b,0,none⟩) n dc,src].toArray) w K:=by
 obtain ⟨w',h1,h2,h3⟩:=EX (P:=P) (o:=0) (dn:=n) (dc:=dc) (T2:=T2) (R:=R) ht hs.hb xD hn (by change 0+ys.length * 1≤_; omega)
 exact ⟨_,w',h1,k w' (hs.rS λ F hF=>⟨F,⟨h2,hF.2⟩,λ b hb=>.inl hb,h3.mono λ k hk=>(hF.2 k).2 hk⟩)⟩
end
def Has (H:HP) (w:World):Prop:=∃ F,H.p w F
theorem St.has {w w0:World} {A:Nat→Prop} {L:List HP} {H:HP} (hs:St w0 A (H::L) w):Has H w:=by obtain ⟨F,h,_⟩:=hs.head; exact ⟨F,h⟩
theorem Has.ext {H:HP} {w w':World} (h:Has H w) (e:Ext w w'):Has H w':=by
 obtain ⟨F,h⟩:=h; exact ⟨F,H.loc _ _ _ h λ b hb=>e.cE b (H.lt _ _ _ h hb) λ x=>x⟩
theorem Has.st {H:HP} {w:World} (h:Has H w):∃ F,St w F [H] w:=by obtain ⟨F,h⟩:=h; exact ⟨F,St.begin h⟩
end Go.Fw
namespace Go.Proofs.YtnjcingfdhjfkaaGreat
open Go.Fw
def WX (of:List Int) (stays:Int) (cT:List Int):Mem:=⟨of.take stays.toNat,cT,cT,cT.take stays.toNat,λ _=>[]⟩
def ey:List Nat→List (List Int)
 | []=>[[]]
 | p::ps=>(List.range (p+1)).flatMap fun (i:Nat)=>(ey ps).map λ t=>(i:Int)::t
theorem qE:∀ ps,(ey ps).head? = some (List.replicate ps.length 0)
 | []=>rfl
 | p::ps=>by
  have ih:=qE ps
  rw [ey,List.range_succ_eq_map,List.flatMap_cons]
  cases h:ey ps with
  | nil=>rw [h] at ih; cases ih
  | cons t ts=>
   rw [h] at ih; simp at ih
   simp [ih,List.replicate_succ]
theorem pN:∀ {ps:List Nat} {c:List Int},c∈ey ps→c.length=ps.length
 | [],c,h=>by simp [ey] at h; subst h; rfl
 | p::ps,c,h=>by
  simp only [ey,List.mem_flatMap,List.mem_map] at h
  obtain ⟨i,_,t,ht,rfl⟩:=h
  simp [pN ht]
theorem BI:∀ {ps:List Nat} {c:List Int} {i p:Nat} {n:Int},c∈ey ps→ps[i]? = some p→c[i]? = some n→0≤n∧n≤p
 | [],c,i,p,n,h,hp,_=>by simp at hp
 | q::ps,c,i,p,n,h,hp,hc=>by
  simp only [ey,List.mem_flatMap,List.mem_map,List.mem_range] at h
  obtain ⟨j,hj,t,ht,rfl⟩:=h
  cases i with
  | zero=>simp at hp hc; subst hp hc; omega
  | succ i=>
   rw [List.getElem?_cons_succ] at hp hc
   exact BI ht hp hc
theorem tm {α β:Type} {f:α→List β}:∀ {l:List α} {d:List β} {c:β} {r:List β},l.flatMap f=d++c::r→∃ l1 x l2 d' r',l=l1++x::l2∧f x=d'++c::r'∧r=r'++l2.flatMap f
 | [],d,c,r,h=>by simp at h
 | x::l,d,c,r,h=>by
  rw [List.flatMap_cons] at h
  rcases List.append_eq_append_iff.1 h with ⟨a',h1,h2⟩ | ⟨c',h1,h2⟩
  ·obtain ⟨l1,y,l2,d',r',e1,e2,e3⟩:=tm h2
   exact ⟨x::l1,y,l2,d',r',by rw [e1]; rfl,e2,e3⟩
  ·cases c' with
   | nil=>
    obtain ⟨l1,y,l2,d',r',e1,e2,e3⟩:=tm (f:=f) (l:=l) (d:=[]) (c:=c) (r:=r) (by simpa using h2.symm)
    exact ⟨x::l1,y,l2,d',r',by rw [e1]; rfl,e2,e3⟩
   | cons y ys=>
    simp at h2
    exact ⟨[],x,l,d,ys,rfl,by rw [h1,h2.1],h2.2⟩
theorem LK {n:Nat} {l1 l2:List Nat} {x:Nat} (h:List.range n=l1++x::l2):x<n∧l2.head? = if x+1<n then some (x+1) else none:=by
 have hx:(List.range n)[l1.length]? = some x:=by rw [h,List.getElem?_append_right (Nat.le_refl _)]; simp
 have mD:l1.length<n:=by have:=(List.getElem?_eq_some_iff.1 hx).1; simpa using this
 have Pe:x=l1.length:=by rw [List.getElem?_range mD] at hx; exact (Option.some.inj hx).symm
 refine ⟨by omega,?_⟩
 have h2:(List.range n)[l1.length+1]? = l2.head?:=by
  rw [h,List.getElem?_append_right (by omega),show l1.length+1 - l1.length=1 from by omega,List.getElem?_cons_succ]
  cases l2 <;> rfl
 rw [← h2]
 by_cases hh:x+1<n
 ·rw [if_pos hh,List.getElem?_range (by omega)]; congr 1; omega
 ·rw [if_neg hh,List.getElem?_eq_none (by simp; omega)]
theorem QN:∀ {ps:List Nat} {d:List (List Int)} {c:List Int} {r:List (List Int)},ey ps=d++c::r→QL ps c=r.head?
 | [],d,c,r,h=>by
  simp [ey] at h
  cases d with
  | nil=>simp at h; obtain ⟨rfl,rfl⟩:=h; rfl
  | cons x d=>simp at h
 | p::ps,d,c,r,h=>by
  rw [ey] at h
  obtain ⟨l1,x,l2,d',r',e1,e2,e3⟩:=tm h
  obtain ⟨hx,A6⟩:=LK e1
  obtain ⟨a,b,ha,hb,hc⟩:=List.map_eq_append_iff.1 e2
  obtain ⟨t,ts,rfl,hct,hts⟩:=List.map_eq_cons_iff.1 hc
  subst hct
  have ih:=QN ha
  rw [e3,← hts]
  show (match QL ps t with | some cs'=>some ((x:Int)::cs') | none=>if (x:Int)<p then some (((x:Int)+1)::List.replicate t.length 0) else none)=_
  rw [ih]
  cases ts with
  | cons t' ts=>rfl
  | nil=>
   simp only [List.head?_nil,List.map_nil,List.nil_append]
   cases l2 with
   | nil=>
    simp at A6
    rw [if_neg (by omega)]; rfl
   | cons y l2=>
    simp only [List.head?_cons] at A6
    split at A6
    ·obtain rfl:=Option.some.inj A6
     rw [if_pos (by omega),List.flatMap_cons]
     have M7:t.length=ps.length:=pN (ps:=ps) (by rw [ha]; simp)
     have hh:=qE ps
     cases hq:ey ps with
     | nil=>rw [hq] at hh; cases hh
     | cons u us=>
      rw [hq] at hh; simp at hh
      simp [hh,M7]
    ·cases A6
def I0 (f:List Int→List Int) (l:List (List Int)):List (List Int) × List (List Int):=l.foldl (λ s c=>if f c∈s.2 then s else (s.1++[c],s.2++[f c])) ([],[])
theorem LL (f:List Int→List Int) (l:List (List Int)) (c:List Int):I0 f (l++[c])=if f c∈(I0 f l).2 then I0 f l else ((I0 f l).1++[c],(I0 f l).2++[f c]):=by
 unfold I0; rw [List.foldl_append]; rfl
theorem LM (f:List Int→List Int):∀ (l:List (List Int)) (s:List (List Int) × List (List Int)),(l.foldl (λ s c=>if f c∈s.2 then s else (s.1++[c],s.2++[f c])) s).1.length≤s.1.length+l.length
 | [],s=>Nat.le_refl _
 | c::l,s=>by
  rw [List.foldl_cons]
  refine Nat.le_trans (LM f l _) ?_
  split
  ·simp
  ·simp; omega
theorem QO (f:List Int→List Int) (l:List (List Int)):(I0 f l).1.length≤l.length:=by
 have h:(I0 f l).1.length≤([]:List (List Int)).length+l.length:=LM f l ([],[])
 simpa using h
def aqU (xs:List Int):List Int:=xs++List.replicate (20 - xs.length) 0
def qw (m:Mem) (c:List Int):List Int:=aqU (rW m c c.length)
def yQ (m:Mem):List Nat:=Ao m (jq m.of).toNat
def yh (m:Mem):List (List Int):=(I0 (qw m) (ey (yQ m))).1
theorem As (m:Mem):(yQ m).length=(jq m.of).toNat:=by unfold yQ Ao; simp
theorem BJ {m:Mem} (hk:vG m):0≤jq m.of:=by
 unfold jq; split
 ·omega
 ·rename_i h
  have hx:m.of.getD (m.of.length - 1) 0∈m.of:=by rw [List.getD_eq_getElem?_getD,List.getElem?_eq_getElem (by omega)]; exact List.getElem_mem _
  have:=(hk.ofr _ hx).1
  omega
theorem aj6 {m:Mem} (hk:vG m) {c:List Int} (h:c∈ey (yQ m)):(c.length:Int)=jq m.of∧jr m c=some (rW m c c.length)∧(∀ n∈c,0≤n):=by
 have hl:=pN h
 rw [As] at hl
 have hn:=BJ hk
 have hb:∀ (k:Nat) (n:Int),k<c.length→c[k]? = some n→0≤n∧n≤(m.gy k).length:=λ k n KL hc=>by
  have:=BI h (i:=k) (p:=(m.gy k).length) (by unfold yQ; exact Ap (by omega)) hc
  exact this
 refine ⟨by omega,BH (by omega) hb,λ n hn=>?_⟩
 obtain ⟨i,hi,rfl⟩:=List.getElem_of_mem hn
 exact (hb i _ hi (List.getElem?_eq_getElem hi)).1
theorem LN {m:Mem} {d:List (List Int)} {c:List Int} {r:List (List Int)} (h:ey (yQ m)=d++c::r):WR m c=r.head?:=by
 have hl:c.length=(yQ m).length:=pN (by rw [h]; simp)
 rw [As] at hl
 unfold WR
 rw [hl]; exact QN h
def adp (v:Value):List (List Int)→HP
 | []=>emp
 | c::_=>bK v c
theorem adp.nil {w w0:World} {A:Nat→Prop} {L:List HP} {v:Value} (hs:St w0 A L w):St w0 A (adp v []::L) w:=hs.new (Ext.refl w) (H:=emp) (F:=bD) (λ _ h=>h) λ _ h=>h.elim
theorem G8 (ps:List Nat):ey ps=List.replicate ps.length 0::(ey ps).tail:=by
 have:=qE ps
 cases h:ey ps with
 | nil=>rw [h] at this; cases this
 | cons x xs=>rw [h] at this; simp at this; rw [this]; rfl
theorem Og:LF PG 20 221 3:=⟨Tryz.underlying221,oN,(jF bL).2⟩
theorem C54 (of cT:List Int) (stays:Int) (av bv:Value) (w:World) (hO:eJ (λ _=>True) w av of) (Sr:eJ (λ _=>True) w bv cT) (hlen:of.length=cT.length) (h20:of.length≤20) (gn:0≤stays∧stays≤of.length) (Tn:∀ (k:Nat) (n:Int),(k:Int)<stays→of[k]? = some n→(n=lu of k∨(0<k∧n=lu of k - 1))∧-10≤n∧n≤100):CR 54 [av,.int .i64 stays,bv] w (λ v w'=>∃ (p:Nat) (ov fv:SV),v = .tuple #[.pointer (some ⟨p,0,none⟩),.int .i64 0]∧lY (sep (bK (Flat.val ov) (of.take stays.toNat)) (sep (bK (Flat.val fv) cT) (fW p (Flat.val ov) (Flat.val fv) (WX of stays cT)))) w w'):=by
 have hs:=St.start w;refine ahr _ _ _ _ _ ?_;unfold S54;refine ⟨λ jv w'=>jv = .bool (decide (of.length≠cT.length∨20<of.length∨stays<0∨of.length<stays))∧w=w',?_,?_⟩
 ·refine aJ dY (hO.ext hs.aF) (aJ dY (Sr.ext hs.aF) (cQ (aC (λ eB=>?_) (λ eB=>?_))))
  ·exact ⟨Ph (by omega),rfl⟩
  ·refine aJ dY (hO.ext hs.aF) (dB (aC (λ jy=>?_) (λ jy=>?_)))
   ·exact ⟨Ph (by omega),rfl⟩
   ·refine aR (aC (λ iB=>?_) (λ iB=>?_))
    ·exact ⟨Ph (by omega),rfl⟩
    ·refine aJ dY (hO.ext hs.aF) (dB ?_);exact ⟨wW (by omega),rfl⟩
 ·rintro _ w1 ⟨rfl,hw⟩ fy;subst hw;refine aC (λ lR=>?_) (λ lR=>?_)
  ·exact absurd lR (by omega)
  ·refine kQ dY (hO.ext hs.aF) (by omega) (by omega) (λ aqR aj7=>?_);have WY:=aj7 _ hO;refine aJ dY (WY.ext hs.aF) ?_;refine ⟨λ mm l x w1=>∃ (k:Nat) (last:Int),l = .int .i64 last∧x = .int .i64 (k:Int)∧mm=(of.take stays.toNat).length - k∧k≤(of.take stays.toNat).length∧last=lu of k - 1∧-200≤last∧last≤200∧St w bD [] w1,⟨_,0,-1,rfl,rfl,rfl,Nat.zero_le _,rfl,by omega,by omega,hs⟩,?_⟩;rintro mm _ _ w2 ⟨k,last,rfl,rfl,rfl,Fu,af2,hl7,hl8,hs⟩ jB;have M7:(of.take stays.toNat).length=stays.toNat:=by rw [List.length_take]; omega
   refine aR (aC (λ tZ=>?_) (λ tZ=>?_))
   ·obtain ⟨qu,qa⟩:=gx (((of).take (stays).toNat)) (i:=((k:Int)).toNat) (by omega);refine aQ dY WY (by omega) qa (λ _ ud=>?_)
    have aj8:of[k]? = some qu:=by
     have h0:=qa;rw [List.getElem?_take] at h0
     split at h0
     ·exact h0
     ·cases h0
    obtain ⟨hl1,A6,hl3⟩:=Tn k _ (by omega) aj8;refine aD bL (ud.ext hs.aF) ?_;refine ⟨λ jv w'=>jv = .bool (decide (qu≠last+1∧(k=0∨qu≠last)))∧w2=w',?_,?_⟩
    ·refine aO (by omega) (cQ (aC (λ sr=>?_) (λ sr=>?_)))
     ·refine aH (aC (λ rA=>?_) (λ rA=>?_))
      ·exact ⟨Ph (by omega),rfl⟩
      ·refine cQ ?_;exact ⟨wW (by omega),rfl⟩
     ·exact ⟨YU (by omega),rfl⟩
    ·rintro _ w3 ⟨rfl,hw⟩ oS;subst hw;refine aC (λ B5=>?_) (λ B5=>?_)
     ·exact absurd B5 (by have:=Tn k qu (by omega) aj8; simp; omega)
     ·have hws:lu of (k+1)=qu+1:=by unfold lu; rw [if_neg (by omega),Nat.add_sub_cancel,List.getD_eq_getElem?_getD,aj8]; rfl
      refine aO (by omega) ?_;exact ⟨_,by omega,k+1,qu,rfl,rfl,rfl,by omega,by omega,by omega,by omega,hs⟩
   ·refine kQ dY (hO.ext hs.aF) (by omega) (by omega) (λ s_x58 aj9=>?_);have aka:=aj9 _ hO;refine cZ zp hs (C70 _ _ _ (aka.ext hs.aF) (by first | omega | (rw [List.length_take]; omega))) (λ x59 w4 bY hs=>cZ zp hs (C70 _ _ _ (Sr.ext hs.aF) (by first | omega | (rw [List.length_take]; omega))) (λ x61 w5 bY hs=>cZ zp hs (C70 _ _ _ (Sr.ext hs.aF) (by first | omega | (rw [List.length_take]; omega))) (λ x63 w6 bY hs=>ow (α:=jk) hs (λ b_x64 w7 hs=>?_))));obtain ⟨akb,rfl⟩:=(hs.p3).fR;obtain ⟨IK,rfl⟩:=(hs.p2).fR;obtain ⟨ayk,rfl⟩:=(hs.p1).fR;refine pop (DI _ _ _ _ _ _ _ _ _ _) (l5 hs (λ aqV w8 hs=>kQ dY (Sr.ext hs.aF) (by omega) (by omega) (λ agd akc=>?_)))
    have akd:=akc _ Sr;refine cZ zp hs (C70 _ _ _ (akd.ext hs.aF) (by first | omega | (rw [List.length_take]; omega))) (λ x71 w9 bY hs=>aE (aA zG (aV hs.p1 eu (eI rfl) ((hs).fB.one) (λ pS hs=>?_))));have hs:=fW.shut (m:=WX of stays cT) hs.p4.p5.p4.p4.p5.p5;exact ⟨aqV,akb,IK,rfl,(St.join (St.join hs.p2).p1).fresh⟩
theorem C69 (p:Nat) (m:Mem) (ov fv:SV) (w:World) (c0:Cell w p 0 (Flat.val ov)) (c1:Cell w p 1 (Flat.val fv)) (hm:vd w p m) (hk:vG m) (hb:MB m 1000000):CR 69 [(.pointer (some ⟨p,0,none⟩))] w (λ v w'=>∃ b,v = .pointer (some ⟨b,0,none⟩)∧lY (fW b (Flat.val ov) (Flat.val fv) m) w w'):=by
 have EY:=hm;obtain ⟨ov2,fv2,lv,kv,pm,_,_,c2,c3,c4,hO,Sr,hL,hKp,hP⟩:=hm;obtain ⟨es,clock,Yx,gn,hkv,AY⟩:=hP.es;have h20:=hk.fl;have YC:=hk.QJ;have Nt:=hk.ll;have KL:=hk.kl;have Qi:=hk.lb;have hs:=St.start w;refine ahG _ _ _ ?_;unfold S69;refine ⟨λ c3 w'=>∃ b lv1 kv1 pm1,c3 = .pointer (some ⟨b,0,none⟩)∧St w bD [cE b [Flat.val ov,Flat.val fv,lv1,kv1,.map (some pm1)],bK lv1 m.l,bK kv1 m.kept,oJ pm1 (λ _=>([]:List jk))] w',?_,?_⟩
 ·refine aE (aA tS (have hs:=hs.drew;cD eu (c0.ext hs.aF) (aE (aA Kj (cD eu (c1.ext hs.aF) ?_)))));refine ⟨?_,?_⟩
  ·refine cZ ahP hs (C72 _ m _ (EY.ext hs.aF) hk) (λ x15 w1 bY hs=>?_);refine ⟨aG eu (c0.ext hs.aF),?_⟩;refine ⟨aG eu (c1.ext hs.aF),?_⟩;refine ⟨?_,?_⟩
   ·refine cZ TY hs (C73 _ m _ (EY.ext hs.aF) hk) (λ x17 w2 bY hs=>?_);refine ⟨aG eu (c0.ext hs.aF),?_⟩;refine ⟨aG eu (c1.ext hs.aF),?_⟩;refine ow (α:=jk) hs (λ UM w3 hs=>?_);refine ⟨aG eu (c0.ext hs.aF),?_⟩;refine ⟨aG eu (c1.ext hs.aF),?_⟩;obtain ⟨ake,rfl⟩:=(hs.p2).fR;obtain ⟨V0,rfl⟩:=(hs.p1).fR;refine pop (oP _ _ _ _ _ _ _ _ _ _ _ _ _) (l5 hs (λ b_x20 w4 hs=>?_));have hs:=hs.p1.p2.p3.p3;exact ⟨_,_,_,_,rfl,hs⟩
   ·refine ⟨?_,?_⟩
    ·refine ow (α:=jk) hs (λ ats w5 hs=>?_);refine ⟨aG eu (c0.ext hs.aF),?_⟩;refine ⟨aG eu (c1.ext hs.aF),?_⟩;refine cZ TY hs (C73 _ m _ (EY.ext hs.aF) hk) (λ aqe w6 bY hs=>?_);refine ⟨aG eu (c0.ext hs.aF),?_⟩;refine ⟨aG eu (c1.ext hs.aF),?_⟩;obtain ⟨ake,rfl⟩:=(hs.p2).fR;obtain ⟨Ls,rfl⟩:=(hs).fR;refine pop (oP _ _ _ _ _ _ _ _ _ _ _ _ _) (l5 hs (λ att w7 hs=>?_));have hs:=hs.p2.p2.p3.p3;exact ⟨_,_,_,_,rfl,hs⟩
    ·trivial
  ·refine ⟨?_,?_⟩
   ·refine ow (α:=jk) hs (λ atu w8 hs=>?_);refine ⟨aG eu (c0.ext hs.aF),?_⟩;refine ⟨aG eu (c1.ext hs.aF),?_⟩;refine cZ ahP hs (C72 _ m _ (EY.ext hs.aF) hk) (λ x15_1 w9 bY hs=>?_);refine ⟨aG eu (c0.ext hs.aF),?_⟩;refine ⟨aG eu (c1.ext hs.aF),?_⟩;refine cZ TY hs (C73 _ m _ (EY.ext hs.aF) hk) (λ aqf pS bY hs=>?_);refine ⟨aG eu (c0.ext hs.aF),?_⟩;refine ⟨aG eu (c1.ext hs.aF),?_⟩;obtain ⟨aqZ,rfl⟩:=(hs.p1).fR;obtain ⟨Lt,rfl⟩:=(hs).fR;refine pop (oP _ _ _ _ _ _ _ _ _ _ _ _ _) (l5 hs (λ atv sU hs=>?_));have hs:=hs.p3.p2.p3.p3
    exact ⟨_,_,_,_,rfl,hs⟩
   ·trivial
 ·rintro _ vm ⟨b,lv1,kv1,pm1,rfl,hs⟩ fy;refine aE (aA m4 (cD se (c4.ext hs.aF) (Ss hs Tryz.underlying201 (E0 Yx hs.aF) (λ r25 vn hs=>?_))));have hs:=hs.p4.p4.p4.p4.p4;refine ⟨λ mm w1=>∃ (seen:Array Nat) (done:List Int),mm=(leftOf es seen).size∧(∀ e∈es.toList,seen.contains e.born=true→∃ k∈done,e.key = .int .i64 k)∧St w bD [G7 r25 pm clock seen,cE b [Flat.val ov,Flat.val fv,lv1,kv1,.map (some pm1)],bK lv1 m.l,bK kv1 m.kept,oJ pm1 (λ k=>if k∈done then m.gy k else [])] w1,⟨_,#[],[],rfl,λ e he hc=>by simp at hc,by simpa using hs⟩,?_⟩;rintro mm sm ⟨seen,done,rfl,age,hs⟩ jB
  refine WU hs (E0 Yx hs.aF) gn.1 (λ h0=>?_) (λ e v7 he hs=>?_)
  ·refine bE rfl (fP ?_);have hs:=(hs.drop.p3.p3.p3).p3
   have hg:(λ k=>if k∈done then m.gy k else [])=m.gy:=by
    funext k
    by_cases hd:k∈done
    ·rw [if_pos hd]
    ·rw [if_neg hd];refine (AY k λ e he hek=>hd ?_).symm;obtain ⟨k2,Fu,hk3⟩:=age e he (all_seen es seen h0 e he);rw [hek] at hk3; cases hk3; exact Fu
   rw [hg] at hs;exact ⟨b,rfl,(fW.shut hs).fresh⟩
  ·obtain ⟨k,sk,hek,hev,hrk⟩:=hkv e (mem_left he).1;refine bE rfl (nQ (Su hs (E0 Yx hs.aF) (mem_left he).1 gn.2.1 ?_));rw [hek,hev];refine bE rfl (bE rfl (aE (aA m4 (have hs:=hs.drew;aB se hs.p1.hb rfl (cZ anc hs (C137 _ _ _ (hrk.ext hs.aF) (hb k)) (λ x37 yZ bY hs=>?_))))));refine ⟨aG se (hs.p2.hb.cell rfl),?_⟩;obtain ⟨s_w17,hs⟩:=(hs.p5).EW (k:=k);have hs:=hs.drop;obtain ⟨oY,rfl⟩:=(hs.p1).fR;have hs:=hs.p1;refine Cc hs Tryz.underlying201 oN (λ Cp hs=>?_);have hs:=hs.p4.p4.p4.p4;refine ⟨_,left_shrinks es seen e he,seen.push e.born,k::done,rfl,λ e2 he2 hc=>?_,?_⟩
   ·rcases E1 hc with h | h
    ·obtain ⟨k2,h1,h2⟩:=age e2 he2 h; exact ⟨k2,List.mem_cons_of_mem _ h1,h2⟩
    ·obtain rfl:=born_inj gn.2.1 he2 (mem_left he).1 h; exact ⟨k,List.mem_cons_self,hek⟩
   ·have hg:tg (λ k=>if k∈done then m.gy k else []) k (m.gy k)=(λ k'=>if k'∈k::done then m.gy k' else []):=by
     funext k'; unfold tg
     by_cases e:k'=k
     ·subst e; simp
     ·simp [e]
    rw [hg] at hs; exact hs
theorem C82 (p:Nat) (m:Mem) (w:World) (hm:vd w p m) (hk:vG m) (hb:MB m 1000000) (hC:(ey (yQ m)).length≤1000000000):CR 82 [(.pointer (some ⟨p,0,none⟩))] w (λ v w'=>lY (fj v (yh m)) w w'):=by
 have EY:=hm;obtain ⟨ov,fv,lv,kv,pm,c0,c1,c2,c3,c4,hO,Sr,hL,hKp,hP⟩:=hm;have h20:=hk.fl;have YC:=hk.QJ;have Nt:=hk.ll;have KL:=hk.kl;have Qi:=hk.lb;have hs:=St.start w;refine ahR _ _ _ ?_;unfold S82;refine LH (n:=20) hs (λ b10 w1 hs=>aZ T4 hs (C144 _ m _ (EY.ext hs.aF) hk) (λ w2 he hs=>?_));have hnn:=BJ hk;refine vO (0:Int) hs dY BY (by omega) (by omega) (by decide) (λ s_x13 w3 hs=>?_);have hs:=(((hs.xI (α:=List Int)).p1).p2).p2;refine ⟨λ mm fX oA is6 w1=>∃ (done rest:List (List Int)),ey (yQ m)=done++rest∧is6 = .bool (!rest.isEmpty)∧mm=rest.length∧St w bD [fj fX (I0 (qw m) done).1,Of b10 20 (I0 (qw m) done).2,adp oA rest] w1,⟨_,[],ey (yQ m),rfl,by rw [G8 (yQ m)]; rfl,rfl,by rw [G8 (yQ m),As]; exact hs⟩,?_⟩
 rintro mm fX oA _ w4 ⟨done,rest,mv,rfl,rfl,hs⟩ fy;refine aX (λ WZ=>?_) (λ WZ=>?_)
 ·obtain ⟨c,rest,rfl⟩:∃ c r,rest=c::r:=by cases rest with | nil=>cases WZ | cons c r=>exact ⟨c,r,rfl⟩
  change St w bD [fj fX (I0 (qw m) done).1,Of b10 20 (I0 (qw m) done).2,bK oA c] _ at hs
  have MI:c∈ey (yQ m):=by rw [mv]; simp
  have hco:=aj6 hk MI;have Qq:=hco.1;have hdl:=QO (qw m) done;have hdn:done.length≤(ey (yQ m)).length:=by rw [mv]; simp
  have Tq:(rW m c c.length).length≤20:=by rw [rI]; omega
  have vj:(qw m c).length=20:=by unfold qw aqU; rw [List.length_append,List.length_replicate]; omega
  refine ⟨λ o w'=>St w bD [fj o (I0 (qw m) (done++[c])).1,Of b10 20 (I0 (qw m) (done++[c])).2,bK oA c] w',?_,?_⟩
  ·refine eD aeF (C125 _ m c _ _ (EY.ext hs.aF) hk hb (hs.p2).fB (by omega)) ?_;rintro v24 w5 hh;obtain ⟨qb,o24,hi,rfl,bY⟩:=hh.resolve_left (λ h=>by rw [hco.2.1] at h; cases h.1);obtain rfl:qb=(rW m c c.length):=Option.some.inj (hi.symm.trans hco.2.1);have hs:=hs.made bY;refine bE rfl (bE rfl (aN hs abx (λ aym w6 hs=>Sv Og (LJ hs dY (hs.p1).fB Tq (by simp; omega) (λ w7 hs=>have hs:=hs.enc (cs':=(qw m c).map (Value.int .i64)) (by exact aj5 (n:=20) Tq);qV ae7 hs.hb (by rw [List.length_map]; exact vj) (adm hs.p3 Tryz.underlying218 Og ae3 vj ?_))))))
   first | refine Ds ?_ | refine cB ?_
   refine aC (λ nB=>?_) (λ nB=>?_)
   ·refine qV ae7 hs.hb (by rw [List.length_map]; exact vj) (adn hs.p3 Tryz.underlying218 Og vj nB (λ w8 hs=>cZ zp hs (C70 _ _ _ (hs.p4).fB (by omega)) (λ x38 w9 bY hs=>?_)));obtain ⟨W0,rfl⟩:=(hs).fR;have hs:=hs.freeze.dN (Ψ:=λ w=>bZ.dr w W0 ((c))) (λ w h=>DL.fp h);refine eK (s:=W0) (x:=(c)) hs xX (by decide) (λ afJ pS hs=>have hs:=hs.p4;ee hs xX (by simp; omega) (by decide) (λ apS sU hs=>?_));have hs:=((hs.p2.drop.p2.drop.p2).p2).p2;rw [LL,if_neg (by simpa using nB)];exact hs
   ·have hs:=(((((hs.drop)).drop).p2).p2).p2;rw [LL,if_pos (by simpa using nB)];exact hs
  ·rintro nk vm hs jB;refine eD ane (C145 _ m c _ _ (EY.ext hs.aF) hk hb (hs.p2).fB (by omega) hco.2.2) ?_;rintro v_x18 vn akf
   rcases akf with ⟨hn,rfl,he⟩ | ⟨c2,o18,hn,rfl,bY⟩
   ·have hs:=hs.ext he;refine bE rfl (bE rfl ?_);rw [LN mv] at hn;have hs:=(hs.p2.drop.p1).p1;obtain rfl:rest=[]:=by simpa using hn
    exact ⟨_,by simp,done++[c],[],by rw [mv]; simp,rfl,rfl,(adp.nil hs).p2.p2⟩
   ·have hs:=hs.made bY;refine bE rfl (bE rfl ?_);rw [LN mv] at hn;have hs:=(hs.p3.drop.p2).p2;obtain ⟨r2,rfl⟩:∃ r,rest=c2::r:=by cases rest with | nil=>cases hn | cons y r=>exact ⟨r,by simp at hn; rw [hn]⟩
    exact ⟨_,by simp,done++[c],c2::r2,by rw [mv]; simp,rfl,rfl,hs⟩
 ·have hs:=((hs.p1.drop).p1).drop;obtain rfl:rest=[]:=by cases rest with | nil=>rfl | cons c r=>cases WZ
  rw [List.append_nil] at mv;unfold yh;rw [mv];exact hs.fresh
structure fK where
 code:fm
 at_:Int
 aK:List Int
 counts:List Int
 fault:Int
 e:Int
 f:Int
 buf:List bJ
def E3 (K:World→Prop) (gl:Value) (l:List aW):Prop:=∃ ts:List bU,∀ w,K w→eJ (λ _=>True) w gl ts∧jS ts l w
def eF (K:World→Prop) (p:Nat) (room:Int) (t:fK):HP:=tW λ bp:Nat=>tW λ gl=>tW λ rg=>tW λ cn=>fact (E3 K gl t.code.l)
 (sep (cE p [.pointer (some ⟨bp,0,none⟩),.int .i64 t.code.aK,.int .i64 t.code.counts,gl,.int .i64 t.at_,rg,cn,.int .i64 t.fault,.int .i64 t.e,.int .i64 t.f]) (sep (nK bp room t.buf) (sep (bK rg t.aK) (bK cn t.counts))))
section
variable {w w0:World} {A:Nat→Prop} {R:List HP} {p:Nat} {K:World→Prop} {room:Int} {t:fK}
theorem eF.open (hs:St w0 A (eF K p room t::R) w):∃ bp gl rg cn,E3 K gl t.code.l∧St w0 A (cE p [.pointer (some ⟨bp,0,none⟩),.int .i64 t.code.aK,.int .i64 t.code.counts,gl,.int .i64 t.at_,rg,cn,.int .i64 t.fault,.int .i64 t.e,.int .i64 t.f]::nK bp room t.buf::bK rg t.aK::bK cn t.counts::R) w:=by
 obtain ⟨bp,hs⟩:=hs.eV; obtain ⟨gl,hs⟩:=hs.eV; obtain ⟨rg,hs⟩:=hs.eV; obtain ⟨cn,hs⟩:=hs.eV; obtain ⟨hk,hs⟩:=hs.oE
 have h1:=hs.split
 have h2:=h1.p1.split
 have h3:=h2.p1.split
 exact ⟨bp,gl,rg,cn,hk,h3.p2.p3⟩
theorem eF.shut {bp:Nat} {gl rg cn:Value} (hk:E3 K gl t.code.l) (hs:St w0 A (cE p [.pointer (some ⟨bp,0,none⟩),.int .i64 t.code.aK,.int .i64 t.code.counts,gl,.int .i64 t.at_,rg,cn,.int .i64 t.fault,.int .i64 t.e,.int .i64 t.f]::nK bp room t.buf::bK rg t.aK::bK cn t.counts::R) w):St w0 A (eF K p room t::R) w:=by
 have h1:=St.join (hs.p3.p3)
 have h2:=St.join h1.p2
 exact St.eP bp (St.eP gl (St.eP rg (St.eP cn (St.qm hk (St.join h2.p1)))))
theorem eF.rd (h:Has (eF K p room t) w):∃ bp gl rg cn,E3 K gl t.code.l∧tH w p [.pointer (some ⟨bp,0,none⟩),.int .i64 t.code.aK,.int .i64 t.code.counts,gl,.int .i64 t.at_,rg,cn,.int .i64 t.fault,.int .i64 t.e,.int .i64 t.f]∧wD w bp room t.buf∧eJ (λ _=>True) w rg t.aK∧eJ (λ _=>True) w cn t.counts:=by
 obtain ⟨F,hs⟩:=h.st
 obtain ⟨bp,gl,rg,cn,hk,hs⟩:=eF.open hs
 exact ⟨bp,gl,rg,cn,hk,hs.hb,QG hs.p1,hs.p2.fB,hs.p3.fB⟩
end
def gS (t:fK):Option aW:=if (t.code.l.length:Int)≤t.at_ then none else t.code.l[t.at_.toNat]?
def ew (l:List nt) (aK:List Int):Int × Bool:=if l.length=0 then (0,true) else ((runM l aK).1,decide ((runM l aK).2=0))
def tE (t:fK) (x:aW):fK:={t with fault:=if (ew x.e t.aK).2=true then t.fault else 2,e:=(ew x.e t.aK).1}
def tF (t:fK) (x:aW):fK:={t with fault:=if (ew x.f t.aK).2=true then t.fault else 2,f:=(ew x.f t.aK).1}
def wG (t:fK) (x:aW) (e:Int):fK × Bool:=
 if x.kind=1 then ({t with aK:=t.aK.set x.a.toNat e,at_:=t.at_+1},true)
 else if x.kind=11 then ({t with at_:=x.to},true)
 else if x.kind=12 then (if e=0 then ({t with at_:=x.to},true) else ({t with at_:=t.at_+1},true))
 else if x.kind=13 then ({t with counts:=t.counts.set x.a.toNat x.b,at_:=t.at_+1},true)
 else if x.kind=14 then (if 0<q9 (t.counts.getD x.a.toNat 0 - 1) then ({t with counts:=t.counts.set x.a.toNat (q9 (t.counts.getD x.a.toNat 0 - 1)),at_:=x.to},true) else ({t with counts:=t.counts.set x.a.toNat (q9 (t.counts.getD x.a.toNat 0 - 1)),at_:=t.at_+1},true))
 else if x.kind=15 then (if e=0 then ({t with fault:=1},false) else ({t with at_:=t.at_+1},true))
 else (t,false)
def fI (t:fK):fK × Bool:=match gS t with
 | none=>(t,false)
 | some x=>if (ew x.e t.aK).2=true then (if (ew x.f t.aK).2=true then wG (tF (tE t x) x) x (ew x.e t.aK).1 else (tF (tE t x) x,false)) else (tE t x,false)
def sN:Nat→fK→Option fK
 | 0,_=>none
 | n+1,t=>if (fI t).2=true then sN n (fI t).1 else some (fI t).1
structure BK (c:fm):Prop where
 len:c.l.length≤1000000
 rb:0≤c.aK∧c.aK≤1000
 cb:0≤c.counts∧c.counts≤1000
 ops:∀ x∈c.l,x.e.length≤1000∧x.f.length≤1000∧0≤x.to∧x.to≤1000000
 set:∀ x∈c.l,x.kind=1→0≤x.a∧x.a<c.aK
 cnt:∀ x∈c.l,x.kind=13∨x.kind=14→0≤x.a∧x.a<c.counts
structure G9 (t:fK):Prop where
 code:BK t.code
 rg:(t.aK.length:Int)=t.code.aK
 cn:(t.counts.length:Int)=t.code.counts
 Tm:0≤t.at_
 bl:t.buf.length≤1000
theorem qM {t:fK} {x:aW} (h:gS t=some x):x∈t.code.l∧t.at_<t.code.l.length:=by
 unfold gS at h
 split at h
 ·cases h
 ·exact ⟨List.mem_of_getElem? h,by omega⟩
theorem akg {t:fK} {x:aW} {e:Int} (h:G9 t) (hx:x∈t.code.l):G9 (wG t x e).1:=by
 have h1:=h.Tm; have h2:=(h.code.ops x hx).2.2.1; have h3:=h.rg; have h4:=h.cn
 unfold wG
 repeat' split
 all_goals first
  | exact ⟨h.code,h3,h4,h2,h.bl⟩
  | exact ⟨h.code,h3,h4,h1,h.bl⟩
  | exact ⟨h.code,h3,h4,(by show 0≤t.at_+1; omega),h.bl⟩
  | exact ⟨h.code,(by simpa using h3),h4,(by show 0≤t.at_+1; omega),h.bl⟩
  | exact ⟨h.code,h3,(by simpa using h4),(by show 0≤t.at_+1; omega),h.bl⟩
  | exact ⟨h.code,h3,(by simpa using h4),h2,h.bl⟩
theorem lB {t:fK} (h:G9 t):G9 (fI t).1:=by
 unfold fI
 cases hn:gS t with
 | none=>exact h
 | some x=>
  have hx:=(qM hn).1
  have he:G9 (tE t x):=⟨h.code,h.rg,h.cn,h.Tm,h.bl⟩
  have hf:G9 (tF (tE t x) x):=⟨h.code,h.rg,h.cn,h.Tm,h.bl⟩
  dsimp only
  split
  ·split
   ·exact akg hf hx
   ·exact hf
  ·exact he
theorem W1 {n:Nat} {t tR:fK} (h:sN n t=some tR):∃ k,n=k+1:=by
 cases n with
 | zero=>cases h
 | succ k=>exact ⟨k,rfl⟩
theorem wH {k:Nat} {t tR t':fK} (h:sN (k+1) t=some tR) (hs:fI t=(t',true)):sN k t'=some tR:=by
 unfold sN at h; rw [hs] at h; exact h
theorem Au {k:Nat} {t tR t':fK} (h:sN (k+1) t=some tR) (hs:fI t=(t',false)):tR=t':=by
 unfold sN at h; rw [hs] at h; exact (Option.some.inj h).symm
section
variable {t:fK} {x:aW} {e:Int}
theorem W3 (h:x.kind=1):wG t x e=({t with aK:=t.aK.set x.a.toNat e,at_:=t.at_+1},true):=by unfold wG; rw [if_pos h]
theorem Oh (h:x.kind=11):wG t x e=({t with at_:=x.to},true):=by unfold wG; simp [h]
theorem I1 (h:x.kind=12) (he:e=0):wG t x e=({t with at_:=x.to},true):=by unfold wG; simp [h,he]
theorem I2 (h:x.kind=12) (he:¬ e=0):wG t x e=({t with at_:=t.at_+1},true):=by unfold wG; simp [h,he]
theorem Oi (h:x.kind=13):wG t x e=({t with counts:=t.counts.set x.a.toNat x.b,at_:=t.at_+1},true):=by unfold wG; simp [h]
theorem I3 (h:x.kind=14) (he:0<q9 (t.counts.getD x.a.toNat 0 - 1)):wG t x e=({t with counts:=t.counts.set x.a.toNat (q9 (t.counts.getD x.a.toNat 0 - 1)),at_:=x.to},true):=by unfold wG; simp only [h,if_neg (show ¬ (14:Int)=1 by decide),if_neg (show ¬ (14:Int)=11 by decide),if_neg (show ¬ (14:Int)=12 by decide),if_neg (show ¬ (14:Int)=13 by decide),if_pos he,if_true]
theorem I4 (h:x.kind=14) (he:¬ 0<q9 (t.counts.getD x.a.toNat 0 - 1)):wG t x e=({t with counts:=t.counts.set x.a.toNat (q9 (t.counts.getD x.a.toNat 0 - 1)),at_:=t.at_+1},true):=by unfold wG; simp only [h,if_neg (show ¬ (14:Int)=1 by decide),if_neg (show ¬ (14:Int)=11 by decide),if_neg (show ¬ (14:Int)=12 by decide),if_neg (show ¬ (14:Int)=13 by decide),if_neg he,if_true]
theorem I5 (h:x.kind=15) (he:e=0):wG t x e=({t with fault:=1},false):=by unfold wG; simp [h,he]
theorem I6 (h:x.kind=15) (he:¬ e=0):wG t x e=({t with at_:=t.at_+1},true):=by unfold wG; simp [h,he]
theorem Oj (h1:¬ x.kind=1) (h2:¬ x.kind=11) (h3:¬ x.kind=12) (h4:¬ x.kind=13) (h5:¬ x.kind=14) (h6:¬ x.kind=15):wG t x e=(t,false):=by unfold wG; rw [if_neg h1,if_neg h2,if_neg h3,if_neg h4,if_neg h5,if_neg h6]
theorem Av (h:gS t=none):fI t=(t,false):=by unfold fI; rw [h]
theorem Aw (h:gS t=some x) (h2:(ew x.e t.aK).2=false):fI t=(tE t x,false):=by unfold fI; rw [h]; dsimp only; rw [h2]; rfl
theorem Ax (h:gS t=some x) (h2:(ew x.e t.aK).2=true) (h3:(ew x.f t.aK).2=false):fI t=(tF (tE t x) x,false):=by unfold fI; rw [h]; dsimp only; rw [h2,h3]; rfl
theorem kB (h:gS t=some x) (h2:(ew x.e t.aK).2=true) (h3:(ew x.f t.aK).2=true):fI t=wG (tF (tE t x) x) x (ew x.e t.aK).1:=by unfold fI; rw [h]; dsimp only; rw [h2,h3]; rfl
end
theorem C65 (K:World→Prop) (p:Nat) (room:Int) (t:fK) (w:World) (hh:Has (eF K p room t) w) (hw:K w) (oF:G9 t):CR 65 [(.pointer (some ⟨p,0,none⟩))] w (λ v w'=>(gS t=none∧v = .tuple #[Flat.val (⟨0,0,0,⟨none,0,0⟩,⟨none,0,0⟩,0⟩:bU),.bool false]∧Ext w w')∨∃ x xv,gS t=some x∧(∀ w,K w→bZ.dr w xv x)∧v = .tuple #[Flat.val (xv:bU),.bool true]∧Ext w w'):=by
 obtain ⟨bp,gl,rg,cn,⟨ts0,hts⟩,ox,hB,Bw,YD⟩:=eF.rd hh;have c0:=ox.cell (o:=0) rfl;have c3:=ox.cell (o:=3) rfl;have c4:=ox.cell (o:=4) rfl;have c7:=ox.cell (o:=7) rfl;have hDL0:True:=trivial;have hR0:=(hts w hw).1;have hD0:=(hts w hw).2;have hn0:=hD0.1;have Qq:=oF.code.len;have ayo:=oF.Tm;have hs:=St.start w;refine ahC _ _ _ ?_;unfold S65;refine aN hs mA (λ mc w1 hs=>have hs:=hs.enc (cs':=Flat.enc (⟨0,0,0,⟨none,0,0⟩,⟨none,0,0⟩,0⟩:bU)) rfl;aE (aA kj (have hs:=hs.drew;cD bL (c4.ext hs.aF) (aE (aA Kf (aA my (cD uL (c3.ext hs.aF) (aJ kP (hR0.ext hs.aF) (dF (aC (λ gQ=>?_) (λ gQ=>?_)))))))))))
 ·refine pop (v:=Flat.val (⟨0,0,0,⟨none,0,0⟩,⟨none,0,0⟩,0⟩:bU)) (by kernel_rfl) (aI (x:=(⟨0,0,0,⟨none,0,0⟩,⟨none,0,0⟩,0⟩:bU)) hs lL rfl rfl (λ w2 hs=>aD lL hs.At ?_));exact .inl ⟨by unfold gS; rw [if_pos (by omega)],rfl,hs.drop.aF⟩
 ·refine aE (aA Kf (aA my (have hs:=hs.drew;cD uL (c3.ext hs.aF) (aE (aA kj (cD bL (c4.ext hs.aF) ?_))))));obtain ⟨GW,pZ⟩:=gx ts0 (i:=(t.at_).toNat) (by omega);obtain ⟨eo,wz⟩:=gx (t.code.l) (i:=(t.at_).toNat) (by omega);obtain ⟨xn,xo,rfl,IH,Qx⟩:=hD0.2 _ _ _ pZ wz;refine aQ kP hR0 (by omega) pZ (λ _ uh=>aD lL (uh.ext hs.aF) (aI (x:=(⟨(eo).kind,(eo).a,(eo).b,xn,xo,(eo).to⟩:bU)) hs lL rfl rfl (λ w3 hs=>aD lL hs.At ?_)));exact .inr ⟨_,_,by unfold gS; rw [if_neg (by omega)]; exact wz,λ w hw=>(hts w hw).2.2 _ _ _ pZ wz,rfl,hs.drop.aF⟩
theorem C189 (K:World→Prop) (p:Nat) (room:Int) (t:fK) (F:Nat→Prop) (lv:Value) (xs:List nt) (w:World) (hF:(eF K p room t).p w F) (hL:∀ w',ix F w w'→eJ (λ _=>True) w' lv xs) (hn:xs.length≤1000):CR 189 [(.pointer (some ⟨p,0,none⟩)),lv] w (λ v w'=>v = .tuple #[.int .i64 (ew xs t.aK).1,.bool (ew xs t.aK).2]∧qn F (eF K p room {t with fault:=if (ew xs t.aK).2=true then t.fault else 2}) w w'):=by
 have hs:=St.begin hF;refine aaf _ _ _ _ ?_;unfold S189;refine aJ vA (hL _ hs.aF) (aH (aC (λ fO=>?_) (λ fO=>?_)))
 ·have hv:ew xs t.aK=(0,true):=by unfold ew; rw [if_pos (by omega)]
  rw [hv];exact ⟨rfl,hs.mut⟩
 ·have hv:ew xs t.aK=((runM xs t.aK).1,decide ((runM xs t.aK).2=0)):=by unfold ew; rw [if_neg (by omega)]
  obtain ⟨bp,gl,rg,cn,qN,hs⟩:=eF.open hs;refine aE (aA pz (aB eu hs.hb rfl (aZ aez hs (C110 _ _ xs _ _ (hL _ hs.aF) (hs.p2).fB (by omega)) (λ w1 he hs=>bE rfl (bE rfl ?_)))));refine ⟨λ w'=>St w F [eF K p room {t with fault:=if (ew xs t.aK).2=true then t.fault else 2}] w',?_,?_⟩
  ·refine cQ (aC (λ gu=>?_) (λ gu=>?_))
   ·refine aE (aA tM (aV hs bL (eI rfl) (rfl) (λ w2 hs=>?_)));have hs:=eF.shut (t:=(⟨t.code,t.at_,t.aK,t.counts,2,t.e,t.f,t.buf⟩:fK)) qN hs.p3.p3.p3.p3;have ht:(⟨t.code,t.at_,t.aK,t.counts,2,t.e,t.f,t.buf⟩:fK)={t with fault:=if (ew xs t.aK).2=true then t.fault else 2}:=by rw [hv]; dsimp only; rw [decide_eq_false (by omega)]; rfl
    rw [ht] at hs;exact hs
   ·have hs:=eF.shut (t:=(⟨t.code,t.at_,t.aK,t.counts,t.fault,t.e,t.f,t.buf⟩:fK)) qN hs.p3.p3.p3.p3;have ht:(⟨t.code,t.at_,t.aK,t.counts,t.fault,t.e,t.f,t.buf⟩:fK)={t with fault:=if (ew xs t.aK).2=true then t.fault else 2}:=by rw [hv]; dsimp only; rw [decide_eq_true (by omega)]; rfl
    rw [ht] at hs;exact hs
  ·intro w3 hs fy;refine aH ?_;refine ⟨?_,hs.mut⟩;rw [hv]
theorem C122 (K:World→Prop) (p:Nat) (room:Int) (t:fK) (tR:fK) (n:Nat) (F:Nat→Prop) (w:World) (hF:(eF K p room t).p w F) (hK:∀ w',ix F w w'→K w') (oF:G9 t) (hg:sN n t=some tR):CR 122 [(.pointer (some ⟨p,0,none⟩))] w (λ v w'=>v = .tuple #[]∧qn F (eF K p room tR) w w'):=by
 have hs:=St.begin hF;refine Zo _ _ _ ?_;unfold S122;refine ⟨λ mm w'=>∃ t1:fK,sN mm t1=some tR∧G9 t1∧St w F [eF K p room t1] w',⟨n,t,hg,oF,hs⟩,?_⟩;rintro mm w1 ⟨t1,Fx,tn,hs⟩ fy;obtain ⟨k,rfl⟩:=W1 Fx;refine eD Y0 (C65 K p room t1 _ hs.has (hK _ hs.aF) tn) ?_;rintro v_x8 w2 aq0
 rcases aq0 with ⟨vu,rfl,he⟩ | ⟨x,xv,vu,hxv,rfl,he⟩
 ·have hs:=hs.ext he;refine bE rfl (bE rfl (aN hs mA (λ mc w3 hs=>have hs:=hs.enc (cs':=Flat.enc (⟨0,0,0,⟨none,0,0⟩,⟨none,0,0⟩,0⟩:bU)) rfl;aI (x:=(⟨0,0,0,⟨none,0,0⟩,⟨none,0,0⟩,0⟩:bU)) hs lL rfl rfl (λ w4 hs=>cB (nQ ?_)))));have hs:=(hs).drop;rw [Au Fx (Av vu)];exact ⟨rfl,hs.mut⟩
 ·have hs:=hs.ext he;have hxm:=qM vu;obtain ⟨hxe,hxf,hxt0,hxt1⟩:=tn.code.ops x hxm.1;have aq1:=tn.code.set x hxm.1;have agh:=tn.code.cnt x hxm.1;have hrl1:=tn.rg;have hcl1:=tn.cn;have hcll:=tn.code.len;have hat1:=tn.Tm;obtain ⟨ge,gf,rfl,_,_⟩:=hxv _ (hK _ hs.aF)
  have hxE:∀ w,K w→eJ (λ _=>True) w (Flat.val ge) x.e:=λ w hw=>by
   obtain ⟨ge',gf',hh,h1,_⟩:=hxv w hw;cases hh; exact DL.flat h1
  have hxF:∀ w,K w→eJ (λ _=>True) w (Flat.val gf) x.f:=λ w hw=>by
   obtain ⟨ge',gf',hh,_,h2⟩:=hxv w hw;cases hh; exact DL.flat h2
  refine bE rfl (bE rfl (aN hs mA (λ mc w3 hs=>have hs:=hs.enc (cs':=Flat.enc (⟨0,0,0,⟨none,0,0⟩,⟨none,0,0⟩,0⟩:bU)) rfl;aI (x:=(⟨x.kind,x.a,x.b,ge,gf,x.to⟩:bU)) hs lL rfl rfl (λ w4 hs=>cB (fP (aA tO (aB (v:=Flat.val (ge:SV)) xG hs.hb rfl (bG aeP hs.p1 (H':=λ _=>eF K p room {t1 with fault:=if (ew x.e t1.aK).2=true then t1.fault else 2}) (Φ:=λ v _=>v = .tuple #[.int .i64 (ew x.e t1.aK).1,.bool (ew x.e t1.aK).2]) (λ F2 eQ eA=>?_) ?_))))))))
  ·exact C189 K p room t1 F2 _ x.e _ eQ (λ w' hc=>hxE w' (hK w' (eA w' hc).aF)) hxe
  rintro _ w5 rfl hs;refine bE rfl (bE rfl ?_);obtain ⟨bp,gl,rg,cn,qN,hs⟩:=eF.open hs
  change St _ _ (cE p [.pointer (some ⟨bp,0,none⟩),.int .i64 t1.code.aK,.int .i64 t1.code.counts,gl,.int .i64 t1.at_,rg,cn,.int .i64 (if (ew x.e t1.aK).2=true then t1.fault else 2),.int .i64 t1.e,.int .i64 t1.f]::nK bp room t1.buf::bK rg t1.aK::bK cn t1.counts::_) _ at hs
  refine aE (aA tN (aV hs bL (eI rfl) (rfl) (λ w6 hs=>cB (aX (λ iB=>?_) (λ iB=>?_)))))
  ·have hs:=eF.shut (t:=(⟨t1.code,t1.at_,t1.aK,t1.counts,(if (ew x.e t1.aK).2=true then t1.fault else 2),(ew x.e t1.aK).1,t1.f,t1.buf⟩:fK)) qN hs.p3.p3.p3.p3;have hs:=(hs.p1).drop;rw [Au Fx (Aw vu (by simpa using iB))];exact ⟨rfl,hs.mut⟩
  ·have hs:=eF.shut (t:=(⟨t1.code,t1.at_,t1.aK,t1.counts,(if (ew x.e t1.aK).2=true then t1.fault else 2),(ew x.e t1.aK).1,t1.f,t1.buf⟩:fK)) qN hs.p3.p3.p3.p3
   change St w F (eF K p room (tE t1 x)::_) _ at hs
   refine aA tP (aB (v:=Flat.val (gf:SV)) xG hs.p1.hb rfl (bG aeP hs (H':=λ _=>eF K p room { (tE t1 x) with fault:=if (ew x.f (tE t1 x).aK).2=true then (tE t1 x).fault else 2}) (Φ:=λ v _=>v = .tuple #[.int .i64 (ew x.f t1.aK).1,.bool (ew x.f t1.aK).2]) (λ F2 eQ eA=>?_) ?_))
   ·exact C189 K p room (tE t1 x) F2 _ x.f _ eQ (λ w' hc=>hxF w' (hK w' (eA w' hc).aF)) hxf
   rintro _ w7 rfl hs;refine bE rfl (bE rfl ?_);obtain ⟨bp,gl,rg,cn,qN,hs⟩:=eF.open hs
   change St _ _ (cE p [.pointer (some ⟨bp,0,none⟩),.int .i64 t1.code.aK,.int .i64 t1.code.counts,gl,.int .i64 t1.at_,rg,cn,.int .i64 (if (ew x.f t1.aK).2=true then (tE t1 x).fault else 2),.int .i64 (ew x.e t1.aK).1,.int .i64 t1.f]::nK bp room t1.buf::bK rg t1.aK::bK cn t1.counts::_) _ at hs
   refine aE (aA Dz (aV hs bL (eI rfl) (rfl) (λ w8 hs=>cB (aX (λ lq=>?_) (λ lq=>?_)))))
   ·have hs:=eF.shut (t:=(⟨t1.code,t1.at_,t1.aK,t1.counts,(if (ew x.f t1.aK).2=true then (tE t1 x).fault else 2),(ew x.e t1.aK).1,(ew x.f t1.aK).1,t1.buf⟩:fK)) qN hs.p3.p3.p3.p3;have hs:=(hs.p1).drop;rw [Au Fx (Ax vu (by simpa using iB) (by simpa using lq))];exact ⟨rfl,hs.mut⟩
   ·refine aE (aA kj (aB bL hs.hb rfl (aO (by omega) ?_)));refine ⟨_,?_,λ _ _ h=>h⟩;refine aA jh (aB (v:=.int .i64 x.kind) bL hs.p4.hb rfl (aH (aC (λ kK=>?_) (λ kK=>?_))))
    ·have hx1:=aq1 kK;refine aE (aA pz (have hs:=hs.drew;aB eu hs.hb rfl (aA km (aB (v:=.int .i64 x.a) bL hs.p4.hb rfl (aE (aA tN (aB bL hs.hb rfl ?_)))))));obtain ⟨aqS,aj3⟩:=gx (t1.aK) (i:=(x.a).toNat) (by omega);refine dR hs.p2 dY (by omega) (by omega) (λ _ LD=>lJ _ hs.p2 bL LD (by omega) (λ w9 hs=>?_));intro jB;refine aE (aA kj (aV hs.p1 bL (eI rfl) (rfl) (λ sm hs=>?_)));have hs:=eF.shut (t:=(⟨t1.code,(t1.at_+1),((t1.aK).set (x.a).toNat (ew x.e t1.aK).1),t1.counts,(if (ew x.f t1.aK).2=true then (tE t1 x).fault else 2),(ew x.e t1.aK).1,(ew x.f t1.aK).1,t1.buf⟩:fK)) qN hs.p3.p2.p3.p3
     have hs:=(hs.p1).drop
     have gn:fI t1=((⟨t1.code,(t1.at_+1),((t1.aK).set (x.a).toNat (ew x.e t1.aK).1),t1.counts,(if (ew x.f t1.aK).2=true then (tE t1 x).fault else 2),(ew x.e t1.aK).1,(ew x.f t1.aK).1,t1.buf⟩:fK),true):=by
      rw [kB vu (by simpa using iB) (by simpa using lq),W3 kK]
      try rw [show (tF (tE t1 x) x).counts.getD x.a.toNat 0=nG from HY]
      try rfl
     exact ⟨k,by omega,_,wH Fx gn,by have:=lB tn; rw [gn] at this; exact this,hs⟩
    ·refine aH (aC (λ ue=>?_) (λ ue=>?_))
     ·refine aA kn (aB (v:=.int .i64 x.to) bL hs.p4.hb rfl ?_);intro jB;refine aE (aA kj (aV hs bL (eI rfl) (rfl) (λ sm hs=>?_)));have hs:=eF.shut (t:=(⟨t1.code,x.to,t1.aK,t1.counts,(if (ew x.f t1.aK).2=true then (tE t1 x).fault else 2),(ew x.e t1.aK).1,(ew x.f t1.aK).1,t1.buf⟩:fK)) qN hs.p3.p3.p3.p3;have hs:=(hs.p1).drop
      have gn:fI t1=((⟨t1.code,x.to,t1.aK,t1.counts,(if (ew x.f t1.aK).2=true then (tE t1 x).fault else 2),(ew x.e t1.aK).1,(ew x.f t1.aK).1,t1.buf⟩:fK),true):=by
       rw [kB vu (by simpa using iB) (by simpa using lq),Oh ue]
       try rw [show (tF (tE t1 x) x).counts.getD x.a.toNat 0=nG from HY]
       try rfl
      exact ⟨k,by omega,_,wH Fx gn,by have:=lB tn; rw [gn] at this; exact this,hs⟩
     ·refine aH (aC (λ su=>?_) (λ su=>?_))
      ·refine aE (aA tN (aB bL hs.hb rfl (aH (aC (λ oh=>?_) (λ oh=>?_)))))
       ·refine aA kn (aB (v:=.int .i64 x.to) bL hs.p4.hb rfl ?_);intro jB;refine aE (aA kj (aV hs bL (eI rfl) (rfl) (λ sm hs=>?_)));have hs:=eF.shut (t:=(⟨t1.code,x.to,t1.aK,t1.counts,(if (ew x.f t1.aK).2=true then (tE t1 x).fault else 2),(ew x.e t1.aK).1,(ew x.f t1.aK).1,t1.buf⟩:fK)) qN hs.p3.p3.p3.p3;have hs:=(hs.p1).drop
        have gn:fI t1=((⟨t1.code,x.to,t1.aK,t1.counts,(if (ew x.f t1.aK).2=true then (tE t1 x).fault else 2),(ew x.e t1.aK).1,(ew x.f t1.aK).1,t1.buf⟩:fK),true):=by
         rw [kB vu (by simpa using iB) (by simpa using lq),I1 su oh]
         try rw [show (tF (tE t1 x) x).counts.getD x.a.toNat 0=nG from HY]
         try rfl
        exact ⟨k,by omega,_,wH Fx gn,by have:=lB tn; rw [gn] at this; exact this,hs⟩
       ·intro jB;refine aE (aA kj (aV hs bL (eI rfl) (rfl) (λ sm hs=>?_)));have hs:=eF.shut (t:=(⟨t1.code,(t1.at_+1),t1.aK,t1.counts,(if (ew x.f t1.aK).2=true then (tE t1 x).fault else 2),(ew x.e t1.aK).1,(ew x.f t1.aK).1,t1.buf⟩:fK)) qN hs.p3.p3.p3.p3;have hs:=(hs.p1).drop
        have gn:fI t1=((⟨t1.code,(t1.at_+1),t1.aK,t1.counts,(if (ew x.f t1.aK).2=true then (tE t1 x).fault else 2),(ew x.e t1.aK).1,(ew x.f t1.aK).1,t1.buf⟩:fK),true):=by
         rw [kB vu (by simpa using iB) (by simpa using lq),I2 su oh]
         try rw [show (tF (tE t1 x) x).counts.getD x.a.toNat 0=nG from HY]
         try rfl
        exact ⟨k,by omega,_,wH Fx gn,by have:=lB tn; rw [gn] at this; exact this,hs⟩
      ·refine aH (aC (λ vo=>?_) (λ vo=>?_))
       ·have hx1:=agh (.inl vo);refine aE (aA vQ (have hs:=hs.drew;aB eu hs.hb rfl (aA km (aB (v:=.int .i64 x.a) bL hs.p4.hb rfl (aA eX (aB (v:=.int .i64 x.b) bL hs.p4.hb rfl ?_))))));obtain ⟨aq2,I7⟩:=gx (t1.counts) (i:=(x.a).toNat) (by omega);refine dR hs.p3 dY (by omega) (by omega) (λ _ W4=>lJ _ hs.p3 bL W4 (by omega) (λ pS hs=>?_));intro jB;refine aE (aA kj (aV hs.p1 bL (eI rfl) (rfl) (λ sm hs=>?_)));have hs:=eF.shut (t:=(⟨t1.code,(t1.at_+1),t1.aK,((t1.counts).set (x.a).toNat x.b),(if (ew x.f t1.aK).2=true then (tE t1 x).fault else 2),(ew x.e t1.aK).1,(ew x.f t1.aK).1,t1.buf⟩:fK)) qN hs.p1.p3.p3.p3
        have hs:=(hs.p1).drop
        have gn:fI t1=((⟨t1.code,(t1.at_+1),t1.aK,((t1.counts).set (x.a).toNat x.b),(if (ew x.f t1.aK).2=true then (tE t1 x).fault else 2),(ew x.e t1.aK).1,(ew x.f t1.aK).1,t1.buf⟩:fK),true):=by
         rw [kB vu (by simpa using iB) (by simpa using lq),Oi vo]
         try rw [show (tF (tE t1 x) x).counts.getD x.a.toNat 0=nG from HY]
         try rfl
        exact ⟨k,by omega,_,wH Fx gn,by have:=lB tn; rw [gn] at this; exact this,hs⟩
       ·refine aH (aC (λ zX=>?_) (λ zX=>?_))
        ·have hx1:=agh (.inr zX);refine aE (aA vQ (have hs:=hs.drew;aB eu hs.hb rfl (aA km (aB (v:=.int .i64 x.a) bL hs.p4.hb rfl ?_))));obtain ⟨nG,W5⟩:=gx (t1.counts) (i:=(x.a).toNat) (by omega);refine dR hs.p3 dY (by omega) (by omega) (λ _ aq3=>?_);have HY:t1.counts.getD x.a.toNat 0=nG:=by rw [List.getD_eq_getElem?_getD,W5]; rfl
         refine ga hs.p3 bL aq3 W5 (DM (dR hs.p3 dY (by omega) (by omega) (λ _ Vs=>lJ _ hs.p3 bL Vs (by omega) (λ sU hs=>aE (aA vQ (have hs:=hs.drew;aB eu hs.p1.hb rfl ?_))))));have hsl:(t1.counts.set x.a.toNat (q9 (nG - 1))).length=t1.counts.length:=List.length_set;refine aA km (aB (v:=.int .i64 x.a) bL hs.p4.hb rfl ?_);obtain ⟨aq4,Ok⟩:=gx (((t1.counts).set (x.a).toNat (q9 (nG - 1)))) (i:=(x.a).toNat) (by omega);refine dR hs dY (by omega) (by omega) (λ _ aq5=>?_);have h99:aq4=q9 (nG - 1):=by rw [List.getElem?_set_self (by omega)] at Ok; exact (Option.some.inj Ok).symm
         refine ga hs bL aq5 Ok (dB (aC (λ Ec=>?_) (λ Ec=>?_)))
         ·refine aA kn (aB (v:=.int .i64 x.to) bL hs.p4.hb rfl ?_);intro jB;refine aE (aA kj (aV hs.p1 bL (eI rfl) (rfl) (λ sm hs=>?_)));have hs:=eF.shut (t:=(⟨t1.code,x.to,t1.aK,((t1.counts).set (x.a).toNat (q9 (nG - 1))),(if (ew x.f t1.aK).2=true then (tE t1 x).fault else 2),(ew x.e t1.aK).1,(ew x.f t1.aK).1,t1.buf⟩:fK)) qN hs.p1.p3.p3.p3;have hs:=(hs.p1).drop
          have gn:fI t1=((⟨t1.code,x.to,t1.aK,((t1.counts).set (x.a).toNat (q9 (nG - 1))),(if (ew x.f t1.aK).2=true then (tE t1 x).fault else 2),(ew x.e t1.aK).1,(ew x.f t1.aK).1,t1.buf⟩:fK),true):=by
           rw [kB vu (by simpa using iB) (by simpa using lq),I3 zX (by rw [show (tF (tE t1 x) x).counts.getD x.a.toNat 0=nG from HY]; omega)]
           try rw [show (tF (tE t1 x) x).counts.getD x.a.toNat 0=nG from HY]
           try rfl
          exact ⟨k,by omega,_,wH Fx gn,by have:=lB tn; rw [gn] at this; exact this,hs⟩
         ·intro jB;refine aE (aA kj (aV hs.p1 bL (eI rfl) (rfl) (λ sm hs=>?_)));have hs:=eF.shut (t:=(⟨t1.code,(t1.at_+1),t1.aK,((t1.counts).set (x.a).toNat (q9 (nG - 1))),(if (ew x.f t1.aK).2=true then (tE t1 x).fault else 2),(ew x.e t1.aK).1,(ew x.f t1.aK).1,t1.buf⟩:fK)) qN hs.p1.p3.p3.p3;have hs:=(hs.p1).drop
          have gn:fI t1=((⟨t1.code,(t1.at_+1),t1.aK,((t1.counts).set (x.a).toNat (q9 (nG - 1))),(if (ew x.f t1.aK).2=true then (tE t1 x).fault else 2),(ew x.e t1.aK).1,(ew x.f t1.aK).1,t1.buf⟩:fK),true):=by
           rw [kB vu (by simpa using iB) (by simpa using lq),I4 zX (by rw [show (tF (tE t1 x) x).counts.getD x.a.toNat 0=nG from HY]; omega)]
           try rw [show (tF (tE t1 x) x).counts.getD x.a.toNat 0=nG from HY]
           try rfl
          exact ⟨k,by omega,_,wH Fx gn,by have:=lB tn; rw [gn] at this; exact this,hs⟩
        ·refine aH (aC (λ Bx=>?_) (λ Bx=>?_))
         ·refine aE (aA tN (aB bL hs.hb rfl (aH (aC (λ yR=>?_) (λ yR=>?_)))))
          ·refine aE (aA tM (aV hs bL (eI rfl) (rfl) (λ vm hs=>?_)));have hs:=eF.shut (t:=(⟨t1.code,t1.at_,t1.aK,t1.counts,1,(ew x.e t1.aK).1,(ew x.f t1.aK).1,t1.buf⟩:fK)) qN hs.p3.p3.p3.p3;have hs:=(hs.p1).drop
           have gn:fI t1=((⟨t1.code,t1.at_,t1.aK,t1.counts,1,(ew x.e t1.aK).1,(ew x.f t1.aK).1,t1.buf⟩:fK),false):=by
            rw [kB vu (by simpa using iB) (by simpa using lq),I5 Bx yR]
            try rw [show (tF (tE t1 x) x).counts.getD x.a.toNat 0=nG from HY]
            try rfl
           rw [Au Fx gn];exact ⟨rfl,hs.mut⟩
          ·intro jB;refine aE (aA kj (aV hs bL (eI rfl) (rfl) (λ sm hs=>?_)));have hs:=eF.shut (t:=(⟨t1.code,(t1.at_+1),t1.aK,t1.counts,(if (ew x.f t1.aK).2=true then (tE t1 x).fault else 2),(ew x.e t1.aK).1,(ew x.f t1.aK).1,t1.buf⟩:fK)) qN hs.p3.p3.p3.p3;have hs:=(hs.p1).drop
           have gn:fI t1=((⟨t1.code,(t1.at_+1),t1.aK,t1.counts,(if (ew x.f t1.aK).2=true then (tE t1 x).fault else 2),(ew x.e t1.aK).1,(ew x.f t1.aK).1,t1.buf⟩:fK),true):=by
            rw [kB vu (by simpa using iB) (by simpa using lq),I6 Bx yR]
            try rw [show (tF (tE t1 x) x).counts.getD x.a.toNat 0=nG from HY]
            try rfl
           exact ⟨k,by omega,_,wH Fx gn,by have:=lB tn; rw [gn] at this; exact this,hs⟩
         ·have hs:=eF.shut (t:=(⟨t1.code,t1.at_,t1.aK,t1.counts,(if (ew x.f t1.aK).2=true then (tE t1 x).fault else 2),(ew x.e t1.aK).1,(ew x.f t1.aK).1,t1.buf⟩:fK)) qN hs.p3.p3.p3.p3;have hs:=(hs.p1).drop
          have gn:fI t1=((⟨t1.code,t1.at_,t1.aK,t1.counts,(if (ew x.f t1.aK).2=true then (tE t1 x).fault else 2),(ew x.e t1.aK).1,(ew x.f t1.aK).1,t1.buf⟩:fK),false):=by
           rw [kB vu (by simpa using iB) (by simpa using lq),Oj kK ue su vo zX Bx]
           try rw [show (tF (tE t1 x) x).counts.getD x.a.toNat 0=nG from HY]
           try rfl
          rw [Au Fx gn];exact ⟨rfl,hs.mut⟩
structure gE where
 u:ib
 room:Int
 mem:Mem
 locks:List Int
 l:List fK
 dT:Int
 fault:Int
 mO:Int
structure MA where
 lnv:SV
 fsv:SV
 thv:SV
 rcl:SV
 clv:SV
 q:Nat
 ov:Value
 fv:Value
 lk:Value
 ll:Value
 ps:List Ptr
@[reducible] def jX (a:MA) (m:gE):List Value:=[Flat.val a.lnv,.int .i64 m.u.stays,Flat.val a.fsv,.int .i64 m.u.locks,Flat.val a.thv,.int .i64 m.u.recover.aK,.int .i64 m.u.recover.counts,Flat.val a.rcl,Flat.val a.clv,.int .i64 m.room,.pointer (some ⟨a.q,0,none⟩),a.lk,a.ll,.int .i64 m.dT,.int .i64 m.fault,.int .i64 m.mO]
structure UK (K:World→Prop) (a:MA) (m:gE):Prop where
 ln:∀ w,K w→eJ (λ _=>True) w (Flat.val a.lnv) m.u.lines
 cl:∀ w,K w→DL w (Flat.val a.clv) m.u.cC
 rc:E3 K (Flat.val a.rcl) m.u.recover.l
 mem:∀ w,K w→uq a.ov a.fv m.mem w
abbrev qc (K:World→Prop) (room:Int) (s:Ptr) (t:fK):HP:=eF K s.b room t
def eO (K:World→Prop) (p:Nat) (m:gE):HP:=tW λ a:MA=>fact (UK K a m) (sep (cE p (jX a m)) (sep (fW a.q a.ov a.fv m.mem) (sep (bK a.lk m.locks) (sep (bK a.ll a.ps) (iy (qc K m.room) a.ps m.l)))))
def kC (K:World→Prop) (p:Nat) (m:gE) (i:Nat) (tp:Ptr):HP:=tW λ a:MA=>fact (UK K a m∧a.ps[i]? = some tp∧a.ps.length=m.l.length∧i<m.l.length) (sep (cE p (jX a m)) (sep (fW a.q a.ov a.fv m.mem) (sep (bK a.lk m.locks) (sep (bK a.ll a.ps) (qo (qc K m.room) a.ps m.l i)))))
section
variable {w w' w0:World} {A:Nat→Prop} {R:List HP} {p:Nat} {K:World→Prop} {m:gE} {a:MA} {i:Nat} {tp:Ptr} {t:fK}
theorem Ha {H1 H2 H3 H4 H5:HP} (hs:St w0 A (sep H1 (sep H2 (sep H3 (sep H4 H5)))::R) w):St w0 A (H1::H2::H3::H4::H5::R) w:=by
 have h1:=hs.split
 have h2:=h1.p1.split
 have h3:=h2.p1.split
 have h4:=h3.p1.split
 exact h4.p2.p3.p4
theorem Hb {H1 H2 H3 H4 H5:HP} (hs:St w0 A (H1::H2::H3::H4::H5::R) w):St w0 A (sep H1 (sep H2 (sep H3 (sep H4 H5)))::R) w:=by
 have h4:=St.join (hs.p4.p4)
 have h3:=St.join h4.p3
 have h2:=St.join h3.p2
 exact St.join h2.p1
theorem eO.open (hs:St w0 A (eO K p m::R) w):∃ a,UK K a m∧St w0 A (cE p (jX a m)::fW a.q a.ov a.fv m.mem::bK a.lk m.locks::bK a.ll a.ps::iy (qc K m.room) a.ps m.l::R) w:=by
 obtain ⟨a,hs⟩:=hs.eV; obtain ⟨hu,hs⟩:=hs.oE; exact ⟨a,hu,Ha hs⟩
theorem eO.shut (hu:UK K a m) (hs:St w0 A (cE p (jX a m)::fW a.q a.ov a.fv m.mem::bK a.lk m.locks::bK a.ll a.ps::iy (qc K m.room) a.ps m.l::R) w):St w0 A (eO K p m::R) w:=
 St.eP a (St.qm hu (Hb hs))
theorem kC.open (hs:St w0 A (kC K p m i tp::R) w):∃ a,(UK K a m∧a.ps[i]? = some tp∧a.ps.length=m.l.length∧i<m.l.length)∧St w0 A (cE p (jX a m)::fW a.q a.ov a.fv m.mem::bK a.lk m.locks::bK a.ll a.ps::qo (qc K m.room) a.ps m.l i::R) w:=by
 obtain ⟨a,hs⟩:=hs.eV; obtain ⟨hu,hs⟩:=hs.oE; exact ⟨a,hu,Ha hs⟩
theorem kC.shut (hu:UK K a m∧a.ps[i]? = some tp∧a.ps.length=m.l.length∧i<m.l.length) (hs:St w0 A (cE p (jX a m)::fW a.q a.ov a.fv m.mem::bK a.lk m.locks::bK a.ll a.ps::qo (qc K m.room) a.ps m.l i::R) w):St w0 A (kC K p m i tp::R) w:=
 St.eP a (St.qm hu (Hb hs))
structure aq6 (K:World→Prop) (w:World) (p:Nat) (m:gE) (a:MA):Prop where
 uk:UK K a m
 b:tH w p (jX a m)
 mem:vd w a.q m.mem
 c0:Cell w a.q 0 a.ov
 c1:Cell w a.q 1 a.fv
 lk:eJ (λ _=>True) w a.lk m.locks
 ll:eJ (λ _=>True) w a.ll a.ps
 th:∀ (i:Nat) (s:Ptr) (t:fK),a.ps[i]? = some s→m.l[i]? = some t→Has (eF K s.b m.room t) w
 len:a.ps.length=m.l.length
theorem eO.rd (h:Has (eO K p m) w) (hK:K w):∃ a,aq6 K w p m a:=by
 obtain ⟨F,hs⟩:=h.st
 obtain ⟨a,hu,hs⟩:=eO.open hs
 have hc:Cell w a.q 0 a.ov∧Cell w a.q 1 a.fv:=by
  obtain ⟨lv,kv,pm,h⟩:=fW.open hs.p1; exact ⟨h.hb.cell rfl,h.hb.cell rfl⟩
 exact ⟨a,hu,hs.hb,IX hs.p1 (hu.mem _ hK),hc.1,hc.2,hs.p2.fB,hs.p3.fB,λ i s t h1 h2=>hs.p4.aoF h1 h2 (Φ:=λ w=>Has (eF K s.b m.room t) w) λ h=>⟨_,h⟩,hs.p4.lj⟩
theorem W6 {ps:List Ptr} (hs:St w0 A (iy (qc K m.room) ps m.l::R) w) (hp:ps[i]? = some tp) (ht:m.l[i]? = some t):St w0 A (eF K tp.b m.room t::qo (qc K m.room) ps m.l i::R) w:=hs.focus hp ht
theorem LO (hs:St w0 A (eF K tp.b m.room t::kC K p m i tp::R) w):St w0 A (eO K p {m with l:=m.l.set i t}::R) w:=by
 obtain ⟨a,⟨hu,hp,hl,hi⟩,hs⟩:=kC.open hs.p1
 have h1:St w0 A (qc K m.room tp t::qo (qc K m.room) a.ps m.l i::_) w:=(hs.p4).p5
 have h2:=h1.sj hi hl hp
 have h3:=h2.p4.p4.p4.p4
 exact eO.shut (m:={m with l:=m.l.set i t}) ⟨hu.ln,hu.cl,hu.rc,hu.mem⟩ h3
end
def Cu (m:gE) (t:fK):Bool:=match gS t with
 | none=>false
 | some x=>if t.fault≠0 then true else if x.kind=3∨x.kind=5∨x.kind=6∨x.kind=7 then !decide (m.room≤t.buf.length) else if x.kind=4∨x.kind=8∨x.kind=10 then decide (t.buf.length=0) else if x.kind=9 then decide (t.buf.length=0) && decide (m.locks.getD x.b.toNat 0 = -1) else true
def tq (m:gE) (i:Nat) (t:fK):List et:=(if Cu m t=true then [⟨1,i,0,[]⟩] else [])++(Ak t.buf).map λ k=>⟨2,i,k,[]⟩
def kW (m:gE) (k:Nat):List et:=(List.range k).flatMap λ i=>match m.l[i]? with | some t=>tq m i t | none=>[]
def ft (m:gE):List et:=if m.fault≠0 then [] else kW m m.l.length
def js (m:gE):List et:=if m.fault≠0 then [] else (yh m.mem).map λ c=>⟨3,0,0,c⟩
theorem Ay {m:gE} {k:Nat} {t:fK} (h:m.l[k]? = some t):kW m (k+1)=kW m k++tq m k t:=by
 unfold kW; rw [List.range_succ,List.flatMap_append]; simp [h]
structure qx (m:gE):Prop where
 mem:vG m.mem
 th:∀ t∈m.l,G9 t
 tl:m.l.length≤1000
 lk:(m.locks.length:Int)=m.u.locks
 lkb:∀ t∈m.l,∀ x∈t.code.l,x.kind=9∨x.kind=10→0≤x.b∧x.b<m.u.locks
 lnb:∀ t∈m.l,∀ x∈t.code.l,x.kind=3→0≤x.b∧x.b<m.u.lines.length
 aq7:∀ t∈m.l,∀ x∈t.code.l,x.kind=2∨x.kind=4→0≤x.a∧x.a<t.code.aK
 rm:1≤m.room∧m.room≤16
 st:∀ t∈m.l,∀ x,gS t=some x→t.fault=0→2≤x.kind∧x.kind≤10
 nl:∀ n∈m.u.lines,-1≤n∧n≤1000
theorem Hc (l:List bJ):(Ak l).length≤l.length:=by have:=G3 l l.length; rw [EU l rfl] at this; exact this
theorem C66 (K:World→Prop) (p:Nat) (room:Int) (t:fK) (w:World) (hh:Has (eF K p room t) w) (yA:t.buf.length≤1000):CR 66 [(.pointer (some ⟨p,0,none⟩))] w (λ v w'=>v = .bool (decide (t.buf.length=0))∧Ext w w'):=by
 obtain ⟨bp,gl,rg,cn,⟨ts0,hts⟩,ox,hB,Bw,YD⟩:=eF.rd hh;have W7:=ox.cell (o:=0) rfl;have ct7:=ox.cell (o:=7) rfl;have hs:=St.start w;refine ahD _ _ _ ?_;unfold S66;refine aE (aA mW (cD qW (W7.ext hs.aF) (cZ ah2 hs (C91 bp _ _ _ (hB.ext hs.aF) (by omega)) (λ x7 w1 bY hs=>aJ oO (hs).fB (aH ?_)))));exact ⟨vb (decide_eq_decide.2 (by omega)),hs.drop.aF⟩
theorem C56 (K:World→Prop) (p:Nat) (m:gE) (q:Nat) (t:fK) (w:World) (hm:Has (eO K p m) w) (hw:K w) (uE:∀ w',Ext w w'→K w') (lZ:qx m) (hh:Has (eF K q m.room t) w) (Cv:t∈m.l):CR 56 [(.pointer (some ⟨p,0,none⟩)),(.pointer (some ⟨q,0,none⟩))] w (λ v w'=>v = .bool (Cu m t)∧Ext w w'):=by
 obtain ⟨a,hr⟩:=eO.rd hm hw;have YE:=hr.b.cell (o:=8) rfl;have cm0:=hr.b.cell (o:=0) rfl;have W8:=hr.b.cell (o:=1) rfl;have cm3:=hr.b.cell (o:=3) rfl;have cm9:=hr.b.cell (o:=9) rfl;have BL:=hr.b.cell (o:=10) rfl;have Cw:=hr.b.cell (o:=11) rfl;have xQ:=hr.b.cell (o:=12) rfl;have E4:=hr.b.cell (o:=13) rfl;have yS:=hr.b.cell (o:=14) rfl;have E5:=hr.b.cell (o:=15) rfl;have oF:=lZ.th t Cv;have yA:=oF.bl;obtain ⟨bp,gl,rg,cn,⟨ts0,hts⟩,ox,hB,Bw,YD⟩:=eF.rd hh;have W7:=ox.cell (o:=0) rfl;have ct7:=ox.cell (o:=7) rfl;have hK:∀ w',Ext w w'→K w':=uE;have hs:=St.start w;refine aht _ _ _ _ ?_;unfold S56
 refine eD Y0 (C65 K q m.room t _ (hh.ext hs.aF) (hK _ hs.aF) oF) ?_;rintro v_x9 w1 aq8
 rcases aq8 with ⟨vu,rfl,he⟩ | ⟨x,xv,vu,hxv,rfl,he⟩
 ·have hs:=hs.ext he;refine bE rfl (bE rfl (aN hs mA (λ uf w2 hs=>have hs:=hs.enc (cs':=Flat.enc (⟨0,0,0,⟨none,0,0⟩,⟨none,0,0⟩,0⟩:bU)) rfl;aI (x:=(⟨0,0,0,⟨none,0,0⟩,⟨none,0,0⟩,0⟩:bU)) hs lL rfl rfl (λ w3 hs=>cB (nQ ?_)))));refine ⟨vb ?_,(by first | exact hs.aF | exact hs.drop.aF)⟩;unfold Cu;rw [vu]
 ·have hs:=hs.ext he;have hxm:=qM vu;obtain ⟨ge,gf,rfl,_,_⟩:=hxv _ (hK _ hs.aF);refine bE rfl (bE rfl (aN hs mA (λ uf w2 hs=>have hs:=hs.enc (cs':=Flat.enc (⟨0,0,0,⟨none,0,0⟩,⟨none,0,0⟩,0⟩:bU)) rfl;aI (x:=(⟨x.kind,x.a,x.b,ge,gf,x.to⟩:bU)) hs lL rfl rfl (λ w3 hs=>cB (fP (aE (aA tM (cD bL (ct7.ext hs.aF) (cQ (aC (λ jy=>?_) (λ jy=>?_)))))))))))
  ·refine ⟨vb ?_,(by first | exact hs.aF | exact hs.drop.aF)⟩;unfold Cu;rw [vu];dsimp only;rw [if_pos jy]
  ·refine aA jh (aB (v:=.int .i64 x.kind) bL hs.hb rfl ?_);refine ⟨λ jv w'=>jv = .bool (decide (x.kind=3∨x.kind=5∨x.kind=6∨x.kind=7))∧St w bD [cE uf (Flat.enc (⟨x.kind,x.a,x.b,ge,gf,x.to⟩:bU))] w',?_,?_⟩
   ·refine aH (aC (λ iB=>?_) (λ iB=>?_))
    ·exact ⟨vb (by grind),hs⟩
    ·refine aH (aC (λ fQ=>?_) (λ fQ=>?_))
     ·exact ⟨vb (by grind),hs⟩
     ·refine aH (aC (λ qq=>?_) (λ qq=>?_))
      ·exact ⟨vb (by grind),hs⟩
      ·refine aH ?_;exact ⟨vb (by grind),hs⟩
   ·rintro _ w4 ⟨rfl,hs⟩ fy;refine aX (λ iO=>?_) (λ iO=>?_)
    ·refine aE (aA mW (cD qW (W7.ext hs.aF) (aZ aeD hs (C123 bp _ _ _ (hB.ext hs.aF)) (λ w5 he hs=>cB ?_))));refine ⟨vb ?_,(by first | exact hs.aF | exact hs.drop.aF)⟩;unfold Cu;rw [vu];dsimp only;rw [if_neg (by simpa using jy),if_pos (by simpa using iO)]
    ·refine ⟨λ jv w'=>jv = .bool (decide (x.kind=4∨x.kind=8∨x.kind=10))∧St w bD [cE uf (Flat.enc (⟨x.kind,x.a,x.b,ge,gf,x.to⟩:bU))] w',?_,?_⟩
     ·refine aH (aC (λ jx=>?_) (λ jx=>?_))
      ·exact ⟨vb (by grind),hs⟩
      ·refine aH (aC (λ lq=>?_) (λ lq=>?_))
       ·exact ⟨vb (by grind),hs⟩
       ·refine aH ?_;exact ⟨vb (by grind),hs⟩
     ·rintro _ w6 ⟨rfl,hs⟩ jB;refine aX (λ iC=>?_) (λ iC=>?_)
      ·refine aZ ahO hs (C66 K q m.room t _ (hh.ext hs.aF) yA) (λ w7 he hs=>?_);refine ⟨vb ?_,(by first | exact hs.aF | exact hs.drop.aF)⟩;unfold Cu;rw [vu];dsimp only;rw [if_neg (by simpa using jy),if_neg (by simpa using iO),if_pos (by simpa using iC)]
      ·refine aH (aC (λ j0=>?_) (λ j0=>?_))
       ·have akh:=lZ.lkb t Cv x hxm.1 (.inl j0);have ME:=lZ.lk;refine ⟨λ jv w'=>jv = .bool (decide (t.buf.length=0) && decide (m.locks.getD x.b.toNat 0 = -1))∧St w bD [cE uf (Flat.enc (⟨x.kind,x.a,x.b,ge,gf,x.to⟩:bU))] w',?_,?_⟩
        ·have hs:=hs.drew;refine aZ ahO hs (C66 K q m.room t _ (hh.ext hs.aF) yA) (λ w8 he hs=>aX (λ ub=>?_) (λ ub=>?_))
         ·refine aE (aA nS (cD eu (Cw.ext hs.aF) (aA eX (aB (v:=.int .i64 x.b) bL hs.hb rfl ?_))));obtain ⟨apz,wv⟩:=gx (m.locks) (i:=(x.b).toNat) (by omega);refine aQ dY hr.lk (by omega) wv (λ _ Vo=>aD bL (Vo.ext hs.aF) (aH ?_));exact ⟨vb (by rw [ub,List.getD_eq_getElem?_getD,wv]; rfl),hs⟩
         ·exact ⟨vb (by rw [ub]; rfl),hs⟩
        ·rintro _ w9 ⟨rfl,hs⟩ oS;refine ⟨vb ?_,(by first | exact hs.aF | exact hs.drop.aF)⟩;unfold Cu;rw [vu];dsimp only;rw [if_neg (by simpa using jy),if_neg (by simpa using iO),if_neg (by simpa using iC),if_pos j0]
       ·refine ⟨vb ?_,(by first | exact hs.aF | exact hs.drop.aF)⟩;unfold Cu;rw [vu];dsimp only;rw [if_neg (by simpa using jy),if_neg (by simpa using iO),if_neg (by simpa using iC),if_neg j0]
end Go.Proofs.YtnjcingfdhjfkaaGreat
