/-
  What the proof needs, part 5.
-/
import Derived.Test.YtnjcingfdhjfkaaGreatVsM4
set_option linter.all false
namespace Go.Proofs.YtnjcingfdhjfkaaGreat
open Go.Fw
theorem Wi {c:fm} {cells lines locks:Int} (h:∀ j,j<c.l.length→uZ c cells lines locks j=false):afn c.l:=by
 intro i x hx hk
 have:=h i (List.getElem?_eq_some_iff.1 hx).1
 rw [ue hx] at this
 simp only [Bool.or_eq_false_iff,Bool.not_eq_false'] at this
 exact V6 hk this.2
theorem EF {l:List Int} {k:Nat} {e:Int} (h:l[k]? = some e):lq l (k+1)=e+1:=by
 unfold lq; rw [if_neg (by omega),Nat.add_sub_cancel,List.getD_eq_getElem?_getD,h]; rfl
set_option maxHeartbeats 4000000 in
theorem C113 (c:fm) (cv:cK) (cells lines locks:Int) (w:World) (hc:cA.dr w cv c) (hz:CZ c):CR 113 [Flat.val cv,.int .i64 cells,.int .i64 lines,.int .i64 locks] w (λ v w'=>v = .bool (lj c cells lines locks)∧Ext w w'):=by
 obtain ⟨ug,rfl,EG⟩:=hc;have hzl:=hz.l;have hs:=St.start w;refine YZ _ _ _ _ _ _ ?_;unfold S113;refine dE hs (λ FN w1 hs=>?_);refine ⟨λ jv w'=>jv = .bool (u4 c)∧St w bD [cD FN (Flat.enc (⟨(c).aK,(c).counts,ug⟩:cK))] w',?_,?_⟩
 ·refine aA wS (aB (v:=.int .i64 ((c).aK)) bL hs.hb rfl (aR (aC (λ fu=>?_) (λ fu=>?_))))
  ·exact ⟨vb (by unfold u4; grind),hs⟩
  ·refine aA wS (aB (v:=.int .i64 ((c).aK)) bL hs.hb rfl (cZ (aC (λ iO=>?_) (λ iO=>?_))))
   ·exact ⟨vb (by unfold u4; grind),hs⟩
   ·refine aA Cw (aB (v:=.int .i64 ((c).counts)) bL hs.hb rfl (aR (aC (λ Lq=>?_) (λ Lq=>?_))))
    ·exact ⟨vb (by unfold u4; grind),hs⟩
    ·refine aA Cw (aB (v:=.int .i64 ((c).counts)) bL hs.hb rfl (cZ ?_));exact ⟨vb (by unfold u4; grind),hs⟩
 ·rintro _ w2 ⟨rfl,hs⟩ fy;refine aX (λ iC=>?_) (λ iC=>?_)
  ·have hs:=(hs).drop;refine ⟨vb ?_,hs.aF⟩;unfold lj;rw [iC]; rfl
  ·refine aA mj (aB uI hs.hb rfl ?_);obtain ⟨aqa,Wj,afy⟩:=(EG).open;have hn106:=afy.1;refine aJ kK (Wj.ext hs.aF) ?_;refine ⟨λ m x w1=>∃ k:Nat,x = .int .i64 (k:Int)∧m=c.l.length - k∧k≤c.l.length∧(∀ j,j<k→uZ c cells lines locks j=false)∧St w bD [cD FN (Flat.enc (⟨(c).aK,(c).counts,ug⟩:cK))] w1,⟨_,0,rfl,rfl,Nat.zero_le _,by simp,hs⟩,?_⟩;rintro m _ w3 ⟨k,rfl,rfl,hk,fS,hs⟩ jw;refine aR (aC (λ sg=>?_) (λ sg=>?_))
   ·obtain ⟨afz,IK⟩:=gx aqa (i:=((k:Int)).toNat) (by omega);obtain ⟨cU,u5⟩:=gx ((c).l) (i:=((k:Int)).toNat) (by omega);obtain ⟨qx,qy,rfl,Qw,Qx⟩:=afy.2 _ _ _ IK u5;refine aQ kK Wj (by omega) IK (λ _ DV=>aD lG (DV.ext hs.aF) (aN hs mn (λ ic w4 hs=>have hs:=hs.enc (cs':=Flat.enc (⟨0,0,0,⟨none,0,0⟩,⟨none,0,0⟩,0⟩:bU)) rfl;aI (x:=(⟨(cU).kind,(cU).a,(cU).b,qx,qy,(cU).to⟩:bU)) hs lG rfl rfl (λ w5 hs=>?_))));refine ⟨λ jv w'=>jv = .bool (decide (cU.kind<1) || decide (16≤cU.kind))∧St w bD [cD ic (Flat.enc (⟨(cU).kind,(cU).a,(cU).b,qx,qy,(cU).to⟩:bU)),cD FN (Flat.enc (⟨(c).aK,(c).counts,ug⟩:cK))] w',?_,?_⟩
    ·refine aA je (aB (v:=.int .i64 ((cU).kind)) bL hs.hb rfl (aR (aC (λ kG=>?_) (λ kG=>?_))))
     ·exact ⟨vb (by grind),hs⟩
     ·refine aA je (aB (v:=.int .i64 ((cU).kind)) bL hs.hb rfl (dG ?_));exact ⟨vb (by grind),hs⟩
    ·rintro _ w6 ⟨rfl,hs⟩ oN;refine aX (λ oe=>?_) (λ oe=>?_)
     ·have hs:=((hs.drop)).drop;refine ⟨vb ?_,hs.aF⟩;unfold lj;rw [rh (f:=uZ c cells lines locks) (j:=k) (by omega) (by rw [ue (i:=k) u5,Wa (by grind)]; rfl)]; simp
     ·have mI:1≤cU.kind∧cU.kind≤15:=by grind
      refine aA kh (have hs:=hs.drew;aB (v:=.int .i64 ((cU).a)) bL hs.hb rfl (aA wS (aB (v:=.int .i64 ((c).aK)) bL hs.p1.hb rfl (ga (first:=[]) (cap:=[.pointer (some ⟨ic,0,none⟩)]) rS (C176 cU.kind 114 ic (decide (cU.kind=1∨cU.kind=2∨cU.kind=4)) _ ((hs).hb.cell rfl) mI ((ot mI).1)) ?_))));rintro _ w7 ⟨rfl,he⟩;have hs:=hs.ext he;refine ⟨aG bL (hs.hb.cell rfl),?_⟩;refine ⟨aG bL (hs.p1.hb.cell rfl),?_⟩;refine aZ JV hs (C179 _ _ _ _) (λ w8 he hs=>?_);refine ⟨λ jv w'=>jv = .bool (aM cU c.aK c.counts)∧St w bD [cD ic (Flat.enc (⟨(cU).kind,(cU).a,(cU).b,qx,qy,(cU).to⟩:bU)),cD FN (Flat.enc (⟨(c).aK,(c).counts,ug⟩:cK))] w',?_,?_⟩
      ·refine ga (first:=[]) (cap:=[.pointer (some ⟨ic,0,none⟩)]) rS (C176 cU.kind 107 ic (decide (cU.kind=13∨cU.kind=14)) _ ((hs).hb.cell rfl) mI ((ot mI).2.1)) ?_;rintro _ w9 ⟨rfl,he⟩;have hs:=hs.ext he;refine aX (λ Gv=>?_) (λ Gv=>?_)
       ·refine aA kh (aB (v:=.int .i64 ((cU).a)) bL hs.hb rfl (aA Cw (aB (v:=.int .i64 ((c).counts)) bL hs.p1.hb rfl (aZ JV hs (C179 true _ _ _) (λ pQ he hs=>?_)))));exact ⟨vb (by unfold aM; grind),hs⟩
       ·exact ⟨vb (by unfold aM; grind),hs⟩
      ·rintro _ sP ⟨rfl,hs⟩ GF;refine aA eV (aB (v:=.int .i64 ((cU).b)) bL hs.hb rfl (aH ?_));refine ⟨λ jv w'=>jv = .bool (bM cU cells lines locks)∧St w bD [cD ic (Flat.enc (⟨(cU).kind,(cU).a,(cU).b,qx,qy,(cU).to⟩:bU)),cD FN (Flat.enc (⟨(c).aK,(c).counts,ug⟩:cK))] w',?_,?_⟩
       ·refine ga (first:=[]) (cap:=[.pointer (some ⟨ic,0,none⟩)]) rS (C176 cU.kind 99 ic (decide (cU.kind=2∨cU.kind=3∨cU.kind=4)) _ ((hs).hb.cell rfl) mI ((ot mI).2.2.1)) ?_;rintro _ vi ⟨rfl,he⟩;have hs:=hs.ext he;refine aX (λ vk=>?_) (λ vk=>?_)
        ·refine aA eV (aB (v:=.int .i64 ((cU).b)) bL hs.hb rfl (aZ JV hs (C179 true _ _ _) (λ vj he hs=>?_)));exact ⟨vb (by unfold bM; grind),hs⟩
        ·refine ga (first:=[]) (cap:=[.pointer (some ⟨ic,0,none⟩)]) rS (C176 cU.kind 108 ic (decide (cU.kind=5∨cU.kind=6)) _ ((hs).hb.cell rfl) mI ((ot mI).2.2.2.1)) ?_;rintro _ sd ⟨rfl,he⟩;have hs:=hs.ext he;refine aX (λ VL=>?_) (λ VL=>?_)
         ·refine aA eV (aB (v:=.int .i64 ((cU).b)) bL hs.hb rfl (aZ JV hs (C179 true _ _ _) (λ vW he hs=>?_)));exact ⟨vb (by unfold bM; grind),hs⟩
         ·refine ga (first:=[]) (cap:=[.pointer (some ⟨ic,0,none⟩)]) rS (C176 cU.kind 109 ic (decide (cU.kind=9∨cU.kind=10)) _ ((hs).hb.cell rfl) mI ((ot mI).2.2.2.2.1)) ?_;rintro _ yM ⟨rfl,he⟩;have hs:=hs.ext he;refine aX (λ aqb=>?_) (λ aqb=>?_)
          ·refine aA eV (aB (v:=.int .i64 ((cU).b)) bL hs.hb rfl (aZ JV hs (C179 true _ _ _) (λ Cd he hs=>?_)));exact ⟨vb (by unfold bM; grind),hs⟩
          ·refine ga (first:=[]) (cap:=[.pointer (some ⟨ic,0,none⟩)]) rS (C176 cU.kind 110 ic (decide (cU.kind=13)) _ ((hs).hb.cell rfl) mI ((ot mI).2.2.2.2.2.1)) ?_;rintro _ Il ⟨rfl,he⟩;have hs:=hs.ext he;refine aX (λ Wk=>?_) (λ Wk=>?_)
           ·refine aA eV (aB (v:=.int .i64 ((cU).b)) bL hs.hb rfl (dG (aC (λ Wl=>?_) (λ Wl=>?_))))
            ·refine aA eV (aB (v:=.int .i64 ((cU).b)) bL hs.hb rfl (j4 ?_));exact ⟨vb (by unfold bM; grind),hs⟩
            ·exact ⟨vb (by unfold bM; grind),hs⟩
           ·exact ⟨vb (by unfold bM; grind),hs⟩
       ·rintro _ Jo ⟨rfl,hs⟩ R0;refine ⟨λ jv w'=>jv = .bool (if so cU.kind=true then eK cU.e c.aK else !decide (0<(cU.e.length:Int)))∧St w bD [cD ic (Flat.enc (⟨(cU).kind,(cU).a,(cU).b,qx,qy,(cU).to⟩:bU)),cD FN (Flat.enc (⟨(c).aK,(c).counts,ug⟩:cK))] w',?_,?_⟩
        ·refine ga (first:=[]) (cap:=[.pointer (some ⟨ic,0,none⟩)]) rS (C176 cU.kind 101 ic (so cU.kind) _ ((hs).hb.cell rfl) mI ((ot mI).2.2.2.2.2.2.1)) ?_;rintro _ KA ⟨rfl,he⟩;have hs:=hs.ext he;refine aX (λ ajs=>?_) (λ ajs=>?_)
         ·refine aA tJ (aB xA hs.hb rfl ?_);have afA:=DL.flat (Qw);refine aA wS (aB (v:=.int .i64 ((c).aK)) bL hs.p1.hb rfl (aZ Pd hs (C116 _ _ _ _ (afA.ext hs.aF) (by have:=hz.ef _ (List.mem_of_getElem? u5); omega)) (λ Mx he hs=>aX (λ NZ=>?_) (λ NZ=>?_))))
          ·exact ⟨vb (by grind),hs⟩
          ·refine ga (first:=[]) (cap:=[.pointer (some ⟨ic,0,none⟩)]) rS (C176 cU.kind 101 ic (so cU.kind) _ ((hs).hb.cell rfl) mI ((ot mI).2.2.2.2.2.2.1)) ?_;rintro _ Qp ⟨rfl,he⟩;have hs:=hs.ext he;refine bY (aX (λ ajt=>?_) (λ ajt=>?_))
           ·refine aA tJ (aB xA hs.hb rfl (aJ vw (afA.ext hs.aF) (aH ?_)));exact ⟨vb (by grind),hs⟩
           ·exact ⟨vb (by grind),hs⟩
         ·refine ga (first:=[]) (cap:=[.pointer (some ⟨ic,0,none⟩)]) rS (C176 cU.kind 101 ic (so cU.kind) _ ((hs).hb.cell rfl) mI ((ot mI).2.2.2.2.2.2.1)) ?_;rintro _ Tn ⟨rfl,he⟩;have hs:=hs.ext he;refine bY (aX (λ Wm=>?_) (λ Wm=>?_))
          ·refine aA tJ (aB xA hs.hb rfl ?_);have aqc:=DL.flat (Qw);refine aJ vw (aqc.ext hs.aF) (aH ?_);exact ⟨vb (by grind),hs⟩
          ·exact ⟨vb (by grind),hs⟩
        ·rintro _ VF ⟨rfl,hs⟩ dd6;refine ⟨λ jv w'=>jv = .bool (if cU.kind=4 then eK cU.f c.aK else !decide (0<(cU.f.length:Int)))∧St w bD [cD ic (Flat.enc (⟨(cU).kind,(cU).a,(cU).b,qx,qy,(cU).to⟩:bU)),cD FN (Flat.enc (⟨(c).aK,(c).counts,ug⟩:cK))] w',?_,?_⟩
         ·refine ga (first:=[]) (cap:=[.pointer (some ⟨ic,0,none⟩)]) rS (C176 cU.kind 102 ic (decide (cU.kind=4)) _ ((hs).hb.cell rfl) mI ((ot mI).2.2.2.2.2.2.2.1)) ?_;rintro _ R7 ⟨rfl,he⟩;have hs:=hs.ext he;refine aX (λ aju=>?_) (λ aju=>?_)
          ·refine aA tK (aB xA hs.hb rfl ?_);have afB:=DL.flat (Qx);refine aA wS (aB (v:=.int .i64 ((c).aK)) bL hs.p1.hb rfl (aZ Pd hs (C116 _ _ _ _ (afB.ext hs.aF) (by have:=hz.ef _ (List.mem_of_getElem? u5); omega)) (λ w26 he hs=>aX (λ ajv=>?_) (λ ajv=>?_))))
           ·exact ⟨vb (by grind),hs⟩
           ·refine ga (first:=[]) (cap:=[.pointer (some ⟨ic,0,none⟩)]) rS (C176 cU.kind 102 ic (decide (cU.kind=4)) _ ((hs).hb.cell rfl) mI ((ot mI).2.2.2.2.2.2.2.1)) ?_;rintro _ w27 ⟨rfl,he⟩;have hs:=hs.ext he;refine bY (aX (λ EH=>?_) (λ EH=>?_))
            ·refine aA tK (aB xA hs.hb rfl (aJ vw (afB.ext hs.aF) (aH ?_)));exact ⟨vb (by grind),hs⟩
            ·exact ⟨vb (by grind),hs⟩
          ·refine ga (first:=[]) (cap:=[.pointer (some ⟨ic,0,none⟩)]) rS (C176 cU.kind 102 ic (decide (cU.kind=4)) _ ((hs).hb.cell rfl) mI ((ot mI).2.2.2.2.2.2.2.1)) ?_;rintro _ w28 ⟨rfl,he⟩;have hs:=hs.ext he;refine bY (aX (λ Wn=>?_) (λ Wn=>?_))
           ·refine aA tK (aB xA hs.hb rfl ?_);have aqd:=DL.flat (Qx);refine aJ vw (aqd.ext hs.aF) (aH ?_);exact ⟨vb (by grind),hs⟩
           ·exact ⟨vb (by grind),hs⟩
         ·rintro _ w29 ⟨rfl,hs⟩ dd7;refine aA ki (aB (v:=.int .i64 ((cU).to)) bL hs.hb rfl (aH ?_));refine ⟨λ jv w'=>jv = .bool (IG c.l k cU)∧St w bD [cD ic (Flat.enc (⟨(cU).kind,(cU).a,(cU).b,qx,qy,(cU).to⟩:bU)),cD FN (Flat.enc (⟨(c).aK,(c).counts,ug⟩:cK))] w',?_,?_⟩
          ·refine ⟨λ jv w'=>jv = .bool (decide (cU.kind=14))∧St w bD [cD ic (Flat.enc (⟨(cU).kind,(cU).a,(cU).b,qx,qy,(cU).to⟩:bU)),cD FN (Flat.enc (⟨(c).aK,(c).counts,ug⟩:cK))] w',?_,?_⟩
           ·refine ga (first:=[]) (cap:=[.pointer (some ⟨ic,0,none⟩)]) rS (C176 cU.kind 116 ic (decide (cU.kind=11∨cU.kind=12∨cU.kind=14)) _ ((hs).hb.cell rfl) mI ((ot mI).2.2.2.2.2.2.2.2)) ?_;rintro _ w30 ⟨rfl,he⟩;have hs:=hs.ext he;refine aX (λ ajw=>?_) (λ ajw=>?_)
            ·refine aA je (aB (v:=.int .i64 ((cU).kind)) bL hs.hb rfl (aH ?_));exact ⟨vb (by grind),hs⟩
            ·exact ⟨vb (by grind),hs⟩
           ·rintro _ w31 ⟨rfl,hs⟩ dd8;refine aX (λ ajx=>?_) (λ ajx=>?_)
            ·refine aA mj (aB uI hs.p1.hb rfl (aZ amZ hs (C180 _ _ _ _ _ (EG.ext hs.aF) (by omega) u5) (λ w32 he hs=>?_)));exact ⟨vb (by unfold IG; grind),hs⟩
            ·refine ga (first:=[]) (cap:=[.pointer (some ⟨ic,0,none⟩)]) rS (C176 cU.kind 116 ic (decide (cU.kind=11∨cU.kind=12∨cU.kind=14)) _ ((hs).hb.cell rfl) mI ((ot mI).2.2.2.2.2.2.2.2)) ?_;rintro _ w33 ⟨rfl,he⟩;have hs:=hs.ext he;refine aX (λ ajy=>?_) (λ ajy=>?_)
             ·refine aA ki (aB (v:=.int .i64 ((cU).to)) bL hs.hb rfl (cZ (aC (λ ajz=>?_) (λ ajz=>?_))))
              ·refine aA ki (aB (v:=.int .i64 ((cU).to)) bL hs.hb rfl (aA mj (aB uI hs.p1.hb rfl (aJ kK (Wj.ext hs.aF) (j4 ?_)))));exact ⟨vb (by unfold IG; grind),hs⟩
              ·exact ⟨vb (by unfold IG; grind),hs⟩
             ·exact ⟨vb (by unfold IG; grind),hs⟩
          ·rintro _ w34 ⟨rfl,hs⟩ dd9;refine ⟨λ jv w'=>jv = .bool (!uY cU c cells lines locks || !IG c.l k cU)∧St w bD [cD ic (Flat.enc (⟨(cU).kind,(cU).a,(cU).b,qx,qy,(cU).to⟩:bU)),cD FN (Flat.enc (⟨(c).aK,(c).counts,ug⟩:cK))] w',?_,?_⟩
           ·refine bY (aX (λ ajA=>?_) (λ ajA=>?_))
            ·exact ⟨vb (by rw [uf mI]; grind),hs⟩
            ·refine bY (aX (λ ajB=>?_) (λ ajB=>?_))
             ·exact ⟨vb (by rw [uf mI]; grind),hs⟩
             ·refine bY (aX (λ ajC=>?_) (λ ajC=>?_))
              ·exact ⟨vb (by rw [uf mI]; grind),hs⟩
              ·refine bY (aX (λ ajD=>?_) (λ ajD=>?_))
               ·exact ⟨vb (by rw [uf mI]; grind),hs⟩
               ·refine bY ?_;exact ⟨vb (by rw [uf mI]; grind),hs⟩
           ·rintro _ w35 ⟨rfl,hs⟩ dd10;refine aX (λ N3=>?_) (λ N3=>?_)
            ·have hs:=((hs.drop)).drop;refine ⟨vb ?_,hs.aF⟩;unfold lj;rw [rh (f:=uZ c cells lines locks) (j:=k) (by omega) (by rw [ue (i:=k) u5]; exact N3)]; simp
            ·refine aO (by omega) ?_;have hs:=(hs).drop;exact ⟨_,by omega,k+1,rfl,rfl,by omega,zO fS (by rw [ue (i:=k) u5]; exact N3),hs⟩
   ·refine aA mj (aB uI hs.hb rfl (aZ am0 hs (C181 _ _ _ (EG.ext hs.aF) (by omega) (Wi (cells:=cells) (lines:=lines) (locks:=locks) (λ j hj=>fS j (by omega)))) (λ w36 he hs=>?_)));have hs:=(hs).drop;refine ⟨vb ?_,hs.aF⟩;unfold lj;rw [iC,m6 (f:=uZ c cells lines locks) (λ j hj=>fS j (by omega))]; simp
theorem C112 (c:fm) (cv:cK) (u:im) (uv:dL) (b1:Nat) (w:World) (hc:cA.dr w cv c) (hA:At (λ _=>True) w (.pointer (some ⟨b1,0,none⟩)) uv) (hu:cA.dr w uv u) (hz:CZ c) (hzu:UZ u) (hb:∀ n∈u.lines,-1≤n∧n≤(u.lines.length:Int)):CR 112 [Flat.val cv,.pointer (some ⟨b1,0,none⟩)] w (λ v w'=>v = .bool (!lj c u.lines.length (gp u) u.locks)∧Ext w w'):=by
 obtain ⟨ug,rfl,EG⟩:=hc;obtain ⟨iD,gG,eW,sr,fh,rfl,iE,jl,iY,jL,kR⟩:=hu;obtain ⟨dJ,rfl,ij⟩:=jL;have hs:=St.start w;refine YY _ _ _ _ ?_;unfold S112;refine dE hs (λ b_c2 w1 hs=>have hs:=hs.drew;aD pS hs.At (bP iD ml hA rfl rfl (λ _ Sc=>aD en (Sc.ext hs.aF) ?_)));have aqe:=DL.flat (iE);refine aJ ee (aqe.ext hs.aF) (aD tD (hA.ext hs.aF) (bP (u).locks Cx hA rfl rfl (λ _ qn=>aD bL (qn.ext hs.aF) (aZ amD hs (C114 u _ _ ⟨iD,gG,eW,(⟨((u).recover).aK,((u).recover).counts,dJ⟩:cK),fh,rfl,(iE.ext hs.aF),(jl.ext hs.aF),(iY.ext hs.aF),⟨dJ,rfl,(ij.ext hs.aF)⟩,(kR.ext hs.aF)⟩ hzu hb) (λ w2 he hs=>?_)))))
 refine ⟨fP pS hs.At,?_⟩;refine ⟨fP en (Sc.ext hs.aF),?_⟩;refine ⟨fP bL (qn.ext hs.aF),?_⟩;refine aZ amC hs (C113 c _ _ _ _ _ ⟨ug,rfl,(EG.ext hs.aF)⟩ hz) (λ w3 he hs=>bY ?_);exact ⟨rfl,hs.drop.aF⟩
set_option maxHeartbeats 4000000 in
theorem C51 (u:im) (uv:dL) (w:World) (hu:cA.dr w uv u) (hz:UZ u):CR 51 [Flat.val uv] w (λ v w'=>v = .bool (nt u)∧Ext w w'):=by
 have hu0:=hu;obtain ⟨iD,gG,eW,sr,fh,rfl,iE,jl,iY,jL,kR⟩:=hu;obtain ⟨dJ,rfl,ij⟩:=jL;have hs:=St.start w;refine ag2 _ _ _ ?_;unfold S51;refine dE hs (λ xI w1 hs=>?_);refine ⟨λ jv w'=>jv = .bool (kQ u)∧St w bD [cD xI (Flat.enc (⟨iD,(u).stays,gG,(u).locks,eW,(⟨((u).recover).aK,((u).recover).counts,dJ⟩:cK),fh⟩:dL))] w',?_,?_⟩
 ·refine aA ml (aB en hs.hb rfl ?_);have Wo:=DL.flat (iE);refine aJ ee (Wo.ext hs.aF) (cZ (aC (λ kF=>?_) (λ kF=>?_)))
  ·exact ⟨vb (by unfold kQ; grind),hs⟩
  ·refine aA o9 (aB (v:=.int .i64 ((u).stays)) bL hs.hb rfl (aR (aC (λ lZ=>?_) (λ lZ=>?_))))
   ·exact ⟨vb (by unfold kQ; grind),hs⟩
   ·refine aA o9 (aB (v:=.int .i64 ((u).stays)) bL hs.hb rfl (aA ml (aB en hs.hb rfl (aJ ee (Wo.ext hs.aF) (cZ (aC (λ fR=>?_) (λ fR=>?_)))))))
    ·exact ⟨vb (by unfold kQ; grind),hs⟩
    ·refine aA wT (aB en hs.hb rfl ?_);have aqf:=DL.flat (jl);refine aJ ee (aqf.ext hs.aF) (aA ml (aB en hs.hb rfl (aJ ee (Wo.ext hs.aF) (cS (aC (λ iC=>?_) (λ iC=>?_))))))
     ·exact ⟨vb (by unfold kQ; grind),hs⟩
     ·refine aA Cx (aB (v:=.int .i64 ((u).locks)) bL hs.hb rfl (aR (aC (λ sg=>?_) (λ sg=>?_))))
      ·exact ⟨vb (by unfold kQ; grind),hs⟩
      ·refine aA Cx (aB (v:=.int .i64 ((u).locks)) bL hs.hb rfl (cZ (aC (λ pJ=>?_) (λ pJ=>?_))))
       ·exact ⟨vb (by unfold kQ; grind),hs⟩
       ·refine aA rV (aB Fz hs.hb rfl ?_);obtain ⟨ts114,afC,aqg⟩:=(iY).open;have hn114:=aqg.1;refine aJ AY (afC.ext hs.aF) (aR (aC (λ oe=>?_) (λ oe=>?_)))
        ·exact ⟨vb (by unfold kQ; grind),hs⟩
        ·refine aA rV (aB Fz hs.hb rfl (aJ AY (afC.ext hs.aF) (cZ ?_)));exact ⟨vb (by unfold kQ; grind),hs⟩
 ·rintro _ w2 ⟨rfl,hs⟩ fy;refine aX (λ GG=>?_) (λ GG=>?_)
  ·have hs:=(hs).drop;refine ⟨vb ?_,hs.aF⟩;unfold nt;rw [GG]; rfl
  ·obtain ⟨Ih,hb2,hb3,hb4,hb5,hb6,hb7,hb8⟩:=NW GG;have hzc:=hz.cC;have KQ:=hz.threads;have hzf:=hz.dC;refine aA ml (aB en hs.hb rfl ?_);have afE:=DL.flat (iE);refine aJ ee (afE.ext hs.aF) ?_;refine ⟨λ m y x w1=>∃ (k:Nat) (last:Int),y = .int .i64 last∧x = .int .i64 (k:Int)∧m=u.lines.length - k∧k≤u.lines.length∧last=lq u.lines k - 1∧(∀ j,j<k→j6 u j=false)∧St w bD [cD xI (Flat.enc (⟨iD,(u).stays,gG,(u).locks,eW,(⟨((u).recover).aK,((u).recover).counts,dJ⟩:cK),fh⟩:dL))] w1,⟨_,0,-1,rfl,rfl,rfl,Nat.zero_le _,rfl,by simp,hs⟩,?_⟩
   rintro m _ _ w3 ⟨k,last,rfl,rfl,rfl,hk,afF,acV,hs⟩ jw;refine aR (aC (λ sj=>?_) (λ sj=>?_))
   ·obtain ⟨GJ,wq⟩:=gx ((u).lines) (i:=((k:Int)).toNat) (by omega);refine aQ ee afE (by omega) wq (λ _ D7=>?_)
    have hwb : -1≤last∧last≤(k:Int):=by
     by_cases h0:k=0
     ·subst h0; rw [afF]; unfold lq; simp
     ·obtain ⟨m,hm⟩:∃ m,u.lines[k - 1]? = some m:=⟨_,List.getElem?_eq_getElem (by omega)⟩;have h1:=ED acV (k - 1) m (by omega) hm;have h2:=EF hm;rw [show k - 1+1=k from by omega] at h2;omega
    refine aD bL (D7.ext hs.aF) ?_;refine ⟨λ jv w'=>jv = .bool (decide (0<(k:Int)) && decide ((k:Int)<u.stays) && decide (GJ=last))∧St w bD [cD xI (Flat.enc (⟨iD,(u).stays,gG,(u).locks,eW,(⟨((u).recover).aK,((u).recover).counts,dJ⟩:cK),fh⟩:dL))] w',?_,?_⟩
    ·refine cZ (aC (λ oh=>?_) (λ oh=>?_))
     ·refine aA o9 (aB (v:=.int .i64 ((u).stays)) bL hs.hb rfl (aR (aC (λ aqh=>?_) (λ aqh=>?_))))
      ·refine aH ?_;exact ⟨vb (by grind),hs⟩
      ·exact ⟨vb (by grind),hs⟩
     ·exact ⟨vb (by grind),hs⟩
    ·rintro _ w4 ⟨rfl,hs⟩ oN;refine ⟨λ jv w'=>jv = .bool (j6 u k)∧St w bD [cD xI (Flat.enc (⟨iD,(u).stays,gG,(u).locks,eW,(⟨((u).recover).aK,((u).recover).counts,dJ⟩:cK),fh⟩:dL))] w',?_,?_⟩
     ·refine bY (aX (λ GK=>?_) (λ GK=>?_))
      ·refine aO (by omega) (cS ?_);exact ⟨vb (by rw [GP (k:=k) wq]; grind),hs⟩
      ·exact ⟨vb (by rw [GP (k:=k) wq]; grind),hs⟩
     ·rintro _ w5 ⟨rfl,hs⟩ GF;refine aX (λ Wp=>?_) (λ Wp=>?_)
      ·have hs:=(hs).drop;refine ⟨vb ?_,hs.aF⟩;unfold nt;rw [rh (f:=j6 u) (j:=k) (by omega) Wp]; simp
      ·refine aO (by omega) ?_;exact ⟨_,by omega,k+1,GJ,rfl,rfl,rfl,by omega,by rw [EF (k:=k) wq]; omega,zO acV Wp,hs⟩
   ·have hL:(List.range u.lines.length).any (j6 u)=false:=m6 (λ j hj=>acV j (by omega));have hsm:=Lo (u:=u) (λ j hj=>acV j (by omega));refine ⟨λ jv w'=>jv = .bool ((!u.dC.any lr) && (!u.threads.any (λ c=>!lj c u.lines.length (gp u) u.locks)) && lj u.recover u.lines.length (gp u) u.locks && (!u.cC.any (λ l=>!eK l u.stays)))∧St w bD [cD xI (Flat.enc (⟨iD,(u).stays,gG,(u).locks,eW,(⟨((u).recover).aK,((u).recover).counts,dJ⟩:cK),fh⟩:dL))] w',?_,?_⟩
    ·refine aA wT (aB en hs.hb rfl ?_);have aqi:=DL.flat (jl);have hf1:Ce w3 (.func (.func 111) #[] #[]) lr:=⟨111,[],[],rfl,amB,λ x w1 _=>C111 x w1⟩;refine aZ amF hs (C117 _ _ _ lr _ (aqi.ext hs.aF) hf1 (by omega)) (λ w6 he hs=>bY (aX (λ Wl=>?_) (λ Wl=>?_)))
     ·refine aA rV (aB Fz hs.hb rfl ?_);have TI:n7 PG _ (.func (.func 112) [].toArray [.pointer (some ⟨xI,0,none⟩)].toArray) CZ (λ c=>!lj c u.lines.length (gp u) u.locks):=⟨112,[],_,rfl,aee,λ s c w1 e1 hd hzc=>C112 c s u _ xI w1 hd (hs.At.ext e1) (cA.ext hu0 (Ext.trans hs.aF e1)) hzc hz hsm⟩;refine aZ amG hs (C118 _ _ _ CZ (λ c=>!lj c u.lines.length (gp u) u.locks) _ (iY.ext hs.aF) TI hz.th (by omega)) (λ w7 he hs=>bY (aX (λ D1=>?_) (λ D1=>?_)))
      ·refine aA zn (uK (⟨((u).recover).aK,((u).recover).counts,dJ⟩:cK) pS hs.hb rfl (ga (first:=[]) (cap:=[.pointer (some ⟨xI,0,none⟩)]) aee (C112 u.recover _ u _ xI _ ⟨dJ,rfl,(ij.ext hs.aF)⟩ hs.At (cA.ext hu0 hs.aF) hz.rc hz hsm) ?_));rintro _ w8 ⟨rfl,he⟩;have hs:=hs.ext he;refine bY (aX (λ NZ=>?_) (λ NZ=>?_))
       ·refine aA wU (aB RN hs.hb rfl ?_);have hf3:n7 PG _ (.func (.func 115) [].toArray [.pointer (some ⟨xI,0,none⟩)].toArray) (λ l:List nk=>l.length≤1000) (λ l=>!eK l u.stays):=⟨115,[],_,rfl,amE,λ s l w1 e1 hd hl=>C115 _ l xI u.stays w1 (DL.flat hd) ((hs.hb.cell rfl).ext e1) hl⟩;refine aZ amH hs (C119 _ _ _ (λ l:List nk=>l.length≤1000) (λ l=>!eK l u.stays) _ (kR.ext hs.aF) hf3 hz.cl (by omega)) (λ w9 he hs=>bY ?_);exact ⟨vb (by grind),hs⟩
       ·exact ⟨vb (by grind),hs⟩
      ·exact ⟨vb (by grind),hs⟩
     ·exact ⟨vb (by grind),hs⟩
    ·rintro _ pQ ⟨rfl,hs⟩ R0;have hs:=(hs).drop;refine ⟨vb ?_,hs.aF⟩;unfold nt;rw [GG,hL];simp only [Bool.not_false,Bool.true_and,Bool.and_true];cases u.dC.any lr <;> cases u.threads.any (λ c=>!lj c u.lines.length (gp u) u.locks) <;> cases u.cC.any (λ l=>!eK l u.stays) <;> cases lj u.recover u.lines.length (gp u) u.locks <;> rfl
theorem Wq {α:Type} {t1 d:List α} {e y y2:α} {k:Nat} (hk:t1.length=k):((t1++e::d).set k y).set k y2=t1++[y2]++d:=by
 subst hk
 rw [List.set_append_right _ _ (Nat.le_refl _),Nat.sub_self,List.set_cons_zero,List.set_append_right _ _ (Nat.le_refl _),Nat.sub_self,List.set_cons_zero]; simp
theorem set_self? {α:Type} {l:List α} {k:Nat} {y e:α} (h:(l.set k y)[k]? = some e):e=y:=by
 have hk:=(List.getElem?_eq_some_iff.1 h).1
 rw [List.length_set] at hk
 rw [List.getElem?_set_self hk] at h
 exact (Option.some.inj h).symm
theorem Sd {α:Type} (l:List α) (n:Nat):l.take (min (l.length:Int) n).toNat=l.take n:=by
 rcases Nat.lt_or_ge l.length n with h | h
 ·rw [List.take_of_length_le (by omega),List.take_of_length_le (by omega)]
 ·rw [show (min (l.length:Int) n).toNat=n from by omega]
theorem C121 (sv:Value) (xs:List nk) (w:World) (hL:eI (λ _=>True) w sv xs) (hn:xs.length≤1000000):CR 121 [sv] w (λ v w'=>lW (bK v xs) w w'):=by
 have hs:=St.start w;refine Y9 _ _ _ ?_;unfold S121;refine wY Tryz.underlying99 (hL.ext hs.aF) (λ p hp=>aX (λ pH=>?_) (λ pH=>?_))
 ·have hx:=hp pH;subst hx;exact (hs.fX (α:=nk)).fresh
 ·refine bW (([]:List nk)) hs vw rfl rfl (eF rfl) (λ Io w1 hs=>?_);have zQ:=(hL.ext hs.aF);refine cN hs vw zQ (by simp; omega) (by decide) (λ KV w2 hs=>?_);exact hs.fresh
theorem C70 (sv:Value) (xs:List Int) (w:World) (hL:eI (λ _=>True) w sv xs) (hn:xs.length≤1000000):CR 70 [sv] w (λ v w'=>lW (bK v xs) w w'):=by
 have hs:=St.start w;refine ahl _ _ _ ?_;unfold S70;refine wY Tryz.underlying28 (hL.ext hs.aF) (λ p hp=>aX (λ pH=>?_) (λ pH=>?_))
 ·have hx:=hp pH;subst hx;exact (hs.fX (α:=Int)).fresh
 ·refine bW (([]:List Int)) hs ee rfl rfl (eF rfl) (λ Io w1 hs=>?_);have zQ:=(hL.ext hs.aF);refine cN hs ee zQ (by simp; omega) (by decide) (λ KV w2 hs=>?_);exact hs.fresh
theorem C188 (sv:Value) (xs:List bU) (w:World) (hL:eI (λ _=>True) w sv xs) (hn:xs.length≤1000000):CR 188 [sv] w (λ v w'=>lW (bK v xs) w w'):=by
 have hs:=St.start w;refine Z0 _ _ _ ?_;unfold S188;refine wY Tryz.underlying31 (hL.ext hs.aF) (λ p hp=>aX (λ pH=>?_) (λ pH=>?_))
 ·have hx:=hp pH;subst hx;exact (hs.fX (α:=bU)).fresh
 ·refine bW (([]:List bU)) hs kK rfl rfl (eF rfl) (λ Io w1 hs=>cN hs kK (hL.ext hs.aF) (by simp; omega) (by decide) (λ KV w2 hs=>?_));exact hs.fresh
set_option maxHeartbeats 4000000 in
theorem C120 (c:fm) (cv:cK) (w:World) (hc:cA.dr w cv c) (hz:CZ c):CR 120 [Flat.val cv] w (λ v w'=>∃ cv':cK,v=Flat.val cv'∧lW (eX (λ w=>cA.dr w cv' c)) w w'):=by
 obtain ⟨ug,rfl,EG⟩:=hc;obtain ⟨Se,hRA,hDA⟩:=(EG).open;have hnA:=hDA.1;have hzl:=hz.l;have hs:=St.start w;refine Y8 _ _ _ ?_;unfold S120;refine dE hs (λ axT w1 hs=>aN hs HW (λ lY w2 hs=>have hs:=hs.enc (cs':=Flat.enc (⟨0,0,⟨none,0,0⟩⟩:cK)) rfl;aA mj (aB uI hs.p1.hb rfl (dB am7 hs (C188 _ Se _ (hRA.ext hs.aF) (by omega)) (λ x6 w3 bZ hs=>aA mj ?_)))));obtain ⟨xY,rfl⟩:=(hs).fQ;refine aV hs.p2 uI (eF rfl) (rfl) (λ w4 hs=>have hs:=hs.enc (cs':=Flat.enc (⟨(c).aK,(c).counts,xY⟩:cK)) rfl;aA mj (aB (v:=Flat.val (xY:SV)) uI hs.hb rfl (aJ kK (hs.p1).fK ?_)))
 have hs:=hs.gE (Φ:=jO ([]:List bU) ([]:List aW)) (λ _=>jO.nil);have hs:=hs.p3.p1.p3.p3;refine ⟨λ m x w1=>∃ (k:Nat) (t1:List bU),x = .int .i64 (k:Int)∧m=Se.length - k∧k≤Se.length∧t1.length=k∧St w bD [cD axT (Flat.enc (⟨(c).aK,(c).counts,xY⟩:cK)),bK (Flat.val xY) (t1++Se.drop k),eX (jO t1 (c.l.take k)),cD lY (Flat.enc (⟨0,0,⟨none,0,0⟩⟩:cK))] w1,⟨_,0,[],rfl,rfl,Nat.zero_le _,rfl,hs⟩,?_⟩;rintro m _ w5 ⟨k,t1,rfl,rfl,hk,ht1,hs⟩ fy;refine aR (aC (λ jW=>?_) (λ jW=>?_))
 ·obtain ⟨e0,he0⟩:∃ e,Se[k]? = some e:=⟨_,List.getElem?_eq_getElem (by omega)⟩;obtain ⟨r0,hr0⟩:∃ r,c.l[k]? = some r:=⟨_,List.getElem?_eq_getElem (by omega)⟩;obtain ⟨ge,gf,rfl,hE,hF⟩:=hDA.2 k _ _ he0 hr0;have hdc:=drop_cons he0;obtain ⟨Lr,ajF,Qy⟩:∃ e,e=(⟨r0.kind,r0.a,r0.b,ge,gf,r0.to⟩:bU)∧(t1++Se.drop k)[((k:Int)).toNat]? = some e:=⟨_,rfl,by show (t1++Se.drop k)[k]? = _; rw [List.getElem?_append_right (by omega),ht1,Nat.sub_self,List.getElem?_drop,Nat.add_zero]; exact he0⟩;have hfE:eI (λ _=>True) w (Flat.val Lr.e) r0.e:=by rw [ajF]; exact DL.flat hE
  have hfF:eI (λ _=>True) w (Flat.val Lr.f) r0.f:=by rw [ajF]; exact DL.flat hF
  have hzz:=hz.ef _ (List.mem_of_getElem? hr0);have hlL:(t1++Se.drop k).length=Se.length:=by rw [List.length_append,List.length_drop]; omega
  refine aA mj (have hs:=hs.drew;aB (v:=Flat.val (xY:SV)) uI hs.hb rfl (aA mj (aB (v:=Flat.val (xY:SV)) uI hs.hb rfl (aA mj (aB (v:=Flat.val (xY:SV)) uI hs.hb rfl (dS hs.p1 kK (by omega) (by omega) (λ _ pI=>mZ tJ pI (λ _ vY=>nX (Lr).e hs.p1 xA vY Qy rfl (aA mj (aB (v:=Flat.val (xY:SV)) uI hs.hb rfl (dS hs.p1 kK (by omega) (by omega) (λ _ od=>mZ tK od (λ _ oD=>?_)))))))))))));refine nX (Lr).f hs.p1 xA oD Qy rfl (dB TY hs (C121 _ _ _ (hfE.ext hs.aF) (by omega)) (λ x26 w6 bZ hs=>?_))
  refine ⟨aG uI (hs.p1.hb.cell rfl),?_⟩;refine ⟨aG uI (hs.p1.hb.cell rfl),?_⟩;refine ⟨aG uI (hs.p1.hb.cell rfl),?_⟩;refine ⟨UD (Lr).f hs.p2 xA oD Qy rfl,?_⟩;refine dB TY hs (C121 _ _ _ (hfF.ext hs.aF) (by omega)) (λ x33 w7 bZ hs=>?_);refine ⟨aG uI (hs.p2.hb.cell rfl),?_⟩;refine ⟨aG uI (hs.p2.hb.cell rfl),?_⟩;refine dS hs.p3 kK (by omega) (by omega) (λ _ rp=>mZ tJ rp (λ _ zG=>?_));obtain ⟨yA,rfl⟩:=(hs.p1).fQ;refine Kk {Lr with e:=yA} (yA:SV) hs.p3 xA zG Qy (by decide) rfl (λ w8 hs=>?_);refine ⟨aG uI (hs.p3.hb.cell rfl),?_⟩
  have hlS:((((t1++Se.drop k)).set ((k:Int)).toNat {Lr with e:=yA})).length=Se.length:=by rw [List.length_set]; exact hlL
  obtain ⟨afH,EI⟩:=gx ((((t1++Se.drop k)).set ((k:Int)).toNat {Lr with e:=yA})) (i:=((k:Int)).toNat) (by omega);refine dS hs kK (by omega) (by omega) (λ _ tV=>mZ tK tV (λ _ zN=>?_));obtain ⟨wx,rfl⟩:=(hs.p1).fQ;refine Kk {afH with f:=wx} (wx:SV) hs xA zN EI (by decide) rfl (λ w9 hs=>aO (by omega) ?_);have axV:=set_self? (k:=k) EI;have hs:=hs.p2.freeze.p2.freeze.p1.fL.p3.fL.dN (Ψ:=jO (t1++[(⟨r0.kind,r0.a,r0.b,yA,wx,r0.to⟩:bU)]) (c.l.take (k+1))) (λ w h=>by rw [← gX (k:=k) hr0]; exact h.1.snoc ⟨_,_,rfl,DL.fp h.2.1,DL.fp h.2.2⟩)
  have hs:=hs.p3.p1.p3.p3.aoh (ys:=t1++[(⟨r0.kind,r0.a,r0.b,yA,wx,r0.to⟩:bU)]++Se.drop (k+1)) (by rw [hdc]; exact (Wq ht1).trans (by rw [axV,ajF]));have hs:=hs.p1;exact ⟨_,by omega,k+1,t1++[(⟨r0.kind,r0.a,r0.b,yA,wx,r0.to⟩:bU)],rfl,rfl,by omega,by rw [List.length_append,List.length_singleton]; omega,hs⟩
 ·rw [List.drop_eq_nil_of_le (by omega),List.append_nil,List.take_of_length_le (by omega)] at hs;have hs:=hs.p2.p2.DC;refine aD pS hs.p1.At (aI (x:=(⟨(c).aK,(c).counts,xY⟩:cK)) hs.p2 pS rfl rfl (λ pQ hs=>aD pS hs.At ?_));have hs:=hs.p1.jF.dN (Ψ:=(λ w=>cA.dr w (⟨(c).aK,(c).counts,xY⟩:cK) (⟨(c).aK,(c).counts,c.l⟩:fm))) (λ w h=>⟨_,rfl,h⟩);have hs:=((hs.p1.drop).p1).drop;exact ⟨_,rfl,hs.fresh⟩
set_option maxHeartbeats 4000000 in
theorem C53 (u:im) (uv:dL) (w:World) (hu:cA.dr w uv u) (hz:UZ u):CR 53 [Flat.val uv] w (λ v w'=>∃ uv':dL,v=Flat.val uv'∧lW (eX (λ w=>cA.dr w uv' u)) w w'):=by
 obtain ⟨iD,gG,eW,sr,fh,rfl,iE,jl,iY,jL,kR⟩:=hu;obtain ⟨dJ,rfl,ij⟩:=jL;have hs:=St.start w;refine ag4 _ _ _ ?_;unfold S53;refine dE hs (λ xI w1 hs=>aN hs vL (λ lY w2 hs=>have hs:=hs.enc (cs':=Flat.enc (⟨⟨none,0,0⟩,0,⟨none,0,0⟩,0,⟨none,0,0⟩,(⟨0,0,⟨none,0,0⟩⟩:cK),⟨none,0,0⟩⟩:dL)) rfl;aA ml ?_));have hs:=hs.drew;have hzl:=hz.lines;have hzf:=hz.dC;have KQ:=hz.threads;have hzc:=hz.cC;refine aB en hs.p1.hb rfl ?_;have aqk:=DL.flat (iE);refine aA wT (aB en hs.p1.hb rfl ?_)
 have aql:=DL.flat (jl);refine aA zn (uK (⟨((u).recover).aK,((u).recover).counts,dJ⟩:cK) pS hs.p1.hb rfl (dB zb hs (C70 _ _ _ (aqk.ext hs.aF) (by omega)) (λ x11 w3 bZ hs=>?_)));refine ⟨aG en (hs.p2.hb.cell rfl),?_⟩;refine ⟨Ij (⟨((u).recover).aK,((u).recover).counts,dJ⟩:cK) pS hs.p2.hb rfl,?_⟩;refine aA ml (dB zb hs (C70 _ _ _ (aql.ext hs.aF) (by omega)) (λ x14 w4 bZ hs=>?_));refine ⟨Ij (⟨((u).recover).aK,((u).recover).counts,dJ⟩:cK) pS hs.p3.hb rfl,?_⟩;refine ey aef (C120 (u).recover _ _ ⟨dJ,rfl,(ij.ext hs.aF)⟩ hz.rc) ?_
 rintro _ w5 ⟨sU,rfl,bZ⟩;have hs:=hs.made bZ;obtain ⟨l9,rfl⟩:=(hs.p2).fQ;refine aV hs.p4 en (eF rfl) (rfl) (λ w6 hs=>have hs:=hs.enc (cs':=Flat.enc (⟨l9,(u).stays,gG,(u).locks,eW,(⟨((u).recover).aK,((u).recover).counts,dJ⟩:cK),fh⟩:dL)) rfl;aA wT ?_);obtain ⟨oq,rfl⟩:=(hs.p2).fQ;refine aV hs en (eF rfl) (rfl) (λ w7 hs=>have hs:=hs.enc (cs':=Flat.enc (⟨l9,(u).stays,oq,(u).locks,eW,(⟨((u).recover).aK,((u).recover).counts,dJ⟩:cK),fh⟩:dL)) rfl;aA zn (pn (vs:=Flat.enc sU) hs pS rfl (eF rfl) (Flat.one _) (λ w8 hs=>have hs:=hs.enc (cs':=Flat.enc (⟨l9,(u).stays,oq,(u).locks,eW,sU,fh⟩:dL)) rfl;aA rV (aB (v:=Flat.val (eW:SV)) Fz hs.hb rfl ?_))))
 obtain ⟨aqm,afI,afJ⟩:=(iY).open;have hn119:=afJ.1;refine aJ AY (afI.ext hs.aF) ?_;have hs:=((((((hs.xC (α:=fm)).p5).p3).p4).p5).p5).p5;refine ⟨λ m tu x w1=>∃ k:Nat,x = .int .i64 (k:Int)∧m=u.threads.length - k∧k≤u.threads.length∧St w bD [fj tu (u.threads.take k),cD xI (Flat.enc (⟨l9,(u).stays,oq,(u).locks,eW,sU,fh⟩:dL)),bK (Flat.val l9) ((u).lines),bK (Flat.val oq) ((u).dC),eX (λ w=>cA.dr w sU ((u).recover)),cD lY (Flat.enc (⟨⟨none,0,0⟩,0,⟨none,0,0⟩,0,⟨none,0,0⟩,(⟨0,0,⟨none,0,0⟩⟩:cK),⟨none,0,0⟩⟩:dL))] w1,⟨_,0,rfl,rfl,Nat.zero_le _,hs⟩,?_⟩
 rintro m tu _ w9 ⟨k,rfl,rfl,hk,hs⟩ fy;refine aR (aC (λ fR=>?_) (λ fR=>?_))
 ·obtain ⟨aoX,Bc⟩:=gx aqm (i:=((k:Int)).toNat) (by omega);obtain ⟨zR,Bd⟩:=gx ((u).threads) (i:=((k:Int)).toNat) (by omega);obtain ⟨Qz,rfl,acW⟩:=afJ.2 _ _ _ Bc Bd;refine aQ AY afI (by omega) Bc (λ _ q7=>aD pS (q7.ext hs.aF) (aN hs HW (λ ajh pQ hs=>have hs:=hs.enc (cs':=Flat.enc (⟨0,0,⟨none,0,0⟩⟩:cK)) rfl;aI (x:=(⟨(zR).aK,(zR).counts,Qz⟩:cK)) hs pS rfl rfl (λ sP hs=>aD pS hs.At (ey aef (C120 zR _ _ ⟨Qz,rfl,(acW.ext hs.aF)⟩ (hz.th _ (List.mem_of_getElem? Bd))) ?_)))));rintro _ vi ⟨ajG,rfl,bZ⟩;have hs:=hs.made bZ
  refine eJ (s:=ajG) (x:=(zR)) hs AY (by decide) (λ Vu vj hs=>have hs:=hs.p2;dZ hs AY (by rw [List.length_take,List.length_singleton]; omega) (by decide) (λ VP sd hs=>aO (by omega) ?_));have hs:=(hs.p1.drop.p5.p5.p5.p5.p5).p5;exact ⟨_,by omega,k+1,rfl,rfl,by omega,by rw [← gX (k:=k) Bd]; exact hs⟩
 ·rw [List.take_of_length_le (by omega)] at hs;refine aA wU (aB (v:=Flat.val (fh:SV)) RN hs.p1.hb rfl ?_);obtain ⟨aqn,afK,afL⟩:=(kR).open;have hn120:=afL.1;refine aJ FA (afK.ext hs.aF) ?_;have hs:=(((((((hs.xC (α:=(List nk))).p6).p6).p6).p6).p6).p6).p6;refine ⟨λ m za x w1=>∃ q:Nat,x = .int .i64 (q:Int)∧m=u.cC.length - q∧q≤u.cC.length∧St w bD [fj za (u.cC.take q),fj tu u.threads,cD xI (Flat.enc (⟨l9,(u).stays,oq,(u).locks,eW,sU,fh⟩:dL)),bK (Flat.val l9) ((u).lines),bK (Flat.val oq) ((u).dC),eX (λ w=>cA.dr w sU ((u).recover)),cD lY (Flat.enc (⟨⟨none,0,0⟩,0,⟨none,0,0⟩,0,⟨none,0,0⟩,(⟨0,0,⟨none,0,0⟩⟩:cK),⟨none,0,0⟩⟩:dL))] w1,⟨_,0,rfl,rfl,Nat.zero_le _,hs⟩,?_⟩
  rintro m za _ vW ⟨q,rfl,rfl,hq,hs⟩ jw;refine aR (aC (λ m7=>?_) (λ m7=>?_))
  ·obtain ⟨qo,pY⟩:=gx aqn (i:=((q:Int)).toNat) (by omega);obtain ⟨Wr,EJ⟩:=gx ((u).cC) (i:=((q:Int)).toNat) (by omega);have aqo:DL w (Flat.val qo) Wr:=afL.2 _ _ _ pY EJ;refine aQ FA afK (by omega) pY (λ _ tY=>aD xA (tY.ext hs.aF) ?_);have aqp:=DL.flat (aqo);have hzk:=hz.cl _ (List.mem_of_getElem? EJ);refine dB TY hs (C121 _ _ _ (aqp.ext hs.aF) (by omega)) (λ x43 yM bZ hs=>?_);obtain ⟨Bl,rfl⟩:=(hs).fQ;have hs:=hs.freeze.dN (Ψ:=λ w=>cA.dr w Bl ((Wr))) (λ w h=>DL.fp h);refine eJ (s:=Bl) (x:=(Wr)) hs FA (by decide) (λ apt Cd hs=>have hs:=hs.p1;dZ hs FA (by rw [List.length_take,List.length_singleton]; omega) (by decide) (λ Wd Il hs=>aO (by omega) ?_))
   have hs:=hs.p6.p6.p6.p6.p6.p6.p6;exact ⟨_,by omega,q+1,rfl,rfl,by omega,by rw [← gX (k:=q) EJ]; exact hs⟩
  ·rw [List.take_of_length_le (by omega)] at hs;refine aA rV ?_;obtain ⟨su,rfl⟩:=(hs.p1).lI;refine aV hs.p2 Fz (eF rfl) (rfl) (λ Jo hs=>have hs:=hs.enc (cs':=Flat.enc (⟨l9,(u).stays,oq,(u).locks,su,sU,fh⟩:dL)) rfl;aA wU ?_);obtain ⟨yB,rfl⟩:=(hs.p1).lI;refine aV hs RN (eF rfl) (rfl) (λ KA hs=>have hs:=hs.enc (cs':=Flat.enc (⟨l9,(u).stays,oq,(u).locks,su,sU,yB⟩:dL)) rfl;aD tD hs.At (aI (x:=(⟨l9,(u).stays,oq,(u).locks,su,sU,yB⟩:dL)) hs.p6 tD rfl rfl (λ Mx hs=>aD tD hs.At ?_)))
   have hs:=hs.p4.freeze.p5.freeze.p1.fL.p4.jF.p1.fL.p4.p1.fL.p3.jF.p1.fL.dN (Ψ:=(λ w=>cA.dr w (⟨l9,(u).stays,oq,(u).locks,su,sU,yB⟩:dL) (⟨((u).lines),(u).stays,((u).dC),(u).locks,(u).threads,((u).recover),(u).cC⟩:im))) (λ w h=>⟨_,_,_,_,_,rfl,DL.fp h.1.1.1.1,DL.fp h.1.1.1.2,h.1.1.2,h.1.2,h.2⟩);have hs:=((hs.p1.drop).p1).drop;exact ⟨_,rfl,hs.fresh⟩
def sV (x y:bJ):Bool:=decide (x.kind≠7∧y.kind≠7∧(x.kind=6∨y.kind=6)∧x.line≠y.line)
def right (x:bJ):Bool:=decide ((x.kind=3∧0≤x.line∧0≤x.cell)∨((x.kind=5∨x.kind=6)∧0≤x.line∧x.cell=0∧x.n=0)∨(x.kind=7∧x.line=0∧x.cell=0∧x.n=0))
theorem C191 (x y:bJ) (w:World):CR 191 [Flat.val x,Flat.val y] w (λ v w'=>v = .bool (sV x y)∧Ext w w'):=by
 have hs:=St.start w;refine Z3 _ _ _ _ ?_;unfold S191;refine dE hs (λ lY w1 hs=>dE hs (λ Ws w2 hs=>?_));refine ⟨_,?_,λ _ _ h=>h⟩;refine aA py (aB bL hs.p1.hb rfl (aH (aC (λ gn=>?_) (λ gn=>?_))))
 ·intro fy;refine ⟨_,?_,λ _ _ h=>h⟩;refine bY (fC ?_);intro jw;refine ⟨vb ?_,hs.aF⟩;unfold sV
  first | exact (decide_eq_true (by omega)).symm | exact (decide_eq_false (by omega)).symm | exact decide_eq_decide.2 (by omega) | exact decide_eq_decide.2 (bJ.ext_iff.trans (by dsimp only; omega))
 ·refine aA py (aB bL hs.hb rfl (aH ?_));intro fy;refine ⟨_,?_,λ _ _ h=>h⟩
  first | refine Dg ?_ | refine bY ?_
  refine aC (λ jG=>?_) (λ jG=>?_)
  ·refine aA py (aB bL hs.p1.hb rfl (aH (aC (λ fu=>?_) (λ fu=>?_))))
   ·refine aA kX (aB bL hs.p1.hb rfl (aA kX (aB bL hs.hb rfl (cS ?_))));intro jw;refine ⟨vb ?_,hs.aF⟩;unfold sV
    first | exact (decide_eq_true (by omega)).symm | exact (decide_eq_false (by omega)).symm | exact decide_eq_decide.2 (by omega) | exact decide_eq_decide.2 (bJ.ext_iff.trans (by dsimp only; omega))
   ·refine aA py (aB bL hs.hb rfl (aH (aC (λ iO=>?_) (λ iO=>?_))))
    ·refine aA kX (aB bL hs.p1.hb rfl (aA kX (aB bL hs.hb rfl (cS ?_))));intro jw;refine ⟨vb ?_,hs.aF⟩;unfold sV
     first | exact (decide_eq_true (by omega)).symm | exact (decide_eq_false (by omega)).symm | exact decide_eq_decide.2 (by omega) | exact decide_eq_decide.2 (bJ.ext_iff.trans (by dsimp only; omega))
    ·intro jw;refine ⟨vb ?_,hs.aF⟩;unfold sV
     first | exact (decide_eq_true (by omega)).symm | exact (decide_eq_false (by omega)).symm | exact decide_eq_decide.2 (by omega) | exact decide_eq_decide.2 (bJ.ext_iff.trans (by dsimp only; omega))
  ·intro jw;refine ⟨vb ?_,hs.aF⟩;unfold sV
   first | exact (decide_eq_true (by omega)).symm | exact (decide_eq_false (by omega)).symm | exact decide_eq_decide.2 (by omega) | exact decide_eq_decide.2 (bJ.ext_iff.trans (by dsimp only; omega))
theorem eqE (x y:bJ):tC (Flat.enc x) (Flat.enc y)=decide (x=y):=by
 obtain ⟨a,b,c,d⟩:=x
 obtain ⟨a2,b2,c2,d2⟩:=y
 simp [Flat.enc,tC,eqV,Bool.eq_iff_iff]
theorem C226 (x:bJ) (w:World):CR 226 [Flat.val x] w (λ v w'=>v = .bool (right x)∧Ext w w'):=by
 have hs:=St.start w;refine aav _ _ _ ?_;unfold S226;refine dE hs (λ U6 w1 hs=>aA py (aB bL hs.hb rfl (aH (aC (λ pD=>?_) (λ pD=>?_)))))
 ·refine ⟨_,?_,λ _ _ h=>h⟩;refine aA kX (aB bL hs.hb rfl (dG (aC (λ gu=>?_) (λ gu=>?_))))
  ·refine aA nT (aB bL hs.hb rfl (dG ?_));intro fy;refine ⟨vb ?_,hs.aF⟩;unfold right
   first | exact (decide_eq_true (by omega)).symm | exact (decide_eq_false (by omega)).symm | exact decide_eq_decide.2 (by omega) | exact decide_eq_decide.2 (bJ.ext_iff.trans (by dsimp only; omega))
  ·intro fy;refine ⟨vb ?_,hs.aF⟩;unfold right
   first | exact (decide_eq_true (by omega)).symm | exact (decide_eq_false (by omega)).symm | exact decide_eq_decide.2 (by omega) | exact decide_eq_decide.2 (bJ.ext_iff.trans (by dsimp only; omega))
 ·refine ⟨_,?_,λ _ _ h=>h⟩;refine aH (aC (λ eA=>?_) (λ eA=>?_))
  ·intro jw;refine aC (λ jG=>?_) (λ jG=>?_)
   ·refine ⟨_,?_,λ _ _ h=>h⟩;refine aA kX (aB bL hs.hb rfl (dG (aC (λ jr=>?_) (λ jr=>?_))))
    ·refine aA nT (aB bL hs.hb rfl (aH (aC (λ ib=>?_) (λ ib=>?_))))
     ·refine aA mT (aB bL hs.hb rfl (aH ?_));intro oN;refine ⟨vb ?_,hs.aF⟩;unfold right
      first | exact (decide_eq_true (by omega)).symm | exact (decide_eq_false (by omega)).symm | exact decide_eq_decide.2 (by omega) | exact decide_eq_decide.2 (bJ.ext_iff.trans (by dsimp only; omega))
     ·intro oN;refine ⟨vb ?_,hs.aF⟩;unfold right
      first | exact (decide_eq_true (by omega)).symm | exact (decide_eq_false (by omega)).symm | exact decide_eq_decide.2 (by omega) | exact decide_eq_decide.2 (bJ.ext_iff.trans (by dsimp only; omega))
    ·intro oN;refine ⟨vb ?_,hs.aF⟩;unfold right
     first | exact (decide_eq_true (by omega)).symm | exact (decide_eq_false (by omega)).symm | exact decide_eq_decide.2 (by omega) | exact decide_eq_decide.2 (bJ.ext_iff.trans (by dsimp only; omega))
   ·refine aD kW hs.At (pop (Kj _) (lx Ut rfl rfl (eqE x ⟨7,0,0,0⟩) ?_));refine ⟨vb ?_,hs.aF⟩;unfold right
    first | exact (decide_eq_true (by omega)).symm | exact (decide_eq_false (by omega)).symm | exact decide_eq_decide.2 (by omega) | exact decide_eq_decide.2 (bJ.ext_iff.trans (by dsimp only; omega))
  ·refine aH ?_;intro jw;refine aC (λ jG=>?_) (λ jG=>?_)
   ·refine ⟨_,?_,λ _ _ h=>h⟩;refine aA kX (aB bL hs.hb rfl (dG (aC (λ jr=>?_) (λ jr=>?_))))
    ·refine aA nT (aB bL hs.hb rfl (aH (aC (λ ib=>?_) (λ ib=>?_))))
     ·refine aA mT (aB bL hs.hb rfl (aH ?_));intro oN;refine ⟨vb ?_,hs.aF⟩;unfold right
      first | exact (decide_eq_true (by omega)).symm | exact (decide_eq_false (by omega)).symm | exact decide_eq_decide.2 (by omega) | exact decide_eq_decide.2 (bJ.ext_iff.trans (by dsimp only; omega))
     ·intro oN;refine ⟨vb ?_,hs.aF⟩;unfold right
      first | exact (decide_eq_true (by omega)).symm | exact (decide_eq_false (by omega)).symm | exact decide_eq_decide.2 (by omega) | exact decide_eq_decide.2 (bJ.ext_iff.trans (by dsimp only; omega))
    ·intro oN;refine ⟨vb ?_,hs.aF⟩;unfold right
     first | exact (decide_eq_true (by omega)).symm | exact (decide_eq_false (by omega)).symm | exact decide_eq_decide.2 (by omega) | exact decide_eq_decide.2 (bJ.ext_iff.trans (by dsimp only; omega))
   ·refine aD kW hs.At (pop (Kj _) (lx Ut rfl rfl (eqE x ⟨7,0,0,0⟩) ?_));refine ⟨vb ?_,hs.aF⟩;unfold right
    first | exact (decide_eq_true (by omega)).symm | exact (decide_eq_false (by omega)).symm | exact decide_eq_decide.2 (by omega) | exact decide_eq_decide.2 (bJ.ext_iff.trans (by dsimp only; omega))
def sW (l:List bJ) (i:Int):Bool:=decide (0≤i∧i<l.length) && (match l[i.toNat]? with | some x=>(l.take i.toNat).all (sV x) | none=>false)
def z9 (l:List bJ):List Int:=((List.range l.length).map fun (k:Nat)=>(k:Int)).filter (sW l)
theorem uh {l:List bJ} {i:Int} (h:i<0∨(l.length:Int)≤i):sW l i=false:=by
 unfold sW
 have:decide (0≤i∧i<l.length)=false:=by rw [decide_eq_false_iff_not]; omega
 rw [this]; rfl
theorem acX {l:List bJ} {i:Int} {x:bJ} (h0:0≤i) (h1:i<l.length) (hx:l[i.toNat]? = some x):sW l i = !(l.take i.toNat).any λ y=>!sV x y:=by
 unfold sW
 rw [hx,decide_eq_true (show 0≤i∧i<l.length from ⟨h0,h1⟩)]
 simp [List.all_eq_not_any_not]
def sX (l:List bJ) (k:Nat):List Int:=((List.range k).map fun (k:Nat)=>(k:Int)).filter (sW l)
theorem GR (l:List bJ) (k:Nat):(sX l k).length≤k:=by
 unfold sX
 have:=List.length_filter_le (sW l) ((List.range k).map fun (k:Nat)=>(k:Int)); simpa using this
theorem N4 {l:List bJ} {k:Nat} (h:sW l k=true):sX l (k+1)=sX l k++[(k:Int)]:=by
 unfold sX; rw [List.range_succ,List.map_append,List.filter_append]; simp [h]
theorem Sf {l:List bJ} {k:Nat} (h:sW l k=false):sX l (k+1)=sX l k:=by
 unfold sX; rw [List.range_succ,List.map_append,List.filter_append]; simp [h]
theorem EK (l:List bJ) {k:Nat} (h:k=l.length):sX l k=z9 l:=by subst h; rfl
def wy (w:World) (p:Nat) (room:Int) (l:List bJ):Prop:=∃ sv,Cell w p 0 (.int .i64 room)∧Cell w p 1 sv∧eI (λ _=>True) w sv l
def nH (p:Nat) (room:Int) (l:List bJ):HP:=tQ λ sv=>sep (cD p [.int .i64 room,sv]) (bK sv l)
theorem wy.ext {w w':World} {p:Nat} {room:Int} {l:List bJ} (h:wy w p room l) (e:Ext w w'):wy w' p room l:=by
 obtain ⟨sv,h1,h2,h3⟩:=h; exact ⟨sv,h1.ext e,h2.ext e,h3.ext e⟩
theorem nH.rd {w:World} {F:Nat→Prop} {p:Nat} {room:Int} {l:List bJ} (h:(nH p room l).p w F):wy w p room l:=by
 obtain ⟨sv,F1,F2,h1,h2,_⟩:=h
 exact ⟨sv,h1.1.cell rfl,h1.1.cell rfl,(bK.rd h2).mono λ _ _=>trivial⟩
theorem C224 (sv fv:Value) (xs:List bJ) (g:bJ→Bool) (w:World) (hL:eI (λ _=>True) w sv xs) (hf:Ce w fv g) (hn:xs.length≤1073741824):CR 224 [sv,fv] w (λ v w'=>v = .int .i64 (uN g xs)∧Ext w w'):=by
 obtain ⟨g0,first,cap,rfl,vf,lQ⟩:=hf;have hs:=St.start w;refine aat _ _ _ _ ?_;unfold S224;refine aJ pq (hL.ext hs.aF) ?_;refine ⟨λ m x w1=>∃ k:Nat,x = .int .i64 (k:Int)∧m=xs.length - k∧k≤xs.length∧(∀ y∈xs.take k,g y=false)∧St w bD [] w1,⟨_,0,rfl,rfl,Nat.zero_le _,by simp,hs⟩,?_⟩;rintro m _ w1 ⟨k,rfl,rfl,hk,fS,hs⟩ fy;refine aR (aC (λ gu=>?_) (λ gu=>?_))
 ·obtain ⟨jj,dD⟩:=gx (xs) (i:=((k:Int)).toNat) (by omega);refine aQ pq (hL.ext hs.aF) (by omega) dD (λ _ iN=>aD kW (iN) (ga vf (lQ jj w1 hs.aF) ?_));rintro _ w2 ⟨rfl,he⟩;have hs:=hs.ext he;refine aX (λ eA=>?_) (λ eA=>?_)
  ·exact ⟨congrArg (Value.int .i64) (pd fS dD eA).symm,hs.aF⟩
  ·refine aO (by omega) ?_;exact ⟨xs.length - (k+1),by omega,k+1,rfl,rfl,by omega,eC fS dD eA,hs⟩
 ·exact ⟨congrArg (Value.int .i64) (ko (by rw [List.take_of_length_le (by omega)] at fS; exact fS)).symm,hs.aF⟩
theorem C192 (sv fv:Value) (xs:List bJ) (g:bJ→Bool) (w:World) (hL:eI (λ _=>True) w sv xs) (hf:Ce w fv g) (hn:xs.length≤1073741824):CR 192 [sv,fv] w (λ v w'=>v = .bool (xs.any g)∧Ext w w'):=by
 have hs:=St.start w;refine Z4 _ _ _ _ ?_;unfold S192;refine aZ anp hs (C224 _ _ _ _ _ (hL.ext hs.aF) (hf.ext hs.aF) (by omega)) (λ w1 he hs=>dG ?_);exact ⟨vb (n8 _ _),hs.aF⟩
theorem C190 (x y:bJ) (p b2 b3:Nat) (i:Int) (room:Int) (l:List bJ) (w:World) (h2:Cell w b2 0 (.pointer (some ⟨p,0,none⟩))) (h3:Cell w b3 0 (.int .i64 i)) (hb:wy w p room l) (h0:0≤i) (hx:l[i.toNat]? = some x):CR 190 [Flat.val y,.pointer (some ⟨b2,0,none⟩),.pointer (some ⟨b3,0,none⟩)] w (λ v w'=>v = .bool (!sV x y)∧Ext w w'):=by
 obtain ⟨sv,zg,Cg,hL⟩:=hb;have mv:=(List.getElem?_eq_some_iff.1 hx).1;have hs:=St.start w;refine Z2 _ _ _ _ _ ?_;unfold S190;refine dE hs (λ Ws w1 hs=>have hs:=hs.drew;cG rW (h2.ext hs.aF) (aE (aA kj (cG xz (Cg.ext hs.aF) (cG bL (h3.ext hs.aF) (aQ pq (hL.ext hs.aF) h0 hx (λ _ qn=>aD kW (qn) (aD kW hs.At (aZ am9 hs (C191 x y _) (λ w2 he hs=>bY ?_))))))))));exact ⟨rfl,hs.aF⟩
theorem C124 (p:Nat) (i:Int) (room:Int) (l:List bJ) (w:World) (hb:wy w p room l) (hn:l.length≤1073741824):CR 124 [.pointer (some ⟨p,0,none⟩),.int .i64 i] w (λ v w'=>v = .bool (sW l i)∧Ext w w'):=by
 have Jq:=hb;obtain ⟨sv,zg,Cg,hL⟩:=hb;have hs:=St.start w;refine Zc _ _ _ _ ?_;unfold S124;refine tA hs rfl (λ aqq w1 hs=>tA hs rfl (λ aqr w2 hs=>?_));refine ⟨_,?_,λ _ _ h=>h⟩;have hs:=hs.drew;refine aB bL hs.hb rfl (aR (aC (λ iQ=>?_) (λ iQ=>?_)))
 ·intro fy;refine nN ?_;exact ⟨vb (uh (by omega)).symm,hs.aF⟩
 ·refine aB bL hs.hb rfl (aB rW hs.p1.hb rfl (aE (aA kj (cG xz (Cg.ext hs.aF) (aJ pq (hL.ext hs.aF) (dG ?_))))));intro fy;refine aC (λ eA=>?_) (λ eA=>?_)
  ·exact ⟨vb (uh (by omega)).symm,hs.aF⟩
  ·have hs:=hs.drew;refine aB rW hs.p1.hb rfl (aE (aA kj (cG xz (Cg.ext hs.aF) (aB bL hs.hb rfl (RH pq (hL.ext hs.aF) (by omega) (by omega) (λ aoq pI=>?_))))));obtain ⟨x,hx⟩:∃ x,l[i.toNat]? = some x:=⟨_,List.getElem?_eq_getElem (by omega)⟩
   have Km:Ce _ (.func (.func 190) [].toArray [.pointer (some ⟨aqq,0,none⟩),.pointer (some ⟨aqr,0,none⟩)].toArray) (λ y=>!sV x y):=
    ⟨190,[],_,rfl,am8,λ y w1 e1=>C190 x y p aqq aqr i room l w1 ((hs.p1.hb.cell rfl).ext e1) ((hs.hb.cell rfl).ext e1) ((Jq.ext hs.aF).ext e1) (by omega) hx⟩
   refine aZ ana hs (C192 _ _ _ _ _ pI Km (by rw [List.length_take]; omega)) (λ w4 he hs=>bY ?_);exact ⟨vb (acX (by omega) (by omega) hx).symm,hs.aF⟩
theorem C123 (p:Nat) (room:Int) (l:List bJ) (w:World) (hb:wy w p room l):CR 123 [.pointer (some ⟨p,0,none⟩)] w (λ v w'=>v = .bool (decide (room≤l.length))∧Ext w w'):=by
 obtain ⟨sv,zg,Cg,hL⟩:=hb;have hs:=St.start w;refine Zb _ _ _ ?_;unfold S123;refine aE (aA kj (have hs:=hs.drew;cG xz (Cg.ext hs.aF) (aJ pq (hL.ext hs.aF) (aE (aA Ka (cG bL (zg.ext hs.aF) (dG ?_)))))));exact ⟨rfl,hs.aF⟩
theorem C57 (p:Nat) (room:Int) (l:List bJ) (w:World) (hb:wy w p room l) (hn:l.length≤1048576):CR 57 [.pointer (some ⟨p,0,none⟩)] w (λ v w'=>lW (bK v (z9 l)) w w'):=by
 have Jq:=hb;obtain ⟨sv,zg,Cg,hL⟩:=hb;have hs:=St.start w;refine ag8 _ _ _ ?_;unfold S57;refine aE (aA kj (cG xz (Cg.ext hs.aF) (aJ pq (hL.ext hs.aF) ?_)));refine ⟨λ m o x w1=>∃ k:Nat,x = .int .i64 (k:Int)∧m=l.length - k∧k≤l.length∧St w bD [bK o (sX l k)] w1,⟨_,0,rfl,rfl,Nat.zero_le _,hs.fX⟩,?_⟩;rintro m o _ w1 ⟨k,rfl,rfl,hk,hs⟩ fy;have Ql:=GR l k;refine aR (aC (λ gO=>?_) (λ gO=>?_))
 ·refine ⟨_,?_,λ _ _ h=>h⟩;refine aZ aei hs (C124 _ _ _ _ _ (Jq.ext hs.aF) (by omega)) (λ w2 he hs=>aX (λ jG=>?_) (λ jG=>?_))
  ·refine bW (([(k:Int)]:List Int)) hs ee rfl rfl (eF rfl) (λ ae0 w3 hs=>?_);have oc:=(hs).fK;refine cN hs.p1 ee oc (by simp <;> omega) (by decide) (λ UO w4 hs=>?_);have hs:=hs.p1.drop;intro jw;refine aO (by omega) ?_;exact ⟨l.length - (k+1),by omega,k+1,rfl,rfl,by omega,by rw [N4 jG]; exact hs⟩
  ·intro jw;refine aO (by omega) ?_;exact ⟨l.length - (k+1),by omega,k+1,rfl,rfl,by omega,by rw [Sf jG]; exact hs⟩
 ·rw [EK l (by omega)] at hs;exact hs.fresh
def N5 (room:Int) (l:List bJ) (x:bJ):Int:=if right x=true then (if room≤l.length then 2 else 0) else 1
def wz (room:Int) (l:List bJ) (x:bJ):List bJ:=if right x=true∧¬ room≤l.length then l++[x] else l
def eh (l:List bJ) (i:Int):bJ:=if sW l i=true then (l[i.toNat]?).getD ⟨0,0,0,0⟩ else ⟨0,0,0,0⟩
def Aa (l:List bJ) (i:Int):Int:=if 0≤i∧i<l.length then (if sW l i=true then 0 else 13) else 1
def ma (l:List bJ) (i:Int):List bJ:=if sW l i=true then l.eraseIdx i.toNat else l
theorem acY {l:List bJ} {i:Int} (h:sW l i=true):0≤i∧i<l.length:=by
 unfold sW at h; rw [Bool.and_eq_true,decide_eq_true_eq] at h; exact h.1
theorem wy.mk' {w:World} {p:Nat} {room:Int} {sv:Value} {l:List bJ} (h1:tz w p [.int .i64 room,sv]) (h2:eI (λ _=>True) w sv l):wy w p room l:=
 ⟨sv,h1.cell rfl,h1.cell rfl,h2⟩
theorem nH.shut {w0 w:World} {A:Nat→Prop} {R:List HP} {p:Nat} {room:Int} {sv:Value} {l:List bJ} (hs:St w0 A (cD p [.int .i64 room,sv]::bK sv l::R) w):St w0 A (nH p room l::R) w:=
 St.eN (H:=λ sv=>sep (cD p [.int .i64 room,sv]) (bK sv l)) sv (St.join hs)
theorem QA {w0 w:World} {A:Nat→Prop} {R:List HP} {p:Nat} {room:Int} {l:List bJ} (hs:St w0 A (nH p room l::R) w):wy w p room l:=by
 obtain ⟨F,h,_⟩:=hs.head; exact nH.rd h
theorem C193 (v:Value) (i:Int) (xs:List bJ) (F:Nat→Prop) (w:World) (hv:(bK v xs).p w F) (h0:0≤i) (hi:i<xs.length) (hn:xs.length≤1073741824) :
  CR 193 [v,.int .i64 i,.int .i64 (i+1)] w (λ v' w'=>True∧qk F (bK v' (xs.eraseIdx i.toNat)) w w'):=by
 obtain ⟨i,rfl⟩:=Int.eq_ofNat_of_zero_le h0;replace hi:i<xs.length:=by omega
 rw [Int.toNat_natCast];have Hz:=bK.rd hv;obtain ⟨b,cap,rest,rfl,hb,hl,hF⟩:=qC hv hi;have hlen:(flat xs).length=xs.length * 4:=cQ xs;have J0:xs.length≤cap:=by rw [List.length_append,hlen] at hl; change _=cap * 4 at hl; omega
 refine Z5 _ _ _ _ _ ?_;unfold S193;refine pop (HQ pq) (Uv pq (by omega) (by omega) (by omega) (by omega) (λ _=>aH (aC (λ c=>absurd c (by omega)) (λ _=>pop (HQ pq) ?_))))
 have e22:pr PG (Instr.sliceAt 80 (.slice (some ⟨b,0,none⟩) xs.length cap) none (some (.int .i64 (i:Int))) none)=some (.slice (some ⟨b,0,none⟩) i cap):=by
  rw [AV pq (l:=0) (h:=i) (qB (.inl ⟨rfl,rfl⟩) (.inr ⟨_,rfl,by omega,by omega⟩) (by omega) (by omega))];simp [gM]
 refine pop e22 (RI pq Hz (by omega) (by omega) (λ s25 h25=>?_));rw [show ((i:Int)+1).toNat=i+1 from by omega] at h25;have hdl:(xs.drop (i+1)).length=xs.length - (i+1):=by simp
 obtain ⟨w1,r1,b1,g1⟩:=FC (P:=PG) (R:=80) (n:=i) (cap:=cap) pq (hb.of_eq (w':=drew w) rfl) (h25.ext (Ext.drew w)) (by omega) (by rw [List.length_append,hlen,hdl]; change i * 4+(xs.length - (i+1)) * 4≤_; omega);rw [hdl,show i+(xs.length - (i+1))=xs.length - 1 from by omega] at r1;refine ⟨_,w1,r1,?_⟩;refine pop (HQ pq) ?_
 have e31:pr PG (Instr.sliceAt 80 (.slice (some ⟨b,0,none⟩) (xs.length - 1) cap) (some (.int .i64 ((xs.length - 1:Nat):Int))) (some (.int .i64 (xs.length:Int))) none)=some (.slice (some ⟨b,(xs.length - 1) * 4,none⟩) 1 (cap - (xs.length - 1))):=by
  rw [AV pq (l:=xs.length - 1) (h:=xs.length) (qB (.inr ⟨_,rfl,by omega,by omega⟩) (.inr ⟨_,rfl,by omega,by omega⟩) (by omega) (by omega)),if_neg (by omega)];simp [gM]; omega
 refine pop e31 ?_;have hx:xs[i]? = some xs[i]:=by simp [hi]
 have RK:=yi hx;have hT:(flat (xs.take i)).length=i * 4:=by rw [cQ,List.length_take,Nat.min_eq_left (by omega)]; rfl
 have hD:(flat (xs.drop (i+1))).length=(xs.length - (i+1)) * 4:=by rw [cQ,hdl]; rfl
 have hX:(Flat.enc xs[i]).length=4:=rfl;have hZ:(flat (List.replicate 1 (⟨0,0,0,0⟩:bJ))).length=4:=rfl
 have s1:gV (flat xs++rest) (i * Flat.sz bJ) (flat (xs.drop (i+1))) =
   flat (xs.take i)++flat (xs.drop (i+1))++((Flat.enc xs[i]++flat (xs.drop (i+1))).drop (flat (xs.drop (i+1))).length++rest):=by
  have:=kI (flat (xs.take i)) ((Flat.enc xs[i]++flat (xs.drop (i+1))).take (flat (xs.drop (i+1))).length)
   ((Flat.enc xs[i]++flat (xs.drop (i+1))).drop (flat (xs.drop (i+1))).length++rest) (flat (xs.drop (i+1))) (by rw [List.length_take,List.length_append]; omega)
  rw [hT] at this
  change gV (flat xs++rest) (i * 4) _=_
  rw [← this,RK]
  have e0:∀ (a b c d:List Value) (n:Nat),a++(b++c)++d=a++(b++c).take n++((b++c).drop n++d):=λ a b c d n=>by
   rw [List.append_assoc a ((b++c).take n),← List.append_assoc ((b++c).take n),List.take_append_drop,List.append_assoc a]
  exact congrArg (λ z=>gV z (i * 4) (flat (xs.drop (i+1)))) (by first | exact e0 _ _ _ _ _ | (rw [← e0]; simp only [List.append_assoc]) | (simp only [List.append_assoc]; rw [← List.append_assoc (List.take _ _),List.take_append_drop,List.append_assoc]))
 rw [s1] at b1
 obtain ⟨w2,r2,b2,g2⟩:=RR (P:=PG) (R:=0) (o:=(xs.length - 1) * 4) (n:=1) (c:=cap - (xs.length - 1)) (z:=(⟨0,0,0,0⟩:bJ)) pq uJ b1
  (by simp only [List.length_append,List.length_drop,hT,hD,hX]; change _+1 * 4≤_; omega)
 refine ⟨_,w2,r2,?_⟩
 have s2:=kI (flat (xs.take i)++flat (xs.drop (i+1))) ((Flat.enc xs[i]++flat (xs.drop (i+1))).drop (flat (xs.drop (i+1))).length) rest (flat (List.replicate 1 (⟨0,0,0,0⟩:bJ)))
  (by rw [List.length_drop,List.length_append,hX,hZ]; omega)
 rw [show (flat (xs.take i)++flat (xs.drop (i+1))).length=(xs.length - 1) * 4 from by rw [List.length_append,hT,hD]; omega,List.append_assoc _ _ rest] at s2;rw [s2] at b2;refine ⟨trivial,F,.inr ⟨b,cap,flat (List.replicate 1 (⟨0,0,0,0⟩:bJ))++rest,?_,?_,?_,hF⟩,λ b hb=>.inl hb,?_⟩
 ·rw [List.length_eraseIdx_of_lt hi]
 ·rw [List.eraseIdx_eq_take_drop_succ,il,← List.append_assoc]; exact b2
 ·rw [List.eraseIdx_eq_take_drop_succ,il]
  change _=cap * 4
  change _=cap * 4 at hl
  rw [List.length_append,hlen] at hl;simp only [List.length_append,hT,hD,hZ];omega
 ·exact ((Ext.drew w).aF (A:=F)).trans (g1.trans (C:=F) g2 (λ k hk=>(hF k).2 hk) λ k _ hk=>(hF k).2 hk) (λ _ h=>h) λ _ _ h=>h
theorem C154 (sv:Value) (xs:List bJ) (w:World) (hL:eI (λ _=>True) w sv xs) (hn:xs.length≤1073741824):CR 154 [sv] w (λ v w'=>lW (bK v xs) w w'):=by
 have hL0:=hL;obtain ⟨a,cap,rfl,J0,h3⟩:=hL;have hs:=St.start w;refine Zs _ _ _ ?_;unfold S154;refine T9 (gq pq).1 (λ h0=>?_) ?_
 ·rcases h3 with ⟨h,hc⟩ | ⟨b,o,h,_⟩
  ·exact ⟨by rw [h]; rfl,hc⟩
  ·rw [h0] at h; cases h
 refine aX (λ pH=>?_) (λ pH=>?_)
 ·have ha:a=none:=by cases a with | none=>rfl | some _=>cases pH
  have hx:xs=[]:=by
   rcases h3 with ⟨h,_⟩ | ⟨b,o,h,_⟩
   ·exact h
   ·rw [ha] at h; cases h
  subst hx;exact hs.fX.fresh
 ·refine bW (([]:List bJ)) hs pq rfl rfl (eF rfl) (λ Io w1 hs=>?_);have zQ:=(hL0.ext hs.aF);refine cN hs pq zQ (by simp <;> omega) (by decide) (λ KV w2 hs=>?_);exact hs.fresh
theorem C91 (p:Nat) (room:Int) (l:List bJ) (w:World) (hb:wy w p room l) (hn:l.length≤1073741824):CR 91 [.pointer (some ⟨p,0,none⟩)] w (λ v w'=>lW (bK v l) w w'):=by
 obtain ⟨sv,zg,Cg,hL⟩:=hb;have hs:=St.start w;refine ahv _ _ _ ?_;unfold S91;refine aE (aA kj (cG xz (Cg.ext hs.aF) (ey aeo (C154 _ _ _ (hL.ext hs.aF) (by omega)) ?_)));rintro _ w1 bZ;have hs:=hs.made bZ;exact hs.fresh
theorem Wt {room:Int} {l:List bJ} {x:bJ} (h:right x=false):N5 room l x=1:=by unfold N5; rw [h]; rfl
theorem Wu {room:Int} {l:List bJ} {x:bJ} (h:right x=false):wz room l x=l:=by unfold wz; rw [h]; rfl
theorem Sg {room:Int} {l:List bJ} {x:bJ} (h:right x=true) (hf:room≤l.length):N5 room l x=2:=by unfold N5; rw [h,if_pos rfl,if_pos hf]
theorem Sh {room:Int} {l:List bJ} {x:bJ} (hf:room≤l.length):wz room l x=l:=by unfold wz; rw [if_neg (λ hh=>hh.2 hf)]
theorem acZ {room:Int} {l:List bJ} {x:bJ} (h:right x=true) (hf:¬ room≤l.length):N5 room l x=0:=by unfold N5; rw [h,if_pos rfl,if_neg hf]
theorem ac0 {room:Int} {l:List bJ} {x:bJ} (h:right x=true) (hf:¬ room≤l.length):wz room l x=l++[x]:=by unfold wz; rw [if_pos ⟨h,hf⟩]
theorem C196 (p:Nat) (room:Int) (l:List bJ) (x:bJ) (F:Nat→Prop) (w:World) (hF:(nH p room l).p w F) (hn:l.length≤1048576):CR 196 [.pointer (some ⟨p,0,none⟩),Flat.val x] w (λ v w'=>v = .int .i64 (N5 room l x)∧qk F (nH p room (wz room l x)) w w'):=by
 have hs:=St.begin hF;obtain ⟨sv,hs⟩:=hs.eT;have hs:=hs.split;refine Z8 _ _ _ _ ?_;unfold S196;refine dE hs (λ KZ w1 hs=>aD kW hs.At (aZ anr hs (C226 _ _) (λ w2 he hs=>bY (aX (λ gn=>?_) (λ gn=>?_)))))
 ·have hs:=hs.p2.p2;rw [Wt (by simpa using gn),Wu (by simpa using gn)];exact ⟨rfl,(nH.shut hs).mut⟩
 ·refine aZ aeh hs (C123 _ _ _ _ (wy.mk' hs.p1.hb hs.p2.fK)) (λ w3 he hs=>aC (λ gO=>?_) (λ gO=>?_))
  ·have hs:=hs.p2.p2;rw [Sg (by simpa using gn) gO,Sh gO];exact ⟨rfl,(nH.shut hs).mut⟩
  ·refine aE (aA kj (have hs:=hs.drew;aB xz hs.p1.hb rfl (aD kW hs.At (bW ([x]) hs pq rfl rfl (eF rfl) (λ ae0 w4 hs=>?_)))));refine ⟨aG xz (hs.p2.hb.cell rfl),?_⟩;have oc:=(hs).fK;refine cN hs.p3 pq oc (by simp <;> omega) (by decide) (λ UO w5 hs=>have hs:=hs.p1.drop;aE (aA kj (aV hs.p2 xz (eF rfl) ((hs).fK.one) (λ w6 hs=>?_))));have hs:=hs.p1.p1;rw [acZ (by simpa using gn) gO,ac0 (by simpa using gn) gO];exact ⟨rfl,(nH.shut hs).mut⟩
theorem Bo {l:List bJ} {i:Int} (h:sW l i=false):eh l i=⟨0,0,0,0⟩:=by unfold eh; rw [h]; rfl
theorem Bp {l:List bJ} {i:Int} (h:sW l i=false):ma l i=l:=by unfold ma; rw [h]; rfl
theorem GS {l:List bJ} {i:Int} (h:i<0∨(l.length:Int)≤i):Aa l i=1:=by unfold Aa; rw [if_neg (by omega)]
theorem Wv {l:List bJ} {i:Int} (h0:0≤i∧i<l.length) (h:sW l i=false):Aa l i=13:=by unfold Aa; rw [if_pos h0,h]; rfl
theorem Ww {l:List bJ} {i:Int} (h:sW l i=true):Aa l i=0:=by unfold Aa; rw [if_pos (acY h),h]; rfl
theorem Wx {l:List bJ} {i:Int} {x:bJ} (h:sW l i=true) (hx:l[i.toNat]? = some x):eh l i=x:=by unfold eh; rw [h,hx]; rfl
theorem Wy {l:List bJ} {i:Int} (h:sW l i=true):ma l i=l.eraseIdx i.toNat:=by unfold ma; rw [h]; rfl
theorem C127 (p:Nat) (room:Int) (l:List bJ) (i:Int) (F:Nat→Prop) (w:World) (hF:(nH p room l).p w F) (hn:l.length≤1048576):CR 127 [.pointer (some ⟨p,0,none⟩),.int .i64 i] w (λ v w'=>v = .tuple #[Flat.val (eh l i),.int .i64 (Aa l i)]∧qk F (nH p room (ma l i)) w w'):=by
 have hs:=St.begin hF;obtain ⟨sv,hs⟩:=hs.eT;have hs:=hs.split;refine Zf _ _ _ _ ?_;unfold S127;refine aN hs uJ (λ Cf w1 hs=>?_);refine ⟨_,?_,λ _ _ h=>h⟩;refine aR (aC (λ gn=>?_) (λ gn=>?_))
 ·intro fy;refine nN (pop (Ib) (aI (x:=(⟨0,0,0,0⟩:bJ)) hs kW rfl rfl (λ w3 hs=>aD kW hs.At ?_)));have hs:=hs.p2.p2;rw [Bo (uh (by omega)),GS (by omega),Bp (uh (by omega))];exact ⟨rfl,(nH.shut hs).mut⟩
 ·refine aE (aA kj (aB xz hs.p1.hb rfl (aJ pq (hs.p2).fK (dG ?_))));intro fy;refine aC (λ lZ=>?_) (λ lZ=>?_)
  ·refine pop (Ib) (aI (x:=(⟨0,0,0,0⟩:bJ)) hs kW rfl rfl (λ w3 hs=>aD kW hs.At ?_));have hs:=hs.p2.p2;rw [Bo (uh (by omega)),GS (by omega),Bp (uh (by omega))];exact ⟨rfl,(nH.shut hs).mut⟩
  ·refine aZ aei hs (C124 _ _ _ _ _ (wy.mk' hs.p1.hb hs.p2.fK) (by omega)) (λ w4 he hs=>bY (aX (λ iM=>?_) (λ iM=>?_)))
   ·refine pop (Ib) (aI (x:=(⟨0,0,0,0⟩:bJ)) hs kW rfl rfl (λ w5 hs=>aD kW hs.At ?_));have hs:=hs.p2.p2;rw [Bo (by simpa using iM),Wv (by omega) (by simpa using iM),Bp (by simpa using iM)];exact ⟨rfl,(nH.shut hs).mut⟩
   ·refine aE (aA kj (aB xz hs.p1.hb rfl ?_));obtain ⟨BW,lE⟩:=gx (l) (i:=(i).toNat) (by omega);refine dS hs.p2 pq (by omega) (by omega) (λ _ DP=>gj hs.p2 kW DP lE (aN hs uJ (λ N6 w6 hs=>aI (x:=BW) hs kW rfl rfl (λ w7 hs=>aE (aA kj (aB xz hs.p2.hb rfl (ey aeo (C154 _ _ _ (hs.p3).fK (by omega)) ?_)))))));rintro _ w8 bZ;have hs:=hs.made bZ;refine aO (by omega) (pb anb hs (H':=λ v=>bK v (l.eraseIdx i.toNat)) (Φ:=λ _ _=>True) (λ F hF=>?_) ?_)
    ·exact C193 _ i _ F _ hF (by omega) (by omega) (by omega)
    rintro x40 w9 _ hs;refine aE (aA kj (aV hs.p3 xz (eF rfl) ((hs).fK.one) (λ pQ hs=>aD kW hs.p2.At (aI (x:=BW) hs.p3 kW rfl rfl (λ sP hs=>aD kW hs.At ?_)))));have hs:=hs.p2.p2;rw [Wx (by simpa using iM) lE,Ww (by simpa using iM),Wy (by simpa using iM)];exact ⟨rfl,(nH.shut hs).mut⟩
def rq (l:List bJ) (c:Int):Option Int:=(l.reverse.find? λ x=>decide (x.kind=3∧x.cell=c)).map (·.n)
theorem C250 (y sv:Value) (b:Nat) (xs:List bJ) (J:Nat→World→Prop) (Jx:World→Prop) (w:World) (hn:xs.length≤1073741824)
  (hJ:∀ k W,J k W→Cell W b 0 sv∧eI (λ _=>True) W sv xs) (h0:J 0 w)
  (hy:∀ k x W,xs.reverse[k]? = some x→J k W→fY PG y [.int .i64 ((xs.length:Int) - 1 - k),Flat.val x] W (λ v W'=>(v = .bool true∧J (k+1) W')∨(v = .bool false∧Jx W'))) :
  CR 250 [y,.pointer (some ⟨b,0,none⟩)] w (λ _ W=>J xs.length W∨Jx W):=by
 refine aaS _ _ _ _ ?_;unfold S250;refine cG xz (hJ 0 w h0).1 (aJ pq (hJ 0 w h0).2 (gy (by omega) ?_));refine ⟨λ m x w1=>∃ k:Nat,x = .int .i64 ((xs.length:Int) - 1 - k)∧m=xs.length - k∧k≤xs.length∧J k w1,⟨_,0,by simp,rfl,Nat.zero_le _,h0⟩,?_⟩;rintro m _ w1 ⟨k,rfl,rfl,hk,hj⟩ fy;refine dG (aC (λ c=>?_) (λ c=>?_))
 ·obtain ⟨h1,h2⟩:=hJ k w1 hj;have mv:k<xs.length:=by omega
  have hx:xs.reverse[k]? = some (xs[xs.length - 1 - k]'(by omega)):=by rw [List.getElem?_reverse mv,List.getElem?_eq_getElem]
  refine cG xz h1 (aQ pq h2 (by omega) (x:=xs[xs.length - 1 - k]'(by omega)) (by rw [List.getElem?_eq_getElem (by omega)]; congr 2; omega) (λ q hq=>?_));refine aD kW hq ?_;obtain Si:=hy k _ w1 hx hj;refine fY.mono Si ?_;rintro v w2 (⟨rfl,hj2⟩ | ⟨rfl,AM⟩)
  ·refine bY (fC (gy (by omega) ?_));exact ⟨xs.length - (k+1),by omega,k+1,by congr 1; omega,rfl,by omega,hj2⟩
  ·refine bY (nN ?_);exact .inr AM
 ·have:k=xs.length:=by omega
  subst this;exact .inl hj
theorem C225 (sv:Value) (w:World) (h1:rN sv=true):CR 225 [sv] w (λ v w'=>∃ b,v = .func (.func 250) [].toArray [.pointer (some ⟨b,0,none⟩)].toArray∧lW (cD b [sv]) w w'):=by
 have hs:=St.start w;refine aau _ _ _ ?_;unfold S225;refine tA hs h1 (λ b w1 hs=>?_);exact ⟨b,rfl,hs.fresh⟩
theorem Sj {α:Type} {p:α→Bool} {l:List α} {k:Nat} {x:α} (fS:∀ y∈l.take k,p y=false) (hx:l[k]? = some x) (hp:p x=true):l.find? p=some x:=by
 rw [List.find?_eq_some_iff_getElem]
 have hk:=(List.getElem?_eq_some_iff.1 hx)
 obtain ⟨mv,he⟩:=hk
 refine ⟨hp,k,mv,he,λ j hj=>?_⟩
 have:=fS (l[j]'(by omega)) (List.mem_take_iff_getElem.2 ⟨j,by omega,rfl⟩)
 simp [this]
theorem C194 (p:Nat) (c room:Int) (l:List bJ) (w:World) (hb:wy w p room l) (hn:l.length≤1048576) :
  CR 194 [.pointer (some ⟨p,0,none⟩),.int .i64 c] w (λ v w'=>v = .tuple #[.int .i64 ((rq l c).getD 0),.bool (rq l c).isSome]∧Ext w w'):=by
 obtain ⟨sv,zg,Cg,hL⟩:=hb;have hs:=St.start w;refine Z6 _ _ _ _ ?_;unfold S194;refine tA hs rfl (λ b3 w1 hs=>yh hs BI rfl (λ b4 w2 hs=>yh hs aeH rfl (λ b5 w3 hs=>aE (aA kj (cG xz (Cg.ext hs.aF) (ey anq (C225 sv _ hL.one) ?_))))));rintro _ w4 ⟨b,rfl,bZ⟩;have hs:=hs.made bZ
 refine Uw (cap:=[.pointer (some ⟨b,0,none⟩)]) (xs:=(List.range l.length).map fun (k:Nat)=>[Value.int .i64 ((l.length:Int) - 1 - k),Flat.val ((l.reverse[k]?).getD ⟨0,0,0,0⟩)]) anH hs
  (λ k M=>M=[cD b [sv],cD b5 [.bool false],cD b4 [.int .i64 0],cD b3 [.int .i64 c]]∧∀ y∈l.reverse.take k,decide (y.kind=3∧y.cell=c)=false)
  (λ cd M=>cd = .ret∧∃ x,rq l c=some x∧M=[cD b5 [.bool true],cD b4 [.int .i64 x]])
  ⟨rfl,by simp⟩ (by simp) ?_ ?_ ?_ ?_ ?_ ?_
 ·
  intro y J Jx W hJ hJe hJ0 hy;refine (C250 y sv b l J Jx W (by omega) (λ k W hk=>?_) hJ0 (λ k x W hx hk=>?_)).mono λ _ _ r=>r.mono λ v W' h=>?_
  ·obtain ⟨Y,M,⟨rfl,_⟩,hS⟩:=hJ k W hk;exact ⟨hS.p1.hb.cell rfl,hL.ext hS.aF⟩
  ·have mv:=(List.getElem?_eq_some_iff.1 hx).1;rw [List.length_reverse] at mv;have:=hy k [Value.int .i64 ((l.length:Int) - 1 - k),Flat.val x] W (by rw [List.getElem?_map,List.getElem?_range mv]; simp [hx]) hk;exact this
  ·simpa using h
 ·
  rintro k args Y1 Y2 B Kr M W hk ⟨rfl,fS⟩ hB hN hR hs
  have mv:k<l.length:=by
   have:=(List.getElem?_eq_some_iff.1 hk).1
   simpa using this
  obtain ⟨x,hx⟩:∃ x,l.reverse[k]? = some x:=⟨_,List.getElem?_eq_getElem (by simpa using mv)⟩
  have ha:args=[Value.int .i64 ((l.length:Int) - 1 - k),Flat.val x]:=by
   rw [List.getElem?_map,List.getElem?_range mv] at hk;simp [hx] at hk;exact hk.symm
  subst ha;dsimp only [Rz];refine aN hs uJ (λ b7 w6 hs=>pn hs kW rfl (by decide) (by simp [rN,gV]) (λ w7 hs=>?_));refine hB _ _ _ hs.p1 (λ w8 hs=>?_);have e7:gV [Value.int IntKind.i64 0,.int .i64 0,.int .i64 0,.int .i64 0] 0 [Value.int .i64 x.kind,.int .i64 x.line,.int .i64 x.cell,.int .i64 x.n]=Flat.enc x:=rfl;refine ⟨_,?_,λ _ _ h=>h⟩;refine aA py (aB bL hs.p1.hb rfl (aH ?_))
  have no:¬ (x.kind=3∧x.cell=c)→Kr none w8:=λ hh=>by
   refine hN _ _ (hs.p1.drop.p0) ⟨rfl,?_⟩;exact eC fS hx (by simpa using hh)
  refine aC (λ c1=>?_) (λ c1=>?_)
  ·refine aA nT (aB bL hs.p1.hb rfl (aB bL hs.p5.hb rfl (aH ?_)));intro fy;refine aC (λ c2=>?_) (λ c2=>no λ hh=>c2 hh.2);refine aA mT (aB bL hs.p1.hb rfl (aV hs.p4 bL (Nat.le_of_ble_eq_true rfl) rfl (λ pQ hs=>aV hs.p4 Ti (Nat.le_of_ble_eq_true rfl) rfl (λ sP hs=>?_))));refine hR _ [cD b5 [.bool true],cD b4 [.int .i64 x.n]] _ ?_ ⟨rfl,x.n,?_,rfl⟩
   ·exact (hs.p5.drop.p4.drop.p3.drop).p2
   ·unfold rq;rw [Sj fS hx (by simpa using ⟨c1,c2⟩)]; rfl
  ·intro fy;exact fC (no λ hh=>c1 hh.1)
 ·
  rintro D M W ⟨rfl,fS⟩ hs;refine aV hs.p3 bL (Nat.le_of_ble_eq_true rfl) rfl (λ vj hs=>aV hs.p3 Ti (Nat.le_of_ble_eq_true rfl) rfl (λ sd hs=>?_));refine aeP hs.p2 (λ vW hs=>?_);refine aB bL hs.p1.hb rfl (aB Ti hs.hb rfl ?_)
  have:rq l c=none:=by
   unfold rq
   rw [show l.reverse.find? _=none from List.find?_eq_none.2 λ y hy=>by
    have:=fS y (by rw [List.take_of_length_le (by simp)]; exact hy);simp only [this]; exact Bool.false_ne_true]
   rfl
  rw [this];exact ⟨rfl,hs.aF⟩
 ·rintro D M W ⟨_,x,hl,rfl⟩ hs;refine aeP hs (λ vW hs=>?_);refine aB bL hs.p1.hb rfl (aB Ti hs.hb rfl ?_);rw [hl];exact ⟨rfl,hs.aF⟩
 ·rintro id D M W ⟨h,_⟩; cases h
 ·rintro c M ⟨h,_⟩; exact .inr h
theorem IL {α:Type} {xs ys:List α} {k:Nat} {e f:α} (h:xs.take k=ys.take k) (h1:xs[k]? = some e) (h2:ys[k]? = some f) (he:e=f):xs.take (k+1)=ys.take (k+1):=by
 rw [List.take_add_one,List.take_add_one,h,h1,h2,he]
theorem Sk {α:Type} {xs ys:List α} {k:Nat} {e f:α} (h1:xs[k]? = some e) (h2:ys[k]? = some f) (he:¬ e=f):¬ xs=ys:=by
 rintro rfl; rw [h1] at h2; exact he (Option.some.inj h2)
theorem C52 (room:Int) (w:World):CR 52 [.int .i64 room] w (λ v w'=>((room<1∨16<room)∧v = .tuple #[.pointer none,.int .i64 1]∧Ext w w')∨(1≤room∧room≤16∧∃ b,v = .tuple #[.pointer (some ⟨b,0,none⟩),.int .i64 0]∧lW (nH b room []) w w')):=by
 have hs:=St.start w;refine ag3 _ _ _ ?_;unfold S52;refine ⟨_,?_,λ _ _ h=>h⟩;refine aR (aC (λ UH=>?_) (λ UH=>?_))
 ·intro fy;refine nN ?_;exact .inl ⟨by omega,rfl,hs.aF⟩
 ·refine cZ ?_;intro fy;refine aC (λ gu=>?_) (λ gu=>?_)
  ·exact .inl ⟨by omega,rfl,hs.aF⟩
  ·refine pop (Up _) (lR hs (λ b w2 hs=>?_));have hs:=(hs.fX (α:=bJ)).p1;exact .inr ⟨by omega,by omega,b,rfl,(nH.shut hs).fresh⟩
theorem C71 (p:Nat) (room:Int) (l:List bJ) (w:World) (hb:wy w p room l) (hn:l.length≤1048576):CR 71 [.pointer (some ⟨p,0,none⟩)] w (λ v w'=>∃ b,v = .pointer (some ⟨b,0,none⟩)∧lW (nH b room l) w w'):=by
 have Jq:=hb;obtain ⟨sv,zg,Cg,hL⟩:=hb;have hs:=St.start w;refine ahm _ _ _ ?_;unfold S71;refine aE (aA Ka (have hs:=hs.drew;cG bL (zg.ext hs.aF) (ey amv (C91 _ _ _ _ (Jq.ext hs.aF) (by omega)) ?_)));rintro _ w1 bZ;have hs:=hs.made bZ;refine ⟨aG bL (zg.ext hs.aF),?_⟩;obtain ⟨a8,c8,e8,_⟩:=(hs).fK;subst e8;refine pop (M8 _ _ _ _) (lR hs (λ b w2 hs=>?_));exact ⟨b,rfl,(nH.shut hs).fresh⟩
theorem C21 (av bv:Value) (xs ys:List Int) (w:World) (hA:eI (λ _=>True) w av xs) (hB:eI (λ _=>True) w bv ys) (hn:xs.length≤1073741824):CR 21 [av,bv] w (λ v w'=>v = .bool (decide (xs=ys))∧Ext w w'):=by
 have hs:=St.start w;refine agF _ _ _ _ ?_;unfold S21;refine aJ ee (hA.ext hs.aF) (aJ ee (hB.ext hs.aF) (cS (aC (λ fO=>?_) (λ fO=>?_))))
 ·exact ⟨vb (decide_eq_false (by rintro rfl; omega)).symm,hs.aF⟩
 ·refine ⟨λ m x w1=>∃ k:Nat,x = .int .i64 (k:Int)∧m=xs.length - k∧k≤xs.length∧xs.take k=ys.take k∧St w bD [] w1,⟨_,0,rfl,rfl,Nat.zero_le _,rfl,hs⟩,?_⟩;rintro m _ w1 ⟨k,rfl,rfl,hk,Wz,hs⟩ fy;refine aJ ee (hA.ext hs.aF) (aR (aC (λ gP=>?_) (λ gP=>?_)))
  ·obtain ⟨iX,fF⟩:=gx (xs) (i:=((k:Int)).toNat) (by omega);refine aQ ee (hA.ext hs.aF) (by omega) fF (λ _ jI=>have hs:=hs.drew;aD bL (jI) ?_);obtain ⟨qZ,kp⟩:=gx (ys) (i:=((k:Int)).toNat) (by omega);refine aQ ee (hB.ext hs.aF) (by omega) kp (λ _ pI=>aD bL (pI) (cS (aC (λ fR=>?_) (λ fR=>?_))))
   ·exact ⟨vb (decide_eq_false (Sk fF kp fR)).symm,hs.aF⟩
   ·refine aO (by omega) ?_;exact ⟨xs.length - (k+1),by omega,k+1,rfl,rfl,by omega,IL Wz fF kp (Decidable.not_not.1 fR),hs⟩
  ·exact ⟨vb (decide_eq_true (by rw [List.take_of_length_le (by omega),List.take_of_length_le (by omega)] at Wz; exact Wz)).symm,hs.aF⟩
end Go.Proofs.YtnjcingfdhjfkaaGreat
namespace Go.Fw
open Go.MapKept (Stamped IsKey)
open Go.ChangeMaps (setBlock)
def mC (w:World) (b:Nat) (ks:List Int) (vs:List Value):Prop:=
 ∃ es clock,w.heap[b]? = some (.map es clock)∧Stamped es clock∧es.toList.map (·.key)=ks.map (Value.int .i64)∧es.toList.map (·.val)=vs
def jZ:List Int→Int→Option Nat
 | [],_=>none
 | x::xs,k=>if x=k then some 0 else (jZ xs k).map (· + 1)
theorem jS:∀ {ks:List Int} {k:Int} {j:Nat},jZ ks k=some j→ks[j]? = some k
 | x::xs,k,j,h=>by
  unfold jZ at h
  split at h
  ·rename_i e; cases h; simp [e]
  ·cases hh:jZ xs k with
   | none=>rw [hh] at h; cases h
   | some i=>rw [hh] at h; simp at h; subst h; simpa using jS hh
theorem mc:∀ {ks:List Int} {k:Int},jZ ks k=none↔k ∉ ks
 | [],_=>by simp [jZ]
 | x::xs,k=>by
  unfold jZ
  by_cases e:x=k
  ·simp [e]
  ·rw [if_neg e,Option.map_eq_none_iff,mc,List.mem_cons]
   exact ⟨λ h hh=>hh.elim (λ h2=>e h2.symm) h,λ h hh=>h (.inr hh)⟩
theorem ry:∀ {ks:List Int} {k:Int} {j:Nat},ks.Nodup→ks[j]? = some k→jZ ks k=some j
 | x::xs,k,0,_,h=>by simp at h; simp [jZ,h]
 | x::xs,k,j+1,hn,h=>by
  rw [List.getElem?_cons_succ] at h
  have hm:=List.mem_of_getElem? h
  have:x≠k:=λ e=>(List.nodup_cons.1 hn).1 (e▸hm)
  simp [jZ,this,ry (List.nodup_cons.1 hn).2 h]
def look {β:Type} (ks:List Int) (vs:List β) (k:Int):Option β:=(jZ ks k).bind (vs[·]?)
def sY {β:Type} (f:Int→β) (k:Int) (x:β):Int→β:=λ j=>if j=k then x else f j
section
variable {P:Program} {w w0 w':World} {A:Nat→Prop} {L:List HP} {b:Nat} {ks:List Int} {vs:List Value}
theorem mC.of_eq (h:mC w b ks vs) (hh:w'.heap[b]? = w.heap[b]?):mC w' b ks vs:=by
 obtain ⟨es,c,h1,h2⟩:=h; exact ⟨es,c,hh.trans h1,h2⟩
theorem mC.lt (h:mC w b ks vs):b<w.heap.size:=by obtain ⟨es,c,h1,_⟩:=h; exact jN h1
theorem mC.ext (h:mC w b ks vs) (e:Ext w w'):mC w' b ks vs:=h.of_eq (e.cD b h.lt λ h=>h)
theorem mC.len (h:mC w b ks vs):ks.length=vs.length:=by
 obtain ⟨es,c,_,_,h3,h4⟩:=h
 have:=congrArg List.length h3; have h5:=congrArg List.length h4
 simp at this h5; omega
theorem mC.nodup (h:mC w b ks vs):ks.Nodup:=by
 obtain ⟨es,c,_,h2,h3,h4⟩:=h
 have:=h2.2.2
 rw [h3] at this
 exact (List.pairwise_map.1 this).imp λ h e=>h (by rw [e])
def FP (b:Nat) (ks:List Int) (vs:List Value):HP where
 p w F:=mC w b ks vs∧∀ k,F k↔k=b
 loc w w' F h hh:=⟨h.1.of_eq (hh b ((h.2 b).2 rfl)),h.2⟩
 lt w F b' h hb:=by rw [(h.2 b').1 hb]; exact h.1.lt
theorem Sl {es:Array MapEntry} (h3:es.toList.map (·.key)=ks.map (Value.int .i64)):∀ x∈es.toList,IsKey (.int .i64) x.key:=by
 intro x hx
 have:x.key∈es.toList.map (·.key):=List.mem_map.2 ⟨x,hx,rfl⟩
 rw [h3] at this
 obtain ⟨k,_,e⟩:=List.mem_map.1 this
 rw [← e]; simp [IsKey]
theorem EL {T:TypeId} {k:Int} {es:Array MapEntry} (hT:P.underlying T=some (.int .i64)) (hn:ks.Nodup) (h3:es.toList.map (·.key)=ks.map (Value.int .i64)) :
  (jZ ks k=none∧(Instr.findKey T (.int .i64 k) es.toList).run P w = .ok none w)∨∃ j e,jZ ks k=some j∧es.toList[j]? = some e∧e.key = .int .i64 k∧(Instr.findKey T (.int .i64 k) es.toList).run P w = .ok (some (j,e.val)) w:=by
 rcases MapKept.findNow_spec (d:=.int .i64) (k:=.int .i64 k) (by simp [IsKey]) es.toList 0 (Sl h3) with ⟨h1,h2⟩ | ⟨j,e,h1,h2,h4⟩
 ·refine .inl ⟨mc.2 λ hm=>?_,MapKept.run_findKey hT h1⟩
  have:Value.int .i64 k∈es.toList.map (·.key):=by rw [h3]; exact List.mem_map.2 ⟨k,hm,rfl⟩
  obtain ⟨x,hx,e⟩:=List.mem_map.1 this
  exact h2 x hx e
 ·refine .inr ⟨j,e,ry hn ?_,h2,h4,by rw [Nat.zero_add] at h1; exact MapKept.run_findKey hT h1⟩
  have:(es.toList.map (·.key))[j]? = some (.int .i64 k):=by rw [List.getElem?_map,h2]; simp [h4]
  rw [h3,List.getElem?_map] at this
  cases hk:ks[j]? with
  | none=>rw [hk] at this; cases this
  | some k'=>rw [hk] at this; simp at this; rw [this]
theorem oX {T Kt E:TypeId} {z:Value} {k:Int} (h:mC w b ks vs) (ht:P.underlying T=some (.map Kt E)) (hk:P.underlying Kt=some (.int .i64)) (hz:qi P E z) :
  (Instr.lookup T (.map (some b)) (.int .i64 k) false).run P w = .ok ((look ks vs k).getD z) w:=by
 have hn:=h.nodup
 obtain ⟨es,c,h1,h2,h3,h4⟩:=h
 have hz':(zeroValue E).run P w = .ok z w:=by
  unfold qi ej at hz
  cases hi:P.info? E with
  | none=>rw [hi] at hz; cases hz
  | some i=>
   rw [hi] at hz
   simp only [Option.map_some,Option.some.injEq] at hz
   refine fo ?_ w
   unfold zeroValue; rw [cM,nw hi]; simp only [Option.bind_some,hz]; rfl
 have hc:=MapKept.run_checkKey (P:=P) (w:=w) (kt:=Kt) (k:=.int .i64 k) hk (by simp [IsKey]) es.isEmpty 9999
 rcases EL (w:=w) (k:=k) hk hn h3 with ⟨h5,h6⟩ | ⟨j,e,h5,h6,h7,h8⟩
 ·simp [Instr.lookup,run_underlying ht,MapKept.run_getObj_map h1,hc,h6,hz',Result.andThen,look,h5]
 ·have:vs[j]? = some e.val:=by rw [← h4,List.getElem?_map,h6]; rfl
  simp [Instr.lookup,run_underlying ht,MapKept.run_getObj_map h1,hc,h8,Result.andThen,look,h5,this]
theorem me (o:Obj) (hb:b<w.heap.size):(setBlock w b o).heap[b]? = some o:=by simp [setBlock,hb]
theorem iy.setBlock (w:World) (b:Nat) (o:Obj):iy (· = b) w (setBlock w b o):=
 ⟨rfl,rfl,rfl,by simp [ChangeMaps.setBlock],λ k _ hn=>by simp only [ChangeMaps.setBlock]; rw [Array.getElem?_setIfInBounds_ne (λ h=>hn h.symm)]⟩
theorem rz {es:Array MapEntry} {clock:Nat} {o:Obj} (h1:w.heap[b]? = some (.map es clock)):(setObj b o).run P w = .ok () (setBlock w b o):=by
 simp [setObj,Sem.run,h1,setBlock]
theorem QB {T Kt E:TypeId} {v:Value} {k:Int} (h:mC w b ks vs) (ht:P.underlying T=some (.map Kt E)) (hk:P.underlying Kt=some (.int .i64)) :
  ∃ w',(Instr.mapUpdate T (.map (some b)) (.int .i64 k) v).run P w = .ok () w'∧iy (· = b) w w'∧
   (match jZ ks k with | some j=>mC w' b ks (vs.set j v) | none=>mC w' b (ks++[k]) (vs++[v])):=by
 have hn:=h.nodup
 have mv:=h.lt
 obtain ⟨es,c,h1,h2,h3,h4⟩:=h
 have hc:=MapKept.run_checkKey (P:=P) (w:=w) (kt:=Kt) (k:=.int .i64 k) hk (by simp [IsKey]) false 9999
 rcases EL (w:=w) (k:=k) hk hn h3 with ⟨h5,h6⟩ | ⟨j,e,h5,h6,h7,h8⟩
 ·refine ⟨_,?_,iy.setBlock w b (.map (es.push ⟨.int .i64 k,v,c⟩) (c+1)),?_⟩
  ·simp [Instr.mapUpdate,run_underlying ht,MapKept.run_getObj_map h1,hc,h6,rz h1,Result.andThen]
  ·rw [h5]
   refine ⟨_,_,me _ mv,MapKept.stamped_push h2 λ x hx e=>?_,by simp [h3],by simp [h4]⟩
   have:x.key∈es.toList.map (·.key):=List.mem_map.2 ⟨x,hx,rfl⟩
   rw [h3,e] at this
   obtain ⟨k',ye,e'⟩:=List.mem_map.1 this
   simp at e'
   exact mc.1 h5 (e'▸ye)
 ·have Yk:es[j]? = some e:=by rw [← Array.getElem?_toList]; exact h6
  have gk:(Instr.keyThatStays e.key (.int .i64 k)).run P w = .ok (.int .i64 k) w:=by
   rw [h7]; unfold Instr.keyThatStays; simp [Instr.sameBits]
  refine ⟨_,?_,iy.setBlock w b (.map (es.modify j λ e=>{e with key:=.int .i64 k,val:=v}) c),?_⟩
  ·simp [Instr.mapUpdate,run_underlying ht,MapKept.run_getObj_map h1,hc,h8,rz h1,Result.andThen,Yk,gk]
  ·rw [h5]
   have ye:∀ e',es[j]? = some e'→({e' with key:=.int .i64 k,val:=v}:MapEntry).key=e'.key:=λ e' he'=>by
    rw [Yk] at he'; cases he'; exact h7.symm
   refine ⟨_,_,me _ mv,MapKept.stamped_modify h2 j _ (λ _ _=>rfl) (λ e' _ he'=>ye e' he'),?_,?_⟩
   ·rw [MapKept.modify_keys j _ ye,h3]
   ·rw [← h4]
    apply List.ext_getElem?
    intro i
    simp only [List.getElem?_map,Array.getElem?_toList,Array.getElem?_modify,List.getElem?_set]
    by_cases hij:j=i
    ·subst hij; rw [Yk]; have:=(Array.getElem?_eq_some_iff.1 Yk).1; simp [this]
    ·simp [hij]
theorem ac1 {T Kt E R:TypeId} {A2:Array TypeId} {k:Int} (h:mC w b ks vs) (ha:A2[0]? = some T) (ht:P.underlying T=some (.map Kt E)) (hk:P.underlying Kt=some (.int .i64)) :
  ∃ w',(Builtin.delete_ A2 R [.map (some b),.int .i64 k].toArray).run P w = .ok (.tuple #[]) w'∧iy (· = b) w w'∧
   (match jZ ks k with | some j=>mC w' b (ks.eraseIdx j) (vs.eraseIdx j) | none=>mC w' b ks vs):=by
 have hn:=h.nodup
 have mv:=h.lt
 obtain ⟨es,c,h1,h2,h3,h4⟩:=h
 have hc:=MapKept.run_checkKey (P:=P) (w:=w) (kt:=Kt) (k:=.int .i64 k) hk (by simp [IsKey]) es.isEmpty 9999
 rcases EL (w:=w) (k:=k) hk hn h3 with ⟨h5,h6⟩ | ⟨j,e,h5,h6,h7,h8⟩
 ·refine ⟨_,?_,iy.setBlock w b (.map es c),?_⟩
  ·simp [Builtin.delete_,ha,run_underlying ht,MapKept.run_getObj_map h1,hc,h6,rz h1,Result.andThen]
  ·rw [h5]
   exact ⟨_,_,me _ mv,h2,h3,h4⟩
 ·have hj:j<es.size:=by have:=(List.getElem?_eq_some_iff.1 h6).1; simpa using this
  refine ⟨_,?_,iy.setBlock w b (.map (es.eraseIdxIfInBounds j) c),?_⟩
  ·simp [Builtin.delete_,ha,run_underlying ht,MapKept.run_getObj_map h1,hc,h8,rz h1,Result.andThen]
  ·rw [h5]
   have he:(es.eraseIdxIfInBounds j).toList=es.toList.eraseIdx j:=by
    unfold Array.eraseIdxIfInBounds; rw [dif_pos hj]; simp
   refine ⟨_,_,me _ mv,MapKept.stamped_erase h2 j,?_,?_⟩
   ·rw [he,ChangeMaps.map_eraseIdx,h3,ChangeMaps.map_eraseIdx]
   ·rw [he,ChangeMaps.map_eraseIdx,h4]
theorem wA {T:TypeId} {K:Value→World→Prop} (hs:St w0 A L w) (k:∀ b w',St w0 A (FP b [] []::L) w'→K (.map (some b)) w'):gU P (Instr.makeMap T none) w K:=
 ⟨_,_,rfl,k _ _ (hs.new (Ext.push w (.map #[] 0)) (F:=λ k=>k=w.heap.size) ⟨⟨#[],0,pk _ _,MapKept.stamped_empty 0,rfl,rfl⟩,λ _=>Iff.rfl⟩ λ b hb=>by rw [hb]; exact Nat.le_refl _)⟩
theorem St.Ab (hs:St w0 A (FP b ks vs::L) w):mC w b ks vs:=by obtain ⟨F,h,_⟩:=hs.head; exact h.1
theorem g9 {T Kt E:TypeId} {v:Value} {k:Int} {K:World→Prop} (hs:St w0 A (FP b ks vs::L) w) (ht:P.underlying T=some (.map Kt E)) (hk:P.underlying Kt=some (.int .i64)) (bZ:jZ ks k=none)
  (kk:∀ w',St w0 A (FP b (ks++[k]) (vs++[v])::L) w'→K w'):AN P (Instr.mapUpdate T (.map (some b)) (.int .i64 k) v) w K:=by
 obtain ⟨w',h1,h2,h3⟩:=QB (P:=P) (v:=v) (k:=k) hs.Ab ht hk
 rw [bZ] at h3
 exact ⟨w',h1,kk w' (hs.rM λ F hF=>⟨F,⟨h3,hF.2⟩,λ b hb=>.inl hb,h2.mono λ k hk=>(hF.2 k).2 hk⟩)⟩
end
section
variable {α:Type} [Flat α] {P:Program} {w w0 w':World} {A:Nat→Prop} {L:List HP} {b:Nat} {f:Int→List α}
abbrev Ch (s:SV) (x:List α):HP:=bK (Flat.val s) x
def oF (b:Nat) (f:Int→List α):HP:=tQ λ ks=>tQ λ ss:List SV=>tQ λ sZ:List (List α)=>fact (f=λ k=>(look ks sZ k).getD []) (sep (FP b ks (ss.map Flat.val)) (iz Ch ss sZ))
def sw (w:World) (b:Nat) (f:Int→List α):Prop:=∃ ks,∃ ss:List SV,mC w b ks (ss.map Flat.val)∧(∀ (i:Nat) (k:Int) (s:SV),ks[i]? = some k→ss[i]? = some s→eI (λ _=>True) w (Flat.val s) (f k))∧∀ k,k ∉ ks→f k=[]
theorem sw.ext (h:sw w b f) (e:Ext w w'):sw w' b f:=by
 obtain ⟨ks,ss,h1,h2,h3⟩:=h; exact ⟨ks,ss,h1.ext e,λ i k s a c=>(h2 i k s a c).ext e,h3⟩
theorem pg {β:Type} {ks:List Int} {xs:List β} {k:Int} {i:Nat} {x:β} (hn:ks.Nodup) (h1:ks[i]? = some k) (h2:xs[i]? = some x):look ks xs k=some x:=by
 unfold look; rw [ry hn h1]; exact h2
theorem oY {β:Type} {ks:List Int} {xs:List β} {k:Int} (h:k ∉ ks):look ks xs k=none:=by unfold look; rw [mc.2 h]; rfl
theorem oF.rd {F:Nat→Prop} (h:(oF b f).p w F):sw w b f:=by
 obtain ⟨ks,ss,sZ,hf,F1,F2,h1,h2,_,_⟩:=h
 refine ⟨ks,ss,h1.1,λ i k s hk hs=>?_,λ k hk=>by rw [hf]; dsimp only; rw [oY hk]; rfl⟩
 have hl:=A3 h2
 have hi:i<sZ.length:=by have:=(List.getElem?_eq_some_iff.1 hs).1; omega
 have hx:sZ[i]? = some sZ[i]:=List.getElem?_eq_getElem hi
 have gk:St w F2 [iz Ch ss sZ] w:=St.begin h2
 have:=gk.aoi hs hx (Φ:=λ w=>eI (λ _=>True) w (Flat.val s) sZ[i]) λ h=>(bK.rd h).mono λ _ _=>trivial
 rw [hf]; dsimp only
 rw [pg h1.1.nodup hk hx]; exact this
theorem St.WA (hs:St w0 A (oF b f::L) w):sw w b f:=by obtain ⟨F,h,_⟩:=hs.head; exact oF.rd h
theorem sw.look {T Kt E:TypeId} {k:Int} (h:sw w b f) (ht:P.underlying T=some (.map Kt E)) (hk:P.underlying Kt=some (.int .i64)) (hz:qi P E (.slice none 0 0)) :
  ∃ s:SV,(Instr.lookup T (.map (some b)) (.int .i64 k) false).run P w = .ok (Flat.val s) w∧eI (λ _=>True) w (Flat.val s) (f k):=by
 obtain ⟨ks,ss,h1,h2,h3⟩:=h
 have hr:=oX (P:=P) (k:=k) h1 ht hk hz
 cases ng:jZ ks k with
 | none=>
  have:Fw.look ks (ss.map Flat.val) k=none:=by unfold Fw.look; rw [ng]; rfl
  rw [this] at hr
  exact ⟨⟨none,0,0⟩,hr,by rw [h3 k (mc.1 ng)]; exact eI.nil _ _⟩
 | some j=>
  have hj:=jS ng
  have hl:=h1.len
  have hjs:j<ss.length:=by have:=(List.getElem?_eq_some_iff.1 hj).1; simp at hl; omega
  have QC:ss[j]? = some ss[j]:=List.getElem?_eq_getElem hjs
  have:Fw.look ks (ss.map Flat.val) k=some (Flat.val ss[j]):=by unfold Fw.look; rw [ng]; simp [QC]
  rw [this] at hr
  exact ⟨_,hr,h2 j k _ hj QC⟩
theorem sw.aqs {T Kt E:TypeId} {k:Int} (h:sw w0 b f) (ht:P.underlying T=some (.map Kt E)) (hk:P.underlying Kt=some (.int .i64)) (hz:qi P E (.slice none 0 0)) :
  ∃ s:SV,(∀ w,Ext w0 w→(Instr.lookup T (.map (some b)) (.int .i64 k) false).run P w = .ok (Flat.val s) w)∧eI (λ _=>True) w0 (Flat.val s) (f k):=by
 obtain ⟨ks,ss,h1,h2,h3⟩:=h
 have hr:∀ w,Ext w0 w→_:=λ w e=>oX (P:=P) (k:=k) (h1.ext e) ht hk hz
 cases ng:jZ ks k with
 | none=>
  have:Fw.look ks (ss.map Flat.val) k=none:=by unfold Fw.look; rw [ng]; rfl
  rw [this] at hr
  exact ⟨⟨none,0,0⟩,hr,by rw [h3 k (mc.1 ng)]; exact eI.nil _ _⟩
 | some j=>
  have hj:=jS ng
  have hl:=h1.len
  have hjs:j<ss.length:=by have:=(List.getElem?_eq_some_iff.1 hj).1; simp at hl; omega
  have QC:ss[j]? = some ss[j]:=List.getElem?_eq_getElem hjs
  have:Fw.look ks (ss.map Flat.val) k=some (Flat.val ss[j]):=by unfold Fw.look; rw [ng]; simp [QC]
  rw [this] at hr
  exact ⟨_,hr,h2 j k _ hj QC⟩
theorem Bq {T Kt E:TypeId} {k:Int} {K:Value→Prop} (h:sw w0 b f) (e:Ext w0 w) (ht:P.underlying T=some (.map Kt E)) (hk:P.underlying Kt=some (.int .i64)) (hz:qi P E (.slice none 0 0))
  (kk:∀ s:SV,eI (λ _=>True) w0 (Flat.val s) (f k)→K (Flat.val s)):C1 P (Instr.lookup T (.map (some b)) (.int .i64 k) false) w K:=by
 obtain ⟨s,h1,h2⟩:=h.aqs (P:=P) (k:=k) ht hk hz; exact ⟨_,h1 w e,kk s h2⟩
def Ls (b:Nat) (f:Int→List α) (k:Int) (s:SV):HP:=tQ λ ks=>tQ λ ss:List SV=>tQ λ sZ:List (List α)=>tQ λ vs:List Value=>
 fact ((∀ k',k'≠k→f k'=(look ks sZ k').getD [])∧look ks vs k=(jZ ks k).map (λ _=>Flat.val s)∧(jZ ks k=none→s=⟨none,0,0⟩)∧vs.length=ss.length∧∀ (i:Nat) (k':Int),ks[i]? = some k'→k'≠k→vs[i]? = (ss[i]?).map Flat.val) (sep (FP b ks vs) (iz Ch ss sZ))
theorem St.EM {k:Int} (hs:St w0 A (oF b f::L) w):∃ s:SV,St w0 A (bK (Flat.val s) (f k)::Ls b f k s::L) w:=by
 obtain ⟨ks,hs⟩:=hs.eT; obtain ⟨ss,hs⟩:=hs.eT; obtain ⟨sZ,hs⟩:=hs.eT; obtain ⟨hf,hs⟩:=hs.oA
 replace hs:=hs.split
 have hm:=hs.Ab
 have hl:=hm.len
 have C7:=hs.p1.lg
 have hn:=hm.nodup
 rw [List.length_map] at hl
 cases ng:jZ ks k with
 | none=>
  refine ⟨⟨none,0,0⟩,?_⟩
  have hx:look ks sZ k=none:=by unfold look; rw [ng]; rfl
  have e:f k=[]:=by rw [hf]; dsimp only; rw [hx]; rfl
  rw [e]
  refine (St.eN ks (St.eN ss (St.eN sZ (St.eN (ss.map Flat.val) (St.qj ⟨λ k' _=>by rw [hf],by unfold look; rw [ng]; rfl,λ _=>rfl,by rw [List.length_map],λ i k' _ _=>by rw [List.getElem?_map]⟩ (St.join hs)))))).fX
 | some j=>
  have hj:=jS ng
  have hjk:=(List.getElem?_eq_some_iff.1 hj).1
  have QC:ss[j]? = some (ss[j]'(by omega)):=List.getElem?_eq_getElem _
  have hxj:sZ[j]? = some (sZ[j]'(by omega)):=List.getElem?_eq_getElem _
  refine ⟨ss[j]'(by omega),?_⟩
  have e:f k=sZ[j]'(by omega):=by rw [hf]; dsimp only; rw [pg hn hj hxj]; rfl
  rw [e]
  have h1:=(hs.p1.focus QC hxj).p1
  have h2:=(h1.fX (α:=α)).p1
  have h3:St w0 A (Ch (⟨none,0,0⟩:SV) ([]:List α)::ql Ch ss sZ j::_::_::L) w:=h2.p1
  have h4:=h3.DF (by omega) C7
  have h5:=h4.p2
  refine (St.eN ks (St.eN (ss.set j ⟨none,0,0⟩) (St.eN (sZ.set j []) (St.eN (ss.map Flat.val) (St.qj ⟨λ k' ye=>?_,by unfold look; rw [ng]; simp [QC],λ h=>(by cases ng.symm.trans h),(by simp),λ i k' hi ye=>?_⟩ (St.join h5)))))).p1
  ·rw [hf]; dsimp only
   unfold look
   cases hq:jZ ks k' with
   | none=>rfl
   | some i=>
    have:j≠i:=λ e=>ye (by have:=jS hq; rw [← e,hj] at this; exact (Option.some.inj this).symm)
    simp [this]
  ·rw [List.getElem?_map,List.getElem?_set_ne]
   rintro rfl
   rw [hj] at hi; exact ye (Option.some.inj hi).symm
theorem St.Br {T Kt E:TypeId} {k:Int} {s:SV} (hs:St w0 A (Ls b f k s::L) w) (ht:P.underlying T=some (.map Kt E)) (hk:P.underlying Kt=some (.int .i64)) (hz:qi P E (.slice none 0 0)) :
  (Instr.lookup T (.map (some b)) (.int .i64 k) false).run P w = .ok (Flat.val s) w:=by
 obtain ⟨ks,hs⟩:=hs.eT; obtain ⟨ss,hs⟩:=hs.eT; obtain ⟨sZ,hs⟩:=hs.eT; obtain ⟨vs,hs⟩:=hs.eT; obtain ⟨⟨_,h2,h3,_⟩,hs⟩:=hs.oA
 have:=oX (P:=P) (k:=k) hs.split.Ab ht hk hz
 rw [h2] at this
 cases ng:jZ ks k with
 | none=>rw [ng] at this; rw [h3 ng]; exact this
 | some j=>rw [ng] at this; exact this
theorem St.WB {k:Int} {s:SV} {xs:List α} (hs:St w0 A (bK (Flat.val s) xs::Ls b f k s::L) w):St w0 A (oF b (sY f k xs)::L) w:=by
 replace hs:=hs.p1
 obtain ⟨ks,hs⟩:=hs.eT; obtain ⟨ss,hs⟩:=hs.eT; obtain ⟨sZ,hs⟩:=hs.eT; obtain ⟨vs,hs⟩:=hs.eT; obtain ⟨⟨hf,h2,h3,hvs,WC⟩,hs⟩:=hs.oA
 replace hs:=hs.split
 have hm:=hs.Ab
 have hl:=hm.len
 have hn:=hm.nodup
 have C7:=hs.p1.lg
 cases ng:jZ ks k with
 | none=>
  have AL:=mc.1 ng
  have hval:vs=ss.map Flat.val:=List.ext_getElem? λ i=>by
   cases hi:ks[i]? with
   | none=>rw [List.getElem?_eq_none_iff] at hi; rw [List.getElem?_eq_none (by omega),List.getElem?_eq_none (by rw [List.length_map]; omega)]
   | some k'=>rw [WC i k' hi (λ e=>AL (e▸List.mem_of_getElem? hi)),List.getElem?_map]
  have hx:xs=[]:=by
   obtain ⟨F,h,_⟩:=hs.p2.head
   rw [h3 ng] at h
   rcases h with ⟨_,h,_⟩ | ⟨b',cap,rest,h,_⟩
   ·exact h
   ·cases h
  subst hx
  refine St.eN ks (St.eN ss (St.eN sZ (St.qj ?_ (St.join ?_))))
  ·funext k'
   unfold sY
   by_cases e:k'=k
   ·subst e; rw [if_pos rfl,oY AL]; rfl
   ·rw [if_neg e,hf k' e]
  ·rw [← hval]; exact hs.p2.drop
 | some j=>
  have hj:=jS ng
  have hjk:=(List.getElem?_eq_some_iff.1 hj).1
  have QC:ss[j]? = some (ss[j]'(by omega)):=List.getElem?_eq_getElem _
  have hxj:sZ[j]? = some (sZ[j]'(by omega)):=List.getElem?_eq_getElem _
  have hvj:vs[j]? = some (Flat.val s):=by unfold look at h2; rw [ng] at h2; exact h2
  have h6:=((hs.p1.focus QC hxj).drop).p2
  have h7:St w0 A (Ch s xs::ql Ch ss sZ j::_::L) w:=h6.p0
  have h8:=h7.DF (by omega) C7
  refine St.eN ks (St.eN (ss.set j s) (St.eN (sZ.set j xs) (St.qj ?_ (St.join ?_))))
  ·funext k'
   unfold sY
   by_cases e:k'=k
   ·subst e
    rw [if_pos rfl,pg hn hj (x:=xs) (by rw [List.getElem?_set_self (by omega)])]; rfl
   ·rw [if_neg e,hf k' e]
    unfold look
    cases hq:jZ ks k' with
    | none=>rfl
    | some i=>
     have:j≠i:=λ e'=>e (by have:=jS hq; rw [← e',hj] at this; exact (Option.some.inj this).symm)
     simp [this]
  ·have e:(ss.set j s).map Flat.val=vs:=by
    apply List.ext_getElem?
    intro i
    rw [List.getElem?_map]
    by_cases e:j=i
    ·subst e; rw [List.getElem?_set_self (by omega),hvj]; rfl
    ·rw [List.getElem?_set_ne e]
     cases hi:ks[i]? with
     | none=>rw [List.getElem?_eq_none_iff] at hi; rw [List.getElem?_eq_none (show vs.length≤i by omega),List.getElem?_eq_none (show ss.length≤i by omega)]; rfl
     | some k'=>rw [WC i k' hi (λ e'=>e (by rw [e'] at hi; have h1:=ry hn hi; rw [ng] at h1; exact Option.some.inj h1))]
   rw [e]; exact h8.p1
omit [Flat α] in
theorem Sm {f:Int→List α} {k:Int}:sY f k (f k)=f:=by
 funext j; unfold sY; split
 ·rename_i h; rw [h]
 ·rfl
theorem BX {T Kt E:TypeId} {k:Int} {s s':SV} {xs:List α} {K:World→Prop} (hs:St w0 A (bK (Flat.val s') xs::Ls b f k s::L) w) (ht:P.underlying T=some (.map Kt E)) (hk:P.underlying Kt=some (.int .i64))
  (kk:∀ w',St w0 A (oF b (sY f k xs)::L) w'→K w'):AN P (Instr.mapUpdate T (.map (some b)) (.int .i64 k) (Flat.val s')) w K:=by
 replace hs:=hs.p1
 obtain ⟨ks,hs⟩:=hs.eT; obtain ⟨ss,hs⟩:=hs.eT; obtain ⟨sZ,hs⟩:=hs.eT; obtain ⟨vs,hs⟩:=hs.eT; obtain ⟨⟨hf,h2,h3,hvs,WC⟩,hs⟩:=hs.oA
 replace hs:=hs.split
 have hm:=hs.Ab
 have hl:=hm.len
 have hn:=hm.nodup
 have C7:=hs.p1.lg
 obtain ⟨w',r1,r2,r3⟩:=QB (P:=P) (v:=Flat.val s') (k:=k) hm ht hk
 refine ⟨w',r1,kk w' ?_⟩
 cases ng:jZ ks k with
 | none=>
  rw [ng] at r3
  have h5:St w0 A (FP b (ks++[k]) (vs++[Flat.val s'])::_::_::L) w':=hs.rM λ F hF=>⟨F,⟨r3,hF.2⟩,λ b hb=>.inl hb,r2.mono λ k hk=>(hF.2 k).2 hk⟩
  have AL:=mc.1 ng
  have hval:vs=ss.map Flat.val:=List.ext_getElem? λ i=>by
   cases hi:ks[i]? with
   | none=>rw [List.getElem?_eq_none_iff] at hi; rw [List.getElem?_eq_none (by omega),List.getElem?_eq_none (by rw [List.length_map]; omega)]
   | some k'=>rw [WC i k' hi (λ e=>AL (e▸List.mem_of_getElem? hi)),List.getElem?_map]
  have h6:=h5.p1
  have h7:St w0 A (iz Ch (ss++[s']) (sZ++[xs])::_::L) w':=St.DE (H:=Ch (α:=α)) (p:=s') (x:=xs) h6.p2.p1
  refine St.eN (ks++[k]) (St.eN (ss++[s']) (St.eN (sZ++[xs]) (St.qj ?_ (St.join ?_))))
  ·funext k'
   unfold sY
   by_cases e:k'=k
   ·subst e
    rw [if_pos rfl,pg (i:=ks.length) r3.nodup (by simp) (x:=xs) (by rw [List.getElem?_append_right (by omega)]; simp [show ks.length - sZ.length=0 from by omega])]; rfl
   ·rw [if_neg e,hf k' e]
    by_cases vh:k'∈ks
    ·obtain ⟨i,hi,hik⟩:=List.getElem_of_mem vh
     have Ye:ks[i]? = some k':=by rw [List.getElem?_eq_getElem hi,hik]
     have hxi:sZ[i]? = some (sZ[i]'(by omega)):=List.getElem?_eq_getElem _
     rw [pg hn Ye hxi,pg (i:=i) r3.nodup (by rw [List.getElem?_append_left hi]; exact Ye) (by rw [List.getElem?_append_left (by omega)]; exact hxi)]
    ·rw [oY vh,oY (by simp [vh,e])]
  ·have e:(ss++[s']).map Flat.val=vs++[Flat.val s']:=by rw [hval,List.map_append]; rfl
   rw [e]; exact h7.p1
 | some j=>
  rw [ng] at r3
  have h5:St w0 A (FP b ks (vs.set j (Flat.val s'))::_::_::L) w':=hs.rM λ F hF=>⟨F,⟨r3,hF.2⟩,λ b hb=>.inl hb,r2.mono λ k hk=>(hF.2 k).2 hk⟩
  have hj:=jS ng
  have hjk:=(List.getElem?_eq_some_iff.1 hj).1
  have QC:ss[j]? = some (ss[j]'(by omega)):=List.getElem?_eq_getElem _
  have hxj:sZ[j]? = some (sZ[j]'(by omega)):=List.getElem?_eq_getElem _
  have h6:=((h5.p1.focus QC hxj).drop).p2
  have h7:St w0 A (Ch s' xs::ql Ch ss sZ j::_::L) w':=h6.p0
  have h8:=h7.DF (by omega) C7
  refine St.eN ks (St.eN (ss.set j s') (St.eN (sZ.set j xs) (St.qj ?_ (St.join ?_))))
  ·funext k'
   unfold sY
   by_cases e:k'=k
   ·subst e
    rw [if_pos rfl,pg hn hj (x:=xs) (by rw [List.getElem?_set_self (by omega)])]; rfl
   ·rw [if_neg e,hf k' e]
    unfold look
    cases hq:jZ ks k' with
    | none=>rfl
    | some i=>
     have:j≠i:=λ e'=>e (by have:=jS hq; rw [← e',hj] at this; exact (Option.some.inj this).symm)
     simp [this]
  ·have e:(ss.set j s').map Flat.val=vs.set j (Flat.val s'):=by
    apply List.ext_getElem?
    intro i
    rw [List.getElem?_map]
    by_cases e:j=i
    ·subst e; rw [List.getElem?_set_self (by omega),List.getElem?_set_self (by omega)]; rfl
    ·rw [List.getElem?_set_ne e,List.getElem?_set_ne e]
     cases hi:ks[i]? with
     | none=>rw [List.getElem?_eq_none_iff] at hi; rw [List.getElem?_eq_none (show vs.length≤i by omega),List.getElem?_eq_none (show ss.length≤i by omega)]; rfl
     | some k'=>rw [WC i k' hi (λ e'=>e (by rw [e'] at hi; have h1:=ry hn hi; rw [ng] at h1; exact Option.some.inj h1))]
   rw [e]; exact h8.p1
theorem ow {T:TypeId} {K:Value→World→Prop} (hs:St w0 A L w) (k:∀ b w',St w0 A (oF b (λ _=>([]:List α))::L) w'→K (.map (some b)) w'):gU P (Instr.makeMap T none) w K:=
 wA hs λ b w' h=>k b w' (St.eN [] (St.eN [] (St.eN ([]:List (List α)) (St.qj rfl (St.join ((h.new (Ext.refl w') (H:=iz Ch [] []) (F:=bD) (λ _ h=>h) λ _ h=>h.elim).p1))))))
theorem Lt {T Kt E R:TypeId} {k:Int} {A2:Array TypeId} {K:Value→World→Prop} (hs:St w0 A (oF b f::L) w) (ha:A2[0]? = some T) (ht:P.underlying T=some (.map Kt E)) (hk:P.underlying Kt=some (.int .i64))
  (kk:∀ v w',St w0 A (oF b (sY f k [])::L) w'→K v w'):gU P (Builtin.delete_ A2 R [.map (some b),.int .i64 k].toArray) w K:=by
 obtain ⟨ks,hs⟩:=hs.eT; obtain ⟨ss,hs⟩:=hs.eT; obtain ⟨sZ,hs⟩:=hs.eT; obtain ⟨hf,hs⟩:=hs.oA
 replace hs:=hs.split
 have hm:=hs.Ab
 have hl:=hm.len
 have C7:=hs.p1.lg
 have hn:=hm.nodup
 rw [List.length_map] at hl
 obtain ⟨w',r1,r2,r3⟩:=ac1 (P:=P) (R:=R) (k:=k) hm ha ht hk
 refine ⟨_,w',r1,kk _ w' ?_⟩
 cases ng:jZ ks k with
 | none=>
  rw [ng] at r3
  have h5:St w0 A (FP b ks (ss.map Flat.val)::_::L) w':=hs.rM λ F hF=>⟨F,⟨r3,hF.2⟩,λ b hb=>.inl hb,r2.mono λ k hk=>(hF.2 k).2 hk⟩
  refine St.eN ks (St.eN ss (St.eN sZ (St.qj ?_ (St.join h5))))
  funext k'
  unfold sY
  by_cases e:k'=k
  ·subst e; rw [if_pos rfl]; unfold look; rw [ng]; rfl
  ·rw [if_neg e,hf]
 | some j=>
  rw [ng] at r3
  have hj:=jS ng
  have hjk:=(List.getElem?_eq_some_iff.1 hj).1
  have h5:St w0 A (FP b (ks.eraseIdx j) ((ss.map Flat.val).eraseIdx j)::_::L) w':=hs.rM λ F hF=>⟨F,⟨r3,hF.2⟩,λ b hb=>.inl hb,r2.mono λ k hk=>(hF.2 k).2 hk⟩
  have QC:ss[j]? = some (ss[j]'(by omega)):=List.getElem?_eq_getElem _
  have hxj:sZ[j]? = some (sZ[j]'(by omega)):=List.getElem?_eq_getElem _
  have h6:=(h5.p1.focus QC hxj).drop.RS
  dsimp only at r3
  rw [← ChangeMaps.map_eraseIdx] at h6 r3
  refine St.eN (ks.eraseIdx j) (St.eN (ss.eraseIdx j) (St.eN (sZ.eraseIdx j) (St.qj ?_ (St.join h6.p1))))
  funext k'
  unfold sY
  by_cases e:k'=k
  ·subst e
   rw [if_pos rfl,oY]; rfl
   intro JG
   obtain ⟨i,hi,hik⟩:=List.getElem_of_mem JG
   rw [List.getElem_eraseIdx] at hik
   split at hik
   ·have:=ry (j:=i) hn (k:=k') (by rw [← hik]; exact List.getElem?_eq_getElem _); rw [ng] at this; have:=Option.some.inj this; omega
   ·have:=ry (j:=i+1) hn (k:=k') (by rw [← hik]; exact List.getElem?_eq_getElem _); rw [ng] at this; have:=Option.some.inj this; omega
  ·rw [if_neg e,hf]; dsimp only
   by_cases vh:k'∈ks
   ·obtain ⟨i,hi,hik⟩:=List.getElem_of_mem vh
    have Ye:ks[i]? = some k':=by rw [List.getElem?_eq_getElem hi,hik]
    have hxi:sZ[i]? = some (sZ[i]'(by omega)):=List.getElem?_eq_getElem _
    have hij:i≠j:=λ e'=>e (by rw [e',hj] at Ye; exact (Option.some.inj Ye).symm)
    rw [pg hn Ye hxi]
    by_cases mv:i<j
    ·rw [pg (i:=i) r3.nodup (by rw [List.getElem?_eraseIdx_of_lt mv]; exact Ye) (by rw [List.getElem?_eraseIdx_of_lt mv]; exact hxi)]
    ·rw [pg (i:=i - 1) r3.nodup (by rw [List.getElem?_eraseIdx_of_ge (by omega),show i - 1+1=i from by omega]; exact Ye) (by rw [List.getElem?_eraseIdx_of_ge (by omega),show i - 1+1=i from by omega]; exact hxi)]
   ·rw [oY vh,oY (λ h=>vh ((List.eraseIdx_sublist ks j).subset h))]
end
section
variable {α:Type} [Flat α] {P:Program} {w w0 w':World} {A S:Nat→Prop} {L:List HP} {xs ys:List α}
theorem EN {T T2 E ox b o dn dc:Nat} {z:Option Nat} {R:TypeId} {src:Value} {cs:List Value} (ht:fa P T=some (E,Flat.sz α,ox,z)) (hb:tz w b cs) (xw:eI S w src ys)
  (hn:ys.length≤dn) (MW:o+ys.length * Flat.sz α≤cs.length) :
  ∃ w',(Builtin.copy_ #[T,T2] R [.slice (some ⟨b,o,none⟩) dn dc,src].toArray).run P w = .ok (.int .i64 ys.length) w'∧tz w' b (gV cs o (flat ys))∧iy (· = b) w w':=by
 obtain ⟨hu,inf,hi,lz,AX,_⟩:=gq ht
 have hf:=wR (α:=α) (P:=P) (sz:=Flat.sz α) rfl xw
 have rd:=xw
 obtain ⟨sa,T8,rfl,hsc,hs3⟩:=rd
 obtain ⟨w',h1,h2,h3⟩:=mi (P:=P) (o:=o) (flat ys) 0 cs w hb (by rw [cQ]; omega) zf
 refine ⟨w',?_,by simpa using h2,h3⟩
 simp [Builtin.copy_,run_underlying hu,sizeOf,typeInfo,hi,Builtin.lenOf,Nat.min_eq_left hn,hf,lz,h1,goInt]
theorem Lu {T T2 E ox:Nat} {z:Option Nat} {R:TypeId} {v src:Value} {K:Value→World→Prop} (hs:St w0 A (bK v xs::L) w) (ht:fa P T=some (E,Flat.sz α,ox,z)) (xw:eI S w src ys) (hn:ys.length≤xs.length)
  (k:∀ w',St w0 A (bK v (ys++xs.drop ys.length)::L) w'→K (.int .i64 ys.length) w'):gU P (Builtin.copy_ #[T,T2] R [v,src].toArray) w K:=by
 obtain ⟨U,F,U',g1,g2,g3,g4,g5⟩:=hs.sK
 rcases g1 with ⟨rfl,rfl,hF⟩ | ⟨b,cap,rest,rfl,hb,hl,hF⟩
 ·obtain rfl:ys=[]:=by simpa using hn
  obtain ⟨hu,inf,hi,lz,AX,_⟩:=gq ht
  have hf:=wR (α:=α) (P:=P) (sz:=Flat.sz α) rfl xw
  obtain ⟨sa,T8,rfl,hsc,hs3⟩:=xw
  refine ⟨_,w,?_,k w hs⟩
  simp at hf
  simp [Builtin.copy_,run_underlying hu,sizeOf,typeInfo,hi,Builtin.lenOf,lz,hf,goInt]
 ·have hle:ys.length * Flat.sz α≤xs.length * Flat.sz α:=Nat.mul_le_mul_right _ hn
  obtain ⟨w',h1,h2,h3⟩:=EN (P:=P) (o:=0) (dn:=xs.length) (dc:=cap) (T2:=T2) (R:=R) ht hb xw hn (by rw [List.length_append,cQ]; omega)
  refine ⟨_,w',h1,k w' (hs.rM λ F' hF'=>?_)⟩
  rcases hF' with ⟨h,_⟩ | ⟨b',J1,rest',hv,hb',hl',hF'⟩
  ·cases h
  ·simp only [Value.slice.injEq,Option.some.injEq,Addr.mk.injEq,and_true,true_and] at hv
   obtain ⟨rfl,rfl⟩:=hv
   refine ⟨F',.inr ⟨b,cap,rest,?_,?_,?_,hF'⟩,λ b hb=>.inl hb,h3.mono λ k hk=>(hF' k).2 hk⟩
   ·congr 1; rw [List.length_append,List.length_drop]; omega
   ·have e:flat xs=[]++flat (xs.take ys.length)++flat (xs.drop ys.length):=by rw [List.nil_append,← il,List.take_append_drop]
    have:=kI [] (flat (xs.take ys.length)) (flat (xs.drop ys.length)++rest) (flat ys) (by rw [cQ,cQ,List.length_take,Nat.min_eq_left hn])
    rw [List.length_nil] at this
    rw [e,List.append_assoc,this] at h2
    rw [il,List.append_assoc]; exact h2
   ·rw [List.length_append,cQ,List.length_append,List.length_drop,show ys.length+(xs.length - ys.length)=xs.length from by omega,← cQ (xs:=xs),← List.length_append]; exact hl
end
end Go.Fw
namespace Go.Proofs.YtnjcingfdhjfkaaGreat
open Go.Fw
structure Mem where
 of:List Int
 dC:List Int
 l:List Int
 kept:List Int
 gC:Int→List ji
def kS (of:List Int):Int:=if of.length=0 then 0 else of.getD (of.length - 1) 0+1
def xJ (k:List Int) (ws:List ji):List Int:=ws.foldl (λ k w=>k.set w.cell.toNat w.n) k
theorem Ac (ws:List ji):∀ k:List Int,(xJ k ws).length=k.length:=by
 induction ws with
 | nil=>intro k; rfl
 | cons x ws ih=>intro k; show (xJ (k.set x.cell.toNat x.n) ws).length=_; rw [ih,List.length_set]
theorem Sn (ws:List ji) (x:ji) (k:List Int):xJ k (ws++[x])=(xJ k ws).set x.cell.toNat x.n:=by
 unfold xJ; rw [List.foldl_append]; rfl
theorem GU {ws:List ji} {j:Nat} {x:ji} {k:List Int} (hx:ws[j]? = some x):xJ k (ws.take (j+1))=(xJ k (ws.take j)).set x.cell.toNat x.n:=by
 rw [List.take_add_one,hx]; exact Sn _ _ _
def N7 (m:Mem) (cell:Int):Bool:=decide (0≤cell∧cell<m.l.length)
def iH (m:Mem) (cell n:Int):Mem:=if N7 m cell=true then {m with l:=m.l.set cell.toNat n,gC:=if cell<m.of.length then sY m.gC (m.of.getD cell.toNat 0) (m.gC (m.of.getD cell.toNat 0)++[⟨cell,n⟩]) else m.gC} else m
def So (m:Mem) (line:Int):Bool:=decide (0≤line∧line<kS m.of)
def vz (m:Mem) (line:Int):Mem:=if So m line=true then {m with kept:=xJ m.kept (m.gC line),gC:=sY m.gC line []} else m
structure xj (m:Mem):Prop where
 QD:m.of.length≤m.dC.length
 fl:m.dC.length≤20
 ll:m.l.length=m.dC.length
 kl:m.kept.length=m.of.length
 ofr:∀ n∈m.of,0≤n∧n<kS m.of
 lb:kS m.of≤20
 pc:∀ k,∀ x∈m.gC k,0≤x.cell∧x.cell<m.of.length
def MB (m:Mem) (n:Nat):Prop:=∀ k,(m.gC k).length≤n
def fU (p:Nat) (ov fv:Value) (m:Mem):HP:=tQ λ lv=>tQ λ kv=>tQ λ pm=>sep (cD p [ov,fv,lv,kv,.map (some pm)]) (sep (bK lv m.l) (sep (bK kv m.kept) (oF pm m.gC)))
def ui (ov fv:Value) (m:Mem) (w:World):Prop:=eI (λ _=>True) w ov m.of∧eI (λ _=>True) w fv m.dC
def u9 (w:World) (p:Nat) (m:Mem):Prop:=∃ ov fv lv kv pm,Cell w p 0 ov∧Cell w p 1 fv∧Cell w p 2 lv∧Cell w p 3 kv∧Cell w p 4 (.map (some pm))∧eI (λ _=>True) w ov m.of∧eI (λ _=>True) w fv m.dC∧eI (λ _=>True) w lv m.l∧eI (λ _=>True) w kv m.kept∧sw w pm m.gC
section
variable {w w' w0:World} {A F:Nat→Prop} {R:List HP} {p:Nat} {ov fv lv kv:Value} {m:Mem} {pm:Nat}
theorem u9.ext (h:u9 w p m) (e:Ext w w'):u9 w' p m:=by
 obtain ⟨ov,fv,lv,kv,pm,c0,c1,c2,c3,c4,h0,h1,h2,h3,h4⟩:=h
 exact ⟨ov,fv,lv,kv,pm,c0.ext e,c1.ext e,c2.ext e,c3.ext e,c4.ext e,h0.ext e,h1.ext e,h2.ext e,h3.ext e,h4.ext e⟩
theorem u9.mk' (h:tz w p [ov,fv,lv,kv,.map (some pm)]) (hK:ui ov fv m w) (h2:eI (λ _=>True) w lv m.l) (h3:eI (λ _=>True) w kv m.kept) (h4:sw w pm m.gC):u9 w p m:=
 ⟨ov,fv,lv,kv,pm,h.cell rfl,h.cell rfl,h.cell rfl,h.cell rfl,h.cell rfl,hK.1,hK.2,h2,h3,h4⟩
theorem fU.open (hs:St w0 A (fU p ov fv m::R) w):∃ lv kv pm,St w0 A (cD p [ov,fv,lv,kv,.map (some pm)]::bK lv m.l::bK kv m.kept::oF pm m.gC::R) w:=by
 obtain ⟨lv,hs⟩:=hs.eT; obtain ⟨kv,hs⟩:=hs.eT; obtain ⟨pm,hs⟩:=hs.eT
 have h1:=hs.split
 have h2:=h1.p1.split
 have h3:=(h2.p1.split)
 exact ⟨lv,kv,pm,h3.p2.p3⟩
theorem fU.shut (hs:St w0 A (cD p [ov,fv,lv,kv,.map (some pm)]::bK lv m.l::bK kv m.kept::oF pm m.gC::R) w):St w0 A (fU p ov fv m::R) w:=by
 have h1:St w0 A (sep (bK kv m.kept) (oF pm m.gC)::cD p [ov,fv,lv,kv,.map (some pm)]::bK lv m.l::R) w:=St.join (hs.p3.p3)
 have h2:St w0 A (sep (bK lv m.l) (sep (bK kv m.kept) (oF pm m.gC))::cD p [ov,fv,lv,kv,.map (some pm)]::R) w:=St.join h1.p2
 exact St.eN lv (St.eN kv (St.eN pm (St.join h2.p1)))
theorem IM (hs:St w0 A (fU p ov fv m::R) w) (hK:ui ov fv m w):u9 w p m:=by
 obtain ⟨lv,kv,pm,hs⟩:=fU.open hs
 exact u9.mk' hs.hb hK hs.p1.fK hs.p2.fK hs.p3.WA
end
theorem C144 (p:Nat) (m:Mem) (w:World) (hm:u9 w p m) (hk:xj m):CR 144 [(.pointer (some ⟨p,0,none⟩))] w (λ v w'=>v = .int .i64 (kS m.of)∧Ext w w'):=by
 have EO:=hm;obtain ⟨ov,fv,lv,kv,pm,c0,c1,c2,c3,c4,hO,Sp,hL,hKp,hP⟩:=hm;have h20:=hk.fl;have Yo:=hk.QD;have Nm:=hk.ll;have KF:=hk.kl;have Qd:=hk.lb;have hs:=St.start w;refine Zq _ _ _ ?_;unfold S144;refine aE (aA tM (cG en (c0.ext hs.aF) (aJ ee (hO.ext hs.aF) (aH (aC (λ gn=>?_) (λ gn=>?_))))))
 ·exact ⟨congrArg (Value.int .i64) (by unfold kS; rw [if_pos (by omega)]),hs.aF⟩
 ·refine aE (aA tM (have hs:=hs.drew;cG en (c0.ext hs.aF) (aE (aA tM (cG en (c0.ext hs.aF) (aJ ee (hO.ext hs.aF) (gy (by omega) ?_)))))));obtain ⟨iX,fF⟩:=gx (m.of) (i:=((((m.of).length:Int) - 1)).toNat) (by omega);refine aQ ee hO (by omega) fF (λ _ jI=>aD bL (jI.ext hs.aF) ?_);have hx20:=hk.ofr _ (List.mem_of_getElem? fF);refine aO (by omega) ?_;exact ⟨congrArg (Value.int .i64) (by unfold kS; rw [if_neg (by omega),List.getD_eq_getElem?_getD,show m.of.length - 1=((m.of.length:Int) - 1).toNat from by omega,fF]; rfl),hs.aF⟩
theorem C195 (p:Nat) (m:Mem) (cell:Int) (w:World) (hm:u9 w p m) (hk:xj m):CR 195 [(.pointer (some ⟨p,0,none⟩)),.int .i64 cell] w (λ v w'=>v = .tuple #[.int .i64 (if N7 m cell=true then m.l.getD cell.toNat 0 else 0),.int .i64 (if N7 m cell=true then 0 else 1)]∧Ext w w'):=by
 have EO:=hm;obtain ⟨ov,fv,lv,kv,pm,c0,c1,c2,c3,c4,hO,Sp,hL,hKp,hP⟩:=hm;have hs:=St.start w;refine Z7 _ _ _ _ ?_;unfold S195;refine ⟨λ jv w'=>jv = .bool (decide (cell<0∨m.l.length≤cell))∧w=w',?_,?_⟩
 ·refine aR (aC (λ iQ=>?_) (λ iQ=>?_))
  ·exact ⟨RB (by omega),rfl⟩
  ·refine aE (aA qS (cG en (c2.ext hs.aF) (aJ ee (hL.ext hs.aF) (dG ?_))));exact ⟨xu (by omega),rfl⟩
 ·rintro _ w1 ⟨rfl,hw⟩ fy;subst hw;refine aC (λ eA=>?_) (λ eA=>?_)
  ·have vh:N7 m cell=false:=by unfold N7; rw [decide_eq_false_iff_not]; omega
   rw [vh];exact ⟨rfl,hs.aF⟩
  ·refine aE (aA qS (cG en (c2.ext hs.aF) ?_));obtain ⟨e_x22,WD⟩:=gx (m.l) (i:=(cell).toNat) (by omega);refine aQ ee hL (by omega) WD (λ _ KP=>aD bL (KP.ext hs.aF) ?_);have vh:N7 m cell=true:=by unfold N7; rw [decide_eq_true_eq]; omega
   rw [vh,List.getD_eq_getElem?_getD,WD];exact ⟨rfl,hs.aF⟩
theorem C72 (p:Nat) (m:Mem) (w:World) (hm:u9 w p m) (hk:xj m):CR 72 [(.pointer (some ⟨p,0,none⟩))] w (λ v w'=>lW (bK v m.l) w w'):=by
 have EO:=hm;obtain ⟨ov,fv,lv,kv,pm,c0,c1,c2,c3,c4,hO,Sp,hL,hKp,hP⟩:=hm;have h20:=hk.fl;have Yo:=hk.QD;have Nm:=hk.ll;have KF:=hk.kl;have Qd:=hk.lb;have hs:=St.start w;refine ahn _ _ _ ?_;unfold S72;refine aE (aA qS (cG en (c2.ext hs.aF) (dB zb hs (C70 _ _ _ (hL.ext hs.aF) (by omega)) (λ x7 w1 bZ hs=>?_))));exact hs.fresh
theorem C73 (p:Nat) (m:Mem) (w:World) (hm:u9 w p m) (hk:xj m):CR 73 [(.pointer (some ⟨p,0,none⟩))] w (λ v w'=>lW (bK v m.kept) w w'):=by
 have EO:=hm;obtain ⟨ov,fv,lv,kv,pm,c0,c1,c2,c3,c4,hO,Sp,hL,hKp,hP⟩:=hm;have h20:=hk.fl;have Yo:=hk.QD;have Nm:=hk.ll;have KF:=hk.kl;have Qd:=hk.lb;have hs:=St.start w;refine aho _ _ _ ?_;unfold S73;refine aE (aA zu (cG en (c3.ext hs.aF) (dB zb hs (C70 _ _ _ (hKp.ext hs.aF) (by omega)) (λ x7 w1 bZ hs=>?_))));exact hs.fresh
theorem C137 (sv:Value) (xs:List ji) (w:World) (hL:eI (λ _=>True) w sv xs) (hn:xs.length≤1000000):CR 137 [sv] w (λ v w'=>lW (bK v xs) w w'):=by
 have hs:=St.start w;refine Zp _ _ _ ?_;unfold S137;refine wY Tryz.underlying213 (hL.ext hs.aF) (λ p hp=>aX (λ pH=>?_) (λ pH=>?_))
 ·have hx:=hp pH;subst hx;exact (hs.fX (α:=ji)).fresh
 ·refine bW (([]:List ji)) hs vN rfl rfl (eF rfl) (λ Io w1 hs=>?_);have zQ:=(hL.ext hs.aF);refine cN hs vN zQ (by simp; omega) (by decide) (λ KV w2 hs=>?_);exact hs.fresh
theorem C128 (p:Nat) (ov fv:Value) (m:Mem) (F:Nat→Prop) (cell n:Int) (w:World) (hF:(fU p ov fv m).p w F) (hK:∀ w',iy F w w'→ui ov fv m w') (hk:xj m) (hb:MB m 1000000):CR 128 [(.pointer (some ⟨p,0,none⟩)),.int .i64 cell,.int .i64 n] w (λ v w'=>v = .int .i64 (if N7 m cell=true then 0 else 1)∧qk F (fU p ov fv (iH m cell n)) w w'):=by
 have hs:=St.begin hF;obtain ⟨lv,kv,pm,hs⟩:=fU.open hs;have h20:=hk.fl;have Yo:=hk.QD;have Nm:=hk.ll;have KF:=hk.kl;have Qd:=hk.lb;refine Zg _ _ _ _ _ ?_;unfold S128;refine ⟨λ jv w'=>jv = .bool (decide (cell<0∨m.l.length≤cell))∧w=w',?_,?_⟩
 ·refine aR (aC (λ gu=>?_) (λ gu=>?_))
  ·exact ⟨RB (by omega),rfl⟩
  ·refine aE (aA qS (aB en hs.hb rfl (aJ ee (hs.p1).fK (dG ?_))));exact ⟨xu (by omega),rfl⟩
 ·rintro _ w1 ⟨rfl,hw⟩ fy;subst hw;refine aC (λ gd=>?_) (λ gd=>?_)
  ·have hs:=hs.p3.p3.p3.p3;have vh:N7 m cell=false:=by unfold N7; rw [decide_eq_false_iff_not]; omega
   unfold iH;rw [vh];exact ⟨rfl,(fU.shut hs).mut⟩
  ·have vh:N7 m cell=true:=by unfold N7; rw [decide_eq_true_eq]; omega
   refine aE (aA qS (aB en hs.hb rfl ?_));obtain ⟨GL,pX⟩:=gx (m.l) (i:=(cell).toNat) (by omega);refine dS hs.p1 ee (by omega) (by omega) (λ _ ud=>lF _ hs.p1 bL ud (by omega) (λ w2 hs=>?_));refine ⟨λ w'=>St w F [fU p ov fv (iH m cell n)] w',?_,?_⟩
   ·refine aE (aA tM (aB en hs.p1.hb rfl (aJ ee (hK _ hs.aF).1 (aR (aC (λ jH=>?_) (λ jH=>?_))))))
    ·refine aE (aA tM (aB en hs.p1.hb rfl ?_));obtain ⟨KT,Bb⟩:=gx (m.of) (i:=(cell).toNat) (by omega);refine aQ ee (hK _ hs.aF).1 (by omega) Bb (λ _ Eb=>aD bL (Eb) (aE (aA mW (have hs:=hs.drew;aB rZ hs.p1.hb rfl (aE (aA mW (aB rZ hs.p1.hb rfl ?_)))))));have hbx:=hb KT;obtain ⟨Vv,hs⟩:=(hs.p3).EM (k:=KT);refine ⟨_,(hs.p1).Br Tryz.underlying201 oJ wW,?_⟩;refine pop (Na _ _) (bW ([(⟨cell,n⟩:ji)]) hs vN rfl rfl (eF rfl) (λ s_x54 w3 hs=>?_));refine ⟨aG rZ (hs.p4.hb.cell rfl),?_⟩;refine ⟨aG rZ (hs.p4.hb.cell rfl),?_⟩
     refine ⟨(hs.p2).Br Tryz.underlying201 oJ wW,?_⟩;have ajH:=(hs).fK;refine cN hs.p1 vN ajH (by simp; omega) (by decide) (λ aqu w4 hs=>?_);have hs:=hs.p1.drop;refine ⟨aG rZ (hs.p3.hb.cell rfl),?_⟩;obtain ⟨EP,rfl⟩:=(hs).fQ;have hs:=hs.p1.p1;refine BX hs Tryz.underlying201 oJ (λ w5 hs=>?_);have hs:=hs.p3.p2.p3;have hwm:iH m cell n={m with l:=m.l.set cell.toNat n,gC:=sY m.gC KT (m.gC KT++[⟨cell,n⟩])}:=by unfold iH; rw [if_pos vh,if_pos (by omega),List.getD_eq_getElem?_getD,Bb]; rfl
     rw [hwm];exact fU.shut (m:={m with l:=_,gC:=_}) hs
    ·have hs:=hs.p3.p3.p2.p3;have hwm:iH m cell n={m with l:=m.l.set cell.toNat n}:=by unfold iH; rw [if_pos vh,if_neg (by omega)]
     rw [hwm];exact fU.shut (m:={m with l:=_,gC:=_}) hs
   ·intro w6 hs jw;exact ⟨by rw [vh]; rfl,hs.mut⟩
def QE (m:Mem) (cut:List Int):Bool:=decide ((cut.length:Int)=kS m.of) && (List.range cut.length).all λ i=>decide (0≤cut.getD i 0∧cut.getD i 0≤(m.gC i).length)
def Ad (m:Mem) (cut:List Int) (k:Nat):List Int:=(List.range k).foldl (λ o (i:Nat)=>xJ o ((m.gC i).take (cut.getD i 0).toNat)) m.kept
def jA (m:Mem) (cut:List Int):Option (List Int):=if QE m cut=true then some (Ad m cut cut.length) else none
theorem GV (m:Mem) (cut:List Int) (k:Nat):Ad m cut (k+1)=xJ (Ad m cut k) ((m.gC k).take (cut.getD k 0).toNat):=by
 unfold Ad; rw [List.range_succ,List.foldl_append]; rfl
theorem uj (m:Mem) (cut:List Int):∀ k,(Ad m cut k).length=m.kept.length
 | 0=>rfl
 | k+1=>by rw [GV,Ac,uj]
theorem WE {m:Mem} {cut:List Int} {k:Nat} {c:Int} (hc:cut[k]? = some c) (h:¬ (0≤c∧c≤(m.gC k).length)):jA m cut=none:=by
 unfold jA; rw [if_neg]
 intro hh
 unfold QE at hh
 rw [Bool.and_eq_true,List.all_eq_true] at hh
 have:=hh.2 k (List.mem_range.2 (List.getElem?_eq_some_iff.1 hc).1)
 rw [decide_eq_true_eq,List.getD_eq_getElem?_getD,hc] at this
 exact h this
theorem WG {m:Mem} {cut:List Int} (h:(cut.length:Int)≠kS m.of):jA m cut=none:=by
 unfold jA QE; rw [decide_eq_false h]; rfl
theorem GW {m:Mem} {cut:List Int} (h:(cut.length:Int)=kS m.of) (hc:∀ (k:Nat) (c:Int),k<cut.length→cut[k]? = some c→0≤c∧c≤(m.gC k).length):jA m cut=some (Ad m cut cut.length):=by
 unfold jA; rw [if_pos]
 unfold QE
 rw [Bool.and_eq_true,List.all_eq_true]
 refine ⟨decide_eq_true h,λ k hk=>?_⟩
 have hk:=List.mem_range.1 hk
 rw [decide_eq_true_eq,List.getD_eq_getElem?_getD,List.getElem?_eq_getElem hk]
 exact hc k _ hk (List.getElem?_eq_getElem hk)
def QF:List Nat→List Int→Option (List Int)
 | p::ps,c::cs=>match QF ps cs with
  | some cs'=>some (c::cs')
  | none=>if c<p then some ((c+1)::List.replicate cs.length 0) else none
 | _,_=>none
theorem WH:∀ {ps:List Nat} {cs:List Int} {i:Nat} {p:Nat} {c:Int},ps[i]? = some p→cs[i]? = some c→QF (ps.drop (i+1)) (cs.drop (i+1))=none→c<p→
  QF ps cs=some (cs.take i++(c+1)::List.replicate (cs.length - (i+1)) 0)
 | p'::ps,c'::cs,0,p,c,hp,hc,hn,h=>by
  rw [List.getElem?_cons_zero] at hp hc
  obtain rfl:=Option.some.inj hp
  obtain rfl:=Option.some.inj hc
  have hn':QF ps cs=none:=hn
  simp [QF,hn',h]
 | p'::ps,c'::cs,i+1,p,c,hp,hc,hn,h=>by
  rw [List.getElem?_cons_succ] at hp hc
  have:=WH hp hc hn h
  simp [QF,this]
 | [],_,_,_,_,hp,_,_,_=>by simp at hp
 | _::_,[],_,_,_,_,hc,_,_=>by simp at hc
theorem WI:∀ {ps:List Nat} {cs:List Int} {i:Nat} {p:Nat} {c:Int},ps[i]? = some p→cs[i]? = some c→QF (ps.drop (i+1)) (cs.drop (i+1))=none→¬ c<p→QF (ps.drop i) (cs.drop i)=none
 | p'::ps,c'::cs,0,p,c,hp,hc,hn,h=>by
  rw [List.getElem?_cons_zero] at hp hc
  obtain rfl:=Option.some.inj hp
  obtain rfl:=Option.some.inj hc
  have hn':QF ps cs=none:=hn
  simp [QF,hn',h]
 | p'::ps,c'::cs,i+1,p,c,hp,hc,hn,h=>by
  rw [List.getElem?_cons_succ] at hp hc
  have:=WI hp hc hn h
  simpa using this
 | [],_,_,_,_,hp,_,_,_=>by simp at hp
 | _::_,[],_,_,_,_,hc,_,_=>by simp at hc
def ER (m:Mem) (n:Nat):List Nat:=(List.range n).map fun (i:Nat)=>(m.gC i).length
theorem ES {m:Mem} {n i:Nat} (h:i<n):(ER m n)[i]? = some (m.gC i).length:=by
 unfold ER; rw [List.getElem?_map,List.getElem?_range h]; rfl
def WJ (m:Mem) (cut:List Int):Option (List Int):=QF (ER m cut.length) cut
def yC (m:Mem) (pR:List Int):Mem:={m with kept:=pR,l:=pR++m.dC.drop pR.length,gC:=λ _=>[]}
theorem Ae {cs:List Int} {t:Nat} {x:Int} (h:t<cs.length):(cs.take (t+1)++List.replicate (cs.length - (t+1)) 0).set t x=cs.take t++x::List.replicate (cs.length - (t+1)) (0:Int):=by
 have e:cs.take (t+1)=cs.take t++[cs[t]]:=by rw [List.take_add_one,List.getElem?_eq_getElem h]; rfl
 rw [e,List.append_assoc,List.set_append_right _ _ (by rw [List.length_take]; omega),List.length_take,Nat.min_eq_left (Nat.le_of_lt h),Nat.sub_self]
 rfl
theorem WK {cs:List Int} {t:Nat} (h:t<cs.length):cs.take t++0::List.replicate (cs.length - (t+1)) (0:Int)=cs.take t++List.replicate (cs.length - t) 0:=by
 rw [show cs.length - t=(cs.length - (t+1))+1 from by omega,List.replicate_succ]
theorem C129 (p:Nat) (ov fv:Value) (m:Mem) (F:Nat→Prop) (line:Int) (w:World) (hF:(fU p ov fv m).p w F) (hK:∀ w',iy F w w'→ui ov fv m w') (hk:xj m) (hb:MB m 1000000):CR 129 [(.pointer (some ⟨p,0,none⟩)),.int .i64 line] w (λ v w'=>v = .int .i64 (if So m line=true then 0 else 1)∧qk F (fU p ov fv (vz m line)) w w'):=by
 have hs:=St.begin hF;obtain ⟨lv,kv,pm,hs⟩:=fU.open hs;have h20:=hk.fl;have Yo:=hk.QD;have Nm:=hk.ll;have KF:=hk.kl;have Qd:=hk.lb;refine Zh _ _ _ _ ?_;unfold S129;refine ⟨λ jv w'=>jv = .bool (decide (line<0∨kS m.of≤line))∧St w F [cD p [ov,fv,lv,kv,.map (some pm)],bK lv m.l,bK kv m.kept,oF pm m.gC] w',?_,?_⟩
 ·refine aR (aC (λ gn=>?_) (λ gn=>?_))
  ·exact ⟨vb (by first | exact (decide_eq_true (by omega)).symm | exact decide_eq_decide.2 (by omega)),hs⟩
  ·refine aZ T0 hs (C144 _ m _ (u9.mk' hs.hb (hK _ hs.aF) hs.p1.fK hs.p2.fK hs.p3.WA) hk) (λ w1 he hs=>dG ?_);exact ⟨vb (by first | exact (decide_eq_true (by omega)).symm | exact decide_eq_decide.2 (by omega)),hs⟩
 ·rintro _ w2 ⟨rfl,hs⟩ fy;refine aC (λ gP=>?_) (λ gP=>?_)
  ·have hs:=hs.p3.p3.p3.p3;have vh:So m line=false:=by unfold So; rw [decide_eq_false_iff_not]; omega
   unfold vz;rw [vh];exact ⟨rfl,(fU.shut hs).mut⟩
  ·refine aE (aA mW (aB rZ hs.hb rfl ?_));obtain ⟨afP,hs⟩:=(hs.p3).EM (k:=line);refine ⟨_,(hs.p1).Br Tryz.underlying201 oJ wW,?_⟩;have yN:=hb line;refine aJ vN (hs).fK ?_;have hs:=hs.p3.p3.p4.p4.p4;refine ⟨λ mm x w1=>∃ k:Nat,x = .int .i64 (k:Int)∧mm=(m.gC line).length - k∧k≤(m.gC line).length∧St w F [bK (Flat.val afP) (m.gC line),Ls pm m.gC line afP,bK kv (xJ m.kept ((m.gC line).take k)),cD p [ov,fv,lv,kv,.map (some pm)],bK lv m.l] w1,⟨_,0,rfl,rfl,Nat.zero_le _,hs⟩,?_⟩;rintro mm _ w3 ⟨k,rfl,rfl,Jn,hs⟩ jw;refine aR (aC (λ iO=>?_) (λ iO=>?_))
   ·obtain ⟨gQ,iq⟩:=gx ((m.gC line)) (i:=((k:Int)).toNat) (by omega);refine dS hs vN (by omega) (by omega) (λ _ vY=>?_);have hpc:=hk.pc line _ (List.mem_of_getElem? iq);refine gj hs PH vY iq (aN hs PI (λ b_w6 w4 hs=>aI (x:=gQ) hs PH rfl rfl (λ w5 hs=>aE (aA zu (have hs:=hs.drew;aB en hs.p4.hb rfl (aA Kd ?_))))));have hal:=Ac ((m.gC line).take k) m.kept;refine aB (v:=.int .i64 ((gQ).cell)) bL hs.hb rfl (aA Ke (aB (v:=.int .i64 ((gQ).n)) bL hs.hb rfl ?_));obtain ⟨vo,td⟩:=gx ((xJ m.kept ((m.gC line).take k))) (i:=((gQ).cell).toNat) (by omega)
    refine dS hs.p3 ee (by omega) (by omega) (λ _ rp=>lF _ hs.p3 bL rp (by omega) (λ w6 hs=>aO (by omega) ?_));have hs:=(hs.p1.drop.p4.p4.p2.p4).p4;exact ⟨_,by omega,k+1,rfl,rfl,by omega,by rw [GU (j:=k) iq]; exact hs⟩
   ·rw [List.take_of_length_le (by omega)] at hs;refine aE (aA mW (aB rZ hs.p3.hb rfl ?_));have hs:=hs.p1.p1.WB;rw [Sm] at hs;refine Lt hs rfl Tryz.underlying201 oJ (λ _ w7 hs=>?_);have hs:=hs.p1.p3.p3;have vh:So m line=true:=by unfold So; rw [decide_eq_true_eq]; omega
    have IN:vz m line={m with kept:=xJ m.kept (m.gC line),gC:=sY m.gC line []}:=by unfold vz; rw [if_pos vh]
    rw [IN,vh];exact ⟨rfl,(fU.shut (m:={m with kept:=_,gC:=_}) hs).mut⟩
theorem C125 (p:Nat) (m:Mem) (cut:List Int) (cv:Value) (w:World) (hm:u9 w p m) (hk:xj m) (hb:MB m 1000000) (hC:eI (λ _=>True) w cv cut) (ajI:cut.length≤1000):CR 125 [(.pointer (some ⟨p,0,none⟩)),cv] w (λ v w'=>(jA m cut=none∧v = .tuple #[.slice none 0 0,.int .i64 1]∧Ext w w')∨∃ pR o,jA m cut=some pR∧v = .tuple #[o,.int .i64 0]∧lW (bK o pR) w w'):=by
 have EO:=hm;obtain ⟨ov,fv,lv,kv,pm,c0,c1,c2,c3,c4,hO,Sp,hL,hKp,hP⟩:=hm;have h20:=hk.fl;have Yo:=hk.QD;have Nm:=hk.ll;have KF:=hk.kl;have Qd:=hk.lb;have hs:=St.start w;refine Zd _ _ _ _ ?_;unfold S125;refine aJ ee (hC.ext hs.aF) (aZ T0 hs (C144 _ m _ (EO.ext hs.aF) hk) (λ w1 he hs=>cS (aC (λ jG=>?_) (λ jG=>?_))))
 ·exact .inl ⟨WG (by omega),rfl,hs.aF⟩
 ·refine dB TU hs (C73 _ m _ (EO.ext hs.aF) hk) (λ x17 w2 bZ hs=>aJ ee (hC.ext hs.aF) ?_);refine ⟨λ mm x w1=>∃ k:Nat,x = .int .i64 (k:Int)∧mm=cut.length - k∧k≤cut.length∧(∀ (i:Nat) (c:Int),i<k→cut[i]? = some c→0≤c∧c≤(m.gC i).length)∧St w bD [bK x17 (Ad m cut k)] w1,⟨_,0,rfl,rfl,Nat.zero_le _,λ i c h=>absurd h (by omega),hs⟩,?_⟩;rintro mm _ w3 ⟨k,rfl,rfl,Jn,oB,hs⟩ fy;refine aR (aC (λ gr=>?_) (λ gr=>?_))
  ·obtain ⟨qZ,kp⟩:=gx (cut) (i:=((k:Int)).toNat) (by omega);refine aQ ee hC (by omega) kp (λ _ pI=>aD bL (pI.ext hs.aF) ?_);refine ⟨λ jv w'=>jv = .bool (decide (qZ<0∨(m.gC k).length<qZ))∧w3=w',?_,?_⟩
   ·refine aR (aC (λ si=>?_) (λ si=>?_))
    ·exact ⟨RB (by omega),rfl⟩
    ·refine aE (aA mW (cG rZ (c4.ext hs.aF) (Bq hP hs.aF Tryz.underlying201 oJ wW (λ aqv rp=>aJ vN (rp.ext hs.aF) (cZ ?_)))));exact ⟨xu (by omega),rfl⟩
   ·rintro _ w4 ⟨rfl,hw⟩ jw;subst hw;refine aC (λ tU=>?_) (λ tU=>?_)
    ·exact .inl ⟨WE (k:=k) kp (by omega),rfl,hs.aF⟩
    ·refine aE (aA mW (cG rZ (c4.ext hs.aF) (Bq hP hs.aF Tryz.underlying201 oJ wW (λ aoV xZ=>?_))));have ND:=hb k;have MZ:((m.gC k).take qZ.toNat).length≤(m.gC k).length:=by rw [List.length_take]; omega
     refine kL vN (xZ.ext hs.aF) (by omega) (by omega) (λ Wd NX=>?_);have IH:=NX _ xZ;refine aJ vN (IH.ext hs.aF) ?_;refine ⟨λ mm x w1=>∃ j:Nat,x = .int .i64 (j:Int)∧mm=((m.gC k).take qZ.toNat).length - j∧j≤((m.gC k).take qZ.toNat).length∧St w bD [bK x17 (xJ (Ad m cut k) (((m.gC k).take qZ.toNat).take j))] w1,⟨_,0,rfl,rfl,Nat.zero_le _,hs⟩,?_⟩;rintro mm _ w5 ⟨j,rfl,rfl,hj,hs⟩ oN;refine aR (aC (λ zK=>?_) (λ zK=>?_))
     ·obtain ⟨Ee,uV⟩:=gx ((((m.gC (k:Int))).take (qZ).toNat)) (i:=((j:Int)).toNat) (by omega);refine aQ vN IH (by omega) uV (λ _ Ef=>?_);have hpc:=hk.pc k _ (List.mem_of_mem_take (List.mem_of_getElem? uV));refine aD PH (Ef.ext hs.aF) (aN hs PI (λ b_w10 w6 hs=>aI (x:=Ee) hs PH rfl rfl (λ w7 hs=>aA Kd ?_)));have hal:=Ac (((m.gC k).take qZ.toNat).take j) (Ad m cut k);have hil:=uj m cut k;refine aB (v:=.int .i64 ((Ee).cell)) bL hs.hb rfl (aA Ke (aB (v:=.int .i64 ((Ee).n)) bL hs.hb rfl ?_));obtain ⟨aqw,ajJ⟩:=gx ((xJ (Ad m cut k) (((m.gC k).take qZ.toNat).take j))) (i:=((Ee).cell).toNat) (by omega)
      refine dS hs.p1 ee (by omega) (by omega) (λ _ Lv=>lF _ hs.p1 bL Lv (by omega) (λ w8 hs=>aO (by omega) ?_));have hs:=(hs.p1).drop;exact ⟨_,by omega,j+1,rfl,rfl,by omega,by rw [GU (j:=j) uV]; exact hs⟩
     ·rw [List.take_of_length_le (i:=j) (by omega)] at hs;refine aO (by omega) ?_;refine ⟨_,by omega,k+1,rfl,rfl,by omega,λ i c hi hc=>?_,?_⟩
      ·by_cases e:i=k
       ·subst e; obtain rfl:=Option.some.inj (hc.symm.trans kp); omega
       ·exact oB i c (by omega) hc
      ·rw [GV,List.getD_eq_getElem?_getD,show cut[k]? = some qZ from kp]; exact hs
  ·exact .inr ⟨_,_,GW (by omega) (λ i c hi hc=>oB i c (by omega) hc),rfl,by rw [show cut.length=k from by omega]; exact hs.fresh⟩
theorem C145 (p:Nat) (m:Mem) (cut:List Int) (cv:Value) (w:World) (hm:u9 w p m) (hk:xj m) (hb:MB m 1000000) (hC:eI (λ _=>True) w cv cut) (ajI:cut.length≤1000) (zg:∀ c∈cut,0≤c):CR 145 [(.pointer (some ⟨p,0,none⟩)),cv] w (λ v w'=>(WJ m cut=none∧v = .tuple #[.slice none 0 0,.bool false]∧Ext w w')∨∃ c o,WJ m cut=some c∧v = .tuple #[o,.bool true]∧lW (bK o c) w w'):=by
 have EO:=hm;obtain ⟨ov,fv,lv,kv,pm,c0,c1,c2,c3,c4,hO,Sp,hL,hKp,hP⟩:=hm;have hs:=St.start w;refine Zr _ _ _ _ ?_;unfold S145;refine dB zb hs (C70 _ _ _ (hC.ext hs.aF) (by omega)) (λ x9 w1 bZ hs=>?_);have hlx:cut.length=cut.length:=rfl;refine aJ ee (hs).fK (gy (by omega) ?_);refine ⟨λ mm x w1=>∃ t:Nat,x = .int .i64 ((t:Int) - 1)∧mm=t∧t≤cut.length∧QF ((ER m cut.length).drop t) (cut.drop t)=none∧St w bD [bK x9 (cut.take t++List.replicate (cut.length - t) 0)] w1,⟨_,cut.length,rfl,rfl,Nat.le_refl _,by rw [List.drop_eq_nil_of_le (Nat.le_refl _)]; cases (ER m cut.length).drop cut.length <;> rfl,by simpa using hs⟩,?_⟩
 rintro t _ w2 ⟨_,rfl,rfl,ht,fS,hs⟩ fy;refine dG (aC (λ gP=>?_) (λ gP=>?_))
 ·have hlx:(cut.take t++List.replicate (cut.length - t) 0).length=cut.length:=by rw [List.length_append,List.length_take,List.length_replicate]; omega
  obtain ⟨iX,fF⟩:=gx ((cut.take t++List.replicate (cut.length - t) 0)) (i:=(((t:Int) - 1)).toNat) (by omega);refine dS hs ee (by omega) (by omega) (λ _ jI=>?_);have hs:=hs.drew
  have hct:cut[t - 1]? = some iX:=by
   have:=fF;rw [show ((t:Int) - 1).toNat=t - 1 from by omega,List.getElem?_append_left (by rw [List.length_take]; omega),List.getElem?_take,if_pos (by omega)] at this;exact this
  have hx0:=zg _ (List.mem_of_getElem? hct);have he:=rfl (a:=iX);refine gj hs bL jI fF (aE (aA mW (cG rZ (c4.ext hs.aF) (Bq hP hs.aF Tryz.underlying201 oJ wW (λ s_x26 q7=>aJ vN (q7.ext hs.aF) (aR (aC (λ Lq=>?_) (λ Lq=>?_))))))))
  ·refine dS hs ee (by omega) (by omega) (λ _ oD=>gj hs bL oD fF ?_);have hbx:=hb ((t:Int) - 1);refine aO (by omega) (dS hs ee (by omega) (by omega) (λ _ rp=>lF _ hs bL rp (by omega) (λ w3 hs=>?_)));refine .inr ⟨_,_,WH (i:=t - 1) (ES (by omega)) hct (by rw [show t - 1+1=t from by omega]; exact fS) (by rw [show ((t - 1:Nat):Int)=(t:Int) - 1 from by omega]; omega),rfl,?_⟩;rw [he,show ((t:Int) - 1).toNat=t - 1 from by omega] at hs;have gk:=Ae (cs:=cut) (t:=t - 1) (x:=iX+1) (by omega);rw [show t - 1+1=t from by omega] at gk ⊢;rw [gk] at hs;exact hs.fresh
  ·have hbx:=hb ((t:Int) - 1);refine dS hs ee (by omega) (by omega) (λ _ Eb=>lF _ hs bL Eb (by omega) (λ w4 hs=>gy (by omega) ?_));refine ⟨_,by omega,t - 1,by congr 1; omega,rfl,by omega,WI (i:=t - 1) (ES (by omega)) hct (by rw [show t - 1+1=t from by omega]; exact fS) (by rw [show ((t - 1:Nat):Int)=(t:Int) - 1 from by omega]; omega),?_⟩;rw [show ((t:Int) - 1).toNat=t - 1 from by omega] at hs;have gk:=Ae (cs:=cut) (t:=t - 1) (x:=0) (by omega);rw [show t - 1+1=t from by omega] at gk;rw [gk] at hs;have hrs:=WK (cs:=cut) (t:=t - 1) (by omega);rw [show t - 1+1=t from by omega] at hrs;rw [hrs] at hs
   exact hs
 ·exact .inl ⟨by unfold WJ; rw [show t=0 from by omega] at fS; simpa using fS,rfl,hs.drop.aF⟩
theorem C58 (p:Nat) (ov fv:Value) (m:Mem) (F:Nat→Prop) (cut:List Int) (cv:Value) (w:World) (hF:(fU p ov fv m).p w F) (hK:∀ w',iy F w w'→ui ov fv m w') (hk:xj m) (hb:MB m 1000000) (hC:∀ w',iy F w w'→eI (λ _=>True) w' cv cut) (ajI:cut.length≤1000):CR 58 [(.pointer (some ⟨p,0,none⟩)),cv] w (λ v w'=>(jA m cut=none∧v = .int .i64 1∧qk F (fU p ov fv m) w w')∨∃ pR,jA m cut=some pR∧v = .int .i64 0∧qk F (fU p ov fv (yC m pR)) w w'):=by
 have hs:=St.begin hF;obtain ⟨lv,kv,pm,hs⟩:=fU.open hs;have h20:=hk.fl;have Yo:=hk.QD;have Nm:=hk.ll;have KF:=hk.kl;have Qd:=hk.lb;refine ag9 _ _ _ _ ?_;unfold S58;refine ey aej (C125 _ m cut _ _ (u9.mk' hs.hb (hK _ hs.aF) hs.p1.fK hs.p2.fK hs.p3.WA) hk hb (hC _ hs.aF) (by omega)) ?_;rintro v_x10 w1 ajK
 rcases ajK with ⟨rA,rfl,he⟩ | ⟨IP,o_x10,rA,rfl,bZ⟩
 ·have hs:=hs.ext he;refine bE rfl (bE rfl (cS (gD (by decide) ?_)));have hs:=hs.p3.p3.p3.p3;exact .inl ⟨rA,rfl,(fU.shut hs).mut⟩
 ·have hs:=hs.made bZ;refine bE rfl (bE rfl (cS (fH (by decide) (aE (aA zu (aV hs.p1 en (eF rfl) ((hs).fK.one) (λ w2 hs=>aE (aA qS (have hs:=hs.drew;aB en hs.hb rfl (aE (aA Kc (aB en hs.hb rfl ?_))))))))))));refine Lu hs.p2 ee (hK _ hs.aF).2 (by omega) (λ w3 hs=>aE (aA qS (aB en hs.p1.hb rfl (Lu hs ee (hs.p2).fK (by rw [List.length_append,List.length_drop]; have hil:IP.length=m.of.length:=(by unfold jA at rA; split at rA <;> simp at rA; rw [← rA,uj]; exact KF); omega) (λ w4 hs=>ow (α:=ji) hs (λ b_x36 w5 hs=>aE (aA mW (aV hs.p2 rZ (eF rfl) (rfl) (λ w6 hs=>?_)))))))))
  have hs:=((hs.p4.drop.p4.drop.p1.p3).p3).p3;have hil:IP.length=m.of.length:=by unfold jA at rA; split at rA <;> simp at rA; rw [← rA,uj]; exact KF
  rw [show m.l.drop m.dC.length=[] from List.drop_eq_nil_of_le (by omega),List.append_nil] at hs;exact .inr ⟨_,rA,rfl,(fU.shut (m:=yC m IP) hs).mut⟩
end Go.Proofs.YtnjcingfdhjfkaaGreat
namespace Go.Fw
open Go.MapKept (Stamped IsKey)
open Go.ChangeMaps (setBlock)
section
variable {P:Program} {w w0 w':World} {A:Nat→Prop} {L:List HP} {b r:Nat}
def GX (r m since:Nat) (seen:Array Nat):HP where
 p w F:=w.heap[r]? = some (.mapIter (some m) since seen since)∧∀ k,F k↔k=r
 loc w w' F h hh:=⟨(hh r ((h.2 r).2 rfl)).trans h.1,h.2⟩
 lt w F b' h hb:=by rw [(h.2 b').1 hb]; exact jN h.1
theorem Sq {T Kt E:TypeId} {es:Array MapEntry} {clock:Nat} {K:Value→World→Prop} (hs:St w0 A L w) (ht:P.underlying T=some (.map Kt E)) (hb:w.heap[b]? = some (.map es clock))
  (k:∀ r w',St w0 A (GX r b clock #[]::L) w'→K (.pointer (some ⟨r,0,none⟩)) w'):gU P (Instr.range T (.map (some b))) w K:=
 ⟨_,_,run_range_map w T Kt E b es clock ht hb,k _ _ (hs.new (Ext.push w _) (F:=λ k=>k=w.heap.size) ⟨pk _ _,λ _=>Iff.rfl⟩ λ b hb=>by rw [hb]; exact Nat.le_refl _)⟩
theorem WL {T since:Nat} {seen:Array Nat} {es:Array MapEntry} {K:Value→World→Prop} (hs:St w0 A (GX r b since seen::L) w) (hb:w.heap[b]? = some (.map es since)) (hold:∀ x∈es.toList,x.born<since)
  (k0:(leftOf es seen).size=0→K (.tuple #[.bool false]) w)
  (k1:∀ e w',e∈(leftOf es seen).toList→St w0 A (GX r b since (seen.push e.born)::L) w'→K (.tuple #[.bool true,e.key,e.val]) w'):gU P (Instr.next (.pointer (some ⟨r,0,none⟩)) false T) w K:=by
 obtain ⟨F,h,_⟩:=hs.head
 rcases run_next_at (P:=P) w T r b since since seen es since h.1 hb hold (Nat.le_refl _) with ⟨h1,h2⟩ | ⟨e,he,w1,hw,h2⟩
 ·exact ⟨_,w,h2,k0 h1⟩
 ·have e1:St w0 A (GX r b since seen::L) w1:=by
   rcases hw with rfl | rfl
   ·exact hs
   ·exact hs.ext ⟨rfl,rfl,rfl,Nat.le_refl _,λ _ _ _=>rfl⟩
  refine ⟨_,_,h2,k1 e _ he (e1.rM λ F hF=>⟨F,⟨me _ (jN hF.1),hF.2⟩,λ b hb=>.inl hb,(iy.setBlock w1 r _).mono λ k hk=>(hF.2 k).2 hk⟩)⟩
theorem Sr {since:Nat} {seen:Array Nat} {es:Array MapEntry} {e:MapEntry} {K:Value→Prop} (hs:St w0 A (GX r b since (seen.push e.born)::L) w) (hb:w.heap[b]? = some (.map es since)) (he:e∈es.toList) (hn:(es.toList.map (·.born)).Nodup)
  (k:K (.tuple #[e.key,e.val])):C1 P (Instr.entry (.pointer (some ⟨r,0,none⟩))) w K:=by
 obtain ⟨F,h,_⟩:=hs.head
 exact ⟨_,run_entry_at w r b since seen es since e h.1 hb he hn,k⟩
theorem sw.es {α:Type} [Flat α] {f:Int→List α} (h:sw w b f):∃ es clock,w.heap[b]? = some (.map es clock)∧Stamped es clock∧(∀ e∈es.toList,∃ k,∃ s:SV,e.key = .int .i64 k∧e.val=Flat.val s∧eI (λ _=>True) w (Flat.val s) (f k))∧∀ k,(∀ e∈es.toList,e.key≠.int .i64 k)→f k=[]:=by
 obtain ⟨ks,ss,⟨es,clock,h1,h2,h3,h4⟩,h5,h6⟩:=h
 have Mu:es.toList.length=ks.length:=by have:=congrArg List.length h3; simpa using this
 have hls:es.toList.length=ss.length:=by have:=congrArg List.length h4; simpa using this
 refine ⟨es,clock,h1,h2,λ e he=>?_,λ k hk=>h6 k λ hm=>?_⟩
 ·obtain ⟨i,hi,rfl⟩:=List.getElem_of_mem he
  refine ⟨ks[i]'(by omega),ss[i]'(by omega),?_,?_,h5 i _ _ (List.getElem?_eq_getElem _) (List.getElem?_eq_getElem _)⟩
  ·have:=congrArg (·[i]?) h3
   simp only [List.getElem?_map,List.getElem?_eq_getElem hi,List.getElem?_eq_getElem (show i<ks.length by omega)] at this
   exact Option.some.inj this
  ·have:=congrArg (·[i]?) h4
   simp only [List.getElem?_map,List.getElem?_eq_getElem hi,List.getElem?_eq_getElem (show i<ss.length by omega)] at this
   exact Option.some.inj this
 ·have:Value.int .i64 k∈es.toList.map (·.key):=by rw [h3]; exact List.mem_map.2 ⟨k,hm,rfl⟩
  obtain ⟨e,he,ye⟩:=List.mem_map.1 this
  exact hk e he ye
theorem ET {o:Obj} (h:w.heap[b]? = some o) (e:Ext w w'):w'.heap[b]? = some o:=(e.cD b (jN h) λ h=>h).trans h
theorem EU {seen:Array Nat} {x y:Nat} (h:(seen.push x).contains y=true):seen.contains y=true∨y=x:=by
 simp at h ⊢; exact h
theorem born_inj {es:Array MapEntry} (hn:(es.toList.map (·.born)).Nodup) {e e':MapEntry} (h:e∈es.toList) (h':e'∈es.toList) (hb:e.born=e'.born):e=e':=by
 obtain ⟨i,hi,rfl⟩:=List.getElem_of_mem h
 obtain ⟨j,hj,rfl⟩:=List.getElem_of_mem h'
 have:=(List.getElem_inj (i:=i) (j:=j) (h₀:=by simpa using hi) (h₁:=by simpa using hj) hn).1 (by simpa using hb)
 subst this; rfl
end
section
variable {P:Program} {w w0 w':World} {A:Nat→Prop} {L:List HP} {b r:Nat}
def Lw (P:Program) (n T E:Nat):Prop:=P.underlying T=some (.array n E)∧P.underlying E=some (.int .i64)∧pr P (sizeOf E)=some 1
abbrev Af (xs:List Int):Value:=.agg (xs.map (Value.int .i64)).toArray
theorem Lx {β:Type} {f:Nat→β→Sem (ForInStep β)} {g:Nat→Bool} {x0 stop:β}:∀ l:List Nat,(∀ i∈l,pr P (f i x0)=some (if g i=true then .yield x0 else .done stop))→pr P (forIn l x0 f)=some (if l.all g=true then x0 else stop)
 | [],_=>by simp [fe]
 | i::l,h=>by
  rw [List.forIn_cons,cM,h i (by simp)]
  by_cases hg:g i=true
  ·rw [if_pos hg]
   simp only [Option.bind_some]
   rw [Lx l λ j hj=>h j (by simp [hj])]
   simp [hg]
  ·rw [if_neg hg]
   simp [hg,fe]
theorem yD {E:TypeId} {xs:List Int} {i:Nat} (hE:P.underlying E=some (.int .i64)) (hi:i<xs.length):pr P (part E (xs.map (Value.int .i64)).toArray i)=some (.int .i64 xs[i]):=
 HV (n:=0) hE rfl (by simp [hi])
theorem ac4 {n T E:Nat} {xs ys:List Int} (h:Lw P n T E) (hx:xs.length=n) (hy:ys.length=n):pr P (Op.equal T (Af xs) (Af ys))=some (decide (xs=ys)):=by
 obtain ⟨ht,he,hs⟩:=h
 have e:∀ x y:Int,pr P (Op.equalIn 9999 E (.int .i64 x) (.int .i64 y))=some (decide (x=y)):=λ x y=>by
  rw [BH (k:=9998) (n:=0) he rfl rfl rfl]; rfl
 show pr P (Op.equalIn (9999+1) T _ _)=_
 unfold Op.equalIn
 rw [cM,cL ht]
 simp only [Option.bind_some,cM,hs]
 simp only [Std.Legacy.Range.forIn_eq_forIn_range',Std.Legacy.Range.size,Nat.sub_zero,Nat.add_sub_cancel,Nat.div_one,Nat.mul_one]
 rw [Lx (g:=λ i=>decide (xs[i]? = ys[i]?)) (stop:=⟨some false,PUnit.unit⟩)]
 ·by_cases hxy:xs=ys
  ·subst hxy
   simp [fe]
  ·have:(List.range' 0 n).all (λ i=>decide (xs[i]? = ys[i]?))=false:=by
    rw [List.all_eq_false]
    apply Classical.byContradiction
    intro hc
    apply hxy
    apply List.ext_getElem?
    intro i
    apply Classical.byContradiction
    intro B7
    by_cases hi:i<n
    ·exact hc ⟨i,by simp [List.mem_range']; omega,by simpa using B7⟩
    ·exact B7 (by rw [List.getElem?_eq_none (by omega),List.getElem?_eq_none (by omega)])
   simp [this,hxy,fe]
 ·intro i hi
  have MN:i<n:=by simp [List.mem_range'] at hi; omega
  simp only [cM,yD he (show i<xs.length by omega),yD he (show i<ys.length by omega),Option.bind_some,e]
  rw [List.getElem?_eq_getElem (show i<xs.length by omega),List.getElem?_eq_getElem (show i<ys.length by omega)]
  by_cases hq:xs[i]'(by omega)=ys[i]'(by omega)
  ·simp [hq,fe]
  ·simp [hq,fe]
def N8 (b n:Nat) (ks:List (List Int)):HP where
 p w F:=(∃ es clock,w.heap[b]? = some (.map es clock)∧es.toList.map (·.key)=ks.map Af∧(∀ e∈es.toList,e.val = .bool true)∧∀ k∈ks,k.length=n)∧∀ k,F k↔k=b
 loc w w' F h hh:=by
  obtain ⟨⟨es,c,h1,h2⟩,h3⟩:=h; exact ⟨⟨es,c,(hh b ((h3 b).2 rfl)).trans h1,h2⟩,h3⟩
 lt w F b' h hb:=by obtain ⟨⟨es,c,h1,h2⟩,h3⟩:=h; rw [(h3 b').1 hb]; exact jN h1
theorem Ly {T n:TypeId} {K:Value→World→Prop} (hs:St w0 A L w) (k:∀ b w',St w0 A (N8 b n []::L) w'→K (.map (some b)) w'):gU P (Instr.makeMap T none) w K:=
 ⟨_,_,rfl,k _ _ (hs.new (Ext.push w (.map #[] 0)) (F:=λ k=>k=w.heap.size) ⟨⟨#[],0,pk _ _,rfl,by simp,by simp⟩,λ _=>Iff.rfl⟩ λ b hb=>by rw [hb]; exact Nat.le_refl _)⟩
theorem WM {T E n:Nat} {x:List Int} (h:Lw P n T E) (hx:x.length=n):∀ (es:List MapEntry) (ks:List (List Int)) (i:Nat),es.map (·.key)=ks.map Af→(∀ k∈ks,k.length=n)→(∀ e∈es,e.val = .bool true)→
  (x ∉ ks∧pr P (Instr.findAsking T (Af x) es i)=some none)∨(x∈ks∧∃ j,pr P (Instr.findAsking T (Af x) es i)=some (some (j,.bool true)))
 | [],ks,i,hk,_,_=>by
  have:ks=[]:=by simpa using hk.symm
  subst this
  exact .inl ⟨by simp,rfl⟩
 | e::es,[],i,hk,_,_=>by simp at hk
 | e::es,k::ks,i,hk,hl,hv=>by
  simp only [List.map_cons,List.cons.injEq] at hk
  have he:pr P (Op.equal T (Af x) e.key)=some (decide (x=k)):=by rw [hk.1]; exact ac4 h hx (hl k (by simp))
  unfold Instr.findAsking
  rw [cM,he]
  simp only [Option.bind_some]
  by_cases hxk:x=k
  ·subst hxk
   refine .inr ⟨by simp,i,?_⟩
   simp [fe,hv e (by simp)]
  ·rcases WM h hx es ks (i+1) hk.2 (λ k hk=>hl k (by simp [hk])) (λ e he=>hv e (by simp [he])) with ⟨h1,h2⟩ | ⟨h1,j,h2⟩
   ·exact .inl ⟨by simp [hxk,h1],by simp [hxk,h2]⟩
   ·exact .inr ⟨by simp [h1],j,by simp [hxk,h2]⟩
theorem Lz {E:TypeId} {x:Int} {em:Bool} (hE:P.underlying E=some (.int .i64)):pr P (Instr.checkKey em 9999 E (.int .i64 x))=some ():=by
 show pr P (Instr.checkKey em (9998+1) E _)=_
 unfold Instr.checkKey
 rw [cM,cL hE]; rfl
theorem EV {f:Nat→PUnit→Sem (ForInStep PUnit)}:∀ l:List Nat,(∀ i∈l,pr P (f i ⟨⟩)=some (.yield ⟨⟩))→pr P (forIn l PUnit.unit f)=some ⟨⟩
 | [],_=>by simp [fe]
 | i::l,h=>by
  rw [List.forIn_cons,cM,h i (by simp)]
  simp only [Option.bind_some]
  exact EV l λ j hj=>h j (by simp [hj])
theorem BY {T E n:Nat} {x:List Int} {em:Bool} (h:Lw P n T E) (hx:x.length=n):pr P (Instr.checkKey em 10000 T (Af x))=some ():=by
 obtain ⟨ht,he,hs⟩:=h
 show pr P (Instr.checkKey em (9999+1) T _)=_
 unfold Instr.checkKey
 rw [cM,cL ht]
 simp only [Option.bind_some,cM,hs]
 simp only [Std.Legacy.Range.forIn_eq_forIn_range',Std.Legacy.Range.size,Nat.sub_zero,Nat.add_sub_cancel,Nat.div_one,Nat.mul_one]
 rw [EV]
 ·rfl
 ·intro i hi
  have MN:i<n:=by simp [List.mem_range'] at hi; omega
  simp only [cM,hs,Option.bind_some,Nat.mul_one,yD he (show i<x.length by omega),Lz he,fe]
theorem QG {T E n:Nat} {x:List Int} {es:List MapEntry} {ks:List (List Int)} (h:Lw P n T E) (hx:x.length=n) (hk:es.map (·.key)=ks.map Af) (hl:∀ k∈ks,k.length=n) (hv:∀ e∈es,e.val = .bool true) :
  (x ∉ ks∧pr P (Instr.findKey T (Af x) es)=some none)∨(x∈ks∧∃ j,pr P (Instr.findKey T (Af x) es)=some (some (j,.bool true))):=by
 unfold Instr.findKey
 rw [cM,cL h.1]
 simp only [Option.bind_some]
 cases es with
 | nil=>
  have:ks=[]:=by simpa using hk.symm
  subst this
  exact .inl ⟨by simp,rfl⟩
 | cons e es=>exact WM h hx (e::es) ks 0 hk hl hv
theorem ac5 {T Kt E Et n:Nat} {x:List Int} {ks:List (List Int)} {K:Value→Prop} (hs:St w0 A (N8 b n ks::L) w) (ht:P.underlying T=some (.map Kt Et)) (h:Lw P n Kt E) (hz:qi P Et (.bool false)) (hx:x.length=n)
  (k:K (.bool (decide (x∈ks)))):C1 P (Instr.lookup T (.map (some b)) (Af x) false) w K:=by
 obtain ⟨F,⟨⟨es,c,h1,h2,h3,h4⟩,h5⟩,_⟩:=hs.head
 refine ⟨_,?_,k⟩
 have hz':(zeroValue Et).run P w = .ok (.bool false) w:=by
  unfold qi ej at hz
  cases hi:P.info? Et with
  | none=>rw [hi] at hz; cases hz
  | some i=>
   rw [hi] at hz
   simp only [Option.map_some,Option.some.injEq] at hz
   refine fo ?_ w
   unfold zeroValue; rw [cM,nw hi]; simp only [Option.bind_some,hz]; rfl
 have hc:=fo (BY (em:=es.isEmpty) h hx) w
 rcases QG h hx h2 h4 h3 with ⟨h6,h7⟩ | ⟨h6,j,h7⟩
 ·have h8:=fo h7 w
  simp [Instr.lookup,run_underlying ht,MapKept.run_getObj_map h1,hc,h8,hz',Result.andThen,h6]
 ·have h8:=fo h7 w
  simp [Instr.lookup,run_underlying ht,MapKept.run_getObj_map h1,hc,h8,Result.andThen,h6]
theorem ac6 {T Kt E Et n:Nat} {x:List Int} {ks:List (List Int)} {K:World→Prop} (hs:St w0 A (N8 b n ks::L) w) (ht:P.underlying T=some (.map Kt Et)) (h:Lw P n Kt E) (hx:x.length=n) (bZ:x ∉ ks)
  (k:∀ w',St w0 A (N8 b n (ks++[x])::L) w'→K w'):AN P (Instr.mapUpdate T (.map (some b)) (Af x) (.bool true)) w K:=by
 obtain ⟨F,⟨⟨es,c,h1,h2,h3,h4⟩,h5⟩,_⟩:=hs.head
 have hc:=fo (BY (em:=false) h hx) w
 rcases QG h hx h2 h4 h3 with ⟨h6,h7⟩ | ⟨h6,j,h7⟩
 ·have h8:=fo h7 w
  refine ⟨setBlock w b (.map (es.push ⟨Af x,.bool true,c⟩) (c+1)),?_,k _ (hs.rM λ F' hF=>⟨F',⟨⟨_,_,me _ (jN h1),by simp [h2],?_,?_⟩,hF.2⟩,λ b hb=>.inl hb,(iy.setBlock w b _).mono λ k hk=>(hF.2 k).2 hk⟩)⟩
  ·simp [Instr.mapUpdate,run_underlying ht,MapKept.run_getObj_map h1,hc,h8,rz h1,Result.andThen]
  ·intro e he; simp at he; rcases he with he | rfl
   ·exact h3 e (by simpa using he)
   ·rfl
  ·intro q hq; simp at hq; rcases hq with hq | rfl
   ·exact h4 q hq
   ·exact hx
 ·exact absurd h6 bZ
theorem bG {f:FuncId} {args:List Value} {H:HP} {H':Value→HP} {Φ:Value→World→Prop} {K:Value→World→Prop} (pl:Plain P f) (hs:St w0 A (H::L) w)
  (hc:∀ F,H.p w F→(∀ w',iy F w w'→St w0 A L w')→Calls P f args.toArray w (qg λ v w'=>Φ v w'∧qk F (H' v) w w')) (k:∀ v w',Φ v w'→St w0 A (H' v::L) w'→K v w'):C2 P f args w K:=by
 obtain ⟨U,F,U',h1,h2,h3,h4,h5⟩:=hs.sK
 refine ey pl (hc F h1 λ w' hw=>⟨hs.aF.trans hw (λ _ h=>h) λ b hb hf=>(h2 b hf).elim id λ hh=>by omega,U',h5.loc λ b hb=>hw.cD b (h5.lt b hb) λ hf=>h3 b hf hb⟩) λ v w' ⟨hΦ,hM⟩=>k v w' hΦ (hs.Uu h2 h3 h5 hM)
theorem WN {g:FuncId} {args first cap:List Value} {H:HP} {H':Value→HP} {Φ:Value→World→Prop} {K:Value→World→Prop} (pl:Plain P g) (hs:St w0 A (H::L) w)
  (hc:∀ F,H.p w F→(∀ w',iy F w w'→St w0 A L w')→Calls P g (first++args++cap).toArray w (qg λ v w'=>Φ v w'∧qk F (H' v) w w')) (k:∀ v w',Φ v w'→St w0 A (H' v::L) w'→K v w'):fY P (.func (.func g) first.toArray cap.toArray) args w K:=by
 obtain ⟨U,F,U',h1,h2,h3,h4,h5⟩:=hs.sK
 refine ga pl (hc F h1 λ w' hw=>⟨hs.aF.trans hw (λ _ h=>h) λ b hb hf=>(h2 b hf).elim id λ hh=>by omega,U',h5.loc λ b hb=>hw.cD b (h5.lt b hb) λ hf=>h3 b hf hb⟩) λ v w' ⟨hΦ,hM⟩=>k v w' hΦ (hs.Uu h2 h3 h5 hM)
theorem Ss {T E n:Nat} {K:Value→Prop} (h:Lw P n T E) (k:K (.slice (some ⟨b,0,none⟩) n n)):cT P (Instr.sliceAt T (.pointer (some ⟨b,0,none⟩)) none none none) K:=by
 refine ⟨_,?_,k⟩
 unfold Instr.sliceAt
 rw [cM,cL h.1]
 simp only [Option.bind_some,Instr.sureAddr,cM,fe,Instr.sliceBounds,h.2.2]
 simp [gM]
theorem ajL {xs:List Int} {n:Nat} (h:xs.length≤n):gV (List.replicate n (Value.int .i64 0)) 0 (flat xs)=(xs++List.replicate (n - xs.length) 0).map (Value.int .i64):=by
 have hf:flat xs=xs.map (Value.int .i64):=by
  induction xs with
  | nil=>rfl
  | cons x xs ih=>rw [i0,ih (by simp at h; omega)]; rfl
 have hl:(flat xs).length=xs.length:=by rw [hf,List.length_map]
 have:=kI [] (List.replicate xs.length (Value.int .i64 0)) (List.replicate (n - xs.length) (Value.int .i64 0)) (flat xs) (by rw [List.length_replicate,hl])
 rw [List.nil_append,List.nil_append,List.replicate_append_replicate,show xs.length+(n - xs.length)=n from by omega,List.length_nil] at this
 rw [this,hf,List.map_append,List.map_replicate]
theorem LA {T T2 E ox n dc:Nat} {z:Option Nat} {R:TypeId} {src:Value} {cs:List Value} {ys:List Int} {S:Nat→Prop} {K:Value→World→Prop} (hs:St w0 A (cD b cs::L) w) (ht:fa P T=some (E,Flat.sz Int,ox,z)) (xw:eI S w src ys) (hn:ys.length≤n) (MW:ys.length≤cs.length)
  (k:∀ w',St w0 A (cD b (gV cs 0 (flat ys))::L) w'→K (.int .i64 ys.length) w'):gU P (Builtin.copy_ #[T,T2] R [.slice (some ⟨b,0,none⟩) n dc,src].toArray) w K:=by
 obtain ⟨w',h1,h2,h3⟩:=EN (P:=P) (o:=0) (dn:=n) (dc:=dc) (T2:=T2) (R:=R) ht hs.hb xw hn (by change 0+ys.length * 1≤_; omega)
 exact ⟨_,w',h1,k w' (hs.rM λ F hF=>⟨F,⟨h2,hF.2⟩,λ b hb=>.inl hb,h3.mono λ k hk=>(hF.2 k).2 hk⟩)⟩
end
def Has (H:HP) (w:World):Prop:=∃ F,H.p w F
theorem St.has {w w0:World} {A:Nat→Prop} {L:List HP} {H:HP} (hs:St w0 A (H::L) w):Has H w:=by obtain ⟨F,h,_⟩:=hs.head; exact ⟨F,h⟩
theorem Has.ext {H:HP} {w w':World} (h:Has H w) (e:Ext w w'):Has H w':=by
 obtain ⟨F,h⟩:=h; exact ⟨F,H.loc _ _ _ h λ b hb=>e.cD b (H.lt _ _ _ h hb) λ x=>x⟩
theorem Has.st {H:HP} {w:World} (h:Has H w):∃ F,St w F [H] w:=by obtain ⟨F,h⟩:=h; exact ⟨F,St.begin h⟩
end Go.Fw
namespace Go.Proofs.YtnjcingfdhjfkaaGreat
open Go.Fw
def WO (of:List Int) (stays:Int) (dC:List Int):Mem:=⟨of.take stays.toNat,dC,dC,dC.take stays.toNat,λ _=>[]⟩
def fJ:List Nat→List (List Int)
 | []=>[[]]
 | p::ps=>(List.range (p+1)).flatMap fun (i:Nat)=>(fJ ps).map λ t=>(i:Int)::t
theorem va:∀ ps,(fJ ps).head? = some (List.replicate ps.length 0)
 | []=>rfl
 | p::ps=>by
  have ih:=va ps
  rw [fJ,List.range_succ_eq_map,List.flatMap_cons]
  cases h:fJ ps with
  | nil=>rw [h] at ih; cases ih
  | cons t ts=>
   rw [h] at ih; simp at ih
   simp [ih,List.replicate_succ]
theorem sy:∀ {ps:List Nat} {c:List Int},c∈fJ ps→c.length=ps.length
 | [],c,h=>by simp [fJ] at h; subst h; rfl
 | p::ps,c,h=>by
  simp only [fJ,List.mem_flatMap,List.mem_map] at h
  obtain ⟨i,_,t,ht,rfl⟩:=h
  simp [sy ht]
theorem GY:∀ {ps:List Nat} {c:List Int} {i p:Nat} {n:Int},c∈fJ ps→ps[i]? = some p→c[i]? = some n→0≤n∧n≤p
 | [],c,i,p,n,h,hp,_=>by simp at hp
 | q::ps,c,i,p,n,h,hp,hc=>by
  simp only [fJ,List.mem_flatMap,List.mem_map,List.mem_range] at h
  obtain ⟨j,hj,t,ht,rfl⟩:=h
  cases i with
  | zero=>simp at hp hc; subst hp hc; omega
  | succ i=>
   rw [List.getElem?_cons_succ] at hp hc
   exact GY ht hp hc
theorem te {α β:Type} {f:α→List β}:∀ {l:List α} {d:List β} {c:β} {r:List β},l.flatMap f=d++c::r→∃ l1 x l2 d' r',l=l1++x::l2∧f x=d'++c::r'∧r=r'++l2.flatMap f
 | [],d,c,r,h=>by simp at h
 | x::l,d,c,r,h=>by
  rw [List.flatMap_cons] at h
  rcases List.append_eq_append_iff.1 h with ⟨a',h1,h2⟩ | ⟨c',h1,h2⟩
  ·obtain ⟨l1,y,l2,d',r',e1,e2,e3⟩:=te h2
   exact ⟨x::l1,y,l2,d',r',by rw [e1]; rfl,e2,e3⟩
  ·cases c' with
   | nil=>
    obtain ⟨l1,y,l2,d',r',e1,e2,e3⟩:=te (f:=f) (l:=l) (d:=[]) (c:=c) (r:=r) (by simpa using h2.symm)
    exact ⟨x::l1,y,l2,d',r',by rw [e1]; rfl,e2,e3⟩
   | cons y ys=>
    simp at h2
    exact ⟨[],x,l,d,ys,rfl,by rw [h1,h2.1],h2.2⟩
theorem LB {n:Nat} {l1 l2:List Nat} {x:Nat} (h:List.range n=l1++x::l2):x<n∧l2.head? = if x+1<n then some (x+1) else none:=by
 have hx:(List.range n)[l1.length]? = some x:=by rw [h,List.getElem?_append_right (Nat.le_refl _)]; simp
 have mv:l1.length<n:=by have:=(List.getElem?_eq_some_iff.1 hx).1; simpa using this
 have O7:x=l1.length:=by rw [List.getElem?_range mv] at hx; exact (Option.some.inj hx).symm
 refine ⟨by omega,?_⟩
 have h2:(List.range n)[l1.length+1]? = l2.head?:=by
  rw [h,List.getElem?_append_right (by omega),show l1.length+1 - l1.length=1 from by omega,List.getElem?_cons_succ]
  cases l2 <;> rfl
 rw [← h2]
 by_cases hh:x+1<n
 ·rw [if_pos hh,List.getElem?_range (by omega)]; congr 1; omega
 ·rw [if_neg hh,List.getElem?_eq_none (by simp; omega)]
theorem QH:∀ {ps:List Nat} {d:List (List Int)} {c:List Int} {r:List (List Int)},fJ ps=d++c::r→QF ps c=r.head?
 | [],d,c,r,h=>by
  simp [fJ] at h
  cases d with
  | nil=>simp at h; obtain ⟨rfl,rfl⟩:=h; rfl
  | cons x d=>simp at h
 | p::ps,d,c,r,h=>by
  rw [fJ] at h
  obtain ⟨l1,x,l2,d',r',e1,e2,e3⟩:=te h
  obtain ⟨hx,C7⟩:=LB e1
  obtain ⟨a,b,ha,hb,hc⟩:=List.map_eq_append_iff.1 e2
  obtain ⟨t,ts,rfl,hct,hts⟩:=List.map_eq_cons_iff.1 hc
  subst hct
  have ih:=QH ha
  rw [e3,← hts]
  show (match QF ps t with | some cs'=>some ((x:Int)::cs') | none=>if (x:Int)<p then some (((x:Int)+1)::List.replicate t.length 0) else none)=_
  rw [ih]
  cases ts with
  | cons t' ts=>rfl
  | nil=>
   simp only [List.head?_nil,List.map_nil,List.nil_append]
   cases l2 with
   | nil=>
    simp at C7
    rw [if_neg (by omega)]; rfl
   | cons y l2=>
    simp only [List.head?_cons] at C7
    split at C7
    ·obtain rfl:=Option.some.inj C7
     rw [if_pos (by omega),List.flatMap_cons]
     have MZ:t.length=ps.length:=sy (ps:=ps) (by rw [ha]; simp)
     have hh:=va ps
     cases hq:fJ ps with
     | nil=>rw [hq] at hh; cases hh
     | cons u us=>
      rw [hq] at hh; simp at hh
      simp [hh,MZ]
    ·cases C7
def My (f:List Int→List Int) (l:List (List Int)):List (List Int) × List (List Int):=l.foldl (λ s c=>if f c∈s.2 then s else (s.1++[c],s.2++[f c])) ([],[])
theorem LC (f:List Int→List Int) (l:List (List Int)) (c:List Int):My f (l++[c])=if f c∈(My f l).2 then My f l else ((My f l).1++[c],(My f l).2++[f c]):=by
 unfold My; rw [List.foldl_append]; rfl
theorem LD (f:List Int→List Int):∀ (l:List (List Int)) (s:List (List Int) × List (List Int)),(l.foldl (λ s c=>if f c∈s.2 then s else (s.1++[c],s.2++[f c])) s).1.length≤s.1.length+l.length
 | [],s=>Nat.le_refl _
 | c::l,s=>by
  rw [List.foldl_cons]
  refine Nat.le_trans (LD f l _) ?_
  split
  ·simp
  ·simp; omega
theorem QI (f:List Int→List Int) (l:List (List Int)):(My f l).1.length≤l.length:=by
 have h:(My f l).1.length≤([]:List (List Int)).length+l.length:=LD f l ([],[])
 simpa using h
def aqy (xs:List Int):List Int:=xs++List.replicate (20 - xs.length) 0
def um (m:Mem) (c:List Int):List Int:=aqy (Ad m c c.length)
def IQ (m:Mem):List Nat:=ER m (kS m.of).toNat
def GZ (m:Mem):List (List Int):=(My (um m) (fJ (IQ m))).1
theorem IS (m:Mem):(IQ m).length=(kS m.of).toNat:=by unfold IQ ER; simp
theorem G0 {m:Mem} (hk:xj m):0≤kS m.of:=by
 unfold kS; split
 ·omega
 ·rename_i h
  have hx:m.of.getD (m.of.length - 1) 0∈m.of:=by rw [List.getD_eq_getElem?_getD,List.getElem?_eq_getElem (by omega)]; exact List.getElem_mem _
  have:=(hk.ofr _ hx).1
  omega
theorem ajM {m:Mem} (hk:xj m) {c:List Int} (h:c∈fJ (IQ m)):(c.length:Int)=kS m.of∧jA m c=some (Ad m c c.length)∧(∀ n∈c,0≤n):=by
 have hl:=sy h
 rw [IS] at hl
 have hn:=G0 hk
 have hb:∀ (k:Nat) (n:Int),k<c.length→c[k]? = some n→0≤n∧n≤(m.gC k).length:=λ k n KF hc=>by
  have:=GY h (i:=k) (p:=(m.gC k).length) (by unfold IQ; exact ES (by omega)) hc
  exact this
 refine ⟨by omega,GW (by omega) hb,λ n hn=>?_⟩
 obtain ⟨i,hi,rfl⟩:=List.getElem_of_mem hn
 exact (hb i _ hi (List.getElem?_eq_getElem hi)).1
theorem LF {m:Mem} {d:List (List Int)} {c:List Int} {r:List (List Int)} (h:fJ (IQ m)=d++c::r):WJ m c=r.head?:=by
 have hl:c.length=(IQ m).length:=sy (by rw [h]; simp)
 rw [IS] at hl
 unfold WJ
 rw [hl]; exact QH h
def ac8 (v:Value):List (List Int)→HP
 | []=>emp
 | c::_=>bK v c
theorem ac8.nil {w w0:World} {A:Nat→Prop} {L:List HP} {v:Value} (hs:St w0 A L w):St w0 A (ac8 v []::L) w:=hs.new (Ext.refl w) (H:=emp) (F:=bD) (λ _ h=>h) λ _ h=>h.elim
theorem G3 (ps:List Nat):fJ ps=List.replicate ps.length 0::(fJ ps).tail:=by
 have:=va ps
 cases h:fJ ps with
 | nil=>rw [h] at this; cases this
 | cons x xs=>rw [h] at this; simp at this; rw [this]; rfl
theorem N9:Lw PG 20 221 3:=⟨Tryz.underlying221,oJ,(jB bL).2⟩
theorem C54 (of dC:List Int) (stays:Int) (av bv:Value) (w:World) (hO:eI (λ _=>True) w av of) (Sp:eI (λ _=>True) w bv dC) (hlen:of.length=dC.length) (h20:of.length≤20) (gk:0≤stays∧stays≤of.length) (Tm:∀ (k:Nat) (n:Int),(k:Int)<stays→of[k]? = some n→(n=lq of k∨(0<k∧n=lq of k - 1))∧-10≤n∧n≤100):CR 54 [av,.int .i64 stays,bv] w (λ v w'=>∃ (p:Nat) (ov fv:SV),v = .tuple #[.pointer (some ⟨p,0,none⟩),.int .i64 0]∧lW (sep (bK (Flat.val ov) (of.take stays.toNat)) (sep (bK (Flat.val fv) dC) (fU p (Flat.val ov) (Flat.val fv) (WO of stays dC)))) w w'):=by
 have hs:=St.start w;refine ag5 _ _ _ _ _ ?_;unfold S54;refine ⟨λ jv w'=>jv = .bool (decide (of.length≠dC.length∨20<of.length∨stays<0∨of.length<stays))∧w=w',?_,?_⟩
 ·refine aJ ee (hO.ext hs.aF) (aJ ee (Sp.ext hs.aF) (cS (aC (λ eA=>?_) (λ eA=>?_))))
  ·exact ⟨RB (by omega),rfl⟩
  ·refine aJ ee (hO.ext hs.aF) (cZ (aC (λ jr=>?_) (λ jr=>?_)))
   ·exact ⟨RB (by omega),rfl⟩
   ·refine aR (aC (λ ib=>?_) (λ ib=>?_))
    ·exact ⟨RB (by omega),rfl⟩
    ·refine aJ ee (hO.ext hs.aF) (cZ ?_);exact ⟨xu (by omega),rfl⟩
 ·rintro _ w1 ⟨rfl,hw⟩ fy;subst hw;refine aC (λ lK=>?_) (λ lK=>?_)
  ·exact absurd lK (by omega)
  ·refine kL ee (hO.ext hs.aF) (by omega) (by omega) (λ aqv ajN=>?_);have WQ:=ajN _ hO;refine aJ ee (WQ.ext hs.aF) ?_;refine ⟨λ mm l x w1=>∃ (k:Nat) (last:Int),l = .int .i64 last∧x = .int .i64 (k:Int)∧mm=(of.take stays.toNat).length - k∧k≤(of.take stays.toNat).length∧last=lq of k - 1∧-200≤last∧last≤200∧St w bD [] w1,⟨_,0,-1,rfl,rfl,rfl,Nat.zero_le _,rfl,by omega,by omega,hs⟩,?_⟩;rintro mm _ _ w2 ⟨k,last,rfl,rfl,rfl,Jn,afF,hl7,hl8,hs⟩ jw;have MZ:(of.take stays.toNat).length=stays.toNat:=by rw [List.length_take]; omega
   refine aR (aC (λ tU=>?_) (λ tU=>?_))
   ·obtain ⟨qo,pY⟩:=gx (((of).take (stays).toNat)) (i:=((k:Int)).toNat) (by omega);refine aQ ee WQ (by omega) pY (λ _ tY=>?_)
    have ajO:of[k]? = some qo:=by
     have h0:=pY;rw [List.getElem?_take] at h0
     split at h0
     ·exact h0
     ·cases h0
    obtain ⟨hl1,C7,hl3⟩:=Tm k _ (by omega) ajO;refine aD bL (tY.ext hs.aF) ?_;refine ⟨λ jv w'=>jv = .bool (decide (qo≠last+1∧(k=0∨qo≠last)))∧w2=w',?_,?_⟩
    ·refine aO (by omega) (cS (aC (λ pJ=>?_) (λ pJ=>?_)))
     ·refine aH (aC (λ ri=>?_) (λ ri=>?_))
      ·exact ⟨RB (by omega),rfl⟩
      ·refine cS ?_;exact ⟨xu (by omega),rfl⟩
     ·exact ⟨YF (by omega),rfl⟩
    ·rintro _ w3 ⟨rfl,hw⟩ oN;subst hw;refine aC (λ BP=>?_) (λ BP=>?_)
     ·exact absurd BP (by have:=Tm k qo (by omega) ajO; simp; omega)
     ·have hws:lq of (k+1)=qo+1:=by unfold lq; rw [if_neg (by omega),Nat.add_sub_cancel,List.getD_eq_getElem?_getD,ajO]; rfl
      refine aO (by omega) ?_;exact ⟨_,by omega,k+1,qo,rfl,rfl,rfl,by omega,by omega,by omega,by omega,hs⟩
   ·refine kL ee (hO.ext hs.aF) (by omega) (by omega) (λ s_x58 ajP=>?_);have ajQ:=ajP _ hO;refine dB zb hs (C70 _ _ _ (ajQ.ext hs.aF) (by first | omega | (rw [List.length_take]; omega))) (λ x59 w4 bZ hs=>dB zb hs (C70 _ _ _ (Sp.ext hs.aF) (by first | omega | (rw [List.length_take]; omega))) (λ x61 w5 bZ hs=>dB zb hs (C70 _ _ _ (Sp.ext hs.aF) (by first | omega | (rw [List.length_take]; omega))) (λ x63 w6 bZ hs=>ow (α:=ji) hs (λ b_x64 w7 hs=>?_))));obtain ⟨ajR,rfl⟩:=(hs.p3).fQ;obtain ⟨IB,rfl⟩:=(hs.p2).fQ;obtain ⟨axZ,rfl⟩:=(hs.p1).fQ;refine pop (Dw _ _ _ _ _ _ _ _ _ _) (lR hs (λ aqz w8 hs=>kL ee (Sp.ext hs.aF) (by omega) (by omega) (λ afQ ajS=>?_)))
    have ajT:=ajS _ Sp;refine dB zb hs (C70 _ _ _ (ajT.ext hs.aF) (by first | omega | (rw [List.length_take]; omega))) (λ x71 w9 bZ hs=>aE (aA zu (aV hs.p1 en (eF rfl) ((hs).fK.one) (λ pQ hs=>?_))));have hs:=fU.shut (m:=WO of stays dC) hs.p4.p5.p4.p4.p5.p5;exact ⟨aqz,ajR,IB,rfl,(St.join (St.join hs.p2).p1).fresh⟩
theorem C69 (p:Nat) (m:Mem) (ov fv:SV) (w:World) (c0:Cell w p 0 (Flat.val ov)) (c1:Cell w p 1 (Flat.val fv)) (hm:u9 w p m) (hk:xj m) (hb:MB m 1000000):CR 69 [(.pointer (some ⟨p,0,none⟩))] w (λ v w'=>∃ b,v = .pointer (some ⟨b,0,none⟩)∧lW (fU b (Flat.val ov) (Flat.val fv) m) w w'):=by
 have EO:=hm;obtain ⟨ov2,fv2,lv,kv,pm,_,_,c2,c3,c4,hO,Sp,hL,hKp,hP⟩:=hm;obtain ⟨es,clock,Yk,gk,hkv,AL⟩:=hP.es;have h20:=hk.fl;have Yo:=hk.QD;have Nm:=hk.ll;have KF:=hk.kl;have Qd:=hk.lb;have hs:=St.start w;refine ahk _ _ _ ?_;unfold S69;refine ⟨λ c3 w'=>∃ b lv1 kv1 pm1,c3 = .pointer (some ⟨b,0,none⟩)∧St w bD [cD b [Flat.val ov,Flat.val fv,lv1,kv1,.map (some pm1)],bK lv1 m.l,bK kv1 m.kept,oF pm1 (λ _=>([]:List ji))] w',?_,?_⟩
 ·refine aE (aA tM (have hs:=hs.drew;cG en (c0.ext hs.aF) (aE (aA Kc (cG en (c1.ext hs.aF) ?_)))));refine ⟨?_,?_⟩
  ·refine dB ahs hs (C72 _ m _ (EO.ext hs.aF) hk) (λ x15 w1 bZ hs=>?_);refine ⟨aG en (c0.ext hs.aF),?_⟩;refine ⟨aG en (c1.ext hs.aF),?_⟩;refine ⟨?_,?_⟩
   ·refine dB TU hs (C73 _ m _ (EO.ext hs.aF) hk) (λ x17 w2 bZ hs=>?_);refine ⟨aG en (c0.ext hs.aF),?_⟩;refine ⟨aG en (c1.ext hs.aF),?_⟩;refine ow (α:=ji) hs (λ UG w3 hs=>?_);refine ⟨aG en (c0.ext hs.aF),?_⟩;refine ⟨aG en (c1.ext hs.aF),?_⟩;obtain ⟨ajU,rfl⟩:=(hs.p2).fQ;obtain ⟨VT,rfl⟩:=(hs.p1).fQ;refine pop (oK _ _ _ _ _ _ _ _ _ _ _ _ _) (lR hs (λ b_x20 w4 hs=>?_));have hs:=hs.p1.p2.p3.p3;exact ⟨_,_,_,_,rfl,hs⟩
   ·refine ⟨?_,?_⟩
    ·refine ow (α:=ji) hs (λ as9 w5 hs=>?_);refine ⟨aG en (c0.ext hs.aF),?_⟩;refine ⟨aG en (c1.ext hs.aF),?_⟩;refine dB TU hs (C73 _ m _ (EO.ext hs.aF) hk) (λ apS w6 bZ hs=>?_);refine ⟨aG en (c0.ext hs.aF),?_⟩;refine ⟨aG en (c1.ext hs.aF),?_⟩;obtain ⟨ajU,rfl⟩:=(hs.p2).fQ;obtain ⟨Lk,rfl⟩:=(hs).fQ;refine pop (oK _ _ _ _ _ _ _ _ _ _ _ _ _) (lR hs (λ ata w7 hs=>?_));have hs:=hs.p2.p2.p3.p3;exact ⟨_,_,_,_,rfl,hs⟩
    ·trivial
  ·refine ⟨?_,?_⟩
   ·refine ow (α:=ji) hs (λ atb w8 hs=>?_);refine ⟨aG en (c0.ext hs.aF),?_⟩;refine ⟨aG en (c1.ext hs.aF),?_⟩;refine dB ahs hs (C72 _ m _ (EO.ext hs.aF) hk) (λ x15_1 w9 bZ hs=>?_);refine ⟨aG en (c0.ext hs.aF),?_⟩;refine ⟨aG en (c1.ext hs.aF),?_⟩;refine dB TU hs (C73 _ m _ (EO.ext hs.aF) hk) (λ apT pQ bZ hs=>?_);refine ⟨aG en (c0.ext hs.aF),?_⟩;refine ⟨aG en (c1.ext hs.aF),?_⟩;obtain ⟨aqD,rfl⟩:=(hs.p1).fQ;obtain ⟨Ll,rfl⟩:=(hs).fQ;refine pop (oK _ _ _ _ _ _ _ _ _ _ _ _ _) (lR hs (λ atc sP hs=>?_));have hs:=hs.p3.p2.p3.p3
    exact ⟨_,_,_,_,rfl,hs⟩
   ·trivial
 ·rintro _ vi ⟨b,lv1,kv1,pm1,rfl,hs⟩ fy;refine aE (aA mW (cG rZ (c4.ext hs.aF) (Sq hs Tryz.underlying201 (ET Yk hs.aF) (λ r25 vj hs=>?_))));have hs:=hs.p4.p4.p4.p4.p4;refine ⟨λ mm w1=>∃ (seen:Array Nat) (done:List Int),mm=(leftOf es seen).size∧(∀ e∈es.toList,seen.contains e.born=true→∃ k∈done,e.key = .int .i64 k)∧St w bD [GX r25 pm clock seen,cD b [Flat.val ov,Flat.val fv,lv1,kv1,.map (some pm1)],bK lv1 m.l,bK kv1 m.kept,oF pm1 (λ k=>if k∈done then m.gC k else [])] w1,⟨_,#[],[],rfl,λ e he hc=>by simp at hc,by simpa using hs⟩,?_⟩;rintro mm sd ⟨seen,done,rfl,afR,hs⟩ jw
  refine WL hs (ET Yk hs.aF) gk.1 (λ h0=>?_) (λ e vW he hs=>?_)
  ·refine bE rfl (fC ?_);have hs:=(hs.drop.p3.p3.p3).p3
   have hg:(λ k=>if k∈done then m.gC k else [])=m.gC:=by
    funext k
    by_cases hd:k∈done
    ·rw [if_pos hd]
    ·rw [if_neg hd];refine (AL k λ e he hek=>hd ?_).symm;obtain ⟨k2,Jn,hk3⟩:=afR e he (all_seen es seen h0 e he);rw [hek] at hk3; cases hk3; exact Jn
   rw [hg] at hs;exact ⟨b,rfl,(fU.shut hs).fresh⟩
  ·obtain ⟨k,sk,hek,hev,hrk⟩:=hkv e (mem_left he).1;refine bE rfl (nN (Sr hs (ET Yk hs.aF) (mem_left he).1 gk.2.1 ?_));rw [hek,hev];refine bE rfl (bE rfl (aE (aA mW (have hs:=hs.drew;aB rZ hs.p1.hb rfl (dB amP hs (C137 _ _ _ (hrk.ext hs.aF) (hb k)) (λ x37 yM bZ hs=>?_))))));refine ⟨aG rZ (hs.p2.hb.cell rfl),?_⟩;obtain ⟨s_w17,hs⟩:=(hs.p5).EM (k:=k);have hs:=hs.drop;obtain ⟨oT,rfl⟩:=(hs.p1).fQ;have hs:=hs.p1;refine BX hs Tryz.underlying201 oJ (λ Cd hs=>?_);have hs:=hs.p4.p4.p4.p4;refine ⟨_,left_shrinks es seen e he,seen.push e.born,k::done,rfl,λ e2 he2 hc=>?_,?_⟩
   ·rcases EU hc with h | h
    ·obtain ⟨k2,h1,h2⟩:=afR e2 he2 h; exact ⟨k2,List.mem_cons_of_mem _ h1,h2⟩
    ·obtain rfl:=born_inj gk.2.1 he2 (mem_left he).1 h; exact ⟨k,List.mem_cons_self,hek⟩
   ·have hg:sY (λ k=>if k∈done then m.gC k else []) k (m.gC k)=(λ k'=>if k'∈k::done then m.gC k' else []):=by
     funext k'; unfold sY
     by_cases e:k'=k
     ·subst e; simp
     ·simp [e]
    rw [hg] at hs; exact hs
theorem C82 (p:Nat) (m:Mem) (w:World) (hm:u9 w p m) (hk:xj m) (hb:MB m 1000000) (hC:(fJ (IQ m)).length≤1000000000):CR 82 [(.pointer (some ⟨p,0,none⟩))] w (λ v w'=>lW (fj v (GZ m)) w w'):=by
 have EO:=hm;obtain ⟨ov,fv,lv,kv,pm,c0,c1,c2,c3,c4,hO,Sp,hL,hKp,hP⟩:=hm;have h20:=hk.fl;have Yo:=hk.QD;have Nm:=hk.ll;have KF:=hk.kl;have Qd:=hk.lb;have hs:=St.start w;refine ahu _ _ _ ?_;unfold S82;refine Ly (n:=20) hs (λ b10 w1 hs=>aZ T0 hs (C144 _ m _ (EO.ext hs.aF) hk) (λ w2 he hs=>?_));have hnn:=G0 hk;refine vK (0:Int) hs ee BI (by omega) (by omega) (by decide) (λ s_x13 w3 hs=>?_);have hs:=(((hs.xC (α:=List Int)).p1).p2).p2;refine ⟨λ mm fV qJ is6 w1=>∃ (done rest:List (List Int)),fJ (IQ m)=done++rest∧is6 = .bool (!rest.isEmpty)∧mm=rest.length∧St w bD [fj fV (My (um m) done).1,N8 b10 20 (My (um m) done).2,ac8 qJ rest] w1,⟨_,[],fJ (IQ m),rfl,by rw [G3 (IQ m)]; rfl,rfl,by rw [G3 (IQ m),IS]; exact hs⟩,?_⟩
 rintro mm fV qJ _ w4 ⟨done,rest,mh,rfl,rfl,hs⟩ fy;refine aX (λ WR=>?_) (λ WR=>?_)
 ·obtain ⟨c,rest,rfl⟩:∃ c r,rest=c::r:=by cases rest with | nil=>cases WR | cons c r=>exact ⟨c,r,rfl⟩
  change St w bD [fj fV (My (um m) done).1,N8 b10 20 (My (um m) done).2,bK qJ c] _ at hs
  have Mz:c∈fJ (IQ m):=by rw [mh]; simp
  have hco:=ajM hk Mz;have Ql:=hco.1;have hdl:=QI (um m) done;have hdn:done.length≤(fJ (IQ m)).length:=by rw [mh]; simp
  have hil:(Ad m c c.length).length≤20:=by rw [uj]; omega
  have vf:(um m c).length=20:=by unfold um aqy; rw [List.length_append,List.length_replicate]; omega
  refine ⟨λ o w'=>St w bD [fj o (My (um m) (done++[c])).1,N8 b10 20 (My (um m) (done++[c])).2,bK qJ c] w',?_,?_⟩
  ·refine ey aej (C125 _ m c _ _ (EO.ext hs.aF) hk hb (hs.p2).fK (by omega)) ?_;rintro v24 w5 hh;obtain ⟨pR,o24,hi,rfl,bZ⟩:=hh.resolve_left (λ h=>by rw [hco.2.1] at h; cases h.1);obtain rfl:pR=(Ad m c c.length):=Option.some.inj (hi.symm.trans hco.2.1);have hs:=hs.made bZ;refine bE rfl (bE rfl (aN hs abh (λ ax1 w6 hs=>Ss N9 (LA hs ee (hs.p1).fK hil (by simp; omega) (λ w7 hs=>have hs:=hs.enc (cs':=(um m c).map (Value.int .i64)) (by exact ajL (n:=20) hil);qO aeL hs.hb (by rw [List.length_map]; exact vf) (ac5 hs.p3 Tryz.underlying218 N9 aeH vf ?_))))))
   first | refine Dg ?_ | refine bY ?_
   refine aC (λ nz=>?_) (λ nz=>?_)
   ·refine qO aeL hs.hb (by rw [List.length_map]; exact vf) (ac6 hs.p3 Tryz.underlying218 N9 vf nz (λ w8 hs=>dB zb hs (C70 _ _ _ (hs.p4).fK (by omega)) (λ x38 w9 bZ hs=>?_)));obtain ⟨WT,rfl⟩:=(hs).fQ;have hs:=hs.freeze.dN (Ψ:=λ w=>cA.dr w WT ((c))) (λ w h=>DL.fp h);refine eJ (s:=WT) (x:=(c)) hs xP (by decide) (λ afl pQ hs=>have hs:=hs.p4;dZ hs xP (by simp; omega) (by decide) (λ apw sP hs=>?_));have hs:=((hs.p2.drop.p2.drop.p2).p2).p2;rw [LC,if_neg (by simpa using nz)];exact hs
   ·have hs:=(((((hs.drop)).drop).p2).p2).p2;rw [LC,if_pos (by simpa using nz)];exact hs
  ·rintro nh vi hs jw;refine ey amQ (C145 _ m c _ _ (EO.ext hs.aF) hk hb (hs.p2).fK (by omega) hco.2.2) ?_;rintro v_x18 vj ajV
   rcases ajV with ⟨hn,rfl,he⟩ | ⟨c2,o18,hn,rfl,bZ⟩
   ·have hs:=hs.ext he;refine bE rfl (bE rfl ?_);rw [LF mh] at hn;have hs:=(hs.p2.drop.p1).p1;obtain rfl:rest=[]:=by simpa using hn
    exact ⟨_,by simp,done++[c],[],by rw [mh]; simp,rfl,rfl,(ac8.nil hs).p2.p2⟩
   ·have hs:=hs.made bZ;refine bE rfl (bE rfl ?_);rw [LF mh] at hn;have hs:=(hs.p3.drop.p2).p2;obtain ⟨r2,rfl⟩:∃ r,rest=c2::r:=by cases rest with | nil=>cases hn | cons y r=>exact ⟨r,by simp at hn; rw [hn]⟩
    exact ⟨_,by simp,done++[c],c2::r2,by rw [mh]; simp,rfl,rfl,hs⟩
 ·have hs:=((hs.p1.drop).p1).drop;obtain rfl:rest=[]:=by cases rest with | nil=>rfl | cons c r=>cases WR
  rw [List.append_nil] at mh;unfold GZ;rw [mh];exact hs.fresh
structure fM where
 code:fm
 at_:Int
 aK:List Int
 counts:List Int
 fault:Int
 e:Int
 f:Int
 buf:List bJ
def EW (K:World→Prop) (gl:Value) (l:List aW):Prop:=∃ ts:List bU,∀ w,K w→eI (λ _=>True) w gl ts∧jO ts l w
def eG (K:World→Prop) (p:Nat) (room:Int) (t:fM):HP:=tQ λ bp:Nat=>tQ λ gl=>tQ λ rg=>tQ λ cn=>fact (EW K gl t.code.l)
 (sep (cD p [.pointer (some ⟨bp,0,none⟩),.int .i64 t.code.aK,.int .i64 t.code.counts,gl,.int .i64 t.at_,rg,cn,.int .i64 t.fault,.int .i64 t.e,.int .i64 t.f]) (sep (nH bp room t.buf) (sep (bK rg t.aK) (bK cn t.counts))))
section
variable {w w0:World} {A:Nat→Prop} {R:List HP} {p:Nat} {K:World→Prop} {room:Int} {t:fM}
theorem eG.open (hs:St w0 A (eG K p room t::R) w):∃ bp gl rg cn,EW K gl t.code.l∧St w0 A (cD p [.pointer (some ⟨bp,0,none⟩),.int .i64 t.code.aK,.int .i64 t.code.counts,gl,.int .i64 t.at_,rg,cn,.int .i64 t.fault,.int .i64 t.e,.int .i64 t.f]::nH bp room t.buf::bK rg t.aK::bK cn t.counts::R) w:=by
 obtain ⟨bp,hs⟩:=hs.eT; obtain ⟨gl,hs⟩:=hs.eT; obtain ⟨rg,hs⟩:=hs.eT; obtain ⟨cn,hs⟩:=hs.eT; obtain ⟨hk,hs⟩:=hs.oA
 have h1:=hs.split
 have h2:=h1.p1.split
 have h3:=h2.p1.split
 exact ⟨bp,gl,rg,cn,hk,h3.p2.p3⟩
theorem eG.shut {bp:Nat} {gl rg cn:Value} (hk:EW K gl t.code.l) (hs:St w0 A (cD p [.pointer (some ⟨bp,0,none⟩),.int .i64 t.code.aK,.int .i64 t.code.counts,gl,.int .i64 t.at_,rg,cn,.int .i64 t.fault,.int .i64 t.e,.int .i64 t.f]::nH bp room t.buf::bK rg t.aK::bK cn t.counts::R) w):St w0 A (eG K p room t::R) w:=by
 have h1:=St.join (hs.p3.p3)
 have h2:=St.join h1.p2
 exact St.eN bp (St.eN gl (St.eN rg (St.eN cn (St.qj hk (St.join h2.p1)))))
theorem eG.rd (h:Has (eG K p room t) w):∃ bp gl rg cn,EW K gl t.code.l∧tz w p [.pointer (some ⟨bp,0,none⟩),.int .i64 t.code.aK,.int .i64 t.code.counts,gl,.int .i64 t.at_,rg,cn,.int .i64 t.fault,.int .i64 t.e,.int .i64 t.f]∧wy w bp room t.buf∧eI (λ _=>True) w rg t.aK∧eI (λ _=>True) w cn t.counts:=by
 obtain ⟨F,hs⟩:=h.st
 obtain ⟨bp,gl,rg,cn,hk,hs⟩:=eG.open hs
 exact ⟨bp,gl,rg,cn,hk,hs.hb,QA hs.p1,hs.p2.fK,hs.p3.fK⟩
end
def gR (t:fM):Option aW:=if (t.code.l.length:Int)≤t.at_ then none else t.code.l[t.at_.toNat]?
def eu (l:List nk) (aK:List Int):Int × Bool:=if l.length=0 then (0,true) else ((runM l aK).1,decide ((runM l aK).2=0))
def tE (t:fM) (x:aW):fM:={t with fault:=if (eu x.e t.aK).2=true then t.fault else 2,e:=(eu x.e t.aK).1}
def tF (t:fM) (x:aW):fM:={t with fault:=if (eu x.f t.aK).2=true then t.fault else 2,f:=(eu x.f t.aK).1}
def wB (t:fM) (x:aW) (e:Int):fM × Bool:=
 if x.kind=1 then ({t with aK:=t.aK.set x.a.toNat e,at_:=t.at_+1},true)
 else if x.kind=11 then ({t with at_:=x.to},true)
 else if x.kind=12 then (if e=0 then ({t with at_:=x.to},true) else ({t with at_:=t.at_+1},true))
 else if x.kind=13 then ({t with counts:=t.counts.set x.a.toNat x.b,at_:=t.at_+1},true)
 else if x.kind=14 then (if 0<qV (t.counts.getD x.a.toNat 0 - 1) then ({t with counts:=t.counts.set x.a.toNat (qV (t.counts.getD x.a.toNat 0 - 1)),at_:=x.to},true) else ({t with counts:=t.counts.set x.a.toNat (qV (t.counts.getD x.a.toNat 0 - 1)),at_:=t.at_+1},true))
 else if x.kind=15 then (if e=0 then ({t with fault:=1},false) else ({t with at_:=t.at_+1},true))
 else (t,false)
def fG (t:fM):fM × Bool:=match gR t with
 | none=>(t,false)
 | some x=>if (eu x.e t.aK).2=true then (if (eu x.f t.aK).2=true then wB (tF (tE t x) x) x (eu x.e t.aK).1 else (tF (tE t x) x,false)) else (tE t x,false)
def sI:Nat→fM→Option fM
 | 0,_=>none
 | n+1,t=>if (fG t).2=true then sI n (fG t).1 else some (fG t).1
structure Bs (c:fm):Prop where
 len:c.l.length≤1000000
 rb:0≤c.aK∧c.aK≤1000
 cb:0≤c.counts∧c.counts≤1000
 ops:∀ x∈c.l,x.e.length≤1000∧x.f.length≤1000∧0≤x.to∧x.to≤1000000
 set:∀ x∈c.l,x.kind=1→0≤x.a∧x.a<c.aK
 cnt:∀ x∈c.l,x.kind=13∨x.kind=14→0≤x.a∧x.a<c.counts
structure G4 (t:fM):Prop where
 code:Bs t.code
 rg:(t.aK.length:Int)=t.code.aK
 cn:(t.counts.length:Int)=t.code.counts
 Tl:0≤t.at_
 bl:t.buf.length≤1000
theorem qE {t:fM} {x:aW} (h:gR t=some x):x∈t.code.l∧t.at_<t.code.l.length:=by
 unfold gR at h
 split at h
 ·cases h
 ·exact ⟨List.mem_of_getElem? h,by omega⟩
theorem ajW {t:fM} {x:aW} {e:Int} (h:G4 t) (hx:x∈t.code.l):G4 (wB t x e).1:=by
 have h1:=h.Tl; have h2:=(h.code.ops x hx).2.2.1; have h3:=h.rg; have h4:=h.cn
 unfold wB
 repeat' split
 all_goals first
  | exact ⟨h.code,h3,h4,h2,h.bl⟩
  | exact ⟨h.code,h3,h4,h1,h.bl⟩
  | exact ⟨h.code,h3,h4,(by show 0≤t.at_+1; omega),h.bl⟩
  | exact ⟨h.code,(by simpa using h3),h4,(by show 0≤t.at_+1; omega),h.bl⟩
  | exact ⟨h.code,h3,(by simpa using h4),(by show 0≤t.at_+1; omega),h.bl⟩
  | exact ⟨h.code,h3,(by simpa using h4),h2,h.bl⟩
theorem ly {t:fM} (h:G4 t):G4 (fG t).1:=by
 unfold fG
 cases hn:gR t with
 | none=>exact h
 | some x=>
  have hx:=(qE hn).1
  have he:G4 (tE t x):=⟨h.code,h.rg,h.cn,h.Tl,h.bl⟩
  have hf:G4 (tF (tE t x) x):=⟨h.code,h.rg,h.cn,h.Tl,h.bl⟩
  dsimp only
  split
  ·split
   ·exact ajW hf hx
   ·exact hf
  ·exact he
theorem WU {n:Nat} {t tR:fM} (h:sI n t=some tR):∃ k,n=k+1:=by
 cases n with
 | zero=>cases h
 | succ k=>exact ⟨k,rfl⟩
theorem wC {k:Nat} {t tR t':fM} (h:sI (k+1) t=some tR) (hs:fG t=(t',true)):sI k t'=some tR:=by
 unfold sI at h; rw [hs] at h; exact h
theorem Ag {k:Nat} {t tR t':fM} (h:sI (k+1) t=some tR) (hs:fG t=(t',false)):tR=t':=by
 unfold sI at h; rw [hs] at h; exact (Option.some.inj h).symm
section
variable {t:fM} {x:aW} {e:Int}
theorem WV (h:x.kind=1):wB t x e=({t with aK:=t.aK.set x.a.toNat e,at_:=t.at_+1},true):=by unfold wB; rw [if_pos h]
theorem Oa (h:x.kind=11):wB t x e=({t with at_:=x.to},true):=by unfold wB; simp [h]
theorem IT (h:x.kind=12) (he:e=0):wB t x e=({t with at_:=x.to},true):=by unfold wB; simp [h,he]
theorem IU (h:x.kind=12) (he:¬ e=0):wB t x e=({t with at_:=t.at_+1},true):=by unfold wB; simp [h,he]
theorem Ob (h:x.kind=13):wB t x e=({t with counts:=t.counts.set x.a.toNat x.b,at_:=t.at_+1},true):=by unfold wB; simp [h]
theorem IV (h:x.kind=14) (he:0<qV (t.counts.getD x.a.toNat 0 - 1)):wB t x e=({t with counts:=t.counts.set x.a.toNat (qV (t.counts.getD x.a.toNat 0 - 1)),at_:=x.to},true):=by unfold wB; simp only [h,if_neg (show ¬ (14:Int)=1 by decide),if_neg (show ¬ (14:Int)=11 by decide),if_neg (show ¬ (14:Int)=12 by decide),if_neg (show ¬ (14:Int)=13 by decide),if_pos he,if_true]
theorem IW (h:x.kind=14) (he:¬ 0<qV (t.counts.getD x.a.toNat 0 - 1)):wB t x e=({t with counts:=t.counts.set x.a.toNat (qV (t.counts.getD x.a.toNat 0 - 1)),at_:=t.at_+1},true):=by unfold wB; simp only [h,if_neg (show ¬ (14:Int)=1 by decide),if_neg (show ¬ (14:Int)=11 by decide),if_neg (show ¬ (14:Int)=12 by decide),if_neg (show ¬ (14:Int)=13 by decide),if_neg he,if_true]
theorem IX (h:x.kind=15) (he:e=0):wB t x e=({t with fault:=1},false):=by unfold wB; simp [h,he]
theorem IY (h:x.kind=15) (he:¬ e=0):wB t x e=({t with at_:=t.at_+1},true):=by unfold wB; simp [h,he]
theorem Oc (h1:¬ x.kind=1) (h2:¬ x.kind=11) (h3:¬ x.kind=12) (h4:¬ x.kind=13) (h5:¬ x.kind=14) (h6:¬ x.kind=15):wB t x e=(t,false):=by unfold wB; rw [if_neg h1,if_neg h2,if_neg h3,if_neg h4,if_neg h5,if_neg h6]
theorem Ah (h:gR t=none):fG t=(t,false):=by unfold fG; rw [h]
theorem Ai (h:gR t=some x) (h2:(eu x.e t.aK).2=false):fG t=(tE t x,false):=by unfold fG; rw [h]; dsimp only; rw [h2]; rfl
theorem Aj (h:gR t=some x) (h2:(eu x.e t.aK).2=true) (h3:(eu x.f t.aK).2=false):fG t=(tF (tE t x) x,false):=by unfold fG; rw [h]; dsimp only; rw [h2,h3]; rfl
theorem kx (h:gR t=some x) (h2:(eu x.e t.aK).2=true) (h3:(eu x.f t.aK).2=true):fG t=wB (tF (tE t x) x) x (eu x.e t.aK).1:=by unfold fG; rw [h]; dsimp only; rw [h2,h3]; rfl
end
theorem C65 (K:World→Prop) (p:Nat) (room:Int) (t:fM) (w:World) (hh:Has (eG K p room t) w) (hw:K w) (oB:G4 t):CR 65 [(.pointer (some ⟨p,0,none⟩))] w (λ v w'=>(gR t=none∧v = .tuple #[Flat.val (⟨0,0,0,⟨none,0,0⟩,⟨none,0,0⟩,0⟩:bU),.bool false]∧Ext w w')∨∃ x xv,gR t=some x∧(∀ w,K w→cA.dr w xv x)∧v = .tuple #[Flat.val (xv:bU),.bool true]∧Ext w w'):=by
 obtain ⟨bp,gl,rg,cn,⟨ts0,hts⟩,pZ,hB,BR,hcn⟩:=eG.rd hh;have c0:=pZ.cell (o:=0) rfl;have c3:=pZ.cell (o:=3) rfl;have c4:=pZ.cell (o:=4) rfl;have c7:=pZ.cell (o:=7) rfl;have hDL0:True:=trivial;have hR0:=(hts w hw).1;have hD0:=(hts w hw).2;have hn0:=hD0.1;have Ql:=oB.code.len;have ax3:=oB.Tl;have hs:=St.start w;refine ahg _ _ _ ?_;unfold S65;refine aN hs mn (λ lY w1 hs=>have hs:=hs.enc (cs':=Flat.enc (⟨0,0,0,⟨none,0,0⟩,⟨none,0,0⟩,0⟩:bU)) rfl;aE (aA kf (have hs:=hs.drew;cG bL (c4.ext hs.aF) (aE (aA J8 (aA mj (cG uI (c3.ext hs.aF) (aJ kK (hR0.ext hs.aF) (dG (aC (λ gP=>?_) (λ gP=>?_)))))))))))
 ·refine pop (v:=Flat.val (⟨0,0,0,⟨none,0,0⟩,⟨none,0,0⟩,0⟩:bU)) (by kernel_rfl) (aI (x:=(⟨0,0,0,⟨none,0,0⟩,⟨none,0,0⟩,0⟩:bU)) hs lG rfl rfl (λ w2 hs=>aD lG hs.At ?_));exact .inl ⟨by unfold gR; rw [if_pos (by omega)],rfl,hs.drop.aF⟩
 ·refine aE (aA J8 (aA mj (have hs:=hs.drew;cG uI (c3.ext hs.aF) (aE (aA kf (cG bL (c4.ext hs.aF) ?_))))));obtain ⟨GL,pX⟩:=gx ts0 (i:=(t.at_).toNat) (by omega);obtain ⟨ek,wu⟩:=gx (t.code.l) (i:=(t.at_).toNat) (by omega);obtain ⟨xg,xh,rfl,Iy,Qr⟩:=hD0.2 _ _ _ pX wu;refine aQ kK hR0 (by omega) pX (λ _ ud=>aD lG (ud.ext hs.aF) (aI (x:=(⟨(ek).kind,(ek).a,(ek).b,xg,xh,(ek).to⟩:bU)) hs lG rfl rfl (λ w3 hs=>aD lG hs.At ?_)));exact .inr ⟨_,_,by unfold gR; rw [if_neg (by omega)]; exact wu,λ w hw=>(hts w hw).2.2 _ _ _ pX wu,rfl,hs.drop.aF⟩
theorem C189 (K:World→Prop) (p:Nat) (room:Int) (t:fM) (F:Nat→Prop) (lv:Value) (xs:List nk) (w:World) (hF:(eG K p room t).p w F) (hL:∀ w',iy F w w'→eI (λ _=>True) w' lv xs) (hn:xs.length≤1000):CR 189 [(.pointer (some ⟨p,0,none⟩)),lv] w (λ v w'=>v = .tuple #[.int .i64 (eu xs t.aK).1,.bool (eu xs t.aK).2]∧qk F (eG K p room {t with fault:=if (eu xs t.aK).2=true then t.fault else 2}) w w'):=by
 have hs:=St.begin hF;refine Z1 _ _ _ _ ?_;unfold S189;refine aJ vw (hL _ hs.aF) (aH (aC (λ fO=>?_) (λ fO=>?_)))
 ·have hv:eu xs t.aK=(0,true):=by unfold eu; rw [if_pos (by omega)]
  rw [hv];exact ⟨rfl,hs.mut⟩
 ·have hv:eu xs t.aK=((runM xs t.aK).1,decide ((runM xs t.aK).2=0)):=by unfold eu; rw [if_neg (by omega)]
  obtain ⟨bp,gl,rg,cn,qF,hs⟩:=eG.open hs;refine aE (aA px (aB en hs.hb rfl (aZ aed hs (C110 _ _ xs _ _ (hL _ hs.aF) (hs.p2).fK (by omega)) (λ w1 he hs=>bE rfl (bE rfl ?_)))));refine ⟨λ w'=>St w F [eG K p room {t with fault:=if (eu xs t.aK).2=true then t.fault else 2}] w',?_,?_⟩
  ·refine cS (aC (λ gr=>?_) (λ gr=>?_))
   ·refine aE (aA tH (aV hs bL (eF rfl) (rfl) (λ w2 hs=>?_)));have hs:=eG.shut (t:=(⟨t.code,t.at_,t.aK,t.counts,2,t.e,t.f,t.buf⟩:fM)) qF hs.p3.p3.p3.p3;have ht:(⟨t.code,t.at_,t.aK,t.counts,2,t.e,t.f,t.buf⟩:fM)={t with fault:=if (eu xs t.aK).2=true then t.fault else 2}:=by rw [hv]; dsimp only; rw [decide_eq_false (by omega)]; rfl
    rw [ht] at hs;exact hs
   ·have hs:=eG.shut (t:=(⟨t.code,t.at_,t.aK,t.counts,t.fault,t.e,t.f,t.buf⟩:fM)) qF hs.p3.p3.p3.p3;have ht:(⟨t.code,t.at_,t.aK,t.counts,t.fault,t.e,t.f,t.buf⟩:fM)={t with fault:=if (eu xs t.aK).2=true then t.fault else 2}:=by rw [hv]; dsimp only; rw [decide_eq_true (by omega)]; rfl
    rw [ht] at hs;exact hs
  ·intro w3 hs fy;refine aH ?_;refine ⟨?_,hs.mut⟩;rw [hv]
theorem C122 (K:World→Prop) (p:Nat) (room:Int) (t:fM) (tR:fM) (n:Nat) (F:Nat→Prop) (w:World) (hF:(eG K p room t).p w F) (hK:∀ w',iy F w w'→K w') (oB:G4 t) (hg:sI n t=some tR):CR 122 [(.pointer (some ⟨p,0,none⟩))] w (λ v w'=>v = .tuple #[]∧qk F (eG K p room tR) w w'):=by
 have hs:=St.begin hF;refine Za _ _ _ ?_;unfold S122;refine ⟨λ mm w'=>∃ t1:fM,sI mm t1=some tR∧G4 t1∧St w F [eG K p room t1] w',⟨n,t,hg,oB,hs⟩,?_⟩;rintro mm w1 ⟨t1,Fl,tf,hs⟩ fy;obtain ⟨k,rfl⟩:=WU Fl;refine ey YM (C65 K p room t1 _ hs.has (hK _ hs.aF) tf) ?_;rintro v_x8 w2 aqE
 rcases aqE with ⟨vp,rfl,he⟩ | ⟨x,xv,vp,hxv,rfl,he⟩
 ·have hs:=hs.ext he;refine bE rfl (bE rfl (aN hs mn (λ lY w3 hs=>have hs:=hs.enc (cs':=Flat.enc (⟨0,0,0,⟨none,0,0⟩,⟨none,0,0⟩,0⟩:bU)) rfl;aI (x:=(⟨0,0,0,⟨none,0,0⟩,⟨none,0,0⟩,0⟩:bU)) hs lG rfl rfl (λ w4 hs=>bY (nN ?_)))));have hs:=(hs).drop;rw [Ag Fl (Ah vp)];exact ⟨rfl,hs.mut⟩
 ·have hs:=hs.ext he;have hxm:=qE vp;obtain ⟨hxe,hxf,hxt0,hxt1⟩:=tf.code.ops x hxm.1;have aqF:=tf.code.set x hxm.1;have afT:=tf.code.cnt x hxm.1;have hrl1:=tf.rg;have hcl1:=tf.cn;have hcll:=tf.code.len;have hat1:=tf.Tl;obtain ⟨ge,gf,rfl,_,_⟩:=hxv _ (hK _ hs.aF)
  have hxE:∀ w,K w→eI (λ _=>True) w (Flat.val ge) x.e:=λ w hw=>by
   obtain ⟨ge',gf',hh,h1,_⟩:=hxv w hw;cases hh; exact DL.flat h1
  have hxF:∀ w,K w→eI (λ _=>True) w (Flat.val gf) x.f:=λ w hw=>by
   obtain ⟨ge',gf',hh,_,h2⟩:=hxv w hw;cases hh; exact DL.flat h2
  refine bE rfl (bE rfl (aN hs mn (λ lY w3 hs=>have hs:=hs.enc (cs':=Flat.enc (⟨0,0,0,⟨none,0,0⟩,⟨none,0,0⟩,0⟩:bU)) rfl;aI (x:=(⟨x.kind,x.a,x.b,ge,gf,x.to⟩:bU)) hs lG rfl rfl (λ w4 hs=>bY (fC (aA tJ (aB (v:=Flat.val (ge:SV)) xA hs.hb rfl (bG aet hs.p1 (H':=λ _=>eG K p room {t1 with fault:=if (eu x.e t1.aK).2=true then t1.fault else 2}) (Φ:=λ v _=>v = .tuple #[.int .i64 (eu x.e t1.aK).1,.bool (eu x.e t1.aK).2]) (λ F2 eO ew=>?_) ?_))))))))
  ·exact C189 K p room t1 F2 _ x.e _ eO (λ w' hc=>hxE w' (hK w' (ew w' hc).aF)) hxe
  rintro _ w5 rfl hs;refine bE rfl (bE rfl ?_);obtain ⟨bp,gl,rg,cn,qF,hs⟩:=eG.open hs
  change St _ _ (cD p [.pointer (some ⟨bp,0,none⟩),.int .i64 t1.code.aK,.int .i64 t1.code.counts,gl,.int .i64 t1.at_,rg,cn,.int .i64 (if (eu x.e t1.aK).2=true then t1.fault else 2),.int .i64 t1.e,.int .i64 t1.f]::nH bp room t1.buf::bK rg t1.aK::bK cn t1.counts::_) _ at hs
  refine aE (aA tI (aV hs bL (eF rfl) (rfl) (λ w6 hs=>bY (aX (λ ib=>?_) (λ ib=>?_)))))
  ·have hs:=eG.shut (t:=(⟨t1.code,t1.at_,t1.aK,t1.counts,(if (eu x.e t1.aK).2=true then t1.fault else 2),(eu x.e t1.aK).1,t1.f,t1.buf⟩:fM)) qF hs.p3.p3.p3.p3;have hs:=(hs.p1).drop;rw [Ag Fl (Ai vp (by simpa using ib))];exact ⟨rfl,hs.mut⟩
  ·have hs:=eG.shut (t:=(⟨t1.code,t1.at_,t1.aK,t1.counts,(if (eu x.e t1.aK).2=true then t1.fault else 2),(eu x.e t1.aK).1,t1.f,t1.buf⟩:fM)) qF hs.p3.p3.p3.p3
   change St w F (eG K p room (tE t1 x)::_) _ at hs
   refine aA tK (aB (v:=Flat.val (gf:SV)) xA hs.p1.hb rfl (bG aet hs (H':=λ _=>eG K p room { (tE t1 x) with fault:=if (eu x.f (tE t1 x).aK).2=true then (tE t1 x).fault else 2}) (Φ:=λ v _=>v = .tuple #[.int .i64 (eu x.f t1.aK).1,.bool (eu x.f t1.aK).2]) (λ F2 eO ew=>?_) ?_))
   ·exact C189 K p room (tE t1 x) F2 _ x.f _ eO (λ w' hc=>hxF w' (hK w' (ew w' hc).aF)) hxf
   rintro _ w7 rfl hs;refine bE rfl (bE rfl ?_);obtain ⟨bp,gl,rg,cn,qF,hs⟩:=eG.open hs
   change St _ _ (cD p [.pointer (some ⟨bp,0,none⟩),.int .i64 t1.code.aK,.int .i64 t1.code.counts,gl,.int .i64 t1.at_,rg,cn,.int .i64 (if (eu x.f t1.aK).2=true then (tE t1 x).fault else 2),.int .i64 (eu x.e t1.aK).1,.int .i64 t1.f]::nH bp room t1.buf::bK rg t1.aK::bK cn t1.counts::_) _ at hs
   refine aE (aA Dn (aV hs bL (eF rfl) (rfl) (λ w8 hs=>bY (aX (λ lh=>?_) (λ lh=>?_)))))
   ·have hs:=eG.shut (t:=(⟨t1.code,t1.at_,t1.aK,t1.counts,(if (eu x.f t1.aK).2=true then (tE t1 x).fault else 2),(eu x.e t1.aK).1,(eu x.f t1.aK).1,t1.buf⟩:fM)) qF hs.p3.p3.p3.p3;have hs:=(hs.p1).drop;rw [Ag Fl (Aj vp (by simpa using ib) (by simpa using lh))];exact ⟨rfl,hs.mut⟩
   ·refine aE (aA kf (aB bL hs.hb rfl (aO (by omega) ?_)));refine ⟨_,?_,λ _ _ h=>h⟩;refine aA je (aB (v:=.int .i64 x.kind) bL hs.p4.hb rfl (aH (aC (λ kG=>?_) (λ kG=>?_))))
    ·have hx1:=aqF kG;refine aE (aA px (have hs:=hs.drew;aB en hs.hb rfl (aA kh (aB (v:=.int .i64 x.a) bL hs.p4.hb rfl (aE (aA tI (aB bL hs.hb rfl ?_)))))));obtain ⟨aqw,ajJ⟩:=gx (t1.aK) (i:=(x.a).toNat) (by omega);refine dS hs.p2 ee (by omega) (by omega) (λ _ Lv=>lF _ hs.p2 bL Lv (by omega) (λ w9 hs=>?_));intro jw;refine aE (aA kf (aV hs.p1 bL (eF rfl) (rfl) (λ sd hs=>?_)));have hs:=eG.shut (t:=(⟨t1.code,(t1.at_+1),((t1.aK).set (x.a).toNat (eu x.e t1.aK).1),t1.counts,(if (eu x.f t1.aK).2=true then (tE t1 x).fault else 2),(eu x.e t1.aK).1,(eu x.f t1.aK).1,t1.buf⟩:fM)) qF hs.p3.p2.p3.p3
     have hs:=(hs.p1).drop
     have gk:fG t1=((⟨t1.code,(t1.at_+1),((t1.aK).set (x.a).toNat (eu x.e t1.aK).1),t1.counts,(if (eu x.f t1.aK).2=true then (tE t1 x).fault else 2),(eu x.e t1.aK).1,(eu x.f t1.aK).1,t1.buf⟩:fM),true):=by
      rw [kx vp (by simpa using ib) (by simpa using lh),WV kG]
      try rw [show (tF (tE t1 x) x).counts.getD x.a.toNat 0=nE from HS]
      try rfl
     exact ⟨k,by omega,_,wC Fl gk,by have:=ly tf; rw [gk] at this; exact this,hs⟩
    ·refine aH (aC (λ tZ=>?_) (λ tZ=>?_))
     ·refine aA ki (aB (v:=.int .i64 x.to) bL hs.p4.hb rfl ?_);intro jw;refine aE (aA kf (aV hs bL (eF rfl) (rfl) (λ sd hs=>?_)));have hs:=eG.shut (t:=(⟨t1.code,x.to,t1.aK,t1.counts,(if (eu x.f t1.aK).2=true then (tE t1 x).fault else 2),(eu x.e t1.aK).1,(eu x.f t1.aK).1,t1.buf⟩:fM)) qF hs.p3.p3.p3.p3;have hs:=(hs.p1).drop
      have gk:fG t1=((⟨t1.code,x.to,t1.aK,t1.counts,(if (eu x.f t1.aK).2=true then (tE t1 x).fault else 2),(eu x.e t1.aK).1,(eu x.f t1.aK).1,t1.buf⟩:fM),true):=by
       rw [kx vp (by simpa using ib) (by simpa using lh),Oa tZ]
       try rw [show (tF (tE t1 x) x).counts.getD x.a.toNat 0=nE from HS]
       try rfl
      exact ⟨k,by omega,_,wC Fl gk,by have:=ly tf; rw [gk] at this; exact this,hs⟩
     ·refine aH (aC (λ sj=>?_) (λ sj=>?_))
      ·refine aE (aA tI (aB bL hs.hb rfl (aH (aC (λ oh=>?_) (λ oh=>?_)))))
       ·refine aA ki (aB (v:=.int .i64 x.to) bL hs.p4.hb rfl ?_);intro jw;refine aE (aA kf (aV hs bL (eF rfl) (rfl) (λ sd hs=>?_)));have hs:=eG.shut (t:=(⟨t1.code,x.to,t1.aK,t1.counts,(if (eu x.f t1.aK).2=true then (tE t1 x).fault else 2),(eu x.e t1.aK).1,(eu x.f t1.aK).1,t1.buf⟩:fM)) qF hs.p3.p3.p3.p3;have hs:=(hs.p1).drop
        have gk:fG t1=((⟨t1.code,x.to,t1.aK,t1.counts,(if (eu x.f t1.aK).2=true then (tE t1 x).fault else 2),(eu x.e t1.aK).1,(eu x.f t1.aK).1,t1.buf⟩:fM),true):=by
         rw [kx vp (by simpa using ib) (by simpa using lh),IT sj oh]
         try rw [show (tF (tE t1 x) x).counts.getD x.a.toNat 0=nE from HS]
         try rfl
        exact ⟨k,by omega,_,wC Fl gk,by have:=ly tf; rw [gk] at this; exact this,hs⟩
       ·intro jw;refine aE (aA kf (aV hs bL (eF rfl) (rfl) (λ sd hs=>?_)));have hs:=eG.shut (t:=(⟨t1.code,(t1.at_+1),t1.aK,t1.counts,(if (eu x.f t1.aK).2=true then (tE t1 x).fault else 2),(eu x.e t1.aK).1,(eu x.f t1.aK).1,t1.buf⟩:fM)) qF hs.p3.p3.p3.p3;have hs:=(hs.p1).drop
        have gk:fG t1=((⟨t1.code,(t1.at_+1),t1.aK,t1.counts,(if (eu x.f t1.aK).2=true then (tE t1 x).fault else 2),(eu x.e t1.aK).1,(eu x.f t1.aK).1,t1.buf⟩:fM),true):=by
         rw [kx vp (by simpa using ib) (by simpa using lh),IU sj oh]
         try rw [show (tF (tE t1 x) x).counts.getD x.a.toNat 0=nE from HS]
         try rfl
        exact ⟨k,by omega,_,wC Fl gk,by have:=ly tf; rw [gk] at this; exact this,hs⟩
      ·refine aH (aC (λ vk=>?_) (λ vk=>?_))
       ·have hx1:=afT (.inl vk);refine aE (aA vM (have hs:=hs.drew;aB en hs.hb rfl (aA kh (aB (v:=.int .i64 x.a) bL hs.p4.hb rfl (aA eV (aB (v:=.int .i64 x.b) bL hs.p4.hb rfl ?_))))));obtain ⟨e_x80,ax4⟩:=gx (t1.counts) (i:=(x.a).toNat) (by omega);refine dS hs.p3 ee (by omega) (by omega) (λ _ aqG=>lF _ hs.p3 bL aqG (by omega) (λ pQ hs=>?_));intro jw;refine aE (aA kf (aV hs.p1 bL (eF rfl) (rfl) (λ sd hs=>?_)));have hs:=eG.shut (t:=(⟨t1.code,(t1.at_+1),t1.aK,((t1.counts).set (x.a).toNat x.b),(if (eu x.f t1.aK).2=true then (tE t1 x).fault else 2),(eu x.e t1.aK).1,(eu x.f t1.aK).1,t1.buf⟩:fM)) qF hs.p1.p3.p3.p3
        have hs:=(hs.p1).drop
        have gk:fG t1=((⟨t1.code,(t1.at_+1),t1.aK,((t1.counts).set (x.a).toNat x.b),(if (eu x.f t1.aK).2=true then (tE t1 x).fault else 2),(eu x.e t1.aK).1,(eu x.f t1.aK).1,t1.buf⟩:fM),true):=by
         rw [kx vp (by simpa using ib) (by simpa using lh),Ob vk]
         try rw [show (tF (tE t1 x) x).counts.getD x.a.toNat 0=nE from HS]
         try rfl
        exact ⟨k,by omega,_,wC Fl gk,by have:=ly tf; rw [gk] at this; exact this,hs⟩
       ·refine aH (aC (λ zM=>?_) (λ zM=>?_))
        ·have hx1:=afT (.inr zM);refine aE (aA vM (have hs:=hs.drew;aB en hs.hb rfl (aA kh (aB (v:=.int .i64 x.a) bL hs.p4.hb rfl ?_))));obtain ⟨nE,WW⟩:=gx (t1.counts) (i:=(x.a).toNat) (by omega);refine dS hs.p3 ee (by omega) (by omega) (λ _ aqH=>?_);have HS:t1.counts.getD x.a.toNat 0=nE:=by rw [List.getD_eq_getElem?_getD,WW]; rfl
         refine gj hs.p3 bL aqH WW (DA (dS hs.p3 ee (by omega) (by omega) (λ _ Vm=>lF _ hs.p3 bL Vm (by omega) (λ sP hs=>aE (aA vM (have hs:=hs.drew;aB en hs.p1.hb rfl ?_))))));have hsl:(t1.counts.set x.a.toNat (qV (nE - 1))).length=t1.counts.length:=List.length_set;refine aA kh (aB (v:=.int .i64 x.a) bL hs.p4.hb rfl ?_);obtain ⟨aqI,Od⟩:=gx (((t1.counts).set (x.a).toNat (qV (nE - 1)))) (i:=(x.a).toNat) (by omega);refine dS hs ee (by omega) (by omega) (λ _ aqJ=>?_);have h99:aqI=qV (nE - 1):=by rw [List.getElem?_set_self (by omega)] at Od; exact (Option.some.inj Od).symm
         refine gj hs bL aqJ Od (cZ (aC (λ D1=>?_) (λ D1=>?_)))
         ·refine aA ki (aB (v:=.int .i64 x.to) bL hs.p4.hb rfl ?_);intro jw;refine aE (aA kf (aV hs.p1 bL (eF rfl) (rfl) (λ sd hs=>?_)));have hs:=eG.shut (t:=(⟨t1.code,x.to,t1.aK,((t1.counts).set (x.a).toNat (qV (nE - 1))),(if (eu x.f t1.aK).2=true then (tE t1 x).fault else 2),(eu x.e t1.aK).1,(eu x.f t1.aK).1,t1.buf⟩:fM)) qF hs.p1.p3.p3.p3;have hs:=(hs.p1).drop
          have gk:fG t1=((⟨t1.code,x.to,t1.aK,((t1.counts).set (x.a).toNat (qV (nE - 1))),(if (eu x.f t1.aK).2=true then (tE t1 x).fault else 2),(eu x.e t1.aK).1,(eu x.f t1.aK).1,t1.buf⟩:fM),true):=by
           rw [kx vp (by simpa using ib) (by simpa using lh),IV zM (by rw [show (tF (tE t1 x) x).counts.getD x.a.toNat 0=nE from HS]; omega)]
           try rw [show (tF (tE t1 x) x).counts.getD x.a.toNat 0=nE from HS]
           try rfl
          exact ⟨k,by omega,_,wC Fl gk,by have:=ly tf; rw [gk] at this; exact this,hs⟩
         ·intro jw;refine aE (aA kf (aV hs.p1 bL (eF rfl) (rfl) (λ sd hs=>?_)));have hs:=eG.shut (t:=(⟨t1.code,(t1.at_+1),t1.aK,((t1.counts).set (x.a).toNat (qV (nE - 1))),(if (eu x.f t1.aK).2=true then (tE t1 x).fault else 2),(eu x.e t1.aK).1,(eu x.f t1.aK).1,t1.buf⟩:fM)) qF hs.p1.p3.p3.p3;have hs:=(hs.p1).drop
          have gk:fG t1=((⟨t1.code,(t1.at_+1),t1.aK,((t1.counts).set (x.a).toNat (qV (nE - 1))),(if (eu x.f t1.aK).2=true then (tE t1 x).fault else 2),(eu x.e t1.aK).1,(eu x.f t1.aK).1,t1.buf⟩:fM),true):=by
           rw [kx vp (by simpa using ib) (by simpa using lh),IW zM (by rw [show (tF (tE t1 x) x).counts.getD x.a.toNat 0=nE from HS]; omega)]
           try rw [show (tF (tE t1 x) x).counts.getD x.a.toNat 0=nE from HS]
           try rfl
          exact ⟨k,by omega,_,wC Fl gk,by have:=ly tf; rw [gk] at this; exact this,hs⟩
        ·refine aH (aC (λ Bh=>?_) (λ Bh=>?_))
         ·refine aE (aA tI (aB bL hs.hb rfl (aH (aC (λ yE=>?_) (λ yE=>?_)))))
          ·refine aE (aA tH (aV hs bL (eF rfl) (rfl) (λ vi hs=>?_)));have hs:=eG.shut (t:=(⟨t1.code,t1.at_,t1.aK,t1.counts,1,(eu x.e t1.aK).1,(eu x.f t1.aK).1,t1.buf⟩:fM)) qF hs.p3.p3.p3.p3;have hs:=(hs.p1).drop
           have gk:fG t1=((⟨t1.code,t1.at_,t1.aK,t1.counts,1,(eu x.e t1.aK).1,(eu x.f t1.aK).1,t1.buf⟩:fM),false):=by
            rw [kx vp (by simpa using ib) (by simpa using lh),IX Bh yE]
            try rw [show (tF (tE t1 x) x).counts.getD x.a.toNat 0=nE from HS]
            try rfl
           rw [Ag Fl gk];exact ⟨rfl,hs.mut⟩
          ·intro jw;refine aE (aA kf (aV hs bL (eF rfl) (rfl) (λ sd hs=>?_)));have hs:=eG.shut (t:=(⟨t1.code,(t1.at_+1),t1.aK,t1.counts,(if (eu x.f t1.aK).2=true then (tE t1 x).fault else 2),(eu x.e t1.aK).1,(eu x.f t1.aK).1,t1.buf⟩:fM)) qF hs.p3.p3.p3.p3;have hs:=(hs.p1).drop
           have gk:fG t1=((⟨t1.code,(t1.at_+1),t1.aK,t1.counts,(if (eu x.f t1.aK).2=true then (tE t1 x).fault else 2),(eu x.e t1.aK).1,(eu x.f t1.aK).1,t1.buf⟩:fM),true):=by
            rw [kx vp (by simpa using ib) (by simpa using lh),IY Bh yE]
            try rw [show (tF (tE t1 x) x).counts.getD x.a.toNat 0=nE from HS]
            try rfl
           exact ⟨k,by omega,_,wC Fl gk,by have:=ly tf; rw [gk] at this; exact this,hs⟩
         ·have hs:=eG.shut (t:=(⟨t1.code,t1.at_,t1.aK,t1.counts,(if (eu x.f t1.aK).2=true then (tE t1 x).fault else 2),(eu x.e t1.aK).1,(eu x.f t1.aK).1,t1.buf⟩:fM)) qF hs.p3.p3.p3.p3;have hs:=(hs.p1).drop
          have gk:fG t1=((⟨t1.code,t1.at_,t1.aK,t1.counts,(if (eu x.f t1.aK).2=true then (tE t1 x).fault else 2),(eu x.e t1.aK).1,(eu x.f t1.aK).1,t1.buf⟩:fM),false):=by
           rw [kx vp (by simpa using ib) (by simpa using lh),Oc kG tZ sj vk zM Bh]
           try rw [show (tF (tE t1 x) x).counts.getD x.a.toNat 0=nE from HS]
           try rfl
          rw [Ag Fl gk];exact ⟨rfl,hs.mut⟩
structure gT where
 u:im
 room:Int
 mem:Mem
 locks:List Int
 l:List fM
 er:Int
 fault:Int
 mJ:Int
structure MA where
 lnv:SV
 fsv:SV
 thv:SV
 rcl:SV
 clv:SV
 q:Nat
 ov:Value
 fv:Value
 lk:Value
 ll:Value
 ps:List Ptr
@[reducible] def jT (a:MA) (m:gT):List Value:=[Flat.val a.lnv,.int .i64 m.u.stays,Flat.val a.fsv,.int .i64 m.u.locks,Flat.val a.thv,.int .i64 m.u.recover.aK,.int .i64 m.u.recover.counts,Flat.val a.rcl,Flat.val a.clv,.int .i64 m.room,.pointer (some ⟨a.q,0,none⟩),a.lk,a.ll,.int .i64 m.er,.int .i64 m.fault,.int .i64 m.mJ]
structure UK (K:World→Prop) (a:MA) (m:gT):Prop where
 ln:∀ w,K w→eI (λ _=>True) w (Flat.val a.lnv) m.u.lines
 cl:∀ w,K w→DL w (Flat.val a.clv) m.u.cC
 rc:EW K (Flat.val a.rcl) m.u.recover.l
 mem:∀ w,K w→ui a.ov a.fv m.mem w
abbrev qa (K:World→Prop) (room:Int) (s:Ptr) (t:fM):HP:=eG K s.b room t
def eP (K:World→Prop) (p:Nat) (m:gT):HP:=tQ λ a:MA=>fact (UK K a m) (sep (cD p (jT a m)) (sep (fU a.q a.ov a.fv m.mem) (sep (bK a.lk m.locks) (sep (bK a.ll a.ps) (iz (qa K m.room) a.ps m.l)))))
def ky (K:World→Prop) (p:Nat) (m:gT) (i:Nat) (tp:Ptr):HP:=tQ λ a:MA=>fact (UK K a m∧a.ps[i]? = some tp∧a.ps.length=m.l.length∧i<m.l.length) (sep (cD p (jT a m)) (sep (fU a.q a.ov a.fv m.mem) (sep (bK a.lk m.locks) (sep (bK a.ll a.ps) (ql (qa K m.room) a.ps m.l i)))))
section
variable {w w' w0:World} {A:Nat→Prop} {R:List HP} {p:Nat} {K:World→Prop} {m:gT} {a:MA} {i:Nat} {tp:Ptr} {t:fM}
theorem G5 {H1 H2 H3 H4 H5:HP} (hs:St w0 A (sep H1 (sep H2 (sep H3 (sep H4 H5)))::R) w):St w0 A (H1::H2::H3::H4::H5::R) w:=by
 have h1:=hs.split
 have h2:=h1.p1.split
 have h3:=h2.p1.split
 have h4:=h3.p1.split
 exact h4.p2.p3.p4
theorem G6 {H1 H2 H3 H4 H5:HP} (hs:St w0 A (H1::H2::H3::H4::H5::R) w):St w0 A (sep H1 (sep H2 (sep H3 (sep H4 H5)))::R) w:=by
 have h4:=St.join (hs.p4.p4)
 have h3:=St.join h4.p3
 have h2:=St.join h3.p2
 exact St.join h2.p1
theorem eP.open (hs:St w0 A (eP K p m::R) w):∃ a,UK K a m∧St w0 A (cD p (jT a m)::fU a.q a.ov a.fv m.mem::bK a.lk m.locks::bK a.ll a.ps::iz (qa K m.room) a.ps m.l::R) w:=by
 obtain ⟨a,hs⟩:=hs.eT; obtain ⟨hu,hs⟩:=hs.oA; exact ⟨a,hu,G5 hs⟩
theorem eP.shut (hu:UK K a m) (hs:St w0 A (cD p (jT a m)::fU a.q a.ov a.fv m.mem::bK a.lk m.locks::bK a.ll a.ps::iz (qa K m.room) a.ps m.l::R) w):St w0 A (eP K p m::R) w:=
 St.eN a (St.qj hu (G6 hs))
theorem ky.open (hs:St w0 A (ky K p m i tp::R) w):∃ a,(UK K a m∧a.ps[i]? = some tp∧a.ps.length=m.l.length∧i<m.l.length)∧St w0 A (cD p (jT a m)::fU a.q a.ov a.fv m.mem::bK a.lk m.locks::bK a.ll a.ps::ql (qa K m.room) a.ps m.l i::R) w:=by
 obtain ⟨a,hs⟩:=hs.eT; obtain ⟨hu,hs⟩:=hs.oA; exact ⟨a,hu,G5 hs⟩
theorem ky.shut (hu:UK K a m∧a.ps[i]? = some tp∧a.ps.length=m.l.length∧i<m.l.length) (hs:St w0 A (cD p (jT a m)::fU a.q a.ov a.fv m.mem::bK a.lk m.locks::bK a.ll a.ps::ql (qa K m.room) a.ps m.l i::R) w):St w0 A (ky K p m i tp::R) w:=
 St.eN a (St.qj hu (G6 hs))
structure aqK (K:World→Prop) (w:World) (p:Nat) (m:gT) (a:MA):Prop where
 uk:UK K a m
 b:tz w p (jT a m)
 mem:u9 w a.q m.mem
 c0:Cell w a.q 0 a.ov
 c1:Cell w a.q 1 a.fv
 lk:eI (λ _=>True) w a.lk m.locks
 ll:eI (λ _=>True) w a.ll a.ps
 th:∀ (i:Nat) (s:Ptr) (t:fM),a.ps[i]? = some s→m.l[i]? = some t→Has (eG K s.b m.room t) w
 len:a.ps.length=m.l.length
theorem eP.rd (h:Has (eP K p m) w) (hK:K w):∃ a,aqK K w p m a:=by
 obtain ⟨F,hs⟩:=h.st
 obtain ⟨a,hu,hs⟩:=eP.open hs
 have hc:Cell w a.q 0 a.ov∧Cell w a.q 1 a.fv:=by
  obtain ⟨lv,kv,pm,h⟩:=fU.open hs.p1; exact ⟨h.hb.cell rfl,h.hb.cell rfl⟩
 exact ⟨a,hu,hs.hb,IM hs.p1 (hu.mem _ hK),hc.1,hc.2,hs.p2.fK,hs.p3.fK,λ i s t h1 h2=>hs.p4.aoi h1 h2 (Φ:=λ w=>Has (eG K s.b m.room t) w) λ h=>⟨_,h⟩,hs.p4.lg⟩
theorem WX {ps:List Ptr} (hs:St w0 A (iz (qa K m.room) ps m.l::R) w) (hp:ps[i]? = some tp) (ht:m.l[i]? = some t):St w0 A (eG K tp.b m.room t::ql (qa K m.room) ps m.l i::R) w:=hs.focus hp ht
theorem LG (hs:St w0 A (eG K tp.b m.room t::ky K p m i tp::R) w):St w0 A (eP K p {m with l:=m.l.set i t}::R) w:=by
 obtain ⟨a,⟨hu,hp,hl,hi⟩,hs⟩:=ky.open hs.p1
 have h1:St w0 A (qa K m.room tp t::ql (qa K m.room) a.ps m.l i::_) w:=(hs.p4).p5
 have h2:=h1.sb hi hl hp
 have h3:=h2.p4.p4.p4.p4
 exact eP.shut (m:={m with l:=m.l.set i t}) ⟨hu.ln,hu.cl,hu.rc,hu.mem⟩ h3
end
def Ci (m:gT) (t:fM):Bool:=match gR t with
 | none=>false
 | some x=>if t.fault≠0 then true else if x.kind=3∨x.kind=5∨x.kind=6∨x.kind=7 then !decide (m.room≤t.buf.length) else if x.kind=4∨x.kind=8∨x.kind=10 then decide (t.buf.length=0) else if x.kind=9 then decide (t.buf.length=0) && decide (m.locks.getD x.b.toNat 0 = -1) else true
def tg (m:gT) (i:Nat) (t:fM):List ei:=(if Ci m t=true then [⟨1,i,0,[]⟩] else [])++(z9 t.buf).map λ k=>⟨2,i,k,[]⟩
def kT (m:gT) (k:Nat):List ei:=(List.range k).flatMap λ i=>match m.l[i]? with | some t=>tg m i t | none=>[]
def fc (m:gT):List ei:=if m.fault≠0 then [] else kT m m.l.length
def rB (m:gT):List ei:=if m.fault≠0 then [] else (GZ m.mem).map λ c=>⟨3,0,0,c⟩
theorem Ak {m:gT} {k:Nat} {t:fM} (h:m.l[k]? = some t):kT m (k+1)=kT m k++tg m k t:=by
 unfold kT; rw [List.range_succ,List.flatMap_append]; simp [h]
structure rC (m:gT):Prop where
 mem:xj m.mem
 th:∀ t∈m.l,G4 t
 tl:m.l.length≤1000
 lk:(m.locks.length:Int)=m.u.locks
 lkb:∀ t∈m.l,∀ x∈t.code.l,x.kind=9∨x.kind=10→0≤x.b∧x.b<m.u.locks
 lnb:∀ t∈m.l,∀ x∈t.code.l,x.kind=3→0≤x.b∧x.b<m.u.lines.length
 aqL:∀ t∈m.l,∀ x∈t.code.l,x.kind=2∨x.kind=4→0≤x.a∧x.a<t.code.aK
 rm:1≤m.room∧m.room≤16
 st:∀ t∈m.l,∀ x,gR t=some x→t.fault=0→2≤x.kind∧x.kind≤10
 nl:∀ n∈m.u.lines,-1≤n∧n≤1000
theorem G7 (l:List bJ):(z9 l).length≤l.length:=by have:=GR l l.length; rw [EK l rfl] at this; exact this
theorem C66 (K:World→Prop) (p:Nat) (room:Int) (t:fM) (w:World) (hh:Has (eG K p room t) w) (yN:t.buf.length≤1000):CR 66 [(.pointer (some ⟨p,0,none⟩))] w (λ v w'=>v = .bool (decide (t.buf.length=0))∧Ext w w'):=by
 obtain ⟨bp,gl,rg,cn,⟨ts0,hts⟩,pZ,hB,BR,hcn⟩:=eG.rd hh;have ct0:=pZ.cell (o:=0) rfl;have ct7:=pZ.cell (o:=7) rfl;have hs:=St.start w;refine ahh _ _ _ ?_;unfold S66;refine aE (aA nS (cG rW (ct0.ext hs.aF) (dB amv hs (C91 bp _ _ _ (hB.ext hs.aF) (by omega)) (λ x7 w1 bZ hs=>aJ pq (hs).fK (aH ?_)))));exact ⟨vb (decide_eq_decide.2 (by omega)),hs.drop.aF⟩
theorem C56 (K:World→Prop) (p:Nat) (m:gT) (q:Nat) (t:fM) (w:World) (hm:Has (eP K p m) w) (hw:K w) (vA:∀ w',Ext w w'→K w') (mq:rC m) (hh:Has (eG K q m.room t) w) (Cj:t∈m.l):CR 56 [(.pointer (some ⟨p,0,none⟩)),(.pointer (some ⟨q,0,none⟩))] w (λ v w'=>v = .bool (Ci m t)∧Ext w w'):=by
 obtain ⟨a,hr⟩:=eP.rd hm hw;have cm8:=hr.b.cell (o:=8) rfl;have cm0:=hr.b.cell (o:=0) rfl;have Yp:=hr.b.cell (o:=1) rfl;have cm3:=hr.b.cell (o:=3) rfl;have cm9:=hr.b.cell (o:=9) rfl;have Ck:=hr.b.cell (o:=10) rfl;have EX:=hr.b.cell (o:=11) rfl;have Bt:=hr.b.cell (o:=12) rfl;have FQ:=hr.b.cell (o:=13) rfl;have Al:=hr.b.cell (o:=14) rfl;have FR:=hr.b.cell (o:=15) rfl;have oB:=mq.th t Cj;have yN:=oB.bl;obtain ⟨bp,gl,rg,cn,⟨ts0,hts⟩,pZ,hB,BR,hcn⟩:=eG.rd hh;have ct0:=pZ.cell (o:=0) rfl;have ct7:=pZ.cell (o:=7) rfl;have hK:∀ w',Ext w w'→K w':=vA;have hs:=St.start w;refine ag7 _ _ _ _ ?_;unfold S56
 refine ey YM (C65 K q m.room t _ (hh.ext hs.aF) (hK _ hs.aF) oB) ?_;rintro v_x9 w1 aqM
 rcases aqM with ⟨vp,rfl,he⟩ | ⟨x,xv,vp,hxv,rfl,he⟩
 ·have hs:=hs.ext he;refine bE rfl (bE rfl (aN hs mn (λ ua w2 hs=>have hs:=hs.enc (cs':=Flat.enc (⟨0,0,0,⟨none,0,0⟩,⟨none,0,0⟩,0⟩:bU)) rfl;aI (x:=(⟨0,0,0,⟨none,0,0⟩,⟨none,0,0⟩,0⟩:bU)) hs lG rfl rfl (λ w3 hs=>bY (nN ?_)))));refine ⟨vb ?_,(by first | exact hs.aF | exact hs.drop.aF)⟩;unfold Ci;rw [vp]
 ·have hs:=hs.ext he;have hxm:=qE vp;obtain ⟨ge,gf,rfl,_,_⟩:=hxv _ (hK _ hs.aF);refine bE rfl (bE rfl (aN hs mn (λ ua w2 hs=>have hs:=hs.enc (cs':=Flat.enc (⟨0,0,0,⟨none,0,0⟩,⟨none,0,0⟩,0⟩:bU)) rfl;aI (x:=(⟨x.kind,x.a,x.b,ge,gf,x.to⟩:bU)) hs lG rfl rfl (λ w3 hs=>bY (fC (aE (aA tH (cG bL (ct7.ext hs.aF) (cS (aC (λ jr=>?_) (λ jr=>?_)))))))))))
  ·refine ⟨vb ?_,(by first | exact hs.aF | exact hs.drop.aF)⟩;unfold Ci;rw [vp];dsimp only;rw [if_pos jr]
  ·refine aA je (aB (v:=.int .i64 x.kind) bL hs.hb rfl ?_);refine ⟨λ jv w'=>jv = .bool (decide (x.kind=3∨x.kind=5∨x.kind=6∨x.kind=7))∧St w bD [cD ua (Flat.enc (⟨x.kind,x.a,x.b,ge,gf,x.to⟩:bU))] w',?_,?_⟩
   ·refine aH (aC (λ ib=>?_) (λ ib=>?_))
    ·exact ⟨vb (by grind),hs⟩
    ·refine aH (aC (λ fR=>?_) (λ fR=>?_))
     ·exact ⟨vb (by grind),hs⟩
     ·refine aH (aC (λ si=>?_) (λ si=>?_))
      ·exact ⟨vb (by grind),hs⟩
      ·refine aH ?_;exact ⟨vb (by grind),hs⟩
   ·rintro _ w4 ⟨rfl,hs⟩ fy;refine aX (λ iO=>?_) (λ iO=>?_)
    ·refine aE (aA nS (cG rW (ct0.ext hs.aF) (aZ aeh hs (C123 bp _ _ _ (hB.ext hs.aF)) (λ w5 he hs=>bY ?_))));refine ⟨vb ?_,(by first | exact hs.aF | exact hs.drop.aF)⟩;unfold Ci;rw [vp];dsimp only;rw [if_neg (by simpa using jr),if_pos (by simpa using iO)]
    ·refine ⟨λ jv w'=>jv = .bool (decide (x.kind=4∨x.kind=8∨x.kind=10))∧St w bD [cD ua (Flat.enc (⟨x.kind,x.a,x.b,ge,gf,x.to⟩:bU))] w',?_,?_⟩
     ·refine aH (aC (λ jq=>?_) (λ jq=>?_))
      ·exact ⟨vb (by grind),hs⟩
      ·refine aH (aC (λ lh=>?_) (λ lh=>?_))
       ·exact ⟨vb (by grind),hs⟩
       ·refine aH ?_;exact ⟨vb (by grind),hs⟩
     ·rintro _ w6 ⟨rfl,hs⟩ jw;refine aX (λ iC=>?_) (λ iC=>?_)
      ·refine aZ ahr hs (C66 K q m.room t _ (hh.ext hs.aF) yN) (λ w7 he hs=>?_);refine ⟨vb ?_,(by first | exact hs.aF | exact hs.drop.aF)⟩;unfold Ci;rw [vp];dsimp only;rw [if_neg (by simpa using jr),if_neg (by simpa using iO),if_pos (by simpa using iC)]
      ·refine aH (aC (λ jX=>?_) (λ jX=>?_))
       ·have ajX:=mq.lkb t Cj x hxm.1 (.inl jX);have Mu:=mq.lk;refine ⟨λ jv w'=>jv = .bool (decide (t.buf.length=0) && decide (m.locks.getD x.b.toNat 0 = -1))∧St w bD [cD ua (Flat.enc (⟨x.kind,x.a,x.b,ge,gf,x.to⟩:bU))] w',?_,?_⟩
        ·have hs:=hs.drew;refine aZ ahr hs (C66 K q m.room t _ (hh.ext hs.aF) yN) (λ w8 he hs=>aX (λ tW=>?_) (λ tW=>?_))
         ·refine aE (aA nQ (cG en (EX.ext hs.aF) (aA eV (aB (v:=.int .i64 x.b) bL hs.hb rfl ?_))));obtain ⟨apb,wo⟩:=gx (m.locks) (i:=(x.b).toNat) (by omega);refine aQ ee hr.lk (by omega) wo (λ _ Vj=>aD bL (Vj.ext hs.aF) (aH ?_));exact ⟨vb (by rw [tW,List.getD_eq_getElem?_getD,wo]; rfl),hs⟩
         ·exact ⟨vb (by rw [tW]; rfl),hs⟩
        ·rintro _ w9 ⟨rfl,hs⟩ oN;refine ⟨vb ?_,(by first | exact hs.aF | exact hs.drop.aF)⟩;unfold Ci;rw [vp];dsimp only;rw [if_neg (by simpa using jr),if_neg (by simpa using iO),if_neg (by simpa using iC),if_pos jX]
       ·refine ⟨vb ?_,(by first | exact hs.aF | exact hs.drop.aF)⟩;unfold Ci;rw [vp];dsimp only;rw [if_neg (by simpa using jr),if_neg (by simpa using iO),if_neg (by simpa using iC),if_neg jX]
end Go.Proofs.YtnjcingfdhjfkaaGreat
