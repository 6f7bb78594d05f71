/-
  What the proof needs, part 5.
-/
import Derived.Test.YtnjcingfdhjfkaaGreatVcM4
set_option linter.all false
namespace Go.Proofs.YtnjcingfdhjfkaaGreat
open Go.Fw
theorem Wk {c:fo} {cells lines locks:Int} (h:∀ j,j<c.l.length→u7 c cells lines locks j=false):afA c.l:=by
 intro i x hx hk
 have:=h i (List.getElem?_eq_some_iff.1 hx).1
 rw [ue hx] at this
 simp only [Bool.or_eq_false_iff,Bool.not_eq_false'] at this
 exact V8 hk this.2
theorem EL {l:List Int} {k:Nat} {e:Int} (h:l[k]? = some e):lq l (k+1)=e+1:=by
 unfold lq; rw [if_neg (by omega),Nat.add_sub_cancel,List.getD_eq_getElem?_getD,h]; rfl
set_option maxHeartbeats 4000000 in
theorem C113 (c:fo) (cv:cK) (cells lines locks:Int) (w:World) (hc:cA.dr w cv c) (hz:CZ c):CR 113 [Flat.val cv,.int .i64 cells,.int .i64 lines,.int .i64 locks] w (λ v w'=>v = .bool (lj c cells lines locks)∧Ext w w'):=by
 obtain ⟨ug,rfl,EM⟩:=hc;have hzl:=hz.l;have hs:=St.start w;refine Y6 _ _ _ _ _ _ ?_;unfold S113;refine dE hs (λ FV w1 hs=>?_);refine ⟨λ jv w'=>jv = .bool (va c)∧St w bD [cD FV (Flat.enc (⟨(c).aK,(c).counts,ug⟩:cK))] w',?_,?_⟩
 ·refine aA wT (aB (v:=.int .i64 ((c).aK)) bL hs.hb rfl (aR (aC (λ fw=>?_) (λ fw=>?_))))
  ·exact ⟨vb (by unfold va; grind),hs⟩
  ·refine aA wT (aB (v:=.int .i64 ((c).aK)) bL hs.hb rfl (dA (aC (λ iN=>?_) (λ iN=>?_))))
   ·exact ⟨vb (by unfold va; grind),hs⟩
   ·refine aA Cz (aB (v:=.int .i64 ((c).counts)) bL hs.hb rfl (aR (aC (λ Lr=>?_) (λ Lr=>?_))))
    ·exact ⟨vb (by unfold va; grind),hs⟩
    ·refine aA Cz (aB (v:=.int .i64 ((c).counts)) bL hs.hb rfl (dA ?_));exact ⟨vb (by unfold va; grind),hs⟩
 ·rintro _ w2 ⟨rfl,hs⟩ fB;refine aX (λ iC=>?_) (λ iC=>?_)
  ·have hs:=(hs).drop;refine ⟨vb ?_,hs.aF⟩;unfold lj;rw [iC]; rfl
  ·refine aA ml (aB uK hs.hb rfl ?_);obtain ⟨aqi,Wl,afK⟩:=(EM).open;have hn106:=afK.1;refine aJ kK (Wl.ext hs.aF) ?_;refine ⟨λ m x w1=>∃ k:Nat,x = .int .i64 (k:Int)∧m=c.l.length - k∧k≤c.l.length∧(∀ j,j<k→u7 c cells lines locks j=false)∧St w bD [cD FV (Flat.enc (⟨(c).aK,(c).counts,ug⟩:cK))] w1,⟨_,0,rfl,rfl,Nat.zero_le _,by simp,hs⟩,?_⟩;rintro m _ w3 ⟨k,rfl,rfl,hk,fR,hs⟩ jw;refine aR (aC (λ si=>?_) (λ si=>?_))
   ·obtain ⟨afL,IL⟩:=gx aqi (i:=((k:Int)).toNat) (by omega);obtain ⟨cW,vc⟩:=gx ((c).l) (i:=((k:Int)).toNat) (by omega);obtain ⟨qy,qz,rfl,Qt,Qu⟩:=afK.2 _ _ _ IL vc;refine aQ kK Wl (by omega) IL (λ _ D3=>aD lF (D3.ext hs.aF) (aN hs mr (λ ib w4 hs=>have hs:=hs.enc (cs':=Flat.enc (⟨0,0,0,⟨none,0,0⟩,⟨none,0,0⟩,0⟩:bU)) rfl;aI (x:=(⟨(cW).kind,(cW).a,(cW).b,qy,qz,(cW).to⟩:bU)) hs lF rfl rfl (λ w5 hs=>?_))));refine ⟨λ jv w'=>jv = .bool (decide (cW.kind<1) || decide (16≤cW.kind))∧St w bD [cD ib (Flat.enc (⟨(cW).kind,(cW).a,(cW).b,qy,qz,(cW).to⟩:bU)),cD FV (Flat.enc (⟨(c).aK,(c).counts,ug⟩:cK))] w',?_,?_⟩
    ·refine aA jg (aB (v:=.int .i64 ((cW).kind)) bL hs.hb rfl (aR (aC (λ kG=>?_) (λ kG=>?_))))
     ·exact ⟨vb (by grind),hs⟩
     ·refine aA jg (aB (v:=.int .i64 ((cW).kind)) bL hs.hb rfl (dG ?_));exact ⟨vb (by grind),hs⟩
    ·rintro _ w6 ⟨rfl,hs⟩ oN;refine aX (λ pI=>?_) (λ pI=>?_)
     ·have hs:=((hs.drop)).drop;refine ⟨vb ?_,hs.aF⟩;unfold lj;rw [rj (f:=u7 c cells lines locks) (j:=k) (by omega) (by rw [ue (i:=k) vc,Wc (by grind)]; rfl)]; simp
     ·have mJ:1≤cW.kind∧cW.kind≤15:=by grind
      refine aA kf (have hs:=hs.drew;aB (v:=.int .i64 ((cW).a)) bL hs.hb rfl (aA wT (aB (v:=.int .i64 ((c).aK)) bL hs.p1.hb rfl (ga (first:=[]) (cap:=[.pointer (some ⟨ib,0,none⟩)]) rS (C176 cW.kind 114 ib (decide (cW.kind=1∨cW.kind=2∨cW.kind=4)) _ ((hs).hb.cell rfl) mJ ((oq mJ).1)) ?_))));rintro _ w7 ⟨rfl,he⟩;have hs:=hs.ext he;refine ⟨aG bL (hs.hb.cell rfl),?_⟩;refine ⟨aG bL (hs.p1.hb.cell rfl),?_⟩;refine aZ JW hs (C179 _ _ _ _) (λ w8 he hs=>?_);refine ⟨λ jv w'=>jv = .bool (aM cW c.aK c.counts)∧St w bD [cD ib (Flat.enc (⟨(cW).kind,(cW).a,(cW).b,qy,qz,(cW).to⟩:bU)),cD FV (Flat.enc (⟨(c).aK,(c).counts,ug⟩:cK))] w',?_,?_⟩
      ·refine ga (first:=[]) (cap:=[.pointer (some ⟨ib,0,none⟩)]) rS (C176 cW.kind 107 ib (decide (cW.kind=13∨cW.kind=14)) _ ((hs).hb.cell rfl) mJ ((oq mJ).2.1)) ?_;rintro _ w9 ⟨rfl,he⟩;have hs:=hs.ext he;refine aX (λ Gz=>?_) (λ Gz=>?_)
       ·refine aA kf (aB (v:=.int .i64 ((cW).a)) bL hs.hb rfl (aA Cz (aB (v:=.int .i64 ((c).counts)) bL hs.p1.hb rfl (aZ JW hs (C179 true _ _ _) (λ pP he hs=>?_)))));exact ⟨vb (by unfold aM; grind),hs⟩
       ·exact ⟨vb (by unfold aM; grind),hs⟩
      ·rintro _ sQ ⟨rfl,hs⟩ GJ;refine aA eY (aB (v:=.int .i64 ((cW).b)) bL hs.hb rfl (aH ?_));refine ⟨λ jv w'=>jv = .bool (bM cW cells lines locks)∧St w bD [cD ib (Flat.enc (⟨(cW).kind,(cW).a,(cW).b,qy,qz,(cW).to⟩:bU)),cD FV (Flat.enc (⟨(c).aK,(c).counts,ug⟩:cK))] w',?_,?_⟩
       ·refine ga (first:=[]) (cap:=[.pointer (some ⟨ib,0,none⟩)]) rS (C176 cW.kind 99 ib (decide (cW.kind=2∨cW.kind=3∨cW.kind=4)) _ ((hs).hb.cell rfl) mJ ((oq mJ).2.2.1)) ?_;rintro _ vl ⟨rfl,he⟩;have hs:=hs.ext he;refine aX (λ vn=>?_) (λ vn=>?_)
        ·refine aA eY (aB (v:=.int .i64 ((cW).b)) bL hs.hb rfl (aZ JW hs (C179 true _ _ _) (λ vm he hs=>?_)));exact ⟨vb (by unfold bM; grind),hs⟩
        ·refine ga (first:=[]) (cap:=[.pointer (some ⟨ib,0,none⟩)]) rS (C176 cW.kind 108 ib (decide (cW.kind=5∨cW.kind=6)) _ ((hs).hb.cell rfl) mJ ((oq mJ).2.2.2.1)) ?_;rintro _ sd ⟨rfl,he⟩;have hs:=hs.ext he;refine aX (λ VM=>?_) (λ VM=>?_)
         ·refine aA eY (aB (v:=.int .i64 ((cW).b)) bL hs.hb rfl (aZ JW hs (C179 true _ _ _) (λ v7 he hs=>?_)));exact ⟨vb (by unfold bM; grind),hs⟩
         ·refine ga (first:=[]) (cap:=[.pointer (some ⟨ib,0,none⟩)]) rS (C176 cW.kind 109 ib (decide (cW.kind=9∨cW.kind=10)) _ ((hs).hb.cell rfl) mJ ((oq mJ).2.2.2.2.1)) ?_;rintro _ yT ⟨rfl,he⟩;have hs:=hs.ext he;refine aX (λ aqj=>?_) (λ aqj=>?_)
          ·refine aA eY (aB (v:=.int .i64 ((cW).b)) bL hs.hb rfl (aZ JW hs (C179 true _ _ _) (λ Ch he hs=>?_)));exact ⟨vb (by unfold bM; grind),hs⟩
          ·refine ga (first:=[]) (cap:=[.pointer (some ⟨ib,0,none⟩)]) rS (C176 cW.kind 110 ib (decide (cW.kind=13)) _ ((hs).hb.cell rfl) mJ ((oq mJ).2.2.2.2.2.1)) ?_;rintro _ Im ⟨rfl,he⟩;have hs:=hs.ext he;refine aX (λ Wm=>?_) (λ Wm=>?_)
           ·refine aA eY (aB (v:=.int .i64 ((cW).b)) bL hs.hb rfl (dG (aC (λ Wn=>?_) (λ Wn=>?_))))
            ·refine aA eY (aB (v:=.int .i64 ((cW).b)) bL hs.hb rfl (j3 ?_));exact ⟨vb (by unfold bM; grind),hs⟩
            ·exact ⟨vb (by unfold bM; grind),hs⟩
           ·exact ⟨vb (by unfold bM; grind),hs⟩
       ·rintro _ Jp ⟨rfl,hs⟩ RX;refine ⟨λ jv w'=>jv = .bool (if sq cW.kind=true then eL cW.e c.aK else !decide (0<(cW.e.length:Int)))∧St w bD [cD ib (Flat.enc (⟨(cW).kind,(cW).a,(cW).b,qy,qz,(cW).to⟩:bU)),cD FV (Flat.enc (⟨(c).aK,(c).counts,ug⟩:cK))] w',?_,?_⟩
        ·refine ga (first:=[]) (cap:=[.pointer (some ⟨ib,0,none⟩)]) rS (C176 cW.kind 101 ib (sq cW.kind) _ ((hs).hb.cell rfl) mJ ((oq mJ).2.2.2.2.2.2.1)) ?_;rintro _ Kz ⟨rfl,he⟩;have hs:=hs.ext he;refine aX (λ ajE=>?_) (λ ajE=>?_)
         ·refine aA tK (aB xB hs.hb rfl ?_);have afM:=DL.flat (Qt);refine aA wT (aB (v:=.int .i64 ((c).aK)) bL hs.p1.hb rfl (aZ Pb hs (C116 _ _ _ _ (afM.ext hs.aF) (by have:=hz.ef _ (List.mem_of_getElem? vc); omega)) (λ Mu he hs=>aX (λ NW=>?_) (λ NW=>?_))))
          ·exact ⟨vb (by grind),hs⟩
          ·refine ga (first:=[]) (cap:=[.pointer (some ⟨ib,0,none⟩)]) rS (C176 cW.kind 101 ib (sq cW.kind) _ ((hs).hb.cell rfl) mJ ((oq mJ).2.2.2.2.2.2.1)) ?_;rintro _ Qm ⟨rfl,he⟩;have hs:=hs.ext he;refine bZ (aX (λ ajF=>?_) (λ ajF=>?_))
           ·refine aA tK (aB xB hs.hb rfl (aJ vz (afM.ext hs.aF) (aH ?_)));exact ⟨vb (by grind),hs⟩
           ·exact ⟨vb (by grind),hs⟩
         ·refine ga (first:=[]) (cap:=[.pointer (some ⟨ib,0,none⟩)]) rS (C176 cW.kind 101 ib (sq cW.kind) _ ((hs).hb.cell rfl) mJ ((oq mJ).2.2.2.2.2.2.1)) ?_;rintro _ Tn ⟨rfl,he⟩;have hs:=hs.ext he;refine bZ (aX (λ Wo=>?_) (λ Wo=>?_))
          ·refine aA tK (aB xB hs.hb rfl ?_);have aqk:=DL.flat (Qt);refine aJ vz (aqk.ext hs.aF) (aH ?_);exact ⟨vb (by grind),hs⟩
          ·exact ⟨vb (by grind),hs⟩
        ·rintro _ VG ⟨rfl,hs⟩ dd6;refine ⟨λ jv w'=>jv = .bool (if cW.kind=4 then eL cW.f c.aK else !decide (0<(cW.f.length:Int)))∧St w bD [cD ib (Flat.enc (⟨(cW).kind,(cW).a,(cW).b,qy,qz,(cW).to⟩:bU)),cD FV (Flat.enc (⟨(c).aK,(c).counts,ug⟩:cK))] w',?_,?_⟩
         ·refine ga (first:=[]) (cap:=[.pointer (some ⟨ib,0,none⟩)]) rS (C176 cW.kind 102 ib (decide (cW.kind=4)) _ ((hs).hb.cell rfl) mJ ((oq mJ).2.2.2.2.2.2.2.1)) ?_;rintro _ R4 ⟨rfl,he⟩;have hs:=hs.ext he;refine aX (λ ajG=>?_) (λ ajG=>?_)
          ·refine aA tL (aB xB hs.hb rfl ?_);have afN:=DL.flat (Qu);refine aA wT (aB (v:=.int .i64 ((c).aK)) bL hs.p1.hb rfl (aZ Pb hs (C116 _ _ _ _ (afN.ext hs.aF) (by have:=hz.ef _ (List.mem_of_getElem? vc); omega)) (λ w26 he hs=>aX (λ ajH=>?_) (λ ajH=>?_))))
           ·exact ⟨vb (by grind),hs⟩
           ·refine ga (first:=[]) (cap:=[.pointer (some ⟨ib,0,none⟩)]) rS (C176 cW.kind 102 ib (decide (cW.kind=4)) _ ((hs).hb.cell rfl) mJ ((oq mJ).2.2.2.2.2.2.2.1)) ?_;rintro _ w27 ⟨rfl,he⟩;have hs:=hs.ext he;refine bZ (aX (λ EN=>?_) (λ EN=>?_))
            ·refine aA tL (aB xB hs.hb rfl (aJ vz (afN.ext hs.aF) (aH ?_)));exact ⟨vb (by grind),hs⟩
            ·exact ⟨vb (by grind),hs⟩
          ·refine ga (first:=[]) (cap:=[.pointer (some ⟨ib,0,none⟩)]) rS (C176 cW.kind 102 ib (decide (cW.kind=4)) _ ((hs).hb.cell rfl) mJ ((oq mJ).2.2.2.2.2.2.2.1)) ?_;rintro _ w28 ⟨rfl,he⟩;have hs:=hs.ext he;refine bZ (aX (λ Wp=>?_) (λ Wp=>?_))
           ·refine aA tL (aB xB hs.hb rfl ?_);have aql:=DL.flat (Qu);refine aJ vz (aql.ext hs.aF) (aH ?_);exact ⟨vb (by grind),hs⟩
           ·exact ⟨vb (by grind),hs⟩
         ·rintro _ w29 ⟨rfl,hs⟩ dd7;refine aA kh (aB (v:=.int .i64 ((cW).to)) bL hs.hb rfl (aH ?_));refine ⟨λ jv w'=>jv = .bool (IH c.l k cW)∧St w bD [cD ib (Flat.enc (⟨(cW).kind,(cW).a,(cW).b,qy,qz,(cW).to⟩:bU)),cD FV (Flat.enc (⟨(c).aK,(c).counts,ug⟩:cK))] w',?_,?_⟩
          ·refine ⟨λ jv w'=>jv = .bool (decide (cW.kind=14))∧St w bD [cD ib (Flat.enc (⟨(cW).kind,(cW).a,(cW).b,qy,qz,(cW).to⟩:bU)),cD FV (Flat.enc (⟨(c).aK,(c).counts,ug⟩:cK))] w',?_,?_⟩
           ·refine ga (first:=[]) (cap:=[.pointer (some ⟨ib,0,none⟩)]) rS (C176 cW.kind 116 ib (decide (cW.kind=11∨cW.kind=12∨cW.kind=14)) _ ((hs).hb.cell rfl) mJ ((oq mJ).2.2.2.2.2.2.2.2)) ?_;rintro _ w30 ⟨rfl,he⟩;have hs:=hs.ext he;refine aX (λ ajI=>?_) (λ ajI=>?_)
            ·refine aA jg (aB (v:=.int .i64 ((cW).kind)) bL hs.hb rfl (aH ?_));exact ⟨vb (by grind),hs⟩
            ·exact ⟨vb (by grind),hs⟩
           ·rintro _ w31 ⟨rfl,hs⟩ dd8;refine aX (λ ajJ=>?_) (λ ajJ=>?_)
            ·refine aA ml (aB uK hs.p1.hb rfl (aZ am9 hs (C180 _ _ _ _ _ (EM.ext hs.aF) (by omega) vc) (λ w32 he hs=>?_)));exact ⟨vb (by unfold IH; grind),hs⟩
            ·refine ga (first:=[]) (cap:=[.pointer (some ⟨ib,0,none⟩)]) rS (C176 cW.kind 116 ib (decide (cW.kind=11∨cW.kind=12∨cW.kind=14)) _ ((hs).hb.cell rfl) mJ ((oq mJ).2.2.2.2.2.2.2.2)) ?_;rintro _ w33 ⟨rfl,he⟩;have hs:=hs.ext he;refine aX (λ ajK=>?_) (λ ajK=>?_)
             ·refine aA kh (aB (v:=.int .i64 ((cW).to)) bL hs.hb rfl (dA (aC (λ ajL=>?_) (λ ajL=>?_))))
              ·refine aA kh (aB (v:=.int .i64 ((cW).to)) bL hs.hb rfl (aA ml (aB uK hs.p1.hb rfl (aJ kK (Wl.ext hs.aF) (j3 ?_)))));exact ⟨vb (by unfold IH; grind),hs⟩
              ·exact ⟨vb (by unfold IH; grind),hs⟩
             ·exact ⟨vb (by unfold IH; grind),hs⟩
          ·rintro _ w34 ⟨rfl,hs⟩ dd9;refine ⟨λ jv w'=>jv = .bool (!u4 cW c cells lines locks || !IH c.l k cW)∧St w bD [cD ib (Flat.enc (⟨(cW).kind,(cW).a,(cW).b,qy,qz,(cW).to⟩:bU)),cD FV (Flat.enc (⟨(c).aK,(c).counts,ug⟩:cK))] w',?_,?_⟩
           ·refine bZ (aX (λ ajM=>?_) (λ ajM=>?_))
            ·exact ⟨vb (by rw [uf mJ]; grind),hs⟩
            ·refine bZ (aX (λ ajN=>?_) (λ ajN=>?_))
             ·exact ⟨vb (by rw [uf mJ]; grind),hs⟩
             ·refine bZ (aX (λ ajO=>?_) (λ ajO=>?_))
              ·exact ⟨vb (by rw [uf mJ]; grind),hs⟩
              ·refine bZ (aX (λ ajP=>?_) (λ ajP=>?_))
               ·exact ⟨vb (by rw [uf mJ]; grind),hs⟩
               ·refine bZ ?_;exact ⟨vb (by rw [uf mJ]; grind),hs⟩
           ·rintro _ w35 ⟨rfl,hs⟩ dd10;refine aX (λ NX=>?_) (λ NX=>?_)
            ·have hs:=((hs.drop)).drop;refine ⟨vb ?_,hs.aF⟩;unfold lj;rw [rj (f:=u7 c cells lines locks) (j:=k) (by omega) (by rw [ue (i:=k) vc]; exact NX)]; simp
            ·refine aO (by omega) ?_;have hs:=(hs).drop;exact ⟨_,by omega,k+1,rfl,rfl,by omega,zT fR (by rw [ue (i:=k) vc]; exact NX),hs⟩
   ·refine aA ml (aB uK hs.hb rfl (aZ ana hs (C181 _ _ _ (EM.ext hs.aF) (by omega) (Wk (cells:=cells) (lines:=lines) (locks:=locks) (λ j hj=>fR j (by omega)))) (λ w36 he hs=>?_)));have hs:=(hs).drop;refine ⟨vb ?_,hs.aF⟩;unfold lj;rw [iC,m6 (f:=u7 c cells lines locks) (λ j hj=>fR j (by omega))]; simp
theorem C112 (c:fo) (cv:cK) (u:il) (uv:dM) (b1:Nat) (w:World) (hc:cA.dr w cv c) (hA:At (λ _=>True) w (.pointer (some ⟨b1,0,none⟩)) uv) (hu:cA.dr w uv u) (hz:CZ c) (hzu:UZ u) (hb:∀ n∈u.lines,-1≤n∧n≤(u.lines.length:Int)):CR 112 [Flat.val cv,.pointer (some ⟨b1,0,none⟩)] w (λ v w'=>v = .bool (!lj c u.lines.length (gp u) u.locks)∧Ext w w'):=by
 obtain ⟨ug,rfl,EM⟩:=hc;obtain ⟨iD,gG,eZ,su,fi,rfl,iE,jm,iY,jL,kR⟩:=hu;obtain ⟨dK,rfl,ig⟩:=jL;have hs:=St.start w;refine Y5 _ _ _ _ ?_;unfold S112;refine dE hs (λ b_c2 w1 hs=>have hs:=hs.drew;aD pQ hs.At (bT iD mn hA rfl rfl (λ _ R9=>aD et (R9.ext hs.aF) ?_)));have aqm:=DL.flat (iE);refine aJ ei (aqm.ext hs.aF) (aD tG (hA.ext hs.aF) (bT (u).locks CA hA rfl rfl (λ _ qo=>aD bL (qo.ext hs.aF) (aZ amN hs (C114 u _ _ ⟨iD,gG,eZ,(⟨((u).recover).aK,((u).recover).counts,dK⟩:cK),fi,rfl,(iE.ext hs.aF),(jm.ext hs.aF),(iY.ext hs.aF),⟨dK,rfl,(ig.ext hs.aF)⟩,(kR.ext hs.aF)⟩ hzu hb) (λ w2 he hs=>?_)))))
 refine ⟨fh pQ hs.At,?_⟩;refine ⟨fh et (R9.ext hs.aF),?_⟩;refine ⟨fh bL (qo.ext hs.aF),?_⟩;refine aZ amM hs (C113 c _ _ _ _ _ ⟨ug,rfl,(EM.ext hs.aF)⟩ hz) (λ w3 he hs=>bZ ?_);exact ⟨rfl,hs.drop.aF⟩
set_option maxHeartbeats 4000000 in
theorem C51 (u:il) (uv:dM) (w:World) (hu:cA.dr w uv u) (hz:UZ u):CR 51 [Flat.val uv] w (λ v w'=>v = .bool (nt u)∧Ext w w'):=by
 have hu0:=hu;obtain ⟨iD,gG,eZ,su,fi,rfl,iE,jm,iY,jL,kR⟩:=hu;obtain ⟨dK,rfl,ig⟩:=jL;have hs:=St.start w;refine ahe _ _ _ ?_;unfold S51;refine dE hs (λ xK w1 hs=>?_);refine ⟨λ jv w'=>jv = .bool (kQ u)∧St w bD [cD xK (Flat.enc (⟨iD,(u).stays,gG,(u).locks,eZ,(⟨((u).recover).aK,((u).recover).counts,dK⟩:cK),fi⟩:dM))] w',?_,?_⟩
 ·refine aA mn (aB et hs.hb rfl ?_);have Wq:=DL.flat (iE);refine aJ ei (Wq.ext hs.aF) (dA (aC (λ kF=>?_) (λ kF=>?_)))
  ·exact ⟨vb (by unfold kQ; grind),hs⟩
  ·refine aA o9 (aB (v:=.int .i64 ((u).stays)) bL hs.hb rfl (aR (aC (λ l4=>?_) (λ l4=>?_))))
   ·exact ⟨vb (by unfold kQ; grind),hs⟩
   ·refine aA o9 (aB (v:=.int .i64 ((u).stays)) bL hs.hb rfl (aA mn (aB et hs.hb rfl (aJ ei (Wq.ext hs.aF) (dA (aC (λ fP=>?_) (λ fP=>?_)))))))
    ·exact ⟨vb (by unfold kQ; grind),hs⟩
    ·refine aA wU (aB et hs.hb rfl ?_);have aqn:=DL.flat (jm);refine aJ ei (aqn.ext hs.aF) (aA mn (aB et hs.hb rfl (aJ ei (Wq.ext hs.aF) (cS (aC (λ iC=>?_) (λ iC=>?_))))))
     ·exact ⟨vb (by unfold kQ; grind),hs⟩
     ·refine aA CA (aB (v:=.int .i64 ((u).locks)) bL hs.hb rfl (aR (aC (λ si=>?_) (λ si=>?_))))
      ·exact ⟨vb (by unfold kQ; grind),hs⟩
      ·refine aA CA (aB (v:=.int .i64 ((u).locks)) bL hs.hb rfl (dA (aC (λ sj=>?_) (λ sj=>?_))))
       ·exact ⟨vb (by unfold kQ; grind),hs⟩
       ·refine aA rV (aB FF hs.hb rfl ?_);obtain ⟨ts114,afO,aqo⟩:=(iY).open;have hn114:=aqo.1;refine aJ A5 (afO.ext hs.aF) (aR (aC (λ pI=>?_) (λ pI=>?_)))
        ·exact ⟨vb (by unfold kQ; grind),hs⟩
        ·refine aA rV (aB FF hs.hb rfl (aJ A5 (afO.ext hs.aF) (dA ?_)));exact ⟨vb (by unfold kQ; grind),hs⟩
 ·rintro _ w2 ⟨rfl,hs⟩ fB;refine aX (λ GK=>?_) (λ GK=>?_)
  ·have hs:=(hs).drop;refine ⟨vb ?_,hs.aF⟩;unfold nt;rw [GK]; rfl
  ·obtain ⟨Ii,hb2,hb3,hb4,hb5,hb6,hb7,hb8⟩:=NT GK;have hzc:=hz.cC;have KP:=hz.threads;have hzf:=hz.dC;refine aA mn (aB et hs.hb rfl ?_);have afQ:=DL.flat (iE);refine aJ ei (afQ.ext hs.aF) ?_;refine ⟨λ m y x w1=>∃ (k:Nat) (last:Int),y = .int .i64 last∧x = .int .i64 (k:Int)∧m=u.lines.length - k∧k≤u.lines.length∧last=lq u.lines k - 1∧(∀ j,j<k→j5 u j=false)∧St w bD [cD xK (Flat.enc (⟨iD,(u).stays,gG,(u).locks,eZ,(⟨((u).recover).aK,((u).recover).counts,dK⟩:cK),fi⟩:dM))] w1,⟨_,0,-1,rfl,rfl,rfl,Nat.zero_le _,rfl,by simp,hs⟩,?_⟩
   rintro m _ _ w3 ⟨k,last,rfl,rfl,rfl,hk,afR,ac1,hs⟩ jw;refine aR (aC (λ sm=>?_) (λ sm=>?_))
   ·obtain ⟨GO,wu⟩:=gx ((u).lines) (i:=((k:Int)).toNat) (by omega);refine aQ ei afQ (by omega) wu (λ _ Ee=>?_)
    have hwb : -1≤last∧last≤(k:Int):=by
     by_cases h0:k=0
     ·subst h0; rw [afR]; unfold lq; simp
     ·obtain ⟨m,hm⟩:∃ m,u.lines[k - 1]? = some m:=⟨_,List.getElem?_eq_getElem (by omega)⟩;have h1:=EJ ac1 (k - 1) m (by omega) hm;have h2:=EL hm;rw [show k - 1+1=k from by omega] at h2;omega
    refine aD bL (Ee.ext hs.aF) ?_;refine ⟨λ jv w'=>jv = .bool (decide (0<(k:Int)) && decide ((k:Int)<u.stays) && decide (GO=last))∧St w bD [cD xK (Flat.enc (⟨iD,(u).stays,gG,(u).locks,eZ,(⟨((u).recover).aK,((u).recover).counts,dK⟩:cK),fi⟩:dM))] w',?_,?_⟩
    ·refine dA (aC (λ og=>?_) (λ og=>?_))
     ·refine aA o9 (aB (v:=.int .i64 ((u).stays)) bL hs.hb rfl (aR (aC (λ aqp=>?_) (λ aqp=>?_))))
      ·refine aH ?_;exact ⟨vb (by grind),hs⟩
      ·exact ⟨vb (by grind),hs⟩
     ·exact ⟨vb (by grind),hs⟩
    ·rintro _ w4 ⟨rfl,hs⟩ oN;refine ⟨λ jv w'=>jv = .bool (j5 u k)∧St w bD [cD xK (Flat.enc (⟨iD,(u).stays,gG,(u).locks,eZ,(⟨((u).recover).aK,((u).recover).counts,dK⟩:cK),fi⟩:dM))] w',?_,?_⟩
     ·refine bZ (aX (λ Vm=>?_) (λ Vm=>?_))
      ·refine aO (by omega) (cS ?_);exact ⟨vb (by rw [GS (k:=k) wu]; grind),hs⟩
      ·exact ⟨vb (by rw [GS (k:=k) wu]; grind),hs⟩
     ·rintro _ w5 ⟨rfl,hs⟩ GJ;refine aX (λ Wr=>?_) (λ Wr=>?_)
      ·have hs:=(hs).drop;refine ⟨vb ?_,hs.aF⟩;unfold nt;rw [rj (f:=j5 u) (j:=k) (by omega) Wr]; simp
      ·refine aO (by omega) ?_;exact ⟨_,by omega,k+1,GO,rfl,rfl,rfl,by omega,by rw [EL (k:=k) wu]; omega,zT ac1 Wr,hs⟩
   ·have hL:(List.range u.lines.length).any (j5 u)=false:=m6 (λ j hj=>ac1 j (by omega));have hsm:=Lp (u:=u) (λ j hj=>ac1 j (by omega));refine ⟨λ jv w'=>jv = .bool ((!u.dC.any lr) && (!u.threads.any (λ c=>!lj c u.lines.length (gp u) u.locks)) && lj u.recover u.lines.length (gp u) u.locks && (!u.cC.any (λ l=>!eL l u.stays)))∧St w bD [cD xK (Flat.enc (⟨iD,(u).stays,gG,(u).locks,eZ,(⟨((u).recover).aK,((u).recover).counts,dK⟩:cK),fi⟩:dM))] w',?_,?_⟩
    ·refine aA wU (aB et hs.hb rfl ?_);have aqq:=DL.flat (jm);have hf1:Ci w3 (.func (.func 111) #[] #[]) lr:=⟨111,[],[],rfl,amL,λ x w1 _=>C111 x w1⟩;refine aZ amP hs (C117 _ _ _ lr _ (aqq.ext hs.aF) hf1 (by omega)) (λ w6 he hs=>bZ (aX (λ Wn=>?_) (λ Wn=>?_)))
     ·refine aA rV (aB FF hs.hb rfl ?_);have TI:n7 PG _ (.func (.func 112) [].toArray [.pointer (some ⟨xK,0,none⟩)].toArray) CZ (λ c=>!lj c u.lines.length (gp u) u.locks):=⟨112,[],_,rfl,aep,λ s c w1 e1 hd hzc=>C112 c s u _ xK w1 hd (hs.At.ext e1) (cA.ext hu0 (Ext.trans hs.aF e1)) hzc hz hsm⟩;refine aZ amQ hs (C118 _ _ _ CZ (λ c=>!lj c u.lines.length (gp u) u.locks) _ (iY.ext hs.aF) TI hz.th (by omega)) (λ w7 he hs=>bZ (aX (λ D9=>?_) (λ D9=>?_)))
      ·refine aA zw (uN (⟨((u).recover).aK,((u).recover).counts,dK⟩:cK) pQ hs.hb rfl (ga (first:=[]) (cap:=[.pointer (some ⟨xK,0,none⟩)]) aep (C112 u.recover _ u _ xK _ ⟨dK,rfl,(ig.ext hs.aF)⟩ hs.At (cA.ext hu0 hs.aF) hz.rc hz hsm) ?_));rintro _ w8 ⟨rfl,he⟩;have hs:=hs.ext he;refine bZ (aX (λ NW=>?_) (λ NW=>?_))
       ·refine aA wV (aB RJ hs.hb rfl ?_);have hf3:n7 PG _ (.func (.func 115) [].toArray [.pointer (some ⟨xK,0,none⟩)].toArray) (λ l:List nk=>l.length≤1000) (λ l=>!eL l u.stays):=⟨115,[],_,rfl,amO,λ s l w1 e1 hd hl=>C115 _ l xK u.stays w1 (DL.flat hd) ((hs.hb.cell rfl).ext e1) hl⟩;refine aZ amR hs (C119 _ _ _ (λ l:List nk=>l.length≤1000) (λ l=>!eL l u.stays) _ (kR.ext hs.aF) hf3 hz.cl (by omega)) (λ w9 he hs=>bZ ?_);exact ⟨vb (by grind),hs⟩
       ·exact ⟨vb (by grind),hs⟩
      ·exact ⟨vb (by grind),hs⟩
     ·exact ⟨vb (by grind),hs⟩
    ·rintro _ pP ⟨rfl,hs⟩ RX;have hs:=(hs).drop;refine ⟨vb ?_,hs.aF⟩;unfold nt;rw [GK,hL];simp only [Bool.not_false,Bool.true_and,Bool.and_true];cases u.dC.any lr <;> cases u.threads.any (λ c=>!lj c u.lines.length (gp u) u.locks) <;> cases u.cC.any (λ l=>!eL l u.stays) <;> cases lj u.recover u.lines.length (gp u) u.locks <;> rfl
theorem Ws {α:Type} {t1 d:List α} {e y y2:α} {k:Nat} (hk:t1.length=k):((t1++e::d).set k y).set k y2=t1++[y2]++d:=by
 subst hk
 rw [List.set_append_right _ _ (Nat.le_refl _),Nat.sub_self,List.set_cons_zero,List.set_append_right _ _ (Nat.le_refl _),Nat.sub_self,List.set_cons_zero]; simp
theorem set_self? {α:Type} {l:List α} {k:Nat} {y e:α} (h:(l.set k y)[k]? = some e):e=y:=by
 have hk:=(List.getElem?_eq_some_iff.1 h).1
 rw [List.length_set] at hk
 rw [List.getElem?_set_self hk] at h
 exact (Option.some.inj h).symm
theorem Sa {α:Type} (l:List α) (n:Nat):l.take (min (l.length:Int) n).toNat=l.take n:=by
 rcases Nat.lt_or_ge l.length n with h | h
 ·rw [List.take_of_length_le (by omega),List.take_of_length_le (by omega)]
 ·rw [show (min (l.length:Int) n).toNat=n from by omega]
theorem C121 (sv:Value) (xs:List nk) (w:World) (hL:eF (λ _=>True) w sv xs) (hn:xs.length≤1000000):CR 121 [sv] w (λ v w'=>lW (bK v xs) w w'):=by
 have hs:=St.start w;refine Ze _ _ _ ?_;unfold S121;refine wZ Tryz.underlying99 (hL.ext hs.aF) (λ p hp=>aX (λ pG=>?_) (λ pG=>?_))
 ·have hx:=hp pG;subst hx;exact (hs.fX (α:=nk)).fresh
 ·refine bW (([]:List nk)) hs vz rfl rfl (eJ rfl) (λ Ip w1 hs=>?_);have zV:=(hL.ext hs.aF);refine cN hs vz zV (by simp; omega) (by decide) (λ KV w2 hs=>?_);exact hs.fresh
theorem C70 (sv:Value) (xs:List Int) (w:World) (hL:eF (λ _=>True) w sv xs) (hn:xs.length≤1000000):CR 70 [sv] w (λ v w'=>lW (bK v xs) w w'):=by
 have hs:=St.start w;refine ahx _ _ _ ?_;unfold S70;refine wZ Tryz.underlying28 (hL.ext hs.aF) (λ p hp=>aX (λ pG=>?_) (λ pG=>?_))
 ·have hx:=hp pG;subst hx;exact (hs.fX (α:=Int)).fresh
 ·refine bW (([]:List Int)) hs ei rfl rfl (eJ rfl) (λ Ip w1 hs=>?_);have zV:=(hL.ext hs.aF);refine cN hs ei zV (by simp; omega) (by decide) (λ KV w2 hs=>?_);exact hs.fresh
theorem C188 (sv:Value) (xs:List bU) (w:World) (hL:eF (λ _=>True) w sv xs) (hn:xs.length≤1000000):CR 188 [sv] w (λ v w'=>lW (bK v xs) w w'):=by
 have hs:=St.start w;refine Z5 _ _ _ ?_;unfold S188;refine wZ Tryz.underlying31 (hL.ext hs.aF) (λ p hp=>aX (λ pG=>?_) (λ pG=>?_))
 ·have hx:=hp pG;subst hx;exact (hs.fX (α:=bU)).fresh
 ·refine bW (([]:List bU)) hs kK rfl rfl (eJ rfl) (λ Ip w1 hs=>cN hs kK (hL.ext hs.aF) (by simp; omega) (by decide) (λ KV w2 hs=>?_));exact hs.fresh
set_option maxHeartbeats 4000000 in
theorem C120 (c:fo) (cv:cK) (w:World) (hc:cA.dr w cv c) (hz:CZ c):CR 120 [Flat.val cv] w (λ v w'=>∃ cv':cK,v=Flat.val cv'∧lW (eS (λ w=>cA.dr w cv' c)) w w'):=by
 obtain ⟨ug,rfl,EM⟩:=hc;obtain ⟨Sb,hRA,hDA⟩:=(EM).open;have hnA:=hDA.1;have hzl:=hz.l;have hs:=St.start w;refine Zd _ _ _ ?_;unfold S120;refine dE hs (λ ax3 w1 hs=>aN hs HZ (λ lZ w2 hs=>have hs:=hs.enc (cs':=Flat.enc (⟨0,0,⟨none,0,0⟩⟩:cK)) rfl;aA ml (aB uK hs.p1.hb rfl (dB ani hs (C188 _ Sb _ (hRA.ext hs.aF) (by omega)) (λ x6 w3 bY hs=>aA ml ?_)))));obtain ⟨yc,rfl⟩:=(hs).fQ;refine aV hs.p2 uK (eJ rfl) (rfl) (λ w4 hs=>have hs:=hs.enc (cs':=Flat.enc (⟨(c).aK,(c).counts,yc⟩:cK)) rfl;aA ml (aB (v:=Flat.val (yc:SV)) uK hs.hb rfl (aJ kK (hs.p1).fI ?_)))
 have hs:=hs.gE (Φ:=jc ([]:List bU) ([]:List aW)) (λ _=>jc.nil);have hs:=hs.p3.p1.p3.p3;refine ⟨λ m x w1=>∃ (k:Nat) (t1:List bU),x = .int .i64 (k:Int)∧m=Sb.length - k∧k≤Sb.length∧t1.length=k∧St w bD [cD ax3 (Flat.enc (⟨(c).aK,(c).counts,yc⟩:cK)),bK (Flat.val yc) (t1++Sb.drop k),eS (jc t1 (c.l.take k)),cD lZ (Flat.enc (⟨0,0,⟨none,0,0⟩⟩:cK))] w1,⟨_,0,[],rfl,rfl,Nat.zero_le _,rfl,hs⟩,?_⟩;rintro m _ w5 ⟨k,t1,rfl,rfl,hk,ht1,hs⟩ fB;refine aR (aC (λ jV=>?_) (λ jV=>?_))
 ·obtain ⟨e0,he0⟩:∃ e,Sb[k]? = some e:=⟨_,List.getElem?_eq_getElem (by omega)⟩;obtain ⟨r0,hr0⟩:∃ r,c.l[k]? = some r:=⟨_,List.getElem?_eq_getElem (by omega)⟩;obtain ⟨ge,gf,rfl,hE,hF⟩:=hDA.2 k _ _ he0 hr0;have hdc:=drop_cons he0;obtain ⟨Ls,ajR,Qv⟩:∃ e,e=(⟨r0.kind,r0.a,r0.b,ge,gf,r0.to⟩:bU)∧(t1++Sb.drop k)[((k:Int)).toNat]? = some e:=⟨_,rfl,by show (t1++Sb.drop k)[k]? = _; rw [List.getElem?_append_right (by omega),ht1,Nat.sub_self,List.getElem?_drop,Nat.add_zero]; exact he0⟩;have hfE:eF (λ _=>True) w (Flat.val Ls.e) r0.e:=by rw [ajR]; exact DL.flat hE
  have hfF:eF (λ _=>True) w (Flat.val Ls.f) r0.f:=by rw [ajR]; exact DL.flat hF
  have hzz:=hz.ef _ (List.mem_of_getElem? hr0);have hlL:(t1++Sb.drop k).length=Sb.length:=by rw [List.length_append,List.length_drop]; omega
  refine aA ml (have hs:=hs.drew;aB (v:=Flat.val (yc:SV)) uK hs.hb rfl (aA ml (aB (v:=Flat.val (yc:SV)) uK hs.hb rfl (aA ml (aB (v:=Flat.val (yc:SV)) uK hs.hb rfl (dT hs.p1 kK (by omega) (by omega) (λ _ pH=>mZ tK pH (λ _ v9=>nX (Ls).e hs.p1 xB v9 Qv rfl (aA ml (aB (v:=Flat.val (yc:SV)) uK hs.hb rfl (dT hs.p1 kK (by omega) (by omega) (λ _ od=>mZ tL od (λ _ oD=>?_)))))))))))));refine nX (Ls).f hs.p1 xB oD Qv rfl (dB TY hs (C121 _ _ _ (hfE.ext hs.aF) (by omega)) (λ x26 w6 bY hs=>?_))
  refine ⟨aG uK (hs.p1.hb.cell rfl),?_⟩;refine ⟨aG uK (hs.p1.hb.cell rfl),?_⟩;refine ⟨aG uK (hs.p1.hb.cell rfl),?_⟩;refine ⟨UD (Ls).f hs.p2 xB oD Qv rfl,?_⟩;refine dB TY hs (C121 _ _ _ (hfF.ext hs.aF) (by omega)) (λ x33 w7 bY hs=>?_);refine ⟨aG uK (hs.p2.hb.cell rfl),?_⟩;refine ⟨aG uK (hs.p2.hb.cell rfl),?_⟩;refine dT hs.p3 kK (by omega) (by omega) (λ _ ry=>mZ tK ry (λ _ zL=>?_));obtain ⟨yG,rfl⟩:=(hs.p1).fQ;refine Kk {Ls with e:=yG} (yG:SV) hs.p3 xB zL Qv (by decide) rfl (λ w8 hs=>?_);refine ⟨aG uK (hs.p3.hb.cell rfl),?_⟩
  have hlS:((((t1++Sb.drop k)).set ((k:Int)).toNat {Ls with e:=yG})).length=Sb.length:=by rw [List.length_set]; exact hlL
  obtain ⟨afT,EO⟩:=gx ((((t1++Sb.drop k)).set ((k:Int)).toNat {Ls with e:=yG})) (i:=((k:Int)).toNat) (by omega);refine dT hs kK (by omega) (by omega) (λ _ tW=>mZ tL tW (λ _ zS=>?_));obtain ⟨wz,rfl⟩:=(hs.p1).fQ;refine Kk {afT with f:=wz} (wz:SV) hs xB zS EO (by decide) rfl (λ w9 hs=>aO (by omega) ?_);have ax5:=set_self? (k:=k) EO;have hs:=hs.p2.freeze.p2.freeze.p1.fL.p3.fL.dO (Ψ:=jc (t1++[(⟨r0.kind,r0.a,r0.b,yG,wz,r0.to⟩:bU)]) (c.l.take (k+1))) (λ w h=>by rw [← gX (k:=k) hr0]; exact h.1.snoc ⟨_,_,rfl,DL.fq h.2.1,DL.fq h.2.2⟩)
  have hs:=hs.p3.p1.p3.p3.aoq (ys:=t1++[(⟨r0.kind,r0.a,r0.b,yG,wz,r0.to⟩:bU)]++Sb.drop (k+1)) (by rw [hdc]; exact (Ws ht1).trans (by rw [ax5,ajR]));have hs:=hs.p1;exact ⟨_,by omega,k+1,t1++[(⟨r0.kind,r0.a,r0.b,yG,wz,r0.to⟩:bU)],rfl,rfl,by omega,by rw [List.length_append,List.length_singleton]; omega,hs⟩
 ·rw [List.drop_eq_nil_of_le (by omega),List.append_nil,List.take_of_length_le (by omega)] at hs;have hs:=hs.p2.p2.DK;refine aD pQ hs.p1.At (aI (x:=(⟨(c).aK,(c).counts,yc⟩:cK)) hs.p2 pQ rfl rfl (λ pP hs=>aD pQ hs.At ?_));have hs:=hs.p1.jF.dO (Ψ:=(λ w=>cA.dr w (⟨(c).aK,(c).counts,yc⟩:cK) (⟨(c).aK,(c).counts,c.l⟩:fo))) (λ w h=>⟨_,rfl,h⟩);have hs:=((hs.p1.drop).p1).drop;exact ⟨_,rfl,hs.fresh⟩
set_option maxHeartbeats 4000000 in
theorem C53 (u:il) (uv:dM) (w:World) (hu:cA.dr w uv u) (hz:UZ u):CR 53 [Flat.val uv] w (λ v w'=>∃ uv':dM,v=Flat.val uv'∧lW (eS (λ w=>cA.dr w uv' u)) w w'):=by
 obtain ⟨iD,gG,eZ,su,fi,rfl,iE,jm,iY,jL,kR⟩:=hu;obtain ⟨dK,rfl,ig⟩:=jL;have hs:=St.start w;refine ahg _ _ _ ?_;unfold S53;refine dE hs (λ xK w1 hs=>aN hs vO (λ lZ w2 hs=>have hs:=hs.enc (cs':=Flat.enc (⟨⟨none,0,0⟩,0,⟨none,0,0⟩,0,⟨none,0,0⟩,(⟨0,0,⟨none,0,0⟩⟩:cK),⟨none,0,0⟩⟩:dM)) rfl;aA mn ?_));have hs:=hs.drew;have hzl:=hz.lines;have hzf:=hz.dC;have KP:=hz.threads;have hzc:=hz.cC;refine aB et hs.p1.hb rfl ?_;have aqs:=DL.flat (iE);refine aA wU (aB et hs.p1.hb rfl ?_)
 have aqt:=DL.flat (jm);refine aA zw (uN (⟨((u).recover).aK,((u).recover).counts,dK⟩:cK) pQ hs.p1.hb rfl (dB zi hs (C70 _ _ _ (aqs.ext hs.aF) (by omega)) (λ x11 w3 bY hs=>?_)));refine ⟨aG et (hs.p2.hb.cell rfl),?_⟩;refine ⟨Ik (⟨((u).recover).aK,((u).recover).counts,dK⟩:cK) pQ hs.p2.hb rfl,?_⟩;refine aA mn (dB zi hs (C70 _ _ _ (aqt.ext hs.aF) (by omega)) (λ x14 w4 bY hs=>?_));refine ⟨Ik (⟨((u).recover).aK,((u).recover).counts,dK⟩:cK) pQ hs.p3.hb rfl,?_⟩;refine eu aeq (C120 (u).recover _ _ ⟨dK,rfl,(ig.ext hs.aF)⟩ hz.rc) ?_
 rintro _ w5 ⟨sV,rfl,bY⟩;have hs:=hs.made bY;obtain ⟨ma,rfl⟩:=(hs.p2).fQ;refine aV hs.p4 et (eJ rfl) (rfl) (λ w6 hs=>have hs:=hs.enc (cs':=Flat.enc (⟨ma,(u).stays,gG,(u).locks,eZ,(⟨((u).recover).aK,((u).recover).counts,dK⟩:cK),fi⟩:dM)) rfl;aA wU ?_);obtain ⟨oo,rfl⟩:=(hs.p2).fQ;refine aV hs et (eJ rfl) (rfl) (λ w7 hs=>have hs:=hs.enc (cs':=Flat.enc (⟨ma,(u).stays,oo,(u).locks,eZ,(⟨((u).recover).aK,((u).recover).counts,dK⟩:cK),fi⟩:dM)) rfl;aA zw (pk (vs:=Flat.enc sV) hs pQ rfl (eJ rfl) (Flat.one _) (λ w8 hs=>have hs:=hs.enc (cs':=Flat.enc (⟨ma,(u).stays,oo,(u).locks,eZ,sV,fi⟩:dM)) rfl;aA rV (aB (v:=Flat.val (eZ:SV)) FF hs.hb rfl ?_))))
 obtain ⟨aqu,afU,afV⟩:=(iY).open;have hn119:=afV.1;refine aJ A5 (afU.ext hs.aF) ?_;have hs:=((((((hs.xD (α:=fo)).p5).p3).p4).p5).p5).p5;refine ⟨λ m tz x w1=>∃ k:Nat,x = .int .i64 (k:Int)∧m=u.threads.length - k∧k≤u.threads.length∧St w bD [fk tz (u.threads.take k),cD xK (Flat.enc (⟨ma,(u).stays,oo,(u).locks,eZ,sV,fi⟩:dM)),bK (Flat.val ma) ((u).lines),bK (Flat.val oo) ((u).dC),eS (λ w=>cA.dr w sV ((u).recover)),cD lZ (Flat.enc (⟨⟨none,0,0⟩,0,⟨none,0,0⟩,0,⟨none,0,0⟩,(⟨0,0,⟨none,0,0⟩⟩:cK),⟨none,0,0⟩⟩:dM))] w1,⟨_,0,rfl,rfl,Nat.zero_le _,hs⟩,?_⟩
 rintro m tz _ w9 ⟨k,rfl,rfl,hk,hs⟩ fB;refine aR (aC (λ fP=>?_) (λ fP=>?_))
 ·obtain ⟨ao5,Bh⟩:=gx aqu (i:=((k:Int)).toNat) (by omega);obtain ⟨zW,Bi⟩:=gx ((u).threads) (i:=((k:Int)).toNat) (by omega);obtain ⟨Qw,rfl,ac2⟩:=afV.2 _ _ _ Bh Bi;refine aQ A5 afU (by omega) Bh (λ _ q9=>aD pQ (q9.ext hs.aF) (aN hs HZ (λ ajt pP hs=>have hs:=hs.enc (cs':=Flat.enc (⟨0,0,⟨none,0,0⟩⟩:cK)) rfl;aI (x:=(⟨(zW).aK,(zW).counts,Qw⟩:cK)) hs pQ rfl rfl (λ sQ hs=>aD pQ hs.At (eu aeq (C120 zW _ _ ⟨Qw,rfl,(ac2.ext hs.aF)⟩ (hz.th _ (List.mem_of_getElem? Bi))) ?_)))));rintro _ vl ⟨ajS,rfl,bY⟩;have hs:=hs.made bY
  refine eK (s:=ajS) (x:=(zW)) hs A5 (by decide) (λ Vv vm hs=>have hs:=hs.p2;ed hs A5 (by rw [List.length_take,List.length_singleton]; omega) (by decide) (λ VQ sd hs=>aO (by omega) ?_));have hs:=(hs.p1.drop.p5.p5.p5.p5.p5).p5;exact ⟨_,by omega,k+1,rfl,rfl,by omega,by rw [← gX (k:=k) Bi]; exact hs⟩
 ·rw [List.take_of_length_le (by omega)] at hs;refine aA wV (aB (v:=Flat.val (fi:SV)) RJ hs.p1.hb rfl ?_);obtain ⟨aqv,afW,afX⟩:=(kR).open;have hn120:=afX.1;refine aJ FG (afW.ext hs.aF) ?_;have hs:=(((((((hs.xD (α:=(List nk))).p6).p6).p6).p6).p6).p6).p6;refine ⟨λ m zh x w1=>∃ q:Nat,x = .int .i64 (q:Int)∧m=u.cC.length - q∧q≤u.cC.length∧St w bD [fk zh (u.cC.take q),fk tz u.threads,cD xK (Flat.enc (⟨ma,(u).stays,oo,(u).locks,eZ,sV,fi⟩:dM)),bK (Flat.val ma) ((u).lines),bK (Flat.val oo) ((u).dC),eS (λ w=>cA.dr w sV ((u).recover)),cD lZ (Flat.enc (⟨⟨none,0,0⟩,0,⟨none,0,0⟩,0,⟨none,0,0⟩,(⟨0,0,⟨none,0,0⟩⟩:cK),⟨none,0,0⟩⟩:dM))] w1,⟨_,0,rfl,rfl,Nat.zero_le _,hs⟩,?_⟩
  rintro m zh _ v7 ⟨q,rfl,rfl,hq,hs⟩ jw;refine aR (aC (λ m7=>?_) (λ m7=>?_))
  ·obtain ⟨qp,pW⟩:=gx aqv (i:=((q:Int)).toNat) (by omega);obtain ⟨Wt,EP⟩:=gx ((u).cC) (i:=((q:Int)).toNat) (by omega);have aqw:DL w (Flat.val qp) Wt:=afX.2 _ _ _ pW EP;refine aQ FG afW (by omega) pW (λ _ tZ=>aD xB (tZ.ext hs.aF) ?_);have aqx:=DL.flat (aqw);have hzk:=hz.cl _ (List.mem_of_getElem? EP);refine dB TY hs (C121 _ _ _ (aqx.ext hs.aF) (by omega)) (λ x43 yT bY hs=>?_);obtain ⟨Bq,rfl⟩:=(hs).fQ;have hs:=hs.freeze.dO (Ψ:=λ w=>cA.dr w Bq ((Wt))) (λ w h=>DL.fq h);refine eK (s:=Bq) (x:=(Wt)) hs FG (by decide) (λ apB Ch hs=>have hs:=hs.p1;ed hs FG (by rw [List.length_take,List.length_singleton]; omega) (by decide) (λ Wf Im hs=>aO (by omega) ?_))
   have hs:=hs.p6.p6.p6.p6.p6.p6.p6;exact ⟨_,by omega,q+1,rfl,rfl,by omega,by rw [← gX (k:=q) EP]; exact hs⟩
  ·rw [List.take_of_length_le (by omega)] at hs;refine aA rV ?_;obtain ⟨sw,rfl⟩:=(hs.p1).lH;refine aV hs.p2 FF (eJ rfl) (rfl) (λ Jp hs=>have hs:=hs.enc (cs':=Flat.enc (⟨ma,(u).stays,oo,(u).locks,sw,sV,fi⟩:dM)) rfl;aA wV ?_);obtain ⟨yH,rfl⟩:=(hs.p1).lH;refine aV hs RJ (eJ rfl) (rfl) (λ Kz hs=>have hs:=hs.enc (cs':=Flat.enc (⟨ma,(u).stays,oo,(u).locks,sw,sV,yH⟩:dM)) rfl;aD tG hs.At (aI (x:=(⟨ma,(u).stays,oo,(u).locks,sw,sV,yH⟩:dM)) hs.p6 tG rfl rfl (λ Mu hs=>aD tG hs.At ?_)))
   have hs:=hs.p4.freeze.p5.freeze.p1.fL.p4.jF.p1.fL.p4.p1.fL.p3.jF.p1.fL.dO (Ψ:=(λ w=>cA.dr w (⟨ma,(u).stays,oo,(u).locks,sw,sV,yH⟩:dM) (⟨((u).lines),(u).stays,((u).dC),(u).locks,(u).threads,((u).recover),(u).cC⟩:il))) (λ w h=>⟨_,_,_,_,_,rfl,DL.fq h.1.1.1.1,DL.fq h.1.1.1.2,h.1.1.2,h.1.2,h.2⟩);have hs:=((hs.p1.drop).p1).drop;exact ⟨_,rfl,hs.fresh⟩
def sW (x y:bJ):Bool:=decide (x.kind≠7∧y.kind≠7∧(x.kind=6∨y.kind=6)∧x.line≠y.line)
def right (x:bJ):Bool:=decide ((x.kind=3∧0≤x.line∧0≤x.cell)∨((x.kind=5∨x.kind=6)∧0≤x.line∧x.cell=0∧x.n=0)∨(x.kind=7∧x.line=0∧x.cell=0∧x.n=0))
theorem C191 (x y:bJ) (w:World):CR 191 [Flat.val x,Flat.val y] w (λ v w'=>v = .bool (sW x y)∧Ext w w'):=by
 have hs:=St.start w;refine Z8 _ _ _ _ ?_;unfold S191;refine dE hs (λ lZ w1 hs=>dE hs (λ Wu w2 hs=>?_));refine ⟨_,?_,λ _ _ h=>h⟩;refine aA px (aB bL hs.p1.hb rfl (aH (aC (λ gn=>?_) (λ gn=>?_))))
 ·intro fB;refine ⟨_,?_,λ _ _ h=>h⟩;refine bZ (fx ?_);intro jw;refine ⟨vb ?_,hs.aF⟩;unfold sW
  first | exact (decide_eq_true (by omega)).symm | exact (decide_eq_false (by omega)).symm | exact decide_eq_decide.2 (by omega) | exact decide_eq_decide.2 (bJ.ext_iff.trans (by dsimp only; omega))
 ·refine aA px (aB bL hs.hb rfl (aH ?_));intro fB;refine ⟨_,?_,λ _ _ h=>h⟩
  first | refine Dl ?_ | refine bZ ?_
  refine aC (λ jG=>?_) (λ jG=>?_)
  ·refine aA px (aB bL hs.p1.hb rfl (aH (aC (λ fw=>?_) (λ fw=>?_))))
   ·refine aA kX (aB bL hs.p1.hb rfl (aA kX (aB bL hs.hb rfl (cS ?_))));intro jw;refine ⟨vb ?_,hs.aF⟩;unfold sW
    first | exact (decide_eq_true (by omega)).symm | exact (decide_eq_false (by omega)).symm | exact decide_eq_decide.2 (by omega) | exact decide_eq_decide.2 (bJ.ext_iff.trans (by dsimp only; omega))
   ·refine aA px (aB bL hs.hb rfl (aH (aC (λ iN=>?_) (λ iN=>?_))))
    ·refine aA kX (aB bL hs.p1.hb rfl (aA kX (aB bL hs.hb rfl (cS ?_))));intro jw;refine ⟨vb ?_,hs.aF⟩;unfold sW
     first | exact (decide_eq_true (by omega)).symm | exact (decide_eq_false (by omega)).symm | exact decide_eq_decide.2 (by omega) | exact decide_eq_decide.2 (bJ.ext_iff.trans (by dsimp only; omega))
    ·intro jw;refine ⟨vb ?_,hs.aF⟩;unfold sW
     first | exact (decide_eq_true (by omega)).symm | exact (decide_eq_false (by omega)).symm | exact decide_eq_decide.2 (by omega) | exact decide_eq_decide.2 (bJ.ext_iff.trans (by dsimp only; omega))
  ·intro jw;refine ⟨vb ?_,hs.aF⟩;unfold sW
   first | exact (decide_eq_true (by omega)).symm | exact (decide_eq_false (by omega)).symm | exact decide_eq_decide.2 (by omega) | exact decide_eq_decide.2 (bJ.ext_iff.trans (by dsimp only; omega))
theorem eqE (x y:bJ):qQ (Flat.enc x) (Flat.enc y)=decide (x=y):=by
 obtain ⟨a,b,c,d⟩:=x
 obtain ⟨a2,b2,c2,d2⟩:=y
 simp [Flat.enc,qQ,eqV,Bool.eq_iff_iff]
theorem C226 (x:bJ) (w:World):CR 226 [Flat.val x] w (λ v w'=>v = .bool (right x)∧Ext w w'):=by
 have hs:=St.start w;refine aaA _ _ _ ?_;unfold S226;refine dE hs (λ U7 w1 hs=>aA px (aB bL hs.hb rfl (aH (aC (λ pC=>?_) (λ pC=>?_)))))
 ·refine ⟨_,?_,λ _ _ h=>h⟩;refine aA kX (aB bL hs.hb rfl (dG (aC (λ gu=>?_) (λ gu=>?_))))
  ·refine aA nT (aB bL hs.hb rfl (dG ?_));intro fB;refine ⟨vb ?_,hs.aF⟩;unfold right
   first | exact (decide_eq_true (by omega)).symm | exact (decide_eq_false (by omega)).symm | exact decide_eq_decide.2 (by omega) | exact decide_eq_decide.2 (bJ.ext_iff.trans (by dsimp only; omega))
  ·intro fB;refine ⟨vb ?_,hs.aF⟩;unfold right
   first | exact (decide_eq_true (by omega)).symm | exact (decide_eq_false (by omega)).symm | exact decide_eq_decide.2 (by omega) | exact decide_eq_decide.2 (bJ.ext_iff.trans (by dsimp only; omega))
 ·refine ⟨_,?_,λ _ _ h=>h⟩;refine aH (aC (λ eB=>?_) (λ eB=>?_))
  ·intro jw;refine aC (λ jG=>?_) (λ jG=>?_)
   ·refine ⟨_,?_,λ _ _ h=>h⟩;refine aA kX (aB bL hs.hb rfl (dG (aC (λ js=>?_) (λ js=>?_))))
    ·refine aA nT (aB bL hs.hb rfl (aH (aC (λ iB=>?_) (λ iB=>?_))))
     ·refine aA mT (aB bL hs.hb rfl (aH ?_));intro oN;refine ⟨vb ?_,hs.aF⟩;unfold right
      first | exact (decide_eq_true (by omega)).symm | exact (decide_eq_false (by omega)).symm | exact decide_eq_decide.2 (by omega) | exact decide_eq_decide.2 (bJ.ext_iff.trans (by dsimp only; omega))
     ·intro oN;refine ⟨vb ?_,hs.aF⟩;unfold right
      first | exact (decide_eq_true (by omega)).symm | exact (decide_eq_false (by omega)).symm | exact decide_eq_decide.2 (by omega) | exact decide_eq_decide.2 (bJ.ext_iff.trans (by dsimp only; omega))
    ·intro oN;refine ⟨vb ?_,hs.aF⟩;unfold right
     first | exact (decide_eq_true (by omega)).symm | exact (decide_eq_false (by omega)).symm | exact decide_eq_decide.2 (by omega) | exact decide_eq_decide.2 (bJ.ext_iff.trans (by dsimp only; omega))
   ·refine aD kW hs.At (pop (Kj _) (lx Ut rfl rfl (eqE x ⟨7,0,0,0⟩) ?_));refine ⟨vb ?_,hs.aF⟩;unfold right
    first | exact (decide_eq_true (by omega)).symm | exact (decide_eq_false (by omega)).symm | exact decide_eq_decide.2 (by omega) | exact decide_eq_decide.2 (bJ.ext_iff.trans (by dsimp only; omega))
  ·refine aH ?_;intro jw;refine aC (λ jG=>?_) (λ jG=>?_)
   ·refine ⟨_,?_,λ _ _ h=>h⟩;refine aA kX (aB bL hs.hb rfl (dG (aC (λ js=>?_) (λ js=>?_))))
    ·refine aA nT (aB bL hs.hb rfl (aH (aC (λ iB=>?_) (λ iB=>?_))))
     ·refine aA mT (aB bL hs.hb rfl (aH ?_));intro oN;refine ⟨vb ?_,hs.aF⟩;unfold right
      first | exact (decide_eq_true (by omega)).symm | exact (decide_eq_false (by omega)).symm | exact decide_eq_decide.2 (by omega) | exact decide_eq_decide.2 (bJ.ext_iff.trans (by dsimp only; omega))
     ·intro oN;refine ⟨vb ?_,hs.aF⟩;unfold right
      first | exact (decide_eq_true (by omega)).symm | exact (decide_eq_false (by omega)).symm | exact decide_eq_decide.2 (by omega) | exact decide_eq_decide.2 (bJ.ext_iff.trans (by dsimp only; omega))
    ·intro oN;refine ⟨vb ?_,hs.aF⟩;unfold right
     first | exact (decide_eq_true (by omega)).symm | exact (decide_eq_false (by omega)).symm | exact decide_eq_decide.2 (by omega) | exact decide_eq_decide.2 (bJ.ext_iff.trans (by dsimp only; omega))
   ·refine aD kW hs.At (pop (Kj _) (lx Ut rfl rfl (eqE x ⟨7,0,0,0⟩) ?_));refine ⟨vb ?_,hs.aF⟩;unfold right
    first | exact (decide_eq_true (by omega)).symm | exact (decide_eq_false (by omega)).symm | exact decide_eq_decide.2 (by omega) | exact decide_eq_decide.2 (bJ.ext_iff.trans (by dsimp only; omega))
def sX (l:List bJ) (i:Int):Bool:=decide (0≤i∧i<l.length) && (match l[i.toNat]? with | some x=>(l.take i.toNat).all (sW x) | none=>false)
def Af (l:List bJ):List Int:=((List.range l.length).map fun (k:Nat)=>(k:Int)).filter (sX l)
theorem uh {l:List bJ} {i:Int} (h:i<0∨(l.length:Int)≤i):sX l i=false:=by
 unfold sX
 have:decide (0≤i∧i<l.length)=false:=by rw [decide_eq_false_iff_not]; omega
 rw [this]; rfl
theorem ac3 {l:List bJ} {i:Int} {x:bJ} (h0:0≤i) (h1:i<l.length) (hx:l[i.toNat]? = some x):sX l i = !(l.take i.toNat).any λ y=>!sW x y:=by
 unfold sX
 rw [hx,decide_eq_true (show 0≤i∧i<l.length from ⟨h0,h1⟩)]
 simp [List.all_eq_not_any_not]
def sY (l:List bJ) (k:Nat):List Int:=((List.range k).map fun (k:Nat)=>(k:Int)).filter (sX l)
theorem GV (l:List bJ) (k:Nat):(sY l k).length≤k:=by
 unfold sY
 have:=List.length_filter_le (sX l) ((List.range k).map fun (k:Nat)=>(k:Int)); simpa using this
theorem NY {l:List bJ} {k:Nat} (h:sX l k=true):sY l (k+1)=sY l k++[(k:Int)]:=by
 unfold sY; rw [List.range_succ,List.map_append,List.filter_append]; simp [h]
theorem Sc {l:List bJ} {k:Nat} (h:sX l k=false):sY l (k+1)=sY l k:=by
 unfold sY; rw [List.range_succ,List.map_append,List.filter_append]; simp [h]
theorem ER (l:List bJ) {k:Nat} (h:k=l.length):sY l k=Af l:=by subst h; rfl
def wA (w:World) (p:Nat) (room:Int) (l:List bJ):Prop:=∃ sv,Cell w p 0 (.int .i64 room)∧Cell w p 1 sv∧eF (λ _=>True) w sv l
def nH (p:Nat) (room:Int) (l:List bJ):HP:=tS λ sv=>sep (cD p [.int .i64 room,sv]) (bK sv l)
theorem wA.ext {w w':World} {p:Nat} {room:Int} {l:List bJ} (h:wA w p room l) (e:Ext w w'):wA w' p room l:=by
 obtain ⟨sv,h1,h2,h3⟩:=h; exact ⟨sv,h1.ext e,h2.ext e,h3.ext e⟩
theorem nH.rd {w:World} {F:Nat→Prop} {p:Nat} {room:Int} {l:List bJ} (h:(nH p room l).p w F):wA w p room l:=by
 obtain ⟨sv,F1,F2,h1,h2,_⟩:=h
 exact ⟨sv,h1.1.cell rfl,h1.1.cell rfl,(bK.rd h2).mono λ _ _=>trivial⟩
theorem C224 (sv fv:Value) (xs:List bJ) (g:bJ→Bool) (w:World) (hL:eF (λ _=>True) w sv xs) (hf:Ci w fv g) (hn:xs.length≤1073741824):CR 224 [sv,fv] w (λ v w'=>v = .int .i64 (uQ g xs)∧Ext w w'):=by
 obtain ⟨g0,first,cap,rfl,vi,lQ⟩:=hf;have hs:=St.start w;refine aay _ _ _ _ ?_;unfold S224;refine aJ po (hL.ext hs.aF) ?_;refine ⟨λ m x w1=>∃ k:Nat,x = .int .i64 (k:Int)∧m=xs.length - k∧k≤xs.length∧(∀ y∈xs.take k,g y=false)∧St w bD [] w1,⟨_,0,rfl,rfl,Nat.zero_le _,by simp,hs⟩,?_⟩;rintro m _ w1 ⟨k,rfl,rfl,hk,fR,hs⟩ fB;refine aR (aC (λ gu=>?_) (λ gu=>?_))
 ·obtain ⟨jk,dD⟩:=gx (xs) (i:=((k:Int)).toNat) (by omega);refine aQ po (hL.ext hs.aF) (by omega) dD (λ _ iM=>aD kW (iM) (ga vi (lQ jk w1 hs.aF) ?_));rintro _ w2 ⟨rfl,he⟩;have hs:=hs.ext he;refine aX (λ eB=>?_) (λ eB=>?_)
  ·exact ⟨congrArg (Value.int .i64) (pd fR dD eB).symm,hs.aF⟩
  ·refine aO (by omega) ?_;exact ⟨xs.length - (k+1),by omega,k+1,rfl,rfl,by omega,eD fR dD eB,hs⟩
 ·exact ⟨congrArg (Value.int .i64) (kn (by rw [List.take_of_length_le (by omega)] at fR; exact fR)).symm,hs.aF⟩
theorem C192 (sv fv:Value) (xs:List bJ) (g:bJ→Bool) (w:World) (hL:eF (λ _=>True) w sv xs) (hf:Ci w fv g) (hn:xs.length≤1073741824):CR 192 [sv,fv] w (λ v w'=>v = .bool (xs.any g)∧Ext w w'):=by
 have hs:=St.start w;refine Z9 _ _ _ _ ?_;unfold S192;refine aZ anA hs (C224 _ _ _ _ _ (hL.ext hs.aF) (hf.ext hs.aF) (by omega)) (λ w1 he hs=>dG ?_);exact ⟨vb (n8 _ _),hs.aF⟩
theorem C190 (x y:bJ) (p b2 b3:Nat) (i:Int) (room:Int) (l:List bJ) (w:World) (h2:Cell w b2 0 (.pointer (some ⟨p,0,none⟩))) (h3:Cell w b3 0 (.int .i64 i)) (hb:wA w p room l) (h0:0≤i) (hx:l[i.toNat]? = some x):CR 190 [Flat.val y,.pointer (some ⟨b2,0,none⟩),.pointer (some ⟨b3,0,none⟩)] w (λ v w'=>v = .bool (!sW x y)∧Ext w w'):=by
 obtain ⟨sv,zo,Ck,hL⟩:=hb;have mz:=(List.getElem?_eq_some_iff.1 hx).1;have hs:=St.start w;refine Z7 _ _ _ _ _ ?_;unfold S190;refine dE hs (λ Wu w1 hs=>have hs:=hs.drew;cG rX (h2.ext hs.aF) (aE (aA ki (cG xA (Ck.ext hs.aF) (cG bL (h3.ext hs.aF) (aQ po (hL.ext hs.aF) h0 hx (λ _ qo=>aD kW (qo) (aD kW hs.At (aZ ank hs (C191 x y _) (λ w2 he hs=>bZ ?_))))))))));exact ⟨rfl,hs.aF⟩
theorem C124 (p:Nat) (i:Int) (room:Int) (l:List bJ) (w:World) (hb:wA w p room l) (hn:l.length≤1073741824):CR 124 [.pointer (some ⟨p,0,none⟩),.int .i64 i] w (λ v w'=>v = .bool (sX l i)∧Ext w w'):=by
 have Jr:=hb;obtain ⟨sv,zo,Ck,hL⟩:=hb;have hs:=St.start w;refine Zh _ _ _ _ ?_;unfold S124;refine tC hs rfl (λ aqy w1 hs=>tC hs rfl (λ aqz w2 hs=>?_));refine ⟨_,?_,λ _ _ h=>h⟩;have hs:=hs.drew;refine aB bL hs.hb rfl (aR (aC (λ iP=>?_) (λ iP=>?_)))
 ·intro fB;refine nN ?_;exact ⟨vb (uh (by omega)).symm,hs.aF⟩
 ·refine aB bL hs.hb rfl (aB rX hs.p1.hb rfl (aE (aA ki (cG xA (Ck.ext hs.aF) (aJ po (hL.ext hs.aF) (dG ?_))))));intro fB;refine aC (λ eB=>?_) (λ eB=>?_)
  ·exact ⟨vb (uh (by omega)).symm,hs.aF⟩
  ·have hs:=hs.drew;refine aB rX hs.p1.hb rfl (aE (aA ki (cG xA (Ck.ext hs.aF) (aB bL hs.hb rfl (RD po (hL.ext hs.aF) (by omega) (by omega) (λ aoz pH=>?_))))));obtain ⟨x,hx⟩:∃ x,l[i.toNat]? = some x:=⟨_,List.getElem?_eq_getElem (by omega)⟩
   have Km:Ci _ (.func (.func 190) [].toArray [.pointer (some ⟨aqy,0,none⟩),.pointer (some ⟨aqz,0,none⟩)].toArray) (λ y=>!sW x y):=
    ⟨190,[],_,rfl,anj,λ y w1 e1=>C190 x y p aqy aqz i room l w1 ((hs.p1.hb.cell rfl).ext e1) ((hs.hb.cell rfl).ext e1) ((Jr.ext hs.aF).ext e1) (by omega) hx⟩
   refine aZ anl hs (C192 _ _ _ _ _ pH Km (by rw [List.length_take]; omega)) (λ w4 he hs=>bZ ?_);exact ⟨vb (ac3 (by omega) (by omega) hx).symm,hs.aF⟩
theorem C123 (p:Nat) (room:Int) (l:List bJ) (w:World) (hb:wA w p room l):CR 123 [.pointer (some ⟨p,0,none⟩)] w (λ v w'=>v = .bool (decide (room≤l.length))∧Ext w w'):=by
 obtain ⟨sv,zo,Ck,hL⟩:=hb;have hs:=St.start w;refine Zg _ _ _ ?_;unfold S123;refine aE (aA ki (have hs:=hs.drew;cG xA (Ck.ext hs.aF) (aJ po (hL.ext hs.aF) (aE (aA Ka (cG bL (zo.ext hs.aF) (dG ?_)))))));exact ⟨rfl,hs.aF⟩
theorem C57 (p:Nat) (room:Int) (l:List bJ) (w:World) (hb:wA w p room l) (hn:l.length≤1048576):CR 57 [.pointer (some ⟨p,0,none⟩)] w (λ v w'=>lW (bK v (Af l)) w w'):=by
 have Jr:=hb;obtain ⟨sv,zo,Ck,hL⟩:=hb;have hs:=St.start w;refine ahk _ _ _ ?_;unfold S57;refine aE (aA ki (cG xA (Ck.ext hs.aF) (aJ po (hL.ext hs.aF) ?_)));refine ⟨λ m o x w1=>∃ k:Nat,x = .int .i64 (k:Int)∧m=l.length - k∧k≤l.length∧St w bD [bK o (sY l k)] w1,⟨_,0,rfl,rfl,Nat.zero_le _,hs.fX⟩,?_⟩;rintro m o _ w1 ⟨k,rfl,rfl,hk,hs⟩ fB;have Qi:=GV l k;refine aR (aC (λ gP=>?_) (λ gP=>?_))
 ·refine ⟨_,?_,λ _ _ h=>h⟩;refine aZ aet hs (C124 _ _ _ _ _ (Jr.ext hs.aF) (by omega)) (λ w2 he hs=>aX (λ jG=>?_) (λ jG=>?_))
  ·refine bW (([(k:Int)]:List Int)) hs ei rfl rfl (eJ rfl) (λ afb w3 hs=>?_);have oc:=(hs).fI;refine cN hs.p1 ei oc (by simp <;> omega) (by decide) (λ UP w4 hs=>?_);have hs:=hs.p1.drop;intro jw;refine aO (by omega) ?_;exact ⟨l.length - (k+1),by omega,k+1,rfl,rfl,by omega,by rw [NY jG]; exact hs⟩
  ·intro jw;refine aO (by omega) ?_;exact ⟨l.length - (k+1),by omega,k+1,rfl,rfl,by omega,by rw [Sc jG]; exact hs⟩
 ·rw [ER l (by omega)] at hs;exact hs.fresh
def NZ (room:Int) (l:List bJ) (x:bJ):Int:=if right x=true then (if room≤l.length then 2 else 0) else 1
def wB (room:Int) (l:List bJ) (x:bJ):List bJ:=if right x=true∧¬ room≤l.length then l++[x] else l
def eh (l:List bJ) (i:Int):bJ:=if sX l i=true then (l[i.toNat]?).getD ⟨0,0,0,0⟩ else ⟨0,0,0,0⟩
def Ag (l:List bJ) (i:Int):Int:=if 0≤i∧i<l.length then (if sX l i=true then 0 else 13) else 1
def mc (l:List bJ) (i:Int):List bJ:=if sX l i=true then l.eraseIdx i.toNat else l
theorem ac4 {l:List bJ} {i:Int} (h:sX l i=true):0≤i∧i<l.length:=by
 unfold sX at h; rw [Bool.and_eq_true,decide_eq_true_eq] at h; exact h.1
theorem wA.mk' {w:World} {p:Nat} {room:Int} {sv:Value} {l:List bJ} (h1:tB w p [.int .i64 room,sv]) (h2:eF (λ _=>True) w sv l):wA w p room l:=
 ⟨sv,h1.cell rfl,h1.cell rfl,h2⟩
theorem nH.shut {w0 w:World} {A:Nat→Prop} {R:List HP} {p:Nat} {room:Int} {sv:Value} {l:List bJ} (hs:St w0 A (cD p [.int .i64 room,sv]::bK sv l::R) w):St w0 A (nH p room l::R) w:=
 St.eP (H:=λ sv=>sep (cD p [.int .i64 room,sv]) (bK sv l)) sv (St.join hs)
theorem Qx {w0 w:World} {A:Nat→Prop} {R:List HP} {p:Nat} {room:Int} {l:List bJ} (hs:St w0 A (nH p room l::R) w):wA w p room l:=by
 obtain ⟨F,h,_⟩:=hs.head; exact nH.rd h
theorem C193 (v:Value) (i:Int) (xs:List bJ) (F:Nat→Prop) (w:World) (hv:(bK v xs).p w F) (h0:0≤i) (hi:i<xs.length) (hn:xs.length≤1073741824) :
  CR 193 [v,.int .i64 i,.int .i64 (i+1)] w (λ v' w'=>True∧qj F (bK v' (xs.eraseIdx i.toNat)) w w'):=by
 obtain ⟨i,rfl⟩:=Int.eq_ofNat_of_zero_le h0;replace hi:i<xs.length:=by omega
 rw [Int.toNat_natCast];have HD:=bK.rd hv;obtain ⟨b,cap,rest,rfl,hb,hl,hF⟩:=qE hv hi;have hlen:(flat xs).length=xs.length * 4:=cQ xs;have J1:xs.length≤cap:=by rw [List.length_append,hlen] at hl; change _=cap * 4 at hl; omega
 refine aaa _ _ _ _ _ ?_;unfold S193;refine pop (HU po) (Uv po (by omega) (by omega) (by omega) (by omega) (λ _=>aH (aC (λ c=>absurd c (by omega)) (λ _=>pop (HU po) ?_))))
 have e22:pr PG (Instr.sliceAt 80 (.slice (some ⟨b,0,none⟩) xs.length cap) none (some (.int .i64 (i:Int))) none)=some (.slice (some ⟨b,0,none⟩) i cap):=by
  rw [A1 po (l:=0) (h:=i) (qD (.inl ⟨rfl,rfl⟩) (.inr ⟨_,rfl,by omega,by omega⟩) (by omega) (by omega))];simp [gN]
 refine pop e22 (RE po HD (by omega) (by omega) (λ s25 h25=>?_));rw [show ((i:Int)+1).toNat=i+1 from by omega] at h25;have hdl:(xs.drop (i+1)).length=xs.length - (i+1):=by simp
 obtain ⟨w1,r1,b1,g1⟩:=FI (P:=PG) (R:=80) (n:=i) (cap:=cap) po (hb.of_eq (w':=drew w) rfl) (h25.ext (Ext.drew w)) (by omega) (by rw [List.length_append,hlen,hdl]; change i * 4+(xs.length - (i+1)) * 4≤_; omega);rw [hdl,show i+(xs.length - (i+1))=xs.length - 1 from by omega] at r1;refine ⟨_,w1,r1,?_⟩;refine pop (HU po) ?_
 have e31:pr PG (Instr.sliceAt 80 (.slice (some ⟨b,0,none⟩) (xs.length - 1) cap) (some (.int .i64 ((xs.length - 1:Nat):Int))) (some (.int .i64 (xs.length:Int))) none)=some (.slice (some ⟨b,(xs.length - 1) * 4,none⟩) 1 (cap - (xs.length - 1))):=by
  rw [A1 po (l:=xs.length - 1) (h:=xs.length) (qD (.inr ⟨_,rfl,by omega,by omega⟩) (.inr ⟨_,rfl,by omega,by omega⟩) (by omega) (by omega)),if_neg (by omega)];simp [gN]; omega
 refine pop e31 ?_;have hx:xs[i]? = some xs[i]:=by simp [hi]
 have RG:=yn hx;have hT:(flat (xs.take i)).length=i * 4:=by rw [cQ,List.length_take,Nat.min_eq_left (by omega)]; rfl
 have hD:(flat (xs.drop (i+1))).length=(xs.length - (i+1)) * 4:=by rw [cQ,hdl]; rfl
 have hX:(Flat.enc xs[i]).length=4:=rfl;have hZ:(flat (List.replicate 1 (⟨0,0,0,0⟩:bJ))).length=4:=rfl
 have s1:gV (flat xs++rest) (i * Flat.sz bJ) (flat (xs.drop (i+1))) =
   flat (xs.take i)++flat (xs.drop (i+1))++((Flat.enc xs[i]++flat (xs.drop (i+1))).drop (flat (xs.drop (i+1))).length++rest):=by
  have:=kI (flat (xs.take i)) ((Flat.enc xs[i]++flat (xs.drop (i+1))).take (flat (xs.drop (i+1))).length)
   ((Flat.enc xs[i]++flat (xs.drop (i+1))).drop (flat (xs.drop (i+1))).length++rest) (flat (xs.drop (i+1))) (by rw [List.length_take,List.length_append]; omega)
  rw [hT] at this
  change gV (flat xs++rest) (i * 4) _=_
  rw [← this,RG]
  have e0:∀ (a b c d:List Value) (n:Nat),a++(b++c)++d=a++(b++c).take n++((b++c).drop n++d):=λ a b c d n=>by
   rw [List.append_assoc a ((b++c).take n),← List.append_assoc ((b++c).take n),List.take_append_drop,List.append_assoc a]
  exact congrArg (λ z=>gV z (i * 4) (flat (xs.drop (i+1)))) (by first | exact e0 _ _ _ _ _ | (rw [← e0]; simp only [List.append_assoc]) | (simp only [List.append_assoc]; rw [← List.append_assoc (List.take _ _),List.take_append_drop,List.append_assoc]))
 rw [s1] at b1
 obtain ⟨w2,r2,b2,g2⟩:=RO (P:=PG) (R:=0) (o:=(xs.length - 1) * 4) (n:=1) (c:=cap - (xs.length - 1)) (z:=(⟨0,0,0,0⟩:bJ)) po uL b1
  (by simp only [List.length_append,List.length_drop,hT,hD,hX]; change _+1 * 4≤_; omega)
 refine ⟨_,w2,r2,?_⟩
 have s2:=kI (flat (xs.take i)++flat (xs.drop (i+1))) ((Flat.enc xs[i]++flat (xs.drop (i+1))).drop (flat (xs.drop (i+1))).length) rest (flat (List.replicate 1 (⟨0,0,0,0⟩:bJ)))
  (by rw [List.length_drop,List.length_append,hX,hZ]; omega)
 rw [show (flat (xs.take i)++flat (xs.drop (i+1))).length=(xs.length - 1) * 4 from by rw [List.length_append,hT,hD]; omega,List.append_assoc _ _ rest] at s2;rw [s2] at b2;refine ⟨trivial,F,.inr ⟨b,cap,flat (List.replicate 1 (⟨0,0,0,0⟩:bJ))++rest,?_,?_,?_,hF⟩,λ b hb=>.inl hb,?_⟩
 ·rw [List.length_eraseIdx_of_lt hi]
 ·rw [List.eraseIdx_eq_take_drop_succ,ik,← List.append_assoc]; exact b2
 ·rw [List.eraseIdx_eq_take_drop_succ,ik]
  change _=cap * 4
  change _=cap * 4 at hl
  rw [List.length_append,hlen] at hl;simp only [List.length_append,hT,hD,hZ];omega
 ·exact ((Ext.drew w).aF (A:=F)).trans (g1.trans (C:=F) g2 (λ k hk=>(hF k).2 hk) λ k _ hk=>(hF k).2 hk) (λ _ h=>h) λ _ _ h=>h
theorem C154 (sv:Value) (xs:List bJ) (w:World) (hL:eF (λ _=>True) w sv xs) (hn:xs.length≤1073741824):CR 154 [sv] w (λ v w'=>lW (bK v xs) w w'):=by
 have hL0:=hL;obtain ⟨a,cap,rfl,J1,h3⟩:=hL;have hs:=St.start w;refine Zx _ _ _ ?_;unfold S154;refine T9 (gq po).1 (λ h0=>?_) ?_
 ·rcases h3 with ⟨h,hc⟩ | ⟨b,o,h,_⟩
  ·exact ⟨by rw [h]; rfl,hc⟩
  ·rw [h0] at h; cases h
 refine aX (λ pG=>?_) (λ pG=>?_)
 ·have ha:a=none:=by cases a with | none=>rfl | some _=>cases pG
  have hx:xs=[]:=by
   rcases h3 with ⟨h,_⟩ | ⟨b,o,h,_⟩
   ·exact h
   ·rw [ha] at h; cases h
  subst hx;exact hs.fX.fresh
 ·refine bW (([]:List bJ)) hs po rfl rfl (eJ rfl) (λ Ip w1 hs=>?_);have zV:=(hL0.ext hs.aF);refine cN hs po zV (by simp <;> omega) (by decide) (λ KV w2 hs=>?_);exact hs.fresh
theorem C91 (p:Nat) (room:Int) (l:List bJ) (w:World) (hb:wA w p room l) (hn:l.length≤1073741824):CR 91 [.pointer (some ⟨p,0,none⟩)] w (λ v w'=>lW (bK v l) w w'):=by
 obtain ⟨sv,zo,Ck,hL⟩:=hb;have hs:=St.start w;refine ahH _ _ _ ?_;unfold S91;refine aE (aA ki (cG xA (Ck.ext hs.aF) (eu aez (C154 _ _ _ (hL.ext hs.aF) (by omega)) ?_)));rintro _ w1 bY;have hs:=hs.made bY;exact hs.fresh
theorem Wv {room:Int} {l:List bJ} {x:bJ} (h:right x=false):NZ room l x=1:=by unfold NZ; rw [h]; rfl
theorem Ww {room:Int} {l:List bJ} {x:bJ} (h:right x=false):wB room l x=l:=by unfold wB; rw [h]; rfl
theorem Sd {room:Int} {l:List bJ} {x:bJ} (h:right x=true) (hf:room≤l.length):NZ room l x=2:=by unfold NZ; rw [h,if_pos rfl,if_pos hf]
theorem Se {room:Int} {l:List bJ} {x:bJ} (hf:room≤l.length):wB room l x=l:=by unfold wB; rw [if_neg (λ hh=>hh.2 hf)]
theorem ac5 {room:Int} {l:List bJ} {x:bJ} (h:right x=true) (hf:¬ room≤l.length):NZ room l x=0:=by unfold NZ; rw [h,if_pos rfl,if_neg hf]
theorem ac6 {room:Int} {l:List bJ} {x:bJ} (h:right x=true) (hf:¬ room≤l.length):wB room l x=l++[x]:=by unfold wB; rw [if_pos ⟨h,hf⟩]
theorem C196 (p:Nat) (room:Int) (l:List bJ) (x:bJ) (F:Nat→Prop) (w:World) (hF:(nH p room l).p w F) (hn:l.length≤1048576):CR 196 [.pointer (some ⟨p,0,none⟩),Flat.val x] w (λ v w'=>v = .int .i64 (NZ room l x)∧qj F (nH p room (wB room l x)) w w'):=by
 have hs:=St.begin hF;obtain ⟨sv,hs⟩:=hs.eV;have hs:=hs.split;refine aad _ _ _ _ ?_;unfold S196;refine dE hs (λ KZ w1 hs=>aD kW hs.At (aZ anC hs (C226 _ _) (λ w2 he hs=>bZ (aX (λ gn=>?_) (λ gn=>?_)))))
 ·have hs:=hs.p2.p2;rw [Wv (by simpa using gn),Ww (by simpa using gn)];exact ⟨rfl,(nH.shut hs).mut⟩
 ·refine aZ aes hs (C123 _ _ _ _ (wA.mk' hs.p1.hb hs.p2.fI)) (λ w3 he hs=>aC (λ gP=>?_) (λ gP=>?_))
  ·have hs:=hs.p2.p2;rw [Sd (by simpa using gn) gP,Se gP];exact ⟨rfl,(nH.shut hs).mut⟩
  ·refine aE (aA ki (have hs:=hs.drew;aB xA hs.p1.hb rfl (aD kW hs.At (bW ([x]) hs po rfl rfl (eJ rfl) (λ afb w4 hs=>?_)))));refine ⟨aG xA (hs.p2.hb.cell rfl),?_⟩;have oc:=(hs).fI;refine cN hs.p3 po oc (by simp <;> omega) (by decide) (λ UP w5 hs=>have hs:=hs.p1.drop;aE (aA ki (aV hs.p2 xA (eJ rfl) ((hs).fI.one) (λ w6 hs=>?_))));have hs:=hs.p1.p1;rw [ac5 (by simpa using gn) gP,ac6 (by simpa using gn) gP];exact ⟨rfl,(nH.shut hs).mut⟩
theorem Bt {l:List bJ} {i:Int} (h:sX l i=false):eh l i=⟨0,0,0,0⟩:=by unfold eh; rw [h]; rfl
theorem Bu {l:List bJ} {i:Int} (h:sX l i=false):mc l i=l:=by unfold mc; rw [h]; rfl
theorem GW {l:List bJ} {i:Int} (h:i<0∨(l.length:Int)≤i):Ag l i=1:=by unfold Ag; rw [if_neg (by omega)]
theorem Wx {l:List bJ} {i:Int} (h0:0≤i∧i<l.length) (h:sX l i=false):Ag l i=13:=by unfold Ag; rw [if_pos h0,h]; rfl
theorem Wy {l:List bJ} {i:Int} (h:sX l i=true):Ag l i=0:=by unfold Ag; rw [if_pos (ac4 h),h]; rfl
theorem Wz {l:List bJ} {i:Int} {x:bJ} (h:sX l i=true) (hx:l[i.toNat]? = some x):eh l i=x:=by unfold eh; rw [h,hx]; rfl
theorem WA {l:List bJ} {i:Int} (h:sX l i=true):mc l i=l.eraseIdx i.toNat:=by unfold mc; rw [h]; rfl
theorem C127 (p:Nat) (room:Int) (l:List bJ) (i:Int) (F:Nat→Prop) (w:World) (hF:(nH p room l).p w F) (hn:l.length≤1048576):CR 127 [.pointer (some ⟨p,0,none⟩),.int .i64 i] w (λ v w'=>v = .tuple #[Flat.val (eh l i),.int .i64 (Ag l i)]∧qj F (nH p room (mc l i)) w w'):=by
 have hs:=St.begin hF;obtain ⟨sv,hs⟩:=hs.eV;have hs:=hs.split;refine Zk _ _ _ _ ?_;unfold S127;refine aN hs uL (λ Cj w1 hs=>?_);refine ⟨_,?_,λ _ _ h=>h⟩;refine aR (aC (λ gn=>?_) (λ gn=>?_))
 ·intro fB;refine nN (pop (Ic) (aI (x:=(⟨0,0,0,0⟩:bJ)) hs kW rfl rfl (λ w3 hs=>aD kW hs.At ?_)));have hs:=hs.p2.p2;rw [Bt (uh (by omega)),GW (by omega),Bu (uh (by omega))];exact ⟨rfl,(nH.shut hs).mut⟩
 ·refine aE (aA ki (aB xA hs.p1.hb rfl (aJ po (hs.p2).fI (dG ?_))));intro fB;refine aC (λ l4=>?_) (λ l4=>?_)
  ·refine pop (Ic) (aI (x:=(⟨0,0,0,0⟩:bJ)) hs kW rfl rfl (λ w3 hs=>aD kW hs.At ?_));have hs:=hs.p2.p2;rw [Bt (uh (by omega)),GW (by omega),Bu (uh (by omega))];exact ⟨rfl,(nH.shut hs).mut⟩
  ·refine aZ aet hs (C124 _ _ _ _ _ (wA.mk' hs.p1.hb hs.p2.fI) (by omega)) (λ w4 he hs=>bZ (aX (λ iL=>?_) (λ iL=>?_)))
   ·refine pop (Ic) (aI (x:=(⟨0,0,0,0⟩:bJ)) hs kW rfl rfl (λ w5 hs=>aD kW hs.At ?_));have hs:=hs.p2.p2;rw [Bt (by simpa using iL),Wx (by omega) (by simpa using iL),Bu (by simpa using iL)];exact ⟨rfl,(nH.shut hs).mut⟩
   ·refine aE (aA ki (aB xA hs.p1.hb rfl ?_));obtain ⟨B0,lD⟩:=gx (l) (i:=(i).toNat) (by omega);refine dT hs.p2 po (by omega) (by omega) (λ _ D0=>gj hs.p2 kW D0 lD (aN hs uL (λ N3 w6 hs=>aI (x:=B0) hs kW rfl rfl (λ w7 hs=>aE (aA ki (aB xA hs.p2.hb rfl (eu aez (C154 _ _ _ (hs.p3).fI (by omega)) ?_)))))));rintro _ w8 bY;have hs:=hs.made bY;refine aO (by omega) (pb anm hs (H':=λ v=>bK v (l.eraseIdx i.toNat)) (Φ:=λ _ _=>True) (λ F hF=>?_) ?_)
    ·exact C193 _ i _ F _ hF (by omega) (by omega) (by omega)
    rintro x40 w9 _ hs;refine aE (aA ki (aV hs.p3 xA (eJ rfl) ((hs).fI.one) (λ pP hs=>aD kW hs.p2.At (aI (x:=B0) hs.p3 kW rfl rfl (λ sQ hs=>aD kW hs.At ?_)))));have hs:=hs.p2.p2;rw [Wz (by simpa using iL) lD,Wy (by simpa using iL),WA (by simpa using iL)];exact ⟨rfl,(nH.shut hs).mut⟩
def rz (l:List bJ) (c:Int):Option Int:=(l.reverse.find? λ x=>decide (x.kind=3∧x.cell=c)).map (·.n)
theorem C250 (y sv:Value) (b:Nat) (xs:List bJ) (J:Nat→World→Prop) (Jx:World→Prop) (w:World) (hn:xs.length≤1073741824)
  (hJ:∀ k W,J k W→Cell W b 0 sv∧eF (λ _=>True) W sv xs) (h0:J 0 w)
  (hy:∀ k x W,xs.reverse[k]? = some x→J k W→fY PG y [.int .i64 ((xs.length:Int) - 1 - k),Flat.val x] W (λ v W'=>(v = .bool true∧J (k+1) W')∨(v = .bool false∧Jx W'))) :
  CR 250 [y,.pointer (some ⟨b,0,none⟩)] w (λ _ W=>J xs.length W∨Jx W):=by
 refine aaX _ _ _ _ ?_;unfold S250;refine cG xA (hJ 0 w h0).1 (aJ po (hJ 0 w h0).2 (gy (by omega) ?_));refine ⟨λ m x w1=>∃ k:Nat,x = .int .i64 ((xs.length:Int) - 1 - k)∧m=xs.length - k∧k≤xs.length∧J k w1,⟨_,0,by simp,rfl,Nat.zero_le _,h0⟩,?_⟩;rintro m _ w1 ⟨k,rfl,rfl,hk,hj⟩ fB;refine dG (aC (λ c=>?_) (λ c=>?_))
 ·obtain ⟨h1,h2⟩:=hJ k w1 hj;have mz:k<xs.length:=by omega
  have hx:xs.reverse[k]? = some (xs[xs.length - 1 - k]'(by omega)):=by rw [List.getElem?_reverse mz,List.getElem?_eq_getElem]
  refine cG xA h1 (aQ po h2 (by omega) (x:=xs[xs.length - 1 - k]'(by omega)) (by rw [List.getElem?_eq_getElem (by omega)]; congr 2; omega) (λ q hq=>?_));refine aD kW hq ?_;obtain Sf:=hy k _ w1 hx hj;refine fY.mono Sf ?_;rintro v w2 (⟨rfl,hj2⟩ | ⟨rfl,AS⟩)
  ·refine bZ (fx (gy (by omega) ?_));exact ⟨xs.length - (k+1),by omega,k+1,by congr 1; omega,rfl,by omega,hj2⟩
  ·refine bZ (nN ?_);exact .inr AS
 ·have:k=xs.length:=by omega
  subst this;exact .inl hj
theorem C225 (sv:Value) (w:World) (h1:rO sv=true):CR 225 [sv] w (λ v w'=>∃ b,v = .func (.func 250) [].toArray [.pointer (some ⟨b,0,none⟩)].toArray∧lW (cD b [sv]) w w'):=by
 have hs:=St.start w;refine aaz _ _ _ ?_;unfold S225;refine tC hs h1 (λ b w1 hs=>?_);exact ⟨b,rfl,hs.fresh⟩
theorem Sg {α:Type} {p:α→Bool} {l:List α} {k:Nat} {x:α} (fR:∀ y∈l.take k,p y=false) (hx:l[k]? = some x) (hp:p x=true):l.find? p=some x:=by
 rw [List.find?_eq_some_iff_getElem]
 have hk:=(List.getElem?_eq_some_iff.1 hx)
 obtain ⟨mz,he⟩:=hk
 refine ⟨hp,k,mz,he,λ j hj=>?_⟩
 have:=fR (l[j]'(by omega)) (List.mem_take_iff_getElem.2 ⟨j,by omega,rfl⟩)
 simp [this]
theorem C194 (p:Nat) (c room:Int) (l:List bJ) (w:World) (hb:wA w p room l) (hn:l.length≤1048576) :
  CR 194 [.pointer (some ⟨p,0,none⟩),.int .i64 c] w (λ v w'=>v = .tuple #[.int .i64 ((rz l c).getD 0),.bool (rz l c).isSome]∧Ext w w'):=by
 obtain ⟨sv,zo,Ck,hL⟩:=hb;have hs:=St.start w;refine aab _ _ _ _ ?_;unfold S194;refine tC hs rfl (λ b3 w1 hs=>ym hs BM rfl (λ b4 w2 hs=>ym hs aeS rfl (λ b5 w3 hs=>aE (aA ki (cG xA (Ck.ext hs.aF) (eu anB (C225 sv _ hL.one) ?_))))));rintro _ w4 ⟨b,rfl,bY⟩;have hs:=hs.made bY
 refine Uw (cap:=[.pointer (some ⟨b,0,none⟩)]) (xs:=(List.range l.length).map fun (k:Nat)=>[Value.int .i64 ((l.length:Int) - 1 - k),Flat.val ((l.reverse[k]?).getD ⟨0,0,0,0⟩)]) anR hs
  (λ k M=>M=[cD b [sv],cD b5 [.bool false],cD b4 [.int .i64 0],cD b3 [.int .i64 c]]∧∀ y∈l.reverse.take k,decide (y.kind=3∧y.cell=c)=false)
  (λ cd M=>cd = .ret∧∃ x,rz l c=some x∧M=[cD b5 [.bool true],cD b4 [.int .i64 x]])
  ⟨rfl,by simp⟩ (by simp) ?_ ?_ ?_ ?_ ?_ ?_
 ·
  intro y J Jx W hJ hJe hJ0 hy;refine (C250 y sv b l J Jx W (by omega) (λ k W hk=>?_) hJ0 (λ k x W hx hk=>?_)).mono λ _ _ r=>r.mono λ v W' h=>?_
  ·obtain ⟨Y,M,⟨rfl,_⟩,hS⟩:=hJ k W hk;exact ⟨hS.p1.hb.cell rfl,hL.ext hS.aF⟩
  ·have mz:=(List.getElem?_eq_some_iff.1 hx).1;rw [List.length_reverse] at mz;have:=hy k [Value.int .i64 ((l.length:Int) - 1 - k),Flat.val x] W (by rw [List.getElem?_map,List.getElem?_range mz]; simp [hx]) hk;exact this
  ·simpa using h
 ·
  rintro k args Y1 Y2 B Kr M W hk ⟨rfl,fR⟩ hB hN hR hs
  have mz:k<l.length:=by
   have:=(List.getElem?_eq_some_iff.1 hk).1
   simpa using this
  obtain ⟨x,hx⟩:∃ x,l.reverse[k]? = some x:=⟨_,List.getElem?_eq_getElem (by simpa using mz)⟩
  have ha:args=[Value.int .i64 ((l.length:Int) - 1 - k),Flat.val x]:=by
   rw [List.getElem?_map,List.getElem?_range mz] at hk;simp [hx] at hk;exact hk.symm
  subst ha;dsimp only [Rv];refine aN hs uL (λ b7 w6 hs=>pk hs kW rfl (by decide) (by simp [rO,gV]) (λ w7 hs=>?_));refine hB _ _ _ hs.p1 (λ w8 hs=>?_);have e7:gV [Value.int IntKind.i64 0,.int .i64 0,.int .i64 0,.int .i64 0] 0 [Value.int .i64 x.kind,.int .i64 x.line,.int .i64 x.cell,.int .i64 x.n]=Flat.enc x:=rfl;refine ⟨_,?_,λ _ _ h=>h⟩;refine aA px (aB bL hs.p1.hb rfl (aH ?_))
  have no:¬ (x.kind=3∧x.cell=c)→Kr none w8:=λ hh=>by
   refine hN _ _ (hs.p1.drop.p0) ⟨rfl,?_⟩;exact eD fR hx (by simpa using hh)
  refine aC (λ c1=>?_) (λ c1=>?_)
  ·refine aA nT (aB bL hs.p1.hb rfl (aB bL hs.p5.hb rfl (aH ?_)));intro fB;refine aC (λ c2=>?_) (λ c2=>no λ hh=>c2 hh.2);refine aA mT (aB bL hs.p1.hb rfl (aV hs.p4 bL (Nat.le_of_ble_eq_true rfl) rfl (λ pP hs=>aV hs.p4 Ti (Nat.le_of_ble_eq_true rfl) rfl (λ sQ hs=>?_))));refine hR _ [cD b5 [.bool true],cD b4 [.int .i64 x.n]] _ ?_ ⟨rfl,x.n,?_,rfl⟩
   ·exact (hs.p5.drop.p4.drop.p3.drop).p2
   ·unfold rz;rw [Sg fR hx (by simpa using ⟨c1,c2⟩)]; rfl
  ·intro fB;exact fx (no λ hh=>c1 hh.1)
 ·
  rintro D M W ⟨rfl,fR⟩ hs;refine aV hs.p3 bL (Nat.le_of_ble_eq_true rfl) rfl (λ vm hs=>aV hs.p3 Ti (Nat.le_of_ble_eq_true rfl) rfl (λ sd hs=>?_));refine ae0 hs.p2 (λ v7 hs=>?_);refine aB bL hs.p1.hb rfl (aB Ti hs.hb rfl ?_)
  have:rz l c=none:=by
   unfold rz
   rw [show l.reverse.find? _=none from List.find?_eq_none.2 λ y hy=>by
    have:=fR y (by rw [List.take_of_length_le (by simp)]; exact hy);simp only [this]; exact Bool.false_ne_true]
   rfl
  rw [this];exact ⟨rfl,hs.aF⟩
 ·rintro D M W ⟨_,x,hl,rfl⟩ hs;refine ae0 hs (λ v7 hs=>?_);refine aB bL hs.p1.hb rfl (aB Ti hs.hb rfl ?_);rw [hl];exact ⟨rfl,hs.aF⟩
 ·rintro id D M W ⟨h,_⟩; cases h
 ·rintro c M ⟨h,_⟩; exact .inr h
theorem IM {α:Type} {xs ys:List α} {k:Nat} {e f:α} (h:xs.take k=ys.take k) (h1:xs[k]? = some e) (h2:ys[k]? = some f) (he:e=f):xs.take (k+1)=ys.take (k+1):=by
 rw [List.take_add_one,List.take_add_one,h,h1,h2,he]
theorem Sh {α:Type} {xs ys:List α} {k:Nat} {e f:α} (h1:xs[k]? = some e) (h2:ys[k]? = some f) (he:¬ e=f):¬ xs=ys:=by
 rintro rfl; rw [h1] at h2; exact he (Option.some.inj h2)
theorem C52 (room:Int) (w:World):CR 52 [.int .i64 room] w (λ v w'=>((room<1∨16<room)∧v = .tuple #[.pointer none,.int .i64 1]∧Ext w w')∨(1≤room∧room≤16∧∃ b,v = .tuple #[.pointer (some ⟨b,0,none⟩),.int .i64 0]∧lW (nH b room []) w w')):=by
 have hs:=St.start w;refine ahf _ _ _ ?_;unfold S52;refine ⟨_,?_,λ _ _ h=>h⟩;refine aR (aC (λ UI=>?_) (λ UI=>?_))
 ·intro fB;refine nN ?_;exact .inl ⟨by omega,rfl,hs.aF⟩
 ·refine dA ?_;intro fB;refine aC (λ gu=>?_) (λ gu=>?_)
  ·exact .inl ⟨by omega,rfl,hs.aF⟩
  ·refine pop (Up _) (lR hs (λ b w2 hs=>?_));have hs:=(hs.fX (α:=bJ)).p1;exact .inr ⟨by omega,by omega,b,rfl,(nH.shut hs).fresh⟩
theorem C71 (p:Nat) (room:Int) (l:List bJ) (w:World) (hb:wA w p room l) (hn:l.length≤1048576):CR 71 [.pointer (some ⟨p,0,none⟩)] w (λ v w'=>∃ b,v = .pointer (some ⟨b,0,none⟩)∧lW (nH b room l) w w'):=by
 have Jr:=hb;obtain ⟨sv,zo,Ck,hL⟩:=hb;have hs:=St.start w;refine ahy _ _ _ ?_;unfold S71;refine aE (aA Ka (have hs:=hs.drew;cG bL (zo.ext hs.aF) (eu amF (C91 _ _ _ _ (Jr.ext hs.aF) (by omega)) ?_)));rintro _ w1 bY;have hs:=hs.made bY;refine ⟨aG bL (zo.ext hs.aF),?_⟩;obtain ⟨a8,c8,e8,_⟩:=(hs).fI;subst e8;refine pop (M5 _ _ _ _) (lR hs (λ b w2 hs=>?_));exact ⟨b,rfl,(nH.shut hs).fresh⟩
theorem C21 (av bv:Value) (xs ys:List Int) (w:World) (hA:eF (λ _=>True) w av xs) (hB:eF (λ _=>True) w bv ys) (hn:xs.length≤1073741824):CR 21 [av,bv] w (λ v w'=>v = .bool (decide (xs=ys))∧Ext w w'):=by
 have hs:=St.start w;refine agR _ _ _ _ ?_;unfold S21;refine aJ ei (hA.ext hs.aF) (aJ ei (hB.ext hs.aF) (cS (aC (λ fO=>?_) (λ fO=>?_))))
 ·exact ⟨vb (decide_eq_false (by rintro rfl; omega)).symm,hs.aF⟩
 ·refine ⟨λ m x w1=>∃ k:Nat,x = .int .i64 (k:Int)∧m=xs.length - k∧k≤xs.length∧xs.take k=ys.take k∧St w bD [] w1,⟨_,0,rfl,rfl,Nat.zero_le _,rfl,hs⟩,?_⟩;rintro m _ w1 ⟨k,rfl,rfl,hk,WB,hs⟩ fB;refine aJ ei (hA.ext hs.aF) (aR (aC (λ gQ=>?_) (λ gQ=>?_)))
  ·obtain ⟨iX,fG⟩:=gx (xs) (i:=((k:Int)).toNat) (by omega);refine aQ ei (hA.ext hs.aF) (by omega) fG (λ _ jI=>have hs:=hs.drew;aD bL (jI) ?_);obtain ⟨q8,ko⟩:=gx (ys) (i:=((k:Int)).toNat) (by omega);refine aQ ei (hB.ext hs.aF) (by omega) ko (λ _ pH=>aD bL (pH) (cS (aC (λ fP=>?_) (λ fP=>?_))))
   ·exact ⟨vb (decide_eq_false (Sh fG ko fP)).symm,hs.aF⟩
   ·refine aO (by omega) ?_;exact ⟨xs.length - (k+1),by omega,k+1,rfl,rfl,by omega,IM WB fG ko (Decidable.not_not.1 fP),hs⟩
  ·exact ⟨vb (decide_eq_true (by rw [List.take_of_length_le (by omega),List.take_of_length_le (by omega)] at WB; exact WB)).symm,hs.aF⟩
end Go.Proofs.YtnjcingfdhjfkaaGreat
namespace Go.Fw
open Go.MapKept (Stamped IsKey)
open Go.ChangeMaps (setBlock)
def mE (w:World) (b:Nat) (ks:List Int) (vs:List Value):Prop:=
 ∃ es clock,w.heap[b]? = some (.map es clock)∧Stamped es clock∧es.toList.map (·.key)=ks.map (Value.int .i64)∧es.toList.map (·.val)=vs
def jY:List Int→Int→Option Nat
 | [],_=>none
 | x::xs,k=>if x=k then some 0 else (jY xs k).map (· + 1)
theorem jS:∀ {ks:List Int} {k:Int} {j:Nat},jY ks k=some j→ks[j]? = some k
 | x::xs,k,j,h=>by
  unfold jY at h
  split at h
  ·rename_i e; cases h; simp [e]
  ·cases hh:jY xs k with
   | none=>rw [hh] at h; cases h
   | some i=>rw [hh] at h; simp at h; subst h; simpa using jS hh
theorem me:∀ {ks:List Int} {k:Int},jY ks k=none↔k ∉ ks
 | [],_=>by simp [jY]
 | x::xs,k=>by
  unfold jY
  by_cases e:x=k
  ·simp [e]
  ·rw [if_neg e,Option.map_eq_none_iff,me,List.mem_cons]
   exact ⟨λ h hh=>hh.elim (λ h2=>e h2.symm) h,λ h hh=>h (.inr hh)⟩
theorem rA:∀ {ks:List Int} {k:Int} {j:Nat},ks.Nodup→ks[j]? = some k→jY ks k=some j
 | x::xs,k,0,_,h=>by simp at h; simp [jY,h]
 | x::xs,k,j+1,hn,h=>by
  rw [List.getElem?_cons_succ] at h
  have hm:=List.mem_of_getElem? h
  have:x≠k:=λ e=>(List.nodup_cons.1 hn).1 (e▸hm)
  simp [jY,this,rA (List.nodup_cons.1 hn).2 h]
def look {β:Type} (ks:List Int) (vs:List β) (k:Int):Option β:=(jY ks k).bind (vs[·]?)
def sZ {β:Type} (f:Int→β) (k:Int) (x:β):Int→β:=λ j=>if j=k then x else f j
section
variable {P:Program} {w w0 w':World} {A:Nat→Prop} {L:List HP} {b:Nat} {ks:List Int} {vs:List Value}
theorem mE.of_eq (h:mE w b ks vs) (hh:w'.heap[b]? = w.heap[b]?):mE w' b ks vs:=by
 obtain ⟨es,c,h1,h2⟩:=h; exact ⟨es,c,hh.trans h1,h2⟩
theorem mE.lt (h:mE w b ks vs):b<w.heap.size:=by obtain ⟨es,c,h1,_⟩:=h; exact jO h1
theorem mE.ext (h:mE w b ks vs) (e:Ext w w'):mE w' b ks vs:=h.of_eq (e.cD b h.lt λ h=>h)
theorem mE.len (h:mE w b ks vs):ks.length=vs.length:=by
 obtain ⟨es,c,_,_,h3,h4⟩:=h
 have:=congrArg List.length h3; have h5:=congrArg List.length h4
 simp at this h5; omega
theorem mE.nodup (h:mE w b ks vs):ks.Nodup:=by
 obtain ⟨es,c,_,h2,h3,h4⟩:=h
 have:=h2.2.2
 rw [h3] at this
 exact (List.pairwise_map.1 this).imp λ h e=>h (by rw [e])
def FW (b:Nat) (ks:List Int) (vs:List Value):HP where
 p w F:=mE w b ks vs∧∀ k,F k↔k=b
 loc w w' F h hh:=⟨h.1.of_eq (hh b ((h.2 b).2 rfl)),h.2⟩
 lt w F b' h hb:=by rw [(h.2 b').1 hb]; exact h.1.lt
theorem Si {es:Array MapEntry} (h3:es.toList.map (·.key)=ks.map (Value.int .i64)):∀ x∈es.toList,IsKey (.int .i64) x.key:=by
 intro x hx
 have:x.key∈es.toList.map (·.key):=List.mem_map.2 ⟨x,hx,rfl⟩
 rw [h3] at this
 obtain ⟨k,_,e⟩:=List.mem_map.1 this
 rw [← e]; simp [IsKey]
theorem ES {T:TypeId} {k:Int} {es:Array MapEntry} (hT:P.underlying T=some (.int .i64)) (hn:ks.Nodup) (h3:es.toList.map (·.key)=ks.map (Value.int .i64)) :
  (jY ks k=none∧(Instr.findKey T (.int .i64 k) es.toList).run P w = .ok none w)∨∃ j e,jY ks k=some j∧es.toList[j]? = some e∧e.key = .int .i64 k∧(Instr.findKey T (.int .i64 k) es.toList).run P w = .ok (some (j,e.val)) w:=by
 rcases MapKept.findNow_spec (d:=.int .i64) (k:=.int .i64 k) (by simp [IsKey]) es.toList 0 (Si h3) with ⟨h1,h2⟩ | ⟨j,e,h1,h2,h4⟩
 ·refine .inl ⟨me.2 λ hm=>?_,MapKept.run_findKey hT h1⟩
  have:Value.int .i64 k∈es.toList.map (·.key):=by rw [h3]; exact List.mem_map.2 ⟨k,hm,rfl⟩
  obtain ⟨x,hx,e⟩:=List.mem_map.1 this
  exact h2 x hx e
 ·refine .inr ⟨j,e,rA hn ?_,h2,h4,by rw [Nat.zero_add] at h1; exact MapKept.run_findKey hT h1⟩
  have:(es.toList.map (·.key))[j]? = some (.int .i64 k):=by rw [List.getElem?_map,h2]; simp [h4]
  rw [h3,List.getElem?_map] at this
  cases hk:ks[j]? with
  | none=>rw [hk] at this; cases this
  | some k'=>rw [hk] at this; simp at this; rw [this]
theorem oX {T Kt E:TypeId} {z:Value} {k:Int} (h:mE w b ks vs) (ht:P.underlying T=some (.map Kt E)) (hk:P.underlying Kt=some (.int .i64)) (hz:qh P E z) :
  (Instr.lookup T (.map (some b)) (.int .i64 k) false).run P w = .ok ((look ks vs k).getD z) w:=by
 have hn:=h.nodup
 obtain ⟨es,c,h1,h2,h3,h4⟩:=h
 have hz':(zeroValue E).run P w = .ok z w:=by
  unfold qh ej at hz
  cases hi:P.info? E with
  | none=>rw [hi] at hz; cases hz
  | some i=>
   rw [hi] at hz
   simp only [Option.map_some,Option.some.injEq] at hz
   refine fp ?_ w
   unfold zeroValue; rw [cM,nw hi]; simp only [Option.bind_some,hz]; rfl
 have hc:=MapKept.run_checkKey (P:=P) (w:=w) (kt:=Kt) (k:=.int .i64 k) hk (by simp [IsKey]) es.isEmpty 9999
 rcases ES (w:=w) (k:=k) hk hn h3 with ⟨h5,h6⟩ | ⟨j,e,h5,h6,h7,h8⟩
 ·simp [Instr.lookup,run_underlying ht,MapKept.run_getObj_map h1,hc,h6,hz',Result.andThen,look,h5]
 ·have:vs[j]? = some e.val:=by rw [← h4,List.getElem?_map,h6]; rfl
  simp [Instr.lookup,run_underlying ht,MapKept.run_getObj_map h1,hc,h8,Result.andThen,look,h5,this]
theorem mf (o:Obj) (hb:b<w.heap.size):(setBlock w b o).heap[b]? = some o:=by simp [setBlock,hb]
theorem ix.setBlock (w:World) (b:Nat) (o:Obj):ix (· = b) w (setBlock w b o):=
 ⟨rfl,rfl,rfl,by simp [ChangeMaps.setBlock],λ k _ hn=>by simp only [ChangeMaps.setBlock]; rw [Array.getElem?_setIfInBounds_ne (λ h=>hn h.symm)]⟩
theorem rB {es:Array MapEntry} {clock:Nat} {o:Obj} (h1:w.heap[b]? = some (.map es clock)):(setObj b o).run P w = .ok () (setBlock w b o):=by
 simp [setObj,Sem.run,h1,setBlock]
theorem Qy {T Kt E:TypeId} {v:Value} {k:Int} (h:mE w b ks vs) (ht:P.underlying T=some (.map Kt E)) (hk:P.underlying Kt=some (.int .i64)) :
  ∃ w',(Instr.mapUpdate T (.map (some b)) (.int .i64 k) v).run P w = .ok () w'∧ix (· = b) w w'∧
   (match jY ks k with | some j=>mE w' b ks (vs.set j v) | none=>mE w' b (ks++[k]) (vs++[v])):=by
 have hn:=h.nodup
 have mz:=h.lt
 obtain ⟨es,c,h1,h2,h3,h4⟩:=h
 have hc:=MapKept.run_checkKey (P:=P) (w:=w) (kt:=Kt) (k:=.int .i64 k) hk (by simp [IsKey]) false 9999
 rcases ES (w:=w) (k:=k) hk hn h3 with ⟨h5,h6⟩ | ⟨j,e,h5,h6,h7,h8⟩
 ·refine ⟨_,?_,ix.setBlock w b (.map (es.push ⟨.int .i64 k,v,c⟩) (c+1)),?_⟩
  ·simp [Instr.mapUpdate,run_underlying ht,MapKept.run_getObj_map h1,hc,h6,rB h1,Result.andThen]
  ·rw [h5]
   refine ⟨_,_,mf _ mz,MapKept.stamped_push h2 λ x hx e=>?_,by simp [h3],by simp [h4]⟩
   have:x.key∈es.toList.map (·.key):=List.mem_map.2 ⟨x,hx,rfl⟩
   rw [h3,e] at this
   obtain ⟨k',yj,e'⟩:=List.mem_map.1 this
   simp at e'
   exact me.1 h5 (e'▸yj)
 ·have Ym:es[j]? = some e:=by rw [← Array.getElem?_toList]; exact h6
  have gk:(Instr.keyThatStays e.key (.int .i64 k)).run P w = .ok (.int .i64 k) w:=by
   rw [h7]; unfold Instr.keyThatStays; simp [Instr.sameBits]
  refine ⟨_,?_,ix.setBlock w b (.map (es.modify j λ e=>{e with key:=.int .i64 k,val:=v}) c),?_⟩
  ·simp [Instr.mapUpdate,run_underlying ht,MapKept.run_getObj_map h1,hc,h8,rB h1,Result.andThen,Ym,gk]
  ·rw [h5]
   have yj:∀ e',es[j]? = some e'→({e' with key:=.int .i64 k,val:=v}:MapEntry).key=e'.key:=λ e' he'=>by
    rw [Ym] at he'; cases he'; exact h7.symm
   refine ⟨_,_,mf _ mz,MapKept.stamped_modify h2 j _ (λ _ _=>rfl) (λ e' _ he'=>yj e' he'),?_,?_⟩
   ·rw [MapKept.modify_keys j _ yj,h3]
   ·rw [← h4]
    apply List.ext_getElem?
    intro i
    simp only [List.getElem?_map,Array.getElem?_toList,Array.getElem?_modify,List.getElem?_set]
    by_cases hij:j=i
    ·subst hij; rw [Ym]; have:=(Array.getElem?_eq_some_iff.1 Ym).1; simp [this]
    ·simp [hij]
theorem ac7 {T Kt E R:TypeId} {A2:Array TypeId} {k:Int} (h:mE w b ks vs) (ha:A2[0]? = some T) (ht:P.underlying T=some (.map Kt E)) (hk:P.underlying Kt=some (.int .i64)) :
  ∃ w',(Builtin.delete_ A2 R [.map (some b),.int .i64 k].toArray).run P w = .ok (.tuple #[]) w'∧ix (· = b) w w'∧
   (match jY ks k with | some j=>mE w' b (ks.eraseIdx j) (vs.eraseIdx j) | none=>mE w' b ks vs):=by
 have hn:=h.nodup
 have mz:=h.lt
 obtain ⟨es,c,h1,h2,h3,h4⟩:=h
 have hc:=MapKept.run_checkKey (P:=P) (w:=w) (kt:=Kt) (k:=.int .i64 k) hk (by simp [IsKey]) es.isEmpty 9999
 rcases ES (w:=w) (k:=k) hk hn h3 with ⟨h5,h6⟩ | ⟨j,e,h5,h6,h7,h8⟩
 ·refine ⟨_,?_,ix.setBlock w b (.map es c),?_⟩
  ·simp [Builtin.delete_,ha,run_underlying ht,MapKept.run_getObj_map h1,hc,h6,rB h1,Result.andThen]
  ·rw [h5]
   exact ⟨_,_,mf _ mz,h2,h3,h4⟩
 ·have hj:j<es.size:=by have:=(List.getElem?_eq_some_iff.1 h6).1; simpa using this
  refine ⟨_,?_,ix.setBlock w b (.map (es.eraseIdxIfInBounds j) c),?_⟩
  ·simp [Builtin.delete_,ha,run_underlying ht,MapKept.run_getObj_map h1,hc,h8,rB h1,Result.andThen]
  ·rw [h5]
   have he:(es.eraseIdxIfInBounds j).toList=es.toList.eraseIdx j:=by
    unfold Array.eraseIdxIfInBounds; rw [dif_pos hj]; simp
   refine ⟨_,_,mf _ mz,MapKept.stamped_erase h2 j,?_,?_⟩
   ·rw [he,ChangeMaps.map_eraseIdx,h3,ChangeMaps.map_eraseIdx]
   ·rw [he,ChangeMaps.map_eraseIdx,h4]
theorem wC {T:TypeId} {K:Value→World→Prop} (hs:St w0 A L w) (k:∀ b w',St w0 A (FW b [] []::L) w'→K (.map (some b)) w'):gU P (Instr.makeMap T none) w K:=
 ⟨_,_,rfl,k _ _ (hs.new (Ext.push w (.map #[] 0)) (F:=λ k=>k=w.heap.size) ⟨⟨#[],0,pj _ _,MapKept.stamped_empty 0,rfl,rfl⟩,λ _=>Iff.rfl⟩ λ b hb=>by rw [hb]; exact Nat.le_refl _)⟩
theorem St.Ah (hs:St w0 A (FW b ks vs::L) w):mE w b ks vs:=by obtain ⟨F,h,_⟩:=hs.head; exact h.1
theorem g9 {T Kt E:TypeId} {v:Value} {k:Int} {K:World→Prop} (hs:St w0 A (FW b ks vs::L) w) (ht:P.underlying T=some (.map Kt E)) (hk:P.underlying Kt=some (.int .i64)) (bY:jY ks k=none)
  (kk:∀ w',St w0 A (FW b (ks++[k]) (vs++[v])::L) w'→K w'):AT P (Instr.mapUpdate T (.map (some b)) (.int .i64 k) v) w K:=by
 obtain ⟨w',h1,h2,h3⟩:=Qy (P:=P) (v:=v) (k:=k) hs.Ah ht hk
 rw [bY] at h3
 exact ⟨w',h1,kk w' (hs.rN λ F hF=>⟨F,⟨h3,hF.2⟩,λ b hb=>.inl hb,h2.mono λ k hk=>(hF.2 k).2 hk⟩)⟩
end
section
variable {α:Type} [Flat α] {P:Program} {w w0 w':World} {A:Nat→Prop} {L:List HP} {b:Nat} {f:Int→List α}
abbrev Cl (s:SV) (x:List α):HP:=bK (Flat.val s) x
def oF (b:Nat) (f:Int→List α):HP:=tS λ ks=>tS λ ss:List SV=>tS λ td:List (List α)=>fact (f=λ k=>(look ks td k).getD []) (sep (FW b ks (ss.map Flat.val)) (iy Cl ss td))
def sy (w:World) (b:Nat) (f:Int→List α):Prop:=∃ ks,∃ ss:List SV,mE w b ks (ss.map Flat.val)∧(∀ (i:Nat) (k:Int) (s:SV),ks[i]? = some k→ss[i]? = some s→eF (λ _=>True) w (Flat.val s) (f k))∧∀ k,k ∉ ks→f k=[]
theorem sy.ext (h:sy w b f) (e:Ext w w'):sy w' b f:=by
 obtain ⟨ks,ss,h1,h2,h3⟩:=h; exact ⟨ks,ss,h1.ext e,λ i k s a c=>(h2 i k s a c).ext e,h3⟩
theorem pg {β:Type} {ks:List Int} {xs:List β} {k:Int} {i:Nat} {x:β} (hn:ks.Nodup) (h1:ks[i]? = some k) (h2:xs[i]? = some x):look ks xs k=some x:=by
 unfold look; rw [rA hn h1]; exact h2
theorem oY {β:Type} {ks:List Int} {xs:List β} {k:Int} (h:k ∉ ks):look ks xs k=none:=by unfold look; rw [me.2 h]; rfl
theorem oF.rd {F:Nat→Prop} (h:(oF b f).p w F):sy w b f:=by
 obtain ⟨ks,ss,td,hf,F1,F2,h1,h2,_,_⟩:=h
 refine ⟨ks,ss,h1.1,λ i k s hk hs=>?_,λ k hk=>by rw [hf]; dsimp only; rw [oY hk]; rfl⟩
 have hl:=A8 h2
 have hi:i<td.length:=by have:=(List.getElem?_eq_some_iff.1 hs).1; omega
 have hx:td[i]? = some td[i]:=List.getElem?_eq_getElem hi
 have gk:St w F2 [iy Cl ss td] w:=St.begin h2
 have:=gk.aor hs hx (Φ:=λ w=>eF (λ _=>True) w (Flat.val s) td[i]) λ h=>(bK.rd h).mono λ _ _=>trivial
 rw [hf]; dsimp only
 rw [pg h1.1.nodup hk hx]; exact this
theorem St.WC (hs:St w0 A (oF b f::L) w):sy w b f:=by obtain ⟨F,h,_⟩:=hs.head; exact oF.rd h
theorem sy.look {T Kt E:TypeId} {k:Int} (h:sy w b f) (ht:P.underlying T=some (.map Kt E)) (hk:P.underlying Kt=some (.int .i64)) (hz:qh P E (.slice none 0 0)) :
  ∃ s:SV,(Instr.lookup T (.map (some b)) (.int .i64 k) false).run P w = .ok (Flat.val s) w∧eF (λ _=>True) w (Flat.val s) (f k):=by
 obtain ⟨ks,ss,h1,h2,h3⟩:=h
 have hr:=oX (P:=P) (k:=k) h1 ht hk hz
 cases ng:jY ks k with
 | none=>
  have:Fw.look ks (ss.map Flat.val) k=none:=by unfold Fw.look; rw [ng]; rfl
  rw [this] at hr
  exact ⟨⟨none,0,0⟩,hr,by rw [h3 k (me.1 ng)]; exact eF.nil _ _⟩
 | some j=>
  have hj:=jS ng
  have hl:=h1.len
  have hjs:j<ss.length:=by have:=(List.getElem?_eq_some_iff.1 hj).1; simp at hl; omega
  have Qz:ss[j]? = some ss[j]:=List.getElem?_eq_getElem hjs
  have:Fw.look ks (ss.map Flat.val) k=some (Flat.val ss[j]):=by unfold Fw.look; rw [ng]; simp [Qz]
  rw [this] at hr
  exact ⟨_,hr,h2 j k _ hj Qz⟩
theorem sy.aqA {T Kt E:TypeId} {k:Int} (h:sy w0 b f) (ht:P.underlying T=some (.map Kt E)) (hk:P.underlying Kt=some (.int .i64)) (hz:qh P E (.slice none 0 0)) :
  ∃ s:SV,(∀ w,Ext w0 w→(Instr.lookup T (.map (some b)) (.int .i64 k) false).run P w = .ok (Flat.val s) w)∧eF (λ _=>True) w0 (Flat.val s) (f k):=by
 obtain ⟨ks,ss,h1,h2,h3⟩:=h
 have hr:∀ w,Ext w0 w→_:=λ w e=>oX (P:=P) (k:=k) (h1.ext e) ht hk hz
 cases ng:jY ks k with
 | none=>
  have:Fw.look ks (ss.map Flat.val) k=none:=by unfold Fw.look; rw [ng]; rfl
  rw [this] at hr
  exact ⟨⟨none,0,0⟩,hr,by rw [h3 k (me.1 ng)]; exact eF.nil _ _⟩
 | some j=>
  have hj:=jS ng
  have hl:=h1.len
  have hjs:j<ss.length:=by have:=(List.getElem?_eq_some_iff.1 hj).1; simp at hl; omega
  have Qz:ss[j]? = some ss[j]:=List.getElem?_eq_getElem hjs
  have:Fw.look ks (ss.map Flat.val) k=some (Flat.val ss[j]):=by unfold Fw.look; rw [ng]; simp [Qz]
  rw [this] at hr
  exact ⟨_,hr,h2 j k _ hj Qz⟩
theorem Bv {T Kt E:TypeId} {k:Int} {K:Value→Prop} (h:sy w0 b f) (e:Ext w0 w) (ht:P.underlying T=some (.map Kt E)) (hk:P.underlying Kt=some (.int .i64)) (hz:qh P E (.slice none 0 0))
  (kk:∀ s:SV,eF (λ _=>True) w0 (Flat.val s) (f k)→K (Flat.val s)):C7 P (Instr.lookup T (.map (some b)) (.int .i64 k) false) w K:=by
 obtain ⟨s,h1,h2⟩:=h.aqA (P:=P) (k:=k) ht hk hz; exact ⟨_,h1 w e,kk s h2⟩
def Lt (b:Nat) (f:Int→List α) (k:Int) (s:SV):HP:=tS λ ks=>tS λ ss:List SV=>tS λ td:List (List α)=>tS λ vs:List Value=>
 fact ((∀ k',k'≠k→f k'=(look ks td k').getD [])∧look ks vs k=(jY ks k).map (λ _=>Flat.val s)∧(jY ks k=none→s=⟨none,0,0⟩)∧vs.length=ss.length∧∀ (i:Nat) (k':Int),ks[i]? = some k'→k'≠k→vs[i]? = (ss[i]?).map Flat.val) (sep (FW b ks vs) (iy Cl ss td))
theorem St.ET {k:Int} (hs:St w0 A (oF b f::L) w):∃ s:SV,St w0 A (bK (Flat.val s) (f k)::Lt b f k s::L) w:=by
 obtain ⟨ks,hs⟩:=hs.eV; obtain ⟨ss,hs⟩:=hs.eV; obtain ⟨td,hs⟩:=hs.eV; obtain ⟨hf,hs⟩:=hs.oB
 replace hs:=hs.split
 have hm:=hs.Ah
 have hl:=hm.len
 have Dc:=hs.p1.lg
 have hn:=hm.nodup
 rw [List.length_map] at hl
 cases ng:jY ks k with
 | none=>
  refine ⟨⟨none,0,0⟩,?_⟩
  have hx:look ks td k=none:=by unfold look; rw [ng]; rfl
  have e:f k=[]:=by rw [hf]; dsimp only; rw [hx]; rfl
  rw [e]
  refine (St.eP ks (St.eP ss (St.eP td (St.eP (ss.map Flat.val) (St.qi ⟨λ k' _=>by rw [hf],by unfold look; rw [ng]; rfl,λ _=>rfl,by rw [List.length_map],λ i k' _ _=>by rw [List.getElem?_map]⟩ (St.join hs)))))).fX
 | some j=>
  have hj:=jS ng
  have hjk:=(List.getElem?_eq_some_iff.1 hj).1
  have Qz:ss[j]? = some (ss[j]'(by omega)):=List.getElem?_eq_getElem _
  have hxj:td[j]? = some (td[j]'(by omega)):=List.getElem?_eq_getElem _
  refine ⟨ss[j]'(by omega),?_⟩
  have e:f k=td[j]'(by omega):=by rw [hf]; dsimp only; rw [pg hn hj hxj]; rfl
  rw [e]
  have h1:=(hs.p1.focus Qz hxj).p1
  have h2:=(h1.fX (α:=α)).p1
  have h3:St w0 A (Cl (⟨none,0,0⟩:SV) ([]:List α)::qk Cl ss td j::_::_::L) w:=h2.p1
  have h4:=h3.DO (by omega) Dc
  have h5:=h4.p2
  refine (St.eP ks (St.eP (ss.set j ⟨none,0,0⟩) (St.eP (td.set j []) (St.eP (ss.map Flat.val) (St.qi ⟨λ k' yj=>?_,by unfold look; rw [ng]; simp [Qz],λ h=>(by cases ng.symm.trans h),(by simp),λ i k' hi yj=>?_⟩ (St.join h5)))))).p1
  ·rw [hf]; dsimp only
   unfold look
   cases hq:jY ks k' with
   | none=>rfl
   | some i=>
    have:j≠i:=λ e=>yj (by have:=jS hq; rw [← e,hj] at this; exact (Option.some.inj this).symm)
    simp [this]
  ·rw [List.getElem?_map,List.getElem?_set_ne]
   rintro rfl
   rw [hj] at hi; exact yj (Option.some.inj hi).symm
theorem St.Bw {T Kt E:TypeId} {k:Int} {s:SV} (hs:St w0 A (Lt b f k s::L) w) (ht:P.underlying T=some (.map Kt E)) (hk:P.underlying Kt=some (.int .i64)) (hz:qh P E (.slice none 0 0)) :
  (Instr.lookup T (.map (some b)) (.int .i64 k) false).run P w = .ok (Flat.val s) w:=by
 obtain ⟨ks,hs⟩:=hs.eV; obtain ⟨ss,hs⟩:=hs.eV; obtain ⟨td,hs⟩:=hs.eV; obtain ⟨vs,hs⟩:=hs.eV; obtain ⟨⟨_,h2,h3,_⟩,hs⟩:=hs.oB
 have:=oX (P:=P) (k:=k) hs.split.Ah ht hk hz
 rw [h2] at this
 cases ng:jY ks k with
 | none=>rw [ng] at this; rw [h3 ng]; exact this
 | some j=>rw [ng] at this; exact this
theorem St.WD {k:Int} {s:SV} {xs:List α} (hs:St w0 A (bK (Flat.val s) xs::Lt b f k s::L) w):St w0 A (oF b (sZ f k xs)::L) w:=by
 replace hs:=hs.p1
 obtain ⟨ks,hs⟩:=hs.eV; obtain ⟨ss,hs⟩:=hs.eV; obtain ⟨td,hs⟩:=hs.eV; obtain ⟨vs,hs⟩:=hs.eV; obtain ⟨⟨hf,h2,h3,hvs,WE⟩,hs⟩:=hs.oB
 replace hs:=hs.split
 have hm:=hs.Ah
 have hl:=hm.len
 have hn:=hm.nodup
 have Dc:=hs.p1.lg
 cases ng:jY ks k with
 | none=>
  have AR:=me.1 ng
  have hval:vs=ss.map Flat.val:=List.ext_getElem? λ i=>by
   cases hi:ks[i]? with
   | none=>rw [List.getElem?_eq_none_iff] at hi; rw [List.getElem?_eq_none (by omega),List.getElem?_eq_none (by rw [List.length_map]; omega)]
   | some k'=>rw [WE i k' hi (λ e=>AR (e▸List.mem_of_getElem? hi)),List.getElem?_map]
  have hx:xs=[]:=by
   obtain ⟨F,h,_⟩:=hs.p2.head
   rw [h3 ng] at h
   rcases h with ⟨_,h,_⟩ | ⟨b',cap,rest,h,_⟩
   ·exact h
   ·cases h
  subst hx
  refine St.eP ks (St.eP ss (St.eP td (St.qi ?_ (St.join ?_))))
  ·funext k'
   unfold sZ
   by_cases e:k'=k
   ·subst e; rw [if_pos rfl,oY AR]; rfl
   ·rw [if_neg e,hf k' e]
  ·rw [← hval]; exact hs.p2.drop
 | some j=>
  have hj:=jS ng
  have hjk:=(List.getElem?_eq_some_iff.1 hj).1
  have Qz:ss[j]? = some (ss[j]'(by omega)):=List.getElem?_eq_getElem _
  have hxj:td[j]? = some (td[j]'(by omega)):=List.getElem?_eq_getElem _
  have hvj:vs[j]? = some (Flat.val s):=by unfold look at h2; rw [ng] at h2; exact h2
  have h6:=((hs.p1.focus Qz hxj).drop).p2
  have h7:St w0 A (Cl s xs::qk Cl ss td j::_::L) w:=h6.p0
  have h8:=h7.DO (by omega) Dc
  refine St.eP ks (St.eP (ss.set j s) (St.eP (td.set j xs) (St.qi ?_ (St.join ?_))))
  ·funext k'
   unfold sZ
   by_cases e:k'=k
   ·subst e
    rw [if_pos rfl,pg hn hj (x:=xs) (by rw [List.getElem?_set_self (by omega)])]; rfl
   ·rw [if_neg e,hf k' e]
    unfold look
    cases hq:jY ks k' with
    | none=>rfl
    | some i=>
     have:j≠i:=λ e'=>e (by have:=jS hq; rw [← e',hj] at this; exact (Option.some.inj this).symm)
     simp [this]
  ·have e:(ss.set j s).map Flat.val=vs:=by
    apply List.ext_getElem?
    intro i
    rw [List.getElem?_map]
    by_cases e:j=i
    ·subst e; rw [List.getElem?_set_self (by omega),hvj]; rfl
    ·rw [List.getElem?_set_ne e]
     cases hi:ks[i]? with
     | none=>rw [List.getElem?_eq_none_iff] at hi; rw [List.getElem?_eq_none (show vs.length≤i by omega),List.getElem?_eq_none (show ss.length≤i by omega)]; rfl
     | some k'=>rw [WE i k' hi (λ e'=>e (by rw [e'] at hi; have h1:=rA hn hi; rw [ng] at h1; exact Option.some.inj h1))]
   rw [e]; exact h8.p1
omit [Flat α] in
theorem Sj {f:Int→List α} {k:Int}:sZ f k (f k)=f:=by
 funext j; unfold sZ; split
 ·rename_i h; rw [h]
 ·rfl
theorem B2 {T Kt E:TypeId} {k:Int} {s s':SV} {xs:List α} {K:World→Prop} (hs:St w0 A (bK (Flat.val s') xs::Lt b f k s::L) w) (ht:P.underlying T=some (.map Kt E)) (hk:P.underlying Kt=some (.int .i64))
  (kk:∀ w',St w0 A (oF b (sZ f k xs)::L) w'→K w'):AT P (Instr.mapUpdate T (.map (some b)) (.int .i64 k) (Flat.val s')) w K:=by
 replace hs:=hs.p1
 obtain ⟨ks,hs⟩:=hs.eV; obtain ⟨ss,hs⟩:=hs.eV; obtain ⟨td,hs⟩:=hs.eV; obtain ⟨vs,hs⟩:=hs.eV; obtain ⟨⟨hf,h2,h3,hvs,WE⟩,hs⟩:=hs.oB
 replace hs:=hs.split
 have hm:=hs.Ah
 have hl:=hm.len
 have hn:=hm.nodup
 have Dc:=hs.p1.lg
 obtain ⟨w',r1,r2,r3⟩:=Qy (P:=P) (v:=Flat.val s') (k:=k) hm ht hk
 refine ⟨w',r1,kk w' ?_⟩
 cases ng:jY ks k with
 | none=>
  rw [ng] at r3
  have h5:St w0 A (FW b (ks++[k]) (vs++[Flat.val s'])::_::_::L) w':=hs.rN λ F hF=>⟨F,⟨r3,hF.2⟩,λ b hb=>.inl hb,r2.mono λ k hk=>(hF.2 k).2 hk⟩
  have AR:=me.1 ng
  have hval:vs=ss.map Flat.val:=List.ext_getElem? λ i=>by
   cases hi:ks[i]? with
   | none=>rw [List.getElem?_eq_none_iff] at hi; rw [List.getElem?_eq_none (by omega),List.getElem?_eq_none (by rw [List.length_map]; omega)]
   | some k'=>rw [WE i k' hi (λ e=>AR (e▸List.mem_of_getElem? hi)),List.getElem?_map]
  have h6:=h5.p1
  have h7:St w0 A (iy Cl (ss++[s']) (td++[xs])::_::L) w':=St.DN (H:=Cl (α:=α)) (p:=s') (x:=xs) h6.p2.p1
  refine St.eP (ks++[k]) (St.eP (ss++[s']) (St.eP (td++[xs]) (St.qi ?_ (St.join ?_))))
  ·funext k'
   unfold sZ
   by_cases e:k'=k
   ·subst e
    rw [if_pos rfl,pg (i:=ks.length) r3.nodup (by simp) (x:=xs) (by rw [List.getElem?_append_right (by omega)]; simp [show ks.length - td.length=0 from by omega])]; rfl
   ·rw [if_neg e,hf k' e]
    by_cases vk:k'∈ks
    ·obtain ⟨i,hi,hik⟩:=List.getElem_of_mem vk
     have Yg:ks[i]? = some k':=by rw [List.getElem?_eq_getElem hi,hik]
     have hxi:td[i]? = some (td[i]'(by omega)):=List.getElem?_eq_getElem _
     rw [pg hn Yg hxi,pg (i:=i) r3.nodup (by rw [List.getElem?_append_left hi]; exact Yg) (by rw [List.getElem?_append_left (by omega)]; exact hxi)]
    ·rw [oY vk,oY (by simp [vk,e])]
  ·have e:(ss++[s']).map Flat.val=vs++[Flat.val s']:=by rw [hval,List.map_append]; rfl
   rw [e]; exact h7.p1
 | some j=>
  rw [ng] at r3
  have h5:St w0 A (FW b ks (vs.set j (Flat.val s'))::_::_::L) w':=hs.rN λ F hF=>⟨F,⟨r3,hF.2⟩,λ b hb=>.inl hb,r2.mono λ k hk=>(hF.2 k).2 hk⟩
  have hj:=jS ng
  have hjk:=(List.getElem?_eq_some_iff.1 hj).1
  have Qz:ss[j]? = some (ss[j]'(by omega)):=List.getElem?_eq_getElem _
  have hxj:td[j]? = some (td[j]'(by omega)):=List.getElem?_eq_getElem _
  have h6:=((h5.p1.focus Qz hxj).drop).p2
  have h7:St w0 A (Cl s' xs::qk Cl ss td j::_::L) w':=h6.p0
  have h8:=h7.DO (by omega) Dc
  refine St.eP ks (St.eP (ss.set j s') (St.eP (td.set j xs) (St.qi ?_ (St.join ?_))))
  ·funext k'
   unfold sZ
   by_cases e:k'=k
   ·subst e
    rw [if_pos rfl,pg hn hj (x:=xs) (by rw [List.getElem?_set_self (by omega)])]; rfl
   ·rw [if_neg e,hf k' e]
    unfold look
    cases hq:jY ks k' with
    | none=>rfl
    | some i=>
     have:j≠i:=λ e'=>e (by have:=jS hq; rw [← e',hj] at this; exact (Option.some.inj this).symm)
     simp [this]
  ·have e:(ss.set j s').map Flat.val=vs.set j (Flat.val s'):=by
    apply List.ext_getElem?
    intro i
    rw [List.getElem?_map]
    by_cases e:j=i
    ·subst e; rw [List.getElem?_set_self (by omega),List.getElem?_set_self (by omega)]; rfl
    ·rw [List.getElem?_set_ne e,List.getElem?_set_ne e]
     cases hi:ks[i]? with
     | none=>rw [List.getElem?_eq_none_iff] at hi; rw [List.getElem?_eq_none (show vs.length≤i by omega),List.getElem?_eq_none (show ss.length≤i by omega)]; rfl
     | some k'=>rw [WE i k' hi (λ e'=>e (by rw [e'] at hi; have h1:=rA hn hi; rw [ng] at h1; exact Option.some.inj h1))]
   rw [e]; exact h8.p1
theorem ou {T:TypeId} {K:Value→World→Prop} (hs:St w0 A L w) (k:∀ b w',St w0 A (oF b (λ _=>([]:List α))::L) w'→K (.map (some b)) w'):gU P (Instr.makeMap T none) w K:=
 wC hs λ b w' h=>k b w' (St.eP [] (St.eP [] (St.eP ([]:List (List α)) (St.qi rfl (St.join ((h.new (Ext.refl w') (H:=iy Cl [] []) (F:=bD) (λ _ h=>h) λ _ h=>h.elim).p1))))))
theorem Lu {T Kt E R:TypeId} {k:Int} {A2:Array TypeId} {K:Value→World→Prop} (hs:St w0 A (oF b f::L) w) (ha:A2[0]? = some T) (ht:P.underlying T=some (.map Kt E)) (hk:P.underlying Kt=some (.int .i64))
  (kk:∀ v w',St w0 A (oF b (sZ f k [])::L) w'→K v w'):gU P (Builtin.delete_ A2 R [.map (some b),.int .i64 k].toArray) w K:=by
 obtain ⟨ks,hs⟩:=hs.eV; obtain ⟨ss,hs⟩:=hs.eV; obtain ⟨td,hs⟩:=hs.eV; obtain ⟨hf,hs⟩:=hs.oB
 replace hs:=hs.split
 have hm:=hs.Ah
 have hl:=hm.len
 have Dc:=hs.p1.lg
 have hn:=hm.nodup
 rw [List.length_map] at hl
 obtain ⟨w',r1,r2,r3⟩:=ac7 (P:=P) (R:=R) (k:=k) hm ha ht hk
 refine ⟨_,w',r1,kk _ w' ?_⟩
 cases ng:jY ks k with
 | none=>
  rw [ng] at r3
  have h5:St w0 A (FW b ks (ss.map Flat.val)::_::L) w':=hs.rN λ F hF=>⟨F,⟨r3,hF.2⟩,λ b hb=>.inl hb,r2.mono λ k hk=>(hF.2 k).2 hk⟩
  refine St.eP ks (St.eP ss (St.eP td (St.qi ?_ (St.join h5))))
  funext k'
  unfold sZ
  by_cases e:k'=k
  ·subst e; rw [if_pos rfl]; unfold look; rw [ng]; rfl
  ·rw [if_neg e,hf]
 | some j=>
  rw [ng] at r3
  have hj:=jS ng
  have hjk:=(List.getElem?_eq_some_iff.1 hj).1
  have h5:St w0 A (FW b (ks.eraseIdx j) ((ss.map Flat.val).eraseIdx j)::_::L) w':=hs.rN λ F hF=>⟨F,⟨r3,hF.2⟩,λ b hb=>.inl hb,r2.mono λ k hk=>(hF.2 k).2 hk⟩
  have Qz:ss[j]? = some (ss[j]'(by omega)):=List.getElem?_eq_getElem _
  have hxj:td[j]? = some (td[j]'(by omega)):=List.getElem?_eq_getElem _
  have h6:=(h5.p1.focus Qz hxj).drop.RP
  dsimp only at r3
  rw [← ChangeMaps.map_eraseIdx] at h6 r3
  refine St.eP (ks.eraseIdx j) (St.eP (ss.eraseIdx j) (St.eP (td.eraseIdx j) (St.qi ?_ (St.join h6.p1))))
  funext k'
  unfold sZ
  by_cases e:k'=k
  ·subst e
   rw [if_pos rfl,oY]; rfl
   intro JH
   obtain ⟨i,hi,hik⟩:=List.getElem_of_mem JH
   rw [List.getElem_eraseIdx] at hik
   split at hik
   ·have:=rA (j:=i) hn (k:=k') (by rw [← hik]; exact List.getElem?_eq_getElem _); rw [ng] at this; have:=Option.some.inj this; omega
   ·have:=rA (j:=i+1) hn (k:=k') (by rw [← hik]; exact List.getElem?_eq_getElem _); rw [ng] at this; have:=Option.some.inj this; omega
  ·rw [if_neg e,hf]; dsimp only
   by_cases vk:k'∈ks
   ·obtain ⟨i,hi,hik⟩:=List.getElem_of_mem vk
    have Yg:ks[i]? = some k':=by rw [List.getElem?_eq_getElem hi,hik]
    have hxi:td[i]? = some (td[i]'(by omega)):=List.getElem?_eq_getElem _
    have hij:i≠j:=λ e'=>e (by rw [e',hj] at Yg; exact (Option.some.inj Yg).symm)
    rw [pg hn Yg hxi]
    by_cases mz:i<j
    ·rw [pg (i:=i) r3.nodup (by rw [List.getElem?_eraseIdx_of_lt mz]; exact Yg) (by rw [List.getElem?_eraseIdx_of_lt mz]; exact hxi)]
    ·rw [pg (i:=i - 1) r3.nodup (by rw [List.getElem?_eraseIdx_of_ge (by omega),show i - 1+1=i from by omega]; exact Yg) (by rw [List.getElem?_eraseIdx_of_ge (by omega),show i - 1+1=i from by omega]; exact hxi)]
   ·rw [oY vk,oY (λ h=>vk ((List.eraseIdx_sublist ks j).subset h))]
end
section
variable {α:Type} [Flat α] {P:Program} {w w0 w':World} {A S:Nat→Prop} {L:List HP} {xs ys:List α}
theorem EU {T T2 E oy b o dn dc:Nat} {z:Option Nat} {R:TypeId} {src:Value} {cs:List Value} (ht:fb P T=some (E,Flat.sz α,oy,z)) (hb:tB w b cs) (xy:eF S w src ys)
  (hn:ys.length≤dn) (MT:o+ys.length * Flat.sz α≤cs.length) :
  ∃ w',(Builtin.copy_ #[T,T2] R [.slice (some ⟨b,o,none⟩) dn dc,src].toArray).run P w = .ok (.int .i64 ys.length) w'∧tB w' b (gV cs o (flat ys))∧ix (· = b) w w':=by
 obtain ⟨hu,inf,hi,lz,A4,_⟩:=gq ht
 have hf:=wS (α:=α) (P:=P) (sz:=Flat.sz α) rfl xy
 have rd:=xy
 obtain ⟨sa,T8,rfl,hsc,hs3⟩:=rd
 obtain ⟨w',h1,h2,h3⟩:=mj (P:=P) (o:=o) (flat ys) 0 cs w hb (by rw [cQ]; omega) zn
 refine ⟨w',?_,by simpa using h2,h3⟩
 simp [Builtin.copy_,run_underlying hu,sizeOf,typeInfo,hi,Builtin.lenOf,Nat.min_eq_left hn,hf,lz,h1,goInt]
theorem Lv {T T2 E oy:Nat} {z:Option Nat} {R:TypeId} {v src:Value} {K:Value→World→Prop} (hs:St w0 A (bK v xs::L) w) (ht:fb P T=some (E,Flat.sz α,oy,z)) (xy:eF S w src ys) (hn:ys.length≤xs.length)
  (k:∀ w',St w0 A (bK v (ys++xs.drop ys.length)::L) w'→K (.int .i64 ys.length) w'):gU P (Builtin.copy_ #[T,T2] R [v,src].toArray) w K:=by
 obtain ⟨U,F,U',g1,g2,g3,g4,g5⟩:=hs.sL
 rcases g1 with ⟨rfl,rfl,hF⟩ | ⟨b,cap,rest,rfl,hb,hl,hF⟩
 ·obtain rfl:ys=[]:=by simpa using hn
  obtain ⟨hu,inf,hi,lz,A4,_⟩:=gq ht
  have hf:=wS (α:=α) (P:=P) (sz:=Flat.sz α) rfl xy
  obtain ⟨sa,T8,rfl,hsc,hs3⟩:=xy
  refine ⟨_,w,?_,k w hs⟩
  simp at hf
  simp [Builtin.copy_,run_underlying hu,sizeOf,typeInfo,hi,Builtin.lenOf,lz,hf,goInt]
 ·have hle:ys.length * Flat.sz α≤xs.length * Flat.sz α:=Nat.mul_le_mul_right _ hn
  obtain ⟨w',h1,h2,h3⟩:=EU (P:=P) (o:=0) (dn:=xs.length) (dc:=cap) (T2:=T2) (R:=R) ht hb xy hn (by rw [List.length_append,cQ]; omega)
  refine ⟨_,w',h1,k w' (hs.rN λ F' hF'=>?_)⟩
  rcases hF' with ⟨h,_⟩ | ⟨b',J2,rest',hv,hb',hl',hF'⟩
  ·cases h
  ·simp only [Value.slice.injEq,Option.some.injEq,Addr.mk.injEq,and_true,true_and] at hv
   obtain ⟨rfl,rfl⟩:=hv
   refine ⟨F',.inr ⟨b,cap,rest,?_,?_,?_,hF'⟩,λ b hb=>.inl hb,h3.mono λ k hk=>(hF' k).2 hk⟩
   ·congr 1; rw [List.length_append,List.length_drop]; omega
   ·have e:flat xs=[]++flat (xs.take ys.length)++flat (xs.drop ys.length):=by rw [List.nil_append,← ik,List.take_append_drop]
    have:=kI [] (flat (xs.take ys.length)) (flat (xs.drop ys.length)++rest) (flat ys) (by rw [cQ,cQ,List.length_take,Nat.min_eq_left hn])
    rw [List.length_nil] at this
    rw [e,List.append_assoc,this] at h2
    rw [ik,List.append_assoc]; exact h2
   ·rw [List.length_append,cQ,List.length_append,List.length_drop,show ys.length+(xs.length - ys.length)=xs.length from by omega,← cQ (xs:=xs),← List.length_append]; exact hl
end
end Go.Fw
namespace Go.Proofs.YtnjcingfdhjfkaaGreat
open Go.Fw
structure Mem where
 of:List Int
 dC:List Int
 l:List Int
 kept:List Int
 gC:Int→List jj
def kS (of:List Int):Int:=if of.length=0 then 0 else of.getD (of.length - 1) 0+1
def xL (k:List Int) (ws:List jj):List Int:=ws.foldl (λ k w=>k.set w.cell.toNat w.n) k
theorem Ai (ws:List jj):∀ k:List Int,(xL k ws).length=k.length:=by
 induction ws with
 | nil=>intro k; rfl
 | cons x ws ih=>intro k; show (xL (k.set x.cell.toNat x.n) ws).length=_; rw [ih,List.length_set]
theorem Sk (ws:List jj) (x:jj) (k:List Int):xL k (ws++[x])=(xL k ws).set x.cell.toNat x.n:=by
 unfold xL; rw [List.foldl_append]; rfl
theorem GX {ws:List jj} {j:Nat} {x:jj} {k:List Int} (hx:ws[j]? = some x):xL k (ws.take (j+1))=(xL k (ws.take j)).set x.cell.toNat x.n:=by
 rw [List.take_add_one,hx]; exact Sk _ _ _
def N4 (m:Mem) (cell:Int):Bool:=decide (0≤cell∧cell<m.l.length)
def iH (m:Mem) (cell n:Int):Mem:=if N4 m cell=true then {m with l:=m.l.set cell.toNat n,gC:=if cell<m.of.length then sZ m.gC (m.of.getD cell.toNat 0) (m.gC (m.of.getD cell.toNat 0)++[⟨cell,n⟩]) else m.gC} else m
def Sl (m:Mem) (line:Int):Bool:=decide (0≤line∧line<kS m.of)
def vC (m:Mem) (line:Int):Mem:=if Sl m line=true then {m with kept:=xL m.kept (m.gC line),gC:=sZ m.gC line []} else m
structure xk (m:Mem):Prop where
 QA:m.of.length≤m.dC.length
 fl:m.dC.length≤20
 ll:m.l.length=m.dC.length
 kl:m.kept.length=m.of.length
 ofr:∀ n∈m.of,0≤n∧n<kS m.of
 lb:kS m.of≤20
 pc:∀ k,∀ x∈m.gC k,0≤x.cell∧x.cell<m.of.length
def MB (m:Mem) (n:Nat):Prop:=∀ k,(m.gC k).length≤n
def fU (p:Nat) (ov fv:Value) (m:Mem):HP:=tS λ lv=>tS λ kv=>tS λ pm=>sep (cD p [ov,fv,lv,kv,.map (some pm)]) (sep (bK lv m.l) (sep (bK kv m.kept) (oF pm m.gC)))
def ui (ov fv:Value) (m:Mem) (w:World):Prop:=eF (λ _=>True) w ov m.of∧eF (λ _=>True) w fv m.dC
def vd (w:World) (p:Nat) (m:Mem):Prop:=∃ ov fv lv kv pm,Cell w p 0 ov∧Cell w p 1 fv∧Cell w p 2 lv∧Cell w p 3 kv∧Cell w p 4 (.map (some pm))∧eF (λ _=>True) w ov m.of∧eF (λ _=>True) w fv m.dC∧eF (λ _=>True) w lv m.l∧eF (λ _=>True) w kv m.kept∧sy w pm m.gC
section
variable {w w' w0:World} {A F:Nat→Prop} {R:List HP} {p:Nat} {ov fv lv kv:Value} {m:Mem} {pm:Nat}
theorem vd.ext (h:vd w p m) (e:Ext w w'):vd w' p m:=by
 obtain ⟨ov,fv,lv,kv,pm,c0,c1,c2,c3,c4,h0,h1,h2,h3,h4⟩:=h
 exact ⟨ov,fv,lv,kv,pm,c0.ext e,c1.ext e,c2.ext e,c3.ext e,c4.ext e,h0.ext e,h1.ext e,h2.ext e,h3.ext e,h4.ext e⟩
theorem vd.mk' (h:tB w p [ov,fv,lv,kv,.map (some pm)]) (hK:ui ov fv m w) (h2:eF (λ _=>True) w lv m.l) (h3:eF (λ _=>True) w kv m.kept) (h4:sy w pm m.gC):vd w p m:=
 ⟨ov,fv,lv,kv,pm,h.cell rfl,h.cell rfl,h.cell rfl,h.cell rfl,h.cell rfl,hK.1,hK.2,h2,h3,h4⟩
theorem fU.open (hs:St w0 A (fU p ov fv m::R) w):∃ lv kv pm,St w0 A (cD p [ov,fv,lv,kv,.map (some pm)]::bK lv m.l::bK kv m.kept::oF pm m.gC::R) w:=by
 obtain ⟨lv,hs⟩:=hs.eV; obtain ⟨kv,hs⟩:=hs.eV; obtain ⟨pm,hs⟩:=hs.eV
 have h1:=hs.split
 have h2:=h1.p1.split
 have h3:=(h2.p1.split)
 exact ⟨lv,kv,pm,h3.p2.p3⟩
theorem fU.shut (hs:St w0 A (cD p [ov,fv,lv,kv,.map (some pm)]::bK lv m.l::bK kv m.kept::oF pm m.gC::R) w):St w0 A (fU p ov fv m::R) w:=by
 have h1:St w0 A (sep (bK kv m.kept) (oF pm m.gC)::cD p [ov,fv,lv,kv,.map (some pm)]::bK lv m.l::R) w:=St.join (hs.p3.p3)
 have h2:St w0 A (sep (bK lv m.l) (sep (bK kv m.kept) (oF pm m.gC))::cD p [ov,fv,lv,kv,.map (some pm)]::R) w:=St.join h1.p2
 exact St.eP lv (St.eP kv (St.eP pm (St.join h2.p1)))
theorem IN (hs:St w0 A (fU p ov fv m::R) w) (hK:ui ov fv m w):vd w p m:=by
 obtain ⟨lv,kv,pm,hs⟩:=fU.open hs
 exact vd.mk' hs.hb hK hs.p1.fI hs.p2.fI hs.p3.WC
end
theorem C144 (p:Nat) (m:Mem) (w:World) (hm:vd w p m) (hk:xk m):CR 144 [(.pointer (some ⟨p,0,none⟩))] w (λ v w'=>v = .int .i64 (kS m.of)∧Ext w w'):=by
 have EV:=hm;obtain ⟨ov,fv,lv,kv,pm,c0,c1,c2,c3,c4,hO,Sm,hL,hKp,hP⟩:=hm;have h20:=hk.fl;have Yq:=hk.QA;have Nj:=hk.ll;have KE:=hk.kl;have Qa:=hk.lb;have hs:=St.start w;refine Zv _ _ _ ?_;unfold S144;refine aE (aA tN (cG et (c0.ext hs.aF) (aJ ei (hO.ext hs.aF) (aH (aC (λ gn=>?_) (λ gn=>?_))))))
 ·exact ⟨congrArg (Value.int .i64) (by unfold kS; rw [if_pos (by omega)]),hs.aF⟩
 ·refine aE (aA tN (have hs:=hs.drew;cG et (c0.ext hs.aF) (aE (aA tN (cG et (c0.ext hs.aF) (aJ ei (hO.ext hs.aF) (gy (by omega) ?_)))))));obtain ⟨iX,fG⟩:=gx (m.of) (i:=((((m.of).length:Int) - 1)).toNat) (by omega);refine aQ ei hO (by omega) fG (λ _ jI=>aD bL (jI.ext hs.aF) ?_);have hx20:=hk.ofr _ (List.mem_of_getElem? fG);refine aO (by omega) ?_;exact ⟨congrArg (Value.int .i64) (by unfold kS; rw [if_neg (by omega),List.getD_eq_getElem?_getD,show m.of.length - 1=((m.of.length:Int) - 1).toNat from by omega,fG]; rfl),hs.aF⟩
theorem C195 (p:Nat) (m:Mem) (cell:Int) (w:World) (hm:vd w p m) (hk:xk m):CR 195 [(.pointer (some ⟨p,0,none⟩)),.int .i64 cell] w (λ v w'=>v = .tuple #[.int .i64 (if N4 m cell=true then m.l.getD cell.toNat 0 else 0),.int .i64 (if N4 m cell=true then 0 else 1)]∧Ext w w'):=by
 have EV:=hm;obtain ⟨ov,fv,lv,kv,pm,c0,c1,c2,c3,c4,hO,Sm,hL,hKp,hP⟩:=hm;have hs:=St.start w;refine aac _ _ _ _ ?_;unfold S195;refine ⟨λ jv w'=>jv = .bool (decide (cell<0∨m.l.length≤cell))∧w=w',?_,?_⟩
 ·refine aR (aC (λ iP=>?_) (λ iP=>?_))
  ·exact ⟨Rx (by omega),rfl⟩
  ·refine aE (aA qU (cG et (c2.ext hs.aF) (aJ ei (hL.ext hs.aF) (dG ?_))));exact ⟨xw (by omega),rfl⟩
 ·rintro _ w1 ⟨rfl,hw⟩ fB;subst hw;refine aC (λ eB=>?_) (λ eB=>?_)
  ·have vk:N4 m cell=false:=by unfold N4; rw [decide_eq_false_iff_not]; omega
   rw [vk];exact ⟨rfl,hs.aF⟩
  ·refine aE (aA qU (cG et (c2.ext hs.aF) ?_));obtain ⟨e_x22,WG⟩:=gx (m.l) (i:=(cell).toNat) (by omega);refine aQ ei hL (by omega) WG (λ _ KO=>aD bL (KO.ext hs.aF) ?_);have vk:N4 m cell=true:=by unfold N4; rw [decide_eq_true_eq]; omega
   rw [vk,List.getD_eq_getElem?_getD,WG];exact ⟨rfl,hs.aF⟩
theorem C72 (p:Nat) (m:Mem) (w:World) (hm:vd w p m) (hk:xk m):CR 72 [(.pointer (some ⟨p,0,none⟩))] w (λ v w'=>lW (bK v m.l) w w'):=by
 have EV:=hm;obtain ⟨ov,fv,lv,kv,pm,c0,c1,c2,c3,c4,hO,Sm,hL,hKp,hP⟩:=hm;have h20:=hk.fl;have Yq:=hk.QA;have Nj:=hk.ll;have KE:=hk.kl;have Qa:=hk.lb;have hs:=St.start w;refine ahz _ _ _ ?_;unfold S72;refine aE (aA qU (cG et (c2.ext hs.aF) (dB zi hs (C70 _ _ _ (hL.ext hs.aF) (by omega)) (λ x7 w1 bY hs=>?_))));exact hs.fresh
theorem C73 (p:Nat) (m:Mem) (w:World) (hm:vd w p m) (hk:xk m):CR 73 [(.pointer (some ⟨p,0,none⟩))] w (λ v w'=>lW (bK v m.kept) w w'):=by
 have EV:=hm;obtain ⟨ov,fv,lv,kv,pm,c0,c1,c2,c3,c4,hO,Sm,hL,hKp,hP⟩:=hm;have h20:=hk.fl;have Yq:=hk.QA;have Nj:=hk.ll;have KE:=hk.kl;have Qa:=hk.lb;have hs:=St.start w;refine ahA _ _ _ ?_;unfold S73;refine aE (aA zB (cG et (c3.ext hs.aF) (dB zi hs (C70 _ _ _ (hKp.ext hs.aF) (by omega)) (λ x7 w1 bY hs=>?_))));exact hs.fresh
theorem C137 (sv:Value) (xs:List jj) (w:World) (hL:eF (λ _=>True) w sv xs) (hn:xs.length≤1000000):CR 137 [sv] w (λ v w'=>lW (bK v xs) w w'):=by
 have hs:=St.start w;refine Zu _ _ _ ?_;unfold S137;refine wZ Tryz.underlying213 (hL.ext hs.aF) (λ p hp=>aX (λ pG=>?_) (λ pG=>?_))
 ·have hx:=hp pG;subst hx;exact (hs.fX (α:=jj)).fresh
 ·refine bW (([]:List jj)) hs vQ rfl rfl (eJ rfl) (λ Ip w1 hs=>?_);have zV:=(hL.ext hs.aF);refine cN hs vQ zV (by simp; omega) (by decide) (λ KV w2 hs=>?_);exact hs.fresh
theorem C128 (p:Nat) (ov fv:Value) (m:Mem) (F:Nat→Prop) (cell n:Int) (w:World) (hF:(fU p ov fv m).p w F) (hK:∀ w',ix F w w'→ui ov fv m w') (hk:xk m) (hb:MB m 1000000):CR 128 [(.pointer (some ⟨p,0,none⟩)),.int .i64 cell,.int .i64 n] w (λ v w'=>v = .int .i64 (if N4 m cell=true then 0 else 1)∧qj F (fU p ov fv (iH m cell n)) w w'):=by
 have hs:=St.begin hF;obtain ⟨lv,kv,pm,hs⟩:=fU.open hs;have h20:=hk.fl;have Yq:=hk.QA;have Nj:=hk.ll;have KE:=hk.kl;have Qa:=hk.lb;refine Zl _ _ _ _ _ ?_;unfold S128;refine ⟨λ jv w'=>jv = .bool (decide (cell<0∨m.l.length≤cell))∧w=w',?_,?_⟩
 ·refine aR (aC (λ gu=>?_) (λ gu=>?_))
  ·exact ⟨Rx (by omega),rfl⟩
  ·refine aE (aA qU (aB et hs.hb rfl (aJ ei (hs.p1).fI (dG ?_))));exact ⟨xw (by omega),rfl⟩
 ·rintro _ w1 ⟨rfl,hw⟩ fB;subst hw;refine aC (λ gd=>?_) (λ gd=>?_)
  ·have hs:=hs.p3.p3.p3.p3;have vk:N4 m cell=false:=by unfold N4; rw [decide_eq_false_iff_not]; omega
   unfold iH;rw [vk];exact ⟨rfl,(fU.shut hs).mut⟩
  ·have vk:N4 m cell=true:=by unfold N4; rw [decide_eq_true_eq]; omega
   refine aE (aA qU (aB et hs.hb rfl ?_));obtain ⟨GP,pU⟩:=gx (m.l) (i:=(cell).toNat) (by omega);refine dT hs.p1 ei (by omega) (by omega) (λ _ ud=>lE _ hs.p1 bL ud (by omega) (λ w2 hs=>?_));refine ⟨λ w'=>St w F [fU p ov fv (iH m cell n)] w',?_,?_⟩
   ·refine aE (aA tN (aB et hs.p1.hb rfl (aJ ei (hK _ hs.aF).1 (aR (aC (λ jH=>?_) (λ jH=>?_))))))
    ·refine aE (aA tN (aB et hs.p1.hb rfl ?_));obtain ⟨KT,Bg⟩:=gx (m.of) (i:=(cell).toNat) (by omega);refine aQ ei (hK _ hs.aF).1 (by omega) Bg (λ _ Ei=>aD bL (Ei) (aE (aA mW (have hs:=hs.drew;aB r7 hs.p1.hb rfl (aE (aA mW (aB r7 hs.p1.hb rfl ?_)))))));have hbx:=hb KT;obtain ⟨Vw,hs⟩:=(hs.p3).ET (k:=KT);refine ⟨_,(hs.p1).Bw Tryz.underlying201 oJ wX,?_⟩;refine pop (M7 _ _) (bW ([(⟨cell,n⟩:jj)]) hs vQ rfl rfl (eJ rfl) (λ s_x54 w3 hs=>?_));refine ⟨aG r7 (hs.p4.hb.cell rfl),?_⟩;refine ⟨aG r7 (hs.p4.hb.cell rfl),?_⟩
     refine ⟨(hs.p2).Bw Tryz.underlying201 oJ wX,?_⟩;have ajT:=(hs).fI;refine cN hs.p1 vQ ajT (by simp; omega) (by decide) (λ aqC w4 hs=>?_);have hs:=hs.p1.drop;refine ⟨aG r7 (hs.p3.hb.cell rfl),?_⟩;obtain ⟨EW,rfl⟩:=(hs).fQ;have hs:=hs.p1.p1;refine B2 hs Tryz.underlying201 oJ (λ w5 hs=>?_);have hs:=hs.p3.p2.p3;have hwm:iH m cell n={m with l:=m.l.set cell.toNat n,gC:=sZ m.gC KT (m.gC KT++[⟨cell,n⟩])}:=by unfold iH; rw [if_pos vk,if_pos (by omega),List.getD_eq_getElem?_getD,Bg]; rfl
     rw [hwm];exact fU.shut (m:={m with l:=_,gC:=_}) hs
    ·have hs:=hs.p3.p3.p2.p3;have hwm:iH m cell n={m with l:=m.l.set cell.toNat n}:=by unfold iH; rw [if_pos vk,if_neg (by omega)]
     rw [hwm];exact fU.shut (m:={m with l:=_,gC:=_}) hs
   ·intro w6 hs jw;exact ⟨by rw [vk]; rfl,hs.mut⟩
def QB (m:Mem) (cut:List Int):Bool:=decide ((cut.length:Int)=kS m.of) && (List.range cut.length).all λ i=>decide (0≤cut.getD i 0∧cut.getD i 0≤(m.gC i).length)
def Aj (m:Mem) (cut:List Int) (k:Nat):List Int:=(List.range k).foldl (λ o (i:Nat)=>xL o ((m.gC i).take (cut.getD i 0).toNat)) m.kept
def jA (m:Mem) (cut:List Int):Option (List Int):=if QB m cut=true then some (Aj m cut cut.length) else none
theorem GY (m:Mem) (cut:List Int) (k:Nat):Aj m cut (k+1)=xL (Aj m cut k) ((m.gC k).take (cut.getD k 0).toNat):=by
 unfold Aj; rw [List.range_succ,List.foldl_append]; rfl
theorem uj (m:Mem) (cut:List Int):∀ k,(Aj m cut k).length=m.kept.length
 | 0=>rfl
 | k+1=>by rw [GY,Ai,uj]
theorem WH {m:Mem} {cut:List Int} {k:Nat} {c:Int} (hc:cut[k]? = some c) (h:¬ (0≤c∧c≤(m.gC k).length)):jA m cut=none:=by
 unfold jA; rw [if_neg]
 intro hh
 unfold QB at hh
 rw [Bool.and_eq_true,List.all_eq_true] at hh
 have:=hh.2 k (List.mem_range.2 (List.getElem?_eq_some_iff.1 hc).1)
 rw [decide_eq_true_eq,List.getD_eq_getElem?_getD,hc] at this
 exact h this
theorem WI {m:Mem} {cut:List Int} (h:(cut.length:Int)≠kS m.of):jA m cut=none:=by
 unfold jA QB; rw [decide_eq_false h]; rfl
theorem GZ {m:Mem} {cut:List Int} (h:(cut.length:Int)=kS m.of) (hc:∀ (k:Nat) (c:Int),k<cut.length→cut[k]? = some c→0≤c∧c≤(m.gC k).length):jA m cut=some (Aj m cut cut.length):=by
 unfold jA; rw [if_pos]
 unfold QB
 rw [Bool.and_eq_true,List.all_eq_true]
 refine ⟨decide_eq_true h,λ k hk=>?_⟩
 have hk:=List.mem_range.1 hk
 rw [decide_eq_true_eq,List.getD_eq_getElem?_getD,List.getElem?_eq_getElem hk]
 exact hc k _ hk (List.getElem?_eq_getElem hk)
def QC:List Nat→List Int→Option (List Int)
 | p::ps,c::cs=>match QC ps cs with
  | some cs'=>some (c::cs')
  | none=>if c<p then some ((c+1)::List.replicate cs.length 0) else none
 | _,_=>none
theorem WJ:∀ {ps:List Nat} {cs:List Int} {i:Nat} {p:Nat} {c:Int},ps[i]? = some p→cs[i]? = some c→QC (ps.drop (i+1)) (cs.drop (i+1))=none→c<p→
  QC ps cs=some (cs.take i++(c+1)::List.replicate (cs.length - (i+1)) 0)
 | p'::ps,c'::cs,0,p,c,hp,hc,hn,h=>by
  rw [List.getElem?_cons_zero] at hp hc
  obtain rfl:=Option.some.inj hp
  obtain rfl:=Option.some.inj hc
  have hn':QC ps cs=none:=hn
  simp [QC,hn',h]
 | p'::ps,c'::cs,i+1,p,c,hp,hc,hn,h=>by
  rw [List.getElem?_cons_succ] at hp hc
  have:=WJ hp hc hn h
  simp [QC,this]
 | [],_,_,_,_,hp,_,_,_=>by simp at hp
 | _::_,[],_,_,_,_,hc,_,_=>by simp at hc
theorem WK:∀ {ps:List Nat} {cs:List Int} {i:Nat} {p:Nat} {c:Int},ps[i]? = some p→cs[i]? = some c→QC (ps.drop (i+1)) (cs.drop (i+1))=none→¬ c<p→QC (ps.drop i) (cs.drop i)=none
 | p'::ps,c'::cs,0,p,c,hp,hc,hn,h=>by
  rw [List.getElem?_cons_zero] at hp hc
  obtain rfl:=Option.some.inj hp
  obtain rfl:=Option.some.inj hc
  have hn':QC ps cs=none:=hn
  simp [QC,hn',h]
 | p'::ps,c'::cs,i+1,p,c,hp,hc,hn,h=>by
  rw [List.getElem?_cons_succ] at hp hc
  have:=WK hp hc hn h
  simpa using this
 | [],_,_,_,_,hp,_,_,_=>by simp at hp
 | _::_,[],_,_,_,_,hc,_,_=>by simp at hc
def EX (m:Mem) (n:Nat):List Nat:=(List.range n).map fun (i:Nat)=>(m.gC i).length
theorem EY {m:Mem} {n i:Nat} (h:i<n):(EX m n)[i]? = some (m.gC i).length:=by
 unfold EX; rw [List.getElem?_map,List.getElem?_range h]; rfl
def WL (m:Mem) (cut:List Int):Option (List Int):=QC (EX m cut.length) cut
def yI (m:Mem) (pX:List Int):Mem:={m with kept:=pX,l:=pX++m.dC.drop pX.length,gC:=λ _=>[]}
theorem Ak {cs:List Int} {t:Nat} {x:Int} (h:t<cs.length):(cs.take (t+1)++List.replicate (cs.length - (t+1)) 0).set t x=cs.take t++x::List.replicate (cs.length - (t+1)) (0:Int):=by
 have e:cs.take (t+1)=cs.take t++[cs[t]]:=by rw [List.take_add_one,List.getElem?_eq_getElem h]; rfl
 rw [e,List.append_assoc,List.set_append_right _ _ (by rw [List.length_take]; omega),List.length_take,Nat.min_eq_left (Nat.le_of_lt h),Nat.sub_self]
 rfl
theorem WM {cs:List Int} {t:Nat} (h:t<cs.length):cs.take t++0::List.replicate (cs.length - (t+1)) (0:Int)=cs.take t++List.replicate (cs.length - t) 0:=by
 rw [show cs.length - t=(cs.length - (t+1))+1 from by omega,List.replicate_succ]
theorem C129 (p:Nat) (ov fv:Value) (m:Mem) (F:Nat→Prop) (line:Int) (w:World) (hF:(fU p ov fv m).p w F) (hK:∀ w',ix F w w'→ui ov fv m w') (hk:xk m) (hb:MB m 1000000):CR 129 [(.pointer (some ⟨p,0,none⟩)),.int .i64 line] w (λ v w'=>v = .int .i64 (if Sl m line=true then 0 else 1)∧qj F (fU p ov fv (vC m line)) w w'):=by
 have hs:=St.begin hF;obtain ⟨lv,kv,pm,hs⟩:=fU.open hs;have h20:=hk.fl;have Yq:=hk.QA;have Nj:=hk.ll;have KE:=hk.kl;have Qa:=hk.lb;refine Zm _ _ _ _ ?_;unfold S129;refine ⟨λ jv w'=>jv = .bool (decide (line<0∨kS m.of≤line))∧St w F [cD p [ov,fv,lv,kv,.map (some pm)],bK lv m.l,bK kv m.kept,oF pm m.gC] w',?_,?_⟩
 ·refine aR (aC (λ gn=>?_) (λ gn=>?_))
  ·exact ⟨vb (by first | exact (decide_eq_true (by omega)).symm | exact decide_eq_decide.2 (by omega)),hs⟩
  ·refine aZ T0 hs (C144 _ m _ (vd.mk' hs.hb (hK _ hs.aF) hs.p1.fI hs.p2.fI hs.p3.WC) hk) (λ w1 he hs=>dG ?_);exact ⟨vb (by first | exact (decide_eq_true (by omega)).symm | exact decide_eq_decide.2 (by omega)),hs⟩
 ·rintro _ w2 ⟨rfl,hs⟩ fB;refine aC (λ gQ=>?_) (λ gQ=>?_)
  ·have hs:=hs.p3.p3.p3.p3;have vk:Sl m line=false:=by unfold Sl; rw [decide_eq_false_iff_not]; omega
   unfold vC;rw [vk];exact ⟨rfl,(fU.shut hs).mut⟩
  ·refine aE (aA mW (aB r7 hs.hb rfl ?_));obtain ⟨af1,hs⟩:=(hs.p3).ET (k:=line);refine ⟨_,(hs.p1).Bw Tryz.underlying201 oJ wX,?_⟩;have yU:=hb line;refine aJ vQ (hs).fI ?_;have hs:=hs.p3.p3.p4.p4.p4;refine ⟨λ mm x w1=>∃ k:Nat,x = .int .i64 (k:Int)∧mm=(m.gC line).length - k∧k≤(m.gC line).length∧St w F [bK (Flat.val af1) (m.gC line),Lt pm m.gC line af1,bK kv (xL m.kept ((m.gC line).take k)),cD p [ov,fv,lv,kv,.map (some pm)],bK lv m.l] w1,⟨_,0,rfl,rfl,Nat.zero_le _,hs⟩,?_⟩;rintro mm _ w3 ⟨k,rfl,rfl,Jo,hs⟩ jw;refine aR (aC (λ iN=>?_) (λ iN=>?_))
   ·obtain ⟨gR,im⟩:=gx ((m.gC line)) (i:=((k:Int)).toNat) (by omega);refine dT hs vQ (by omega) (by omega) (λ _ v9=>?_);have hpc:=hk.pc line _ (List.mem_of_getElem? im);refine gj hs PD v9 im (aN hs PE (λ b_w6 w4 hs=>aI (x:=gR) hs PD rfl rfl (λ w5 hs=>aE (aA zB (have hs:=hs.drew;aB et hs.p4.hb rfl (aA Kd ?_))))));have hal:=Ai ((m.gC line).take k) m.kept;refine aB (v:=.int .i64 ((gR).cell)) bL hs.hb rfl (aA Ke (aB (v:=.int .i64 ((gR).n)) bL hs.hb rfl ?_));obtain ⟨vr,te⟩:=gx ((xL m.kept ((m.gC line).take k))) (i:=((gR).cell).toNat) (by omega)
    refine dT hs.p3 ei (by omega) (by omega) (λ _ ry=>lE _ hs.p3 bL ry (by omega) (λ w6 hs=>aO (by omega) ?_));have hs:=(hs.p1.drop.p4.p4.p2.p4).p4;exact ⟨_,by omega,k+1,rfl,rfl,by omega,by rw [GX (j:=k) im]; exact hs⟩
   ·rw [List.take_of_length_le (by omega)] at hs;refine aE (aA mW (aB r7 hs.p3.hb rfl ?_));have hs:=hs.p1.p1.WD;rw [Sj] at hs;refine Lu hs rfl Tryz.underlying201 oJ (λ _ w7 hs=>?_);have hs:=hs.p1.p3.p3;have vk:Sl m line=true:=by unfold Sl; rw [decide_eq_true_eq]; omega
    have IP:vC m line={m with kept:=xL m.kept (m.gC line),gC:=sZ m.gC line []}:=by unfold vC; rw [if_pos vk]
    rw [IP,vk];exact ⟨rfl,(fU.shut (m:={m with kept:=_,gC:=_}) hs).mut⟩
theorem C125 (p:Nat) (m:Mem) (cut:List Int) (cv:Value) (w:World) (hm:vd w p m) (hk:xk m) (hb:MB m 1000000) (hC:eF (λ _=>True) w cv cut) (ajU:cut.length≤1000):CR 125 [(.pointer (some ⟨p,0,none⟩)),cv] w (λ v w'=>(jA m cut=none∧v = .tuple #[.slice none 0 0,.int .i64 1]∧Ext w w')∨∃ pX o,jA m cut=some pX∧v = .tuple #[o,.int .i64 0]∧lW (bK o pX) w w'):=by
 have EV:=hm;obtain ⟨ov,fv,lv,kv,pm,c0,c1,c2,c3,c4,hO,Sm,hL,hKp,hP⟩:=hm;have h20:=hk.fl;have Yq:=hk.QA;have Nj:=hk.ll;have KE:=hk.kl;have Qa:=hk.lb;have hs:=St.start w;refine Zi _ _ _ _ ?_;unfold S125;refine aJ ei (hC.ext hs.aF) (aZ T0 hs (C144 _ m _ (EV.ext hs.aF) hk) (λ w1 he hs=>cS (aC (λ jG=>?_) (λ jG=>?_))))
 ·exact .inl ⟨WI (by omega),rfl,hs.aF⟩
 ·refine dB TU hs (C73 _ m _ (EV.ext hs.aF) hk) (λ x17 w2 bY hs=>aJ ei (hC.ext hs.aF) ?_);refine ⟨λ mm x w1=>∃ k:Nat,x = .int .i64 (k:Int)∧mm=cut.length - k∧k≤cut.length∧(∀ (i:Nat) (c:Int),i<k→cut[i]? = some c→0≤c∧c≤(m.gC i).length)∧St w bD [bK x17 (Aj m cut k)] w1,⟨_,0,rfl,rfl,Nat.zero_le _,λ i c h=>absurd h (by omega),hs⟩,?_⟩;rintro mm _ w3 ⟨k,rfl,rfl,Jo,oC,hs⟩ fB;refine aR (aC (λ gr=>?_) (λ gr=>?_))
  ·obtain ⟨q8,ko⟩:=gx (cut) (i:=((k:Int)).toNat) (by omega);refine aQ ei hC (by omega) ko (λ _ pH=>aD bL (pH.ext hs.aF) ?_);refine ⟨λ jv w'=>jv = .bool (decide (q8<0∨(m.gC k).length<q8))∧w3=w',?_,?_⟩
   ·refine aR (aC (λ qm=>?_) (λ qm=>?_))
    ·exact ⟨Rx (by omega),rfl⟩
    ·refine aE (aA mW (cG r7 (c4.ext hs.aF) (Bv hP hs.aF Tryz.underlying201 oJ wX (λ aqD ry=>aJ vQ (ry.ext hs.aF) (dA ?_)))));exact ⟨xw (by omega),rfl⟩
   ·rintro _ w4 ⟨rfl,hw⟩ jw;subst hw;refine aC (λ tV=>?_) (λ tV=>?_)
    ·exact .inl ⟨WH (k:=k) ko (by omega),rfl,hs.aF⟩
    ·refine aE (aA mW (cG r7 (c4.ext hs.aF) (Bv hP hs.aF Tryz.underlying201 oJ wX (λ ao3 yd=>?_))));have NA:=hb k;have MW:((m.gC k).take q8.toNat).length≤(m.gC k).length:=by rw [List.length_take]; omega
     refine lX vQ (yd.ext hs.aF) (by omega) (by omega) (λ Wf NU=>?_);have II:=NU _ yd;refine aJ vQ (II.ext hs.aF) ?_;refine ⟨λ mm x w1=>∃ j:Nat,x = .int .i64 (j:Int)∧mm=((m.gC k).take q8.toNat).length - j∧j≤((m.gC k).take q8.toNat).length∧St w bD [bK x17 (xL (Aj m cut k) (((m.gC k).take q8.toNat).take j))] w1,⟨_,0,rfl,rfl,Nat.zero_le _,hs⟩,?_⟩;rintro mm _ w5 ⟨j,rfl,rfl,hj,hs⟩ oN;refine aR (aC (λ zP=>?_) (λ zP=>?_))
     ·obtain ⟨El,uY⟩:=gx ((((m.gC (k:Int))).take (q8).toNat)) (i:=((j:Int)).toNat) (by omega);refine aQ vQ II (by omega) uY (λ _ Em=>?_);have hpc:=hk.pc k _ (List.mem_of_mem_take (List.mem_of_getElem? uY));refine aD PD (Em.ext hs.aF) (aN hs PE (λ b_w10 w6 hs=>aI (x:=El) hs PD rfl rfl (λ w7 hs=>aA Kd ?_)));have hal:=Ai (((m.gC k).take q8.toNat).take j) (Aj m cut k);have hil:=uj m cut k;refine aB (v:=.int .i64 ((El).cell)) bL hs.hb rfl (aA Ke (aB (v:=.int .i64 ((El).n)) bL hs.hb rfl ?_));obtain ⟨aqE,ajV⟩:=gx ((xL (Aj m cut k) (((m.gC k).take q8.toNat).take j))) (i:=((El).cell).toNat) (by omega)
      refine dT hs.p1 ei (by omega) (by omega) (λ _ Lw=>lE _ hs.p1 bL Lw (by omega) (λ w8 hs=>aO (by omega) ?_));have hs:=(hs.p1).drop;exact ⟨_,by omega,j+1,rfl,rfl,by omega,by rw [GX (j:=j) uY]; exact hs⟩
     ·rw [List.take_of_length_le (i:=j) (by omega)] at hs;refine aO (by omega) ?_;refine ⟨_,by omega,k+1,rfl,rfl,by omega,λ i c hi hc=>?_,?_⟩
      ·by_cases e:i=k
       ·subst e; obtain rfl:=Option.some.inj (hc.symm.trans ko); omega
       ·exact oC i c (by omega) hc
      ·rw [GY,List.getD_eq_getElem?_getD,show cut[k]? = some q8 from ko]; exact hs
  ·exact .inr ⟨_,_,GZ (by omega) (λ i c hi hc=>oC i c (by omega) hc),rfl,by rw [show cut.length=k from by omega]; exact hs.fresh⟩
theorem C145 (p:Nat) (m:Mem) (cut:List Int) (cv:Value) (w:World) (hm:vd w p m) (hk:xk m) (hb:MB m 1000000) (hC:eF (λ _=>True) w cv cut) (ajU:cut.length≤1000) (zo:∀ c∈cut,0≤c):CR 145 [(.pointer (some ⟨p,0,none⟩)),cv] w (λ v w'=>(WL m cut=none∧v = .tuple #[.slice none 0 0,.bool false]∧Ext w w')∨∃ c o,WL m cut=some c∧v = .tuple #[o,.bool true]∧lW (bK o c) w w'):=by
 have EV:=hm;obtain ⟨ov,fv,lv,kv,pm,c0,c1,c2,c3,c4,hO,Sm,hL,hKp,hP⟩:=hm;have hs:=St.start w;refine Zw _ _ _ _ ?_;unfold S145;refine dB zi hs (C70 _ _ _ (hC.ext hs.aF) (by omega)) (λ x9 w1 bY hs=>?_);have hlx:cut.length=cut.length:=rfl;refine aJ ei (hs).fI (gy (by omega) ?_);refine ⟨λ mm x w1=>∃ t:Nat,x = .int .i64 ((t:Int) - 1)∧mm=t∧t≤cut.length∧QC ((EX m cut.length).drop t) (cut.drop t)=none∧St w bD [bK x9 (cut.take t++List.replicate (cut.length - t) 0)] w1,⟨_,cut.length,rfl,rfl,Nat.le_refl _,by rw [List.drop_eq_nil_of_le (Nat.le_refl _)]; cases (EX m cut.length).drop cut.length <;> rfl,by simpa using hs⟩,?_⟩
 rintro t _ w2 ⟨_,rfl,rfl,ht,fR,hs⟩ fB;refine dG (aC (λ gQ=>?_) (λ gQ=>?_))
 ·have hlx:(cut.take t++List.replicate (cut.length - t) 0).length=cut.length:=by rw [List.length_append,List.length_take,List.length_replicate]; omega
  obtain ⟨iX,fG⟩:=gx ((cut.take t++List.replicate (cut.length - t) 0)) (i:=(((t:Int) - 1)).toNat) (by omega);refine dT hs ei (by omega) (by omega) (λ _ jI=>?_);have hs:=hs.drew
  have hct:cut[t - 1]? = some iX:=by
   have:=fG;rw [show ((t:Int) - 1).toNat=t - 1 from by omega,List.getElem?_append_left (by rw [List.length_take]; omega),List.getElem?_take,if_pos (by omega)] at this;exact this
  have hx0:=zo _ (List.mem_of_getElem? hct);have he:=rfl (a:=iX);refine gj hs bL jI fG (aE (aA mW (cG r7 (c4.ext hs.aF) (Bv hP hs.aF Tryz.underlying201 oJ wX (λ s_x26 q9=>aJ vQ (q9.ext hs.aF) (aR (aC (λ Lr=>?_) (λ Lr=>?_))))))))
  ·refine dT hs ei (by omega) (by omega) (λ _ oD=>gj hs bL oD fG ?_);have hbx:=hb ((t:Int) - 1);refine aO (by omega) (dT hs ei (by omega) (by omega) (λ _ ry=>lE _ hs bL ry (by omega) (λ w3 hs=>?_)));refine .inr ⟨_,_,WJ (i:=t - 1) (EY (by omega)) hct (by rw [show t - 1+1=t from by omega]; exact fR) (by rw [show ((t - 1:Nat):Int)=(t:Int) - 1 from by omega]; omega),rfl,?_⟩;rw [he,show ((t:Int) - 1).toNat=t - 1 from by omega] at hs;have gk:=Ak (cs:=cut) (t:=t - 1) (x:=iX+1) (by omega);rw [show t - 1+1=t from by omega] at gk ⊢;rw [gk] at hs;exact hs.fresh
  ·have hbx:=hb ((t:Int) - 1);refine dT hs ei (by omega) (by omega) (λ _ Ei=>lE _ hs bL Ei (by omega) (λ w4 hs=>gy (by omega) ?_));refine ⟨_,by omega,t - 1,by congr 1; omega,rfl,by omega,WK (i:=t - 1) (EY (by omega)) hct (by rw [show t - 1+1=t from by omega]; exact fR) (by rw [show ((t - 1:Nat):Int)=(t:Int) - 1 from by omega]; omega),?_⟩;rw [show ((t:Int) - 1).toNat=t - 1 from by omega] at hs;have gk:=Ak (cs:=cut) (t:=t - 1) (x:=0) (by omega);rw [show t - 1+1=t from by omega] at gk;rw [gk] at hs;have hrs:=WM (cs:=cut) (t:=t - 1) (by omega);rw [show t - 1+1=t from by omega] at hrs;rw [hrs] at hs
   exact hs
 ·exact .inl ⟨by unfold WL; rw [show t=0 from by omega] at fR; simpa using fR,rfl,hs.drop.aF⟩
theorem C58 (p:Nat) (ov fv:Value) (m:Mem) (F:Nat→Prop) (cut:List Int) (cv:Value) (w:World) (hF:(fU p ov fv m).p w F) (hK:∀ w',ix F w w'→ui ov fv m w') (hk:xk m) (hb:MB m 1000000) (hC:∀ w',ix F w w'→eF (λ _=>True) w' cv cut) (ajU:cut.length≤1000):CR 58 [(.pointer (some ⟨p,0,none⟩)),cv] w (λ v w'=>(jA m cut=none∧v = .int .i64 1∧qj F (fU p ov fv m) w w')∨∃ pX,jA m cut=some pX∧v = .int .i64 0∧qj F (fU p ov fv (yI m pX)) w w'):=by
 have hs:=St.begin hF;obtain ⟨lv,kv,pm,hs⟩:=fU.open hs;have h20:=hk.fl;have Yq:=hk.QA;have Nj:=hk.ll;have KE:=hk.kl;have Qa:=hk.lb;refine ahl _ _ _ _ ?_;unfold S58;refine eu aeu (C125 _ m cut _ _ (vd.mk' hs.hb (hK _ hs.aF) hs.p1.fI hs.p2.fI hs.p3.WC) hk hb (hC _ hs.aF) (by omega)) ?_;rintro v_x10 w1 ajW
 rcases ajW with ⟨rC,rfl,he⟩ | ⟨IQ,o_x10,rC,rfl,bY⟩
 ·have hs:=hs.ext he;refine bE rfl (bE rfl (cS (gD (by decide) ?_)));have hs:=hs.p3.p3.p3.p3;exact .inl ⟨rC,rfl,(fU.shut hs).mut⟩
 ·have hs:=hs.made bY;refine bE rfl (bE rfl (cS (fT (by decide) (aE (aA zB (aV hs.p1 et (eJ rfl) ((hs).fI.one) (λ w2 hs=>aE (aA qU (have hs:=hs.drew;aB et hs.hb rfl (aE (aA Kc (aB et hs.hb rfl ?_))))))))))));refine Lv hs.p2 ei (hK _ hs.aF).2 (by omega) (λ w3 hs=>aE (aA qU (aB et hs.p1.hb rfl (Lv hs ei (hs.p2).fI (by rw [List.length_append,List.length_drop]; have hil:IQ.length=m.of.length:=(by unfold jA at rC; split at rC <;> simp at rC; rw [← rC,uj]; exact KE); omega) (λ w4 hs=>ou (α:=jj) hs (λ b_x36 w5 hs=>aE (aA mW (aV hs.p2 r7 (eJ rfl) (rfl) (λ w6 hs=>?_)))))))))
  have hs:=((hs.p4.drop.p4.drop.p1.p3).p3).p3;have hil:IQ.length=m.of.length:=by unfold jA at rC; split at rC <;> simp at rC; rw [← rC,uj]; exact KE
  rw [show m.l.drop m.dC.length=[] from List.drop_eq_nil_of_le (by omega),List.append_nil] at hs;exact .inr ⟨_,rC,rfl,(fU.shut (m:=yI m IQ) hs).mut⟩
end Go.Proofs.YtnjcingfdhjfkaaGreat
namespace Go.Fw
open Go.MapKept (Stamped IsKey)
open Go.ChangeMaps (setBlock)
section
variable {P:Program} {w w0 w':World} {A:Nat→Prop} {L:List HP} {b r:Nat}
def G0 (r m since:Nat) (seen:Array Nat):HP where
 p w F:=w.heap[r]? = some (.mapIter (some m) since seen since)∧∀ k,F k↔k=r
 loc w w' F h hh:=⟨(hh r ((h.2 r).2 rfl)).trans h.1,h.2⟩
 lt w F b' h hb:=by rw [(h.2 b').1 hb]; exact jO h.1
theorem Sn {T Kt E:TypeId} {es:Array MapEntry} {clock:Nat} {K:Value→World→Prop} (hs:St w0 A L w) (ht:P.underlying T=some (.map Kt E)) (hb:w.heap[b]? = some (.map es clock))
  (k:∀ r w',St w0 A (G0 r b clock #[]::L) w'→K (.pointer (some ⟨r,0,none⟩)) w'):gU P (Instr.range T (.map (some b))) w K:=
 ⟨_,_,run_range_map w T Kt E b es clock ht hb,k _ _ (hs.new (Ext.push w _) (F:=λ k=>k=w.heap.size) ⟨pj _ _,λ _=>Iff.rfl⟩ λ b hb=>by rw [hb]; exact Nat.le_refl _)⟩
theorem WN {T since:Nat} {seen:Array Nat} {es:Array MapEntry} {K:Value→World→Prop} (hs:St w0 A (G0 r b since seen::L) w) (hb:w.heap[b]? = some (.map es since)) (hold:∀ x∈es.toList,x.born<since)
  (k0:(leftOf es seen).size=0→K (.tuple #[.bool false]) w)
  (k1:∀ e w',e∈(leftOf es seen).toList→St w0 A (G0 r b since (seen.push e.born)::L) w'→K (.tuple #[.bool true,e.key,e.val]) w'):gU P (Instr.next (.pointer (some ⟨r,0,none⟩)) false T) w K:=by
 obtain ⟨F,h,_⟩:=hs.head
 rcases run_next_at (P:=P) w T r b since since seen es since h.1 hb hold (Nat.le_refl _) with ⟨h1,h2⟩ | ⟨e,he,w1,hw,h2⟩
 ·exact ⟨_,w,h2,k0 h1⟩
 ·have e1:St w0 A (G0 r b since seen::L) w1:=by
   rcases hw with rfl | rfl
   ·exact hs
   ·exact hs.ext ⟨rfl,rfl,rfl,Nat.le_refl _,λ _ _ _=>rfl⟩
  refine ⟨_,_,h2,k1 e _ he (e1.rN λ F hF=>⟨F,⟨mf _ (jO hF.1),hF.2⟩,λ b hb=>.inl hb,(ix.setBlock w1 r _).mono λ k hk=>(hF.2 k).2 hk⟩)⟩
theorem So {since:Nat} {seen:Array Nat} {es:Array MapEntry} {e:MapEntry} {K:Value→Prop} (hs:St w0 A (G0 r b since (seen.push e.born)::L) w) (hb:w.heap[b]? = some (.map es since)) (he:e∈es.toList) (hn:(es.toList.map (·.born)).Nodup)
  (k:K (.tuple #[e.key,e.val])):C7 P (Instr.entry (.pointer (some ⟨r,0,none⟩))) w K:=by
 obtain ⟨F,h,_⟩:=hs.head
 exact ⟨_,run_entry_at w r b since seen es since e h.1 hb he hn,k⟩
theorem sy.es {α:Type} [Flat α] {f:Int→List α} (h:sy w b f):∃ es clock,w.heap[b]? = some (.map es clock)∧Stamped es clock∧(∀ e∈es.toList,∃ k,∃ s:SV,e.key = .int .i64 k∧e.val=Flat.val s∧eF (λ _=>True) w (Flat.val s) (f k))∧∀ k,(∀ e∈es.toList,e.key≠.int .i64 k)→f k=[]:=by
 obtain ⟨ks,ss,⟨es,clock,h1,h2,h3,h4⟩,h5,h6⟩:=h
 have Mr:es.toList.length=ks.length:=by have:=congrArg List.length h3; simpa using this
 have hls:es.toList.length=ss.length:=by have:=congrArg List.length h4; simpa using this
 refine ⟨es,clock,h1,h2,λ e he=>?_,λ k hk=>h6 k λ hm=>?_⟩
 ·obtain ⟨i,hi,rfl⟩:=List.getElem_of_mem he
  refine ⟨ks[i]'(by omega),ss[i]'(by omega),?_,?_,h5 i _ _ (List.getElem?_eq_getElem _) (List.getElem?_eq_getElem _)⟩
  ·have:=congrArg (·[i]?) h3
   simp only [List.getElem?_map,List.getElem?_eq_getElem hi,List.getElem?_eq_getElem (show i<ks.length by omega)] at this
   exact Option.some.inj this
  ·have:=congrArg (·[i]?) h4
   simp only [List.getElem?_map,List.getElem?_eq_getElem hi,List.getElem?_eq_getElem (show i<ss.length by omega)] at this
   exact Option.some.inj this
 ·have:Value.int .i64 k∈es.toList.map (·.key):=by rw [h3]; exact List.mem_map.2 ⟨k,hm,rfl⟩
  obtain ⟨e,he,yj⟩:=List.mem_map.1 this
  exact hk e he yj
theorem EZ {o:Obj} (h:w.heap[b]? = some o) (e:Ext w w'):w'.heap[b]? = some o:=(e.cD b (jO h) λ h=>h).trans h
theorem E0 {seen:Array Nat} {x y:Nat} (h:(seen.push x).contains y=true):seen.contains y=true∨y=x:=by
 simp at h ⊢; exact h
theorem born_inj {es:Array MapEntry} (hn:(es.toList.map (·.born)).Nodup) {e e':MapEntry} (h:e∈es.toList) (h':e'∈es.toList) (hb:e.born=e'.born):e=e':=by
 obtain ⟨i,hi,rfl⟩:=List.getElem_of_mem h
 obtain ⟨j,hj,rfl⟩:=List.getElem_of_mem h'
 have:=(List.getElem_inj (i:=i) (j:=j) (h₀:=by simpa using hi) (h₁:=by simpa using hj) hn).1 (by simpa using hb)
 subst this; rfl
end
section
variable {P:Program} {w w0 w':World} {A:Nat→Prop} {L:List HP} {b r:Nat}
def Lx (P:Program) (n T E:Nat):Prop:=P.underlying T=some (.array n E)∧P.underlying E=some (.int .i64)∧pr P (sizeOf E)=some 1
abbrev Al (xs:List Int):Value:=.agg (xs.map (Value.int .i64)).toArray
theorem Ly {β:Type} {f:Nat→β→Sem (ForInStep β)} {g:Nat→Bool} {x0 stop:β}:∀ l:List Nat,(∀ i∈l,pr P (f i x0)=some (if g i=true then .yield x0 else .done stop))→pr P (forIn l x0 f)=some (if l.all g=true then x0 else stop)
 | [],_=>by simp [fe]
 | i::l,h=>by
  rw [List.forIn_cons,cM,h i (by simp)]
  by_cases hg:g i=true
  ·rw [if_pos hg]
   simp only [Option.bind_some]
   rw [Ly l λ j hj=>h j (by simp [hj])]
   simp [hg]
  ·rw [if_neg hg]
   simp [hg,fe]
theorem yJ {E:TypeId} {xs:List Int} {i:Nat} (hE:P.underlying E=some (.int .i64)) (hi:i<xs.length):pr P (part E (xs.map (Value.int .i64)).toArray i)=some (.int .i64 xs[i]):=
 HY (n:=0) hE rfl (by simp [hi])
theorem ada {n T E:Nat} {xs ys:List Int} (h:Lx P n T E) (hx:xs.length=n) (hy:ys.length=n):pr P (Op.equal T (Al xs) (Al ys))=some (decide (xs=ys)):=by
 obtain ⟨ht,he,hs⟩:=h
 have e:∀ x y:Int,pr P (Op.equalIn 9999 E (.int .i64 x) (.int .i64 y))=some (decide (x=y)):=λ x y=>by
  rw [BL (k:=9998) (n:=0) he rfl rfl rfl]; rfl
 show pr P (Op.equalIn (9999+1) T _ _)=_
 unfold Op.equalIn
 rw [cM,cL ht]
 simp only [Option.bind_some,cM,hs]
 simp only [Std.Legacy.Range.forIn_eq_forIn_range',Std.Legacy.Range.size,Nat.sub_zero,Nat.add_sub_cancel,Nat.div_one,Nat.mul_one]
 rw [Ly (g:=λ i=>decide (xs[i]? = ys[i]?)) (stop:=⟨some false,PUnit.unit⟩)]
 ·by_cases hxy:xs=ys
  ·subst hxy
   simp [fe]
  ·have:(List.range' 0 n).all (λ i=>decide (xs[i]? = ys[i]?))=false:=by
    rw [List.all_eq_false]
    apply Classical.byContradiction
    intro hc
    apply hxy
    apply List.ext_getElem?
    intro i
    apply Classical.byContradiction
    intro Cb
    by_cases hi:i<n
    ·exact hc ⟨i,by simp [List.mem_range']; omega,by simpa using Cb⟩
    ·exact Cb (by rw [List.getElem?_eq_none (by omega),List.getElem?_eq_none (by omega)])
   simp [this,hxy,fe]
 ·intro i hi
  have ML:i<n:=by simp [List.mem_range'] at hi; omega
  simp only [cM,yJ he (show i<xs.length by omega),yJ he (show i<ys.length by omega),Option.bind_some,e]
  rw [List.getElem?_eq_getElem (show i<xs.length by omega),List.getElem?_eq_getElem (show i<ys.length by omega)]
  by_cases hq:xs[i]'(by omega)=ys[i]'(by omega)
  ·simp [hq,fe]
  ·simp [hq,fe]
def N5 (b n:Nat) (ks:List (List Int)):HP where
 p w F:=(∃ es clock,w.heap[b]? = some (.map es clock)∧es.toList.map (·.key)=ks.map Al∧(∀ e∈es.toList,e.val = .bool true)∧∀ k∈ks,k.length=n)∧∀ k,F k↔k=b
 loc w w' F h hh:=by
  obtain ⟨⟨es,c,h1,h2⟩,h3⟩:=h; exact ⟨⟨es,c,(hh b ((h3 b).2 rfl)).trans h1,h2⟩,h3⟩
 lt w F b' h hb:=by obtain ⟨⟨es,c,h1,h2⟩,h3⟩:=h; rw [(h3 b').1 hb]; exact jO h1
theorem Lz {T n:TypeId} {K:Value→World→Prop} (hs:St w0 A L w) (k:∀ b w',St w0 A (N5 b n []::L) w'→K (.map (some b)) w'):gU P (Instr.makeMap T none) w K:=
 ⟨_,_,rfl,k _ _ (hs.new (Ext.push w (.map #[] 0)) (F:=λ k=>k=w.heap.size) ⟨⟨#[],0,pj _ _,rfl,by simp,by simp⟩,λ _=>Iff.rfl⟩ λ b hb=>by rw [hb]; exact Nat.le_refl _)⟩
theorem WO {T E n:Nat} {x:List Int} (h:Lx P n T E) (hx:x.length=n):∀ (es:List MapEntry) (ks:List (List Int)) (i:Nat),es.map (·.key)=ks.map Al→(∀ k∈ks,k.length=n)→(∀ e∈es,e.val = .bool true)→
  (x ∉ ks∧pr P (Instr.findAsking T (Al x) es i)=some none)∨(x∈ks∧∃ j,pr P (Instr.findAsking T (Al x) es i)=some (some (j,.bool true)))
 | [],ks,i,hk,_,_=>by
  have:ks=[]:=by simpa using hk.symm
  subst this
  exact .inl ⟨by simp,rfl⟩
 | e::es,[],i,hk,_,_=>by simp at hk
 | e::es,k::ks,i,hk,hl,hv=>by
  simp only [List.map_cons,List.cons.injEq] at hk
  have he:pr P (Op.equal T (Al x) e.key)=some (decide (x=k)):=by rw [hk.1]; exact ada h hx (hl k (by simp))
  unfold Instr.findAsking
  rw [cM,he]
  simp only [Option.bind_some]
  by_cases hxk:x=k
  ·subst hxk
   refine .inr ⟨by simp,i,?_⟩
   simp [fe,hv e (by simp)]
  ·rcases WO h hx es ks (i+1) hk.2 (λ k hk=>hl k (by simp [hk])) (λ e he=>hv e (by simp [he])) with ⟨h1,h2⟩ | ⟨h1,j,h2⟩
   ·exact .inl ⟨by simp [hxk,h1],by simp [hxk,h2]⟩
   ·exact .inr ⟨by simp [h1],j,by simp [hxk,h2]⟩
theorem LA {E:TypeId} {x:Int} {em:Bool} (hE:P.underlying E=some (.int .i64)):pr P (Instr.checkKey em 9999 E (.int .i64 x))=some ():=by
 show pr P (Instr.checkKey em (9998+1) E _)=_
 unfold Instr.checkKey
 rw [cM,cL hE]; rfl
theorem E1 {f:Nat→PUnit→Sem (ForInStep PUnit)}:∀ l:List Nat,(∀ i∈l,pr P (f i ⟨⟩)=some (.yield ⟨⟩))→pr P (forIn l PUnit.unit f)=some ⟨⟩
 | [],_=>by simp [fe]
 | i::l,h=>by
  rw [List.forIn_cons,cM,h i (by simp)]
  simp only [Option.bind_some]
  exact E1 l λ j hj=>h j (by simp [hj])
theorem B3 {T E n:Nat} {x:List Int} {em:Bool} (h:Lx P n T E) (hx:x.length=n):pr P (Instr.checkKey em 10000 T (Al x))=some ():=by
 obtain ⟨ht,he,hs⟩:=h
 show pr P (Instr.checkKey em (9999+1) T _)=_
 unfold Instr.checkKey
 rw [cM,cL ht]
 simp only [Option.bind_some,cM,hs]
 simp only [Std.Legacy.Range.forIn_eq_forIn_range',Std.Legacy.Range.size,Nat.sub_zero,Nat.add_sub_cancel,Nat.div_one,Nat.mul_one]
 rw [E1]
 ·rfl
 ·intro i hi
  have ML:i<n:=by simp [List.mem_range'] at hi; omega
  simp only [cM,hs,Option.bind_some,Nat.mul_one,yJ he (show i<x.length by omega),LA he,fe]
theorem QD {T E n:Nat} {x:List Int} {es:List MapEntry} {ks:List (List Int)} (h:Lx P n T E) (hx:x.length=n) (hk:es.map (·.key)=ks.map Al) (hl:∀ k∈ks,k.length=n) (hv:∀ e∈es,e.val = .bool true) :
  (x ∉ ks∧pr P (Instr.findKey T (Al x) es)=some none)∨(x∈ks∧∃ j,pr P (Instr.findKey T (Al x) es)=some (some (j,.bool true))):=by
 unfold Instr.findKey
 rw [cM,cL h.1]
 simp only [Option.bind_some]
 cases es with
 | nil=>
  have:ks=[]:=by simpa using hk.symm
  subst this
  exact .inl ⟨by simp,rfl⟩
 | cons e es=>exact WO h hx (e::es) ks 0 hk hl hv
theorem adb {T Kt E Et n:Nat} {x:List Int} {ks:List (List Int)} {K:Value→Prop} (hs:St w0 A (N5 b n ks::L) w) (ht:P.underlying T=some (.map Kt Et)) (h:Lx P n Kt E) (hz:qh P Et (.bool false)) (hx:x.length=n)
  (k:K (.bool (decide (x∈ks)))):C7 P (Instr.lookup T (.map (some b)) (Al x) false) w K:=by
 obtain ⟨F,⟨⟨es,c,h1,h2,h3,h4⟩,h5⟩,_⟩:=hs.head
 refine ⟨_,?_,k⟩
 have hz':(zeroValue Et).run P w = .ok (.bool false) w:=by
  unfold qh ej at hz
  cases hi:P.info? Et with
  | none=>rw [hi] at hz; cases hz
  | some i=>
   rw [hi] at hz
   simp only [Option.map_some,Option.some.injEq] at hz
   refine fp ?_ w
   unfold zeroValue; rw [cM,nw hi]; simp only [Option.bind_some,hz]; rfl
 have hc:=fp (B3 (em:=es.isEmpty) h hx) w
 rcases QD h hx h2 h4 h3 with ⟨h6,h7⟩ | ⟨h6,j,h7⟩
 ·have h8:=fp h7 w
  simp [Instr.lookup,run_underlying ht,MapKept.run_getObj_map h1,hc,h8,hz',Result.andThen,h6]
 ·have h8:=fp h7 w
  simp [Instr.lookup,run_underlying ht,MapKept.run_getObj_map h1,hc,h8,Result.andThen,h6]
theorem ade {T Kt E Et n:Nat} {x:List Int} {ks:List (List Int)} {K:World→Prop} (hs:St w0 A (N5 b n ks::L) w) (ht:P.underlying T=some (.map Kt Et)) (h:Lx P n Kt E) (hx:x.length=n) (bY:x ∉ ks)
  (k:∀ w',St w0 A (N5 b n (ks++[x])::L) w'→K w'):AT P (Instr.mapUpdate T (.map (some b)) (Al x) (.bool true)) w K:=by
 obtain ⟨F,⟨⟨es,c,h1,h2,h3,h4⟩,h5⟩,_⟩:=hs.head
 have hc:=fp (B3 (em:=false) h hx) w
 rcases QD h hx h2 h4 h3 with ⟨h6,h7⟩ | ⟨h6,j,h7⟩
 ·have h8:=fp h7 w
  refine ⟨setBlock w b (.map (es.push ⟨Al x,.bool true,c⟩) (c+1)),?_,k _ (hs.rN λ F' hF=>⟨F',⟨⟨_,_,mf _ (jO h1),by simp [h2],?_,?_⟩,hF.2⟩,λ b hb=>.inl hb,(ix.setBlock w b _).mono λ k hk=>(hF.2 k).2 hk⟩)⟩
  ·simp [Instr.mapUpdate,run_underlying ht,MapKept.run_getObj_map h1,hc,h8,rB h1,Result.andThen]
  ·intro e he; simp at he; rcases he with he | rfl
   ·exact h3 e (by simpa using he)
   ·rfl
  ·intro q hq; simp at hq; rcases hq with hq | rfl
   ·exact h4 q hq
   ·exact hx
 ·exact absurd h6 bY
theorem bG {f:FuncId} {args:List Value} {H:HP} {H':Value→HP} {Φ:Value→World→Prop} {K:Value→World→Prop} (pl:Plain P f) (hs:St w0 A (H::L) w)
  (hc:∀ F,H.p w F→(∀ w',ix F w w'→St w0 A L w')→Calls P f args.toArray w (qf λ v w'=>Φ v w'∧qj F (H' v) w w')) (k:∀ v w',Φ v w'→St w0 A (H' v::L) w'→K v w'):C8 P f args w K:=by
 obtain ⟨U,F,U',h1,h2,h3,h4,h5⟩:=hs.sL
 refine eu pl (hc F h1 λ w' hw=>⟨hs.aF.trans hw (λ _ h=>h) λ b hb hf=>(h2 b hf).elim id λ hh=>by omega,U',h5.loc λ b hb=>hw.cD b (h5.lt b hb) λ hf=>h3 b hf hb⟩) λ v w' ⟨hΦ,hM⟩=>k v w' hΦ (hs.Uu h2 h3 h5 hM)
theorem WQ {g:FuncId} {args first cap:List Value} {H:HP} {H':Value→HP} {Φ:Value→World→Prop} {K:Value→World→Prop} (pl:Plain P g) (hs:St w0 A (H::L) w)
  (hc:∀ F,H.p w F→(∀ w',ix F w w'→St w0 A L w')→Calls P g (first++args++cap).toArray w (qf λ v w'=>Φ v w'∧qj F (H' v) w w')) (k:∀ v w',Φ v w'→St w0 A (H' v::L) w'→K v w'):fY P (.func (.func g) first.toArray cap.toArray) args w K:=by
 obtain ⟨U,F,U',h1,h2,h3,h4,h5⟩:=hs.sL
 refine ga pl (hc F h1 λ w' hw=>⟨hs.aF.trans hw (λ _ h=>h) λ b hb hf=>(h2 b hf).elim id λ hh=>by omega,U',h5.loc λ b hb=>hw.cD b (h5.lt b hb) λ hf=>h3 b hf hb⟩) λ v w' ⟨hΦ,hM⟩=>k v w' hΦ (hs.Uu h2 h3 h5 hM)
theorem Sp {T E n:Nat} {K:Value→Prop} (h:Lx P n T E) (k:K (.slice (some ⟨b,0,none⟩) n n)):cT P (Instr.sliceAt T (.pointer (some ⟨b,0,none⟩)) none none none) K:=by
 refine ⟨_,?_,k⟩
 unfold Instr.sliceAt
 rw [cM,cL h.1]
 simp only [Option.bind_some,Instr.sureAddr,cM,fe,Instr.sliceBounds,h.2.2]
 simp [gN]
theorem ajX {xs:List Int} {n:Nat} (h:xs.length≤n):gV (List.replicate n (Value.int .i64 0)) 0 (flat xs)=(xs++List.replicate (n - xs.length) 0).map (Value.int .i64):=by
 have hf:flat xs=xs.map (Value.int .i64):=by
  induction xs with
  | nil=>rfl
  | cons x xs ih=>rw [i0,ih (by simp at h; omega)]; rfl
 have hl:(flat xs).length=xs.length:=by rw [hf,List.length_map]
 have:=kI [] (List.replicate xs.length (Value.int .i64 0)) (List.replicate (n - xs.length) (Value.int .i64 0)) (flat xs) (by rw [List.length_replicate,hl])
 rw [List.nil_append,List.nil_append,List.replicate_append_replicate,show xs.length+(n - xs.length)=n from by omega,List.length_nil] at this
 rw [this,hf,List.map_append,List.map_replicate]
theorem LB {T T2 E oy n dc:Nat} {z:Option Nat} {R:TypeId} {src:Value} {cs:List Value} {ys:List Int} {S:Nat→Prop} {K:Value→World→Prop} (hs:St w0 A (cD b cs::L) w) (ht:fb P T=some (E,Flat.sz Int,oy,z)) (xy:eF S w src ys) (hn:ys.length≤n) (MT:ys.length≤cs.length)
  (k:∀ w',St w0 A (cD b (gV cs 0 (flat ys))::L) w'→K (.int .i64 ys.length) w'):gU P (Builtin.copy_ #[T,T2] R [.slice (some ⟨b,0,none⟩) n dc,src].toArray) w K:=by
 obtain ⟨w',h1,h2,h3⟩:=EU (P:=P) (o:=0) (dn:=n) (dc:=dc) (T2:=T2) (R:=R) ht hs.hb xy hn (by change 0+ys.length * 1≤_; omega)
 exact ⟨_,w',h1,k w' (hs.rN λ F hF=>⟨F,⟨h2,hF.2⟩,λ b hb=>.inl hb,h3.mono λ k hk=>(hF.2 k).2 hk⟩)⟩
end
def Has (H:HP) (w:World):Prop:=∃ F,H.p w F
theorem St.has {w w0:World} {A:Nat→Prop} {L:List HP} {H:HP} (hs:St w0 A (H::L) w):Has H w:=by obtain ⟨F,h,_⟩:=hs.head; exact ⟨F,h⟩
theorem Has.ext {H:HP} {w w':World} (h:Has H w) (e:Ext w w'):Has H w':=by
 obtain ⟨F,h⟩:=h; exact ⟨F,H.loc _ _ _ h λ b hb=>e.cD b (H.lt _ _ _ h hb) λ x=>x⟩
theorem Has.st {H:HP} {w:World} (h:Has H w):∃ F,St w F [H] w:=by obtain ⟨F,h⟩:=h; exact ⟨F,St.begin h⟩
end Go.Fw
namespace Go.Proofs.YtnjcingfdhjfkaaGreat
open Go.Fw
def WR (of:List Int) (stays:Int) (dC:List Int):Mem:=⟨of.take stays.toNat,dC,dC,dC.take stays.toNat,λ _=>[]⟩
def fK:List Nat→List (List Int)
 | []=>[[]]
 | p::ps=>(List.range (p+1)).flatMap fun (i:Nat)=>(fK ps).map λ t=>(i:Int)::t
theorem ve:∀ ps,(fK ps).head? = some (List.replicate ps.length 0)
 | []=>rfl
 | p::ps=>by
  have ih:=ve ps
  rw [fK,List.range_succ_eq_map,List.flatMap_cons]
  cases h:fK ps with
  | nil=>rw [h] at ih; cases ih
  | cons t ts=>
   rw [h] at ih; simp at ih
   simp [ih,List.replicate_succ]
theorem sB:∀ {ps:List Nat} {c:List Int},c∈fK ps→c.length=ps.length
 | [],c,h=>by simp [fK] at h; subst h; rfl
 | p::ps,c,h=>by
  simp only [fK,List.mem_flatMap,List.mem_map] at h
  obtain ⟨i,_,t,ht,rfl⟩:=h
  simp [sB ht]
theorem G3:∀ {ps:List Nat} {c:List Int} {i p:Nat} {n:Int},c∈fK ps→ps[i]? = some p→c[i]? = some n→0≤n∧n≤p
 | [],c,i,p,n,h,hp,_=>by simp at hp
 | q::ps,c,i,p,n,h,hp,hc=>by
  simp only [fK,List.mem_flatMap,List.mem_map,List.mem_range] at h
  obtain ⟨j,hj,t,ht,rfl⟩:=h
  cases i with
  | zero=>simp at hp hc; subst hp hc; omega
  | succ i=>
   rw [List.getElem?_cons_succ] at hp hc
   exact G3 ht hp hc
theorem tf {α β:Type} {f:α→List β}:∀ {l:List α} {d:List β} {c:β} {r:List β},l.flatMap f=d++c::r→∃ l1 x l2 d' r',l=l1++x::l2∧f x=d'++c::r'∧r=r'++l2.flatMap f
 | [],d,c,r,h=>by simp at h
 | x::l,d,c,r,h=>by
  rw [List.flatMap_cons] at h
  rcases List.append_eq_append_iff.1 h with ⟨a',h1,h2⟩ | ⟨c',h1,h2⟩
  ·obtain ⟨l1,y,l2,d',r',e1,e2,e3⟩:=tf h2
   exact ⟨x::l1,y,l2,d',r',by rw [e1]; rfl,e2,e3⟩
  ·cases c' with
   | nil=>
    obtain ⟨l1,y,l2,d',r',e1,e2,e3⟩:=tf (f:=f) (l:=l) (d:=[]) (c:=c) (r:=r) (by simpa using h2.symm)
    exact ⟨x::l1,y,l2,d',r',by rw [e1]; rfl,e2,e3⟩
   | cons y ys=>
    simp at h2
    exact ⟨[],x,l,d,ys,rfl,by rw [h1,h2.1],h2.2⟩
theorem LC {n:Nat} {l1 l2:List Nat} {x:Nat} (h:List.range n=l1++x::l2):x<n∧l2.head? = if x+1<n then some (x+1) else none:=by
 have hx:(List.range n)[l1.length]? = some x:=by rw [h,List.getElem?_append_right (Nat.le_refl _)]; simp
 have mz:l1.length<n:=by have:=(List.getElem?_eq_some_iff.1 hx).1; simpa using this
 have O6:x=l1.length:=by rw [List.getElem?_range mz] at hx; exact (Option.some.inj hx).symm
 refine ⟨by omega,?_⟩
 have h2:(List.range n)[l1.length+1]? = l2.head?:=by
  rw [h,List.getElem?_append_right (by omega),show l1.length+1 - l1.length=1 from by omega,List.getElem?_cons_succ]
  cases l2 <;> rfl
 rw [← h2]
 by_cases hh:x+1<n
 ·rw [if_pos hh,List.getElem?_range (by omega)]; congr 1; omega
 ·rw [if_neg hh,List.getElem?_eq_none (by simp; omega)]
theorem QE:∀ {ps:List Nat} {d:List (List Int)} {c:List Int} {r:List (List Int)},fK ps=d++c::r→QC ps c=r.head?
 | [],d,c,r,h=>by
  simp [fK] at h
  cases d with
  | nil=>simp at h; obtain ⟨rfl,rfl⟩:=h; rfl
  | cons x d=>simp at h
 | p::ps,d,c,r,h=>by
  rw [fK] at h
  obtain ⟨l1,x,l2,d',r',e1,e2,e3⟩:=tf h
  obtain ⟨hx,Dc⟩:=LC e1
  obtain ⟨a,b,ha,hb,hc⟩:=List.map_eq_append_iff.1 e2
  obtain ⟨t,ts,rfl,hct,hts⟩:=List.map_eq_cons_iff.1 hc
  subst hct
  have ih:=QE ha
  rw [e3,← hts]
  show (match QC ps t with | some cs'=>some ((x:Int)::cs') | none=>if (x:Int)<p then some (((x:Int)+1)::List.replicate t.length 0) else none)=_
  rw [ih]
  cases ts with
  | cons t' ts=>rfl
  | nil=>
   simp only [List.head?_nil,List.map_nil,List.nil_append]
   cases l2 with
   | nil=>
    simp at Dc
    rw [if_neg (by omega)]; rfl
   | cons y l2=>
    simp only [List.head?_cons] at Dc
    split at Dc
    ·obtain rfl:=Option.some.inj Dc
     rw [if_pos (by omega),List.flatMap_cons]
     have MW:t.length=ps.length:=sB (ps:=ps) (by rw [ha]; simp)
     have hh:=ve ps
     cases hq:fK ps with
     | nil=>rw [hq] at hh; cases hh
     | cons u us=>
      rw [hq] at hh; simp at hh
      simp [hh,MW]
    ·cases Dc
def Mv (f:List Int→List Int) (l:List (List Int)):List (List Int) × List (List Int):=l.foldl (λ s c=>if f c∈s.2 then s else (s.1++[c],s.2++[f c])) ([],[])
theorem LD (f:List Int→List Int) (l:List (List Int)) (c:List Int):Mv f (l++[c])=if f c∈(Mv f l).2 then Mv f l else ((Mv f l).1++[c],(Mv f l).2++[f c]):=by
 unfold Mv; rw [List.foldl_append]; rfl
theorem LF (f:List Int→List Int):∀ (l:List (List Int)) (s:List (List Int) × List (List Int)),(l.foldl (λ s c=>if f c∈s.2 then s else (s.1++[c],s.2++[f c])) s).1.length≤s.1.length+l.length
 | [],s=>Nat.le_refl _
 | c::l,s=>by
  rw [List.foldl_cons]
  refine Nat.le_trans (LF f l _) ?_
  split
  ·simp
  ·simp; omega
theorem QF (f:List Int→List Int) (l:List (List Int)):(Mv f l).1.length≤l.length:=by
 have h:(Mv f l).1.length≤([]:List (List Int)).length+l.length:=LF f l ([],[])
 simpa using h
def aqG (xs:List Int):List Int:=xs++List.replicate (20 - xs.length) 0
def um (m:Mem) (c:List Int):List Int:=aqG (Aj m c c.length)
def IS (m:Mem):List Nat:=EX m (kS m.of).toNat
def G4 (m:Mem):List (List Int):=(Mv (um m) (fK (IS m))).1
theorem IT (m:Mem):(IS m).length=(kS m.of).toNat:=by unfold IS EX; simp
theorem G5 {m:Mem} (hk:xk m):0≤kS m.of:=by
 unfold kS; split
 ·omega
 ·rename_i h
  have hx:m.of.getD (m.of.length - 1) 0∈m.of:=by rw [List.getD_eq_getElem?_getD,List.getElem?_eq_getElem (by omega)]; exact List.getElem_mem _
  have:=(hk.ofr _ hx).1
  omega
theorem ajY {m:Mem} (hk:xk m) {c:List Int} (h:c∈fK (IS m)):(c.length:Int)=kS m.of∧jA m c=some (Aj m c c.length)∧(∀ n∈c,0≤n):=by
 have hl:=sB h
 rw [IT] at hl
 have hn:=G5 hk
 have hb:∀ (k:Nat) (n:Int),k<c.length→c[k]? = some n→0≤n∧n≤(m.gC k).length:=λ k n KE hc=>by
  have:=G3 h (i:=k) (p:=(m.gC k).length) (by unfold IS; exact EY (by omega)) hc
  exact this
 refine ⟨by omega,GZ (by omega) hb,λ n hn=>?_⟩
 obtain ⟨i,hi,rfl⟩:=List.getElem_of_mem hn
 exact (hb i _ hi (List.getElem?_eq_getElem hi)).1
theorem LG {m:Mem} {d:List (List Int)} {c:List Int} {r:List (List Int)} (h:fK (IS m)=d++c::r):WL m c=r.head?:=by
 have hl:c.length=(IS m).length:=sB (by rw [h]; simp)
 rw [IT] at hl
 unfold WL
 rw [hl]; exact QE h
def adg (v:Value):List (List Int)→HP
 | []=>emp
 | c::_=>bK v c
theorem adg.nil {w w0:World} {A:Nat→Prop} {L:List HP} {v:Value} (hs:St w0 A L w):St w0 A (adg v []::L) w:=hs.new (Ext.refl w) (H:=emp) (F:=bD) (λ _ h=>h) λ _ h=>h.elim
theorem G6 (ps:List Nat):fK ps=List.replicate ps.length 0::(fK ps).tail:=by
 have:=ve ps
 cases h:fK ps with
 | nil=>rw [h] at this; cases this
 | cons x xs=>rw [h] at this; simp at this; rw [this]; rfl
theorem N6:Lx PG 20 221 3:=⟨Tryz.underlying221,oJ,(jB bL).2⟩
theorem C54 (of dC:List Int) (stays:Int) (av bv:Value) (w:World) (hO:eF (λ _=>True) w av of) (Sm:eF (λ _=>True) w bv dC) (hlen:of.length=dC.length) (h20:of.length≤20) (gk:0≤stays∧stays≤of.length) (Tm:∀ (k:Nat) (n:Int),(k:Int)<stays→of[k]? = some n→(n=lq of k∨(0<k∧n=lq of k - 1))∧-10≤n∧n≤100):CR 54 [av,.int .i64 stays,bv] w (λ v w'=>∃ (p:Nat) (ov fv:SV),v = .tuple #[.pointer (some ⟨p,0,none⟩),.int .i64 0]∧lW (sep (bK (Flat.val ov) (of.take stays.toNat)) (sep (bK (Flat.val fv) dC) (fU p (Flat.val ov) (Flat.val fv) (WR of stays dC)))) w w'):=by
 have hs:=St.start w;refine ahh _ _ _ _ _ ?_;unfold S54;refine ⟨λ jv w'=>jv = .bool (decide (of.length≠dC.length∨20<of.length∨stays<0∨of.length<stays))∧w=w',?_,?_⟩
 ·refine aJ ei (hO.ext hs.aF) (aJ ei (Sm.ext hs.aF) (cS (aC (λ eB=>?_) (λ eB=>?_))))
  ·exact ⟨Rx (by omega),rfl⟩
  ·refine aJ ei (hO.ext hs.aF) (dA (aC (λ js=>?_) (λ js=>?_)))
   ·exact ⟨Rx (by omega),rfl⟩
   ·refine aR (aC (λ iB=>?_) (λ iB=>?_))
    ·exact ⟨Rx (by omega),rfl⟩
    ·refine aJ ei (hO.ext hs.aF) (dA ?_);exact ⟨xw (by omega),rfl⟩
 ·rintro _ w1 ⟨rfl,hw⟩ fB;subst hw;refine aC (λ lJ=>?_) (λ lJ=>?_)
  ·exact absurd lJ (by omega)
  ·refine lX ei (hO.ext hs.aF) (by omega) (by omega) (λ aqD ajZ=>?_);have WT:=ajZ _ hO;refine aJ ei (WT.ext hs.aF) ?_;refine ⟨λ mm l x w1=>∃ (k:Nat) (last:Int),l = .int .i64 last∧x = .int .i64 (k:Int)∧mm=(of.take stays.toNat).length - k∧k≤(of.take stays.toNat).length∧last=lq of k - 1∧-200≤last∧last≤200∧St w bD [] w1,⟨_,0,-1,rfl,rfl,rfl,Nat.zero_le _,rfl,by omega,by omega,hs⟩,?_⟩;rintro mm _ _ w2 ⟨k,last,rfl,rfl,rfl,Jo,afR,hl7,hl8,hs⟩ jw;have MW:(of.take stays.toNat).length=stays.toNat:=by rw [List.length_take]; omega
   refine aR (aC (λ tV=>?_) (λ tV=>?_))
   ·obtain ⟨qp,pW⟩:=gx (((of).take (stays).toNat)) (i:=((k:Int)).toNat) (by omega);refine aQ ei WT (by omega) pW (λ _ tZ=>?_)
    have aj0:of[k]? = some qp:=by
     have h0:=pW;rw [List.getElem?_take] at h0
     split at h0
     ·exact h0
     ·cases h0
    obtain ⟨hl1,Dc,hl3⟩:=Tm k _ (by omega) aj0;refine aD bL (tZ.ext hs.aF) ?_;refine ⟨λ jv w'=>jv = .bool (decide (qp≠last+1∧(k=0∨qp≠last)))∧w2=w',?_,?_⟩
    ·refine aO (by omega) (cS (aC (λ sj=>?_) (λ sj=>?_)))
     ·refine aH (aC (λ rk=>?_) (λ rk=>?_))
      ·exact ⟨Rx (by omega),rfl⟩
      ·refine cS ?_;exact ⟨xw (by omega),rfl⟩
     ·exact ⟨YJ (by omega),rfl⟩
    ·rintro _ w3 ⟨rfl,hw⟩ oN;subst hw;refine aC (λ BT=>?_) (λ BT=>?_)
     ·exact absurd BT (by have:=Tm k qp (by omega) aj0; simp; omega)
     ·have hws:lq of (k+1)=qp+1:=by unfold lq; rw [if_neg (by omega),Nat.add_sub_cancel,List.getD_eq_getElem?_getD,aj0]; rfl
      refine aO (by omega) ?_;exact ⟨_,by omega,k+1,qp,rfl,rfl,rfl,by omega,by omega,by omega,by omega,hs⟩
   ·refine lX ei (hO.ext hs.aF) (by omega) (by omega) (λ s_x58 aj1=>?_);have aj2:=aj1 _ hO;refine dB zi hs (C70 _ _ _ (aj2.ext hs.aF) (by first | omega | (rw [List.length_take]; omega))) (λ x59 w4 bY hs=>dB zi hs (C70 _ _ _ (Sm.ext hs.aF) (by first | omega | (rw [List.length_take]; omega))) (λ x61 w5 bY hs=>dB zi hs (C70 _ _ _ (Sm.ext hs.aF) (by first | omega | (rw [List.length_take]; omega))) (λ x63 w6 bY hs=>ou (α:=jj) hs (λ b_x64 w7 hs=>?_))));obtain ⟨aj3,rfl⟩:=(hs.p3).fQ;obtain ⟨IC,rfl⟩:=(hs.p2).fQ;obtain ⟨ax9,rfl⟩:=(hs.p1).fQ;refine pop (DD _ _ _ _ _ _ _ _ _ _) (lR hs (λ aqH w8 hs=>lX ei (Sm.ext hs.aF) (by omega) (by omega) (λ af2 aj4=>?_)))
    have aj5:=aj4 _ Sm;refine dB zi hs (C70 _ _ _ (aj5.ext hs.aF) (by first | omega | (rw [List.length_take]; omega))) (λ x71 w9 bY hs=>aE (aA zB (aV hs.p1 et (eJ rfl) ((hs).fI.one) (λ pP hs=>?_))));have hs:=fU.shut (m:=WR of stays dC) hs.p4.p5.p4.p4.p5.p5;exact ⟨aqH,aj3,IC,rfl,(St.join (St.join hs.p2).p1).fresh⟩
theorem C69 (p:Nat) (m:Mem) (ov fv:SV) (w:World) (c0:Cell w p 0 (Flat.val ov)) (c1:Cell w p 1 (Flat.val fv)) (hm:vd w p m) (hk:xk m) (hb:MB m 1000000):CR 69 [(.pointer (some ⟨p,0,none⟩))] w (λ v w'=>∃ b,v = .pointer (some ⟨b,0,none⟩)∧lW (fU b (Flat.val ov) (Flat.val fv) m) w w'):=by
 have EV:=hm;obtain ⟨ov2,fv2,lv,kv,pm,_,_,c2,c3,c4,hO,Sm,hL,hKp,hP⟩:=hm;obtain ⟨es,clock,Ym,gk,hkv,AR⟩:=hP.es;have h20:=hk.fl;have Yq:=hk.QA;have Nj:=hk.ll;have KE:=hk.kl;have Qa:=hk.lb;have hs:=St.start w;refine ahw _ _ _ ?_;unfold S69;refine ⟨λ c3 w'=>∃ b lv1 kv1 pm1,c3 = .pointer (some ⟨b,0,none⟩)∧St w bD [cD b [Flat.val ov,Flat.val fv,lv1,kv1,.map (some pm1)],bK lv1 m.l,bK kv1 m.kept,oF pm1 (λ _=>([]:List jj))] w',?_,?_⟩
 ·refine aE (aA tN (have hs:=hs.drew;cG et (c0.ext hs.aF) (aE (aA Kc (cG et (c1.ext hs.aF) ?_)))));refine ⟨?_,?_⟩
  ·refine dB ahE hs (C72 _ m _ (EV.ext hs.aF) hk) (λ x15 w1 bY hs=>?_);refine ⟨aG et (c0.ext hs.aF),?_⟩;refine ⟨aG et (c1.ext hs.aF),?_⟩;refine ⟨?_,?_⟩
   ·refine dB TU hs (C73 _ m _ (EV.ext hs.aF) hk) (λ x17 w2 bY hs=>?_);refine ⟨aG et (c0.ext hs.aF),?_⟩;refine ⟨aG et (c1.ext hs.aF),?_⟩;refine ou (α:=jj) hs (λ UH w3 hs=>?_);refine ⟨aG et (c0.ext hs.aF),?_⟩;refine ⟨aG et (c1.ext hs.aF),?_⟩;obtain ⟨aj6,rfl⟩:=(hs.p2).fQ;obtain ⟨VU,rfl⟩:=(hs.p1).fQ;refine pop (oK _ _ _ _ _ _ _ _ _ _ _ _ _) (lR hs (λ b_x20 w4 hs=>?_));have hs:=hs.p1.p2.p3.p3;exact ⟨_,_,_,_,rfl,hs⟩
   ·refine ⟨?_,?_⟩
    ·refine ou (α:=jj) hs (λ atf w5 hs=>?_);refine ⟨aG et (c0.ext hs.aF),?_⟩;refine ⟨aG et (c1.ext hs.aF),?_⟩;refine dB TU hs (C73 _ m _ (EV.ext hs.aF) hk) (λ ap0 w6 bY hs=>?_);refine ⟨aG et (c0.ext hs.aF),?_⟩;refine ⟨aG et (c1.ext hs.aF),?_⟩;obtain ⟨aj6,rfl⟩:=(hs.p2).fQ;obtain ⟨Ll,rfl⟩:=(hs).fQ;refine pop (oK _ _ _ _ _ _ _ _ _ _ _ _ _) (lR hs (λ atg w7 hs=>?_));have hs:=hs.p2.p2.p3.p3;exact ⟨_,_,_,_,rfl,hs⟩
    ·trivial
  ·refine ⟨?_,?_⟩
   ·refine ou (α:=jj) hs (λ ath w8 hs=>?_);refine ⟨aG et (c0.ext hs.aF),?_⟩;refine ⟨aG et (c1.ext hs.aF),?_⟩;refine dB ahE hs (C72 _ m _ (EV.ext hs.aF) hk) (λ x15_1 w9 bY hs=>?_);refine ⟨aG et (c0.ext hs.aF),?_⟩;refine ⟨aG et (c1.ext hs.aF),?_⟩;refine dB TU hs (C73 _ m _ (EV.ext hs.aF) hk) (λ ap1 pP bY hs=>?_);refine ⟨aG et (c0.ext hs.aF),?_⟩;refine ⟨aG et (c1.ext hs.aF),?_⟩;obtain ⟨aqL,rfl⟩:=(hs.p1).fQ;obtain ⟨Lm,rfl⟩:=(hs).fQ;refine pop (oK _ _ _ _ _ _ _ _ _ _ _ _ _) (lR hs (λ ati sQ hs=>?_));have hs:=hs.p3.p2.p3.p3
    exact ⟨_,_,_,_,rfl,hs⟩
   ·trivial
 ·rintro _ vl ⟨b,lv1,kv1,pm1,rfl,hs⟩ fB;refine aE (aA mW (cG r7 (c4.ext hs.aF) (Sn hs Tryz.underlying201 (EZ Ym hs.aF) (λ r25 vm hs=>?_))));have hs:=hs.p4.p4.p4.p4.p4;refine ⟨λ mm w1=>∃ (seen:Array Nat) (done:List Int),mm=(leftOf es seen).size∧(∀ e∈es.toList,seen.contains e.born=true→∃ k∈done,e.key = .int .i64 k)∧St w bD [G0 r25 pm clock seen,cD b [Flat.val ov,Flat.val fv,lv1,kv1,.map (some pm1)],bK lv1 m.l,bK kv1 m.kept,oF pm1 (λ k=>if k∈done then m.gC k else [])] w1,⟨_,#[],[],rfl,λ e he hc=>by simp at hc,by simpa using hs⟩,?_⟩;rintro mm sd ⟨seen,done,rfl,af3,hs⟩ jw
  refine WN hs (EZ Ym hs.aF) gk.1 (λ h0=>?_) (λ e v7 he hs=>?_)
  ·refine bE rfl (fx ?_);have hs:=(hs.drop.p3.p3.p3).p3
   have hg:(λ k=>if k∈done then m.gC k else [])=m.gC:=by
    funext k
    by_cases hd:k∈done
    ·rw [if_pos hd]
    ·rw [if_neg hd];refine (AR k λ e he hek=>hd ?_).symm;obtain ⟨k2,Jo,hk3⟩:=af3 e he (all_seen es seen h0 e he);rw [hek] at hk3; cases hk3; exact Jo
   rw [hg] at hs;exact ⟨b,rfl,(fU.shut hs).fresh⟩
  ·obtain ⟨k,sk,hek,hev,hrk⟩:=hkv e (mem_left he).1;refine bE rfl (nN (So hs (EZ Ym hs.aF) (mem_left he).1 gk.2.1 ?_));rw [hek,hev];refine bE rfl (bE rfl (aE (aA mW (have hs:=hs.drew;aB r7 hs.p1.hb rfl (dB amZ hs (C137 _ _ _ (hrk.ext hs.aF) (hb k)) (λ x37 yT bY hs=>?_))))));refine ⟨aG r7 (hs.p2.hb.cell rfl),?_⟩;obtain ⟨s_w17,hs⟩:=(hs.p5).ET (k:=k);have hs:=hs.drop;obtain ⟨oT,rfl⟩:=(hs.p1).fQ;have hs:=hs.p1;refine B2 hs Tryz.underlying201 oJ (λ Ch hs=>?_);have hs:=hs.p4.p4.p4.p4;refine ⟨_,left_shrinks es seen e he,seen.push e.born,k::done,rfl,λ e2 he2 hc=>?_,?_⟩
   ·rcases E0 hc with h | h
    ·obtain ⟨k2,h1,h2⟩:=af3 e2 he2 h; exact ⟨k2,List.mem_cons_of_mem _ h1,h2⟩
    ·obtain rfl:=born_inj gk.2.1 he2 (mem_left he).1 h; exact ⟨k,List.mem_cons_self,hek⟩
   ·have hg:sZ (λ k=>if k∈done then m.gC k else []) k (m.gC k)=(λ k'=>if k'∈k::done then m.gC k' else []):=by
     funext k'; unfold sZ
     by_cases e:k'=k
     ·subst e; simp
     ·simp [e]
    rw [hg] at hs; exact hs
theorem C82 (p:Nat) (m:Mem) (w:World) (hm:vd w p m) (hk:xk m) (hb:MB m 1000000) (hC:(fK (IS m)).length≤1000000000):CR 82 [(.pointer (some ⟨p,0,none⟩))] w (λ v w'=>lW (fk v (G4 m)) w w'):=by
 have EV:=hm;obtain ⟨ov,fv,lv,kv,pm,c0,c1,c2,c3,c4,hO,Sm,hL,hKp,hP⟩:=hm;have h20:=hk.fl;have Yq:=hk.QA;have Nj:=hk.ll;have KE:=hk.kl;have Qa:=hk.lb;have hs:=St.start w;refine ahG _ _ _ ?_;unfold S82;refine Lz (n:=20) hs (λ b10 w1 hs=>aZ T0 hs (C144 _ m _ (EV.ext hs.aF) hk) (λ w2 he hs=>?_));have hnn:=G5 hk;refine vN (0:Int) hs ei BM (by omega) (by omega) (by decide) (λ s_x13 w3 hs=>?_);have hs:=(((hs.xD (α:=List Int)).p1).p2).p2;refine ⟨λ mm fV qt is6 w1=>∃ (done rest:List (List Int)),fK (IS m)=done++rest∧is6 = .bool (!rest.isEmpty)∧mm=rest.length∧St w bD [fk fV (Mv (um m) done).1,N5 b10 20 (Mv (um m) done).2,adg qt rest] w1,⟨_,[],fK (IS m),rfl,by rw [G6 (IS m)]; rfl,rfl,by rw [G6 (IS m),IT]; exact hs⟩,?_⟩
 rintro mm fV qt _ w4 ⟨done,rest,mi,rfl,rfl,hs⟩ fB;refine aX (λ WU=>?_) (λ WU=>?_)
 ·obtain ⟨c,rest,rfl⟩:∃ c r,rest=c::r:=by cases rest with | nil=>cases WU | cons c r=>exact ⟨c,r,rfl⟩
  change St w bD [fk fV (Mv (um m) done).1,N5 b10 20 (Mv (um m) done).2,bK qt c] _ at hs
  have Mw:c∈fK (IS m):=by rw [mi]; simp
  have hco:=ajY hk Mw;have Qi:=hco.1;have hdl:=QF (um m) done;have hdn:done.length≤(fK (IS m)).length:=by rw [mi]; simp
  have hil:(Aj m c c.length).length≤20:=by rw [uj]; omega
  have vi:(um m c).length=20:=by unfold um aqG; rw [List.length_append,List.length_replicate]; omega
  refine ⟨λ o w'=>St w bD [fk o (Mv (um m) (done++[c])).1,N5 b10 20 (Mv (um m) (done++[c])).2,bK qt c] w',?_,?_⟩
  ·refine eu aeu (C125 _ m c _ _ (EV.ext hs.aF) hk hb (hs.p2).fI (by omega)) ?_;rintro v24 w5 hh;obtain ⟨pX,o24,hi,rfl,bY⟩:=hh.resolve_left (λ h=>by rw [hco.2.1] at h; cases h.1);obtain rfl:pX=(Aj m c c.length):=Option.some.inj (hi.symm.trans hco.2.1);have hs:=hs.made bY;refine bE rfl (bE rfl (aN hs abm (λ ayb w6 hs=>Sp N6 (LB hs ei (hs.p1).fI hil (by simp; omega) (λ w7 hs=>have hs:=hs.enc (cs':=(um m c).map (Value.int .i64)) (by exact ajX (n:=20) hil);qP aeW hs.hb (by rw [List.length_map]; exact vi) (adb hs.p3 Tryz.underlying218 N6 aeS vi ?_))))))
   first | refine Dl ?_ | refine bZ ?_
   refine aC (λ nz=>?_) (λ nz=>?_)
   ·refine qP aeW hs.hb (by rw [List.length_map]; exact vi) (ade hs.p3 Tryz.underlying218 N6 vi nz (λ w8 hs=>dB zi hs (C70 _ _ _ (hs.p4).fI (by omega)) (λ x38 w9 bY hs=>?_)));obtain ⟨WV,rfl⟩:=(hs).fQ;have hs:=hs.freeze.dO (Ψ:=λ w=>cA.dr w WV ((c))) (λ w h=>DL.fq h);refine eK (s:=WV) (x:=(c)) hs xS (by decide) (λ afy pP hs=>have hs:=hs.p4;ed hs xS (by simp; omega) (by decide) (λ apE sQ hs=>?_));have hs:=((hs.p2.drop.p2.drop.p2).p2).p2;rw [LD,if_neg (by simpa using nz)];exact hs
   ·have hs:=(((((hs.drop)).drop).p2).p2).p2;rw [LD,if_pos (by simpa using nz)];exact hs
  ·rintro nh vl hs jw;refine eu am0 (C145 _ m c _ _ (EV.ext hs.aF) hk hb (hs.p2).fI (by omega) hco.2.2) ?_;rintro v_x18 vm aj7
   rcases aj7 with ⟨hn,rfl,he⟩ | ⟨c2,o18,hn,rfl,bY⟩
   ·have hs:=hs.ext he;refine bE rfl (bE rfl ?_);rw [LG mi] at hn;have hs:=(hs.p2.drop.p1).p1;obtain rfl:rest=[]:=by simpa using hn
    exact ⟨_,by simp,done++[c],[],by rw [mi]; simp,rfl,rfl,(adg.nil hs).p2.p2⟩
   ·have hs:=hs.made bY;refine bE rfl (bE rfl ?_);rw [LG mi] at hn;have hs:=(hs.p3.drop.p2).p2;obtain ⟨r2,rfl⟩:∃ r,rest=c2::r:=by cases rest with | nil=>cases hn | cons y r=>exact ⟨r,by simp at hn; rw [hn]⟩
    exact ⟨_,by simp,done++[c],c2::r2,by rw [mi]; simp,rfl,rfl,hs⟩
 ·have hs:=((hs.p1.drop).p1).drop;obtain rfl:rest=[]:=by cases rest with | nil=>rfl | cons c r=>cases WU
  rw [List.append_nil] at mi;unfold G4;rw [mi];exact hs.fresh
structure fM where
 code:fo
 at_:Int
 aK:List Int
 counts:List Int
 fault:Int
 e:Int
 f:Int
 buf:List bJ
def E2 (K:World→Prop) (gl:Value) (l:List aW):Prop:=∃ ts:List bU,∀ w,K w→eF (λ _=>True) w gl ts∧jc ts l w
def eH (K:World→Prop) (p:Nat) (room:Int) (t:fM):HP:=tS λ bp:Nat=>tS λ gl=>tS λ rg=>tS λ cn=>fact (E2 K gl t.code.l)
 (sep (cD p [.pointer (some ⟨bp,0,none⟩),.int .i64 t.code.aK,.int .i64 t.code.counts,gl,.int .i64 t.at_,rg,cn,.int .i64 t.fault,.int .i64 t.e,.int .i64 t.f]) (sep (nH bp room t.buf) (sep (bK rg t.aK) (bK cn t.counts))))
section
variable {w w0:World} {A:Nat→Prop} {R:List HP} {p:Nat} {K:World→Prop} {room:Int} {t:fM}
theorem eH.open (hs:St w0 A (eH K p room t::R) w):∃ bp gl rg cn,E2 K gl t.code.l∧St w0 A (cD p [.pointer (some ⟨bp,0,none⟩),.int .i64 t.code.aK,.int .i64 t.code.counts,gl,.int .i64 t.at_,rg,cn,.int .i64 t.fault,.int .i64 t.e,.int .i64 t.f]::nH bp room t.buf::bK rg t.aK::bK cn t.counts::R) w:=by
 obtain ⟨bp,hs⟩:=hs.eV; obtain ⟨gl,hs⟩:=hs.eV; obtain ⟨rg,hs⟩:=hs.eV; obtain ⟨cn,hs⟩:=hs.eV; obtain ⟨hk,hs⟩:=hs.oB
 have h1:=hs.split
 have h2:=h1.p1.split
 have h3:=h2.p1.split
 exact ⟨bp,gl,rg,cn,hk,h3.p2.p3⟩
theorem eH.shut {bp:Nat} {gl rg cn:Value} (hk:E2 K gl t.code.l) (hs:St w0 A (cD p [.pointer (some ⟨bp,0,none⟩),.int .i64 t.code.aK,.int .i64 t.code.counts,gl,.int .i64 t.at_,rg,cn,.int .i64 t.fault,.int .i64 t.e,.int .i64 t.f]::nH bp room t.buf::bK rg t.aK::bK cn t.counts::R) w):St w0 A (eH K p room t::R) w:=by
 have h1:=St.join (hs.p3.p3)
 have h2:=St.join h1.p2
 exact St.eP bp (St.eP gl (St.eP rg (St.eP cn (St.qi hk (St.join h2.p1)))))
theorem eH.rd (h:Has (eH K p room t) w):∃ bp gl rg cn,E2 K gl t.code.l∧tB w p [.pointer (some ⟨bp,0,none⟩),.int .i64 t.code.aK,.int .i64 t.code.counts,gl,.int .i64 t.at_,rg,cn,.int .i64 t.fault,.int .i64 t.e,.int .i64 t.f]∧wA w bp room t.buf∧eF (λ _=>True) w rg t.aK∧eF (λ _=>True) w cn t.counts:=by
 obtain ⟨F,hs⟩:=h.st
 obtain ⟨bp,gl,rg,cn,hk,hs⟩:=eH.open hs
 exact ⟨bp,gl,rg,cn,hk,hs.hb,Qx hs.p1,hs.p2.fI,hs.p3.fI⟩
end
def gS (t:fM):Option aW:=if (t.code.l.length:Int)≤t.at_ then none else t.code.l[t.at_.toNat]?
def ey (l:List nk) (aK:List Int):Int × Bool:=if l.length=0 then (0,true) else ((runM l aK).1,decide ((runM l aK).2=0))
def tE (t:fM) (x:aW):fM:={t with fault:=if (ey x.e t.aK).2=true then t.fault else 2,e:=(ey x.e t.aK).1}
def tF (t:fM) (x:aW):fM:={t with fault:=if (ey x.f t.aK).2=true then t.fault else 2,f:=(ey x.f t.aK).1}
def wD (t:fM) (x:aW) (e:Int):fM × Bool:=
 if x.kind=1 then ({t with aK:=t.aK.set x.a.toNat e,at_:=t.at_+1},true)
 else if x.kind=11 then ({t with at_:=x.to},true)
 else if x.kind=12 then (if e=0 then ({t with at_:=x.to},true) else ({t with at_:=t.at_+1},true))
 else if x.kind=13 then ({t with counts:=t.counts.set x.a.toNat x.b,at_:=t.at_+1},true)
 else if x.kind=14 then (if 0<qX (t.counts.getD x.a.toNat 0 - 1) then ({t with counts:=t.counts.set x.a.toNat (qX (t.counts.getD x.a.toNat 0 - 1)),at_:=x.to},true) else ({t with counts:=t.counts.set x.a.toNat (qX (t.counts.getD x.a.toNat 0 - 1)),at_:=t.at_+1},true))
 else if x.kind=15 then (if e=0 then ({t with fault:=1},false) else ({t with at_:=t.at_+1},true))
 else (t,false)
def fH (t:fM):fM × Bool:=match gS t with
 | none=>(t,false)
 | some x=>if (ey x.e t.aK).2=true then (if (ey x.f t.aK).2=true then wD (tF (tE t x) x) x (ey x.e t.aK).1 else (tF (tE t x) x,false)) else (tE t x,false)
def sJ:Nat→fM→Option fM
 | 0,_=>none
 | n+1,t=>if (fH t).2=true then sJ n (fH t).1 else some (fH t).1
structure Bx (c:fo):Prop where
 len:c.l.length≤1000000
 rb:0≤c.aK∧c.aK≤1000
 cb:0≤c.counts∧c.counts≤1000
 ops:∀ x∈c.l,x.e.length≤1000∧x.f.length≤1000∧0≤x.to∧x.to≤1000000
 set:∀ x∈c.l,x.kind=1→0≤x.a∧x.a<c.aK
 cnt:∀ x∈c.l,x.kind=13∨x.kind=14→0≤x.a∧x.a<c.counts
structure G7 (t:fM):Prop where
 code:Bx t.code
 rg:(t.aK.length:Int)=t.code.aK
 cn:(t.counts.length:Int)=t.code.counts
 Tl:0≤t.at_
 bl:t.buf.length≤1000
theorem qG {t:fM} {x:aW} (h:gS t=some x):x∈t.code.l∧t.at_<t.code.l.length:=by
 unfold gS at h
 split at h
 ·cases h
 ·exact ⟨List.mem_of_getElem? h,by omega⟩
theorem aj8 {t:fM} {x:aW} {e:Int} (h:G7 t) (hx:x∈t.code.l):G7 (wD t x e).1:=by
 have h1:=h.Tl; have h2:=(h.code.ops x hx).2.2.1; have h3:=h.rg; have h4:=h.cn
 unfold wD
 repeat' split
 all_goals first
  | exact ⟨h.code,h3,h4,h2,h.bl⟩
  | exact ⟨h.code,h3,h4,h1,h.bl⟩
  | exact ⟨h.code,h3,h4,(by show 0≤t.at_+1; omega),h.bl⟩
  | exact ⟨h.code,(by simpa using h3),h4,(by show 0≤t.at_+1; omega),h.bl⟩
  | exact ⟨h.code,h3,(by simpa using h4),(by show 0≤t.at_+1; omega),h.bl⟩
  | exact ⟨h.code,h3,(by simpa using h4),h2,h.bl⟩
theorem ly {t:fM} (h:G7 t):G7 (fH t).1:=by
 unfold fH
 cases hn:gS t with
 | none=>exact h
 | some x=>
  have hx:=(qG hn).1
  have he:G7 (tE t x):=⟨h.code,h.rg,h.cn,h.Tl,h.bl⟩
  have hf:G7 (tF (tE t x) x):=⟨h.code,h.rg,h.cn,h.Tl,h.bl⟩
  dsimp only
  split
  ·split
   ·exact aj8 hf hx
   ·exact hf
  ·exact he
theorem WW {n:Nat} {t tR:fM} (h:sJ n t=some tR):∃ k,n=k+1:=by
 cases n with
 | zero=>cases h
 | succ k=>exact ⟨k,rfl⟩
theorem wE {k:Nat} {t tR t':fM} (h:sJ (k+1) t=some tR) (hs:fH t=(t',true)):sJ k t'=some tR:=by
 unfold sJ at h; rw [hs] at h; exact h
theorem Am {k:Nat} {t tR t':fM} (h:sJ (k+1) t=some tR) (hs:fH t=(t',false)):tR=t':=by
 unfold sJ at h; rw [hs] at h; exact (Option.some.inj h).symm
section
variable {t:fM} {x:aW} {e:Int}
theorem WX (h:x.kind=1):wD t x e=({t with aK:=t.aK.set x.a.toNat e,at_:=t.at_+1},true):=by unfold wD; rw [if_pos h]
theorem N7 (h:x.kind=11):wD t x e=({t with at_:=x.to},true):=by unfold wD; simp [h]
theorem IU (h:x.kind=12) (he:e=0):wD t x e=({t with at_:=x.to},true):=by unfold wD; simp [h,he]
theorem IV (h:x.kind=12) (he:¬ e=0):wD t x e=({t with at_:=t.at_+1},true):=by unfold wD; simp [h,he]
theorem N8 (h:x.kind=13):wD t x e=({t with counts:=t.counts.set x.a.toNat x.b,at_:=t.at_+1},true):=by unfold wD; simp [h]
theorem IW (h:x.kind=14) (he:0<qX (t.counts.getD x.a.toNat 0 - 1)):wD t x e=({t with counts:=t.counts.set x.a.toNat (qX (t.counts.getD x.a.toNat 0 - 1)),at_:=x.to},true):=by unfold wD; simp only [h,if_neg (show ¬ (14:Int)=1 by decide),if_neg (show ¬ (14:Int)=11 by decide),if_neg (show ¬ (14:Int)=12 by decide),if_neg (show ¬ (14:Int)=13 by decide),if_pos he,if_true]
theorem IX (h:x.kind=14) (he:¬ 0<qX (t.counts.getD x.a.toNat 0 - 1)):wD t x e=({t with counts:=t.counts.set x.a.toNat (qX (t.counts.getD x.a.toNat 0 - 1)),at_:=t.at_+1},true):=by unfold wD; simp only [h,if_neg (show ¬ (14:Int)=1 by decide),if_neg (show ¬ (14:Int)=11 by decide),if_neg (show ¬ (14:Int)=12 by decide),if_neg (show ¬ (14:Int)=13 by decide),if_neg he,if_true]
theorem IY (h:x.kind=15) (he:e=0):wD t x e=({t with fault:=1},false):=by unfold wD; simp [h,he]
theorem IZ (h:x.kind=15) (he:¬ e=0):wD t x e=({t with at_:=t.at_+1},true):=by unfold wD; simp [h,he]
theorem N9 (h1:¬ x.kind=1) (h2:¬ x.kind=11) (h3:¬ x.kind=12) (h4:¬ x.kind=13) (h5:¬ x.kind=14) (h6:¬ x.kind=15):wD t x e=(t,false):=by unfold wD; rw [if_neg h1,if_neg h2,if_neg h3,if_neg h4,if_neg h5,if_neg h6]
theorem An (h:gS t=none):fH t=(t,false):=by unfold fH; rw [h]
theorem Ao (h:gS t=some x) (h2:(ey x.e t.aK).2=false):fH t=(tE t x,false):=by unfold fH; rw [h]; dsimp only; rw [h2]; rfl
theorem Ap (h:gS t=some x) (h2:(ey x.e t.aK).2=true) (h3:(ey x.f t.aK).2=false):fH t=(tF (tE t x) x,false):=by unfold fH; rw [h]; dsimp only; rw [h2,h3]; rfl
theorem ku (h:gS t=some x) (h2:(ey x.e t.aK).2=true) (h3:(ey x.f t.aK).2=true):fH t=wD (tF (tE t x) x) x (ey x.e t.aK).1:=by unfold fH; rw [h]; dsimp only; rw [h2,h3]; rfl
end
theorem C65 (K:World→Prop) (p:Nat) (room:Int) (t:fM) (w:World) (hh:Has (eH K p room t) w) (hw:K w) (oC:G7 t):CR 65 [(.pointer (some ⟨p,0,none⟩))] w (λ v w'=>(gS t=none∧v = .tuple #[Flat.val (⟨0,0,0,⟨none,0,0⟩,⟨none,0,0⟩,0⟩:bU),.bool false]∧Ext w w')∨∃ x xv,gS t=some x∧(∀ w,K w→cA.dr w xv x)∧v = .tuple #[Flat.val (xv:bU),.bool true]∧Ext w w'):=by
 obtain ⟨bp,gl,rg,cn,⟨ts0,hts⟩,pY,hB,BV,hcn⟩:=eH.rd hh;have c0:=pY.cell (o:=0) rfl;have c3:=pY.cell (o:=3) rfl;have c4:=pY.cell (o:=4) rfl;have c7:=pY.cell (o:=7) rfl;have hDL0:True:=trivial;have hR0:=(hts w hw).1;have hD0:=(hts w hw).2;have hn0:=hD0.1;have Qi:=oC.code.len;have ayd:=oC.Tl;have hs:=St.start w;refine ahs _ _ _ ?_;unfold S65;refine aN hs mr (λ lZ w1 hs=>have hs:=hs.enc (cs':=Flat.enc (⟨0,0,0,⟨none,0,0⟩,⟨none,0,0⟩,0⟩:bU)) rfl;aE (aA ke (have hs:=hs.drew;cG bL (c4.ext hs.aF) (aE (aA J8 (aA ml (cG uK (c3.ext hs.aF) (aJ kK (hR0.ext hs.aF) (dG (aC (λ gQ=>?_) (λ gQ=>?_)))))))))))
 ·refine pop (v:=Flat.val (⟨0,0,0,⟨none,0,0⟩,⟨none,0,0⟩,0⟩:bU)) (by kernel_rfl) (aI (x:=(⟨0,0,0,⟨none,0,0⟩,⟨none,0,0⟩,0⟩:bU)) hs lF rfl rfl (λ w2 hs=>aD lF hs.At ?_));exact .inl ⟨by unfold gS; rw [if_pos (by omega)],rfl,hs.drop.aF⟩
 ·refine aE (aA J8 (aA ml (have hs:=hs.drew;cG uK (c3.ext hs.aF) (aE (aA ke (cG bL (c4.ext hs.aF) ?_))))));obtain ⟨GP,pU⟩:=gx ts0 (i:=(t.at_).toNat) (by omega);obtain ⟨ek,wx⟩:=gx (t.code.l) (i:=(t.at_).toNat) (by omega);obtain ⟨xh,xi,rfl,Iz,Qo⟩:=hD0.2 _ _ _ pU wx;refine aQ kK hR0 (by omega) pU (λ _ ud=>aD lF (ud.ext hs.aF) (aI (x:=(⟨(ek).kind,(ek).a,(ek).b,xh,xi,(ek).to⟩:bU)) hs lF rfl rfl (λ w3 hs=>aD lF hs.At ?_)));exact .inr ⟨_,_,by unfold gS; rw [if_neg (by omega)]; exact wx,λ w hw=>(hts w hw).2.2 _ _ _ pU wx,rfl,hs.drop.aF⟩
theorem C189 (K:World→Prop) (p:Nat) (room:Int) (t:fM) (F:Nat→Prop) (lv:Value) (xs:List nk) (w:World) (hF:(eH K p room t).p w F) (hL:∀ w',ix F w w'→eF (λ _=>True) w' lv xs) (hn:xs.length≤1000):CR 189 [(.pointer (some ⟨p,0,none⟩)),lv] w (λ v w'=>v = .tuple #[.int .i64 (ey xs t.aK).1,.bool (ey xs t.aK).2]∧qj F (eH K p room {t with fault:=if (ey xs t.aK).2=true then t.fault else 2}) w w'):=by
 have hs:=St.begin hF;refine Z6 _ _ _ _ ?_;unfold S189;refine aJ vz (hL _ hs.aF) (aH (aC (λ fO=>?_) (λ fO=>?_)))
 ·have hv:ey xs t.aK=(0,true):=by unfold ey; rw [if_pos (by omega)]
  rw [hv];exact ⟨rfl,hs.mut⟩
 ·have hv:ey xs t.aK=((runM xs t.aK).1,decide ((runM xs t.aK).2=0)):=by unfold ey; rw [if_neg (by omega)]
  obtain ⟨bp,gl,rg,cn,qH,hs⟩:=eH.open hs;refine aE (aA pw (aB et hs.hb rfl (aZ aeo hs (C110 _ _ xs _ _ (hL _ hs.aF) (hs.p2).fI (by omega)) (λ w1 he hs=>bE rfl (bE rfl ?_)))));refine ⟨λ w'=>St w F [eH K p room {t with fault:=if (ey xs t.aK).2=true then t.fault else 2}] w',?_,?_⟩
  ·refine cS (aC (λ gr=>?_) (λ gr=>?_))
   ·refine aE (aA tI (aV hs bL (eJ rfl) (rfl) (λ w2 hs=>?_)));have hs:=eH.shut (t:=(⟨t.code,t.at_,t.aK,t.counts,2,t.e,t.f,t.buf⟩:fM)) qH hs.p3.p3.p3.p3;have ht:(⟨t.code,t.at_,t.aK,t.counts,2,t.e,t.f,t.buf⟩:fM)={t with fault:=if (ey xs t.aK).2=true then t.fault else 2}:=by rw [hv]; dsimp only; rw [decide_eq_false (by omega)]; rfl
    rw [ht] at hs;exact hs
   ·have hs:=eH.shut (t:=(⟨t.code,t.at_,t.aK,t.counts,t.fault,t.e,t.f,t.buf⟩:fM)) qH hs.p3.p3.p3.p3;have ht:(⟨t.code,t.at_,t.aK,t.counts,t.fault,t.e,t.f,t.buf⟩:fM)={t with fault:=if (ey xs t.aK).2=true then t.fault else 2}:=by rw [hv]; dsimp only; rw [decide_eq_true (by omega)]; rfl
    rw [ht] at hs;exact hs
  ·intro w3 hs fB;refine aH ?_;refine ⟨?_,hs.mut⟩;rw [hv]
theorem C122 (K:World→Prop) (p:Nat) (room:Int) (t:fM) (tR:fM) (n:Nat) (F:Nat→Prop) (w:World) (hF:(eH K p room t).p w F) (hK:∀ w',ix F w w'→K w') (oC:G7 t) (hg:sJ n t=some tR):CR 122 [(.pointer (some ⟨p,0,none⟩))] w (λ v w'=>v = .tuple #[]∧qj F (eH K p room tR) w w'):=by
 have hs:=St.begin hF;refine Zf _ _ _ ?_;unfold S122;refine ⟨λ mm w'=>∃ t1:fM,sJ mm t1=some tR∧G7 t1∧St w F [eH K p room t1] w',⟨n,t,hg,oC,hs⟩,?_⟩;rintro mm w1 ⟨t1,Ft,tg,hs⟩ fB;obtain ⟨k,rfl⟩:=WW Ft;refine eu YR (C65 K p room t1 _ hs.has (hK _ hs.aF) tg) ?_;rintro v_x8 w2 aqM
 rcases aqM with ⟨vt,rfl,he⟩ | ⟨x,xv,vt,hxv,rfl,he⟩
 ·have hs:=hs.ext he;refine bE rfl (bE rfl (aN hs mr (λ lZ w3 hs=>have hs:=hs.enc (cs':=Flat.enc (⟨0,0,0,⟨none,0,0⟩,⟨none,0,0⟩,0⟩:bU)) rfl;aI (x:=(⟨0,0,0,⟨none,0,0⟩,⟨none,0,0⟩,0⟩:bU)) hs lF rfl rfl (λ w4 hs=>bZ (nN ?_)))));have hs:=(hs).drop;rw [Am Ft (An vt)];exact ⟨rfl,hs.mut⟩
 ·have hs:=hs.ext he;have hxm:=qG vt;obtain ⟨hxe,hxf,hxt0,hxt1⟩:=tg.code.ops x hxm.1;have aqN:=tg.code.set x hxm.1;have af5:=tg.code.cnt x hxm.1;have hrl1:=tg.rg;have hcl1:=tg.cn;have hcll:=tg.code.len;have hat1:=tg.Tl;obtain ⟨ge,gf,rfl,_,_⟩:=hxv _ (hK _ hs.aF)
  have hxE:∀ w,K w→eF (λ _=>True) w (Flat.val ge) x.e:=λ w hw=>by
   obtain ⟨ge',gf',hh,h1,_⟩:=hxv w hw;cases hh; exact DL.flat h1
  have hxF:∀ w,K w→eF (λ _=>True) w (Flat.val gf) x.f:=λ w hw=>by
   obtain ⟨ge',gf',hh,_,h2⟩:=hxv w hw;cases hh; exact DL.flat h2
  refine bE rfl (bE rfl (aN hs mr (λ lZ w3 hs=>have hs:=hs.enc (cs':=Flat.enc (⟨0,0,0,⟨none,0,0⟩,⟨none,0,0⟩,0⟩:bU)) rfl;aI (x:=(⟨x.kind,x.a,x.b,ge,gf,x.to⟩:bU)) hs lF rfl rfl (λ w4 hs=>bZ (fx (aA tK (aB (v:=Flat.val (ge:SV)) xB hs.hb rfl (bG aeE hs.p1 (H':=λ _=>eH K p room {t1 with fault:=if (ey x.e t1.aK).2=true then t1.fault else 2}) (Φ:=λ v _=>v = .tuple #[.int .i64 (ey x.e t1.aK).1,.bool (ey x.e t1.aK).2]) (λ F2 eQ eA=>?_) ?_))))))))
  ·exact C189 K p room t1 F2 _ x.e _ eQ (λ w' hc=>hxE w' (hK w' (eA w' hc).aF)) hxe
  rintro _ w5 rfl hs;refine bE rfl (bE rfl ?_);obtain ⟨bp,gl,rg,cn,qH,hs⟩:=eH.open hs
  change St _ _ (cD p [.pointer (some ⟨bp,0,none⟩),.int .i64 t1.code.aK,.int .i64 t1.code.counts,gl,.int .i64 t1.at_,rg,cn,.int .i64 (if (ey x.e t1.aK).2=true then t1.fault else 2),.int .i64 t1.e,.int .i64 t1.f]::nH bp room t1.buf::bK rg t1.aK::bK cn t1.counts::_) _ at hs
  refine aE (aA tJ (aV hs bL (eJ rfl) (rfl) (λ w6 hs=>bZ (aX (λ iB=>?_) (λ iB=>?_)))))
  ·have hs:=eH.shut (t:=(⟨t1.code,t1.at_,t1.aK,t1.counts,(if (ey x.e t1.aK).2=true then t1.fault else 2),(ey x.e t1.aK).1,t1.f,t1.buf⟩:fM)) qH hs.p3.p3.p3.p3;have hs:=(hs.p1).drop;rw [Am Ft (Ao vt (by simpa using iB))];exact ⟨rfl,hs.mut⟩
  ·have hs:=eH.shut (t:=(⟨t1.code,t1.at_,t1.aK,t1.counts,(if (ey x.e t1.aK).2=true then t1.fault else 2),(ey x.e t1.aK).1,t1.f,t1.buf⟩:fM)) qH hs.p3.p3.p3.p3
   change St w F (eH K p room (tE t1 x)::_) _ at hs
   refine aA tL (aB (v:=Flat.val (gf:SV)) xB hs.p1.hb rfl (bG aeE hs (H':=λ _=>eH K p room { (tE t1 x) with fault:=if (ey x.f (tE t1 x).aK).2=true then (tE t1 x).fault else 2}) (Φ:=λ v _=>v = .tuple #[.int .i64 (ey x.f t1.aK).1,.bool (ey x.f t1.aK).2]) (λ F2 eQ eA=>?_) ?_))
   ·exact C189 K p room (tE t1 x) F2 _ x.f _ eQ (λ w' hc=>hxF w' (hK w' (eA w' hc).aF)) hxf
   rintro _ w7 rfl hs;refine bE rfl (bE rfl ?_);obtain ⟨bp,gl,rg,cn,qH,hs⟩:=eH.open hs
   change St _ _ (cD p [.pointer (some ⟨bp,0,none⟩),.int .i64 t1.code.aK,.int .i64 t1.code.counts,gl,.int .i64 t1.at_,rg,cn,.int .i64 (if (ey x.f t1.aK).2=true then (tE t1 x).fault else 2),.int .i64 (ey x.e t1.aK).1,.int .i64 t1.f]::nH bp room t1.buf::bK rg t1.aK::bK cn t1.counts::_) _ at hs
   refine aE (aA Du (aV hs bL (eJ rfl) (rfl) (λ w8 hs=>bZ (aX (λ lh=>?_) (λ lh=>?_)))))
   ·have hs:=eH.shut (t:=(⟨t1.code,t1.at_,t1.aK,t1.counts,(if (ey x.f t1.aK).2=true then (tE t1 x).fault else 2),(ey x.e t1.aK).1,(ey x.f t1.aK).1,t1.buf⟩:fM)) qH hs.p3.p3.p3.p3;have hs:=(hs.p1).drop;rw [Am Ft (Ap vt (by simpa using iB) (by simpa using lh))];exact ⟨rfl,hs.mut⟩
   ·refine aE (aA ke (aB bL hs.hb rfl (aO (by omega) ?_)));refine ⟨_,?_,λ _ _ h=>h⟩;refine aA jg (aB (v:=.int .i64 x.kind) bL hs.p4.hb rfl (aH (aC (λ kG=>?_) (λ kG=>?_))))
    ·have hx1:=aqN kG;refine aE (aA pw (have hs:=hs.drew;aB et hs.hb rfl (aA kf (aB (v:=.int .i64 x.a) bL hs.p4.hb rfl (aE (aA tJ (aB bL hs.hb rfl ?_)))))));obtain ⟨aqE,ajV⟩:=gx (t1.aK) (i:=(x.a).toNat) (by omega);refine dT hs.p2 ei (by omega) (by omega) (λ _ Lw=>lE _ hs.p2 bL Lw (by omega) (λ w9 hs=>?_));intro jw;refine aE (aA ke (aV hs.p1 bL (eJ rfl) (rfl) (λ sd hs=>?_)));have hs:=eH.shut (t:=(⟨t1.code,(t1.at_+1),((t1.aK).set (x.a).toNat (ey x.e t1.aK).1),t1.counts,(if (ey x.f t1.aK).2=true then (tE t1 x).fault else 2),(ey x.e t1.aK).1,(ey x.f t1.aK).1,t1.buf⟩:fM)) qH hs.p3.p2.p3.p3
     have hs:=(hs.p1).drop
     have gk:fH t1=((⟨t1.code,(t1.at_+1),((t1.aK).set (x.a).toNat (ey x.e t1.aK).1),t1.counts,(if (ey x.f t1.aK).2=true then (tE t1 x).fault else 2),(ey x.e t1.aK).1,(ey x.f t1.aK).1,t1.buf⟩:fM),true):=by
      rw [ku vt (by simpa using iB) (by simpa using lh),WX kG]
      try rw [show (tF (tE t1 x) x).counts.getD x.a.toNat 0=nE from HV]
      try rfl
     exact ⟨k,by omega,_,wE Ft gk,by have:=ly tg; rw [gk] at this; exact this,hs⟩
    ·refine aH (aC (λ ua=>?_) (λ ua=>?_))
     ·refine aA kh (aB (v:=.int .i64 x.to) bL hs.p4.hb rfl ?_);intro jw;refine aE (aA ke (aV hs bL (eJ rfl) (rfl) (λ sd hs=>?_)));have hs:=eH.shut (t:=(⟨t1.code,x.to,t1.aK,t1.counts,(if (ey x.f t1.aK).2=true then (tE t1 x).fault else 2),(ey x.e t1.aK).1,(ey x.f t1.aK).1,t1.buf⟩:fM)) qH hs.p3.p3.p3.p3;have hs:=(hs.p1).drop
      have gk:fH t1=((⟨t1.code,x.to,t1.aK,t1.counts,(if (ey x.f t1.aK).2=true then (tE t1 x).fault else 2),(ey x.e t1.aK).1,(ey x.f t1.aK).1,t1.buf⟩:fM),true):=by
       rw [ku vt (by simpa using iB) (by simpa using lh),N7 ua]
       try rw [show (tF (tE t1 x) x).counts.getD x.a.toNat 0=nE from HV]
       try rfl
      exact ⟨k,by omega,_,wE Ft gk,by have:=ly tg; rw [gk] at this; exact this,hs⟩
     ·refine aH (aC (λ sm=>?_) (λ sm=>?_))
      ·refine aE (aA tJ (aB bL hs.hb rfl (aH (aC (λ og=>?_) (λ og=>?_)))))
       ·refine aA kh (aB (v:=.int .i64 x.to) bL hs.p4.hb rfl ?_);intro jw;refine aE (aA ke (aV hs bL (eJ rfl) (rfl) (λ sd hs=>?_)));have hs:=eH.shut (t:=(⟨t1.code,x.to,t1.aK,t1.counts,(if (ey x.f t1.aK).2=true then (tE t1 x).fault else 2),(ey x.e t1.aK).1,(ey x.f t1.aK).1,t1.buf⟩:fM)) qH hs.p3.p3.p3.p3;have hs:=(hs.p1).drop
        have gk:fH t1=((⟨t1.code,x.to,t1.aK,t1.counts,(if (ey x.f t1.aK).2=true then (tE t1 x).fault else 2),(ey x.e t1.aK).1,(ey x.f t1.aK).1,t1.buf⟩:fM),true):=by
         rw [ku vt (by simpa using iB) (by simpa using lh),IU sm og]
         try rw [show (tF (tE t1 x) x).counts.getD x.a.toNat 0=nE from HV]
         try rfl
        exact ⟨k,by omega,_,wE Ft gk,by have:=ly tg; rw [gk] at this; exact this,hs⟩
       ·intro jw;refine aE (aA ke (aV hs bL (eJ rfl) (rfl) (λ sd hs=>?_)));have hs:=eH.shut (t:=(⟨t1.code,(t1.at_+1),t1.aK,t1.counts,(if (ey x.f t1.aK).2=true then (tE t1 x).fault else 2),(ey x.e t1.aK).1,(ey x.f t1.aK).1,t1.buf⟩:fM)) qH hs.p3.p3.p3.p3;have hs:=(hs.p1).drop
        have gk:fH t1=((⟨t1.code,(t1.at_+1),t1.aK,t1.counts,(if (ey x.f t1.aK).2=true then (tE t1 x).fault else 2),(ey x.e t1.aK).1,(ey x.f t1.aK).1,t1.buf⟩:fM),true):=by
         rw [ku vt (by simpa using iB) (by simpa using lh),IV sm og]
         try rw [show (tF (tE t1 x) x).counts.getD x.a.toNat 0=nE from HV]
         try rfl
        exact ⟨k,by omega,_,wE Ft gk,by have:=ly tg; rw [gk] at this; exact this,hs⟩
      ·refine aH (aC (λ vn=>?_) (λ vn=>?_))
       ·have hx1:=af5 (.inl vn);refine aE (aA vP (have hs:=hs.drew;aB et hs.hb rfl (aA kf (aB (v:=.int .i64 x.a) bL hs.p4.hb rfl (aA eY (aB (v:=.int .i64 x.b) bL hs.p4.hb rfl ?_))))));obtain ⟨e_x80,aye⟩:=gx (t1.counts) (i:=(x.a).toNat) (by omega);refine dT hs.p3 ei (by omega) (by omega) (λ _ aqO=>lE _ hs.p3 bL aqO (by omega) (λ pP hs=>?_));intro jw;refine aE (aA ke (aV hs.p1 bL (eJ rfl) (rfl) (λ sd hs=>?_)));have hs:=eH.shut (t:=(⟨t1.code,(t1.at_+1),t1.aK,((t1.counts).set (x.a).toNat x.b),(if (ey x.f t1.aK).2=true then (tE t1 x).fault else 2),(ey x.e t1.aK).1,(ey x.f t1.aK).1,t1.buf⟩:fM)) qH hs.p1.p3.p3.p3
        have hs:=(hs.p1).drop
        have gk:fH t1=((⟨t1.code,(t1.at_+1),t1.aK,((t1.counts).set (x.a).toNat x.b),(if (ey x.f t1.aK).2=true then (tE t1 x).fault else 2),(ey x.e t1.aK).1,(ey x.f t1.aK).1,t1.buf⟩:fM),true):=by
         rw [ku vt (by simpa using iB) (by simpa using lh),N8 vn]
         try rw [show (tF (tE t1 x) x).counts.getD x.a.toNat 0=nE from HV]
         try rfl
        exact ⟨k,by omega,_,wE Ft gk,by have:=ly tg; rw [gk] at this; exact this,hs⟩
       ·refine aH (aC (λ zR=>?_) (λ zR=>?_))
        ·have hx1:=af5 (.inr zR);refine aE (aA vP (have hs:=hs.drew;aB et hs.hb rfl (aA kf (aB (v:=.int .i64 x.a) bL hs.p4.hb rfl ?_))));obtain ⟨nE,WY⟩:=gx (t1.counts) (i:=(x.a).toNat) (by omega);refine dT hs.p3 ei (by omega) (by omega) (λ _ aqP=>?_);have HV:t1.counts.getD x.a.toNat 0=nE:=by rw [List.getD_eq_getElem?_getD,WY]; rfl
         refine gj hs.p3 bL aqP WY (DH (dT hs.p3 ei (by omega) (by omega) (λ _ Vn=>lE _ hs.p3 bL Vn (by omega) (λ sQ hs=>aE (aA vP (have hs:=hs.drew;aB et hs.p1.hb rfl ?_))))));have hsl:(t1.counts.set x.a.toNat (qX (nE - 1))).length=t1.counts.length:=List.length_set;refine aA kf (aB (v:=.int .i64 x.a) bL hs.p4.hb rfl ?_);obtain ⟨aqQ,Oa⟩:=gx (((t1.counts).set (x.a).toNat (qX (nE - 1)))) (i:=(x.a).toNat) (by omega);refine dT hs ei (by omega) (by omega) (λ _ aqR=>?_);have h99:aqQ=qX (nE - 1):=by rw [List.getElem?_set_self (by omega)] at Oa; exact (Option.some.inj Oa).symm
         refine gj hs bL aqR Oa (dA (aC (λ D9=>?_) (λ D9=>?_)))
         ·refine aA kh (aB (v:=.int .i64 x.to) bL hs.p4.hb rfl ?_);intro jw;refine aE (aA ke (aV hs.p1 bL (eJ rfl) (rfl) (λ sd hs=>?_)));have hs:=eH.shut (t:=(⟨t1.code,x.to,t1.aK,((t1.counts).set (x.a).toNat (qX (nE - 1))),(if (ey x.f t1.aK).2=true then (tE t1 x).fault else 2),(ey x.e t1.aK).1,(ey x.f t1.aK).1,t1.buf⟩:fM)) qH hs.p1.p3.p3.p3;have hs:=(hs.p1).drop
          have gk:fH t1=((⟨t1.code,x.to,t1.aK,((t1.counts).set (x.a).toNat (qX (nE - 1))),(if (ey x.f t1.aK).2=true then (tE t1 x).fault else 2),(ey x.e t1.aK).1,(ey x.f t1.aK).1,t1.buf⟩:fM),true):=by
           rw [ku vt (by simpa using iB) (by simpa using lh),IW zR (by rw [show (tF (tE t1 x) x).counts.getD x.a.toNat 0=nE from HV]; omega)]
           try rw [show (tF (tE t1 x) x).counts.getD x.a.toNat 0=nE from HV]
           try rfl
          exact ⟨k,by omega,_,wE Ft gk,by have:=ly tg; rw [gk] at this; exact this,hs⟩
         ·intro jw;refine aE (aA ke (aV hs.p1 bL (eJ rfl) (rfl) (λ sd hs=>?_)));have hs:=eH.shut (t:=(⟨t1.code,(t1.at_+1),t1.aK,((t1.counts).set (x.a).toNat (qX (nE - 1))),(if (ey x.f t1.aK).2=true then (tE t1 x).fault else 2),(ey x.e t1.aK).1,(ey x.f t1.aK).1,t1.buf⟩:fM)) qH hs.p1.p3.p3.p3;have hs:=(hs.p1).drop
          have gk:fH t1=((⟨t1.code,(t1.at_+1),t1.aK,((t1.counts).set (x.a).toNat (qX (nE - 1))),(if (ey x.f t1.aK).2=true then (tE t1 x).fault else 2),(ey x.e t1.aK).1,(ey x.f t1.aK).1,t1.buf⟩:fM),true):=by
           rw [ku vt (by simpa using iB) (by simpa using lh),IX zR (by rw [show (tF (tE t1 x) x).counts.getD x.a.toNat 0=nE from HV]; omega)]
           try rw [show (tF (tE t1 x) x).counts.getD x.a.toNat 0=nE from HV]
           try rfl
          exact ⟨k,by omega,_,wE Ft gk,by have:=ly tg; rw [gk] at this; exact this,hs⟩
        ·refine aH (aC (λ Bn=>?_) (λ Bn=>?_))
         ·refine aE (aA tJ (aB bL hs.hb rfl (aH (aC (λ yK=>?_) (λ yK=>?_)))))
          ·refine aE (aA tI (aV hs bL (eJ rfl) (rfl) (λ vl hs=>?_)));have hs:=eH.shut (t:=(⟨t1.code,t1.at_,t1.aK,t1.counts,1,(ey x.e t1.aK).1,(ey x.f t1.aK).1,t1.buf⟩:fM)) qH hs.p3.p3.p3.p3;have hs:=(hs.p1).drop
           have gk:fH t1=((⟨t1.code,t1.at_,t1.aK,t1.counts,1,(ey x.e t1.aK).1,(ey x.f t1.aK).1,t1.buf⟩:fM),false):=by
            rw [ku vt (by simpa using iB) (by simpa using lh),IY Bn yK]
            try rw [show (tF (tE t1 x) x).counts.getD x.a.toNat 0=nE from HV]
            try rfl
           rw [Am Ft gk];exact ⟨rfl,hs.mut⟩
          ·intro jw;refine aE (aA ke (aV hs bL (eJ rfl) (rfl) (λ sd hs=>?_)));have hs:=eH.shut (t:=(⟨t1.code,(t1.at_+1),t1.aK,t1.counts,(if (ey x.f t1.aK).2=true then (tE t1 x).fault else 2),(ey x.e t1.aK).1,(ey x.f t1.aK).1,t1.buf⟩:fM)) qH hs.p3.p3.p3.p3;have hs:=(hs.p1).drop
           have gk:fH t1=((⟨t1.code,(t1.at_+1),t1.aK,t1.counts,(if (ey x.f t1.aK).2=true then (tE t1 x).fault else 2),(ey x.e t1.aK).1,(ey x.f t1.aK).1,t1.buf⟩:fM),true):=by
            rw [ku vt (by simpa using iB) (by simpa using lh),IZ Bn yK]
            try rw [show (tF (tE t1 x) x).counts.getD x.a.toNat 0=nE from HV]
            try rfl
           exact ⟨k,by omega,_,wE Ft gk,by have:=ly tg; rw [gk] at this; exact this,hs⟩
         ·have hs:=eH.shut (t:=(⟨t1.code,t1.at_,t1.aK,t1.counts,(if (ey x.f t1.aK).2=true then (tE t1 x).fault else 2),(ey x.e t1.aK).1,(ey x.f t1.aK).1,t1.buf⟩:fM)) qH hs.p3.p3.p3.p3;have hs:=(hs.p1).drop
          have gk:fH t1=((⟨t1.code,t1.at_,t1.aK,t1.counts,(if (ey x.f t1.aK).2=true then (tE t1 x).fault else 2),(ey x.e t1.aK).1,(ey x.f t1.aK).1,t1.buf⟩:fM),false):=by
           rw [ku vt (by simpa using iB) (by simpa using lh),N9 kG ua sm vn zR Bn]
           try rw [show (tF (tE t1 x) x).counts.getD x.a.toNat 0=nE from HV]
           try rfl
          rw [Am Ft gk];exact ⟨rfl,hs.mut⟩
structure gL where
 u:il
 room:Int
 mem:Mem
 locks:List Int
 l:List fM
 er:Int
 fault:Int
 mK:Int
structure MA where
 lnv:SV
 fsv:SV
 thv:SV
 rcl:SV
 clv:SV
 q:Nat
 ov:Value
 fv:Value
 lk:Value
 ll:Value
 ps:List Ptr
@[reducible] def jT (a:MA) (m:gL):List Value:=[Flat.val a.lnv,.int .i64 m.u.stays,Flat.val a.fsv,.int .i64 m.u.locks,Flat.val a.thv,.int .i64 m.u.recover.aK,.int .i64 m.u.recover.counts,Flat.val a.rcl,Flat.val a.clv,.int .i64 m.room,.pointer (some ⟨a.q,0,none⟩),a.lk,a.ll,.int .i64 m.er,.int .i64 m.fault,.int .i64 m.mK]
structure UK (K:World→Prop) (a:MA) (m:gL):Prop where
 ln:∀ w,K w→eF (λ _=>True) w (Flat.val a.lnv) m.u.lines
 cl:∀ w,K w→DL w (Flat.val a.clv) m.u.cC
 rc:E2 K (Flat.val a.rcl) m.u.recover.l
 mem:∀ w,K w→ui a.ov a.fv m.mem w
abbrev pZ (K:World→Prop) (room:Int) (s:Ptr) (t:fM):HP:=eH K s.b room t
def eO (K:World→Prop) (p:Nat) (m:gL):HP:=tS λ a:MA=>fact (UK K a m) (sep (cD p (jT a m)) (sep (fU a.q a.ov a.fv m.mem) (sep (bK a.lk m.locks) (sep (bK a.ll a.ps) (iy (pZ K m.room) a.ps m.l)))))
def kx (K:World→Prop) (p:Nat) (m:gL) (i:Nat) (tp:Ptr):HP:=tS λ a:MA=>fact (UK K a m∧a.ps[i]? = some tp∧a.ps.length=m.l.length∧i<m.l.length) (sep (cD p (jT a m)) (sep (fU a.q a.ov a.fv m.mem) (sep (bK a.lk m.locks) (sep (bK a.ll a.ps) (qk (pZ K m.room) a.ps m.l i)))))
section
variable {w w' w0:World} {A:Nat→Prop} {R:List HP} {p:Nat} {K:World→Prop} {m:gL} {a:MA} {i:Nat} {tp:Ptr} {t:fM}
theorem G8 {H1 H2 H3 H4 H5:HP} (hs:St w0 A (sep H1 (sep H2 (sep H3 (sep H4 H5)))::R) w):St w0 A (H1::H2::H3::H4::H5::R) w:=by
 have h1:=hs.split
 have h2:=h1.p1.split
 have h3:=h2.p1.split
 have h4:=h3.p1.split
 exact h4.p2.p3.p4
theorem G9 {H1 H2 H3 H4 H5:HP} (hs:St w0 A (H1::H2::H3::H4::H5::R) w):St w0 A (sep H1 (sep H2 (sep H3 (sep H4 H5)))::R) w:=by
 have h4:=St.join (hs.p4.p4)
 have h3:=St.join h4.p3
 have h2:=St.join h3.p2
 exact St.join h2.p1
theorem eO.open (hs:St w0 A (eO K p m::R) w):∃ a,UK K a m∧St w0 A (cD p (jT a m)::fU a.q a.ov a.fv m.mem::bK a.lk m.locks::bK a.ll a.ps::iy (pZ K m.room) a.ps m.l::R) w:=by
 obtain ⟨a,hs⟩:=hs.eV; obtain ⟨hu,hs⟩:=hs.oB; exact ⟨a,hu,G8 hs⟩
theorem eO.shut (hu:UK K a m) (hs:St w0 A (cD p (jT a m)::fU a.q a.ov a.fv m.mem::bK a.lk m.locks::bK a.ll a.ps::iy (pZ K m.room) a.ps m.l::R) w):St w0 A (eO K p m::R) w:=
 St.eP a (St.qi hu (G9 hs))
theorem kx.open (hs:St w0 A (kx K p m i tp::R) w):∃ a,(UK K a m∧a.ps[i]? = some tp∧a.ps.length=m.l.length∧i<m.l.length)∧St w0 A (cD p (jT a m)::fU a.q a.ov a.fv m.mem::bK a.lk m.locks::bK a.ll a.ps::qk (pZ K m.room) a.ps m.l i::R) w:=by
 obtain ⟨a,hs⟩:=hs.eV; obtain ⟨hu,hs⟩:=hs.oB; exact ⟨a,hu,G8 hs⟩
theorem kx.shut (hu:UK K a m∧a.ps[i]? = some tp∧a.ps.length=m.l.length∧i<m.l.length) (hs:St w0 A (cD p (jT a m)::fU a.q a.ov a.fv m.mem::bK a.lk m.locks::bK a.ll a.ps::qk (pZ K m.room) a.ps m.l i::R) w):St w0 A (kx K p m i tp::R) w:=
 St.eP a (St.qi hu (G9 hs))
structure aqS (K:World→Prop) (w:World) (p:Nat) (m:gL) (a:MA):Prop where
 uk:UK K a m
 b:tB w p (jT a m)
 mem:vd w a.q m.mem
 c0:Cell w a.q 0 a.ov
 c1:Cell w a.q 1 a.fv
 lk:eF (λ _=>True) w a.lk m.locks
 ll:eF (λ _=>True) w a.ll a.ps
 th:∀ (i:Nat) (s:Ptr) (t:fM),a.ps[i]? = some s→m.l[i]? = some t→Has (eH K s.b m.room t) w
 len:a.ps.length=m.l.length
theorem eO.rd (h:Has (eO K p m) w) (hK:K w):∃ a,aqS K w p m a:=by
 obtain ⟨F,hs⟩:=h.st
 obtain ⟨a,hu,hs⟩:=eO.open hs
 have hc:Cell w a.q 0 a.ov∧Cell w a.q 1 a.fv:=by
  obtain ⟨lv,kv,pm,h⟩:=fU.open hs.p1; exact ⟨h.hb.cell rfl,h.hb.cell rfl⟩
 exact ⟨a,hu,hs.hb,IN hs.p1 (hu.mem _ hK),hc.1,hc.2,hs.p2.fI,hs.p3.fI,λ i s t h1 h2=>hs.p4.aor h1 h2 (Φ:=λ w=>Has (eH K s.b m.room t) w) λ h=>⟨_,h⟩,hs.p4.lg⟩
theorem WZ {ps:List Ptr} (hs:St w0 A (iy (pZ K m.room) ps m.l::R) w) (hp:ps[i]? = some tp) (ht:m.l[i]? = some t):St w0 A (eH K tp.b m.room t::qk (pZ K m.room) ps m.l i::R) w:=hs.focus hp ht
theorem LH (hs:St w0 A (eH K tp.b m.room t::kx K p m i tp::R) w):St w0 A (eO K p {m with l:=m.l.set i t}::R) w:=by
 obtain ⟨a,⟨hu,hp,hl,hi⟩,hs⟩:=kx.open hs.p1
 have h1:St w0 A (pZ K m.room tp t::qk (pZ K m.room) a.ps m.l i::_) w:=(hs.p4).p5
 have h2:=h1.sb hi hl hp
 have h3:=h2.p4.p4.p4.p4
 exact eO.shut (m:={m with l:=m.l.set i t}) ⟨hu.ln,hu.cl,hu.rc,hu.mem⟩ h3
end
def Cm (m:gL) (t:fM):Bool:=match gS t with
 | none=>false
 | some x=>if t.fault≠0 then true else if x.kind=3∨x.kind=5∨x.kind=6∨x.kind=7 then !decide (m.room≤t.buf.length) else if x.kind=4∨x.kind=8∨x.kind=10 then decide (t.buf.length=0) else if x.kind=9 then decide (t.buf.length=0) && decide (m.locks.getD x.b.toNat 0 = -1) else true
def ti (m:gL) (i:Nat) (t:fM):List ep:=(if Cm m t=true then [⟨1,i,0,[]⟩] else [])++(Af t.buf).map λ k=>⟨2,i,k,[]⟩
def kT (m:gL) (k:Nat):List ep:=(List.range k).flatMap λ i=>match m.l[i]? with | some t=>ti m i t | none=>[]
def dU (m:gL):List ep:=if m.fault≠0 then [] else kT m m.l.length
def rD (m:gL):List ep:=if m.fault≠0 then [] else (G4 m.mem).map λ c=>⟨3,0,0,c⟩
theorem Aq {m:gL} {k:Nat} {t:fM} (h:m.l[k]? = some t):kT m (k+1)=kT m k++ti m k t:=by
 unfold kT; rw [List.range_succ,List.flatMap_append]; simp [h]
structure rE (m:gL):Prop where
 mem:xk m.mem
 th:∀ t∈m.l,G7 t
 tl:m.l.length≤1000
 lk:(m.locks.length:Int)=m.u.locks
 lkb:∀ t∈m.l,∀ x∈t.code.l,x.kind=9∨x.kind=10→0≤x.b∧x.b<m.u.locks
 lnb:∀ t∈m.l,∀ x∈t.code.l,x.kind=3→0≤x.b∧x.b<m.u.lines.length
 aqT:∀ t∈m.l,∀ x∈t.code.l,x.kind=2∨x.kind=4→0≤x.a∧x.a<t.code.aK
 rm:1≤m.room∧m.room≤16
 st:∀ t∈m.l,∀ x,gS t=some x→t.fault=0→2≤x.kind∧x.kind≤10
 nl:∀ n∈m.u.lines,-1≤n∧n≤1000
theorem Ha (l:List bJ):(Af l).length≤l.length:=by have:=GV l l.length; rw [ER l rfl] at this; exact this
theorem C66 (K:World→Prop) (p:Nat) (room:Int) (t:fM) (w:World) (hh:Has (eH K p room t) w) (yU:t.buf.length≤1000):CR 66 [(.pointer (some ⟨p,0,none⟩))] w (λ v w'=>v = .bool (decide (t.buf.length=0))∧Ext w w'):=by
 obtain ⟨bp,gl,rg,cn,⟨ts0,hts⟩,pY,hB,BV,hcn⟩:=eH.rd hh;have ct0:=pY.cell (o:=0) rfl;have ct7:=pY.cell (o:=7) rfl;have hs:=St.start w;refine aht _ _ _ ?_;unfold S66;refine aE (aA nS (cG rX (ct0.ext hs.aF) (dB amF hs (C91 bp _ _ _ (hB.ext hs.aF) (by omega)) (λ x7 w1 bY hs=>aJ po (hs).fI (aH ?_)))));exact ⟨vb (decide_eq_decide.2 (by omega)),hs.drop.aF⟩
theorem C56 (K:World→Prop) (p:Nat) (m:gL) (q:Nat) (t:fM) (w:World) (hm:Has (eO K p m) w) (hw:K w) (vD:∀ w',Ext w w'→K w') (mu:rE m) (hh:Has (eH K q m.room t) w) (Cn:t∈m.l):CR 56 [(.pointer (some ⟨p,0,none⟩)),(.pointer (some ⟨q,0,none⟩))] w (λ v w'=>v = .bool (Cm m t)∧Ext w w'):=by
 obtain ⟨a,hr⟩:=eO.rd hm hw;have cm8:=hr.b.cell (o:=8) rfl;have cm0:=hr.b.cell (o:=0) rfl;have Yr:=hr.b.cell (o:=1) rfl;have cm3:=hr.b.cell (o:=3) rfl;have cm9:=hr.b.cell (o:=9) rfl;have Co:=hr.b.cell (o:=10) rfl;have E3:=hr.b.cell (o:=11) rfl;have By:=hr.b.cell (o:=12) rfl;have FX:=hr.b.cell (o:=13) rfl;have Ar:=hr.b.cell (o:=14) rfl;have FY:=hr.b.cell (o:=15) rfl;have oC:=mu.th t Cn;have yU:=oC.bl;obtain ⟨bp,gl,rg,cn,⟨ts0,hts⟩,pY,hB,BV,hcn⟩:=eH.rd hh;have ct0:=pY.cell (o:=0) rfl;have ct7:=pY.cell (o:=7) rfl;have hK:∀ w',Ext w w'→K w':=vD;have hs:=St.start w;refine ahj _ _ _ _ ?_;unfold S56
 refine eu YR (C65 K q m.room t _ (hh.ext hs.aF) (hK _ hs.aF) oC) ?_;rintro v_x9 w1 aqU
 rcases aqU with ⟨vt,rfl,he⟩ | ⟨x,xv,vt,hxv,rfl,he⟩
 ·have hs:=hs.ext he;refine bE rfl (bE rfl (aN hs mr (λ ub w2 hs=>have hs:=hs.enc (cs':=Flat.enc (⟨0,0,0,⟨none,0,0⟩,⟨none,0,0⟩,0⟩:bU)) rfl;aI (x:=(⟨0,0,0,⟨none,0,0⟩,⟨none,0,0⟩,0⟩:bU)) hs lF rfl rfl (λ w3 hs=>bZ (nN ?_)))));refine ⟨vb ?_,(by first | exact hs.aF | exact hs.drop.aF)⟩;unfold Cm;rw [vt]
 ·have hs:=hs.ext he;have hxm:=qG vt;obtain ⟨ge,gf,rfl,_,_⟩:=hxv _ (hK _ hs.aF);refine bE rfl (bE rfl (aN hs mr (λ ub w2 hs=>have hs:=hs.enc (cs':=Flat.enc (⟨0,0,0,⟨none,0,0⟩,⟨none,0,0⟩,0⟩:bU)) rfl;aI (x:=(⟨x.kind,x.a,x.b,ge,gf,x.to⟩:bU)) hs lF rfl rfl (λ w3 hs=>bZ (fx (aE (aA tI (cG bL (ct7.ext hs.aF) (cS (aC (λ js=>?_) (λ js=>?_)))))))))))
  ·refine ⟨vb ?_,(by first | exact hs.aF | exact hs.drop.aF)⟩;unfold Cm;rw [vt];dsimp only;rw [if_pos js]
  ·refine aA jg (aB (v:=.int .i64 x.kind) bL hs.hb rfl ?_);refine ⟨λ jv w'=>jv = .bool (decide (x.kind=3∨x.kind=5∨x.kind=6∨x.kind=7))∧St w bD [cD ub (Flat.enc (⟨x.kind,x.a,x.b,ge,gf,x.to⟩:bU))] w',?_,?_⟩
   ·refine aH (aC (λ iB=>?_) (λ iB=>?_))
    ·exact ⟨vb (by grind),hs⟩
    ·refine aH (aC (λ fP=>?_) (λ fP=>?_))
     ·exact ⟨vb (by grind),hs⟩
     ·refine aH (aC (λ qm=>?_) (λ qm=>?_))
      ·exact ⟨vb (by grind),hs⟩
      ·refine aH ?_;exact ⟨vb (by grind),hs⟩
   ·rintro _ w4 ⟨rfl,hs⟩ fB;refine aX (λ iN=>?_) (λ iN=>?_)
    ·refine aE (aA nS (cG rX (ct0.ext hs.aF) (aZ aes hs (C123 bp _ _ _ (hB.ext hs.aF)) (λ w5 he hs=>bZ ?_))));refine ⟨vb ?_,(by first | exact hs.aF | exact hs.drop.aF)⟩;unfold Cm;rw [vt];dsimp only;rw [if_neg (by simpa using js),if_pos (by simpa using iN)]
    ·refine ⟨λ jv w'=>jv = .bool (decide (x.kind=4∨x.kind=8∨x.kind=10))∧St w bD [cD ub (Flat.enc (⟨x.kind,x.a,x.b,ge,gf,x.to⟩:bU))] w',?_,?_⟩
     ·refine aH (aC (λ jr=>?_) (λ jr=>?_))
      ·exact ⟨vb (by grind),hs⟩
      ·refine aH (aC (λ lh=>?_) (λ lh=>?_))
       ·exact ⟨vb (by grind),hs⟩
       ·refine aH ?_;exact ⟨vb (by grind),hs⟩
     ·rintro _ w6 ⟨rfl,hs⟩ jw;refine aX (λ iC=>?_) (λ iC=>?_)
      ·refine aZ ahD hs (C66 K q m.room t _ (hh.ext hs.aF) yU) (λ w7 he hs=>?_);refine ⟨vb ?_,(by first | exact hs.aF | exact hs.drop.aF)⟩;unfold Cm;rw [vt];dsimp only;rw [if_neg (by simpa using js),if_neg (by simpa using iN),if_pos (by simpa using iC)]
      ·refine aH (aC (λ jW=>?_) (λ jW=>?_))
       ·have aj9:=mu.lkb t Cn x hxm.1 (.inl jW);have Mr:=mu.lk;refine ⟨λ jv w'=>jv = .bool (decide (t.buf.length=0) && decide (m.locks.getD x.b.toNat 0 = -1))∧St w bD [cD ub (Flat.enc (⟨x.kind,x.a,x.b,ge,gf,x.to⟩:bU))] w',?_,?_⟩
        ·have hs:=hs.drew;refine aZ ahD hs (C66 K q m.room t _ (hh.ext hs.aF) yU) (λ w8 he hs=>aX (λ tX=>?_) (λ tX=>?_))
         ·refine aE (aA nQ (cG et (E3.ext hs.aF) (aA eY (aB (v:=.int .i64 x.b) bL hs.hb rfl ?_))));obtain ⟨apj,wt⟩:=gx (m.locks) (i:=(x.b).toNat) (by omega);refine aQ ei hr.lk (by omega) wt (λ _ ya=>aD bL (ya.ext hs.aF) (aH ?_));exact ⟨vb (by rw [tX,List.getD_eq_getElem?_getD,wt]; rfl),hs⟩
         ·exact ⟨vb (by rw [tX]; rfl),hs⟩
        ·rintro _ w9 ⟨rfl,hs⟩ oN;refine ⟨vb ?_,(by first | exact hs.aF | exact hs.drop.aF)⟩;unfold Cm;rw [vt];dsimp only;rw [if_neg (by simpa using js),if_neg (by simpa using iN),if_neg (by simpa using iC),if_pos jW]
       ·refine ⟨vb ?_,(by first | exact hs.aF | exact hs.drop.aF)⟩;unfold Cm;rw [vt];dsimp only;rw [if_neg (by simpa using js),if_neg (by simpa using iN),if_neg (by simpa using iC),if_neg jW]
end Go.Proofs.YtnjcingfdhjfkaaGreat
