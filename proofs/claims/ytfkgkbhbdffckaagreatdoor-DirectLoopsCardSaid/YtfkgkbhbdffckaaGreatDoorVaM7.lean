/-
  Part 7.
-/
import Derived.Test.YtfkgkbhbdffckaaGreatDoorVaM6
set_option linter.all false
set_option maxHeartbeats 8000000
set_option maxRecDepth 100000
namespace Go.Proofs.YtfkgkbhbdffckaaGreatDoor
open Go.Fw
theorem ThK.mono {K K2:World->Prop} {tv:TThreadV} {t:TThread} (h:ThK K tv t) (hk:∀ w,K2 w->K w):ThK K2 tv t:=by
 obtain ⟨gr,gb,rows,e,h1,h2⟩:=h
 exact ⟨gr,gb,rows,e,λ w hw=>h1 w (hk w hw),λ w=>⟨λ w' hw=>(h2 w).1 w' (hk w' hw),λ hw=>(h2 w).2 (hk w hw)⟩⟩
theorem ThsK.mono {K K2:World->Prop} {tvs:List TThreadV} {ths:List TThread} (h:ThsK K tvs ths) (hk:∀ w,K2 w->K w):ThsK K2 tvs ths:=⟨h.1,λ j tv t h1 h2=>(h.2 j tv t h1 h2).mono hk⟩
theorem body_bk {p:TProg} (hc:CkD p) {t:TThread} (ht:t∈thsM p):t.body=(bkD t.body).flat:=by
 obtain ⟨_,h2,_⟩:=hc.f.ths ht
 obtain ⟨_,_,b,h5,h6,_⟩:=rightS_spec h2
 rw [h5,bkD_flat h6]
def ThsAt (K:World->Prop) (lv:SV) (ths:List TThread):Prop:=∃ tvs,(∀ w,K w->RdL (λ _=>True) w (Flat.val lv) tvs)/\ThsK K tvs ths
structure PrK (K:World->Prop) (pv:TProgV) (p:TProg):Prop where
 pr:∀ w,K w->Deep.dr w pv p
 th:ThsAt K pv.threads p.threads
 rc:ThsAt K pv.recover p.recover
def crD (m:DSy) (q:TPick):DSy:=match crashPD m q with | some img=>{m with mem:=crashM m.mem img} | none=>m
def CrashFD (m:Mem) (cut:List Int) (v:Value) (m2:Mem):Prop:=(imageM m cut=none/\m2=m/\v = .int .i64 1)\/∃ img,imageM m cut=some img/\m2=crashM m img/\v = .int .i64 0
theorem crash_mutD {m:Mem} {cut:List Int} {v:Value} {p:Nat} {ov fv:Value} {F:Nat->Prop} {w w':World}
  (h:(imageM m cut=none/\v = .int .i64 1/\Mut F (memB p ov fv m) w w')\/∃ img,imageM m cut=some img/\v = .int .i64 0/\Mut F (memB p ov fv (crashM m img)) w w') :
  True/\Mut F (exH λ m2=>fact (CrashFD m cut v m2) (memB p ov fv m2)) w w':=by
 refine ⟨trivial,?_⟩
 rcases h with ⟨h1,h2,F',h3,h4,h5⟩ | ⟨img,h1,h2,F',h3,h4,h5⟩
 ·exact ⟨F',⟨m,.inl ⟨h1,rfl,h2⟩,h3⟩,h4,h5⟩
 exact ⟨F',⟨crashM m img,.inr ⟨img,h1,rfl,h2⟩,h3⟩,h4,h5⟩
theorem zth_K (K:World->Prop):ThsK K [(⟨⟨#[]⟩,⟨none,0,0⟩,⟨none,0,0⟩,0⟩:TThreadV)] [⟨⟨#[]⟩,[],[],0⟩]:=by
 refine ⟨rfl,λ j tv t h1 h2=>?_⟩
 cases j with
 | zero=>
  cases h1; cases h2
  exact ⟨⟨none,0,0⟩,⟨none,0,0⟩,[],rfl,λ w _=>RdL.nil _ w,λ w=>⟨λ _ _=>drs.nil,λ _=>RdL.nil _ w⟩⟩
 | succ j=>simp at h1
theorem pl34:PL 34:=plE Tryz.func34
theorem C6 (K:World->Prop) (p:TProg) (pv:TProgV) (room:Int) (w:World) (hw:∀ w',Ext w w'->K w') (hp:PrK K pv p) (hz:PZ p):CR 6 [Flat.val pv,.int .i64 room] w (λ v w'=>(checkE p≠0/\v = .tuple #[.pointer none,.int .i64 (checkE p)]/\Ext w w')\/(checkE p=0/\(room<1\/16<room)/\v = .tuple #[.pointer none,.int .i64 1]/\Ext w w')\/
  (checkE p=0/\(1<=room/\room<=16)/\∃ (b:Nat) (X:World->Prop),v = .tuple #[.pointer (some ⟨b,0,none⟩),.int .i64 0]/\New (sep (dsyB (λ w=>K w/\X w) b (newD p room)) (frz X)) w w')):=by
 have hs:=St.start w;refine S6_ok _ _ _ _ ?_;unfold S6;refine eop_boxV (x:=pv) hs (λ bp w1 hs=>qop_at ty40 hs.At ?_);refine callF pl22 (C22 p pv _ (hp.pr _ (hw _ hs.chg)) hz) ?_;rintro _ _ ⟨aa,rfl,he⟩;have hs:=hs.ext he;refine pop_ext rfl (pop_ext rfl ?_);refine pop_neq (cond_d (λ c=>?_) (λ c=>?_))
 ·exact .inl ⟨c,rfl,hs.drop.chg⟩
 have hce:checkE p=0:=by omega
 have hck:=ck_spec hce;have h20:=big20 hck;have hcl:=cell_len p;refine callF pl23 (C23 room _) ?_;rintro v3 _ hh
 rcases hh with ⟨hrb,rfl,he⟩ | ⟨hr1,hr2,b3,rfl,hnew⟩
 ·have hs:=hs.ext he;exact pop_ext rfl (pop_ext rfl (pop_neq (cond_yb (by decide) (.inr (.inl ⟨hce,hrb,rfl,hs.drop.chg⟩)))))
 have hs:=(hs.made hnew).drop;refine pop_ext rfl (pop_ext rfl ?_);refine pop_neq (cond_nb (by decide) ?_);have hs:=hs.drew;refine qop_at ty40 hs.At (qop_at ty40 hs.At ?_);refine qop_at ty40 hs.At (callN pl24 hs (C24 p pv _ (hp.pr _ (hw _ hs.chg)) hz) (λ x31 _ hnew hs=>?_));refine ⟨run_at ty40 hs.p1.At,?_⟩;refine ⟨run_at ty40 hs.p1.At,?_⟩;refine callN pl25 hs (C25 p pv _ (hp.pr _ (hw _ hs.chg)) hz) (λ x33 _ hnew hs=>?_);refine ⟨run_at ty40 hs.p2.At,?_⟩;obtain ⟨svk,rfl⟩:=(hs).isSV;obtain ⟨svc,rfl⟩:=(hs.p1).isSV;refine pop (bld81_0_1_2_3 _ _ _ _ _ _ _ _ _ _ _ _ _ _ _ _ _ _ _ _ _ _ _ _ _) (eop_boxA hs (λ b36 w6 hs=>?_));refine pop_nil (pop_field fld81_1 ?_);refine qop_blk ty32 hs.hb rfl (pop_len sl32 (hs.p2).rd' ?_)
 have hs:=hs.ownNil (α:=Int);have hcs:St w none1 [ownL (.slice none 0 0) ([]:List Int),blk b36 (dcells ⟨pv,svc,svk,0,.slice none 0 0,.slice none 0 0,.slice none 0 0,.slice none 0 0,[]⟩ (newD0 p room) |>.set 9 (.pointer none)),ownL (Flat.val svk) (lockNs p),ownL (Flat.val svc) (cellNs p),blk bp (Flat.enc pv)] w6:=hs;refine ⟨λ mm o y w1=>∃ k:Nat,y = .int .i64 (k:Int)/\mm=(cellNs p).length - k/\k<=(cellNs p).length/\St w none1 [ownL o ((ofD p).take k),blk b36 (dcells ⟨pv,svc,svk,0,.slice none 0 0,.slice none 0 0,.slice none 0 0,.slice none 0 0,[]⟩ (newD0 p room) |>.set 9 (.pointer none)),ownL (Flat.val svk) (lockNs p),ownL (Flat.val svc) (cellNs p),blk bp (Flat.enc pv)] w1,⟨_,0,rfl,rfl,Nat.zero_le _,hcs⟩,?_⟩
 rintro mm o _ _ ⟨k,rfl,rfl,hk,hs⟩ _;have hol:(ofD p).length=(cellNs p).length:=by unfold ofD; rw [List.length_map,List.length_range]
 refine pop_lss (cond_d (λ c1=>?_) (λ c1=>?_))
 ·refine qop_at ty40 hs.p4.At (callP pl26 hs (C26 p pv (k:Int) _ (hp.pr _ (hw _ hs.chg)) hz) (λ _ he hs=>?_));refine eop_build (([lineM p (k:Int)]:List Int)) hs sl45 rfl rfl (leb rfl) (λ s49 _ hs=>?_);have hr49:=(hs).rd';exact eop_append hs.p1 sl45 hr49 (by rw [List.length_take,List.length_singleton]; omega) (by decide) (λ _ _ hs=>pop_add (by omega) ⟨_,by omega,k+1,rfl,rfl,by omega,by rw [<- take_snoc (ofD_at (p:=p) (i:=k) (by omega))]; exact hs.p1.drop⟩)
 rw [List.take_of_length_le (by omega)] at hs;have hs:=hs.drew;refine qop_at ty40 hs.p4.At (qop_at ty40 hs.p4.At ?_);refine callP pl28 hs (C28 p pv _ (hp.pr _ (hw _ hs.chg)) hz) (λ _ he hs=>?_);refine ⟨run_at ty40 hs.p4.At,?_⟩;refine callN pl29 hs (C29 p pv _ (hp.pr _ (hw _ hs.chg)) hz) (λ x58 _ hnew hs=>?_);have hst:=stays_le p;have hfl:(firstsM p).length=(allC p).length:=by unfold firstsM; rw [List.length_map]
 refine callF pl27 (C27 (ofD p) (firstsM p) (staysM p) _ _ _ (hs.p1).rd' (hs).rd' (by omega) (by omega) (by omega) (λ k n h1 h2=>?_)) ?_
 ·have h3:=ofD_ln hck h1 h2;have h4:=(List.getElem?_eq_some_iff.1 h2).1;exact ⟨h3.1,by omega,by omega⟩
 rintro v59 _ ⟨q,ov,fv,rfl,hnew⟩;have hs:=((hs.made hnew).split).p1.split;refine pop_ext rfl (pop_ext rfl ?_);refine pop_nil (pop_field fld81_4 ?_);refine uop_blk hs.p5 ty78 (leb rfl) rfl (λ w14 hs=>pop_field fld40_3 ?_);refine qop_blk (v:=Flat.val pv.threads) ty35 hs.p8.hb rfl ?_;have hs:=((((((((((hs.p8.drop.p5.drop.p4.drop.p3).freeze).p2).freeze).frzAnd).p3).freeze).frzAnd).p3).freeze).frzAnd;obtain ⟨FF,hs,hX⟩:=hs.toAgr;have hs:=hs.rowsPNil (H:=dthR (λ w=>K w/\Agr FF w14 w) room);have hs:=(hs.ownNil (α:=Ptr)).ownNil (α:=Int)
 have hs:St w none1 (blk b36 (dcells ⟨pv,svc,svk,q,Flat.val ov,Flat.val fv,.slice none 0 0,.slice none 0 0,[]⟩ (newD0 p room))::memB q (Flat.val ov) (Flat.val fv) (newM (ofD p) (staysM p) (firstsM p))::ownL (.slice none 0 0) ([]:List Int)::ownL (.slice none 0 0) ([]:List Ptr)::rowsP (dthR (λ w=>K w/\Agr FF w14 w) room) [] []::frz (Agr FF w14)::[]) w14:=by
  have h1:=(hs.p5).p5;exact h1
 obtain ⟨tvs,ht1,ht2⟩:=hp.th;obtain ⟨tvr,hr3,hr4⟩:=hp.rc;have hs:=dsyB.shut (K:=(λ w=>K w/\Agr FF w14 w)) (m:=newD0 p room) ⟨λ w' h=>hp.pr w' h.1,λ w' h=>?_,λ w' h=>?_,λ w' h=>⟨?_,?_⟩,⟨tvr,λ w' h=>hr3 w' h.1,hr4.mono λ _ h=>h.1⟩⟩ hs;rotate_left
 ·have:=hX w' h.2; first | exact this.1 | exact this.2 | exact this.2.1 | exact this.2.2 | exact this.2.2.1 | exact this.2.2.2
 ·have:=hX w' h.2; first | exact this.1 | exact this.2 | exact this.2.1 | exact this.2.2 | exact this.2.2.1 | exact this.2.2.2
 ·have:=hX w' h.2; first | exact this.1 | exact this.2 | exact this.2.1 | exact this.2.2 | exact this.2.2.1 | exact this.2.2.2
 ·have:=hX w' h.2; first | exact this.1 | exact this.2 | exact this.2.1 | exact this.2.2 | exact this.2.2.1 | exact this.2.2.2
 refine callMut2 pl30 hs (H':=λ _=>dsyB (λ w=>K w/\Agr FF w14 w) b36 (newD p room)) (Φ:=λ _ _=>True) (λ F2 hF2 hfr=>?_) ?_
 ·exact (C30 (λ w=>K w/\Agr FF w14 w) b36 (newD0 p room) p.threads _ tvs F2 _ hF2 (λ w' hc=>⟨hw _ (hfr w' hc).chg,(hfr w' hc).frz⟩) ⟨hr1,hr2⟩ (by have:=hz.locks; show (lockNs p).length<=_; unfold lockNs; rw [List.length_map]; omega) (λ w' hc=>ht1 w' (hw _ (hfr w' hc).chg)) (ht2.mono λ _ h=>h.1)
   (λ _ ht=>⟨thD0_ok hck (List.mem_append_left _ ht),body_bk hck (List.mem_append_left _ ht)⟩) (by have:=hz.threads; omega)).mono λ _ _ r=>r.mono λ _ _ h=>⟨trivial,h.2⟩
 rintro _ _ _ hs;exact .inr (.inr ⟨hce,⟨hr1,hr2⟩,b36,Agr FF w14,rfl,(St.join hs).fresh⟩)
theorem C7 (K:World->Prop) (p:Nat) (m:DSy) (q:TPick) (gc:SV) (F:Nat->Prop) (w:World) (hF:(dsyB K p m).p w F) (hK:∀ w',Chg F w w'->K w') (hmk:DSOk m) (hck:CkD m.p) (hmb:MB m.mem 1000000) (hcb:0<=m.crashes/\m.crashes<=1000000) (hcut:∀ w',Chg F w w'->RdL (λ _=>True) w' (Flat.val gc) q.cut) (hql:q.cut.length<=1000) :
   CR 7 [.pointer (some ⟨p,0,none⟩),Flat.val (⟨q.kind,q.t,q.i,gc⟩:TPickV)] w (λ v w'=>v = .tuple #[Flat.val (doD m q).2.1,.int .i64 (doD m q).2.2]/\Mut F (dsyB K p (doD m q).1) w w'):=by
 have hs:=St.begin hF;refine S7_ok _ _ _ _ ?_;unfold S7;refine eop_boxV (x:=(⟨q.kind,q.t,q.i,gc⟩:TPickV)) hs (λ b3 w1 hs=>eop_allocA hs zero42 (λ b4 _ hs=>?_));have hs:=hs.enc (cs':=Flat.enc (⟨0,0,0,0,0⟩:TEvent)) rfl;refine ⟨λ jv w'=>jv = .bool (crashPD m q).isSome/\St w F [dsyB K p (crD m q),blk b4 (Flat.enc (⟨0,0,0,0,0⟩:TEvent)),blk b3 (Flat.enc (⟨q.kind,q.t,q.i,gc⟩:TPickV))] w',?_,?_⟩
 ·have hs:=hs.drew
  have hno:∀ w',crashPD m q=none->St w F [dsyB K p m,blk b4 (Flat.enc (⟨0,0,0,0,0⟩:TEvent)),blk b3 (Flat.enc (⟨q.kind,q.t,q.i,gc⟩:TPickV))] w'->(Value.bool false = .bool (crashPD m q).isSome/\St w F [dsyB K p (crD m q),blk b4 (Flat.enc (⟨0,0,0,0,0⟩:TEvent)),blk b3 (Flat.enc (⟨q.kind,q.t,q.i,gc⟩:TPickV))] w'):=λ w' h1 h2=>by
   have e:crD m q=m:=by unfold crD; rw [h1]
   rw [h1,e]; exact ⟨rfl,h2⟩
  have hpd:crashPD m q=(if q.kind=3/\q.t=0/\q.i=0/\m.fault=0 then imageM m.mem q.cut else none):=rfl;refine pop_field fld47_0 (qop_blk (v:=.int .i64 q.kind) ty3 hs.p1.hb rfl ?_);refine pop_eql (cond_d (λ c1=>?_) (λ _=>hno _ (by rw [hpd,if_neg (by omega)]) (hs.p2)));refine pop_field fld47_1 (qop_blk (v:=.int .i64 q.t) ty3 hs.p1.hb rfl ?_);refine pop_eql (cond_d (λ c2=>?_) (λ _=>hno _ (by rw [hpd,if_neg (by omega)]) (hs.p2)));refine pop_field fld47_2 (qop_blk (v:=.int .i64 q.i) ty3 hs.p1.hb rfl ?_);refine pop_eql (cond_d (λ c3=>?_) (λ _=>hno _ (by rw [hpd,if_neg (by omega)]) (hs.p2)));have hs:=hs.p2;obtain ⟨a,hu,hs⟩:=dsyB.open hs;have hplen:=hs.p4.rowsPLen
  refine pop_nil (pop_field fld81_8 ?_);refine qop_blk ty3 hs.hb rfl (pop_eql ?_);refine cond_d (λ c4=>?_) (λ _=>hno _ (by rw [hpd,if_neg (by omega)]) (dsyB.shut hu hs));have hpi:crashPD m q=imageM m.mem q.cut:=by rw [hpd,if_pos ⟨c1,c2,c3,c4⟩]
  refine pop_nil (pop_field fld81_4 ?_);refine qop_blk ty78 hs.hb rfl (pop_field fld47_3 ?_);refine qop_blk (v:=Flat.val (gc:SV)) ty45 hs.p6.hb rfl ?_;have hs:=hs.p1;refine callMut2 pl31 hs (H':=λ v=>exH λ m2=>fact (CrashFD m.mem q.cut v m2) (memB a.q a.ov a.fv m2)) (Φ:=λ _ _=>True) (λ F2 hF2 hfr=>?_) ?_
  ·exact (C31 a.q a.ov a.fv m.mem F2 q.cut _ _ hF2 (λ w' hc=>hu.mem _ (hK w' (hfr w' hc).chg)) hmk.mem hmb (λ w' hc=>hcut w' (hfr w' hc).chg) hql).mono λ _ _ r=>r.mono λ _ _ h=>crash_mutD h
  rintro v34 _ _ hs9;obtain ⟨m2c,hs8⟩:=hs9.openEx
  clear hs9
  obtain ⟨hcf,hs7⟩:=hs8.openF
  clear hs8
  rcases hcf with ⟨him,rfl,rfl⟩ | ⟨img,him,rfl,rfl⟩
  ·have hs:=hs7;exact pop_eql (have hs:=hs.p4.p4.p4.p3.p4;hno _ (hpi.trans him) (dsyB.shut hu hs))
  have hs:=hs7;refine pop_eql ?_;have hcr:=hpi.trans him;have e:crD m q={m with mem:=crashM m.mem img}:=by unfold crD; rw [hcr]
  rw [hcr,e];have hs:=hs.p4.p4.p4.p3.p4;exact ⟨rfl,dsyB.shut (m:={m with mem:=crashM m.mem img}) ⟨hu.pr,hu.cs,hu.ks,hu.mem,hu.rc⟩ hs⟩
 rintro _ _ ⟨rfl,hs⟩ _;refine cond_b (λ c=>?_) (λ c=>?_)
 ·obtain ⟨img,hcr⟩:=Option.isSome_iff_exists.1 c;have e:crD m q={m with mem:=crashM m.mem img}:=by unfold crD; rw [hcr]
  have hdo:doD m q=(beginD (crashSD m img) (recD m),⟨15,0,0,numTo q.cut q.cut.length,0⟩,0):=by unfold doD; rw [hcr]
  rw [e] at hs;rw [hdo];obtain ⟨a,hu,hs⟩:=dsyB.open hs;have hplen:=hs.p4.rowsPLen;refine pop_nil (pop_field fld81_7 ?_);refine qop_blk ty3 hs.hb rfl (pop_add (show -9223372036854775808<=m.crashes+1/\m.crashes+1<=9223372036854775807 by omega) ?_);refine pop_nil (pop_field fld81_7 ?_);refine uop_blk hs ty3 (leb rfl) rfl (λ _ hs=>?_);obtain ⟨tvr,hr3,hr4⟩:=id hu.rc;have hrl:=hr4.1;refine pop_nil (pop_field fld81_0 ?_);refine pop_field fld40_4 (qop_blk ty35 hs.hb rfl ?_);have hs:=(dsyB.shut (m:=crashSD m img) ⟨hu.pr,hu.cs,hu.ks,hu.mem,hu.rc⟩ hs.p4.p4.p4.p4.p4).p2;have hs:=hs.p2.p2;refine ⟨λ jv w'=>∃ tvs,ThsK K tvs (recD m)/\St w F [frz (λ w=>K w->RdL (λ _=>True) w jv tvs),dsyB K p (crashSD m img),blk b4 (Flat.enc (⟨0,0,0,0,0⟩:TEvent)),blk b3 (Flat.enc (⟨q.kind,q.t,q.i,gc⟩:TPickV))] w',?_,?_⟩
  ·refine pop_len sl35 (hr3 _ (hK _ hs.chg)) (pop_eql (cond_d (λ c2=>?_) (λ c2=>?_)))
   ·refine pop (v:=Flat.val (⟨⟨#[]⟩,⟨none,0,0⟩,⟨none,0,0⟩,0⟩:TThreadV)) (by kernel_rfl) (eop_build (([⟨⟨#[]⟩,⟨none,0,0⟩,⟨none,0,0⟩,0⟩]:List TThreadV)) hs sl35 rfl rfl (leb rfl) (λ s54 _ hs=>?_));refine ⟨_,?_,(hs.freeze).frzMono (Ψ:=λ w=>K w->RdL (λ _=>True) w s54 [(⟨⟨#[]⟩,⟨none,0,0⟩,⟨none,0,0⟩,0⟩:TThreadV)]) λ _ h _=>h⟩;have hrd:recD m=[⟨⟨#[]⟩,[],[],0⟩]:=by unfold recD; rw [if_pos (by have:tvr.length=m.p.recover.length:=hrl; omega)]
    rw [hrd]; exact zth_K K
   have hrd:recD m=m.p.recover:=by unfold recD; rw [if_neg (by have:tvr.length=m.p.recover.length:=hrl; omega)]
   exact ⟨tvr,by rw [hrd]; exact hr4,hs.frzNil λ w h=>hr3 w h⟩
  rintro rv _ ⟨tvs,htv,hs⟩ _;obtain ⟨hrc1,hrc2⟩:=recD_ok hck;refine callMut2 pl30 hs.p1 (H':=λ _=>dsyB K p (beginD (crashSD m img) (recD m))) (Φ:=λ _ _=>True) (λ F2 hF2 hfr=>?_) ?_
  ·refine (C30 K p (crashSD m img) (recD m) _ tvs F2 _ hF2 (λ w' hc=>hK w' (hfr w' hc).chg) hmk.rm (by have:=hmk.pz.locks; show (lockNs m.p).length<=_; unfold lockNs; rw [List.length_map]; omega) (λ w' hc=>(hfr w' hc).frz (hK w' (hfr w' hc).chg)) htv (λ t ht=>⟨hrc2 t ht,?_⟩) (by omega)).mono λ _ _ r=>r.mono λ _ _ h=>⟨trivial,h.2⟩;unfold recD at ht
   split at ht
   ·rw [List.mem_singleton.1 ht]; rfl
   exact body_bk hck (List.mem_append_right _ ht)
  rintro _ _ _ hs;exact pop_field fld47_3 (qop_blk (v:=Flat.val (gc:SV)) ty45 hs.p3.hb rfl (callP pl32 hs (C32 _ q.cut _ (hcut _ hs.chg) (by omega)) (λ _ _ hs=>pop (bld42_0_3 15 (numTo q.cut q.cut.length)) (uop_blkV (x:=(⟨15,0,0,numTo q.cut q.cut.length,0⟩:TEvent)) hs.p2 ty42 rfl rfl (λ _ hs=>qop_at ty42 hs.At ⟨rfl,((hs.p3.drop.drop).p1.drop).mut⟩)))))
 have hcr:crashPD m q=none:=by
  cases h:crashPD m q with
  | none=>rfl
  | some img=>rw [h] at c; cases c
 have e:crD m q=m:=by unfold crD; rw [hcr]
 have hdo:doD m q=(if (picksD m).any (sameP q)=true then (if q.kind=2 then (match m.l[q.t.toNat]? with | some t=>((outD m t q,outE q.t (takeX t.buf q.i),0):DSy × TEvent × Int) | none=>(m,⟨0,0,0,0,0⟩,13)) else ((stepD m q.t).1,(stepD m q.t).2,0)) else (m,⟨0,0,0,0,0⟩,13)):=by unfold doD; rw [hcr]; rfl
 rw [e] at hs;refine callN pl13 hs (C13 K p m _ hs.has (λ _ e=>hK _ (hs.chg.then e)) hmk) (λ x64 _ hnew hs=>?_);have hpk:=hs.p3.At
 have hfn:FnOnD Tryz.prog _ (.func (.func 33) [].toArray [.pointer (some ⟨b3,0,none⟩)].toArray) (λ _:TPick=>True) (sameP q):=
  ⟨33,[],_,rfl,pl33,λ sx y w1 e1 hd2 _=>C33 y q sx b3 (⟨q.kind,q.t,q.i,gc⟩:TPickV) w1 hd2 (hpk.ext e1) ⟨gc,rfl,DL.unflat (hcut _ (hs.chg.then e1))⟩⟩
 refine callP pl34 hs (C34 _ _ _ (λ _=>True) _ _ (hs).dl hfn (λ _ _=>trivial) (by have:=picksD_len hmk; omega)) (λ _ he hs=>?_);have hs:=hs.drop;refine pop_not (cond_b (λ c2=>?_) (λ c2=>?_))
 ·rw [hdo,if_neg (by simpa using c2)];exact pop (bld42_) (uop_blkV (x:=(⟨0,0,0,0,0⟩:TEvent)) hs.p1 ty42 rfl rfl (λ _ hs=>qop_at ty42 hs.At ⟨rfl,(hs.drop.p1.drop).mut⟩))
 have hany:(picksD m).any (sameP q)=true:=by simpa using c2
 obtain ⟨hf0,h0,_,t,ht,hkd⟩:=anyD hany;rw [hdo,if_pos hany];refine pop_field fld47_0 (qop_blk (v:=.int .i64 q.kind) ty3 hs.p2.hb rfl ?_);refine pop_eql (cond_d (λ c3=>?_) (λ c3=>?_))
 ·rw [if_pos c3,ht];refine qop_at ty47 hs.p2.At (callMut2 pl35 hs (H':=λ _=>dsyB K p (outD m t q)) (Φ:=λ v _=>v=Flat.val (outE q.t (takeX t.buf q.i))) (λ F2 hF2 hfr=>?_) ?_)
  ·exact C35 K p m q gc t F2 _ hF2 (λ w' hc=>hK w' (hfr w' hc).chg) hmk hmb h0 ht
  rintro _ _ rfl hs;exact uop_blkV (x:=outE q.t (takeX t.buf q.i)) hs.p1 ty42 rfl rfl (λ _ hs=>qop_at ty42 hs.At ⟨rfl,(hs.drop.p1.drop).mut⟩)
 rw [if_neg c3]
 have hcan:canD m t=true:=by
  rcases hkd with h | h
  ·exact h.2
  ·exact absurd h.1 c3
 refine pop_field fld47_1 (qop_blk (v:=.int .i64 q.t) ty3 hs.p2.hb rfl ?_);refine callMut2 pl36 hs (H':=λ _=>dsyB K p (stepD m q.t).1) (Φ:=λ v _=>v=Flat.val (stepD m q.t).2) (λ F2 hF2 hfr=>?_) ?_
 ·exact C36 K p m q.t t F2 _ hF2 (λ w' hc=>hK w' (hfr w' hc).chg) hmk hmb h0 ht (λ _=>canD_top hcan)
 rintro _ _ rfl hs;exact uop_blkV (x:=(stepD m q.t).2) hs.p1 ty42 rfl rfl (λ _ hs=>qop_at ty42 hs.At ⟨rfl,(hs.drop.p1.drop).mut⟩)
theorem C88 (sv:Value) (ps:List Ptr) (g0:Nat) (first cap:List Value) (g:Nat->Bool) (w:World) (hL:RdL (λ _=>True) w sv ps) (hpl:Plain Tryz.prog g0) (hcall:∀ (i:Nat) (s:Ptr) (w1:World),ps[i]? = some s->Ext w w1->Calls Tryz.prog g0 (first++[Flat.val s]++cap).toArray w1 (Ret λ v w2=>v = .bool (g i)/\Ext w1 w2)) (hn:ps.length<=1073741824):CR 88 [sv,(.func (.func g0) first.toArray cap.toArray)] w (λ v w'=>v = .int .i64 (idxF g (List.range ps.length))/\Ext w w'):=by
 have hs:=St.start w;refine S88_ok _ _ _ _ ?_;unfold S88;refine pop_len sl79 (hL.ext hs.chg) ?_;refine ⟨λ mm y w1=>∃ k:Nat,y = .int .i64 (k:Int)/\mm=ps.length - k/\k<=ps.length/\(∀ y∈(List.range ps.length).take k,g y=false)/\St w none1 [] w1,⟨_,0,rfl,rfl,Nat.zero_le _,by simp,hs⟩,?_⟩;rintro mm _ w1 ⟨k,rfl,rfl,hk,hno,hs⟩ _;refine pop_lss (cond_d (λ c1=>?_) (λ _=>⟨congrArg (Value.int .i64) (idxF_none (by rw [List.take_of_length_le (by rw [List.length_range]; omega)] at hno; exact hno)).symm,hs.chg⟩));obtain ⟨e,he⟩:∃ e,ps[((k:Nat):Int).toNat]? = some e:=⟨_,List.getElem?_eq_getElem (by omega)⟩;refine pop_idx sl79 (hL.ext hs.chg) (by omega) he (λ q hq=>qop_at ty94 hq ?_)
 refine callV hpl (hcall k e w1 he hs.chg) ?_;rintro _ w2 ⟨rfl,h2⟩;have hs:=hs.ext h2;exact cond_b (λ c2=>⟨congrArg (Value.int .i64) (idxF_at hno (List.getElem?_range (by omega)) c2).symm,hs.chg⟩) (λ c2=>pop_add (by omega) ⟨_,by omega,k+1,rfl,rfl,by omega,take_all hno (List.getElem?_range (by omega)) c2,hs⟩)
theorem C39 (sv:Value) (ps:List Ptr) (g0:Nat) (first cap:List Value) (g:Nat->Bool) (w:World) (hL:RdL (λ _=>True) w sv ps) (hpl:Plain Tryz.prog g0) (hcall:∀ (i:Nat) (s:Ptr) (w1:World),ps[i]? = some s->Ext w w1->Calls Tryz.prog g0 (first++[Flat.val s]++cap).toArray w1 (Ret λ v w2=>v = .bool (g i)/\Ext w1 w2)) (hn:ps.length<=1073741824):CR 39 [sv,(.func (.func g0) first.toArray cap.toArray)] w (λ v w'=>v = .bool ((List.range ps.length).any g)/\Ext w w'):=by
 have hs:=St.start w;refine S39_ok _ _ _ _ ?_;unfold S39;exact callP pl88 hs (C88 _ ps g0 first cap g _ (hL.ext hs.chg) hpl (λ i s w1 h e=>hcall i s w1 h (hs.chg.then e)) hn) (λ _ _ hs=>pop_geq ⟨vb (idxF_any _ _),hs.chg⟩)
theorem C37 (K Φ:World->Prop) (p:Nat) (room:Int) (t:DTh) (w:World) (hh:Has (dthX K Φ p room t) w) (hpk:K w) (hbl:t.buf.length<=1000):CR 37 [.pointer (some ⟨p,0,none⟩)] w (λ v w'=>v = .bool (!doneTD t)/\Ext w w'):=by
 obtain ⟨bp,nv,rg,pl,es,hk,hblk,hB,hrg,hpl,hprd,_⟩:=dthX.rd hh;have ct3:=hblk.cell (o:=3) rfl;have hln:=hprd.len;have hpe:=peV_len es;have hs:=St.start w;refine S37_ok _ _ _ ?_;unfold S37;refine ⟨λ jv w'=>jv = .bool (!doneTD t)/\Ext w w',?_,?_⟩
 ·exact pop_nil (pop_field fld97_3 (qop_cell ty95 (ct3.ext hs.chg) (pop_len sl95 (hpl.ext hs.chg) (pop_gtr (cond_d (λ _=>⟨vb (by unfold doneTD; rw [decide_eq_false (show ¬ t.pile.length=0 from by omega)]; rfl),hs.chg⟩) (λ _=>callP pl38 hs (C38 K Φ p room t _ (hh.ext hs.chg) hbl) (λ _ _ hs=>pop_not ⟨vb (by unfold doneTD; rw [decide_eq_true (show t.pile.length=0 from by omega),Bool.true_and]),hs.chg⟩)))))))
 rintro _ _ h _;exact h
theorem C8 (K:World->Prop) (p:Nat) (m:DSy) (w:World) (hm:Has (dsyB K p m) w) (hw:∀ w',Ext w w'->K w') (hmk:DSOk m):CR 8 [.pointer (some ⟨p,0,none⟩)] w (λ v w'=>v=Flat.val (statusD m)/\Ext w w'):=by
 obtain ⟨a,hr⟩:=dsyB.rd hm (hw _ (Ext.refl _));have cm11:=hr.b.cell (o:=11) rfl;have cm12:=hr.b.cell (o:=12) rfl;have cm13:=hr.b.cell (o:=13) rfl;have cm14:=hr.b.cell (o:=14) rfl;have hlen:=hr.len;have htl:=hmk.tl;have hs:=St.start w;refine S8_ok _ _ _ ?_;unfold S8;refine eop_allocA hs zero49 (λ b2 w1 hs=>?_);have hs:=(hs.enc (cs':=Flat.enc (⟨0,0,0,false,false⟩:TStatus)) rfl).drew;refine pop_nil (pop_field fld81_7 ?_);refine qop_cell ty3 (cm12.ext hs.chg) (pop_nil ?_);refine pop_field fld81_8 (qop_cell ty3 (cm13.ext hs.chg) ?_);refine pop_nil (pop_field fld81_9 ?_);refine qop_cell ty3 (cm14.ext hs.chg) (pop (bld49_0_1_2 m.crashes m.fault m.faulty) ?_);refine eop_allocA hs zero49 (λ b4 _ hs=>?_)
 refine ⟨run_loadOne ty3 (cm12.ext hs.chg),?_⟩;refine ⟨run_loadOne ty3 (cm13.ext hs.chg),?_⟩;refine ⟨run_loadOne ty3 (cm14.ext hs.chg),?_⟩;refine uop_blkV (x:=(⟨m.crashes,m.fault,m.faulty,false,false⟩:TStatus)) hs ty49 rfl rfl (λ _ hs=>?_);refine ⟨λ w'=>St w none1 [blk b4 (Flat.enc (⟨m.crashes,m.fault,m.faulty,doneD m,false⟩:TStatus)),blk b2 (Flat.enc (⟨0,0,0,false,false⟩:TStatus))] w',?_,?_⟩
 ·refine pop_nil (pop_field fld81_8 (qop_cell ty3 (cm13.ext hs.chg) (pop_eql (cond_d (λ c1=>?_) (λ c1=>?_)))))
  ·refine pop_nil (pop_field fld81_6 ?_);refine qop_cell ty79 (cm11.ext hs.chg) ?_
   refine callP pl39 hs (C39 _ a.ps 37 [] [] (λ i=>match m.l[i]? with | some t=>!doneTD t | none=>false) _ (hr.ll.ext hs.chg) pl37 (λ i s w1 h e=>by
    obtain ⟨t,ht⟩:∃ t,m.l[i]? = some t:=⟨_,List.getElem?_eq_getElem (by have:=(List.getElem?_eq_some_iff.1 h).1; omega)⟩;rw [ht];exact C37 K _ s.b m.room t w1 ((hr.th i s t h ht).ext (hs.chg.then e)) (hw _ (hs.chg.then e)) (hmk.th t (List.mem_of_getElem? ht)).bl) (by omega)) (λ _ he hs=>?_)
   refine pop_not (pop_field fld49_3 ?_);refine uop_blk hs ty4 (leb rfl) rfl (λ w5 hs=>?_);have hdm:doneD m = !((List.range a.ps.length).any (λ i=>match m.l[i]? with | some t=>!doneTD t | none=>false)):=by unfold doneD; rw [decide_eq_true c1,hr.len]; rfl
   rw [hdm];exact hs
  refine pop_field fld49_3 (uop_blk hs ty4 (leb rfl) rfl (λ w5 hs=>?_));have hdm:doneD m=false:=by unfold doneD; rw [decide_eq_false c1]; rfl
  rw [hdm];exact hs
 intro _ hs _
 have hend:∀ (b:Bool) (w':World),stuckD m=b->St w none1 [blk b4 (Flat.enc (⟨m.crashes,m.fault,m.faulty,doneD m,b⟩:TStatus)),blk b2 (Flat.enc (⟨0,0,0,false,false⟩:TStatus))] w'->St w none1 [blk b4 (Flat.enc (statusD m)),blk b2 (Flat.enc (⟨0,0,0,false,false⟩:TStatus))] w':=λ b w' h1 h2=>by
  subst h1; exact h2
 refine ⟨λ w'=>St w none1 [blk b4 (Flat.enc (statusD m)),blk b2 (Flat.enc (⟨0,0,0,false,false⟩:TStatus))] w',?_,?_⟩
 ·refine pop_nil (pop_field fld81_8 ?_);refine qop_cell ty3 (cm13.ext hs.chg) (pop_eql ?_);refine cond_d (λ c1=>?_) (λ c1=>?_);rotate_left
  ·exact pop_field fld49_4 (uop_blk hs ty4 (leb rfl) rfl (λ _ hs=>hend false _ (by unfold stuckD; rw [decide_eq_false c1]; rfl) hs))
  refine pop_field fld49_3 (qop_blk (v:=.bool (doneD m)) ty4 hs.hb rfl ?_);refine pop_not (cond_b (λ c2=>?_) (λ c2=>?_));rotate_left
  ·exact pop_field fld49_4 (uop_blk hs ty4 (leb rfl) rfl (λ _ hs=>hend false _ (by unfold stuckD; rw [show doneD m=true from by simpa using c2]; simp) hs))
  refine callN pl13 hs (C13 K p m _ (hm.ext hs.chg) (λ _ e=>hw _ (hs.chg.then e)) hmk) (λ x45 w7 hnew hs=>?_);obtain ⟨xs45,hrx45,hxl45⟩:=(hs).dl;refine pop_len sl55 hrx45 ?_;rw [show xs45.length=(picksD m).length from hxl45.1];exact pop_eql (have hs:=hs.drop;pop_field fld49_4 (uop_blk hs ty4 (leb rfl) rfl (λ _ hs=>hend (decide (((picksD m).length:Int)=0)) _ (by unfold stuckD; rw [decide_eq_true c1,show doneD m=false from by simpa using c2]; rfl) hs)))
 intro _ hs _;exact qop_at (x:=statusD m) ty49 hs.At (uop_blkV (x:=statusD m) hs.p1 ty49 rfl rfl (λ _ hs=>qop_at ty49 hs.At ⟨rfl,hs.drop.drop.chg⟩))
theorem actD_cr (m:DSy) (t:DTh) (i:Int) (x:TStmt):(actD m t i x).1.crashes=m.crashes:=by
 unfold actD
 repeat' split
 all_goals first | rfl | (unfold casD; split <;> rfl)
theorem stepD_cr (m:DSy) (i:Int):(stepD m i).1.crashes=m.crashes:=by
 unfold stepD
 repeat' split
 all_goals first | rfl | exact actD_cr _ _ _ _
theorem doD_cr (m:DSy) (q:TPick):m.crashes<=(doD m q).1.crashes/\(doD m q).1.crashes<=m.crashes+1:=by
 unfold doD
 split
 ·show m.crashes<=m.crashes+1/\m.crashes+1<=m.crashes+1; omega
 split
 ·split
  ·split <;> (show m.crashes<=m.crashes/\m.crashes<=m.crashes+1) <;> omega
  show m.crashes<=(stepD m q.t).1.crashes/\(stepD m q.t).1.crashes<=_; rw [stepD_cr]; omega
 show m.crashes<=m.crashes/\m.crashes<=m.crashes+1; omega
structure GoOk (p:TProg) (n:Nat) (m:DSy):Prop where
 ok:DSOk m
 pr:m.p=p
 mb:MB m.mem n
 cr:0<=m.crashes/\m.crashes<=n
theorem GoOk.step {p:TProg} {n:Nat} {m:DSy} {q:TPick} (h:GoOk p n m) (hc:CkD p):GoOk p (n+1) (doD m q).1:=by
 obtain ⟨h1,h2,h3⟩:=doD_ok (q:=q) h.ok (h.pr▸hc)
 have h4:=doD_cr m q
 have h5:=h.cr
 exact ⟨h1,h2.trans h.pr,h3 _ h.mb,by omega,by omega⟩
theorem GoOk.new {p:TProg} {room:Int} (hz:PZ p) (hc:CkD p) (hr:1<=room/\room<=16):GoOk p 0 (newD p room):=
 ⟨newD_ok hz hc hr,rfl,λ k=>Nat.le_of_eq rfl,Int.le_refl 0,Int.le_refl 0⟩
def sR:ByteArray:=⟨#[114]⟩
def eqP (n:Int):List TNode:=[⟨10,0,⟨#[]⟩,0⟩,⟨2,0,sR,0⟩,⟨1,n,⟨#[]⟩,0⟩]
def bodyP (a b:Int):List TStmt:=[⟨12,⟨#[]⟩,⟨#[]⟩,[],[],a,4,0,0⟩,⟨1,sR,⟨#[]⟩,[⟨5,0,⟨#[]⟩,0⟩,⟨2,0,sR,0⟩,⟨1,1,⟨#[]⟩,0⟩],[],0,0,0,0⟩,⟨8,⟨#[]⟩,⟨#[]⟩,[],[],0,0,0,0⟩,
 ⟨11,⟨#[]⟩,⟨#[]⟩,eqP b,[],0,1,0,0⟩,⟨13,⟨#[]⟩,⟨#[]⟩,[],[],0,0,0,0⟩,⟨14,⟨#[]⟩,⟨#[]⟩,eqP (min a b),[],0,0,0,0⟩]
def loopP (a b:Int):TProg:=⟨[],[],[],[⟨⟨#[116]⟩,[sR],bodyP a b,0⟩],[],[]⟩
def yieldE:TEvent:=⟨7,0,0,0,0⟩
def loopL:Nat->DSy->Int->Option (DSy × Int)
 | 0,m,c=>some (m,c)
 | n+1,m,c=>if (doD m ⟨1,0,0,[]⟩).2.2≠0 then some ((doD m ⟨1,0,0,[]⟩).1,c)
  else if (doD m ⟨1,0,0,[]⟩).2.1=yieldE then loopL n (doD m ⟨1,0,0,[]⟩).1 (c+1) else none
def loopOk (a b:Int):Bool:=decide (checkE (loopP a b)=0) && match loopL 20 (newD (loopP a b) 1) 0 with
 | some (m,c)=>decide (c=min a b) && decide (statusD m=⟨0,0,0,true,false⟩)
 | none=>false
set_option maxRecDepth 100000 in
theorem loops_all:((List.range 8).all λ i=>(List.range 9).all λ j=>loopOk ((i:Int)+1) ((j:Int)+1))=true:=by kernel_rfl
theorem loops_ok {a b:Int} (ha:1<=a/\a<=8) (hb:1<=b/\b<=9):loopOk a b=true:=by
 have h:=loops_all
 rw [List.all_eq_true] at h
 have h1:=h (a - 1).toNat (List.mem_range.2 (by omega))
 rw [List.all_eq_true] at h1
 have h2:=h1 (b - 1).toNat (List.mem_range.2 (by omega))
 rw [show (((a - 1).toNat:Nat):Int)+1=a from by omega,show (((b - 1).toNat:Nat):Int)+1=b from by omega] at h2
 exact h2
theorem loops_spec {a b:Int} (ha:1<=a/\a<=8) (hb:1<=b/\b<=9):checkE (loopP a b)=0/\∃ m,loopL 20 (newD (loopP a b) 1) 0=some (m,min a b)/\statusD m=⟨0,0,0,true,false⟩:=by
 have h:=loops_ok ha hb
 unfold loopOk at h
 rw [Bool.and_eq_true,decide_eq_true_eq] at h
 obtain ⟨h1,h2⟩:=h
 refine ⟨h1,?_⟩
 split at h2
 ·rename_i m c he
  rw [Bool.and_eq_true,decide_eq_true_eq,decide_eq_true_eq] at h2
  obtain ⟨rfl,h3⟩:=h2
  exact ⟨m,he,h3⟩
 cases h2
def szBA (s:ByteArray):Bool:=Nat.ble s.size 1048576
def szE (l:List TNode):Bool:=Nat.ble l.length 1048576 && l.all λ y=>szBA y.name
def szSb (x:TStmt):Bool:=szBA x.reg && (szBA x.name && (szE x.e && szE x.f))
theorem szE_ok {l:List TNode} (h:szE l=true):l.length<=1048576/\∀ y∈l,y.name.size<=1048576:=by
 unfold szE at h
 rw [Bool.and_eq_true,List.all_eq_true] at h
 exact ⟨leb h.1,λ y hy=>leb (h.2 y hy)⟩
theorem szSb_ok {x:TStmt} (h:szSb x=true):SzS x:=by
 unfold szSb at h
 rw [Bool.and_eq_true,Bool.and_eq_true,Bool.and_eq_true] at h
 obtain ⟨h1,h2,h3,h4⟩:=h
 exact ⟨leb h1,leb h2,(szE_ok h3).1,(szE_ok h4).1,(szE_ok h3).2,(szE_ok h4).2⟩
theorem loopP_z {a b:Int}:PZ (loopP a b):=by
 refine ⟨⟨leb rfl,λ l h=>(by cases h),leb rfl,leb rfl,leb rfl,leb rfl,leb rfl,λ t ht=>?_,λ t ht=>?_⟩,λ l h=>(by cases h),λ l h=>(by cases h),λ l h=>(by cases h),λ t ht=>?_,λ t h=>(by cases h),λ t h=>(by cases h)⟩
 ·rw [List.mem_singleton.1 ht]; exact leb rfl
 ·rw [List.mem_singleton.1 ht]; exact leb rfl
 rw [List.mem_singleton.1 ht]
 refine ⟨leb rfl,λ s hs=>?_,λ x hx=>szSb_ok ?_⟩
 ·rw [List.mem_singleton.1 hs]; exact leb rfl
 have h:(bodyP a b).all szSb=true:=rfl
 exact List.all_eq_true.1 h x hx
theorem eqEv (x y:TEvent):eqAll (Flat.enc x) (Flat.enc y)=decide (x=y):=by
 obtain ⟨a,b,c,d,e⟩:=x
 obtain ⟨a2,b2,c2,d2,e2⟩:=y
 rw [show eqAll (Flat.enc (⟨a,b,c,d,e⟩:TEvent)) (Flat.enc (⟨a2,b2,c2,d2,e2⟩:TEvent))=(decide (a=a2) && (decide (b=b2) && (decide (c=c2) && (decide (d=d2) && (decide (e=e2) && true))))) from rfl]
 simp only [TEvent.mk.injEq,Bool.decide_and,Bool.and_true]
theorem eqSt (x y:TStatus):eqAll (Flat.enc x) (Flat.enc y)=decide (x=y):=by
 obtain ⟨a,b,c,d,e⟩:=x
 obtain ⟨a2,b2,c2,d2,e2⟩:=y
 rw [show eqAll (Flat.enc (⟨a,b,c,d,e⟩:TStatus)) (Flat.enc (⟨a2,b2,c2,d2,e2⟩:TStatus))=(decide (a=a2) && (decide (b=b2) && (decide (c=c2) && ((d == d2) && ((e == e2) && true))))) from rfl]
 simp only [TStatus.mk.injEq,Bool.decide_and,Bool.and_true,<- Bool.beq_eq_decide_eq]
variable (w:World) (K:Value->World->Prop)
def S3 (n0 k1:Value):Prop:=
 bB .and 3 n0 (i 7) λ a=>bC .add 3 (i 1) a λ b=>bB .and 3 k1 (i 65535) λ c=>bB .rem 3 c (i 9) λ d=>bC .add 3 (i 1) d λ e=>Pop Tryz.prog (Instr.build 24 [(0,(i 12)),(5,b),(6,(i 4))].toArray) λ f=>
 Pop Tryz.prog (Instr.build 26 [(0,(i 5))].toArray) λ g=>Pop Tryz.prog (Instr.build 26 [(0,(i 2)),(2,(Go.Value.string (ByteArray.mk (#[114]))))].toArray) λ h=>Pop Tryz.prog (Instr.build 26 [(0,(i 1)),(1,(i 1))].toArray) λ j=>
 bS 22 3 [(0,g),(1,h),(2,j)] w λ k l=>Pop Tryz.prog (Instr.build 24 [(0,(i 1)),(1,(Go.Value.string (ByteArray.mk (#[114])))),(3,k)].toArray) λ n=>Pop Tryz.prog (Instr.build 24 [(0,(i 8))].toArray) λ o=>
 Pop Tryz.prog (Instr.build 26 [(0,(i 10))].toArray) λ p=>Pop Tryz.prog (Instr.build 26 [(0,(i 2)),(2,(Go.Value.string (ByteArray.mk (#[114]))))].toArray) λ q=>Pop Tryz.prog (Instr.build 26 [(0,(i 1)),(1,e)].toArray) λ r=>
 bS 22 3 [(0,p),(1,q),(2,r)] l λ s t=>Pop Tryz.prog (Instr.build 24 [(0,(i 11)),(3,s),(6,(i 1))].toArray) λ u=>Pop Tryz.prog (Instr.build 24 [(0,(i 13))].toArray) λ v=>
 Pop Tryz.prog (Instr.build 26 [(0,(i 10))].toArray) λ x=>Pop Tryz.prog (Instr.build 26 [(0,(i 2)),(2,(Go.Value.string (ByteArray.mk (#[114]))))].toArray) λ y=>Pop Tryz.prog (Builtin.min_ #[3,3] 3 [b,e].toArray) λ z=>
 Pop Tryz.prog (Instr.build 26 [(0,(i 1)),(1,z)].toArray) λ aa=>bS 22 3 [(0,x),(1,y),(2,aa)] t λ ab ac=>Pop Tryz.prog (Instr.build 24 [(0,(i 14)),(3,ab)].toArray) λ ad=>
 bS 27 6 [(0,f),(1,n),(2,o),(3,u),(4,v),(5,ad)] ac λ ae af=>bS 32 1 [(0,(Go.Value.string (ByteArray.mk (#[114]))))] af λ ag ah=>Pop Tryz.prog (Instr.build 34 [(0,(Go.Value.string (ByteArray.mk (#[116])))),(1,ag),(2,ae)].toArray) λ ai=>
 bS 35 1 [(0,ai)] ah λ aj ak=>Pop Tryz.prog (Instr.build 40 [(3,aj)].toArray) λ al=>cF 6 [al,(i 1)] ak λ am an=>xT am 0 λ ao=>xT am 1 λ ap=>Join1 (λ K1=>bB .eql 28 ao (.pointer none) λ aq=>
 cV aq (K1 tt an) (bB .neq 29 ap (i 0) λ ar=>K1 ar an)) (λ asx au=>∀ _:Env,
 cV asx (K ff au) (Join1 (λ K2=>Loop2 (λ K3 count10 i11 av=>∀ _:Env,
 bB .lss 3 i11 (i 20) λ aw=>cV aw (Pop Tryz.prog (Instr.build 47 [(0,(i 1))].toArray) λ ax=>cF 7 [ao,ax] av λ ay az=>xT ay 0 λ a0=>xT ay 1 λ a1=>aL 42 az λ v12 a2=>
 sA 42 v12 a0 a2 λ a3=>bB .neq 29 a1 (i 0) λ a4=>cV a4 (K2 count10 a3) (lA 42 v12 a3 λ a5=>Pop Tryz.prog (Instr.build 42 [(0,(i 7))].toArray) λ a6=>bA .neq 42 a5 a6 λ a7=>
 cV a7 (K ff a3) (bB .add 3 count10 (i 1) λ a8=>bB .add 3 i11 (i 1) λ a9=>K3 a8 a9 a3))) (K2 count10 av)) (λ K3=>K3 (i 0) (i 0) au)) (λ count10_1 ba=>∀ _:Env,
 Join1 (λ K4=>Pop Tryz.prog (Builtin.min_ #[3,3] 3 [b,e].toArray) λ bb=>bA .eql 3 count10_1 bb λ bc=>cV bc (cF 8 [ao] ba λ bd be=>Pop Tryz.prog (Instr.build 49 [(3,tt)].toArray) λ bf=>
 bA .eql 49 bd bf λ bg=>cV bg (cF 9 [] be λ bh bi=>K4 bh bi) (K4 ff be)) (K4 ff ba)) (λ bj bk=>∀ _:Env,
 K bj bk))))
theorem S3_ok (n0 k1:Value) (h:S3 w K n0 k1):CR 3 [n0,k1] w K:=
 okG 91 (λ _=>.nil) 16 [.tmp 4] Tryz.func3 h
end Go.Proofs.YtfkgkbhbdffckaaGreatDoor
namespace Go.Proofs.YtfkgkbhbdffckaaGreatDoor
open Go.Fw
theorem bld24_0 (a0:Int):pr Tryz.prog (Instr.build 24 [(0,.int .i64 a0)].toArray)=some (.agg [.int .i64 a0,.string ⟨#[]⟩,.string ⟨#[]⟩,.slice none 0 0,.slice none 0 0,.int .i64 0,.int .i64 0,.int .i64 0,.int .i64 0].toArray):=by kernel_rfl
theorem bld24_0_1_3 (a0:Int) (a1:ByteArray) (a3:Option Addr) (n3 c3:Nat):pr Tryz.prog (Instr.build 24 [(0,.int .i64 a0),(1,.string a1),(3,.slice a3 n3 c3)].toArray)=some (.agg [.int .i64 a0,.string a1,.string ⟨#[]⟩,.slice a3 n3 c3,.slice none 0 0,.int .i64 0,.int .i64 0,.int .i64 0,.int .i64 0].toArray):=by kernel_rfl
theorem bld24_0_3 (a0:Int) (a3:Option Addr) (n3 c3:Nat):pr Tryz.prog (Instr.build 24 [(0,.int .i64 a0),(3,.slice a3 n3 c3)].toArray)=some (.agg [.int .i64 a0,.string ⟨#[]⟩,.string ⟨#[]⟩,.slice a3 n3 c3,.slice none 0 0,.int .i64 0,.int .i64 0,.int .i64 0,.int .i64 0].toArray):=by kernel_rfl
theorem bld24_0_3_6 (a0:Int) (a3:Option Addr) (n3 c3:Nat) (a6:Int):pr Tryz.prog (Instr.build 24 [(0,.int .i64 a0),(3,.slice a3 n3 c3),(6,.int .i64 a6)].toArray)=some (.agg [.int .i64 a0,.string ⟨#[]⟩,.string ⟨#[]⟩,.slice a3 n3 c3,.slice none 0 0,.int .i64 0,.int .i64 a6,.int .i64 0,.int .i64 0].toArray):=by kernel_rfl
theorem bld24_0_5_6 (a0:Int) (a5:Int) (a6:Int):pr Tryz.prog (Instr.build 24 [(0,.int .i64 a0),(5,.int .i64 a5),(6,.int .i64 a6)].toArray)=some (.agg [.int .i64 a0,.string ⟨#[]⟩,.string ⟨#[]⟩,.slice none 0 0,.slice none 0 0,.int .i64 a5,.int .i64 a6,.int .i64 0,.int .i64 0].toArray):=by kernel_rfl
theorem bld26_0 (a0:Int):pr Tryz.prog (Instr.build 26 [(0,.int .i64 a0)].toArray)=some (.agg [.int .i64 a0,.int .i64 0,.string ⟨#[]⟩,.int .i64 0].toArray):=by kernel_rfl
theorem bld26_0_1 (a0:Int) (a1:Int):pr Tryz.prog (Instr.build 26 [(0,.int .i64 a0),(1,.int .i64 a1)].toArray)=some (.agg [.int .i64 a0,.int .i64 a1,.string ⟨#[]⟩,.int .i64 0].toArray):=by kernel_rfl
theorem bld26_0_2 (a0:Int) (a2:ByteArray):pr Tryz.prog (Instr.build 26 [(0,.int .i64 a0),(2,.string a2)].toArray)=some (.agg [.int .i64 a0,.int .i64 0,.string a2,.int .i64 0].toArray):=by kernel_rfl
theorem bld34_0_1_2 (a0:ByteArray) (a1:Option Addr) (n1 c1:Nat) (a2:Option Addr) (n2 c2:Nat):pr Tryz.prog (Instr.build 34 [(0,.string a0),(1,.slice a1 n1 c1),(2,.slice a2 n2 c2)].toArray)=some (.agg [.string a0,.slice a1 n1 c1,.slice a2 n2 c2,.int .i64 0].toArray):=by kernel_rfl
theorem bld40_3 (a3:Option Addr) (n3 c3:Nat):pr Tryz.prog (Instr.build 40 [(3,.slice a3 n3 c3)].toArray)=some (.agg [.slice none 0 0,.slice none 0 0,.slice none 0 0,.slice a3 n3 c3,.slice none 0 0,.slice none 0 0].toArray):=by kernel_rfl
theorem bld47_0 (a0:Int):pr Tryz.prog (Instr.build 47 [(0,.int .i64 a0)].toArray)=some (.agg [.int .i64 a0,.int .i64 0,.int .i64 0,.slice none 0 0].toArray):=by kernel_rfl
theorem bld49_3 (a3:Bool):pr Tryz.prog (Instr.build 49 [(3,.bool a3)].toArray)=some (.agg [.int .i64 0,.int .i64 0,.int .i64 0,.bool a3,.bool false].toArray):=by kernel_rfl
theorem eqf42:eqFact Tryz.prog 42=some [0,0,0,0,0]:=by kernel_rfl
theorem eqf49:eqFact Tryz.prog 49=some [0,0,0,1,1]:=by kernel_rfl
end Go.Proofs.YtfkgkbhbdffckaaGreatDoor
namespace Go.Fw
noncomputable section
abbrev Ov:=Nat->V->Hp->Nat->OR
def evFo (P:Program) (L:List Nat) (ov:Ov) (fs:Nat->FSx) (f:Nat):Cal:=
 Nat.rec (motive:=λ _=>Cal) (λ _ _ _ _=>.no)
  (λ _ ih c args h n=>c.onFY .no (λ g caps=>Bool.rec (motive:=λ _=>OR) (enter P ih (fs g) (appV args caps) h n) (ov g (appV args caps) h n) (memB g L)) (λ l=>round P ih l args h n)) f
end
section
variable {P:Program} {Fr:Fram} {ρ:Rn} {h h':Hp} {w:World} {v:V} {n n':Nat}
def OvOk (P:Program) (L:List Nat) (ov:Ov):Prop:=∀ (g:Nat) (args:V) (h:Hp) (n:Nat) (v:V) (h':Hp) (n':Nat),memB g L=true->ov g args h n = .ok v h' n'->
 ∀ (Fr:Fram) (ρ:Rn) (w:World) (xs:List Value),RLs ρ args xs->RH P Fr ρ h w->Plain P g/\Calls P g xs.toArray w (Ret (Pst P Fr ρ v h'))
theorem evFo_sound (hm:P.follows .mixedOrders=true) {L M:List Nat} {ov:Ov} {pls:Nat->Nat->PT} (hov:OvOk P M ov) (hall:List.all L (okF P pls)=true):∀ f,CalOk P (evFo P M ov (onlyF L (prepF P pls)) f):=by
 intro f
 induction f with
 | zero=>intro c args h n v h' n' hh; cases hh
 | succ f ih=>
  intro c args h n v h' n' hh Fr ρ w x xs hx hA hR
  have hh:c.onFY .no (λ g caps=>Bool.rec (motive:=λ _=>OR) (enter P (evFo P M ov (onlyF L (prepF P pls)) f) (onlyF L (prepF P pls) g) (appV args caps) h n) (ov g (appV args caps) h n) (memB g M)) (λ l=>round P (evFo P M ov (onlyF L (prepF P pls)) f) l args h n) = .ok v h' n':=hh
  rcases V.onFY_inv c .no (λ g caps=>Bool.rec (motive:=λ _=>OR) (enter P (evFo P M ov (onlyF L (prepF P pls)) f) (onlyF L (prepF P pls) g) (appV args caps) h n) (ov g (appV args caps) h n) (memB g M)) (λ l=>round P (evFo P M ov (onlyF L (prepF P pls)) f) l args h n) with h0 | ⟨g,caps,h0,h1⟩ | ⟨l,h0,h1⟩
  ·rw [h0] at hh; cases hh
  ·rw [h1] at hh
   rw [h0] at hx
   obtain ⟨ys,hys,hx⟩:=hx
   cases ho:memB g M with
   | true=>
    rw [ho] at hh
    obtain ⟨p1,p2⟩:=hov g _ h n v h' n' ho hh Fr ρ w _ (RLs.app hA hys) hR
    exact ⟨.inl ⟨g,#[],ys.toArray,hx,p1,by simpa using p2⟩⟩
   | false=>
   rw [ho] at hh
   cases hmem:memB g L with
   | false=>unfold onlyF at hh; rw [hmem] at hh; cases hh
   | true=>
    have hok:=List.all_eq_true.1 hall g (memB_iff.1 hmem)
    have he:onlyF L (prepF P pls) g=prepF P pls g:=by unfold onlyF; rw [hmem]; rfl
    have hh:enter P (evFo P M ov (onlyF L (prepF P pls)) f) (onlyF L (prepF P pls) g) (appV args caps) h n = .ok v h' n':=hh
    rw [he] at hh
    obtain ⟨p1,p2⟩:=enter_sound hm ih hok hh (RLs.app hA hys) hR
    exact ⟨.inl ⟨g,#[],ys.toArray,hx,p1,by simpa using p2⟩⟩
  ·rw [h1] at hh
   rw [h0] at hx
   obtain ⟨q,hq,hx⟩:=hx
   exact ⟨.inr ⟨q.k,hx,round_sound hm ih hh hq hA hR⟩⟩
theorem ext_heap {w':World} {r:Nat} {o:Obj} (e:Ext w w') (hr:w.heap[r]? = some o):w'.heap[r]? = some o:=(e.blk r (Array.getElem?_eq_some_iff.1 hr).1 λ h=>h).trans hr
theorem RH.extW {w':World} (hR:RH P Fr ρ h w) (e:Ext w w'):RH P Fr ρ h w':=
 ⟨hR.fresh,λ b hb=>let ⟨q,o,h1,h2,h3⟩:=hR.lv b hb; ⟨q,o,h1,ext_heap e h2,h3⟩,hR.sep,λ r o hr=>ext_heap e (hR.keep r o hr),hR.off,hR.st.trans ⟨e.os,e.tape,e.output⟩⟩
end
section
variable {P:Program} {Fr:Fram} {ρ:Rn} {h h':Hp} {w:World} {v:V} {n n':Nat}
structure Ent where
 n:Nat
 m:Nat
 x:Int
 b:Nat
def Ent.si (p:Ent):SI:=(strOf p.n p.m,p.x)
def Ent.en (p:Ent):MapEntry:=⟨.string (strOf p.n p.m),.int .i64 p.x,p.b⟩
def entC (b:Nat) (o:Option (List Ent)):V->V->Option (List Ent)
 | .s n m,.i .i64 x=>o.map (⟨n,m,x,b⟩ :: ·)
 | _,_=>none
theorem entC_ok {b:Nat} {o:Option (List Ent)} {k u:V} {ps:List Ent} (hh:entC b o k u=some ps):∃ n m x ps',k = .s n m/\u = .i .i64 x/\o=some ps'/\ps=⟨n,m,x,b⟩::ps':=by
 unfold entC at hh
 split at hh
 ·obtain ⟨ps',h5,rfl⟩:=Option.map_eq_some_iff.1 hh
  exact ⟨_,_,_,ps',rfl,rfl,h5,rfl⟩
 cases hh
noncomputable def entL (l:ML):Option (List Ent):=ML.rec (motive:=λ _=>Option (List Ent)) (some []) (λ k v b _ ih=>entC b ih k v) l
noncomputable def toML:List Ent->ML
 | []=>.nil
 | p::r=>.cons (.s p.n p.m) (.i .i64 p.x) 0 (toML r)
theorem toML_s:∀ l:List Ent,RMs (toML l) (l.map Ent.si)
 | []=>rfl
 | p::r=>⟨p.n,p.m,p.x,_,rfl,rfl,rfl,toML_s r⟩
theorem entL_ok:∀ {l:ML} {es:List MapEntry} {ps:List Ent},RM ρ l es->entL l=some ps->es=ps.map Ent.en:=by
 intro l
 induction l with
 | nil=>intro es ps hm hh; obtain rfl:es=[]:=hm; cases hh; rfl
 | cons k u b r ih=>
  intro es ps hm hh
  obtain ⟨e,es',rfl,h1,h2,h3,h4⟩:=hm
  obtain ⟨n,m,x,ps',rfl,rfl,h5,rfl⟩:=entC_ok (show entC b (entL r) k u=some ps from hh)
  obtain rfl:=ih h4 h5
  cases e
  have h1:_=_:=h1
  have h2:_=_:=h2
  dsimp only at h1 h2 h3
  subst h1 h2 h3; rfl
noncomputable def stampB (c:Nat):List Ent->Bool
 | []=>true
 | p::r=>Nat.blt p.b c && (r.all (λ q=>!Nat.beq p.b q.b && !eqS p.n p.m q.n q.m) && stampB c r)
theorem stamp_ok {c:Nat}:∀ {l:List Ent},stampB c l=true->(∀ p∈l,p.b<c)/\(l.map Ent.b).Nodup/\(l.map λ p=>Value.string (strOf p.n p.m)).Nodup
 | [],_=>⟨by simp,by simp,by simp⟩
 | p::r,hh=>by
  unfold stampB at hh
  simp only [Bool.and_eq_true,List.all_eq_true,Bool.not_eq_true'] at hh
  obtain ⟨h1,h2,h3⟩:=hh
  obtain ⟨g1,g2,g3⟩:=stamp_ok h3
  refine ⟨λ q hq=>?_,?_,?_⟩
  ·rcases List.mem_cons.1 hq with rfl | hq
   ·exact blt_lt h1
   ·exact g1 q hq
  ·rw [List.map_cons,List.nodup_cons]
   refine ⟨λ hm=>?_,g2⟩
   obtain ⟨q,hq,e⟩:=List.mem_map.1 hm
   have:=(h2 q hq).1
   rw [e,Nat.beq_refl] at this; cases this
  ·rw [List.map_cons,List.nodup_cons]
   refine ⟨λ hm=>?_,g3⟩
   obtain ⟨q,hq,e⟩:=List.mem_map.1 hm
   have:=(h2 q hq).2
   rw [eqS_dec] at this
   injection e with e
   exact of_decide_eq_false this e.symm
theorem RH.mapP {b c:Nat} {l:ML} {ps:List Ent} (hR:RH P Fr ρ h w) (hb:getH h b = .m c l) (hc:c<4294967296) (hl:entL l=some ps) (hs:stampB c ps=true):∃ q,ρ b=some q/\MapP w q.k (ps.map Ent.si):=by
 obtain ⟨q,es,h1,h2,h3⟩:=hR.map hb hc
 obtain rfl:=entL_ok h3 hl
 obtain ⟨g1,g2,g3⟩:=stamp_ok hs
 refine ⟨q,h1,_,_,h2,⟨?_,?_,?_⟩,?_⟩
 ·intro x hx
  obtain ⟨p,hp,rfl⟩:=List.mem_map.1 (show x∈ps.map Ent.en by simpa using hx)
  exact g1 p hp
 ·have:((ps.map Ent.en).map (·.born)).Nodup:=by rw [List.map_map]; exact g2
  simpa using this
 ·have:((ps.map Ent.en).map (·.key)).Nodup:=by rw [List.map_map]; exact g3
  simpa using this
 simp only [List.map_map]
 exact List.Perm.refl _
noncomputable def rowN (t:Tr V) (o l:Nat):Option (List (Nat × Nat)):=Nat.rec (motive:=λ _=>Option (List (Nat × Nat))) (some []) (λ i ih=>match getV t (o+i) with | .s n m=>ih.map (·++[(n,m)]) | _=>none) l
theorem rowN_ok {t:Tr V} {o:Nat}:∀ {l:Nat} {ns:List (Nat × Nat)},rowN t o l=some ns->ns.length=l/\∀ i p,ns[i]? = some p->getV t (o+i) = .s p.1 p.2
 | 0,ns,hh=>by cases hh; exact ⟨rfl,by simp⟩
 | l+1,ns,hh=>by
  have hh:(match getV t (o+l) with | .s n m=>(rowN t o l).map (·++[(n,m)]) | _=>none)=some ns:=hh
  split at hh
  ·rename_i n m hg
   obtain ⟨ns',h5,rfl⟩:=Option.map_eq_some_iff.1 hh
   obtain ⟨g1,g2⟩:=rowN_ok h5
   refine ⟨by simp [g1],λ i p hi=>?_⟩
   rw [List.getElem?_append] at hi
   split at hi
   ·exact g2 i p hi
   ·rename_i hlt
    have:i=l:=by
     have:=(List.getElem?_eq_some_iff.1 hi).1
     simp at this; omega
    subst this
    rw [g1] at hi; simp at hi
    rw [<- hi]; exact hg
  ·cases hh
end
end Go.Fw
namespace Go.Proofs.YtfkgkbhbdffckaaGreatDoor
open Go.Fw
noncomputable section
def rowB (B:HB) (o l:Nat):Option (List (Nat × Nat)):=match B with
 | .c n _ t=>bif Nat.ble (o+l) n then rowN t o l else none
 | _=>none
def rowE (h:Hp):V->Option (List (Nat × Nat))
 | .ns=>some []
 | .sl b o l _=>rowB (getH h b) o l
 | .sx b o l _=>rowB (getH h b) o l
 | _=>none
def isSl:V->Bool
 | .ns=>true
 | .sl _ _ _ _=>true
 | .sx _ _ _ _=>true
 | .se=>true
 | _=>false
def strP (p:Nat × Nat):ByteArray:=strOf p.1 p.2
theorem flat_str:∀ xs:List ByteArray,flat xs=xs.map Value.string
 | []=>rfl
 | x::r=>by have:=flat_str r; simp only [flat,List.flatMap_cons,List.map_cons] at this |-; rw [this]; rfl
section
variable {P:Program} {Fr:Fram} {ρ:Rn} {h h':Hp} {w:World} {v:V} {n n':Nat}
theorem isSl_ok {B:V} {y:Value} (hB:isSl B=true) (hy:RV ρ B y):∃ s:SV,y=Flat.val s:=by
 cases B <;> first | cases hB | skip
 case ns=>exact ⟨⟨none,0,0⟩,hy⟩
 case sl b o l d=>obtain ⟨q,_,_,rfl⟩:=hy; exact ⟨⟨_,_,_⟩,rfl⟩
 case sx b o l d=>obtain ⟨q,_,_,rfl⟩:=hy; exact ⟨⟨_,_,_⟩,rfl⟩
 case se=>obtain ⟨a,c,rfl⟩:=hy; exact ⟨⟨_,_,_⟩,rfl⟩
theorem rowB_ok {b o l cap:Nat} {ns:List (Nat × Nat)} {q:Pl} (hR:RH P Fr ρ h w) (hq:ρ b=some q) (hl:l<=cap) (hh:rowB (getH h b) o l=some ns):RdL (λ _=>True) w (.slice (some ⟨q.k,q.b+o,none⟩) l cap) (ns.map strP):=by
 cases hg:getH h b <;> rw [hg] at hh <;> try (cases hh; done)
 rename_i n es t
 have hh:(bif Nat.ble (o+l) n then rowN t o l else none)=some ns:=hh
 cases hb:Nat.ble (o+l) n <;> rw [hb] at hh
 ·cases hh
 have hb:=ble_le hb
 obtain ⟨g1,g2⟩:=rowN_ok (show rowN t o l=some ns from hh)
 obtain ⟨q2,ob,e1,e2,e3⟩:=hR.lv b (by rw [hg]; trivial)
 rw [hq] at e1; cases e1
 rw [hg] at e3
 obtain ⟨cs,ty,fz,rfl,_,_,_,_,_,k7⟩:=e3
 refine ⟨_,cap,by rw [List.length_map,g1],by rw [List.length_map,g1]; exact hl,.inr ⟨q.k,q.b+o,rfl,λ _=>trivial,λ j c hc=>?_⟩⟩
 rw [flat_str,List.getElem?_map,List.getElem?_map] at hc
 cases hp:ns[j]? with
 | none=>rw [hp] at hc; cases hc
 | some p=>
  rw [hp] at hc; cases hc
  have hj:j<l:=by have:=(List.getElem?_eq_some_iff.1 hp).1; omega
  obtain ⟨x,k1,k2,_⟩:=k7 (o+j) (by omega)
  rw [g2 j p hp] at k2
  obtain rfl:x = .string (strOf p.1 p.2):=k2
  show w.cell? ⟨q.k,q.b+o+j,none⟩=some _
  rw [show q.b+o+j=q.b+(o+j) from by omega]
  simp [World.cell?,e2,k1]
  rfl
theorem rowE_ok {R:V} {y:Value} {ns:List (Nat × Nat)} (hR:RH P Fr ρ h w) (hy:RV ρ R y) (hh:rowE h R=some ns):∃ s:SV,y=Flat.val s/\RdL (λ _=>True) w (Flat.val s) (ns.map strP):=by
 cases R <;> first | cases hh | skip
 case ns=>obtain rfl:y=_:=hy; exact ⟨⟨none,0,0⟩,rfl,RdL.nil _ _⟩
 case sl b o l d=>obtain ⟨q,h1,h2,rfl⟩:=hy; exact ⟨⟨_,_,_⟩,rfl,rowB_ok hR h1 (show l<=q.c - d by omega) hh⟩
 case sx b o l c=>obtain ⟨q,h1,h2,rfl⟩:=hy; exact ⟨⟨_,_,_⟩,rfl,rowB_ok hR h1 h2 hh⟩
end
def regsE:List Ent->List (Nat × Nat)->Option (List Ent)
 | g,[]=>some g
 | g,p::r=>bif g.all (λ q=>!Go.Fw.eqS q.n q.m p.1 p.2) then regsE (g++[⟨p.1,p.2,5,0⟩]) r else none
theorem lookS_ne {k:ByteArray}:∀ {l:List SI},(∀ p∈l,p.2≠0)->(∃ p∈l,p.1=k)->lookS l k≠0
 | [],_,⟨_,h,_⟩=>by cases h
 | q::r,hz,⟨p,hp,e⟩=>by
  unfold lookS
  by_cases h:q.1=k
  ·rw [if_pos h]; exact hz q List.mem_cons_self
  ·rw [if_neg h]
   rcases List.mem_cons.1 hp with rfl | hp
   ·exact absurd e h
   ·exact lookS_ne (λ p hp=>hz p (List.mem_cons_of_mem _ hp)) ⟨p,hp,e⟩
theorem regsE_ok:∀ (ns:List (Nat × Nat)) (g:List Ent),(∀ p∈g,p.x≠0)->rgsG (g.map Ent.si) (ns.map strP)=(regsE g ns).map (·.map Ent.si)
 | [],g,_=>rfl
 | p::r,g,hz=>by
  have hz':∀ q∈g.map Ent.si,q.2≠0:=λ q hq=>by obtain ⟨x,hx,rfl⟩:=List.mem_map.1 hq; exact hz x hx
  rw [List.map_cons,rgsG,regsE]
  cases ha:g.all (λ q=>!Go.Fw.eqS q.n q.m p.1 p.2) with
  | true=>
   rw [List.all_eq_true] at ha
   have:lookS (g.map Ent.si) (strP p)=0:=lookS_none λ q hq=>by
    obtain ⟨x,hx,rfl⟩:=List.mem_map.1 hq
    have:=ha x hx
    rw [eqS_dec] at this
    have this:¬ strOf x.n x.m=strOf p.1 p.2:=by simpa using this
    exact this
   rw [if_pos this]
   have h2:=regsE_ok r (g++[⟨p.1,p.2,5,0⟩]) (λ q hq=>by
    rcases List.mem_append.1 hq with h | h
    ·exact hz q h
    ·rw [List.mem_singleton.1 h]; exact (by decide:(5:Int)≠0))
   rw [List.map_append] at h2
   exact h2
  | false=>
   rw [List.all_eq_false] at ha
   obtain ⟨x,hx,hx2⟩:=ha
   rw [eqS_dec] at hx2
   have hx2:strOf x.n x.m=strOf p.1 p.2:=by simpa using hx2
   rw [if_neg (show ¬ lookS (g.map Ent.si) (strP p)=0 from lookS_ne hz' ⟨x.si,List.mem_map.2 ⟨x,hx,rfl⟩,hx2⟩)]
   rfl
def preR:V->Option (Nat × Nat × V × V × Int × Nat)
 | .c (.a (.c (.s a b) (.c R (.c B (.c (.i .i64 z) .e))))) (.c (.m r) .e)=>some (a,b,R,B,z,r)
 | _=>none
theorem preR_ok {args:V} {a b:Nat} {R B:V} {z:Int} {r:Nat} (hh:preR args=some (a,b,R,B,z,r)):args = .c (.a (.c (.s a b) (.c R (.c B (.c (.i .i64 z) .e))))) (.c (.m r) .e):=by
 unfold preR at hh
 split at hh
 ·cases hh; rfl
 cases hh
def mapE:HB->Option (Nat × ML)
 | .m c l=>some (c,l)
 | _=>none
def outR (h:Hp) (n:Nat):Option (List Ent)->OR
 | none=>.ok (.t (.c .nm (.c (.b true) .e))) h n
 | some g=>.ok (.t (.c (.m n) (.c (.b false) .e))) (putH h (.m 4294967296 (toML g)) n) (Nat.succ n)
def ovR (_:Nat) (args:V) (h:Hp) (n:Nat):OR:=
 match preR args with
 | none=>.no
 | some (_,_,R,B,_,r)=>match mapE (getH h r),rowE h R with
  | some (c,l),some ns=>match entL l with
   | some ps=>bif Nat.blt c 4294967296 && (stampB c ps && (ps.all (λ p=>!decide (p.x=0)) && (isSl B && (Nat.ble ns.length 1073741824 && isZ (getH h n))))) then outR h n (regsE (ps.filter λ p=>decide (¬ p.x=4)) ns) else .no
   | none=>.no
  | _,_=>.no
theorem ovR_ok:OvOk Tryz.prog [67] ovR:=by
 intro g args h n v h' n' hg hh Fr ρ w xs hA hR
 obtain rfl:g=67:=by have:=memB_iff.1 hg; simpa using this
 refine ⟨pl67,?_⟩
 unfold ovR at hh
 split at hh
 ·cases hh
 rename_i a b R B z r hpre
 obtain rfl:=preR_ok hpre
 split at hh
 ·rename_i c l ns hmap hrow
  split at hh
  ·rename_i ps hent
   have hm:getH h r = .m c l:=by cases hq:getH h r <;> rw [hq] at hmap <;> cases hmap; rfl
   generalize hk:(Nat.blt c 4294967296 && (stampB c ps && (ps.all (λ p=>!decide (p.x=0)) && (isSl B && (Nat.ble ns.length 1073741824 && isZ (getH h n))))))=kk at hh
   cases kk with
   | false=>cases hh
   | true=>
   have hh:outR h n (regsE (ps.filter λ p=>decide (¬ p.x=4)) ns) = .ok v h' n':=hh
   simp only [Bool.and_eq_true] at hk
   obtain ⟨k1,k2,k3,k4,k5,k6⟩:=hk
   obtain ⟨z1,zs1,rfl,hz1,z2,zs2,rfl,hz2,rfl⟩:=hA
   obtain ⟨ys,hys,_,rfl⟩:=hz1
   obtain ⟨y1,ys1,rfl,hy1,y2,ys2,rfl,hy2,y3,ys3,rfl,hy3,y4,ys4,rfl,hy4,rfl⟩:=hys
   obtain rfl:y1=_:=hy1
   obtain rfl:y4=_:=hy4
   obtain ⟨s2,rfl,hrd⟩:=rowE_ok hR hy2 hrow
   obtain ⟨s3,rfl⟩:=isSl_ok k4 hy3
   obtain ⟨q,hq,rfl⟩:=hz2
   obtain ⟨q',hq',hmp⟩:=hR.mapP hm (blt_lt k1) hent k2
   rw [hq] at hq'; cases hq'
   have hx0:∀ p∈ps,p.x≠0:=λ p hp=>by have:=List.all_eq_true.1 k3 p hp; simpa using this
   refine (C67 (⟨strOf a b,s2,s3,z⟩:TThreadV) (ns.map strP) q.k (ps.map Ent.si) w hrd hmp (λ p hp=>by obtain ⟨x,hx,rfl⟩:=List.mem_map.1 hp; exact hx0 x hx) (by rw [List.length_map]; exact ble_le k5)).mono λ e w' ⟨y,hy,hr⟩=>⟨y,hy,?_⟩
   have hreg:rgsM (ps.map Ent.si) (ns.map strP)=(regsE (ps.filter λ p=>decide (¬ p.x=4)) ns).map (·.map Ent.si):=by
    unfold rgsM
    rw [List.filter_map]
    exact regsE_ok ns _ λ p hp=>hx0 p (List.mem_filter.1 hp).1
   rw [hreg] at hr
   generalize regsE (ps.filter λ p=>decide (¬ p.x=4)) ns=res at hh hr
   cases res with
   | none=>
    obtain ⟨rfl,rfl,_⟩:=ok_inj hh
    rcases hr with ⟨_,rfl,he⟩ | ⟨g,b,h0,_⟩
    ·exact ⟨ρ,Le.refl _,hR.extW he,[.map none,.bool true],⟨_,_,rfl,rfl,_,_,rfl,rfl,rfl⟩,rfl⟩
    ·cases h0
   | some g0=>
    obtain ⟨rfl,rfl,_⟩:=ok_inj hh
    rcases hr with ⟨h0,_⟩ | ⟨g,b,h0,rfl,F,⟨hmp2,hF⟩,hnew,he⟩
    ·cases h0
    cases h0
    have hlt:w.heap.size<=b:=hnew b ((hF b).2 rfl)
    obtain ⟨es,ck,g1,g2,g3⟩:=hmp2
    have hn:=isZ_ok k6
    refine ⟨_,ext_le (q:=⟨b,0,0,0⟩) (hR.fresh n hn),?_,[.map (some b),.bool false],⟨_,_,rfl,⟨_,ext_at _ _ _,rfl⟩,_,_,rfl,rfl,rfl⟩,rfl⟩
    refine hR.add hn (λ b' q' h1 h2=>?_) ?_ (λ r o' _ hr=>ext_heap he hr) g1 (.inr ⟨rfl,g0.map Ent.si,toML_s g0,es,ck,rfl,g2,g3⟩) (hst:=⟨he.os,he.tape,he.output⟩)
    ·obtain ⟨q2,o2,e1,e2,_⟩:=hR.lv b' h1
     rw [h2] at e1; cases e1
     have:=(Array.getElem?_eq_some_iff.1 e2).1
     show q'.k≠b
     omega
    ·show Fr.f b=none
     cases hFr:Fr.f b with
     | none=>rfl
     | some o'=>
      have:=(Array.getElem?_eq_some_iff.1 (hR.keep _ _ hFr)).1
      omega
  cases hh
 cases hh
end
def pls:Nat->Nat->PT
 | 6,7=>(.of [(0,[]),(1,[]),(3,[]),(5,[]),(2,[0,3]),(4,[0]),(6,[]),(7,[]),(8,[])])
 | 6,14=>(.of [(0,[]),(1,[]),(2,[]),(4,[]),(3,[4]),(5,[]),(6,[]),(7,[]),(8,[]),(9,[]),(10,[]),(11,[]),(12,[])])
 | 8,2=>(.of [(0,[]),(1,[]),(2,[]),(3,[]),(4,[]),(5,[]),(6,[]),(7,[]),(8,[]),(9,[]),(10,[]),(11,[]),(12,[]),(13,[3,7,11]),(14,[])])
 | 22,20=>(.of [(0,[]),(1,[]),(2,[1]),(3,[])])
 | 22,29=>(.of [(0,[]),(1,[]),(2,[1]),(3,[])])
 | 22,38=>(.of [(0,[]),(1,[]),(2,[1]),(3,[])])
 | 30,9=>(.of [(0,[]),(1,[]),(2,[]),(3,[]),(4,[]),(5,[]),(6,[2]),(7,[]),(8,[]),(9,[])])
 | 35,1=>(.op 0 [] (.op 1 [] (.op 2 [] (.op 3 [] (.op 4 [] (.op 5 [] (.op 6 [] (.op 7 [] (.op 8 [] (.op 9 [] (.op 10 [] (.op 11 [] (.op 12 [] (.alt 13 [] (.of [(14,[]),(15,[]),(16,[]),(17,[3,5,7,10,12]),(18,[]),(19,[])]) (.alt 17 [3,5,7,10,12] (.of [(13,[]),(14,[]),(15,[]),(16,[]),(18,[]),(19,[])]) .stop)))))))))))))))
 | 36,5=>(.of [(0,[]),(1,[]),(2,[]),(3,[]),(4,[]),(5,[]),(7,[]),(8,[]),(9,[]),(10,[]),(11,[]),(12,[]),(6,[10,12]),(13,[]),(14,[]),(15,[])])
 | 40,6=>(.of [(0,[]),(1,[]),(2,[]),(3,[1]),(4,[1]),(5,[]),(6,[]),(7,[])])
 | 40,8=>(.of [(0,[]),(1,[]),(2,[]),(3,[1]),(4,[]),(5,[]),(6,[])])
 | 40,10=>(.of [(0,[]),(1,[]),(2,[]),(3,[1]),(4,[]),(5,[]),(6,[])])
 | 40,13=>(.of [(0,[]),(1,[]),(2,[]),(3,[]),(4,[]),(5,[]),(6,[]),(7,[]),(8,[1]),(9,[1]),(10,[]),(11,[]),(12,[])])
 | 40,15=>(.of [(0,[]),(1,[]),(2,[]),(3,[]),(4,[]),(5,[]),(6,[]),(7,[]),(8,[]),(9,[]),(10,[]),(11,[]),(12,[]),(13,[1]),(14,[1]),(15,[]),(16,[]),(17,[])])
 | 40,17=>(.of [(0,[]),(1,[]),(2,[]),(3,[]),(4,[]),(5,[]),(6,[]),(7,[]),(8,[]),(9,[]),(10,[]),(11,[]),(12,[1]),(13,[1]),(14,[]),(15,[]),(16,[])])
 | 40,21=>(.of [(0,[]),(1,[]),(2,[]),(3,[]),(4,[]),(5,[]),(6,[]),(7,[]),(8,[]),(9,[4,8]),(10,[]),(11,[])])
 | 42,2=>(.of [(0,[]),(1,[]),(2,[]),(3,[]),(5,[]),(6,[]),(7,[]),(8,[]),(4,[8]),(9,[]),(10,[]),(11,[]),(12,[]),(13,[]),(14,[]),(15,[])])
 | 42,7=>(.of [(0,[]),(1,[]),(2,[]),(3,[]),(5,[]),(6,[]),(7,[]),(8,[]),(10,[]),(11,[]),(12,[]),(13,[]),(4,[8,13]),(9,[13]),(14,[]),(15,[]),(16,[]),(17,[]),(18,[]),(19,[]),(20,[])])
 | 44,6=>(.of [(0,[]),(1,[]),(2,[]),(3,[]),(4,[]),(5,[]),(6,[]),(7,[]),(8,[]),(10,[]),(9,[1,5]),(11,[]),(12,[]),(13,[]),(14,[]),(15,[]),(16,[]),(17,[])])
 | 53,8=>(.of [(0,[]),(1,[]),(2,[]),(3,[]),(4,[]),(5,[]),(6,[]),(7,[]),(8,[]),(9,[]),(10,[]),(11,[]),(12,[]),(13,[]),(14,[7]),(15,[]),(16,[]),(17,[]),(18,[]),(19,[])])
 | 73,8=>(.of [(0,[]),(1,[]),(2,[]),(3,[]),(4,[]),(5,[]),(6,[]),(7,[]),(8,[]),(9,[]),(11,[]),(10,[3]),(12,[]),(13,[])])
 | 77,6=>(.of [(0,[]),(1,[]),(2,[]),(3,[]),(4,[]),(5,[]),(6,[]),(7,[]),(8,[]),(9,[]),(10,[]),(11,[]),(12,[]),(13,[]),(14,[3,8,10]),(15,[3]),(16,[])])
 | 82,6=>(.of [(0,[]),(1,[]),(2,[]),(3,[]),(4,[]),(5,[]),(6,[]),(7,[]),(8,[]),(9,[]),(11,[]),(10,[3]),(12,[]),(13,[])])
 | 84,5=>(.of [(0,[]),(1,[]),(2,[]),(3,[]),(4,[]),(5,[]),(6,[4]),(7,[]),(8,[]),(9,[]),(10,[])])
 | 85,4=>(.of [(0,[]),(1,[]),(2,[]),(3,[]),(4,[]),(5,[]),(6,[]),(7,[]),(8,[]),(9,[]),(11,[]),(10,[3]),(12,[]),(13,[])])
 | 93,8=>(.of [(0,[]),(1,[]),(2,[]),(3,[]),(4,[]),(5,[]),(6,[]),(7,[1]),(8,[]),(9,[]),(10,[])])
 | 96,1=>(.op 0 [] (.op 1 [] (.op 2 [] (.op 3 [] (.op 4 [] (.op 5 [] (.op 6 [] (.op 7 [] (.op 8 [] (.op 10 [] (.alt 9 [3,7] (.alt 11 [3,7] (.of [(12,[3,7]),(13,[]),(14,[]),(15,[])]) (.alt 12 [3,7] (.of [(11,[3,7]),(13,[]),(14,[]),(15,[])]) .stop)) (.alt 12 [3,7] (.of [(9,[3,7]),(11,[3,7]),(13,[]),(14,[]),(15,[])]) .stop))))))))))))
 | 96,5=>(.of [(0,[]),(1,[]),(2,[]),(3,[]),(4,[]),(5,[]),(6,[3]),(7,[])])
 | 97,1=>(.of [(0,[]),(1,[]),(2,[]),(3,[]),(4,[]),(5,[3]),(6,[]),(7,[]),(8,[])])
 | 154,19=>(.of [(0,[]),(1,[]),(2,[]),(3,[1]),(4,[]),(5,[]),(6,[]),(7,[]),(8,[]),(9,[])])
 | 154,9=>(.of [(0,[]),(1,[]),(2,[]),(4,[]),(3,[1]),(5,[]),(6,[]),(7,[]),(8,[]),(9,[]),(10,[])])
 | 181,4=>(.of [(0,[]),(1,[]),(2,[]),(3,[]),(4,[]),(5,[]),(6,[]),(7,[]),(8,[]),(9,[3,7]),(10,[])])
 | 181,12=>(.of [(0,[]),(1,[]),(2,[]),(3,[]),(4,[]),(5,[]),(6,[4]),(7,[]),(8,[]),(9,[]),(10,[])])
 | 183,9=>(.of [(0,[]),(1,[]),(2,[]),(3,[]),(5,[]),(4,[2]),(6,[]),(7,[]),(8,[2]),(9,[])])
 | 188,8=>(.of [(0,[]),(1,[]),(2,[]),(3,[]),(4,[]),(5,[]),(6,[]),(7,[]),(8,[]),(9,[]),(10,[]),(11,[4,9]),(12,[])])
 | 201,9=>(.of [(0,[]),(1,[]),(2,[]),(3,[]),(4,[]),(6,[]),(7,[]),(5,[7]),(8,[]),(9,[]),(10,[]),(11,[]),(12,[]),(13,[]),(15,[]),(16,[]),(14,[16]),(17,[]),(18,[]),(19,[]),(20,[]),(21,[]),(22,[]),(24,[]),(25,[]),(23,[25]),(26,[]),(27,[]),(28,[]),(29,[]),(30,[]),(31,[]),(33,[]),(34,[]),(32,[34]),(35,[]),(36,[]),(37,[]),(38,[])])
 | 202,15=>(.of [(0,[]),(1,[]),(2,[]),(3,[]),(4,[]),(5,[]),(6,[]),(7,[]),(8,[]),(9,[]),(11,[]),(12,[]),(13,[]),(14,[]),(15,[]),(16,[]),(17,[]),(18,[]),(19,[]),(10,[15]),(20,[]),(21,[]),(22,[])])
 | 211,27=>(.of [(0,[]),(1,[]),(2,[]),(3,[]),(4,[]),(5,[]),(6,[]),(7,[]),(8,[]),(9,[]),(10,[]),(12,[]),(13,[]),(11,[]),(14,[]),(15,[])])
 | 211,29=>(.of [(0,[]),(1,[]),(2,[]),(3,[]),(4,[]),(5,[]),(6,[]),(7,[]),(8,[]),(9,[]),(10,[]),(12,[]),(13,[]),(11,[]),(14,[]),(15,[])])
 | _,_=>.nil
def fsL:List Nat:=[6,7,8,9,12,13,14,15,16,22,23,24,25,26,27,28,29,30,31,32,33,34,35,36,37,38,39,40,41,42,43,44,45,52,53,54,55,62,63,64,65,66,67,68,69,70,71,72,73,74,75,76,77,78,79,80,81,82,83,84,85,86,87,88,89,90,91,92,93,94,95,96,97,98,99,100,106,107,108,109,114,115,116,117,118,119,120,121,122,123,124,125,126,127,128,129,130,131,132,133,134,135,136,137,138,139,140,141,142,143,144,145,146,147,148,149,150,151,152,153,154,155,156,157,159,160,161,162,163,164,165,166,167,168,169,170,171,172,173,174,175,176,177,178,179,180,181,182,183,184,185,186,187,188,189,190,191,192,193,194,195,197,198,199,200,201,202,203,204,205,206,207,208,209,210,211,212,213,214,215,216,217,218,219,220,221,222,223,224,225,226,227,228,229,230,231,232,233,234,235,236,237,238,239,240,241,242,243,244,245,246,247,248,249,250,251,252,253,254,255,257,259,260,261,263]
noncomputable def bd:Code:=(Tryz.f9.body).getD .skip
def sqT:Nat->Code->Code
 | 0,c=>c
 | k+1,.seq _ b=>sqT k b
 | _,c=>c
def sqH:Code->Code
 | .seq a _=>a
 | c=>c
noncomputable def calF:Cal:=evFo Tryz.prog [67] ovR (onlyF fsL (prepF Tryz.prog pls)) 200
theorem okFs:List.all fsL (okF Tryz.prog pls)=true:=by kernel_rfl
theorem calOk:CalOk Tryz.prog calF:=evFo_sound mixed ovR_ok okFs 200
noncomputable def e0:En:=(setPsV (slsN 0 187) .e en0)
def b0:List HB:=[]
noncomputable def e1:En:=setPsV (slsN 0 187) (.c (.b false) (.c (.t .e) (.c (.t .e) (.c (.t .e) (.c (.t .e) (.c (.t .e) (.c (.t .e) (.c (.t .e) (.c (.t .e) (.c (.t .e) (.c (.t .e) (.c (.t .e) (.c (.t .e) (.c (.t .e) (.c (.t .e) (.c (.t .e) (.c (.t .e) (.c (.t .e) (.c (.t .e) (.c (.t .e) (.c (.t .e) (.c (.t .e) (.c (.t .e) (.c (.t .e) (.c (.t .e) (.c (.t .e) (.c (.t .e) (.c (.t .e) (.c (.t .e) (.c (.t .e) (.c (.t .e) (.c (.t .e) (.c (.t .e) (.c (.t .e) (.c (.t .e) (.c (.t .e) (.c (.t .e) (.c (.t .e) (.c (.t .e) (.c (.t .e) (.c (.t .e) (.c (.t .e) (.c (.t .e) (.c (.t .e) (.c (.t .e) (.c (.t .e) (.c (.t .e) (.c (.t .e) (.c (.t .e) (.c (.t .e) (.c (.t .e) (.c (.t .e) (.c (.t .e) (.c (.t .e) (.c (.t .e) (.c (.t .e) (.c (.t .e) (.c (.t .e) (.c (.t .e) (.c (.t .e) (.c (.t .e) (.c (.t .e) (.c (.t .e) (.c (.t .e) (.c (.t .e) (.c (.t .e) (.c (.t .e) (.c (.t .e) (.c (.t .e) (.c (.t .e) (.c (.t .e) (.c (.t .e) (.c (.t .e) (.c (.t .e) (.c (.t .e) (.c (.t .e) (.c (.t .e) (.c (.t .e) (.c (.t .e) (.c (.t .e) (.c (.t .e) (.c (.t .e) (.c (.t .e) (.c (.t .e) (.c (.t .e) (.c (.t .e) (.c (.t .e) (.c (.t .e) (.c (.t .e) (.c (.t .e) (.c (.t .e) (.c (.t .e) (.c (.t .e) (.c (.t .e) (.c (.t .e) (.c (.t .e) (.c (.t .e) (.c (.t .e) (.c (.t .e) (.c (.t .e) (.c (.t .e) (.c (.t .e) (.c (.t .e) (.c (.t .e) (.c (.t .e) (.c (.t .e) (.c (.t .e) (.c (.t .e) (.c (.t .e) (.c (.t .e) (.c (.t .e) (.c (.t .e) (.c (.t .e) (.c (.t .e) (.c (.t .e) (.c (.t .e) (.c (.t .e) (.c (.t .e) (.c (.t .e) (.c (.t .e) (.c (.t .e) (.c (.t .e) (.c (.t .e) (.c (.t .e) (.c (.t .e) (.c (.t .e) (.c (.t .e) (.c (.t .e) (.c (.t .e) (.c (.t .e) (.c (.t .e) (.c (.t .e) (.c (.t .e) (.c (.t .e) (.c (.t .e) (.c (.t .e) (.c (.t .e) (.c (.t .e) (.c (.t .e) (.c (.t .e) (.c (.t .e) (.c (.t .e) (.c (.t .e) (.c (.t .e) (.c (.t .e) (.c (.t .e) (.c (.t .e) (.c (.t .e) (.c (.t .e) (.c (.t .e) (.c (.t .e) (.c (.t .e) (.c (.t .e) (.c (.t .e) (.c (.t .e) (.c (.t .e) (.c (.t .e) (.c (.t .e) (.c (.t .e) (.c (.t .e) (.c (.t .e) (.c (.t .e) (.c (.t .e) (.c (.t .e) (.c (.t .e) (.c (.t .e) (.c (.t .e) (.c (.t .e) (.c (.t .e) (.c (.t .e) (.c (.t .e) (.c (.t .e) (.c (.t .e) (.c (.t .e) (.c (.t .e) (.c (.t .e) (.c (.t .e) (.c (.t .e) (.c (.t .e) (.c (.t .e) (.c (.t .e) (.c (.t .e) (.c (.t .e) (.c (.t .e) (.c (.t .e) (.c (.t .e) (.c (.t .e) .e))))))))))))))))))))))))))))))))))))))))))))))))))))))))))))))))))))))))))))))))))))))))))))))))))))))))))))))))))))))))))))))))))))))))))))))))))))))))))))))))))))))))))))))))))))))))))) en0
def b1:List HB:=[]
noncomputable def e2:En:=setPsV (slsN 0 187) (.c (.b false) (.c (.p 0 0) (.c (.i .i64 0) (.c (.i .i64 0) (.c (.t .e) (.c (.t .e) (.c (.t .e) (.c (.t .e) (.c (.t .e) (.c (.t .e) (.c (.t .e) (.c (.t .e) (.c (.t .e) (.c (.t .e) (.c (.t .e) (.c (.t .e) (.c (.t .e) (.c (.t .e) (.c (.t .e) (.c (.t .e) (.c (.t .e) (.c (.t .e) (.c (.t .e) (.c (.t .e) (.c (.t .e) (.c (.t .e) (.c (.t .e) (.c (.t .e) (.c (.t .e) (.c (.t (.c (.a (.c (.sl 1 0 1 0) (.c .ns (.c .ns (.c (.sl 3 0 1 0) (.c .ns (.c (.sl 10 0 1 0) .e))))))) (.c (.i .i64 0) (.c (.i .i64 0) .e)))) (.c (.t (.c (.a (.c (.sl 1 0 1 0) (.c .ns (.c .ns (.c (.sl 3 0 1 0) (.c .ns (.c (.sl 10 0 1 0) .e))))))) (.c (.i .i64 0) (.c (.i .i64 0) .e)))) (.c (.a (.c (.sl 1 0 1 0) (.c .ns (.c .ns (.c (.sl 3 0 1 0) (.c .ns (.c (.sl 10 0 1 0) .e))))))) (.c (.i .i64 0) (.c (.i .i64 0) (.c (.t .e) (.c (.t .e) (.c (.t .e) (.c (.t .e) (.c (.t .e) (.c (.t .e) (.c (.t .e) (.c (.t .e) (.c (.t .e) (.c (.t .e) (.c (.t .e) (.c (.t .e) (.c (.t .e) (.c (.t .e) (.c (.t .e) (.c (.t .e) (.c (.t .e) (.c (.t .e) (.c (.t .e) (.c (.t .e) (.c (.t .e) (.c (.t .e) (.c (.t .e) (.c (.t .e) (.c (.t .e) (.c (.t .e) (.c (.t .e) (.c (.t .e) (.c (.t .e) (.c (.t .e) (.c (.t .e) (.c (.t .e) (.c (.t .e) (.c (.t .e) (.c (.t .e) (.c (.t .e) (.c (.t .e) (.c (.t .e) (.c (.t .e) (.c (.t .e) (.c (.t .e) (.c (.t .e) (.c (.t .e) (.c (.t .e) (.c (.t .e) (.c (.t .e) (.c (.t .e) (.c (.t .e) (.c (.t .e) (.c (.t .e) (.c (.t .e) (.c (.t .e) (.c (.t .e) (.c (.t .e) (.c (.t .e) (.c (.t .e) (.c (.t .e) (.c (.t .e) (.c (.t .e) (.c (.t .e) (.c (.t .e) (.c (.t .e) (.c (.t .e) (.c (.t .e) (.c (.t .e) (.c (.t .e) (.c (.t .e) (.c (.t .e) (.c (.t .e) (.c (.t .e) (.c (.t .e) (.c (.t .e) (.c (.t .e) (.c (.t .e) (.c (.t .e) (.c (.t .e) (.c (.t .e) (.c (.t .e) (.c (.t .e) (.c (.t .e) (.c (.t .e) (.c (.t .e) (.c (.t .e) (.c (.t .e) (.c (.t .e) (.c (.t .e) (.c (.t .e) (.c (.t .e) (.c (.t .e) (.c (.t .e) (.c (.t .e) (.c (.t .e) (.c (.t .e) (.c (.t .e) (.c (.t .e) (.c (.t .e) (.c (.t .e) (.c (.t .e) (.c (.t .e) (.c (.t .e) (.c (.t .e) (.c (.t .e) (.c (.t .e) (.c (.t .e) (.c (.t .e) (.c (.t .e) (.c (.t .e) (.c (.t .e) (.c (.t .e) (.c (.t .e) (.c (.t .e) (.c (.t .e) (.c (.t .e) (.c (.t .e) (.c (.t .e) (.c (.t .e) (.c (.t .e) (.c (.t .e) (.c (.t .e) (.c (.t .e) (.c (.t .e) (.c (.t .e) (.c (.t .e) (.c (.t .e) (.c (.t .e) (.c (.t .e) (.c (.t .e) (.c (.t .e) (.c (.t .e) (.c (.t .e) (.c (.t .e) (.c (.t .e) (.c (.t .e) (.c (.t .e) (.c (.t .e) (.c (.t .e) (.c (.t .e) (.c (.t .e) (.c (.t .e) (.c (.t .e) (.c (.t .e) (.c (.t .e) (.c (.t .e) (.c (.t .e) (.c (.t .e) (.c (.t .e) (.c (.t .e) (.c (.t .e) (.c (.t .e) (.c (.t .e) (.c (.t .e) (.c (.t .e) (.c (.t .e) .e))))))))))))))))))))))))))))))))))))))))))))))))))))))))))))))))))))))))))))))))))))))))))))))))))))))))))))))))))))))))))))))))))))))))))))))))))))))))))))))))))))))))))))))))))))))))))) en0
def b2:List HB:=[.c 6 0 (.nd (.nd (.nd .lf (.sl 3 0 1 0) .lf) .ns (.nd .lf (.sl 10 0 1 0) .lf)) (.sl 1 0 1 0) (.nd (.nd .lf .ns .lf) .ns .lf)),.c 1 1 (.nd .lf (.sl 2 0 1 0) .lf),.c 3 3 (.nd (.nd .lf (.i .i64 0) .lf) (.s 1863882309004932433883281432611402739783377824362953291773203927618710299372316134859171908377316663645956656950302696072907571733982989700393788937586004158788607962899155833453264682292260939158937622858122237545899191305509535784185118263981158740838004566276961 1) (.nd .lf (.i .i64 5) .lf)),.c 4 4 (.nd (.nd (.nd .lf (.i .i64 15) .lf) (.sl 4 0 1 0) .lf) (.s 1541767310089451621261172555495697313444389620978786836612291608047216978943190038269992581660807895879917897912020752871793062639201954649906847369290257383778355926571659342631226220770109363127031414184012983478461775926432898059448557684 1) (.nd .lf (.sl 5 0 7 0) .lf)),.c 1 1 (.nd .lf (.s 83579373353305791365822842371794793451286006382544375721787623028303256311711212464434763187888938796867428614440363259039413353556938692678882387391976315013433813080480976153613762237349345259259748320505866113660238706 1) .lf),.c 63 9 (.nd (.nd (.nd (.nd (.nd (.nd .lf .ns .lf) (.i .i64 1) (.nd .lf (.s 6853953556342802341205876957757653179267152101147098839111402238887523201858401 1) .lf)) (.i .i64 0) (.nd (.nd .lf (.sx 8 0 1 1) .lf) (.i .i64 0) (.nd .lf (.s 0 0) .lf))) .ns (.nd (.nd (.nd .lf (.i .i64 51) .lf) (.s 0 0) (.nd .lf (.i .i64 0) .lf)) (.s 0 0) (.nd (.nd .lf (.i .i64 0) .lf) (.i .i64 3) (.nd .lf (.i .i64 0) .lf)))) (.s 0 0) (.nd (.nd (.nd (.nd .lf (.i .i64 0) .lf) (.i .i64 35) (.nd .lf .ns .lf)) (.i .i64 11) (.nd (.nd .lf (.i .i64 0) .lf) (.i .i64 0) (.nd .lf (.sl 9 0 3 0) .lf))) (.i .i64 2) (.nd (.nd (.nd .lf (.s 152848271862563638120516644506141709503854879777374844809284980808946433651540249339204392654830966935850190306607959449714 1) .lf) .ns (.nd .lf (.i .i64 73) .lf)) .ns (.nd (.nd .lf (.i .i64 2) .lf) (.s 11013878723271453907765025902628005389658410726909686586564431939365346641693573324507023287299778449622216062697333982732810963496782864481 1) (.nd .lf (.i .i64 0) .lf))))) (.i .i64 12) (.nd (.nd (.nd (.nd (.nd .lf (.i .i64 0) .lf) (.i .i64 0) (.nd .lf .ns .lf)) (.i .i64 26) (.nd (.nd .lf .ns .lf) (.i .i64 0) (.nd .lf (.s 0 0) .lf))) .ns (.nd (.nd (.nd .lf (.i .i64 1) .lf) (.s 0 0) (.nd .lf (.i .i64 0) .lf)) (.sx 6 0 1 1) (.nd (.nd .lf (.i .i64 64) .lf) (.s 0 0) (.nd .lf (.i .i64 0) .lf)))) (.s 0 0) (.nd (.nd (.nd (.nd .lf (.i .i64 0) .lf) (.i .i64 13) (.nd .lf (.i .i64 0) .lf)) (.s 0 0) (.nd (.nd .lf (.i .i64 0) .lf) (.i .i64 42) (.nd .lf .ns .lf))) (.i .i64 4) (.nd (.nd (.nd .lf (.s 0 0) .lf) .ns (.nd .lf (.i .i64 14) .lf)) (.i .i64 0) (.nd (.nd .lf (.s 29437506372795229420471474736569093898662843521484473599263038316723091574423039258730610 1) .lf) (.sx 7 0 1 1) (.nd .lf (.i .i64 85) .lf)))))),.c 4 4 (.nd (.nd (.nd .lf (.i .i64 38) .lf) (.i .i64 0) .lf) (.i .i64 2) (.nd .lf (.s 62878131982129783171252464912215458196030264988925706696492646691612740328199851106899371050032041183430099976643214985358879597672996702024447647715422608893694828093157639690145964146 1) .lf)),.c 4 4 (.nd (.nd (.nd .lf (.i .i64 61) .lf) (.i .i64 1) .lf) (.i .i64 1) (.nd .lf (.s 0 0) .lf)),.c 4 4 (.nd (.nd (.nd .lf (.i .i64 68) .lf) (.i .i64 1) .lf) (.i .i64 1) (.nd .lf (.s 0 0) .lf)),.c 12 4 (.nd (.nd (.nd (.nd .lf (.i .i64 91) .lf) (.i .i64 93) (.nd .lf (.i .i64 96) .lf)) (.i .i64 0) (.nd (.nd .lf (.i .i64 0) .lf) (.i .i64 0) .lf)) (.i .i64 10) (.nd (.nd (.nd .lf (.i .i64 1) .lf) (.i .i64 2) .lf) (.s 0 0) (.nd (.nd .lf (.s 0 0) .lf) (.s 1451381120293284280661655743834743304796902233590283968626 1) .lf))),.c 2 2 (.nd (.nd .lf (.i .i64 101) .lf) (.sl 11 0 3 0) .lf),.c 12 4 (.nd (.nd (.nd (.nd .lf (.i .i64 108) .lf) (.i .i64 110) (.nd .lf (.i .i64 113) .lf)) (.i .i64 0) (.nd (.nd .lf (.i .i64 1) .lf) (.i .i64 0) .lf)) (.i .i64 10) (.nd (.nd (.nd .lf (.i .i64 1) .lf) (.i .i64 2) .lf) (.s 0 0) (.nd (.nd .lf (.s 0 0) .lf) (.s 16661038162059361 1) .lf)))]
noncomputable def e3:En:=setPsV (slsN 0 187) (.c (.b false) (.c (.p 0 0) (.c (.i .i64 0) (.c (.i .i64 0) (.c (.p 12 0) (.c (.i .i64 0) (.c (.t .e) (.c (.t .e) (.c (.t .e) (.c (.t .e) (.c (.t .e) (.c (.t .e) (.c (.t .e) (.c (.t .e) (.c (.t .e) (.c (.t .e) (.c (.t .e) (.c (.t .e) (.c (.t .e) (.c (.t .e) (.c (.t .e) (.c (.t .e) (.c (.t .e) (.c (.t .e) (.c (.t .e) (.c (.t .e) (.c (.t .e) (.c (.t .e) (.c (.t .e) (.c (.t (.c (.a (.c (.sl 1 0 1 0) (.c .ns (.c .ns (.c (.sl 3 0 1 0) (.c .ns (.c (.sl 10 0 1 0) .e))))))) (.c (.i .i64 0) (.c (.i .i64 0) .e)))) (.c (.t (.c (.a (.c (.sl 1 0 1 0) (.c .ns (.c .ns (.c (.sl 3 0 1 0) (.c .ns (.c (.sl 10 0 1 0) .e))))))) (.c (.i .i64 0) (.c (.i .i64 0) .e)))) (.c (.a (.c (.sl 1 0 1 0) (.c .ns (.c .ns (.c (.sl 3 0 1 0) (.c .ns (.c (.sl 10 0 1 0) .e))))))) (.c (.i .i64 0) (.c (.i .i64 0) (.c (.t (.c (.p 12 0) (.c (.i .i64 0) .e))) (.c (.a (.c (.sl 1 0 1 0) (.c .ns (.c .ns (.c (.sl 3 0 1 0) (.c .ns (.c (.sl 10 0 1 0) .e))))))) (.c (.t (.c (.p 12 0) (.c (.i .i64 0) .e))) (.c (.p 12 0) (.c (.i .i64 0) (.c (.t .e) (.c (.t .e) (.c (.t .e) (.c (.t .e) (.c (.t .e) (.c (.t .e) (.c (.t .e) (.c (.t .e) (.c (.t .e) (.c (.t .e) (.c (.t .e) (.c (.t .e) (.c (.t .e) (.c (.t .e) (.c (.t .e) (.c (.t .e) (.c (.t .e) (.c (.t .e) (.c (.t .e) (.c (.t .e) (.c (.t .e) (.c (.t .e) (.c (.t .e) (.c (.t .e) (.c (.t .e) (.c (.t .e) (.c (.t .e) (.c (.t .e) (.c (.t .e) (.c (.t .e) (.c (.t .e) (.c (.t .e) (.c (.t .e) (.c (.t .e) (.c (.t .e) (.c (.t .e) (.c (.t .e) (.c (.t .e) (.c (.t .e) (.c (.t .e) (.c (.t .e) (.c (.t .e) (.c (.t .e) (.c (.t .e) (.c (.t .e) (.c (.t .e) (.c (.t .e) (.c (.t .e) (.c (.t .e) (.c (.t .e) (.c (.t .e) (.c (.t .e) (.c (.t .e) (.c (.t .e) (.c (.t .e) (.c (.t .e) (.c (.t .e) (.c (.t .e) (.c (.t .e) (.c (.t .e) (.c (.t .e) (.c (.t .e) (.c (.t .e) (.c (.t .e) (.c (.t .e) (.c (.t .e) (.c (.t .e) (.c (.t .e) (.c (.t .e) (.c (.t .e) (.c (.t .e) (.c (.t .e) (.c (.t .e) (.c (.t .e) (.c (.t .e) (.c (.t .e) (.c (.t .e) (.c (.t .e) (.c (.t .e) (.c (.t .e) (.c (.t .e) (.c (.t .e) (.c (.t .e) (.c (.t .e) (.c (.t .e) (.c (.t .e) (.c (.t .e) (.c (.t .e) (.c (.t .e) (.c (.t .e) (.c (.t .e) (.c (.t .e) (.c (.t .e) (.c (.t .e) (.c (.t .e) (.c (.t .e) (.c (.t .e) (.c (.t .e) (.c (.t .e) (.c (.t .e) (.c (.t .e) (.c (.t .e) (.c (.t .e) (.c (.t .e) (.c (.t .e) (.c (.t .e) (.c (.t .e) (.c (.t .e) (.c (.t .e) (.c (.t .e) (.c (.t .e) (.c (.t .e) (.c (.t .e) (.c (.t .e) (.c (.t .e) (.c (.t .e) (.c (.t .e) (.c (.t .e) (.c (.t .e) (.c (.t .e) (.c (.t .e) (.c (.t .e) (.c (.t .e) (.c (.t .e) (.c (.t .e) (.c (.t .e) (.c (.t .e) (.c (.t .e) (.c (.t .e) (.c (.t .e) (.c (.t .e) (.c (.t .e) (.c (.t .e) (.c (.t .e) (.c (.t .e) (.c (.t .e) (.c (.t .e) (.c (.t .e) (.c (.t .e) (.c (.t .e) (.c (.t .e) (.c (.t .e) (.c (.t .e) (.c (.t .e) (.c (.t .e) (.c (.t .e) (.c (.t .e) (.c (.t .e) .e))))))))))))))))))))))))))))))))))))))))))))))))))))))))))))))))))))))))))))))))))))))))))))))))))))))))))))))))))))))))))))))))))))))))))))))))))))))))))))))))))))))))))))))))))))))))))) en0
def b3:List HB:=[.c 6 0 (.nd (.nd (.nd .lf (.sl 3 0 1 0) .lf) .ns (.nd .lf (.sl 10 0 1 0) .lf)) (.sl 1 0 1 0) (.nd (.nd .lf .ns .lf) .ns .lf)),.c 1 1 (.nd .lf (.sl 2 0 1 0) .lf),.c 3 3 (.nd (.nd .lf (.i .i64 0) .lf) (.s 1863882309004932433883281432611402739783377824362953291773203927618710299372316134859171908377316663645956656950302696072907571733982989700393788937586004158788607962899155833453264682292260939158937622858122237545899191305509535784185118263981158740838004566276961 1) (.nd .lf (.i .i64 5) .lf)),.c 4 4 (.nd (.nd (.nd .lf (.i .i64 15) .lf) (.sl 4 0 1 0) .lf) (.s 1541767310089451621261172555495697313444389620978786836612291608047216978943190038269992581660807895879917897912020752871793062639201954649906847369290257383778355926571659342631226220770109363127031414184012983478461775926432898059448557684 1) (.nd .lf (.sl 5 0 7 0) .lf)),.c 1 1 (.nd .lf (.s 83579373353305791365822842371794793451286006382544375721787623028303256311711212464434763187888938796867428614440363259039413353556938692678882387391976315013433813080480976153613762237349345259259748320505866113660238706 1) .lf),.c 63 9 (.nd (.nd (.nd (.nd (.nd (.nd .lf .ns .lf) (.i .i64 1) (.nd .lf (.s 6853953556342802341205876957757653179267152101147098839111402238887523201858401 1) .lf)) (.i .i64 0) (.nd (.nd .lf (.sx 8 0 1 1) .lf) (.i .i64 0) (.nd .lf (.s 0 0) .lf))) .ns (.nd (.nd (.nd .lf (.i .i64 51) .lf) (.s 0 0) (.nd .lf (.i .i64 0) .lf)) (.s 0 0) (.nd (.nd .lf (.i .i64 0) .lf) (.i .i64 3) (.nd .lf (.i .i64 0) .lf)))) (.s 0 0) (.nd (.nd (.nd (.nd .lf (.i .i64 0) .lf) (.i .i64 35) (.nd .lf .ns .lf)) (.i .i64 11) (.nd (.nd .lf (.i .i64 0) .lf) (.i .i64 0) (.nd .lf (.sl 9 0 3 0) .lf))) (.i .i64 2) (.nd (.nd (.nd .lf (.s 152848271862563638120516644506141709503854879777374844809284980808946433651540249339204392654830966935850190306607959449714 1) .lf) .ns (.nd .lf (.i .i64 73) .lf)) .ns (.nd (.nd .lf (.i .i64 2) .lf) (.s 11013878723271453907765025902628005389658410726909686586564431939365346641693573324507023287299778449622216062697333982732810963496782864481 1) (.nd .lf (.i .i64 0) .lf))))) (.i .i64 12) (.nd (.nd (.nd (.nd (.nd .lf (.i .i64 0) .lf) (.i .i64 0) (.nd .lf .ns .lf)) (.i .i64 26) (.nd (.nd .lf .ns .lf) (.i .i64 0) (.nd .lf (.s 0 0) .lf))) .ns (.nd (.nd (.nd .lf (.i .i64 1) .lf) (.s 0 0) (.nd .lf (.i .i64 0) .lf)) (.sx 6 0 1 1) (.nd (.nd .lf (.i .i64 64) .lf) (.s 0 0) (.nd .lf (.i .i64 0) .lf)))) (.s 0 0) (.nd (.nd (.nd (.nd .lf (.i .i64 0) .lf) (.i .i64 13) (.nd .lf (.i .i64 0) .lf)) (.s 0 0) (.nd (.nd .lf (.i .i64 0) .lf) (.i .i64 42) (.nd .lf .ns .lf))) (.i .i64 4) (.nd (.nd (.nd .lf (.s 0 0) .lf) .ns (.nd .lf (.i .i64 14) .lf)) (.i .i64 0) (.nd (.nd .lf (.s 29437506372795229420471474736569093898662843521484473599263038316723091574423039258730610 1) .lf) (.sx 7 0 1 1) (.nd .lf (.i .i64 85) .lf)))))),.c 4 4 (.nd (.nd (.nd .lf (.i .i64 38) .lf) (.i .i64 0) .lf) (.i .i64 2) (.nd .lf (.s 62878131982129783171252464912215458196030264988925706696492646691612740328199851106899371050032041183430099976643214985358879597672996702024447647715422608893694828093157639690145964146 1) .lf)),.c 4 4 (.nd (.nd (.nd .lf (.i .i64 61) .lf) (.i .i64 1) .lf) (.i .i64 1) (.nd .lf (.s 0 0) .lf)),.c 4 4 (.nd (.nd (.nd .lf (.i .i64 68) .lf) (.i .i64 1) .lf) (.i .i64 1) (.nd .lf (.s 0 0) .lf)),.c 12 4 (.nd (.nd (.nd (.nd .lf (.i .i64 91) .lf) (.i .i64 93) (.nd .lf (.i .i64 96) .lf)) (.i .i64 0) (.nd (.nd .lf (.i .i64 0) .lf) (.i .i64 0) .lf)) (.i .i64 10) (.nd (.nd (.nd .lf (.i .i64 1) .lf) (.i .i64 2) .lf) (.s 0 0) (.nd (.nd .lf (.s 0 0) .lf) (.s 1451381120293284280661655743834743304796902233590283968626 1) .lf))),.c 2 2 (.nd (.nd .lf (.i .i64 101) .lf) (.sl 11 0 3 0) .lf),.c 12 4 (.nd (.nd (.nd (.nd .lf (.i .i64 108) .lf) (.i .i64 110) (.nd .lf (.i .i64 113) .lf)) (.i .i64 0) (.nd (.nd .lf (.i .i64 1) .lf) (.i .i64 0) .lf)) (.i .i64 10) (.nd (.nd (.nd .lf (.i .i64 1) .lf) (.i .i64 2) .lf) (.s 0 0) (.nd (.nd .lf (.s 0 0) .lf) (.s 16661038162059361 1) .lf))),.c 15 0 (.nd (.nd (.nd (.nd .lf .ns .lf) (.sl 3 0 1 0) (.nd .lf (.sl 20 0 1 0) .lf)) .ns (.nd (.nd .lf (.p 14 0) .lf) (.sl 10 0 1 0) (.nd .lf (.i .i64 0) .lf))) (.sl 1 0 1 0) (.nd (.nd (.nd .lf (.i .i64 2) .lf) .ns (.nd .lf (.i .i64 0) .lf)) .ns (.nd (.nd .lf .ns .lf) (.sl 13 0 1 0) (.nd .lf (.i .i64 0) .lf)))),.c 1 1 (.nd .lf (.s 1863882309004932433883281432611402739783377824362953291773203927618710299372316134859171908377316663645956656950302696072907571733982989700393788937586004158788607962899155833453264682292260939158937622858122237545899191305509535784185118263981158740838004566276961 1) .lf),.c 5 0 (.nd (.nd (.nd .lf (.sl 18 0 1 0) .lf) (.sl 16 0 1 0) .lf) (.sl 15 0 1 0) (.nd (.nd .lf (.m 19) .lf) (.sl 17 0 1 0) .lf)),.c 1 1 (.nd .lf (.i .i64 0) .lf),.c 1 1 (.nd .lf (.i .i64 0) .lf),.c 1 1 (.nd .lf (.i .i64 0) .lf),.c 1 1 (.nd .lf (.i .i64 0) .lf),.m 0 .nil,.c 1 1 (.nd .lf (.p 21 0) .lf),.c 5 0 (.nd (.nd (.nd .lf (.sl 24 0 3 0) .lf) (.sl 4 0 1 0) .lf) (.p 22 0) (.nd (.nd .lf (.i .i64 0) .lf) (.sx 23 0 1 1) .lf)),.c 2 0 (.nd (.nd .lf .ns .lf) (.i .i64 2) .lf),.c 1 1 (.nd .lf (.i .i64 0) .lf),.c 6 2 (.nd (.nd (.nd .lf (.b true) .lf) (.b false) (.nd .lf (.b false) .lf)) (.sl 5 45 2 5) (.nd (.nd .lf (.sx 5 27 2 2) .lf) (.sl 25 0 5 0) .lf)),.c 45 9 (.nd (.nd (.nd (.nd (.nd (.nd .lf .ns .lf) (.i .i64 1) .lf) (.i .i64 0) (.nd (.nd .lf (.sx 8 0 1 1) .lf) (.i .i64 0) .lf)) .ns (.nd (.nd (.nd .lf (.i .i64 51) .lf) (.s 0 0) .lf) (.s 0 0) (.nd (.nd .lf (.i .i64 0) .lf) (.i .i64 3) .lf))) (.s 0 0) (.nd (.nd (.nd (.nd .lf (.i .i64 0) .lf) (.i .i64 35) .lf) (.i .i64 11) (.nd (.nd .lf (.i .i64 0) .lf) (.i .i64 0) .lf)) (.i .i64 1) (.nd (.nd (.nd .lf (.s 152848271862563638120516644506141709503854879777374844809284980808946433651540249339204392654830966935850190306607959449714 1) .lf) .ns .lf) .ns (.nd .lf (.s 11013878723271453907765025902628005389658410726909686586564431939365346641693573324507023287299778449622216062697333982732810963496782864481 1) .lf)))) (.i .i64 12) (.nd (.nd (.nd (.nd (.nd .lf (.i .i64 0) .lf) (.i .i64 0) .lf) (.i .i64 26) (.nd (.nd .lf .ns .lf) (.i .i64 0) .lf)) .ns (.nd (.nd (.nd .lf (.i .i64 1) .lf) (.s 0 0) .lf) (.sx 6 0 1 1) (.nd (.nd .lf (.i .i64 64) .lf) (.s 0 0) .lf))) (.s 0 0) (.nd (.nd (.nd (.nd .lf (.i .i64 0) .lf) (.i .i64 13) .lf) (.s 0 0) (.nd (.nd .lf (.i .i64 0) .lf) (.i .i64 42) .lf)) (.i .i64 4) (.nd (.nd (.nd .lf (.s 0 0) .lf) .ns .lf) (.i .i64 0) (.nd .lf (.sx 7 0 1 1) .lf)))))]
noncomputable def e4:En:=setPsV (slsN 0 187) (.c (.b false) (.c (.p 0 0) (.c (.i .i64 0) (.c (.i .i64 0) (.c (.p 12 0) (.c (.i .i64 0) (.c .np (.c (.i .i64 2) (.c (.t .e) (.c (.t .e) (.c (.t .e) (.c (.t .e) (.c (.t .e) (.c (.t .e) (.c (.t .e) (.c (.t .e) (.c (.t .e) (.c (.t .e) (.c (.t .e) (.c (.t .e) (.c (.t .e) (.c (.t .e) (.c (.t .e) (.c (.t .e) (.c (.t .e) (.c (.t .e) (.c (.t .e) (.c (.t .e) (.c (.t .e) (.c (.t (.c (.a (.c (.sl 1 0 1 0) (.c .ns (.c .ns (.c (.sl 3 0 1 0) (.c .ns (.c (.sl 10 0 1 0) .e))))))) (.c (.i .i64 0) (.c (.i .i64 0) .e)))) (.c (.t (.c (.a (.c (.sl 1 0 1 0) (.c .ns (.c .ns (.c (.sl 3 0 1 0) (.c .ns (.c (.sl 10 0 1 0) .e))))))) (.c (.i .i64 0) (.c (.i .i64 0) .e)))) (.c (.a (.c (.sl 1 0 1 0) (.c .ns (.c .ns (.c (.sl 3 0 1 0) (.c .ns (.c (.sl 10 0 1 0) .e))))))) (.c (.i .i64 0) (.c (.i .i64 0) (.c (.t (.c (.p 12 0) (.c (.i .i64 0) .e))) (.c (.a (.c (.sl 1 0 1 0) (.c .ns (.c .ns (.c (.sl 3 0 1 0) (.c .ns (.c (.sl 10 0 1 0) .e))))))) (.c (.t (.c (.p 12 0) (.c (.i .i64 0) .e))) (.c (.p 12 0) (.c (.i .i64 0) (.c (.t (.c .np (.c (.i .i64 2) .e))) (.c (.a (.c .ns (.c .ns (.c .ns (.c .ns (.c .ns (.c .ns .e))))))) (.c (.t (.c .np (.c (.i .i64 2) .e))) (.c .np (.c (.i .i64 2) (.c (.t .e) (.c (.t .e) (.c (.t .e) (.c (.t .e) (.c (.t .e) (.c (.t .e) (.c (.t .e) (.c (.t .e) (.c (.t .e) (.c (.t .e) (.c (.t .e) (.c (.t .e) (.c (.t .e) (.c (.t .e) (.c (.t .e) (.c (.t .e) (.c (.t .e) (.c (.t .e) (.c (.t .e) (.c (.t .e) (.c (.t .e) (.c (.t .e) (.c (.t .e) (.c (.t .e) (.c (.t .e) (.c (.t .e) (.c (.t .e) (.c (.t .e) (.c (.t .e) (.c (.t .e) (.c (.t .e) (.c (.t .e) (.c (.t .e) (.c (.t .e) (.c (.t .e) (.c (.t .e) (.c (.t .e) (.c (.t .e) (.c (.t .e) (.c (.t .e) (.c (.t .e) (.c (.t .e) (.c (.t .e) (.c (.t .e) (.c (.t .e) (.c (.t .e) (.c (.t .e) (.c (.t .e) (.c (.t .e) (.c (.t .e) (.c (.t .e) (.c (.t .e) (.c (.t .e) (.c (.t .e) (.c (.t .e) (.c (.t .e) (.c (.t .e) (.c (.t .e) (.c (.t .e) (.c (.t .e) (.c (.t .e) (.c (.t .e) (.c (.t .e) (.c (.t .e) (.c (.t .e) (.c (.t .e) (.c (.t .e) (.c (.t .e) (.c (.t .e) (.c (.t .e) (.c (.t .e) (.c (.t .e) (.c (.t .e) (.c (.t .e) (.c (.t .e) (.c (.t .e) (.c (.t .e) (.c (.t .e) (.c (.t .e) (.c (.t .e) (.c (.t .e) (.c (.t .e) (.c (.t .e) (.c (.t .e) (.c (.t .e) (.c (.t .e) (.c (.t .e) (.c (.t .e) (.c (.t .e) (.c (.t .e) (.c (.t .e) (.c (.t .e) (.c (.t .e) (.c (.t .e) (.c (.t .e) (.c (.t .e) (.c (.t .e) (.c (.t .e) (.c (.t .e) (.c (.t .e) (.c (.t .e) (.c (.t .e) (.c (.t .e) (.c (.t .e) (.c (.t .e) (.c (.t .e) (.c (.t .e) (.c (.t .e) (.c (.t .e) (.c (.t .e) (.c (.t .e) (.c (.t .e) (.c (.t .e) (.c (.t .e) (.c (.t .e) (.c (.t .e) (.c (.t .e) (.c (.t .e) (.c (.t .e) (.c (.t .e) (.c (.t .e) (.c (.t .e) (.c (.t .e) (.c (.t .e) (.c (.t .e) (.c (.t .e) (.c (.t .e) (.c (.t .e) (.c (.t .e) (.c (.t .e) (.c (.t .e) (.c (.t .e) (.c (.t .e) (.c (.t .e) (.c (.t .e) (.c (.t .e) (.c (.t .e) (.c (.t .e) (.c (.t .e) (.c (.t .e) (.c (.t .e) (.c (.t .e) (.c (.t .e) .e))))))))))))))))))))))))))))))))))))))))))))))))))))))))))))))))))))))))))))))))))))))))))))))))))))))))))))))))))))))))))))))))))))))))))))))))))))))))))))))))))))))))))))))))))))))))))) en0
def b4:List HB:=[.c 6 0 (.nd (.nd (.nd .lf (.sl 3 0 1 0) .lf) .ns (.nd .lf (.sl 10 0 1 0) .lf)) (.sl 1 0 1 0) (.nd (.nd .lf .ns .lf) .ns .lf)),.c 1 1 (.nd .lf (.sl 2 0 1 0) .lf),.c 3 3 (.nd (.nd .lf (.i .i64 0) .lf) (.s 1863882309004932433883281432611402739783377824362953291773203927618710299372316134859171908377316663645956656950302696072907571733982989700393788937586004158788607962899155833453264682292260939158937622858122237545899191305509535784185118263981158740838004566276961 1) (.nd .lf (.i .i64 5) .lf)),.c 4 4 (.nd (.nd (.nd .lf (.i .i64 15) .lf) (.sl 4 0 1 0) .lf) (.s 1541767310089451621261172555495697313444389620978786836612291608047216978943190038269992581660807895879917897912020752871793062639201954649906847369290257383778355926571659342631226220770109363127031414184012983478461775926432898059448557684 1) (.nd .lf (.sl 5 0 7 0) .lf)),.c 1 1 (.nd .lf (.s 83579373353305791365822842371794793451286006382544375721787623028303256311711212464434763187888938796867428614440363259039413353556938692678882387391976315013433813080480976153613762237349345259259748320505866113660238706 1) .lf),.c 63 9 (.nd (.nd (.nd (.nd (.nd (.nd .lf .ns .lf) (.i .i64 1) (.nd .lf (.s 6853953556342802341205876957757653179267152101147098839111402238887523201858401 1) .lf)) (.i .i64 0) (.nd (.nd .lf (.sx 8 0 1 1) .lf) (.i .i64 0) (.nd .lf (.s 0 0) .lf))) .ns (.nd (.nd (.nd .lf (.i .i64 51) .lf) (.s 0 0) (.nd .lf (.i .i64 0) .lf)) (.s 0 0) (.nd (.nd .lf (.i .i64 0) .lf) (.i .i64 3) (.nd .lf (.i .i64 0) .lf)))) (.s 0 0) (.nd (.nd (.nd (.nd .lf (.i .i64 0) .lf) (.i .i64 35) (.nd .lf .ns .lf)) (.i .i64 11) (.nd (.nd .lf (.i .i64 0) .lf) (.i .i64 0) (.nd .lf (.sl 9 0 3 0) .lf))) (.i .i64 2) (.nd (.nd (.nd .lf (.s 152848271862563638120516644506141709503854879777374844809284980808946433651540249339204392654830966935850190306607959449714 1) .lf) .ns (.nd .lf (.i .i64 73) .lf)) .ns (.nd (.nd .lf (.i .i64 2) .lf) (.s 11013878723271453907765025902628005389658410726909686586564431939365346641693573324507023287299778449622216062697333982732810963496782864481 1) (.nd .lf (.i .i64 0) .lf))))) (.i .i64 12) (.nd (.nd (.nd (.nd (.nd .lf (.i .i64 0) .lf) (.i .i64 0) (.nd .lf .ns .lf)) (.i .i64 26) (.nd (.nd .lf .ns .lf) (.i .i64 0) (.nd .lf (.s 0 0) .lf))) .ns (.nd (.nd (.nd .lf (.i .i64 1) .lf) (.s 0 0) (.nd .lf (.i .i64 0) .lf)) (.sx 6 0 1 1) (.nd (.nd .lf (.i .i64 64) .lf) (.s 0 0) (.nd .lf (.i .i64 0) .lf)))) (.s 0 0) (.nd (.nd (.nd (.nd .lf (.i .i64 0) .lf) (.i .i64 13) (.nd .lf (.i .i64 0) .lf)) (.s 0 0) (.nd (.nd .lf (.i .i64 0) .lf) (.i .i64 42) (.nd .lf .ns .lf))) (.i .i64 4) (.nd (.nd (.nd .lf (.s 0 0) .lf) .ns (.nd .lf (.i .i64 14) .lf)) (.i .i64 0) (.nd (.nd .lf (.s 29437506372795229420471474736569093898662843521484473599263038316723091574423039258730610 1) .lf) (.sx 7 0 1 1) (.nd .lf (.i .i64 85) .lf)))))),.c 4 4 (.nd (.nd (.nd .lf (.i .i64 38) .lf) (.i .i64 0) .lf) (.i .i64 2) (.nd .lf (.s 62878131982129783171252464912215458196030264988925706696492646691612740328199851106899371050032041183430099976643214985358879597672996702024447647715422608893694828093157639690145964146 1) .lf)),.c 4 4 (.nd (.nd (.nd .lf (.i .i64 61) .lf) (.i .i64 1) .lf) (.i .i64 1) (.nd .lf (.s 0 0) .lf)),.c 4 4 (.nd (.nd (.nd .lf (.i .i64 68) .lf) (.i .i64 1) .lf) (.i .i64 1) (.nd .lf (.s 0 0) .lf)),.c 12 4 (.nd (.nd (.nd (.nd .lf (.i .i64 91) .lf) (.i .i64 93) (.nd .lf (.i .i64 96) .lf)) (.i .i64 0) (.nd (.nd .lf (.i .i64 0) .lf) (.i .i64 0) .lf)) (.i .i64 10) (.nd (.nd (.nd .lf (.i .i64 1) .lf) (.i .i64 2) .lf) (.s 0 0) (.nd (.nd .lf (.s 0 0) .lf) (.s 1451381120293284280661655743834743304796902233590283968626 1) .lf))),.c 2 2 (.nd (.nd .lf (.i .i64 101) .lf) (.sl 11 0 3 0) .lf),.c 12 4 (.nd (.nd (.nd (.nd .lf (.i .i64 108) .lf) (.i .i64 110) (.nd .lf (.i .i64 113) .lf)) (.i .i64 0) (.nd (.nd .lf (.i .i64 1) .lf) (.i .i64 0) .lf)) (.i .i64 10) (.nd (.nd (.nd .lf (.i .i64 1) .lf) (.i .i64 2) .lf) (.s 0 0) (.nd (.nd .lf (.s 0 0) .lf) (.s 16661038162059361 1) .lf))),.c 15 0 (.nd (.nd (.nd (.nd .lf .ns .lf) (.sl 3 0 1 0) (.nd .lf (.sl 20 0 1 0) .lf)) .ns (.nd (.nd .lf (.p 14 0) .lf) (.sl 10 0 1 0) (.nd .lf (.i .i64 0) .lf))) (.sl 1 0 1 0) (.nd (.nd (.nd .lf (.i .i64 2) .lf) .ns (.nd .lf (.i .i64 0) .lf)) .ns (.nd (.nd .lf .ns .lf) (.sl 13 0 1 0) (.nd .lf (.i .i64 0) .lf)))),.c 1 1 (.nd .lf (.s 1863882309004932433883281432611402739783377824362953291773203927618710299372316134859171908377316663645956656950302696072907571733982989700393788937586004158788607962899155833453264682292260939158937622858122237545899191305509535784185118263981158740838004566276961 1) .lf),.c 5 0 (.nd (.nd (.nd .lf (.sl 18 0 1 0) .lf) (.sl 16 0 1 0) .lf) (.sl 15 0 1 0) (.nd (.nd .lf (.m 19) .lf) (.sl 17 0 1 0) .lf)),.c 1 1 (.nd .lf (.i .i64 0) .lf),.c 1 1 (.nd .lf (.i .i64 0) .lf),.c 1 1 (.nd .lf (.i .i64 0) .lf),.c 1 1 (.nd .lf (.i .i64 0) .lf),.m 0 .nil,.c 1 1 (.nd .lf (.p 21 0) .lf),.c 5 0 (.nd (.nd (.nd .lf (.sl 24 0 3 0) .lf) (.sl 4 0 1 0) .lf) (.p 22 0) (.nd (.nd .lf (.i .i64 0) .lf) (.sx 23 0 1 1) .lf)),.c 2 0 (.nd (.nd .lf .ns .lf) (.i .i64 2) .lf),.c 1 1 (.nd .lf (.i .i64 0) .lf),.c 6 2 (.nd (.nd (.nd .lf (.b true) .lf) (.b false) (.nd .lf (.b false) .lf)) (.sl 5 45 2 5) (.nd (.nd .lf (.sx 5 27 2 2) .lf) (.sl 25 0 5 0) .lf)),.c 45 9 (.nd (.nd (.nd (.nd (.nd (.nd .lf .ns .lf) (.i .i64 1) .lf) (.i .i64 0) (.nd (.nd .lf (.sx 8 0 1 1) .lf) (.i .i64 0) .lf)) .ns (.nd (.nd (.nd .lf (.i .i64 51) .lf) (.s 0 0) .lf) (.s 0 0) (.nd (.nd .lf (.i .i64 0) .lf) (.i .i64 3) .lf))) (.s 0 0) (.nd (.nd (.nd (.nd .lf (.i .i64 0) .lf) (.i .i64 35) .lf) (.i .i64 11) (.nd (.nd .lf (.i .i64 0) .lf) (.i .i64 0) .lf)) (.i .i64 1) (.nd (.nd (.nd .lf (.s 152848271862563638120516644506141709503854879777374844809284980808946433651540249339204392654830966935850190306607959449714 1) .lf) .ns .lf) .ns (.nd .lf (.s 11013878723271453907765025902628005389658410726909686586564431939365346641693573324507023287299778449622216062697333982732810963496782864481 1) .lf)))) (.i .i64 12) (.nd (.nd (.nd (.nd (.nd .lf (.i .i64 0) .lf) (.i .i64 0) .lf) (.i .i64 26) (.nd (.nd .lf .ns .lf) (.i .i64 0) .lf)) .ns (.nd (.nd (.nd .lf (.i .i64 1) .lf) (.s 0 0) .lf) (.sx 6 0 1 1) (.nd (.nd .lf (.i .i64 64) .lf) (.s 0 0) .lf))) (.s 0 0) (.nd (.nd (.nd (.nd .lf (.i .i64 0) .lf) (.i .i64 13) .lf) (.s 0 0) (.nd (.nd .lf (.i .i64 0) .lf) (.i .i64 42) .lf)) (.i .i64 4) (.nd (.nd (.nd .lf (.s 0 0) .lf) .ns .lf) (.i .i64 0) (.nd .lf (.sx 7 0 1 1) .lf)))))]
noncomputable def e5:En:=setPsV (slsN 0 187) (.c (.b false) (.c (.p 0 0) (.c (.i .i64 0) (.c (.i .i64 0) (.c (.p 12 0) (.c (.i .i64 0) (.c .np (.c (.i .i64 2) (.c .np (.c (.i .i64 1) (.c (.t .e) (.c (.t .e) (.c (.t .e) (.c (.t .e) (.c (.t .e) (.c (.t .e) (.c (.t .e) (.c (.t .e) (.c (.t .e) (.c (.t .e) (.c (.t .e) (.c (.t .e) (.c (.t .e) (.c (.t .e) (.c (.t .e) (.c (.t .e) (.c (.t .e) (.c (.t .e) (.c (.t .e) (.c (.t (.c (.a (.c (.sl 1 0 1 0) (.c .ns (.c .ns (.c (.sl 3 0 1 0) (.c .ns (.c (.sl 10 0 1 0) .e))))))) (.c (.i .i64 0) (.c (.i .i64 0) .e)))) (.c (.t (.c (.a (.c (.sl 1 0 1 0) (.c .ns (.c .ns (.c (.sl 3 0 1 0) (.c .ns (.c (.sl 10 0 1 0) .e))))))) (.c (.i .i64 0) (.c (.i .i64 0) .e)))) (.c (.a (.c (.sl 1 0 1 0) (.c .ns (.c .ns (.c (.sl 3 0 1 0) (.c .ns (.c (.sl 10 0 1 0) .e))))))) (.c (.i .i64 0) (.c (.i .i64 0) (.c (.t (.c (.p 12 0) (.c (.i .i64 0) .e))) (.c (.a (.c (.sl 1 0 1 0) (.c .ns (.c .ns (.c (.sl 3 0 1 0) (.c .ns (.c (.sl 10 0 1 0) .e))))))) (.c (.t (.c (.p 12 0) (.c (.i .i64 0) .e))) (.c (.p 12 0) (.c (.i .i64 0) (.c (.t (.c .np (.c (.i .i64 2) .e))) (.c (.a (.c .ns (.c .ns (.c .ns (.c .ns (.c .ns (.c .ns .e))))))) (.c (.t (.c .np (.c (.i .i64 2) .e))) (.c .np (.c (.i .i64 2) (.c (.t (.c .np (.c (.i .i64 1) .e))) (.c (.a (.c (.sl 1 0 1 0) (.c .ns (.c .ns (.c (.sl 3 0 1 0) (.c .ns (.c (.sl 10 0 1 0) .e))))))) (.c (.t (.c .np (.c (.i .i64 1) .e))) (.c .np (.c (.i .i64 1) (.c (.t .e) (.c (.t .e) (.c (.t .e) (.c (.t .e) (.c (.t .e) (.c (.t .e) (.c (.t .e) (.c (.t .e) (.c (.t .e) (.c (.t .e) (.c (.t .e) (.c (.t .e) (.c (.t .e) (.c (.t .e) (.c (.t .e) (.c (.t .e) (.c (.t .e) (.c (.t .e) (.c (.t .e) (.c (.t .e) (.c (.t .e) (.c (.t .e) (.c (.t .e) (.c (.t .e) (.c (.t .e) (.c (.t .e) (.c (.t .e) (.c (.t .e) (.c (.t .e) (.c (.t .e) (.c (.t .e) (.c (.t .e) (.c (.t .e) (.c (.t .e) (.c (.t .e) (.c (.t .e) (.c (.t .e) (.c (.t .e) (.c (.t .e) (.c (.t .e) (.c (.t .e) (.c (.t .e) (.c (.t .e) (.c (.t .e) (.c (.t .e) (.c (.t .e) (.c (.t .e) (.c (.t .e) (.c (.t .e) (.c (.t .e) (.c (.t .e) (.c (.t .e) (.c (.t .e) (.c (.t .e) (.c (.t .e) (.c (.t .e) (.c (.t .e) (.c (.t .e) (.c (.t .e) (.c (.t .e) (.c (.t .e) (.c (.t .e) (.c (.t .e) (.c (.t .e) (.c (.t .e) (.c (.t .e) (.c (.t .e) (.c (.t .e) (.c (.t .e) (.c (.t .e) (.c (.t .e) (.c (.t .e) (.c (.t .e) (.c (.t .e) (.c (.t .e) (.c (.t .e) (.c (.t .e) (.c (.t .e) (.c (.t .e) (.c (.t .e) (.c (.t .e) (.c (.t .e) (.c (.t .e) (.c (.t .e) (.c (.t .e) (.c (.t .e) (.c (.t .e) (.c (.t .e) (.c (.t .e) (.c (.t .e) (.c (.t .e) (.c (.t .e) (.c (.t .e) (.c (.t .e) (.c (.t .e) (.c (.t .e) (.c (.t .e) (.c (.t .e) (.c (.t .e) (.c (.t .e) (.c (.t .e) (.c (.t .e) (.c (.t .e) (.c (.t .e) (.c (.t .e) (.c (.t .e) (.c (.t .e) (.c (.t .e) (.c (.t .e) (.c (.t .e) (.c (.t .e) (.c (.t .e) (.c (.t .e) (.c (.t .e) (.c (.t .e) (.c (.t .e) (.c (.t .e) (.c (.t .e) (.c (.t .e) (.c (.t .e) (.c (.t .e) (.c (.t .e) (.c (.t .e) (.c (.t .e) (.c (.t .e) (.c (.t .e) (.c (.t .e) (.c (.t .e) (.c (.t .e) (.c (.t .e) (.c (.t .e) (.c (.t .e) (.c (.t .e) (.c (.t .e) (.c (.t .e) (.c (.t .e) (.c (.t .e) (.c (.t .e) .e))))))))))))))))))))))))))))))))))))))))))))))))))))))))))))))))))))))))))))))))))))))))))))))))))))))))))))))))))))))))))))))))))))))))))))))))))))))))))))))))))))))))))))))))))))))))))) en0
def b5:List HB:=[.c 6 0 (.nd (.nd (.nd .lf (.sl 3 0 1 0) .lf) .ns (.nd .lf (.sl 10 0 1 0) .lf)) (.sl 1 0 1 0) (.nd (.nd .lf .ns .lf) .ns .lf)),.c 1 1 (.nd .lf (.sl 2 0 1 0) .lf),.c 3 3 (.nd (.nd .lf (.i .i64 0) .lf) (.s 1863882309004932433883281432611402739783377824362953291773203927618710299372316134859171908377316663645956656950302696072907571733982989700393788937586004158788607962899155833453264682292260939158937622858122237545899191305509535784185118263981158740838004566276961 1) (.nd .lf (.i .i64 5) .lf)),.c 4 4 (.nd (.nd (.nd .lf (.i .i64 15) .lf) (.sl 4 0 1 0) .lf) (.s 1541767310089451621261172555495697313444389620978786836612291608047216978943190038269992581660807895879917897912020752871793062639201954649906847369290257383778355926571659342631226220770109363127031414184012983478461775926432898059448557684 1) (.nd .lf (.sl 5 0 7 0) .lf)),.c 1 1 (.nd .lf (.s 83579373353305791365822842371794793451286006382544375721787623028303256311711212464434763187888938796867428614440363259039413353556938692678882387391976315013433813080480976153613762237349345259259748320505866113660238706 1) .lf),.c 63 9 (.nd (.nd (.nd (.nd (.nd (.nd .lf .ns .lf) (.i .i64 1) (.nd .lf (.s 6853953556342802341205876957757653179267152101147098839111402238887523201858401 1) .lf)) (.i .i64 0) (.nd (.nd .lf (.sx 8 0 1 1) .lf) (.i .i64 0) (.nd .lf (.s 0 0) .lf))) .ns (.nd (.nd (.nd .lf (.i .i64 51) .lf) (.s 0 0) (.nd .lf (.i .i64 0) .lf)) (.s 0 0) (.nd (.nd .lf (.i .i64 0) .lf) (.i .i64 3) (.nd .lf (.i .i64 0) .lf)))) (.s 0 0) (.nd (.nd (.nd (.nd .lf (.i .i64 0) .lf) (.i .i64 35) (.nd .lf .ns .lf)) (.i .i64 11) (.nd (.nd .lf (.i .i64 0) .lf) (.i .i64 0) (.nd .lf (.sl 9 0 3 0) .lf))) (.i .i64 2) (.nd (.nd (.nd .lf (.s 152848271862563638120516644506141709503854879777374844809284980808946433651540249339204392654830966935850190306607959449714 1) .lf) .ns (.nd .lf (.i .i64 73) .lf)) .ns (.nd (.nd .lf (.i .i64 2) .lf) (.s 11013878723271453907765025902628005389658410726909686586564431939365346641693573324507023287299778449622216062697333982732810963496782864481 1) (.nd .lf (.i .i64 0) .lf))))) (.i .i64 12) (.nd (.nd (.nd (.nd (.nd .lf (.i .i64 0) .lf) (.i .i64 0) (.nd .lf .ns .lf)) (.i .i64 26) (.nd (.nd .lf .ns .lf) (.i .i64 0) (.nd .lf (.s 0 0) .lf))) .ns (.nd (.nd (.nd .lf (.i .i64 1) .lf) (.s 0 0) (.nd .lf (.i .i64 0) .lf)) (.sx 6 0 1 1) (.nd (.nd .lf (.i .i64 64) .lf) (.s 0 0) (.nd .lf (.i .i64 0) .lf)))) (.s 0 0) (.nd (.nd (.nd (.nd .lf (.i .i64 0) .lf) (.i .i64 13) (.nd .lf (.i .i64 0) .lf)) (.s 0 0) (.nd (.nd .lf (.i .i64 0) .lf) (.i .i64 42) (.nd .lf .ns .lf))) (.i .i64 4) (.nd (.nd (.nd .lf (.s 0 0) .lf) .ns (.nd .lf (.i .i64 14) .lf)) (.i .i64 0) (.nd (.nd .lf (.s 29437506372795229420471474736569093898662843521484473599263038316723091574423039258730610 1) .lf) (.sx 7 0 1 1) (.nd .lf (.i .i64 85) .lf)))))),.c 4 4 (.nd (.nd (.nd .lf (.i .i64 38) .lf) (.i .i64 0) .lf) (.i .i64 2) (.nd .lf (.s 62878131982129783171252464912215458196030264988925706696492646691612740328199851106899371050032041183430099976643214985358879597672996702024447647715422608893694828093157639690145964146 1) .lf)),.c 4 4 (.nd (.nd (.nd .lf (.i .i64 61) .lf) (.i .i64 1) .lf) (.i .i64 1) (.nd .lf (.s 0 0) .lf)),.c 4 4 (.nd (.nd (.nd .lf (.i .i64 68) .lf) (.i .i64 1) .lf) (.i .i64 1) (.nd .lf (.s 0 0) .lf)),.c 12 4 (.nd (.nd (.nd (.nd .lf (.i .i64 91) .lf) (.i .i64 93) (.nd .lf (.i .i64 96) .lf)) (.i .i64 0) (.nd (.nd .lf (.i .i64 0) .lf) (.i .i64 0) .lf)) (.i .i64 10) (.nd (.nd (.nd .lf (.i .i64 1) .lf) (.i .i64 2) .lf) (.s 0 0) (.nd (.nd .lf (.s 0 0) .lf) (.s 1451381120293284280661655743834743304796902233590283968626 1) .lf))),.c 2 2 (.nd (.nd .lf (.i .i64 101) .lf) (.sl 11 0 3 0) .lf),.c 12 4 (.nd (.nd (.nd (.nd .lf (.i .i64 108) .lf) (.i .i64 110) (.nd .lf (.i .i64 113) .lf)) (.i .i64 0) (.nd (.nd .lf (.i .i64 1) .lf) (.i .i64 0) .lf)) (.i .i64 10) (.nd (.nd (.nd .lf (.i .i64 1) .lf) (.i .i64 2) .lf) (.s 0 0) (.nd (.nd .lf (.s 0 0) .lf) (.s 16661038162059361 1) .lf))),.c 15 0 (.nd (.nd (.nd (.nd .lf .ns .lf) (.sl 3 0 1 0) (.nd .lf (.sl 20 0 1 0) .lf)) .ns (.nd (.nd .lf (.p 14 0) .lf) (.sl 10 0 1 0) (.nd .lf (.i .i64 0) .lf))) (.sl 1 0 1 0) (.nd (.nd (.nd .lf (.i .i64 2) .lf) .ns (.nd .lf (.i .i64 0) .lf)) .ns (.nd (.nd .lf .ns .lf) (.sl 13 0 1 0) (.nd .lf (.i .i64 0) .lf)))),.c 1 1 (.nd .lf (.s 1863882309004932433883281432611402739783377824362953291773203927618710299372316134859171908377316663645956656950302696072907571733982989700393788937586004158788607962899155833453264682292260939158937622858122237545899191305509535784185118263981158740838004566276961 1) .lf),.c 5 0 (.nd (.nd (.nd .lf (.sl 18 0 1 0) .lf) (.sl 16 0 1 0) .lf) (.sl 15 0 1 0) (.nd (.nd .lf (.m 19) .lf) (.sl 17 0 1 0) .lf)),.c 1 1 (.nd .lf (.i .i64 0) .lf),.c 1 1 (.nd .lf (.i .i64 0) .lf),.c 1 1 (.nd .lf (.i .i64 0) .lf),.c 1 1 (.nd .lf (.i .i64 0) .lf),.m 0 .nil,.c 1 1 (.nd .lf (.p 21 0) .lf),.c 5 0 (.nd (.nd (.nd .lf (.sl 24 0 3 0) .lf) (.sl 4 0 1 0) .lf) (.p 22 0) (.nd (.nd .lf (.i .i64 0) .lf) (.sx 23 0 1 1) .lf)),.c 2 0 (.nd (.nd .lf .ns .lf) (.i .i64 2) .lf),.c 1 1 (.nd .lf (.i .i64 0) .lf),.c 6 2 (.nd (.nd (.nd .lf (.b true) .lf) (.b false) (.nd .lf (.b false) .lf)) (.sl 5 45 2 5) (.nd (.nd .lf (.sx 5 27 2 2) .lf) (.sl 25 0 5 0) .lf)),.c 45 9 (.nd (.nd (.nd (.nd (.nd (.nd .lf .ns .lf) (.i .i64 1) .lf) (.i .i64 0) (.nd (.nd .lf (.sx 8 0 1 1) .lf) (.i .i64 0) .lf)) .ns (.nd (.nd (.nd .lf (.i .i64 51) .lf) (.s 0 0) .lf) (.s 0 0) (.nd (.nd .lf (.i .i64 0) .lf) (.i .i64 3) .lf))) (.s 0 0) (.nd (.nd (.nd (.nd .lf (.i .i64 0) .lf) (.i .i64 35) .lf) (.i .i64 11) (.nd (.nd .lf (.i .i64 0) .lf) (.i .i64 0) .lf)) (.i .i64 1) (.nd (.nd (.nd .lf (.s 152848271862563638120516644506141709503854879777374844809284980808946433651540249339204392654830966935850190306607959449714 1) .lf) .ns .lf) .ns (.nd .lf (.s 11013878723271453907765025902628005389658410726909686586564431939365346641693573324507023287299778449622216062697333982732810963496782864481 1) .lf)))) (.i .i64 12) (.nd (.nd (.nd (.nd (.nd .lf (.i .i64 0) .lf) (.i .i64 0) .lf) (.i .i64 26) (.nd (.nd .lf .ns .lf) (.i .i64 0) .lf)) .ns (.nd (.nd (.nd .lf (.i .i64 1) .lf) (.s 0 0) .lf) (.sx 6 0 1 1) (.nd (.nd .lf (.i .i64 64) .lf) (.s 0 0) .lf))) (.s 0 0) (.nd (.nd (.nd (.nd .lf (.i .i64 0) .lf) (.i .i64 13) .lf) (.s 0 0) (.nd (.nd .lf (.i .i64 0) .lf) (.i .i64 42) .lf)) (.i .i64 4) (.nd (.nd (.nd .lf (.s 0 0) .lf) .ns .lf) (.i .i64 0) (.nd .lf (.sx 7 0 1 1) .lf)))))]
theorem fxs5:GoS Tryz.prog Tryz.f9 (sqT 5 bd) e5 (mkH b5 0):=GoS.last (n:=26) (pl:=pls 9) mixed calOk (by kernel_rfl) rfl (by kernel_rfl)
theorem fxc4:sqT 4 bd = .seq (sqH (sqT 4 bd)) (sqT 5 bd):=by kernel_rfl
theorem fxr4:nxB (evC (prepC Tryz.prog Tryz.f9.ntmps (pls 9) (sqH (sqT 4 bd))) Tryz.prog calF e4 (mkH b4 0) 26 .nil) (subB 1152921504606846997 [0,1,2,3,4,5,6,7,8,9,10,11,12,13,14,15,16,17,18,19,20,21,22,23,24,25] e5 b5)=true:=by kernel_rfl
theorem fxs4:GoS Tryz.prog Tryz.f9 (sqT 4 bd) e4 (mkH b4 0):=by
 rw [fxc4]
 exact GoS.part mixed calOk (by kernel_rfl) fxr4 fxs5
theorem fxc3:sqT 3 bd = .seq (sqH (sqT 3 bd)) (sqT 4 bd):=by kernel_rfl
theorem fxr3:nxB (evC (prepC Tryz.prog Tryz.f9.ntmps (pls 9) (sqH (sqT 3 bd))) Tryz.prog calF e3 (mkH b3 0) 26 .nil) (subB 1152921504606846997 [0,1,2,3,4,5,6,7,8,9,10,11,12,13,14,15,16,17,18,19,20,21,22,23,24,25] e4 b4)=true:=by kernel_rfl
theorem fxs3:GoS Tryz.prog Tryz.f9 (sqT 3 bd) e3 (mkH b3 0):=by
 rw [fxc3]
 exact GoS.part mixed calOk (by kernel_rfl) fxr3 fxs4
theorem fxc2:sqT 2 bd = .seq (sqH (sqT 2 bd)) (sqT 3 bd):=by kernel_rfl
theorem fxr2:nxB (evC (prepC Tryz.prog Tryz.f9.ntmps (pls 9) (sqH (sqT 2 bd))) Tryz.prog calF e2 (mkH b2 0) 12 .nil) (subB 1152921504606846997 [0,1,2,3,4,5,6,7,8,9,10,11,185,183,213,207,209,211,215,212,281,219,217,218,260,229] e3 b3)=true:=by kernel_rfl
theorem fxs2:GoS Tryz.prog Tryz.f9 (sqT 2 bd) e2 (mkH b2 0):=by
 rw [fxc2]
 exact GoS.part mixed calOk (by kernel_rfl) fxr2 fxs3
theorem fxc1:sqT 1 bd = .seq (sqH (sqT 1 bd)) (sqT 2 bd):=by kernel_rfl
theorem fxr1:nxB (evC (prepC Tryz.prog Tryz.f9.ntmps (pls 9) (sqH (sqT 1 bd))) Tryz.prog calF e1 (mkH b1 0) 0 .nil) (subB 1152921504606846997 [1438,162,160,1152,175,1150,218,442,648,1106,1437,1394] e2 b2)=true:=by kernel_rfl
theorem fxs1:GoS Tryz.prog Tryz.f9 (sqT 1 bd) e1 (mkH b1 0):=by
 rw [fxc1]
 exact GoS.part mixed calOk (by kernel_rfl) fxr1 fxs2
theorem fxc0:sqT 0 bd = .seq (sqH (sqT 0 bd)) (sqT 1 bd):=by kernel_rfl
theorem fxr0:nxB (evC (prepC Tryz.prog Tryz.f9.ntmps (pls 9) (sqH (sqT 0 bd))) Tryz.prog calF e0 .lf 0 .nil) (subB 1152921504606846997 [] e1 b1)=true:=by kernel_rfl
theorem fxs0:GoS Tryz.prog Tryz.f9 (sqT 0 bd) e0 .lf:=by
 rw [fxc0]
 exact GoS.part mixed calOk (by kernel_rfl) fxr0 fxs1
theorem fxBody:Tryz.f9.body=some bd:=by kernel_rfl
theorem pl9:PL 9:=plE Tryz.func9
theorem C9 (w:World):CR 9 [] w (λ v w'=>v = .bool true/\Ext w w'):=GoS.run Tryz.func9 fxBody fxs0 w
theorem loopP_k (K:World->Prop) (a b:Int) (e26 e33 e42 e44 e46 e49:SV) (h26:∀ w,K w->RdL (λ _=>True) w (Flat.val e26) ([⟨5,0,⟨#[]⟩,0⟩,⟨2,0,sR,0⟩,⟨1,1,⟨#[]⟩,0⟩]:List TNode)) (h33:∀ w,K w->RdL (λ _=>True) w (Flat.val e33) (eqP b)) (h42:∀ w,K w->RdL (λ _=>True) w (Flat.val e42) (eqP (min a b))) (h44:∀ w,K w->RdL (λ _=>True) w (Flat.val e44) ([⟨12,⟨#[]⟩,⟨#[]⟩,(⟨none,0,0⟩:SV),(⟨none,0,0⟩:SV),a,4,0,0⟩,⟨1,sR,⟨#[]⟩,e26,(⟨none,0,0⟩:SV),0,0,0,0⟩,⟨8,⟨#[]⟩,⟨#[]⟩,(⟨none,0,0⟩:SV),(⟨none,0,0⟩:SV),0,0,0,0⟩,⟨11,⟨#[]⟩,⟨#[]⟩,e33,(⟨none,0,0⟩:SV),0,1,0,0⟩,⟨13,⟨#[]⟩,⟨#[]⟩,(⟨none,0,0⟩:SV),(⟨none,0,0⟩:SV),0,0,0,0⟩,⟨14,⟨#[]⟩,⟨#[]⟩,e42,(⟨none,0,0⟩:SV),0,0,0,0⟩]:List TStmtV)) (h46:∀ w,K w->RdL (λ _=>True) w (Flat.val e46) [sR]) (h49:∀ w,K w->RdL (λ _=>True) w (Flat.val e49) [(⟨⟨#[116]⟩,e46,e44,0⟩:TThreadV)]):PrK K (⟨(⟨none,0,0⟩:SV),(⟨none,0,0⟩:SV),(⟨none,0,0⟩:SV),e49,(⟨none,0,0⟩:SV),(⟨none,0,0⟩:SV)⟩:TProgV) (loopP a b):=by
 have hrow:∀ w,K w->drs ([⟨12,⟨#[]⟩,⟨#[]⟩,(⟨none,0,0⟩:SV),(⟨none,0,0⟩:SV),a,4,0,0⟩,⟨1,sR,⟨#[]⟩,e26,(⟨none,0,0⟩:SV),0,0,0,0⟩,⟨8,⟨#[]⟩,⟨#[]⟩,(⟨none,0,0⟩:SV),(⟨none,0,0⟩:SV),0,0,0,0⟩,⟨11,⟨#[]⟩,⟨#[]⟩,e33,(⟨none,0,0⟩:SV),0,1,0,0⟩,⟨13,⟨#[]⟩,⟨#[]⟩,(⟨none,0,0⟩:SV),(⟨none,0,0⟩:SV),0,0,0,0⟩,⟨14,⟨#[]⟩,⟨#[]⟩,e42,(⟨none,0,0⟩:SV),0,0,0,0⟩]:List TStmtV) (bodyP a b) w:=λ w hw=>by
  refine ⟨rfl,λ i t x h1 h2=>?_⟩
  match i,h1,h2 with
  | 0,h1,h2=>cases h1; cases h2; exact ⟨_,_,rfl,DL.nil w,DL.nil w⟩
  | 1,h1,h2=>cases h1; cases h2; exact ⟨_,_,rfl,DL.unflat (h26 w hw),DL.nil w⟩
  | 2,h1,h2=>cases h1; cases h2; exact ⟨_,_,rfl,DL.nil w,DL.nil w⟩
  | 3,h1,h2=>cases h1; cases h2; exact ⟨_,_,rfl,DL.unflat (h33 w hw),DL.nil w⟩
  | 4,h1,h2=>cases h1; cases h2; exact ⟨_,_,rfl,DL.nil w,DL.nil w⟩
  | 5,h1,h2=>cases h1; cases h2; exact ⟨_,_,rfl,DL.unflat (h42 w hw),DL.nil w⟩
  | i+6,h1,h2=>cases h1
 have hth:∀ w,K w->Deep.dr w (⟨⟨#[116]⟩,e46,e44,0⟩:TThreadV) (⟨⟨#[116]⟩,[sR],bodyP a b,0⟩:TThread):=λ w hw=>⟨_,_,rfl,DL.unflat (h46 w hw),DL.of (h44 w hw) (hrow w hw)⟩
 refine ⟨λ w hw=>⟨_,_,_,_,_,_,rfl,DL.nil w,DL.nil w,DL.nil w,DL.of (h49 w hw) ⟨rfl,λ i t x h1 h2=>?_⟩,DL.nil w,DL.nil w⟩,⟨_,h49,rfl,λ j tv t h1 h2=>?_⟩,⟨[],λ w _=>RdL.nil _ _,rfl,λ j tv t h1 _=>by cases h1⟩⟩
 ·match i,h1,h2 with
  | 0,h1,h2=>cases h1; cases h2; exact hth w hw
  | i+1,h1,h2=>cases h1
 match j,h1,h2 with
 | 0,h1,h2=>cases h1; cases h2; exact ⟨_,_,_,rfl,h46,λ w=>⟨hrow,h44 w⟩⟩
 | j+1,h1,h2=>cases h1
theorem C3 (n k:Int) (w:World):CR 3 [.int .i64 n,.int .i64 k] w (λ v w'=>v = .bool true/\Ext w w'):=by
 have hs:=St.start w;refine S3_ok _ _ _ _ ?_;unfold S3;refine pop_and (by decide) (by decide) ?_;have ha:=andI_range n (b:=7) (by decide) (by decide);refine pop_add (by omega) (pop_and (by decide) (by decide) ?_);have hb:=andI_range k (b:=65535) (by decide) (by decide);refine pop_rem (by omega) (by decide) (pop_add (by omega) ?_);obtain ⟨a,ea⟩:∃ a,a=1+andI n 7:=⟨_,rfl⟩;obtain ⟨b,eb⟩:∃ b,b=1+andI k 65535 % 9:=⟨_,rfl⟩;rw [<- ea,<- eb];have ha1:1<=a/\a<=8:=by omega
 have hb1:1<=b/\b<=9:=by omega
 clear ea eb ha hb
 obtain ⟨hce,me,hle,hse⟩:=loops_spec ha1 hb1;have hck:=ck_spec hce;refine pop (bld24_0_5_6 12 a 4) (pop (bld26_0 5) ?_);refine pop (bld26_0_2 2 sR) (pop (bld26_0_1 1 1) ?_);refine eop_build ([⟨5,0,⟨#[]⟩,0⟩,⟨2,0,sR,0⟩,⟨1,1,⟨#[]⟩,0⟩]:List TNode) hs sl22 rfl rfl (leb rfl) (λ s26 _ hs=>?_);obtain ⟨e26,rfl⟩:=(hs).isSV;refine pop (bld24_0_1_3 1 sR _ _ _) (pop (bld24_0 8) ?_);refine pop (bld26_0 10) (pop (bld26_0_2 2 sR) ?_);refine pop (bld26_0_1 1 b) (eop_build (eqP b) hs sl22 rfl rfl (leb rfl) (λ s33 _ hs=>?_));obtain ⟨e33,rfl⟩:=(hs).isSV;refine pop (bld24_0_3_6 11 _ _ _ 1) (pop (bld24_0 13) ?_);refine pop (bld26_0 10) (pop (bld26_0_2 2 sR) ?_);refine pop_min (pop (bld26_0_1 1 (min a b)) ?_)
 refine eop_build (eqP (min a b)) hs sl22 rfl rfl (leb rfl) (λ s42 _ hs=>?_);obtain ⟨e42,rfl⟩:=(hs).isSV;refine pop (bld24_0_3 14 _ _ _) (eop_build ([⟨12,⟨#[]⟩,⟨#[]⟩,(⟨none,0,0⟩:SV),(⟨none,0,0⟩:SV),a,4,0,0⟩,⟨1,sR,⟨#[]⟩,e26,(⟨none,0,0⟩:SV),0,0,0,0⟩,⟨8,⟨#[]⟩,⟨#[]⟩,(⟨none,0,0⟩:SV),(⟨none,0,0⟩:SV),0,0,0,0⟩,⟨11,⟨#[]⟩,⟨#[]⟩,e33,(⟨none,0,0⟩:SV),0,1,0,0⟩,⟨13,⟨#[]⟩,⟨#[]⟩,(⟨none,0,0⟩:SV),(⟨none,0,0⟩:SV),0,0,0,0⟩,⟨14,⟨#[]⟩,⟨#[]⟩,e42,(⟨none,0,0⟩:SV),0,0,0,0⟩]:List TStmtV) hs sl27 rfl rfl (leb rfl) (λ s44 _ hs=>?_));obtain ⟨e44,rfl⟩:=(hs).isSV;refine eop_build ([sR]:List ByteArray) hs sl32 rfl rfl (leb rfl) (λ s46 _ hs=>?_)
 obtain ⟨e46,rfl⟩:=(hs).isSV;refine pop (bld34_0_1_2 ⟨#[116]⟩ _ _ _ _ _ _) (eop_build [(⟨⟨#[116]⟩,e46,e44,0⟩:TThreadV)] hs sl35 rfl rfl (leb rfl) (λ s49 w6 hs=>?_));obtain ⟨e49,rfl⟩:=(hs).isSV;refine pop (bld40_3 _ _ _) ?_;have hs:=(((((((((((hs.freeze.p1).freeze).frzAnd).p1).freeze).frzAnd).p1).freeze).frzAnd).p1).freeze).frzAnd;have hs:=((hs.p1).freeze).frzAnd;obtain ⟨FF,hs,hX⟩:=hs.toAgr;have hp:PrK (Agr FF w6) (⟨(⟨none,0,0⟩:SV),(⟨none,0,0⟩:SV),(⟨none,0,0⟩:SV),e49,(⟨none,0,0⟩:SV),(⟨none,0,0⟩:SV)⟩:TProgV) (loopP a b):=loopP_k _ a b e26 e33 e42 e44 e46 e49 (λ w h=>(hX w h).1) (λ w h=>(hX w h).2.1) (λ w h=>(hX w h).2.2.1) (λ w h=>(hX w h).2.2.2.1) (λ w h=>(hX w h).2.2.2.2.1) (λ w h=>(hX w h).2.2.2.2.2)
 refine callF pl6 (C6 (Agr FF w6) (loopP a b) (⟨(⟨none,0,0⟩:SV),(⟨none,0,0⟩:SV),(⟨none,0,0⟩:SV),e49,(⟨none,0,0⟩:SV),(⟨none,0,0⟩:SV)⟩:TProgV) 1 _ (λ _ e=>(hs.ext e).frz) hp loopP_z) ?_;rintro v51 w7 (⟨h1,_⟩ | ⟨_,h1,_⟩ | ⟨_,hr,q,X,rfl,hnew⟩)
 ·exact absurd hce h1
 ·omega
 have hs:=(hs.made hnew).split;refine pop_ext rfl (pop_ext rfl ?_);refine ⟨λ jv w'=>jv = .bool false/\w'=w7,?_,?_⟩
 ·exact pop_peql und28 (cond_nb rfl (pop_neq ⟨rfl,rfl⟩))
 rintro _ _ ⟨rfl,rfl⟩ _;refine cond_f ?_;refine ⟨λ jv w'=>jv = .int .i64 (min a b)/\∃ m,statusD m=⟨0,0,0,true,false⟩/\DSOk m/\St w none1 [dsyB (λ w=>Agr FF w6 w/\X w) q m,frz X,frz (Agr FF w6)] w',?_,?_⟩
 ·refine ⟨λ mm o y w'=>∃ (j:Nat) (m:DSy),o = .int .i64 (j:Int)/\y = .int .i64 (j:Int)/\mm=20 - j/\j<=20/\GoOk (loopP a b) j m/\loopL 20 (newD (loopP a b) 1) 0=loopL (20 - j) m (j:Int)/\St w none1 [dsyB (λ w=>Agr FF w6 w/\X w) q m,frz X,frz (Agr FF w6)] w',⟨20,0,_,rfl,rfl,rfl,by omega,GoOk.new loopP_z hck hr,rfl,hs⟩,?_⟩;rintro mm _ _ _ ⟨j,m,rfl,rfl,rfl,hj,hg,hl,hs⟩ _;refine pop_lss (cond_d (λ c1=>?_) (λ c1=>?_));rotate_left
  ·obtain rfl:j=20:=by omega
   rw [hle] at hl;obtain ⟨rfl,h2⟩:=Prod.mk.inj (Option.some.inj hl);exact ⟨congrArg (Value.int .i64) h2.symm,_,hse,hg.ok,hs⟩
  obtain ⟨j',hj'⟩:∃ j',20 - j=j'+1:=⟨19 - j,by omega⟩;rw [hle,hj'] at hl;have hmb:=hg.mb.mono (b:=1000000) (by omega);have hcr:=hg.cr;refine pop (bld47_0 1) (callMut2 pl7 hs (H':=λ _=>dsyB (λ w=>Agr FF w6 w/\X w) q (doD m (⟨1,0,0,[]⟩:TPick)).1) (Φ:=λ v _=>v = .tuple #[Flat.val (doD m (⟨1,0,0,[]⟩:TPick)).2.1,.int .i64 (doD m (⟨1,0,0,[]⟩:TPick)).2.2]) (λ F2 hF2 hfr=>?_) ?_)
  ·exact C7 (λ w=>Agr FF w6 w/\X w) q m (⟨1,0,0,[]⟩:TPick) ⟨none,0,0⟩ F2 _ hF2 (λ w' hc=>⟨(hfr w' hc).p1.frz,(hfr w' hc).frz⟩) hg.ok (hg.pr▸hck) hmb (by omega) (λ _ _=>RdL.nil _ _) (by decide)
  rintro _ _ rfl hs;refine pop_ext rfl (pop_ext rfl ?_);refine eop_allocA hs zero42 (λ b12 _ hs=>uop_blkV (x:=(doD m (⟨1,0,0,[]⟩:TPick)).2.1) hs ty42 rfl rfl (λ _ hs=>?_));refine pop_neq ?_;unfold loopL at hl;refine cond_d (λ c2=>?_) (λ c2=>?_)
  ·rw [if_pos c2] at hl;obtain ⟨rfl,h2⟩:=Prod.mk.inj (Option.some.inj hl);exact ⟨congrArg (Value.int .i64) h2.symm,_,hse,(hg.step hck).ok,hs.drop⟩
  rw [if_neg c2] at hl;refine qop_at (x:=(doD m (⟨1,0,0,[]⟩:TPick)).2.1) ty42 hs.At (pop (bld42_0 7) ?_);refine pop_stneD eqf42 rfl rfl (eqEv (doD m (⟨1,0,0,[]⟩:TPick)).2.1 yieldE) (cond_d (λ c3=>?_) (λ c3=>?_))
  ·rw [if_neg c3] at hl; cases hl
  rw [if_pos (Decidable.not_not.1 c3)] at hl;exact pop_add (by omega) (pop_add (by omega) ⟨20 - (j+1),by omega,j+1,_,rfl,rfl,rfl,by omega,hg.step hck,by rw [hle,show 20 - (j+1)=j' from by omega]; exact hl,hs.drop⟩)
 rintro _ _ ⟨rfl,m,hst,hok,hs⟩ _;refine ⟨λ jv w'=>jv = .bool true/\Ext w w',?_,?_⟩
 ·refine pop_min (pop_eql ?_);refine cond_d (λ c1=>?_) (λ c1=>absurd rfl c1);refine callP pl8 hs (C8 (λ w=>Agr FF w6 w/\X w) q m _ hs.has (λ _ e=>⟨(hs.ext e).p2.frz,(hs.ext e).p1.frz⟩) hok) (λ _ he hs=>?_);rw [hst];exact pop (bld49_3 true) (pop_steqD eqf49 rfl rfl (eqSt ⟨0,0,0,true,false⟩ ⟨0,0,0,true,false⟩) (cond_d (λ _=>callP pl9 hs (C9 _) (λ _ _ hs=>⟨rfl,hs.chg⟩)) (λ c2=>absurd rfl c2)))
 rintro _ _ h _;exact h
theorem own:ownKnob Tryz.prog.godebug=none:=by kernel_rfl
end Go.Proofs.YtfkgkbhbdffckaaGreatDoor
