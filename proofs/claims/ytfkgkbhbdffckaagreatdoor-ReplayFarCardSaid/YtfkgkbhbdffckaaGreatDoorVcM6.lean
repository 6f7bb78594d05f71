/-
  Part 6.
-/
import Derived.Test.YtfkgkbhbdffckaaGreatDoorVcM5
set_option linter.all false
set_option maxHeartbeats 8000000
set_option maxRecDepth 100000
namespace Go.Proofs.YtfkgkbhbdffckaaGreatDoor
open Go.Fw
theorem C132 (sv:Value) (ns:List Int) (s:Int) (w:World) (hL:RdL (λ _=>True) w sv ns) (hn:ns.length<=1048576):CR 132 [sv,.int .i64 s] w (λ v w'=>v = .int .i64 (idxF (λ y=>decide (y=s)) ns)/\Ext w w'):=by
 have hs:=St.start w;refine S132_ok _ _ _ _ ?_;unfold S132;refine pop_len sl45 (hL.ext hs.chg) ?_;refine ⟨λ m x w1=>∃ k:Nat,x = .int .i64 (k:Int)/\m=ns.length - k/\k<=ns.length/\(∀ y∈ns.take k,decide (y=s)=false)/\St w none1 [] w1,⟨_,0,rfl,rfl,Nat.zero_le _,by simp,hs⟩,?_⟩;rintro m _ w1 ⟨k,rfl,rfl,hk,hno,hs⟩ _;refine pop_lss (cond_d (λ c_x9=>?_) (λ _=>⟨congrArg (Value.int .i64) (idxF_none (by rw [List.take_of_length_le (by omega)] at hno; exact hno)).symm,hs.chg⟩));obtain ⟨e_x14,he_x14⟩:=gx (ns) (i:=((k:Int)).toNat) (by omega);exact pop_idx sl45 hL (by omega) he_x14 (λ _ h_x14=>qop_at ty3 (h_x14.ext hs.chg) (pop_eql (cond_d (λ c_x16=>⟨congrArg (Value.int .i64) (idxF_at hno he_x14 (decide_eq_true c_x16.symm)).symm,hs.chg⟩) (λ c_x16=>pop_add (by omega) ⟨_,by omega,k+1,rfl,rfl,by omega,take_all hno he_x14 (decide_eq_false (λ h=>c_x16 h.symm)),hs⟩))))
theorem C69 (sv:Value) (ns:List Int) (s:Int) (w:World) (hL:RdL (λ _=>True) w sv ns) (hn:ns.length<=1048576):CR 69 [sv,.int .i64 s] w (λ v w'=>v = .bool (ns.any λ y=>decide (y=s))/\Ext w w'):=by
 have hs:=St.start w;refine S69_ok _ _ _ _ ?_;unfold S69;exact callP pl132 hs (C132 _ _ _ _ (hL.ext hs.chg) (by omega)) (λ _ _ hs=>pop_geq ⟨vb (idxF_any _ _),hs.chg⟩)
theorem useL_may {u:UU} {l:List TStmt} (h:u∈useL l):u.2.2.length<=1048576:=by
 have:u.2.2.length<=2:=by
  unfold useL at h
  obtain ⟨x,_,h⟩:=List.mem_flatMap.1 h
  rw [useX_e] at h
  unfold useA useB useV mayX at h
  simp only [List.mem_append] at h
  rcases h with h | h | h | h
  ·split at h
   ·cases h
   ·rw [List.mem_singleton.1 h]; exact (by decide:([5]:List Int).length<=2)
  ·split at h
   ·cases h
   ·rw [List.mem_singleton.1 h]; dsimp only; repeat' split
    all_goals decide
  ·obtain ⟨_,_,rfl⟩:=List.mem_map.1 h; exact (by decide:([5]:List Int).length<=2)
  ·obtain ⟨_,_,rfl⟩:=List.mem_map.1 h; exact (by decide:([5]:List Int).length<=2)
 omega
theorem C22 (p:TProg) (pv:TProgV) (w:World) (hp:Deep.dr w pv p) (hz:PZ p):CR 22 [Flat.val pv] w (λ v w'=>∃ a:Int,v = .tuple #[.int .i64 (checkE p),.int .i64 a]/\Ext w w'):=by
 have hp0:=hp;have hl99:=ths_len hz.toPS;obtain ⟨g_lines_p,g_vols_p,g_locks_p,g_threads_p,g_recover_p,g_claims_p,rfl,d_lines_p,d_vols_p,d_locks_p,d_threads_p,d_recover_p,d_claims_p⟩:=hp;obtain ⟨ts3,hR3,hD3⟩:=(d_threads_p).open;obtain ⟨ts4,hR4,hD4⟩:=(d_recover_p).open;have hn3:=hD3.1;have hn4:=hD4.1;have hD:=hD3.append hD4;have hn34:=hD.1
 change (ts3++ts4).length=(thsM p).length at hn34
 have hs:=St.start w;refine S22_ok _ _ _ ?_;unfold S22;refine eop_boxV hs (λ bp w1 hs=>eop_alloc1 hs zero29 rfl (λ b2 _ hs=>?_));refine eop_alloc1 hs zero3 rfl (λ b3 _ hs=>qop_at ty40 hs.p2.At ?_);refine callF pl62 (C62 p _ _ (Deep.ext hp0 hs.chg) hz) ?_;rintro _ _ ⟨bm,rfl,hnew⟩;have hs:=hs.made hnew;refine pop_ext rfl (pop_ext rfl ?_);refine pop_ext rfl (qop_at ty40 hs.p3.At ?_);refine callP pl63 hs (C63 p _ _ (Deep.ext hp0 hs.chg) hz) (λ _ he hs=>pop_not ?_);refine cond_b (λ c=>?_) (λ c=>?_)
 ·have h1:rightP p=false:=by simpa using c
  have hce:checkE p=8:=ce8 h1;exact uop_blk hs.p2 ty29 (leb rfl) rfl (λ _ hs=>uop_blk hs.p2 ty3 (leb rfl) rfl (λ _ hs=>qop_blk ty29 hs.p1.hb rfl (qop_blk ty3 hs.hb rfl ⟨_,by rw [hce],hs.chg⟩)))
 have h1:rightP p=true:=by simpa using c
 refine qop_at ty40 hs.p3.At (callP pl64 hs (C64 p _ _ (Deep.ext hp0 hs.chg) hz) (λ _ he hs=>?_));refine cond_b (λ c=>?_) (λ c=>?_)
 ·have h2:bigM p=true:=c;have hce:checkE p=2:=ce2 h1 h2;exact uop_blk hs.p2 ty29 (leb rfl) rfl (λ _ hs=>uop_blk hs.p2 ty3 (leb rfl) rfl (λ _ hs=>qop_blk ty29 hs.p1.hb rfl (qop_blk ty3 hs.hb rfl ⟨_,by rw [hce],hs.chg⟩)))
 have h2:bigM p=false:=c;refine qop_at ty40 hs.p3.At (callN pl65 hs (C65 p _ ts3 ts4 _ (Deep.ext hp0 hs.chg) (hR3.ext hs.chg) (hR4.ext hs.chg) (by have:=hz.threads; omega) (by have:=hz.recover; omega)) (λ x38 w38 hnew hs=>?_));refine pop_len sl35 (hs).rd' ?_;refine ⟨λ m x w1=>∃ k:Nat,x = .int .i64 (k:Int)/\m=(ts3++ts4).length - k/\k<=(ts3++ts4).length/\(∀ y∈(thsM p).take k,wildL y.body=false)/\St w none1 [ownL x38 (ts3++ts4),mapP bm (nmM p).1,blk b3 [.int .i64 0],blk b2 [.int .i64 0],blk bp (Flat.enc (⟨g_lines_p,g_vols_p,g_locks_p,g_threads_p,g_recover_p,g_claims_p⟩:TProgV))] w1,⟨_,0,rfl,rfl,Nat.zero_le _,by simp,hs⟩,?_⟩;rintro m _ _ ⟨k,rfl,rfl,hk,hno,hs⟩ _
 refine pop_lss (cond_d (λ c=>?_) (λ c=>?_))
 ·obtain ⟨t,ht⟩:∃ t,(ts3++ts4)[((k:Nat):Int).toNat]? = some t:=⟨_,List.getElem?_eq_getElem (by omega)⟩;obtain ⟨r,hr⟩:∃ r,(thsM p)[k]? = some r:=⟨_,List.getElem?_eq_getElem (by omega)⟩;have hrm:=List.mem_of_getElem? hr;have hrz:=hz.ths hrm;have hrr:=(rightP_spec h1).ths hrm;obtain ⟨gr,gb,rfl,dr,db⟩:=hD.2 _ _ _ ht hr;have hrs:=rightS_spec hrr.2.1;refine pop_idx sl35 (hs).rd' (by omega) ht (λ q hq=>qop_at ty34 hq ?_);refine eop_allocA hs zero34 (λ bt wt hs=>uop_blkV (x:=(⟨r.name,gr,gb,r.at_⟩:TThreadV)) hs ty34 rfl rfl (λ wu hs=>?_));obtain ⟨hb40,hbf,tb,hbt,hst,_,_⟩:=hrs;have htl:tb.len<=40:=by rw [<- Bk.flat_len,<- hbt]; exact hb40
  have hwl:wildL r.body=wildB tb 1:=by rw [hbt]; exact wildL_flat hst
  refine pop_field fld34_2 (qop_blk (v:=Flat.val gb) ty27 hs.hb rfl ?_);refine callF pl66 (C66 _ tb 1 (tb.len+1) _ (by rw [<- hbt]; exact DL.ext db hs.chg) hst (by rw [<- hbt]; exact λ x hx=>fits_q (hbf x hx)) (by omega) (by omega) (Nat.lt_succ_self _)) ?_;rintro _ _ ⟨aa,rfl,he⟩;have hs:=hs.ext he;refine pop_ext rfl (pop_ext rfl ?_);refine cond_b (λ c9=>?_) (λ c9=>?_)
  ·have h3:(thsM p).any (λ t=>wildL t.body)=true:=any_at hr (by rw [hwl]; exact c9);have hce:checkE p=11:=ce11 h1 h2 h3;exact uop_blk hs.p4 ty29 (leb rfl) rfl (λ _ hs=>uop_blk hs.p4 ty3 (leb rfl) rfl (λ _ hs=>qop_blk ty29 hs.p1.hb rfl (qop_blk ty3 hs.hb rfl ⟨_,by rw [hce],hs.chg⟩)))
  exact pop_add (by omega) (have hs:=hs.drop;⟨_,by omega,k+1,rfl,rfl,by omega,take_all hno hr (by rw [hwl]; exact c9),hs⟩)
 have h3:(thsM p).any (λ t=>wildL t.body)=false:=any_no (by rw [List.take_of_length_le (by omega)] at hno; exact hno);have hs:=hs.drop;refine cond_b (λ c10=>?_) (λ c10=>?_)
 ·have h4:twiceB (declsM p)=true:=by rw [<- tw_iff]; exact c10
  have hce:checkE p=10:=ce10 h1 h2 h3 h4;exact uop_blk hs.p2 ty29 (leb rfl) rfl (λ _ hs=>uop_blk hs.p2 ty3 (leb rfl) rfl (λ _ hs=>qop_blk ty29 hs.p1.hb rfl (qop_blk ty3 hs.hb rfl ⟨_,by rw [hce],hs.chg⟩)))
 have h4:twiceB (declsM p)=false:=by rw [<- tw_iff]; exact c10
 refine qop_at ty40 hs.p3.At (callN pl65 hs (C65 p _ ts3 ts4 _ (Deep.ext hp0 hs.chg) (hR3.ext hs.chg) (hR4.ext hs.chg) (by have:=hz.threads; omega) (by have:=hz.recover; omega)) (λ x56 _ hnew hs=>?_));refine pop_len sl35 (hs).rd' ?_
 clear hno
 refine ⟨λ m x w1=>∃ k:Nat,x = .int .i64 (k:Int)/\m=(ts3++ts4).length - k/\k<=(ts3++ts4).length/\(∀ y∈(thsM p).take k,regB p y.regs=false)/\St w none1 [ownL x56 (ts3++ts4),mapP bm (nmM p).1,blk b3 [.int .i64 0],blk b2 [.int .i64 0],blk bp (Flat.enc (⟨g_lines_p,g_vols_p,g_locks_p,g_threads_p,g_recover_p,g_claims_p⟩:TProgV))] w1,⟨_,0,rfl,rfl,Nat.zero_le _,by simp,hs⟩,?_⟩;rintro m _ _ ⟨k,rfl,rfl,hk,hno,hs⟩ _;refine pop_lss (cond_d (λ c=>?_) (λ c=>?_))
 ·obtain ⟨t,ht⟩:∃ t,(ts3++ts4)[((k:Nat):Int).toNat]? = some t:=⟨_,List.getElem?_eq_getElem (by omega)⟩;obtain ⟨r,hr⟩:∃ r,(thsM p)[k]? = some r:=⟨_,List.getElem?_eq_getElem (by omega)⟩;have hrm:=List.mem_of_getElem? hr;have hrz:=hz.ths hrm;have hrr:=(rightP_spec h1).ths hrm;obtain ⟨gr,gb,rfl,dr,db⟩:=hD.2 _ _ _ ht hr;have hrs:=rightS_spec hrr.2.1;refine pop_idx sl35 (hs).rd' (by omega) ht (λ q hq=>qop_at ty34 hq ?_);refine eop_allocA hs zero34 (λ bt wt hs=>uop_blkV (x:=(⟨r.name,gr,gb,r.at_⟩:TThreadV)) hs ty34 rfl rfl (λ wu hs=>?_));refine qop_at ty34 hs.At (callF pl67 (C67 (⟨r.name,gr,gb,r.at_⟩:TThreadV) r.regs bm (nmM p).1 _ (DL.flat (DL.ext dr hs.chg)) hs.p2.mapP (nmM_nz p) (by omega)) ?_)
  rcases rg_spec h4 r.regs with ⟨hg1,hg2⟩ | ⟨g,hg1,hg2,_⟩
  ·rintro _ w24 (⟨_,rfl,he⟩ | ⟨g,bg,hg3,_⟩);rotate_left
   ·rw [hg1] at hg3; cases hg3
   have hs:=hs.ext he;have h5:(thsM p).any (λ t=>regB p t.regs)=true:=any_at hr hg2;refine pop_ext rfl (pop_ext rfl ?_);refine cond_t (pop_field fld34_3 ?_);have hs:=hs.drew;refine qop_blk (v:=.int .i64 r.at_) ty3 hs.hb rfl ?_;have hce:checkE p=10:=ce10' h1 h2 h3 h4 h5;refine uop_blk hs.p4 ty29 (leb rfl) rfl (λ wa hs=>?_);refine ⟨run_loadOne ty3 (hs.p1.hb.cell rfl),?_⟩;exact uop_blk hs.p4 ty3 (leb rfl) rfl (λ _ hs=>qop_blk ty29 hs.p1.hb rfl (qop_blk ty3 hs.hb rfl ⟨_,by rw [hce],hs.chg⟩))
  rintro _ w24 (⟨hg3,_⟩ | ⟨g2,bg,hg3,rfl,hnew⟩)
  ·rw [hg1] at hg3; cases hg3
  have hs:=(hs.made hnew).drop.drop;exact pop_ext rfl (pop_ext rfl (cond_f (pop_add (by omega) ⟨_,by omega,k+1,rfl,rfl,by omega,take_all hno hr hg2,hs⟩)))
 have h5:(thsM p).any (λ t=>regB p t.regs)=false:=any_no (by rw [List.take_of_length_le (by omega)] at hno; exact hno);have hs:=hs.drop;refine qop_at ty40 hs.p3.At (callN pl65 hs (C65 p _ ts3 ts4 _ (Deep.ext hp0 hs.chg) (hR3.ext hs.chg) (hR4.ext hs.chg) (by have:=hz.threads; omega) (by have:=hz.recover; omega)) (λ x73 _ hnew hs=>?_));refine pop_len sl35 (hs).rd' ?_
 clear hno
 have hs:=dsB.nil hs;refine ⟨λ m dv x w1=>∃ (k:Nat) (ds:List Nat),dv=encDs ds/\x = .int .i64 (k:Int)/\m=(ts3++ts4).length - k/\k<=(ts3++ts4).length/\(∀ y∈(thsM p).take k,y.body.any (stmtB p y.regs)=false)/\St w none1 [dsB ds,ownL x73 (ts3++ts4),mapP bm (nmM p).1,blk b3 [.int .i64 0],blk b2 [.int .i64 0],blk bp (Flat.enc (⟨g_lines_p,g_vols_p,g_locks_p,g_threads_p,g_recover_p,g_claims_p⟩:TProgV))] w1,⟨_,0,[],rfl,rfl,rfl,Nat.zero_le _,by simp,hs⟩,?_⟩;rintro m _ _ _ ⟨k,ds,rfl,rfl,rfl,hk,hno,hs⟩ _;rw [decDs_enc];refine pop_lss (cond_d (λ c=>?_) (λ c=>?_))
 ·obtain ⟨t,ht⟩:∃ t,(ts3++ts4)[((k:Nat):Int).toNat]? = some t:=⟨_,List.getElem?_eq_getElem (by omega)⟩;obtain ⟨r,hr⟩:∃ r,(thsM p)[k]? = some r:=⟨_,List.getElem?_eq_getElem (by omega)⟩;have hrm:=List.mem_of_getElem? hr;have hrz:=hz.ths hrm;have hrr:=(rightP_spec h1).ths hrm;obtain ⟨gr,gb,rfl,dr,db⟩:=hD.2 _ _ _ ht hr;have hrs:=rightS_spec hrr.2.1;refine pop_idx sl35 (hs.p1).rd' (by omega) ht (λ q hq=>qop_at ty34 hq ?_);refine eop_allocA hs zero34 (λ bt wt hs=>uop_blkV (x:=(⟨r.name,gr,gb,r.at_⟩:TThreadV)) hs ty34 rfl rfl (λ wu hs=>?_))
  have h5r:regB p r.regs=false:=by
   cases hh:regB p r.regs with
   | false=>rfl
   | true=>exact absurd (any_at (g:=λ t:TThread=>regB p t.regs) hr hh) (by rw [h5]; decide)
  refine qop_at ty34 hs.At (callF pl67 (C67 (⟨r.name,gr,gb,r.at_⟩:TThreadV) r.regs bm (nmM p).1 _ (DL.flat (DL.ext dr hs.chg)) hs.p3.mapP (nmM_nz p) (by omega)) ?_)
  rcases rg_spec h4 r.regs with ⟨_,hg2⟩ | ⟨g,hg1,hg2,_⟩
  ·rw [hg2] at h5r; cases h5r
  rintro _ w31 (⟨hg3,_⟩ | ⟨g2,bg,hg3,rfl,hnew⟩)
  ·rw [hg1] at hg3; cases hg3
  obtain rfl:g=g2:=Option.some.inj (hg1.symm.trans hg3);have hs:=hs.made hnew;refine pop_ext rfl (pop_ext rfl ?_);refine eop_alloc1 hs zero121 rfl (λ b17 _ hs=>uop_blk hs ty121 (leb rfl) rfl (λ _ hs=>?_));refine pop_field fld34_2 (qop_blk (v:=Flat.val gb) ty27 hs.p2.hb rfl ?_);refine callF pl68 (C68 gb _) ?_;rintro _ _ ⟨bu,rfl,hnew2⟩;have hs:=hs.made hnew2;have hbz:=hrz.1.2.2;have huse:=any_uses h4 hg1 hrs.2.1;obtain ⟨tsb,hRb,hDb⟩:=db.open
  refine range_fr (cap:=[.pointer (some ⟨bu,0,none⟩)]) (useL r.body).length (useA1 (useL r.body)) pl130 hs
   (λ j M=>(∀ i,i<j->∀ u,(useL r.body)[i]? = some u->badU g u=false)/\M=[blk bu [Flat.val gb],blk b17 [.map (some bg)],mapP bg g,blk bt (Flat.enc (⟨r.name,gr,gb,r.at_⟩:TThreadV)),dsB ds,ownL x73 (ts3++ts4),mapP bm (nmM p).1,blk b3 [.int .i64 0],blk b2 [.int .i64 0],blk bp (Flat.enc (⟨g_lines_p,g_vols_p,g_locks_p,g_threads_p,g_recover_p,g_claims_p⟩:TProgV))])
   (λ cx M=>cx = .ret/\(useL r.body).any (badU g)=true/\∃ a L,M=blk b3 [.int .i64 a]::blk b2 [.int .i64 9]::dsB ds::L) ⟨λ _ hi=>absurd hi (Nat.not_lt_zero _),rfl⟩ (by rintro j a Φ ⟨u,s,_,rfl,_⟩; rfl) ?_ ?_ ?_ ?_ ?_ ?_
  ·intro y Y Jx W h0 hy;refine (C130 y bu (Flat.val gb) tsb r.body w none1 _ Jx W (by omega) (λ x hx=>⟨(hbz x hx).2.2.1,(hbz x hx).2.2.2.1⟩) ?_ ?_ hy).mono λ _ _ rr=>rr.mono λ v W' h=>?_
   ·rintro j _ W2 ⟨M,⟨_,rfl⟩,rfl⟩ hs2;exact ⟨hs2.p1.hb.cell rfl,hRb.ext hs2.chg,hDb.ext hs2.chg⟩
   ·obtain ⟨M,h1,h2⟩:=h0; exact ⟨_,⟨M,h1,rfl⟩,h2⟩
   rcases h with ⟨_,⟨M,h1,rfl⟩,h2⟩ | h
   ·exact .inl ⟨M,h1,h2⟩
   exact .inr h
  ·rintro j args Φ Y1 Y2 B Kr M W ⟨u,s,hu,rfl,hs1⟩ ⟨hjn,rfl⟩ hΦ hB hN hR hs;dsimp only [nthV];refine eop_allocA hs zero133 (λ b9 _ hs=>uop_blkV (x:=(⟨u.1,u.2.1,s⟩:TNmUseV)) hs ty133 rfl rfl (λ _ hs=>?_));refine hB _ _ _ hs.p1 (λ w38 hs=>?_);refine pop_field fld133_2 (qop_blk (v:=Flat.val s) ty45 hs.p1.hb rfl ?_);refine qop_blk ty121 hs.p3.hb rfl (pop_field fld133_0 ?_);refine qop_blk (v:=.string u.1) ty9 hs.p1.hb rfl (qop_lookS hs.p4.mapP Tryz.underlying121 Tryz.underlying9 zero3 ?_)
   have hrd:RdL (λ _=>True) w38 (Flat.val s) u.2.2:=by
    obtain ⟨F,h1,_⟩:=hs.head;exact hs1 _ (hΦ _ _ h1)
   have hul:u.2.2.length<=1048576:=useL_may (List.mem_of_getElem? hu);refine callP pl69 hs (C69 _ u.2.2 (lookS g u.1) _ hrd hul) (λ _ he hs=>pop_not (cond_b (λ c11=>pop_field fld133_1 (have hs:=hs.drew;qop_blk (v:=.int .i64 u.2.1) ty3 hs.p1.hb rfl (have hs:=(hs.p2).drop;uop_blk hs.p9 ty29 (leb rfl) rfl (λ _ hs=>⟨run_loadOne ty3 (hs.p2.hb.cell rfl),uop_blk hs.p9 ty3 (leb rfl) rfl (λ _ hs=>hR .ret _ _ ((((hs.p7).p2).p2).p3) ⟨rfl,any_at hu (by unfold badU; exact c11),_,_,rfl⟩)⟩)))) (λ c11=>?_)));refine hN _ _ (hs.p1).drop ⟨λ i hi u2 hu2=>?_,rfl⟩
   rcases Nat.lt_or_ge i j with h | h
   ·exact hjn i h u2 hu2
   obtain rfl:i=j:=by omega
   rw [hu] at hu2; cases hu2
   unfold badU; exact c11
  ·rintro D M W ⟨hjn,rfl⟩ hs;refine pop_add (by omega) ?_;have hs:=St.join (H1:=objH D (.deferred (some []))) hs.p1.drop.p1.drop.p1.drop.p1.drop;refine ⟨_,by omega,k+1,D::ds,rfl,rfl,rfl,by omega,take_all hno hr ?_,hs⟩;rw [<- huse];refine any_no λ u hu=>?_;obtain ⟨i,hi⟩:=List.mem_iff_getElem?.1 hu;exact hjn i (List.getElem?_eq_some_iff.1 hi).1 u hi
  ·rintro D M W ⟨_,hbad,a,L,rfl⟩ hs;have h6:(thsM p).any (λ t=>t.body.any (stmtB p t.regs))=true:=any_at hr (by rw [<- huse]; exact hbad);have hce:checkE p=9:=ce9 h1 h2 h3 h4 h5 h6;have hs:=St.join (H1:=objH D (.deferred (some []))) (hs.p3.p1);refine dsB.take (D::ds) hs (λ _ hs=>?_);exact qop_blk ty29 hs.p1.hb rfl (qop_blk ty3 hs.hb rfl ⟨_,by rw [hce],hs.chg⟩)
  ·rintro id D M W ⟨h,_⟩; cases h
  rintro cx M ⟨h,_⟩; exact .inr h
 have h6:(thsM p).any (λ t=>t.body.any (stmtB p t.regs))=false:=any_no (by rw [List.take_of_length_le (by omega)] at hno; exact hno);have hs:=hs.p1.drop;have hzc:=hz.claims;obtain ⟨ts5,hR5,hD5⟩:=(d_claims_p).open;have hn5:=hD5.1;refine pop_field fld40_5 (qop_blk (v:=Flat.val g_claims_p) ty38 hs.p4.hb rfl ?_);refine pop_len sl38 (hR5.ext hs.chg) ?_
 clear hno
 refine ⟨λ m x w1=>∃ k:Nat,x = .int .i64 (k:Int)/\m=ts5.length - k/\k<=ts5.length/\(∀ y∈p.claims.take k,varsB y.e (stayNs p)=false)/\St w none1 [dsB ds,mapP bm (nmM p).1,blk b3 [.int .i64 0],blk b2 [.int .i64 0],blk bp (Flat.enc (⟨g_lines_p,g_vols_p,g_locks_p,g_threads_p,g_recover_p,g_claims_p⟩:TProgV))] w1,⟨_,0,rfl,rfl,Nat.zero_le _,by simp,hs⟩,?_⟩;rintro m _ _ ⟨k2,rfl,rfl,hk2,hno,hs⟩ _;refine pop_lss (cond_d (λ c12=>?_) (λ c12=>?_))
 ·obtain ⟨t,ht⟩:∃ t,ts5[((k2:Nat):Int).toNat]? = some t:=⟨_,List.getElem?_eq_getElem (by omega)⟩;obtain ⟨r,hr⟩:∃ r,p.claims[k2]? = some r:=⟨_,List.getElem?_eq_getElem (by omega)⟩;have hrz:=hz.zc r (List.mem_of_getElem? hr);obtain ⟨ge,rfl,de⟩:=hD5.2 _ _ _ ht hr;have dE:=DL.flat de;refine pop_idx sl38 (hR5.ext hs.chg) (by omega) ht (λ q hq=>qop_at ty112 hq ?_);refine eop_allocA hs zero112 (λ bc _ hs=>uop_blkV (x:=(⟨ge,r.at_⟩:TClaimV)) hs ty112 rfl rfl (λ _ hs=>?_));refine pop_field fld112_0 (qop_blk (v:=Flat.val ge) ty22 hs.hb rfl ?_);refine pop_len sl22 (dE.ext hs.chg) ?_;have hvc:=vars_claim h4 r.e;refine ⟨λ m x w1=>∃ j:Nat,x = .int .i64 (j:Int)/\m=r.e.length - j/\j<=r.e.length/\(∀ y∈r.e.take j,(decide (y.op=2) && decide (¬ lookS (nmM p).1 y.name=1))=false)/\St w none1 [blk bc (Flat.enc (⟨ge,r.at_⟩:TClaimV)),dsB ds,mapP bm (nmM p).1,blk b3 [.int .i64 0],blk b2 [.int .i64 0],blk bp (Flat.enc (⟨g_lines_p,g_vols_p,g_locks_p,g_threads_p,g_recover_p,g_claims_p⟩:TProgV))] w1,⟨_,0,rfl,rfl,Nat.zero_le _,by simp,hs⟩,?_⟩
  rintro m _ _ ⟨j,rfl,rfl,hj,hnj,hs⟩ _;refine pop_lss (cond_d (λ c13=>?_) (λ c13=>?_))
  ·obtain ⟨y,hy⟩:∃ y,r.e[((j:Nat):Int).toNat]? = some y:=⟨_,List.getElem?_eq_getElem (by omega)⟩;refine pop_idx sl22 (dE.ext hs.chg) (by omega) hy (λ q hq=>qop_at ty26 hq ?_);refine eop_allocA hs zero26 (λ by_ _ hs=>uop_blkV (x:=y) hs ty26 rfl rfl (λ w50 hs=>?_));refine ⟨λ jv w'=>jv = .bool (decide (y.op=2) && decide (¬ lookS (nmM p).1 y.name=1))/\w'=w50,?_,?_⟩
   ·exact pop_field fld26_0 (qop_blk (v:=.int .i64 y.op) ty3 hs.hb rfl (pop_eql (cond_d (λ c14=>pop_field fld26_2 (qop_blk (v:=.string y.name) ty9 hs.hb rfl (qop_lookS hs.p3.mapP Tryz.underlying121 Tryz.underlying9 zero3 (pop_neq ⟨vb (by rw [decide_eq_true c14,Bool.true_and]),rfl⟩)))) (λ c14=>⟨vb (by rw [decide_eq_false c14,Bool.false_and]),rfl⟩))))
   rintro _ _ ⟨rfl,rfl⟩ _;refine cond_b (λ c15=>?_) (λ c15=>pop_add (by omega) ⟨_,by omega,j+1,rfl,rfl,by omega,take_all hnj hy c15,hs.drop⟩);have h7:p.claims.any (λ c=>varsB c.e (stayNs p))=true:=any_at hr (by rw [<- hvc]; exact any_at hy c15);have hce:checkE p=9:=ce9' h1 h2 h3 h4 h5 h6 h7;refine pop_field fld26_3 ?_;have hs:=hs.drew;refine qop_blk (v:=.int .i64 y.at_) ty3 hs.hb rfl (uop_blk hs.p5 ty29 (leb rfl) rfl (λ wa hs=>?_));refine ⟨run_loadOne ty3 (hs.p1.hb.cell rfl),?_⟩;refine uop_blk hs.p5 ty3 (leb rfl) rfl (λ wb hs=>?_);refine dsB.take ds hs.p4 (λ w54 hs=>?_);exact qop_blk ty29 hs.p1.hb rfl (qop_blk ty3 hs.hb rfl ⟨_,by rw [hce],hs.chg⟩)
  refine pop_add (by omega) ?_;refine ⟨_,by omega,k2+1,rfl,rfl,by omega,take_all hno hr ?_,hs.drop⟩;rw [<- hvc];exact any_no (by rw [List.take_of_length_le (by omega)] at hnj; exact hnj)
 have h7:p.claims.any (λ c=>varsB c.e (stayNs p))=false:=any_no (by rw [List.take_of_length_le (by omega)] at hno; exact hno);have hce:checkE p=0:=ce0 h1 h2 h3 h4 h5 h6 h7;refine uop_blk hs.p3 ty29 (leb rfl) rfl (λ wa hs=>uop_blk hs.p3 ty3 (leb rfl) rfl (λ wb hs=>?_));refine dsB.take ds hs.p2 (λ w54 hs=>?_);exact qop_blk ty29 hs.p1.hb rfl (qop_blk ty3 hs.hb rfl ⟨_,by rw [hce],hs.chg⟩)
theorem C71 (sv:Value) (xs:List Int) (w:World) (hL:RdL (λ _=>True) w sv xs) (hn:xs.length<=1000000):CR 71 [sv] w (λ v w'=>New (ownL v xs) w w'):=by
 have hs:=St.start w;refine sk0 Tryz.func71 ?_;refine pop_slnil Tryz.underlying45 (hL.ext hs.chg) (λ p hp=>cond_b (λ c_x4=>?_) (λ c_x4=>?_))
 ·have hx:=hp c_x4;subst hx;exact (hs.ownNil (α:=Int)).fresh
 refine eop_build (([]:List Int)) hs sl45 rfl rfl (leb rfl) (λ s_x5 _ hs=>?_);have hr_x7:=(hL.ext hs.chg);exact eop_append hs sl45 hr_x7 (by simp; omega) (by decide) (λ _ _ hs=>hs.fresh)
def passes (x y:TEntry):Bool:=decide (x.kind≠7/\y.kind≠7/\(x.kind=6\/y.kind=6)/\x.line≠y.line)
def right (x:TEntry):Bool:=decide ((x.kind=3/\0<=x.line/\0<=x.cell)\/((x.kind=5\/x.kind=6)/\0<=x.line/\x.cell=0/\x.n=0)\/(x.kind=7/\x.line=0/\x.cell=0/\x.n=0))
theorem C156 (x y:TEntry) (w:World):CR 156 [Flat.val x,Flat.val y] w (λ v w'=>v = .bool (passes x y)/\Ext w w'):=by
 have hs:=St.start w;refine S156_ok _ _ _ _ ?_;unfold S156;refine eop_boxV hs (λ b_x2 _ hs=>eop_boxV hs (λ b_ahead3 _ hs=>?_));refine ⟨_,?_,λ _ _ h=>h⟩;refine pop_field fld152_0 (qop_blk ty3 hs.p1.hb rfl (pop_eql (cond_d (λ c_x8=>?_) (λ c_x8=>?_))))
 ·intro dd1;refine ⟨_,?_,λ _ _ h=>h⟩;refine pop_not (cond_f ?_);intro dd2;refine ⟨vb ?_,hs.chg⟩;unfold passes
  first | exact (decide_eq_true (by omega)).symm | exact (decide_eq_false (by omega)).symm | exact decide_eq_decide.2 (by omega) | exact decide_eq_decide.2 (TEntry.ext_iff.trans (by dsimp only; omega))
 refine pop_field fld152_0 (qop_blk ty3 hs.hb rfl ?_);refine pop_eql ?_;intro dd1;refine ⟨_,?_,λ _ _ h=>h⟩
 first | refine pop_notd ?_ | refine pop_not ?_
 refine cond_d (λ c_x15=>pop_field fld152_0 (qop_blk ty3 hs.p1.hb rfl (pop_eql (cond_d (λ c_x19=>?_) (λ c_x19=>pop_field fld152_0 (qop_blk ty3 hs.hb rfl (pop_eql (cond_d (λ c_x23=>?_) (λ c_x23=>?_))))))))) (λ c_x15=>?_)
 ·refine pop_field fld152_1 (qop_blk ty3 hs.p1.hb rfl ?_);refine pop_field fld152_1 (qop_blk ty3 hs.hb rfl ?_);refine pop_neq ?_;intro dd2;refine ⟨vb ?_,hs.chg⟩;unfold passes
  first | exact (decide_eq_true (by omega)).symm | exact (decide_eq_false (by omega)).symm | exact decide_eq_decide.2 (by omega) | exact decide_eq_decide.2 (TEntry.ext_iff.trans (by dsimp only; omega))
 ·refine pop_field fld152_1 (qop_blk ty3 hs.p1.hb rfl ?_);refine pop_field fld152_1 (qop_blk ty3 hs.hb rfl ?_);refine pop_neq ?_;intro dd2;refine ⟨vb ?_,hs.chg⟩;unfold passes
  first | exact (decide_eq_true (by omega)).symm | exact (decide_eq_false (by omega)).symm | exact decide_eq_decide.2 (by omega) | exact decide_eq_decide.2 (TEntry.ext_iff.trans (by dsimp only; omega))
 ·intro dd2;refine ⟨vb ?_,hs.chg⟩;unfold passes
  first | exact (decide_eq_true (by omega)).symm | exact (decide_eq_false (by omega)).symm | exact decide_eq_decide.2 (by omega) | exact decide_eq_decide.2 (TEntry.ext_iff.trans (by dsimp only; omega))
 intro dd2;refine ⟨vb ?_,hs.chg⟩;unfold passes
 first | exact (decide_eq_true (by omega)).symm | exact (decide_eq_false (by omega)).symm | exact decide_eq_decide.2 (by omega) | exact decide_eq_decide.2 (TEntry.ext_iff.trans (by dsimp only; omega))
theorem eqE (x y:TEntry):eqAll (Flat.enc x) (Flat.enc y)=decide (x=y):=by
 obtain ⟨a,b,c,d⟩:=x
 obtain ⟨a2,b2,c2,d2⟩:=y
 simp [Flat.enc,eqAll,eqV,Bool.eq_iff_iff]
theorem C141 (x:TEntry) (w:World):CR 141 [Flat.val x] w (λ v w'=>v = .bool (right x)/\Ext w w'):=by
 have hs:=St.start w;refine S141_ok _ _ _ ?_;unfold S141;refine eop_boxV hs (λ b_x1 _ hs=>pop_field fld152_0 (qop_blk ty3 hs.hb rfl (pop_eql (cond_d (λ c_x6=>⟨_,pop_field fld152_1 (qop_blk ty3 hs.hb rfl (pop_geq (cond_d (λ c_x9=>?_) (λ c_x9=>?_)))),λ _ _ h=>h⟩) (λ c_x6=>⟨_,pop_eql (cond_d (λ c_x16=>?_) (λ c_x16=>?_)),λ _ _ h=>h⟩)))))
 ·refine pop_field fld152_2 (qop_blk ty3 hs.hb rfl ?_);refine pop_geq ?_;intro dd1;refine ⟨vb ?_,hs.chg⟩;unfold right
  first | exact (decide_eq_true (by omega)).symm | exact (decide_eq_false (by omega)).symm | exact decide_eq_decide.2 (by omega) | exact decide_eq_decide.2 (TEntry.ext_iff.trans (by dsimp only; omega))
 ·intro dd1;refine ⟨vb ?_,hs.chg⟩;unfold right
  first | exact (decide_eq_true (by omega)).symm | exact (decide_eq_false (by omega)).symm | exact decide_eq_decide.2 (by omega) | exact decide_eq_decide.2 (TEntry.ext_iff.trans (by dsimp only; omega))
 ·intro dd2;refine cond_d (λ c_x15=>⟨_,pop_field fld152_1 (qop_blk ty3 hs.hb rfl (pop_geq (cond_d (λ c_x20=>pop_field fld152_2 (qop_blk ty3 hs.hb rfl (pop_eql (cond_d (λ c_x24=>?_) (λ c_x24=>?_))))) (λ c_x20=>?_)))),λ _ _ h=>h⟩) (λ c_x15=>?_)
  ·refine pop_field fld152_3 (qop_blk ty3 hs.hb rfl ?_);refine pop_eql ?_;intro dd3;refine ⟨vb ?_,hs.chg⟩;unfold right
   first | exact (decide_eq_true (by omega)).symm | exact (decide_eq_false (by omega)).symm | exact decide_eq_decide.2 (by omega) | exact decide_eq_decide.2 (TEntry.ext_iff.trans (by dsimp only; omega))
  ·intro dd3;refine ⟨vb ?_,hs.chg⟩;unfold right
   first | exact (decide_eq_true (by omega)).symm | exact (decide_eq_false (by omega)).symm | exact decide_eq_decide.2 (by omega) | exact decide_eq_decide.2 (TEntry.ext_iff.trans (by dsimp only; omega))
  ·intro dd3;refine ⟨vb ?_,hs.chg⟩;unfold right
   first | exact (decide_eq_true (by omega)).symm | exact (decide_eq_false (by omega)).symm | exact decide_eq_decide.2 (by omega) | exact decide_eq_decide.2 (TEntry.ext_iff.trans (by dsimp only; omega))
  refine qop_at ty152 hs.At (pop (bld152_0 _) ?_);refine pop_steqD eqf152 rfl rfl (eqE x ⟨7,0,0,0⟩) ?_;refine ⟨vb ?_,hs.chg⟩;unfold right
  first | exact (decide_eq_true (by omega)).symm | exact (decide_eq_false (by omega)).symm | exact decide_eq_decide.2 (by omega) | exact decide_eq_decide.2 (TEntry.ext_iff.trans (by dsimp only; omega))
 refine pop_eql ?_;intro dd2;refine cond_d (λ c_x15=>⟨_,pop_field fld152_1 (qop_blk ty3 hs.hb rfl (pop_geq (cond_d (λ c_x20=>pop_field fld152_2 (qop_blk ty3 hs.hb rfl (pop_eql (cond_d (λ c_x24=>?_) (λ c_x24=>?_))))) (λ c_x20=>?_)))),λ _ _ h=>h⟩) (λ c_x15=>?_)
 ·refine pop_field fld152_3 (qop_blk ty3 hs.hb rfl ?_);refine pop_eql ?_;intro dd3;refine ⟨vb ?_,hs.chg⟩;unfold right
  first | exact (decide_eq_true (by omega)).symm | exact (decide_eq_false (by omega)).symm | exact decide_eq_decide.2 (by omega) | exact decide_eq_decide.2 (TEntry.ext_iff.trans (by dsimp only; omega))
 ·intro dd3;refine ⟨vb ?_,hs.chg⟩;unfold right
  first | exact (decide_eq_true (by omega)).symm | exact (decide_eq_false (by omega)).symm | exact decide_eq_decide.2 (by omega) | exact decide_eq_decide.2 (TEntry.ext_iff.trans (by dsimp only; omega))
 ·intro dd3;refine ⟨vb ?_,hs.chg⟩;unfold right
  first | exact (decide_eq_true (by omega)).symm | exact (decide_eq_false (by omega)).symm | exact decide_eq_decide.2 (by omega) | exact decide_eq_decide.2 (TEntry.ext_iff.trans (by dsimp only; omega))
 refine qop_at ty152 hs.At (pop (bld152_0 _) ?_);refine pop_steqD eqf152 rfl rfl (eqE x ⟨7,0,0,0⟩) ?_;refine ⟨vb ?_,hs.chg⟩;unfold right
 first | exact (decide_eq_true (by omega)).symm | exact (decide_eq_false (by omega)).symm | exact decide_eq_decide.2 (by omega) | exact decide_eq_decide.2 (TEntry.ext_iff.trans (by dsimp only; omega))
def canB (l:List TEntry) (i:Int):Bool:=decide (0<=i/\i<l.length) && (match l[i.toNat]? with | some x=>(l.take i.toNat).all (passes x) | none=>false)
def cansL (l:List TEntry):List Int:=((List.range l.length).map fun (k:Nat)=>(k:Int)).filter (canB l)
theorem canB_out {l:List TEntry} {i:Int} (h:i<0\/(l.length:Int)<=i):canB l i=false:=by
 unfold canB
 have:decide (0<=i/\i<l.length)=false:=by rw [decide_eq_false_iff_not]; omega
 rw [this]; rfl
theorem canB_in {l:List TEntry} {i:Int} {x:TEntry} (h0:0<=i) (h1:i<l.length) (hx:l[i.toNat]? = some x):canB l i = !(l.take i.toNat).any λ y=>!passes x y:=by
 unfold canB
 rw [hx,decide_eq_true (show 0<=i/\i<l.length from ⟨h0,h1⟩)]
 simp [List.all_eq_not_any_not]
def cansTo (l:List TEntry) (k:Nat):List Int:=((List.range k).map fun (k:Nat)=>(k:Int)).filter (canB l)
theorem cansTo_le (l:List TEntry) (k:Nat):(cansTo l k).length<=k:=by
 unfold cansTo
 have:=List.length_filter_le (canB l) ((List.range k).map fun (k:Nat)=>(k:Int)); simpa using this
theorem cansTo_yes {l:List TEntry} {k:Nat} (h:canB l k=true):cansTo l (k+1)=cansTo l k++[(k:Int)]:=by
 unfold cansTo; rw [List.range_succ,List.map_append,List.filter_append]; simp [h]
theorem cansTo_no {l:List TEntry} {k:Nat} (h:canB l k=false):cansTo l (k+1)=cansTo l k:=by
 unfold cansTo; rw [List.range_succ,List.map_append,List.filter_append]; simp [h]
theorem cansTo_all (l:List TEntry) {k:Nat} (h:k=l.length):cansTo l k=cansL l:=by subst h; rfl
def BufR (w:World) (p:Nat) (room:Int) (l:List TEntry):Prop:=∃ sv,Cell w p 0 (.int .i64 room)/\Cell w p 1 sv/\RdL (λ _=>True) w sv l
def bufO (p:Nat) (room:Int) (l:List TEntry):HP:=exH λ sv=>sep (blk p [.int .i64 room,sv]) (ownL sv l)
theorem BufR.ext {w w':World} {p:Nat} {room:Int} {l:List TEntry} (h:BufR w p room l) (e:Ext w w'):BufR w' p room l:=by
 obtain ⟨sv,h1,h2,h3⟩:=h; exact ⟨sv,h1.ext e,h2.ext e,h3.ext e⟩
theorem bufO.rd {w:World} {F:Nat->Prop} {p:Nat} {room:Int} {l:List TEntry} (h:(bufO p room l).p w F):BufR w p room l:=by
 obtain ⟨sv,F1,F2,h1,h2,_⟩:=h
 exact ⟨sv,h1.1.cell rfl,h1.1.cell rfl,(ownL.rd h2).mono λ _ _=>trivial⟩
theorem C195 (sv fv:Value) (xs:List TEntry) (g:TEntry->Bool) (w:World) (hL:RdL (λ _=>True) w sv xs) (hf:FnOn w fv g) (hn:xs.length<=1073741824):CR 195 [sv,fv] w (λ v w'=>v = .int .i64 (idxF g xs)/\Ext w w'):=by
 obtain ⟨g0,first,cap,rfl,hpl,hcall⟩:=hf;have hs:=St.start w;refine S195_ok _ _ _ _ ?_;unfold S195;refine pop_len sl135 (hL.ext hs.chg) ?_;refine ⟨λ m x w1=>∃ k:Nat,x = .int .i64 (k:Int)/\m=xs.length - k/\k<=xs.length/\(∀ y∈xs.take k,g y=false)/\St w none1 [] w1,⟨_,0,rfl,rfl,Nat.zero_le _,by simp,hs⟩,?_⟩;rintro m _ w1 ⟨k,rfl,rfl,hk,hno,hs⟩ _;refine pop_lss (cond_d (λ c_x9=>?_) (λ _=>⟨congrArg (Value.int .i64) (idxF_none (by rw [List.take_of_length_le (by omega)] at hno; exact hno)).symm,hs.chg⟩));obtain ⟨e_x14,he_x14⟩:=gx (xs) (i:=((k:Int)).toNat) (by omega);refine pop_idx sl135 (hL.ext hs.chg) (by omega) he_x14 (λ _ h_x14=>qop_at ty152 (h_x14) ?_)
 refine callV hpl (hcall e_x14 w1 hs.chg) ?_;rintro _ _ ⟨rfl,he⟩;have hs:=hs.ext he;exact cond_b (λ c_x16=>⟨congrArg (Value.int .i64) (idxF_at hno he_x14 c_x16).symm,hs.chg⟩) (λ c_x16=>pop_add (by omega) ⟨xs.length - (k+1),by omega,k+1,rfl,rfl,by omega,take_all hno he_x14 c_x16,hs⟩)
theorem C157 (sv fv:Value) (xs:List TEntry) (g:TEntry->Bool) (w:World) (hL:RdL (λ _=>True) w sv xs) (hf:FnOn w fv g) (hn:xs.length<=1073741824):CR 157 [sv,fv] w (λ v w'=>v = .bool (xs.any g)/\Ext w w'):=by
 have hs:=St.start w;refine S157_ok _ _ _ _ ?_;unfold S157;exact callP pl195 hs (C195 _ _ _ _ _ (hL.ext hs.chg) (hf.ext hs.chg) (by omega)) (λ _ _ hs=>pop_geq ⟨vb (idxF_any _ _),hs.chg⟩)
theorem C155 (x y:TEntry) (p b2 b3:Nat) (i:Int) (room:Int) (l:List TEntry) (w:World) (h2:Cell w b2 0 (.pointer (some ⟨p,0,none⟩))) (h3:Cell w b3 0 (.int .i64 i)) (hb:BufR w p room l) (h0:0<=i) (hx:l[i.toNat]? = some x):CR 155 [Flat.val y,.pointer (some ⟨b2,0,none⟩),.pointer (some ⟨b3,0,none⟩)] w (λ v w'=>v = .bool (!passes x y)/\Ext w w'):=by
 obtain ⟨sv,hc0,hc1,hL⟩:=hb;have hlt:=(List.getElem?_eq_some_iff.1 hx).1;have hs:=St.start w;refine S155_ok _ _ _ _ _ ?_;unfold S155;exact eop_boxV hs (λ _ _ hs=>have hs:=hs.drew;qop_cell ty74 (h2.ext hs.chg) (pop_nil (pop_field fld137_1 (qop_cell ty135 (hc1.ext hs.chg) (qop_cell ty3 (h3.ext hs.chg) (pop_idx sl135 (hL.ext hs.chg) h0 hx (λ _ h_x10=>qop_at ty152 (h_x10) (qop_at ty152 hs.At (callP pl156 hs (C156 x y _) (λ _ _ hs=>pop_not ⟨rfl,hs.chg⟩))))))))))
theorem C109 (p:Nat) (i:Int) (room:Int) (l:List TEntry) (w:World) (hb:BufR w p room l) (hn:l.length<=1073741824):CR 109 [.pointer (some ⟨p,0,none⟩),.int .i64 i] w (λ v w'=>v = .bool (canB l i)/\Ext w w'):=by
 have hb0:=hb;obtain ⟨sv,hc0,hc1,hL⟩:=hb;have hs:=St.start w;refine S109_ok _ _ _ _ ?_;unfold S109;refine eop_box1 hs rfl (λ b_b2 w1 hs=>eop_box1 hs rfl (λ b_i3 _ hs=>?_));refine ⟨_,?_,λ _ _ h=>h⟩;have hs:=hs.drew;refine qop_blk ty3 hs.hb rfl (pop_lss (cond_d (λ c_x7=>?_) (λ c_x7=>?_)))
 ·intro dd1;exact cond_t ⟨vb (canB_out (by omega)).symm,hs.chg⟩
 refine qop_blk ty3 hs.hb rfl (qop_blk ty74 hs.p1.hb rfl ?_);refine pop_nil (pop_field fld137_1 ?_);refine qop_cell ty135 (hc1.ext hs.chg) (pop_len sl135 (hL.ext hs.chg) ?_);refine pop_geq ?_;intro dd1;refine cond_d (λ _=>⟨vb (canB_out (by omega)).symm,hs.chg⟩) (λ c_x16=>?_);have hs:=hs.drew;refine qop_blk ty74 hs.p1.hb rfl (pop_nil ?_);refine pop_field fld137_1 (qop_cell ty135 (hc1.ext hs.chg) ?_);refine qop_blk ty3 hs.hb rfl (pop_cutHi sl135 (hL.ext hs.chg) (by omega) (by omega) (λ s_x23 h_x23=>?_));obtain ⟨x,hx⟩:∃ x,l[i.toNat]? = some x:=⟨_,List.getElem?_eq_getElem (by omega)⟩
 have hfn:FnOn _ (.func (.func 155) [].toArray [.pointer (some ⟨b_b2,0,none⟩),.pointer (some ⟨b_i3,0,none⟩)].toArray) (λ y=>!passes x y):=
  ⟨155,[],_,rfl,pl155,λ y w1 e1=>C155 x y p b_b2 b_i3 i room l w1 ((hs.p1.hb.cell rfl).ext e1) ((hs.hb.cell rfl).ext e1) ((hb0.ext hs.chg).ext e1) (by omega) hx⟩
 exact callP pl157 hs (C157 _ _ _ _ _ h_x23 hfn (by rw [List.length_take]; omega)) (λ _ _ hs=>pop_not ⟨vb (canB_in (by omega) (by omega) hx).symm,hs.chg⟩)
theorem C108 (p:Nat) (room:Int) (l:List TEntry) (w:World) (hb:BufR w p room l):CR 108 [.pointer (some ⟨p,0,none⟩)] w (λ v w'=>v = .bool (decide (room<=l.length))/\Ext w w'):=by
 obtain ⟨sv,hc0,hc1,hL⟩:=hb;have hs:=St.start w;refine S108_ok _ _ _ ?_;unfold S108;exact pop_nil (pop_field fld137_1 (have hs:=hs.drew;qop_cell ty135 (hc1.ext hs.chg) (pop_len sl135 (hL.ext hs.chg) (pop_nil (pop_field fld137_0 (qop_cell ty3 (hc0.ext hs.chg) (pop_geq ⟨rfl,hs.chg⟩)))))))
theorem C54 (p:Nat) (room:Int) (l:List TEntry) (w:World) (hb:BufR w p room l) (hn:l.length<=1048576):CR 54 [.pointer (some ⟨p,0,none⟩)] w (λ v w'=>New (ownL v (cansL l)) w w'):=by
 have hb0:=hb;obtain ⟨sv,hc0,hc1,hL⟩:=hb;have hs:=St.start w;refine S54_ok _ _ _ ?_;unfold S54;refine pop_nil (pop_field fld137_1 ?_);refine qop_cell ty135 (hc1.ext hs.chg) (pop_len sl135 (hL.ext hs.chg) ?_);refine ⟨λ m o x w1=>∃ k:Nat,x = .int .i64 (k:Int)/\m=l.length - k/\k<=l.length/\St w none1 [ownL o (cansTo l k)] w1,⟨_,0,rfl,rfl,Nat.zero_le _,hs.ownNil⟩,?_⟩;rintro m o _ w1 ⟨k,rfl,rfl,hk,hs⟩ _;have hcl:=cansTo_le l k;refine pop_lss (cond_d (λ c_x11=>⟨_,callP pl109 hs (C109 _ _ _ _ _ (hb0.ext hs.chg) (by omega)) (λ _ he hs=>cond_b (λ c_x15=>?_) (λ c_x15=>?_)),λ _ _ h=>h⟩) (λ c_x11=>?_))
 ·refine eop_build (([(k:Int)]:List Int)) hs sl45 rfl rfl (leb rfl) (λ s_x18 _ hs=>?_);have hr_x19:=(hs).rd';refine eop_append hs.p1 sl45 hr_x19 (by simp <;> omega) (by decide) (λ s_x19 _ hs=>?_);have hs:=hs.p1.drop;intro dd2;exact pop_add (by omega) ⟨l.length - (k+1),by omega,k+1,rfl,rfl,by omega,by rw [cansTo_yes c_x15]; exact hs⟩
 ·intro dd2;exact pop_add (by omega) ⟨l.length - (k+1),by omega,k+1,rfl,rfl,by omega,by rw [cansTo_no c_x15]; exact hs⟩
 rw [cansTo_all l (by omega)] at hs;exact hs.fresh
def putE (room:Int) (l:List TEntry) (x:TEntry):Int:=if right x=true then (if room<=l.length then 2 else 0) else 1
def putL (room:Int) (l:List TEntry) (x:TEntry):List TEntry:=if right x=true/\¬ room<=l.length then l++[x] else l
def takeX (l:List TEntry) (i:Int):TEntry:=if canB l i=true then (l[i.toNat]?).getD ⟨0,0,0,0⟩ else ⟨0,0,0,0⟩
def takeE (l:List TEntry) (i:Int):Int:=if 0<=i/\i<l.length then (if canB l i=true then 0 else 13) else 1
def takeL (l:List TEntry) (i:Int):List TEntry:=if canB l i=true then l.eraseIdx i.toNat else l
theorem canB_lt {l:List TEntry} {i:Int} (h:canB l i=true):0<=i/\i<l.length:=by
 unfold canB at h; rw [Bool.and_eq_true,decide_eq_true_eq] at h; exact h.1
theorem BufR.mk' {w:World} {p:Nat} {room:Int} {sv:Value} {l:List TEntry} (h1:Blk w p [.int .i64 room,sv]) (h2:RdL (λ _=>True) w sv l):BufR w p room l:=
 ⟨sv,h1.cell rfl,h1.cell rfl,h2⟩
theorem bufO.shut {w0 w:World} {A:Nat->Prop} {R:List HP} {p:Nat} {room:Int} {sv:Value} {l:List TEntry} (hs:St w0 A (blk p [.int .i64 room,sv]::ownL sv l::R) w):St w0 A (bufO p room l::R) w:=
 St.shutEx (H:=λ sv=>sep (blk p [.int .i64 room,sv]) (ownL sv l)) sv (St.join hs)
theorem bufR_of {w0 w:World} {A:Nat->Prop} {R:List HP} {p:Nat} {room:Int} {l:List TEntry} (hs:St w0 A (bufO p room l::R) w):BufR w p room l:=by
 obtain ⟨F,h,_⟩:=hs.head; exact bufO.rd h
theorem C136 (v:Value) (i:Int) (xs:List TEntry) (F:Nat->Prop) (w:World) (hv:(ownL v xs).p w F) (h0:0<=i) (hi:i<xs.length) (hn:xs.length<=1073741824) :
  CR 136 [v,.int .i64 i,.int .i64 (i+1)] w (λ v' w'=>True/\Mut F (ownL v' (xs.eraseIdx i.toNat)) w w'):=by
 obtain ⟨i,rfl⟩:=Int.eq_ofNat_of_zero_le h0;replace hi:i<xs.length:=by omega
 rw [Int.toNat_natCast];have hrd:=ownL.rd hv;obtain ⟨b,cap,rest,rfl,hb,hl,hF⟩:=own_split hv hi;have hlen:(flat xs).length=xs.length * 4:=flat_length xs;have hcap:xs.length<=cap:=hl.1;replace hl:=hl.2
 change cap * 4<=_ at hl
 refine S136_ok _ _ _ _ _ ?_;unfold S136;refine pop (pr_len sl135) (pop_cut3 sl135 (by omega) (by omega) (by omega) (by omega) (λ _=>?_));refine pop_eql (cond_d (λ c=>absurd c (by omega)) (λ _=>?_));refine pop (pr_len sl135) ?_
 have e22:pr Tryz.prog (Instr.sliceAt 135 (.slice (some ⟨b,0,none⟩) xs.length cap) none (some (.int .i64 (i:Int))) none)=some (.slice (some ⟨b,0,none⟩) i cap):=by
  rw [pr_cut sl135 (l:=0) (h:=i) (pr_bounds (.inl ⟨rfl,rfl⟩) (.inr ⟨_,rfl,by omega,by omega⟩) (by omega) (by omega))];simp [add_none]
 refine pop e22 (pop_cutLo sl135 hrd (by omega) (by omega) (λ s25 h25=>?_));rw [show ((i:Int)+1).toNat=i+1 from by omega] at h25;have hdl:(xs.drop (i+1)).length=xs.length - (i+1):=by simp
 obtain ⟨w1,r1,b1,g1⟩:=run_append_in (P:=Tryz.prog) (R:=135) (n:=i) (cap:=cap) sl135 (hb.of_eq (w':=drew w) rfl) (h25.ext (Ext.drew w)) (by omega) (by rw [List.length_append,hlen,hdl]; change i * 4+(xs.length - (i+1)) * 4<=_; omega);rw [hdl,show i+(xs.length - (i+1))=xs.length - 1 from by omega] at r1;refine ⟨_,w1,r1,?_⟩;refine pop (pr_len sl135) ?_
 have e31:pr Tryz.prog (Instr.sliceAt 135 (.slice (some ⟨b,0,none⟩) (xs.length - 1) cap) (some (.int .i64 ((xs.length - 1:Nat):Int))) (some (.int .i64 (xs.length:Int))) none)=some (.slice (some ⟨b,(xs.length - 1) * 4,none⟩) 1 (cap - (xs.length - 1))):=by
  rw [pr_cut sl135 (l:=xs.length - 1) (h:=xs.length) (pr_bounds (.inr ⟨_,rfl,by omega,by omega⟩) (.inr ⟨_,rfl,by omega,by omega⟩) (by omega) (by omega)),if_neg (by omega)];simp [add_none]; omega
 refine pop e31 ?_;have hx:xs[i]? = some xs[i]:=by simp [hi]
 have hsp:=flat_split hx;have hT:(flat (xs.take i)).length=i * 4:=by rw [flat_length,List.length_take,Nat.min_eq_left (by omega)]; rfl
 have hD:(flat (xs.drop (i+1))).length=(xs.length - (i+1)) * 4:=by rw [flat_length,hdl]; rfl
 have hX:(Flat.enc xs[i]).length=4:=rfl;have hZ:(flat (List.replicate 1 (⟨0,0,0,0⟩:TEntry))).length=4:=rfl
 have s1:setAll (flat xs++rest) (i * Flat.sz TEntry) (flat (xs.drop (i+1))) =
   flat (xs.take i)++flat (xs.drop (i+1))++((Flat.enc xs[i]++flat (xs.drop (i+1))).drop (flat (xs.drop (i+1))).length++rest):=by
  have:=setAll_mid (flat (xs.take i)) ((Flat.enc xs[i]++flat (xs.drop (i+1))).take (flat (xs.drop (i+1))).length)
   ((Flat.enc xs[i]++flat (xs.drop (i+1))).drop (flat (xs.drop (i+1))).length++rest) (flat (xs.drop (i+1))) (by rw [List.length_take,List.length_append]; omega)
  rw [hT] at this
  change setAll (flat xs++rest) (i * 4) _=_
  rw [<- this,hsp]
  have e0:∀ (a b c d:List Value) (n:Nat),a++(b++c)++d=a++(b++c).take n++((b++c).drop n++d):=λ a b c d n=>by
   rw [List.append_assoc a ((b++c).take n),<- List.append_assoc ((b++c).take n),List.take_append_drop,List.append_assoc a]
  exact congrArg (λ z=>setAll z (i * 4) (flat (xs.drop (i+1)))) (by first | exact e0 _ _ _ _ _ | (rw [<- e0]; simp only [List.append_assoc]) | (simp only [List.append_assoc]; rw [<- List.append_assoc (List.take _ _),List.take_append_drop,List.append_assoc]))
 rw [s1] at b1
 obtain ⟨w2,r2,b2,g2⟩:=run_clear (P:=Tryz.prog) (R:=0) (o:=(xs.length - 1) * 4) (n:=1) (c:=cap - (xs.length - 1)) (z:=(⟨0,0,0,0⟩:TEntry)) sl135 zero152 b1
  (by simp only [List.length_append,List.length_drop,hT,hD,hX]; change _+1 * 4<=_; omega)
 refine ⟨_,w2,r2,?_⟩
 have s2:=setAll_mid (flat (xs.take i)++flat (xs.drop (i+1))) ((Flat.enc xs[i]++flat (xs.drop (i+1))).drop (flat (xs.drop (i+1))).length) rest (flat (List.replicate 1 (⟨0,0,0,0⟩:TEntry)))
  (by rw [List.length_drop,List.length_append,hX,hZ]; omega)
 rw [show (flat (xs.take i)++flat (xs.drop (i+1))).length=(xs.length - 1) * 4 from by rw [List.length_append,hT,hD]; omega,List.append_assoc _ _ rest] at s2;rw [s2] at b2;refine ⟨trivial,F,.inr ⟨b,cap,flat (List.replicate 1 (⟨0,0,0,0⟩:TEntry))++rest,?_,?_,?_,hF⟩,λ _ hb=>.inl hb,((Ext.drew w).chg (A:=F)).trans (g1.trans (C:=F) g2 (λ k hk=>(hF k).2 hk) λ k _ hk=>(hF k).2 hk) (λ _ h=>h) λ _ _ h=>h⟩
 ·rw [List.length_eraseIdx_of_lt hi]
 ·rw [List.eraseIdx_eq_take_drop_succ,flat_append,<- List.append_assoc]; exact b2
 refine ⟨by rw [List.length_eraseIdx_of_lt hi]; omega,?_⟩;rw [List.eraseIdx_eq_take_drop_succ,flat_append]
 change cap * 4<=_
 rw [List.length_append,hlen] at hl;simp only [List.length_append,hT,hD,hZ];omega
theorem C137 (sv:Value) (xs:List TEntry) (w:World) (hL:RdL (λ _=>True) w sv xs) (hn:xs.length<=1073741824):CR 137 [sv] w (λ v w'=>New (ownL v xs) w w'):=by
 have hL0:=hL;obtain ⟨a,cap,rfl,hcap,h3⟩:=hL;have hs:=St.start w;refine S137_ok _ _ _ ?_;unfold S137;refine pop_seql (slFact_spec sl135).1 (λ h0=>?_) ?_
 ·rcases h3 with ⟨h,hc⟩ | ⟨b,o,h,_⟩
  ·exact ⟨by rw [h]; rfl,hc⟩
  rw [h0] at h; cases h
 refine cond_b (λ c_x4=>?_) (λ c_x4=>?_)
 ·have ha:a=none:=by cases a with | none=>rfl | some _=>cases c_x4
  have hx:xs=[]:=by
   rcases h3 with ⟨h,_⟩ | ⟨b,o,h,_⟩
   ·exact h
   ·rw [ha] at h; cases h
  subst hx;exact hs.ownNil.fresh
 refine eop_build (([]:List TEntry)) hs sl135 rfl rfl (leb rfl) (λ s_x5 _ hs=>?_);have hr_x7:=(hL0.ext hs.chg);exact eop_append hs sl135 hr_x7 (by simp <;> omega) (by decide) (λ _ _ hs=>hs.fresh)
theorem C87 (p:Nat) (room:Int) (l:List TEntry) (w:World) (hb:BufR w p room l) (hn:l.length<=1073741824):CR 87 [.pointer (some ⟨p,0,none⟩)] w (λ v w'=>New (ownL v l) w w'):=by
 obtain ⟨sv,hc0,hc1,hL⟩:=hb;have hs:=St.start w;refine S87_ok _ _ _ ?_;unfold S87;refine pop_nil (pop_field fld137_1 ?_);refine qop_cell ty135 (hc1.ext hs.chg) (callF pl137 (C137 _ _ _ (hL.ext hs.chg) (by omega)) ?_);rintro _ _ hnew;have hs:=hs.made hnew;exact hs.fresh
theorem putE_bad {room:Int} {l:List TEntry} {x:TEntry} (h:right x=false):putE room l x=1:=by unfold putE; rw [h]; rfl
theorem putL_bad {room:Int} {l:List TEntry} {x:TEntry} (h:right x=false):putL room l x=l:=by unfold putL; rw [h]; rfl
theorem putE_full {room:Int} {l:List TEntry} {x:TEntry} (h:right x=true) (hf:room<=l.length):putE room l x=2:=by unfold putE; rw [h,if_pos rfl,if_pos hf]
theorem putL_full {room:Int} {l:List TEntry} {x:TEntry} (hf:room<=l.length):putL room l x=l:=by unfold putL; rw [if_neg (λ hh=>hh.2 hf)]
theorem putE_ok {room:Int} {l:List TEntry} {x:TEntry} (h:right x=true) (hf:¬ room<=l.length):putE room l x=0:=by unfold putE; rw [h,if_pos rfl,if_neg hf]
theorem putL_ok {room:Int} {l:List TEntry} {x:TEntry} (h:right x=true) (hf:¬ room<=l.length):putL room l x=l++[x]:=by unfold putL; rw [if_pos ⟨h,hf⟩]
theorem C84 (p:Nat) (room:Int) (l:List TEntry) (x:TEntry) (F:Nat->Prop) (w:World) (hF:(bufO p room l).p w F) (hn:l.length<=1048576):CR 84 [.pointer (some ⟨p,0,none⟩),Flat.val x] w (λ v w'=>v = .int .i64 (putE room l x)/\Mut F (bufO p room (putL room l x)) w w'):=by
 have hs:=St.begin hF;obtain ⟨sv,hs⟩:=hs.openEx;have hs:=hs.split;refine S84_ok _ _ _ _ ?_;unfold S84;refine eop_boxV hs (λ b_x3 _ hs=>qop_at ty152 hs.At (callP pl141 hs (C141 _ _) (λ _ he hs=>pop_not (cond_b (λ c_x8=>?_) (λ c_x8=>callP pl108 hs (C108 _ _ _ _ (BufR.mk' hs.p1.hb hs.p2.rd')) (λ _ he hs=>cond_d (λ c_x11=>?_) (λ c_x11=>?_)))))))
 ·have hs:=hs.p2.p2;rw [putE_bad (by simpa using c_x8),putL_bad (by simpa using c_x8)];exact ⟨rfl,(bufO.shut hs).mut⟩
 ·have hs:=hs.p2.p2;rw [putE_full (by simpa using c_x8) c_x11,putL_full c_x11];exact ⟨rfl,(bufO.shut hs).mut⟩
 refine pop_nil (pop_field fld137_1 ?_);have hs:=hs.drew;refine qop_blk ty135 hs.p1.hb rfl (qop_at ty152 hs.At ?_);refine eop_build ([x]) hs sl135 rfl rfl (leb rfl) (λ s_x18 _ hs=>?_);refine ⟨run_loadOne ty135 (hs.p2.hb.cell rfl),?_⟩;have hr_x19:=(hs).rd';refine eop_append hs.p3 sl135 hr_x19 (by simp <;> omega) (by decide) (λ s_x19 _ hs=>?_);have hs:=hs.p1.drop;refine pop_nil (pop_field fld137_1 ?_);refine uop_blk hs.p2 ty135 (leb rfl) ((hs).rd'.one) (λ _ hs=>?_);have hs:=hs.p1.p1;rw [putE_ok (by simpa using c_x8) c_x11,putL_ok (by simpa using c_x8) c_x11];exact ⟨rfl,(bufO.shut hs).mut⟩
theorem takeX_bad {l:List TEntry} {i:Int} (h:canB l i=false):takeX l i=⟨0,0,0,0⟩:=by unfold takeX; rw [h]; rfl
theorem takeL_bad {l:List TEntry} {i:Int} (h:canB l i=false):takeL l i=l:=by unfold takeL; rw [h]; rfl
theorem takeE_bad {l:List TEntry} {i:Int} (h:i<0\/(l.length:Int)<=i):takeE l i=1:=by unfold takeE; rw [if_neg (by omega)]
theorem takeE_no {l:List TEntry} {i:Int} (h0:0<=i/\i<l.length) (h:canB l i=false):takeE l i=13:=by unfold takeE; rw [if_pos h0,h]; rfl
theorem takeE_ok {l:List TEntry} {i:Int} (h:canB l i=true):takeE l i=0:=by unfold takeE; rw [if_pos (canB_lt h),h]; rfl
theorem takeX_ok {l:List TEntry} {i:Int} {x:TEntry} (h:canB l i=true) (hx:l[i.toNat]? = some x):takeX l i=x:=by unfold takeX; rw [h,hx]; rfl
theorem takeL_ok {l:List TEntry} {i:Int} (h:canB l i=true):takeL l i=l.eraseIdx i.toNat:=by unfold takeL; rw [h]; rfl
theorem C76 (p:Nat) (room:Int) (l:List TEntry) (i:Int) (F:Nat->Prop) (w:World) (hF:(bufO p room l).p w F) (hn:l.length<=1048576):CR 76 [.pointer (some ⟨p,0,none⟩),.int .i64 i] w (λ v w'=>v = .tuple #[Flat.val (takeX l i),.int .i64 (takeE l i)]/\Mut F (bufO p room (takeL l i)) w w'):=by
 have hs:=St.begin hF;obtain ⟨sv,hs⟩:=hs.openEx;have hs:=hs.split;refine S76_ok _ _ _ _ ?_;unfold S76;refine eop_allocA hs zero152 (λ b_x4 _ hs=>?_);refine ⟨_,?_,λ _ _ h=>h⟩;refine pop_lss (cond_d (λ c_x8=>?_) (λ c_x8=>?_))
 ·intro dd1;refine cond_t (pop (bld152_) ?_);refine uop_blkV (x:=(⟨0,0,0,0⟩:TEntry)) hs ty152 rfl rfl (λ w3 hs=>qop_at ty152 hs.At ?_);have hs:=hs.p2.p2;rw [takeX_bad (canB_out (by omega)),takeE_bad (by omega),takeL_bad (canB_out (by omega))];exact ⟨rfl,(bufO.shut hs).mut⟩
 refine pop_nil (pop_field fld137_1 ?_);refine qop_blk ty135 hs.p1.hb rfl (pop_len sl135 (hs.p2).rd' ?_);refine pop_geq ?_;intro dd1;refine cond_d (λ c_x17=>?_) (λ c_x17=>callP pl109 hs (C109 _ _ _ _ _ (BufR.mk' hs.p1.hb hs.p2.rd') (by omega)) (λ _ he hs=>pop_not (cond_b (λ c_x22=>?_) (λ c_x22=>?_))))
 ·refine pop (bld152_) (uop_blkV (x:=(⟨0,0,0,0⟩:TEntry)) hs ty152 rfl rfl (λ w3 hs=>?_));refine qop_at ty152 hs.At ?_;have hs:=hs.p2.p2;rw [takeX_bad (canB_out (by omega)),takeE_bad (by omega),takeL_bad (canB_out (by omega))];exact ⟨rfl,(bufO.shut hs).mut⟩
 ·refine pop (bld152_) (uop_blkV (x:=(⟨0,0,0,0⟩:TEntry)) hs ty152 rfl rfl (λ _ hs=>?_));refine qop_at ty152 hs.At ?_;have hs:=hs.p2.p2;rw [takeX_bad (by simpa using c_x22),takeE_no (by omega) (by simpa using c_x22),takeL_bad (by simpa using c_x22)];exact ⟨rfl,(bufO.shut hs).mut⟩
 refine pop_nil (pop_field fld137_1 ?_);refine qop_blk ty135 hs.p1.hb rfl ?_;obtain ⟨e_x29,he_x29⟩:=gx (l) (i:=(i).toNat) (by omega);refine pop_own hs.p2 sl135 (by omega) (by omega) (λ _ h_x29=>qop_own hs.p2 ty152 h_x29 he_x29 ?_);refine eop_allocA hs zero152 (λ b_x6 _ hs=>uop_blkV (x:=e_x29) hs ty152 rfl rfl (λ _ hs=>?_));refine pop_nil (pop_field fld137_1 ?_);refine qop_blk ty135 hs.p2.hb rfl (callF pl137 (C137 _ _ _ (hs.p3).rd' (by omega)) ?_);rintro _ _ hnew;have hs:=hs.made hnew;refine pop_add (by omega) (callMut pl136 hs (H':=λ v=>ownL v (l.eraseIdx i.toNat)) (Φ:=λ _ _=>True) (λ F hF=>?_) ?_)
 ·exact C136 _ i _ F _ hF (by omega) (by omega) (by omega)
 rintro x40 _ _ hs;refine pop_nil (pop_field fld137_1 ?_);refine uop_blk hs.p3 ty135 (leb rfl) ((hs).rd'.one) (λ _ hs=>qop_at ty152 hs.p2.At ?_);refine uop_blkV (x:=e_x29) hs.p3 ty152 rfl rfl (λ _ hs=>qop_at ty152 hs.At ?_);have hs:=hs.p2.p2;rw [takeX_ok (by simpa using c_x22) he_x29,takeE_ok (by simpa using c_x22),takeL_ok (by simpa using c_x22)];exact ⟨rfl,(bufO.shut hs).mut⟩
def lastO (l:List TEntry) (c:Int):Option Int:=(l.reverse.find? λ x=>decide (x.kind=3/\x.cell=c)).map (·.n)
theorem C206 (y sv:Value) (b:Nat) (xs:List TEntry) (J:Nat->World->Prop) (Jx:World->Prop) (w:World) (hn:xs.length<=1073741824)
  (hJ:∀ k W,J k W->Cell W b 0 sv/\RdL (λ _=>True) W sv xs) (h0:J 0 w)
  (hy:∀ k x W,xs.reverse[k]? = some x->J k W->CallV Tryz.prog y [.int .i64 ((xs.length:Int) - 1 - k),Flat.val x] W (λ v W'=>(v = .bool true/\J (k+1) W')\/(v = .bool false/\Jx W'))) :
  CR 206 [y,.pointer (some ⟨b,0,none⟩)] w (λ _ W=>J xs.length W\/Jx W):=by
 refine S206_ok _ _ _ _ ?_;unfold S206;refine qop_cell ty135 (hJ 0 w h0).1 (pop_len sl135 (hJ 0 w h0).2 ?_);refine pop_sub (by omega) ?_;refine ⟨λ m x w1=>∃ k:Nat,x = .int .i64 ((xs.length:Int) - 1 - k)/\m=xs.length - k/\k<=xs.length/\J k w1,⟨_,0,by simp,rfl,Nat.zero_le _,h0⟩,?_⟩;rintro m _ w1 ⟨k,rfl,rfl,hk,hj⟩ _;refine pop_geq (cond_d (λ c=>?_) (λ c=>?_))
 ·obtain ⟨h1,h2⟩:=hJ k w1 hj;have hlt:k<xs.length:=by omega
  have hx:xs.reverse[k]? = some (xs[xs.length - 1 - k]'(by omega)):=by rw [List.getElem?_reverse hlt,List.getElem?_eq_getElem]
  refine qop_cell ty135 h1 (pop_idx sl135 h2 (by omega) (x:=xs[xs.length - 1 - k]'(by omega)) (by rw [List.getElem?_eq_getElem (by omega)]; congr 2; omega) (λ q hq=>?_));refine qop_at ty152 hq ?_;obtain hcv:=hy k _ w1 hx hj;refine CallV.mono hcv ?_;rintro v w2 (⟨rfl,hj2⟩ | ⟨rfl,hx2⟩)
  ·exact pop_not (cond_f (pop_sub (by omega) ⟨xs.length - (k+1),by omega,k+1,by congr 1; omega,rfl,by omega,hj2⟩))
  exact pop_not (cond_t (.inr hx2))
 have:k=xs.length:=by omega
 subst this;exact .inl hj
theorem C178 (sv:Value) (w:World) (h1:oneC sv=true):CR 178 [sv] w (λ v w'=>∃ b,v = .func (.func 206) [].toArray [.pointer (some ⟨b,0,none⟩)].toArray/\New (blk b [sv]) w w'):=by
 have hs:=St.start w;refine S178_ok _ _ _ ?_;unfold S178;exact eop_box1 hs h1 (λ b _ hs=>⟨b,rfl,hs.fresh⟩)
theorem find_snoc {α:Type} {p:α->Bool} {l:List α} {k:Nat} {x:α} (hno:∀ y∈l.take k,p y=false) (hx:l[k]? = some x) (hp:p x=true):l.find? p=some x:=by
 rw [List.find?_eq_some_iff_getElem]
 have hk:=(List.getElem?_eq_some_iff.1 hx)
 obtain ⟨hlt,he⟩:=hk
 refine ⟨hp,k,hlt,he,λ j hj=>?_⟩
 have:=hno (l[j]'(by omega)) (List.mem_take_iff_getElem.2 ⟨j,by omega,rfl⟩)
 simp [this]
theorem C139 (p:Nat) (c room:Int) (l:List TEntry) (w:World) (hb:BufR w p room l) (hn:l.length<=1048576) :
  CR 139 [.pointer (some ⟨p,0,none⟩),.int .i64 c] w (λ v w'=>v = .tuple #[.int .i64 ((lastO l c).getD 0),.bool (lastO l c).isSome]/\Ext w w'):=by
 obtain ⟨sv,hc0,hc1,hL⟩:=hb;have hs:=St.start w;refine S139_ok _ _ _ _ ?_;unfold S139;refine eop_box1 hs rfl (λ b3 _ hs=>eop_alloc1 hs zero3 rfl (λ b4 _ hs=>?_));refine eop_alloc1 hs zero4 rfl (λ b5 _ hs=>pop_nil ?_);refine pop_field fld137_1 (qop_cell ty135 (hc1.ext hs.chg) ?_);refine callF pl178 (C178 sv _ hL.one) ?_;rintro _ _ ⟨b,rfl,hnew⟩;have hs:=hs.made hnew
 refine range_st (cap:=[.pointer (some ⟨b,0,none⟩)]) (xs:=(List.range l.length).map fun (k:Nat)=>[Value.int .i64 ((l.length:Int) - 1 - k),Flat.val ((l.reverse[k]?).getD ⟨0,0,0,0⟩)]) pl206 hs
  (λ k M=>M=[blk b [sv],blk b5 [.bool false],blk b4 [.int .i64 0],blk b3 [.int .i64 c]]/\∀ y∈l.reverse.take k,decide (y.kind=3/\y.cell=c)=false)
  (λ cd M=>cd = .ret/\∃ x,lastO l c=some x/\M=[blk b5 [.bool true],blk b4 [.int .i64 x]])
  ⟨rfl,by simp⟩ (by simp) ?_ ?_ ?_ ?_ ?_ ?_
 ·
  intro y J Jx W hJ hJe hJ0 hy;refine (C206 y sv b l J Jx W (by omega) (λ k W hk=>?_) hJ0 (λ k x W hx hk=>?_)).mono λ _ _ r=>r.mono λ v W' h=>?_
  ·obtain ⟨Y,M,⟨rfl,_⟩,hS⟩:=hJ k W hk;exact ⟨hS.p1.hb.cell rfl,hL.ext hS.chg⟩
  ·have hlt:=(List.getElem?_eq_some_iff.1 hx).1;rw [List.length_reverse] at hlt;have:=hy k [Value.int .i64 ((l.length:Int) - 1 - k),Flat.val x] W (by rw [List.getElem?_map,List.getElem?_range hlt]; simp [hx]) hk;exact this
  simpa using h
 ·
  rintro k args Y1 Y2 B Kr M W hk ⟨rfl,hno⟩ hB hN hR hs
  have hlt:k<l.length:=by
   have:=(List.getElem?_eq_some_iff.1 hk).1
   simpa using this
  obtain ⟨x,hx⟩:∃ x,l.reverse[k]? = some x:=⟨_,List.getElem?_eq_getElem (by simpa using hlt)⟩
  have ha:args=[Value.int .i64 ((l.length:Int) - 1 - k),Flat.val x]:=by
   rw [List.getElem?_map,List.getElem?_range hlt] at hk;simp [hx] at hk;exact hk.symm
  subst ha;dsimp only [nthV];refine eop_allocA hs zero152 (λ b7 _ hs=>uop_blkA hs ty152 rfl (by decide) (by simp [oneC,setAll]) (λ _ hs=>?_));refine hB _ _ _ hs.p1 (λ w8 hs=>?_);have e7:setAll [Value.int IntKind.i64 0,.int .i64 0,.int .i64 0,.int .i64 0] 0 [Value.int .i64 x.kind,.int .i64 x.line,.int .i64 x.cell,.int .i64 x.n]=Flat.enc x:=rfl;refine ⟨_,?_,λ _ _ h=>h⟩;refine pop_field fld152_0 (qop_blk ty3 hs.p1.hb rfl ?_);refine pop_eql ?_
  have no:¬ (x.kind=3/\x.cell=c)->Kr none w8:=λ hh=>by
   refine hN _ _ (hs.p1.drop.p0) ⟨rfl,?_⟩;exact take_all hno hx (by simpa using hh)
  refine cond_d (λ c1=>?_) (λ c1=>?_)
  ·refine pop_field fld152_2 (qop_blk ty3 hs.p1.hb rfl ?_);refine qop_blk ty3 hs.p5.hb rfl (pop_eql ?_);intro dd1;refine cond_d (λ c2=>pop_field fld152_3 (qop_blk ty3 hs.p1.hb rfl (uop_blk hs.p4 ty3 (Nat.le_of_ble_eq_true rfl) rfl (λ _ hs=>uop_blk hs.p4 ty4 (Nat.le_of_ble_eq_true rfl) rfl (λ _ hs=>hR _ [blk b5 [.bool true],blk b4 [.int .i64 x.n]] _ ((hs.p5.drop.p4.drop.p3.drop).p2) ⟨rfl,x.n,?_,rfl⟩))))) (λ c2=>no λ hh=>c2 hh.2);unfold lastO;rw [find_snoc hno hx (by simpa using ⟨c1,c2⟩)]; rfl
  intro dd1;exact cond_f (no λ hh=>c1 hh.1)
 ·
  rintro D M W ⟨rfl,hno⟩ hs;refine uop_blk hs.p3 ty3 (Nat.le_of_ble_eq_true rfl) rfl (λ _ hs=>uop_blk hs.p3 ty4 (Nat.le_of_ble_eq_true rfl) rfl (λ _ hs=>?_));refine take1 hs.p2 (λ w15 hs=>?_);refine qop_blk ty3 hs.p1.hb rfl (qop_blk ty4 hs.hb rfl ?_)
  have:lastO l c=none:=by
   unfold lastO
   rw [show l.reverse.find? _=none from List.find?_eq_none.2 λ y hy=>by
    have:=hno y (by rw [List.take_of_length_le (by simp)]; exact hy);simp only [this]; exact Bool.false_ne_true]
   rfl
  rw [this];exact ⟨rfl,hs.chg⟩
 ·rintro D M W ⟨_,x,hl,rfl⟩ hs;refine take1 hs (λ w15 hs=>?_);refine qop_blk ty3 hs.p1.hb rfl (qop_blk ty4 hs.hb rfl ?_);rw [hl];exact ⟨rfl,hs.chg⟩
 ·rintro id D M W ⟨h,_⟩; cases h
 rintro c M ⟨h,_⟩; exact .inr h
theorem C23 (room:Int) (w:World):CR 23 [.int .i64 room] w (λ v w'=>((room<1\/16<room)/\v = .tuple #[.pointer none,.int .i64 1]/\Ext w w')\/(1<=room/\room<=16/\∃ b,v = .tuple #[.pointer (some ⟨b,0,none⟩),.int .i64 0]/\New (bufO b room []) w w')):=by
 have hs:=St.start w;refine S23_ok _ _ _ ?_;unfold S23;refine ⟨_,?_,λ _ _ h=>h⟩;refine pop_lss (cond_d (λ c_x5=>?_) (λ c_x5=>?_))
 ·intro dd1;exact cond_t (.inl ⟨by omega,rfl,hs.chg⟩)
 refine pop_gtr ?_;intro dd1;exact cond_d (λ _=>.inl ⟨by omega,rfl,hs.chg⟩) (λ _=>pop (bld137_0 _) (eop_boxA hs (λ b _ hs=>have hs:=(hs.ownNil (α:=TEntry)).p1;.inr ⟨by omega,by omega,b,rfl,(bufO.shut hs).fresh⟩)))
structure Mem where
 of:List Int
 firsts:List Int
 l:List Int
 kept:List Int
 pend:Int->List TWrite
def linesM (of:List Int):Int:=if of.length=0 then 0 else of.getD (of.length - 1) 0+1
def appl (k:List Int) (ws:List TWrite):List Int:=ws.foldl (λ k w=>k.set w.cell.toNat w.n) k
theorem appl_len (ws:List TWrite):∀ k:List Int,(appl k ws).length=k.length:=by
 induction ws with
 | nil=>intro k; rfl
 | cons x ws ih=>intro k; show (appl (k.set x.cell.toNat x.n) ws).length=_; rw [ih,List.length_set]
theorem appl_snoc (ws:List TWrite) (x:TWrite) (k:List Int):appl k (ws++[x])=(appl k ws).set x.cell.toNat x.n:=by
 unfold appl; rw [List.foldl_append]; rfl
theorem appl_take {ws:List TWrite} {j:Nat} {x:TWrite} {k:List Int} (hx:ws[j]? = some x):appl k (ws.take (j+1))=(appl k (ws.take j)).set x.cell.toNat x.n:=by
 rw [List.take_add_one,hx]; exact appl_snoc _ _ _
def inL (m:Mem) (cell:Int):Bool:=decide (0<=cell/\cell<m.l.length)
def writeM (m:Mem) (cell n:Int):Mem:=if inL m cell=true then {m with l:=m.l.set cell.toNat n,pend:=if cell<m.of.length then updF m.pend (m.of.getD cell.toNat 0) (m.pend (m.of.getD cell.toNat 0)++[⟨cell,n⟩]) else m.pend} else m
def inLn (m:Mem) (line:Int):Bool:=decide (0<=line/\line<linesM m.of)
def outM (m:Mem) (line:Int):Mem:=if inLn m line=true then {m with kept:=appl m.kept (m.pend line),pend:=updF m.pend line []} else m
structure MOk (m:Mem):Prop where
 ofl:m.of.length<=m.firsts.length
 fl:m.firsts.length<=20
 ll:m.l.length=m.firsts.length
 kl:m.kept.length=m.of.length
 ofr:∀ n∈m.of,0<=n/\n<linesM m.of
 lb:linesM m.of<=20
 pc:∀ k,∀ x∈m.pend k,0<=x.cell/\x.cell<m.of.length
def MB (m:Mem) (n:Nat):Prop:=∀ k,(m.pend k).length<=n
def memB (p:Nat) (ov fv:Value) (m:Mem):HP:=exH λ lv=>exH λ kv=>exH λ pm=>sep (blk p [ov,fv,lv,kv,.map (some pm)]) (sep (ownL lv m.l) (sep (ownL kv m.kept) (pendO pm m.pend)))
def MemK (ov fv:Value) (m:Mem) (w:World):Prop:=RdL (λ _=>True) w ov m.of/\RdL (λ _=>True) w fv m.firsts
def MemR (w:World) (p:Nat) (m:Mem):Prop:=∃ ov fv lv kv pm,Cell w p 0 ov/\Cell w p 1 fv/\Cell w p 2 lv/\Cell w p 3 kv/\Cell w p 4 (.map (some pm))/\RdL (λ _=>True) w ov m.of/\RdL (λ _=>True) w fv m.firsts/\RdL (λ _=>True) w lv m.l/\RdL (λ _=>True) w kv m.kept/\PendR w pm m.pend
section
variable {w w' w0:World} {A F:Nat->Prop} {R:List HP} {p:Nat} {ov fv lv kv:Value} {m:Mem} {pm:Nat}
theorem MemR.ext (h:MemR w p m) (e:Ext w w'):MemR w' p m:=by
 obtain ⟨ov,fv,lv,kv,pm,c0,c1,c2,c3,c4,h0,h1,h2,h3,h4⟩:=h
 exact ⟨ov,fv,lv,kv,pm,c0.ext e,c1.ext e,c2.ext e,c3.ext e,c4.ext e,h0.ext e,h1.ext e,h2.ext e,h3.ext e,h4.ext e⟩
theorem MemR.mk' (h:Blk w p [ov,fv,lv,kv,.map (some pm)]) (hK:MemK ov fv m w) (h2:RdL (λ _=>True) w lv m.l) (h3:RdL (λ _=>True) w kv m.kept) (h4:PendR w pm m.pend):MemR w p m:=
 ⟨ov,fv,lv,kv,pm,h.cell rfl,h.cell rfl,h.cell rfl,h.cell rfl,h.cell rfl,hK.1,hK.2,h2,h3,h4⟩
theorem memB.open (hs:St w0 A (memB p ov fv m::R) w):∃ lv kv pm,St w0 A (blk p [ov,fv,lv,kv,.map (some pm)]::ownL lv m.l::ownL kv m.kept::pendO pm m.pend::R) w:=by
 obtain ⟨lv,hs⟩:=hs.openEx; obtain ⟨kv,hs⟩:=hs.openEx; obtain ⟨pm,hs⟩:=hs.openEx
 have h1:=hs.split
 have h2:=h1.p1.split
 have h3:=(h2.p1.split)
 exact ⟨lv,kv,pm,h3.p2.p3⟩
theorem memB.shut (hs:St w0 A (blk p [ov,fv,lv,kv,.map (some pm)]::ownL lv m.l::ownL kv m.kept::pendO pm m.pend::R) w):St w0 A (memB p ov fv m::R) w:=by
 have h1:St w0 A (sep (ownL kv m.kept) (pendO pm m.pend)::blk p [ov,fv,lv,kv,.map (some pm)]::ownL lv m.l::R) w:=St.join (hs.p3.p3)
 have h2:St w0 A (sep (ownL lv m.l) (sep (ownL kv m.kept) (pendO pm m.pend))::blk p [ov,fv,lv,kv,.map (some pm)]::R) w:=St.join h1.p2
 exact St.shutEx lv (St.shutEx kv (St.shutEx pm (St.join h2.p1)))
theorem memR_of (hs:St w0 A (memB p ov fv m::R) w) (hK:MemK ov fv m w):MemR w p m:=by
 obtain ⟨lv,kv,pm,hs⟩:=memB.open hs
 exact MemR.mk' hs.hb hK hs.p1.rd' hs.p2.rd' hs.p3.pendR
end
theorem C106 (p:Nat) (m:Mem) (w:World) (hm:MemR w p m) (hk:MOk m):CR 106 [(.pointer (some ⟨p,0,none⟩))] w (λ v w'=>v = .int .i64 (linesM m.of)/\Ext w w'):=by
 have hm0:=hm;obtain ⟨ov,fv,lv,kv,pm,c0,c1,c2,c3,c4,hO,hFi,hL,hKp,hP⟩:=hm;have h20:=hk.fl;have hol:=hk.ofl;have hll:=hk.ll;have hkl:=hk.kl;have hlb:=hk.lb;have hs:=St.start w;refine sok Tryz.func106 (pl:=P106) ?_;refine pop_nil (pop_field fld146_0 (qop_cell ty45 (c0.ext hs.chg) (pop_len sl45 (hO.ext hs.chg) (pop_eql (cond_d (λ _=>⟨congrArg (Value.int .i64) (by unfold linesM; rw [if_pos (by omega)]),hs.chg⟩) (λ c_x8=>pop_nil ?_))))));refine pop_field fld146_0 ?_;have hs:=hs.drew;refine qop_cell ty45 (c0.ext hs.chg) (pop_nil ?_);refine pop_field fld146_0 (qop_cell ty45 (c0.ext hs.chg) ?_);refine pop_len sl45 (hO.ext hs.chg) (pop_sub (by omega) ?_);obtain ⟨e_x19,he_x19⟩:=gx (m.of) (i:=((((m.of).length:Int) - 1)).toNat) (by omega)
 refine pop_idx sl45 hO (by omega) he_x19 (λ _ h_x19=>qop_at ty3 (h_x19.ext hs.chg) ?_);have hx20:=hk.ofr _ (List.mem_of_getElem? he_x19);exact pop_add (by omega) ⟨congrArg (Value.int .i64) (by unfold linesM; rw [if_neg (by omega),List.getD_eq_getElem?_getD,show m.of.length - 1=((m.of.length:Int) - 1).toNat from by omega,he_x19]; rfl),hs.chg⟩
theorem C140 (p:Nat) (m:Mem) (cell:Int) (w:World) (hm:MemR w p m) (hk:MOk m):CR 140 [(.pointer (some ⟨p,0,none⟩)),.int .i64 cell] w (λ v w'=>v = .tuple #[.int .i64 (if inL m cell=true then m.l.getD cell.toNat 0 else 0),.int .i64 (if inL m cell=true then 0 else 1)]/\Ext w w'):=by
 have hm0:=hm;obtain ⟨ov,fv,lv,kv,pm,c0,c1,c2,c3,c4,hO,hFi,hL,hKp,hP⟩:=hm;have hs:=St.start w;refine sk0 Tryz.func140 ?_;refine ⟨λ jv w'=>jv = .bool (decide (cell<0\/m.l.length<=cell))/\w=w',pop_lss (cond_d (λ _=>⟨jvT (by omega),rfl⟩) (λ _=>pop_nil (pop_field fld146_2 (qop_cell ty45 (c2.ext hs.chg) (pop_len sl45 (hL.ext hs.chg) (pop_geq ⟨jvD (by omega),rfl⟩)))))),?_⟩;rintro _ _ ⟨rfl,hw⟩ _;subst hw;refine cond_d (λ c_x16=>?_) (λ c_x16=>?_)
 ·have hin:inL m cell=false:=by unfold inL; rw [decide_eq_false_iff_not]; omega
  rw [hin];exact ⟨rfl,hs.chg⟩
 refine pop_nil (pop_field fld146_2 ?_);refine qop_cell ty45 (c2.ext hs.chg) ?_;obtain ⟨e_x22,he_x22⟩:=gx (m.l) (i:=(cell).toNat) (by omega);refine pop_idx sl45 hL (by omega) he_x22 (λ _ h_x22=>qop_at ty3 (h_x22.ext hs.chg) ?_);have hin:inL m cell=true:=by unfold inL; rw [decide_eq_true_eq]; omega
 rw [hin,List.getD_eq_getElem?_getD,he_x22];exact ⟨rfl,hs.chg⟩
theorem C55 (p:Nat) (m:Mem) (w:World) (hm:MemR w p m) (hk:MOk m):CR 55 [(.pointer (some ⟨p,0,none⟩))] w (λ v w'=>New (ownL v m.l) w w'):=by
 have hm0:=hm;obtain ⟨ov,fv,lv,kv,pm,c0,c1,c2,c3,c4,hO,hFi,hL,hKp,hP⟩:=hm;have h20:=hk.fl;have hol:=hk.ofl;have hll:=hk.ll;have hkl:=hk.kl;have hlb:=hk.lb;have hs:=St.start w;refine sk0 Tryz.func55 ?_;exact pop_nil (pop_field fld146_2 (qop_cell ty45 (c2.ext hs.chg) (callN pl71 hs (C71 _ _ _ (hL.ext hs.chg) (by omega)) (λ _ _ _ hs=>hs.fresh))))
theorem C100 (p:Nat) (m:Mem) (w:World) (hm:MemR w p m) (hk:MOk m):CR 100 [(.pointer (some ⟨p,0,none⟩))] w (λ v w'=>New (ownL v m.kept) w w'):=by
 have hm0:=hm;obtain ⟨ov,fv,lv,kv,pm,c0,c1,c2,c3,c4,hO,hFi,hL,hKp,hP⟩:=hm;have h20:=hk.fl;have hol:=hk.ofl;have hll:=hk.ll;have hkl:=hk.kl;have hlb:=hk.lb;have hs:=St.start w;refine sk0 Tryz.func100 ?_;exact pop_nil (pop_field fld146_3 (qop_cell ty45 (c3.ext hs.chg) (callN pl71 hs (C71 _ _ _ (hKp.ext hs.chg) (by omega)) (λ _ _ _ hs=>hs.fresh))))
theorem C77 (p:Nat) (ov fv:Value) (m:Mem) (F:Nat->Prop) (cell n:Int) (w:World) (hF:(memB p ov fv m).p w F) (hK:∀ w',Chg F w w'->MemK ov fv m w') (hk:MOk m) (hb:MB m 1000000):CR 77 [(.pointer (some ⟨p,0,none⟩)),.int .i64 cell,.int .i64 n] w (λ v w'=>v = .int .i64 (if inL m cell=true then 0 else 1)/\Mut F (memB p ov fv (writeM m cell n)) w w'):=by
 have hs:=St.begin hF;obtain ⟨lv,kv,pm,hs⟩:=memB.open hs;have h20:=hk.fl;have hol:=hk.ofl;have hll:=hk.ll;have hkl:=hk.kl;have hlb:=hk.lb;refine S77_ok _ _ _ _ _ ?_;unfold S77;refine ⟨λ jv w'=>jv = .bool (decide (cell<0\/m.l.length<=cell))/\w=w',pop_lss (cond_d (λ _=>⟨jvT (by omega),rfl⟩) (λ _=>pop_nil (pop_field fld146_2 (qop_blk ty45 hs.hb rfl (pop_len sl45 (hs.p1).rd' (pop_geq ⟨jvD (by omega),rfl⟩)))))),?_⟩;rintro _ _ ⟨rfl,hw⟩ _;subst hw;refine cond_d (λ c_x18=>?_) (λ c_x18=>?_)
 ·have hs:=hs.p3.p3.p3.p3;have hin:inL m cell=false:=by unfold inL; rw [decide_eq_false_iff_not]; omega
  unfold writeM;rw [hin];exact ⟨rfl,(memB.shut hs).mut⟩
 have hin:inL m cell=true:=by unfold inL; rw [decide_eq_true_eq]; omega
 refine pop_nil (pop_field fld146_2 ?_);refine qop_blk ty45 hs.hb rfl ?_;obtain ⟨e_x25,he_x25⟩:=gx (m.l) (i:=(cell).toNat) (by omega);refine pop_own hs.p1 sl45 (by omega) (by omega) (λ _ h_x25=>uop_own _ hs.p1 ty3 h_x25 (by omega) (λ _ hs=>⟨λ w'=>St w F [memB p ov fv (writeM m cell n)] w',pop_nil (pop_field fld146_0 (qop_blk ty45 hs.p1.hb rfl (pop_len sl45 (hK _ hs.chg).1 (pop_lss (cond_d (λ c_x32=>?_) (λ c_x32=>?_)))))),?_⟩))
 ·refine pop_nil (pop_field fld146_0 ?_);refine qop_blk ty45 hs.p1.hb rfl ?_;obtain ⟨e_x38,he_x38⟩:=gx (m.of) (i:=(cell).toNat) (by omega);refine pop_idx sl45 (hK _ hs.chg).1 (by omega) he_x38 (λ _ h_x38=>qop_at ty3 (h_x38) ?_);refine pop_nil (pop_field fld146_4 ?_);have hs:=hs.drew;refine qop_blk ty144 hs.p1.hb rfl (pop_nil ?_);refine pop_field fld146_4 (qop_blk ty144 hs.p1.hb rfl ?_);have hbx:=hb e_x38;obtain ⟨s_x50,hs⟩:=(hs.p3).pendTake (k:=e_x38);refine ⟨_,(hs.p1).pendXlook Tryz.underlying144 und3 zero216,?_⟩;refine pop (bld218_0_1 _ _) (eop_build ([(⟨cell,n⟩:TWrite)]) hs sl216 rfl rfl (leb rfl) (λ s_x54 _ hs=>?_));refine ⟨run_loadOne ty144 (hs.p4.hb.cell rfl),?_⟩
  refine ⟨run_loadOne ty144 (hs.p4.hb.cell rfl),?_⟩;refine ⟨(hs.p2).pendXlook Tryz.underlying144 und3 zero216,?_⟩;have hr_x55:=(hs).rd';refine eop_append hs.p1 sl216 hr_x55 (by simp; omega) (by decide) (λ s_x55 _ hs=>?_);have hs:=hs.p1.drop;refine ⟨run_loadOne ty144 (hs.p3.hb.cell rfl),?_⟩;obtain ⟨sv_x55,rfl⟩:=(hs).isSV;have hs:=hs.p1.p1;refine uop_pendPut hs Tryz.underlying144 und3 (λ _ hs=>?_);have hs:=hs.p3.p2.p3;have hwm:writeM m cell n={m with l:=m.l.set cell.toNat n,pend:=updF m.pend e_x38 (m.pend e_x38++[⟨cell,n⟩])}:=by unfold writeM; rw [if_pos hin,if_pos (by omega),List.getD_eq_getElem?_getD,he_x38]; rfl
  rw [hwm];exact memB.shut (m:={m with l:=_,pend:=_}) hs
 ·have hs:=hs.p3.p3.p2.p3;have hwm:writeM m cell n={m with l:=m.l.set cell.toNat n}:=by unfold writeM; rw [if_pos hin,if_neg (by omega)]
  rw [hwm];exact memB.shut (m:={m with l:=_,pend:=_}) hs
 intro _ hs _;exact ⟨by rw [hin]; rfl,hs.mut⟩
def okCut (m:Mem) (cut:List Int):Bool:=decide ((cut.length:Int)=linesM m.of) && (List.range cut.length).all λ i=>decide (0<=cut.getD i 0/\cut.getD i 0<=(m.pend i).length)
def imgK (m:Mem) (cut:List Int) (k:Nat):List Int:=(List.range k).foldl (λ o (i:Nat)=>appl o ((m.pend i).take (cut.getD i 0).toNat)) m.kept
def imageM (m:Mem) (cut:List Int):Option (List Int):=if okCut m cut=true then some (imgK m cut cut.length) else none
theorem imgK_succ (m:Mem) (cut:List Int) (k:Nat):imgK m cut (k+1)=appl (imgK m cut k) ((m.pend k).take (cut.getD k 0).toNat):=by
 unfold imgK; rw [List.range_succ,List.foldl_append]; rfl
theorem imgK_len (m:Mem) (cut:List Int):∀ k,(imgK m cut k).length=m.kept.length
 | 0=>rfl
 | k+1=>by rw [imgK_succ,appl_len,imgK_len]
theorem image_no {m:Mem} {cut:List Int} {k:Nat} {c:Int} (hc:cut[k]? = some c) (h:¬ (0<=c/\c<=(m.pend k).length)):imageM m cut=none:=by
 unfold imageM; rw [if_neg]
 intro hh
 unfold okCut at hh
 rw [Bool.and_eq_true,List.all_eq_true] at hh
 have:=hh.2 k (List.mem_range.2 (List.getElem?_eq_some_iff.1 hc).1)
 rw [decide_eq_true_eq,List.getD_eq_getElem?_getD,hc] at this
 exact h this
theorem image_nl {m:Mem} {cut:List Int} (h:(cut.length:Int)≠linesM m.of):imageM m cut=none:=by
 unfold imageM okCut; rw [decide_eq_false h]; rfl
theorem image_yes {m:Mem} {cut:List Int} (h:(cut.length:Int)=linesM m.of) (hc:∀ (k:Nat) (c:Int),k<cut.length->cut[k]? = some c->0<=c/\c<=(m.pend k).length):imageM m cut=some (imgK m cut cut.length):=by
 unfold imageM; rw [if_pos]
 unfold okCut
 rw [Bool.and_eq_true,List.all_eq_true]
 refine ⟨decide_eq_true h,λ k hk=>?_⟩
 have hk:=List.mem_range.1 hk
 rw [decide_eq_true_eq,List.getD_eq_getElem?_getD,List.getElem?_eq_getElem hk]
 exact hc k _ hk (List.getElem?_eq_getElem hk)
def nxt:List Nat->List Int->Option (List Int)
 | p::ps,c::cs=>match nxt ps cs with
  | some cs'=>some (c::cs')
  | none=>if c<p then some ((c+1)::List.replicate cs.length 0) else none
 | _,_=>none
def crashM (m:Mem) (img:List Int):Mem:={m with kept:=img,l:=img++m.firsts.drop img.length,pend:=λ _=>[]}
theorem C78 (p:Nat) (ov fv:Value) (m:Mem) (F:Nat->Prop) (line:Int) (w:World) (hF:(memB p ov fv m).p w F) (hK:∀ w',Chg F w w'->MemK ov fv m w') (hk:MOk m) (hb:MB m 1000000):CR 78 [(.pointer (some ⟨p,0,none⟩)),.int .i64 line] w (λ v w'=>v = .int .i64 (if inLn m line=true then 0 else 1)/\Mut F (memB p ov fv (outM m line)) w w'):=by
 have hs:=St.begin hF;obtain ⟨lv,kv,pm,hs⟩:=memB.open hs;have h20:=hk.fl;have hol:=hk.ofl;have hll:=hk.ll;have hkl:=hk.kl;have hlb:=hk.lb;refine sok Tryz.func78 (pl:=P78) ?_;refine ⟨λ jv w'=>jv = .bool (decide (line<0\/linesM m.of<=line))/\St w F [blk p [ov,fv,lv,kv,.map (some pm)],ownL lv m.l,ownL kv m.kept,pendO pm m.pend] w',pop_lss (cond_d (λ _=>⟨vb (by first | exact (decide_eq_true (by omega)).symm | exact decide_eq_decide.2 (by omega)),hs⟩) (λ _=>callP pl106 hs (C106 _ m _ (MemR.mk' hs.hb (hK _ hs.chg) hs.p1.rd' hs.p2.rd' hs.p3.pendR) hk) (λ _ _ hs=>pop_geq ⟨vb (by first | exact (decide_eq_true (by omega)).symm | exact decide_eq_decide.2 (by omega)),hs⟩))),?_⟩
 rintro _ _ ⟨rfl,hs⟩ _;refine cond_d (λ c_x14=>?_) (λ c_x14=>?_)
 ·have hs:=hs.p3.p3.p3.p3;have hin:inLn m line=false:=by unfold inLn; rw [decide_eq_false_iff_not]; omega
  unfold outM;rw [hin];exact ⟨rfl,(memB.shut hs).mut⟩
 refine pop_nil (pop_field fld146_4 ?_);refine qop_blk ty144 hs.hb rfl ?_;obtain ⟨s_x20,hs⟩:=(hs.p3).pendTake (k:=line);refine ⟨_,(hs.p1).pendXlook Tryz.underlying144 und3 zero216,?_⟩;have hbl:=hb line;refine pop_len sl216 (hs).rd' ?_;have hs:=hs.p3.p3.p4.p4.p4;refine ⟨λ mm x w1=>∃ k:Nat,x = .int .i64 (k:Int)/\mm=(m.pend line).length - k/\k<=(m.pend line).length/\St w F [ownL (Flat.val s_x20) (m.pend line),pendX pm m.pend line s_x20,ownL kv (appl m.kept ((m.pend line).take k)),blk p [ov,fv,lv,kv,.map (some pm)],ownL lv m.l] w1,⟨_,0,rfl,rfl,Nat.zero_le _,hs⟩,?_⟩;rintro mm _ _ ⟨k,rfl,rfl,hk2,hs⟩ _;refine pop_lss (cond_d (λ c_x23=>?_) (λ c_x23=>?_))
 ·obtain ⟨e_x24,he_x24⟩:=gx ((m.pend line)) (i:=((k:Int)).toNat) (by omega);refine pop_own hs sl216 (by omega) (by omega) (λ _ h_x24=>?_);have hpc:=hk.pc line _ (List.mem_of_getElem? he_x24);refine qop_own hs ty218 h_x24 he_x24 (eop_allocA hs zero218 (λ b_w6 _ hs=>?_));refine uop_blkV (x:=e_x24) hs ty218 rfl rfl (λ _ hs=>pop_nil ?_);refine pop_field fld146_3 ?_;have hs:=hs.drew;refine qop_blk ty45 hs.p4.hb rfl (pop_field fld218_0 ?_);have hal:=appl_len ((m.pend line).take k) m.kept;refine qop_blk (v:=.int .i64 ((e_x24).cell)) ty3 hs.hb rfl (pop_field fld218_1 ?_);refine qop_blk (v:=.int .i64 ((e_x24).n)) ty3 hs.hb rfl ?_;obtain ⟨e_x34,he_x34⟩:=gx ((appl m.kept ((m.pend line).take k))) (i:=((e_x24).cell).toNat) (by omega)
  exact pop_own hs.p3 sl45 (by omega) (by omega) (λ _ h_x34=>uop_own _ hs.p3 ty3 h_x34 (by omega) (λ _ hs=>pop_add (by omega) (have hs:=(hs.p1.drop.p4.p4.p2.p4).p4;⟨_,by omega,k+1,rfl,rfl,by omega,by rw [appl_take (j:=k) he_x24]; exact hs⟩)))
 rw [List.take_of_length_le (by omega)] at hs;refine pop_nil (pop_field fld146_4 ?_);refine qop_blk ty144 hs.p3.hb rfl ?_;have hs:=hs.p1.p1.pendBack;rw [updF_same] at hs;refine eop_pendDel hs rfl Tryz.underlying144 und3 (λ _ _ hs=>?_);have hs:=hs.p1.p3.p3;have hin:inLn m line=true:=by unfold inLn; rw [decide_eq_true_eq]; omega
 have hom:outM m line={m with kept:=appl m.kept (m.pend line),pend:=updF m.pend line []}:=by unfold outM; rw [if_pos hin]
 rw [hom,hin];exact ⟨rfl,(memB.shut (m:={m with kept:=_,pend:=_}) hs).mut⟩
theorem C74 (p:Nat) (m:Mem) (cut:List Int) (cv:Value) (w:World) (hm:MemR w p m) (hk:MOk m) (hb:MB m 1000000) (hC:RdL (λ _=>True) w cv cut) (hc20:cut.length<=1000):CR 74 [(.pointer (some ⟨p,0,none⟩)),cv] w (λ v w'=>(imageM m cut=none/\v = .tuple #[.slice none 0 0,.int .i64 1]/\Ext w w')\/∃ img o,imageM m cut=some img/\v = .tuple #[o,.int .i64 0]/\New (ownL o img) w w'):=by
 have hm0:=hm;obtain ⟨ov,fv,lv,kv,pm,c0,c1,c2,c3,c4,hO,hFi,hL,hKp,hP⟩:=hm;have h20:=hk.fl;have hol:=hk.ofl;have hll:=hk.ll;have hkl:=hk.kl;have hlb:=hk.lb;have hs:=St.start w;refine S74_ok _ _ _ _ ?_;unfold S74;refine pop_len sl45 (hC.ext hs.chg) (callP pl106 hs (C106 _ m _ (hm0.ext hs.chg) hk) (λ w1 he hs=>pop_neq (cond_d (λ _=>.inl ⟨image_nl (by omega),rfl,hs.chg⟩) (λ c_x15=>callN pl100 hs (C100 _ m _ (hm0.ext hs.chg) hk) (λ x17 _ hnew hs=>?_)))));refine pop_len sl45 (hC.ext hs.chg) ?_;refine ⟨λ mm x w1=>∃ k:Nat,x = .int .i64 (k:Int)/\mm=cut.length - k/\k<=cut.length/\(∀ (i:Nat) (c:Int),i<k->cut[i]? = some c->0<=c/\c<=(m.pend i).length)/\St w none1 [ownL x17 (imgK m cut k)] w1,⟨_,0,rfl,rfl,Nat.zero_le _,λ _ _ h=>absurd h (by omega),hs⟩,?_⟩
 rintro mm _ w3 ⟨k,rfl,rfl,hk2,hok,hs⟩ _;refine pop_lss (cond_d (λ c_x21=>?_) (λ _=>.inr ⟨_,_,image_yes (by omega) (λ i c _ hc=>hok i c (by omega) hc),rfl,by rw [show cut.length=k from by omega]; exact hs.fresh⟩));obtain ⟨e_x23,he_x23⟩:=gx (cut) (i:=((k:Int)).toNat) (by omega);refine pop_idx sl45 hC (by omega) he_x23 (λ _ h_x23=>qop_at ty3 (h_x23.ext hs.chg) ⟨λ jv w'=>jv = .bool (decide (e_x23<0\/(m.pend k).length<e_x23))/\w3=w',pop_lss (cond_d (λ _=>⟨jvT (by omega),rfl⟩) (λ _=>pop_nil (pop_field fld146_4 (qop_cell ty144 (c4.ext hs.chg) (qop_lookB hP hs.chg Tryz.underlying144 und3 zero216 (λ _ h_x34=>pop_len sl216 (h_x34.ext hs.chg) (pop_gtr ⟨jvD (by omega),rfl⟩))))))),?_⟩)
 rintro _ _ ⟨rfl,hw⟩ _;subst hw;refine cond_d (λ _=>.inl ⟨image_no (k:=k) he_x23 (by omega),rfl,hs.chg⟩) (λ c_x37=>pop_nil ?_);refine pop_field fld146_4 (qop_cell ty144 (c4.ext hs.chg) ?_);refine qop_lookB hP hs.chg Tryz.underlying144 und3 zero216 (λ s_x43 h_x43=>?_);have hbk:=hb k;have htl:((m.pend k).take e_x23.toNat).length<=(m.pend k).length:=by rw [List.length_take]; omega
 refine pop_cutHi' sl216 (h_x43.ext hs.chg) (by omega) (by omega) (λ s_x45 hq_x45=>?_);have hc_x45:=hq_x45 _ h_x43;refine pop_len sl216 (hc_x45.ext hs.chg) ?_;refine ⟨λ mm x w1=>∃ j:Nat,x = .int .i64 (j:Int)/\mm=((m.pend k).take e_x23.toNat).length - j/\j<=((m.pend k).take e_x23.toNat).length/\St w none1 [ownL x17 (appl (imgK m cut k) (((m.pend k).take e_x23.toNat).take j))] w1,⟨_,0,rfl,rfl,Nat.zero_le _,hs⟩,?_⟩;rintro mm _ _ ⟨j,rfl,rfl,hj,hs⟩ _;refine pop_lss (cond_d (λ c_x48=>?_) (λ c_x48=>?_))
 ·obtain ⟨e_x49,he_x49⟩:=gx ((((m.pend (k:Int))).take (e_x23).toNat)) (i:=((j:Int)).toNat) (by omega);refine pop_idx sl216 hc_x45 (by omega) he_x49 (λ _ h_x49=>?_);have hpc:=hk.pc k _ (List.mem_of_mem_take (List.mem_of_getElem? he_x49));refine qop_at ty218 (h_x49.ext hs.chg) (eop_allocA hs zero218 (λ b_w10 _ hs=>?_));refine uop_blkV (x:=e_x49) hs ty218 rfl rfl (λ _ hs=>pop_field fld218_0 ?_);have hal:=appl_len (((m.pend k).take e_x23.toNat).take j) (imgK m cut k);have hil:=imgK_len m cut k;refine qop_blk (v:=.int .i64 ((e_x49).cell)) ty3 hs.hb rfl (pop_field fld218_1 ?_);refine qop_blk (v:=.int .i64 ((e_x49).n)) ty3 hs.hb rfl ?_;obtain ⟨e_x56,he_x56⟩:=gx ((appl (imgK m cut k) (((m.pend k).take e_x23.toNat).take j))) (i:=((e_x49).cell).toNat) (by omega)
  exact pop_own hs.p1 sl45 (by omega) (by omega) (λ _ h_x56=>uop_own _ hs.p1 ty3 h_x56 (by omega) (λ _ hs=>pop_add (by omega) (have hs:=(hs.p1).drop;⟨_,by omega,j+1,rfl,rfl,by omega,by rw [appl_take (j:=j) he_x49]; exact hs⟩)))
 rw [List.take_of_length_le (i:=j) (by omega)] at hs;refine pop_add (by omega) ⟨_,by omega,k+1,rfl,rfl,by omega,λ i c hi hc=>?_,?_⟩
 ·by_cases e:i=k
  ·subst e; obtain rfl:=Option.some.inj (hc.symm.trans he_x23); omega
  exact hok i c (by omega) hc
 rw [imgK_succ,List.getD_eq_getElem?_getD,show cut[k]? = some e_x23 from he_x23]; exact hs
theorem C31 (p:Nat) (ov fv:Value) (m:Mem) (F:Nat->Prop) (cut:List Int) (cv:Value) (w:World) (hF:(memB p ov fv m).p w F) (hK:∀ w',Chg F w w'->MemK ov fv m w') (hk:MOk m) (hb:MB m 1000000) (hC:∀ w',Chg F w w'->RdL (λ _=>True) w' cv cut) (hc20:cut.length<=1000):CR 31 [(.pointer (some ⟨p,0,none⟩)),cv] w (λ v w'=>(imageM m cut=none/\v = .int .i64 1/\Mut F (memB p ov fv m) w w')\/∃ img,imageM m cut=some img/\v = .int .i64 0/\Mut F (memB p ov fv (crashM m img)) w w'):=by
 have hs:=St.begin hF;obtain ⟨lv,kv,pm,hs⟩:=memB.open hs;have h20:=hk.fl;have hol:=hk.ofl;have hll:=hk.ll;have hkl:=hk.kl;have hlb:=hk.lb;refine sok Tryz.func31 (pl:=P31) ?_;refine callF pl74 (C74 _ m cut _ _ (MemR.mk' hs.hb (hK _ hs.chg) hs.p1.rd' hs.p2.rd' hs.p3.pendR) hk hb (hC _ hs.chg) (by omega)) ?_;rintro v_x10 _ hh_x10
 rcases hh_x10 with ⟨hi_x10,rfl,he⟩ | ⟨img_x10,o_x10,hi_x10,rfl,hnew⟩
 ·have hs:=hs.ext he;exact pop_ext rfl (pop_ext rfl (pop_neq (cond_yb (by decide) (have hs:=hs.p3.p3.p3.p3;.inl ⟨hi_x10,rfl,(memB.shut hs).mut⟩))))
 have hs:=hs.made hnew;refine pop_ext rfl (pop_ext rfl ?_);refine pop_neq (cond_nb (by decide) ?_);refine pop_nil (pop_field fld146_3 ?_);refine uop_blk hs.p1 ty45 (leb rfl) ((hs).rd'.one) (λ _ hs=>pop_nil ?_);refine pop_field fld146_2 ?_;have hs:=hs.drew;refine qop_blk ty45 hs.hb rfl (pop_nil ?_);refine pop_field fld146_1 (qop_blk ty45 hs.hb rfl ?_);refine eop_copy hs.p2 sl45 (hK _ hs.chg).2 (by omega) (λ _ hs=>pop_nil ?_);refine pop_field fld146_2 (qop_blk ty45 hs.p1.hb rfl ?_);refine eop_copy hs sl45 (hs.p2).rd' (by rw [List.length_append,List.length_drop]; have hil:img_x10.length=m.of.length:=(by unfold imageM at hi_x10; split at hi_x10 <;> simp at hi_x10; rw [<- hi_x10,imgK_len]; exact hkl); omega) (λ _ hs=>eop_pendMake (α:=TWrite) hs (λ b_x36 _ hs=>?_))
 refine pop_nil (pop_field fld146_4 ?_);refine uop_blk hs.p2 ty144 (leb rfl) (rfl) (λ _ hs=>?_);have hs:=((hs.p4.drop.p4.drop.p1.p3).p3).p3;have hil:img_x10.length=m.of.length:=by unfold imageM at hi_x10; split at hi_x10 <;> simp at hi_x10; rw [<- hi_x10,imgK_len]; exact hkl
 rw [show m.l.drop m.firsts.length=[] from List.drop_eq_nil_of_le (by omega),List.append_nil] at hs;exact .inr ⟨_,hi_x10,rfl,(memB.shut (m:=crashM m img_x10) hs).mut⟩
def newM (of:List Int) (stays:Int) (firsts:List Int):Mem:=⟨of.take stays.toNat,firsts,firsts,firsts.take stays.toNat,λ _=>[]⟩
theorem C27 (of firsts:List Int) (stays:Int) (av bv:Value) (w:World) (hO:RdL (λ _=>True) w av of) (hFi:RdL (λ _=>True) w bv firsts) (hlen:of.length=firsts.length) (h20:of.length<=20) (hst:0<=stays/\stays<=of.length) (hln:∀ (k:Nat) (n:Int),(k:Int)<stays->of[k]? = some n->(n=wantM of k\/(0<k/\n=wantM of k - 1))/\-10<=n/\n<=100):CR 27 [av,.int .i64 stays,bv] w (λ v w'=>∃ (p:Nat) (ov fv:SV),v = .tuple #[.pointer (some ⟨p,0,none⟩),.int .i64 0]/\New (sep (ownL (Flat.val ov) (of.take stays.toNat)) (sep (ownL (Flat.val fv) firsts) (memB p (Flat.val ov) (Flat.val fv) (newM of stays firsts)))) w w'):=by
 have hs:=St.start w;refine sk0 Tryz.func27 ?_;refine ⟨λ jv w'=>jv = .bool (decide (of.length≠firsts.length\/20<of.length\/stays<0\/of.length<stays))/\w=w',pop_len sl45 (hO.ext hs.chg) (pop_len sl45 (hFi.ext hs.chg) (pop_neq (cond_d (λ _=>⟨jvT (by omega),rfl⟩) (λ _=>pop_len sl45 (hO.ext hs.chg) (pop_gtr (cond_d (λ _=>⟨jvT (by omega),rfl⟩) (λ _=>pop_lss (cond_d (λ _=>⟨jvT (by omega),rfl⟩) (λ _=>pop_len sl45 (hO.ext hs.chg) (pop_gtr ⟨jvD (by omega),rfl⟩)))))))))),?_⟩;rintro _ w1 ⟨rfl,hw⟩ _;subst hw;refine cond_d (λ c_x31=>absurd c_x31 (by omega)) (λ c_x31=>pop_cutHi' sl45 (hO.ext hs.chg) (by omega) (by omega) (λ s_x34 hq_x34=>?_));have hc_x34:=hq_x34 _ hO
 refine pop_len sl45 (hc_x34.ext hs.chg) ?_;refine ⟨λ mm l x w1=>∃ (k:Nat) (last:Int),l = .int .i64 last/\x = .int .i64 (k:Int)/\mm=(of.take stays.toNat).length - k/\k<=(of.take stays.toNat).length/\last=wantM of k - 1/\-200<=last/\last<=200/\St w none1 [] w1,⟨_,0,-1,rfl,rfl,rfl,Nat.zero_le _,rfl,by omega,by omega,hs⟩,?_⟩;rintro mm _ _ w2 ⟨k,last,rfl,rfl,rfl,hk2,hlast,hl7,hl8,hs⟩ _;have htl:(of.take stays.toNat).length=stays.toNat:=by rw [List.length_take]; omega
 refine pop_lss (cond_d (λ c_x37=>?_) (λ c_x37=>?_))
 ·obtain ⟨e_x39,he_x39⟩:=gx (((of).take (stays).toNat)) (i:=((k:Int)).toNat) (by omega);refine pop_idx sl45 hc_x34 (by omega) he_x39 (λ _ h_x39=>?_)
  have hx39:of[k]? = some e_x39:=by
   have h0:=he_x39;rw [List.getElem?_take] at h0
   split at h0
   ·exact h0
   ·cases h0
  obtain ⟨hl1,hl2,hl3⟩:=hln k _ (by omega) hx39;refine qop_at ty3 (h_x39.ext hs.chg) ⟨λ jv w'=>jv = .bool (decide (e_x39≠last+1/\(k=0\/e_x39≠last)))/\w2=w',pop_add (by omega) (pop_neq (cond_d (λ _=>pop_eql (cond_d (λ _=>⟨jvT (by omega),rfl⟩) (λ _=>pop_neq ⟨jvD (by omega),rfl⟩))) (λ _=>⟨jvF (by omega),rfl⟩))),?_⟩;rintro _ _ ⟨rfl,hw⟩ _;subst hw;refine cond_d (λ c_x53=>absurd c_x53 (by have:=hln k e_x39 (by omega) hx39; simp; omega)) (λ c_x53=>?_);have hws:wantM of (k+1)=e_x39+1:=by unfold wantM; rw [if_neg (by omega),Nat.add_sub_cancel,List.getD_eq_getElem?_getD,hx39]; rfl
  exact pop_add (by omega) ⟨_,by omega,k+1,e_x39,rfl,rfl,rfl,by omega,by omega,by omega,by omega,hs⟩
 refine pop_cutHi' sl45 (hO.ext hs.chg) (by omega) (by omega) (λ s_x58 hq_x58=>?_);have hc_x58:=hq_x58 _ hO;refine callN pl71 hs (C71 _ _ _ (hc_x58.ext hs.chg) (by first | omega | (rw [List.length_take]; omega))) (λ x59 _ hnew hs=>callN pl71 hs (C71 _ _ _ (hFi.ext hs.chg) (by first | omega | (rw [List.length_take]; omega))) (λ x61 _ hnew hs=>?_));refine callN pl71 hs (C71 _ _ _ (hFi.ext hs.chg) (by first | omega | (rw [List.length_take]; omega))) (λ x63 _ hnew hs=>eop_pendMake (α:=TWrite) hs (λ b_x64 _ hs=>?_));obtain ⟨sv_x59,rfl⟩:=(hs.p3).isSV;obtain ⟨sv_x61,rfl⟩:=(hs.p2).isSV;obtain ⟨sv_x63,rfl⟩:=(hs.p1).isSV;refine pop (bld146_0_1_2_4 _ _ _ _ _ _ _ _ _ _) (eop_boxA hs (λ b_x66 _ hs=>?_))
 refine pop_cutHi' sl45 (hFi.ext hs.chg) (by omega) (by omega) (λ s_x70 hq_x70=>?_);have hc_x70:=hq_x70 _ hFi;exact callN pl71 hs (C71 _ _ _ (hc_x70.ext hs.chg) (by first | omega | (rw [List.length_take]; omega))) (λ _ _ _ hs=>pop_nil (pop_field fld146_3 (uop_blk hs.p1 ty45 (leb rfl) ((hs).rd'.one) (λ _ hs=>have hs:=memB.shut (m:=newM of stays firsts) hs.p4.p5.p4.p4.p5.p5;⟨b_x66,sv_x59,sv_x61,rfl,(St.join (St.join hs.p2).p1).fresh⟩))))
def numL:List Int->Int->Int
 | [],n=>n
 | c::cs,n=>numL cs (w64 (w64 (n * 10000)+c))
def numTo (l:List Int) (k:Nat):Int:=numL (l.take k) 0
theorem numL_snoc:∀ (l:List Int) (c n:Int),numL (l++[c]) n=w64 (w64 (numL l n * 10000)+c)
 | [],_,_=>rfl
 | x::l,c,n=>numL_snoc l c _
theorem numTo_succ {l:List Int} {k:Nat} {c:Int} (h:l[k]? = some c):numTo l (k+1)=w64 (w64 (numTo l k * 10000)+c):=by
 unfold numTo; rw [List.take_add_one,h]; exact numL_snoc _ _ _
def sameP (p q:TPick):Bool:=decide (q.kind=p.kind) && decide (q.t=p.t) && decide (q.i=p.i) && decide (p.cut.length=0)
theorem C75 (sv fv:Value) (xs:List TPick) (φ:TPick->Prop) (g:TPick->Bool) (w:World) (hL:DL w sv xs) (hf:FnOnD Tryz.prog w fv φ g) (hφ:∀ x∈xs,φ x) (hn:xs.length<=1073741824):CR 75 [sv,fv] w (λ v w'=>v = .int .i64 (idxF g xs)/\Ext w w'):=by
 obtain ⟨g0,first,cap,rfl,hpl,hcall⟩:=hf;have hs:=St.start w;refine sk0 Tryz.func75 ?_;obtain ⟨ts127,hR127,hD127⟩:=(hL).open;have hn127:=hD127.1;refine pop_len sl55 (hR127.ext hs.chg) ?_;refine ⟨λ m x w1=>∃ k:Nat,x = .int .i64 (k:Int)/\m=xs.length - k/\k<=xs.length/\(∀ y∈xs.take k,g y=false)/\St w none1 [] w1,⟨_,0,rfl,rfl,Nat.zero_le _,by simp,hs⟩,?_⟩;rintro m _ w1 ⟨k,rfl,rfl,hk,hno,hs⟩ _;refine pop_lss (cond_d (λ c_x9=>?_) (λ _=>⟨congrArg (Value.int .i64) (idxF_none (by rw [List.take_of_length_le (by omega)] at hno; exact hno)).symm,hs.chg⟩));obtain ⟨e_x14,he_x14⟩:=gx ts127 (i:=((k:Int)).toNat) (by omega);obtain ⟨r_x14,hr_x14⟩:=gx (xs) (i:=((k:Int)).toNat) (by omega)
 obtain ⟨g_cut_x14,rfl,d_cut_x14⟩:=hD127.2 _ _ _ he_x14 hr_x14;refine pop_idx sl55 hR127 (by omega) he_x14 (λ _ h_x14=>qop_at ty47 (h_x14.ext hs.chg) ?_);refine callV hpl (hcall _ r_x14 w1 hs.chg ⟨g_cut_x14,rfl,(d_cut_x14.ext hs.chg)⟩ (hφ _ (List.mem_of_getElem? hr_x14))) ?_;rintro _ _ ⟨rfl,he⟩;have hs:=hs.ext he;exact cond_b (λ c_x16=>⟨congrArg (Value.int .i64) (idxF_at hno hr_x14 c_x16).symm,hs.chg⟩) (λ c_x16=>pop_add (by omega) ⟨_,by omega,k+1,rfl,rfl,by omega,take_all hno hr_x14 c_x16,hs⟩)
theorem C34 (sv fv:Value) (xs:List TPick) (φ:TPick->Prop) (g:TPick->Bool) (w:World) (hL:DL w sv xs) (hf:FnOnD Tryz.prog w fv φ g) (hφ:∀ x∈xs,φ x) (hn:xs.length<=1073741824):CR 34 [sv,fv] w (λ v w'=>v = .bool (xs.any g)/\Ext w w'):=by
 have hs:=St.start w;refine sk0 Tryz.func34 ?_;exact callP pl75 hs (C75 _ _ _ _ _ _ (hL.ext hs.chg) (hf.ext hs.chg) hφ (by omega)) (λ _ _ hs=>pop_geq ⟨vb (idxF_any _ _),hs.chg⟩)
def readV (m:Mem) (c:Int):Int:=if inL m c=true then m.l.getD c.toNat 0 else 0
theorem C140' (p:Nat) (m:Mem) (c:Int) (w:World) (hm:MemR w p m) (hk:MOk m):CR 140 [.pointer (some ⟨p,0,none⟩),.int .i64 c] w (λ v w'=>v = .tuple #[.int .i64 (readV m c),.int .i64 (if inL m c=true then 0 else 1)]/\Ext w w'):=C140 p m c w hm hk
theorem writeM_of (m:Mem) (c n:Int):(writeM m c n).of=m.of:=by unfold writeM; split <;> rfl
theorem writeM_firsts (m:Mem) (c n:Int):(writeM m c n).firsts=m.firsts:=by unfold writeM; split <;> rfl
theorem outM_of (m:Mem) (c:Int):(outM m c).of=m.of:=by unfold outM; split <;> rfl
theorem outM_firsts (m:Mem) (c:Int):(outM m c).firsts=m.firsts:=by unfold outM; split <;> rfl
theorem MemK.write {ov fv:Value} {m:Mem} {w:World} {c n:Int} (h:MemK ov fv m w):MemK ov fv (writeM m c n) w:=by unfold MemK; rw [writeM_of,writeM_firsts]; exact h
theorem MemK.out {ov fv:Value} {m:Mem} {w:World} {c:Int} (h:MemK ov fv m w):MemK ov fv (outM m c) w:=by unfold MemK; rw [outM_of,outM_firsts]; exact h
def outMem (m:Mem) (x:TEntry):Mem:=if x.kind=3 then writeM m x.cell x.n else if x.kind=7 then m else outM m x.line
def outE (t:Int) (x:TEntry):TEvent:=if x.kind=3 then ⟨12,t,x.cell,x.n,0⟩ else if x.kind=7 then ⟨14,t,0,0,0⟩ else ⟨13,t,x.line,0,0⟩
end Go.Proofs.YtfkgkbhbdffckaaGreatDoor
namespace Go.Fw
def Agr (F:Nat->Prop) (w0 w':World):Prop:=∀ b,F b->w'.heap[b]? = w0.heap[b]?
section
variable {α σ:Type} [Flat σ] [D:Deep α σ] {w w0:World} {A F:Nat->Prop} {L:List HP} {v:Value} {xs:List α} {ts us:List σ}
theorem St.toAgr {Φ:World->Prop} (hs:St w0 A (Fw.frz Φ::L) w):∃ F,St w0 A (Fw.frz (Agr F w)::L) w/\∀ w',Agr F w w'->Φ w':=by
 obtain ⟨U,F,U',g1,g2,g3,g4,g5⟩:=hs.seps
 exact ⟨F,⟨hs.chg,U,F,U',⟨λ w' h=>h,g1.2⟩,g2,g3,g4,g5⟩,λ w' h=>g1.1 w' h⟩
theorem Agr.refl (F:Nat->Prop) (w:World):Agr F w w:=λ _ _=>rfl
theorem flat_inj (inj:∀ x y:σ,Flat.enc x=Flat.enc y->x=y):∀ {ts us:List σ},ts.length=us.length->flat ts=flat us->ts=us
 | [],[],_,_=>rfl
 | t::ts,u::us,hl,h=>by
  rw [flat_cons,flat_cons] at h
  have:=List.append_inj h (by rw [Flat.len,Flat.len])
  rw [inj _ _ this.1,flat_inj inj (by simpa using hl) this.2]
 | [],_::_,hl,_=>by simp at hl
 | _::_,[],hl,_=>by simp at hl
theorem RdL.func {S S':Nat->Prop} (inj:∀ x y:σ,Flat.enc x=Flat.enc y->x=y) (h:RdL S w v ts) (h':RdL S' w v us):ts=us:=by
 obtain ⟨a,cap,rfl,hc,h3⟩:=h
 obtain ⟨a',cap',hv,hc',h3'⟩:=h'
 simp only [Value.slice.injEq] at hv
 obtain ⟨rfl,hl,rfl⟩:=hv
 refine flat_inj inj hl (List.ext_getElem? λ j=>?_)
 have hfl:(flat ts).length=(flat us).length:=by rw [flat_length,flat_length,hl]
 by_cases hj:j<(flat ts).length
 ·have hj':j<(flat us).length:=by omega
  rcases h3 with ⟨rfl,_⟩ | ⟨b,o,rfl,_,h5⟩
  ·simp [flat_nil] at hj
  rcases h3' with ⟨rfl,_⟩ | ⟨b',o',ha,_,h5'⟩
  ·simp [flat_nil] at hj'
  simp only [Option.some.injEq,Addr.mk.injEq,and_true] at ha
  obtain ⟨rfl,rfl⟩:=ha
  have c1:=h5 j _ (List.getElem?_eq_getElem hj)
  have c2:=h5' j _ (List.getElem?_eq_getElem hj')
  unfold Cell at c1 c2
  rw [List.getElem?_eq_getElem hj,List.getElem?_eq_getElem hj']
  exact c1.symm.trans c2
 rw [List.getElem?_eq_none (by omega),List.getElem?_eq_none (by omega)]
theorem Agr.rd (h:∀ w',Agr F w w'->DL w' v xs) (hr:RdL (λ _=>True) w v ts) (hn:ts.length=xs.length):∀ w',Agr F w w'->RdL (λ _=>True) w' v ts:=by
 intro w' hw
 have hr0:=hr
 obtain ⟨a,cap,rfl,hc,h3⟩:=hr
 rcases h3 with ⟨h3,h4⟩ | ⟨b,o,rfl,h4,h5⟩
 ·exact ⟨a,cap,rfl,hc,.inl ⟨h3,h4⟩⟩
 cases ts with
 | nil=>exact ⟨_,cap,rfl,hc,.inr ⟨b,o,rfl,λ h=>absurd rfl h,λ j c hj=>by simp [flat_nil] at hj⟩⟩
 | cons t ts=>
  by_cases hF:F b
  ·exact ⟨_,cap,rfl,hc,.inr ⟨b,o,rfl,λ _=>trivial,λ j c hj=>(h5 j c hj).of_eq (hw b hF)⟩⟩
  ·exfalso
   have h6:DL (ChangeMaps.setBlock w b (.map #[] 0)) (.slice (some ⟨b,o,none⟩) (t::ts).length cap) xs:=h _ λ b' hb'=>by
    simp only [ChangeMaps.setBlock]; exact Array.getElem?_setIfInBounds_ne (λ e=>hF (by rw [e]; exact hb'))
   obtain ⟨us,⟨a',cap',hv,_,h7⟩,hul,_⟩:=h6
   simp only [Value.slice.injEq] at hv
   obtain ⟨rfl,hl,rfl⟩:=hv
   have hpos:0<(flat us).length:=by rw [flat_length,<- hl]; exact Nat.mul_pos (by simp) (Flat.pos (α:=σ))
   rcases h7 with ⟨rfl,_⟩ | ⟨b',o',ha,_,h8⟩
   ·simp at hl
   ·simp only [Option.some.injEq,Addr.mk.injEq,and_true] at ha
    obtain ⟨rfl,rfl⟩:=ha
    have hc0:=h8 0 _ (List.getElem?_eq_getElem hpos)
    have hb:=(h5 0 _ (List.getElem?_eq_getElem (by rw [flat_length]; exact Nat.mul_pos (by simp) (Flat.pos (α:=σ))))).lt
    unfold Cell World.cell? at hc0
    dsimp only at hc0
    rw [setBlock_eq _ hb] at hc0
    simp at hc0
theorem Agr.fix (inj:∀ x y:σ,Flat.enc x=Flat.enc y->x=y) (h:∀ w',Agr F w w'->DL w' v xs):∃ ts:List σ,ts.length=xs.length/\∀ w',Agr F w w'->RdL (λ _=>True) w' v ts/\drs ts xs w':=by
 obtain ⟨ts,hr,hd⟩:=(h w (Agr.refl F w)).open
 refine ⟨ts,hd.1,λ w' hw=>?_⟩
 have h1:=Agr.rd h hr hd.1 w' hw
 obtain ⟨us,hr',hd'⟩:=(h w' hw).open
 rw [RdL.func inj h1 hr'] at *
 exact ⟨hr',hd'⟩
end
end Go.Fw
namespace Go.Proofs.YtfkgkbhbdffckaaGreatDoor
open Go.Fw
abbrev PD:=List (Bk × Bool)
def pushD (b:Bk) (e:Bool) (p:PD):PD:=match b with
 | .nil=>p
 | .cons x c d r=>(.cons x c d r,e)::p
def popD:PD->PD
 | (.cons _ _ _ r,_)::p=>pushD r false p
 | (.nil,_)::p=>p
 | []=>[]
def topD:PD->Option (TStmt × Bk × Bk)
 | (.cons x a b _,_)::_=>some (x,a,b)
 | _=>none
def roundD (x:TStmt) (a:Bk) (p:PD):PD:=if x.n=0 then popD p else pushD a false ((.cons {x with n:=x.n - 1} a .nil .nil,true)::popD p)
def leaveD:PD->PD
 | []=>[]
 | (_,e)::p=>if e=true then p else leaveD p
structure DTh where
 names:List ByteArray
 regs:List Int
 pile:PD
 fault:Int
 buf:List TEntry
def valD (t:DTh) (l:List TNode):Int × Bool:=if l.length=0 then (0,true) else ((valN t.names t.regs l).1,decide ((valN t.names t.regs l).2=0))
def setD (t:DTh) (s:ByteArray) (n:Int):DTh:={t with regs:=t.regs.set (placeM t.names s).toNat n}
def goKD (t:DTh) (x:TStmt) (a b:Bk) (n:Int):DTh × Bool:=
 if x.kind=1 then ({setD t x.reg n with pile:=popD t.pile},true)
 else if x.kind=11 then ({t with pile:=pushD (if n=0 then b else a) false (popD t.pile)},true)
 else if x.kind=12 then ({t with pile:=roundD x a t.pile},true)
 else if x.kind=13 then ({t with pile:=leaveD t.pile},true)
 else if x.kind=14 then (if n=0 then ({t with fault:=1},false) else ({t with pile:=popD t.pile},true))
 else (t,false)
def goSD (t:DTh):DTh × Bool:=match topD t.pile with
 | none=>(t,false)
 | some (x,a,b)=>if (valD t x.e).2=true/\(valD t x.f).2=true then goKD t x a b (valD t x.e).1 else ({t with fault:=2},false)
def goFD:Nat->DTh->Option DTh
 | 0,_=>none
 | n+1,t=>if (goSD t).2=true then goFD n (goSD t).1 else some (goSD t).1
def costB:Bk->Nat
 | .nil=>0
 | .cons x a b r=>(if x.kind=12 then x.n.toNat * (costB a+1) else costB a+costB b)+costB r+1
def costP (p:PD):Nat:=(p.map λ q=>costB q.1).sum
theorem costP_cons (q:Bk × Bool) (p:PD):costP (q::p)=costB q.1+costP p:=by simp [costP]
def allB (φ:TStmt->Prop):Bk->Prop
 | .nil=>True
 | .cons x a b r=>φ x/\allB φ a/\allB φ b/\allB φ r
theorem allB_flat {φ:TStmt->Prop}:∀ t:Bk,allB φ t↔∀ x∈t.flat,φ x:=by
 intro t
 induction t with
 | nil=>simp [allB,Bk.flat]
 | cons x a b r iha ihb ihr=>
  simp only [allB,Bk.flat,iha,ihb,ihr,List.mem_cons,List.mem_append]
  grind
structure POk (φ:TStmt->Prop) (p:PD):Prop where
 ne:∀ q∈p,q.1≠.nil
 st:∀ q∈p,q.1.str
 al:∀ q∈p,allB φ q.1
section
variable {φ:TStmt->Prop} {p:PD} {b:Bk} {e:Bool}
theorem POk.tail {q:Bk × Bool} (h:POk φ (q::p)):POk φ p:=⟨λ q hq=>h.ne q (List.mem_cons_of_mem _ hq),λ q hq=>h.st q (List.mem_cons_of_mem _ hq),λ q hq=>h.al q (List.mem_cons_of_mem _ hq)⟩
theorem POk.push (h:POk φ p) (hs:b.str) (ha:allB φ b):POk φ (pushD b e p):=by
 cases b with
 | nil=>exact h
 | cons x c d r=>
  refine ⟨?_,?_,?_⟩ <;> intro q hq <;> rcases List.mem_cons.1 hq with rfl | hq
  ·intro hh; cases hh
  ·exact h.ne q hq
  ·exact hs
  ·exact h.st q hq
  ·exact ha
  ·exact h.al q hq
theorem POk.pop (h:POk φ p):POk φ (popD p):=by
 match p,h with
 | [],h=>exact h
 | (.nil,_)::p,h=>exact h.tail
 | (.cons x a b r,_)::p,h=>
  have hs:=h.st _ (List.mem_cons_self ..)
  have ha:=h.al _ (List.mem_cons_self ..)
  exact h.tail.push hs.2.2.2.2.2.2 ha.2.2.2
theorem POk.leave:∀ {p:PD},POk φ p->POk φ (leaveD p)
 | [],h=>h
 | (_,e)::p,h=>by
  unfold leaveD; split
  ·exact h.tail
  ·exact h.tail.leave
theorem topD_some {x:TStmt} {a b:Bk} (h:topD p=some (x,a,b)):∃ r e p',p=(.cons x a b r,e)::p':=by
 match p,h with
 | (.cons y c d r,e)::p',h=>cases h; exact ⟨r,e,p',rfl⟩
theorem costP_push:costP (pushD b e p)=costB b+costP p:=by
 cases b with
 | nil=>simp [pushD,costB]
 | cons x c d r=>exact costP_cons _ _
theorem leave_le:∀ p:PD,costP (leaveD p)<=costP p
 | []=>Nat.le_refl _
 | (b,e)::p=>by
  have:=leave_le p
  unfold leaveD
  rw [costP_cons]
  split <;> omega
theorem costB_pos (h:b≠.nil):1<=costB b:=by
 cases b with
 | nil=>exact absurd rfl h
 | cons x c d r=>unfold costB; omega
theorem pile_le (h:POk φ p):p.length<=costP p:=by
 induction p with
 | nil=>simp
 | cons q p ih=>
  have:=costB_pos (h.ne q (List.mem_cons_self ..))
  have:=ih h.tail
  rw [costP_cons,List.length_cons]; omega
theorem costB_cons {x:TStmt} {a b r:Bk}:costB (.cons x a b r)=(if x.kind=12 then x.n.toNat * (costB a+1) else costB a+costB b)+costB r+1:=rfl
theorem pop_lt {x:TStmt} {a b r:Bk} {p':PD} (h:p=(.cons x a b r,e)::p'):costP (popD p)+1<=costP p:=by
 subst h
 show costP (pushD r false p')+1<=_
 rw [costP_push,costP_cons,costB_cons]; omega
end
structure DTOk (φ:TStmt->Prop) (t:DTh):Prop where
 p:POk φ t.pile
 rl:t.regs.length=t.names.length
 nb:t.names.length<=1000
 bl:t.buf.length<=1000
 cl:costP t.pile<=10000
structure StD (cs ls ns:List ByteArray) (x:TStmt):Prop where
 k:1<=x.kind/\x.kind<=14
 e:x.e.length<=1000/\x.f.length<=1000
 n:x.kind=12->0<=x.n/\x.n<=1000
 el:¬ x.kind=11->x.els<=0
 rg:x.kind=1\/x.kind=2\/x.kind=4->0<=placeM ns x.reg
 cl:x.kind=2\/x.kind=3\/x.kind=4->0<=placeM cs x.name
 lk:x.kind=9\/x.kind=10->0<=placeM ls x.name
abbrev DOk (cs ls:List ByteArray) (t:DTh):Prop:=DTOk (StD cs ls t.names) t
section
variable {φ:TStmt->Prop} {cs ls:List ByteArray} {t t' tR:DTh} {x:TStmt} {a b:Bk} {n:Int} {k:Nat}
theorem DTOk.pile {p:PD} (h:DTOk φ t) (hp:POk φ p) (hc:costP p<=costP t.pile):DTOk φ {t with pile:=p}:=⟨hp,h.rl,h.nb,h.bl,Nat.le_trans hc h.cl⟩
theorem DTOk.flt (h:DTOk φ t) (n:Int):DTOk φ {t with fault:=n}:=⟨h.p,h.rl,h.nb,h.bl,h.cl⟩
theorem DTOk.set (h:DTOk φ t) (s:ByteArray) (n:Int):DTOk φ (setD t s n):=⟨h.p,by simp [setD,h.rl],h.nb,h.bl,h.cl⟩
theorem DTOk.top (h:DTOk φ t) (ht:topD t.pile=some (x,a,b)):φ x/\a.str/\b.str/\allB φ a/\allB φ b/\x.body=a.len/\x.els=b.len/\a.len<=40/\∃ r e p,t.pile=(.cons x a b r,e)::p/\r.str/\allB φ r:=by
 obtain ⟨r,e,p,hp⟩:=topD_some ht
 have h1:=h.p
 rw [hp] at h1
 obtain ⟨g1,g2,g3,g4,g5,g6,g7⟩:=h1.st _ (List.mem_cons_self ..)
 obtain ⟨k1,k2,k3,k4⟩:=h1.al _ (List.mem_cons_self ..)
 exact ⟨k1,g5,g6,k2,k3,g1,g2,g3,r,e,p,hp,g7,k4⟩
theorem goKD_ok (h:DOk cs ls t) (ht:topD t.pile=some (x,a,b)):DOk cs ls (goKD t x a b n).1/\(goKD t x a b n).1.names=t.names/\((goKD t x a b n).2=true->costP (goKD t x a b n).1.pile+1<=costP t.pile):=by
 obtain ⟨hx,sa,sb,aa,ab,hb,he,hal,r,e,p,hp,sr,ar⟩:=h.top ht
 have hpop:=h.p.pop
 have hlt:=pop_lt (r:=r) hp
 have hcp:costP t.pile=costB (.cons x a b r)+costP p:=by rw [hp,costP_cons]
 have hpp:popD t.pile=pushD r false p:=by rw [hp]; rfl
 have cpp:costP (popD t.pile)=costB r+costP p:=by rw [hpp,costP_push]
 rw [costB_cons] at hcp
 unfold goKD
 split
 ·exact ⟨(h.set x.reg n).pile hpop (by show costP (popD t.pile)<=costP t.pile; omega),rfl,λ _=>hlt⟩
 split
 ·rename_i h12
  rw [if_neg (by omega)] at hcp
  have hc:costP (pushD (if n=0 then b else a) false (popD t.pile))+1<=costP t.pile:=by rw [costP_push]; split <;> omega
  refine ⟨h.pile (POk.push hpop ?_ ?_) (by omega),rfl,λ _=>hc⟩ <;> split <;> assumption
 split
 ·rename_i h12
  rw [if_pos h12] at hcp
  have hxn:=hx.n h12
  have hel:=hx.el (by omega)
  unfold roundD
  split
  ·exact ⟨h.pile hpop (by omega),rfl,λ _=>hlt⟩
  rename_i hn0
  have hco:costP (pushD a false ((.cons {x with n:=x.n - 1} a .nil .nil,true)::popD t.pile))+1<=costP t.pile:=by
   rw [costP_push,costP_cons,costB_cons,if_pos (by exact h12),hcp,cpp]
   have e:x.n.toNat=(x.n - 1).toNat+1:=by omega
   rw [e,Nat.succ_mul]
   show costB a+((x.n - 1).toNat * (costB a+1)+costB .nil+1+_)+1<=_
   simp only [costB]; omega
  refine ⟨h.pile (POk.push ⟨?_,?_,?_⟩ sa aa) (by omega),rfl,λ _=>hco⟩ <;> intro q hq <;> rcases List.mem_cons.1 hq with rfl | hq
  ·intro hh; cases hh
  ·exact hpop.ne q hq
  ·exact ⟨hb,by show x.els=((0:Nat):Int); omega,hal,Nat.zero_le _,sa,trivial,trivial⟩
  ·exact hpop.st q hq
  ·exact ⟨⟨hx.k,hx.e,λ hk=>⟨by have:=hx.n hk; show 0<=x.n - 1; omega,by have:=hx.n hk; show x.n - 1<=1000; omega⟩,hx.el,hx.rg,hx.cl,hx.lk⟩,aa,trivial,trivial⟩
  exact hpop.al q hq
 split
 ·have hl:costP (leaveD t.pile)+1<=costP t.pile:=by
   rw [hcp,hp]; unfold leaveD
   have:=leave_le p
   split <;> omega
  exact ⟨h.pile h.p.leave (by omega),rfl,λ _=>hl⟩
 split
 ·split
  ·exact ⟨h.flt 1,rfl,λ hh=>by cases hh⟩
  exact ⟨h.pile hpop (by omega),rfl,λ _=>hlt⟩
 exact ⟨h,rfl,λ hh=>by cases hh⟩
theorem goSD_ok (h:DOk cs ls t):DOk cs ls (goSD t).1/\(goSD t).1.names=t.names/\((goSD t).2=true->costP (goSD t).1.pile+1<=costP t.pile):=by
 unfold goSD
 cases ht:topD t.pile with
 | none=>exact ⟨h,rfl,λ hh=>by cases hh⟩
 | some q=>
  obtain ⟨x,a,b⟩:=q
  dsimp only
  split
  ·exact goKD_ok h ht
  ·exact ⟨h.flt 2,rfl,λ hh=>by cases hh⟩
theorem goFD_some:∀ (n:Nat) {t:DTh},DOk cs ls t->costP t.pile<n->∃ tR,goFD n t=some tR/\DOk cs ls tR/\tR.names=t.names
 | 0,_,_,hc=>by omega
 | n+1,t,h,hc=>by
  obtain ⟨h1,h2,h3⟩:=goSD_ok h
  unfold goFD
  split
  ·rename_i hs
   have:=h3 hs
   have h4:DOk cs ls (goSD t).1:=by have:=h1; rw [DOk,h2] at this |-; exact this
   obtain ⟨tR,g1,g2,g3⟩:=goFD_some n h4 (by omega)
   exact ⟨tR,g1,g2,g3.trans h2⟩
  ·exact ⟨_,rfl,by have:=h1; rw [DOk,h2] at this |-; exact this,h2⟩
def goD (t:DTh):DTh:=(goFD (costP t.pile+1) t).getD t
theorem goD_spec (h:DOk cs ls t):goFD (costP t.pile+1) t=some (goD t)/\DOk cs ls (goD t)/\(goD t).names=t.names:=by
 obtain ⟨tR,g1,g2,g3⟩:=goFD_some (costP t.pile+1) h (Nat.lt_succ_self _)
 unfold goD
 rw [g1]
 exact ⟨rfl,g2,g3⟩
theorem goFD_succ {n:Nat} (h:goFD n t=some tR):∃ k,n=k+1:=by
 cases n with
 | zero=>cases h
 | succ k=>exact ⟨k,rfl⟩
theorem goFD_go (h:goFD (k+1) t=some tR) (hs:goSD t=(t',true)):goFD k t'=some tR:=by
 unfold goFD at h; rw [hs] at h; exact h
theorem goFD_end (h:goFD (k+1) t=some tR) (hs:goSD t=(t',false)):tR=t':=by
 unfold goFD at h; rw [hs] at h; exact (Option.some.inj h).symm
theorem goFD_st:∀ (n:Nat) {t tR:DTh},goFD n t=some tR->DOk cs ls t->tR.fault=0->∀ x a b,topD tR.pile=some (x,a,b)->(2<=x.kind/\x.kind<=10)/\(valD tR x.e).2=true/\(valD tR x.f).2=true
 | 0,_,_,hg,_,_,_,_,_,_=>by cases hg
 | n+1,t,tR,hg,h,hf,x,a,b,ht=>by
  obtain ⟨h1,h2,_⟩:=goSD_ok h
  unfold goFD at hg
  split at hg
  ·exact goFD_st n hg (by have:=h1; rw [DOk,h2] at this |-; exact this) hf x a b ht
  ·rename_i hs
   cases hg
   have hb:(goSD t).2=false:=by simpa using hs
   unfold goSD at hb hf ht
   cases hq:topD t.pile with
   | none=>rw [hq] at ht; dsimp only at ht; rw [hq] at ht; cases ht
   | some q=>
    obtain ⟨y,c,d⟩:=q
    rw [hq] at hb hf ht
    dsimp only at hb hf ht
    have hk:=(h.top hq).1.k
    split at hb
    ·rename_i hv
     rw [if_pos hv] at hf ht
     unfold goKD at hb hf ht
     split at hb
     ·cases hb
     rename_i k1
     rw [if_neg k1] at hf ht
     split at hb
     ·cases hb
     rename_i k2
     rw [if_neg k2] at hf ht
     split at hb
     ·cases hb
     rename_i k3
     rw [if_neg k3] at hf ht
     split at hb
     ·cases hb
     rename_i k4
     rw [if_neg k4] at hf ht
     split at hb
     ·rename_i k5
      rw [if_pos k5] at hf
      split at hb
      ·rename_i k6; rw [if_pos k6] at hf; cases hf
      ·cases hb
     ·rename_i k5
      rw [if_neg k5] at ht
      rw [hq] at ht; cases ht
      have e:(goSD t).1=t:=by unfold goSD; rw [hq]; dsimp only; rw [if_pos hv]; unfold goKD; rw [if_neg k1,if_neg k2,if_neg k3,if_neg k4,if_neg k5]
      rw [e]
      exact ⟨by omega,hv⟩
    ·rename_i hv
     rw [if_neg hv] at hf; cases hf
section
variable {e:Int}
theorem goKD_1 (h:x.kind=1):goKD t x a b e=({setD t x.reg e with pile:=popD t.pile},true):=by unfold goKD; rw [if_pos h]
theorem goKD_11 (h:x.kind=11):goKD t x a b e=({t with pile:=pushD (if e=0 then b else a) false (popD t.pile)},true):=by unfold goKD; simp [h]
theorem goKD_12 (h:x.kind=12):goKD t x a b e=({t with pile:=roundD x a t.pile},true):=by unfold goKD; simp [h]
theorem goKD_13 (h:x.kind=13):goKD t x a b e=({t with pile:=leaveD t.pile},true):=by unfold goKD; simp [h]
theorem goKD_14a (h:x.kind=14) (he:e=0):goKD t x a b e=({t with fault:=1},false):=by unfold goKD; simp [h,he]
theorem goKD_14b (h:x.kind=14) (he:¬ e=0):goKD t x a b e=({t with pile:=popD t.pile},true):=by unfold goKD; simp [h,he]
theorem goKD_no (h1:¬ x.kind=1) (h2:¬ x.kind=11) (h3:¬ x.kind=12) (h4:¬ x.kind=13) (h5:¬ x.kind=14):goKD t x a b e=(t,false):=by unfold goKD; rw [if_neg h1,if_neg h2,if_neg h3,if_neg h4,if_neg h5]
end
theorem goSD_n (h:topD t.pile=none):goSD t=(t,false):=by unfold goSD; rw [h]
theorem goSD_e (h:topD t.pile=some (x,a,b)) (h2:(valD t x.e).2=false):goSD t=({t with fault:=2},false):=by unfold goSD; rw [h]; dsimp only; rw [if_neg (by rw [h2]; simp)]
theorem goSD_f (h:topD t.pile=some (x,a,b)) (h3:(valD t x.f).2=false):goSD t=({t with fault:=2},false):=by unfold goSD; rw [h]; dsimp only; rw [if_neg (by rw [h3]; simp)]
theorem goSD_k (h:topD t.pile=some (x,a,b)) (h2:(valD t x.e).2=true) (h3:(valD t x.f).2=true):goSD t=goKD t x a b (valD t x.e).1:=by unfold goSD; rw [h]; dsimp only; rw [if_pos ⟨h2,h3⟩]
end
theorem bld183_0_1 (a0:Option Addr) (n0 c0:Nat) (a1:Bool):pr Tryz.prog (Instr.build 183 [(0,.slice a0 n0 c0),(1,.bool a1)].toArray)=some (.agg [.slice a0 n0 c0,.bool a1].toArray):=by kernel_rfl
structure TPartV where
 l:SV
 entered:Bool
instance:Flat TPartV where
 agg:=true
 sz:=2
 enc e:=[.slice e.l.a e.l.n e.l.cap,.bool e.entered]
 val e:=.agg [.slice e.l.a e.l.n e.l.cap,.bool e.entered].toArray
 pos:=by decide
 len _:=rfl
 one a v h:=by simp at h; rcases h with rfl | rfl <;> rfl
 vagg _ _:=rfl
 vone h:=by cases h
variable (w:World) (K:Value->World->Prop)
def S72 (t0 l1 entered2:Value):Prop:=
 lN 27 l1 λ a=>bB .gtr 3 a (i 0) λ b=>cV b (nC t0 λ c=>fA 97 c 3 λ d=>lA 95 d w λ e=>Pop Tryz.prog (Instr.build 183 [(0,l1),(1,entered2)].toArray) λ f=>bS 95 1 [(0,f)] w λ g h=>
 aP 95 e g h λ j k=>nC t0 λ l=>fA 97 l 3 λ n=>sA 95 n j k λ o=>K (.tuple #[]) o) (K (.tuple #[]) w)
theorem S72_ok (t0 l1 entered2:Value) (h:S72 w K t0 l1 entered2):CR 72 [t0,l1,entered2] w K:=
 okG 21 (λ _=>.nil) 0 [] Tryz.func72 h
def S80 (t0:Value):Prop:=
 aL 24 w λ a b=>nC t0 λ c=>fA 97 c 3 λ d=>lA 95 d b λ e=>lN 95 e λ f=>bB .eql 3 f (i 0) λ g=>cV g (Pop Tryz.prog (Instr.build 24 [].toArray) λ h=>sA 24 a h b λ j=>
 lA 24 a j λ r=>K (.tuple #[r,(.slice none 0 0),(.slice none 0 0),ff]) j) (nC t0 λ k=>fA 97 k 3 λ l=>lA 95 l (drew b) λ n=>nC t0 λ o=>fA 97 o 3 λ p=>lA 95 p (drew b) λ q=>
 lN 95 q λ s=>bB .sub 3 s (i 1) λ t=>iA 95 n t λ u=>fA 183 u 0 λ v=>lA 27 v (drew b) λ x=>iA 27 x (i 0) λ y=>lA 24 y (drew b) λ z=>aL 24 (drew b) λ aa ab=>sA 24 aa z ab λ ac=>
 fA 24 aa 6 λ ad=>lA 3 ad ac λ ae=>bC .add 3 (i 1) ae λ af=>fA 24 aa 7 λ ag=>lA 3 ag ac λ ah=>bA .add 3 af ah λ ai=>lA 24 aa (drew ac) λ aj=>Pop Tryz.prog (Instr.sliceAt 27 x (some (i 1)) (some af) (some af)) λ ak=>
 Pop Tryz.prog (Instr.sliceAt 27 x (some af) (some ai) (some ai)) λ al=>sA 24 a aj (drew ac) λ am=>lA 24 a am λ r_1=>K (.tuple #[r_1,ak,al,tt]) am)
def P80:Plans:=λ i=>match i with
 | 3=>.run 0 14
 | 7=>.run 0 14
 | _=>.nil
theorem S80_ok (t0:Value) (h:S80 w K t0):CR 80 [t0] w K:=
 okG 50 P80 60 [.cell 2 24,.tmp 3,.tmp 4,.tmp 5] Tryz.func80 h
def S86 (t0:Value):Prop:=
 nC t0 λ a=>fA 97 a 3 λ b=>lA 95 b w λ c=>lN 95 c λ d=>bB .sub 3 d (i 1) λ e=>nC t0 λ f=>fA 97 f 3 λ g=>lA 95 g w λ h=>iA 95 h e λ j=>fA 183 j 0 λ k=>
 lA 27 k w λ l=>nC t0 λ n=>fA 97 n 3 λ o=>lA 95 o w λ p=>Pop Tryz.prog (Instr.sliceAt 95 p none (some e) (some e)) λ q=>nC t0 λ r=>fA 97 r 3 λ s=>sA 95 s q w λ t=>
 iA 27 l (i 0) λ u=>fA 24 u 6 λ v=>lA 3 v (drew t) λ x=>bC .add 3 (i 1) x λ y=>iA 27 l (i 0) λ z=>fA 24 z 7 λ aa=>lA 3 aa (drew t) λ ab=>bA .add 3 y ab λ ac=>
 Pop Tryz.prog (Instr.sliceAt 27 l (some ac) none none) λ ad=>cF 72 [t0,ad,ff] (drew t) λ _ ae=>K (.tuple #[]) ae
def P86:Plans:=λ i=>match i with
 | 3=>.run 0 14
 | _=>.nil
theorem S86_ok (t0:Value) (h:S86 w K t0):CR 86 [t0] w K:=
 okG 42 P86 0 [] Tryz.func86 h
def S134 (t0 a body2:Value):Prop:=
 Eop Tryz.prog (Instr.box 24 a) w λ b c=>cF 86 [t0] c λ _ d=>fA 24 b 5 λ e=>lA 3 e d λ f=>bB .eql 3 f (i 0) λ g=>cV g (K (.tuple #[]) d) (lA 24 b d λ h=>bS 27 1 [(0,h)] d λ j k=>
 aP 27 j body2 k λ l n=>iA 27 l (i 0) λ o=>fA 24 o 5 λ p=>lA 3 p n λ q=>bB .sub 3 q (i 1) λ r=>iA 27 l (i 0) λ s=>fA 24 s 5 λ t=>sA 3 t r n λ u=>cF 72 [t0,l,tt] u λ _ v=>
 cF 72 [t0,body2,ff] v λ _ x=>K (.tuple #[]) x)
theorem S134_ok (t0 x1 body2:Value) (h:S134 w K t0 x1 body2):CR 134 [t0,x1,body2] w K:=
 okG 29 (λ _=>.nil) 0 [] Tryz.func134 h
def S135 (t0:Value):Prop:=
 Loop1 (λ K1 entered2 a=>∀ _:Env,
 Join1 (λ K2=>Pop Tryz.prog (Op.unary .not entered2) λ b=>cV b (nC t0 λ c=>fA 97 c 3 λ d=>lA 95 d a λ e=>lN 95 e λ f=>bB .gtr 3 f (i 0) λ g=>K2 g a) (K2 ff a))
 (λ h j=>∀ _:Env,
 cV h (nC t0 λ k=>fA 97 k 3 λ l=>lA 95 l j λ n=>lN 95 n λ o=>bB .sub 3 o (i 1) λ p=>nC t0 λ q=>fA 97 q 3 λ r=>lA 95 r j λ s=>iA 95 s p λ t=>fA 183 t 1 λ u=>
 lA 4 u j λ v=>nC t0 λ x=>fA 97 x 3 λ y=>lA 95 y j λ z=>Pop Tryz.prog (Instr.sliceAt 95 z none (some p) (some p)) λ aa=>nC t0 λ ab=>fA 97 ab 3 λ ac=>sA 95 ac aa j λ ad=>
 K1 v ad) (K (.tuple #[]) j))) (λ K1=>K1 ff w)
theorem S135_ok (t0:Value) (h:S135 w K t0):CR 135 [t0] w K:=
 okG 38 (λ _=>.nil) 0 [] Tryz.func135 h
def S83 (t0 l1:Value):Prop:=
 lN 22 l1 λ a=>bB .eql 3 a (i 0) λ b=>cV b (K (.tuple #[(i 0),tt]) w) (nC t0 λ c=>fA 97 c 1 λ d=>lA 32 d (drew w) λ e=>nC t0 λ f=>fA 97 f 2 λ g=>lA 45 g (drew w) λ h=>
 cF 99 [l1,e,h] (drew w) λ j k=>xT j 0 λ l=>xT j 1 λ n=>Join0 (λ K1=>bB .neq 29 n (i 0) λ o=>cV o (nC t0 λ p=>fA 97 p 4 λ q=>sA 3 q (i 2) k λ r=>K1 r) (K1 k))
 (λ s=>∀ _:Env,
 bB .eql 29 n (i 0) λ t=>K (.tuple #[l,t]) s))
def P83:Plans:=λ i=>match i with
 | 3=>.run 0 15
 | _=>.nil
theorem S83_ok (t0 l1:Value) (h:S83 w K t0 l1):CR 83 [t0,l1] w K:=
 okG 32 P83 48 [.tmp 4,.tmp 5] Tryz.func83 h
def S73 (t0:Value):Prop:=
 Loop0 (λ K1 a=>∀ _:Env,
 cF 80 [t0] a λ b c=>xT b 0 λ d=>xT b 1 λ e=>xT b 2 λ f=>xT b 3 λ g=>aL 24 c λ h j=>sA 24 h d j λ k=>Pop Tryz.prog (Op.unary .not g) λ l=>cV l (K (.tuple #[]) k) (
 fA 24 h 3 λ n=>lA 22 n k λ o=>cF 83 [t0,o] k λ p q=>xT p 0 λ r=>xT p 1 λ s=>Pop Tryz.prog (Op.unary .not s) λ t=>cV t (K (.tuple #[]) q) (fA 24 h 4 λ u=>lA 22 u q λ v=>
 cF 83 [t0,v] q λ x y=>xT x 0 λ _=>xT x 1 λ z=>Pop Tryz.prog (Op.unary .not z) λ aa=>cV aa (K (.tuple #[]) y) (fA 24 h 0 λ ab=>lA 3 ab y λ ac=>bB .eql 3 ac (i 1) λ ad=>
 cV ad (nC t0 λ ae=>fA 97 ae 2 λ af=>lA 45 af (drew y) λ ag=>nC t0 λ ah=>fA 97 ah 1 λ ai=>lA 32 ai (drew y) λ aj=>fA 24 h 1 λ ak=>lA 9 ak (drew y) λ al=>cF 81 [aj,al] (drew y) λ am an=>
 kA 45 af ag an (iA 45 ag am λ ao=>sA 3 ao r an λ ap=>cF 86 [t0] ap λ _ aq=>K1 aq)) (bB .eql 3 ac (i 11) λ ar=>cV ar (cF 86 [t0] y λ _ asx=>Join1 (λ K2=>bB .eql 3 r (i 0) λ au=>
 cV au (K2 f asx) (K2 e asx)) (λ body3 av=>∀ _:Env,
 cF 72 [t0,body3,ff] av λ _ aw=>K1 aw)) (bB .eql 3 ac (i 12) λ ax=>cV ax (lA 24 h y λ ay=>cF 134 [t0,ay,e] y λ _ az=>K1 az) (bB .eql 3 ac (i 13) λ a0=>cV a0 (cF 135 [t0] y λ _ a1=>
 K1 a1) (bB .eql 3 ac (i 14) λ a2=>cV a2 (bB .eql 3 r (i 0) λ a3=>cV a3 (nC t0 λ a4=>fA 97 a4 4 λ a5=>sA 3 a5 (i 1) y λ a6=>K (.tuple #[]) a6) (cF 86 [t0] y λ _ a7=>
 K1 a7)) (K (.tuple #[]) y))))))))) (λ K1=>K1 w)
def P73:Plans:=λ i=>match i with
 | 8=>(.of [(0,[]),(1,[]),(2,[]),(3,[]),(4,[]),(5,[]),(6,[]),(7,[]),(8,[]),(9,[]),(11,[]),(10,[3]),(12,[]),(13,[])])
 | _=>.nil
theorem S73_ok (t0:Value) (h:S73 w K t0):CR 73 [t0] w K:=
 okG 83 P73 0 [] Tryz.func73 h
def S38 (t0:Value):Prop:=
 nC t0 λ a=>fA 97 a 0 λ b=>lA 74 b w λ c=>cF 87 [c] w λ d e=>lN 135 d λ f=>bB .eql 3 f (i 0) λ g=>K g e
theorem S38_ok (t0:Value) (h:S38 w K t0):CR 38 [t0] w K:=
 okG 10 (λ _=>.nil) 4 [.tmp 2] Tryz.func38 h
theorem pl72:PL 72:=plE Tryz.func72
theorem pl80:PL 80:=plE Tryz.func80
theorem pl86:PL 86:=plE Tryz.func86
theorem pl134:PL 134:=plE Tryz.func134
theorem pl135:PL 135:=plE Tryz.func135
theorem pl83:PL 83:=plE Tryz.func83
theorem pl73:PL 73:=plE Tryz.func73
theorem pl38:PL 38:=plE Tryz.func38
end Go.Proofs.YtfkgkbhbdffckaaGreatDoor
namespace Go.Fw
section
variable {P:Program} {w w0:World} {A S:Nat->Prop} {L:List HP}
theorem pr_boundsM {n cap l h m:Nat} {lo hi mx:Option Value} (hl:lo=none/\l=0\/∃ i:Int,lo=some (.int .i64 i)/\0<=i/\l=i.toNat) (hh:∃ i:Int,hi=some (.int .i64 i)/\0<=i/\h=i.toNat) (hm:∃ i:Int,mx=some (.int .i64 i)/\0<=i/\m=i.toNat)
  (h1:l<=h) (h2:h<=m) (h3:m<=cap):pr P (Instr.sliceBounds true n cap lo hi mx)=some (l,h,m):=by
 obtain ⟨j,rfl,hj,rfl⟩:=hh
 obtain ⟨k,rfl,hk,rfl⟩:=hm
 rcases hl with ⟨rfl,rfl⟩ | ⟨i,rfl,h0,rfl⟩ <;> simp only [Instr.sliceBounds,pr_bind,pr_pure,Option.bind_some]
 ·rw [pr_bound hk (by omega)]; simp only [Option.bind_some]; rw [pr_bound hj (by omega)]; rfl
 rw [pr_bound hk (by omega)]; simp only [Option.bind_some]; rw [pr_bound hj (by omega)]; simp only [Option.bind_some]; rw [pr_bound h0 (by omega)]; rfl
theorem pr_cutM {T E sz by':Nat} {z:Option Nat} {a:Option Addr} {n cap l h m:Nat} {lo hi mx:Option Value} (ht:slFact P T=some (E,sz,by',z))
  (hb:pr P (Instr.sliceBounds true n cap lo hi mx)=some (l,h,m)) :
  pr P (Instr.sliceAt T (.slice a n cap) lo hi mx)=some (.slice (if m=l then a else a.map (·.add (l * sz))) (h - l) (m - l)):=by
 obtain ⟨hu,inf,hi',hsz,_⟩:=slFact_spec ht
 unfold Instr.sliceAt
 rw [pr_bind,pr_underlying hu]
 simp only [Option.bind_some]
 unfold Instr.slice
 rw [pr_bind,pr_underlying hu]
 simp only [Option.bind_some]
 rw [pr_bind,hb]
 simp only [Option.bind_some]
 rw [pr_bind,pr_sizeOf hi',hsz]
 rfl
variable {α:Type} [Flat α] {xs:List α}
theorem RdL.cutM {v:Value} {a:Option Addr} {n cap l h:Nat} (hv:v = .slice a n cap) (hr:RdL S w v xs) (h1:l<=h) (h2:h<=xs.length) :
  RdL S w (.slice (if h=l then a else a.map (·.add (l * Flat.sz α))) (h - l) (h - l)) ((xs.take h).drop l):=by
 obtain ⟨a',cap',hv',hcap,h3⟩:=hr
 rw [hv'] at hv
 simp only [Value.slice.injEq] at hv
 obtain ⟨rfl,hn,rfl⟩:=hv
 have hlen:((xs.take h).drop l).length=h - l:=by simp; omega
 rcases h3 with ⟨hxs,hc0⟩ | ⟨b,o,rfl,h4,h5⟩
 ·subst hxs
  exact ⟨_,h - l,by rw [hlen],by simp,.inl ⟨by simp,by simp at h2; omega⟩⟩
 refine ⟨_,h - l,by rw [hlen],by rw [hlen]; exact Nat.le_refl _,.inr ?_⟩
 have hne:(xs.take h).drop l≠[]->xs≠[]:=λ hh hx=>hh (by rw [hx]; simp)
 by_cases hh:h=l
 ·rw [if_pos hh]
  refine ⟨b,o,rfl,λ hx=>h4 (hne hx),λ j c hj=>?_⟩
  have:((xs.take h).drop l)=[]:=by rw [<- List.length_eq_zero_iff,hlen]; omega
  rw [this] at hj; simp [flat_nil] at hj
 rw [if_neg hh]
 refine ⟨b,o+l * Flat.sz α,by simp [add_none],λ hx=>h4 (hne hx),λ j c hj=>?_⟩
 rw [flat_drop,flat_take,List.getElem?_drop,List.getElem?_take] at hj
 split at hj
 ·have:=h5 _ c hj
  rwa [show o+(l * Flat.sz α+j)=o+l * Flat.sz α+j from by omega] at this
 cases hj
theorem pop_cutM {T E by':Nat} {z:Option Nat} {v:Value} {i j:Int} {K:Value->Prop} (ht:slFact P T=some (E,Flat.sz α,by',z)) (hr:RdL S w v xs)
  (h0:0<=i) (h1:i<=j) (h2:j<=xs.length) (k:∀ v',(∀ w' (ys:List α),RdL S w' v ys->RdL S w' v' ((ys.take j.toNat).drop i.toNat))->K v'):Pop P (Instr.sliceAt T v (some (.int .i64 i)) (some (.int .i64 j)) (some (.int .i64 j))) K:=by
 obtain ⟨a,cap,rfl,hcap,h3⟩:=hr
 refine ⟨_,pr_cutM ht (pr_boundsM (.inr ⟨i,rfl,h0,rfl⟩) ⟨j,rfl,by omega,rfl⟩ ⟨j,rfl,by omega,rfl⟩ (by omega) (Nat.le_refl _) (by omega)),k _ λ w' ys hw=>hw.cutM rfl (by omega) ?_⟩
 obtain ⟨_,_,h4,_⟩:=hw
 simp only [Value.slice.injEq] at h4
 omega
theorem pop_cutLoG {T E by':Nat} {z:Option Nat} {v:Value} {i:Int} {K:Value->Prop} (ht:slFact P T=some (E,Flat.sz α,by',z)) (hr:RdL S w v xs)
  (h0:0<=i) (h2:i<=xs.length) (k:∀ v',(∀ w' (ys:List α),RdL S w' v ys->RdL S w' v' (ys.drop i.toNat))->K v'):Pop P (Instr.sliceAt T v (some (.int .i64 i)) none none) K:=by
 obtain ⟨a,cap,rfl,hcap,h3⟩:=hr
 refine ⟨_,pr_cut ht (pr_bounds (.inr ⟨i,rfl,h0,rfl⟩) (.inl ⟨rfl,rfl⟩) (by omega) (by omega)),k _ λ w' ys hw=>?_⟩
 have hl:ys.length=xs.length:=by
  obtain ⟨_,_,h4,_⟩:=hw
  simp only [Value.slice.injEq] at h4
  omega
 have:=hw.cut rfl (show i.toNat<=ys.length by omega) (Nat.le_refl _)
 rw [List.take_length,hl] at this; exact this
theorem pop_ownCutM {T E by':Nat} {z:Option Nat} {v:Value} {i:Int} {K:Value->Prop} (ht:slFact P T=some (E,Flat.sz α,by',z))
  (hs:St w0 A (ownL v xs::L) w) (h0:0<=i) (h1:i<=xs.length) (k:∀ v',St w0 A (ownL v' (xs.take i.toNat)::L) w->K v'):Pop P (Instr.sliceAt T v none (some (.int .i64 i)) (some (.int .i64 i))) K:=by
 obtain ⟨a,cap,hv,hcap,_⟩:=hs.rd'
 refine ⟨_,(by rw [hv]; exact pr_cutM ht (pr_boundsM (.inl ⟨rfl,rfl⟩) ⟨i,rfl,h0,rfl⟩ ⟨i,rfl,h0,rfl⟩ (Nat.zero_le _) (Nat.le_refl _) (by omega))),k _ ?_⟩
 refine hs.turn λ F hF=>?_
 rcases hF with ⟨hv0,hx,hno⟩ | ⟨b,cap',rest,hv',hb,hl,hF⟩
 ·rw [hv0] at hv
  subst hx
  simp only [Value.slice.injEq] at hv
  obtain ⟨rfl,_,rfl⟩:=hv
  have hi:i.toNat=0:=by simp at h1; omega
  refine ⟨F,.inl ⟨?_,by simp,hno⟩,λ b hb=>.inl hb,Chg.refl _ _⟩
  rw [hi]; rfl
 rw [hv'] at hv
 simp only [Value.slice.injEq] at hv
 obtain ⟨rfl,_,rfl⟩:=hv
 have hl2:(xs.take i.toNat).length=i.toNat:=by rw [List.length_take]; omega
 refine ⟨F,.inr ⟨b,i.toNat,flat (xs.drop i.toNat)++rest,?_,?_,⟨by omega,?_⟩,hF⟩,λ b hb=>.inl hb,Chg.refl _ _⟩
 ·rw [hl2]
  simp [add_none]
 ·rw [<- List.append_assoc,<- flat_append,List.take_append_drop]; exact hb
 rw [List.length_append,flat_length,hl2]; omega
end
end Go.Fw
namespace Go.Proofs.YtfkgkbhbdffckaaGreatDoor
open Go.Fw
def SlK (K:World->Prop) (sv:SV) (rows:List TStmtV) (l:List TStmt) (w:World):Prop:=(∀ w',K w'->drs rows l w')/\(K w->RdL (λ _=>True) w (Flat.val sv) rows)
abbrev PE:=List (TPartV × List TStmtV)
def PRd (K:World->Prop) (w:World):PE->PD->Prop
 | [],[]=>True
 | e::es,q::p=>(e.1.entered=q.2/\SlK K e.1.l e.2 q.1.flat w)/\PRd K w es p
 | _,_=>False
def peV (es:PE):List TPartV:=(es.map Prod.fst).reverse
theorem peV_cons (e:TPartV × List TStmtV) (es:PE):peV (e::es)=peV es++[e.1]:=by simp [peV]
theorem peV_len (es:PE):(peV es).length=es.length:=by simp [peV]
theorem PRd.len {K:World->Prop} {w:World}:∀ {es:PE} {p:PD},PRd K w es p->es.length=p.length
 | [],[],_=>rfl
 | e::es,q::p,h=>by have:=PRd.len h.2; simp [this]
 | [],_::_,h=>h.elim
 | _::_,[],h=>h.elim
def dthX (K Φ:World->Prop) (p:Nat) (room:Int) (t:DTh):HP:=exH λ bp:Nat=>exH λ nv:SV=>exH λ rg=>exH λ pl=>exH λ es:PE=>fact (∀ w,K w->RdL (λ _=>True) w (Flat.val nv) t.names)
 (sep (blk p [.pointer (some ⟨bp,0,none⟩),Flat.val nv,rg,pl,.int .i64 t.fault]) (sep (bufO bp room t.buf) (sep (ownL rg t.regs) (sep (ownL pl (peV es)) (frz λ w=>PRd K w es t.pile/\Φ w)))))
abbrev dthB (K:World->Prop) (p:Nat) (room:Int) (t:DTh):HP:=dthX K (λ _=>True) p room t
section
variable {w w0:World} {A:Nat->Prop} {R:List HP} {p:Nat} {K Φ Ψ:World->Prop} {room:Int} {t:DTh}
theorem sep5_openD {H1 H2 H3 H4 H5:HP} (hs:St w0 A (sep H1 (sep H2 (sep H3 (sep H4 H5)))::R) w):St w0 A (H1::H2::H3::H4::H5::R) w:=by
 have h1:=hs.split
 have h2:=h1.p1.split
 have h3:=h2.p1.split
 have h4:=h3.p1.split
 exact h4.p2.p3.p4
theorem sep5_shutD {H1 H2 H3 H4 H5:HP} (hs:St w0 A (H1::H2::H3::H4::H5::R) w):St w0 A (sep H1 (sep H2 (sep H3 (sep H4 H5)))::R) w:=by
 have h4:=St.join (hs.p4.p4)
 have h3:=St.join h4.p3
 have h2:=St.join h3.p2
 exact St.join h2.p1
abbrev dcellsT (bp:Nat) (nv:SV) (rg pl:Value) (f:Int):List Value:=[.pointer (some ⟨bp,0,none⟩),Flat.val nv,rg,pl,.int .i64 f]
theorem dthX.open (hs:St w0 A (dthX K Φ p room t::R) w):∃ bp nv rg pl es,(∀ w,K w->RdL (λ _=>True) w (Flat.val nv) t.names)/\
  St w0 A (blk p (dcellsT bp nv rg pl t.fault)::bufO bp room t.buf::ownL rg t.regs::ownL pl (peV es)::frz (λ w=>PRd K w es t.pile/\Φ w)::R) w:=by
 obtain ⟨bp,hs⟩:=hs.openEx; obtain ⟨nv,hs⟩:=hs.openEx; obtain ⟨rg,hs⟩:=hs.openEx; obtain ⟨pl,hs⟩:=hs.openEx; obtain ⟨es,hs⟩:=hs.openEx; obtain ⟨hk,hs⟩:=hs.openF
 exact ⟨bp,nv,rg,pl,es,hk,sep5_openD hs⟩
theorem dthX.shut {bp:Nat} {nv:SV} {rg pl:Value} {es:PE} (hk:∀ w,K w->RdL (λ _=>True) w (Flat.val nv) t.names)
  (hs:St w0 A (blk p (dcellsT bp nv rg pl t.fault)::bufO bp room t.buf::ownL rg t.regs::ownL pl (peV es)::frz (λ w=>PRd K w es t.pile/\Φ w)::R) w):St w0 A (dthX K Φ p room t::R) w:=
 St.shutEx bp (St.shutEx nv (St.shutEx rg (St.shutEx pl (St.shutEx es (St.shutF hk (sep5_shutD hs))))))
theorem dthX.mono (hs:St w0 A (dthX K Φ p room t::R) w) (h:∀ w,Φ w->Ψ w):St w0 A (dthX K Ψ p room t::R) w:=by
 obtain ⟨bp,nv,rg,pl,es,hk,hs⟩:=dthX.open hs
 have h1:=(hs.p4).frzMono (Ψ:=λ w=>PRd K w es t.pile/\Ψ w) λ w hh=>⟨hh.1,h w hh.2⟩
 exact dthX.shut hk h1.p4.p4.p4.p4
theorem dthX.now (hs:St w0 A (dthX K Φ p room t::R) w):Φ w:=by
 obtain ⟨bp,nv,rg,pl,es,hk,hs⟩:=dthX.open hs
 exact (hs.p4).frz.2
theorem dthX.rd (h:Has (dthX K Φ p room t) w):∃ bp nv rg pl es,(∀ w,K w->RdL (λ _=>True) w (Flat.val nv) t.names)/\Blk w p (dcellsT bp nv rg pl t.fault)/\BufR w bp room t.buf/\RdL (λ _=>True) w rg t.regs/\RdL (λ _=>True) w pl (peV es)/\PRd K w es t.pile/\Φ w:=by
 obtain ⟨F,hs⟩:=h.st
 obtain ⟨bp,nv,rg,pl,es,hk,hs⟩:=dthX.open hs
 exact ⟨bp,nv,rg,pl,es,hk,hs.hb,bufR_of hs.p1,hs.p2.rd',hs.p3.rd',hs.p4.frz.1,hs.p4.frz.2⟩
theorem dr_stmt {xv:TStmtV} {x:TStmt} (h:Deep.dr w xv x):∃ ge gf:SV,xv=⟨x.kind,x.reg,x.name,ge,gf,x.n,x.body,x.els,x.at_⟩/\RdL (λ _=>True) w (Flat.val ge) x.e/\RdL (λ _=>True) w (Flat.val gf) x.f:=by
 obtain ⟨ge,gf,h1,h2,h3⟩:=h
 exact ⟨ge,gf,h1,DL.flat h2,DL.flat h3⟩
theorem drs.cut {rows:List TStmtV} {l:List TStmt} {i j:Nat} (h:drs rows l w):drs ((rows.take j).drop i) ((l.take j).drop i) w:=(h.take j).drop i
theorem cutA {x:TStmt} {a b r:Bk} (h:(Bk.cons x a b r).str) {j:Int} (hj:j=1+x.body):(((Bk.cons x a b r).flat.take j.toNat).drop (1:Int).toNat)=a.flat:=by
 obtain ⟨g1,_⟩:=h
 have la:=a.flat_len
 rw [cut_at _ (a:=1) (c:=(1:Int).toNat) (n:=a.flat.length) (by omega) rfl]
 show (a.flat++(b.flat++r.flat)).take _=_
 rw [List.take_left]
theorem cutB {x:TStmt} {a b r:Bk} (h:(Bk.cons x a b r).str) {i j:Int} (hi:i=1+x.body) (hj:j=1+x.body+x.els):(((Bk.cons x a b r).flat.take j.toNat).drop i.toNat)=b.flat:=by
 obtain ⟨g1,g2,_⟩:=h
 have la:=a.flat_len
 have lb:=b.flat_len
 rw [cut_at _ (a:=1+a.flat.length) (n:=b.flat.length) (by omega) (by omega),<- List.drop_drop]
 show ((a.flat++(b.flat++r.flat)).drop _).take _=_
 rw [List.drop_left,List.take_left]
theorem SlK.cut {sv sv':SV} {rows:List TStmtV} {l:List TStmt} {i j:Nat} (h:SlK K sv rows l w) (hc:∀ w' (ys:List TStmtV),RdL (λ _=>True) w' (Flat.val sv) ys->RdL (λ _=>True) w' (Flat.val sv') ((ys.take j).drop i)):SlK K sv' ((rows.take j).drop i) ((l.take j).drop i) w:=
 ⟨λ w' hw=>drs.cut (h.1 w' hw),λ hw=>hc _ _ (h.2 hw)⟩
theorem SlK.cutLo {sv sv':SV} {rows:List TStmtV} {l:List TStmt} {i:Nat} (h:SlK K sv rows l w) (hc:∀ w' (ys:List TStmtV),RdL (λ _=>True) w' (Flat.val sv) ys->RdL (λ _=>True) w' (Flat.val sv') (ys.drop i)):SlK K sv' (rows.drop i) (l.drop i) w:=
 ⟨λ w' hw=>(h.1 w' hw).drop i,λ hw=>hc _ _ (h.2 hw)⟩
theorem PRd.top {es:PE} {q:Bk × Bool} {p:PD} (h:PRd K w es (q::p)):∃ sv rows es',es=(⟨sv,q.2⟩,rows)::es'/\SlK K sv rows q.1.flat w/\PRd K w es' p:=by
 match es,h with
 | [],h=>exact h.elim
 | e::es,h=>
  obtain ⟨⟨sv,en⟩,rows⟩:=e
  obtain ⟨⟨h1,h2⟩,h3⟩:=h
  cases h1
  exact ⟨sv,rows,es,rfl,h2,h3⟩
theorem PRd.cons {sv:SV} {e:Bool} {rows:List TStmtV} {es:PE} {q:Bk × Bool} {p:PD} (h:PRd K w ((⟨sv,e⟩,rows)::es) (q::p)):SlK K sv rows q.1.flat w/\PRd K w es p:=⟨h.1.2,h.2⟩
theorem peV_last {e:TPartV × List TStmtV} {es:PE}:(peV (e::es))[es.length]? = some e.1:=by rw [peV_cons,List.getElem?_append_right (by rw [peV_len]; exact Nat.le_refl _),peV_len,Nat.sub_self]; rfl
theorem peV_pop {e:TPartV × List TStmtV} {es:PE}:(peV (e::es)).take es.length=peV es:=by rw [peV_cons]; exact List.take_left' (peV_len es)
end
theorem C72 (K Φ:World->Prop) (p:Nat) (room:Int) (t:DTh) (F:Nat->Prop) (lv:SV) (rows:List TStmtV) (b:Bk) (e:Bool) (w:World) (hF:(dthX K Φ p room t).p w F) (hK:∀ w',Chg F w w'->K w') (hΦ:∀ w,Φ w->SlK K lv rows b.flat w) (hpl:t.pile.length<=100000) :
    CR 72 [.pointer (some ⟨p,0,none⟩),Flat.val lv,.bool e] w (λ v w'=>v = .tuple #[]/\Mut F (dthX K Φ p room {t with pile:=pushD b e t.pile}) w w'):=by
 have hs:=St.begin hF;refine S72_ok _ _ _ _ _ ?_;unfold S72;obtain ⟨hd0,hr0⟩:=hΦ _ (dthX.now hs);have hlen:=(hd0 _ (hK _ hs.chg)).1;refine pop_len sl27 (hr0 (hK _ hs.chg)) (pop_gtr ?_);refine cond_d (λ c=>?_) (λ c=>?_);rotate_left
 ·have hb:b = .nil:=by
   cases b with
   | nil=>rfl
   | cons y a b' r=>simp [Bk.flat] at hlen; omega
  subst hb;exact ⟨rfl,hs.mut⟩
 obtain ⟨y,a,b',r,rfl⟩:=Bk.cons_of (t:=b) (by omega);obtain ⟨bp,nv,rg,pl,es,hk,hs⟩:=dthX.open hs;have hel:=hs.p4.frz.1.len;refine pop_nil (pop_field fld97_3 ?_);refine qop_blk ty95 hs.hb rfl (pop (bld183_0_1 lv.a lv.n lv.cap e) ?_);refine eop_build (([(⟨lv,e⟩:TPartV)])) hs sl95 rfl rfl (leb rfl) (λ s17 _ hs=>?_);have hr2:=(hs).rd';refine eop_append hs.p4 sl95 hr2 (by rw [peV_len]; simp; omega) (by decide) (λ s18 _ hs=>?_);have hs:=(hs.p1).drop;refine pop_nil (pop_field fld97_3 ?_);refine uop_blk hs.p1 ty95 (leb rfl) ((hs).rd'.one) (λ _ hs=>?_);have hs:=hs.p4.frzMono (Ψ:=λ w=>PRd K w ((⟨lv,e⟩,rows)::es) ((.cons y a b' r,e)::t.pile)/\Φ w) (λ w h=>⟨⟨⟨rfl,hΦ w h.2⟩,h.1⟩,h.2⟩)
 have hs:=hs.p2;rw [<- peV_cons (⟨lv,e⟩,rows) es] at hs;have hs:=dthX.shut (Φ:=Φ) (t:={t with pile:=(.cons y a b' r,e)::t.pile}) hk hs.p1.p1.p4.p4.p4;exact ⟨rfl,hs.mut⟩
theorem C86 (K Φ:World->Prop) (p:Nat) (room:Int) (t:DTh) (F:Nat->Prop) (y:TStmt) (a b r:Bk) (e:Bool) (p':PD) (w:World) (hF:(dthX K Φ p room t).p w F) (hK:∀ w',Chg F w w'->K w') (hpe:t.pile=(.cons y a b r,e)::p') (hst:(Bk.cons y a b r).str) (hpl:t.pile.length<=100000) :
   CR 86 [.pointer (some ⟨p,0,none⟩)] w (λ v w'=>v = .tuple #[]/\Mut F (dthX K Φ p room {t with pile:=popD t.pile}) w w'):=by
 have hpp:popD t.pile=pushD r false p':=by rw [hpe]; rfl
 have hp'l:p'.length<=100000:=by rw [hpe,List.length_cons] at hpl; omega
 have hs:=St.begin hF;refine S86_ok _ _ _ ?_;unfold S86;obtain ⟨bp,nv,rg,pl,es,hk,hs⟩:=dthX.open hs;have hfz:=hs.p4.frz.1;rw [hpe] at hfz;obtain ⟨sv,rows,es',rfl,⟨hd0,hr0⟩,_⟩:=hfz.top;have hel:=hfz.len;rw [List.length_cons,List.length_cons] at hel;have hdr:=hd0 _ (hK _ hs.chg);have hrl:=hdr.1;have hfl:=(Bk.cons y a b r).flat_len
 change rows.length=(Bk.cons y a b r).flat.length at hrl
 obtain ⟨hb1,hb2,hb3,hb4,_⟩:=id hst;simp only [Bk.len] at hfl;obtain ⟨t0,ht0⟩:∃ t0,rows[(0:Int).toNat]? = some t0:=⟨_,List.getElem?_eq_getElem (by simp; omega)⟩;obtain ⟨ge,gf,rfl,_,_⟩:=dr_stmt (hdr.2 0 _ y ht0 rfl);refine pop_nil (pop_field fld97_3 ?_);refine qop_blk ty95 hs.hb rfl (pop_len sl95 hs.p3.rd' ?_);rw [peV_len,List.length_cons];refine pop_sub (by omega) ?_;rw [show ((es'.length+1:Nat):Int) - 1=(es'.length:Int) from by omega];refine pop_nil (pop_field fld97_3 ?_);refine qop_blk ty95 hs.hb rfl (pop_idx sl95 hs.p3.rd' (by omega) (by rw [Int.toNat_natCast]; exact peV_last) (λ q hq=>?_));refine pop_atf sv fld183_0 hq rfl rfl (λ q2 hq2=>qop_at ty27 hq2 ?_)
 refine pop_nil (pop_field fld97_3 ?_);refine qop_blk ty95 hs.hb rfl ?_;have hs:=hs.p3;refine pop_ownCutM sl95 hs (by omega) (by rw [peV_len,List.length_cons]; omega) (λ s25 hs=>?_);rw [Int.toNat_natCast,peV_pop] at hs;refine pop_nil (pop_field fld97_3 ?_);refine uop_blk hs.p1 ty95 (leb rfl) ((hs).rd'.one) (λ _ hs=>?_);have hs:=hs.drew.p4;rw [hpe] at hs;have hs:=hs.frzMono (Ψ:=λ w=>PRd K w es' p'/\(Φ w/\SlK K sv rows (Bk.cons y a b r).flat w)) (λ _ h=>⟨h.1.2,h.2,h.1.1.2⟩);have hr1:=hs.frz.2.2.2 (hK _ hs.chg);have hs:=dthX.shut (Φ:=λ w=>Φ w/\SlK K sv rows (Bk.cons y a b r).flat w) (t:={t with pile:=p'}) hk hs.p2.p4.p4.p4;refine pop_idx sl27 hr1 (by omega) ht0 (λ q3 hq3=>pop_atf y.body fld24_6 hq3 rfl rfl (λ q4 hq4=>?_))
 refine qop_at ty3 hq4 (pop_add (by omega) ?_);refine pop_idx sl27 hr1 (by omega) ht0 (λ q5 hq5=>pop_atf y.els fld24_7 hq5 rfl rfl (λ q6 hq6=>?_));refine qop_at ty3 hq6 (pop_add (by omega) ?_);refine pop_cutLoG sl27 hr1 (by omega) (by omega) (λ s40 h40=>?_);obtain ⟨sv40,rfl⟩:=(h40 _ _ hr1).isSV;refine callMut2 pl72 hs (H':=λ _=>dthX K (λ w=>Φ w/\SlK K sv rows (Bk.cons y a b r).flat w) p room {t with pile:=pushD r false p'}) (Φ:=λ _ _=>True) (λ F2 hF2 hfr=>?_) ?_
 ·refine (C72 K _ p room {t with pile:=p'} F2 sv40 (rows.drop (1+y.body+y.els).toNat) r false _ hF2 (λ w' hc=>hK w' (hfr w' hc).chg) (λ w h=>?_) hp'l).mono λ _ _ r=>r.mono λ _ _ h=>⟨trivial,h.2⟩;have:=h.2.cutLo h40;rw [Bk.cut2 hst rfl] at this; exact this
 rintro _ _ _ hs;rw [<- hpp] at hs;exact ⟨rfl,(dthX.mono hs (λ _ h=>h.1)).mut⟩
theorem C80 (K:World->Prop) (p:Nat) (t:DTh) (bp:Nat) (nv:SV) (rg pl:Value) (es:PE) (φ:TStmt->Prop) (w:World) (hblk:Blk w p (dcellsT bp nv rg pl t.fault)) (hplr:RdL (λ _=>True) w pl (peV es)) (hprd:PRd K w es t.pile)
   (hw:∀ w',Ext w w'->K w') (hpo:POk φ t.pile) (hl:t.pile.length<=100000):CR 80 [.pointer (some ⟨p,0,none⟩)] w (λ v w'=>Ext w w'/\((topD t.pile=none/\v = .tuple #[Flat.val (⟨0,⟨#[]⟩,⟨#[]⟩,⟨none,0,0⟩,⟨none,0,0⟩,0,0,0,0⟩:TStmtV),.slice none 0 0,.slice none 0 0,.bool false])\/
    ∃ x a b xv av bv ra rb,topD t.pile=some (x,a,b)/\v = .tuple #[Flat.val (xv:TStmtV),Flat.val (av:SV),Flat.val (bv:SV),.bool true]/\(∀ w',K w'->Deep.dr w' xv x)/\∀ w2,PRd K w2 es t.pile->SlK K av ra a.flat w2/\SlK K bv rb b.flat w2)):=by
 have c3:=hblk.cell (o:=3) rfl;have hel:=hprd.len;have hs:=St.start w;refine S80_ok _ _ _ ?_;unfold S80;refine eop_allocA hs zero24 (λ b2 _ hs=>?_);have hs:=hs.enc (cs':=Flat.enc (⟨0,⟨#[]⟩,⟨#[]⟩,⟨none,0,0⟩,⟨none,0,0⟩,0,0,0,0⟩:TStmtV)) rfl;refine pop_nil (pop_field fld97_3 ?_);refine qop_cell ty95 (c3.ext hs.chg) (pop_len sl95 (hplr.ext hs.chg) ?_);rw [peV_len];refine pop_eql (cond_d (λ c=>?_) (λ c=>?_))
 ·have hp0:t.pile=[]:=List.length_eq_zero_iff.1 (by omega);exact pop (v:=Flat.val (⟨0,⟨#[]⟩,⟨#[]⟩,⟨none,0,0⟩,⟨none,0,0⟩,0,0,0,0⟩:TStmtV)) (by kernel_rfl) (uop_blkV (x:=(⟨0,⟨#[]⟩,⟨#[]⟩,⟨none,0,0⟩,⟨none,0,0⟩,0,0,0,0⟩:TStmtV)) hs ty24 rfl rfl (λ _ hs=>qop_at ty24 hs.At ⟨hs.drop.chg,.inl ⟨by rw [hp0]; rfl,rfl⟩⟩))
 obtain ⟨pile,hpile⟩:∃ q,q=t.pile:=⟨_,rfl⟩;rw [<- hpile] at hprd hpo hel hl |-;cases pile with
 | nil=>exact absurd (show ((es.length:Nat):Int)=0 by have h0:es.length=0:=hel; omega) c
 | cons q p'=>
 obtain ⟨q1,e⟩:=q;cases q1 with
 | nil=>exact absurd rfl (hpo.ne _ (List.mem_cons_self ..))
 | cons y a b r=>
 have hst:=hpo.st _ (List.mem_cons_self ..);obtain ⟨sv,rows,es',rfl,⟨hd0,hr0⟩,_⟩:=hprd.top;have hdr:=hd0 _ (hw _ (Ext.refl _));have hrl:=hdr.1;have hfl:=(Bk.cons y a b r).flat_len
 change rows.length=(Bk.cons y a b r).flat.length at hrl
 obtain ⟨hb1,hb2,hb3,hb4,_⟩:=id hst;simp only [Bk.len] at hfl;rw [List.length_cons] at hel c;rw [List.length_cons] at hel hl;obtain ⟨t0,ht0⟩:∃ t0,rows[(0:Int).toNat]? = some t0:=⟨_,List.getElem?_eq_getElem (by simp; omega)⟩;obtain ⟨ge,gf,rfl,_,_⟩:=dr_stmt (hdr.2 0 _ y ht0 rfl);have hr1:=hr0 (hw _ (Ext.refl _));have hs:=hs.drew;refine pop_nil (pop_field fld97_3 ?_);refine qop_cell ty95 (c3.ext hs.chg) (pop_nil ?_);refine pop_field fld97_3 (qop_cell ty95 (c3.ext hs.chg) ?_);refine pop_len sl95 (hplr.ext hs.chg) ?_;rw [peV_len,List.length_cons];refine pop_sub (by omega) ?_;rw [show ((es'.length+1:Nat):Int) - 1=(es'.length:Int) from by omega];refine pop_idx sl95 (hplr.ext hs.chg) (by omega) (by rw [Int.toNat_natCast]; exact peV_last) (λ q hq=>pop_atf sv fld183_0 hq rfl rfl (λ q2 hq2=>?_))
 refine qop_at ty27 hq2 (pop_idx sl27 (hr1.ext hs.chg) (by omega) ht0 (λ q3 hq3=>?_));refine qop_at ty24 hq3 (eop_allocA hs zero24 (λ b7 _ hs=>?_));refine uop_blkV (x:=(⟨y.kind,y.reg,y.name,ge,gf,y.n,y.body,y.els,y.at_⟩:TStmtV)) hs ty24 rfl rfl (λ _ hs=>pop_field fld24_6 ?_);refine qop_blk (v:=.int .i64 y.body) ty3 hs.hb rfl (pop_add (by omega) ?_);refine pop_field fld24_7 (qop_blk (v:=.int .i64 y.els) ty3 hs.hb rfl ?_);refine pop_add (by omega) ?_;have hs:=hs.drew;refine qop_at ty24 hs.At (pop_cutM sl27 (hr1.ext hs.chg) (by omega) (by omega) (by omega) (λ s44 h44=>?_));obtain ⟨sv44,rfl⟩:=(h44 _ _ hr1).isSV;refine pop_cutM sl27 (hr1.ext hs.chg) (by omega) (by omega) (by omega) (λ s49 h49=>?_)
 obtain ⟨sv49,rfl⟩:=(h49 _ _ hr1).isSV;refine uop_blkV (x:=(⟨y.kind,y.reg,y.name,ge,gf,y.n,y.body,y.els,y.at_⟩:TStmtV)) hs.p1 ty24 rfl rfl (λ _ hs=>qop_at ty24 hs.At ?_);refine ⟨hs.drop.drop.chg,.inr ⟨y,a,b,_,sv44,sv49,(rows.take (1+y.body).toNat).drop (1:Int).toNat,(rows.take (1+y.body+y.els).toNat).drop (1+y.body).toNat,rfl,rfl,λ w' hk=>(hd0 w' hk).2 0 _ y ht0 rfl,λ w2 h2=>?_⟩⟩;have h3:=h2.cons.1;refine ⟨?_,?_⟩
 ·have:=h3.cut h44;rw [cutA hst rfl] at this; exact this
 have:=h3.cut h49;rw [cutB hst rfl rfl] at this; exact this
theorem C135 (K Φ:World->Prop) (p:Nat) (room:Int) (t:DTh) (F:Nat->Prop) (w:World) (hF:(dthX K Φ p room t).p w F) (hK:∀ w',Chg F w w'->K w') (hpl:t.pile.length<=100000) :
   CR 135 [.pointer (some ⟨p,0,none⟩)] w (λ v w'=>v = .tuple #[]/\Mut F (dthX K Φ p room {t with pile:=leaveD t.pile}) w w'):=by
 have hs:=St.begin hF;refine S135_ok _ _ _ ?_;unfold S135;refine ⟨λ m ev w1=>∃ (en:Bool) (pd:PD),ev = .bool en/\m=pd.length+(if en then 0 else 1)/\pd.length<=100000/\leaveD t.pile=(if en=true then pd else leaveD pd)/\St w F [dthX K Φ p room {t with pile:=pd}] w1,⟨_,false,t.pile,rfl,rfl,hpl,rfl,hs⟩,?_⟩;rintro m _ w1 ⟨en,pd,rfl,rfl,hpd,hlv,hs⟩ _;obtain ⟨bp,nv,rg,pl,es,hk,hs⟩:=dthX.open hs;have hfz:=hs.p4.frz.1;have hel:=hfz.len
 change es.length=pd.length at hel
 refine ⟨λ jv w'=>jv = .bool (!en && decide (0<pd.length))/\w'=w1,?_,?_⟩
 ·refine pop_not ?_;cases en with
  | true=>exact cond_f ⟨rfl,rfl⟩
  | false=>
   refine cond_t (pop_nil ?_);refine pop_field fld97_3 (qop_blk ty95 hs.hb rfl ?_);refine pop_len sl95 hs.p3.rd' ?_;rw [peV_len];refine pop_gtr ?_;exact ⟨vb (by rw [Bool.not_false,Bool.true_and]; exact decide_eq_decide.2 (by omega)),rfl⟩
 rintro _ _ ⟨rfl,rfl⟩ _;refine cond_b (λ c=>?_) (λ c=>?_);rotate_left
 ·have hd:leaveD t.pile=pd:=by
   rw [hlv];cases en with
   | true=>rfl
   | false=>
    have:pd=[]:=List.length_eq_zero_iff.1 (by have:=of_decide_eq_false (by simpa only [Bool.not_false,Bool.true_and] using c); omega);rw [this]; rfl
  rw [hd];exact ⟨rfl,(dthX.shut (t:={t with pile:=pd}) hk hs).mut⟩
 rw [Bool.and_eq_true,Bool.not_eq_true',decide_eq_true_eq] at c;obtain ⟨rfl,hpos⟩:=c;cases pd with
 | nil=>simp at hpos
 | cons q p'=>
 obtain ⟨q1,e⟩:=q;obtain ⟨sv,rows,es',rfl,_,_⟩:=hfz.top;rw [List.length_cons,List.length_cons] at hel;rw [List.length_cons] at hpd;refine pop_nil (pop_field fld97_3 ?_);refine qop_blk ty95 hs.hb rfl (pop_len sl95 hs.p3.rd' ?_);rw [peV_len,List.length_cons];refine pop_sub (by omega) ?_;rw [show ((es'.length+1:Nat):Int) - 1=(es'.length:Int) from by omega];refine pop_nil (pop_field fld97_3 ?_);refine qop_blk ty95 hs.hb rfl (pop_idx sl95 hs.p3.rd' (by omega) (by rw [Int.toNat_natCast]; exact peV_last) (λ q hq=>?_));refine pop_atf e fld183_1 hq rfl rfl (λ q2 hq2=>qop_at ty4 hq2 ?_);refine pop_nil (pop_field fld97_3 ?_);refine qop_blk ty95 hs.hb rfl ?_;have hs:=hs.p3
 refine pop_ownCutM sl95 hs (by omega) (by rw [peV_len,List.length_cons]; omega) (λ s25 hs=>?_);rw [Int.toNat_natCast,peV_pop] at hs;refine pop_nil (pop_field fld97_3 (uop_blk hs.p1 ty95 (leb rfl) ((hs).rd'.one) (λ _ hs=>have hs:=hs.p4.frzMono (Ψ:=λ w=>PRd K w es' p'/\Φ w) (λ _ h=>⟨h.1.2,h.2⟩);have hs:=dthX.shut (Φ:=Φ) (t:={t with pile:=p'}) hk hs.p2.p4.p4.p4;⟨_,?_,e,p',rfl,rfl,by omega,?_,hs⟩)))
 ·show p'.length+(if e=true then 0 else 1)<p'.length+1+1
  split <;> omega
 rw [hlv]; rfl
theorem C83 (K Φ:World->Prop) (p:Nat) (room:Int) (t:DTh) (F:Nat->Prop) (lv:Value) (xs:List TNode) (w:World) (hF:(dthX K Φ p room t).p w F) (hK:∀ w',Chg F w w'->K w') (hL:RdL (λ _=>True) w lv xs) (hn:xs.length<=1048576) (hns:t.names.length<=1048576) :
   CR 83 [.pointer (some ⟨p,0,none⟩),lv] w (λ v w'=>v = .tuple #[.int .i64 (valD t xs).1,.bool (valD t xs).2]/\Mut F (dthX K Φ p room {t with fault:=if (valD t xs).2=true then t.fault else 2}) w w'):=by
 have hs:=St.begin hF;refine S83_ok _ _ _ _ ?_;unfold S83;refine pop_len sl22 hL (pop_eql ?_);refine cond_d (λ c=>?_) (λ c=>?_)
 ·have hv:valD t xs=(0,true):=by unfold valD; rw [if_pos (by omega)]
  rw [hv];exact ⟨rfl,hs.mut⟩
 have hv:valD t xs=((valN t.names t.regs xs).1,decide ((valN t.names t.regs xs).2=0)):=by unfold valD; rw [if_neg (by omega)]
 obtain ⟨bp,nv,rg,pl,es,hk,hs⟩:=dthX.open hs;have hs:=hs.drew;refine pop_nil (pop_field fld97_1 (qop_blk ty32 hs.hb rfl (pop_nil (pop_field fld97_2 (qop_blk ty45 hs.hb rfl (callP pl99 hs (C99 _ _ _ xs t.names t.regs _ (hL.ext (Ext.drew w)) (hk _ (hK _ hs.chg)) hs.p2.rd' hn hns) (λ _ he hs=>pop_ext rfl (pop_ext rfl ⟨λ w'=>St w F [dthX K Φ p room {t with fault:=if (valD t xs).2=true then t.fault else 2}] w',pop_neq (cond_d (λ c2=>?_) (λ c2=>?_)),?_⟩))))))))
 ·refine pop_nil (pop_field fld97_4 ?_);refine uop_blk hs ty3 (leb rfl) rfl (λ _ hs=>?_);have ht:{t with fault:=2}={t with fault:=if (valD t xs).2=true then t.fault else 2}:=by rw [hv]; dsimp only; rw [decide_eq_false c2]; rfl
  rw [<- ht];exact dthX.shut (t:={t with fault:=2}) hk hs
 ·have ht:t={t with fault:=if (valD t xs).2=true then t.fault else 2}:=by rw [hv]; dsimp only; rw [decide_eq_true (by omega)]; rfl
  rw [<- ht];exact dthX.shut hk hs
 intro _ hs _;exact pop_eql ⟨by rw [hv],hs.mut⟩
theorem dthX.absorb {w w0:World} {A:Nat->Prop} {R:List HP} {p:Nat} {K Φ Ψ:World->Prop} {room:Int} {t:DTh} (hs:St w0 A (frz Ψ::dthX K Φ p room t::R) w):St w0 A (dthX K (λ w=>Φ w/\Ψ w) p room t::R) w:=by
 obtain ⟨bp,nv,rg,pl,es,hk,hs⟩:=dthX.open hs.p1
 have h1:=((hs.p5).p5.frzAnd).frzMono (Ψ:=λ w=>PRd K w es t.pile/\Φ w/\Ψ w) λ w h=>⟨h.1.1,h.1.2,h.2⟩
 exact dthX.shut hk h1.p4.p4.p4.p4
theorem drs.cons {w:World} {t:TStmtV} {x:TStmt} {ts:List TStmtV} {xs:List TStmt} (h:Deep.dr w t x) (hs:drs ts xs w):drs (t::ts) (x::xs) w:=by
 refine ⟨by simp [hs.1],λ i t' x' h1 h2=>?_⟩
 cases i with
 | zero=>simp at h1 h2; subst h1 h2; exact h
 | succ i=>exact hs.2 i t' x' (by simpa using h1) (by simpa using h2)
theorem again_flat (x:TStmt) (a:Bk):(Bk.cons x a .nil .nil).flat=x::a.flat:=by simp [Bk.flat]
theorem C134 (K Φ:World->Prop) (p:Nat) (room:Int) (t:DTh) (F:Nat->Prop) (x:TStmt) (xv:TStmtV) (av:SV) (ra:List TStmtV) (a b r:Bk) (e:Bool) (p':PD) (w:World) (hF:(dthX K Φ p room t).p w F) (hK:∀ w',Chg F w w'->K w') (hpe:t.pile=(.cons x a b r,e)::p') (hst:(Bk.cons x a b r).str) (hpl:t.pile.length<=90000)
   (hxv:∀ w,K w->Deep.dr w xv x) (hΦ:∀ w,Φ w->SlK K av ra a.flat w) (hn:0<=x.n/\x.n<=1000) :
   CR 134 [.pointer (some ⟨p,0,none⟩),Flat.val xv,Flat.val av] w (λ v w'=>v = .tuple #[]/\Mut F (dthX K Φ p room {t with pile:=roundD x a t.pile}) w w'):=by
 have hs:=St.begin hF;obtain ⟨ge,gf,rfl,_,_⟩:=dr_stmt (hxv _ (hK _ hs.chg));have hal:a.flat.length<=40:=by rw [Bk.flat_len]; exact hst.2.2.1
 have hppl:(popD t.pile).length<=90001:=by
  rw [hpe]; show (pushD r false p').length<=_; rw [hpe,List.length_cons] at hpl;cases r with
  | nil=>show p'.length<=_; omega
  | cons _ _ _ _=>show p'.length+1<=_; omega
 refine S134_ok _ _ _ _ _ ?_;unfold S134;refine eop_boxV (x:=(⟨x.kind,x.reg,x.name,ge,gf,x.n,x.body,x.els,x.at_⟩:TStmtV)) hs (λ b4 _ hs=>callMut2 pl86 hs.p1 (H':=λ _=>dthX K (Φ) p room {t with pile:=popD (t).pile}) (Φ:=λ _ _=>True) (λ F2 hF2 hfr=>?_) ?_)
 ·exact (C86 K _ p room (t) F2 x a b r e p' _ hF2 (λ w' hc=>hK w' (hfr w' hc).chg) hpe hst (by omega)).mono λ _ _ r=>r.mono λ _ _ h=>⟨trivial,h.2⟩
 rintro _ _ _ hs;refine pop_field fld24_5 (qop_blk (v:=.int .i64 x.n) ty3 hs.p1.hb rfl ?_);refine pop_eql (cond_d (λ c=>?_) (λ c=>?_))
 ·rw [show roundD x a t.pile=popD t.pile from by unfold roundD; rw [if_pos c]];exact ⟨rfl,(hs.p1).drop.mut⟩
 rw [show roundD x a t.pile=pushD a false ((.cons {x with n:=x.n - 1} a .nil .nil,true)::popD t.pile) from by unfold roundD; rw [if_neg c]];refine qop_at ty24 hs.p1.At (eop_build (([⟨x.kind,x.reg,x.name,ge,gf,x.n,x.body,x.els,x.at_⟩]:List TStmtV)) hs sl27 rfl rfl (leb rfl) (λ s13 _ hs=>?_));have hra:=hΦ _ (dthX.now hs.p1);have hral:=(hra.1 _ (hK _ hs.chg)).1;refine eop_append hs sl27 (hra.2 (hK _ hs.chg)) (by simp; omega) (by decide) (λ s15 _ hs=>pop_own hs sl27 (by omega) (by simp) (λ q17 h17=>?_));refine pop_ownf fld24_5 h17 (λ q18 h18=>qop_ownf (x.n:Int) hs ty3 h18 (x:=(⟨x.kind,x.reg,x.name,ge,gf,x.n,x.body,x.els,x.at_⟩:TStmtV)) rfl rfl ?_)
 refine pop_sub (by omega) (pop_own hs sl27 (by omega) (by simp) (λ q21 h21=>?_));refine pop_ownf fld24_5 h21 (λ q22 h22=>uop_ownf (x:=(⟨x.kind,x.reg,x.name,ge,gf,x.n,x.body,x.els,x.at_⟩:TStmtV)) (⟨x.kind,x.reg,x.name,ge,gf,x.n - 1,x.body,x.els,x.at_⟩:TStmtV) (x.n - 1:Int) hs ty3 h22 rfl (by decide) rfl (λ _ hs=>?_));obtain ⟨sv15,rfl⟩:=(hs).rd'.isSV;have hs:=dthX.absorb hs.freeze
 have hrow:∀ w',K w'->drs (((⟨x.kind,x.reg,x.name,ge,gf,x.n,x.body,x.els,x.at_⟩:TStmtV)::ra).set (0:Int).toNat (⟨x.kind,x.reg,x.name,ge,gf,x.n - 1,x.body,x.els,x.at_⟩:TStmtV)) (Bk.cons {x with n:=x.n - 1} a .nil .nil).flat w':=λ w' hw=>by
  rw [again_flat];obtain ⟨_,_,h4,h5,h6⟩:=hxv w' hw;cases h4
  exact drs.cons ⟨ge,gf,rfl,h5,h6⟩ (hra.1 w' hw)
 refine callMut2 pl72 hs (H':=λ _=>dthX K (λ w=>Φ w/\RdL (λ _=>True) w (Flat.val sv15) (([(⟨x.kind,x.reg,x.name,ge,gf,x.n,x.body,x.els,x.at_⟩:TStmtV)]++ra).set (0:Int).toNat (⟨x.kind,x.reg,x.name,ge,gf,x.n - 1,x.body,x.els,x.at_⟩:TStmtV))) p room { {t with pile:=popD t.pile} with pile:=pushD (Bk.cons {x with n:=x.n - 1} a .nil .nil) true ({t with pile:=popD t.pile}).pile}) (Φ:=λ _ _=>True) (λ F2 hF2 hfr=>?_) ?_
 ·exact (C72 K _ p room ({t with pile:=popD t.pile}) F2 sv15 _ (Bk.cons {x with n:=x.n - 1} a .nil .nil) true _ hF2 (λ w' hc=>hK w' (hfr w' hc).chg) (λ _ h=>⟨hrow,λ _=>h.2⟩) (by show (popD t.pile).length<=_; omega)).mono λ _ _ r=>r.mono λ _ _ h=>⟨trivial,h.2⟩
 rintro _ _ _ hs;refine callMut2 pl72 hs (H':=λ _=>dthX K (λ w=>Φ w/\RdL (λ _=>True) w (Flat.val sv15) (([(⟨x.kind,x.reg,x.name,ge,gf,x.n,x.body,x.els,x.at_⟩:TStmtV)]++ra).set (0:Int).toNat (⟨x.kind,x.reg,x.name,ge,gf,x.n - 1,x.body,x.els,x.at_⟩:TStmtV))) p room { {t with pile:=(.cons {x with n:=x.n - 1} a .nil .nil,true)::popD t.pile} with pile:=pushD a false ({t with pile:=(.cons {x with n:=x.n - 1} a .nil .nil,true)::popD t.pile}).pile}) (Φ:=λ _ _=>True) (λ F2 hF2 hfr=>?_) ?_
 ·exact (C72 K _ p room ({t with pile:=(.cons {x with n:=x.n - 1} a .nil .nil,true)::popD t.pile}) F2 av ra a false _ hF2 (λ w' hc=>hK w' (hfr w' hc).chg) (λ w h=>hΦ w h.1) (by show (popD t.pile).length+1<=_; omega)).mono λ _ _ r=>r.mono λ _ _ h=>⟨trivial,h.2⟩
 rintro _ _ _ hs;exact ⟨rfl,(dthX.mono (hs.p1).drop (λ _ h=>h.1)).mut⟩
theorem C73 (K:World->Prop) (p:Nat) (room:Int) (t tR:DTh) (n:Nat) (cs ls:List ByteArray) (F:Nat->Prop) (w:World) (hF:(dthB K p room t).p w F) (hK:∀ w',Chg F w w'->K w') (hok:DOk cs ls t) (hg:goFD n t=some tR) :
   CR 73 [.pointer (some ⟨p,0,none⟩)] w (λ v w'=>v = .tuple #[]/\Mut F (dthB K p room tR) w w'):=by
 have hs:=St.begin hF;refine S73_ok _ _ _ ?_;unfold S73;refine ⟨λ mm w'=>∃ t1:DTh,goFD mm t1=some tR/\DOk cs ls t1/\St w F [dthB K p room t1] w',⟨n,t,hg,hok,hs⟩,?_⟩;rintro mm _ ⟨t1,hg1,hok1,hs⟩ _;obtain ⟨k,rfl⟩:=goFD_succ hg1;have hpl:=pile_le hok1.p;have hcl:=hok1.cl;have hnb:=hok1.nb;have hrl:=hok1.rl;obtain ⟨bp,nv,rg,pl,es,hk,hs⟩:=dthX.open hs;refine callF pl80 (C80 K p t1 bp nv rg pl es _ _ hs.hb hs.p3.rd' hs.p4.frz.1 (λ _ e=>hK _ (hs.chg.then e)) hok1.p (by omega)) ?_;rintro v _ ⟨he,hv⟩;have hs:=hs.ext he
 rcases hv with ⟨hno,rfl⟩ | ⟨x,a,b,xv,av,bv,ra,rb,htp,rfl,hxv,hab⟩
 ·refine pop_ext rfl (pop_ext rfl ?_);refine pop_ext rfl (pop_ext rfl ?_);refine eop_allocA hs zero24 (λ b2 w3 hs=>uop_blkV (x:=(⟨0,⟨#[]⟩,⟨#[]⟩,⟨none,0,0⟩,⟨none,0,0⟩,0,0,0,0⟩:TStmtV)) hs ty24 rfl rfl (λ w4 hs=>?_));refine pop_not (cond_t ?_);rw [goFD_end hg1 (goSD_n hno)];exact ⟨rfl,(dthX.shut hk hs.drop).mut⟩
 obtain ⟨ge,gf,rfl,_,_⟩:=dr_stmt (hxv _ (hK _ hs.chg))
 have hxE:∀ w,K w->RdL (λ _=>True) w (Flat.val ge) x.e/\RdL (λ _=>True) w (Flat.val gf) x.f:=λ w hw=>by
  obtain ⟨_,_,h4,h5,h6⟩:=dr_stmt (hxv w hw);cases h4
  exact ⟨h5,h6⟩
 obtain ⟨hx,sa,sb,aa,ab,hb1,hb2,hal,r,e,p',hpe,sr,ar⟩:=hok1.top htp;have hst:(Bk.cons x a b r).str:=hok1.p.st _ (by rw [hpe]; exact List.mem_cons_self ..);have hxe:=hx.e;have hs:=(hs.p4).frzMono (Ψ:=λ w=>PRd K w es t1.pile/\(SlK K av ra a.flat w/\SlK K bv rb b.flat w)) (λ w h=>⟨h.1,hab w h.1⟩);have hs:=dthX.shut (Φ:=λ w=>SlK K av ra a.flat w/\SlK K bv rb b.flat w) (t:=t1) hk hs.p4.p4.p4.p4;refine pop_ext rfl (pop_ext rfl ?_);refine pop_ext rfl (pop_ext rfl ?_);refine eop_allocA hs zero24 (λ b2 w3 hs=>uop_blkV (x:=(⟨x.kind,x.reg,x.name,ge,gf,x.n,x.body,x.els,x.at_⟩:TStmtV)) hs ty24 rfl rfl (λ w4 hs=>?_));refine pop_not (cond_f ?_)
 refine pop_field fld24_3 (qop_blk (v:=Flat.val ge) ty22 hs.hb rfl ?_);refine callMut2 pl83 hs.p1 (H':=λ _=>dthX K (λ w=>SlK K av ra a.flat w/\SlK K bv rb b.flat w) p room {t1 with fault:=if (valD t1 x.e).2=true then t1.fault else 2}) (Φ:=λ v _=>v = .tuple #[.int .i64 (valD t1 x.e).1,.bool (valD t1 x.e).2]) (λ F2 hF2 hfr=>?_) ?_
 ·exact C83 K _ p room t1 F2 _ x.e _ hF2 (λ w' hc=>hK w' (hfr w' hc).chg) (hxE _ (hK _ hs.chg)).1 (by omega) (by omega)
 rintro _ w5 rfl hs;refine pop_ext rfl (pop_ext rfl ?_);refine pop_not (cond_b (λ c1=>?_) (λ c1=>?_))
 ·have h1:(valD t1 x.e).2=false:=by simpa using c1
  rw [h1] at hs;rw [goFD_end hg1 (goSD_e htp h1)];exact ⟨rfl,(dthX.mono (hs.p1).drop (λ _ _=>trivial)).mut⟩
 have h1:(valD t1 x.e).2=true:=by simpa using c1
 replace hs:St w F [dthX K (λ w=>SlK K av ra a.flat w/\SlK K bv rb b.flat w) p room t1,blk b2 (Flat.enc (⟨x.kind,x.reg,x.name,ge,gf,x.n,x.body,x.els,x.at_⟩:TStmtV))] w5:=by rw [h1] at hs; exact hs
 refine pop_field fld24_4 (qop_blk (v:=Flat.val gf) ty22 hs.p1.hb rfl ?_);refine callMut2 pl83 hs (H':=λ _=>dthX K (λ w=>SlK K av ra a.flat w/\SlK K bv rb b.flat w) p room {t1 with fault:=if (valD t1 x.f).2=true then t1.fault else 2}) (Φ:=λ v _=>v = .tuple #[.int .i64 (valD t1 x.f).1,.bool (valD t1 x.f).2]) (λ F2 hF2 hfr=>?_) ?_
 ·exact C83 K _ p room t1 F2 _ x.f _ hF2 (λ w' hc=>hK w' (hfr w' hc).chg) (hxE _ (hK _ hs.chg)).2 (by omega) (by omega)
 rintro _ w6 rfl hs;refine pop_ext rfl (pop_ext rfl ?_);refine pop_not (cond_b (λ c2=>?_) (λ c2=>?_))
 ·have h2:(valD t1 x.f).2=false:=by simpa using c2
  rw [h2] at hs;rw [goFD_end hg1 (goSD_f htp h2)];exact ⟨rfl,(dthX.mono (hs.p1).drop (λ _ _=>trivial)).mut⟩
 have h2:(valD t1 x.f).2=true:=by simpa using c2
 replace hs:St w F [dthX K (λ w=>SlK K av ra a.flat w/\SlK K bv rb b.flat w) p room t1,blk b2 (Flat.enc (⟨x.kind,x.reg,x.name,ge,gf,x.n,x.body,x.els,x.at_⟩:TStmtV))] w6:=by rw [h2] at hs; exact hs
 have hgk:=goSD_k htp h1 h2
 have hnext:∀ (t2:DTh) (w':World),goKD t1 x a b (valD t1 x.e).1=(t2,true)->St w F [dthX K (λ w=>SlK K av ra a.flat w/\SlK K bv rb b.flat w) p room t2,blk b2 (Flat.enc (⟨x.kind,x.reg,x.name,ge,gf,x.n,x.body,x.els,x.at_⟩:TStmtV))] w'->∃ m',m'<k+1/\∃ t1:DTh,goFD m' t1=some tR/\DOk cs ls t1/\St w F [dthB K p room t1] w':=λ t2 w' h3 h4=>by
  have h5:=hgk.trans h3;obtain ⟨h6,h7,_⟩:=goSD_ok hok1;rw [h5] at h6 h7;exact ⟨k,Nat.lt_succ_self k,t2,goFD_go hg1 h5,h6,dthX.mono (h4.p1).drop (λ _ _=>trivial)⟩
 refine pop_field fld24_0 (qop_blk (v:=.int .i64 x.kind) ty3 hs.p1.hb rfl ?_);refine pop_eql (cond_d (λ k1=>?_) (λ k1=>?_))
 ·have hpm:=place_mem.1 (hx.rg (.inl k1));obtain ⟨j,hj,hj2,_⟩:=place_at hpm;have hjl:=(List.getElem?_eq_some_iff.1 hj2).1;obtain ⟨bp,nv,rg,pl,es,hk,hs⟩:=dthX.open hs;have hs:=hs.drew;refine pop_nil (pop_field fld97_2 ?_);refine qop_blk ty45 hs.hb rfl (pop_nil ?_);refine pop_field fld97_1 (qop_blk ty32 hs.hb rfl ?_);refine pop_field fld24_1 (qop_blk (v:=.string x.reg) ty9 hs.p5.hb rfl ?_);refine callP pl81 hs (C81 _ t1.names x.reg _ (hk _ (hK _ hs.chg)) (by omega)) (λ _ he hs=>?_);refine ⟨run_loadOne ty45 (hs.hb.cell rfl),?_⟩;refine pop_own hs.p2 sl45 (by omega) (by omega) (λ q51 h51=>uop_own (valD t1 x.e).1 hs.p2 ty3 h51 (by omega) (λ _ hs=>?_));have hs:=dthX.shut (Φ:=λ w=>SlK K av ra a.flat w/\SlK K bv rb b.flat w) (t:=setD t1 x.reg (valD t1 x.e).1) hk ((hs.p2).p2)
  refine callMut2 pl86 hs (H':=λ _=>dthX K (λ w=>SlK K av ra a.flat w/\SlK K bv rb b.flat w) p room {setD t1 x.reg (valD t1 x.e).1 with pile:=popD (setD t1 x.reg (valD t1 x.e).1).pile}) (Φ:=λ _ _=>True) (λ F2 hF2 hfr=>?_) ?_
  ·exact (C86 K _ p room (setD t1 x.reg (valD t1 x.e).1) F2 x a b r e p' _ hF2 (λ w' hc=>hK w' (hfr w' hc).chg) hpe hst (by show t1.pile.length<=_; omega)).mono λ _ _ r=>r.mono λ _ _ h=>⟨trivial,h.2⟩
  rintro _ _ _ hs;exact hnext _ _ (goKD_1 k1) hs
 refine pop_eql (cond_d (λ k2=>?_) (λ k2=>?_))
 ·refine callMut2 pl86 hs (H':=λ _=>dthX K (λ w=>SlK K av ra a.flat w/\SlK K bv rb b.flat w) p room {t1 with pile:=popD (t1).pile}) (Φ:=λ _ _=>True) (λ F2 hF2 hfr=>?_) ?_
  ·exact (C86 K _ p room (t1) F2 x a b r e p' _ hF2 (λ w' hc=>hK w' (hfr w' hc).chg) hpe hst (by omega)).mono λ _ _ r=>r.mono λ _ _ h=>⟨trivial,h.2⟩
  rintro _ w10 _ hs;refine ⟨λ jv w'=>jv=(if (valD t1 x.e).1=0 then Flat.val bv else Flat.val av)/\w'=w10,?_,?_⟩
  ·refine pop_eql ?_;refine cond_d (λ c=>⟨(if_pos c).symm,rfl⟩) (λ c=>⟨(if_neg c).symm,rfl⟩)
  rintro _ _ ⟨rfl,rfl⟩ _
  have hpq:(popD t1.pile).length<=100000:=by
   have:=pile_le hok1.p.pop;have:=pop_lt hpe;omega
  have e1:(if (valD t1 x.e).1=0 then Flat.val bv else Flat.val av)=Flat.val (if (valD t1 x.e).1=0 then bv else av):=by split <;> rfl
  rw [e1];refine callMut2 pl72 hs (H':=λ _=>dthX K (λ w=>SlK K av ra a.flat w/\SlK K bv rb b.flat w) p room { {t1 with pile:=popD t1.pile} with pile:=pushD (if (valD t1 x.e).1=0 then b else a) false ({t1 with pile:=popD t1.pile}).pile}) (Φ:=λ _ _=>True) (λ F2 hF2 hfr=>?_) ?_
  ·exact (C72 K _ p room ({t1 with pile:=popD t1.pile}) F2 (if (valD t1 x.e).1=0 then bv else av) (if (valD t1 x.e).1=0 then rb else ra) (if (valD t1 x.e).1=0 then b else a) false _ hF2 (λ w' hc=>hK w' (hfr w' hc).chg) (λ _ h=>by split; exact h.2; exact h.1) (hpq)).mono λ _ _ r=>r.mono λ _ _ h=>⟨trivial,h.2⟩
  rintro _ _ _ hs;exact hnext _ _ (goKD_11 k2) hs
 refine pop_eql (cond_d (λ k3=>?_) (λ k3=>?_))
 ·refine qop_at ty24 hs.p1.At (callMut2 pl134 hs (H':=λ _=>dthX K (λ w=>SlK K av ra a.flat w/\SlK K bv rb b.flat w) p room {t1 with pile:=roundD x a t1.pile}) (Φ:=λ _ _=>True) (λ F2 hF2 hfr=>?_) ?_)
  ·exact (C134 K _ p room t1 F2 x ⟨x.kind,x.reg,x.name,ge,gf,x.n,x.body,x.els,x.at_⟩ av ra a b r e p' _ hF2 (λ w' hc=>hK w' (hfr w' hc).chg) hpe hst (by omega) hxv (λ _ h=>h.1) (hx.n k3)).mono λ _ _ r=>r.mono λ _ _ h=>⟨trivial,h.2⟩
  rintro _ _ _ hs;exact hnext _ _ (goKD_12 k3) hs
 refine pop_eql (cond_d (λ k4=>?_) (λ k4=>?_))
 ·refine callMut2 pl135 hs (H':=λ _=>dthX K (λ w=>SlK K av ra a.flat w/\SlK K bv rb b.flat w) p room {t1 with pile:=leaveD t1.pile}) (Φ:=λ _ _=>True) (λ F2 hF2 hfr=>?_) ?_
  ·exact (C135 K _ p room t1 F2 _ hF2 (λ w' hc=>hK w' (hfr w' hc).chg) (by omega)).mono λ _ _ r=>r.mono λ _ _ h=>⟨trivial,h.2⟩
  rintro _ _ _ hs;exact hnext _ _ (goKD_13 k4) hs
 refine pop_eql (cond_d (λ k5=>?_) (λ k5=>?_))
 ·refine pop_eql (cond_d (λ c=>?_) (λ c=>?_))
  ·obtain ⟨bp,nv,rg,pl,es,hk,hs⟩:=dthX.open hs;refine pop_nil (pop_field fld97_4 ?_);refine uop_blk hs ty3 (leb rfl) rfl (λ _ hs=>?_);have hs:=dthX.shut (Φ:=λ w=>SlK K av ra a.flat w/\SlK K bv rb b.flat w) (t:={t1 with fault:=1}) hk hs;rw [goFD_end hg1 (hgk.trans (goKD_14a k5 c))];exact ⟨rfl,(dthX.mono (hs.p1).drop (λ _ _=>trivial)).mut⟩
  refine callMut2 pl86 hs (H':=λ _=>dthX K (λ w=>SlK K av ra a.flat w/\SlK K bv rb b.flat w) p room {t1 with pile:=popD (t1).pile}) (Φ:=λ _ _=>True) (λ F2 hF2 hfr=>?_) ?_
  ·exact (C86 K _ p room (t1) F2 x a b r e p' _ hF2 (λ w' hc=>hK w' (hfr w' hc).chg) hpe hst (by omega)).mono λ _ _ r=>r.mono λ _ _ h=>⟨trivial,h.2⟩
  rintro _ _ _ hs;exact hnext _ _ (goKD_14b k5 c) hs
 rw [goFD_end hg1 (hgk.trans (goKD_no k1 k2 k3 k4 k5))];exact ⟨rfl,(dthX.mono (hs.p1).drop (λ _ _=>trivial)).mut⟩
variable (w:World) (K:Value->World->Prop)
def S53 (s0 t1:Value):Prop:=
 cF 80 [t1] w λ a b=>xT a 0 λ c=>xT a 1 λ _=>xT a 2 λ _=>xT a 3 λ d=>aL 24 b λ e f=>sA 24 e c f λ g=>Pop Tryz.prog (Op.unary .not d) λ h=>cV h (K ff g) (Join1 (λ K1=>
 nC t1 λ j=>fA 97 j 4 λ k=>lA 3 k g λ l=>bB .neq 3 l (i 0) λ n=>cV n (K1 tt g) (fA 24 e 0 λ o=>lA 3 o g λ p=>bB .eql 3 p (i 2) λ q=>K1 q g)) (λ r s=>∀ _:Env,
 cV r (K tt s) (Join1 (λ K2=>fA 24 e 0 λ t=>lA 3 t s λ u=>bB .eql 3 u (i 3) λ v=>cV v (K2 tt s) (fA 24 e 0 λ x=>lA 3 x s λ y=>bB .eql 3 y (i 5) λ z=>cV z (K2 tt s) (
 fA 24 e 0 λ aa=>lA 3 aa s λ ab=>bB .eql 3 ab (i 6) λ ac=>cV ac (K2 tt s) (fA 24 e 0 λ ad=>lA 3 ad s λ ae=>bB .eql 3 ae (i 7) λ af=>K2 af s)))) (λ ag ah=>∀ _:Env,
 cV ag (nC t1 λ ai=>fA 97 ai 0 λ aj=>lA 74 aj ah λ ak=>cF 108 [ak] ah λ al am=>Pop Tryz.prog (Op.unary .not al) λ an=>K an am) (Join1 (λ K3=>fA 24 e 0 λ ao=>lA 3 ao (drew ah) λ ap=>
 bB .eql 3 ap (i 9) λ aq=>cV aq (nC s0 λ ar=>fA 81 ar 5 λ asx=>lA 45 asx (drew ah) λ au=>nC s0 λ av=>fA 81 av 2 λ aw=>lA 32 aw (drew ah) λ ax=>fA 24 e 2 λ ay=>
 lA 9 ay (drew ah) λ az=>cF 81 [ax,az] (drew ah) λ a0 a1=>kA 45 asx au a1 (iA 45 au a0 λ a2=>lA 3 a2 a1 λ a3=>bB .neq 3 a3 (i (-1)) λ a4=>K3 a4 a1)) (K3 ff (drew ah)))
 (λ a5 a6=>∀ _:Env,
 cV a5 (K ff a6) (cF 38 [t1] a6 λ a7 a8=>K a7 a8)))))))
def P53:Plans:=λ i=>match i with
 | 8=>(.of [(0,[]),(1,[]),(2,[]),(3,[]),(4,[]),(5,[]),(6,[]),(7,[]),(8,[]),(9,[]),(10,[]),(11,[]),(12,[]),(13,[]),(14,[7]),(15,[]),(16,[]),(17,[]),(18,[]),(19,[])])
 | _=>.nil
theorem S53_ok (s0 t1:Value) (h:S53 w K s0 t1):CR 53 [s0,t1] w K:=
 okG 77 P53 16 [.tmp 4] Tryz.func53 h
def S13 (s0:Value):Prop:=
 nC s0 λ a=>fA 81 a 8 λ b=>lA 3 b w λ c=>bB .neq 3 c (i 0) λ d=>cV d (K (.slice none 0 0) w) (nC s0 λ e=>fA 81 e 6 λ f=>lA 79 f w λ g=>lN 79 g λ h=>Loop2 (λ K1 out3 j k=>∀ _:Env,
 bA .lss 3 j h λ l=>cV l (iA 79 g j λ n=>lA 94 n k λ o=>Join1 (λ K2=>cF 53 [s0,o] k λ p q=>cV p (Pop Tryz.prog (Instr.build 47 [(0,(i 1)),(1,j)].toArray) λ r=>
 bS 55 1 [(0,r)] q λ s t=>aP 55 out3 s t λ u v=>K2 u v) (K2 out3 q)) (λ out3_1 x=>∀ _:Env,
 nC o λ y=>fA 97 y 0 λ z=>lA 74 z x λ aa=>cF 54 [aa] x λ ab ac=>lN 45 ab λ ad=>Loop2 (λ K3 out3_2 ae af=>∀ _:Env,
 bA .lss 3 ae ad λ ag=>cV ag (iA 45 ab ae λ ah=>lA 3 ah af λ ai=>Pop Tryz.prog (Instr.build 47 [(0,(i 2)),(1,j),(2,ai)].toArray) λ aj=>bS 55 1 [(0,aj)] af λ ak al=>
 aP 55 out3_2 ak al λ am an=>bB .add 3 ae (i 1) λ ao=>K3 am ao an) (bB .add 3 j (i 1) λ ap=>K1 out3_2 ap af)) (λ K3=>K3 out3_1 (i 0) ac))) (K out3 k)) (λ K1=>K1 (.slice none 0 0) (i 0) w))
theorem S13_ok (s0:Value) (h:S13 w K s0):CR 13 [s0] w K:=
 okG 50 (λ _=>.nil) 4 [.tmp 2] Tryz.func13 h
def S79 (s0 i1 kind2:Value):Prop:=
 aL 42 w λ a b=>nC s0 λ c=>fA 81 c 8 λ d=>sA 3 d kind2 b λ e=>nC s0 λ f=>fA 81 f 9 λ g=>sA 3 g i1 e λ h=>Pop Tryz.prog (Instr.build 42 [(0,(i 16)),(1,i1),(2,kind2)].toArray) λ j=>
 sA 42 a j h λ k=>lA 42 a k λ r=>K r k
theorem S79_ok (s0 i1 kind2:Value) (h:S79 w K s0 i1 kind2):CR 79 [s0,i1,kind2] w K:=
 okG 18 (λ _=>.nil) 64 [.cell 6 42] Tryz.func79 h
def S82 (s0 t1 a cell3:Value):Prop:=
 Eop Tryz.prog (Instr.box 24 a) w λ b c=>aL 42 c λ d e=>nC t1 λ f=>fA 97 f 0 λ g=>lA 74 g e λ h=>cF 139 [h,cell3] e λ j k=>xT j 0 λ l=>xT j 1 λ n=>Join2 (λ K1=>
 Pop Tryz.prog (Op.unary .not n) λ o=>cV o (nC s0 λ p=>fA 81 p 4 λ q=>lA 78 q k λ s=>cF 140 [s,cell3] k λ t u=>xT t 0 λ v=>xT t 1 λ _=>K1 v (i 1) u) (K1 l (i 2) k))
 (λ n9 kind11 x=>∀ _:Env,
 nC t1 λ y=>fA 97 y 2 λ z=>lA 45 z (drew x) λ aa=>nC t1 λ ab=>fA 97 ab 1 λ ac=>lA 32 ac (drew x) λ ad=>fA 24 b 1 λ ae=>lA 9 ae (drew x) λ af=>cF 81 [ad,af] (drew x) λ ag ah=>
 kA 45 z aa ah (iA 45 aa ag λ ai=>sA 3 ai n9 ah λ aj=>Pop Tryz.prog (Instr.build 42 [(0,kind11),(2,cell3),(3,n9)].toArray) λ ak=>sA 42 d ak aj λ al=>lA 42 d al λ r=>
 K r al))
def P82:Plans:=λ i=>match i with
 | 6=>(.of [(0,[]),(1,[]),(2,[]),(3,[]),(4,[]),(5,[]),(6,[]),(7,[]),(8,[]),(9,[]),(11,[]),(10,[3]),(12,[]),(13,[])])
 | _=>.nil
theorem S82_ok (s0 t1 x2 cell3:Value) (h:S82 w K s0 t1 x2 cell3):CR 82 [s0,t1,x2,cell3] w K:=
 okG 49 P82 256 [.cell 8 42] Tryz.func82 h
def S85 (s0 t1 a cell3:Value):Prop:=
 Eop Tryz.prog (Instr.box 24 a) w λ b c=>aL 42 c λ d e=>nC s0 λ f=>fA 81 f 4 λ g=>lA 78 g e λ h=>cF 140 [h,cell3] e λ j k=>xT j 0 λ l=>xT j 1 λ _=>fA 24 b 3 λ n=>
 lA 22 n k λ o=>cF 83 [t1,o] k λ p q=>xT p 0 λ s=>xT p 1 λ _=>fA 24 b 4 λ t=>lA 22 t q λ u=>cF 83 [t1,u] q λ v x=>xT v 0 λ y=>xT v 1 λ _=>nC t1 λ z=>
 fA 97 z 2 λ aa=>lA 45 aa (drew x) λ ab=>nC t1 λ ac=>fA 97 ac 1 λ ad=>lA 32 ad (drew x) λ ae=>fA 24 b 1 λ af=>lA 9 af (drew x) λ ag=>cF 81 [ae,ag] (drew x) λ ah ai=>
 kA 45 aa ab ai (iA 45 ab ah λ aj=>sA 3 aj l ai λ ak=>bA .neq 3 l s λ al=>cV al (Pop Tryz.prog (Instr.build 42 [(0,(i 9)),(2,cell3),(3,l)].toArray) λ am=>sA 42 d am ak λ an=>
 lA 42 d an λ r=>K r an) (nC s0 λ ao=>fA 81 ao 4 λ ap=>lA 78 ap ak λ aq=>cF 77 [aq,cell3,y] ak λ _ ar=>Pop Tryz.prog (Instr.build 42 [(0,(i 8)),(2,cell3),(3,l),(4,y)].toArray) λ asx=>
 sA 42 d asx ar λ au=>lA 42 d au λ r_1=>K r_1 au))
def P85:Plans:=λ i=>match i with
 | 4=>(.of [(0,[]),(1,[]),(2,[]),(3,[]),(4,[]),(5,[]),(6,[]),(7,[]),(8,[]),(9,[]),(11,[]),(10,[3]),(12,[]),(13,[])])
 | _=>.nil
theorem S85_ok (s0 t1 x2 cell3:Value) (h:S85 w K s0 t1 x2 cell3):CR 85 [s0,t1,x2,cell3] w K:=
 okG 68 P85 256 [.cell 8 42] Tryz.func85 h
def S36 (s0 i1:Value):Prop:=
 aL 42 w λ a b=>nC s0 λ c=>fA 81 c 6 λ d=>lA 79 d b λ e=>iA 79 e i1 λ f=>lA 94 f b λ g=>nC g λ h=>fA 97 h 4 λ j=>lA 3 j b λ k=>bB .neq 3 k (i 0) λ l=>
 cV l (nC g λ n=>fA 97 n 4 λ o=>lA 3 o b λ p=>cF 79 [s0,i1,p] b λ q s=>sA 42 a q s λ t=>lA 42 a t λ r=>K r t) (cF 80 [g] b λ u v=>xT u 0 λ x=>xT u 1 λ _=>
 xT u 2 λ _=>xT u 3 λ _=>aL 24 v λ y z=>sA 24 y x z λ aa=>nC s0 λ ab=>fA 81 ab 1 λ ac=>lA 32 ac (drew aa) λ ad=>fA 24 y 2 λ ae=>lA 9 ae (drew aa) λ af=>nC s0 λ ag=>
 fA 81 ag 2 λ ah=>lA 32 ah (drew aa) λ ai=>fA 24 y 2 λ aj=>lA 9 aj (drew aa) λ ak=>cF 81 [ad,af] (drew aa) λ al am=>kA 32 ah ai am (kA 9 aj ak am (cF 81 [ai,ak] am λ an ao=>
 nC s0 λ ap=>fA 81 ap 0 λ aq=>lA 40 aq ao λ ar=>cF 26 [ar,al] ao λ asx au=>aL 42 au λ v13 av=>Join0 (λ K1=>fA 24 y 0 λ aw=>lA 3 aw av λ ax=>bB .eql 3 ax (i 2) λ ay=>
 cV ay (lA 24 y av λ az=>cF 82 [s0,g,az,al] av λ a0 a1=>sA 42 v13 a0 a1 λ a2=>K1 a2) (bB .eql 3 ax (i 3) λ a3=>cV a3 (fA 24 y 3 λ a4=>lA 22 a4 av λ a5=>cF 83 [g,a5] av λ a6 a7=>
 xT a6 0 λ a8=>xT a6 1 λ _=>nC g λ a9=>fA 97 a9 0 λ ba=>lA 74 ba a7 λ bb=>Pop Tryz.prog (Instr.build 152 [(0,(i 3)),(1,asx),(2,al),(3,a8)].toArray) λ bc=>cF 84 [bb,bc] a7 λ _ bd=>
 Pop Tryz.prog (Instr.build 42 [(0,(i 3)),(2,al),(3,a8)].toArray) λ be=>sA 42 v13 be bd λ bf=>K1 bf) (bB .eql 3 ax (i 5) λ bg=>cV bg (nC g λ bh=>fA 97 bh 0 λ bi=>
 lA 74 bi av λ bj=>Pop Tryz.prog (Instr.build 152 [(0,(i 5)),(1,asx)].toArray) λ bk=>cF 84 [bj,bk] av λ _ bl=>Pop Tryz.prog (Instr.build 42 [(0,(i 4)),(2,asx)].toArray) λ bm=>
 sA 42 v13 bm bl λ bn=>K1 bn) (bB .eql 3 ax (i 6) λ bo=>cV bo (nC g λ bp=>fA 97 bp 0 λ bq=>lA 74 bq av λ br=>Pop Tryz.prog (Instr.build 152 [(0,(i 6)),(1,asx)].toArray) λ bs=>
 cF 84 [br,bs] av λ _ bt=>Pop Tryz.prog (Instr.build 42 [(0,(i 5)),(2,asx)].toArray) λ bu=>sA 42 v13 bu bt λ bv=>K1 bv) (bB .eql 3 ax (i 7) λ bw=>cV bw (nC g λ bx=>
 fA 97 bx 0 λ bz=>lA 74 bz av λ b0=>Pop Tryz.prog (Instr.build 152 [(0,(i 7))].toArray) λ b1=>cF 84 [b0,b1] av λ _ b2=>Pop Tryz.prog (Instr.build 42 [(0,(i 6))].toArray) λ b3=>
 sA 42 v13 b3 b2 λ b4=>K1 b4) (bB .eql 3 ax (i 8) λ b5=>cV b5 (Pop Tryz.prog (Instr.build 42 [(0,(i 7))].toArray) λ b6=>sA 42 v13 b6 av λ b7=>K1 b7) (bB .eql 3 ax (i 4) λ b8=>
 cV b8 (lA 24 y av λ b9=>cF 85 [s0,g,b9,al] av λ ca cb=>sA 42 v13 ca cb λ cc=>K1 cc) (bB .eql 3 ax (i 9) λ cd=>cV cd (nC s0 λ ce=>fA 81 ce 5 λ cf=>lA 45 cf av λ cg=>
 iA 45 cg an λ ch=>sA 3 ch i1 av λ ci=>Pop Tryz.prog (Instr.build 42 [(0,(i 10)),(2,an)].toArray) λ cj=>sA 42 v13 cj ci λ ck=>K1 ck) (nC s0 λ cl=>fA 81 cl 5 λ cm=>
 lA 45 cm av λ cn=>iA 45 cn an λ co=>lA 3 co av λ cp=>bA .neq 3 cp i1 λ cq=>cV cq (cF 79 [s0,i1,(i 3)] av λ cr cs=>sA 42 a cr cs λ ct=>lA 42 a ct λ r_1=>K r_1 ct) (
 nC s0 λ cu=>fA 81 cu 5 λ cv=>lA 45 cv av λ cw=>iA 45 cw an λ cx=>sA 3 cx (i (-1)) av λ cy=>Pop Tryz.prog (Instr.build 42 [(0,(i 11)),(2,an)].toArray) λ cz=>sA 42 v13 cz cy λ c0=>
 K1 c0)))))))))) (λ c1=>∀ _:Env,
 fA 42 v13 1 λ c2=>sA 3 c2 i1 c1 λ c3=>cF 86 [g] c3 λ _ c4=>cF 73 [g] c4 λ _ c5=>lA 42 v13 c5 λ c6=>sA 42 a c6 c5 λ c7=>lA 42 a c7 λ r_2=>K r_2 c7))))
def P36:Plans:=λ i=>match i with
 | 5=>(.of [(0,[]),(1,[]),(2,[]),(3,[]),(4,[]),(5,[]),(7,[]),(8,[]),(9,[]),(10,[]),(11,[]),(12,[]),(6,[10,12]),(13,[]),(14,[]),(15,[])])
 | _=>.nil
theorem S36_ok (s0 i1:Value) (h:S36 w K s0 i1):CR 36 [s0,i1] w K:=
 okG 171 P36 16 [.cell 4 42] Tryz.func36 h
def S35 (s0 p1:Value):Prop:=
 Eop Tryz.prog (Instr.box 47 p1) w λ p3 a=>aL 42 a λ b c=>Join1 (λ K1=>nC s0 λ d=>fA 81 d 6 λ e=>lA 79 e (drew c) λ f=>fA 47 p3 1 λ g=>lA 3 g (drew c) λ h=>
 iA 79 f h λ j=>lA 94 j (drew c) λ k=>nC k λ l=>fA 97 l 0 λ n=>lA 74 n (drew c) λ o=>fA 47 p3 2 λ p=>lA 3 p (drew c) λ q=>((cF 76 [o,q] (drew c) λ s t=>xT s 0 λ u=>
 xT s 1 λ _=>aL 152 t λ v x=>kA 79 e f x (kA 3 g h x (kA 94 j k x (kA 74 n o x (kA 3 p q x (sA 152 v u x λ y=>K1 v y))))))
 /\((aL 152 (drew c) λ z aa=>kA 79 e f aa (kA 3 g h aa (kA 94 j k aa (kA 74 n o aa (kA 3 p q aa (cF 76 [o,q] aa λ ab ac=>xT ab 0 λ ad=>xT ab 1 λ _=>sA 152 z ad ac λ ae=>
 K1 z ae))))))
 /\
 True))) (λ af ag=>∀ _:Env,
 fA 152 af 0 λ ah=>lA 3 ah ag λ ai=>bB .eql 3 ai (i 3) λ aj=>cV aj (nC s0 λ ak=>fA 81 ak 4 λ al=>lA 78 al (drew ag) λ am=>fA 152 af 2 λ an=>lA 3 an (drew ag) λ ao=>
 fA 152 af 3 λ ap=>lA 3 ap (drew ag) λ aq=>cF 77 [am,ao,aq] (drew ag) λ _ ar=>fA 47 p3 1 λ asx=>lA 3 asx ar λ au=>fA 152 af 2 λ av=>lA 3 av ar λ aw=>fA 152 af 3 λ ax=>
 lA 3 ax ar λ ay=>Pop Tryz.prog (Instr.build 42 [(0,(i 12)),(1,au),(2,aw),(3,ay)].toArray) λ az=>sA 42 b az ar λ a0=>lA 42 b a0 λ r=>K r a0) (bB .eql 3 ai (i 7) λ a1=>
 cV a1 (fA 47 p3 1 λ a2=>lA 3 a2 ag λ a3=>Pop Tryz.prog (Instr.build 42 [(0,(i 14)),(1,a3)].toArray) λ a4=>sA 42 b a4 ag λ a5=>lA 42 b a5 λ r_1=>K r_1 a5) (nC s0 λ a6=>
 fA 81 a6 4 λ a7=>lA 78 a7 (drew ag) λ a8=>fA 152 af 1 λ a9=>lA 3 a9 (drew ag) λ ba=>cF 78 [a8,ba] (drew ag) λ _ bb=>fA 47 p3 1 λ bc=>lA 3 bc bb λ bd=>fA 152 af 1 λ be=>
 lA 3 be bb λ bf=>Pop Tryz.prog (Instr.build 42 [(0,(i 13)),(1,bd),(2,bf)].toArray) λ bg=>sA 42 b bg bb λ bh=>lA 42 b bh λ r_2=>K r_2 bh)))
def P35:Plans:=λ i=>match i with
 | 1=>(.op 0 [] (.op 1 [] (.op 2 [] (.op 3 [] (.op 4 [] (.op 5 [] (.op 6 [] (.op 7 [] (.op 8 [] (.op 9 [] (.op 10 [] (.op 11 [] (.op 12 [] (.alt 13 [] (.of [(14,[]),(15,[]),(16,[]),(17,[3,5,7,10,12]),(18,[]),(19,[])]) (.alt 17 [3,5,7,10,12] (.of [(13,[]),(14,[]),(15,[]),(16,[]),(18,[]),(19,[])]) .stop)))))))))))))))
 | 4=>.run 0 9
 | 8=>.run 0 7
 | _=>.nil
theorem S35_ok (s0 p1:Value) (h:S35 w K s0 p1):CR 35 [s0,p1] w K:=
 okG 61 P35 16 [.cell 4 42] Tryz.func35 h
def S30 (s0 l1:Value):Prop:=
 nC s0 λ a=>fA 81 a 6 λ b=>sA 79 b (.slice none 0 0) w λ c=>nC s0 λ d=>fA 81 d 5 λ e=>sA 45 e (.slice none 0 0) c λ f=>nC s0 λ g=>fA 81 g 2 λ h=>lA 32 h f λ j=>
 lN 32 j λ k=>Loop1 (λ K1 l n=>∀ _:Env,
 bA .lss 3 l k λ o=>cV o (nC s0 λ p=>fA 81 p 5 λ q=>lA 45 q n λ r=>bS 45 1 [(0,(i (-1)))] n λ s t=>aP 45 r s t λ u v=>nC s0 λ x=>fA 81 x 5 λ y=>sA 45 y u v λ z=>
 bB .add 3 l (i 1) λ aa=>K1 aa z) (lN 35 l1 λ ab=>Loop1 (λ K2 ac ad=>∀ _:Env,
 bA .lss 3 ac ab λ ae=>cV ae (iA 35 l1 ac λ af=>lA 34 af ad λ ag=>aL 34 ad λ ah ai=>sA 34 ah ag ai λ aj=>nC s0 λ ak=>fA 81 ak 3 λ al=>lA 3 al aj λ am=>cF 23 [am] aj λ an ao=>
 xT an 0 λ ap=>xT an 1 λ _=>fA 34 ah 1 λ aq=>lA 32 aq (drew ao) λ ar=>fA 34 ah 1 λ asx=>lA 32 asx (drew ao) λ au=>lN 32 au λ av=>Eop Tryz.prog (Instr.makeSlice 45 av av) (drew ao) λ aw ax=>
 kA 32 aq ar ax (Pop Tryz.prog (Instr.build 97 [(0,ap),(1,ar),(2,aw)].toArray) λ ay=>Eop Tryz.prog (Instr.box 97 ay) ax λ az a0=>fA 34 ah 2 λ a1=>lA 27 a1 a0 λ a2=>
 cF 72 [az,a2,ff] a0 λ _ a3=>cF 73 [az] a3 λ _ a4=>nC s0 λ a5=>fA 81 a5 6 λ a6=>lA 79 a6 a4 λ a7=>bS 79 1 [(0,az)] a4 λ a8 a9=>aP 79 a7 a8 a9 λ ba bb=>nC s0 λ bc=>
 fA 81 bc 6 λ bd=>sA 79 bd ba bb λ be=>bB .add 3 ac (i 1) λ bf=>K2 bf be)) (K (.tuple #[]) ad)) (λ K2=>K2 (i 0) n))) (λ K1=>K1 (i 0) f)
def P30:Plans:=λ i=>match i with
 | 9=>(.of [(0,[]),(1,[]),(2,[]),(3,[]),(4,[]),(5,[]),(6,[2]),(7,[]),(8,[]),(9,[])])
 | _=>.nil
theorem S30_ok (s0 l1:Value) (h:S30 w K s0 l1):CR 30 [s0,l1] w K:=
 okG 72 P30 0 [] Tryz.func30 h
def S7 (s0 p1:Value):Prop:=
 Eop Tryz.prog (Instr.box 47 p1) w λ p3 a=>aL 42 a λ b c=>Join1 (λ K1=>fA 47 p3 0 λ d=>lA 3 d (drew c) λ e=>bB .eql 3 e (i 3) λ f=>cV f (fA 47 p3 1 λ g=>lA 3 g (drew c) λ h=>
 bB .eql 3 h (i 0) λ j=>cV j (fA 47 p3 2 λ k=>lA 3 k (drew c) λ l=>bB .eql 3 l (i 0) λ n=>cV n (nC s0 λ o=>fA 81 o 8 λ p=>lA 3 p (drew c) λ q=>bB .eql 3 q (i 0) λ s=>
 cV s (nC s0 λ t=>fA 81 t 4 λ u=>lA 78 u (drew c) λ v=>fA 47 p3 3 λ x=>lA 45 x (drew c) λ y=>cF 31 [v,y] (drew c) λ z aa=>bB .eql 29 z (i 0) λ ab=>K1 ab aa) (
 K1 ff (drew c))) (K1 ff (drew c))) (K1 ff (drew c))) (K1 ff (drew c))) (λ ac ad=>∀ _:Env,
 cV ac (nC s0 λ ae=>fA 81 ae 7 λ af=>lA 3 af ad λ ag=>bB .add 3 ag (i 1) λ ah=>nC s0 λ ai=>fA 81 ai 7 λ aj=>sA 3 aj ah ad λ ak=>nC s0 λ al=>fA 81 al 0 λ am=>
 fA 40 am 4 λ an=>lA 35 an ak λ ao=>Join1 (λ K2=>lN 35 ao λ ap=>bB .eql 3 ap (i 0) λ aq=>cV aq (Pop Tryz.prog (Instr.build 34 [].toArray) λ ar=>bS 35 1 [(0,ar)] ak λ asx au=>
 K2 asx au) (K2 ao ak)) (λ rec6 av=>∀ _:Env,
 cF 30 [s0,rec6] av λ _ aw=>fA 47 p3 3 λ ax=>lA 45 ax aw λ ay=>cF 32 [ay] aw λ az a0=>Pop Tryz.prog (Instr.build 42 [(0,(i 15)),(3,az)].toArray) λ a1=>sA 42 b a1 a0 λ a2=>
 lA 42 b a2 λ r=>K (.tuple #[r,(i 0)]) a2)) (cF 13 [s0] ad λ a3 a4=>cF 34 [a3,(.func (Go.Fn.func 33) [].toArray [p3].toArray)] a4 λ a5 a6=>Pop Tryz.prog (Op.unary .not a5) λ a7=>
 cV a7 (Pop Tryz.prog (Instr.build 42 [].toArray) λ a8=>sA 42 b a8 a6 λ a9=>lA 42 b a9 λ r_1=>K (.tuple #[r_1,(i 13)]) a9) (fA 47 p3 0 λ ba=>lA 3 ba a6 λ bb=>bB .eql 3 bb (i 2) λ bc=>
 cV bc (lA 47 p3 a6 λ bd=>cF 35 [s0,bd] a6 λ be bf=>sA 42 b be bf λ bg=>lA 42 b bg λ r_2=>K (.tuple #[r_2,(i 0)]) bg) (fA 47 p3 1 λ bh=>lA 3 bh a6 λ bi=>cF 36 [s0,bi] a6 λ bj bk=>
 sA 42 b bj bk λ bl=>lA 42 b bl λ r_3=>K (.tuple #[r_3,(i 0)]) bl))))
def P7:Plans:=λ i=>match i with
 | 1=>.run 0 30
 | _=>.nil
theorem S7_ok (s0 p1:Value) (h:S7 w K s0 p1):CR 7 [s0,p1] w K:=
 okG 79 P7 48 [.cell 4 42,.tmp 5] Tryz.func7 h
def S33 (q0 a:Value):Prop:=
 Eop Tryz.prog (Instr.box 47 q0) w λ q2 b=>Join1 (λ K1=>fA 47 q2 0 λ c=>lA 3 c b λ d=>fA 47 a 0 λ e=>lA 3 e b λ f=>bA .eql 3 d f λ g=>cV g (fA 47 q2 1 λ h=>
 lA 3 h b λ j=>fA 47 a 1 λ k=>lA 3 k b λ l=>bA .eql 3 j l λ n=>cV n (fA 47 q2 2 λ o=>lA 3 o b λ p=>fA 47 a 2 λ q=>lA 3 q b λ r=>bA .eql 3 p r λ s=>cV s (
 fA 47 a 3 λ t=>lA 45 t b λ u=>lN 45 u λ v=>bB .eql 3 v (i 0) λ x=>K1 x b) (K1 ff b)) (K1 ff b)) (K1 ff b)) (λ y z=>∀ _:Env,
 K y z)
theorem S33_ok (q0 x1:Value) (h:S33 w K q0 x1):CR 33 [q0,x1] w K:=
 okG 29 (λ _=>.nil) 8 [.tmp 3] Tryz.func33 h
def S8 (s0:Value):Prop:=
 aL 49 w λ a b=>nC s0 λ c=>fA 81 c 7 λ d=>lA 3 d (drew b) λ e=>nC s0 λ f=>fA 81 f 8 λ g=>lA 3 g (drew b) λ h=>nC s0 λ j=>fA 81 j 9 λ k=>lA 3 k (drew b) λ l=>
 Pop Tryz.prog (Instr.build 49 [(0,e),(1,h),(2,l)].toArray) λ n=>aL 49 (drew b) λ o p=>kA 3 d e p (kA 3 g h p (kA 3 k l p (sA 49 o n p λ q=>Join0 (λ K1=>nC s0 λ s=>
 fA 81 s 8 λ t=>lA 3 t q λ u=>bB .eql 3 u (i 0) λ v=>cV v (nC s0 λ x=>fA 81 x 6 λ y=>lA 79 y q λ z=>cF 39 [z,(.func (.func 37) #[] #[])] q λ aa ab=>Pop Tryz.prog (Op.unary .not aa) λ ac=>
 fA 49 o 3 λ ad=>sA 4 ad ac ab λ ae=>K1 ae) (fA 49 o 3 λ af=>sA 4 af ff q λ ag=>K1 ag)) (λ ah=>∀ _:Env,
 Join0 (λ K2=>nC s0 λ ai=>fA 81 ai 8 λ aj=>lA 3 aj ah λ ak=>bB .eql 3 ak (i 0) λ al=>cV al (fA 49 o 3 λ am=>lA 4 am ah λ an=>Pop Tryz.prog (Op.unary .not an) λ ao=>
 cV ao (cF 13 [s0] ah λ ap aq=>lN 55 ap λ ar=>bB .eql 3 ar (i 0) λ asx=>fA 49 o 4 λ au=>sA 4 au asx aq λ av=>K2 av) (fA 49 o 4 λ aw=>sA 4 aw ff ah λ ax=>K2 ax)) (
 fA 49 o 4 λ ay=>sA 4 ay ff ah λ az=>K2 az)) (λ a0=>∀ _:Env,
 lA 49 o a0 λ a1=>sA 49 a a1 a0 λ a2=>lA 49 a a2 λ r=>K r a2)))))
def P8:Plans:=λ i=>match i with
 | 2=>(.of [(0,[]),(1,[]),(2,[]),(3,[]),(4,[]),(5,[]),(6,[]),(7,[]),(8,[]),(9,[]),(10,[]),(11,[]),(12,[]),(13,[3,7,11]),(14,[])])
 | _=>.nil
theorem S8_ok (s0:Value) (h:S8 w K s0):CR 8 [s0] w K:=
 okG 51 P8 4 [.cell 2 49] Tryz.func8 h
def S37 (t0:Value):Prop:=
 Join1 (λ K1=>nC t0 λ a=>fA 97 a 3 λ b=>lA 95 b w λ c=>lN 95 c λ d=>bB .gtr 3 d (i 0) λ e=>cV e (K1 tt w) (cF 38 [t0] w λ f g=>Pop Tryz.prog (Op.unary .not f) λ h=>
 K1 h g)) (λ j k=>∀ _:Env,
 K j k)
theorem S37_ok (t0:Value) (h:S37 w K t0):CR 37 [t0] w K:=
 okG 14 (λ _=>.nil) 4 [.tmp 2] Tryz.func37 h
def S16 (s0:Value):Prop:=
 nC s0 λ a=>fA 81 a 4 λ b=>lA 78 b w λ c=>cF 55 [c] w λ d e=>K d e
theorem S16_ok (s0:Value) (h:S16 w K s0):CR 16 [s0] w K:=
 okG 8 (λ _=>.nil) 4 [.tmp 2] Tryz.func16 h
def S44 (s0:Value):Prop:=
 nC s0 λ a=>fA 81 a 0 λ b=>lA 40 b w λ c=>cF 28 [c] w λ d e=>nC s0 λ f=>fA 81 f 0 λ g=>fA 40 g 5 λ h=>lA 38 h e λ j=>lN 38 j λ k=>Loop2 (λ K1 out4 l n=>∀ _:Env,
 bA .lss 3 l k λ o=>cV o (Join1 (λ K2=>iA 38 j l λ p=>lA 112 p n λ q=>aL 112 n λ c6 r=>sA 112 c6 q r λ s=>fA 112 c6 0 λ t=>lA 22 t (drew s) λ u=>nC s0 λ v=>
 fA 81 v 1 λ x=>lA 32 x (drew s) λ y=>Pop Tryz.prog (Instr.sliceAt 32 y none (some d) none) λ z=>cF 16 [s0] (drew s) λ aa ab=>kA 22 t u ab (kA 32 x y ab (Pop Tryz.prog (Instr.sliceAt 45 aa none (some d) none) λ ac=>
 cF 99 [u,z,ac] ab λ ad ae=>xT ad 0 λ af=>xT ad 1 λ ag=>bB .eql 29 ag (i 0) λ ah=>cV ah (bB .neq 3 af (i 0) λ ai=>bS 106 1 [(0,ai)] ae λ aj ak=>aP 106 out4 aj ak λ al am=>
 K2 al am) (bS 106 1 [(0,ff)] ae λ an ao=>aP 106 out4 an ao λ ap aq=>K2 ap aq)))) (λ out4_1 ar=>∀ _:Env,
 bB .add 3 l (i 1) λ asx=>K1 out4_1 asx ar)) (K out4 n)) (λ K1=>K1 (.slice none 0 0) (i 0) e)
def P44:Plans:=λ i=>match i with
 | 6=>(.of [(0,[]),(1,[]),(2,[]),(3,[]),(4,[]),(5,[]),(6,[]),(7,[]),(8,[]),(10,[]),(9,[1,5]),(11,[]),(12,[]),(13,[]),(14,[]),(15,[]),(16,[]),(17,[])])
 | _=>.nil
theorem S44_ok (s0:Value) (h:S44 w K s0):CR 44 [s0] w K:=
 okG 51 P44 4 [.tmp 2] Tryz.func44 h
def S6 (p0 room1:Value):Prop:=
 Eop Tryz.prog (Instr.box 40 p0) w λ p2 a=>lA 40 p2 a λ b=>cF 22 [b] a λ c d=>xT c 0 λ e=>xT c 1 λ _=>bB .neq 29 e (i 0) λ f=>cV f (K (.tuple #[(.pointer none),e]) d) (
 cF 23 [room1] d λ g h=>xT g 0 λ _=>xT g 1 λ j=>bB .neq 29 j (i 0) λ k=>cV k (K (.tuple #[(.pointer none),j]) h) (lA 40 p2 (drew h) λ l=>lA 40 p2 (drew h) λ n=>lA 40 p2 (drew h) λ o=>
 cF 24 [n] (drew h) λ p q=>kA 40 p2 l q (kA 40 p2 o q (cF 25 [o] q λ r s=>kA 40 p2 l s (Pop Tryz.prog (Instr.build 81 [(0,l),(1,p),(2,r),(3,room1)].toArray) λ t=>Eop Tryz.prog (Instr.box 81 t) s λ u v=>
 nC u λ x=>fA 81 x 1 λ y=>lA 32 y v λ z=>lN 32 z λ aa=>Loop2 (λ K1 of11 ab ac=>∀ _:Env,
 bA .lss 3 ab aa λ ad=>cV ad (lA 40 p2 ac λ ae=>cF 26 [ae,ab] ac λ af ag=>bS 45 1 [(0,af)] ag λ ah ai=>aP 45 of11 ah ai λ aj ak=>bB .add 3 ab (i 1) λ al=>K1 aj al ak) (
 lA 40 p2 (drew ac) λ am=>lA 40 p2 (drew ac) λ an=>cF 28 [am] (drew ac) λ ao ap=>kA 40 p2 an ap (cF 29 [an] ap λ aq ar=>cF 27 [of11,ao,aq] ar λ asx au=>xT asx 0 λ av=>
 xT asx 1 λ _=>nC u λ aw=>fA 81 aw 4 λ ax=>sA 78 ax av au λ ay=>fA 40 p2 3 λ az=>lA 35 az ay λ a0=>cF 30 [u,a0] ay λ _ a1=>K (.tuple #[u,(i 0)]) a1))) (λ K1=>K1 (.slice none 0 0) (i 0) v))))))
def P6:Plans:=λ i=>match i with
 | 7=>(.of [(0,[]),(1,[]),(3,[]),(5,[]),(2,[0,3]),(4,[0]),(6,[]),(7,[]),(8,[])])
 | 14=>(.of [(0,[]),(1,[]),(2,[]),(4,[]),(3,[4]),(5,[]),(6,[]),(7,[]),(8,[]),(9,[]),(10,[]),(11,[]),(12,[])])
 | _=>.nil
theorem S6_ok (p0 room1:Value) (h:S6 w K p0 room1):CR 6 [p0,room1] w K:=
 okG 69 P6 48 [.tmp 4,.tmp 5] Tryz.func6 h
def S32 (cut0:Value):Prop:=
 lN 45 cut0 λ a=>Loop2 (λ K1 n3 b c=>∀ _:Env,
 bA .lss 3 b a λ d=>cV d (iA 45 cut0 b λ e=>lA 3 e c λ f=>bB .mul 3 n3 (i 10000) λ g=>bA .add 3 g f λ h=>bB .add 3 b (i 1) λ j=>K1 h j c) (K n3 c)) (λ K1=>K1 (i 0) (i 0) w)
theorem S32_ok (cut0:Value) (h:S32 w K cut0):CR 32 [cut0] w K:=
 okG 18 (λ _=>.nil) 4 [.tmp 2] Tryz.func32 h
def S39 (s0 f1:Value):Prop:=
 cF 88 [s0,f1] w λ a b=>bB .geq 3 a (i 0) λ c=>K c b
theorem S39_ok (s0 f1:Value) (h:S39 w K s0 f1):CR 39 [s0,f1] w K:=
 okG 9 (λ _=>.nil) 16 [.tmp 4] Tryz.func39 h
def S88 (s0 f1:Value):Prop:=
 lN 79 s0 λ a=>Loop1 (λ K1 b c=>∀ _:Env,
 bA .lss 3 b a λ d=>cV d (iA 79 s0 b λ e=>lA 94 e c λ f=>CallV Tryz.prog f1 [f] c λ g h=>cV g (K b h) (bB .add 3 b (i 1) λ j=>K1 j h)) (K (i (-1)) c)) (λ K1=>K1 (i 0) w)
theorem S88_ok (s0 f1:Value) (h:S88 w K s0 f1):CR 88 [s0,f1] w K:=
 okG 19 (λ _=>.nil) 16 [.tmp 4] Tryz.func88 h
theorem pl53:PL 53:=plE Tryz.func53
theorem pl13:PL 13:=plE Tryz.func13
theorem pl79:PL 79:=plE Tryz.func79
theorem pl82:PL 82:=plE Tryz.func82
theorem pl85:PL 85:=plE Tryz.func85
theorem pl36:PL 36:=plE Tryz.func36
theorem pl35:PL 35:=plE Tryz.func35
theorem pl30:PL 30:=plE Tryz.func30
theorem pl7:PL 7:=plE Tryz.func7
theorem pl33:PL 33:=plE Tryz.func33
theorem pl8:PL 8:=plE Tryz.func8
theorem pl37:PL 37:=plE Tryz.func37
theorem pl16:PL 16:=plE Tryz.func16
theorem pl44:PL 44:=plE Tryz.func44
theorem pl6:PL 6:=plE Tryz.func6
theorem pl32:PL 32:=plE Tryz.func32
theorem pl39:PL 39:=plE Tryz.func39
theorem pl88:PL 88:=plE Tryz.func88
end Go.Proofs.YtfkgkbhbdffckaaGreatDoor
namespace Go.Proofs.YtfkgkbhbdffckaaGreatDoor
open Go.Fw
theorem bld42_:pr Tryz.prog (Instr.build 42 [].toArray)=some (.agg [.int .i64 0,.int .i64 0,.int .i64 0,.int .i64 0,.int .i64 0].toArray):=by kernel_rfl
theorem bld42_0 (a0:Int):pr Tryz.prog (Instr.build 42 [(0,.int .i64 a0)].toArray)=some (.agg [.int .i64 a0,.int .i64 0,.int .i64 0,.int .i64 0,.int .i64 0].toArray):=by kernel_rfl
theorem bld42_0_1 (a0:Int) (a1:Int):pr Tryz.prog (Instr.build 42 [(0,.int .i64 a0),(1,.int .i64 a1)].toArray)=some (.agg [.int .i64 a0,.int .i64 a1,.int .i64 0,.int .i64 0,.int .i64 0].toArray):=by kernel_rfl
theorem bld42_0_1_2 (a0:Int) (a1:Int) (a2:Int):pr Tryz.prog (Instr.build 42 [(0,.int .i64 a0),(1,.int .i64 a1),(2,.int .i64 a2)].toArray)=some (.agg [.int .i64 a0,.int .i64 a1,.int .i64 a2,.int .i64 0,.int .i64 0].toArray):=by kernel_rfl
theorem bld42_0_1_2_3 (a0:Int) (a1:Int) (a2:Int) (a3:Int):pr Tryz.prog (Instr.build 42 [(0,.int .i64 a0),(1,.int .i64 a1),(2,.int .i64 a2),(3,.int .i64 a3)].toArray)=some (.agg [.int .i64 a0,.int .i64 a1,.int .i64 a2,.int .i64 a3,.int .i64 0].toArray):=by kernel_rfl
theorem bld42_0_2 (a0:Int) (a2:Int):pr Tryz.prog (Instr.build 42 [(0,.int .i64 a0),(2,.int .i64 a2)].toArray)=some (.agg [.int .i64 a0,.int .i64 0,.int .i64 a2,.int .i64 0,.int .i64 0].toArray):=by kernel_rfl
theorem bld42_0_2_3 (a0:Int) (a2:Int) (a3:Int):pr Tryz.prog (Instr.build 42 [(0,.int .i64 a0),(2,.int .i64 a2),(3,.int .i64 a3)].toArray)=some (.agg [.int .i64 a0,.int .i64 0,.int .i64 a2,.int .i64 a3,.int .i64 0].toArray):=by kernel_rfl
theorem bld42_0_2_3_4 (a0:Int) (a2:Int) (a3:Int) (a4:Int):pr Tryz.prog (Instr.build 42 [(0,.int .i64 a0),(2,.int .i64 a2),(3,.int .i64 a3),(4,.int .i64 a4)].toArray)=some (.agg [.int .i64 a0,.int .i64 0,.int .i64 a2,.int .i64 a3,.int .i64 a4].toArray):=by kernel_rfl
theorem bld42_0_3 (a0:Int) (a3:Int):pr Tryz.prog (Instr.build 42 [(0,.int .i64 a0),(3,.int .i64 a3)].toArray)=some (.agg [.int .i64 a0,.int .i64 0,.int .i64 0,.int .i64 a3,.int .i64 0].toArray):=by kernel_rfl
theorem bld47_0_1 (a0:Int) (a1:Int):pr Tryz.prog (Instr.build 47 [(0,.int .i64 a0),(1,.int .i64 a1)].toArray)=some (.agg [.int .i64 a0,.int .i64 a1,.int .i64 0,.slice none 0 0].toArray):=by kernel_rfl
theorem bld47_0_1_2 (a0:Int) (a1:Int) (a2:Int):pr Tryz.prog (Instr.build 47 [(0,.int .i64 a0),(1,.int .i64 a1),(2,.int .i64 a2)].toArray)=some (.agg [.int .i64 a0,.int .i64 a1,.int .i64 a2,.slice none 0 0].toArray):=by kernel_rfl
theorem bld49_0_1_2 (a0:Int) (a1:Int) (a2:Int):pr Tryz.prog (Instr.build 49 [(0,.int .i64 a0),(1,.int .i64 a1),(2,.int .i64 a2)].toArray)=some (.agg [.int .i64 a0,.int .i64 a1,.int .i64 a2,.bool false,.bool false].toArray):=by kernel_rfl
theorem bld81_0_1_2_3 (a0_0:Option Addr) (n0_0 c0_0:Nat) (a0_1:Option Addr) (n0_1 c0_1:Nat) (a0_2:Option Addr) (n0_2 c0_2:Nat) (a0_3:Option Addr) (n0_3 c0_3:Nat) (a0_4:Option Addr) (n0_4 c0_4:Nat) (a0_5:Option Addr) (n0_5 c0_5:Nat) (a1:Option Addr) (n1 c1:Nat) (a2:Option Addr) (n2 c2:Nat) (a3:Int):pr Tryz.prog (Instr.build 81 [(0,.agg [.slice a0_0 n0_0 c0_0,.slice a0_1 n0_1 c0_1,.slice a0_2 n0_2 c0_2,.slice a0_3 n0_3 c0_3,.slice a0_4 n0_4 c0_4,.slice a0_5 n0_5 c0_5].toArray),(1,.slice a1 n1 c1),(2,.slice a2 n2 c2),(3,.int .i64 a3)].toArray)=some (.agg [.slice a0_0 n0_0 c0_0,.slice a0_1 n0_1 c0_1,.slice a0_2 n0_2 c0_2,.slice a0_3 n0_3 c0_3,.slice a0_4 n0_4 c0_4,.slice a0_5 n0_5 c0_5,.slice a1 n1 c1,.slice a2 n2 c2,.int .i64 a3,.pointer none,.slice none 0 0,.slice none 0 0,.int .i64 0,.int .i64 0,.int .i64 0].toArray):=by kernel_rfl
theorem bld97_0_1_2 (a0:Option Addr) (a1:Option Addr) (n1 c1:Nat) (a2:Option Addr) (n2 c2:Nat):pr Tryz.prog (Instr.build 97 [(0,.pointer a0),(1,.slice a1 n1 c1),(2,.slice a2 n2 c2)].toArray)=some (.agg [.pointer a0,.slice a1 n1 c1,.slice a2 n2 c2,.slice none 0 0,.int .i64 0].toArray):=by kernel_rfl
theorem bld152_0_1 (a0:Int) (a1:Int):pr Tryz.prog (Instr.build 152 [(0,.int .i64 a0),(1,.int .i64 a1)].toArray)=some (.agg [.int .i64 a0,.int .i64 a1,.int .i64 0,.int .i64 0].toArray):=by kernel_rfl
theorem bld152_0_1_2_3 (a0:Int) (a1:Int) (a2:Int) (a3:Int):pr Tryz.prog (Instr.build 152 [(0,.int .i64 a0),(1,.int .i64 a1),(2,.int .i64 a2),(3,.int .i64 a3)].toArray)=some (.agg [.int .i64 a0,.int .i64 a1,.int .i64 a2,.int .i64 a3].toArray):=by kernel_rfl
structure DSy where
 p:TProg
 room:Int
 mem:Mem
 owners:List Int
 l:List DTh
 crashes:Int
 fault:Int
 faulty:Int
structure DA where
 pv:TProgV
 cv:SV
 kv:SV
 q:Nat
 ov:Value
 fv:Value
 ow:Value
 ll:Value
 ps:List Ptr
@[reducible] def dcells (a:DA) (s:DSy):List Value:=[Flat.val a.pv.lines,Flat.val a.pv.vols,Flat.val a.pv.locks,Flat.val a.pv.threads,Flat.val a.pv.recover,Flat.val a.pv.claims,Flat.val a.cv,Flat.val a.kv,.int .i64 s.room,.pointer (some ⟨a.q,0,none⟩),a.ow,a.ll,.int .i64 s.crashes,.int .i64 s.fault,.int .i64 s.faulty]
def ThK (K:World->Prop) (tv:TThreadV) (t:TThread):Prop:=∃ (gr gb:SV) (rows:List TStmtV),tv=⟨t.name,gr,gb,t.at_⟩/\(∀ w,K w->RdL (λ _=>True) w (Flat.val gr) t.regs)/\∀ w,SlK K gb rows t.body w
def ThsK (K:World->Prop) (tvs:List TThreadV) (ths:List TThread):Prop:=tvs.length=ths.length/\∀ (j:Nat) (tv:TThreadV) (t:TThread),tvs[j]? = some tv->ths[j]? = some t->ThK K tv t
structure DUK (K:World->Prop) (a:DA) (s:DSy):Prop where
 pr:∀ w,K w->Deep.dr w a.pv s.p
 cs:∀ w,K w->RdL (λ _=>True) w (Flat.val a.cv) (cellNs s.p)
 ks:∀ w,K w->RdL (λ _=>True) w (Flat.val a.kv) (lockNs s.p)
 mem:∀ w,K w->MemK a.ov a.fv s.mem w
 rc:∃ tvs,(∀ w,K w->RdL (λ _=>True) w (Flat.val a.pv.recover) tvs)/\ThsK K tvs s.p.recover
abbrev dthR (K:World->Prop) (room:Int) (s:Ptr) (t:DTh):HP:=dthB K s.b room t
def dsyB (K:World->Prop) (p:Nat) (m:DSy):HP:=exH λ a:DA=>fact (DUK K a m) (sep (blk p (dcells a m)) (sep (memB a.q a.ov a.fv m.mem) (sep (ownL a.ow m.owners) (sep (ownL a.ll a.ps) (rowsP (dthR K m.room) a.ps m.l)))))
def dsyX (K:World->Prop) (p:Nat) (m:DSy) (i:Nat) (tp:Ptr):HP:=exH λ a:DA=>fact (DUK K a m/\a.ps[i]? = some tp/\a.ps.length=m.l.length/\i<m.l.length) (sep (blk p (dcells a m)) (sep (memB a.q a.ov a.fv m.mem) (sep (ownL a.ow m.owners) (sep (ownL a.ll a.ps) (rowsX (dthR K m.room) a.ps m.l i)))))
section
variable {w w' w0:World} {A:Nat->Prop} {R:List HP} {p:Nat} {K:World->Prop} {m:DSy} {a:DA} {i:Nat} {tp:Ptr} {t:DTh}
theorem dsyB.open (hs:St w0 A (dsyB K p m::R) w):∃ a,DUK K a m/\St w0 A (blk p (dcells a m)::memB a.q a.ov a.fv m.mem::ownL a.ow m.owners::ownL a.ll a.ps::rowsP (dthR K m.room) a.ps m.l::R) w:=by
 obtain ⟨a,hs⟩:=hs.openEx; obtain ⟨hu,hs⟩:=hs.openF; exact ⟨a,hu,sep5_openD hs⟩
theorem dsyB.shut (hu:DUK K a m) (hs:St w0 A (blk p (dcells a m)::memB a.q a.ov a.fv m.mem::ownL a.ow m.owners::ownL a.ll a.ps::rowsP (dthR K m.room) a.ps m.l::R) w):St w0 A (dsyB K p m::R) w:=
 St.shutEx a (St.shutF hu (sep5_shutD hs))
theorem dsyX.open (hs:St w0 A (dsyX K p m i tp::R) w):∃ a,(DUK K a m/\a.ps[i]? = some tp/\a.ps.length=m.l.length/\i<m.l.length)/\St w0 A (blk p (dcells a m)::memB a.q a.ov a.fv m.mem::ownL a.ow m.owners::ownL a.ll a.ps::rowsX (dthR K m.room) a.ps m.l i::R) w:=by
 obtain ⟨a,hs⟩:=hs.openEx; obtain ⟨hu,hs⟩:=hs.openF; exact ⟨a,hu,sep5_openD hs⟩
theorem dsyX.shut (hu:DUK K a m/\a.ps[i]? = some tp/\a.ps.length=m.l.length/\i<m.l.length) (hs:St w0 A (blk p (dcells a m)::memB a.q a.ov a.fv m.mem::ownL a.ow m.owners::ownL a.ll a.ps::rowsX (dthR K m.room) a.ps m.l i::R) w):St w0 A (dsyX K p m i tp::R) w:=
 St.shutEx a (St.shutF hu (sep5_shutD hs))
structure DsyRd (K:World->Prop) (w:World) (p:Nat) (m:DSy) (a:DA):Prop where
 uk:DUK K a m
 b:Blk w p (dcells a m)
 mem:MemR w a.q m.mem
 ow:RdL (λ _=>True) w a.ow m.owners
 ll:RdL (λ _=>True) w a.ll a.ps
 th:∀ (i:Nat) (s:Ptr) (t:DTh),a.ps[i]? = some s->m.l[i]? = some t->Has (dthB K s.b m.room t) w
 len:a.ps.length=m.l.length
theorem dsyB.rd (h:Has (dsyB K p m) w) (hK:K w):∃ a,DsyRd K w p m a:=by
 obtain ⟨F,hs⟩:=h.st
 obtain ⟨a,hu,hs⟩:=dsyB.open hs
 exact ⟨a,hu,hs.hb,memR_of hs.p1 (hu.mem _ hK),hs.p2.rd',hs.p3.rd',λ i s t h1 h2=>hs.p4.rowP h1 h2 (Φ:=λ w=>Has (dthB K s.b m.room t) w) λ h=>⟨_,h⟩,hs.p4.rowsPLen⟩
theorem dFocus {ps:List Ptr} (hs:St w0 A (rowsP (dthR K m.room) ps m.l::R) w) (hp:ps[i]? = some tp) (ht:m.l[i]? = some t):St w0 A (dthB K tp.b m.room t::rowsX (dthR K m.room) ps m.l i::R) w:=hs.focus hp ht
theorem dUnfocus (hs:St w0 A (dthB K tp.b m.room t::dsyX K p m i tp::R) w):St w0 A (dsyB K p {m with l:=m.l.set i t}::R) w:=by
 obtain ⟨a,⟨hu,hp,hl,hi⟩,hs⟩:=dsyX.open hs.p1
 have h1:St w0 A (dthR K m.room tp t::rowsX (dthR K m.room) a.ps m.l i::_) w:=(hs.p4).p5
 have h2:=h1.unfocus hi hl hp
 have h3:=h2.p4.p4.p4.p4
 exact dsyB.shut (m:={m with l:=m.l.set i t}) ⟨hu.pr,hu.cs,hu.ks,hu.mem,hu.rc⟩ h3
end
def canD (m:DSy) (t:DTh):Bool:=match topD t.pile with
 | none=>false
 | some (x,_,_)=>if t.fault≠0\/x.kind=2 then true else if x.kind=3\/x.kind=5\/x.kind=6\/x.kind=7 then !decide (m.room<=t.buf.length)
  else if x.kind=9/\m.owners.getD (placeM (lockNs m.p) x.name).toNat 0≠-1 then false else decide (t.buf.length=0)
def picksDT (m:DSy) (i:Nat) (t:DTh):List TPick:=(if canD m t=true then [⟨1,i,0,[]⟩] else [])++(cansL t.buf).map λ k=>⟨2,i,k,[]⟩
def picksDTo (m:DSy) (k:Nat):List TPick:=(List.range k).flatMap λ i=>match m.l[i]? with | some t=>picksDT m i t | none=>[]
def picksD (m:DSy):List TPick:=if m.fault≠0 then [] else picksDTo m m.l.length
theorem picksDTo_succ {m:DSy} {k:Nat} {t:DTh} (h:m.l[k]? = some t):picksDTo m (k+1)=picksDTo m k++picksDT m k t:=by
 unfold picksDTo; rw [List.range_succ,List.flatMap_append]; simp [h]
def DRest (t:DTh):Prop:=t.fault=0->∀ x a b,topD t.pile=some (x,a,b)->(2<=x.kind/\x.kind<=10)/\(valD t x.e).2=true/\(valD t x.f).2=true
structure DSOk (m:DSy):Prop where
 mem:MOk m.mem
 th:∀ t∈m.l,DOk (cellNs m.p) (lockNs m.p) t
 tl:m.l.length<=1000
 ow:m.owners.length=(lockNs m.p).length
 rm:1<=m.room/\m.room<=16
 st:∀ t∈m.l,DRest t
 pz:PZ m.p
theorem cansL_lenD (l:List TEntry):(cansL l).length<=l.length:=by have:=cansTo_le l l.length; rw [cansTo_all l rfl] at this; exact this
theorem picksDT_len (m:DSy) (i:Nat) (t:DTh):(picksDT m i t).length<=1+t.buf.length:=by
 have:=cansL_lenD t.buf
 unfold picksDT; split <;> simp <;> omega
theorem picksDTo_len {m:DSy} (h:DSOk m):∀ k,(picksDTo m k).length<=k * 1001
 | 0=>by simp [picksDTo]
 | k+1=>by
  have ih:=picksDTo_len h k
  cases ht:m.l[k]? with
  | none=>
   have e:picksDTo m (k+1)=picksDTo m k:=by unfold picksDTo; rw [List.range_succ,List.flatMap_append]; simp [ht]
   rw [e]; exact Nat.le_trans ih (Nat.mul_le_mul_right 1001 (Nat.le_succ k))
  | some t=>
   rw [picksDTo_succ ht,List.length_append]
   have:=picksDT_len m k t
   have:=(h.th t (List.mem_of_getElem? ht)).bl
   omega
theorem picksD_len {m:DSy} (h:DSOk m):(picksD m).length<=1001000:=by
 unfold picksD; split
 ·simp
 exact Nat.le_trans (picksDTo_len h _) (Nat.mul_le_mul_right 1001 h.tl)
def loadND (m:DSy) (t:DTh) (c:Int):Int:=if (lastO t.buf c).isSome=true then (lastO t.buf c).getD 0 else readV m.mem c
def cellD (m:DSy) (x:TStmt):Int:=placeM (cellNs m.p) x.name
def lockD (m:DSy) (x:TStmt):Int:=placeM (lockNs m.p) x.name
def lineD (m:DSy) (x:TStmt):Int:=lineM m.p (cellD m x)
def putD (m:DSy) (t:DTh) (y:TEntry):DTh:={t with buf:=putL m.room t.buf y}
def loadED (m:DSy) (t:DTh) (x:TStmt):TEvent:=⟨if (lastO t.buf (cellD m x)).isSome=true then 2 else 1,0,cellD m x,loadND m t (cellD m x),0⟩
def casD (m:DSy) (t:DTh) (x:TStmt):DSy:=if readV m.mem (cellD m x)=(valD t x.e).1 then {m with mem:=writeM m.mem (cellD m x) (valD t x.f).1} else m
def casED (m:DSy) (t:DTh) (x:TStmt):TEvent:=if readV m.mem (cellD m x)=(valD t x.e).1 then ⟨8,0,cellD m x,readV m.mem (cellD m x),(valD t x.f).1⟩ else ⟨9,0,cellD m x,readV m.mem (cellD m x),0⟩
def ownD_ (m:DSy) (x:TStmt) (i:Int):DSy:={m with owners:=m.owners.set (lockD m x).toNat i}
def actD (m:DSy) (t:DTh) (i:Int) (x:TStmt):DSy × DTh × TEvent:=
 if x.kind=2 then (m,setD t x.reg (loadND m t (cellD m x)),loadED m t x)
 else if x.kind=3 then (m,putD m t ⟨3,lineD m x,cellD m x,(valD t x.e).1⟩,⟨3,0,cellD m x,(valD t x.e).1,0⟩)
 else if x.kind=5 then (m,putD m t ⟨5,lineD m x,0,0⟩,⟨4,0,lineD m x,0,0⟩)
 else if x.kind=6 then (m,putD m t ⟨6,lineD m x,0,0⟩,⟨5,0,lineD m x,0,0⟩)
 else if x.kind=7 then (m,putD m t ⟨7,0,0,0⟩,⟨6,0,0,0,0⟩)
 else if x.kind=8 then (m,t,⟨7,0,0,0,0⟩)
 else if x.kind=4 then (casD m t x,setD t x.reg (readV m.mem (cellD m x)),casED m t x)
 else if x.kind=9 then (ownD_ m x i,t,⟨10,0,lockD m x,0,0⟩)
 else (ownD_ m x (-1),t,⟨11,0,lockD m x,0,0⟩)
def doneDT (m:DSy) (t:DTh) (i:Int) (x:TStmt):DTh:=goD { (actD m t i x).2.1 with pile:=popD (actD m t i x).2.1.pile}
def stepD (m:DSy) (i:Int):DSy × TEvent:=match m.l[i.toNat]? with
 | none=>(m,⟨0,0,0,0,0⟩)
 | some t=>if t.fault≠0 then ({m with fault:=t.fault,faulty:=i},⟨16,i,t.fault,0,0⟩) else match topD t.pile with
  | none=>(m,⟨0,0,0,0,0⟩)
  | some (x,_,_)=>if x.kind=10/\m.owners.getD (lockD m x).toNat 0≠i then ({m with fault:=3,faulty:=i},⟨16,i,3,0,0⟩)
   else ({ (actD m t i x).1 with l:=m.l.set i.toNat (doneDT m t i x)},{ (actD m t i x).2.2 with t:=i})
def outD (m:DSy) (t:DTh) (q:TPick):DSy:={m with mem:=outMem m.mem (takeX t.buf q.i),l:=m.l.set q.t.toNat {t with buf:=takeL t.buf q.i}}
def bkD (l:List TStmt):Bk:=(bkOf l).getD .nil
def thD0 (t:TThread):DTh:=⟨t.regs,List.replicate t.regs.length 0,pushD (bkD t.body) false [],0,[]⟩
def thD (t:TThread):DTh:=goD (thD0 t)
def beginD (m:DSy) (l:List TThread):DSy:={m with owners:=List.replicate (lockNs m.p).length (-1),l:=l.map thD}
def crashPD (m:DSy) (q:TPick):Option (List Int):=if q.kind=3/\q.t=0/\q.i=0/\m.fault=0 then imageM m.mem q.cut else none
def crashSD (m:DSy) (img:List Int):DSy:={m with mem:=crashM m.mem img,crashes:=m.crashes+1}
def recD (m:DSy):List TThread:=if m.p.recover.length=0 then [⟨⟨#[]⟩,[],[],0⟩] else m.p.recover
def doD (m:DSy) (q:TPick):DSy × TEvent × Int:=match crashPD m q with
 | some img=>(beginD (crashSD m img) (recD m),⟨15,0,0,numTo q.cut q.cut.length,0⟩,0)
 | none=>if (picksD m).any (sameP q)=true then
   (if q.kind=2 then (match m.l[q.t.toNat]? with | some t=>(outD m t q,outE q.t (takeX t.buf q.i),0) | none=>(m,⟨0,0,0,0,0⟩,13)) else ((stepD m q.t).1,(stepD m q.t).2,0))
  else (m,⟨0,0,0,0,0⟩,13)
def doneTD (t:DTh):Bool:=decide (t.pile.length=0) && decide (t.buf.length=0)
def doneD (m:DSy):Bool:=decide (m.fault=0) && !(List.range m.l.length).any λ i=>match m.l[i]? with | some t=>!doneTD t | none=>false
def stuckD (m:DSy):Bool:=decide (m.fault=0) && (!doneD m && decide (((picksD m).length:Int)=0))
def statusD (m:DSy):TStatus:=⟨m.crashes,m.fault,m.faulty,doneD m,stuckD m⟩
def ofD (p:TProg):List Int:=(List.range (cellNs p).length).map fun (i:Nat)=>lineM p (i:Int)
def newD0 (p:TProg) (room:Int):DSy:=⟨p,room,newM (ofD p) (staysM p) (firstsM p),[],[],0,0,0⟩
def newD (p:TProg) (room:Int):DSy:=beginD (newD0 p room) p.threads
theorem C38 (K Φ:World->Prop) (p:Nat) (room:Int) (t:DTh) (w:World) (hh:Has (dthX K Φ p room t) w) (hbl:t.buf.length<=1000):CR 38 [.pointer (some ⟨p,0,none⟩)] w (λ v w'=>v = .bool (decide (t.buf.length=0))/\Ext w w'):=by
 obtain ⟨bp,nv,rg,pl,es,hk,hblk,hB,hrg,hpl,hprd,_⟩:=dthX.rd hh;have ct0:=hblk.cell (o:=0) rfl;have hs:=St.start w;refine S38_ok _ _ _ ?_;unfold S38;exact pop_nil (pop_field fld97_0 (qop_cell ty74 (ct0.ext hs.chg) (callN pl87 hs (C87 bp _ _ _ (hB.ext hs.chg) (by omega)) (λ _ _ _ hs=>pop_len sl135 (hs).rd' (pop_eql ⟨vb (decide_eq_decide.2 (by omega)),hs.drop.chg⟩)))))
theorem C53 (K Φ:World->Prop) (p:Nat) (m:DSy) (q:Nat) (t:DTh) (w:World) (hm:Has (dsyB K p m) w) (hw:∀ w',Ext w w'->K w') (hmk:DSOk m) (hh:Has (dthX K Φ q m.room t) w) (htm:t∈m.l):CR 53 [.pointer (some ⟨p,0,none⟩),.pointer (some ⟨q,0,none⟩)] w (λ v w'=>v = .bool (canD m t)/\Ext w w'):=by
 obtain ⟨a,hr⟩:=dsyB.rd hm (hw _ (Ext.refl _));have cm7:=hr.b.cell (o:=7) rfl;have cm10:=hr.b.cell (o:=10) rfl;have hok:=hmk.th t htm;have hbl:=hok.bl;have hlkl:(lockNs m.p).length<=500:=by unfold lockNs; rw [List.length_map]; exact hmk.pz.locks
 have hpl:=pile_le hok.p;have hcl:=hok.cl;obtain ⟨bp,nv,rg,pl,es,hk,hblk,hB,hrg,hplr,hprd,_⟩:=dthX.rd hh;have ct0:=hblk.cell (o:=0) rfl;have ct4:=hblk.cell (o:=4) rfl;have hs:=St.start w;refine S53_ok _ _ _ _ ?_;unfold S53;refine callF pl80 (C80 K q t bp nv rg pl es _ _ hblk hplr hprd hw hok.p (by omega)) ?_;rintro v _ ⟨he,hv⟩;have hs:=hs.ext he
 rcases hv with ⟨hno,rfl⟩ | ⟨x,xa,xb,xv,av,bv,ra,rb,htp,rfl,hxv,_⟩
 ·exact pop_ext rfl (pop_ext rfl (pop_ext rfl (pop_ext rfl (eop_allocA hs zero24 (λ _ _ hs=>uop_blkV (x:=(⟨0,⟨#[]⟩,⟨#[]⟩,⟨none,0,0⟩,⟨none,0,0⟩,0,0,0,0⟩:TStmtV)) hs ty24 rfl rfl (λ _ hs=>pop_not (cond_t ⟨vb (by unfold canD; rw [hno]),hs.drop.chg⟩)))))))
 obtain ⟨ge,gf,rfl,_,_⟩:=dr_stmt (hxv _ (hw _ hs.chg));have hx:=(hok.top htp).1;have hcan:canD m t=(if t.fault≠0\/x.kind=2 then true else if x.kind=3\/x.kind=5\/x.kind=6\/x.kind=7 then !decide (m.room<=t.buf.length) else if x.kind=9/\m.owners.getD (placeM (lockNs m.p) x.name).toNat 0≠-1 then false else decide (t.buf.length=0)):=by unfold canD; rw [htp]
 refine pop_ext rfl (pop_ext rfl ?_);refine pop_ext rfl (pop_ext rfl ?_);refine eop_allocA hs zero24 (λ b5 w2 hs=>uop_blkV (x:=(⟨x.kind,x.reg,x.name,ge,gf,x.n,x.body,x.els,x.at_⟩:TStmtV)) hs ty24 rfl rfl (λ w3 hs=>?_));refine pop_not (cond_f ?_);refine ⟨λ jv w'=>jv = .bool (decide (t.fault≠0\/x.kind=2))/\w'=w3,?_,?_⟩
 ·exact pop_nil (pop_field fld97_4 (qop_cell ty3 (ct4.ext hs.chg) (pop_neq (cond_d (λ _=>⟨vb (decide_eq_true (by omega)).symm,rfl⟩) (λ _=>pop_field fld24_0 (qop_blk (v:=.int .i64 x.kind) ty3 hs.hb rfl (pop_eql ⟨vb (decide_eq_decide.2 (by omega)),rfl⟩)))))))
 rintro _ w4 ⟨rfl,rfl⟩ _;refine cond_d (λ c1=>?_) (λ c1=>?_)
 ·exact ⟨vb (by rw [hcan,if_pos c1]),hs.drop.chg⟩
 rw [if_neg c1] at hcan;refine ⟨λ jv w'=>jv = .bool (decide (x.kind=3\/x.kind=5\/x.kind=6\/x.kind=7))/\w'=w4,?_,?_⟩
 ·refine pop_field fld24_0 (qop_blk (v:=.int .i64 x.kind) ty3 hs.hb rfl ?_);exact pop_eql (cond_d (λ _=>⟨vb (decide_eq_true (by omega)).symm,rfl⟩) (λ _=>pop_field fld24_0 (qop_blk (v:=.int .i64 x.kind) ty3 hs.hb rfl (pop_eql (cond_d (λ _=>⟨vb (decide_eq_true (by omega)).symm,rfl⟩) (λ _=>pop_field fld24_0 (qop_blk (v:=.int .i64 x.kind) ty3 hs.hb rfl (pop_eql (cond_d (λ _=>⟨vb (decide_eq_true (by omega)).symm,rfl⟩) (λ _=>pop_field fld24_0 (qop_blk (v:=.int .i64 x.kind) ty3 hs.hb rfl (pop_eql ⟨vb (decide_eq_decide.2 (by omega)),rfl⟩))))))))))))
 rintro _ _ ⟨rfl,rfl⟩ _;refine cond_d (λ c2=>?_) (λ c2=>?_)
 ·exact pop_nil (pop_field fld97_0 (qop_cell ty74 (ct0.ext hs.chg) (callP pl108 hs (C108 bp _ _ _ (hB.ext hs.chg)) (λ _ _ hs=>pop_not ⟨vb (by rw [hcan,if_pos c2]),hs.drop.chg⟩))))
 rw [if_neg c2] at hcan;refine ⟨λ jv w'=>jv = .bool (decide (x.kind=9/\m.owners.getD (placeM (lockNs m.p) x.name).toNat 0≠-1))/\St w none1 [blk b5 (Flat.enc (⟨x.kind,x.reg,x.name,ge,gf,x.n,x.body,x.els,x.at_⟩:TStmtV))] w',?_,?_⟩
 ·have hs:=hs.drew;refine pop_field fld24_0 (qop_blk (v:=.int .i64 x.kind) ty3 hs.hb rfl ?_);refine pop_eql (cond_d (λ c3=>?_) (λ _=>⟨vb (decide_eq_false (by omega)).symm,hs⟩));obtain ⟨j,hj,hj2,_⟩:=place_at (place_mem.1 (hx.lk (.inl c3)));have hjl:=(List.getElem?_eq_some_iff.1 hj2).1;have how:=hmk.ow;refine pop_nil (pop_field fld81_5 ?_);refine qop_cell ty45 (cm10.ext hs.chg) (pop_nil ?_);refine pop_field fld81_2 (qop_cell ty32 (cm7.ext hs.chg) ?_);refine pop_field fld24_2 (qop_blk (v:=.string x.name) ty9 hs.hb rfl ?_);refine callP pl81 hs (C81 _ (lockNs m.p) x.name _ (hr.uk.ks _ (hw _ hs.chg)) (by omega)) (λ _ he hs=>?_);refine ⟨run_loadOne ty45 (cm10.ext hs.chg),?_⟩
  obtain ⟨ov,hov⟩:∃ ov,m.owners[(placeM (lockNs m.p) x.name).toNat]? = some ov:=⟨_,List.getElem?_eq_getElem (by omega)⟩;refine pop_idx sl45 (hr.ow.ext hs.chg) (by omega) hov (λ q71 h71=>qop_at ty3 h71 ?_);refine pop_neq ?_;refine ⟨vb (decide_eq_decide.2 ?_),hs⟩;rw [List.getD_eq_getElem?_getD,hov];exact ⟨λ h=>⟨c3,h⟩,λ h=>h.2⟩
 rintro _ _ ⟨rfl,hs⟩ _;refine cond_d (λ c4=>?_) (λ c4=>?_)
 ·exact ⟨vb (by rw [hcan,if_pos c4]),hs.drop.chg⟩
 exact callP pl38 hs (C38 K Φ q m.room t _ (hh.ext hs.chg) hbl) (λ _ _ hs=>⟨vb (by rw [hcan,if_neg c4]),hs.drop.chg⟩)
theorem C13 (K:World->Prop) (p:Nat) (m:DSy) (w:World) (hm:Has (dsyB K p m) w) (hw:∀ w',Ext w w'->K w') (hmk:DSOk m):CR 13 [.pointer (some ⟨p,0,none⟩)] w (λ v w'=>New (ownD v (picksD m)) w w'):=by
 obtain ⟨a,hr⟩:=dsyB.rd hm (hw _ (Ext.refl _));have cm11:=hr.b.cell (o:=11) rfl;have cm13:=hr.b.cell (o:=13) rfl;have hlen:=hr.len;have htl:=hmk.tl;have hs:=St.start w;refine S13_ok _ _ _ ?_;unfold S13;refine pop_nil (pop_field fld81_8 ?_);refine qop_cell ty3 (cm13.ext hs.chg) (pop_neq ?_);refine cond_d (λ c=>?_) (λ c=>?_)
 ·have hpm:picksD m=[]:=by unfold picksD; rw [if_pos c]
  rw [hpm];exact hs.dNil.fresh
 have hpm:picksD m=picksDTo m m.l.length:=by unfold picksD; rw [if_neg c]
 rw [hpm];refine pop_nil (pop_field fld81_6 ?_);refine qop_cell ty79 (cm11.ext hs.chg) (pop_len sl79 (hr.ll.ext hs.chg) ?_);refine ⟨λ mm o y w1=>∃ k:Nat,y = .int .i64 (k:Int)/\mm=a.ps.length - k/\k<=a.ps.length/\St w none1 [ownD o (picksDTo m k)] w1,⟨_,0,rfl,rfl,Nat.zero_le _,hs.dNil⟩,?_⟩;rintro mm o _ w1 ⟨k,rfl,rfl,hk,hs⟩ _;have hpl:=picksDTo_len hmk k;have hk1:k * 1001<=1001000:=by omega
 refine pop_lss (cond_d (λ c1=>?_) (λ c1=>?_));rotate_left
 ·rw [show k=m.l.length from by omega] at hs;exact hs.fresh
 obtain ⟨e,he⟩:∃ e,a.ps[((k:Nat):Int).toNat]? = some e:=⟨_,List.getElem?_eq_getElem (by omega)⟩;obtain ⟨t,ht⟩:∃ t,m.l[k]? = some t:=⟨_,List.getElem?_eq_getElem (by omega)⟩;have htm:=List.mem_of_getElem? ht;have hbl:=(hmk.th t htm).bl;have hth:=hr.th k e t he ht;obtain ⟨bp,nv,rg,pl,es,hk',hblk,hB,hrg,hplr,hprd,_⟩:=dthX.rd hth;have ct0:=hblk.cell (o:=0) rfl;refine pop_idx sl79 (hr.ll.ext hs.chg) (by omega) he (λ q hq=>qop_at ty94 hq ?_);refine ⟨λ jv w'=>St w none1 [ownD jv (picksDTo m k++(if canD m t=true then [(⟨1,k,0,[]⟩:TPick)] else []))] w',?_,?_⟩
 ·refine callP pl53 hs (C53 K _ p m e.b t _ (hm.ext hs.chg) (λ _ e=>hw _ (hs.chg.then e)) hmk (hth.ext hs.chg) htm) (λ _ he hs=>cond_b (λ c2=>?_) (λ c2=>?_))
  ·refine pop (bld47_0_1 1 (k:Int)) ?_;have hs:=hs.frzNil (Φ:=λ w=>Deep.dr w (⟨1,(k:Int),0,⟨none,0,0⟩⟩:TPickV) (⟨1,(k:Int),0,[]⟩:TPick)) (λ w=>⟨⟨none,0,0⟩,rfl,DL.nil w⟩);refine eop_buildD1 (x:=(⟨1,(k:Int),0,[]⟩:TPick)) (s:=(⟨1,(k:Int),0,⟨none,0,0⟩⟩:TPickV)) hs sl55 (by decide) (λ s29 _ hs=>eop_appendD hs.p1 sl55 (by rw [List.length_singleton]; omega) (by decide) (λ s30 _ hs=>?_));rw [if_pos c2];exact hs
  rw [if_neg (by rw [c2]; decide),List.append_nil];exact hs
 rintro o2 _ hs _;refine pop_nil (pop_field fld97_0 ?_);refine qop_cell ty74 (ct0.ext hs.chg) (callN pl54 hs (C54 bp _ _ _ (hB.ext hs.chg) (by omega)) (λ x35 _ hnew hs=>?_));have hcl:=cansL_lenD t.buf;refine pop_len sl45 (hs).rd' ?_;refine ⟨λ mm o y w1=>∃ j:Nat,y = .int .i64 (j:Int)/\mm=(cansL t.buf).length - j/\j<=(cansL t.buf).length/\St w none1 [ownD o (picksDTo m k++(if canD m t=true then [(⟨1,k,0,[]⟩:TPick)] else [])++((cansL t.buf).take j).map λ i=>(⟨2,k,i,[]⟩:TPick)),ownL x35 (cansL t.buf)] w1,⟨_,0,rfl,rfl,Nat.zero_le _,by rw [List.take_zero,List.map_nil,List.append_nil]; exact hs.p1⟩,?_⟩;rintro mm o3 _ _ ⟨j,rfl,rfl,hj,hs⟩ _;refine pop_lss (cond_d (λ c3=>?_) (λ c3=>?_))
 ·obtain ⟨y,hy⟩:∃ y,(cansL t.buf)[((j:Nat):Int).toNat]? = some y:=⟨_,List.getElem?_eq_getElem (by omega)⟩;exact pop_idx sl45 (hs.p1).rd' (by omega) hy (λ _ hq=>qop_at ty3 hq (pop (bld47_0_1_2 2 (k:Int) y) (have hs:=hs.frzNil (Φ:=λ w=>Deep.dr w (⟨2,(k:Int),y,⟨none,0,0⟩⟩:TPickV) (⟨2,(k:Int),y,[]⟩:TPick)) (λ w=>⟨⟨none,0,0⟩,rfl,DL.nil w⟩);eop_buildD1 (x:=(⟨2,(k:Int),y,[]⟩:TPick)) (s:=(⟨2,(k:Int),y,⟨none,0,0⟩⟩:TPickV)) hs sl55 (by decide) (λ _ _ hs=>eop_appendD hs.p1 sl55 (by simp only [List.length_append,List.length_map,List.length_take,List.length_singleton]; split <;> simp <;> omega) (by decide) (λ _ _ hs=>pop_add (by omega) ⟨_,by omega,j+1,rfl,rfl,by omega,by rw [<- map_snoc (k:=j) hy,<- List.append_assoc]; exact hs⟩)))))
 rw [List.take_of_length_le (by omega)] at hs;refine pop_add (by omega) ?_;refine ⟨_,by omega,k+1,rfl,rfl,by omega,?_⟩;rw [picksDTo_succ ht];unfold picksDT;rw [<- List.append_assoc];exact (hs.p1).drop
theorem pl140:PL 140:=plE Tryz.func140
theorem pl27:PL 27:=plE Tryz.func27
theorem C79 (K:World->Prop) (p:Nat) (m:DSy) (i kind:Int) (F:Nat->Prop) (w:World) (hF:(dsyB K p m).p w F):CR 79 [.pointer (some ⟨p,0,none⟩),.int .i64 i,.int .i64 kind] w (λ v w'=>v=Flat.val (⟨16,i,kind,0,0⟩:TEvent)/\Mut F (dsyB K p {m with fault:=kind,faulty:=i}) w w'):=by
 have hs:=St.begin hF;refine S79_ok _ _ _ _ _ ?_;unfold S79;obtain ⟨a,hu,hs⟩:=dsyB.open hs;exact eop_allocA hs zero42 (λ _ _ hs=>have hs:=hs.enc (cs':=Flat.enc (⟨0,0,0,0,0⟩:TEvent)) rfl;pop_nil (pop_field fld81_8 (uop_blk hs.p1 ty3 (leb rfl) rfl (λ _ hs=>pop_nil (pop_field fld81_9 (uop_blk hs ty3 (leb rfl) rfl (λ _ hs=>pop (bld42_0_1_2 16 i kind) (uop_blkV (x:=(⟨16,i,kind,0,0⟩:TEvent)) hs.p1 ty42 rfl rfl (λ _ hs=>qop_at ty42 hs.At ⟨rfl,(dsyB.shut (m:={m with fault:=kind,faulty:=i}) ⟨hu.pr,hu.cs,hu.ks,hu.mem,hu.rc⟩ hs.drop).mut⟩)))))))))
theorem C82 (K:World->Prop) (p:Nat) (m:DSy) (n:Nat) (tp:Ptr) (t:DTh) (x:TStmt) (xv:TStmtV) (F:Nat->Prop) (c:Int) (w:World) (hF:(sep (dthB K tp.b m.room t) (dsyX K p m n tp)).p w F) (hK:∀ w',Chg F w w'->K w') (hok:DOk (cellNs m.p) (lockNs m.p) t) (hmm:MOk m.mem) (hxv:∀ w,K w->Deep.dr w xv x) (hrg:0<=placeM t.names x.reg):CR 82 [.pointer (some ⟨p,0,none⟩),.pointer (some ⟨tp.b,0,none⟩),Flat.val xv,.int .i64 c] w (λ v w'=>v=Flat.val (⟨if (lastO t.buf c).isSome=true then 2 else 1,0,c,loadND m t c,0⟩:TEvent)/\Mut F (sep (dthB K tp.b m.room (setD t x.reg (loadND m t c))) (dsyX K p m n tp)) w w'):=by
 have hs:=(St.begin hF).split;obtain ⟨ge,gf,rfl,_,_⟩:=dr_stmt (hxv _ (hK _ hs.chg));obtain ⟨j,hj,hj2,_⟩:=place_at (place_mem.1 hrg);have hjl:=(List.getElem?_eq_some_iff.1 hj2).1;have hnb:=hok.nb;have hrl:=hok.rl;have hbl:=hok.bl;refine S82_ok _ _ _ _ _ _ ?_;unfold S82;refine eop_boxV (x:=(⟨x.kind,x.reg,x.name,ge,gf,x.n,x.body,x.els,x.at_⟩:TStmtV)) hs (λ b6 _ hs=>eop_allocA hs zero42 (λ b8 _ hs=>?_));have hs:=(hs.enc (cs':=Flat.enc (⟨0,0,0,0,0⟩:TEvent)) rfl).p2;obtain ⟨bp,nv,rg,pl,es,hk,hs⟩:=dthX.open hs;refine pop_nil (pop_field fld97_0 ?_);refine qop_blk ty74 hs.hb rfl (callP pl139 hs (C139 bp c m.room t.buf _ (bufR_of hs.p1) (by omega)) (λ _ he hs=>?_))
 refine pop_ext rfl (pop_ext rfl ?_);refine ⟨λ n9 k11 w'=>n9 = .int .i64 (loadND m t c)/\k11 = .int .i64 (if (lastO t.buf c).isSome=true then 2 else 1)/\St w F [blk tp.b (dcellsT bp nv rg pl t.fault),bufO bp m.room t.buf,ownL rg t.regs,ownL pl (peV es),frz (λ w=>PRd K w es t.pile/\True),blk b8 (Flat.enc (⟨0,0,0,0,0⟩:TEvent)),blk b6 (Flat.enc (⟨x.kind,x.reg,x.name,ge,gf,x.n,x.body,x.els,x.at_⟩:TStmtV)),dsyX K p m n tp] w',?_,?_⟩
 ·refine pop_not (cond_b (λ c1=>?_) (λ c1=>?_))
  ·have h1:(lastO t.buf c).isSome=false:=by simpa using c1
   have hs:=hs.p7;obtain ⟨a,hx,hs⟩:=dsyX.open hs;exact pop_nil (pop_field fld81_4 (qop_blk ty78 hs.hb rfl (callP pl140 hs (C140' a.q m.mem c _ (memR_of hs.p1 (hx.1.mem _ (hK _ hs.chg))) hmm) (λ _ _ hs=>pop_ext rfl (pop_ext rfl (have hs:=(((((((dsyX.shut (m:=m) (hx) hs.p4.p4.p4.p4.p4).p7).p7).p7).p7).p7).p7).p7;⟨by unfold loadND; rw [if_neg (by rw [h1]; decide)],by rw [if_neg (by rw [h1]; decide)],hs⟩))))))
  have h1:(lastO t.buf c).isSome=true:=by simpa using c1
  exact ⟨by unfold loadND; rw [if_pos h1],by rw [if_pos h1],hs⟩
 rintro _ _ _ ⟨rfl,rfl,hs⟩ _;have hs:=hs.drew;refine pop_nil (pop_field fld97_2 ?_);refine qop_blk ty45 hs.hb rfl (pop_nil ?_);refine pop_field fld97_1 (qop_blk ty32 hs.hb rfl ?_);refine pop_field fld24_1 (qop_blk (v:=.string x.reg) ty9 hs.p6.hb rfl ?_);refine callP pl81 hs (C81 _ t.names x.reg _ (hk _ (hK _ hs.chg)) (by omega)) (λ _ he hs=>?_);refine ⟨run_loadOne ty45 (hs.hb.cell rfl),?_⟩;exact pop_own hs.p2 sl45 (by omega) (by omega) (λ _ h_44=>uop_own (loadND m t c:Int) hs.p2 ty3 h_44 (by omega) (λ _ hs=>pop (bld42_0_2_3 (if (lastO t.buf c).isSome=true then 2 else 1) c (loadND m t c)) (uop_blkV (x:=(⟨if (lastO t.buf c).isSome=true then 2 else 1,0,c,loadND m t c,0⟩:TEvent)) hs.p5 ty42 rfl rfl (λ _ hs=>qop_at ty42 hs.At (have hs:=dthX.shut (Φ:=λ _=>True) (t:=setD t x.reg (loadND m t c)) hk hs.drop.p5.drop.p4.p4.p2.p4.p4;have hs:=hs.p1.p1;⟨rfl,(St.join hs).mut⟩)))))
theorem C85 (K:World->Prop) (p:Nat) (m:DSy) (n:Nat) (tp:Ptr) (t:DTh) (x:TStmt) (xv:TStmtV) (F:Nat->Prop) (w:World) (hF:(sep (dthB K tp.b m.room t) (dsyX K p m n tp)).p w F) (hK:∀ w',Chg F w w'->K w') (hok:DOk (cellNs m.p) (lockNs m.p) t) (hmm:MOk m.mem) (hxv:∀ w,K w->Deep.dr w xv x) (hrg:0<=placeM t.names x.reg) (hmb:MB m.mem 1000000) (hen:x.e.length<=1000/\x.f.length<=1000) (hv1:(valD t x.e).2=true) (hv2:(valD t x.f).2=true):CR 85 [.pointer (some ⟨p,0,none⟩),.pointer (some ⟨tp.b,0,none⟩),Flat.val xv,.int .i64 (cellD m x)] w (λ v w'=>v=Flat.val (casED m t x)/\Mut F (sep (dthB K tp.b m.room (setD t x.reg (readV m.mem (cellD m x)))) (dsyX K p (casD m t x) n tp)) w w'):=by
 have hs:=(St.begin hF).split;obtain ⟨ge,gf,rfl,_,_⟩:=dr_stmt (hxv _ (hK _ hs.chg))
 have hxE:∀ w,K w->RdL (λ _=>True) w (Flat.val ge) x.e/\RdL (λ _=>True) w (Flat.val gf) x.f:=λ w hw=>by
  obtain ⟨_,_,h4,h5,h6⟩:=dr_stmt (hxv w hw);cases h4
  exact ⟨h5,h6⟩
 obtain ⟨j,hj,hj2,_⟩:=place_at (place_mem.1 hrg);have hjl:=(List.getElem?_eq_some_iff.1 hj2).1;have hnb:=hok.nb;have hrl:=hok.rl;have ht1:{t with fault:=if (valD t x.e).2=true then t.fault else 2}=t:=by rw [hv1]; rfl
 have ht2:{t with fault:=if (valD t x.f).2=true then t.fault else 2}=t:=by rw [hv2]; rfl
 obtain ⟨c,hc⟩:∃ c,c=cellD m x:=⟨_,rfl⟩;rw [<- hc];refine S85_ok _ _ _ _ _ _ ?_;unfold S85;refine eop_boxV (x:=(⟨x.kind,x.reg,x.name,ge,gf,x.n,x.body,x.els,x.at_⟩:TStmtV)) hs (λ b6 _ hs=>eop_allocA hs zero42 (λ b8 _ hs=>?_));have hs:=(hs.enc (cs':=Flat.enc (⟨0,0,0,0,0⟩:TEvent)) rfl).p3;obtain ⟨a,hx,hs⟩:=dsyX.open hs;refine pop_nil (pop_field fld81_4 ?_);refine qop_blk ty78 hs.hb rfl (callP pl140 hs (C140' a.q m.mem c _ (memR_of hs.p1 (hx.1.mem _ (hK _ hs.chg))) hmm) (λ _ he hs=>?_));refine pop_ext rfl (pop_ext rfl ?_);refine pop_field fld24_3 (qop_blk (v:=Flat.val ge) ty22 hs.p6.hb rfl ?_);have hs:=hs.p7;refine callMut2 pl83 hs (H':=λ _=>dthB K tp.b m.room t) (Φ:=λ v _=>v = .tuple #[.int .i64 (valD t x.e).1,.bool (valD t x.e).2]) (λ F2 hF2 hfr=>?_) ?_
 ·have:=C83 K _ tp.b m.room t F2 _ x.e _ hF2 (λ w' hc=>hK w' (hfr w' hc).chg) (hxE _ (hK _ hs.chg)).1 (by omega) (by omega);rw [ht1] at this; exact this
 rintro _ _ rfl hs;refine pop_ext rfl (pop_ext rfl ?_);refine pop_field fld24_4 (qop_blk (v:=Flat.val gf) ty22 hs.p7.hb rfl ?_);refine callMut2 pl83 hs (H':=λ _=>dthB K tp.b m.room t) (Φ:=λ v _=>v = .tuple #[.int .i64 (valD t x.f).1,.bool (valD t x.f).2]) (λ F2 hF2 hfr=>?_) ?_
 ·have:=C83 K _ tp.b m.room t F2 _ x.f _ hF2 (λ w' hc=>hK w' (hfr w' hc).chg) (hxE _ (hK _ hs.chg)).2 (by omega) (by omega);rw [ht2] at this; exact this
 rintro _ _ rfl hs;refine pop_ext rfl (pop_ext rfl ?_);obtain ⟨bp,nv,rg,pl,es,hk,hs⟩:=dthX.open hs;have hs:=hs.drew;refine pop_nil (pop_field fld97_2 ?_);refine qop_blk ty45 hs.hb rfl (pop_nil ?_);refine pop_field fld97_1 (qop_blk ty32 hs.hb rfl ?_);refine pop_field fld24_1 (qop_blk (v:=.string x.reg) ty9 hs.p11.hb rfl ?_);refine callP pl81 hs (C81 _ t.names x.reg _ (hk _ (hK _ hs.chg)) (by omega)) (λ _ he hs=>?_);refine ⟨run_loadOne ty45 (hs.hb.cell rfl),?_⟩;refine pop_own hs.p2 sl45 (by omega) (by omega) (λ _ h_50=>uop_own (readV m.mem c:Int) hs.p2 ty3 h_50 (by omega) (λ w6' hs=>have hs:=dthX.shut (Φ:=λ _=>True) (t:=setD t x.reg (readV m.mem c)) hk hs.p4.p4.p2.p4.p4;pop_neq (cond_d (λ c1=>?_) (λ c1=>?_))))
 ·have hcm:casD m t x=m:=by unfold casD; rw [<- hc,if_neg c1]
  have hce:casED m t x=⟨9,0,c,readV m.mem c,0⟩:=by unfold casED; rw [<- hc,if_neg c1]
  refine pop (bld42_0_2_3 9 c (readV m.mem c)) (uop_blkV (x:=(⟨9,0,c,readV m.mem c,0⟩:TEvent)) hs.p6 ty42 rfl rfl (λ _ hs=>?_));refine qop_at ty42 hs.At ?_;have hs:=(dsyX.shut (m:=m) (hx) hs.drop.p6.drop.p5.p5.p5.p5.p5).p1;rw [hcm,hce];exact ⟨rfl,(St.join hs).mut⟩
 have hcm:casD m t x={m with mem:=writeM m.mem c (valD t x.f).1}:=by unfold casD; rw [<- hc,if_pos (by simpa using c1)]
 have hce:casED m t x=⟨8,0,c,readV m.mem c,(valD t x.f).1⟩:=by unfold casED; rw [<- hc,if_pos (by simpa using c1)]
 refine pop_nil (pop_field fld81_4 ?_);refine qop_blk ty78 hs.p1.hb rfl ?_;have hs:=hs.p2;refine callMut2 pl77 hs (H':=λ _=>memB a.q a.ov a.fv (writeM m.mem c (valD t x.f).1)) (Φ:=λ _ _=>True) (λ F2 hF2 hfr=>?_) ?_
 ·exact (C77 a.q a.ov a.fv m.mem F2 c _ _ hF2 (λ w' hc=>hx.1.mem _ (hK w' (hfr w' hc).chg)) hmm hmb).mono λ _ _ r=>r.mono λ _ _ h=>⟨trivial,h.2⟩
 rintro _ _ _ hs;refine pop (bld42_0_2_3_4 8 c (readV m.mem c) (valD t x.f).1) (uop_blkV (x:=(⟨8,0,c,readV m.mem c,(valD t x.f).1⟩:TEvent)) hs.p6 ty42 rfl rfl (λ _ hs=>?_));refine qop_at ty42 hs.At ?_;have hs:=dsyX.shut (m:={m with mem:=writeM m.mem c (valD t x.f).1}) (⟨⟨hx.1.pr,hx.1.cs,hx.1.ks,λ w hw=>(hx.1.mem w hw).write,hx.1.rc⟩,hx.2⟩) hs.drop.p6.drop.p5.p5.p5.p3.p5;have hs:=hs.p1;rw [hcm,hce];exact ⟨rfl,(St.join hs).mut⟩
theorem C32 (cv:Value) (cut:List Int) (w:World) (hC:RdL (λ _=>True) w cv cut) (hc20:cut.length<=1000000):CR 32 [cv] w (λ v w'=>v = .int .i64 (numTo cut cut.length)/\Ext w w'):=by
 have hs:=St.start w;refine S32_ok _ _ _ ?_;unfold S32;refine pop_len sl45 (hC.ext hs.chg) ?_;refine ⟨λ mm n x w1=>∃ k:Nat,n = .int .i64 (numTo cut k)/\x = .int .i64 (k:Int)/\mm=cut.length - k/\k<=cut.length/\St w none1 [] w1,⟨_,0,rfl,rfl,rfl,Nat.zero_le _,hs⟩,?_⟩;rintro mm _ _ w1 ⟨k,rfl,rfl,rfl,hk,hs⟩ _;refine pop_lss (cond_d (λ c_x9=>?_) (λ _=>⟨by rw [show cut.length=k from by omega],hs.chg⟩));obtain ⟨e_x10,he_x10⟩:=gx (cut) (i:=((k:Int)).toNat) (by omega);exact pop_idx sl45 hC (by omega) he_x10 (λ _ h_x10=>qop_at ty3 (h_x10.ext hs.chg) (pop_mulW (pop_addW (pop_add (by omega) ⟨_,by omega,k+1,by rw [numTo_succ (k:=k) he_x10],rfl,rfl,by omega,hs⟩))))
theorem C33 (q x:TPick) (qv:TPickV) (b:Nat) (xv:TPickV) (w:World) (hq:Deep.dr w qv q) (hx:At (λ _=>True) w (.pointer (some ⟨b,0,none⟩)) xv) (hxd:Deep.dr w xv x):CR 33 [Flat.val qv,(.pointer (some ⟨b,0,none⟩))] w (λ v w'=>v = .bool (sameP x q)/\Ext w w'):=by
 obtain ⟨g_cut_q,rfl,d_cut_q⟩:=hq;obtain ⟨g_cut_x,rfl,d_cut_x⟩:=hxd;have hs:=St.start w;refine S33_ok _ _ _ _ ?_;unfold S33;refine eop_boxV hs (λ b_q2 _ hs=>⟨λ jv w'=>jv = .bool (sameP x q)/\St w none1 [blk b_q2 (Flat.enc (⟨(q).kind,(q).t,(q).i,g_cut_q⟩:TPickV))] w',?_,?_⟩)
 ·refine pop_field fld47_0 (qop_blk (v:=.int .i64 ((q).kind)) ty3 hs.hb rfl ?_);refine pop_atf (x).kind fld47_0 hx rfl rfl (λ _ h_x6=>qop_at ty3 (h_x6.ext hs.chg) ?_);refine pop_eql (cond_d (λ c_x8=>pop_field fld47_1 (qop_blk (v:=.int .i64 ((q).t)) ty3 hs.hb rfl (pop_atf (x).t fld47_1 hx rfl rfl (λ _ h_x12=>qop_at ty3 (h_x12.ext hs.chg) (pop_eql (cond_d (λ c_x14=>pop_field fld47_2 (qop_blk (v:=.int .i64 ((q).i)) ty3 hs.hb rfl (pop_atf (x).i fld47_2 hx rfl rfl (λ _ h_x19=>qop_at ty3 (h_x19.ext hs.chg) (pop_eql (cond_d (λ c_x21=>?_) (λ _=>⟨vb (by unfold sameP; first | (simp_all; done) | grind),hs⟩))))))) (λ _=>⟨vb (by unfold sameP; first | (simp_all; done) | grind),hs⟩))))))) (λ _=>⟨vb (by unfold sameP; first | (simp_all; done) | grind),hs⟩))
  refine pop_atf g_cut_x fld47_3 hx rfl rfl (λ _ h_x24=>qop_at ty45 (h_x24.ext hs.chg) ?_);have hf25:=DL.flat (d_cut_x);exact pop_len sl45 (hf25.ext hs.chg) (pop_eql ⟨vb (by unfold sameP; first | (simp_all; done) | grind),hs⟩)
 rintro _ _ ⟨rfl,hs⟩ _;exact ⟨rfl,hs.drop.chg⟩
theorem Blk.ext {w w':World} {b:Nat} {cs:List Value} (h:Blk w b cs) (e:Ext w w'):Blk w' b cs:=h.of_eq (e.blk b h.lt λ h=>h)
def isM (l:List TToken) (i:Int) (t:ByteArray):Bool:=decide (0<=i) && (match l[i.toNat]? with | some x=>decide (x.text=t) && decide (x.kind≠2) && decide (1<=x.kind) && decide (x.kind<=3) | none=>false)
def placeT (l:List TToken) (i:Int):Int:=match (if 0<=i then l[i.toNat]? else none) with
 | some x=>x.at_
 | none=>match l.getLast? with
  | some x=>x.at_+x.text.size
  | none=>0
def numOf (s:ByteArray) (a k:Nat):Int:=(((bts s).drop a).take (k - a)).foldl (λ n c=>if n<=4294967296 then 10 * n+((c.toNat:Int) - 48) else n) 0
structure RSt where
 at_:Int
 e:Int
 pos:Int
deriving DecidableEq
def badS (l:List TToken) (s:RSt) (e:Int):RSt:=if s.e=0 then {s with e:=if (l.length:Int)<=s.at_ then 6 else e,pos:=placeT l s.at_} else s
def tokAt (l:List TToken) (i:Int):Option TToken:=if 0<=i then l[i.toNat]? else none
def nameB (l:List TToken) (s:RSt):Bool:=decide (s.e=0) && (match tokAt l s.at_ with | some t=>decide (t.kind=1) && nameM t.text | none=>false)
def nameX (l:List TToken) (i:Int):TToken:=(tokAt l i).getD ⟨0,⟨#[]⟩,0,0⟩
def isS (l:List TToken) (s:RSt) (t:ByteArray):RSt × Bool:=if (decide (s.e=0) && isM l s.at_ t)=true then ({s with at_:=s.at_+1},true) else (s,false)
def cellS (l:List TToken) (s:RSt):RSt × TCell:=if nameB l s=true then ({s with at_:=s.at_+1},⟨(nameX l s.at_).text,0,(nameX l s.at_).at_⟩) else (badS l s 5,⟨⟨#[]⟩,0,0⟩)
abbrev eqS:ByteArray:=⟨#[61]⟩
def upS (s:RSt):RSt:={s with at_:=s.at_+1}
def numK (l:List TToken) (s:RSt):Bool:=match tokAt l s.at_ with | some t=>decide (t.kind=2) | none=>false
def cell1 (l:List TToken) (nb:Bool) (s:RSt):RSt × TCell:=
 if (nb && (isS l (cellS l s).1 eqS).2)=true then
  (if numK l (isS l (cellS l s).1 eqS).1=true then (upS (isS l (cellS l s).1 eqS).1,{ (cellS l s).2 with n:=(nameX l (isS l (cellS l s).1 eqS).1.at_).n})
  else (badS l (isS l (cellS l s).1 eqS).1 5,(cellS l s).2))
 else cellS l s
theorem linesM_take {l:List Int} {k:Nat} (hk:0<k) (h:k<=l.length):linesM (l.take k)=l.getD (k - 1) 0+1:=by
 unfold linesM
 rw [List.length_take,Nat.min_eq_left h,if_neg (by omega),List.getD_eq_getElem?_getD,List.getD_eq_getElem?_getD,List.getElem?_take,if_pos (by omega)]
theorem updF_pc {f:Int->List TWrite} {a k:Int} {xs:List TWrite} {x:TWrite} (h:x∈updF f a xs k):x∈xs\/x∈f k:=by
 unfold updF at h; split at h; exact .inl h; exact .inr h
theorem writeM_ok {m:Mem} {c n:Int} (h:MOk m):MOk (writeM m c n):=by
 unfold writeM
 split
 ·rename_i hin
  unfold inL at hin; rw [decide_eq_true_eq] at hin
  refine ⟨h.ofl,h.fl,by show (m.l.set _ _).length=_; rw [List.length_set]; exact h.ll,h.kl,h.ofr,h.lb,λ k x hx=>?_⟩
  dsimp only at hx
  split at hx
  ·rename_i hc
   rcases updF_pc hx with h1 | h1
   ·rw [List.mem_append] at h1
    rcases h1 with h1 | h1
    ·exact h.pc _ x h1
    simp at h1; subst h1; exact ⟨hin.1,hc⟩
   exact h.pc _ x h1
  exact h.pc _ x hx
 exact h
theorem outM_ok {m:Mem} {c:Int} (h:MOk m):MOk (outM m c):=by
 unfold outM
 split
 ·refine ⟨h.ofl,h.fl,h.ll,by show (appl _ _).length=_; rw [appl_len]; exact h.kl,h.ofr,h.lb,λ k x hx=>?_⟩
  rcases updF_pc hx with h1 | h1
  ·cases h1
  exact h.pc _ x h1
 exact h
theorem image_len {m:Mem} {cut img:List Int} (h:imageM m cut=some img):img.length=m.kept.length:=by
 unfold imageM at h; split at h
 ·cases h; exact imgK_len _ _ _
 cases h
theorem crashM_ok {m:Mem} {cut img:List Int} (h:MOk m) (hi:imageM m cut=some img):MOk (crashM m img):=by
 have h1:=image_len hi
 have h2:=h.kl; have h3:=h.ofl
 refine ⟨h.ofl,h.fl,?_,?_,h.ofr,h.lb,λ k x hx=>by cases hx⟩
 ·show (img++m.firsts.drop img.length).length=m.firsts.length
  rw [List.length_append,List.length_drop]; omega
 show img.length=m.of.length; omega
section
theorem outMem_ok {mm:Mem} {x:TEntry} (h:MOk mm):MOk (outMem mm x)/\(outMem mm x).of=mm.of/\(outMem mm x).firsts=mm.firsts:=by
 unfold outMem
 split
 ·exact ⟨writeM_ok h,writeM_of _ _ _,writeM_firsts _ _ _⟩
 split
 ·exact ⟨h,rfl,rfl⟩
 exact ⟨outM_ok h,outM_of _ _,outM_firsts _ _⟩
end
theorem MB.mono {mm:Mem} {a b:Nat} (h:MB mm a) (hab:a<=b):MB mm b:=λ k=>Nat.le_trans (h k) hab
theorem MB.write {mm:Mem} {c x:Int} {n:Nat} (h:MB mm n):MB (writeM mm c x) (n+1):=by
 intro k
 unfold writeM
 split
 ·dsimp only
  split
  ·unfold updF
   split
   ·rw [List.length_append,List.length_singleton]; have:=h (mm.of.getD c.toNat 0); omega
   have:=h k; omega
  have:=h k; omega
 have:=h k; omega
theorem MB.out {mm:Mem} {c:Int} {n:Nat} (h:MB mm n):MB (outM mm c) n:=by
 intro k
 unfold outM
 split
 ·dsimp only
  unfold updF
  split
  ·simp
  exact h k
 exact h k
theorem MB.outMem {mm:Mem} {x:TEntry} {n:Nat} (h:MB mm n):MB (outMem mm x) (n+1):=by
 unfold Go.Proofs.YtfkgkbhbdffckaaGreatDoor.outMem
 split
 ·exact h.write
 split
 ·exact h.mono (Nat.le_succ n)
 exact h.out.mono (Nat.le_succ n)
theorem lineG_b:∀ (ls:List (List TCell)) (i a:Int),0<=a->(∀ l∈ls,l≠[])->i<=lineF ls i a/\(∀ b,a<=b->lineF ls i a<=lineF ls i b)/\(lineF ls i (a+1)=lineF ls i a\/lineF ls i (a+1)=lineF ls i a+1)
 | [],i,a,ha,_=>⟨by unfold lineF; omega,λ b hb=>by unfold lineF; omega,by unfold lineF; omega⟩
 | l::r,i,a,ha,hl=>by
  have hne:0<l.length:=List.length_pos_iff.2 (hl l (List.mem_cons_self ..))
  have hr:=λ l hl2=>hl l (List.mem_cons_of_mem _ hl2)
  unfold lineF
  by_cases h1:a<l.length
  ·rw [if_pos h1]
   refine ⟨Int.le_refl _,λ b hb=>?_,?_⟩
   ·split
    ·exact Int.le_refl _
    ·have:=(lineG_b r (i+1) (b - l.length) (by omega) hr).1; omega
   ·split
    ·exact .inl rfl
    ·have e:a+1 - (l.length:Int)=0:=by omega
     rw [e]
     cases r with
     | nil=>unfold lineF; omega
     | cons l2 r2=>
      have hne2:0<l2.length:=List.length_pos_iff.2 (hr l2 (List.mem_cons_self ..))
      unfold lineF; rw [if_pos (by omega)]; exact .inr rfl
  ·rw [if_neg h1]
   obtain ⟨g1,g2,g3⟩:=lineG_b r (i+1) (a - l.length) (by omega) hr
   refine ⟨by omega,λ b hb=>?_,?_⟩
   ·rw [if_neg (by omega)]; exact g2 _ (by omega)
   ·rw [if_neg (by omega),show a+1 - (l.length:Int)=a - l.length+1 from by omega]; exact g3
section
variable {p:TProg}
theorem stays_le (p:TProg):0<=staysM p/\staysM p<=(allC p).length:=by unfold staysM allC; rw [List.length_append]; omega
theorem lineM_in {c:Int} (h:0<=c/\c<(allC p).length):lineM p c=lineF p.lines 0 c:=by unfold lineM; rw [if_neg (by omega)]
end
end Go.Proofs.YtfkgkbhbdffckaaGreatDoor
